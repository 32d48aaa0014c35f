/- Texts joined by a program of mine (pack.py): Sten. -/
import Derived.Test.YtaenhodkpidocaaGreatDoorShelf
import Derived.Test.YtaenhodkpidocaaGreatDoorChecked
import Derived.Shelf.Strings.BuilderRune
import Derived.Lib.RuneBytes
import Derived.Lib.OthersKept
import Derived.Lib.FrozenHead2
import Derived.WalkKit
import Derived.BigCall
set_option linter.unusedVariables false
set_option linter.unusedSimpArgs false
namespace Go.Proofs.YtaenhodkpidocaaGreatDoor.Den
open Go Go.RowKit Go.Shelf
abbrev tBld : TypeId := 198
theorem sizeBld : (Tryz.prog.info? tBld).map (·.size) = some 2 := by kernel_rfl
theorem liesBld : liesAt Tryz.prog Tryz.prog.depth tBld (2 / Tryz.prog.cellsOf tBld) 0 tBld 1 = true := by kernel_rfl
theorem infoByte : (Tryz.prog.info? 5).map (fun i => (i.zero, i.size, i.bytes)) = some (some (.int .u8 0), 1, 1) := by kernel_rfl
theorem undPB : Tryz.prog.underlying 195 = some (.pointer tBld) := by kernel_rfl
theorem undUP : Tryz.prog.underlying 343 = some .unsafePointer := by kernel_rfl
theorem undBs : Tryz.prog.underlying 196 = some (.slice 5) := by kernel_rfl
theorem undSt : Tryz.prog.underlying 9 = some .string := by kernel_rfl
set_option maxHeartbeats 1000000 in
set_option maxRecDepth 100000 in
theorem bcheck_used (b : Nat) (w : World) (h0 : w.cell? ⟨b, 0, none⟩ = some (.pointer (some ⟨b, 0, none⟩))) :
  Calls Tryz.prog 198 #[.pointer (some ⟨b, 0, none⟩)] w fun e w' => e = .returned (.tuple #[]) ∧ w' = w := by
 obtain ⟨j, hj, _⟩ := Option.map_eq_some_iff.1 sizeBld
 go_enter Tryz.func198, Tryz.ntmps198
 go_wp2
 rw [Lib.run_neq_ptr_same w _ undPB hj]
 go_wp2
 go_end0
 exact ⟨rfl, rfl⟩
set_option maxHeartbeats 1000000 in
set_option maxRecDepth 100000 in
theorem bcheck_new (b : Nat) (w : World) (h0 : w.cell? ⟨b, 0, none⟩ = some (.pointer none)) (hsh : w.shape? b = some (tBld, 2)) (hfz : w.frozen? ⟨b, 0, none⟩ = false) :
  Calls Tryz.prog 198 #[.pointer (some ⟨b, 0, none⟩)] w fun e w' => e = .returned (.tuple #[]) ∧ w' = w.setCell ⟨b, 0, none⟩ (.pointer (some ⟨b, 0, none⟩)) := by
 obtain ⟨j, hj, hjs⟩ := Option.map_eq_some_iff.1 sizeBld
 go_enter Tryz.func198, Tryz.ntmps198
 go_wp2
 rw [Lib.run_to_unsafe w ⟨b, 0, none⟩ undPB undUP hj (by rw [hjs]; decide) hsh (Nat.zero_lt_succ 1)]
 simp only [Result.andThen]
 rw [Oper.upon_value]
 go_wp2
 rw [run_callFunc_extern Tryz.func263 (by kernel_rfl) (by kernel_rfl) (by kernel_rfl) (e := Extern.AbiNoEscape.same) (by kernel_rfl)]
 rw [Lib.run_noEscape]
 simp only [Result.andThen]
 rw [Oper.upon_value]
 go_wp2
 rw [Lib.run_from_unsafe w ⟨b, 0, none⟩ undUP undPB hj hsh liesBld]
 simp only [Result.andThen]
 rw [Oper.upon_value]
 go_wp2
 go_end0
 exact ⟨rfl, rfl⟩
theorem bcheck (B b : Nat) (bs : List Value) (w : World) (h : Lib.IsBuilderF tBld 5 B b bs w) :
  Calls Tryz.prog 198 #[.pointer (some ⟨b, 0, none⟩)] w fun e w' => e = .returned (.tuple #[]) ∧ (Lib.BuilderAtF tBld 5 B b (.pointer (some ⟨b, 0, none⟩)) bs w' ∧ Below B w w' ∧ Lib.OthersKept 5 (some b) w w' ∧ w'.heap.size = w.heap.size) := by
 rcases h with h | h
 ·refine (bcheck_new b w h.cell0 h.shape h.frozen0).mono ?_
  rintro e w' ⟨rfl, rfl⟩
  exact ⟨rfl, h.used _, (Below.refl B w).setCell (p := ⟨b, 0, none⟩) h.1 _, (Lib.OthersKept.refl _ _ w).setCell ⟨b, 0, none⟩ rfl _, by simp [World.setCell]⟩
 ·refine (bcheck_used b w h.cell0).mono ?_
  rintro e w' ⟨rfl, rfl⟩
  exact ⟨rfl, h, Below.refl B _, Lib.OthersKept.refl _ _ _, rfl⟩
set_option maxHeartbeats 2000000 in
set_option maxRecDepth 100000 in
theorem bwrite (B b : Nat) (bs : List Value) (s : ByteArray) (w : World) (h : Lib.IsBuilderF tBld 5 B b bs w) (hlen : bs.length + s.size ≤ 140737488355328) (hBw : B ≤ w.heap.size) :
  Calls Tryz.prog 125 #[.pointer (some ⟨b, 0, none⟩), .string s] w fun e w' => e = .returned (.tuple #[.int .i64 s.size, .nilIface]) ∧ (Lib.BuilderAtF tBld 5 B b (.pointer (some ⟨b, 0, none⟩)) (bs ++ Lib.strCells s) w' ∧ Below B w w' ∧ Lib.OthersKept 5 (some b) w w') := by
 obtain ⟨i0, hi, hz0, hz1, hz2⟩ := info_parts infoByte
 go_enter Tryz.func125, Tryz.ntmps125
 go_wp2_with (go_at_call 198; refine (bcheck B b bs _ h).mono ?_)
 rintro e w1 ⟨rfl, h1, hb1, hk1, hs1⟩
 obtain ⟨hB, v, hbk, hown, hne⟩ := h1
 have c0 : w1.cell? ⟨b, 0, none⟩ = some (.pointer (some ⟨b, 0, none⟩)) := by rw [Lib.cell_of_heap hbk]; rfl
 have c1 : w1.cell? ⟨b, 1, none⟩ = some v := by rw [Lib.cell_of_heap hbk]; rfl
 go_wp2_with (at_builtin; refine Lib.wpList_append_own_stringF _ rfl _ _ 196 9 rfl B 5 i0 undBs undSt hi hz0 hz1 hz2 _ _ _ rfl hown s rfl ?c3 ?c4 ?c5 ?_)
 case c3 => unfold maxLen; omega
 case c4 => omega
 case c5 => have := hb1.size; omega
 intro v' w2 hown' hgrow _
 have hlt : b < w1.heap.size := Lib.BuilderAtF.lt ⟨hB, v, hbk, hown, hne⟩
 have hb2 : w2.heap[b]? = some (.cells #[.pointer (some ⟨b, 0, none⟩), v] tBld (0, 0)) := by
  rw [hgrow.block b hlt (fun e => hne e.symm)]
  exact hbk
 have d0 : w2.cell? ⟨b, 0, none⟩ = some (.pointer (some ⟨b, 0, none⟩)) := by rw [Lib.cell_of_heap hb2]; rfl
 have d1 : w2.cell? ⟨b, 1, none⟩ = some v := by rw [Lib.cell_of_heap hb2]; rfl
 have f1 : w2.frozen? ⟨b, 1, none⟩ = false := Lib.frozen_of_heap hb2 1
 obtain ⟨ao, n', cap, rfl⟩ : ∃ ao n' cap, v' = .slice ao n' cap := by
  rcases hown'.2 with ⟨hv, _⟩ | ⟨g, cap, cur, fz, hv, _⟩
  ·exact ⟨_, _, _, hv⟩
  ·exact ⟨_, _, _, hv⟩
 go_wp2
 go_ret2
 refine ⟨rfl, ?_, ?_, (hk1.grown hgrow (Lib.ownsRowF_kind hown)).setCell ⟨b, 1, none⟩ rfl _⟩
 ·exact Lib.BuilderAtF.put (T := tBld) (e := 5) hB hb2 (bs' := bs ++ Lib.strCells s) (by simpa [Lib.strCells_length] using hown') (by decide)
 ·exact (hb1.grown hgrow (by have := hb1.size; omega) (fun k hk => (hown.lt k hk).1)).setCell (p := ⟨b, 1, none⟩) hB _
set_option maxHeartbeats 2000000 in
set_option maxRecDepth 100000 in
theorem bapp (B : Nat) (v : Value) (n : Nat) (xs : List Value) (r : Nat) (h1 : r ≤ 127) (w : World) (hown : w.ownsRowF B 5 1 v n xs) (hlen : n + 1 ≤ 140737488355328) (hBw : B ≤ w.heap.size) :
    Calls Tryz.prog 199 #[v, .int .i32 r] w fun e w' => ∃ v', e = .returned v' ∧ w'.ownsRowF B 5 1 v' (n + 1) (xs ++ [.int .u8 r]) ∧ ∃ o, (w.alloc o).grownBy w' v.ownBlock := by
  obtain ⟨i0, hi, hz0, hz1, hz2⟩ := info_parts infoByte
  have h0 : (0 : Int) ≤ r := by omega
  have h1' : (r : Int) ≤ 127 := by omega
  go_enter Tryz.func199, Tryz.ntmps199
  go_wp2_with (at_builtin; refine wpList_append_ownF _ rfl _ _ 196 rfl B 5 i0 (.int .u8 0) 1 1 undBs hi hz0 hz1 hz2 rfl (by decide) _ _ _ rfl (hown.alloc _) ⟨w.heap.size, 0, none⟩ 1 1 [.int .u8 r] rfl rfl ?c1 ?c2 ?c3 ?c4 ?c5 ?_)
  all_goals first
    | (intro v' w2 hown' hgrow _; go_wp2; go_ret; exact ⟨_, rfl, hown', _, hgrow⟩)
    | (unfold maxLen; omega)
    | omega
    | (simp; omega)
    | rfl
    | (intro u hu; simp at hu; subst hu; rfl)
    | (intro j u hj
       match j, hj with
       | 0, hj => simp at hj; subst hj; simp [Addr.add]
       | (j + 1), hj => simp at hj)
set_option maxHeartbeats 4000000 in
set_option maxRecDepth 100000 in
theorem brune (B b : Nat) (bs : List Value) (r : Nat) (hr : r ≤ 127) (w : World) (h : Lib.IsBuilderF tBld 5 B b bs w) (hlen : bs.length + 1 ≤ 140737488355328) (hBw : B ≤ w.heap.size) :
  Calls Tryz.prog 127 #[.pointer (some ⟨b, 0, none⟩), .int .i32 r] w fun e w' => (∃ v, e = .returned v) ∧ (Lib.BuilderAtF tBld 5 B b (.pointer (some ⟨b, 0, none⟩)) (bs ++ [.int .u8 r]) w' ∧ Below B w w' ∧ Lib.OthersKept 5 (some b) w w') := by
 go_enter Tryz.func127, Tryz.ntmps127
 go_wp2_with (go_at_call 198; refine (bcheck B b bs _ h).mono ?_)
 rintro e w1 ⟨rfl, h1, hb1, hk1, hs1⟩
 obtain ⟨hB, v, hbk, hown, hne⟩ := h1
 obtain ⟨ao, cap, rfl⟩ : ∃ ao cap, v = .slice ao bs.length cap := by
  rcases hown.2 with ⟨hv, h0⟩ | ⟨g, cap, cur, fz, hv, _⟩
  ·exact ⟨none, 0, by rw [hv, h0]⟩
  ·exact ⟨_, _, hv⟩
 have c0 : w1.cell? ⟨b, 0, none⟩ = some (.pointer (some ⟨b, 0, none⟩)) := by rw [Lib.cell_of_heap hbk]; rfl
 have c1 : w1.cell? ⟨b, 1, none⟩ = some (.slice ao bs.length cap) := by rw [Lib.cell_of_heap hbk]; rfl
 go_wp2_with (go_at_call 199; refine (bapp B _ bs.length bs r hr _ hown hlen (by have := hb1.size; omega)).mono ?_)
 rintro e w2 ⟨v', rfl, hown', o, hgrow⟩
 have hlt : b < w1.heap.size := Lib.BuilderAtF.lt ⟨hB, _, hbk, hown, hne⟩
 have hb2 : w2.heap[b]? = some (.cells #[.pointer (some ⟨b, 0, none⟩), .slice ao bs.length cap] tBld (0, 0)) := by
  rw [hgrow.block b (by simp; omega) (fun e => hne e.symm), Lib.alloc_old w1 _ b hlt]
  exact hbk
 have d0 : w2.cell? ⟨b, 0, none⟩ = some (.pointer (some ⟨b, 0, none⟩)) := by rw [Lib.cell_of_heap hb2]; rfl
 have d1 : w2.cell? ⟨b, 1, none⟩ = some (.slice ao bs.length cap) := by rw [Lib.cell_of_heap hb2]; rfl
 have f1 : w2.frozen? ⟨b, 1, none⟩ = false := Lib.frozen_of_heap hb2 1
 obtain ⟨g, cap', rfl⟩ : ∃ g cap', v' = .slice (some ⟨g, 0, none⟩) (bs.length + 1) cap' := by
  rcases hown'.2 with ⟨_, h0⟩ | ⟨g, cap', cur, fz, hv, _⟩
  ·omega
  ·exact ⟨g, cap', hv⟩
 go_wp2
 go_ret2
 refine ⟨⟨_, rfl⟩, ?_, ?_, ((hk1.alloc _).grown hgrow (Lib.ownsRowF_kind (hown.alloc _))).setCell ⟨b, 1, none⟩ rfl _⟩
 ·exact Lib.BuilderAtF.put (T := tBld) (e := 5) hB hb2 (bs' := bs ++ [.int .u8 r]) (by simpa using hown') (by decide)
 ·exact ((hb1.alloc (by have := hb1.size; omega) _).grown hgrow (by have := hb1.size; simp; omega) (fun k hk => (hown.lt k hk).1)).setCell (p := ⟨b, 1, none⟩) hB _
def lets : List UInt8 := [97, 98, 99, 100, 101, 102, 103, 104, 105, 106, 107, 108, 109, 110, 111, 112, 113, 114, 115, 116, 117, 118, 119, 120, 121, 122, 48, 49, 50, 51, 52, 53, 54, 55, 56, 57]
abbrev letB : ByteArray := ⟨⟨lets⟩⟩
def ltrI (n : Int) : Nat := (if Int.tmod n 36 < 0 then Int.tmod n 36 + 36 else Int.tmod n 36).toNat
def letV (n : Int) : UInt8 := lets.getD (ltrI n) 0
theorem tmod36 (n : Int) : -36 < Int.tmod n 36 := by
 rcases Int.le_total 0 n with h | h
 ·rw [Int.tmod_eq_emod_of_nonneg h]; omega
 ·obtain ⟨m, rfl⟩ : ∃ m, n = -m := ⟨-n, by omega⟩
  rw [Int.neg_tmod, Int.tmod_eq_emod_of_nonneg (by omega)]; omega
theorem ltrI_lt (n : Int) : ltrI n < 36 := by
 unfold ltrI
 have h1 := Int.tmod_lt_of_pos n (show (0 : Int) < 36 by decide)
 have h2 := tmod36 n
 split <;> omega
theorem let_at {i : Nat} (h : i < 36) : (letB[i]'h).toNat < 128 ∧ letB[i]'h = lets.getD i 0 := by
 have : ∀ i : Fin 36, (letB[i.1]'i.2).toNat < 128 ∧ letB[i.1]'i.2 = lets.getD i.1 0 := by decide +kernel
 exact this ⟨i, h⟩
theorem letV_le (n : Int) : (letV n).toNat ≤ 127 := by
 have h := let_at (ltrI_lt n)
 unfold letV
 rw [← h.2]
 omega
set_option maxHeartbeats 4000000 in
set_option maxRecDepth 100000 in
theorem letter_ok (n : Int) (w : World) :
  Calls Tryz.prog 128 #[.int .i64 n] w fun e w' => e = .returned (.int .i32 (letV n).toNat) ∧ Below w.heap.size w w' := by
 obtain ⟨m, hm, hm36⟩ : ∃ m : Nat, ltrI n = m ∧ m < 36 := ⟨_, rfl, ltrI_lt n⟩
 have hv : letV n = lets.getD m 0 := by unfold letV; rw [hm]
 rw [hv]
 have h1 := Int.tmod_lt_of_pos n (show (0 : Int) < 36 by decide)
 have h2 := tmod36 n
 by_cases hneg : Int.tmod n 36 < 0
 ·have hm' : Int.tmod n 36 + 36 = m := by rw [← hm]; unfold ltrI; rw [if_pos hneg]; omega
  go_enter Tryz.func128, Tryz.ntmps128
  go_wp2
  go_loopw [] (fun wr => ∃ pos : Nat, pos ≤ m ∧ wr.heap[w.heap.size]? = some (.stringIter letB pos) ∧ Below w.heap.size w wr) (fun wr => 36 - wr.iterPos w.heap.size)
  case atStart =>
   exact ⟨0, Nat.zero_le _, World.iter_heap w letB 0, (Below.refl _ w).alloc (Nat.le_refl _) _⟩
  case round =>
   obtain ⟨pos, hpm, hit, hbw⟩ := hrel
   have hp : pos < 36 := by omega
   obtain ⟨ha, hat⟩ := let_at hp
   have hnx : ∀ ty, (Instr.next (.pointer (some ⟨w.heap.size, 0, none⟩)) true ty).run Tryz.prog wr = _ := fun ty => Lib.run_next_ascii_at wr w.heap.size letB pos ty hit hp ha
   have hit2 := Lib.iterAt_heap wr w.heap.size letB pos (pos + 1) hit
   have hbw2 := Lib.below_iterAt hbw (k := w.heap.size) (Nat.le_refl _) letB (pos + 1)
   by_cases hpe : pos = m
   ·subst hpe
    go_wp2
    go_ret
    exact ⟨by simp [List.getD_eq_getElem?_getD], hbw2⟩
   ·have hne : ¬ (pos : Int) = (m : Int) := by omega
    go_wp2
    go_roundw
    case rel => exact ⟨pos + 1, by omega, hit2, hbw2⟩
    case measure =>
     simp only [World.iterPos, hit2, hit]
     omega
 ·have hm' : Int.tmod n 36 = m := by rw [← hm]; unfold ltrI; rw [if_neg hneg]; omega
  have hge : ¬ ((m : Int) < 0) := by omega
  go_enter Tryz.func128, Tryz.ntmps128
  go_wp2
  go_loopw [] (fun wr => ∃ pos : Nat, pos ≤ m ∧ wr.heap[w.heap.size]? = some (.stringIter letB pos) ∧ Below w.heap.size w wr) (fun wr => 36 - wr.iterPos w.heap.size)
  case atStart =>
   exact ⟨0, Nat.zero_le _, World.iter_heap w letB 0, (Below.refl _ w).alloc (Nat.le_refl _) _⟩
  case round =>
   obtain ⟨pos, hpm, hit, hbw⟩ := hrel
   have hp : pos < 36 := by omega
   obtain ⟨ha, hat⟩ := let_at hp
   have hnx : ∀ ty, (Instr.next (.pointer (some ⟨w.heap.size, 0, none⟩)) true ty).run Tryz.prog wr = _ := fun ty => Lib.run_next_ascii_at wr w.heap.size letB pos ty hit hp ha
   have hit2 := Lib.iterAt_heap wr w.heap.size letB pos (pos + 1) hit
   have hbw2 := Lib.below_iterAt hbw (k := w.heap.size) (Nat.le_refl _) letB (pos + 1)
   by_cases hpe : pos = m
   ·subst hpe
    go_wp2
    go_ret
    exact ⟨by simp [List.getD_eq_getElem?_getD], hbw2⟩
   ·have hne : ¬ (pos : Int) = (m : Int) := by omega
    go_wp2
    go_roundw
    case rel => exact ⟨pos + 1, by omega, hit2, hbw2⟩
    case measure =>
     simp only [World.iterPos, hit2, hit]
     omega
def stemL (t : ByteArray) : List UInt8 := Lib.trimRightB t.data.toList 88
def stemB (t : ByteArray) : ByteArray := ⟨(stemL t).toArray⟩
theorem trim_split (c : UInt8) (l : List UInt8) : ∃ n, l = Lib.trimRightB l c ++ List.replicate n c := by
 have h := List.takeWhile_append_dropWhile (p := (· == c)) (l := l.reverse)
 refine ⟨(l.reverse.takeWhile (· == c)).length, ?_⟩
 have h2 : l.reverse.takeWhile (· == c) = List.replicate (l.reverse.takeWhile (· == c)).length c := by
  refine List.eq_replicate_iff.2 ⟨rfl, fun x hx => ?_⟩
  have := (List.all_eq_true.1 (List.all_takeWhile (p := (· == c)) (l := l.reverse))) x hx
  simpa using this
 have h3 := congrArg List.reverse h
 rw [List.reverse_append, List.reverse_reverse] at h3
 unfold Lib.trimRightB
 rw [← List.reverse_replicate, ← h2]
 exact h3.symm
theorem stem_le (t : ByteArray) : (stemL t).length ≤ t.size := by
 obtain ⟨n, hn⟩ := trim_split 88 t.data.toList
 have := congrArg List.length hn
 rw [List.length_append] at this
 have e : t.data.toList.length = t.size := Array.length_toList
 unfold stemL
 omega
theorem stemB_size (t : ByteArray) : (stemB t).size = (stemL t).length := rfl
theorem ext_list (t : ByteArray) (k : Nat) : (t.extract k t.size).data.toList = t.data.toList.drop k := by
 have e : t.data.toList.length = t.size := Array.length_toList
 have h : (t.extract k t.size).data.toList = (t.data.toList.drop k).take (t.size - k) := by
  simp [ByteArray.data_extract, Array.toList_extract, List.extract]
 rw [h, List.take_of_length_le (by rw [List.length_drop]; omega)]
theorem rest_size (t : ByteArray) (k : Nat) : (t.extract k t.size).size = t.size - k := by
 have e : t.data.toList.length = t.size := Array.length_toList
 have h := congrArg List.length (ext_list t k)
 rw [List.length_drop] at h
 have e2 : (t.extract k t.size).data.toList.length = (t.extract k t.size).size := Array.length_toList
 omega
theorem rest_at (t : ByteArray) {i : Nat} (h : i < (t.extract (stemL t).length t.size).size) : ((t.extract (stemL t).length t.size)[i]'h) = 88 := by
 obtain ⟨n, hn⟩ := trim_split 88 t.data.toList
 have h1 := ext_list t (stemL t).length
 rw [show t.data.toList.drop (stemL t).length = List.replicate n 88 from (congrArg (List.drop (stemL t).length) hn).trans (by unfold stemL; exact List.drop_left)] at h1
 have h2 : (t.extract (stemL t).length t.size).data.toList[i]? = some ((t.extract (stemL t).length t.size)[i]'h) := by
  rw [Array.getElem?_toList]; exact Array.getElem?_eq_getElem h
 rw [h1, List.getElem?_replicate] at h2
 split at h2
 ·exact (Option.some.inj h2).symm
 ·cases h2
set_option maxHeartbeats 1000000 in
set_option maxRecDepth 100000 in
theorem stem_ok (t : ByteArray) (w : World) (ht : t.size ≤ 1000000000) :
  Calls Tryz.prog 126 #[.string t] w fun e w' => e = .returned (.string (stemB t)) ∧ w' = w := by
 go_enter Tryz.func126, Tryz.ntmps126
 go_wp2_with (go_at_call 72; refine (Tryz.strings_TrimRight_one t 88 (by decide) _ (by omega)).mono ?_)
 rintro e w1 ⟨rfl, rfl⟩
 go_wp2
 go_ret
 exact ⟨rfl, rfl⟩
def makeL (t : ByteArray) (ds : List Int) (n : Nat) : List UInt8 := stemL t ++ (List.range n).map fun i => letV (ds.getD i 0)
def makeV (t : ByteArray) (ds : List Int) : ByteArray := ⟨(makeL t ds (t.size - (stemL t).length)).toArray⟩
theorem makeL_len (t : ByteArray) (ds : List Int) (n : Nat) : (makeL t ds n).length = (stemL t).length + n := by simp [makeL]
theorem makeL_succ (t : ByteArray) (ds : List Int) (n : Nat) : makeL t ds (n + 1) = makeL t ds n ++ [letV (ds.getD n 0)] := by
 unfold makeL
 rw [List.range_succ, List.map_append, List.append_assoc]; rfl
theorem isB_below {T e : TypeId} {B b : Nat} {bs : List Value} {w w' : World} (h : Lib.IsBuilderF T e B b bs w) (hb : Below w.heap.size w w') : Lib.IsBuilderF T e B b bs w' := by
 have key : ∀ p, Lib.BuilderAtF T e B b p bs w → Lib.BuilderAtF T e B b p bs w' := by
  rintro p ⟨hB, v, hbk, hown, hne⟩
  exact ⟨hB, v, (hb.block b (Array.getElem?_eq_some_iff.1 hbk).1).trans hbk, hown.kept (row := none) ⟨hb.os, hb.tape, hb.output, hb.size, fun k hk _ => hb.block k hk⟩ (by
   rcases hown.2 with ⟨hv, _⟩ | ⟨g, cap, cur, fz, hv, _⟩
   ·exact .inl (by rw [hv]; rfl)
   ·exact .inr (by rw [hv]; simp [Value.ownBlock])), hne⟩
 exact h.elim (fun h => .inl (key _ h)) (fun h => .inr (key _ h))
def DrawsAt (w : World) (v : Value) (ds : List Int) : Prop := ∃ a cap, v = .slice a ds.length cap ∧ ∀ i x, ds[i]? = some x → ∃ g off, a = some ⟨g, off, none⟩ ∧ w.cell? ⟨g, off + i, none⟩ = some (.int .i64 x)
set_option maxHeartbeats 8000000 in
set_option maxRecDepth 100000 in
theorem make_ok (t : ByteArray) (v : Value) (ds : List Int) (w : World) (ht : t.size ≤ 1000000000) (hd : DrawsAt w v ds) :
  Calls Tryz.prog 65 #[.string t, v] w fun e w' => e = .returned (.string (makeV t ds)) ∧ Below w.heap.size w w' := by
 obtain ⟨a, cap, rfl, hcell⟩ := hd
 have hst := stem_le t
 have hsz := stemB_size t
 have hk0 : (0 : Int) ≤ ((stemB t).size : Int) := by omega
 have hk1 : ((stemB t).size : Int) ≤ (t.size : Int) := by omega
 have e0 : makeL t ds 0 = stemL t := by simp [makeL]
 go_enter Tryz.func65, Tryz.ntmps65
 go_wp2_with (go_at_call 126; refine (stem_ok t _ ht).mono ?_)
 rintro e w1 ⟨rfl, rfl⟩
 go_wp2_with (go_at_call 125; refine (bwrite w.heap.size w.heap.size [] (stemB t) _ (Lib.IsBuilderF.of (Lib.fresh_isBuilder _ _ w)) (by simp; omega) (by simp)).mono ?_)
 rintro e w2 ⟨rfl, h2, b2, k2⟩
 go_wp2_with (go_at_call 126; refine (stem_ok t _ ht).mono ?_)
 rintro e w3 ⟨rfl, rfl⟩
 go_wp2
 have hrs := rest_size t (stemL t).length
 have hra : ∀ i (h : i < (t.extract (stemL t).length t.size).size), ((t.extract (stemL t).length t.size)[i]'h) = 88 := fun i h => rest_at t h
 obtain ⟨R, hR⟩ : ∃ R, t.extract (stemL t).length t.size = R := ⟨_, rfl⟩
 rw [hR] at hrs hra ⊢
 clear hR
 have hw3 : w.heap.size < w3.heap.size := h2.lt
 have bw : Below w.heap.size w w3 := ((Below.refl _ w).alloc (Nat.le_refl _) _).trans b2
 go_loopw [] (fun wr => ∃ pos : Nat, pos ≤ R.size ∧ Lib.IsBuilderF tBld 5 w.heap.size w.heap.size (Lib.byteCells (makeL t ds pos)) wr ∧ wr.heap[w3.heap.size]? = some (.stringIter R pos) ∧ Below w.heap.size w wr) (fun wr => R.size - wr.iterPos w3.heap.size)
 case atStart =>
  refine ⟨0, Nat.zero_le _, ?_, World.iter_heap w3 R 0, bw.alloc (by omega) _⟩
  rw [e0]
  exact Lib.IsBuilderF.alloc (.inr h2) _
 case round =>
  obtain ⟨pos, hpR, hI, hit, hbw⟩ := hrel
  have hszr : w3.heap.size < wr.heap.size := (Array.getElem?_eq_some_iff.1 hit).1
  by_cases hp : pos < R.size
  ·have ha := hra pos hp
   have ha' : (R[pos]'hp).toNat < 128 := by rw [ha]; decide
   have hnx : ∀ ty, (Instr.next (.pointer (some ⟨w3.heap.size, 0, none⟩)) true ty).run Tryz.prog wr = _ := fun ty => Lib.run_next_ascii_at wr w3.heap.size R pos ty hit hp ha'
   have hI2 := hI.iterAt hit (pos + 1)
   have hit2 := Lib.iterAt_heap wr w3.heap.size R pos (pos + 1) hit
   have hbw2 := Lib.below_iterAt hbw (k := w3.heap.size) (by omega) R (pos + 1)
   have hsz2 : (wr.iterAt w3.heap.size R (pos + 1)).heap.size = wr.heap.size := Lib.iterAt_size _ _ _ _
   have hlen : (Lib.byteCells (makeL t ds pos)).length + 1 ≤ 140737488355328 := by rw [Lib.byteCells_length, makeL_len]; omega
   have hfin : ∀ (W1 W2 : World), Below (wr.iterAt w3.heap.size R (pos + 1)).heap.size (wr.iterAt w3.heap.size R (pos + 1)) W1 →
     Lib.BuilderAtF tBld 5 w.heap.size w.heap.size (.pointer (some ⟨w.heap.size, 0, none⟩)) (Lib.byteCells (makeL t ds pos) ++ [.int .u8 (letV (ds.getD pos 0)).toNat]) W2 → Below w.heap.size W1 W2 → Lib.OthersKept 5 (some w.heap.size) W1 W2 →
     (Lib.IsBuilderF tBld 5 w.heap.size w.heap.size (Lib.byteCells (makeL t ds (pos + 1))) W2 ∧ W2.heap[w3.heap.size]? = some (.stringIter R (pos + 1)) ∧ Below w.heap.size w W2) := by
    intro W1 W2 hB1 hB hB2 hk
    have hit3 : W1.heap[w3.heap.size]? = some (.stringIter R (pos + 1)) := (hB1.block _ (by rw [hsz2]; exact hszr)).trans hit2
    refine ⟨?_, hk.iter hit3 (by omega), (hbw2.trans (hB1.mono (by rw [hsz2]; omega))).trans hB2⟩
    rw [makeL_succ, Lib.byteCells_append]
    exact .inr hB
   by_cases hi : pos < ds.length
   ·obtain ⟨x, hx⟩ : ∃ x, ds[pos]? = some x := ⟨_, List.getElem?_eq_getElem hi⟩
    have hgd : ds.getD pos 0 = x := by rw [List.getD_eq_getElem?_getD, hx]; rfl
    obtain ⟨g, off, rfl, hc⟩ := hcell pos x hx
    have hc2 : (wr.iterAt w3.heap.size R (pos + 1)).cell? ⟨g, off + pos, none⟩ = some (.int .i64 x) := by
     have hg : g < w.heap.size := by
      rcases Nat.lt_or_ge g w.heap.size with h' | h'
      ·exact h'
      ·simp [World.cell?, Array.getElem?_eq_none h'] at hc
     exact (hbw2.cell hg).trans hc
    have hi' : (pos : Int) < (ds.length : Int) := by omega
    rw [hgd] at hfin
    go_wp2_with (go_at_call 128; refine (letter_ok x _).mono ?_)
    rintro e W1 ⟨rfl, hB1⟩
    go_wp2_with (go_at_call 127; refine (brune w.heap.size w.heap.size _ _ (letV_le x) _ (isB_below hI2 hB1) hlen (by have := hB1.size; omega)).mono ?_)
    rintro e W2 ⟨⟨v2, rfl⟩, hB, hB2, hk⟩
    obtain ⟨f1, f2, f3⟩ := hfin W1 W2 hB1 hB hB2 hk
    go_wp2
    go_roundw
    case rel => exact ⟨pos + 1, by omega, f1, f2, f3⟩
    case measure =>
     simp only [World.iterPos, f2, hit]
     omega
   ·have hgd : ds.getD pos 0 = 0 := by rw [List.getD_eq_getElem?_getD, List.getElem?_eq_none (by omega)]; rfl
    have hi' : ¬ ((pos : Int) < (ds.length : Int)) := by omega
    rw [hgd] at hfin
    go_wp2_with (go_at_call 128; refine (letter_ok 0 _).mono ?_)
    rintro e W1 rfl hB1
    replace hB1 : Below (wr.iterAt w3.heap.size R (pos + 1)).heap.size (wr.iterAt w3.heap.size R (pos + 1)) W1 := by rw [hsz2]; exact hB1
    go_wp2_with (go_at_call 127; refine (brune w.heap.size w.heap.size _ _ (letV_le 0) _ (isB_below hI2 hB1) hlen (by have := hB1.size; omega)).mono ?_)
    rintro e W2 ⟨⟨v2, rfl⟩, hB, hB2, hk⟩
    obtain ⟨f1, f2, f3⟩ := hfin W1 W2 hB1 hB hB2 hk
    go_wp2
    go_roundw
    case rel => exact ⟨pos + 1, by omega, f1, f2, f3⟩
    case measure =>
     simp only [World.iterPos, f2, hit]
     omega
  ·obtain rfl : pos = R.size := by omega
   have hnx : ∀ ty, (Instr.next (.pointer (some ⟨w3.heap.size, 0, none⟩)) true ty).run Tryz.prog wr = _ := fun ty => Lib.run_next_end_at wr w3.heap.size R R.size ty hit hp
   go_wp2_with (go_at_call 129; refine (Tryz.Builder_String_any_k w.heap.size w.heap.size _ _ hI (by omega)).mono ?_)
   rintro e W1 ⟨rfl, _, b1, _⟩
   go_wp2
   go_ret
   refine ⟨?_, hbw.trans b1⟩
   unfold makeV
   rw [← hrs]
   rfl
end Go.Proofs.YtaenhodkpidocaaGreatDoor.Den
