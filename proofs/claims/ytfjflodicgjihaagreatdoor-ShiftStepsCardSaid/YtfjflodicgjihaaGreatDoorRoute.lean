/- Ranges over a function: strings.SplitSeq at one slash; the parts of a path. -/
import Derived.RangeFuncNested
import Derived.RangeFuncBound
import Derived.RangeFuncCalls
import Derived.RangeFuncLeaves
import Derived.RangeFuncBox
import Derived.Shelf.Abstract
import Derived.Shelf.RegionOpen
import Derived.WalkKit
import Derived.OwnWalkIn
import Derived.TacticsInMore
import Derived.LoopNIn
import Derived.LoopIn
import Derived.Maps.AppendAt
import Derived.Lib.IndexLaws
import Derived.Test.YtfjflodicgjihaaGreatDoorShelf
import Derived.Test.YtfjflodicgjihaaGreatDoorRangeT
set_option linter.unusedVariables false
set_option linter.unusedSimpArgs false
namespace Go.Proofs.YtfjflodicgjihaaGreatDoor.Den
open Go Go.RowKit Go.Shelf

attribute [local go_sem] Oper.semAt_some

/-! ### pieces between slashes -/
def pieces : List UInt8 → List (List UInt8)
  | [] => [[]]
  | c :: l => if c = 47 then [] :: pieces l else match pieces l with
    | x :: t => (c :: x) :: t
    | [] => [[c]]
theorem pieces_none : ∀ {l : List UInt8}, (∀ k : Nat, l[k]? ≠ some 47) → pieces l = [l]
  | [], _ => rfl
  | c :: l, h => by
    have hc : c ≠ 47 := fun e => h 0 (by simp [e])
    have ih := pieces_none (l := l) fun k => by simpa using h (k + 1)
    simp only [pieces, if_neg hc, ih]
theorem pieces_some : ∀ {l : List UInt8} {o : Nat}, l[o]? = some 47 → (∀ k : Nat, k < o → l[k]? ≠ some 47) → pieces l = l.take o :: pieces (l.drop (o + 1))
  | [], o, h, _ => by simp at h
  | c :: l, 0, h, _ => by
    simp only [List.getElem?_cons_zero, Option.some.injEq] at h
    subst h
    simp [pieces]
  | c :: l, o + 1, h, hk => by
    have hc : c ≠ 47 := fun e => hk 0 (by omega) (by simp [e])
    have ih := pieces_some (l := l) (o := o) (by simpa using h) fun k hlt => by simpa using hk (k + 1) (by omega)
    simp only [pieces, if_neg hc, ih, List.take_succ_cons, List.drop_succ_cons]
theorem pieces_ne (l : List UInt8) : pieces l ≠ [] := by
  cases l with
  | nil => simp [pieces]
  | cons c l =>
    simp only [pieces]
    split
    · simp
    · split <;> simp

/-- The text's pieces, as texts. -/
def piecesB (s : ByteArray) : List ByteArray := (pieces s.data.toList).map fun l => ⟨⟨l⟩⟩
theorem piecesB_none {s : ByteArray} (h : Lib.indexByte s.data.toList 47 = -1) : piecesB s = [s] := by
  unfold piecesB
  rw [pieces_none (Lib.indexByte_none h)]
  rfl
theorem piecesB_some {s : ByteArray} {o : Nat} (h : Lib.indexByte s.data.toList 47 = o) : piecesB s = s.extract 0 o :: piecesB (s.extract (o + 1) s.size) := by
  obtain ⟨h1, h2⟩ := Lib.indexByte_some h
  unfold piecesB
  rw [pieces_some h1 h2, List.map_cons]
  congr 1
  · apply ByteArray.ext
    apply Array.ext'
    simp [ByteArray.data_extract, List.take_eq_take_min]
  · congr 2
    simp only [ByteArray.data_extract, Array.toList_extract, List.extract_eq_take_drop]
    rw [List.take_of_length_le]
    rw [List.length_drop, Array.length_toList]
    exact Nat.le_refl _

/-! ### strings.splitSeq's closure -/
/-- How long the text in a box is. -/
def lenAt (b : Nat) (w : World) : Nat := match w.cell? ⟨b, 0, none⟩ with
  | some (.string s) => s.size
  | _ => 0
theorem lenAt_eq {b : Nat} {w : World} {s : ByteArray} (h : w.cell? ⟨b, 0, none⟩ = some (.string s)) : lenAt b w = s.size := by
  unfold lenAt; rw [h]
theorem Boxed.of_eq {W W' : World} {B : Nat} {t : TypeId} {v : Value} (h : Boxed W B t v) (e : W'.heap[B]? = W.heap[B]?) : Boxed W' B t v := e.trans h
theorem boxed_set_other {W : World} {B C : Nat} {t : TypeId} {v u : Value} (h : Boxed W B t v) (hne : C ≠ B) : Boxed (W.setCell ⟨C, 0, none⟩ u) B t v := h.kept (grownBy_setCell' W C u) (by simpa using fun e => hne e.symm)
theorem indexByte_lt {l : List UInt8} {c : UInt8} {o : Nat} (h : Lib.indexByte l c = o) : o < l.length := (List.getElem?_eq_some_iff.1 (Lib.indexByte_some h).1).1
set_option maxRecDepth 100000 in
set_option maxHeartbeats 2000000 in
theorem splitSeq1_in (n l bs bp bv : Nat) (s : ByteArray) (J : List ByteArray → World → Prop) (Jx : World → Prop) (hs : s.size ≤ maxLen)
    (hJ : ∀ pre W v v', J pre W → Boxed W bs 9 v → J pre (W.setCell ⟨bs, 0, none⟩ v'))
    (hY : ∀ pre x more W, J pre W → piecesB s = pre ++ x :: more → (bs < W.heap.size ∧ bp < W.heap.size ∧ bv < W.heap.size) → YieldAt Fence.wide (n - 1) Tryz.prog l #[.string x] W fun e W' =>
      (W'.heap[bs]? = W.heap[bs]? ∧ W'.heap[bp]? = W.heap[bp]? ∧ W'.heap[bv]? = W.heap[bv]?) ∧ ((e = .returned (.bool true) ∧ J (pre ++ [x]) W') ∨ (e = .returned (.bool false) ∧ Jx W')))
    (W : World) (h1 : Boxed W bs 9 (.string s)) (h2 : Boxed W bp 9 (.string ⟨#[47]⟩)) (h3 : Boxed W bv 3 (.int .i64 0)) (hd1 : bs ≠ bp) (hd2 : bs ≠ bv) (h0 : J [] W) :
    CallsIn Fence.wide n Tryz.prog 291 #[.func (.yield l) #[] #[], .pointer (some ⟨bp, 0, none⟩), .pointer (some ⟨bs, 0, none⟩), .pointer (some ⟨bv, 0, none⟩)] W fun e W' => (∃ v, e = .returned v) ∧ (J (piecesB s) W' ∨ Jx W') := by
  refine callsIn_of_wp Tryz.func291 rfl trivial ?_ rfl
  simp only [Tryz.ntmps291, List.size_toArray, List.length_cons, List.length_nil, Nat.reduceAdd, Nat.reduceSub, Array.replicate_succ, Array.replicate_zero, List.push_toArray, List.append_toArray, List.nil_append, List.cons_append]
  have c2 := h2.cell
  gi_wp2
  gi_loopw [] (fun wr => ∃ (pre : List ByteArray) (r : ByteArray), r.size ≤ s.size ∧ piecesB s = pre ++ piecesB r ∧ Boxed wr bs 9 (.string r) ∧ Boxed wr bp 9 (.string ⟨#[47]⟩) ∧ Boxed wr bv 3 (.int .i64 0) ∧ J pre wr) (fun wr => lenAt bs wr)
  case atStart => exact ⟨[], s, Nat.le_refl _, rfl, h1, h2, h3, h0⟩
  case round =>
    obtain ⟨pre, r, hr, hp, b1, b2, b3, hj⟩ := hrel
    have c1 := b1.cell
    have c2 := b2.cell
    have c3 := b3.cell
    have f1 := b1.frozen
    rcases Int.lt_or_le (Lib.indexByte r.data.toList 47) 0 with hneg | hpos
    · have hi : Lib.indexByte r.data.toList 47 = -1 := by have := Lib.indexByte_ge r.data.toList 47; omega
      have hq := piecesB_none hi
      obtain ⟨fn, tmps, assign, body, hy, hR⟩ := hY pre r [] wr hj (by rw [hp, hq]) ⟨b1.lt, b2.lt, b3.lt⟩
      gi_wp2_with (refine ⟨trivial, (fun h => by cases h), ?_⟩; gi_at_call 263; refine (callsIn_wide.2 (Tryz.strings_Index_one _ _ _)).mono ?_; rintro e w' ⟨rfl, rfl⟩; rw [hi])
      refine ⟨(fun h => by cases h), hR.mono ?_⟩
      rintro e W3 ⟨_, (⟨rfl, hJ3⟩ | ⟨rfl, hJx3⟩)⟩
      · gi_wp2
        go_end0
        exact ⟨⟨_, rfl⟩, .inl (by rw [hp, hq]; exact hJ3)⟩
      · gi_wp2
        go_end0
        exact ⟨⟨_, rfl⟩, .inr hJx3⟩
    · obtain ⟨o, hi⟩ : ∃ o : Nat, Lib.indexByte r.data.toList 47 = o := ⟨_, (Int.toNat_of_nonneg hpos).symm⟩
      have hq := piecesB_some hi
      have ho : o < r.size := by have := indexByte_lt hi; simpa using this
      have hm : (o : Int) < 9223372036854775807 := by have : s.size ≤ 2 ^ 63 - 1 := hs; omega
      have w0 : wrap64 (o : Int) = o := Go.IntWalk.wrap64_in _ (by omega)
      have w1 : wrap64 ((o : Int) + 1) = o + 1 := Go.IntWalk.wrap64_in _ (by omega)
      have hle : (o : Int) ≤ (r.size : Int) := by omega
      have hle1 : (o : Int) + 1 ≤ (r.size : Int) := by omega
      obtain ⟨fn, tmps, assign, body, hy, hR⟩ := hY pre (r.extract 0 o) _ wr hj (by rw [hp, hq]) ⟨b1.lt, b2.lt, b3.lt⟩
      have hpq := hp.trans (congrArg (pre ++ ·) hq)
      clear hq hp hm hY hs
      gi_wp2_with (refine ⟨trivial, (fun h => by cases h), ?_⟩; gi_at_call 263; refine (callsIn_wide.2 (Tryz.strings_Index_one _ _ _)).mono ?_; rintro e w' ⟨rfl, rfl⟩; rw [hi])
      refine ⟨(fun h => by cases h), hR.mono ?_⟩
      rintro e W3 ⟨⟨k1, k2, k3⟩, (⟨rfl, hJ3⟩ | ⟨rfl, hJx3⟩)⟩
      · have b1' : Boxed W3 bs 9 (.string r) := k1.trans b1
        have b2' : Boxed W3 bp 9 (.string ⟨#[47]⟩) := k2.trans b2
        have b3' : Boxed W3 bv 3 (.int .i64 0) := k3.trans b3
        have c1' := b1'.cell
        have c2' := b2'.cell
        have c3' := b3'.cell
        have f1' := b1'.frozen
        gi_wp2
        go_roundw
        case rel => exact ⟨pre ++ [r.extract 0 o], r.extract (o + 1) r.size, by simp; omega, by rw [hpq]; simp, b1'.set _, boxed_set_other b2' hd1, boxed_set_other b3' hd2, hJ _ _ _ _ hJ3 b1'⟩
        case measure =>
          rw [lenAt_eq (b1'.set _).cell, lenAt_eq c1]
          simp
          omega
      · gi_wp2
        refine bodyPost_ret (results_none rfl _ _ _) rfl ?_
        exact ⟨⟨_, rfl⟩, .inr hJx3⟩
theorem splitSeq1_seq (n bs bp bv : Nat) (s : ByteArray) (hs : s.size ≤ maxLen) (W : World) (h1 : Boxed W bs 9 (.string s)) (h2 : Boxed W bp 9 (.string ⟨#[47]⟩)) (h3 : Boxed W bv 3 (.int .i64 0)) (hd1 : bs ≠ bp) (hd2 : bs ≠ bv) :
    SeqT n Tryz.prog 291 #[.pointer (some ⟨bp, 0, none⟩), .pointer (some ⟨bs, 0, none⟩), .pointer (some ⟨bv, 0, none⟩)] (fun x : ByteArray => #[.string x]) (piecesB s) (fun k => k = bs ∨ k = bp ∨ k = bv) W :=
  fun l J Jx hJ hJx hY h0 => splitSeq1_in n l bs bp bv s J Jx hs (fun pre A v v' hj _ => (hJ pre).set v' hj (.inl rfl))
    (fun pre x more A hj hS hlt => (hY pre x more A hj hS fun k hk => by rcases hk with rfl | rfl | rfl <;> first | exact hlt.1 | exact hlt.2.1 | exact hlt.2.2).mono fun e B h => ⟨⟨h.1 _ (.inl rfl), h.1 _ (.inr (.inl rfl)), h.1 _ (.inr (.inr rfl))⟩, h.2⟩) W h1 h2 h3 hd1 hd2 h0

set_option maxHeartbeats 1000000 in
theorem splitSeq_in (n : Nat) (s : ByteArray) (w : World) :
    CallsIn Fence.wide n Tryz.prog 282 #[.string s, .string ⟨#[47]⟩, .int .i64 0] w fun e w' =>
      e = .returned (.func (.func 291) #[] #[.pointer (some ⟨w.heap.size + 1, 0, none⟩), .pointer (some ⟨w.heap.size, 0, none⟩), .pointer (some ⟨w.heap.size + 1 + 1, 0, none⟩)]) ∧
      w' = ((w.alloc (.cells #[.string s] 9)).alloc (.cells #[.string ⟨#[47]⟩] 9)).alloc (.cells #[.int .i64 0] 3) := by
  refine callsIn_of_wp Tryz.func282 rfl trivial ?_ rfl
  simp only [Tryz.ntmps282, List.size_toArray, List.length_cons, List.length_nil, Nat.reduceAdd, Nat.reduceSub, Array.replicate_succ, Array.replicate_zero, List.push_toArray, List.append_toArray, List.nil_append, List.cons_append]
  gi_wp2
  go_ret
  exact ⟨rfl, rfl⟩
set_option maxHeartbeats 1000000 in
theorem SplitSeq_in (n : Nat) (s : ByteArray) (w : World) :
    CallsIn Fence.wide n Tryz.prog 269 #[.string s, .string ⟨#[47]⟩] w fun e w' =>
      e = .returned (.func (.func 291) #[] #[.pointer (some ⟨w.heap.size + 1, 0, none⟩), .pointer (some ⟨w.heap.size, 0, none⟩), .pointer (some ⟨w.heap.size + 1 + 1, 0, none⟩)]) ∧
      w' = ((w.alloc (.cells #[.string s] 9)).alloc (.cells #[.string ⟨#[47]⟩] 9)).alloc (.cells #[.int .i64 0] 3) := by
  refine callsIn_of_wp Tryz.func269 rfl trivial ?_ rfl
  simp only [Tryz.ntmps269, List.size_toArray, List.length_cons, List.length_nil, Nat.reduceAdd, Nat.reduceSub, Array.replicate_succ, Array.replicate_zero, List.push_toArray, List.append_toArray, List.nil_append, List.cons_append]
  gi_wp2_with (refine ⟨trivial, (fun h => by cases h), ?_⟩; gi_at_call 282; refine (splitSeq_in _ _ _).mono ?_; rintro e w' ⟨rfl, rfl⟩)
  go_ret
  exact ⟨rfl, rfl⟩

/-! ### the parts of a path, and where each one ends -/
def emit : Nat → List ByteArray → List (Int × ByteArray)
  | _, [] => []
  | a, x :: l => if x.size = 0 then emit (a + 1) l else ((a + x.size : Nat), x) :: emit (a + x.size + 1) l
def total : List ByteArray → Nat
  | [] => 0
  | x :: l => x.size + 1 + total l
theorem total_snoc (pre : List ByteArray) (x : ByteArray) : total (pre ++ [x]) = total pre + x.size + 1 := by
  induction pre with
  | nil => simp [total]
  | cons y l ih => simp only [List.cons_append, total, ih]; omega
theorem emit_snoc (x : ByteArray) : ∀ (pre : List ByteArray) (a : Nat), emit a (pre ++ [x]) = emit a pre ++ (if x.size = 0 then [] else [(((a + total pre + x.size : Nat) : Int), x)])
  | [], a => by simp only [List.nil_append, emit, total]; split <;> simp
  | y :: l, a => by
    simp only [List.cons_append, emit, total]
    split
    · rename_i hy
      rw [emit_snoc x l (a + 1), hy]
      congr 4
      all_goals (try omega)
    · rw [emit_snoc x l (a + y.size + 1)]
      simp only [List.cons_append]
      congr 5
      all_goals (try omega)
theorem total_pieces : ∀ l : List UInt8, total ((pieces l).map fun l => ⟨⟨l⟩⟩) = l.length + 1
  | [] => rfl
  | c :: l => by
    have ih := total_pieces l
    simp only [pieces]
    split
    · simp only [List.map_cons, total, ih, List.length_cons]
      show (0 : Nat) + 1 + _ = _
      omega
    · have hne := pieces_ne l
      split
      · rename_i x t h
        rw [h] at ih
        simp only [List.map_cons, total, List.length_cons] at ih ⊢
        have e1 : (⟨⟨c :: x⟩⟩ : ByteArray).size = x.length + 1 := rfl
        have e2 : (⟨⟨x⟩⟩ : ByteArray).size = x.length := rfl
        rw [e1]; rw [e2] at ih
        omega
      · rename_i h
        exact absurd h hne
theorem total_piecesB (s : ByteArray) : total (piecesB s) = s.size + 1 := by
  unfold piecesB
  rw [total_pieces, Array.length_toList]
  rfl
theorem total_le {s : ByteArray} {pre more : List ByteArray} {x : ByteArray} (h : piecesB s = pre ++ x :: more) : total pre + x.size ≤ s.size := by
  have h1 := total_piecesB s
  rw [h] at h1
  have : ∀ (a b : List ByteArray), total (a ++ b) = total a + total b := by
    intro a b
    induction a with
    | nil => simp [total]
    | cons y l ih => simp only [List.cons_append, total, ih]; omega
  rw [this] at h1
  simp only [total] at h1
  omega
/-- The parts of a path that are not empty. -/
def partsB (s : ByteArray) : List (Int × ByteArray) := emit 0 (piecesB s)
end Go.Proofs.YtfjflodicgjihaaGreatDoor.Den
