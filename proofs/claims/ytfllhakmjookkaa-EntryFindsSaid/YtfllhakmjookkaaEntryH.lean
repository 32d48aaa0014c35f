/- Entries: slices.Insert of one element, not at the end. -/
import Derived.Test.YtfllhakmjookkaaEntryG
set_option linter.unusedVariables false
set_option linter.unusedSimpArgs false
namespace Go.Proofs.Ytfllhakmjookkaa
open Go Go.RowKit

theorem szE : (Try.prog.info? 72).map (·.size) = some 2 := by kernel_rfl
theorem Row.shape {w : World} {g e cur} (h : Row w g e cur) : w.shape? g = some (e, cur.length) := by simp [World.shape?, h.out]
theorem Row.frozen {w : World} {g e cur} (h : Row w g e cur) (o : Nat) : w.frozen? ⟨g, o, none⟩ = false := by simp [World.frozen?, h.out]
/-- A list's cells, parted at a place. -/
theorem parts_at {α : Type} {R : α → List Value → Prop} {l : List α} {cells : List Value} (h : Reps R 2 l cells) (k : Nat) (hk : k ≤ l.length) :
    ∃ A D, cells = A ++ D ∧ A.length = k * 2 ∧ D.length = (l.length - k) * 2 ∧ Reps R 2 (l.take k) A ∧ Reps R 2 (l.drop k) D := by
  have hl := h.1
  refine ⟨cells.take (k * 2), cells.drop (k * 2), (List.take_append_drop _ _).symm, by rw [List.length_take]; omega, by rw [List.length_drop]; omega, ?_, ?_⟩
  · have := Reps.sub h 0 k (by omega)
    simpa using this
  · have := Reps.sub h k (l.length - k) (by omega)
    rw [List.take_of_length_le (by rw [List.length_drop]; exact Nat.le_refl _), List.take_of_length_le (by rw [List.length_drop]; omega)] at this
    exact this
theorem cells_one {S : Nat → Prop} {w : World} {l : List Ent} {cells : List Value} (h : Reps (entK.At S w) 2 l cells) : ∀ v ∈ cells, v.oneCell' = true := by
  intro u hu
  obtain ⟨j, hj⟩ := List.mem_iff_getElem?.1 hu
  obtain ⟨hjl, _⟩ := List.getElem?_eq_some_iff.1 hj
  rw [h.1] at hjl
  have hq : j / 2 < l.length := by omega
  refine entK.one (h.2 _ _ (List.getElem?_eq_getElem hq)) u ?_
  refine List.mem_iff_getElem?.2 ⟨j % 2, ?_⟩
  rw [List.getElem?_take, if_pos (Nat.mod_lt _ (by decide)), List.getElem?_drop, show j / 2 * 2 + j % 2 = j by omega]
  exact hj
theorem room_done {w w2 : World} {base g cap k n : Nat} {l : List Ent} {y : Ent} {A D R2 : List Value} (hgb : base ≤ g) (hc : n < cap) (hcm : cap ≤ 9223372036854775807)
    (h2 : Row w2 g 72 (A ++ ([.string y.name, .int .i64 y.ino] ++ D) ++ R2)) (hR2 : R2.length = (cap - (l.length + 1)) * 2) (hAD : A.length = k * 2 ∧ D.length = (l.length - k) * 2) (hn : l.length = n) (hk : k < l.length) (hyn : y.name.size ≤ maxLen)
    (hr : Reps (entK.At (fun k => k < w.heap.size ∧ some k ≠ some g) w) 2 (l.take k) A ∧ Reps (entK.At (fun k => k < w.heap.size ∧ some k ≠ some g) w) 2 (l.drop k) D) (hg : w.grownBy w2 (some g)) :
    Put1 w base (.slice (some ⟨g, 0, none⟩) n cap) (l.take k ++ y :: l.drop k) (.returned (.slice (some ⟨g, 0, none⟩) (n + 1) cap)) w2 := by
  have hlen : (l.take k ++ y :: l.drop k).length = n + 1 := by simp; omega
  refine ⟨_, rfl, ?_, hg⟩
  have up : ∀ (l : List Ent) (cells : List Value), Reps (entK.At (fun k => k < w.heap.size ∧ some k ≠ some g) w) 2 l cells → Reps (entK.At (fun k => k < w2.heap.size ∧ some k ≠ some g) w2) 2 l cells := fun l cells h =>
    h.imp fun p c hp => entK.mono (fun k hk => ⟨Nat.lt_of_lt_of_le hk.1 hg.size, hk.2⟩) (entK.keep (Agree.grown hg) hp)
  have hone : Reps (entK.At (fun k => k < w2.heap.size ∧ some k ≠ some g) w2) 2 [y] [.string y.name, .int .i64 y.ino] := Reps.one (R := entK.At _ w2) ⟨rfl, hyn⟩ rfl
  have hall := (up _ _ hr.1).append (hone.append (up _ _ hr.2))
  have hO := Own.close (d := entK) (xs := l.take k ++ ([y] ++ l.drop k)) (cap := cap) h2 hgb (by simp; omega) hcm (by rw [hR2, List.length_append, List.length_append, hAD.1, hAD.2]; show _ = cap * 2; simp; omega) hall
  have e : (l.take k ++ ([y] ++ l.drop k)) = l.take k ++ y :: l.drop k := by simp
  rw [e, hlen] at hO
  exact hO
set_option maxRecDepth 100000 in
set_option maxHeartbeats 1000000 in
theorem insert1_room (v : Value) (l : List Ent) (y : Ent) (k : Nat) (w : World) (base : Nat) (vb : Nat) (hbox : Row w vb 72 [.string y.name, .int .i64 y.ino]) (hvb : vb < base)
    (hyn : y.name.size ≤ maxLen) (hbase : base ≤ w.heap.size) (hl : l.length ≤ 2000) (hk : k < l.length)
    (g cap : Nat) (cells rest : List Value) (hgb : base ≤ g) (hc : l.length < cap) (hcm : cap ≤ 9223372036854775807) (hrow : Row w g 72 (cells ++ rest)) (hrl : rest.length = (cap - l.length) * 2)
    (hr : Reps (entK.At (fun k => k < w.heap.size ∧ some k ≠ some g) w) 2 l cells) :
    Calls Try.prog 86 #[.slice (some ⟨g, 0, none⟩) l.length cap, .int .i64 (k : Int), .slice (some ⟨vb, 0, none⟩) 1 1] w (Put1 w base (.slice (some ⟨g, 0, none⟩) l.length cap) (l.take k ++ y :: l.drop k)) := by
  obtain ⟨A, D, rfl, hA, hD, hRA, hRD⟩ := parts_at hr k (Nat.le_of_lt hk)
  have hov : ∀ la ca lb cb o1, (callFunc 87 #[.slice (some ⟨vb, 0, none⟩) la ca, .slice (some ⟨g, o1, none⟩) lb cb]).run Try.prog w = .ok (.value (.bool false)) w := by
    intro la ca lb cb o1
    rw [run_callFunc_extern Try.func87 (by kernel_rfl) (by kernel_rfl) (by kernel_rfl) (e := Extern.SlicesOverlaps.overlaps #[41, 41] #[4]) (by kernel_rfl)]
    rw [Lib.run_overlaps_apart (P := Try.prog) w 41 4 72 Try.underlying41 2 (by intro w; go_simp) ⟨vb, 0, none⟩ ⟨g, o1, none⟩ la ca lb cb (by show vb ≠ g; omega) _ _ _ _ hbox.shape hrow.shape (by rw [List.length_append, List.length_append]; omega) (hbox.frozen 0) (hbox.frozen _)]
    rfl
  obtain ⟨R1, R2, rfl, hR1, hR2⟩ : ∃ R1 R2, rest = R1 ++ R2 ∧ R1.length = 2 ∧ R2.length = (cap - (l.length + 1)) * 2 := ⟨rest.take 2, rest.drop 2, (List.take_append_drop _ _).symm, by rw [List.length_take]; omega, by rw [List.length_drop]; omega⟩
  have hput := put_room A D (R1 ++ R2) [.string y.name, .int .i64 y.ino] (by simp; omega)
  rw [show (R1 ++ R2).drop ([.string y.name, .int .i64 y.ino] : List Value).length = R2 from by rw [show ([.string y.name, .int .i64 y.ino] : List Value).length = R1.length from hR1.symm]; exact List.drop_left] at hput
  have hone := cells_one hr
  have HROW := Lib.hid hrow
  have HPUT := Lib.hid hput
  have HD1 := Lib.hid (fun v hv => hone v (List.mem_append_right A hv))
  have HBOX := Lib.hid hbox
  have HSRC := Lib.hid (show ∀ j u, D[j]? = some u → w.cell? ((⟨g, k * 2, none⟩ : Addr).add j) = some u from fun j u hu => hrow.cellA _ _ _ (by
    rw [← hA, List.append_assoc, List.getElem?_append_right (by omega), Nat.add_sub_cancel_left]
    rw [List.getElem?_append_left (List.getElem?_eq_some_iff.1 hu).1]; exact hu))
  obtain ⟨n, hn⟩ : ∃ n, l.length = n := ⟨_, rfl⟩
  rw [hn] at hk hl hD hc hR2 ⊢
  have HLN := Lib.hid hn
  have HRES := Lib.hid (And.intro hRA hRD)
  have HR2 := Lib.hid (And.intro hR2 (And.intro hR1 (And.intro hA hD)))
  clear hn hput hbox hrow hr hone hRA hRD hrl hR2 hA hD hR1
  have hw1 : IntKind.i64.wrap ((k : Int) + 1) = (k : Int) + 1 := by rw [IntKind.wrap_i64]; omega
  have hw2 : IntKind.i64.wrap ((n : Int) + 1) = (n : Int) + 1 := by rw [IntKind.wrap_i64]; omega
  have hne : ¬ ((k : Int) = (n : Int)) := by omega
  go_enter Try.func86, Try.ntmps86
  have hg0 : (0 : Int) ≤ (k : Int) + 1 := by omega
  have hkn1 : (k : Int) ≤ (n : Int) + 1 := by omega
  have hkn : k ≤ n := by omega
  have hck : ¬ (cap = k + 1) := by omega
  have hck0 : ¬ (cap = k) := by omega
  have htn : ((k : Int) + 1).toNat = k + 1 := by omega
  go_wp2_with fail
  go_region_law (refine step_copy_row rfl _ _ 41 41 rfl 72 2 Try.underlying41 szE g ((k + 1) * 2) (n - k) (cap - (k + 1)) ⟨g, k * 2, none⟩ (n + 1 - k) (cap - k) (by simp [Act.eval, Act.put]) (by simp [Act.eval, Act.put]) (A ++ D ++ (R1 ++ R2)) 72 HROW.out.drew D ?hn HSRC.out ?hf HD1.out ?_; (case hn => rw [HR2.out.2.2.2, show Nat.min (n + 1 - k) (n - k) = n - k from Nat.min_eq_right (by omega)]); (case hf => simp [HR2.out.2.2.2, HR2.out.2.2.1, HR2.out.2.1]; omega); intro w1 HW1 HG1)
  have HB1 := Lib.hid (show Row w1 vb 72 [.string y.name, .int .i64 y.ino] from (HBOX.out.drew).kept HG1.out (by simp; omega))
  have HG1' := Lib.hid (grownBy_trans' (grownBy_drew w (some g)) HG1.out)
  clear HG1
  go_wp2_with (show wpList _ _ _ ({ dst := _, op := .call { callee := .builtin .copy, args := _, argTypes := _ }, type := _, pos := _, after := _, guard := _ } :: _) _ _; refine wpList_copy_row rfl _ _ 41 41 rfl 72 2 Try.underlying41 szE g (k * 2) (n + 1 - k) (cap - k) ⟨vb, 0, none⟩ 1 1 rfl rfl _ 72 HW1.out [.string y.name, .int .i64 y.ino] ?hn (fun j u hu => HB1.out.cellA 0 j u (by rw [Nat.zero_add]; exact hu)) ?hf ?ho ?_; (case hn => rw [show Nat.min 1 (n + 1 - k) = 1 from Nat.min_eq_left (by omega)]; rfl); (case hf => rw [length_splice]; (simp [HR2.out.2.2.2, HR2.out.2.2.1, HR2.out.2.1]; omega); (simp [HR2.out.2.2.2, HR2.out.2.2.1, HR2.out.2.1]; omega)); (case ho => simp [Value.oneCell']); intro w2 HW2 HG2)
  go_wp2
  go_ret
  have h2 := HW2.out
  have h3 := HPUT.out
  rw [HR2.out.2.2.1, show k * 2 + ([.string y.name, .int .i64 y.ino] : List Value).length = (k + 1) * 2 from by simp; omega, ← List.append_assoc] at h3
  rw [h3] at h2
  exact room_done hgb (by omega) hcm h2 (by rw [HR2.out.1, HLN.out]) ⟨HR2.out.2.2.1, by rw [HLN.out]; exact HR2.out.2.2.2⟩ (by rw [HLN.out]) (by rw [HLN.out]; exact hk) hyn HRES.out (grownBy_trans' HG1'.out HG2.out)

theorem splice2 {α : Type} (A Y D Z : List α) : splice (splice (A ++ Z) A.length Y) (A.length + Y.length) D = (A ++ (Y ++ D)) ++ (Z.drop Y.length).drop D.length := by
  rw [splice_at, show A ++ (Y ++ Z.drop Y.length) = (A ++ Y) ++ Z.drop Y.length by simp, ← List.length_append, splice_at]
  simp only [List.append_assoc]
theorem grow_done {w w2 : World} {base g g0 cap c k : Nat} {l : List Ent} {y : Ent} {A D R2 : List Value} (hgb : base ≤ w.heap.size) (hgw : w.heap.size ≤ g) (hc : l.length + 1 ≤ cap) (hcm : cap ≤ 9223372036854775807)
    (h2 : Row w2 g 72 (A ++ ([.string y.name, .int .i64 y.ino] ++ D) ++ R2)) (hR2 : R2.length = (cap - (l.length + 1)) * 2) (hAD : A.length = k * 2 ∧ D.length = (l.length - k) * 2) (hk : k < l.length) (hyn : y.name.size ≤ maxLen)
    (hr : Reps (entK.At (fun k => k < w.heap.size ∧ some k ≠ some g0) w) 2 (l.take k) A ∧ Reps (entK.At (fun k => k < w.heap.size ∧ some k ≠ some g0) w) 2 (l.drop k) D) (hg : w.grownBy w2 (some g0)) :
    Put1 w base (.slice (some ⟨g0, 0, none⟩) l.length c) (l.take k ++ y :: l.drop k) (.returned (.slice (some ⟨g, 0, none⟩) (l.length + 1) cap)) w2 := by
  have hlen : (l.take k ++ y :: l.drop k).length = l.length + 1 := by simp; omega
  refine ⟨_, rfl, ?_, hg⟩
  have up : ∀ (l : List Ent) (cells : List Value), Reps (entK.At (fun k => k < w.heap.size ∧ some k ≠ some g0) w) 2 l cells → Reps (entK.At (fun k => k < w2.heap.size ∧ some k ≠ some g) w2) 2 l cells := fun l cells h =>
    h.imp fun p c hp => entK.mono (fun k hk => ⟨Nat.lt_of_lt_of_le hk.1 hg.size, by simp; omega⟩) (entK.keep (Agree.grown hg) hp)
  have hone : Reps (entK.At (fun k => k < w2.heap.size ∧ some k ≠ some g) w2) 2 [y] [.string y.name, .int .i64 y.ino] := Reps.one (R := entK.At _ w2) ⟨rfl, hyn⟩ rfl
  have hall := (up _ _ hr.1).append (hone.append (up _ _ hr.2))
  have hO := Own.close (d := entK) (xs := l.take k ++ ([y] ++ l.drop k)) (cap := cap) h2 (Nat.le_trans hgb hgw) (by simp; omega) hcm (by rw [hR2, List.length_append, List.length_append, hAD.1, hAD.2]; show _ = cap * 2; simp; omega) hall
  have e : (l.take k ++ ([y] ++ l.drop k)) = l.take k ++ y :: l.drop k := by simp
  rw [e, hlen] at hO
  exact hO
set_option maxRecDepth 100000 in
set_option maxHeartbeats 1000000 in
theorem insert1_grow (l : List Ent) (y : Ent) (k : Nat) (w : World) (base : Nat) (vb : Nat) (hbox : Row w vb 72 [.string y.name, .int .i64 y.ino])
    (hyn : y.name.size ≤ maxLen) (hbase : base ≤ w.heap.size) (hl : l.length ≤ 2000) (hk : k < l.length)
    (g : Nat) (cells : List Value) (hgb : base ≤ g) (hrow : Row w g 72 cells)
    (hr : Reps (entK.At (fun k => k < w.heap.size ∧ some k ≠ some g) w) 2 l cells) :
    Calls Try.prog 86 #[.slice (some ⟨g, 0, none⟩) l.length l.length, .int .i64 (k : Int), .slice (some ⟨vb, 0, none⟩) 1 1] w (Put1 w base (.slice (some ⟨g, 0, none⟩) l.length l.length) (l.take k ++ y :: l.drop k)) := by
  obtain ⟨A, D, rfl, hA, hD, hRA, hRD⟩ := parts_at hr k (Nat.le_of_lt hk)
  have hone := cells_one hr
  have HROW := Lib.hid hrow
  have HD1 := Lib.hid (fun v hv => hone v (List.mem_append_right A hv))
  have HBOX := Lib.hid hbox
  have HSRC := Lib.hid (show ∀ j u, D[j]? = some u → w.cell? ((⟨g, k * 2, none⟩ : Addr).add j) = some u from fun j u hu => hrow.cellA _ _ _ (by
    rw [← hA, List.getElem?_append_right (by omega), Nat.add_sub_cancel_left]; exact hu))
  have HOLD := Lib.hid (show ∀ j u, A[j]? = some u → w.cell? ((⟨g, 0, none⟩ : Addr).add j) = some u from fun j u hu => hrow.cellA _ _ _ (by
    rw [Nat.zero_add, List.getElem?_append_left (List.getElem?_eq_some_iff.1 hu).1]; exact hu))
  obtain ⟨n, hn⟩ : ∃ n, l.length = n := ⟨_, rfl⟩
  rw [hn] at hk hl hD ⊢
  have HLN := Lib.hid hn
  have HRES := Lib.hid (And.intro hRA hRD)
  have HR2 := Lib.hid (And.intro hA hD)
  have HG0 := Lib.hid hrow.lt
  have HY := Lib.hid (And.intro hyn (And.intro hbase hl))
  clear hn hbox hrow hr hone hRA hRD hA hD hyn hbase hl hgb
  have hw1 : IntKind.i64.wrap ((k : Int) + 1) = (k : Int) + 1 := by have := HY.out.2.2; rw [IntKind.wrap_i64]; omega
  have hw2 : IntKind.i64.wrap ((n : Int) + 1) = (n : Int) + 1 := by have := HY.out.2.2; rw [IntKind.wrap_i64]; omega
  have hw3 : IntKind.i64.wrap ((n : Int) + 1 - (k : Int)) = ((n + 1 - k : Nat) : Int) := by have := HY.out.2.2; rw [IntKind.wrap_i64]; omega
  have hne : ¬ ((k : Int) = (n : Int)) := by omega
  have hlt : ((n : Int) < (n : Int) + 1) := by omega
  have hg0 : (0 : Int) ≤ (k : Int) + 1 := by omega
  have hkn1 : (k : Int) ≤ (n : Int) + 1 := by omega
  have hkn : k ≤ n := by omega
  have hck0 : ¬ (n = k) := by omega
  have htn : ((k : Int) + 1).toNat = k + 1 := by omega
  go_enter Try.func86, Try.ntmps86
  go_wp2_with (first | (show wpList _ _ _ ({ dst := _, op := .call { callee := .builtin .append, args := _, argTypes := _ }, type := _, pos := _, after := _, guard := _ } :: _) _ _; refine wpList_append_zeros_row rfl _ _ 41 3 72 rfl (.agg #[.string ⟨#[]⟩, .int .i64 0]) 2 24 .i64 Try.underlying41 Try.underlying3 infoEn rfl (by decide) (by decide) ⟨g, 0, none⟩ k n (n + 1 - k) .i64 rfl rfl A HR2.out.1 HOLD.out (by omega) (by omega) (by have := HY.out.2.2; omega) (n + 1) (by omega) ?_; intro w1 g1 cap1 Z1 HW1 HZ1 HG1 hg1 hcap1 hcm1; have hc1 : ¬ (cap1 = k) := (by omega); have hc2 : ¬ (cap1 = k + 1) := (by omega); have HB1 := Lib.hid (show Row w1 vb 72 [.string y.name, .int .i64 y.ino] from (HBOX.out).kept HG1.out (by simp)); have HROW1 := Lib.hid (HROW.out.kept HG1.out (by simp)); have HLT := Lib.hid (And.intro HG0.out (And.intro hg1 HBOX.out.lt))) | (show wpList _ _ _ ({ dst := _, op := .call { callee := .builtin .copy, args := _, argTypes := _ }, type := _, pos := _, after := _, guard := _ } :: _) _ _; refine wpList_copy_row rfl _ _ 41 41 rfl 72 2 Try.underlying41 szE g1 (k * 2) (n + 1 - k) (cap1 - k) ⟨vb, 0, none⟩ 1 1 rfl rfl _ 72 HW1.out [.string y.name, .int .i64 y.ino] ?hn (fun j u hu => HB1.out.cellA 0 j u (by rw [Nat.zero_add]; exact hu)) ?hf ?ho ?_; (case hn => rw [show Nat.min 1 (n + 1 - k) = 1 from Nat.min_eq_left (by omega)]; rfl); (case hf => rw [List.length_append, HR2.out.1, HZ1.out]; simp; omega); (case ho => simp [Value.oneCell']); intro w2 HW2 HG2))
  have HROW2 := Lib.hid (HROW1.out.kept HG2.out (by simp; have := HLT.out; omega))
  have HSRC2 := Lib.hid (show ∀ j u, D[j]? = some u → w2.cell? ((⟨g, k * 2, none⟩ : Addr).add j) = some u from fun j u hu => HROW2.out.cellA _ _ _ (by
    rw [← HR2.out.1, List.getElem?_append_right (by omega), Nat.add_sub_cancel_left]; exact hu))
  go_wp2
  go_region_law (refine step_copy_row rfl _ _ 41 41 rfl 72 2 Try.underlying41 szE g1 ((k + 1) * 2) (n - k) (cap1 - (k + 1)) ⟨g, k * 2, none⟩ (n - k) (n - k) (by simp [Act.eval, Act.put]) (by simp [Act.eval, Act.put]) _ 72 HW2.out.drew D ?hn HSRC2.out ?hf HD1.out ?_; (case hn => rw [HR2.out.2, show Nat.min (n - k) (n - k) = n - k from Nat.min_self _]); (case hf => rw [length_splice]; (rw [List.length_append, HR2.out.1, HR2.out.2, HZ1.out]; omega); (rw [List.length_append, HR2.out.1, HZ1.out]; simp; omega)); intro w3 HW3 HG3)
  go_wp2
  go_ret
  have h3 := HW3.out
  rw [← HR2.out.1, show (k + 1) * 2 = A.length + ([.string y.name, .int .i64 y.ino] : List Value).length by simp [HR2.out.1]; omega, splice2] at h3
  have hgg : w.grownBy w3 (some g) := grownBy_newrow (grownBy_newrow ⟨HG1.out.os, HG1.out.tape, HG1.out.output, HG1.out.size, fun i hi hr => HG1.out.block i hi (by simp)⟩ HLT.out.2.1 HG2.out) HLT.out.2.1 (grownBy_trans' (grownBy_drew w2 _) HG3.out)
  have hd := grow_done (base := base) (c := l.length) HY.out.2.1 HLT.out.2.1 (by rw [HLN.out]; exact hcap1) hcm1 h3 (by rw [List.length_drop, List.length_drop, HZ1.out, HR2.out.2, HLN.out]; simp; omega) ⟨HR2.out.1, by rw [HLN.out]; exact HR2.out.2⟩ (by rw [HLN.out]; exact hk) HY.out.1 HRES.out hgg
  rw [HLN.out] at hd
  exact hd
end Go.Proofs.Ytfllhakmjookkaa
