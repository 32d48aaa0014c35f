/- Entries: slices.Insert. -/
import Derived.Test.YtfllhakmjookkaaEntryF
set_option linter.unusedVariables false
set_option linter.unusedSimpArgs false
namespace Go.Proofs.Ytfllhakmjookkaa
open Go Go.RowKit

/-- What the splices come to: one element is put at place i. -/
theorem put_room (P D R Y : List Value) (hR : Y.length ≤ R.length) : splice (splice (P ++ (D ++ R)) (P.length + Y.length) D) P.length Y = (P ++ (Y ++ D)) ++ R.drop Y.length := by
  have h1 : P ++ (D ++ R) = (P ++ (D ++ R).take Y.length) ++ (D ++ R).drop Y.length := by rw [List.append_assoc, List.take_append_drop]
  have h2 : P.length + Y.length = (P ++ (D ++ R).take Y.length).length := by
    rw [List.length_append, List.length_take, Nat.min_eq_left]
    rw [List.length_append]; omega
  rw [h2]
  conv => lhs; arg 1; arg 1; rw [h1]
  rw [splice_at, List.append_assoc, splice_at]
  have hl : (List.take Y.length (D ++ R)).length = Y.length := by rw [List.length_take, List.length_append, Nat.min_eq_left]; omega
  have e1 : (List.take Y.length (D ++ R) ++ (D ++ List.drop D.length (List.drop Y.length (D ++ R)))).drop Y.length = D ++ List.drop D.length (List.drop Y.length (D ++ R)) := by
    conv => lhs; arg 1; rw [← hl]
    rw [List.drop_left]
  have e2 : List.drop D.length (List.drop Y.length (D ++ R)) = R.drop Y.length := by
    rw [List.drop_drop, Nat.add_comm, ← List.drop_drop, List.drop_left]
  rw [e1, e2]
  simp only [List.append_assoc]
theorem insert0_any (v : Value) (l : List Ent) (i : Int) (w : World) (base : Nat) (h : entK.Own 72 base w v l) (h0 : 0 ≤ i) (hi : i ≤ l.length) (hl : l.length ≤ 2000) :
    Calls Try.prog 86 #[v, .int .i64 i, .slice none 0 0] w fun e w' => e = .returned v ∧ w = w' := by
  rcases Own.parts h with ⟨rfl, rfl⟩ | ⟨g, cap, cells, rest, rfl, _, hc, hcm, _⟩
  · have hi0 : i = 0 := by simp at hi; omega
    subst hi0
    clear h h0 hi hl
    go_enter Try.func86, Try.ntmps86
    go_wp2
    go_ret
    exact ⟨rfl, rfl⟩
  · generalize l.length = n at *
    have hic : i ≤ (cap : Int) := by omega
    clear h
    go_enter Try.func86, Try.ntmps86
    go_wp2
    all_goals
      go_ret
      exact ⟨rfl, rfl⟩
/-- What an insertion leaves. -/
def Put1 (w : World) (base : Nat) (v : Value) (r : List Ent) (e : Ending) (w' : World) : Prop := ∃ u, e = .returned u ∧ entK.Own 72 base w' u r ∧ w.grownBy w' v.ownBlock
theorem insert1_end (v : Value) (l : List Ent) (y : Ent) (w : World) (base : Nat) (h : entK.Own 72 base w v l) (vb : Nat) (hbox : Row w vb 72 [.string y.name, .int .i64 y.ino])
    (hyn : y.name.size ≤ maxLen) (hbase : base ≤ w.heap.size) (hl : l.length ≤ 2000) :
    Calls Try.prog 86 #[v, .int .i64 (l.length : Int), .slice (some ⟨vb, 0, none⟩) 1 1] w (Put1 w base v (l.take l.length ++ [y] ++ l.drop l.length)) := by
  rw [List.take_length, List.drop_length, List.append_nil]
  have HN := Lib.hid (fun j u (hu : ([.string y.name, .int .i64 y.ino] : List Value)[j]? = some u) => hbox.cellA 0 j u (by rw [Nat.zero_add]; exact hu))
  have HR := Lib.hid (Reps.one (R := entK.At (fun k => k < w.heap.size ∧ some k ≠ v.ownBlock) w) (size := entK.sz) (p := y) (c := [.string y.name, .int .i64 y.ino]) ⟨rfl, hyn⟩ rfl)
  have HB := Lib.hid hbase
  have HLL := Lib.hid (show (l.length + [y].length) * 24 ≤ 140737488355328 by simp; omega)
  have HO := Lib.hid h
  rcases Own.parts h with ⟨rfl, rfl⟩ | ⟨g, cap, cells, rest, rfl, _, hc, hcm, _⟩
  · clear h hbox hyn hbase hl
    go_enter Try.func86, Try.ntmps86
    go_wp2_with (at_builtin; refine wp_append entK base rfl _ _ 41 72 _ 24 rfl Try.underlying41 infoEn rfl (by decide) (by decide) _ [] rfl HO.out _ _ [y] [.string y.name, .int .i64 y.ino] rfl HR.out HN.out HB.out HLL.out ?_; intro v1 w1 hown hg hat)
    have HG := Lib.hid hg
    have HO1 := Lib.hid hown
    clear hown hg hat
    go_wp2
    go_ret
    exact ⟨_, rfl, HO1.out, HG.out⟩
  · have hln : (l.length : Int) ≤ (cap : Int) := by omega
    clear h hbox hyn hbase
    clear hc hcm
    go_enter Try.func86, Try.ntmps86
    go_wp2_with (at_builtin; refine wp_append entK base rfl _ _ 41 72 _ 24 rfl Try.underlying41 infoEn rfl (by decide) (by decide) _ l rfl HO.out _ _ [y] [.string y.name, .int .i64 y.ino] rfl HR.out HN.out HB.out HLL.out ?_; intro v1 w1 hown hg hat; have HG := Lib.hid hg; have HO1 := Lib.hid hown; clear hown hg hat)
    all_goals
      go_wp2
      go_ret
      exact ⟨_, rfl, HO1.out, HG.out⟩
end Go.Proofs.Ytfllhakmjookkaa
