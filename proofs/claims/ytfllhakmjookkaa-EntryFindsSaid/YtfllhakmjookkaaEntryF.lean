/- Entries: slices.Clone, slices.Insert, slices.Replace. -/
import Derived.Test.YtfllhakmjookkaaEntryE
import Derived.Test.YtfllhakmjookkaaRaw
set_option linter.unusedVariables false
set_option linter.unusedSimpArgs false
namespace Go.Proofs.Ytfllhakmjookkaa
open Go Go.RowKit

section
variable {α : Type} {d : Kind α} {e : TypeId} {base : Nat} {w w' : World} {v : Value} {xs : List α}
theorem Own.parts (h : d.Own e base w v xs) : (v = .slice none 0 0 ∧ xs = []) ∨ ∃ g cap cells rest, v = .slice (some ⟨g, 0, none⟩) xs.length cap ∧ base ≤ g ∧ xs.length ≤ cap ∧ cap ≤ 9223372036854775807 ∧
    Row w g e (cells ++ rest) ∧ cells.length = xs.length * d.sz ∧ rest.length = (cap - xs.length) * d.sz ∧ Reps (d.At (fun k => k < w.heap.size ∧ some k ≠ some g) w) d.sz xs cells := by
  obtain ⟨cells, ho, hr⟩ := h
  rcases ho.2 with ⟨rfl, h0⟩ | ⟨g, cap, cur, rfl, hb, hg, hnc, hcm, hcs, htake⟩
  · exact Or.inl ⟨rfl, List.eq_nil_of_length_eq_zero h0⟩
  · refine Or.inr ⟨g, cap, cells, cur.toList.drop (xs.length * d.sz), rfl, hb, hnc, by simpa [maxLen] using hcm, ⟨?_⟩, hr.1, ?_, hr⟩
    · rw [← htake, List.take_append_drop]; simpa using hg
    · rw [List.length_drop, Array.length_toList, hcs, ← Nat.sub_mul]
theorem Own.close {g cap : Nat} {cells rest : List Value} (hrow : Row w g e (cells ++ rest)) (hb : base ≤ g) (hn : xs.length ≤ cap) (hc : cap ≤ 9223372036854775807) (hl : cells.length + rest.length = cap * d.sz)
    (hr : Reps (d.At (fun k => k < w.heap.size ∧ some k ≠ some g) w) d.sz xs cells) : d.Own e base w (.slice (some ⟨g, 0, none⟩) xs.length cap) xs := by
  refine ⟨cells, ⟨hr.1, Or.inr ⟨g, cap, _, rfl, hb, hrow.out, hn, by simpa [maxLen] using hc, by simpa using hl, ?_⟩⟩, hr⟩
  rw [← hr.1]; simp
end
theorem Sl.parts {α : Type} {d : Kind α} {S : Nat → Prop} {w : World} {v : Value} {xs : List α} (h : d.Sl S w v xs) : (v = .slice none 0 0 ∧ xs = []) ∨ ∃ g off cap cells, v = .slice (some ⟨g, off, none⟩) xs.length cap ∧ xs.length ≤ cap ∧ cap ≤ 9223372036854775807 ∧
    Reps (d.At S w) d.sz xs cells ∧ ∀ j u, cells[j]? = some u → w.cell? ((⟨g, off, none⟩ : Addr).add j) = some u := by
  obtain ⟨a, cap, cells, rfl, h2, h3, h4, h5, h6⟩ := h
  cases a with
  | none =>
    have := h5 rfl
    subst this
    have hx : xs = [] := List.eq_nil_of_length_eq_zero (by omega)
    subst hx
    exact Or.inl ⟨rfl, rfl⟩
  | some ad =>
    obtain ⟨g, off, rfl, _, e3⟩ := h6 _ rfl
    exact Or.inr ⟨g, off, cap, cells, rfl, h2, h3, h4, fun j u hu => by rw [Addr.add_lit]; exact e3 j u hu⟩
theorem infoEn : (Try.prog.info? 72).map (fun i => (i.zero, i.size, i.bytes)) = some (some (.agg #[.string ⟨#[]⟩, .int .i64 0]), 2, 24) := by kernel_rfl
theorem cloneE_any (l : List Ent) (v : Value) (w : World) (h : entK.Sl (Old w) w v l) (hl : l.length ≤ 2000) :
    Calls Try.prog 80 #[v] w (Made entK 72 w l) := by
  rcases Sl.parts h with ⟨rfl, rfl⟩ | ⟨g, off, cap, cells, rfl, hcap, hcm, hr, hcells⟩
  · have hz := fun a n c n' c' (W : World) => Lib.run_eql_slice_nil (P := Try.prog) W 41 72 a n c n' c' Try.underlying41
    go_enter Try.func80, Try.ntmps80
    go_wp2
    go_ret
    exact ⟨_, rfl, Own.nil _ _ _ _, Below.refl _ _⟩
  · have hz := fun a n c n' c' (W : World) => Lib.run_eql_slice_nil (P := Try.prog) W 41 72 a n c n' c' Try.underlying41
    have hr' : Reps (entK.At (fun k => k < (w.alloc (.cells #[] 72)).heap.size ∧ some k ≠ (Value.slice (some ⟨w.heap.size, 0, none⟩) 0 0).ownBlock) (w.alloc (.cells #[] 72))) entK.sz l cells :=
      hr.imp fun x cs hx => entK.mono (fun k hk => ⟨by have : k < w.heap.size := hk; simp; omega, by have : k < w.heap.size := hk; simp [Value.ownBlock]; omega⟩) (entK.keep (Agree.below (balloc w _)) hx)
    have hn' : ∀ j u, cells[j]? = some u → (w.alloc (.cells #[] 72)).cell? ((⟨g, off, none⟩ : Addr).add j) = some u := fun j u hu =>
      ((balloc w _).cell (World.block_lt_of_cell? w _ (hcells j u hu))).trans (hcells j u hu)
    have HR := Lib.hid hr'
    have HC := Lib.hid hn'
    have hbs : w.heap.size ≤ (w.alloc (.cells #[] 72)).heap.size := by simp
    have hll : (([] : List Ent).length + l.length) * 24 ≤ 140737488355328 := by simp only [List.length_nil]; omega
    have hO := Own.lit0 entK 72 w.heap.size w (Nat.le_refl _)
    have HO := Lib.hid hO
    have HBS := Lib.hid hbs
    have HLL := Lib.hid hll
    clear h hr hcells hr' hn' hbs hll hO
    go_enter Try.func80, Try.ntmps80
    go_wp2_with (at_builtin; refine wp_append entK w.heap.size rfl _ _ 41 72 _ 24 rfl Try.underlying41 infoEn rfl (by decide) (by decide) _ [] rfl HO.out _ _ l cells rfl HR.out HC.out HBS.out HLL.out ?_; intro v1 w1 hown hg hat)
    have HB := Lib.hid ((balloc w (.cells #[] 72)).grown hg HBS.out (fun k hk => (Own.row HO.out k hk).1))
    have HO1 := Lib.hid hown
    clear hown hg hat
    go_wp2
    go_ret
    exact ⟨_, rfl, HO1.out, HB.out⟩
end Go.Proofs.Ytfllhakmjookkaa
