/- Texts joined by a program of mine (pack.py): Grow. -/
import Derived.Test.YtdbekeidlppfiaaGreatDoorDenW
set_option linter.unusedVariables false
set_option linter.unusedSimpArgs false
namespace Go.Proofs.YtdbekeidlppfiaaGreatDoor.Den
open Go Go.RowKit
def xGrowT (E : TypeId) : Ans := fun l => match l with
 | [.v (.slice none 0 0), .v (.int .i64 n)] => if n = 0 then some (.v (.slice none 0 0)) else if 1 ≤ n ∧ n ≤ 1000000 then some (.own 1 E []) else none
 | _ => none
theorem xGrow_of {P : Program} (G : Glo) {f : FuncId} {E : TypeId} {z : Value} (hz : z.cells.size = 1)
  (h0 : ∀ w : World, Calls P f #[.slice none 0 0, .int .i64 0] w fun e w' => e = .returned (.slice none 0 0) ∧ w' = w)
  (h1 : ∀ (n : Nat) (w : World), 1 ≤ n → n ≤ 1000000 → Calls P f #[.slice none 0 0, .int .i64 n] w fun e w' =>
   e = .returned (.slice (some ⟨w.heap.size, 0, none⟩) 0 (grownCap w (0 + n) 0 E)) ∧ w' = w.drew.alloc (.cells (#[] ++ Builtin.zeroCells z.cells (0 + n - 0) ++ Builtin.zeroCells z.cells (grownCap w (0 + n) 0 E - (0 + n))) E)) :
  PlainOk P G f (xGrowT E) := by
 intro cargs r h c vs hcl hl ha hg hS
 unfold xGrowT at h
 split at h
 case h_2 => cases h
 rename_i n
 obtain ⟨u, v, rfl⟩ := args2 hl
 have hu := v_inv (ha 0 _ u rfl rfl)
 have hv := v_inv (ha 1 _ v rfl rfl)
 subst hu hv
 split at h
 ·rename_i e; subst e; cases h
  exact out_v (fun c => .v _) rfl ((h0 c.w).mono fun e w' ⟨he, hw⟩ => ⟨he, by rw [hw]; exact Below.refl _ _⟩)
 split at h
 case isFalse => cases h
 rename_i hn
 cases h
 obtain ⟨k, rfl⟩ := Int.eq_ofNat_of_zero_le (show 0 ≤ n by omega)
 refine (h1 k c.w (by omega) (by omega)).mono fun e w' ⟨he, hw⟩ => ?_
 have hge := grownCap_ge c.w (0 + k) 0 E
 have hcm := grownCap_le_maxLen c.w (0 + k) 0 E (by simp only [maxLen]; omega)
 have hsz : c.w.drew.heap.size = c.w.heap.size := rfl
 subst hw
 refine ⟨_, [c.w.heap.size], he, ((Below.refl _ _).drew).alloc (by rw [hsz]; omega) _, .inl (.inl (.inr ⟨1, E, [], c.w.heap.size, _, #[] ++ Builtin.zeroCells z.cells (0 + k - 0) ++ Builtin.zeroCells z.cells (grownCap c.w (0 + k) 0 E - (0 + k)), rfl, rfl, rfl, CellsOf.mk0 ?_, by simp, ?_, ?_, ⟨by simp, fun i x hx => by simp at hx⟩, rfl⟩)), by simp, fun g hg => ?_⟩
 ·show (c.w.heap.push _)[c.w.heap.size]? = _
  simp
 ·simp only [maxLen] at hcm; omega
 ·simp only [Array.size_append, size_zeroCells, hz]
  generalize grownCap c.w (0 + k) 0 E = C at *
  simp; omega
 ·simp only [List.mem_singleton] at hg
  subst hg
  show c.w.heap.size ≤ c.w.heap.size ∧ c.w.heap.size < (c.w.heap.push _).size
  simp
end Go.Proofs.YtdbekeidlppfiaaGreatDoor.Den
