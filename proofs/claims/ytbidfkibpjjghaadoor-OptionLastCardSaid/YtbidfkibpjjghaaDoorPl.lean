/- Plain laws of steps that are taken again and again. -/
import Derived.Test.YtbidfkibpjjghaaDoorDenV
set_option linter.unusedVariables false
set_option linter.unusedSimpArgs false
namespace Go.Proofs.YtbidfkibpjjghaaDoor.Den
open Go Go.RowKit

theorem iter_inv {α β : Type} {f : α → Option (α ⊕ β)} (I : Nat → α → Prop) (N : Nat) (R : β → Prop)
    (step : ∀ i a, i < N → I i a → (∃ a', f a = some (.inl a') ∧ I (i + 1) a') ∨ ∃ b, f a = some (.inr b) ∧ R b) (last : ∀ a, I N a → ∃ b, f a = some (.inr b) ∧ R b) {fuel : Nat} (hf : N < fuel) {a : α} (h0 : I 0 a) : ∃ b, iterN f fuel a = some b ∧ R b := by
  have key : ∀ d i fuel a, i + d = N → d < fuel → I i a → ∃ b, iterN f fuel a = some b ∧ R b := by
    intro d
    induction d with
    | zero =>
      intro i fuel a hi hl hI
      obtain rfl : i = N := by omega
      obtain ⟨k, rfl⟩ : ∃ k, fuel = k + 1 := ⟨fuel - 1, by omega⟩
      obtain ⟨b, h1, h2⟩ := last a hI
      exact ⟨b, by simp only [iterN, h1], h2⟩
    | succ d ih =>
      intro i fuel a hi hl hI
      obtain ⟨k, rfl⟩ : ∃ k, fuel = k + 1 := ⟨fuel - 1, by omega⟩
      rcases step i a (by omega) hI with ⟨a', h1, h2⟩ | ⟨b, h1, h2⟩
      · obtain ⟨b, g1, g2⟩ := ih (i + 1) k a' (by omega) (by omega) h2
        exact ⟨b, by simp only [iterN, h1]; exact g1, g2⟩
      · exact ⟨b, by simp only [iterN, h1], h2⟩
  exact key N 0 fuel a (by omega) hf h0
/-- The same, where the answer is known. -/
theorem iter_eq {α β : Type} {f : α → Option (α ⊕ β)} (I : Nat → α → Prop) (N : Nat) (r : β)
    (step : ∀ i a, i < N → I i a → (∃ a', f a = some (.inl a') ∧ I (i + 1) a') ∨ f a = some (.inr r)) (last : ∀ a, I N a → f a = some (.inr r)) {fuel : Nat} (hf : N < fuel) {a : α} (h0 : I 0 a) : iterN f fuel a = some r := by
  obtain ⟨b, h1, rfl⟩ := iter_inv I N (fun b => b = r) (fun i a hi ha => (step i a hi ha).imp id fun h => ⟨r, h, rfl⟩) (fun a ha => ⟨r, last a ha, rfl⟩) hf h0
  exact h1
theorem gt_nat {α : Type} {l : List α} {i : Nat} (h : i < l.length) : gt l (i : Int) = some l[i] := by
  unfold gt
  rw [if_pos (by omega), Int.toNat_natCast, List.getElem?_eq_getElem h]
theorem lt_LF {n : Nat} (h : n ≤ 1000000000) : n < LF := by unfold LF; omega
theorem w64_eq {a : Int} (h1 : -9223372036854775808 ≤ a) (h2 : a ≤ 9223372036854775807) : w64 a = a := wrap_i64 h1 h2
theorem w64_succ {i : Nat} (h : i ≤ 1000000000) : w64 ((i : Int) + 1) = ((i + 1 : Nat) : Int) := by rw [w64_eq (by omega) (by omega)]; omega
theorem seq_self (a : ByteArray) : seq a a = true := by simp [seq]
theorem grd_pos {α : Type} {p : Prop} [Decidable p] {x : Option α} (h : p) : grd p x = x := by unfold grd; rw [if_pos h]
theorem take_cons {α : Type} {l : List α} {i : Nat} (hi : i < l.length) {z : α} {t : List α} (h : l.take i = z :: t) : l.take (i + 1) = (z :: t) ++ [l[i]] := by rw [← h, List.take_succ_eq_append_getElem hi]
theorem take_nil {α : Type} {l : List α} {i : Nat} (hi : i < l.length) (h : l.take i = []) : i = 0 := by
  have := congrArg List.length h
  simp at this
  rcases this with h | h
  · exact h
  · rw [h] at hi; simp at hi
theorem u8_le {a : Int} (h : (Lit.int .u8 a).wf = true) : 0 ≤ a ∧ a ≤ 255 := by
  simp only [Lit.wf, Bool.and_eq_true, decide_eq_true_eq] at h
  have h1 : IntKind.u8.min = 0 := rfl
  have h2 : IntKind.u8.max = 255 := rfl
  omega
end Go.Proofs.YtbidfkibpjjghaaDoor.Den
