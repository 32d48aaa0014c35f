/- Plain laws of options: what the law's functions lean on. -/
import Derived.Test.YtbidfkibpjjghaaDoorPlRefP
import Derived.Test.YtbidfkibpjjghaaDoorDenF11
set_option linter.unusedVariables false
set_option linter.unusedSimpArgs false
namespace Go.Proofs.YtbidfkibpjjghaaDoor.Den
open Go Go.RowKit

theorem ltd {i n : Nat} (h : i < n) : decide ((i : Int) < (n : Int)) = true := by simp; exact h
theorem ltf {n : Nat} : decide ((n : Int) < (n : Int)) = false := by simp
/-- A loop over a list, from i on. -/
theorem drop_at {α : Type} {l : List α} {i : Nat} {x : α} {t : List α} (h : l.drop i = x :: t) : ∃ hi : i < l.length, l[i] = x ∧ l.drop (i + 1) = t := by
  rcases Nat.lt_or_ge i l.length with h1 | h1
  · rw [List.drop_eq_getElem_cons h1] at h
    injection h with h2 h3
    exact ⟨h1, h2, h3⟩
  · rw [List.drop_eq_nil_of_le h1] at h; cases h
theorem drop_end {α : Type} {l : List α} {i : Nat} (h : l.drop i = []) (hi : i ≤ l.length) : i = l.length := by
  have := congrArg List.length h
  simp at this; omega

/-! ### lists that are compared, or copied -/
theorem its_loop (l : List FlagD) (hl : l.length ≤ 1000000) : ∀ (t : List FlagD) (i : Nat) (o : List FlagD), l.drop i = t → i ≤ l.length → o.length ≤ i → iterN (law03Its_b3 l) (t.length + 1) ((i : Int), o) = some ((l.length : Int), o ++ t)
  | [], i, o, h, hi, ho => by
    obtain rfl := drop_end h hi
    refine iterN_done ?_
    simp only [law03Its_b3, ltf, cond_false, List.append_nil]
  | x :: t, i, o, h, hi, ho => by
    obtain ⟨hlt, hx, ht⟩ := drop_at h
    refine iterN_step (a' := (((i + 1 : Nat) : Int), o ++ [x])) ?_ ?_
    · simp only [law03Its_b3, ltd hlt, cond_true, gt_nat hlt, hx, Option.bind_some, grd_pos (room24 (n := o.length + 1) (by omega)), w64_succ (i := i) (by omega)]
    · refine (its_loop l hl t (i + 1) (o ++ [x]) ht hlt (by simp; omega)).trans ?_; simp
theorem its_eq (l : List FlagD) (hl : l.length ≤ 1000000) : law03Its l = some l := by
  unfold law03Its
  have h := iterN_LF (its_loop l hl l 0 [] rfl (Nat.zero_le _) (Nat.le_refl _)) (by omega)
  rw [show ((0 : Nat) : Int) = (0 : Int) from rfl] at h
  rw [h]; rfl
theorem same_loop (l : List FlagD) (hl : l.length ≤ 1000000) : ∀ (t : List FlagD) (i : Nat), l.drop i = t → i ≤ l.length → iterN (ref03Same_b4 l l) (t.length + 1) (i : Int) = some (.inr (l.length : Int))
  | [], i, h, hi => by
    obtain rfl := drop_end h hi
    refine iterN_done ?_
    simp only [ref03Same_b4, ltf, cond_false]
  | x :: t, i, h, hi => by
    obtain ⟨hlt, hx, ht⟩ := drop_at h
    refine iterN_step (a' := ((i + 1 : Nat) : Int)) ?_ (same_loop l hl t (i + 1) ht hlt)
    simp only [ref03Same_b4, ltd hlt, cond_true, gt_nat hlt, hx, Option.bind_some, beq_self_eq_true, seq_self, Bool.and_self, Bool.not_true, cond_false, w64_succ (i := i) (by omega)]
theorem same_self (l : List FlagD) (hl : l.length ≤ 1000000) : ref03Same l l = some true := by
  unfold ref03Same
  have e1 : ((l.length : Int) != (l.length : Int)) = false := by simp
  have h := iterN_LF (same_loop l hl l 0 rfl (Nat.zero_le _)) (by omega)
  rw [show ((0 : Nat) : Int) = (0 : Int) from rfl] at h
  rw [e1, cond_false, h]; rfl
theorem texts_loop (l : List ByteArray) (hl : l.length ≤ 1000000) : ∀ (t : List ByteArray) (i : Nat), l.drop i = t → i ≤ l.length → iterN (ref01Texts_b4 l l) (t.length + 1) (i : Int) = some (.inr (l.length : Int))
  | [], i, h, hi => by
    obtain rfl := drop_end h hi
    refine iterN_done ?_
    simp only [ref01Texts_b4, ltf, cond_false]
  | x :: t, i, h, hi => by
    obtain ⟨hlt, hx, ht⟩ := drop_at h
    refine iterN_step (a' := ((i + 1 : Nat) : Int)) ?_ (texts_loop l hl t (i + 1) ht hlt)
    simp only [ref01Texts_b4, ltd hlt, cond_true, gt_nat hlt, hx, Option.bind_some, seq_self, Bool.not_true, cond_false, w64_succ (i := i) (by omega)]
theorem texts_self (l : List ByteArray) (hl : l.length ≤ 1000000) : ref01Texts l l = some true := by
  unfold ref01Texts
  have e1 : ((l.length : Int) != (l.length : Int)) = false := by simp
  have h := iterN_LF (texts_loop l hl l 0 rfl (Nat.zero_le _)) (by omega)
  rw [show ((0 : Nat) : Int) = (0 : Int) from rfl] at h
  rw [e1, cond_false, h]; rfl
theorem long_loop (l : List ByteArray) : ∀ (k i : Nat), i + k = 60 → i ≤ l.length → (∀ (j : Nat) (a : ByteArray), j < i → l[j]? = some a → a.size ≤ 100) →
    ∃ x, iterN (law03Long_b2 l) (k + 1) (i : Int) = some x ∧ ((∃ v, x = .inl v) ∨ ((∃ v, x = .inr (.inl v)) ∧ 60 ≤ l.length) ∨ ((∃ v, x = .inr (.inr v)) ∧ ∀ a ∈ l, a.size ≤ 100))
  | k, i, hk, hi, hall => by
    rcases Nat.lt_or_ge i l.length with hlt | hge
    case inr =>
      obtain rfl : i = l.length := by omega
      refine ⟨.inr (.inr (l.length : Int)), iterN_done ?_, .inr (.inr ⟨⟨_, rfl⟩, fun a ha => ?_⟩)⟩
      · simp only [law03Long_b2, ltf, cond_false]
      · obtain ⟨j, hj, rfl⟩ := List.getElem_of_mem ha
        exact hall j _ hj (List.getElem?_eq_getElem hj)
    cases k with
    | zero =>
      obtain rfl : i = 60 := by omega
      refine ⟨.inr (.inl ((60 : Nat) : Int)), iterN_done ?_, .inr (.inl ⟨⟨_, rfl⟩, by omega⟩)⟩
      have e : decide (((60 : Nat) : Int) < (60 : Int)) = false := by decide
      simp only [law03Long_b2, ltd hlt, cond_true, e, cond_false]
    | succ k =>
      have e : decide ((i : Int) < (60 : Int)) = true := by simp; omega
      by_cases hs : (l[i]).size > 100
      · refine ⟨.inl ((i : Int), l[i]), iterN_done ?_, .inl ⟨_, rfl⟩⟩
        have e2 : decide (((l[i]).size : Int) > (100 : Int)) = true := by simp; omega
        simp only [law03Long_b2, ltd hlt, cond_true, e, gt_nat hlt, Option.bind_some, e2]
      · have e2 : decide (((l[i]).size : Int) > (100 : Int)) = false := by simp; omega
        obtain ⟨x, h1, h2⟩ := long_loop l k (i + 1) (by omega) hlt (fun j a hj ha => by
          rcases Nat.lt_or_ge j i with h | h
          · exact hall j a h ha
          · obtain rfl : j = i := by omega
            rw [List.getElem?_eq_getElem hlt] at ha
            cases ha; omega)
        refine ⟨x, iterN_step (a' := ((i + 1 : Nat) : Int)) ?_ h1, h2⟩
        simp only [law03Long_b2, ltd hlt, cond_true, e, gt_nat hlt, Option.bind_some, e2, cond_false, w64_succ (i := i) (by omega)]
theorem long_eq (l : List ByteArray) : ∃ b, law03Long l = some b ∧ (b = false → l.length ≤ 50 ∧ ∀ a ∈ l, a.size ≤ 100) := by
  obtain ⟨x, h1, h2⟩ := long_loop l 60 0 (by omega) (Nat.zero_le _) (fun j a h => by omega)
  have h3 := iterN_LF h1 (by omega)
  rw [show ((0 : Nat) : Int) = (0 : Int) from rfl] at h3
  unfold law03Long
  rw [h3, Option.bind_some]
  rcases h2 with ⟨v, rfl⟩ | ⟨⟨v, rfl⟩, h⟩ | ⟨⟨v, rfl⟩, h⟩
  · exact ⟨true, rfl, fun h => by cases h⟩
  · refine ⟨_, rfl, fun hb => ?_⟩
    simp at hb; omega
  · refine ⟨_, rfl, fun hb => ?_⟩
    simp at hb
    exact ⟨by omega, h⟩
theorem tot_le {l : List ByteArray} {m : Nat} (h : ∀ a ∈ l, a.size ≤ m) : tot l ≤ l.length * m := by
  induction l with
  | nil => simp [tot]
  | cons a l ih =>
    have h1 := h a (by simp)
    have h2 := ih fun b hb => h b (by simp [hb])
    have : tot (a :: l) = a.size + tot l := by simp [tot]
    rw [this, List.length_cons, Nat.add_mul]; omega

/-! ### values -/
def lastV (c : Int) : ByteArray × Bool → List FlagD → ByteArray × Bool
  | d, [] => d
  | d, x :: l => lastV c (if x.letter == c then (x.value, true) else d) l
theorem lastV_snoc (c : Int) : ∀ (l : List FlagD) (d : ByteArray × Bool) (x : FlagD), lastV c d (l ++ [x]) = if x.letter == c then (x.value, true) else lastV c d l
  | [], d, x => by simp only [List.nil_append, lastV]
  | y :: l, d, x => by simp only [List.cons_append, lastV]; exact lastV_snoc c l _ x
theorem lastV_any (c : Int) : ∀ (l : List FlagD) (d : ByteArray × Bool), (lastV c d l).2 = (d.2 || l.any fun x => x.letter == c)
  | [], d => by simp [lastV]
  | x :: l, d => by
    simp only [lastV, List.any_cons]
    rw [lastV_any c l]
    cases h : (x.letter == c) <;> simp
theorem value_loop (l : List FlagD) (c : Int) (hl : l.length ≤ 1000000) : ∀ (t : List FlagD) (i : Nat) (d : ByteArray × Bool), l.drop i = t → i ≤ l.length → iterN (optionValue_b2 c l (l.length : Int)) (t.length + 1) (d.1, d.2, (i : Int)) = some ((lastV c d t).1, (lastV c d t).2, (l.length : Int))
  | [], i, d, h, hi => by
    obtain rfl := drop_end h hi
    refine iterN_done ?_
    simp only [optionValue_b2, ltf, cond_false, lastV]
  | x :: t, i, d, h, hi => by
    obtain ⟨hlt, hx, ht⟩ := drop_at h
    have ih := value_loop l c hl t (i + 1) (if x.letter == c then (x.value, true) else d) ht hlt
    refine iterN_step (a' := ((if x.letter == c then (x.value, true) else d).1, (if x.letter == c then (x.value, true) else d).2, ((i + 1 : Nat) : Int))) ?_ ih
    simp only [optionValue_b2, ltd hlt, cond_true, gt_nat hlt, hx, Option.bind_some, w64_succ (i := i) (by omega)]
    cases h : (x.letter == c) <;> rfl
theorem optionValue_eq (l : List FlagD) (c : Int) (hl : l.length ≤ 1000000) : optionValue l c = some (lastV c (bs [], false) l) := by
  unfold optionValue
  have h := iterN_LF (value_loop l c hl l 0 (bs [], false) rfl (Nat.zero_le _)) (by omega)
  rw [show ((0 : Nat) : Int) = (0 : Int) from rfl] at h
  rw [h]; rfl
theorem rvalue_loop (l : List FlagD) (c : Int) (hl : l.length ≤ 1000000) : ∀ (i : Nat), i ≤ l.length → ∃ x, iterN (ref03Value_b2 l c) (i + 1) ((i : Int) - 1) = some x ∧
    (match x with | .inl (v, y, z) => (z.value, true) | .inr v => (bs [], false)) = lastV c (bs [], false) (l.take i)
  | 0, hi => ⟨.inr (((0 : Nat) : Int) - 1), iterN_done rfl, rfl⟩
  | i + 1, hi => by
    have hlt : i < l.length := by omega
    have e0 : (((i + 1 : Nat) : Int) - 1) = (i : Int) := by omega
    have e1 : decide ((i : Int) ≥ (0 : Int)) = true := by simp
    rw [e0, List.take_succ_eq_append_getElem hlt, lastV_snoc]
    cases h : (l[i].letter == c) with
    | true =>
      refine ⟨.inl ((i : Int), l[i], l[i]), iterN_done ?_, rfl⟩
      simp only [ref03Value_b2, e1, cond_true, gt_nat hlt, Option.bind_some, h]
    | false =>
      obtain ⟨x, h1, h2⟩ := rvalue_loop l c hl i (by omega)
      refine ⟨x, iterN_step (a' := (i : Int) - 1) ?_ h1, by rw [h2]; rfl⟩
      have e2 : w64 ((i : Int) - 1) = (i : Int) - 1 := w64_eq (by omega) (by omega)
      simp only [ref03Value_b2, e1, cond_true, gt_nat hlt, Option.bind_some, h, cond_false, e2]
theorem ref03Value_eq (l : List FlagD) (c : Int) (hl : l.length ≤ 1000000) : ref03Value l c = some (lastV c (bs [], false) l) := by
  unfold ref03Value
  obtain ⟨x, h1, h2⟩ := rvalue_loop l c hl l.length (Nat.le_refl _)
  rw [List.take_length] at h2
  have h3 := iterN_LF h1 (by omega)
  have e : w64 ((l.length : Int) - 1) = (l.length : Int) - 1 := w64_eq (by omega) (by omega)
  rw [e, h3, Option.bind_some, ← h2]
  rcases x with ⟨v, y, z⟩ | v <;> rfl
theorem ref03Has_eq (l : List FlagD) (c : Int) (hl : l.length ≤ 1000000) : ref03Has l c = some (l.any fun x => x.letter == c) := by
  unfold ref03Has
  rw [ref03Value_eq l c hl, Option.bind_some]
  show some (lastV c (bs [], false) l).2 = _
  rw [lastV_any]; rfl
theorem has_loop (l : List FlagD) (c : Int) (hl : l.length ≤ 1000000) : ∀ (t : List FlagD) (i : Nat), l.drop i = t → i ≤ l.length → ∃ x, iterN (slicesIndexFunc_b2 l (l.length : Int)) (t.length + 1) ((i : Int), c) = some x ∧
    (match x with | .inl (v, _, _, _, r) => (if t.any (fun x => x.letter == c) then 0 ≤ v else False) | .inr _ => (t.any (fun x => x.letter == c)) = false)
  | [], i, h, hi => by
    obtain rfl := drop_end h hi
    refine ⟨.inr ((l.length : Int), c), iterN_done ?_, rfl⟩
    simp only [slicesIndexFunc_b2, ltf, cond_false]
  | x :: t, i, h, hi => by
    obtain ⟨hlt, hx, ht⟩ := drop_at h
    have e1 : optionHas1 x.letter x.value c = some ((x.letter == c), c) := rfl
    cases hb : (x.letter == c) with
    | true =>
      rw [hb] at e1
      refine ⟨.inl ((i : Int), c, x, true, c), iterN_done ?_, ?_⟩
      · simp only [slicesIndexFunc_b2, ltd hlt, cond_true, gt_nat hlt, hx, Option.bind_some, e1]
      · simp [hb]
    | false =>
      rw [hb] at e1
      obtain ⟨z, h1, h2⟩ := has_loop l c hl t (i + 1) ht hlt
      refine ⟨z, iterN_step (a' := (((i + 1 : Nat) : Int), c)) ?_ h1, ?_⟩
      · simp only [slicesIndexFunc_b2, ltd hlt, cond_true, gt_nat hlt, hx, Option.bind_some, e1, cond_false, w64_succ (i := i) (by omega)]
      · rcases z with ⟨v, y, w, q, r⟩ | v <;> simp only [List.any_cons, hb, Bool.false_or] <;> exact h2
theorem optionHas_eq (l : List FlagD) (c : Int) (hl : l.length ≤ 1000000) : optionHas l c = some (l.any fun x => x.letter == c) := by
  obtain ⟨x, h1, h2⟩ := has_loop l c hl l 0 rfl (Nat.zero_le _)
  have h3 := iterN_LF h1 (by omega)
  rw [show ((0 : Nat) : Int) = (0 : Int) from rfl] at h3
  unfold optionHas slicesContainsFunc slicesIndexFunc
  rw [h3]
  rcases x with ⟨v, y, w, q, r⟩ | ⟨v, y⟩
  · simp only at h2
    split at h2
    · rename_i hany
      rw [hany]
      have : decide (v ≥ (0 : Int)) = true := decide_eq_true h2
      simp only [Option.bind_some, this]
    · exact h2.elim
  · simp only at h2
    rw [h2]; rfl
end Go.Proofs.YtbidfkibpjjghaaDoor.Den
