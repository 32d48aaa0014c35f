/- Entries: the plain laws of sorted lists. -/
import Derived.Test.YtfllhakmjookkaaEntryE
set_option linter.unusedVariables false
set_option linter.unusedSimpArgs false
namespace Go.Proofs.Ytfllhakmjookkaa
open Go Go.RowKit

theorem bl_irrefl : ∀ a : List UInt8, Op.bytesLess a a = false
  | [] => rfl
  | x :: a => by
    show (decide (x < x) || (x == x && Op.bytesLess a a)) = false
    rw [bl_irrefl a]
    simp
theorem bl_trans : ∀ a b c : List UInt8, Op.bytesLess a b = true → Op.bytesLess b c = true → Op.bytesLess a c = true
  | [], [], _, h, _ => by cases h
  | [], _ :: _, [], _, h => by cases h
  | [], _ :: _, _ :: _, _, _ => rfl
  | _ :: _, [], _, h, _ => by cases h
  | _ :: _, _ :: _, [], _, h => by cases h
  | x :: a, y :: b, z :: c, h, k => by
    have h' : (decide (x < y) || (x == y && Op.bytesLess a b)) = true := h
    have k' : (decide (y < z) || (y == z && Op.bytesLess b c)) = true := k
    show (decide (x < z) || (x == z && Op.bytesLess a c)) = true
    simp only [Bool.or_eq_true, Bool.and_eq_true, decide_eq_true_eq, beq_iff_eq] at *
    rcases h' with h' | ⟨rfl, h'⟩
    · rcases k' with k' | ⟨rfl, k'⟩
      · exact Or.inl (UInt8.lt_trans h' k')
      · exact Or.inl h'
    · rcases k' with k' | ⟨rfl, k'⟩
      · exact Or.inl k'
      · exact Or.inr ⟨rfl, bl_trans a b c h' k'⟩
theorem bl_tri : ∀ a b : List UInt8, Op.bytesLess a b = false → (a == b) = false → Op.bytesLess b a = true
  | [], [], _, h => by cases h
  | [], _ :: _, h, _ => by cases h
  | _ :: _, [], _, _ => rfl
  | x :: a, y :: b, h, k => by
    have h' : (decide (x < y) || (x == y && Op.bytesLess a b)) = false := h
    show (decide (y < x) || (y == x && Op.bytesLess b a)) = true
    simp only [Bool.or_eq_false_iff, Bool.and_eq_false_iff, decide_eq_false_iff_not] at h'
    simp only [Bool.or_eq_true, Bool.and_eq_true, decide_eq_true_eq, beq_iff_eq]
    have h1 : ¬ x.toNat < y.toNat := by rw [← UInt8.lt_iff_toNat_lt]; exact h'.1
    by_cases e : x = y
    · subst e
      refine Or.inr ⟨rfl, bl_tri a b ?_ ?_⟩
      · rcases h'.2 with h2 | h2
        · simp at h2
        · exact h2
      · have k' : (x :: a == x :: b) = false := k
        simpa using k'
    · left
      rw [UInt8.lt_iff_toNat_lt]
      have : x.toNat ≠ y.toNat := fun hh => e (UInt8.toNat_inj.1 hh)
      omega
theorem name_inj {a b : ByteArray} (h : a.toList = b.toList) : a = b := by
  rw [ByteArray.toList_eq, ByteArray.toList_eq] at h
  cases a; cases b
  congr 1
  exact Array.ext' h
theorem lt_irrefl (a : ByteArray) : ltS a a = false := bl_irrefl _
theorem lt_trans {a b c : ByteArray} (h : ltS a b = true) (k : ltS b c = true) : ltS a c = true := bl_trans _ _ _ h k
theorem lt_tri {a b : ByteArray} (h : ltS a b = false) (k : (a.toList == b.toList) = false) : ltS b a = true := bl_tri _ _ h k
theorem lt_ne {a b : ByteArray} (h : ltS a b = true) : (a.toList == b.toList) = false := by
  cases hb : (a.toList == b.toList) with
  | false => rfl
  | true =>
    have := name_inj (eq_of_beq hb)
    subst this
    rw [lt_irrefl] at h; cases h
theorem ne_symm {a b : ByteArray} (h : (a.toList == b.toList) = false) : (b.toList == a.toList) = false := by
  cases hb : (b.toList == a.toList) with
  | false => rfl
  | true => rw [eq_of_beq hb] at h; simp at h
theorem lt_asymm {a b : ByteArray} (h : ltS a b = true) : ltS b a = false := by
  cases hb : ltS b a with
  | false => rfl
  | true => have := lt_trans h hb; rw [lt_irrefl] at this; cases this
theorem gt_of_lt {a b : ByteArray} (h : ltS a b = true) : gtS b a = true := by
  unfold gtS
  have h1 : Op.bytesLess b.toList a.toList = false := lt_asymm h
  rw [h1, ne_symm (lt_ne h)]; rfl
theorem gt_lt {a b : ByteArray} (h : ltS a b = true) : gtS a b = false := by
  unfold gtS
  have h1 : Op.bytesLess a.toList b.toList = true := h
  rw [h1]; rfl
/-- Each above the one ahead of it. -/
def Sorts (l : List Ent) : Prop := l.Pairwise fun x y => ltS x.name y.name = true
theorem sortedF_sorts : ∀ (l : List Ent) (last : ByteArray), sortedF last l = true → (∀ x ∈ l, ltS last x.name = true) ∧ Sorts l ∧ ∀ x ∈ l, (legalE x.name != 0) = false
  | [], _, _ => ⟨by simp, List.Pairwise.nil, by simp⟩
  | x :: l, last, h => by
    unfold sortedF at h
    split at h
    · cases h
    · rename_i hleg
      split at h
      · cases h
      · rename_i hle
        have hle' : leS x.name last = false := by simpa using hle
        unfold leS at hle'
        rw [Bool.or_eq_false_iff] at hle'
        have hlx : ltS last x.name = true := lt_tri hle'.1 hle'.2
        obtain ⟨h1, h2, h3⟩ := sortedF_sorts l x.name h
        refine ⟨fun y hy => ?_, List.Pairwise.cons h1 h2, fun y hy => ?_⟩
        · rcases List.mem_cons.1 hy with rfl | hy
          · exact hlx
          · exact lt_trans hlx (h1 y hy)
        · rcases List.mem_cons.1 hy with rfl | hy
          · simpa using hleg
          · exact h3 y hy
theorem sorts_of {l : List Ent} (h : sortedE l = true) : Sorts l := (sortedF_sorts l _ h).2.1
theorem legal_of {l : List Ent} (h : sortedE l = true) : ∀ x ∈ l, (legalE x.name != 0) = false := (sortedF_sorts l _ h).2.2
theorem sortedF_of : ∀ (l : List Ent) (last : ByteArray), (∀ x ∈ l, ltS last x.name = true) → Sorts l → (∀ x ∈ l, (legalE x.name != 0) = false) → sortedF last l = true
  | [], _, _, _, _ => rfl
  | x :: l, last, h1, h2, h3 => by
    unfold sortedF
    have hl := h3 x (by simp)
    rw [if_neg (by rw [hl]; simp)]
    have hx := h1 x (by simp)
    have hle : leS x.name last = false := by
      unfold leS
      have h4 : Op.bytesLess x.name.toList last.toList = false := lt_asymm hx
      rw [h4, ne_symm (lt_ne hx)]; rfl
    rw [if_neg (by rw [hle]; simp)]
    have h2' := List.pairwise_cons.1 h2
    exact sortedF_of l x.name h2'.1 h2'.2 fun y hy => h3 y (List.mem_cons_of_mem _ hy)
theorem sortedE_iff (l : List Ent) : sortedE l = true ↔ Sorts l ∧ ∀ x ∈ l, (legalE x.name != 0) = false := by
  refine ⟨fun h => ⟨sorts_of h, legal_of h⟩, fun ⟨h1, h2⟩ => sortedF_of l _ (fun x hx => ?_) h1 h2⟩
  have hne := legal_nonempty (h2 x hx)
  unfold ltS
  rw [ByteArray.toList_eq ⟨#[]⟩]
  show Op.bytesLess [] x.name.toList = true
  cases hh : x.name.toList with
  | nil => rw [hh] at hne; simp at hne
  | cons a b => rfl
theorem sorts_get {l : List Ent} (h : Sorts l) {s t : Nat} {x y : Ent} (hst : s < t) (hx : l[s]? = some x) (hy : l[t]? = some y) : ltS x.name y.name = true := by
  obtain ⟨h1, rfl⟩ := List.getElem?_eq_some_iff.1 hx
  obtain ⟨h2, rfl⟩ := List.getElem?_eq_some_iff.1 hy
  exact List.pairwise_iff_getElem.1 h s t h1 h2 hst
theorem sorts_parts {l : List Ent} (h : Sorts l) (n : ByteArray) : Parts l n := by
  intro s t x y hst hx hy hyn
  rcases Nat.lt_or_ge s t with hlt | hge
  · exact lt_trans (sorts_get h hlt hx hy) hyn
  · obtain rfl : s = t := by omega
    rw [hx] at hy; cases hy; exact hyn
/-- What the place says of the list. -/
structure At (l : List Ent) (n : ByteArray) (A D : List Ent) : Prop where
  lo : ∀ x ∈ A, ltS x.name n = true
  hi : ∀ x ∈ D, ltS n x.name = true
theorem split_not {l : List Ent} {n : ByteArray} {i : Nat} (hs : Sorts l) (h : Split l n i) (hf : foundAt l n i = false) : At l n (l.take i) (l.drop i) := by
  refine ⟨fun x hx => ?_, fun x hx => ?_⟩
  · obtain ⟨t, ht⟩ := List.mem_iff_getElem?.1 hx
    rw [List.getElem?_take] at ht
    split at ht
    · exact h.lo t x (by assumption) ht
    · cases ht
  · obtain ⟨t, ht⟩ := List.mem_iff_getElem?.1 hx
    rw [List.getElem?_drop] at ht
    have hlt := h.hi (i + t) x (by omega) ht
    refine lt_tri hlt ?_
    cases t with
    | zero =>
      unfold foundAt at hf
      rw [Nat.add_zero] at ht
      rw [ht] at hf; exact hf
    | succ t =>
      obtain ⟨hil, _⟩ := List.getElem?_eq_some_iff.1 ht
      obtain ⟨z, hz⟩ : ∃ z, l[i]? = some z := ⟨_, List.getElem?_eq_getElem (by omega)⟩
      have hzx := sorts_get hs (by omega : i < i + (t + 1)) hz ht
      have hzn := h.hi i z (by omega) hz
      unfold foundAt at hf
      rw [hz] at hf
      exact ne_symm (lt_ne (lt_trans (lt_tri hzn hf) hzx))
theorem split_is {l : List Ent} {n : ByteArray} {i : Nat} (hs : Sorts l) (h : Split l n i) (hf : foundAt l n i = true) : ∃ x, l[i]? = some x ∧ x.name = n ∧ l = l.take i ++ x :: l.drop (i + 1) ∧ At l n (l.take i) (l.drop (i + 1)) := by
  unfold foundAt at hf
  cases hx : l[i]? with
  | none => rw [hx] at hf; cases hf
  | some x =>
    rw [hx] at hf
    have hn := name_inj (eq_of_beq hf)
    refine ⟨x, rfl, hn, ?_, fun z hz => ?_, fun z hz => ?_⟩
    · rw [← drop_cons hx, List.take_append_drop]
    · obtain ⟨t, ht⟩ := List.mem_iff_getElem?.1 hz
      rw [List.getElem?_take] at ht
      split at ht
      · exact h.lo t z (by assumption) ht
      · cases ht
    · obtain ⟨t, ht⟩ := List.mem_iff_getElem?.1 hz
      rw [List.getElem?_drop] at ht
      rw [← hn]
      exact sorts_get hs (by omega : i < i + 1 + t) hx ht
theorem find_skip : ∀ (A D : List Ent) (n : ByteArray), (∀ x ∈ A, (x.name.toList == n.toList) = false) → findE (A ++ D) n = findE D n
  | [], _, _, _ => rfl
  | x :: A, D, n, h => by
    show (if (x.name.toList == n.toList) = true then (x.ino, true) else findE (A ++ D) n) = _
    rw [h x (by simp), if_neg (by simp)]
    exact find_skip A D n fun y hy => h y (List.mem_cons_of_mem _ hy)
theorem find_none (A : List Ent) (n : ByteArray) (h : ∀ x ∈ A, (x.name.toList == n.toList) = false) : findE A n = (-1, false) := by
  have := find_skip A [] n h
  rw [List.append_nil] at this
  exact this
theorem find_here (x : Ent) (D : List Ent) (n : ByteArray) (h : x.name = n) : findE (x :: D) n = (x.ino, true) := by
  show (if (x.name.toList == n.toList) = true then (x.ino, true) else findE D n) = _
  rw [h, if_pos (by simp)]
theorem at_ne {l A D : List Ent} {n : ByteArray} (h : At l n A D) : (∀ x ∈ A, (x.name.toList == n.toList) = false) ∧ (∀ x ∈ D, (x.name.toList == n.toList) = false) :=
  ⟨fun x hx => lt_ne (h.lo x hx), fun x hx => ne_symm (lt_ne (h.hi x hx))⟩
theorem find_split {l : List Ent} {n : ByteArray} {i : Nat} (hs : Sorts l) (h : Split l n i) :
    findE l n = match l[i]? with | some x => if foundAt l n i = true then (x.ino, true) else (-1, false) | none => (-1, false) := by
  cases hf : foundAt l n i with
  | true =>
    obtain ⟨x, hx, hn, hl, hat⟩ := split_is hs h hf
    rw [hx]
    simp only [if_true]
    conv => lhs; rw [hl]
    rw [find_skip _ _ _ (at_ne hat).1, find_here x _ n hn]
  | false =>
    have hat := split_not hs h hf
    have : findE l n = (-1, false) := by
      conv => lhs; rw [← List.take_append_drop i l]
      rw [find_skip _ _ _ (at_ne hat).1, find_none _ _ (at_ne hat).2]
    rw [this]
    cases l[i]? <;> simp
theorem filter_all {p : Ent → Bool} {l : List Ent} (h : ∀ x ∈ l, p x = true) : l.filter p = l := List.filter_eq_self.2 h
theorem filter_no {p : Ent → Bool} {l : List Ent} (h : ∀ x ∈ l, p x = false) : l.filter p = [] := List.filter_eq_nil_iff.2 fun x hx => by rw [h x hx]; simp
theorem drop_none {l A D : List Ent} {n : ByteArray} (h : At l n A D) : dropE (A ++ D) n = A ++ D := by
  unfold dropE
  refine filter_all fun x hx => ?_
  rcases List.mem_append.1 hx with hx | hx
  · rw [(at_ne h).1 x hx]; rfl
  · rw [(at_ne h).2 x hx]; rfl
theorem drop_one {l A D : List Ent} {n : ByteArray} {x : Ent} (h : At l n A D) (hx : x.name = n) : dropE (A ++ x :: D) n = A ++ D := by
  have := drop_none h
  unfold dropE at *
  rw [List.filter_append] at this ⊢
  rw [List.filter_cons_of_neg (by rw [hx]; simp)]
  exact this
theorem put_at {l A D : List Ent} {e : Ent} (h : At l e.name A D) : (A ++ D).filter (fun x => ltS x.name e.name) ++ [e] ++ (A ++ D).filter (fun x => gtS x.name e.name) = A ++ e :: D := by
  rw [List.filter_append, List.filter_append, filter_all h.lo, filter_no (l := D) (fun x hx => lt_asymm (h.hi x hx)), filter_no (l := A) (fun x hx => gt_lt (h.lo x hx)), filter_all (l := D) (fun x hx => gt_of_lt (h.hi x hx))]
  simp
theorem put_split {l : List Ent} {e : Ent} {i : Nat} (hs : Sorts l) (h : Split l e.name i) : putE l e = if foundAt l e.name i = true then l.take i ++ e :: l.drop (i + 1) else l.take i ++ e :: l.drop i := by
  cases hf : foundAt l e.name i with
  | true =>
    obtain ⟨x, hx, hn, hl, hat⟩ := split_is hs h hf
    simp only [if_true]
    unfold putE
    conv => lhs; rw [hl]
    rw [drop_one hat hn]
    exact put_at hat
  | false =>
    have hat := split_not hs h hf
    simp only [Bool.false_eq_true, if_false]
    unfold putE
    conv => lhs; rw [← List.take_append_drop i l]
    rw [drop_none hat]
    exact put_at hat
theorem drop_split {l : List Ent} {n : ByteArray} {i : Nat} (hs : Sorts l) (h : Split l n i) : dropE l n = if foundAt l n i = true then l.take i ++ l.drop (i + 1) else l := by
  cases hf : foundAt l n i with
  | true =>
    obtain ⟨x, hx, hn, hl, hat⟩ := split_is hs h hf
    simp only [if_true]
    conv => lhs; rw [hl]
    exact drop_one hat hn
  | false =>
    have hat := split_not hs h hf
    simp only [Bool.false_eq_true, if_false]
    have := drop_none hat
    rw [List.take_append_drop] at this
    exact this
end Go.Proofs.Ytfllhakmjookkaa
