/- Entries: what putting and dropping come to. -/
import Derived.Test.YtfllhakmjookkaaEntryP
set_option linter.unusedVariables false
set_option linter.unusedSimpArgs false
namespace Go.Proofs.Ytfllhakmjookkaa
open Go Go.RowKit

theorem exists_split : ∀ (l : List Ent) (n : ByteArray), Sorts l → ∃ i, i ≤ l.length ∧ Split l n i
  | [], n, _ => ⟨0, Nat.le_refl _, ⟨fun t x h => by omega, fun t x _ hx => by simp at hx⟩⟩
  | x :: l, n, h => by
    have h' := List.pairwise_cons.1 h
    cases hx : ltS x.name n with
    | true =>
      obtain ⟨i, hi, hs⟩ := exists_split l n h'.2
      refine ⟨i + 1, by simp; omega, ⟨fun t y ht hy => ?_, fun t y ht hy => ?_⟩⟩
      · cases t with
        | zero => simp at hy; subst hy; exact hx
        | succ t => exact hs.lo t y (by omega) (by simpa using hy)
      · cases t with
        | zero => omega
        | succ t => exact hs.hi t y (by omega) (by simpa using hy)
    | false =>
      refine ⟨0, by omega, ⟨fun t y ht hy => by omega, fun t y ht hy => ?_⟩⟩
      cases t with
      | zero => simp at hy; subst hy; exact hx
      | succ t =>
        have hy' : l[t]? = some y := by simpa using hy
        have hxy := h'.1 y (List.mem_of_getElem? hy')
        cases hyn : ltS y.name n with
        | false => rfl
        | true => rw [lt_trans hxy hyn] at hx; cases hx
/-- A sorted list, parted at a name. -/
structure Cut (l : List Ent) (n : ByteArray) (A D : List Ent) : Prop where
  at' : At l n A D
  is : l = A ++ D ∨ ∃ x, x.name = n ∧ l = A ++ x :: D
  put : ∀ e : Ent, e.name = n → putE l e = A ++ e :: D
  drop : dropE l n = A ++ D
theorem sorts_cut {l : List Ent} (hs : Sorts l) (n : ByteArray) : ∃ A D, Cut l n A D := by
  obtain ⟨i, _, h⟩ := exists_split l n hs
  cases hf : foundAt l n i with
  | true =>
    obtain ⟨x, hx, hn, hl, hat⟩ := split_is hs h hf
    refine ⟨_, _, hat, Or.inr ⟨x, hn, hl⟩, fun e he => ?_, ?_⟩
    · subst he
      rw [put_split hs h, hf]; rfl
    · rw [drop_split hs h, hf]; rfl
  | false =>
    have hat := split_not hs h hf
    refine ⟨_, _, hat, Or.inl (List.take_append_drop i l).symm, fun e he => ?_, ?_⟩
    · subst he
      rw [put_split hs h, hf]; rfl
    · rw [drop_split hs h, hf]; simp
theorem find_mid : ∀ (A : List Ent) (x : Ent) (D : List Ent) (m : ByteArray), (x.name.toList == m.toList) = false → findE (A ++ x :: D) m = findE (A ++ D) m
  | [], x, D, m, h => by
    show (if (x.name.toList == m.toList) = true then (x.ino, true) else findE D m) = _
    rw [h]; rfl
  | a :: A, x, D, m, h => by
    show (if (a.name.toList == m.toList) = true then (a.ino, true) else findE (A ++ x :: D) m) = (if (a.name.toList == m.toList) = true then (a.ino, true) else findE (A ++ D) m)
    rw [find_mid A x D m h]
section
variable {l A D : List Ent} {n : ByteArray}
theorem Cut.subs (h : Cut l n A D) : List.Sublist A l ∧ List.Sublist D l := by
  rcases h.is with e | ⟨x, _, e⟩
  · exact ⟨e ▸ List.sublist_append_left _ _, e ▸ List.sublist_append_right _ _⟩
  · exact ⟨e ▸ List.sublist_append_left _ _, e ▸ (List.sublist_cons_self _ _).trans (List.sublist_append_right _ _)⟩
theorem Cut.sorts_drop (h : Cut l n A D) (hs : Sorts l) : Sorts (A ++ D) :=
  List.pairwise_append.2 ⟨hs.sublist h.subs.1, hs.sublist h.subs.2, fun a ha d hd => lt_trans (h.at'.lo a ha) (h.at'.hi d hd)⟩
theorem Cut.sorts_put (h : Cut l n A D) (hs : Sorts l) (e : Ent) (he : e.name = n) : Sorts (A ++ e :: D) := by
  subst he
  refine List.pairwise_append.2 ⟨hs.sublist h.subs.1, List.pairwise_cons.2 ⟨fun d hd => h.at'.hi d hd, hs.sublist h.subs.2⟩, fun a ha d hd => ?_⟩
  rcases List.mem_cons.1 hd with rfl | hd
  · exact h.at'.lo a ha
  · exact lt_trans (h.at'.lo a ha) (h.at'.hi d hd)
theorem Cut.find_drop (h : Cut l n A D) : findE (A ++ D) n = (-1, false) := by
  rw [find_skip _ _ _ (at_ne h.at').1, find_none _ _ (at_ne h.at').2]
theorem Cut.find_put (h : Cut l n A D) (e : Ent) (he : e.name = n) : findE (A ++ e :: D) n = (e.ino, true) := by
  rw [find_skip _ _ _ (at_ne h.at').1, find_here _ _ _ he]
theorem Cut.find_other (h : Cut l n A D) (m : ByteArray) (hm : (m.toList == n.toList) = false) : findE l m = findE (A ++ D) m := by
  rcases h.is with e | ⟨x, hx, e⟩
  · rw [← e]
  · conv => lhs; rw [e]
    exact find_mid A x D m (by rw [hx]; exact ne_symm hm)
theorem Cut.drop_put (h : Cut l n A D) (e : Ent) (he : e.name = n) : dropE (A ++ e :: D) n = A ++ D := drop_one h.at' he
theorem Cut.mem (h : Cut l n A D) : ∀ x, x ∈ A ++ D → x ∈ l := by
  intro x hx
  rcases List.mem_append.1 hx with hx | hx
  · exact h.subs.1.subset hx
  · exact h.subs.2.subset hx
end
theorem put_sorted {l : List Ent} (hs : sortedE l = true) (e : Ent) (he : (legalE e.name != 0) = false) : sortedE (putE l e) = true := by
  obtain ⟨A, D, h⟩ := sorts_cut (sorts_of hs) e.name
  rw [h.put e rfl]
  refine (sortedE_iff _).2 ⟨h.sorts_put (sorts_of hs) e rfl, fun x hx => ?_⟩
  rcases List.mem_append.1 hx with hx | hx
  · exact legal_of hs x (h.mem x (List.mem_append_left _ hx))
  · rcases List.mem_cons.1 hx with rfl | hx
    · exact he
    · exact legal_of hs x (h.mem x (List.mem_append_right _ hx))
theorem drop_sorted {l : List Ent} (hs : sortedE l = true) (n : ByteArray) : sortedE (dropE l n) = true := by
  obtain ⟨A, D, h⟩ := sorts_cut (sorts_of hs) n
  rw [h.drop]
  exact (sortedE_iff _).2 ⟨h.sorts_drop (sorts_of hs), fun x hx => legal_of hs x (h.mem x hx)⟩
theorem find_of_put {l : List Ent} (hs : Sorts l) (e : Ent) : findE (putE l e) e.name = (e.ino, true) := by
  obtain ⟨A, D, h⟩ := sorts_cut hs e.name
  rw [h.put e rfl]; exact h.find_put e rfl
theorem find_of_put_other {l : List Ent} (hs : Sorts l) (e : Ent) (m : ByteArray) (hm : (m.toList == e.name.toList) = false) : findE (putE l e) m = findE l m := by
  obtain ⟨A, D, h⟩ := sorts_cut hs e.name
  rw [h.put e rfl, h.find_other m hm]; exact find_mid A e D m (ne_symm hm)
theorem drop_of_put {l : List Ent} (hs : Sorts l) (e : Ent) : dropE (putE l e) e.name = dropE l e.name := by
  obtain ⟨A, D, h⟩ := sorts_cut hs e.name
  rw [h.put e rfl, h.drop]; exact h.drop_put e rfl
theorem find_of_drop {l : List Ent} (hs : Sorts l) (n : ByteArray) : findE (dropE l n) n = (-1, false) := by
  obtain ⟨A, D, h⟩ := sorts_cut hs n
  rw [h.drop]; exact h.find_drop
/-- Two sorted lists that hold the same are one. -/
theorem sorts_ext {l m : List Ent} (hl : Sorts l) (hm : Sorts m) (h : ∀ n, findE l n = findE m n) : l = m := by
  have key : ∀ (l m : List Ent), Sorts l → Sorts m → (∀ n, findE l n = findE m n) → l = m := by
    intro l
    induction l with
    | nil =>
      intro m _ _ h
      cases m with
      | nil => rfl
      | cons y m =>
        have := h y.name
        rw [find_here y m _ rfl] at this
        simp [findE] at this
    | cons x l ih =>
      intro m hl hm h
      cases m with
      | nil =>
        have := h x.name
        rw [find_here x l _ rfl] at this
        simp [findE] at this
      | cons y m =>
        have hl' := List.pairwise_cons.1 hl
        have hm' := List.pairwise_cons.1 hm
        have hxy : x.name = y.name := by
          cases h1 : ltS x.name y.name with
          | true =>
            have := h x.name
            rw [find_here x l _ rfl] at this
            have hn : findE (y :: m) x.name = (-1, false) := find_none _ _ fun z hz => by
              rcases List.mem_cons.1 hz with rfl | hz
              · exact ne_symm (lt_ne h1)
              · exact ne_symm (lt_ne (lt_trans h1 (hm'.1 z hz)))
            rw [hn] at this; simp at this
          | false =>
            cases h2 : (x.name.toList == y.name.toList) with
            | true => exact name_inj (eq_of_beq h2)
            | false =>
              have h3 := lt_tri h1 h2
              have := h y.name
              rw [find_here y m _ rfl] at this
              have hn : findE (x :: l) y.name = (-1, false) := find_none _ _ fun z hz => by
                rcases List.mem_cons.1 hz with rfl | hz
                · exact ne_symm (lt_ne h3)
                · exact ne_symm (lt_ne (lt_trans h3 (hl'.1 z hz)))
              rw [hn] at this; simp at this
        have hi : x = y := by
          have := h x.name
          rw [find_here x l _ rfl, find_here y m _ hxy.symm] at this
          cases x; cases y
          simp at this hxy ⊢
          exact ⟨hxy, this⟩
        subst hi
        congr 1
        refine ih m hl'.2 hm'.2 fun n => ?_
        cases hn : (x.name.toList == n.toList) with
        | true =>
          rw [find_none l n (fun z hz => by rw [← eq_of_beq hn]; exact ne_symm (lt_ne (hl'.1 z hz))), find_none m n (fun z hz => by rw [← eq_of_beq hn]; exact ne_symm (lt_ne (hm'.1 z hz)))]
        | false =>
          have := h n
          have e1 : ∀ k : List Ent, findE (x :: k) n = findE k n := fun k => by
            show (if (x.name.toList == n.toList) = true then (x.ino, true) else findE k n) = _
            rw [hn]; rfl
          rw [e1, e1] at this
          exact this
  exact key l m hl hm h
theorem put_put_same {l : List Ent} (hs : sortedE l = true) (e f : Ent) (hn : e.name = f.name) (he : (legalE e.name != 0) = false) : putE (putE l e) f = putE l f := by
  have h1 := put_sorted hs e he
  have h2 := put_sorted h1 f (by rw [← hn]; exact he)
  have h3 := put_sorted hs f (by rw [← hn]; exact he)
  refine sorts_ext (sorts_of h2) (sorts_of h3) fun n => ?_
  cases hf : (n.toList == f.name.toList) with
  | true =>
    have := name_inj (eq_of_beq hf)
    subst this
    rw [find_of_put (sorts_of h1), find_of_put (sorts_of hs)]
  | false =>
    rw [find_of_put_other (sorts_of h1) f n hf, find_of_put_other (sorts_of hs) f n hf, find_of_put_other (sorts_of hs) e n (by rw [hn]; exact hf)]
theorem put_put_comm {l : List Ent} (hs : sortedE l = true) (e f : Ent) (hn : (e.name.toList == f.name.toList) = false) (he : (legalE e.name != 0) = false) (hf' : (legalE f.name != 0) = false) : putE (putE l e) f = putE (putE l f) e := by
  have h1 := put_sorted hs e he
  have h2 := put_sorted h1 f hf'
  have h3 := put_sorted hs f hf'
  have h4 := put_sorted h3 e he
  refine sorts_ext (sorts_of h2) (sorts_of h4) fun n => ?_
  cases hf : (n.toList == f.name.toList) with
  | true =>
    have := name_inj (eq_of_beq hf)
    subst this
    rw [find_of_put (sorts_of h1), find_of_put_other (sorts_of h3) e _ (ne_symm hn), find_of_put (sorts_of hs)]
  | false =>
    rw [find_of_put_other (sorts_of h1) f n hf]
    cases hg : (n.toList == e.name.toList) with
    | true =>
      have := name_inj (eq_of_beq hg)
      subst this
      rw [find_of_put (sorts_of hs), find_of_put (sorts_of h3)]
    | false =>
      rw [find_of_put_other (sorts_of hs) e n hg, find_of_put_other (sorts_of h3) e n hg, find_of_put_other (sorts_of hs) f n hf]
theorem put_len {l : List Ent} (hs : Sorts l) (e : Ent) : (putE l e).length = (if (findE l e.name).2 = true then l.length - 1 else l.length) + 1 := by
  obtain ⟨A, D, h⟩ := sorts_cut hs e.name
  rw [h.put e rfl]
  rcases h.is with el | ⟨x, hx, el⟩
  · have : findE l e.name = (-1, false) := by rw [el]; exact h.find_drop
    rw [this, el]; simp; omega
  · have : findE l e.name = (x.ino, true) := by rw [el]; exact h.find_put x hx
    rw [this, el]; simp; omega
theorem drop_len {l : List Ent} (hs : Sorts l) (n : ByteArray) : (dropE l n).length = (if (findE l n).2 = true then l.length - 1 else l.length) := by
  obtain ⟨A, D, h⟩ := sorts_cut hs n
  rw [h.drop]
  rcases h.is with el | ⟨x, hx, el⟩
  · have : findE l n = (-1, false) := by rw [el]; exact h.find_drop
    rw [this, el]; simp
  · have : findE l n = (x.ino, true) := by rw [el]; exact h.find_put x hx
    rw [this, el]; simp
theorem put_in {l : List Ent} (hs : Sorts l) (e : Ent) : e ∈ putE l e := by
  obtain ⟨A, D, h⟩ := sorts_cut hs e.name
  rw [h.put e rfl]; simp
end Go.Proofs.Ytfllhakmjookkaa
