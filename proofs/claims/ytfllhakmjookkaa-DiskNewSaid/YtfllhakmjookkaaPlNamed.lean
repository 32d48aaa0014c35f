/- Disks: how many names each node has. -/
import Derived.Test.YtfllhakmjookkaaPlRight
set_option linter.unusedVariables false
set_option linter.unusedSimpArgs false
namespace Go.Proofs.Ytfllhakmjookkaa.Den
open Go Go.RowKit

theorem getD_set (l : List Int) (a i : Nat) (v : Int) (ha : a < l.length) : (l.set a v).getD i 0 = if a = i then v else l.getD i 0 := by
  simp only [List.getD_eq_getElem?_getD, List.getElem?_set]
  by_cases h : a = i
  · subst h; simp [ha]
  · simp [h]
theorem gt_getD {l : List Int} {x : Int} (h : 0 ≤ x ∧ x < l.length) : gt l x = some (l.getD x.toNat 0) := by
  have hx : x.toNat < l.length := by omega
  rw [gt_int h, List.getD_eq_getElem?_getD, List.getElem?_eq_getElem hx]; rfl
/-- What both lists say of a node. -/
def both (c d : List Int) (i : Nat) : Int × Int := (c.getD i 0, d.getD i 0)
theorem named_row (k : Nat) (l : List NodeD) (q1 q2 q7 q8 : Int) (es : List Ent) (hes : es.length ≤ 1000) (hl : l.length ≤ 1000) (c0 d0 : List Int) (hc0 : c0.length = l.length) (hd0 : d0.length = l.length) (C : Int) (hC : C ≤ 1000000)
    (h0 : ∀ i, i < l.length → 0 ≤ c0.getD i 0 ∧ c0.getD i 0 ≤ C) :
    ∃ v c d, iterN (diskDiskNamed_b6x1 (k : Int) l q1 q2 es (es.length : Int) l q7 q8) LF ((0 : Int), c0, d0) = some (v, c, d) ∧ c.length = l.length ∧ d.length = l.length ∧
      ∀ i, i < l.length → both c d i = rowF k i (both c0 d0 i) es := by
  obtain ⟨b, h1, h2⟩ := iter_inv (f := diskDiskNamed_b6x1 (k : Int) l q1 q2 es (es.length : Int) l q7 q8) (fun j a => a.1 = (j : Int) ∧ a.2.1.length = l.length ∧ a.2.2.length = l.length ∧
      ∀ i, i < l.length → (0 ≤ a.2.1.getD i 0 ∧ a.2.1.getD i 0 ≤ C + j) ∧ rowF k i (both a.2.1 a.2.2 i) (es.drop j) = rowF k i (both c0 d0 i) es) es.length (fun b => b.2.1.length = l.length ∧ b.2.2.length = l.length ∧ ∀ i, i < l.length → both b.2.1 b.2.2 i = rowF k i (both c0 d0 i) es) (by
    rintro j ⟨v0, c, d⟩ hj ⟨h, hc, hd, hi⟩
    simp only at h hc hd hi
    subst h
    left
    unfold diskDiskNamed_b6x1
    simp only [lt_true hj, cond_true, gt_nat hj, Option.bind_some, between_eq, w64_succ (i := j) (by omega)]
    rw [w64_eq (a := (l.length : Int) - 1) (by omega) (by omega)]
    rw [List.drop_eq_getElem_cons hj] at hi
    by_cases hin : 0 ≤ es[j].ino ∧ es[j].ino ≤ (l.length : Int) - 1
    · have e : decide (0 ≤ es[j].ino ∧ es[j].ino ≤ (l.length : Int) - 1) = true := by simp [hin]
      rw [e]
      have g1 : 0 ≤ es[j].ino ∧ es[j].ino < (c.length : Int) := by omega
      have g2 : 0 ≤ es[j].ino ∧ es[j].ino < (d.length : Int) := by omega
      simp only [cond_true, gt_getD g1, gt_getD g2, Option.bind_some]
      have hb := (hi es[j].ino.toNat (by omega)).1
      rw [w64_eq (by omega) (by omega)]
      refine ⟨_, rfl, rfl, by simpa using hc, by simpa using hd, fun i hil => ?_⟩
      have hi1 := hi i hil
      simp only [both]
      rw [getD_set _ _ _ _ (by omega), getD_set _ _ _ _ (by omega)]
      by_cases he : es[j].ino.toNat = i
      · have he2 : es[j].ino = (i : Int) := by omega
        rw [if_pos he, if_pos he]
        subst he
        simp only [rowF, if_pos he2, both] at hi1
        refine ⟨by omega, hi1.2⟩
      · have he2 : ¬ es[j].ino = (i : Int) := by omega
        rw [if_neg he, if_neg he]
        simp only [rowF, if_neg he2] at hi1
        exact ⟨by omega, hi1.2⟩
    · have e : decide (0 ≤ es[j].ino ∧ es[j].ino ≤ (l.length : Int) - 1) = false := by simp; omega
      rw [e]
      simp only [cond_false]
      refine ⟨_, rfl, rfl, hc, hd, fun i hil => ?_⟩
      have hi1 := hi i hil
      have he2 : ¬ es[j].ino = (i : Int) := by omega
      simp only [rowF, if_neg he2] at hi1
      exact ⟨by simp only; omega, hi1.2⟩) (by
    rintro ⟨v0, c, d⟩ ⟨h, hc, hd, hi⟩
    simp only at h hc hd hi
    subst h
    unfold diskDiskNamed_b6x1
    simp only [lt_false, cond_false]
    refine ⟨_, rfl, hc, hd, fun i hil => ?_⟩
    have := (hi i hil).2
    rw [List.drop_length] at this
    simpa [rowF] using this) (lt_LF (by omega)) (a := ((0 : Int), c0, d0)) ⟨rfl, hc0, hd0, fun i hil => ⟨by have := h0 i hil; simp only; omega, by simp⟩⟩
  obtain ⟨v, c, d⟩ := b
  exact ⟨v, c, d, h1, h2⟩
theorem named_eq (l : List NodeD) (p1 p2 : Int) (hl : l.length ≤ 1000) (hn : ∀ n ∈ l, n.names.length ≤ 1000) :
    ∃ c d, diskDiskNamed l p1 p2 = some (c, d) ∧ c.length = l.length ∧ d.length = l.length ∧ ∀ i, i < l.length → both c d i = allF i 0 (0, 0) l := by
  have hrep : ∀ i, i < l.length → (List.replicate ((l.length : Int).toNat) (0 : Int)).getD i 0 = 0 := fun i hi => by simp [List.getD_eq_getElem?_getD, List.getElem?_replicate, hi]
  obtain ⟨b, h1, h2⟩ := iter_inv (f := diskDiskNamed_b3 l (l.length : Int) l p1 p2) (fun k a => a.1 = (k : Int) ∧ a.2.1.length = l.length ∧ a.2.2.length = l.length ∧
      ∀ i, i < l.length → (0 ≤ a.2.1.getD i 0 ∧ a.2.1.getD i 0 ≤ 1000 * k) ∧ allF i k (both a.2.1 a.2.2 i) (l.drop k) = allF i 0 (0, 0) l) l.length (fun b => b.2.1.length = l.length ∧ b.2.2.length = l.length ∧ ∀ i, i < l.length → both b.2.1 b.2.2 i = allF i 0 (0, 0) l) (by
    rintro k ⟨v0, c, d⟩ hk ⟨h, hc, hd, hi⟩
    simp only at h hc hd hi
    subst h
    left
    unfold diskDiskNamed_b3
    have hln := hn _ (List.getElem_mem hk)
    obtain ⟨v, c1, d1, g1, g2, g3, g4⟩ := named_row k l (l.length : Int) (k : Int) p1 p2 l[k].names hln hl c d hc hd (1000 * k) (by omega) fun i hil => (hi i hil).1
    simp only [lt_true hk, cond_true, gt_nat hk, Option.bind_some, g1, w64_succ (i := k) (by omega)]
    refine ⟨_, rfl, rfl, g2, g3, fun i hil => ?_⟩
    have h3 := hi i hil
    have h4 := rowF_le (k : Int) i l[k].names (both c d i)
    rw [← g4 i hil] at h4
    simp only [both] at h4
    rw [List.drop_eq_getElem_cons hk] at h3
    refine ⟨by simp only; omega, ?_⟩
    simp only
    rw [g4 i hil]
    exact h3.2) (by
    rintro ⟨v0, c, d⟩ ⟨h, hc, hd, hi⟩
    simp only at h hc hd hi
    subst h
    unfold diskDiskNamed_b3
    simp only [lt_false, cond_false]
    refine ⟨_, rfl, hc, hd, fun i hil => ?_⟩
    have := (hi i hil).2
    rw [List.drop_length] at this
    simpa [allF] using this) (lt_LF (by omega)) (a := ((0 : Int), List.replicate ((l.length : Int).toNat) (0 : Int), List.replicate ((l.length : Int).toNat) (0 : Int)))
    ⟨rfl, by simp, by simp, fun i hil => ⟨by simp only [hrep i hil]; omega, by simp only [both, hrep i hil]; rfl⟩⟩
  obtain ⟨v, c, d⟩ := b
  refine ⟨c, d, ?_, h2⟩
  unfold diskDiskNamed
  rw [grd_pos (by omega), grd_pos (by omega), h1]; rfl
/-- What one began with does not matter where there is a name. -/
theorem rowF_two (k i c a b : Int) : ∀ es : List Ent, (rowF k i (c, a) es = (c, a) ∧ rowF k i (c, b) es = (c, b)) ∨ rowF k i (c, a) es = rowF k i (c, b) es ∧ c < (rowF k i (c, a) es).1
  | [] => .inl ⟨rfl, rfl⟩
  | e :: es => by
    simp only [rowF]
    by_cases h : e.ino = i
    · rw [if_pos h, if_pos h]
      exact .inr ⟨rfl, by have := (rowF_le k i es (c + 1, k)).1; simp only at this; omega⟩
    · rw [if_neg h, if_neg h]
      exact rowF_two k i c a b es
theorem allF_le (i : Int) : ∀ (l : List NodeD) (k : Nat) (s : Int × Int), s.1 ≤ (allF i k s l).1
  | [], _, _ => Int.le_refl _
  | n :: l, k, s => Int.le_trans (rowF_le k i n.names s).1 (allF_le i l (k + 1) _)
theorem allF_two (i c a b : Int) : ∀ (l : List NodeD) (k : Nat), (allF i k (c, a) l = (c, a) ∧ allF i k (c, b) l = (c, b)) ∨ allF i k (c, a) l = allF i k (c, b) l ∧ c < (allF i k (c, a) l).1
  | [], _ => .inl ⟨rfl, rfl⟩
  | n :: l, k => by
    simp only [allF]
    rcases rowF_two k i c a b n.names with ⟨h1, h2⟩ | ⟨h1, h2⟩
    · rw [h1, h2]; exact allF_two i c a b l (k + 1)
    · rw [← h1]
      exact .inr ⟨rfl, Int.lt_of_lt_of_le h2 (allF_le i l (k + 1) _)⟩
/-- No name at all. -/
theorem rowF_none (k i : Int) : ∀ (es : List Ent) (s : Int × Int), (∀ e ∈ es, e.ino ≠ i) → rowF k i s es = s
  | [], _, _ => rfl
  | e :: es, s, h => by
    simp only [rowF, if_neg (h e (by simp))]
    exact rowF_none k i es s fun x hx => h x (List.mem_cons_of_mem _ hx)
theorem allF_none (i : Int) : ∀ (l : List NodeD) (k : Nat) (s : Int × Int), (∀ n ∈ l, ∀ e ∈ n.names, e.ino ≠ i) → allF i k s l = s
  | [], _, _, _ => rfl
  | n :: l, k, s, h => by
    simp only [allF]
    rw [rowF_none _ _ _ _ (h n (by simp))]
    exact allF_none i l (k + 1) s fun x hx => h x (List.mem_cons_of_mem _ hx)
end Go.Proofs.Ytfllhakmjookkaa.Den
