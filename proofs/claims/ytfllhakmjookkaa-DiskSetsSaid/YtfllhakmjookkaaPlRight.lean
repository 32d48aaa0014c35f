/- Disks: when they are right, in plain words. -/
import Derived.Test.YtfllhakmjookkaaDenF9
import Derived.Test.YtfllhakmjookkaaPlDisk
set_option linter.unusedVariables false
set_option linter.unusedSimpArgs false
namespace Go.Proofs.Ytfllhakmjookkaa.Den
open Go Go.RowKit

theorem iter_val {α β γ : Type} {f : α → Option (α ⊕ β)} (I : Nat → α → Prop) (N : Nat) (F : α → γ) (R : β → γ → Prop)
    (step : ∀ i a, i < N → I i a → (∃ a', f a = some (.inl a') ∧ I (i + 1) a' ∧ F a' = F a) ∨ ∃ b, f a = some (.inr b) ∧ R b (F a))
    (last : ∀ a, I N a → ∃ b, f a = some (.inr b) ∧ R b (F a)) {fuel : Nat} (hf : N < fuel) {a : α} (h0 : I 0 a) : ∃ b, iterN f fuel a = some b ∧ R b (F a) := by
  refine iter_inv (f := f) (fun i x => I i x ∧ F x = F a) N (fun b => R b (F a)) ?_ ?_ hf ⟨h0, rfl⟩
  · rintro i x hi ⟨h1, h2⟩
    rcases step i x hi h1 with ⟨a', h3, h4, h5⟩ | ⟨b, h3, h4⟩
    · exact .inl ⟨a', h3, h4, h5.trans h2⟩
    · exact .inr ⟨b, h3, h2 ▸ h4⟩
  · rintro x ⟨h1, h2⟩
    obtain ⟨b, h3, h4⟩ := last x h1
    exact ⟨b, h3, h2 ▸ h4⟩
theorem lt_true {i n : Nat} (h : i < n) : decide ((i : Int) < (n : Int)) = true := by simp; exact h
theorem lt_false {n : Nat} : decide ((n : Int) < (n : Int)) = false := by simp
theorem beqd (a b : Int) : (a == b) = decide (a = b) := by by_cases h : a = b <;> simp [h]
theorem bned (a b : Int) : (a != b) = decide (a ≠ b) := by by_cases h : a = b <;> simp [h]
theorem bool_not {α : Type} (p : Prop) [Decidable p] (x y : α) : (bif !decide p then x else y) = if p then y else x := by by_cases h : p <;> simp [h]
theorem bool_if {α : Type} (p : Prop) [Decidable p] (x y : α) : (bif decide p then x else y) = if p then x else y := by by_cases h : p <;> simp [h]

/-! ### sorted -/
theorem legalX_eq {n : ByteArray} (h : n.size ≤ maxLen) : legalX n = some (legalE n) := if_pos h
theorem entrySorted_eq (l : List Ent) (hl : l.length ≤ 1000000000) (hn : ∀ y ∈ l, EntOk y) : entrySorted l = some (sortedE l) := by
  unfold entrySorted
  obtain ⟨b, h1, h2⟩ := iter_val (f := entrySorted_b3 l (l.length : Int)) (fun i a => a.2 = (i : Int)) l.length (fun a => sortedF a.1 (l.drop a.2.toNat))
    (fun b r => (∃ v, b = .inr (.inr v) ∧ r = true) ∨ ((∃ v, b = .inl v) ∨ ∃ v, b = .inr (.inl v)) ∧ r = false) (by
      rintro i ⟨v0, v1⟩ hi h
      simp only at h
      subst h
      have hF : sortedF v0 (l.drop ((i : Int)).toNat) = if (legalE l[i].name != 0) = true then false else if leS l[i].name v0 = true then false else sortedF l[i].name (l.drop (i + 1)) := by
        rw [Int.toNat_natCast, List.drop_eq_getElem_cons hi]; rfl
      simp only [hF]
      unfold entrySorted_b3
      simp only [lt_true hi, cond_true, gt_nat hi, Option.bind_some, legalX_eq (hn _ (List.getElem_mem hi)).1]
      cases h1 : (legalE l[i].name != 0) with
      | true => exact .inr ⟨_, rfl, .inr ⟨.inl ⟨_, rfl⟩, rfl⟩⟩
      | false =>
        have e : (Op.bytesLess l[i].name.toList v0.toList || seq l[i].name v0) = leS l[i].name v0 := rfl
        simp only [cond_false, e]
        cases h2 : leS l[i].name v0 with
        | true => exact .inr ⟨_, rfl, .inr ⟨.inr ⟨_, rfl⟩, rfl⟩⟩
        | false => exact .inl ⟨_, rfl, w64_succ (by omega), by simp only [w64_succ (i := i) (by omega), Int.toNat_natCast]; rfl⟩) (by
      rintro ⟨v0, v1⟩ h
      simp only at h
      subst h
      unfold entrySorted_b3
      simp only [lt_false, cond_false]
      exact ⟨_, rfl, .inl ⟨_, rfl, by simp [sortedF]⟩⟩) (lt_LF hl) (a := (⟨#[]⟩, (0 : Int))) rfl
  rw [h1]
  simp only [Int.toNat_zero, List.drop_zero] at h2
  show _ = some (sortedF ⟨#[]⟩ l)
  rcases h2 with ⟨v, rfl, h⟩ | ⟨⟨v, rfl⟩ | ⟨v, rfl⟩, h⟩ <;> rw [h] <;> rfl
theorem leS_nil {n : ByteArray} (h : legalE n = 0) : leS n ⟨#[]⟩ = false := by
  unfold legalE at h
  have he : n.toList.isEmpty = false := by
    cases hc : n.toList.isEmpty with
    | true => rw [if_pos hc] at h; cases h
    | false => rfl
  have e : (⟨#[]⟩ : ByteArray).toList = [] := by kernel_rfl
  unfold leS
  rw [e]
  cases hn : n.toList with
  | nil => rw [hn] at he; cases he
  | cons a t => rfl
theorem ref05Sorted_eq (l : List Ent) (hl : l.length ≤ 1000000000) (hn : ∀ y ∈ l, EntOk y) : ref05Sorted l = some (sortedE l) := by
  unfold ref05Sorted
  obtain ⟨b, h1, h2⟩ := iter_val (f := ref05Sorted_b2 l) (fun i a => a = (i : Int)) l.length (fun a => sortedF (if a = 0 then ⟨#[]⟩ else ((l[a.toNat - 1]?).map Ent.name).getD ⟨#[]⟩) (l.drop a.toNat))
    (fun b r => (∃ v, b = .inr (.inr v) ∧ r = true) ∨ ((∃ v, b = .inl v) ∨ ∃ v, b = .inr (.inl v)) ∧ r = false) (by
      rintro i v0 hi rfl
      have hF : ∀ last, sortedF last (l.drop ((i : Int)).toNat) = if (legalE l[i].name != 0) = true then false else if leS l[i].name last = true then false else sortedF l[i].name (l.drop (i + 1)) := by
        intro last; rw [Int.toNat_natCast, List.drop_eq_getElem_cons hi]; rfl
      have hN : sortedF (if ((i + 1 : Nat) : Int) = 0 then ⟨#[]⟩ else ((l[((i + 1 : Nat) : Int).toNat - 1]?).map Ent.name).getD ⟨#[]⟩) (l.drop ((i + 1 : Nat) : Int).toNat) = sortedF l[i].name (l.drop (i + 1)) := by
        rw [if_neg (by omega), Int.toNat_natCast, Nat.add_sub_cancel, List.getElem?_eq_getElem hi]; rfl
      simp only [hF]
      unfold ref05Sorted_b2
      simp only [lt_true hi, cond_true, gt_nat hi, Option.bind_some, legalX_eq (hn _ (List.getElem_mem hi)).1]
      cases h1 : (legalE l[i].name != 0) with
      | true => exact .inr ⟨_, rfl, .inr ⟨.inl ⟨_, rfl⟩, rfl⟩⟩
      | false =>
        have h0 : legalE l[i].name = 0 := by simpa using h1
        rcases Nat.eq_zero_or_pos i with hz | hp
        · subst hz
          have e1 : decide (((0 : Nat) : Int) > 0) = false := rfl
          simp only [cond_false, e1, w64_succ (i := 0) (by omega)]
          refine .inl ⟨_, rfl, rfl, ?_⟩
          have e0 : (if ((0 : Nat) : Int) = 0 then (⟨#[]⟩ : ByteArray) else ((l[((0 : Nat) : Int).toNat - 1]?).map Ent.name).getD ⟨#[]⟩) = ⟨#[]⟩ := if_pos rfl
          rw [hN, e0, leS_nil h0]; rfl
        · have e1 : decide ((i : Int) > 0) = true := by simp; omega
          have e2 : w64 ((i : Int) - 1) = ((i - 1 : Nat) : Int) := by rw [w64_eq (by omega) (by omega)]; omega
          have hlast : (if ((i : Nat) : Int) = 0 then (⟨#[]⟩ : ByteArray) else ((l[((i : Nat) : Int).toNat - 1]?).map Ent.name).getD ⟨#[]⟩) = l[i - 1].name := by
            rw [if_neg (by omega), Int.toNat_natCast, List.getElem?_eq_getElem (by omega)]; rfl
          have e : (Op.bytesLess l[i].name.toList l[i - 1].name.toList || seq l[i].name l[i - 1].name) = leS l[i].name l[i - 1].name := rfl
          simp only [cond_false, cond_true, e1, e2, gt_nat (show i - 1 < l.length by omega), Option.bind_some, hlast, e, w64_succ (i := i) (by omega)]
          cases h2 : leS l[i].name l[i - 1].name with
          | true => exact .inr ⟨_, rfl, .inr ⟨.inr ⟨_, rfl⟩, rfl⟩⟩
          | false => exact .inl ⟨_, rfl, rfl, hN⟩) (by
      rintro v0 rfl
      unfold ref05Sorted_b2
      simp only [lt_false, cond_false]
      exact ⟨_, rfl, .inl ⟨_, rfl, by simp [sortedF]⟩⟩) (lt_LF hl) (a := (0 : Int)) rfl
  rw [h1]
  simp only [Int.toNat_zero, List.drop_zero, if_true] at h2
  show _ = some (sortedF ⟨#[]⟩ l)
  rcases h2 with ⟨v, rfl, h⟩ | ⟨⟨v, rfl⟩ | ⟨v, rfl⟩, h⟩ <;> rw [h] <;> rfl

/-! ### what is got -/
def zeroN : NodeD := ⟨0, 0, 0, 0, 0, 0, ⟨#[]⟩, []⟩
def getP (l : List NodeD) (x : Int) : NodeD × Bool := if h : 0 ≤ x ∧ x < l.length then (if (l[x.toNat]'(by omega)).kind = 0 then (zeroN, false) else (l[x.toNat]'(by omega), true)) else (zeroN, false)
theorem gt_int {α : Type} {l : List α} {x : Int} (h : 0 ≤ x ∧ x < l.length) : gt l x = some (l[x.toNat]'(by omega)) := by
  obtain ⟨n, rfl⟩ : ∃ n : Nat, x = n := ⟨x.toNat, by omega⟩
  exact gt_nat (by omega)
theorem diskGet_eq (d : DiskD) (i : Int) (hl : d.nodes.length ≤ 1000000000) : diskGet d i = some (getP d.nodes i) := by
  unfold diskGet getP
  rw [between_eq, w64_eq (by omega) (by omega), Option.bind_some]
  by_cases h : 0 ≤ i ∧ i < d.nodes.length
  · have e : decide (0 ≤ i ∧ i ≤ (d.nodes.length : Int) - 1) = true := by simp; omega
    rw [e, dif_pos h, gt_int h]
    simp only [Bool.not_true, cond_false, Option.bind_some]
    by_cases hk : (d.nodes[i.toNat]'(by omega)).kind = 0
    · rw [if_pos hk, hk]; rfl
    · have e : ((d.nodes[i.toNat]'(by omega)).kind == 0) = false := by simp [hk]
      rw [if_neg hk, e]; rfl
  · have e : decide (0 ≤ i ∧ i ≤ (d.nodes.length : Int) - 1) = false := by simp; omega
    rw [e, dif_neg h]; rfl
theorem ref06Get_eq (d : DiskD) (i : Int) : ref06Get d i = some (getP d.nodes i) := by
  unfold ref06Get getP
  rw [bool_if, bool_if]
  by_cases h : 0 ≤ i ∧ i < d.nodes.length
  · rw [if_neg (by omega), if_neg (by omega), dif_pos h, gt_int h]
    simp only [Option.bind_some]
    by_cases hk : (d.nodes[i.toNat]'(by omega)).kind = 0
    · rw [if_pos hk, hk]; rfl
    · have e : ((d.nodes[i.toNat]'(by omega)).kind == 0) = false := by simp [hk]
      rw [if_neg hk, e]; rfl
  · rw [dif_neg h]
    by_cases h1 : i < 0
    · rw [if_pos h1]; rfl
    · rw [if_neg h1, if_pos (by omega)]; rfl

/-! ### the way up -/
def walk (l : List NodeD) : Nat → Int → Bool
  | 0, i => i == 0
  | n + 1, i => if i = 0 then true else if (getP l i).2 = true ∧ (getP l i).1.kind = 2 then walk l n (getP l i).1.up else false
theorem diskRooted_eq (d : DiskD) (i : Int) (hl : d.nodes.length ≤ 1000000) : diskDiskRooted d i = some (walk d.nodes d.nodes.length i) := by
  unfold diskDiskRooted
  obtain ⟨b, h1, h2⟩ := iter_val (f := diskDiskRooted_b2 (d.nodes.length : Int) d.nodes d.most d.room) (fun i a => a.2 = (i : Int)) d.nodes.length (fun a => walk d.nodes (d.nodes.length - a.2.toNat) a.1)
    (fun b r => (∃ v, b = .inl v ∧ r = (v.1 == 0)) ∨ (∃ v, b = .inr (.inl v) ∧ r = (v.1 == 0)) ∨ (∃ v, b = .inr (.inr (.inl v)) ∧ r = (v.1 == 0)) ∨ ∃ v, b = .inr (.inr (.inr v)) ∧ r = (v.1 == 0)) (by
      rintro i ⟨v0, v1⟩ hi h
      simp only at h
      subst h
      have hF : walk d.nodes (d.nodes.length - (i : Int).toNat) v0 = if v0 = 0 then true else if (getP d.nodes v0).2 = true ∧ (getP d.nodes v0).1.kind = 2 then walk d.nodes (d.nodes.length - (i + 1)) (getP d.nodes v0).1.up else false := by
        rw [Int.toNat_natCast, show d.nodes.length - i = (d.nodes.length - (i + 1)) + 1 by omega]; rfl
      simp only [hF]
      unfold diskDiskRooted_b2
      simp only [lt_true hi, cond_true, diskGet_eq ⟨d.nodes, d.most, d.room⟩ v0 (by simp only; omega), Option.bind_some, w64_succ (i := i) (by omega)]
      by_cases h0 : v0 = 0
      · subst h0
        exact .inr ⟨_, rfl, .inl ⟨_, rfl, rfl⟩⟩
      · have e0 : (v0 == 0) = false := by simp [h0]
        rw [e0, if_neg h0]
        simp only [cond_false]
        cases h1 : (getP d.nodes v0).2 with
        | false => exact .inr ⟨_, rfl, .inr (.inl ⟨_, rfl, by simp [e0]⟩)⟩
        | true =>
          simp only [Bool.not_true, cond_false]
          by_cases h2 : (getP d.nodes v0).1.kind = 2
          · have e2 : ((getP d.nodes v0).1.kind != 2) = false := by simp [h2]
            rw [e2]
            exact .inl ⟨_, rfl, rfl, by simp [h2]⟩
          · have e2 : ((getP d.nodes v0).1.kind != 2) = true := by simp [h2]
            rw [e2]
            exact .inr ⟨_, rfl, .inr (.inr (.inl ⟨_, rfl, by simp [h2, e0]⟩))⟩) (by
      rintro ⟨v0, v1⟩ h
      simp only at h
      subst h
      unfold diskDiskRooted_b2
      simp only [lt_false, cond_false]
      exact ⟨_, rfl, .inr (.inr (.inr ⟨_, rfl, by simp [walk]⟩))⟩) (lt_LF (by omega)) (a := (i, (0 : Int))) rfl
  rw [h1]
  simp only [Int.toNat_zero, Nat.sub_zero] at h2
  rcases h2 with ⟨v, rfl, h⟩ | ⟨v, rfl, h⟩ | ⟨v, rfl, h⟩ | ⟨v, rfl, h⟩ <;> rw [h] <;> rfl
theorem ref06Rooted_eq (d : DiskD) (i : Int) (hl : d.nodes.length ≤ 1000000) : ref06Rooted d i = some (walk d.nodes d.nodes.length i) := by
  unfold ref06Rooted
  obtain ⟨b, h1, h2⟩ := iter_val (f := ref06Rooted_b2 d.nodes d.most d.room) (fun i a => a.2 = (i : Int)) (d.nodes.length + 1) (fun a => if a.2.toNat ≤ d.nodes.length then walk d.nodes (d.nodes.length - a.2.toNat) a.1 else false)
    (fun b r => (∃ v, b = .inl v ∧ r = true) ∨ (∃ v, b = .inr (.inl v) ∧ r = false) ∨ (∃ v, b = .inr (.inr (.inl v)) ∧ r = false) ∨ ∃ v, b = .inr (.inr (.inr v)) ∧ r = false) (by
      rintro i ⟨v0, v1⟩ hi h
      simp only at h
      subst h
      have hle : i ≤ d.nodes.length := by omega
      have hlt : decide ((i : Int) ≤ (d.nodes.length : Int)) = true := by simp; exact hle
      simp only [Int.toNat_natCast, if_pos hle]
      unfold ref06Rooted_b2
      simp only [hlt, cond_true, ref06Get_eq, Option.bind_some, w64_succ (i := i) (by omega)]
      by_cases h0 : v0 = 0
      · subst h0
        refine .inr ⟨_, rfl, .inl ⟨_, rfl, ?_⟩⟩
        cases d.nodes.length - i <;> rfl
      · have e0 : (v0 == 0) = false := by simp [h0]
        have hF : walk d.nodes (d.nodes.length - i) v0 = if (getP d.nodes v0).2 = true ∧ (getP d.nodes v0).1.kind = 2 then (if i + 1 ≤ d.nodes.length then walk d.nodes (d.nodes.length - (i + 1)) (getP d.nodes v0).1.up else false) else false := by
          rcases Nat.lt_or_ge i d.nodes.length with h | h
          · rw [show d.nodes.length - i = (d.nodes.length - (i + 1)) + 1 by omega]
            simp only [walk, if_neg h0, if_pos (show i + 1 ≤ d.nodes.length by omega)]
          · rw [show d.nodes.length - i = 0 by omega, if_neg (show ¬ i + 1 ≤ d.nodes.length by omega)]
            simp only [walk, e0, ite_self]
        rw [e0, hF]
        simp only [cond_false]
        cases h1 : (getP d.nodes v0).2 with
        | false => exact .inr ⟨_, rfl, .inr (.inl ⟨_, rfl, by simp⟩)⟩
        | true =>
          simp only [Bool.not_true, cond_false]
          by_cases h2 : (getP d.nodes v0).1.kind = 2
          · have e2 : ((getP d.nodes v0).1.kind != 2) = false := by simp [h2]
            rw [e2]
            exact .inl ⟨_, rfl, rfl, by simp [h2]⟩
          · have e2 : ((getP d.nodes v0).1.kind != 2) = true := by simp [h2]
            rw [e2]
            exact .inr ⟨_, rfl, .inr (.inr (.inl ⟨_, rfl, by simp [h2]⟩))⟩) (by
      rintro ⟨v0, v1⟩ h
      simp only at h
      subst h
      unfold ref06Rooted_b2
      have hlt : decide (((d.nodes.length + 1 : Nat) : Int) ≤ (d.nodes.length : Int)) = false := by simp; omega
      simp only [hlt, cond_false]
      exact ⟨_, rfl, .inr (.inr (.inr ⟨_, rfl, by simp only [Int.toNat_natCast]; rw [if_neg (by omega)]⟩))⟩) (lt_LF (by omega)) (a := (i, (0 : Int))) rfl
  rw [h1]
  simp only [Int.toNat_zero, Nat.sub_zero, Nat.zero_le, if_true] at h2
  rcases h2 with ⟨v, rfl, h⟩ | ⟨v, rfl, h⟩ | ⟨v, rfl, h⟩ | ⟨v, rfl, h⟩ <;> rw [h] <;> rfl

/-! ### names -/
def rowF (k i : Int) : Int × Int → List Ent → Int × Int
  | s, [] => s
  | s, e :: es => rowF k i (if e.ino = i then (s.1 + 1, k) else s) es
def allF (i : Int) : Nat → Int × Int → List NodeD → Int × Int
  | _, s, [] => s
  | k, s, n :: l => allF i (k + 1) (rowF k i s n.names) l
theorem rowF_le (k i : Int) : ∀ (es : List Ent) (s : Int × Int), s.1 ≤ (rowF k i s es).1 ∧ (rowF k i s es).1 ≤ s.1 + es.length
  | [], s => by simp [rowF]
  | e :: es, s => by
    have := rowF_le k i es (if e.ino = i then (s.1 + 1, k) else s)
    simp only [rowF, List.length_cons]
    split at this <;> rename_i h
    · rw [if_pos h]; simp only at this; omega
    · rw [if_neg h]; omega
theorem inames_row (p0 p1 p3 p4 : Int) (l : List NodeD) (n : NodeD) (hg : gt l p1 = some n) (hn : n.names.length ≤ 1000) (s : Int × Int) (h0 : 0 ≤ s.1) (h1 : s.1 ≤ 1000000) :
    ∃ b, iterN (ref06Names_b7x1 p0 p1 l p3 p4) LF (s.1, s.2, (0 : Int)) = some b ∧ (b.1, b.2.1) = rowF p1 p0 s n.names := by
  obtain ⟨b, h1, h2⟩ := iter_val (f := ref06Names_b7x1 p0 p1 l p3 p4) (fun j a => a.2.2 = (j : Int) ∧ 0 ≤ a.1 ∧ a.1 ≤ s.1 + j) n.names.length (fun a => rowF p1 p0 (a.1, a.2.1) (n.names.drop a.2.2.toNat)) (fun b r => (b.1, b.2.1) = r) (by
      rintro j ⟨v0, v1, v2⟩ hj ⟨h, h2, h3⟩
      simp only at h h2 h3
      subst h
      have hF : rowF p1 p0 (v0, v1) (n.names.drop ((j : Int)).toNat) = rowF p1 p0 (if n.names[j].ino = p0 then (v0 + 1, p1) else (v0, v1)) (n.names.drop (j + 1)) := by
        rw [Int.toNat_natCast, List.drop_eq_getElem_cons hj]; rfl
      simp only [hF]
      unfold ref06Names_b7x1
      simp only [hg, Option.bind_some, lt_true hj, cond_true, gt_nat hj, w64_succ (i := j) (by omega)]
      left
      by_cases hc : n.names[j].ino = p0
      · have e : (n.names[j].ino == p0) = true := by simp [hc]
        rw [e, if_pos hc]
        refine ⟨_, rfl, ⟨rfl, ?_, ?_⟩, ?_⟩
        · simp only; rw [w64_eq (by omega) (by omega)]; omega
        · simp only; rw [w64_eq (by omega) (by omega)]; omega
        · simp only [Int.toNat_natCast]; rw [w64_eq (by omega) (by omega)]
      · have e : (n.names[j].ino == p0) = false := by simp [hc]
        rw [e, if_neg hc]
        exact ⟨_, rfl, ⟨rfl, h2, by simp only; omega⟩, by simp only [Int.toNat_natCast]⟩) (by
      rintro ⟨v0, v1, v2⟩ ⟨h, h2, h3⟩
      simp only at h h2 h3
      subst h
      unfold ref06Names_b7x1
      simp only [hg, Option.bind_some, lt_false, cond_false]
      exact ⟨_, rfl, by simp [rowF]⟩) (lt_LF (by omega)) (a := (s.1, s.2, (0 : Int))) ⟨rfl, h0, by simp only; omega⟩
  exact ⟨b, h1, by simpa using h2⟩
theorem ref06Names_eq (d : DiskD) (i : Int) (hl : d.nodes.length ≤ 1000) (hn : ∀ n ∈ d.nodes, n.names.length ≤ 1000) : ref06Names d i = some (allF i 0 (0, -1) d.nodes) := by
  unfold ref06Names
  obtain ⟨b, h1, h2⟩ := iter_val (f := ref06Names_b4 i d.nodes d.most d.room) (fun k a => a.2.2 = (k : Int) ∧ 0 ≤ a.1 ∧ a.1 ≤ 1000 * k) d.nodes.length (fun a => allF i a.2.2.toNat (a.1, a.2.1) (d.nodes.drop a.2.2.toNat)) (fun b r => (b.1, b.2.1) = r) (by
      rintro k ⟨v0, v1, v2⟩ hk ⟨h, h2, h3⟩
      simp only at h h2 h3
      subst h
      have hF : allF i ((k : Int)).toNat (v0, v1) (d.nodes.drop ((k : Int)).toNat) = allF i (k + 1) (rowF k i (v0, v1) d.nodes[k].names) (d.nodes.drop (k + 1)) := by
        rw [Int.toNat_natCast, List.drop_eq_getElem_cons hk]; rfl
      simp only [hF]
      unfold ref06Names_b4
      have hln := hn _ (List.getElem_mem hk)
      obtain ⟨b, h4, h5⟩ := inames_row i (k : Int) d.most d.room d.nodes d.nodes[k] (gt_nat hk) hln (v0, v1) h2 (by simp only; omega)
      simp only at h4
      simp only [lt_true hk, cond_true, h4, Option.bind_some, w64_succ (i := k) (by omega)]
      have h6 := rowF_le (k : Int) i d.nodes[k].names (v0, v1)
      rw [← h5] at h6 ⊢
      simp only at h6
      exact .inl ⟨_, rfl, ⟨rfl, by simp only; omega, by simp only; omega⟩, by simp only [Int.toNat_natCast]⟩) (by
      rintro ⟨v0, v1, v2⟩ ⟨h, h2, h3⟩
      simp only at h h2 h3
      subst h
      unfold ref06Names_b4
      simp only [lt_false, cond_false]
      exact ⟨_, rfl, by simp [allF]⟩) (lt_LF (by omega)) (a := ((0 : Int), (-1 : Int), (0 : Int))) ⟨rfl, by simp, by simp⟩
  rw [h1]
  simp only [Int.toNat_zero, List.drop_zero] at h2
  rw [← h2]; rfl
theorem room_le {n : Nat} (h : n ≤ 1000000) : room n 88 := room_lo h (by omega)
theorem diskSet_eq (d : DiskD) (i : Nat) (n : NodeD) (hi : i < d.nodes.length) (hl : d.nodes.length ≤ 1000000) : diskSet d (i : Int) n = some ⟨d.nodes.set i n, d.most, d.room⟩ := by
  unfold diskSet
  rw [between_eq, w64_eq (by omega) (by omega)]
  have e : decide (0 ≤ (i : Int) ∧ (i : Int) ≤ (d.nodes.length : Int) - 1) = true := by simp; omega
  have e2 : d.nodes.isEmpty = false := by cases h : d.nodes with
    | nil => rw [h] at hi; simp at hi
    | cons a t => rfl
  rw [e, e2]
  simp only [Option.bind_some, cond_true, cond_false, grd_pos (room_le hl), gt_nat hi, Int.toNat_natCast]
end Go.Proofs.Ytfllhakmjookkaa.Den
