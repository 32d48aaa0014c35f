/- Plain laws of options: groups of letters, as the program and as the document take them. -/
import Derived.Test.YtbidfkibpjjghaaDoorPlOpt
set_option linter.unusedVariables false
set_option linter.unusedSimpArgs false
namespace Go.Proofs.YtbidfkibpjjghaaDoor.Den
open Go Go.RowKit

/-- Letters behind one dash: an error, or what is left of the arguments, and the flags. -/
def grpF (sp : List UInt8) : List UInt8 → List ByteArray → List FlagD → Int × List ByteArray × List FlagD
  | [], av, fl => (0, av, fl)
  | c :: g, av, fl =>
    if kindF sp c = 0 then (30, [], [])
    else if kindF sp c = 2 then
      match g with
      | [] => match av with
        | [] => (31, [], [])
        | a :: av' => (0, av', fl ++ [⟨(c.toNat : Int), a⟩])
      | d :: g' => (0, av, fl ++ [⟨(c.toNat : Int), bs (d :: g')⟩])
    else grpF sp g av (fl ++ [⟨(c.toNat : Int), bs []⟩])
theorem kindF_cases (sp : List UInt8) (c : UInt8) : kindF sp c = 0 ∨ kindF sp c = 2 ∨ kindF sp c = 1 := by
  unfold kindF; split
  · exact .inl rfl
  · split
    · split
      · exact .inr (.inl rfl)
      · exact .inr (.inr rfl)
    · exact .inl rfl
theorem seq_nil (l : List UInt8) : seq (bs l) (bs []) = l.isEmpty := by rw [seq_by, by_bs, by_bs]; cases l <;> rfl
theorem ext_tail (c : UInt8) (g : List UInt8) : (bs (c :: g)).extract ((1 : Int)).toNat (bs (c :: g)).size = bs g := by
  apply by_inj; show by_ ((bs (c :: g)).extract 1 _) = _; rw [by_drop, by_bs, by_bs]; rfl
theorem ext_head (c : UInt8) (g : List UInt8) : (bs (c :: g)).extract 0 ((1 : Int)).toNat = bs [c] := by
  apply by_inj; show by_ ((bs (c :: g)).extract 0 1) = _; rw [by_take, by_bs, by_bs]; rfl
theorem gtS_cons (c : UInt8) (g : List UInt8) : gtS (bs (c :: g)) (0 : Int) = some c := gtS_by (bs (c :: g)) 0
theorem size_bs (l : List UInt8) : (bs l).size = l.length := rfl
theorem room24 {n : Nat} (h : n ≤ 1000000000) : room n 24 := ⟨by omega, by omega⟩
theorem room16 {n : Nat} (h : n ≤ 1000000000) : room n 16 := ⟨by omega, by omega⟩
theorem gt_head {α : Type} (a : α) (l : List α) : gt (a :: l) (0 : Int) = some a := rfl
theorem next_eq (s a : ByteArray) (av : List ByteArray) : optionTakerNext s (a :: av) = some (a, s, av) := by
  unfold optionTakerNext
  rw [gt_head, Option.bind_some, grd_pos (by simp; omega)]; rfl
theorem next2_eq (s a : ByteArray) (av : List ByteArray) (fl : List FlagD) : optionTakerNext2 s (a :: av) fl = some (a, s, av, fl) := by
  unfold optionTakerNext2
  rw [gt_head, Option.bind_some, grd_pos (by simp; omega)]; rfl

/-! ### the program's groups -/
abbrev GS1 := (ByteArray × ByteArray × (List ByteArray)) ⊕ (ByteArray × ByteArray × (List ByteArray) × (List FlagD))
def absS1 : GS1 → ByteArray × ByteArray × List ByteArray × List FlagD
  | .inl (g, s, a) => (g, s, a, [])
  | .inr (g, s, a, f) => (g, s, a, f)
abbrev GO1 := (ByteArray × (List ByteArray)) ⊕ (ByteArray × (List ByteArray)) ⊕ (ByteArray × (List ByteArray)) ⊕ (ByteArray × (List ByteArray) × (List FlagD)) ⊕ (ByteArray × (List ByteArray) × (List FlagD)) ⊕ (ByteArray × (List ByteArray) × (List FlagD))
/-- What a group comes to. -/
def absG1 : GO1 → ByteArray → Int × List ByteArray × List FlagD → Prop
  | .inl _, _, r => r = (30, [], [])
  | .inr (.inl _), _, r => r = (31, [], [])
  | .inr (.inr (.inl (s', a))), s, r => s' = s ∧ r = (0, a, [])
  | .inr (.inr (.inr (.inl _))), _, r => r = (30, [], [])
  | .inr (.inr (.inr (.inr (.inl _)))), _, r => r = (31, [], [])
  | .inr (.inr (.inr (.inr (.inr (s', a, f))))), s, r => s' = s ∧ r = (0, a, f)
abbrev GX1 := ((ByteArray × ByteArray × (List ByteArray) × UInt8 × UInt8 × Int) ⊕ (ByteArray × ByteArray × (List ByteArray) × UInt8 × UInt8 × Int) ⊕ (ByteArray × ByteArray × (List ByteArray)) ⊕ (ByteArray × ByteArray × (List ByteArray) × (List FlagD) × UInt8 × UInt8 × Int) ⊕ (ByteArray × ByteArray × (List ByteArray) × (List FlagD) × UInt8 × UInt8 × Int) ⊕ (ByteArray × ByteArray × (List ByteArray) × (List FlagD)))
def absX1 : GX1 → ByteArray → Int × List ByteArray × List FlagD → Prop
  | .inl _, _, r => r = (30, [], [])
  | .inr (.inl _), _, r => r = (31, [], [])
  | .inr (.inr (.inl (_, s', a))), s, r => s' = s ∧ r = (0, a, [])
  | .inr (.inr (.inr (.inl _))), _, r => r = (30, [], [])
  | .inr (.inr (.inr (.inr (.inl _)))), _, r => r = (31, [], [])
  | .inr (.inr (.inr (.inr (.inr (_, s', a, f))))), s, r => s' = s ∧ r = (0, a, f)
theorem b1_nil (s : ByteArray) (a : List ByteArray) (f : List FlagD) (st : GS1) (h : absS1 st = (bs [], s, a, f)) : ∃ x, optionTakerGroup_b1 st = some (.inr x) ∧ absX1 x s (0, a, f) := by
  rcases st with ⟨v0, v1, v2⟩ | ⟨v0, v1, v2, v3⟩ <;> simp only [absS1, Prod.mk.injEq] at h
  · obtain ⟨rfl, rfl, rfl, rfl⟩ := h
    refine ⟨.inr (.inr (.inl (bs [], v1, v2))), ?_, rfl, rfl⟩
    simp only [optionTakerGroup_b1, seq_nil, List.isEmpty_nil, Bool.not_true, cond_false]
  · obtain ⟨rfl, rfl, rfl, rfl⟩ := h
    refine ⟨.inr (.inr (.inr (.inr (.inr (bs [], v1, v2, v3))))), ?_, rfl, rfl⟩
    simp only [optionTakerGroup_b1, seq_nil, List.isEmpty_nil, Bool.not_true, cond_false]
theorem group1_loop (s : ByteArray) (hs : s.size < 4294967281) : ∀ (g : List UInt8) (a : List ByteArray) (f : List FlagD) (st : GS1), absS1 st = (bs g, s, a, f) → f.length + g.length ≤ 100000000 →
    ∃ x, iterN optionTakerGroup_b1 (g.length + 2) st = some x ∧ absX1 x s (grpF (by_ s) g a f)
  | [], a, f, st, h, hb => by
    obtain ⟨x, h1, h2⟩ := b1_nil s a f st h
    exact ⟨x, iterN_done h1, h2⟩
  | c :: g, a, f, st, h, hb => by
    have hk := optionKind_eq s c hs
    have hlen : (c :: g).length = g.length + 1 := rfl
    have hg1 : (0 : Int) ≤ (1 : Int) ∧ (1 : Int) ≤ ((bs (c :: g)).size : Int) ∧ ((bs (c :: g)).size : Int) ≤ ((bs (c :: g)).size : Int) := by rw [size_bs]; simp <;> omega
    have hg0 : (0 : Int) ≤ (0 : Int) ∧ (0 : Int) ≤ (1 : Int) ∧ (1 : Int) ≤ ((bs (c :: g)).size : Int) := by rw [size_bs]; simp <;> omega
    have hg2 : (0 : Int) ≤ (1 : Int) ∧ (1 : Int) ≤ ((bs [c]).size : Int) ∧ ((bs [c]).size : Int) ≤ ((bs [c]).size : Int) := by rw [size_bs]; simp <;> omega
    have het : (bs [c]).extract ((1 : Int)).toNat (bs [c]).size = bs [] := ext_tail c []
    have hr : room (f.length + 1) 24 := room24 (by rw [hlen] at hb; omega)
    have hne : (c :: g).isEmpty = false := rfl
    rcases st with ⟨v0, v1, v2⟩ | ⟨v0, v1, v2, v3⟩ <;> simp only [absS1, Prod.mk.injEq] at h
    · obtain ⟨rfl, rfl, rfl, rfl⟩ := h
      rcases kindF_cases (by_ v1) c with h0 | h0 | h0
      · refine ⟨.inl (bs (c :: g), v1, v2, c, c, 0), iterN_done ?_, ?_⟩
        · simp only [optionTakerGroup_b1, seq_nil, hne, Bool.not_false, cond_true, gtS_cons, Option.bind_some, hk, h0, beq_self_eq_true]
        · unfold grpF; rw [if_pos h0]; rfl
      · have e0 : ((2 : Int) == (0 : Int)) = false := rfl
        unfold grpF
        rw [h0, if_neg (by decide), if_pos rfl]
        cases g with
        | nil =>
          cases v2 with
          | nil =>
            refine ⟨.inr (.inl (bs [c], v1, [], c, c, 2)), iterN_done ?_, rfl⟩
            simp only [optionTakerGroup_b1, seq_nil, hne, Bool.not_false, cond_true, gtS_cons, Option.bind_some, hk, h0, e0, cond_false, beq_self_eq_true, grd_pos hg1, grd_pos hg0, ext_tail, List.isEmpty_nil, List.length_nil]
            rfl
          | cons b v2 =>
            obtain ⟨x, h1, h2⟩ := b1_nil v1 v2 [⟨(c.toNat : Int), b⟩] (.inr (bs [], v1, v2, [⟨(c.toNat : Int), b⟩])) rfl
            refine ⟨x, iterN_step (a' := .inr (bs [], v1, v2, [⟨(c.toNat : Int), b⟩])) ?_ (iterN_done h1), h2⟩
            have e1 : (((b :: v2).length : Int) == (0 : Int)) = false := by simp; omega
            simp only [optionTakerGroup_b1, seq_nil, hne, Bool.not_false, cond_true, gtS_cons, Option.bind_some, hk, h0, e0, cond_false, beq_self_eq_true, grd_pos hg1, grd_pos hg0, ext_tail, List.isEmpty_nil, e1, next_eq, ext_head, grd_pos hg2]
        | cons d g =>
          obtain ⟨x, h1, h2⟩ := b1_nil v1 v2 [⟨(c.toNat : Int), bs (d :: g)⟩] (.inr (bs [], v1, v2, [⟨(c.toNat : Int), bs (d :: g)⟩])) rfl
          refine ⟨x, iterN_step (a' := .inr (bs [], v1, v2, [⟨(c.toNat : Int), bs (d :: g)⟩])) ?_ (iterN_more (iterN_done (n := 0) h1) (by omega)), h2⟩
          have e1 : (d :: g).isEmpty = false := rfl
          simp only [optionTakerGroup_b1, seq_nil, hne, Bool.not_false, cond_true, gtS_cons, Option.bind_some, hk, h0, e0, cond_false, beq_self_eq_true, grd_pos hg1, grd_pos hg0, ext_tail, e1, ext_head, grd_pos hg2, List.isEmpty_nil]
      · have e0 : ((1 : Int) == (0 : Int)) = false := rfl
        have e2 : ((1 : Int) == (2 : Int)) = false := rfl
        obtain ⟨x, h1, h2⟩ := group1_loop v1 hs g v2 [⟨(c.toNat : Int), bs []⟩] (.inr (bs g, v1, v2, [⟨(c.toNat : Int), bs []⟩])) rfl (by rw [hlen] at hb; simp at hb ⊢; omega)
        refine ⟨x, iterN_step (a' := .inr (bs g, v1, v2, [⟨(c.toNat : Int), bs []⟩])) ?_ h1, ?_⟩
        · simp only [optionTakerGroup_b1, seq_nil, hne, Bool.not_false, cond_true, gtS_cons, Option.bind_some, hk, h0, e0, e2, cond_false, beq_self_eq_true, grd_pos hg1, ext_tail]
        · unfold grpF; rw [h0, if_neg (by decide), if_neg (by decide)]; exact h2
    · obtain ⟨rfl, rfl, rfl, rfl⟩ := h
      rcases kindF_cases (by_ v1) c with h0 | h0 | h0
      · refine ⟨.inr (.inr (.inr (.inl (bs (c :: g), v1, v2, v3, c, c, 0)))), iterN_done ?_, ?_⟩
        · simp only [optionTakerGroup_b1, seq_nil, hne, Bool.not_false, cond_true, gtS_cons, Option.bind_some, hk, h0, beq_self_eq_true]
        · unfold grpF; rw [if_pos h0]; rfl
      · have e0 : ((2 : Int) == (0 : Int)) = false := rfl
        unfold grpF
        rw [h0, if_neg (by decide), if_pos rfl]
        cases g with
        | nil =>
          cases v2 with
          | nil =>
            refine ⟨.inr (.inr (.inr (.inr (.inl (bs [c], v1, [], v3, c, c, 2))))), iterN_done ?_, rfl⟩
            simp only [optionTakerGroup_b1, seq_nil, hne, Bool.not_false, cond_true, gtS_cons, Option.bind_some, hk, h0, e0, cond_false, beq_self_eq_true, grd_pos hg1, grd_pos hg0, ext_tail, List.isEmpty_nil, List.length_nil]
            rfl
          | cons b v2 =>
            obtain ⟨x, h1, h2⟩ := b1_nil v1 v2 (v3 ++ [⟨(c.toNat : Int), b⟩]) (.inr (bs [], v1, v2, v3 ++ [⟨(c.toNat : Int), b⟩])) rfl
            refine ⟨x, iterN_step (a' := .inr (bs [], v1, v2, v3 ++ [⟨(c.toNat : Int), b⟩])) ?_ (iterN_done h1), h2⟩
            have e1 : (((b :: v2).length : Int) == (0 : Int)) = false := by simp; omega
            simp only [optionTakerGroup_b1, seq_nil, hne, Bool.not_false, cond_true, gtS_cons, Option.bind_some, hk, h0, e0, cond_false, beq_self_eq_true, grd_pos hg1, grd_pos hg0, ext_tail, List.isEmpty_nil, e1, next2_eq, grd_pos hr, ext_head, grd_pos hg2]
        | cons d g =>
          obtain ⟨x, h1, h2⟩ := b1_nil v1 v2 (v3 ++ [⟨(c.toNat : Int), bs (d :: g)⟩]) (.inr (bs [], v1, v2, v3 ++ [⟨(c.toNat : Int), bs (d :: g)⟩])) rfl
          refine ⟨x, iterN_step (a' := .inr (bs [], v1, v2, v3 ++ [⟨(c.toNat : Int), bs (d :: g)⟩])) ?_ (iterN_more (iterN_done (n := 0) h1) (by omega)), h2⟩
          have e1 : (d :: g).isEmpty = false := rfl
          simp only [optionTakerGroup_b1, seq_nil, hne, Bool.not_false, cond_true, gtS_cons, Option.bind_some, hk, h0, e0, cond_false, beq_self_eq_true, grd_pos hg1, grd_pos hg0, ext_tail, e1, grd_pos hr, ext_head, grd_pos hg2, List.isEmpty_nil]
      · have e0 : ((1 : Int) == (0 : Int)) = false := rfl
        have e2 : ((1 : Int) == (2 : Int)) = false := rfl
        obtain ⟨x, h1, h2⟩ := group1_loop v1 hs g v2 (v3 ++ [⟨(c.toNat : Int), bs []⟩]) (.inr (bs g, v1, v2, v3 ++ [⟨(c.toNat : Int), bs []⟩])) rfl (by rw [hlen] at hb; simp at hb ⊢; omega)
        refine ⟨x, iterN_step (a' := .inr (bs g, v1, v2, v3 ++ [⟨(c.toNat : Int), bs []⟩])) ?_ h1, ?_⟩
        · simp only [optionTakerGroup_b1, seq_nil, hne, Bool.not_false, cond_true, gtS_cons, Option.bind_some, hk, h0, e0, e2, cond_false, beq_self_eq_true, grd_pos hg1, grd_pos hr, ext_tail]
        · unfold grpF; rw [h0, if_neg (by decide), if_neg (by decide)]; exact h2
theorem group1_eq (g s : ByteArray) (a : List ByteArray) (hs : s.size < 4294967281) (hg : g.size ≤ 1000000) : ∃ y, optionTakerGroup g s a = some y ∧ absG1 y s (grpF (by_ s) (by_ g) a []) := by
  obtain ⟨x, h1, h2⟩ := group1_loop s hs (by_ g) a [] (.inl (g, s, a)) rfl (by rw [← size_by]; simp; omega)
  have h3 := iterN_LF h1 (by rw [← size_by]; omega)
  unfold optionTakerGroup
  rw [h3, Option.bind_some]
  rcases x with ⟨v1, v2, v3, b1, b2, r1⟩ | ⟨v1, v2, v3, b1, b2, r1⟩ | ⟨v1, v2, v3⟩ | ⟨v1, v2, v3, v4, b1, b2, r1⟩ | ⟨v1, v2, v3, v4, b1, b2, r1⟩ | ⟨v1, v2, v3, v4⟩ <;> exact ⟨_, rfl, h2⟩

/-! ### with flags ahead of it -/
abbrev GS2 := (ByteArray × ByteArray × (List ByteArray) × (List FlagD)) ⊕ (ByteArray × ByteArray × (List ByteArray) × (List FlagD))
def absS2 : GS2 → ByteArray × ByteArray × List ByteArray × List FlagD
  | .inl x => x
  | .inr x => x
abbrev GO2 := (ByteArray × (List ByteArray) × (List FlagD)) ⊕ (ByteArray × (List ByteArray) × (List FlagD)) ⊕ (ByteArray × (List ByteArray) × (List FlagD)) ⊕ (ByteArray × (List ByteArray) × (List FlagD)) ⊕ (ByteArray × (List ByteArray) × (List FlagD)) ⊕ (ByteArray × (List ByteArray) × (List FlagD))
def absG2 : GO2 → ByteArray → Int × List ByteArray × List FlagD → Prop
  | .inl _, _, r => r = (30, [], [])
  | .inr (.inl _), _, r => r = (31, [], [])
  | .inr (.inr (.inl (s', a, f))), s, r => s' = s ∧ r = (0, a, f)
  | .inr (.inr (.inr (.inl _))), _, r => r = (30, [], [])
  | .inr (.inr (.inr (.inr (.inl _)))), _, r => r = (31, [], [])
  | .inr (.inr (.inr (.inr (.inr (s', a, f))))), s, r => s' = s ∧ r = (0, a, f)
abbrev GX2 := ((ByteArray × ByteArray × (List ByteArray) × (List FlagD) × UInt8 × UInt8 × Int) ⊕ (ByteArray × ByteArray × (List ByteArray) × (List FlagD) × UInt8 × UInt8 × Int) ⊕ (ByteArray × ByteArray × (List ByteArray) × (List FlagD)) ⊕ (ByteArray × ByteArray × (List ByteArray) × (List FlagD) × UInt8 × UInt8 × Int) ⊕ (ByteArray × ByteArray × (List ByteArray) × (List FlagD) × UInt8 × UInt8 × Int) ⊕ (ByteArray × ByteArray × (List ByteArray) × (List FlagD)))
def absX2 : GX2 → ByteArray → Int × List ByteArray × List FlagD → Prop
  | .inl _, _, r => r = (30, [], [])
  | .inr (.inl _), _, r => r = (31, [], [])
  | .inr (.inr (.inl (_, s', a, f))), s, r => s' = s ∧ r = (0, a, f)
  | .inr (.inr (.inr (.inl _))), _, r => r = (30, [], [])
  | .inr (.inr (.inr (.inr (.inl _)))), _, r => r = (31, [], [])
  | .inr (.inr (.inr (.inr (.inr (_, s', a, f))))), s, r => s' = s ∧ r = (0, a, f)
theorem b2_nil (s : ByteArray) (a : List ByteArray) (f : List FlagD) (st : GS2) (h : absS2 st = (bs [], s, a, f)) : ∃ x, optionTakerGroup2_b1 st = some (.inr x) ∧ absX2 x s (0, a, f) := by
  rcases st with ⟨v0, v1, v2, v3⟩ | ⟨v0, v1, v2, v3⟩ <;> simp only [absS2, Prod.mk.injEq] at h
  · obtain ⟨rfl, rfl, rfl, rfl⟩ := h
    refine ⟨.inr (.inr (.inl (bs [], v1, v2, v3))), ?_, rfl, rfl⟩
    simp only [optionTakerGroup2_b1, seq_nil, List.isEmpty_nil, Bool.not_true, cond_false]
  · obtain ⟨rfl, rfl, rfl, rfl⟩ := h
    refine ⟨.inr (.inr (.inr (.inr (.inr (bs [], v1, v2, v3))))), ?_, rfl, rfl⟩
    simp only [optionTakerGroup2_b1, seq_nil, List.isEmpty_nil, Bool.not_true, cond_false]
theorem group2_loop (s : ByteArray) (hs : s.size < 4294967281) : ∀ (g : List UInt8) (a : List ByteArray) (f : List FlagD) (st : GS2), absS2 st = (bs g, s, a, f) → f.length + g.length ≤ 100000000 →
    ∃ x, iterN optionTakerGroup2_b1 (g.length + 2) st = some x ∧ absX2 x s (grpF (by_ s) g a f)
  | [], a, f, st, h, hb => by
    obtain ⟨x, h1, h2⟩ := b2_nil s a f st h
    exact ⟨x, iterN_done h1, h2⟩
  | c :: g, a, f, st, h, hb => by
    have hk := optionKind_eq s c hs
    have hlen : (c :: g).length = g.length + 1 := rfl
    have hg1 : (0 : Int) ≤ (1 : Int) ∧ (1 : Int) ≤ ((bs (c :: g)).size : Int) ∧ ((bs (c :: g)).size : Int) ≤ ((bs (c :: g)).size : Int) := by rw [size_bs]; simp <;> omega
    have hg0 : (0 : Int) ≤ (0 : Int) ∧ (0 : Int) ≤ (1 : Int) ∧ (1 : Int) ≤ ((bs (c :: g)).size : Int) := by rw [size_bs]; simp <;> omega
    have hg2 : (0 : Int) ≤ (1 : Int) ∧ (1 : Int) ≤ ((bs [c]).size : Int) ∧ ((bs [c]).size : Int) ≤ ((bs [c]).size : Int) := by rw [size_bs]; simp <;> omega
    have hr : room (f.length + 1) 24 := room24 (by rw [hlen] at hb; omega)
    have hne : (c :: g).isEmpty = false := rfl
    rcases st with ⟨v0, v1, v2, v3⟩ | ⟨v0, v1, v2, v3⟩ <;> simp only [absS2, Prod.mk.injEq] at h <;> obtain ⟨rfl, rfl, rfl, rfl⟩ := h
    all_goals
      rcases kindF_cases (by_ v1) c with h0 | h0 | h0
      · first
          | (refine ⟨.inl (bs (c :: g), v1, v2, v3, c, c, 0), iterN_done ?_, ?_⟩
             · simp only [optionTakerGroup2_b1, seq_nil, hne, Bool.not_false, cond_true, gtS_cons, Option.bind_some, hk, h0, beq_self_eq_true]; done
             · unfold grpF; rw [if_pos h0]; rfl)
          | (refine ⟨.inr (.inr (.inr (.inl (bs (c :: g), v1, v2, v3, c, c, 0)))), iterN_done ?_, ?_⟩
             · simp only [optionTakerGroup2_b1, seq_nil, hne, Bool.not_false, cond_true, gtS_cons, Option.bind_some, hk, h0, beq_self_eq_true]; done
             · unfold grpF; rw [if_pos h0]; rfl)
      · have e0 : ((2 : Int) == (0 : Int)) = false := rfl
        unfold grpF
        rw [h0, if_neg (by decide), if_pos rfl]
        cases g with
        | nil =>
          cases v2 with
          | nil =>
            first
              | (refine ⟨.inr (.inl (bs [c], v1, [], v3, c, c, 2)), iterN_done ?_, rfl⟩
                 simp only [optionTakerGroup2_b1, seq_nil, hne, Bool.not_false, cond_true, gtS_cons, Option.bind_some, hk, h0, e0, cond_false, beq_self_eq_true, grd_pos hg1, grd_pos hg0, ext_tail, List.isEmpty_nil, List.length_nil]
                 rfl)
              | (refine ⟨.inr (.inr (.inr (.inr (.inl (bs [c], v1, [], v3, c, c, 2))))), iterN_done ?_, rfl⟩
                 simp only [optionTakerGroup2_b1, seq_nil, hne, Bool.not_false, cond_true, gtS_cons, Option.bind_some, hk, h0, e0, cond_false, beq_self_eq_true, grd_pos hg1, grd_pos hg0, ext_tail, List.isEmpty_nil, List.length_nil]
                 rfl)
          | cons b v2 =>
            obtain ⟨x, h1, h2⟩ := b2_nil v1 v2 (v3 ++ [⟨(c.toNat : Int), b⟩]) (.inr (bs [], v1, v2, v3 ++ [⟨(c.toNat : Int), b⟩])) rfl
            refine ⟨x, iterN_step (a' := .inr (bs [], v1, v2, v3 ++ [⟨(c.toNat : Int), b⟩])) ?_ (iterN_done h1), h2⟩
            have e1 : (((b :: v2).length : Int) == (0 : Int)) = false := by simp; omega
            simp only [optionTakerGroup2_b1, seq_nil, hne, Bool.not_false, cond_true, gtS_cons, Option.bind_some, hk, h0, e0, cond_false, beq_self_eq_true, grd_pos hg1, grd_pos hg0, ext_tail, List.isEmpty_nil, e1, next2_eq, grd_pos hr, ext_head, grd_pos hg2]
        | cons d g =>
          obtain ⟨x, h1, h2⟩ := b2_nil v1 v2 (v3 ++ [⟨(c.toNat : Int), bs (d :: g)⟩]) (.inr (bs [], v1, v2, v3 ++ [⟨(c.toNat : Int), bs (d :: g)⟩])) rfl
          refine ⟨x, iterN_step (a' := .inr (bs [], v1, v2, v3 ++ [⟨(c.toNat : Int), bs (d :: g)⟩])) ?_ (iterN_more (iterN_done (n := 0) h1) (by omega)), h2⟩
          have e1 : (d :: g).isEmpty = false := rfl
          simp only [optionTakerGroup2_b1, seq_nil, hne, Bool.not_false, cond_true, gtS_cons, Option.bind_some, hk, h0, e0, cond_false, beq_self_eq_true, grd_pos hg1, grd_pos hg0, ext_tail, e1, grd_pos hr, ext_head, grd_pos hg2, List.isEmpty_nil]
      · have e0 : ((1 : Int) == (0 : Int)) = false := rfl
        have e2 : ((1 : Int) == (2 : Int)) = false := rfl
        obtain ⟨x, h1, h2⟩ := group2_loop v1 hs g v2 (v3 ++ [⟨(c.toNat : Int), bs []⟩]) (.inr (bs g, v1, v2, v3 ++ [⟨(c.toNat : Int), bs []⟩])) rfl (by rw [hlen] at hb; simp at hb ⊢; omega)
        refine ⟨x, iterN_step (a' := .inr (bs g, v1, v2, v3 ++ [⟨(c.toNat : Int), bs []⟩])) ?_ h1, ?_⟩
        · simp only [optionTakerGroup2_b1, seq_nil, hne, Bool.not_false, cond_true, gtS_cons, Option.bind_some, hk, h0, e0, e2, cond_false, beq_self_eq_true, grd_pos hg1, grd_pos hr, ext_tail]
        · unfold grpF; rw [h0, if_neg (by decide), if_neg (by decide)]; exact h2
theorem group2_eq (g s : ByteArray) (a : List ByteArray) (f : List FlagD) (hs : s.size < 4294967281) (hg : f.length + g.size ≤ 100000000) : ∃ y, optionTakerGroup2 g s a f = some y ∧ absG2 y s (grpF (by_ s) (by_ g) a f) := by
  obtain ⟨x, h1, h2⟩ := group2_loop s hs (by_ g) a f (.inl (g, s, a, f)) rfl (by rw [← size_by]; exact hg)
  have h3 := iterN_LF h1 (by rw [← size_by]; omega)
  unfold optionTakerGroup2
  rw [h3, Option.bind_some]
  rcases x with ⟨v1, v2, v3, v4, b1, b2, r1⟩ | ⟨v1, v2, v3, v4, b1, b2, r1⟩ | ⟨v1, v2, v3, v4⟩ | ⟨v1, v2, v3, v4, b1, b2, r1⟩ | ⟨v1, v2, v3, v4, b1, b2, r1⟩ | ⟨v1, v2, v3, v4⟩ <;> exact ⟨_, rfl, h2⟩

/-! ### what a group leaves -/
def tot (l : List ByteArray) : Nat := (l.map (·.size)).sum
theorem grpF_le (sp : List UInt8) : ∀ (g : List UInt8) (a : List ByteArray) (f : List FlagD) (e : Int) (a' : List ByteArray) (f' : List FlagD), grpF sp g a f = (e, a', f') → a'.length ≤ a.length ∧ f'.length + tot a' ≤ f.length + g.length + tot a
  | [], a, f, e, a', f', h => by simp only [grpF, Prod.mk.injEq] at h; obtain ⟨rfl, rfl, rfl⟩ := h; simp
  | c :: g, a, f, e, a', f', h => by
    unfold grpF at h
    split at h
    · simp only [Prod.mk.injEq] at h; obtain ⟨rfl, rfl, rfl⟩ := h; simp [tot]
    · split at h
      · cases g with
        | nil =>
          cases a with
          | nil => simp only [Prod.mk.injEq] at h; obtain ⟨rfl, rfl, rfl⟩ := h; simp [tot]
          | cons b a => simp only [Prod.mk.injEq] at h; obtain ⟨rfl, rfl, rfl⟩ := h; simp [tot] <;> omega
        | cons d g => simp only [Prod.mk.injEq] at h; obtain ⟨rfl, rfl, rfl⟩ := h; simp <;> omega
      · obtain ⟨h1, h2⟩ := grpF_le sp g a _ e a' f' h
        simp at h2 ⊢
        omega
theorem grpF_err (sp : List UInt8) : ∀ (g : List UInt8) (a : List ByteArray) (f : List FlagD), (grpF sp g a f).1 = 0 ∨ grpF sp g a f = (30, [], []) ∨ grpF sp g a f = (31, [], [])
  | [], a, f => .inl rfl
  | c :: g, a, f => by
    unfold grpF
    split
    · exact .inr (.inl rfl)
    · split
      · cases g with
        | nil => cases a with
          | nil => exact .inr (.inr rfl)
          | cons b a => exact .inl rfl
        | cons d g => exact .inl rfl
      · exact grpF_err sp g a _
end Go.Proofs.YtbidfkibpjjghaaDoor.Den
