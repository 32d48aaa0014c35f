/- Texts joined by a program of mine (pack.py): PlOpt PlGrp PlPar PlRefP PlH PlJob PlBase PlChk PlPars PlOptH PlStart18. -/
import Derived.Test.YtdbekeidlppfiaaGreatDoorDenTy
import Derived.Test.YtdbekeidlppfiaaGreatDoorDenF12
import Derived.Lib.ItoaLen
set_option linter.unusedVariables false
set_option linter.unusedSimpArgs false
namespace Go.Proofs.YtdbekeidlppfiaaGreatDoor.Den
open Go Go.RowKit
def hasPair (c : UInt8) : List UInt8 → Bool
 | [] => false
 | b :: l => (b == c && l.head? == some 58) || hasPair c l
def kindF (sp : List UInt8) (c : UInt8) : Int := if c = 58 then 0 else if sp.contains c then (if hasPair c sp then 2 else 1) else 0
theorem indexByte_neg (l : List UInt8) (c : UInt8) : decide (Lib.indexByte l c < 0) = !l.contains c := by
 induction l with
 | nil => simp [Lib.indexByte]
 | cons b l ih =>
  unfold Lib.indexByte
  have hge := Lib.indexByte_ge l c
  by_cases hb : (b == c) = true
  ·have : c = b := (by simpa using hb : b = c).symm
   simp [this]
  ·have hb' : (b == c) = false := by simpa using hb
   have hcb : ¬ c = b := fun e => by simp [e] at hb'
   rw [if_neg hb]
   have e1 : (b :: l).contains c = l.contains c := by simp [List.contains_cons, hcb]
   rw [e1, ← ih]
   by_cases h1 : Lib.indexByte l c = -1
   ·simp [h1]
   ·have : ¬ (Lib.indexByte l c == -1) = true := by simpa using h1
    rw [if_neg this]
    have hp : 0 ≤ Lib.indexByte l c := by omega
    rw [decide_eq_false (by omega), decide_eq_false (by omega)]
theorem contains_pair (c : UInt8) : ∀ sp : List UInt8, Lib.contains sp [c, 58] = hasPair c sp
 | [] => by simp [Lib.contains, Lib.index, hasPair]
 | b :: l => by
  have ih := contains_pair c l
  unfold Lib.contains at ih ⊢
  unfold Lib.index hasPair
  have hge := Lib.index_ge l [c, 58]
  by_cases hp : ([c, 58].isPrefixOf (b :: l)) = true
  ·rw [if_pos hp]
   have : (b == c && l.head? == some 58) = true := by
    cases l with
    | nil => simp [List.isPrefixOf] at hp
    | cons d l => simp [List.isPrefixOf] at hp ⊢; exact ⟨hp.1.symm, hp.2.symm⟩
   simp [this]
  ·rw [if_neg hp]
   have : (b == c && l.head? == some 58) = false := by
    rw [Bool.eq_false_iff]
    intro h
    apply hp
    cases l with
    | nil => simp at h
    | cons d l => simp [List.isPrefixOf] at h ⊢; exact ⟨h.1.symm, h.2.symm⟩
   rw [this, Bool.false_or, ← ih]
   by_cases h1 : Lib.index l [c, 58] = -1
   ·simp [h1]
   ·have : ¬ (Lib.index l [c, 58] == -1) = true := by simpa using h1
    rw [if_neg this, decide_eq_true (by omega), decide_eq_true (by omega)]
theorem u8_int (c : UInt8) : ((c.toNat : Int)).toNat.toUInt8 = c := by simp
theorem u8_beq (a b : UInt8) : ((a.toNat : Int) == (b.toNat : Int)) = (a == b) := by
 by_cases h : a = b
 ·subst h; rw [beq_self_eq_true, beq_self_eq_true]
 ·have : ¬ ((a.toNat : Int) = (b.toNat : Int)) := fun e => h (UInt8.toNat_inj.1 (by omega))
  rw [beq_false_of_ne h, beq_false_of_ne this]
theorem u8_lit (a : UInt8) (n : Nat) (hn : n < 256) : ((a.toNat : Int) == (n : Int)) = (a == UInt8.ofNat n) := by
 have := u8_beq a (UInt8.ofNat n)
 rwa [UInt8.toNat_ofNat_of_lt' (by simpa using hn)] at this
theorem optionKind_eq (spec : ByteArray) (c : UInt8) (h : spec.size < 4294967281) : optionKind spec (c.toNat : Int) = some (kindF (by_ spec) c) := by
 unfold optionKind kindF
 have e1 : ((c.toNat : Int) == (58 : Int)) = (c == 58) := u8_lit c 58 (by omega)
 rw [e1]
 by_cases h1 : c = 58
 ·subst h1; rfl
 ·have h1' : (c == 58) = false := by simpa using h1
  rw [h1', cond_false, if_neg h1]
  have e2 : ixbX spec (c.toNat : Int) = some (Lib.indexByte (by_ spec) c) := by
   unfold ixbX ixbV
   rw [u8_int]; rfl
  have e3 : conX spec (ByteArray.mk [UInt8.ofNat ((c.toNat : Int)).toNat, UInt8.ofNat ((58 : Int)).toNat].toArray) = some (hasPair c (by_ spec)) := by
   unfold conX conV
   rw [if_pos h, ← contains_pair]
   simp [by_]
  rw [e2, Option.bind_some, indexByte_neg, e3, Option.bind_some]
  cases (by_ spec).contains c
  ·rfl
  ·cases hasPair c (by_ spec) <;> rfl
theorem known_loop (spec : ByteArray) (c : UInt8) (hs : spec.size ≤ 1000000) : ∀ (l : List UInt8) (i : Nat) (x y : Bool), (by_ spec).drop i = l → i ≤ spec.size →
  iterN (ref03Known_b6 spec (c.toNat : Int)) (l.length + 1) (x, y, (i : Int)) = some (x || l.contains c, y || hasPair c l, (spec.size : Int))
 | [], i, x, y, h, hi => by
  have : i = spec.size := by
   have := congrArg List.length h
   rw [List.length_drop, ← size_by] at this
   simp at this; omega
  subst this
  refine iterN_done ?_
  simp [ref03Known_b6, hasPair]
 | b :: l, i, x, y, h, hi => by
  have hlt : i < (by_ spec).length := by
   rcases Nat.lt_or_ge i (by_ spec).length with h1 | h1
   ·exact h1
   ·rw [List.drop_eq_nil_of_le h1] at h; cases h
  have hlt' : i < spec.size := by rw [size_by]; exact hlt
  rw [List.drop_eq_getElem_cons hlt] at h
  injection h with h1 h2
  have hg : gtS spec (i : Int) = some b := by rw [gtS_by, List.getElem?_eq_getElem hlt, h1]
  have ih := fun x y => known_loop spec c hs l (i + 1) x y h2 (by omega)
  rw [List.length_cons]
  have hw : w64 ((i : Int) + 1) = ((i + 1 : Nat) : Int) := w64_succ (by omega)
  have hd : decide ((i : Int) < (spec.size : Int)) = true := by simp; exact hlt'
  have hcon : (b :: l).contains c = ((b == c) || l.contains c) := by
   rw [List.contains_cons]
   congr 1
   by_cases h : b = c
   ·subst h; rfl
   ·have h' : ¬ c = b := fun e => h e.symm
    rw [beq_false_of_ne h, beq_false_of_ne h']
  cases hb : (b == c) with
  | false =>
   refine iterN_step (a' := (x, y, ((i + 1 : Nat) : Int))) ?_ ?_
   ·simp only [ref03Known_b6, hd, cond_true, hg, Option.bind_some, u8_beq, hb, cond_false, hw]
   ·rw [ih, hcon, hb]; simp [hasPair, hb]
  | true =>
   have hhead : gtS spec ((i + 1 : Nat) : Int) = l.head? := by
    rw [gtS_by, ← h2, List.head?_drop]
   have hlen : l.length = spec.size - (i + 1) := by
    rw [← h2, List.length_drop, ← size_by]
   have hcon' : (x || (b :: l).contains c) = true := by rw [hcon, hb]; simp
   cases y with
   | true =>
    refine iterN_step (a' := (true, true, ((i + 1 : Nat) : Int))) ?_ ?_
    ·simp only [ref03Known_b6, hd, cond_true, hg, Option.bind_some, u8_beq, hb, hw]
    ·rw [ih, hcon']; simp
   | false =>
    cases hl : l with
    | nil =>
     have hd2 : decide ((((i + 1 : Nat) : Int)) < (spec.size : Int)) = false := by rw [hl] at hlen; simp at hlen ⊢; omega
     refine iterN_step (a' := (true, false, ((i + 1 : Nat) : Int))) ?_ ?_
     ·simp only [ref03Known_b6, hd, cond_true, hg, Option.bind_some, u8_beq, hb, hw, hd2, cond_false]
     ·have := ih true false
      rw [hl] at this hcon'
      rw [this, hcon']; simp [hasPair]
    | cons d l' =>
     have hd2 : decide ((((i + 1 : Nat) : Int)) < (spec.size : Int)) = true := by rw [hl] at hlen; simp at hlen ⊢; omega
     refine iterN_step (a' := (true, (d == 58), ((i + 1 : Nat) : Int))) ?_ ?_
     ·have hh : gtS spec ((i + 1 : Nat) : Int) = some d := by rw [hhead, hl]; rfl
      have h58 : ((d.toNat : Int) == (58 : Int)) = (d == 58) := u8_lit d 58 (by omega)
      simp only [ref03Known_b6, hd, cond_true, hg, Option.bind_some, u8_beq, hb, hw, hd2, cond_false, hh, h58]
     ·have := ih true (d == 58)
      rw [hl] at this hcon'
      rw [this, hcon']
      have e : ((some d : Option UInt8) == some 58) = (d == 58) := rfl
      simp [hasPair, hb, e]
theorem ref03Known_eq (spec : ByteArray) (c : UInt8) (hs : spec.size ≤ 1000000) : ref03Known spec (c.toNat : Int) = some (decide (kindF (by_ spec) c ≠ 0), decide (kindF (by_ spec) c = 2)) ∨
  (ref03Known spec (c.toNat : Int) = some (false, hasPair c (by_ spec)) ∧ kindF (by_ spec) c = 0) := by
 unfold ref03Known
 have e1 : ((c.toNat : Int) == (58 : Int)) = (c == 58) := u8_lit c 58 (by omega)
 rw [e1]
 by_cases h1 : c = 58
 ·left
  subst h1; rfl
 ·have h1' : (c == 58) = false := by simpa using h1
  have hl := known_loop spec c hs (by_ spec) 0 false false rfl (Nat.zero_le _)
  have hl2 := iterN_LF hl (by rw [← size_by]; omega)
  have e0 : ((0 : Nat) : Int) = (0 : Int) := rfl
  rw [e0] at hl2
  rw [h1', cond_false, hl2, Option.bind_some]
  simp only [Bool.false_or]
  unfold kindF
  rw [if_neg h1]
  cases hc : (by_ spec).contains c with
  | false => right; exact ⟨rfl, by simp⟩
  | true => left; cases hasPair c (by_ spec) <;> rfl
theorem ref03Known_kind (spec : ByteArray) (c : UInt8) (hs : spec.size ≤ 1000000) : ∃ t, ref03Known spec (c.toNat : Int) = some (decide (kindF (by_ spec) c ≠ 0), t) ∧ (kindF (by_ spec) c ≠ 0 → t = decide (kindF (by_ spec) c = 2)) := by
 rcases ref03Known_eq spec c hs with h | ⟨h, hk⟩
 ·exact ⟨_, h, fun _ => rfl⟩
 ·exact ⟨_, by rw [h, hk]; rfl, fun h => absurd hk h⟩
end Go.Proofs.YtdbekeidlppfiaaGreatDoor.Den
namespace Go.Proofs.YtdbekeidlppfiaaGreatDoor.Den
open Go Go.RowKit
def grpF (sp : List UInt8) : List UInt8 → List ByteArray → List FlagD → Int × List ByteArray × List FlagD
 | [], av, fl => (0, av, fl)
 | c :: g, av, fl =>
  if kindF sp c = 0 then (30, [], [])
  else if kindF sp c = 2 then
   match g with
   | [] => match av with
    | [] => (31, [], [])
    | a :: av' => (0, av', fl ++ [⟨(c.toNat : Int), a⟩])
   | d :: g' => (0, av, fl ++ [⟨(c.toNat : Int), bs (d :: g')⟩])
  else grpF sp g av (fl ++ [⟨(c.toNat : Int), bs []⟩])
theorem kindF_cases (sp : List UInt8) (c : UInt8) : kindF sp c = 0 ∨ kindF sp c = 2 ∨ kindF sp c = 1 := by
 unfold kindF; split
 ·exact .inl rfl
 ·split
  ·split
   ·exact .inr (.inl rfl)
   ·exact .inr (.inr rfl)
  ·exact .inl rfl
theorem seq_nil (l : List UInt8) : seq (bs l) (bs []) = l.isEmpty := by rw [seq_by, by_bs, by_bs]; cases l <;> rfl
theorem ext_tail (c : UInt8) (g : List UInt8) : (bs (c :: g)).extract ((1 : Int)).toNat (bs (c :: g)).size = bs g := by
 apply by_inj; show by_ ((bs (c :: g)).extract 1 _) = _; rw [by_drop, by_bs, by_bs]; rfl
theorem ext_head (c : UInt8) (g : List UInt8) : (bs (c :: g)).extract 0 ((1 : Int)).toNat = bs [c] := by
 apply by_inj; show by_ ((bs (c :: g)).extract 0 1) = _; rw [by_take, by_bs, by_bs]; rfl
theorem gtS_cons (c : UInt8) (g : List UInt8) : gtS (bs (c :: g)) (0 : Int) = some c := gtS_by (bs (c :: g)) 0
theorem size_bs (l : List UInt8) : (bs l).size = l.length := rfl
theorem room24 {n : Nat} (h : n ≤ 1000000000) : room n 24 := ⟨by omega, by omega⟩
theorem room16 {n : Nat} (h : n ≤ 1000000000) : room n 16 := ⟨by omega, by omega⟩
theorem gt_head {α : Type} (a : α) (l : List α) : gt (a :: l) (0 : Int) = some a := rfl
theorem next_eq (s a : ByteArray) (av : List ByteArray) : optionTakerNext s (a :: av) = some (a, s, av) := by
 unfold optionTakerNext
 rw [gt_head, Option.bind_some, grd_pos (by simp; omega)]; rfl
theorem next2_eq (s a : ByteArray) (av : List ByteArray) (fl : List FlagD) : optionTakerNext2 s (a :: av) fl = some (a, s, av, fl) := by
 unfold optionTakerNext2
 rw [gt_head, Option.bind_some, grd_pos (by simp; omega)]; rfl
abbrev GS1 := (ByteArray × ByteArray × (List ByteArray)) ⊕ (ByteArray × ByteArray × (List ByteArray) × (List FlagD))
def absS1 : GS1 → ByteArray × ByteArray × List ByteArray × List FlagD
 | .inl (g, s, a) => (g, s, a, [])
 | .inr (g, s, a, f) => (g, s, a, f)
abbrev GO1 := (ByteArray × (List ByteArray)) ⊕ (ByteArray × (List ByteArray)) ⊕ (ByteArray × (List ByteArray)) ⊕ (ByteArray × (List ByteArray) × (List FlagD)) ⊕ (ByteArray × (List ByteArray) × (List FlagD)) ⊕ (ByteArray × (List ByteArray) × (List FlagD))
def absG1 : GO1 → ByteArray → Int × List ByteArray × List FlagD → Prop
 | .inl _, _, r => r = (30, [], [])
 | .inr (.inl _), _, r => r = (31, [], [])
 | .inr (.inr (.inl (s', a))), s, r => s' = s ∧ r = (0, a, [])
 | .inr (.inr (.inr (.inl _))), _, r => r = (30, [], [])
 | .inr (.inr (.inr (.inr (.inl _)))), _, r => r = (31, [], [])
 | .inr (.inr (.inr (.inr (.inr (s', a, f))))), s, r => s' = s ∧ r = (0, a, f)
abbrev GX1 := ((ByteArray × ByteArray × (List ByteArray) × UInt8 × UInt8 × Int) ⊕ (ByteArray × ByteArray × (List ByteArray) × UInt8 × UInt8 × Int) ⊕ (ByteArray × ByteArray × (List ByteArray)) ⊕ (ByteArray × ByteArray × (List ByteArray) × (List FlagD) × UInt8 × UInt8 × Int) ⊕ (ByteArray × ByteArray × (List ByteArray) × (List FlagD) × UInt8 × UInt8 × Int) ⊕ (ByteArray × ByteArray × (List ByteArray) × (List FlagD)))
def absX1 : GX1 → ByteArray → Int × List ByteArray × List FlagD → Prop
 | .inl _, _, r => r = (30, [], [])
 | .inr (.inl _), _, r => r = (31, [], [])
 | .inr (.inr (.inl (_, s', a))), s, r => s' = s ∧ r = (0, a, [])
 | .inr (.inr (.inr (.inl _))), _, r => r = (30, [], [])
 | .inr (.inr (.inr (.inr (.inl _)))), _, r => r = (31, [], [])
 | .inr (.inr (.inr (.inr (.inr (_, s', a, f))))), s, r => s' = s ∧ r = (0, a, f)
theorem b1_nil (s : ByteArray) (a : List ByteArray) (f : List FlagD) (st : GS1) (h : absS1 st = (bs [], s, a, f)) : ∃ x, optionTakerGroup_b1 st = some (.inr x) ∧ absX1 x s (0, a, f) := by
 rcases st with ⟨v0, v1, v2⟩ | ⟨v0, v1, v2, v3⟩ <;> simp only [absS1, Prod.mk.injEq] at h
 ·obtain ⟨rfl, rfl, rfl, rfl⟩ := h
  refine ⟨.inr (.inr (.inl (bs [], v1, v2))), ?_, rfl, rfl⟩
  simp only [optionTakerGroup_b1, seq_nil, List.isEmpty_nil, Bool.not_true, cond_false]
 ·obtain ⟨rfl, rfl, rfl, rfl⟩ := h
  refine ⟨.inr (.inr (.inr (.inr (.inr (bs [], v1, v2, v3))))), ?_, rfl, rfl⟩
  simp only [optionTakerGroup_b1, seq_nil, List.isEmpty_nil, Bool.not_true, cond_false]
theorem group1_loop (s : ByteArray) (hs : s.size < 4294967281) : ∀ (g : List UInt8) (a : List ByteArray) (f : List FlagD) (st : GS1), absS1 st = (bs g, s, a, f) → f.length + g.length ≤ 100000000 →
  ∃ x, iterN optionTakerGroup_b1 (g.length + 2) st = some x ∧ absX1 x s (grpF (by_ s) g a f)
 | [], a, f, st, h, hb => by
  obtain ⟨x, h1, h2⟩ := b1_nil s a f st h
  exact ⟨x, iterN_done h1, h2⟩
 | c :: g, a, f, st, h, hb => by
  have hk := optionKind_eq s c hs
  have hlen : (c :: g).length = g.length + 1 := rfl
  have hg1 : (0 : Int) ≤ (1 : Int) ∧ (1 : Int) ≤ ((bs (c :: g)).size : Int) ∧ ((bs (c :: g)).size : Int) ≤ ((bs (c :: g)).size : Int) := by rw [size_bs]; simp <;> omega
  have hg0 : (0 : Int) ≤ (0 : Int) ∧ (0 : Int) ≤ (1 : Int) ∧ (1 : Int) ≤ ((bs (c :: g)).size : Int) := by rw [size_bs]; simp <;> omega
  have hg2 : (0 : Int) ≤ (1 : Int) ∧ (1 : Int) ≤ ((bs [c]).size : Int) ∧ ((bs [c]).size : Int) ≤ ((bs [c]).size : Int) := by rw [size_bs]; simp <;> omega
  have het : (bs [c]).extract ((1 : Int)).toNat (bs [c]).size = bs [] := ext_tail c []
  have hr : room (f.length + 1) 24 := room24 (by rw [hlen] at hb; omega)
  have hne : (c :: g).isEmpty = false := rfl
  rcases st with ⟨v0, v1, v2⟩ | ⟨v0, v1, v2, v3⟩ <;> simp only [absS1, Prod.mk.injEq] at h
  ·obtain ⟨rfl, rfl, rfl, rfl⟩ := h
   rcases kindF_cases (by_ v1) c with h0 | h0 | h0
   ·refine ⟨.inl (bs (c :: g), v1, v2, c, c, 0), iterN_done ?_, ?_⟩
    ·simp only [optionTakerGroup_b1, seq_nil, hne, Bool.not_false, cond_true, gtS_cons, Option.bind_some, hk, h0, beq_self_eq_true]
    ·unfold grpF; rw [if_pos h0]; rfl
   ·have e0 : ((2 : Int) == (0 : Int)) = false := rfl
    unfold grpF
    rw [h0, if_neg (by decide), if_pos rfl]
    cases g with
    | nil =>
     cases v2 with
     | nil =>
      refine ⟨.inr (.inl (bs [c], v1, [], c, c, 2)), iterN_done ?_, rfl⟩
      simp only [optionTakerGroup_b1, seq_nil, hne, Bool.not_false, cond_true, gtS_cons, Option.bind_some, hk, h0, e0, cond_false, beq_self_eq_true, grd_pos hg1, grd_pos hg0, ext_tail, List.isEmpty_nil, List.length_nil]
      rfl
     | cons b v2 =>
      obtain ⟨x, h1, h2⟩ := b1_nil v1 v2 [⟨(c.toNat : Int), b⟩] (.inr (bs [], v1, v2, [⟨(c.toNat : Int), b⟩])) rfl
      refine ⟨x, iterN_step (a' := .inr (bs [], v1, v2, [⟨(c.toNat : Int), b⟩])) ?_ (iterN_done h1), h2⟩
      have e1 : (((b :: v2).length : Int) == (0 : Int)) = false := by simp; omega
      simp only [optionTakerGroup_b1, seq_nil, hne, Bool.not_false, cond_true, gtS_cons, Option.bind_some, hk, h0, e0, cond_false, beq_self_eq_true, grd_pos hg1, grd_pos hg0, ext_tail, List.isEmpty_nil, e1, next_eq, ext_head, grd_pos hg2]
    | cons d g =>
     obtain ⟨x, h1, h2⟩ := b1_nil v1 v2 [⟨(c.toNat : Int), bs (d :: g)⟩] (.inr (bs [], v1, v2, [⟨(c.toNat : Int), bs (d :: g)⟩])) rfl
     refine ⟨x, iterN_step (a' := .inr (bs [], v1, v2, [⟨(c.toNat : Int), bs (d :: g)⟩])) ?_ (iterN_more (iterN_done (n := 0) h1) (by omega)), h2⟩
     have e1 : (d :: g).isEmpty = false := rfl
     simp only [optionTakerGroup_b1, seq_nil, hne, Bool.not_false, cond_true, gtS_cons, Option.bind_some, hk, h0, e0, cond_false, beq_self_eq_true, grd_pos hg1, grd_pos hg0, ext_tail, e1, ext_head, grd_pos hg2, List.isEmpty_nil]
   ·have e0 : ((1 : Int) == (0 : Int)) = false := rfl
    have e2 : ((1 : Int) == (2 : Int)) = false := rfl
    obtain ⟨x, h1, h2⟩ := group1_loop v1 hs g v2 [⟨(c.toNat : Int), bs []⟩] (.inr (bs g, v1, v2, [⟨(c.toNat : Int), bs []⟩])) rfl (by rw [hlen] at hb; simp at hb ⊢; omega)
    refine ⟨x, iterN_step (a' := .inr (bs g, v1, v2, [⟨(c.toNat : Int), bs []⟩])) ?_ h1, ?_⟩
    ·simp only [optionTakerGroup_b1, seq_nil, hne, Bool.not_false, cond_true, gtS_cons, Option.bind_some, hk, h0, e0, e2, cond_false, beq_self_eq_true, grd_pos hg1, ext_tail]
    ·unfold grpF; rw [h0, if_neg (by decide), if_neg (by decide)]; exact h2
  ·obtain ⟨rfl, rfl, rfl, rfl⟩ := h
   rcases kindF_cases (by_ v1) c with h0 | h0 | h0
   ·refine ⟨.inr (.inr (.inr (.inl (bs (c :: g), v1, v2, v3, c, c, 0)))), iterN_done ?_, ?_⟩
    ·simp only [optionTakerGroup_b1, seq_nil, hne, Bool.not_false, cond_true, gtS_cons, Option.bind_some, hk, h0, beq_self_eq_true]
    ·unfold grpF; rw [if_pos h0]; rfl
   ·have e0 : ((2 : Int) == (0 : Int)) = false := rfl
    unfold grpF
    rw [h0, if_neg (by decide), if_pos rfl]
    cases g with
    | nil =>
     cases v2 with
     | nil =>
      refine ⟨.inr (.inr (.inr (.inr (.inl (bs [c], v1, [], v3, c, c, 2))))), iterN_done ?_, rfl⟩
      simp only [optionTakerGroup_b1, seq_nil, hne, Bool.not_false, cond_true, gtS_cons, Option.bind_some, hk, h0, e0, cond_false, beq_self_eq_true, grd_pos hg1, grd_pos hg0, ext_tail, List.isEmpty_nil, List.length_nil]
      rfl
     | cons b v2 =>
      obtain ⟨x, h1, h2⟩ := b1_nil v1 v2 (v3 ++ [⟨(c.toNat : Int), b⟩]) (.inr (bs [], v1, v2, v3 ++ [⟨(c.toNat : Int), b⟩])) rfl
      refine ⟨x, iterN_step (a' := .inr (bs [], v1, v2, v3 ++ [⟨(c.toNat : Int), b⟩])) ?_ (iterN_done h1), h2⟩
      have e1 : (((b :: v2).length : Int) == (0 : Int)) = false := by simp; omega
      simp only [optionTakerGroup_b1, seq_nil, hne, Bool.not_false, cond_true, gtS_cons, Option.bind_some, hk, h0, e0, cond_false, beq_self_eq_true, grd_pos hg1, grd_pos hg0, ext_tail, List.isEmpty_nil, e1, next2_eq, grd_pos hr, ext_head, grd_pos hg2]
    | cons d g =>
     obtain ⟨x, h1, h2⟩ := b1_nil v1 v2 (v3 ++ [⟨(c.toNat : Int), bs (d :: g)⟩]) (.inr (bs [], v1, v2, v3 ++ [⟨(c.toNat : Int), bs (d :: g)⟩])) rfl
     refine ⟨x, iterN_step (a' := .inr (bs [], v1, v2, v3 ++ [⟨(c.toNat : Int), bs (d :: g)⟩])) ?_ (iterN_more (iterN_done (n := 0) h1) (by omega)), h2⟩
     have e1 : (d :: g).isEmpty = false := rfl
     simp only [optionTakerGroup_b1, seq_nil, hne, Bool.not_false, cond_true, gtS_cons, Option.bind_some, hk, h0, e0, cond_false, beq_self_eq_true, grd_pos hg1, grd_pos hg0, ext_tail, e1, grd_pos hr, ext_head, grd_pos hg2, List.isEmpty_nil]
   ·have e0 : ((1 : Int) == (0 : Int)) = false := rfl
    have e2 : ((1 : Int) == (2 : Int)) = false := rfl
    obtain ⟨x, h1, h2⟩ := group1_loop v1 hs g v2 (v3 ++ [⟨(c.toNat : Int), bs []⟩]) (.inr (bs g, v1, v2, v3 ++ [⟨(c.toNat : Int), bs []⟩])) rfl (by rw [hlen] at hb; simp at hb ⊢; omega)
    refine ⟨x, iterN_step (a' := .inr (bs g, v1, v2, v3 ++ [⟨(c.toNat : Int), bs []⟩])) ?_ h1, ?_⟩
    ·simp only [optionTakerGroup_b1, seq_nil, hne, Bool.not_false, cond_true, gtS_cons, Option.bind_some, hk, h0, e0, e2, cond_false, beq_self_eq_true, grd_pos hg1, grd_pos hr, ext_tail]
    ·unfold grpF; rw [h0, if_neg (by decide), if_neg (by decide)]; exact h2
theorem group1_eq (g s : ByteArray) (a : List ByteArray) (hs : s.size < 4294967281) (hg : g.size ≤ 1000000) : ∃ y, optionTakerGroup g s a = some y ∧ absG1 y s (grpF (by_ s) (by_ g) a []) := by
 obtain ⟨x, h1, h2⟩ := group1_loop s hs (by_ g) a [] (.inl (g, s, a)) rfl (by rw [← size_by]; simp; omega)
 have h3 := iterN_LF h1 (by rw [← size_by]; omega)
 unfold optionTakerGroup
 rw [h3, Option.bind_some]
 rcases x with ⟨v1, v2, v3, b1, b2, r1⟩ | ⟨v1, v2, v3, b1, b2, r1⟩ | ⟨v1, v2, v3⟩ | ⟨v1, v2, v3, v4, b1, b2, r1⟩ | ⟨v1, v2, v3, v4, b1, b2, r1⟩ | ⟨v1, v2, v3, v4⟩ <;> exact ⟨_, rfl, h2⟩
abbrev GS2 := (ByteArray × ByteArray × (List ByteArray) × (List FlagD)) ⊕ (ByteArray × ByteArray × (List ByteArray) × (List FlagD))
def absS2 : GS2 → ByteArray × ByteArray × List ByteArray × List FlagD
 | .inl x => x
 | .inr x => x
abbrev GO2 := (ByteArray × (List ByteArray) × (List FlagD)) ⊕ (ByteArray × (List ByteArray) × (List FlagD)) ⊕ (ByteArray × (List ByteArray) × (List FlagD)) ⊕ (ByteArray × (List ByteArray) × (List FlagD)) ⊕ (ByteArray × (List ByteArray) × (List FlagD)) ⊕ (ByteArray × (List ByteArray) × (List FlagD))
def absG2 : GO2 → ByteArray → Int × List ByteArray × List FlagD → Prop
 | .inl _, _, r => r = (30, [], [])
 | .inr (.inl _), _, r => r = (31, [], [])
 | .inr (.inr (.inl (s', a, f))), s, r => s' = s ∧ r = (0, a, f)
 | .inr (.inr (.inr (.inl _))), _, r => r = (30, [], [])
 | .inr (.inr (.inr (.inr (.inl _)))), _, r => r = (31, [], [])
 | .inr (.inr (.inr (.inr (.inr (s', a, f))))), s, r => s' = s ∧ r = (0, a, f)
abbrev GX2 := ((ByteArray × ByteArray × (List ByteArray) × (List FlagD) × UInt8 × UInt8 × Int) ⊕ (ByteArray × ByteArray × (List ByteArray) × (List FlagD) × UInt8 × UInt8 × Int) ⊕ (ByteArray × ByteArray × (List ByteArray) × (List FlagD)) ⊕ (ByteArray × ByteArray × (List ByteArray) × (List FlagD) × UInt8 × UInt8 × Int) ⊕ (ByteArray × ByteArray × (List ByteArray) × (List FlagD) × UInt8 × UInt8 × Int) ⊕ (ByteArray × ByteArray × (List ByteArray) × (List FlagD)))
def absX2 : GX2 → ByteArray → Int × List ByteArray × List FlagD → Prop
 | .inl _, _, r => r = (30, [], [])
 | .inr (.inl _), _, r => r = (31, [], [])
 | .inr (.inr (.inl (_, s', a, f))), s, r => s' = s ∧ r = (0, a, f)
 | .inr (.inr (.inr (.inl _))), _, r => r = (30, [], [])
 | .inr (.inr (.inr (.inr (.inl _)))), _, r => r = (31, [], [])
 | .inr (.inr (.inr (.inr (.inr (_, s', a, f))))), s, r => s' = s ∧ r = (0, a, f)
theorem b2_nil (s : ByteArray) (a : List ByteArray) (f : List FlagD) (st : GS2) (h : absS2 st = (bs [], s, a, f)) : ∃ x, optionTakerGroup2_b1 st = some (.inr x) ∧ absX2 x s (0, a, f) := by
 rcases st with ⟨v0, v1, v2, v3⟩ | ⟨v0, v1, v2, v3⟩ <;> simp only [absS2, Prod.mk.injEq] at h
 ·obtain ⟨rfl, rfl, rfl, rfl⟩ := h
  refine ⟨.inr (.inr (.inl (bs [], v1, v2, v3))), ?_, rfl, rfl⟩
  simp only [optionTakerGroup2_b1, seq_nil, List.isEmpty_nil, Bool.not_true, cond_false]
 ·obtain ⟨rfl, rfl, rfl, rfl⟩ := h
  refine ⟨.inr (.inr (.inr (.inr (.inr (bs [], v1, v2, v3))))), ?_, rfl, rfl⟩
  simp only [optionTakerGroup2_b1, seq_nil, List.isEmpty_nil, Bool.not_true, cond_false]
theorem group2_loop (s : ByteArray) (hs : s.size < 4294967281) : ∀ (g : List UInt8) (a : List ByteArray) (f : List FlagD) (st : GS2), absS2 st = (bs g, s, a, f) → f.length + g.length ≤ 100000000 →
    ∃ x, iterN optionTakerGroup2_b1 (g.length + 2) st = some x ∧ absX2 x s (grpF (by_ s) g a f)
  | [], a, f, st, h, hb => by
    obtain ⟨x, h1, h2⟩ := b2_nil s a f st h
    exact ⟨x, iterN_done h1, h2⟩
  | c :: g, a, f, st, h, hb => by
    have hk := optionKind_eq s c hs
    have hlen : (c :: g).length = g.length + 1 := rfl
    have hg1 : (0 : Int) ≤ (1 : Int) ∧ (1 : Int) ≤ ((bs (c :: g)).size : Int) ∧ ((bs (c :: g)).size : Int) ≤ ((bs (c :: g)).size : Int) := by rw [size_bs]; simp <;> omega
    have hg0 : (0 : Int) ≤ (0 : Int) ∧ (0 : Int) ≤ (1 : Int) ∧ (1 : Int) ≤ ((bs (c :: g)).size : Int) := by rw [size_bs]; simp <;> omega
    have hg2 : (0 : Int) ≤ (1 : Int) ∧ (1 : Int) ≤ ((bs [c]).size : Int) ∧ ((bs [c]).size : Int) ≤ ((bs [c]).size : Int) := by rw [size_bs]; simp <;> omega
    have hr : room (f.length + 1) 24 := room24 (by rw [hlen] at hb; omega)
    have hne : (c :: g).isEmpty = false := rfl
    rcases st with ⟨v0, v1, v2, v3⟩ | ⟨v0, v1, v2, v3⟩ <;> simp only [absS2, Prod.mk.injEq] at h <;> obtain ⟨rfl, rfl, rfl, rfl⟩ := h
    all_goals
      rcases kindF_cases (by_ v1) c with h0 | h0 | h0
      · first
          | (refine ⟨.inl (bs (c :: g), v1, v2, v3, c, c, 0), iterN_done ?_, ?_⟩
             · simp only [optionTakerGroup2_b1, seq_nil, hne, Bool.not_false, cond_true, gtS_cons, Option.bind_some, hk, h0, beq_self_eq_true]; done
             · unfold grpF; rw [if_pos h0]; rfl)
          | (refine ⟨.inr (.inr (.inr (.inl (bs (c :: g), v1, v2, v3, c, c, 0)))), iterN_done ?_, ?_⟩
             · simp only [optionTakerGroup2_b1, seq_nil, hne, Bool.not_false, cond_true, gtS_cons, Option.bind_some, hk, h0, beq_self_eq_true]; done
             · unfold grpF; rw [if_pos h0]; rfl)
      · have e0 : ((2 : Int) == (0 : Int)) = false := rfl
        unfold grpF
        rw [h0, if_neg (by decide), if_pos rfl]
        cases g with
        | nil =>
          cases v2 with
          | nil =>
            first
              | (refine ⟨.inr (.inl (bs [c], v1, [], v3, c, c, 2)), iterN_done ?_, rfl⟩
                 simp only [optionTakerGroup2_b1, seq_nil, hne, Bool.not_false, cond_true, gtS_cons, Option.bind_some, hk, h0, e0, cond_false, beq_self_eq_true, grd_pos hg1, grd_pos hg0, ext_tail, List.isEmpty_nil, List.length_nil]
                 rfl)
              | (refine ⟨.inr (.inr (.inr (.inr (.inl (bs [c], v1, [], v3, c, c, 2))))), iterN_done ?_, rfl⟩
                 simp only [optionTakerGroup2_b1, seq_nil, hne, Bool.not_false, cond_true, gtS_cons, Option.bind_some, hk, h0, e0, cond_false, beq_self_eq_true, grd_pos hg1, grd_pos hg0, ext_tail, List.isEmpty_nil, List.length_nil]
                 rfl)
          | cons b v2 =>
            obtain ⟨x, h1, h2⟩ := b2_nil v1 v2 (v3 ++ [⟨(c.toNat : Int), b⟩]) (.inr (bs [], v1, v2, v3 ++ [⟨(c.toNat : Int), b⟩])) rfl
            refine ⟨x, iterN_step (a' := .inr (bs [], v1, v2, v3 ++ [⟨(c.toNat : Int), b⟩])) ?_ (iterN_done h1), h2⟩
            have e1 : (((b :: v2).length : Int) == (0 : Int)) = false := by simp; omega
            simp only [optionTakerGroup2_b1, seq_nil, hne, Bool.not_false, cond_true, gtS_cons, Option.bind_some, hk, h0, e0, cond_false, beq_self_eq_true, grd_pos hg1, grd_pos hg0, ext_tail, List.isEmpty_nil, e1, next2_eq, grd_pos hr, ext_head, grd_pos hg2]
        | cons d g =>
          obtain ⟨x, h1, h2⟩ := b2_nil v1 v2 (v3 ++ [⟨(c.toNat : Int), bs (d :: g)⟩]) (.inr (bs [], v1, v2, v3 ++ [⟨(c.toNat : Int), bs (d :: g)⟩])) rfl
          refine ⟨x, iterN_step (a' := .inr (bs [], v1, v2, v3 ++ [⟨(c.toNat : Int), bs (d :: g)⟩])) ?_ (iterN_more (iterN_done (n := 0) h1) (by omega)), h2⟩
          have e1 : (d :: g).isEmpty = false := rfl
          simp only [optionTakerGroup2_b1, seq_nil, hne, Bool.not_false, cond_true, gtS_cons, Option.bind_some, hk, h0, e0, cond_false, beq_self_eq_true, grd_pos hg1, grd_pos hg0, ext_tail, e1, grd_pos hr, ext_head, grd_pos hg2, List.isEmpty_nil]
      · have e0 : ((1 : Int) == (0 : Int)) = false := rfl
        have e2 : ((1 : Int) == (2 : Int)) = false := rfl
        obtain ⟨x, h1, h2⟩ := group2_loop v1 hs g v2 (v3 ++ [⟨(c.toNat : Int), bs []⟩]) (.inr (bs g, v1, v2, v3 ++ [⟨(c.toNat : Int), bs []⟩])) rfl (by rw [hlen] at hb; simp at hb ⊢; omega)
        refine ⟨x, iterN_step (a' := .inr (bs g, v1, v2, v3 ++ [⟨(c.toNat : Int), bs []⟩])) ?_ h1, ?_⟩
        · simp only [optionTakerGroup2_b1, seq_nil, hne, Bool.not_false, cond_true, gtS_cons, Option.bind_some, hk, h0, e0, e2, cond_false, beq_self_eq_true, grd_pos hg1, grd_pos hr, ext_tail]
        · unfold grpF; rw [h0, if_neg (by decide), if_neg (by decide)]; exact h2
theorem group2_eq (g s : ByteArray) (a : List ByteArray) (f : List FlagD) (hs : s.size < 4294967281) (hg : f.length + g.size ≤ 100000000) : ∃ y, optionTakerGroup2 g s a f = some y ∧ absG2 y s (grpF (by_ s) (by_ g) a f) := by
 obtain ⟨x, h1, h2⟩ := group2_loop s hs (by_ g) a f (.inl (g, s, a, f)) rfl (by rw [← size_by]; exact hg)
 have h3 := iterN_LF h1 (by rw [← size_by]; omega)
 unfold optionTakerGroup2
 rw [h3, Option.bind_some]
 rcases x with ⟨v1, v2, v3, v4, b1, b2, r1⟩ | ⟨v1, v2, v3, v4, b1, b2, r1⟩ | ⟨v1, v2, v3, v4⟩ | ⟨v1, v2, v3, v4, b1, b2, r1⟩ | ⟨v1, v2, v3, v4, b1, b2, r1⟩ | ⟨v1, v2, v3, v4⟩ <;> exact ⟨_, rfl, h2⟩
def tot (l : List ByteArray) : Nat := (l.map (·.size)).sum
theorem grpF_le (sp : List UInt8) : ∀ (g : List UInt8) (a : List ByteArray) (f : List FlagD) (e : Int) (a' : List ByteArray) (f' : List FlagD), grpF sp g a f = (e, a', f') → a'.length ≤ a.length ∧ f'.length + tot a' ≤ f.length + g.length + tot a
 | [], a, f, e, a', f', h => by simp only [grpF, Prod.mk.injEq] at h; obtain ⟨rfl, rfl, rfl⟩ := h; simp
 | c :: g, a, f, e, a', f', h => by
  unfold grpF at h
  split at h
  ·simp only [Prod.mk.injEq] at h; obtain ⟨rfl, rfl, rfl⟩ := h; simp [tot]
  ·split at h
   ·cases g with
    | nil =>
     cases a with
     | nil => simp only [Prod.mk.injEq] at h; obtain ⟨rfl, rfl, rfl⟩ := h; simp [tot]
     | cons b a => simp only [Prod.mk.injEq] at h; obtain ⟨rfl, rfl, rfl⟩ := h; simp [tot] <;> omega
    | cons d g => simp only [Prod.mk.injEq] at h; obtain ⟨rfl, rfl, rfl⟩ := h; simp <;> omega
   ·obtain ⟨h1, h2⟩ := grpF_le sp g a _ e a' f' h
    simp at h2 ⊢
    omega
end Go.Proofs.YtdbekeidlppfiaaGreatDoor.Den
namespace Go.Proofs.YtdbekeidlppfiaaGreatDoor.Den
open Go Go.RowKit
def parF (sp : List UInt8) : Nat → List ByteArray → List FlagD → Int × List ByteArray × List FlagD
 | 0, av, fl => (0, av, fl)
 | _ + 1, [], fl => (0, [], fl)
 | n + 1, a :: av, fl => match by_ a with
  | [] => (0, a :: av, fl)
  | c :: g => if c = 45 then
    match g with
    | [] => (0, a :: av, fl)
    | d :: g' => if d = 45 ∧ g' = [] then (0, av, fl) else
     if (grpF sp (d :: g') av fl).1 = 0 then parF sp n (grpF sp (d :: g') av fl).2.1 (grpF sp (d :: g') av fl).2.2
     else ((grpF sp (d :: g') av fl).1, [], [])
   else (0, a :: av, fl)
theorem cut_eq (y : ByteArray) : stringsCutPrefix y (bs [45]) = some (match by_ y with | [] => (y, false) | c :: g => if c = 45 then (bs g, true) else (y, false)) := by
 have hsz : (bs [45]).size = 1 := rfl
 unfold stringsCutPrefix stringsliteCutPrefix stringsliteHasPrefix
 rw [hsz]
 cases hy : by_ y with
 | nil =>
  have h0 : y.size = 0 := by rw [size_by, hy]; rfl
  rw [h0]; rfl
 | cons c g =>
  have h0 : y.size = g.length + 1 := by rw [size_by, hy]; rfl
  have e1 : decide ((y.size : Int) ≥ ((1 : Nat) : Int)) = true := by rw [h0]; simp <;> omega
  have e2 : seq (y.extract 0 (((1 : Nat) : Int)).toNat) (bs [45]) = (c == 45) := by
   rw [seq_by]
   show (by_ (y.extract 0 1) == _) = _
   rw [by_take, hy, by_bs]
   simp
  rw [e1, cond_true, grd_pos (by rw [h0]; simp <;> omega), e2, Option.bind_some]
  by_cases hc : c = 45
  ·subst hc
   have e3 : y.extract (((1 : Nat) : Int)).toNat y.size = bs g := by
    apply by_inj
    show by_ (y.extract 1 y.size) = _
    rw [by_drop, hy]; rfl
   rw [beq_self_eq_true, Bool.not_true, cond_false, grd_pos (by rw [h0]; simp <;> omega), e3]
   rfl
  ·have : (c == 45) = false := by simpa using hc
   rw [this]
   simp [hc]
abbrev AS := (ByteArray × (List ByteArray)) ⊕ (ByteArray × (List ByteArray) × (List FlagD))
def absA : AS → ByteArray × List ByteArray × List FlagD
 | .inl (s, a) => (s, a, [])
 | .inr x => x
def absR : GO1 → ByteArray → Int × List ByteArray × List FlagD → Prop
 | .inl (s', a), s, r => s' = s ∧ r = (0, a, [])
 | .inr (.inl _), _, r => r = (30, [], [])
 | .inr (.inr (.inl _)), _, r => r = (31, [], [])
 | .inr (.inr (.inr (.inl _))), _, r => r = (30, [], [])
 | .inr (.inr (.inr (.inr (.inl _)))), _, r => r = (31, [], [])
 | .inr (.inr (.inr (.inr (.inr (s', a, f))))), s, r => s' = s ∧ r = (0, a, f)
def contA : ((ByteArray × (List ByteArray) × ByteArray × ByteArray × Bool) ⊕ (ByteArray × (List ByteArray) × ByteArray × ByteArray × Bool) ⊕ (ByteArray × (List ByteArray) × ByteArray × ByteArray × Bool × ByteArray × ByteArray × (List ByteArray)) ⊕ (ByteArray × (List ByteArray) × ByteArray × ByteArray × Bool × ByteArray × ByteArray × (List ByteArray) × ByteArray × (List ByteArray)) ⊕ (ByteArray × (List ByteArray) × ByteArray × ByteArray × Bool × ByteArray × ByteArray × (List ByteArray) × ByteArray × (List ByteArray)) ⊕ (ByteArray × (List ByteArray) × ByteArray × ByteArray × Bool × ByteArray × ByteArray × (List ByteArray) × ByteArray × (List ByteArray) × (List FlagD)) ⊕ (ByteArray × (List ByteArray) × ByteArray × ByteArray × Bool × ByteArray × ByteArray × (List ByteArray) × ByteArray × (List ByteArray) × (List FlagD)) ⊕ (ByteArray × (List ByteArray)) ⊕ (ByteArray × (List ByteArray) × (List FlagD) × ByteArray × ByteArray × Bool) ⊕ (ByteArray × (List ByteArray) × (List FlagD) × ByteArray × ByteArray × Bool) ⊕ (ByteArray × (List ByteArray) × (List FlagD) × ByteArray × ByteArray × Bool × ByteArray × ByteArray × (List ByteArray) × (List FlagD)) ⊕ (ByteArray × (List ByteArray) × (List FlagD) × ByteArray × ByteArray × Bool × ByteArray × ByteArray × (List ByteArray) × (List FlagD) × ByteArray × (List ByteArray) × (List FlagD)) ⊕ (ByteArray × (List ByteArray) × (List FlagD) × ByteArray × ByteArray × Bool × ByteArray × ByteArray × (List ByteArray) × (List FlagD) × ByteArray × (List ByteArray) × (List FlagD)) ⊕ (ByteArray × (List ByteArray) × (List FlagD) × ByteArray × ByteArray × Bool × ByteArray × ByteArray × (List ByteArray) × (List FlagD) × ByteArray × (List ByteArray) × (List FlagD)) ⊕ (ByteArray × (List ByteArray) × (List FlagD) × ByteArray × ByteArray × Bool × ByteArray × ByteArray × (List ByteArray) × (List FlagD) × ByteArray × (List ByteArray) × (List FlagD)) ⊕ (ByteArray × (List ByteArray) × (List FlagD))) → Option GO1
 | .inl (v_1, v_2, y_1, r_1, r_2) => (
  some (.inl (v_1, v_2))
 )
 | .inr (.inl (v_1, v_2, y_1, r_1, r_2)) => (
  some (.inl (v_1, v_2))
 )
 | .inr (.inr (.inl (v_1, v_2, y_1, r_1, r_2, r_3, r_4, r_5))) => (
  some (.inl (r_4, r_5))
 )
 | .inr (.inr (.inr (.inl (v_1, v_2, y_1, r_1, r_2, r_3, r_4, r_5, r_6, r_7)))) => (
  some (.inr (.inl (r_6, r_7)))
 )
 | .inr (.inr (.inr (.inr (.inl (v_1, v_2, y_1, r_1, r_2, r_3, r_4, r_5, r_8, r_9))))) => (
  some (.inr (.inr (.inl (r_8, r_9))))
 )
 | .inr (.inr (.inr (.inr (.inr (.inl (v_1, v_2, y_1, r_1, r_2, r_3, r_4, r_5, r_12, r_13, r_14)))))) => (
  some (.inr (.inr (.inr (.inl (r_12, r_13, r_14)))))
 )
 | .inr (.inr (.inr (.inr (.inr (.inr (.inl (v_1, v_2, y_1, r_1, r_2, r_3, r_4, r_5, r_15, r_16, r_17))))))) => (
  some (.inr (.inr (.inr (.inr (.inl (r_15, r_16, r_17))))))
 )
 | .inr (.inr (.inr (.inr (.inr (.inr (.inr (.inl (v_1, v_2)))))))) => (
  some (.inl (v_1, v_2))
 )
 | .inr (.inr (.inr (.inr (.inr (.inr (.inr (.inr (.inl (v_3, v_4, v_5, y_1, r_1, r_2))))))))) => (
  some (.inr (.inr (.inr (.inr (.inr ((v_3, v_4, v_5)))))))
 )
 | .inr (.inr (.inr (.inr (.inr (.inr (.inr (.inr (.inr (.inl (v_3, v_4, v_5, y_1, r_1, r_2)))))))))) => (
  some (.inr (.inr (.inr (.inr (.inr ((v_3, v_4, v_5)))))))
 )
 | .inr (.inr (.inr (.inr (.inr (.inr (.inr (.inr (.inr (.inr (.inl (v_3, v_4, v_5, y_1, r_1, r_2, r_3, r_4, r_5, r_6))))))))))) => (
  some (.inr (.inr (.inr (.inr (.inr ((r_4, r_5, r_6)))))))
 )
 | .inr (.inr (.inr (.inr (.inr (.inr (.inr (.inr (.inr (.inr (.inr (.inl (v_3, v_4, v_5, y_1, r_1, r_2, r_3, r_4, r_5, r_6, r_7, r_8, r_9)))))))))))) => (
  some (.inr (.inr (.inr (.inl (r_7, r_8, r_9)))))
 )
 | .inr (.inr (.inr (.inr (.inr (.inr (.inr (.inr (.inr (.inr (.inr (.inr (.inl (v_3, v_4, v_5, y_1, r_1, r_2, r_3, r_4, r_5, r_6, r_10, r_11, r_12))))))))))))) => (
  some (.inr (.inr (.inr (.inr (.inl (r_10, r_11, r_12))))))
 )
 | .inr (.inr (.inr (.inr (.inr (.inr (.inr (.inr (.inr (.inr (.inr (.inr (.inr (.inl (v_3, v_4, v_5, y_1, r_1, r_2, r_3, r_4, r_5, r_6, r_16, r_17, r_18)))))))))))))) => (
  some (.inr (.inr (.inr (.inl (r_16, r_17, r_18)))))
 )
 | .inr (.inr (.inr (.inr (.inr (.inr (.inr (.inr (.inr (.inr (.inr (.inr (.inr (.inr (.inl (v_3, v_4, v_5, y_1, r_1, r_2, r_3, r_4, r_5, r_6, r_19, r_20, r_21))))))))))))))) => (
  some (.inr (.inr (.inr (.inr (.inl (r_19, r_20, r_21))))))
 )
 | .inr (.inr (.inr (.inr (.inr (.inr (.inr (.inr (.inr (.inr (.inr (.inr (.inr (.inr (.inr ((v_3, v_4, v_5)))))))))))))))) => (
  some (.inr (.inr (.inr (.inr (.inr ((v_3, v_4, v_5)))))))
 )
def AOk (s : ByteArray) (st : AS) (n : Nat) (r : Int × List ByteArray × List FlagD) : Prop :=
 ∃ x, iterN optionTakerAll_b1 n st = some x ∧ ∃ y, contA x = some y ∧ absR y s r
theorem AOk.done {s : ByteArray} {st : AS} {n : Nat} {r : Int × List ByteArray × List FlagD} {x} {y : GO1} (h : optionTakerAll_b1 st = some (.inr x)) (h2 : contA x = some y) (h3 : absR y s r) : AOk s st (n + 1) r := ⟨x, iterN_done h, y, h2, h3⟩
theorem AOk.step {s : ByteArray} {st st' : AS} {n : Nat} {r : Int × List ByteArray × List FlagD} (h : optionTakerAll_b1 st = some (.inl st')) (k : AOk s st' n r) : AOk s st (n + 1) r := by
 obtain ⟨x, h1, h2⟩ := k
 exact ⟨x, iterN_step h h1, h2⟩
theorem len_pos {α : Type} (a : α) (l : List α) : decide (((a :: l).length : Int) > (0 : Int)) = true := by simp <;> omega
theorem all_loop (s : ByteArray) (hs : s.size < 4294967281) : ∀ (n : Nat) (av : List ByteArray) (fl : List FlagD) (st : AS), absA st = (s, av, fl) → av.length ≤ n → fl.length + tot av ≤ 1000000 → AOk s st (n + 1) (parF (by_ s) (n + 1) av fl)
 | n, [], fl, st, h, hn, hb => by
  rcases st with ⟨v0, v1⟩ | ⟨v0, v1, v2⟩ <;> simp only [absA, Prod.mk.injEq] at h <;> obtain ⟨rfl, rfl, rfl⟩ := h
  ·apply AOk.done
   ·simp only [optionTakerAll_b1]
    rfl
   ·rfl
   ·exact ⟨rfl, rfl⟩
  ·apply AOk.done
   ·simp only [optionTakerAll_b1]
    rfl
   ·rfl
   ·exact ⟨rfl, rfl⟩
 | 0, a :: av, fl, st, h, hn, hb => by simp at hn
 | n + 1, a :: av, fl, st, h, hn, hb => by
  have hcut := cut_eq a
  have hsz : a.size = (by_ a).length := size_by a
  unfold parF
  cases ha : by_ a with
  | nil =>
   rw [ha] at hcut
   rcases st with ⟨v0, v1⟩ | ⟨v0, v1, v2⟩ <;> simp only [absA, Prod.mk.injEq] at h <;> obtain ⟨rfl, rfl, rfl⟩ := h
   ·apply AOk.done
    ·simp only [optionTakerAll_b1, len_pos, cond_true, gt_head, Option.bind_some, hcut, Bool.not_false]
     rfl
    ·rfl
    ·exact ⟨rfl, rfl⟩
   ·apply AOk.done
    ·simp only [optionTakerAll_b1, len_pos, cond_true, gt_head, Option.bind_some, hcut, Bool.not_false]
     rfl
    ·rfl
    ·exact ⟨rfl, rfl⟩
  | cons c g =>
   rw [ha] at hcut
   simp only
   by_cases hc : c = 45
   case neg =>
    simp only [if_neg hc] at hcut ⊢
    rcases st with ⟨v0, v1⟩ | ⟨v0, v1, v2⟩ <;> simp only [absA, Prod.mk.injEq] at h <;> obtain ⟨rfl, rfl, rfl⟩ := h
    ·apply AOk.done
     ·simp only [optionTakerAll_b1, len_pos, cond_true, gt_head, Option.bind_some, hcut, Bool.not_false]
      rfl
     ·rfl
     ·exact ⟨rfl, rfl⟩
    ·apply AOk.done
     ·simp only [optionTakerAll_b1, len_pos, cond_true, gt_head, Option.bind_some, hcut, Bool.not_false]
      rfl
     ·rfl
     ·exact ⟨rfl, rfl⟩
   subst hc
   simp only [if_true] at hcut ⊢
   cases g with
   | nil =>
    rcases st with ⟨v0, v1⟩ | ⟨v0, v1, v2⟩ <;> simp only [absA, Prod.mk.injEq] at h <;> obtain ⟨rfl, rfl, rfl⟩ := h
    ·apply AOk.done
     ·simp only [optionTakerAll_b1, len_pos, cond_true, gt_head, Option.bind_some, hcut, Bool.not_true, cond_false, seq_nil, List.isEmpty_nil]
      rfl
     ·rfl
     ·exact ⟨rfl, rfl⟩
    ·apply AOk.done
     ·simp only [optionTakerAll_b1, len_pos, cond_true, gt_head, Option.bind_some, hcut, Bool.not_true, cond_false, seq_nil, List.isEmpty_nil]
      rfl
     ·rfl
     ·exact ⟨rfl, rfl⟩
   | cons d g' =>
    have hne : (d :: g').isEmpty = false := rfl
    have hdd : seq (bs (d :: g')) (bs [45]) = decide (d = 45 ∧ g' = []) := by
     rw [seq_by, by_bs, by_bs]
     by_cases h : d = 45 ∧ g' = []
     ·obtain ⟨rfl, rfl⟩ := h; rfl
     ·rw [decide_eq_false h, beq_false_of_ne (fun e => h (by injection e with e1 e2; exact ⟨e1, e2⟩))]
    by_cases hd : d = 45 ∧ g' = []
    ·simp only [if_pos hd]
     rw [decide_eq_true hd] at hdd
     rcases st with ⟨v0, v1⟩ | ⟨v0, v1, v2⟩ <;> simp only [absA, Prod.mk.injEq] at h <;> obtain ⟨rfl, rfl, rfl⟩ := h
     ·apply AOk.done
      ·simp only [optionTakerAll_b1, len_pos, cond_true, gt_head, Option.bind_some, hcut, Bool.not_true, cond_false, seq_nil, hne, next_eq, hdd]
       rfl
      ·rfl
      ·exact ⟨rfl, rfl⟩
     ·apply AOk.done
      ·simp only [optionTakerAll_b1, len_pos, cond_true, gt_head, Option.bind_some, hcut, Bool.not_true, cond_false, seq_nil, hne, next2_eq, hdd]
       rfl
      ·rfl
      ·exact ⟨rfl, rfl⟩
    simp only [if_neg hd]
    rw [decide_eq_false hd] at hdd
    have htot : tot (a :: av) = a.size + tot av := by simp [tot]
    have hlen : (d :: g').length + 1 = a.size := by rw [hsz, ha]; rfl
    obtain ⟨e, a', f', hgr⟩ : ∃ e a' f', grpF (by_ s) (d :: g') av fl = (e, a', f') := ⟨_, _, _, rfl⟩
    obtain ⟨hl1, hl2⟩ := grpF_le _ _ _ _ _ _ _ hgr
    have hb' : f'.length + tot a' ≤ 1000000 := by omega
    have hn' : a'.length ≤ n := by simp at hn; omega
    have hrec : ∀ st', absA st' = (s, a', f') → AOk s st' (n + 1) (parF (by_ s) (n + 1) a' f') := fun st' h' => all_loop s hs n a' f' st' h' hn' hb'
    rw [hgr]
    simp only
    rcases st with ⟨v0, v1⟩ | ⟨v0, v1, v2⟩ <;> simp only [absA, Prod.mk.injEq] at h <;> obtain ⟨rfl, rfl, rfl⟩ := h
    ·obtain ⟨y, hy, hy2⟩ := group1_eq (bs (d :: g')) v0 av hs (by rw [size_bs]; omega)
     rw [show by_ (bs (d :: g')) = d :: g' from rfl, hgr] at hy2
     rcases y with ⟨y1, y2⟩ | ⟨y1, y2⟩ | ⟨y1, y2⟩ | ⟨y1, y2, y3⟩ | ⟨y1, y2, y3⟩ | ⟨y1, y2, y3⟩ <;> simp only [absG1, Prod.mk.injEq] at hy2
     ·obtain ⟨rfl, rfl, rfl⟩ := hy2
      rw [if_neg (by decide)]
      apply AOk.done
      ·simp only [optionTakerAll_b1, len_pos, cond_true, gt_head, Option.bind_some, hcut, Bool.not_true, cond_false, seq_nil, hne, next_eq, hdd, hy]
       rfl
      ·rfl
      ·exact rfl
     ·obtain ⟨rfl, rfl, rfl⟩ := hy2
      rw [if_neg (by decide)]
      apply AOk.done
      ·simp only [optionTakerAll_b1, len_pos, cond_true, gt_head, Option.bind_some, hcut, Bool.not_true, cond_false, seq_nil, hne, next_eq, hdd, hy]
       rfl
      ·rfl
      ·exact rfl
     ·obtain ⟨rfl, rfl, rfl, rfl⟩ := hy2
      rw [if_pos rfl]
      exact AOk.step (st' := .inl (y1, a')) (by simp only [optionTakerAll_b1, len_pos, cond_true, gt_head, Option.bind_some, hcut, Bool.not_true, cond_false, seq_nil, hne, next_eq, hdd, hy]) (hrec _ rfl)
     ·obtain ⟨rfl, rfl, rfl⟩ := hy2
      rw [if_neg (by decide)]
      apply AOk.done
      ·simp only [optionTakerAll_b1, len_pos, cond_true, gt_head, Option.bind_some, hcut, Bool.not_true, cond_false, seq_nil, hne, next_eq, hdd, hy]
       rfl
      ·rfl
      ·exact rfl
     ·obtain ⟨rfl, rfl, rfl⟩ := hy2
      rw [if_neg (by decide)]
      apply AOk.done
      ·simp only [optionTakerAll_b1, len_pos, cond_true, gt_head, Option.bind_some, hcut, Bool.not_true, cond_false, seq_nil, hne, next_eq, hdd, hy]
       rfl
      ·rfl
      ·exact rfl
     ·obtain ⟨rfl, rfl, rfl, rfl⟩ := hy2
      rw [if_pos rfl]
      exact AOk.step (st' := .inr (y1, a', f')) (by simp only [optionTakerAll_b1, len_pos, cond_true, gt_head, Option.bind_some, hcut, Bool.not_true, cond_false, seq_nil, hne, next_eq, hdd, hy]) (hrec _ rfl)
    ·obtain ⟨y, hy, hy2⟩ := group2_eq (bs (d :: g')) v0 av v2 hs (by rw [size_bs]; omega)
     rw [show by_ (bs (d :: g')) = d :: g' from rfl, hgr] at hy2
     rcases y with ⟨y1, y2, y3⟩ | ⟨y1, y2, y3⟩ | ⟨y1, y2, y3⟩ | ⟨y1, y2, y3⟩ | ⟨y1, y2, y3⟩ | ⟨y1, y2, y3⟩ <;> simp only [absG2, Prod.mk.injEq] at hy2
     ·obtain ⟨rfl, rfl, rfl⟩ := hy2
      rw [if_neg (by decide)]
      apply AOk.done
      ·simp only [optionTakerAll_b1, len_pos, cond_true, gt_head, Option.bind_some, hcut, Bool.not_true, cond_false, seq_nil, hne, next2_eq, hdd, hy]
       rfl
      ·rfl
      ·exact rfl
     ·obtain ⟨rfl, rfl, rfl⟩ := hy2
      rw [if_neg (by decide)]
      apply AOk.done
      ·simp only [optionTakerAll_b1, len_pos, cond_true, gt_head, Option.bind_some, hcut, Bool.not_true, cond_false, seq_nil, hne, next2_eq, hdd, hy]
       rfl
      ·rfl
      ·exact rfl
     ·obtain ⟨rfl, rfl, rfl, rfl⟩ := hy2
      rw [if_pos rfl]
      exact AOk.step (st' := .inr (y1, a', f')) (by simp only [optionTakerAll_b1, len_pos, cond_true, gt_head, Option.bind_some, hcut, Bool.not_true, cond_false, seq_nil, hne, next2_eq, hdd, hy]) (hrec _ rfl)
     ·obtain ⟨rfl, rfl, rfl⟩ := hy2
      rw [if_neg (by decide)]
      apply AOk.done
      ·simp only [optionTakerAll_b1, len_pos, cond_true, gt_head, Option.bind_some, hcut, Bool.not_true, cond_false, seq_nil, hne, next2_eq, hdd, hy]
       rfl
      ·rfl
      ·exact rfl
     ·obtain ⟨rfl, rfl, rfl⟩ := hy2
      rw [if_neg (by decide)]
      apply AOk.done
      ·simp only [optionTakerAll_b1, len_pos, cond_true, gt_head, Option.bind_some, hcut, Bool.not_true, cond_false, seq_nil, hne, next2_eq, hdd, hy]
       rfl
      ·rfl
      ·exact rfl
     ·obtain ⟨rfl, rfl, rfl, rfl⟩ := hy2
      rw [if_pos rfl]
      exact AOk.step (st' := .inr (y1, a', f')) (by simp only [optionTakerAll_b1, len_pos, cond_true, gt_head, Option.bind_some, hcut, Bool.not_true, cond_false, seq_nil, hne, next2_eq, hdd, hy]) (hrec _ rfl)
def ansP (r : Int × List ByteArray × List FlagD) : List FlagD × List ByteArray × Int := if r.1 = 0 then (r.2.2, r.2.1, 0) else ([], [], r.1)
theorem optionParse_eq (spec : ByteArray) (argv : List ByteArray) (hs : spec.size < 4294967281) (hn : argv.length ≤ 1000000) (ht : tot argv ≤ 1000000) :
  optionParse spec argv = some (ansP (parF (by_ spec) (argv.length + 1) argv [])) := by
 obtain ⟨x, h1, y, h2, h3⟩ := all_loop spec hs argv.length argv [] (.inl (spec, argv)) rfl (Nat.le_refl _) (by simpa using ht)
 have h4 := iterN_LF h1 (by omega)
 unfold optionParse optionTakerAll
 rw [grd_pos (room16 (by omega)), h4]
 have h5 : contA x = some y := h2
 show (contA x).bind _ = _
 rw [h5, Option.bind_some]
 rcases y with ⟨y1, y2⟩ | ⟨y1, y2⟩ | ⟨y1, y2⟩ | ⟨y1, y2, y3⟩ | ⟨y1, y2, y3⟩ | ⟨y1, y2, y3⟩ <;> simp only [absR] at h3
 ·obtain ⟨_, h3⟩ := h3; rw [h3]; rfl
 ·rw [h3]; rfl
 ·rw [h3]; rfl
 ·rw [h3]; rfl
 ·rw [h3]; rfl
 ·obtain ⟨_, h3⟩ := h3; rw [h3]; rfl
end Go.Proofs.YtdbekeidlppfiaaGreatDoor.Den
namespace Go.Proofs.YtdbekeidlppfiaaGreatDoor.Den
open Go Go.RowKit
abbrev RX := (Int × Int × (List FlagD) × UInt8 × Bool × Bool) ⊕ (Int × Int × (List FlagD) × UInt8 × Bool × Bool × UInt8) ⊕ (Int × Int × (List FlagD) × UInt8 × Bool × Bool) ⊕ (Int × Int × (List FlagD))
def absRX (argv : List ByteArray) (a : ByteArray) : RX → Int × List ByteArray × List FlagD → Prop
 | .inl _, r => r = (30, [], [])
 | .inr (.inl (i, k, f, _, _, _, b)), r => ∃ j : Nat, i = (j : Int) ∧ j ≤ argv.length ∧ r = (0, argv.drop j, f ++ [⟨(b.toNat : Int), a.extract (w64 (k + 1)).toNat a.size⟩])
 | .inr (.inr (.inl _)), r => r = (31, [], [])
 | .inr (.inr (.inr (i, k, f))), r => ∃ j : Nat, i = (j : Int) ∧ j ≤ argv.length ∧ r = (0, argv.drop j, f)
theorem rgroup_loop (s a : ByteArray) (argv : List ByteArray) (hs : s.size ≤ 1000000) (ha : a.size ≤ 1000000) (hn : argv.length ≤ 1000000) : ∀ (g : List UInt8) (k i : Nat) (f : List FlagD), (by_ a).drop k = g → k ≤ a.size → i ≤ argv.length → f.length + g.length ≤ 100000000 →
  ∃ x, iterN (ref03Parse_b10x1 s argv a) (g.length + 1) ((i : Int), (k : Int), f) = some x ∧ absRX argv a x (grpF (by_ s) g (argv.drop i) f)
 | [], k, i, f, hg, hk, hi, hb => by
  have : k = a.size := by
   have := congrArg List.length hg
   rw [List.length_drop, ← size_by] at this
   simp at this; omega
  subst this
  refine ⟨.inr (.inr (.inr ((i : Int), (a.size : Int), f))), iterN_done ?_, i, rfl, hi, rfl⟩
  simp [ref03Parse_b10x1]
 | c :: g, k, i, f, hg, hk, hi, hb => by
  have hlt : k < (by_ a).length := by
   rcases Nat.lt_or_ge k (by_ a).length with h1 | h1
   ·exact h1
   ·rw [List.drop_eq_nil_of_le h1] at hg; cases hg
  have hlt' : k < a.size := by rw [size_by]; exact hlt
  rw [List.drop_eq_getElem_cons hlt] at hg
  injection hg with h1 h2
  have hgt : gtS a (k : Int) = some c := by rw [gtS_by, List.getElem?_eq_getElem hlt, h1]
  have hd : decide ((k : Int) < (a.size : Int)) = true := by simp; exact hlt'
  have hw : w64 ((k : Int) + 1) = ((k + 1 : Nat) : Int) := w64_succ (by omega)
  have hwi : w64 ((i : Int) + 1) = ((i + 1 : Nat) : Int) := w64_succ (by omega)
  have hr : room (f.length + 1) 24 := room24 (by simp at hb; omega)
  have hlen : g.length = a.size - (k + 1) := by rw [← h2, List.length_drop, ← size_by]
  obtain ⟨t, hkn, ht⟩ := ref03Known_kind s c hs
  unfold grpF
  rcases kindF_cases (by_ s) c with h0 | h0 | h0
  ·rw [if_pos h0]
   rw [h0] at hkn
   refine ⟨.inl ((i : Int), (k : Int), f, c, false, t), iterN_done ?_, rfl⟩
   have e1 : decide ((0 : Int) ≠ 0) = false := rfl
   rw [e1] at hkn
   simp only [ref03Parse_b10x1, hd, cond_true, hgt, Option.bind_some, hkn, Bool.not_false]
  ·rw [h0, if_neg (by decide), if_pos rfl]
   rw [h0] at hkn ht
   have e1 : decide ((2 : Int) ≠ 0) = true := rfl
   have e2 : t = true := ht (by decide)
   rw [e1, e2] at hkn
   cases hgg : g with
   | nil =>
    have hd2 : decide ((((k + 1 : Nat) : Int)) < (a.size : Int)) = false := by rw [hgg] at hlen; simp at hlen ⊢; omega
    rcases Nat.lt_or_ge i argv.length with hil | hil
    ·have hdrop : argv.drop i = argv[i] :: argv.drop (i + 1) := List.drop_eq_getElem_cons hil
     rw [hdrop]
     have hne : ((i : Int) == (argv.length : Int)) = false := beq_false_of_ne (by omega)
     refine ⟨.inr (.inr (.inr (((i + 1 : Nat) : Int), ((k + 1 : Nat) : Int), f ++ [⟨(c.toNat : Int), argv[i]⟩]))), iterN_step (a' := (((i + 1 : Nat) : Int), ((k + 1 : Nat) : Int), f ++ [⟨(c.toNat : Int), argv[i]⟩])) ?_ (iterN_done ?_), i + 1, rfl, hil, rfl⟩
     ·simp only [ref03Parse_b10x1, hd, cond_true, hgt, Option.bind_some, hkn, Bool.not_true, cond_false, hw, hd2, hne, gt_nat hil, grd_pos hr, hwi]
     ·simp only [ref03Parse_b10x1, hd2, cond_false]
    ·have he : i = argv.length := by omega
     have hdrop : argv.drop i = [] := List.drop_eq_nil_of_le hil
     rw [hdrop]
     have hne : ((i : Int) == (argv.length : Int)) = true := by rw [he]; exact beq_self_eq_true _
     refine ⟨.inr (.inr (.inl ((i : Int), (k : Int), f, c, true, true))), iterN_done ?_, rfl⟩
     simp only [ref03Parse_b10x1, hd, cond_true, hgt, Option.bind_some, hkn, Bool.not_true, cond_false, hw, hd2, hne]
   | cons d g' =>
    have hd2 : decide ((((k + 1 : Nat) : Int)) < (a.size : Int)) = true := by rw [hgg] at hlen; simp at hlen ⊢; omega
    have hgd : (0 : Int) ≤ ((k + 1 : Nat) : Int) ∧ ((k + 1 : Nat) : Int) ≤ (a.size : Int) ∧ (a.size : Int) ≤ (a.size : Int) := by omega
    refine ⟨.inr (.inl ((i : Int), (k : Int), f, c, true, true, c)), iterN_done ?_, i, rfl, hi, ?_⟩
    ·simp only [ref03Parse_b10x1, hd, cond_true, hgt, Option.bind_some, hkn, Bool.not_true, cond_false, hw, hd2, grd_pos hgd, grd_pos hr]
    ·rw [hw, Int.toNat_natCast]
     have : a.extract (k + 1) a.size = bs (d :: g') := by apply by_inj; rw [by_drop, h2, hgg]; rfl
     rw [this]
  ·rw [h0, if_neg (by decide), if_neg (by decide)]
   rw [h0] at hkn ht
   have e1 : decide ((1 : Int) ≠ 0) = true := rfl
   have e2 : t = false := ht (by decide)
   rw [e1, e2] at hkn
   obtain ⟨x, g1, g2⟩ := rgroup_loop s a argv hs ha hn g (k + 1) i (f ++ [⟨(c.toNat : Int), bs []⟩]) h2 hlt' hi (by simp at hb ⊢; omega)
   refine ⟨x, iterN_step (a' := ((i : Int), ((k + 1 : Nat) : Int), f ++ [⟨(c.toNat : Int), bs []⟩])) ?_ g1, g2⟩
   simp only [ref03Parse_b10x1, hd, cond_true, hgt, Option.bind_some, hkn, Bool.not_true, Bool.not_false, cond_false, hw, grd_pos hr]
abbrev PX := (Int × (List FlagD) × ByteArray) ⊕ (Int × (List FlagD) × ByteArray) ⊕ (Int × (List FlagD) × ByteArray) ⊕ (Int × (List FlagD) × ByteArray × UInt8) ⊕ (Int × (List FlagD) × ByteArray × UInt8 × Int × Int × (List FlagD) × UInt8 × Bool × Bool) ⊕ (Int × (List FlagD) × ByteArray × UInt8 × Int × Int × (List FlagD) × UInt8 × Bool × Bool) ⊕ (Int × (List FlagD))
def absPX (argv : List ByteArray) : PX → Int × List ByteArray × List FlagD → Prop
 | .inl (i, f, _), r => ∃ j : Nat, i = (j : Int) ∧ j < argv.length ∧ r = (0, argv.drop (j + 1), f)
 | .inr (.inl (i, f, _)), r => ∃ j : Nat, i = (j : Int) ∧ j ≤ argv.length ∧ r = (0, argv.drop j, f)
 | .inr (.inr (.inl (i, f, _))), r => ∃ j : Nat, i = (j : Int) ∧ j ≤ argv.length ∧ r = (0, argv.drop j, f)
 | .inr (.inr (.inr (.inl (i, f, _)))), r => ∃ j : Nat, i = (j : Int) ∧ j ≤ argv.length ∧ r = (0, argv.drop j, f)
 | .inr (.inr (.inr (.inr (.inl _)))), r => r = (30, [], [])
 | .inr (.inr (.inr (.inr (.inr (.inl _))))), r => r = (31, [], [])
 | .inr (.inr (.inr (.inr (.inr (.inr (i, f)))))), r => ∃ j : Nat, i = (j : Int) ∧ j ≤ argv.length ∧ r = (0, argv.drop j, f)
theorem tot_mem {l : List ByteArray} {i : Nat} (h : i < l.length) : l[i].size + tot (l.drop (i + 1)) = tot (l.drop i) := by
 rw [List.drop_eq_getElem_cons h]; unfold tot; rw [List.map_cons, List.sum_cons]
theorem rpar_loop (s : ByteArray) (argv : List ByteArray) (hs : s.size ≤ 1000000) (hn : argv.length ≤ 1000000) : ∀ (n i : Nat) (f : List FlagD), i ≤ argv.length → argv.length - i ≤ n → f.length + tot (argv.drop i) ≤ 1000000 →
  ∃ x, iterN (ref03Parse_b3 s argv) (n + 1) ((i : Int), f) = some x ∧ absPX argv x (parF (by_ s) (n + 1) (argv.drop i) f) := by
 intro n
 induction n with
 | zero =>
  intro i f hi hni hb
  obtain rfl : i = argv.length := by omega
  refine ⟨.inr (.inr (.inr (.inr (.inr (.inr ((argv.length : Int), f)))))), iterN_done ?_, argv.length, rfl, Nat.le_refl _, by rw [List.drop_eq_nil_of_le (Nat.le_refl _)]; rfl⟩
  simp [ref03Parse_b3]
 | succ n ih =>
  intro i f hi hni hb
  rcases Nat.lt_or_ge i argv.length with hil | hil
  case inr =>
   obtain rfl : i = argv.length := by omega
   refine ⟨.inr (.inr (.inr (.inr (.inr (.inr ((argv.length : Int), f)))))), iterN_done ?_, argv.length, rfl, Nat.le_refl _, by rw [List.drop_eq_nil_of_le (Nat.le_refl _)]; rfl⟩
   simp [ref03Parse_b3]
  have hdrop : argv.drop i = argv[i] :: argv.drop (i + 1) := List.drop_eq_getElem_cons hil
  have hlt : decide ((i : Int) < (argv.length : Int)) = true := lt_true' hil
  have hgt : gt argv (i : Int) = some argv[i] := gt_nat hil
  have htm := tot_mem hil
  have hsz : (argv[i]).size = (by_ argv[i]).length := size_by _
  have hwi : w64 ((i : Int) + 1) = ((i + 1 : Nat) : Int) := w64_succ (by omega)
  rw [hdrop]
  unfold parF
  generalize hA : argv[i] = a at *
  cases hya : by_ a with
  | nil =>
   have e1 : seq a (bs [45, 45]) = false := by rw [seq_by, hya]; rfl
   have e2 : seq a (bs [45]) = false := by rw [seq_by, hya]; rfl
   have e3 : seq a (bs []) = true := by rw [seq_by, hya]; rfl
   refine ⟨.inr (.inr (.inl ((i : Int), f, a))), iterN_done ?_, i, rfl, hi, by rw [hdrop]⟩
   simp only [ref03Parse_b3, hlt, cond_true, hgt, Option.bind_some, e1, e2, e3, cond_false]
  | cons c g =>
   have e3 : seq a (bs []) = false := by rw [seq_by, hya]; rfl
   have hg0 : gtS a (0 : Int) = some c := by
    have := gtS_by a 0
    rw [hya] at this; exact this
   simp only
   by_cases hc : c = 45
   case neg =>
    have e1 : seq a (bs [45, 45]) = false := by rw [seq_by, hya]; exact beq_false_of_ne fun e => hc (by injection e)
    have e2 : seq a (bs [45]) = false := by rw [seq_by, hya]; exact beq_false_of_ne fun e => hc (by injection e)
    have e4 : ((c.toNat : Int) != (45 : Int)) = true := by
     have := u8_lit c 45 (by omega)
     unfold bne
     rw [show ((45 : Nat) : Int) = (45 : Int) from rfl] at this
     rw [this, beq_false_of_ne (by exact hc)]; rfl
    rw [if_neg hc]
    refine ⟨.inr (.inr (.inr (.inl ((i : Int), f, a, c)))), iterN_done ?_, i, rfl, hi, by rw [hdrop]⟩
    simp only [ref03Parse_b3, hlt, cond_true, hgt, Option.bind_some, e1, e2, e3, cond_false, hg0, e4]
   subst hc
   rw [if_pos rfl]
   cases g with
   | nil =>
    have e1 : seq a (bs [45, 45]) = false := by rw [seq_by, hya]; rfl
    have e2 : seq a (bs [45]) = true := by rw [seq_by, hya]; rfl
    refine ⟨.inr (.inl ((i : Int), f, a)), iterN_done ?_, i, rfl, hi, by rw [hdrop]⟩
    simp only [ref03Parse_b3, hlt, cond_true, hgt, Option.bind_some, e1, e2, cond_false]
   | cons d g' =>
    have e2 : seq a (bs [45]) = false := by rw [seq_by, hya]; rfl
    simp only
    by_cases hd : d = 45 ∧ g' = []
    ·obtain ⟨rfl, rfl⟩ := hd
     have e1 : seq a (bs [45, 45]) = true := by rw [seq_by, hya]; rfl
     refine ⟨.inl ((i : Int), f, a), iterN_done ?_, i, rfl, hil, rfl⟩
     simp only [ref03Parse_b3, hlt, cond_true, hgt, Option.bind_some, e1]
    have e1 : seq a (bs [45, 45]) = false := by
     rw [seq_by, hya]
     exact beq_false_of_ne fun e => hd (by injection e with _ e; injection e with e1 e2; exact ⟨e1, e2⟩)
    have e4 : (((45 : UInt8).toNat : Int) != (45 : Int)) = false := rfl
    rw [if_neg hd]
    have hal : (d :: g').length + 1 = a.size := by rw [hsz, hya]; rfl
    obtain ⟨x, g1, g2⟩ := rgroup_loop s a argv hs (by omega) hn (d :: g') 1 (i + 1) f (by rw [hya]; rfl) (by omega) hil (by omega)
    have g1' := iterN_LF g1 (by omega)
    obtain ⟨e, a', f', hgr⟩ : ∃ e a' f', grpF (by_ s) (d :: g') (argv.drop (i + 1)) f = (e, a', f') := ⟨_, _, _, rfl⟩
    obtain ⟨hl1, hl2⟩ := grpF_le _ _ _ _ _ _ _ hgr
    rw [hgr] at g2 ⊢
    rw [show ((1 : Nat) : Int) = (1 : Int) from rfl] at g1'
    simp only
    have step : ∀ (st' : Int × List FlagD) (hb3 : ref03Parse_b3 s argv ((i : Int), f) = some (.inl st')) (j : Nat), st' = ((j : Int), f') → j ≤ argv.length → a' = argv.drop j → e = 0 →
      ∃ x, iterN (ref03Parse_b3 s argv) (n + 1 + 1) ((i : Int), f) = some x ∧ absPX argv x (if e = 0 then parF (by_ s) (n + 1) a' f' else (e, [], [])) := by
     intro st' hb3 j hst hj ha' he
     rw [if_pos he]
     have hl3 : argv.length - j ≤ n := by rw [ha', List.length_drop, List.length_drop] at hl1; omega
     obtain ⟨x, k1, k2⟩ := ih j f' hj hl3 (by rw [ha'] at hl2; omega)
     refine ⟨x, iterN_step (a' := st') hb3 (by rw [hst]; exact k1), by rw [ha']; exact k2⟩
    rcases x with ⟨v1, v2, v3, b2, r1, r2⟩ | ⟨v1, v2, v3, b2, r1, r2, b3⟩ | ⟨v1, v2, v3, b2, r1, r2⟩ | ⟨v1, v2, v3⟩ <;> simp only [absRX] at g2
    ·simp only [Prod.mk.injEq] at g2
     obtain ⟨rfl, rfl, rfl⟩ := g2
     rw [if_neg (by decide)]
     refine ⟨.inr (.inr (.inr (.inr (.inl ((i : Int), f, a, 45, v1, v2, v3, b2, r1, r2))))), iterN_done ?_, rfl⟩
     simp only [ref03Parse_b3, hlt, cond_true, hgt, Option.bind_some, e1, e2, e3, cond_false, hg0, e4, hwi, g1']
    ·obtain ⟨j, hj1, hj2, hj3⟩ := g2
     simp only [Prod.mk.injEq] at hj3
     obtain ⟨he, ha', hf'⟩ := hj3
     exact step (v1, f') (by simp only [ref03Parse_b3, hlt, cond_true, hgt, Option.bind_some, e1, e2, e3, cond_false, hg0, e4, hwi, g1', hf']) j (by rw [hj1]) hj2 ha' he
    ·simp only [Prod.mk.injEq] at g2
     obtain ⟨rfl, rfl, rfl⟩ := g2
     rw [if_neg (by decide)]
     refine ⟨.inr (.inr (.inr (.inr (.inr (.inl ((i : Int), f, a, 45, v1, v2, v3, b2, r1, r2)))))), iterN_done ?_, rfl⟩
     simp only [ref03Parse_b3, hlt, cond_true, hgt, Option.bind_some, e1, e2, e3, cond_false, hg0, e4, hwi, g1']
    ·obtain ⟨j, hj1, hj2, hj3⟩ := g2
     simp only [Prod.mk.injEq] at hj3
     obtain ⟨he, ha', hf'⟩ := hj3
     exact step (v1, f') (by simp only [ref03Parse_b3, hlt, cond_true, hgt, Option.bind_some, e1, e2, e3, cond_false, hg0, e4, hwi, g1', hf']) j (by rw [hj1]) hj2 ha' he
where
 lt_true' {i n : Nat} (h : i < n) : decide ((i : Int) < (n : Int)) = true := by simp; exact h
theorem ref03Parse_eq (spec : ByteArray) (argv : List ByteArray) (hs : spec.size ≤ 1000000) (hn : argv.length ≤ 1000000) (ht : tot argv ≤ 1000000) :
  ref03Parse spec argv = some (ansP (parF (by_ spec) (argv.length + 1) argv [])) := by
 obtain ⟨x, h1, h2⟩ := rpar_loop spec argv hs hn argv.length 0 [] (Nat.zero_le _) (by omega) (by simpa using ht)
 have h4 := iterN_LF h1 (by omega)
 rw [show ((0 : Nat) : Int) = (0 : Int) from rfl] at h4
 rw [List.drop_zero] at h2
 unfold ref03Parse
 rw [h4, Option.bind_some]
 have fin : ∀ (j : Nat) (f : List FlagD) (r : Int × List ByteArray × List FlagD), j ≤ argv.length → r = (0, argv.drop j, f) → (grd (0 ≤ (j : Int) ∧ (j : Int) ≤ (argv.length : Int) ∧ (argv.length : Int) ≤ (argv.length : Int)) <|
   grd (room (([] : (List ByteArray)).length + (argv.drop (((j : Int)).toNat)).length) 16) <| some (f, (([] : (List ByteArray)) ++ (argv.drop (((j : Int)).toNat))), (0 : Int))) = some (ansP r) := by
  intro j f r hj hr
  rw [grd_pos (by omega), grd_pos (room16 (by simp; omega)), hr]
  rfl
 rcases x with ⟨i, f, y⟩ | ⟨i, f, y⟩ | ⟨i, f, y⟩ | ⟨i, f, y, b⟩ | ⟨i, f, y, b, v3, v4, v5, b2, r1, r2⟩ | ⟨i, f, y, b, v3, v4, v5, b2, r1, r2⟩ | ⟨i, f⟩ <;> simp only [absPX] at h2
 ·obtain ⟨j, rfl, hj, hr⟩ := h2
  dsimp only
  rw [show w64 ((j : Int) + 1) = ((j + 1 : Nat) : Int) from w64_succ (by omega)]
  exact fin (j + 1) f _ hj hr
 ·obtain ⟨j, rfl, hj, hr⟩ := h2; exact fin j f _ hj hr
 ·obtain ⟨j, rfl, hj, hr⟩ := h2; exact fin j f _ hj hr
 ·obtain ⟨j, rfl, hj, hr⟩ := h2; exact fin j f _ hj hr
 ·rw [h2]; rfl
 ·rw [h2]; rfl
 ·obtain ⟨j, rfl, hj, hr⟩ := h2; exact fin j f _ hj hr
end Go.Proofs.YtdbekeidlppfiaaGreatDoor.Den
namespace Go.Proofs.YtdbekeidlppfiaaGreatDoor.Den
open Go Go.RowKit
theorem ltd {i n : Nat} (h : i < n) : decide ((i : Int) < (n : Int)) = true := by simp; exact h
theorem ltf {n : Nat} : decide ((n : Int) < (n : Int)) = false := by simp
theorem drop_at {α : Type} {l : List α} {i : Nat} {x : α} {t : List α} (h : l.drop i = x :: t) : ∃ hi : i < l.length, l[i] = x ∧ l.drop (i + 1) = t := by
 rcases Nat.lt_or_ge i l.length with h1 | h1
 ·rw [List.drop_eq_getElem_cons h1] at h
  injection h with h2 h3
  exact ⟨h1, h2, h3⟩
 ·rw [List.drop_eq_nil_of_le h1] at h; cases h
theorem drop_end {α : Type} {l : List α} {i : Nat} (h : l.drop i = []) (hi : i ≤ l.length) : i = l.length := by
 have := congrArg List.length h
 simp at this; omega
theorem texts_loop (l : List ByteArray) (hl : l.length ≤ 1000000) : ∀ (t : List ByteArray) (i : Nat), l.drop i = t → i ≤ l.length → iterN (ref01Texts_b4 l l) (t.length + 1) (i : Int) = some (.inr (l.length : Int))
 | [], i, h, hi => by
  obtain rfl := drop_end h hi
  refine iterN_done ?_
  simp only [ref01Texts_b4, ltf, cond_false]
 | x :: t, i, h, hi => by
  obtain ⟨hlt, hx, ht⟩ := drop_at h
  refine iterN_step (a' := ((i + 1 : Nat) : Int)) ?_ (texts_loop l hl t (i + 1) ht hlt)
  simp only [ref01Texts_b4, ltd hlt, cond_true, gt_nat hlt, hx, Option.bind_some, seq_self, Bool.not_true, cond_false, w64_succ (i := i) (by omega)]
theorem texts_self (l : List ByteArray) (hl : l.length ≤ 1000000) : ref01Texts l l = some true := by
 unfold ref01Texts
 have e1 : ((l.length : Int) != (l.length : Int)) = false := by simp
 have h := iterN_LF (texts_loop l hl l 0 rfl (Nat.zero_le _)) (by omega)
 rw [show ((0 : Nat) : Int) = (0 : Int) from rfl] at h
 rw [e1, cond_false, h]; rfl
theorem tot_le {l : List ByteArray} {m : Nat} (h : ∀ a ∈ l, a.size ≤ m) : tot l ≤ l.length * m := by
 induction l with
 | nil => simp [tot]
 | cons a l ih =>
  have h1 := h a (by simp)
  have h2 := ih fun b hb => h b (by simp [hb])
  have : tot (a :: l) = a.size + tot l := by simp [tot]
  rw [this, List.length_cons, Nat.add_mul]; omega
end Go.Proofs.YtdbekeidlppfiaaGreatDoor.Den
namespace Go.Proofs.YtdbekeidlppfiaaGreatDoor.Den
open Go Go.RowKit
def digB (d : Nat) : ByteArray := bs [UInt8.ofNat (48 + d)]
theorem wrap_u64 {a : Int} (h1 : 0 ≤ a) (h2 : a < 18446744073709551616) : IntKind.u64.wrap a = a := by
 have e1 : (2 : Int) ^ 64 = 18446744073709551616 := by decide
 simp only [IntKind.wrap, IntKind.bits, IntKind.signed, e1, Bool.false_and]
 simp
 omega
theorem dig_ext : ∀ d : Nat, d < 10 → (bs [48, 49, 50, 51, 52, 53, 54, 55, 56, 57]).extract d (d + 1) = digB d
 | 0, _ => rfl
 | 1, _ => rfl
 | 2, _ => rfl
 | 3, _ => rfl
 | 4, _ => rfl
 | 5, _ => rfl
 | 6, _ => rfl
 | 7, _ => rfl
 | 8, _ => rfl
 | 9, _ => rfl
 | n + 10, h => by omega
theorem tmod_nat (n : Nat) : Int.tmod (n : Int) 10 = ((n % 10 : Nat) : Int) := rfl
theorem tdiv_nat (n : Nat) : Int.tdiv (n : Int) 10 = ((n / 10 : Nat) : Int) := rfl
theorem dig_at (n : Nat) : (bs [48, 49, 50, 51, 52, 53, 54, 55, 56, 57]).extract ((Int.tmod (n : Int) (10 : Int))).toNat ((IntKind.wrap .u64 ((Int.tmod (n : Int) (10 : Int)) + (1 : Int)))).toNat = digB (n % 10) := by
 have h : n % 10 < 10 := Nat.mod_lt _ (by decide)
 rw [tmod_nat, wrap_u64 (by omega) (by omega)]
 have e : (((n % 10 : Nat) : Int) + 1).toNat = n % 10 + 1 := by omega
 rw [e, Int.toNat_natCast, dig_ext _ h]
theorem natural_loop : ∀ (n : Nat) (acc : ByteArray), n < 18446744073709551616 → acc.size + Lib.nDigits n ≤ 1000 →
  ∃ (v1 : Nat) (v2 : ByteArray), iterN ref15Natural_b2 (Lib.nDigits n) ((n : Int), acc) = some ((v1 : Int), v2) ∧ digB (v1 % 10) ++ v2 = bs (Lib.decDigits n) ++ acc := by
 intro n
 induction n using Nat.strongRecOn with
 | _ n ih =>
  intro acc hn ha
  have hm : n % 10 < 10 := Nat.mod_lt _ (by decide)
  have hstep : ref15Natural_b2 ((n : Int), acc) = bif (((n / 10 : Nat) : Int) == 0) then some (.inr ((n : Int), acc)) else some (.inl (((n / 10 : Nat) : Int), digB (n % 10) ++ acc)) := by
   unfold ref15Natural_b2
   simp only
   rw [dig_at]
   rw [grd_pos (by
    rw [tmod_nat, wrap_u64 (by omega) (by omega)]
    refine ⟨by omega, by omega, ?_⟩
    show _ ≤ ((10 : Nat) : Int)
    omega)]
   rw [grd_pos (by
    show ¬ _ > (9223372036854775807 : Int)
    have : (digB (n % 10)).size = 1 := rfl
    rw [this]
    omega)]
   rw [tdiv_nat, wrap_u64 (by omega) (by omega)]
  by_cases h : n < 10
  ·refine ⟨n, acc, ?_, ?_⟩
   ·rw [Lib.nDigits_small h]
    refine iterN_done (hstep.trans ?_)
    have : n / 10 = 0 := by omega
    rw [this]; rfl
   ·rw [Lib.decDigits, dif_pos h, Nat.mod_eq_of_lt h]; rfl
  ·rw [Lib.nDigits_big h] at ha ⊢
   have hs : (digB (n % 10) ++ acc).size = acc.size + 1 := by
    rw [size_by, by_append, List.length_append, size_by acc]
    show 1 + _ = _
    omega
   obtain ⟨v1, v2, e1, e2⟩ := ih (n / 10) (by omega) (digB (n % 10) ++ acc) (by omega) (by rw [hs]; omega)
   refine ⟨v1, v2, iterN_step (hstep.trans ?_) e1, ?_⟩
   ·have : (((n / 10 : Nat) : Int) == 0) = false := by simp; omega
    rw [this]; rfl
   ·have e3 : Lib.decDigits n = Lib.decDigits (n / 10) ++ [UInt8.ofNat (48 + n % 10)] := by rw [Lib.decDigits, dif_neg h]
    rw [e2, e3]
    apply by_inj
    simp [by_append, by_bs, digB]
theorem natural_eq (n : Nat) (hn : n < 18446744073709551616) : ref15Natural (n : Int) = some (bs (Lib.decDigits n)) := by
 have hd := Lib.nDigits_le20 n hn
 obtain ⟨v1, v2, h1, h2⟩ := natural_loop n (bs []) hn (by show 0 + _ ≤ 1000; omega)
 have h3 := iterN_LF h1 (by omega)
 unfold ref15Natural
 rw [h3, Option.bind_some]
 simp only
 rw [dig_at, h2]
 congr 1
 apply by_inj
 simp [by_append, by_bs]
theorem digits_eq (n : Int) (h0 : 0 ≤ n) (h1 : n ≤ 9223372036854775807) : ref15Digits n = itoaX n := by
 obtain ⟨m, rfl⟩ := Int.eq_ofNat_of_zero_le h0
 unfold ref15Digits itoaX
 rw [if_pos ⟨by omega, h1⟩]
 have e : decide ((m : Int) < 0) = false := by simp
 rw [e, cond_false, wrap_u64 (by omega) (by omega), natural_eq m (by omega), Option.bind_some, Lib.itoa_nonneg]
theorem fail_eq (j : JobD) (path : ByteArray) (e : Int) (h0 : 0 ≤ e) (h1 : e ≤ 9223372036854775807) : ref15Fail j path e = jobFail j path e := by
 unfold ref15Fail jobFail
 rw [digits_eq e h0 h1]
theorem fail_some (j : JobD) (path : ByteArray) (e : Int) (h0 : 0 ≤ e) (h1 : e ≤ 9223372036854775807) (hp : path.size ≤ 1125899906842624) : ∃ o : ByteArray, jobFail j path e = some { j with done := true, exit := 1, out := o, e := e } := by
 unfold jobFail
 have hm : (IntKind.i64.max : Int) = 9223372036854775807 := by decide
 have he : (bs [58, 32, 101, 114, 114, 111, 114, 32]).size = 8 := rfl
 have hl := Lib.itoa_length_le e (by omega) h1
 rw [grd_pos (by rw [hm, he]; omega)]
 unfold itoaX
 rw [if_pos ⟨by omega, h1⟩, Option.bind_some, grd_pos (by
  rw [hm, size_by, by_append, List.length_append, ← size_by, ← size_by, he]
  have : (⟨(Lib.itoa e).toArray⟩ : ByteArray).size = (Lib.itoa e).length := by rw [size_by]; rfl
  rw [this]; omega)]
 exact ⟨_, rfl⟩
theorem room48 {n : Nat} (h : n ≤ 1000001) : room n 48 := by unfold room; omega
theorem work_loop {a0 a1 a2 a3 a4 a5 a6 a7 a8 : Int} {t0 t1 t2 : ByteArray} {ns : List ByteArray} (l : List FrameD) {dr : List Int} {dn : Bool} {ex : Int} {out : ByteArray} {er : Int}
  {b0 b1 b2 b3 b4 b5 b6 b7 b8 : Int} {u0 u1 u2 : ByteArray} {ms : List ByteArray} {ds : List Int} {dm : Bool} {ey : Int} {ou : ByteArray} {es : Int} (hl : l.length ≤ 1000000) :
  ∀ (k i : Nat), i + k = l.length → iterN (law18Work_b3 a0 a1 a2 a3 a4 a5 a6 a7 a8 t0 t1 t2 ns l dr dn ex out er b0 b1 b2 b3 b4 b5 b6 b7 b8 u0 u1 u2 ms ds dm ey ou es) (k + 1) ((i : Int), l.take i) =
   some (match l with | [] => .inl (l.length : Int) | z :: y => .inr ((l.length : Int), z, y))
 | 0, i, hk => by
  obtain rfl : i = l.length := by omega
  rw [List.take_length]
  refine iterN_done ?_
  cases l with
  | nil => simp only [law18Work_b3, ltf, cond_false]
  | cons z y => simp only [law18Work_b3, ltf, cond_false]
 | k + 1, i, hk => by
  have hlt : i < l.length := by omega
  have ih := work_loop (a0 := a0) (a1 := a1) (a2 := a2) (a3 := a3) (a4 := a4) (a5 := a5) (a6 := a6) (a7 := a7) (a8 := a8) (t0 := t0) (t1 := t1) (t2 := t2) (ns := ns) l (dr := dr) (dn := dn) (ex := ex) (out := out) (er := er) (b0 := b0) (b1 := b1) (b2 := b2) (b3 := b3) (b4 := b4) (b5 := b5) (b6 := b6) (b7 := b7) (b8 := b8) (u0 := u0) (u1 := u1) (u2 := u2) (ms := ms) (ds := ds) (dm := dm) (ey := ey) (ou := ou) (es := es) hl k (i + 1) (by omega)
  refine iterN_step (a' := (((i + 1 : Nat) : Int), l.take (i + 1))) ?_ ih
  cases h : l.take i with
  | nil =>
   have hi := take_nil hlt h
   subst hi
   simp only [law18Work_b3, ltd hlt, cond_true, gt_nat hlt, Option.bind_some, w64_succ (i := 0) (by omega)]
   congr 3
   cases l with
   | nil => simp at hlt
   | cons z y => rfl
  | cons z y =>
   have hz : (z :: y).length ≤ 1000000 := by rw [← h, List.length_take]; omega
   simp only [law18Work_b3, ltd hlt, cond_true, gt_nat hlt, Option.bind_some, grd_pos (room48 (n := (z :: y).length + 1) (by omega)), w64_succ (i := i) (by omega)]
   rw [take_cons hlt h]
theorem work_eq (j : JobD) (hl : j.stack.length ≤ 1000000) : law18Work j = some j := by
 unfold law18Work
 have h := iterN_LF (work_loop (a0 := j.kind) (a1 := j.p) (a2 := j.phase) (a3 := j.fd) (a4 := j.nF) (a5 := j.modeF) (a6 := j.tries) (a7 := j.atF) (a8 := j.flags) (t0 := j.path) (t1 := j.path2) (t2 := j.text) (ns := j.names) j.stack (dr := j.draws) (dn := j.done) (ex := j.exit) (out := j.out) (er := j.e) (b0 := j.kind) (b1 := j.p) (b2 := j.phase) (b3 := j.fd) (b4 := j.nF) (b5 := j.modeF) (b6 := j.tries) (b7 := j.atF) (b8 := j.flags) (u0 := j.path) (u1 := j.path2) (u2 := j.text) (ms := j.names) (ds := j.draws) (dm := j.done) (ey := j.exit) (ou := j.out) (es := j.e) hl j.stack.length 0 (by omega)) (by omega)
 rw [show ((0 : Nat) : Int) = (0 : Int) from rfl, List.take_zero] at h
 rw [h, Option.bind_some]
 obtain ⟨q0, q1, q2, q3, q4, q5, q6, q7, q8, q9, q10, q11, q12, st, q14, q15, q16, q17, q18⟩ := j
 cases st <;> rfl
theorem frames_loop (l : List FrameD) (hl : l.length ≤ 1000000) (hf : ∀ f ∈ l, f.names.length ≤ 1000000) : ∀ (t : List FrameD) (i : Nat), l.drop i = t → i ≤ l.length → iterN (ref15Frames_b4 l l) (t.length + 1) (i : Int) = some (.inr (.inr (.inr (l.length : Int))))
 | [], i, h, hi => by
  obtain rfl := drop_end h hi
  refine iterN_done ?_
  simp only [ref15Frames_b4, ltf, cond_false]
 | x :: t, i, h, hi => by
  obtain ⟨hlt, hx, ht⟩ := drop_at h
  refine iterN_step (a' := ((i + 1 : Nat) : Int)) ?_ (frames_loop l hl hf t (i + 1) ht hlt)
  have hn := texts_self x.names (hf x (hx ▸ List.getElem_mem hlt))
  simp only [ref15Frames_b4, ltd hlt, cond_true, gt_nat hlt, hx, Option.bind_some, bne_self_eq_false, seq_self, Bool.not_true, cond_false, hn, w64_succ (i := i) (by omega)]
theorem frames_self (l : List FrameD) (hl : l.length ≤ 1000000) (hf : ∀ f ∈ l, f.names.length ≤ 1000000) : ref15Frames l l = some true := by
 unfold ref15Frames
 have e1 : ((l.length : Int) != (l.length : Int)) = false := by simp
 have h := iterN_LF (frames_loop l hl hf l 0 rfl (Nat.zero_le _)) (by omega)
 rw [show ((0 : Nat) : Int) = (0 : Int) from rfl] at h
 rw [e1, cond_false, h]; rfl
theorem ints_loop (l : List Int) (hl : l.length ≤ 1000000) : ∀ (t : List Int) (i : Nat), l.drop i = t → i ≤ l.length → iterN (ref15Ints_b4 l l) (t.length + 1) (i : Int) = some (.inr (l.length : Int))
 | [], i, h, hi => by
  obtain rfl := drop_end h hi
  refine iterN_done ?_
  simp only [ref15Ints_b4, ltf, cond_false]
 | x :: t, i, h, hi => by
  obtain ⟨hlt, hx, ht⟩ := drop_at h
  refine iterN_step (a' := ((i + 1 : Nat) : Int)) ?_ (ints_loop l hl t (i + 1) ht hlt)
  simp only [ref15Ints_b4, ltd hlt, cond_true, gt_nat hlt, hx, Option.bind_some, bne_self_eq_false, cond_false, w64_succ (i := i) (by omega)]
theorem ints_self (l : List Int) (hl : l.length ≤ 1000000) : ref15Ints l l = some true := by
 unfold ref15Ints
 have e1 : ((l.length : Int) != (l.length : Int)) = false := by simp
 have h := iterN_LF (ints_loop l hl l 0 rfl (Nat.zero_le _)) (by omega)
 rw [show ((0 : Nat) : Int) = (0 : Int) from rfl] at h
 rw [e1, cond_false, h]; rfl
structure Tame (j : JobD) : Prop where
 names : j.names.length ≤ 1000000
 stack : j.stack.length ≤ 1000000
 inner : ∀ f ∈ j.stack, f.names.length ≤ 1000000
 draws : j.draws.length ≤ 1000000
theorem job_self (j : JobD) (h : Tame j) : ref15Same j j = some true := by
 unfold ref15Same
 rw [texts_self _ h.names, frames_self _ h.stack h.inner, ints_self _ h.draws]
 simp only [Option.bind_some, Bool.not_true, cond_false, beq_self_eq_true, cond_true, seq_self]
theorem texts19_loop (l : List ByteArray) : ∀ (k i : Nat), i + k = 20 → i ≤ l.length → (∀ (j : Nat) (a : ByteArray), j < i → l[j]? = some a → a.size ≤ 150) →
  ∃ x, iterN (law18Texts_b2 l) (k + 1) (i : Int) = some x ∧ ((∃ v, x = .inl v) ∨ ((∃ v, x = .inr (.inl v)) ∧ 20 ≤ l.length) ∨ ((∃ v, x = .inr (.inr v)) ∧ ∀ a ∈ l, a.size ≤ 150))
 | k, i, hk, hi, hall => by
  rcases Nat.lt_or_ge i l.length with hlt | hge
  case inr =>
   obtain rfl : i = l.length := by omega
   refine ⟨.inr (.inr (l.length : Int)), iterN_done ?_, .inr (.inr ⟨⟨_, rfl⟩, fun a ha => ?_⟩)⟩
   ·simp only [law18Texts_b2, ltf, cond_false]
   ·obtain ⟨j, hj, rfl⟩ := List.getElem_of_mem ha
    exact hall j _ hj (List.getElem?_eq_getElem hj)
  cases k with
  | zero =>
   obtain rfl : i = 20 := by omega
   refine ⟨.inr (.inl ((20 : Nat) : Int)), iterN_done ?_, .inr (.inl ⟨⟨_, rfl⟩, by omega⟩)⟩
   have e : decide (((20 : Nat) : Int) < (20 : Int)) = false := by decide
   simp only [law18Texts_b2, ltd hlt, cond_true, e, cond_false]
  | succ k =>
   have e : decide ((i : Int) < (20 : Int)) = true := by simp; omega
   by_cases hs : (l[i]).size > 150
   ·refine ⟨.inl ((i : Int), l[i]), iterN_done ?_, .inl ⟨_, rfl⟩⟩
    have e2 : decide (((l[i]).size : Int) > (150 : Int)) = true := by simp; omega
    simp only [law18Texts_b2, ltd hlt, cond_true, e, gt_nat hlt, Option.bind_some, e2]
   ·have e2 : decide (((l[i]).size : Int) > (150 : Int)) = false := by simp; omega
    obtain ⟨x, h1, h2⟩ := texts19_loop l k (i + 1) (by omega) hlt (fun j a hj ha => by
     rcases Nat.lt_or_ge j i with h | h
     ·exact hall j a h ha
     ·obtain rfl : j = i := by omega
      rw [List.getElem?_eq_getElem hlt] at ha
      cases ha; omega)
    refine ⟨x, iterN_step (a' := ((i + 1 : Nat) : Int)) ?_ h1, h2⟩
    simp only [law18Texts_b2, ltd hlt, cond_true, e, gt_nat hlt, Option.bind_some, e2, cond_false, w64_succ (i := i) (by omega)]
theorem texts19_eq (l : List ByteArray) : ∃ b, law18Texts l = some b ∧ (b = true → l.length ≤ 10 ∧ ∀ a ∈ l, a.size ≤ 150) := by
 obtain ⟨x, h1, h2⟩ := texts19_loop l 20 0 (by omega) (Nat.zero_le _) (fun j a h => by omega)
 have h3 := iterN_LF h1 (by omega)
 rw [show ((0 : Nat) : Int) = (0 : Int) from rfl] at h3
 unfold law18Texts
 rw [h3, Option.bind_some]
 rcases h2 with ⟨v, rfl⟩ | ⟨⟨v, rfl⟩, h⟩ | ⟨⟨v, rfl⟩, h⟩
 ·exact ⟨false, rfl, fun h => by cases h⟩
 ·refine ⟨_, rfl, fun hb => ?_⟩
  simp at hb; omega
 ·refine ⟨_, rfl, fun hb => ?_⟩
  simp at hb
  exact ⟨by omega, h⟩
end Go.Proofs.YtdbekeidlppfiaaGreatDoor.Den
namespace Go.Proofs.YtdbekeidlppfiaaGreatDoor.Den
open Go Go.RowKit
theorem seq_nilB (l : List UInt8) : seq (bs l) (bs []) = decide (l = []) := by rw [seq_nil]; cases l <;> simp
theorem ext_one {l : List UInt8} {i : Nat} (h : i < l.length) : (bs l).extract i (i + 1) = bs [l[i]] := by
 apply by_inj
 rw [by_extract, by_bs, by_bs, List.take_succ_eq_append_getElem h, List.drop_append_of_le_length (by simp; omega)]
 simp [List.drop_take_self]
end Go.Proofs.YtdbekeidlppfiaaGreatDoor.Den
namespace Go.Proofs.YtdbekeidlppfiaaGreatDoor.Den
open Go Go.RowKit
def neP (l : List UInt8) : List (List UInt8) := (pieces l).filter fun x => !x.isEmpty
theorem pieces_cut : ∀ (a : List UInt8) (r : List UInt8), (∀ x ∈ a, x ≠ 47) → pieces (a ++ 47 :: r) = a :: pieces r
 | [], r, _ => by simp [pieces]
 | c :: a, r, h => by
  have hc : c ≠ 47 := h c (by simp)
  have ih := pieces_cut a r fun x hx => h x (by simp [hx])
  simp only [List.cons_append, pieces, if_neg hc, ih]
theorem pieces_whole : ∀ (a : List UInt8), (∀ x ∈ a, x ≠ 47) → pieces a = [a]
 | [], _ => rfl
 | c :: a, h => by
  have hc : c ≠ 47 := h c (by simp)
  have ih := pieces_whole a fun x hx => h x (by simp [hx])
  simp only [pieces, if_neg hc, ih]
theorem ne_cut (a r : List UInt8) (h : ∀ x ∈ a, x ≠ 47) : neP (a ++ 47 :: r) = (if a = [] then [] else [a]) ++ neP r := by
 unfold neP
 rw [pieces_cut a r h]
 cases a <;> simp
theorem ne_whole (a : List UInt8) (h : ∀ x ∈ a, x ≠ 47) (ha : a ≠ []) : neP a = [a] := by
 unfold neP
 rw [pieces_whole a h]
 cases a with
 | nil => exact absurd rfl ha
 | cons c a => simp
theorem split_step0 {l : List UInt8} (hl : l.length ≤ 1000000) {i : Nat} (hi : i < l.length) {cur : List UInt8} {out : List ByteArray} (hol : out.length ≤ i) (hcl : cur.length ≤ i) :
  ∃ cur' out', ref01Split_b4 (bs l) (bs cur, (i : Int), out) = some (.inl (bs cur', ((i + 1 : Nat) : Int), out')) ∧
   ((l[i] = 47 ∧ cur' = [] ∧ out' = (if cur = [] then out else out ++ [bs cur])) ∨ (l[i] ≠ 47 ∧ i + 1 = l.length ∧ cur' = [] ∧ out' = out ++ [bs (cur ++ [l[i]])]) ∨ (l[i] ≠ 47 ∧ i + 1 ≠ l.length ∧ cur' = cur ++ [l[i]] ∧ out' = out)) := by
 have hsz : (bs l).size = l.length := rfl
 have hg : gtS (bs l) (i : Int) = some l[i] := by rw [gtS_by, by_bs, List.getElem?_eq_getElem hi]
 have hm : (IntKind.i64.max : Int) = 9223372036854775807 := by decide
 have hlt : decide ((i : Int) < ((bs l).size : Int)) = true := by rw [hsz]; exact ltd hi
 have hw : w64 ((i : Int) + 1) = ((i + 1 : Nat) : Int) := w64_succ (by omega)
 have hx : (bs l).extract ((i : Int)).toNat ((((i + 1 : Nat) : Int))).toNat = bs [l[i]] := by rw [Int.toNat_natCast, Int.toNat_natCast, ext_one hi]
 by_cases hc : l[i] = 47
 ·have e1 : ((l[i].toNat : Int) != 47) = false := by rw [hc]; rfl
  have e2 : ((l[i].toNat : Int) == 47) = true := by rw [hc]; rfl
  by_cases hq : cur = []
  ·subst hq
   refine ⟨[], out, ?_, .inl ⟨hc, rfl, by rw [if_pos rfl]⟩⟩
   simp only [ref01Split_b4, hlt, cond_true, hg, Option.bind_some, e1, cond_false, seq_nilB, hw]
   rfl
  ·refine ⟨[], out ++ [bs cur], ?_, .inl ⟨hc, rfl, by rw [if_neg hq]⟩⟩
   have e3 : (!decide (cur = [])) = true := by simp [hq]
   simp only [ref01Split_b4, hlt, cond_true, hg, Option.bind_some, e1, e2, cond_false, seq_nilB, hw, e3, grd_pos (room16 (n := out.length + 1) (by omega))]
 ·have e1 : ((l[i].toNat : Int) != 47) = true := by
   simp only [bne_iff_ne, ne_eq]
   intro h
   exact hc (UInt8.toNat_inj.1 (by show l[i].toNat = 47; omega))
  have e2 : ((l[i].toNat : Int) == 47) = false := by
   simp only [beq_eq_false_iff_ne, ne_eq]
   intro h
   exact hc (UInt8.toNat_inj.1 (by show l[i].toNat = 47; omega))
  have e4 : bs cur ++ bs [l[i]] = bs (cur ++ [l[i]]) := by apply by_inj; rw [by_append, by_bs, by_bs, by_bs]
  have e5 : (!decide (cur ++ [l[i]] = [])) = true := by simp
  have g1 : 0 ≤ (i : Int) ∧ (i : Int) ≤ ((i + 1 : Nat) : Int) ∧ ((i + 1 : Nat) : Int) ≤ ((bs l).size : Int) := ⟨by omega, by omega, by rw [hsz]; omega⟩
  have g2 : ¬ ((((bs cur).size + (bs [l[i]]).size : Nat) : Int) > IntKind.i64.max) := by
   rw [hm]; show ¬ (((cur.length + 1 : Nat) : Int) > _); omega
  have hw2 : w64 (((bs l).size : Int) - 1) = (l.length : Int) - 1 := by rw [hsz]; exact w64_eq (by omega) (by omega)
  by_cases hend : i + 1 = l.length
  ·refine ⟨[], out ++ [bs (cur ++ [l[i]])], ?_, .inr (.inl ⟨hc, hend, rfl, rfl⟩)⟩
   have e6 : ((i : Int) == (l.length : Int) - 1) = true := by simp; omega
   simp only [ref01Split_b4, hlt, cond_true, hg, Option.bind_some, e1, e2, cond_false, hw, hx, e4, grd_pos g1, grd_pos g2, seq_nilB, e5, hw2, e6, grd_pos (room16 (n := out.length + 1) (by omega))]
  ·refine ⟨cur ++ [l[i]], out, ?_, .inr (.inr ⟨hc, hend, rfl, rfl⟩)⟩
   have e6 : ((i : Int) == (l.length : Int) - 1) = false := by simp; omega
   simp only [ref01Split_b4, hlt, cond_true, hg, Option.bind_some, e1, e2, cond_false, hw, hx, e4, grd_pos g1, grd_pos g2, seq_nilB, e5, hw2, e6]
structure SpF (l : List UInt8) (i : Nat) (cur : List UInt8) (out : List ByteArray) : Prop where
 all : out.map by_ ++ neP (cur ++ l.drop i) = neP l
 cln : ∀ x ∈ cur, x ≠ 47
 fin : i = l.length → cur = []
 len : out.length ≤ i
 clen : cur.length ≤ i
theorem spf_loop {l : List UInt8} (hl : l.length ≤ 1000000) : ∀ (k i : Nat) (cur : List UInt8) (out : List ByteArray), i + k = l.length → SpF l i cur out →
  ∃ out', iterN (ref01Split_b4 (bs l)) (k + 1) (bs cur, (i : Int), out) = some (bs [], (l.length : Int), out') ∧ out'.map by_ = neP l ∧ out'.length ≤ l.length
 | 0, i, cur, out, hk, I => by
  obtain rfl : i = l.length := by omega
  have hc := I.fin rfl
  subst hc
  refine ⟨out, iterN_done ?_, ?_, I.len⟩
  ·have : decide ((l.length : Int) < ((bs l).size : Int)) = false := ltf
   simp only [ref01Split_b4, this, cond_false]
  ·have := I.all
   rw [List.drop_length] at this
   rwa [show neP ([] ++ []) = [] from rfl, List.append_nil] at this
 | k + 1, i, cur, out, hk, I => by
  have hi : i < l.length := by omega
  obtain ⟨cur', out', h1, h2⟩ := split_step0 hl hi I.len I.clen
  have hd : l.drop i = l[i] :: l.drop (i + 1) := List.drop_eq_getElem_cons hi
  have hall := I.all
  have hlen := I.len
  have hclen := I.clen
  have J : SpF l (i + 1) cur' out' := by
   rcases h2 with ⟨hc, rfl, rfl⟩ | ⟨hc, he, rfl, rfl⟩ | ⟨hc, he, rfl, rfl⟩
   ·rw [hd, hc, ne_cut _ _ I.cln] at hall
    by_cases hq : cur = []
    ·rw [if_pos hq] at hall ⊢
     exact ⟨hall, by simp, fun _ => rfl, by omega, by simp⟩
    ·rw [if_neg hq] at hall ⊢
     refine ⟨?_, by simp, fun _ => rfl, by simp; omega, by simp⟩
     rw [← hall, List.map_append, List.append_assoc]
     rfl
   ·have hd2 : l.drop (i + 1) = [] := List.drop_eq_nil_of_le (by omega)
    rw [hd, hd2] at hall
    have hcl : ∀ x ∈ cur ++ [l[i]], x ≠ 47 := by
     intro x hx
     rcases List.mem_append.1 hx with h | h
     ·exact I.cln x h
     ·rw [List.mem_singleton.1 h]; exact hc
    rw [ne_whole _ hcl (by simp)] at hall
    refine ⟨?_, by simp, fun _ => rfl, by simp; omega, by simp⟩
    rw [hd2, ← hall, List.map_append, show neP ([] ++ []) = [] from rfl, List.append_nil]
    rfl
   ·refine ⟨?_, ?_, fun h => absurd h he, by omega, by simp; omega⟩
    ·rw [← hall, hd, List.append_assoc]; rfl
    ·intro x hx
     rcases List.mem_append.1 hx with h | h
     ·exact I.cln x h
     ·rw [List.mem_singleton.1 h]; exact hc
  obtain ⟨o, h3, h4⟩ := spf_loop hl k (i + 1) cur' out' (by omega) J
  exact ⟨o, iterN_step h1 h3, h4⟩
theorem ref01Split_eq (p : List UInt8) (hp : p.length ≤ 1000000) : ∃ o x y, ref01Split (bs p) = some (o, x, y) ∧ o.map by_ = neP p ∧ o.length ≤ p.length := by
 obtain ⟨o, h1, h2, h3⟩ := spf_loop hp p.length 0 [] [] (by omega) ⟨rfl, by simp, fun _ => rfl, Nat.zero_le _, Nat.zero_le _⟩
 have h4 := iterN_LF h1 (by omega)
 rw [show ((0 : Nat) : Int) = (0 : Int) from rfl] at h4
 have hsp : ∃ x y, ref01Split (bs p) = some (o, x, y) := by
  unfold ref01Split
  rw [h4, Option.bind_some]
  simp only [seq_nilB]
  by_cases hq : p = []
  ·subst hq; exact ⟨_, _, rfl⟩
  ·have e : decide (p = []) = false := by simp [hq]
   have hpos : 0 < p.length := List.length_pos_iff.2 hq
   have g0 : gtS (bs p) 0 = some (p[0]'hpos) := by
    rw [show (0 : Int) = ((0 : Nat) : Int) from rfl, gtS_by, by_bs, List.getElem?_eq_getElem hpos]
   have hw2 : w64 (((bs p).size : Int) - 1) = ((p.length - 1 : Nat) : Int) := by
    show w64 ((p.length : Int) - 1) = _
    rw [w64_eq (by omega) (by omega)]; omega
   have g1 : gtS (bs p) ((p.length - 1 : Nat) : Int) = some (p[p.length - 1]'(by omega)) := by rw [gtS_by, by_bs, List.getElem?_eq_getElem]
   rw [e, Bool.not_false, cond_true, g0, Option.bind_some, cond_true, hw2, g1, Option.bind_some]
   exact ⟨_, _, rfl⟩
 obtain ⟨x, y, hsp⟩ := hsp
 exact ⟨o, x, y, hsp, h2, h3⟩
theorem short_loop (l : List ByteArray) (hl : l.length ≤ 1000000) : ∀ (t : List ByteArray) (i : Nat), l.drop i = t → i ≤ l.length → ∃ x, iterN (ref01Check_b12 l) (t.length + 1) (i : Int) = some x ∧
  (((∃ v, x = .inl v) ∧ t.any (fun a => decide (12 < a.size)) = true) ∨ ((∃ v, x = .inr v) ∧ t.any (fun a => decide (12 < a.size)) = false))
 | [], i, h, hi => by
  obtain rfl := drop_end h hi
  refine ⟨.inr (l.length : Int), iterN_done ?_, .inr ⟨⟨_, rfl⟩, rfl⟩⟩
  simp only [ref01Check_b12, ltf, cond_false]
 | y :: t, i, h, hi => by
  obtain ⟨hlt, hx, ht⟩ := drop_at h
  by_cases hs : 12 < y.size
  ·refine ⟨.inl ((i : Int), y), iterN_done ?_, .inl ⟨⟨_, rfl⟩, by simp [hs]⟩⟩
   have e2 : decide ((y.size : Int) > (12 : Int)) = true := by simp; omega
   simp only [ref01Check_b12, ltd hlt, cond_true, gt_nat hlt, hx, Option.bind_some, e2]
  ·have e2 : decide ((y.size : Int) > (12 : Int)) = false := by simp; omega
   obtain ⟨x, h1, h2⟩ := short_loop l hl t (i + 1) ht hlt
   refine ⟨x, iterN_step (a' := ((i + 1 : Nat) : Int)) ?_ h1, ?_⟩
   ·simp only [ref01Check_b12, ltd hlt, cond_true, gt_nat hlt, hx, Option.bind_some, e2, cond_false, w64_succ (i := i) (by omega)]
   ·have e3 : (y :: t).any (fun a => decide (12 < a.size)) = t.any (fun a => decide (12 < a.size)) := by simp [hs]
    rw [e3]; exact h2
theorem zero_loop (l : List UInt8) (hl : l.length ≤ 1000000) : ∀ (t : List UInt8) (i : Nat), l.drop i = t → i ≤ l.length → ∃ x, iterN (ref01Check_b6 (bs l)) (t.length + 1) (i : Int) = some x ∧
  (((∃ v, x = .inl v) ∧ t.contains 0 = true) ∨ ((∃ v, x = .inr v) ∧ t.contains 0 = false))
 | [], i, h, hi => by
  obtain rfl := drop_end h hi
  refine ⟨.inr (l.length : Int), iterN_done ?_, .inr ⟨⟨_, rfl⟩, rfl⟩⟩
  have : decide ((l.length : Int) < ((bs l).size : Int)) = false := ltf
  simp only [ref01Check_b6, this, cond_false]
 | y :: t, i, h, hi => by
  obtain ⟨hlt, hx, ht⟩ := drop_at h
  have hlt' : decide ((i : Int) < ((bs l).size : Int)) = true := ltd hlt
  have hg : gtS (bs l) (i : Int) = some y := by rw [gtS_by, by_bs, List.getElem?_eq_getElem hlt, hx]
  by_cases hs : y = 0
  ·refine ⟨.inl ((i : Int), y), iterN_done ?_, .inl ⟨⟨_, rfl⟩, by simp [hs]⟩⟩
   have e2 : ((y.toNat : Int) == 0) = true := by rw [hs]; rfl
   simp only [ref01Check_b6, hlt', cond_true, hg, Option.bind_some, e2]
  ·have e2 : ((y.toNat : Int) == 0) = false := by
    simp only [beq_eq_false_iff_ne, ne_eq]
    intro h
    exact hs (UInt8.toNat_inj.1 (by show y.toNat = 0; omega))
   obtain ⟨x, h1, h2⟩ := zero_loop l hl t (i + 1) ht hlt
   refine ⟨x, iterN_step (a' := ((i + 1 : Nat) : Int)) ?_ h1, ?_⟩
   ·simp only [ref01Check_b6, hlt', cond_true, hg, Option.bind_some, e2, cond_false, w64_succ (i := i) (by omega)]
   ·have e3 : (y :: t).contains 0 = t.contains 0 := by
     rw [List.contains_cons]
     have : ((0 : UInt8) == y) = false := by simp; exact fun h => hs h.symm
     rw [this, Bool.false_or]
    rw [e3]; exact h2
theorem emit_any : ∀ (L : List (List UInt8)) (a : Nat), (emit a (L.map fun l => ⟨⟨l⟩⟩)).any (fun x => decide (12 < x.2.size)) = (L.filter fun x => !x.isEmpty).any (fun x => decide (12 < x.length))
 | [], a => rfl
 | [] :: L, a => by
  have e : (⟨⟨[]⟩⟩ : ByteArray).size = 0 := rfl
  simp only [List.map_cons, emit, e, if_true]
  rw [emit_any L (a + 1)]
  rfl
 | (c :: x) :: L, a => by
  have e : (⟨⟨c :: x⟩⟩ : ByteArray).size = x.length + 1 := rfl
  have e0 : ¬ (x.length + 1 = 0) := by omega
  simp only [List.map_cons, emit, e, if_neg e0, List.any_cons]
  rw [emit_any L]
  rfl
theorem any_by (o : List ByteArray) : o.any (fun a => decide (12 < a.size)) = (o.map by_).any (fun x => decide (12 < x.length)) := by
 rw [List.any_map]
 rfl
theorem check_eq (p : List UInt8) : ref01Check (bs p) = checkX (bs p) := by
 unfold ref01Check checkX checkV
 rw [seq_nilB]
 have hsz : (bs p).size = p.length := rfl
 by_cases hq : p = []
 ·subst hq; rfl
 have hne : ¬ (p.length = 0) := by intro h; exact hq (List.length_eq_zero_iff.1 h)
 rw [decide_eq_false hq, cond_false, hsz, if_neg hne]
 by_cases hb : 100 < p.length
 ·have e : decide ((p.length : Int) > 100) = true := by simp; omega
  rw [e, cond_true, if_pos hb]
 have e : decide ((p.length : Int) > 100) = false := by simp; omega
 rw [e, cond_false, if_neg hb]
 obtain ⟨x, h1, h2⟩ := zero_loop p (by omega) p 0 rfl (Nat.zero_le _)
 have h3 := iterN_LF h1 (by omega)
 rw [show ((0 : Nat) : Int) = (0 : Int) from rfl] at h3
 rw [h3, Option.bind_some]
 have hix : (0 ≤ Lib.indexByte (bs p).data.toList 0) ↔ p.contains 0 = true := by
  have := indexByte_neg p 0
  show (0 ≤ Lib.indexByte p 0) ↔ _
  constructor
  ·intro h
   have e1 : decide (Lib.indexByte p 0 < 0) = false := by simp; exact h
   rw [e1] at this
   cases hc : p.contains 0 with
   | true => rfl
   | false => rw [hc] at this; cases this
  ·intro h
   rw [h] at this
   have : ¬ (Lib.indexByte p 0 < 0) := of_decide_eq_false this
   omega
 rcases h2 with ⟨⟨v, rfl⟩, hc⟩ | ⟨⟨v, rfl⟩, hc⟩
 ·rw [if_pos (hix.2 hc)]
 ·have hc' : ¬ (0 ≤ Lib.indexByte (bs p).data.toList 0) := by intro h; rw [hix.1 h] at hc; cases hc
  rw [if_neg hc']
  obtain ⟨o, a, b, h4, h5, h6⟩ := ref01Split_eq p (by omega)
  obtain ⟨z, h7, h8⟩ := short_loop o (by omega) o 0 rfl (Nat.zero_le _)
  have h9 := iterN_LF h7 (by omega)
  rw [show ((0 : Nat) : Int) = (0 : Int) from rfl] at h9
  simp only [h4, Option.bind_some, h9]
  have hany : (partsB (bs p)).any (fun x => decide (12 < x.2.size)) = o.any (fun a => decide (12 < a.size)) := by
   rw [any_by, h5]
   exact emit_any (pieces p) 0
  rw [hany]
  rcases h8 with ⟨⟨w, rfl⟩, hd⟩ | ⟨⟨w, rfl⟩, hd⟩
  ·rw [if_pos hd]
  ·rw [if_neg (by rw [hd]; exact Bool.false_ne_true)]
theorem checkV_le (p : ByteArray) : 0 ≤ checkV p ∧ checkV p ≤ 9 := by
 unfold checkV
 split
 ·decide
 ·split
  ·decide
  ·split
   ·decide
   ·split <;> decide
end Go.Proofs.YtdbekeidlppfiaaGreatDoor.Den
namespace Go.Proofs.YtdbekeidlppfiaaGreatDoor.Den
open Go Go.RowKit
theorem par_le (sp : List UInt8) : ∀ (n : Nat) (av : List ByteArray) (fl : List FlagD), (parF sp n av fl).2.1.length ≤ av.length ∧ (parF sp n av fl).2.2.length + tot (parF sp n av fl).2.1 ≤ fl.length + tot av
 | 0, av, fl => by simp [parF]
 | n + 1, [], fl => by simp [parF]
 | n + 1, a :: av, fl => by
  have ht : tot (a :: av) = a.size + tot av := by simp [tot]
  unfold parF
  split
  ·simp only [ht]; exact ⟨Nat.le_refl _, by omega⟩
  ·rename_i c g hc
   have hsz : a.size = g.length + 1 := by rw [size_by, hc]; rfl
   split
   ·cases g with
    | nil => simp only [ht]; exact ⟨Nat.le_refl _, by omega⟩
    | cons d g' =>
     simp only
     split
     ·simp only [ht, List.length_cons]; exact ⟨by omega, by omega⟩
     ·split
      ·obtain ⟨h1, h2⟩ := grpF_le sp (d :: g') av fl (grpF sp (d :: g') av fl).1 (grpF sp (d :: g') av fl).2.1 (grpF sp (d :: g') av fl).2.2 rfl
       obtain ⟨h3, h4⟩ := par_le sp n (grpF sp (d :: g') av fl).2.1 (grpF sp (d :: g') av fl).2.2
       rw [ht, List.length_cons]
       simp only [List.length_cons] at h2 hsz
       refine ⟨Nat.le_trans h3 ?_, Nat.le_trans h4 ?_⟩
       ·omega
       ·omega
      ·simp [tot]
   ·simp only [ht]; exact ⟨Nat.le_refl _, by omega⟩
theorem ans_le (sp : List UInt8) (n : Nat) (av : List ByteArray) : (ansP (parF sp n av [])).1.length + tot (ansP (parF sp n av [])).2.1 ≤ tot av ∧ (ansP (parF sp n av [])).2.1.length ≤ av.length := by
 obtain ⟨h1, h2⟩ := par_le sp n av []
 unfold ansP
 split
 ·exact ⟨by simpa using h2, h1⟩
 ·simp [tot]
theorem grp_err (sp : List UInt8) : ∀ (g : List UInt8) (av : List ByteArray) (fl : List FlagD), 0 ≤ (grpF sp g av fl).1 ∧ (grpF sp g av fl).1 ≤ 31
 | [], av, fl => by simp [grpF]
 | c :: g, av, fl => by
  unfold grpF
  split
  ·simp
  ·split
   ·cases g with
    | nil => cases av with
     | nil => simp
     | cons a av' => simp
    | cons d g' => simp
   ·exact grp_err sp g av _
theorem par_err (sp : List UInt8) : ∀ (n : Nat) (av : List ByteArray) (fl : List FlagD), 0 ≤ (parF sp n av fl).1 ∧ (parF sp n av fl).1 ≤ 31
 | 0, av, fl => by simp [parF]
 | n + 1, [], fl => by simp [parF]
 | n + 1, a :: av, fl => by
  unfold parF
  split
  ·simp
  ·rename_i c g hc
   split
   ·cases g with
    | nil => simp
    | cons d g' =>
     simp only
     split
     ·simp
     ·split
      ·exact par_err sp n _ _
      ·exact grp_err sp _ _ _
   ·simp
theorem ans_err (sp : List UInt8) (n : Nat) (av : List ByteArray) : 0 ≤ (ansP (parF sp n av [])).2.2 ∧ (ansP (parF sp n av [])).2.2 ≤ 31 := by
 unfold ansP
 split
 ·simp
 ·exact par_err sp n av []
theorem parse_gen (sp : List UInt8) (hs : sp.length ≤ 1000000) (argv : List ByteArray) (hn : argv.length ≤ 10) (ha : ∀ a ∈ argv, a.size ≤ 150) : ∃ f o e, optionParse (bs sp) argv = some (f, o, e) ∧ ref03Parse (bs sp) argv = some (f, o, e) ∧ f.length + tot o ≤ 1500 ∧ 0 ≤ e ∧ e ≤ 31 := by
 have ht : tot argv ≤ 1500 := by have := tot_le ha; omega
 have h1 := optionParse_eq (bs sp) argv (by show sp.length < _; omega) (by omega) (by omega)
 have h2 := ref03Parse_eq (bs sp) argv (by show sp.length ≤ _; omega) (by omega) (by omega)
 have h3 := (ans_le (by_ (bs sp)) (argv.length + 1) argv).1
 have h4 := ans_err (by_ (bs sp)) (argv.length + 1) argv
 generalize ansP (parF (by_ (bs sp)) (argv.length + 1) argv []) = X at h1 h2 h3 h4
 obtain ⟨f, o, e⟩ := X
 simp only at h3 h4
 exact ⟨f, o, e, h1, h2, by omega, h4.1, h4.2⟩
theorem tot_at {l : List ByteArray} {a : ByteArray} (h : a ∈ l) : a.size ≤ tot l := by
 induction l with
 | nil => cases h
 | cons b l ih =>
  have e : tot (b :: l) = b.size + tot l := by simp [tot]
  rcases List.mem_cons.1 h with rfl | h
  ·omega
  ·have := ih h; omega
theorem two_of {α : Type} {l : List α} (h : l.length = 2) : ∃ a b, l = [a, b] := by
 match l, h with
 | [a, b], _ => exact ⟨a, b, rfl⟩
end Go.Proofs.YtdbekeidlppfiaaGreatDoor.Den
namespace Go.Proofs.YtdbekeidlppfiaaGreatDoor.Den
open Go Go.RowKit
def lastV (c : Int) : ByteArray × Bool → List FlagD → ByteArray × Bool
 | d, [] => d
 | d, x :: l => lastV c (if x.letter == c then (x.value, true) else d) l
theorem lastV_snoc (c : Int) : ∀ (l : List FlagD) (d : ByteArray × Bool) (x : FlagD), lastV c d (l ++ [x]) = if x.letter == c then (x.value, true) else lastV c d l
 | [], d, x => by simp only [List.nil_append, lastV]
 | y :: l, d, x => by simp only [List.cons_append, lastV]; exact lastV_snoc c l _ x
theorem lastV_any (c : Int) : ∀ (l : List FlagD) (d : ByteArray × Bool), (lastV c d l).2 = (d.2 || l.any fun x => x.letter == c)
 | [], d => by simp [lastV]
 | x :: l, d => by
  simp only [lastV, List.any_cons]
  rw [lastV_any c l]
  cases h : (x.letter == c) <;> simp
theorem rvalue_loop (l : List FlagD) (c : Int) (hl : l.length ≤ 1000000) : ∀ (i : Nat), i ≤ l.length → ∃ x, iterN (ref03Value_b2 l c) (i + 1) ((i : Int) - 1) = some x ∧
  (match x with | .inl (v, y, z) => (z.value, true) | .inr v => (bs [], false)) = lastV c (bs [], false) (l.take i)
 | 0, hi => ⟨.inr (((0 : Nat) : Int) - 1), iterN_done rfl, rfl⟩
 | i + 1, hi => by
  have hlt : i < l.length := by omega
  have e0 : (((i + 1 : Nat) : Int) - 1) = (i : Int) := by omega
  have e1 : decide ((i : Int) ≥ (0 : Int)) = true := by simp
  rw [e0, List.take_succ_eq_append_getElem hlt, lastV_snoc]
  cases h : (l[i].letter == c) with
  | true =>
   refine ⟨.inl ((i : Int), l[i], l[i]), iterN_done ?_, rfl⟩
   simp only [ref03Value_b2, e1, cond_true, gt_nat hlt, Option.bind_some, h]
  | false =>
   obtain ⟨x, h1, h2⟩ := rvalue_loop l c hl i (by omega)
   refine ⟨x, iterN_step (a' := (i : Int) - 1) ?_ h1, by rw [h2]; rfl⟩
   have e2 : w64 ((i : Int) - 1) = (i : Int) - 1 := w64_eq (by omega) (by omega)
   simp only [ref03Value_b2, e1, cond_true, gt_nat hlt, Option.bind_some, h, cond_false, e2]
theorem ref03Value_eq (l : List FlagD) (c : Int) (hl : l.length ≤ 1000000) : ref03Value l c = some (lastV c (bs [], false) l) := by
 unfold ref03Value
 obtain ⟨x, h1, h2⟩ := rvalue_loop l c hl l.length (Nat.le_refl _)
 rw [List.take_length] at h2
 have h3 := iterN_LF h1 (by omega)
 have e : w64 ((l.length : Int) - 1) = (l.length : Int) - 1 := w64_eq (by omega) (by omega)
 rw [e, h3, Option.bind_some, ← h2]
 rcases x with ⟨v, y, z⟩ | v <;> rfl
theorem ref03Has_eq (l : List FlagD) (c : Int) (hl : l.length ≤ 1000000) : ref03Has l c = some (l.any fun x => x.letter == c) := by
 unfold ref03Has
 rw [ref03Value_eq l c hl, Option.bind_some]
 show some (lastV c (bs [], false) l).2 = _
 rw [lastV_any]; rfl
theorem has_loop (l : List FlagD) (c : Int) (hl : l.length ≤ 1000000) : ∀ (t : List FlagD) (i : Nat), l.drop i = t → i ≤ l.length → ∃ x, iterN (slicesIndexFunc_b2 l (l.length : Int)) (t.length + 1) ((i : Int), c) = some x ∧
  (match x with | .inl (v, _, _, _, r) => (if t.any (fun x => x.letter == c) then 0 ≤ v else False) | .inr _ => (t.any (fun x => x.letter == c)) = false)
 | [], i, h, hi => by
  obtain rfl := drop_end h hi
  refine ⟨.inr ((l.length : Int), c), iterN_done ?_, rfl⟩
  simp only [slicesIndexFunc_b2, ltf, cond_false]
 | x :: t, i, h, hi => by
  obtain ⟨hlt, hx, ht⟩ := drop_at h
  have e1 : optionHas1 x.letter x.value c = some ((x.letter == c), c) := rfl
  cases hb : (x.letter == c) with
  | true =>
   rw [hb] at e1
   refine ⟨.inl ((i : Int), c, x, true, c), iterN_done ?_, ?_⟩
   ·simp only [slicesIndexFunc_b2, ltd hlt, cond_true, gt_nat hlt, hx, Option.bind_some, e1]
   ·simp [hb]
  | false =>
   rw [hb] at e1
   obtain ⟨z, h1, h2⟩ := has_loop l c hl t (i + 1) ht hlt
   refine ⟨z, iterN_step (a' := (((i + 1 : Nat) : Int), c)) ?_ h1, ?_⟩
   ·simp only [slicesIndexFunc_b2, ltd hlt, cond_true, gt_nat hlt, hx, Option.bind_some, e1, cond_false, w64_succ (i := i) (by omega)]
   ·rcases z with ⟨v, y, w, q, r⟩ | v <;> simp only [List.any_cons, hb, Bool.false_or] <;> exact h2
theorem optionHas_eq (l : List FlagD) (c : Int) (hl : l.length ≤ 1000000) : optionHas l c = some (l.any fun x => x.letter == c) := by
 obtain ⟨x, h1, h2⟩ := has_loop l c hl l 0 rfl (Nat.zero_le _)
 have h3 := iterN_LF h1 (by omega)
 rw [show ((0 : Nat) : Int) = (0 : Int) from rfl] at h3
 unfold optionHas slicesContainsFunc slicesIndexFunc
 rw [h3]
 rcases x with ⟨v, y, w, q, r⟩ | ⟨v, y⟩
 ·simp only at h2
  split at h2
  ·rename_i hany
   rw [hany]
   have : decide (v ≥ (0 : Int)) = true := decide_eq_true h2
   simp only [Option.bind_some, this]
  ·exact h2.elim
 ·simp only at h2
  rw [h2]; rfl
end Go.Proofs.YtdbekeidlppfiaaGreatDoor.Den
namespace Go.Proofs.YtdbekeidlppfiaaGreatDoor.Den
open Go Go.RowKit
theorem loop2 {β1 γ1 β2 γ2 : Type} {f : Int → Option (Int ⊕ (β1 ⊕ γ1))} {g : Int → Option (Int ⊕ (β2 ⊕ γ2))} (R : β1 → β2 → Prop)
  (h0 : (∃ b1 b2, f 0 = some (.inr (.inl b1)) ∧ g 0 = some (.inr (.inl b2)) ∧ R b1 b2) ∨ (f 0 = some (.inl 1) ∧ g 0 = some (.inl 1)))
  (h1 : (∃ b1 b2, f 1 = some (.inr (.inl b1)) ∧ g 1 = some (.inr (.inl b2)) ∧ R b1 b2) ∨ (f 1 = some (.inl 2) ∧ g 1 = some (.inl 2)))
  (hf : ∃ c, f 2 = some (.inr (.inr c))) (hg : ∃ c, g 2 = some (.inr (.inr c))) :
  (∃ b1 b2, iterN f LF 0 = some (.inl b1) ∧ iterN g LF 0 = some (.inl b2) ∧ R b1 b2) ∨ (∃ c1 c2, iterN f LF 0 = some (.inr c1) ∧ iterN g LF 0 = some (.inr c2)) := by
 have e : (3 : Nat) ≤ 1000000000 := by omega
 rcases h0 with ⟨b1, b2, e1, e2, hr⟩ | ⟨f0, g0⟩
 ·exact .inl ⟨b1, b2, iterN_LF (n := 3) (iterN_done e1) e, iterN_LF (n := 3) (iterN_done e2) e, hr⟩
 rcases h1 with ⟨b1, b2, e1, e2, hr⟩ | ⟨f1, g1⟩
 ·exact .inl ⟨b1, b2, iterN_LF (n := 3) (iterN_step f0 (iterN_done e1)) e, iterN_LF (n := 3) (iterN_step g0 (iterN_done e2)) e, hr⟩
 obtain ⟨c1, e1⟩ := hf
 obtain ⟨c2, e2⟩ := hg
 exact .inr ⟨c1, c2, iterN_LF (n := 3) (iterN_step f0 (iterN_step f1 (iterN_done e1))) e, iterN_LF (n := 3) (iterN_step g0 (iterN_step g1 (iterN_done e2))) e⟩
theorem checks18 (f : List FlagD) (y1 y2 : ByteArray) (p : Int) (draws : List Int) (hy1 : y1.size ≤ 1500) (hy2 : y2.size ≤ 1500) :
  (∃ b1 b2, iterN (cloneStart_b8 f [y1, y2] [y1, y2] ([y1, y2].length : Int) 3 p 0 (-1) 0 0 0 0 0 (bs []) (bs []) (bs []) [] [] draws false 0 (bs []) 0) LF 0 = some (.inl b1) ∧
   iterN (ref18Start_b8 f [y1, y2] 3 p 0 (-1) 0 0 0 0 0 (bs []) (bs []) (bs []) [] [] draws false 0 (bs []) 0) LF 0 = some (.inl b2) ∧ b1.2.2.2 = b2.2.2.2.2 ∧ b1.2.2.2.names = [] ∧ b1.2.2.2.stack = [] ∧ b1.2.2.2.draws = draws) ∨
  (∃ c1 c2, iterN (cloneStart_b8 f [y1, y2] [y1, y2] ([y1, y2].length : Int) 3 p 0 (-1) 0 0 0 0 0 (bs []) (bs []) (bs []) [] [] draws false 0 (bs []) 0) LF 0 = some (.inr c1) ∧
   iterN (ref18Start_b8 f [y1, y2] 3 p 0 (-1) 0 0 0 0 0 (bs []) (bs []) (bs []) [] [] draws false 0 (bs []) 0) LF 0 = some (.inr c2)) := by
 have one : ∀ (i : Int) (y : ByteArray), gt [y1, y2] i = some y → y.size ≤ 1500 → decide (i < 2) = true → (i = 0 ∨ i = 1) →
   (∃ b1 b2, cloneStart_b8 f [y1, y2] [y1, y2] ([y1, y2].length : Int) 3 p 0 (-1) 0 0 0 0 0 (bs []) (bs []) (bs []) [] [] draws false 0 (bs []) 0 i = some (.inr (.inl b1)) ∧
    ref18Start_b8 f [y1, y2] 3 p 0 (-1) 0 0 0 0 0 (bs []) (bs []) (bs []) [] [] draws false 0 (bs []) 0 i = some (.inr (.inl b2)) ∧ b1.2.2.2 = b2.2.2.2.2 ∧ b1.2.2.2.names = [] ∧ b1.2.2.2.stack = [] ∧ b1.2.2.2.draws = draws) ∨
   (cloneStart_b8 f [y1, y2] [y1, y2] ([y1, y2].length : Int) 3 p 0 (-1) 0 0 0 0 0 (bs []) (bs []) (bs []) [] [] draws false 0 (bs []) 0 i = some (.inl (w64 (i + 1))) ∧
    ref18Start_b8 f [y1, y2] 3 p 0 (-1) 0 0 0 0 0 (bs []) (bs []) (bs []) [] [] draws false 0 (bs []) 0 i = some (.inl (w64 (i + 1)))) := by
  intro i y hg hy hi hi2
  have hi3 : decide (i < ([y1, y2].length : Int)) = true := hi
  have hc := check_eq (by_ y)
  rw [bs_by] at hc
  have hv : checkX y = some (checkV y) := rfl
  have hr := checkV_le y
  rw [hv] at hc
  by_cases hcv : checkV y = 0
  ·right
   have z4 : (checkV y != 0) = false := by simp [hcv]
   simp only [cloneStart_b8, ref18Start_b8, hi, hi3, cond_true, hg, Option.bind_some, hc, hv, z4, cond_false, and_self]
  ·left
   have z4 : (checkV y != 0) = true := by simp [hcv]
   obtain ⟨o, ho⟩ := fail_some ⟨3, p, 0, -1, 0, 0, 0, 0, 0, bs [], bs [], bs [], [], [], draws, false, 0, bs [], 0⟩ y (checkV y) hr.1 (by omega) (by omega)
   have hf := fail_eq ⟨3, p, 0, -1, 0, 0, 0, 0, 0, bs [], bs [], bs [], [], [], draws, false, 0, bs [], 0⟩ y (checkV y) hr.1 (by omega)
   rw [ho] at hf
   simp only [cloneStart_b8, ref18Start_b8, hi, hi3, cond_true, hg, Option.bind_some, hc, hv, z4, ho, hf]
   exact ⟨_, _, rfl, rfl, rfl, rfl, rfl, rfl⟩
 have w1 : w64 ((0 : Int) + 1) = 1 := by rw [w64_eq (by omega) (by omega)]; rfl
 have w2 : w64 ((1 : Int) + 1) = 2 := by rw [w64_eq (by omega) (by omega)]; rfl
 refine loop2 (f := cloneStart_b8 f [y1, y2] [y1, y2] ([y1, y2].length : Int) 3 p 0 (-1) 0 0 0 0 0 (bs []) (bs []) (bs []) [] [] draws false 0 (bs []) 0) (g := ref18Start_b8 f [y1, y2] 3 p 0 (-1) 0 0 0 0 0 (bs []) (bs []) (bs []) [] [] draws false 0 (bs []) 0) (fun (b1 : Int × ByteArray × Int × JobD) (b2 : Int × ByteArray × Int × ByteArray × JobD) => b1.2.2.2 = b2.2.2.2.2 ∧ b1.2.2.2.names = [] ∧ b1.2.2.2.stack = [] ∧ b1.2.2.2.draws = draws) ?_ ?_ ⟨2, rfl⟩ ⟨2, rfl⟩
 ·have := one 0 y1 rfl hy1 rfl (.inl rfl)
  rw [w1] at this
  exact this
 ·have := one 1 y2 rfl hy2 rfl (.inr rfl)
  rw [w2] at this
  exact this
theorem start18 (p : Int) (argv : List ByteArray) (draws : List Int) (hn : argv.length ≤ 10) (ha : ∀ a ∈ argv, a.size ≤ 150) :
  ∃ r, cloneStart p argv draws = some r ∧ ref18Start p argv draws = some r ∧ r.names = [] ∧ r.stack = [] ∧ r.draws = draws := by
 unfold cloneStart ref18Start jobNew ref15New
 obtain ⟨f, o, e, p1, p2, hf, he0, he1⟩ := parse_gen [82] (by simp) argv hn ha
 simp only [p1, p2, Option.bind_some]
 by_cases h0 : e = 0
 ·subst h0
  have z1 : ((0 : Int) == 0) = true := rfl
  have z2 : ((0 : Int) != 0) = false := rfl
  by_cases h2 : o.length = 2
  ·obtain ⟨y1, y2, rfl⟩ := two_of h2
   have z3 : (([y1, y2].length : Int) != 2) = false := rfl
   have g1 : gt [y1, y2] 0 = some y1 := rfl
   have g2 : gt [y1, y2] 1 = some y2 := rfl
   have hy1 : y1.size ≤ 1500 := by have := tot_at (l := [y1, y2]) (a := y1) (by simp); omega
   have hy2 : y2.size ≤ 1500 := by have := tot_at (l := [y1, y2]) (a := y2) (by simp); omega
   have hfl : f.length ≤ 1000000 := by omega
   rcases checks18 f y1 y2 p draws hy1 hy2 with ⟨⟨q1, q2, q3, x⟩, ⟨u1, u2, u3, u4, x'⟩, i1, i2, hx, hx1, hx2, hx3⟩ | ⟨c1, c2, i1, i2⟩
   ·simp only at hx hx1 hx2 hx3
    subst hx
    simp only [z1, z2, z3, cond_true, cond_false, i1, i2, Option.bind_some]
    exact ⟨_, rfl, rfl, hx1, hx2, hx3⟩
   ·simp only [z1, z2, z3, cond_true, cond_false, i1, i2, g1, g2, Option.bind_some, optionHas_eq f 82 hfl, ref03Has_eq f 82 hfl]
    cases f.any fun x => x.letter == 82 <;> exact ⟨_, rfl, rfl, rfl, rfl, rfl⟩
  ·have z3 : ((o.length : Int) != 2) = true := by simp; omega
   simp only [z1, z2, z3, cond_true, cond_false]
   rw [fail_eq _ _ _ (by omega) (by omega)]
   obtain ⟨x, hx⟩ := fail_some ⟨3, p, 0, -1, 0, 0, 0, 0, 0, bs [], bs [], bs [], [], [], draws, false, 0, bs [], 0⟩ (bs [99, 112]) 1 (by omega) (by omega) (by show 2 ≤ _; omega)
   rw [hx]
   exact ⟨_, rfl, rfl, rfl, rfl, rfl⟩
 ·have z1 : (e == 0) = false := by simp [h0]
  have z2 : (e != 0) = true := by simp [h0]
  simp only [z1, z2, cond_true, cond_false]
  rw [fail_eq _ _ _ he0 (by omega)]
  obtain ⟨x, hx⟩ := fail_some ⟨3, p, 0, -1, 0, 0, 0, 0, 0, bs [], bs [], bs [], [], [], draws, false, 0, bs [], 0⟩ (bs [99, 112]) e he0 (by omega) (by show 2 ≤ _; omega)
  rw [hx]
  exact ⟨_, rfl, rfl, rfl, rfl, rfl⟩
theorem CloneStarts_true (p : Int) (argv : List ByteArray) (draws : List Int) : law18CloneStarts p argv draws = some true := by
 unfold law18CloneStarts shownX
 obtain ⟨b, hb, hb2⟩ := texts19_eq argv
 rw [hb, Option.bind_some]
 cases b with
 | false => rfl
 | true =>
  obtain ⟨hn, ha⟩ := hb2 rfl
  simp only [Bool.not_true, cond_false, Option.bind_some]
  by_cases hd : draws.length > 100
  ·have e : decide ((draws.length : Int) > 100) = true := by simp; omega
   rw [e, cond_true]
  ·have e : decide ((draws.length : Int) > 100) = false := by simp; omega
   obtain ⟨r, h1, h2, h3, h4, h5⟩ := start18 p argv draws hn ha
   have e1 : decide ((r.names.length : Int) ≤ 200) = true := by rw [h3]; rfl
   have e2 : decide ((r.stack.length : Int) ≤ 20) = true := by rw [h4]; rfl
   have ht : Tame r := ⟨by rw [h3]; simp, by rw [h4]; simp, by rw [h4]; simp, by rw [h5]; omega⟩
   simp only [e, cond_false, h1, h2, Option.bind_some, e1, e2, cond_true, work_eq r ht.stack, job_self r ht]
end Go.Proofs.YtdbekeidlppfiaaGreatDoor.Den
