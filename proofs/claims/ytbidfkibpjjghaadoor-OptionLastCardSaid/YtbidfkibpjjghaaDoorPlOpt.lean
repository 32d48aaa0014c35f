/- Plain laws of options: letters, groups. -/
import Derived.Test.YtbidfkibpjjghaaDoorPlTxt
import Derived.Test.YtbidfkibpjjghaaDoorDenF6
set_option linter.unusedVariables false
set_option linter.unusedSimpArgs false
namespace Go.Proofs.YtbidfkibpjjghaaDoor.Den
open Go Go.RowKit

/-! ### letters of a spec -/
def hasPair (c : UInt8) : List UInt8 → Bool
  | [] => false
  | b :: l => (b == c && l.head? == some 58) || hasPair c l
def kindF (sp : List UInt8) (c : UInt8) : Int := if c = 58 then 0 else if sp.contains c then (if hasPair c sp then 2 else 1) else 0
theorem indexByte_neg (l : List UInt8) (c : UInt8) : decide (Lib.indexByte l c < 0) = !l.contains c := by
  induction l with
  | nil => simp [Lib.indexByte]
  | cons b l ih =>
    unfold Lib.indexByte
    have hge := Lib.indexByte_ge l c
    by_cases hb : (b == c) = true
    · have : c = b := (by simpa using hb : b = c).symm
      simp [this]
    · have hb' : (b == c) = false := by simpa using hb
      have hcb : ¬ c = b := fun e => by simp [e] at hb'
      rw [if_neg hb]
      have e1 : (b :: l).contains c = l.contains c := by simp [List.contains_cons, hcb]
      rw [e1, ← ih]
      by_cases h1 : Lib.indexByte l c = -1
      · simp [h1]
      · have : ¬ (Lib.indexByte l c == -1) = true := by simpa using h1
        rw [if_neg this]
        have hp : 0 ≤ Lib.indexByte l c := by omega
        rw [decide_eq_false (by omega), decide_eq_false (by omega)]
theorem contains_pair (c : UInt8) : ∀ sp : List UInt8, Lib.contains sp [c, 58] = hasPair c sp
  | [] => by simp [Lib.contains, Lib.index, hasPair]
  | b :: l => by
    have ih := contains_pair c l
    unfold Lib.contains at ih ⊢
    unfold Lib.index hasPair
    have hge := Lib.index_ge l [c, 58]
    by_cases hp : ([c, 58].isPrefixOf (b :: l)) = true
    · rw [if_pos hp]
      have : (b == c && l.head? == some 58) = true := by
        cases l with
        | nil => simp [List.isPrefixOf] at hp
        | cons d l => simp [List.isPrefixOf] at hp ⊢; exact ⟨hp.1.symm, hp.2.symm⟩
      simp [this]
    · rw [if_neg hp]
      have : (b == c && l.head? == some 58) = false := by
        rw [Bool.eq_false_iff]
        intro h
        apply hp
        cases l with
        | nil => simp at h
        | cons d l => simp [List.isPrefixOf] at h ⊢; exact ⟨h.1.symm, h.2.symm⟩
      rw [this, Bool.false_or, ← ih]
      by_cases h1 : Lib.index l [c, 58] = -1
      · simp [h1]
      · have : ¬ (Lib.index l [c, 58] == -1) = true := by simpa using h1
        rw [if_neg this, decide_eq_true (by omega), decide_eq_true (by omega)]
theorem u8_int (c : UInt8) : ((c.toNat : Int)).toNat.toUInt8 = c := by simp
theorem u8_beq (a b : UInt8) : ((a.toNat : Int) == (b.toNat : Int)) = (a == b) := by
  by_cases h : a = b
  · subst h; rw [beq_self_eq_true, beq_self_eq_true]
  · have : ¬ ((a.toNat : Int) = (b.toNat : Int)) := fun e => h (UInt8.toNat_inj.1 (by omega))
    rw [beq_false_of_ne h, beq_false_of_ne this]
theorem u8_lit (a : UInt8) (n : Nat) (hn : n < 256) : ((a.toNat : Int) == (n : Int)) = (a == UInt8.ofNat n) := by
  have := u8_beq a (UInt8.ofNat n)
  rwa [UInt8.toNat_ofNat_of_lt' (by simpa using hn)] at this
theorem optionKind_eq (spec : ByteArray) (c : UInt8) (h : spec.size < 4294967281) : optionKind spec (c.toNat : Int) = some (kindF (by_ spec) c) := by
  unfold optionKind kindF
  have e1 : ((c.toNat : Int) == (58 : Int)) = (c == 58) := u8_lit c 58 (by omega)
  rw [e1]
  by_cases h1 : c = 58
  · subst h1; rfl
  · have h1' : (c == 58) = false := by simpa using h1
    rw [h1', cond_false, if_neg h1]
    have e2 : ixbX spec (c.toNat : Int) = some (Lib.indexByte (by_ spec) c) := by
      unfold ixbX ixbV
      rw [u8_int]; rfl
    have e3 : conX spec (ByteArray.mk [UInt8.ofNat ((c.toNat : Int)).toNat, UInt8.ofNat ((58 : Int)).toNat].toArray) = some (hasPair c (by_ spec)) := by
      unfold conX conV
      rw [if_pos h, ← contains_pair]
      simp [by_]
    rw [e2, Option.bind_some, indexByte_neg, e3, Option.bind_some]
    cases (by_ spec).contains c
    · rfl
    · cases hasPair c (by_ spec) <;> rfl

/-! ### the document's letters -/
theorem known_loop (spec : ByteArray) (c : UInt8) (hs : spec.size ≤ 1000000) : ∀ (l : List UInt8) (i : Nat) (x y : Bool), (by_ spec).drop i = l → i ≤ spec.size →
    iterN (ref03Known_b6 spec (c.toNat : Int)) (l.length + 1) (x, y, (i : Int)) = some (x || l.contains c, y || hasPair c l, (spec.size : Int))
  | [], i, x, y, h, hi => by
    have : i = spec.size := by
      have := congrArg List.length h
      rw [List.length_drop, ← size_by] at this
      simp at this; omega
    subst this
    refine iterN_done ?_
    simp [ref03Known_b6, hasPair]
  | b :: l, i, x, y, h, hi => by
    have hlt : i < (by_ spec).length := by
      rcases Nat.lt_or_ge i (by_ spec).length with h1 | h1
      · exact h1
      · rw [List.drop_eq_nil_of_le h1] at h; cases h
    have hlt' : i < spec.size := by rw [size_by]; exact hlt
    rw [List.drop_eq_getElem_cons hlt] at h
    injection h with h1 h2
    have hg : gtS spec (i : Int) = some b := by rw [gtS_by, List.getElem?_eq_getElem hlt, h1]
    have ih := fun x y => known_loop spec c hs l (i + 1) x y h2 (by omega)
    rw [List.length_cons]
    have hw : w64 ((i : Int) + 1) = ((i + 1 : Nat) : Int) := w64_succ (by omega)
    have hd : decide ((i : Int) < (spec.size : Int)) = true := by simp; exact hlt'
    have hcon : (b :: l).contains c = ((b == c) || l.contains c) := by
      rw [List.contains_cons]
      congr 1
      by_cases h : b = c
      · subst h; rfl
      · have h' : ¬ c = b := fun e => h e.symm
        rw [beq_false_of_ne h, beq_false_of_ne h']
    cases hb : (b == c) with
    | false =>
      refine iterN_step (a' := (x, y, ((i + 1 : Nat) : Int))) ?_ ?_
      · simp only [ref03Known_b6, hd, cond_true, hg, Option.bind_some, u8_beq, hb, cond_false, hw]
      · rw [ih, hcon, hb]; simp [hasPair, hb]
    | true =>
      have hhead : gtS spec ((i + 1 : Nat) : Int) = l.head? := by
        rw [gtS_by, ← h2, List.head?_drop]
      have hlen : l.length = spec.size - (i + 1) := by
        rw [← h2, List.length_drop, ← size_by]
      have hcon' : (x || (b :: l).contains c) = true := by rw [hcon, hb]; simp
      cases y with
      | true =>
        refine iterN_step (a' := (true, true, ((i + 1 : Nat) : Int))) ?_ ?_
        · simp only [ref03Known_b6, hd, cond_true, hg, Option.bind_some, u8_beq, hb, hw]
        · rw [ih, hcon']; simp
      | false =>
        cases hl : l with
        | nil =>
          have hd2 : decide ((((i + 1 : Nat) : Int)) < (spec.size : Int)) = false := by rw [hl] at hlen; simp at hlen ⊢; omega
          refine iterN_step (a' := (true, false, ((i + 1 : Nat) : Int))) ?_ ?_
          · simp only [ref03Known_b6, hd, cond_true, hg, Option.bind_some, u8_beq, hb, hw, hd2, cond_false]
          · have := ih true false
            rw [hl] at this hcon'
            rw [this, hcon']; simp [hasPair]
        | cons d l' =>
          have hd2 : decide ((((i + 1 : Nat) : Int)) < (spec.size : Int)) = true := by rw [hl] at hlen; simp at hlen ⊢; omega
          refine iterN_step (a' := (true, (d == 58), ((i + 1 : Nat) : Int))) ?_ ?_
          · have hh : gtS spec ((i + 1 : Nat) : Int) = some d := by rw [hhead, hl]; rfl
            have h58 : ((d.toNat : Int) == (58 : Int)) = (d == 58) := u8_lit d 58 (by omega)
            simp only [ref03Known_b6, hd, cond_true, hg, Option.bind_some, u8_beq, hb, hw, hd2, cond_false, hh, h58]
          · have := ih true (d == 58)
            rw [hl] at this hcon'
            rw [this, hcon']
            have e : ((some d : Option UInt8) == some 58) = (d == 58) := rfl
            simp [hasPair, hb, e]
theorem ref03Known_eq (spec : ByteArray) (c : UInt8) (hs : spec.size ≤ 1000000) : ref03Known spec (c.toNat : Int) = some (decide (kindF (by_ spec) c ≠ 0), decide (kindF (by_ spec) c = 2)) ∨
    (ref03Known spec (c.toNat : Int) = some (false, hasPair c (by_ spec)) ∧ kindF (by_ spec) c = 0) := by
  unfold ref03Known
  have e1 : ((c.toNat : Int) == (58 : Int)) = (c == 58) := u8_lit c 58 (by omega)
  rw [e1]
  by_cases h1 : c = 58
  · left
    subst h1; rfl
  · have h1' : (c == 58) = false := by simpa using h1
    have hl := known_loop spec c hs (by_ spec) 0 false false rfl (Nat.zero_le _)
    have hl2 := iterN_LF hl (by rw [← size_by]; omega)
    have e0 : ((0 : Nat) : Int) = (0 : Int) := rfl
    rw [e0] at hl2
    rw [h1', cond_false, hl2, Option.bind_some]
    simp only [Bool.false_or]
    unfold kindF
    rw [if_neg h1]
    cases hc : (by_ spec).contains c with
    | false => right; exact ⟨rfl, by simp⟩
    | true => left; cases hasPair c (by_ spec) <;> rfl
/-- What the document knows of a letter. -/
theorem ref03Known_kind (spec : ByteArray) (c : UInt8) (hs : spec.size ≤ 1000000) : ∃ t, ref03Known spec (c.toNat : Int) = some (decide (kindF (by_ spec) c ≠ 0), t) ∧ (kindF (by_ spec) c ≠ 0 → t = decide (kindF (by_ spec) c = 2)) := by
  rcases ref03Known_eq spec c hs with h | ⟨h, hk⟩
  · exact ⟨_, h, fun _ => rfl⟩
  · exact ⟨_, by rw [h, hk]; rfl, fun h => absurd hk h⟩
end Go.Proofs.YtbidfkibpjjghaaDoor.Den
