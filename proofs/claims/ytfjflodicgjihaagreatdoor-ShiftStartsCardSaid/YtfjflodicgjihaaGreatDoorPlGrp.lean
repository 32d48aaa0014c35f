/- Plain laws of steps that are taken again and again. -/
import Derived.Test.YtfjflodicgjihaaGreatDoorDenF12
import Derived.Lib.Index
set_option linter.unusedVariables false
set_option linter.unusedSimpArgs false
namespace Go.Proofs.YtfjflodicgjihaaGreatDoor.Den
open Go Go.RowKit

theorem iter_inv {α β : Type} {f : α → Option (α ⊕ β)} (I : Nat → α → Prop) (N : Nat) (R : β → Prop)
    (step : ∀ i a, i < N → I i a → (∃ a', f a = some (.inl a') ∧ I (i + 1) a') ∨ ∃ b, f a = some (.inr b) ∧ R b) (last : ∀ a, I N a → ∃ b, f a = some (.inr b) ∧ R b) {fuel : Nat} (hf : N < fuel) {a : α} (h0 : I 0 a) : ∃ b, iterN f fuel a = some b ∧ R b := by
  have key : ∀ d i fuel a, i + d = N → d < fuel → I i a → ∃ b, iterN f fuel a = some b ∧ R b := by
    intro d
    induction d with
    | zero =>
      intro i fuel a hi hl hI
      obtain rfl : i = N := by omega
      obtain ⟨k, rfl⟩ : ∃ k, fuel = k + 1 := ⟨fuel - 1, by omega⟩
      obtain ⟨b, h1, h2⟩ := last a hI
      exact ⟨b, by simp only [iterN, h1], h2⟩
    | succ d ih =>
      intro i fuel a hi hl hI
      obtain ⟨k, rfl⟩ : ∃ k, fuel = k + 1 := ⟨fuel - 1, by omega⟩
      rcases step i a (by omega) hI with ⟨a', h1, h2⟩ | ⟨b, h1, h2⟩
      · obtain ⟨b, g1, g2⟩ := ih (i + 1) k a' (by omega) (by omega) h2
        exact ⟨b, by simp only [iterN, h1]; exact g1, g2⟩
      · exact ⟨b, by simp only [iterN, h1], h2⟩
  exact key N 0 fuel a (by omega) hf h0
/-- The same, where the answer is known. -/
theorem iter_eq {α β : Type} {f : α → Option (α ⊕ β)} (I : Nat → α → Prop) (N : Nat) (r : β)
    (step : ∀ i a, i < N → I i a → (∃ a', f a = some (.inl a') ∧ I (i + 1) a') ∨ f a = some (.inr r)) (last : ∀ a, I N a → f a = some (.inr r)) {fuel : Nat} (hf : N < fuel) {a : α} (h0 : I 0 a) : iterN f fuel a = some r := by
  obtain ⟨b, h1, rfl⟩ := iter_inv I N (fun b => b = r) (fun i a hi ha => (step i a hi ha).imp id fun h => ⟨r, h, rfl⟩) (fun a ha => ⟨r, last a ha, rfl⟩) hf h0
  exact h1
theorem gt_nat {α : Type} {l : List α} {i : Nat} (h : i < l.length) : gt l (i : Int) = some l[i] := by
  unfold gt
  rw [if_pos (by omega), Int.toNat_natCast, List.getElem?_eq_getElem h]
theorem lt_LF {n : Nat} (h : n ≤ 1000000000) : n < LF := by unfold LF; omega
theorem w64_eq {a : Int} (h1 : -9223372036854775808 ≤ a) (h2 : a ≤ 9223372036854775807) : w64 a = a := wrap_i64 h1 h2
theorem w64_succ {i : Nat} (h : i ≤ 1000000000) : w64 ((i : Int) + 1) = ((i + 1 : Nat) : Int) := by rw [w64_eq (by omega) (by omega)]; omega
theorem seq_self (a : ByteArray) : seq a a = true := by simp [seq]
theorem grd_pos {α : Type} {p : Prop} [Decidable p] {x : Option α} (h : p) : grd p x = x := by unfold grd; rw [if_pos h]
theorem take_cons {α : Type} {l : List α} {i : Nat} (hi : i < l.length) {z : α} {t : List α} (h : l.take i = z :: t) : l.take (i + 1) = (z :: t) ++ [l[i]] := by rw [← h, List.take_succ_eq_append_getElem hi]
theorem take_nil {α : Type} {l : List α} {i : Nat} (hi : i < l.length) (h : l.take i = []) : i = 0 := by
  have := congrArg List.length h
  simp at this
  rcases this with h | h
  · exact h
  · rw [h] at hi; simp at hi
theorem u8_le {a : Int} (h : (Lit.int .u8 a).wf = true) : 0 ≤ a ∧ a ≤ 255 := by
  simp only [Lit.wf, Bool.and_eq_true, decide_eq_true_eq] at h
  have h1 : IntKind.u8.min = 0 := rfl
  have h2 : IntKind.u8.max = 255 := rfl
  omega
end Go.Proofs.YtfjflodicgjihaaGreatDoor.Den
namespace Go.Proofs.YtfjflodicgjihaaGreatDoor.Den
open Go Go.RowKit

/-- the bytes of a text -/
def by_ (s : ByteArray) : List UInt8 := s.data.toList
theorem by_bs (l : List UInt8) : by_ (bs l) = l := rfl
theorem bs_by (s : ByteArray) : bs (by_ s) = s := rfl
theorem by_inj {a b : ByteArray} (h : by_ a = by_ b) : a = b := by rw [← bs_by a, ← bs_by b, h]
theorem size_by (s : ByteArray) : s.size = (by_ s).length := by
  unfold by_; rw [Array.length_toList]; rfl
theorem toList_loop (b : ByteArray) : ∀ (k i : Nat) (r : List UInt8), b.size - i = k → ByteArray.toList.loop b i r = r.reverse ++ (by_ b).drop i
  | 0, i, r, h => by
    unfold ByteArray.toList.loop
    rw [if_neg (by omega), List.drop_eq_nil_of_le (by rw [← size_by]; omega)]; simp
  | k + 1, i, r, h => by
    unfold ByteArray.toList.loop
    have hi : i < b.size := by omega
    rw [if_pos hi, toList_loop b k (i + 1) _ (by omega)]
    have hl : i < (by_ b).length := by rw [← size_by]; exact hi
    rw [List.drop_eq_getElem_cons hl, List.reverse_cons, List.append_assoc]
    congr 2
    have hi2 : i < b.data.size := hi
    simp only [by_, ByteArray.get!, Array.getElem_toList]
    rw [getElem!_pos b.data i hi2]; rfl
theorem toList_by (b : ByteArray) : b.toList = by_ b := by
  unfold ByteArray.toList
  rw [toList_loop b b.size 0 [] (by omega)]; simp
theorem seq_by (a b : ByteArray) : seq a b = (by_ a == by_ b) := by unfold seq; rw [toList_by, toList_by]
theorem seq_eq (a b : ByteArray) : seq a b = decide (a = b) := by
  rw [seq_by]
  by_cases h : a = b
  · subst h; simp
  · simp [h]; exact fun e => h (by_inj e)
theorem by_extract (s : ByteArray) (i j : Nat) : by_ (s.extract i j) = ((by_ s).take j).drop i := by
  simp [by_, List.extract_eq_take_drop, List.drop_take]
theorem by_drop (s : ByteArray) (i : Nat) : by_ (s.extract i s.size) = (by_ s).drop i := by
  rw [by_extract, List.take_of_length_le (by rw [← size_by]; exact Nat.le_refl _)]
theorem by_take (s : ByteArray) (j : Nat) : by_ (s.extract 0 j) = (by_ s).take j := by rw [by_extract]; rfl
theorem by_append (a b : ByteArray) : by_ (a ++ b) = by_ a ++ by_ b := by simp [by_]
theorem gtS_by (s : ByteArray) (i : Nat) : gtS s (i : Int) = (by_ s)[i]? := by
  unfold gtS
  rw [if_pos (by omega), Int.toNat_natCast]
  have key : ∀ {α : Type} (x : α) (y : Option α), True := fun _ _ => trivial
  by_cases h : i < s.size
  · have h2 : i < (by_ s).length := by rw [← size_by]; exact h
    rw [List.getElem?_eq_getElem h2, getElem?_pos s i h]
    congr 1
  · rw [List.getElem?_eq_none (by rw [← size_by]; omega), getElem?_neg s i h]

/-! ### steps -/
theorem iterN_more {α β : Type} {f : α → Option (α ⊕ β)} : ∀ {n m : Nat} {a : α} {b : β}, iterN f n a = some b → n ≤ m → iterN f m a = some b
  | 0, m, a, b, h, _ => by simp [iterN] at h
  | n + 1, 0, a, b, h, hm => by omega
  | n + 1, m + 1, a, b, h, hm => by
    simp only [iterN] at h ⊢
    split at h
    · rename_i a' h1; exact iterN_more h (by omega)
    · exact h
    · cases h
theorem iterN_step {α β : Type} {f : α → Option (α ⊕ β)} {n : Nat} {a a' : α} {r : Option β} (h : f a = some (.inl a')) (k : iterN f n a' = r) : iterN f (n + 1) a = r := by simp only [iterN, h]; exact k
theorem iterN_done {α β : Type} {f : α → Option (α ⊕ β)} {n : Nat} {a : α} {b : β} (h : f a = some (.inr b)) : iterN f (n + 1) a = some b := by simp only [iterN, h]
theorem iterN_LF {α β : Type} {f : α → Option (α ⊕ β)} {n : Nat} {a : α} {b : β} (h : iterN f n a = some b) (hn : n ≤ 1000000000) : iterN f LF a = some b := iterN_more h (Nat.le_of_lt (lt_LF hn))
end Go.Proofs.YtfjflodicgjihaaGreatDoor.Den
namespace Go.Proofs.YtfjflodicgjihaaGreatDoor.Den
open Go Go.RowKit

/-! ### letters of a spec -/
def hasPair (c : UInt8) : List UInt8 → Bool
  | [] => false
  | b :: l => (b == c && l.head? == some 58) || hasPair c l
def kindF (sp : List UInt8) (c : UInt8) : Int := if c = 58 then 0 else if sp.contains c then (if hasPair c sp then 2 else 1) else 0
theorem indexByte_neg (l : List UInt8) (c : UInt8) : decide (Lib.indexByte l c < 0) = !l.contains c := by
  induction l with
  | nil => simp [Lib.indexByte]
  | cons b l ih =>
    unfold Lib.indexByte
    have hge := Lib.indexByte_ge l c
    by_cases hb : (b == c) = true
    · have : c = b := (by simpa using hb : b = c).symm
      simp [this]
    · have hb' : (b == c) = false := by simpa using hb
      have hcb : ¬ c = b := fun e => by simp [e] at hb'
      rw [if_neg hb]
      have e1 : (b :: l).contains c = l.contains c := by simp [List.contains_cons, hcb]
      rw [e1, ← ih]
      by_cases h1 : Lib.indexByte l c = -1
      · simp [h1]
      · have : ¬ (Lib.indexByte l c == -1) = true := by simpa using h1
        rw [if_neg this]
        have hp : 0 ≤ Lib.indexByte l c := by omega
        rw [decide_eq_false (by omega), decide_eq_false (by omega)]
theorem contains_pair (c : UInt8) : ∀ sp : List UInt8, Lib.contains sp [c, 58] = hasPair c sp
  | [] => by simp [Lib.contains, Lib.index, hasPair]
  | b :: l => by
    have ih := contains_pair c l
    unfold Lib.contains at ih ⊢
    unfold Lib.index hasPair
    have hge := Lib.index_ge l [c, 58]
    by_cases hp : ([c, 58].isPrefixOf (b :: l)) = true
    · rw [if_pos hp]
      have : (b == c && l.head? == some 58) = true := by
        cases l with
        | nil => simp [List.isPrefixOf] at hp
        | cons d l => simp [List.isPrefixOf] at hp ⊢; exact ⟨hp.1.symm, hp.2.symm⟩
      simp [this]
    · rw [if_neg hp]
      have : (b == c && l.head? == some 58) = false := by
        rw [Bool.eq_false_iff]
        intro h
        apply hp
        cases l with
        | nil => simp at h
        | cons d l => simp [List.isPrefixOf] at h ⊢; exact ⟨h.1.symm, h.2.symm⟩
      rw [this, Bool.false_or, ← ih]
      by_cases h1 : Lib.index l [c, 58] = -1
      · simp [h1]
      · have : ¬ (Lib.index l [c, 58] == -1) = true := by simpa using h1
        rw [if_neg this, decide_eq_true (by omega), decide_eq_true (by omega)]
theorem u8_int (c : UInt8) : ((c.toNat : Int)).toNat.toUInt8 = c := by simp
theorem u8_beq (a b : UInt8) : ((a.toNat : Int) == (b.toNat : Int)) = (a == b) := by
  by_cases h : a = b
  · subst h; rw [beq_self_eq_true, beq_self_eq_true]
  · have : ¬ ((a.toNat : Int) = (b.toNat : Int)) := fun e => h (UInt8.toNat_inj.1 (by omega))
    rw [beq_false_of_ne h, beq_false_of_ne this]
theorem u8_lit (a : UInt8) (n : Nat) (hn : n < 256) : ((a.toNat : Int) == (n : Int)) = (a == UInt8.ofNat n) := by
  have := u8_beq a (UInt8.ofNat n)
  rwa [UInt8.toNat_ofNat_of_lt' (by simpa using hn)] at this
theorem optionKind_eq (spec : ByteArray) (c : UInt8) (h : spec.size < 4294967281) : optionKind spec (c.toNat : Int) = some (kindF (by_ spec) c) := by
  unfold optionKind kindF
  have e1 : ((c.toNat : Int) == (58 : Int)) = (c == 58) := u8_lit c 58 (by omega)
  rw [e1]
  by_cases h1 : c = 58
  · subst h1; rfl
  · have h1' : (c == 58) = false := by simpa using h1
    rw [h1', cond_false, if_neg h1]
    have e2 : ixbX spec (c.toNat : Int) = some (Lib.indexByte (by_ spec) c) := by
      unfold ixbX ixbV
      rw [u8_int]; rfl
    have e3 : conX spec (ByteArray.mk [UInt8.ofNat ((c.toNat : Int)).toNat, UInt8.ofNat ((58 : Int)).toNat].toArray) = some (hasPair c (by_ spec)) := by
      unfold conX conV
      rw [if_pos h, ← contains_pair]
      simp [by_]
    rw [e2, Option.bind_some, indexByte_neg, e3, Option.bind_some]
    cases (by_ spec).contains c
    · rfl
    · cases hasPair c (by_ spec) <;> rfl

/-! ### the document's letters -/
theorem known_loop (spec : ByteArray) (c : UInt8) (hs : spec.size ≤ 1000000) : ∀ (l : List UInt8) (i : Nat) (x y : Bool), (by_ spec).drop i = l → i ≤ spec.size →
    iterN (ref03Known_b6 spec (c.toNat : Int)) (l.length + 1) (x, y, (i : Int)) = some (x || l.contains c, y || hasPair c l, (spec.size : Int))
  | [], i, x, y, h, hi => by
    have : i = spec.size := by
      have := congrArg List.length h
      rw [List.length_drop, ← size_by] at this
      simp at this; omega
    subst this
    refine iterN_done ?_
    simp [ref03Known_b6, hasPair]
  | b :: l, i, x, y, h, hi => by
    have hlt : i < (by_ spec).length := by
      rcases Nat.lt_or_ge i (by_ spec).length with h1 | h1
      · exact h1
      · rw [List.drop_eq_nil_of_le h1] at h; cases h
    have hlt' : i < spec.size := by rw [size_by]; exact hlt
    rw [List.drop_eq_getElem_cons hlt] at h
    injection h with h1 h2
    have hg : gtS spec (i : Int) = some b := by rw [gtS_by, List.getElem?_eq_getElem hlt, h1]
    have ih := fun x y => known_loop spec c hs l (i + 1) x y h2 (by omega)
    rw [List.length_cons]
    have hw : w64 ((i : Int) + 1) = ((i + 1 : Nat) : Int) := w64_succ (by omega)
    have hd : decide ((i : Int) < (spec.size : Int)) = true := by simp; exact hlt'
    have hcon : (b :: l).contains c = ((b == c) || l.contains c) := by
      rw [List.contains_cons]
      congr 1
      by_cases h : b = c
      · subst h; rfl
      · have h' : ¬ c = b := fun e => h e.symm
        rw [beq_false_of_ne h, beq_false_of_ne h']
    cases hb : (b == c) with
    | false =>
      refine iterN_step (a' := (x, y, ((i + 1 : Nat) : Int))) ?_ ?_
      · simp only [ref03Known_b6, hd, cond_true, hg, Option.bind_some, u8_beq, hb, cond_false, hw]
      · rw [ih, hcon, hb]; simp [hasPair, hb]
    | true =>
      have hhead : gtS spec ((i + 1 : Nat) : Int) = l.head? := by
        rw [gtS_by, ← h2, List.head?_drop]
      have hlen : l.length = spec.size - (i + 1) := by
        rw [← h2, List.length_drop, ← size_by]
      have hcon' : (x || (b :: l).contains c) = true := by rw [hcon, hb]; simp
      cases y with
      | true =>
        refine iterN_step (a' := (true, true, ((i + 1 : Nat) : Int))) ?_ ?_
        · simp only [ref03Known_b6, hd, cond_true, hg, Option.bind_some, u8_beq, hb, hw]
        · rw [ih, hcon']; simp
      | false =>
        cases hl : l with
        | nil =>
          have hd2 : decide ((((i + 1 : Nat) : Int)) < (spec.size : Int)) = false := by rw [hl] at hlen; simp at hlen ⊢; omega
          refine iterN_step (a' := (true, false, ((i + 1 : Nat) : Int))) ?_ ?_
          · simp only [ref03Known_b6, hd, cond_true, hg, Option.bind_some, u8_beq, hb, hw, hd2, cond_false]
          · have := ih true false
            rw [hl] at this hcon'
            rw [this, hcon']; simp [hasPair]
        | cons d l' =>
          have hd2 : decide ((((i + 1 : Nat) : Int)) < (spec.size : Int)) = true := by rw [hl] at hlen; simp at hlen ⊢; omega
          refine iterN_step (a' := (true, (d == 58), ((i + 1 : Nat) : Int))) ?_ ?_
          · have hh : gtS spec ((i + 1 : Nat) : Int) = some d := by rw [hhead, hl]; rfl
            have h58 : ((d.toNat : Int) == (58 : Int)) = (d == 58) := u8_lit d 58 (by omega)
            simp only [ref03Known_b6, hd, cond_true, hg, Option.bind_some, u8_beq, hb, hw, hd2, cond_false, hh, h58]
          · have := ih true (d == 58)
            rw [hl] at this hcon'
            rw [this, hcon']
            have e : ((some d : Option UInt8) == some 58) = (d == 58) := rfl
            simp [hasPair, hb, e]
theorem ref03Known_eq (spec : ByteArray) (c : UInt8) (hs : spec.size ≤ 1000000) : ref03Known spec (c.toNat : Int) = some (decide (kindF (by_ spec) c ≠ 0), decide (kindF (by_ spec) c = 2)) ∨
    (ref03Known spec (c.toNat : Int) = some (false, hasPair c (by_ spec)) ∧ kindF (by_ spec) c = 0) := by
  unfold ref03Known
  have e1 : ((c.toNat : Int) == (58 : Int)) = (c == 58) := u8_lit c 58 (by omega)
  rw [e1]
  by_cases h1 : c = 58
  · left
    subst h1; rfl
  · have h1' : (c == 58) = false := by simpa using h1
    have hl := known_loop spec c hs (by_ spec) 0 false false rfl (Nat.zero_le _)
    have hl2 := iterN_LF hl (by rw [← size_by]; omega)
    have e0 : ((0 : Nat) : Int) = (0 : Int) := rfl
    rw [e0] at hl2
    rw [h1', cond_false, hl2, Option.bind_some]
    simp only [Bool.false_or]
    unfold kindF
    rw [if_neg h1]
    cases hc : (by_ spec).contains c with
    | false => right; exact ⟨rfl, by simp⟩
    | true => left; cases hasPair c (by_ spec) <;> rfl
/-- What the document knows of a letter. -/
theorem ref03Known_kind (spec : ByteArray) (c : UInt8) (hs : spec.size ≤ 1000000) : ∃ t, ref03Known spec (c.toNat : Int) = some (decide (kindF (by_ spec) c ≠ 0), t) ∧ (kindF (by_ spec) c ≠ 0 → t = decide (kindF (by_ spec) c = 2)) := by
  rcases ref03Known_eq spec c hs with h | ⟨h, hk⟩
  · exact ⟨_, h, fun _ => rfl⟩
  · exact ⟨_, by rw [h, hk]; rfl, fun h => absurd hk h⟩
end Go.Proofs.YtfjflodicgjihaaGreatDoor.Den
namespace Go.Proofs.YtfjflodicgjihaaGreatDoor.Den
open Go Go.RowKit

/-- Letters behind one dash: an error, or what is left of the arguments, and the flags. -/
def grpF (sp : List UInt8) : List UInt8 → List ByteArray → List FlagD → Int × List ByteArray × List FlagD
  | [], av, fl => (0, av, fl)
  | c :: g, av, fl =>
    if kindF sp c = 0 then (30, [], [])
    else if kindF sp c = 2 then
      match g with
      | [] => match av with
        | [] => (31, [], [])
        | a :: av' => (0, av', fl ++ [⟨(c.toNat : Int), a⟩])
      | d :: g' => (0, av, fl ++ [⟨(c.toNat : Int), bs (d :: g')⟩])
    else grpF sp g av (fl ++ [⟨(c.toNat : Int), bs []⟩])
theorem kindF_cases (sp : List UInt8) (c : UInt8) : kindF sp c = 0 ∨ kindF sp c = 2 ∨ kindF sp c = 1 := by
  unfold kindF; split
  · exact .inl rfl
  · split
    · split
      · exact .inr (.inl rfl)
      · exact .inr (.inr rfl)
    · exact .inl rfl
theorem seq_nil (l : List UInt8) : seq (bs l) (bs []) = l.isEmpty := by rw [seq_by, by_bs, by_bs]; cases l <;> rfl
theorem ext_tail (c : UInt8) (g : List UInt8) : (bs (c :: g)).extract ((1 : Int)).toNat (bs (c :: g)).size = bs g := by
  apply by_inj; show by_ ((bs (c :: g)).extract 1 _) = _; rw [by_drop, by_bs, by_bs]; rfl
theorem ext_head (c : UInt8) (g : List UInt8) : (bs (c :: g)).extract 0 ((1 : Int)).toNat = bs [c] := by
  apply by_inj; show by_ ((bs (c :: g)).extract 0 1) = _; rw [by_take, by_bs, by_bs]; rfl
theorem gtS_cons (c : UInt8) (g : List UInt8) : gtS (bs (c :: g)) (0 : Int) = some c := gtS_by (bs (c :: g)) 0
theorem size_bs (l : List UInt8) : (bs l).size = l.length := rfl
theorem room24 {n : Nat} (h : n ≤ 1000000000) : room n 24 := ⟨by omega, by omega⟩
theorem room16 {n : Nat} (h : n ≤ 1000000000) : room n 16 := ⟨by omega, by omega⟩
theorem gt_head {α : Type} (a : α) (l : List α) : gt (a :: l) (0 : Int) = some a := rfl
theorem next_eq (s a : ByteArray) (av : List ByteArray) : optionTakerNext s (a :: av) = some (a, s, av) := by
  unfold optionTakerNext
  rw [gt_head, Option.bind_some, grd_pos (by simp; omega)]; rfl
theorem next2_eq (s a : ByteArray) (av : List ByteArray) (fl : List FlagD) : optionTakerNext2 s (a :: av) fl = some (a, s, av, fl) := by
  unfold optionTakerNext2
  rw [gt_head, Option.bind_some, grd_pos (by simp; omega)]; rfl

/-! ### the program's groups -/
abbrev GS1 := (ByteArray × ByteArray × (List ByteArray)) ⊕ (ByteArray × ByteArray × (List ByteArray) × (List FlagD))
def absS1 : GS1 → ByteArray × ByteArray × List ByteArray × List FlagD
  | .inl (g, s, a) => (g, s, a, [])
  | .inr (g, s, a, f) => (g, s, a, f)
abbrev GO1 := (ByteArray × (List ByteArray)) ⊕ (ByteArray × (List ByteArray)) ⊕ (ByteArray × (List ByteArray)) ⊕ (ByteArray × (List ByteArray) × (List FlagD)) ⊕ (ByteArray × (List ByteArray) × (List FlagD)) ⊕ (ByteArray × (List ByteArray) × (List FlagD))
/-- What a group comes to. -/
def absG1 : GO1 → ByteArray → Int × List ByteArray × List FlagD → Prop
  | .inl _, _, r => r = (30, [], [])
  | .inr (.inl _), _, r => r = (31, [], [])
  | .inr (.inr (.inl (s', a))), s, r => s' = s ∧ r = (0, a, [])
  | .inr (.inr (.inr (.inl _))), _, r => r = (30, [], [])
  | .inr (.inr (.inr (.inr (.inl _)))), _, r => r = (31, [], [])
  | .inr (.inr (.inr (.inr (.inr (s', a, f))))), s, r => s' = s ∧ r = (0, a, f)
abbrev GX1 := ((ByteArray × ByteArray × (List ByteArray) × UInt8 × UInt8 × Int) ⊕ (ByteArray × ByteArray × (List ByteArray) × UInt8 × UInt8 × Int) ⊕ (ByteArray × ByteArray × (List ByteArray)) ⊕ (ByteArray × ByteArray × (List ByteArray) × (List FlagD) × UInt8 × UInt8 × Int) ⊕ (ByteArray × ByteArray × (List ByteArray) × (List FlagD) × UInt8 × UInt8 × Int) ⊕ (ByteArray × ByteArray × (List ByteArray) × (List FlagD)))
def absX1 : GX1 → ByteArray → Int × List ByteArray × List FlagD → Prop
  | .inl _, _, r => r = (30, [], [])
  | .inr (.inl _), _, r => r = (31, [], [])
  | .inr (.inr (.inl (_, s', a))), s, r => s' = s ∧ r = (0, a, [])
  | .inr (.inr (.inr (.inl _))), _, r => r = (30, [], [])
  | .inr (.inr (.inr (.inr (.inl _)))), _, r => r = (31, [], [])
  | .inr (.inr (.inr (.inr (.inr (_, s', a, f))))), s, r => s' = s ∧ r = (0, a, f)
theorem b1_nil (s : ByteArray) (a : List ByteArray) (f : List FlagD) (st : GS1) (h : absS1 st = (bs [], s, a, f)) : ∃ x, optionTakerGroup_b1 st = some (.inr x) ∧ absX1 x s (0, a, f) := by
  rcases st with ⟨v0, v1, v2⟩ | ⟨v0, v1, v2, v3⟩ <;> simp only [absS1, Prod.mk.injEq] at h
  · obtain ⟨rfl, rfl, rfl, rfl⟩ := h
    refine ⟨.inr (.inr (.inl (bs [], v1, v2))), ?_, rfl, rfl⟩
    simp only [optionTakerGroup_b1, seq_nil, List.isEmpty_nil, Bool.not_true, cond_false]
  · obtain ⟨rfl, rfl, rfl, rfl⟩ := h
    refine ⟨.inr (.inr (.inr (.inr (.inr (bs [], v1, v2, v3))))), ?_, rfl, rfl⟩
    simp only [optionTakerGroup_b1, seq_nil, List.isEmpty_nil, Bool.not_true, cond_false]
theorem group1_loop (s : ByteArray) (hs : s.size < 4294967281) : ∀ (g : List UInt8) (a : List ByteArray) (f : List FlagD) (st : GS1), absS1 st = (bs g, s, a, f) → f.length + g.length ≤ 100000000 →
    ∃ x, iterN optionTakerGroup_b1 (g.length + 2) st = some x ∧ absX1 x s (grpF (by_ s) g a f)
  | [], a, f, st, h, hb => by
    obtain ⟨x, h1, h2⟩ := b1_nil s a f st h
    exact ⟨x, iterN_done h1, h2⟩
  | c :: g, a, f, st, h, hb => by
    have hk := optionKind_eq s c hs
    have hlen : (c :: g).length = g.length + 1 := rfl
    have hg1 : (0 : Int) ≤ (1 : Int) ∧ (1 : Int) ≤ ((bs (c :: g)).size : Int) ∧ ((bs (c :: g)).size : Int) ≤ ((bs (c :: g)).size : Int) := by rw [size_bs]; simp <;> omega
    have hg0 : (0 : Int) ≤ (0 : Int) ∧ (0 : Int) ≤ (1 : Int) ∧ (1 : Int) ≤ ((bs (c :: g)).size : Int) := by rw [size_bs]; simp <;> omega
    have hg2 : (0 : Int) ≤ (1 : Int) ∧ (1 : Int) ≤ ((bs [c]).size : Int) ∧ ((bs [c]).size : Int) ≤ ((bs [c]).size : Int) := by rw [size_bs]; simp <;> omega
    have het : (bs [c]).extract ((1 : Int)).toNat (bs [c]).size = bs [] := ext_tail c []
    have hr : room (f.length + 1) 24 := room24 (by rw [hlen] at hb; omega)
    have hne : (c :: g).isEmpty = false := rfl
    rcases st with ⟨v0, v1, v2⟩ | ⟨v0, v1, v2, v3⟩ <;> simp only [absS1, Prod.mk.injEq] at h
    · obtain ⟨rfl, rfl, rfl, rfl⟩ := h
      rcases kindF_cases (by_ v1) c with h0 | h0 | h0
      · refine ⟨.inl (bs (c :: g), v1, v2, c, c, 0), iterN_done ?_, ?_⟩
        · simp only [optionTakerGroup_b1, seq_nil, hne, Bool.not_false, cond_true, gtS_cons, Option.bind_some, hk, h0, beq_self_eq_true]
        · unfold grpF; rw [if_pos h0]; rfl
      · have e0 : ((2 : Int) == (0 : Int)) = false := rfl
        unfold grpF
        rw [h0, if_neg (by decide), if_pos rfl]
        cases g with
        | nil =>
          cases v2 with
          | nil =>
            refine ⟨.inr (.inl (bs [c], v1, [], c, c, 2)), iterN_done ?_, rfl⟩
            simp only [optionTakerGroup_b1, seq_nil, hne, Bool.not_false, cond_true, gtS_cons, Option.bind_some, hk, h0, e0, cond_false, beq_self_eq_true, grd_pos hg1, grd_pos hg0, ext_tail, List.isEmpty_nil, List.length_nil]
            rfl
          | cons b v2 =>
            obtain ⟨x, h1, h2⟩ := b1_nil v1 v2 [⟨(c.toNat : Int), b⟩] (.inr (bs [], v1, v2, [⟨(c.toNat : Int), b⟩])) rfl
            refine ⟨x, iterN_step (a' := .inr (bs [], v1, v2, [⟨(c.toNat : Int), b⟩])) ?_ (iterN_done h1), h2⟩
            have e1 : (((b :: v2).length : Int) == (0 : Int)) = false := by simp; omega
            simp only [optionTakerGroup_b1, seq_nil, hne, Bool.not_false, cond_true, gtS_cons, Option.bind_some, hk, h0, e0, cond_false, beq_self_eq_true, grd_pos hg1, grd_pos hg0, ext_tail, List.isEmpty_nil, e1, next_eq, ext_head, grd_pos hg2]
        | cons d g =>
          obtain ⟨x, h1, h2⟩ := b1_nil v1 v2 [⟨(c.toNat : Int), bs (d :: g)⟩] (.inr (bs [], v1, v2, [⟨(c.toNat : Int), bs (d :: g)⟩])) rfl
          refine ⟨x, iterN_step (a' := .inr (bs [], v1, v2, [⟨(c.toNat : Int), bs (d :: g)⟩])) ?_ (iterN_more (iterN_done (n := 0) h1) (by omega)), h2⟩
          have e1 : (d :: g).isEmpty = false := rfl
          simp only [optionTakerGroup_b1, seq_nil, hne, Bool.not_false, cond_true, gtS_cons, Option.bind_some, hk, h0, e0, cond_false, beq_self_eq_true, grd_pos hg1, grd_pos hg0, ext_tail, e1, ext_head, grd_pos hg2, List.isEmpty_nil]
      · have e0 : ((1 : Int) == (0 : Int)) = false := rfl
        have e2 : ((1 : Int) == (2 : Int)) = false := rfl
        obtain ⟨x, h1, h2⟩ := group1_loop v1 hs g v2 [⟨(c.toNat : Int), bs []⟩] (.inr (bs g, v1, v2, [⟨(c.toNat : Int), bs []⟩])) rfl (by rw [hlen] at hb; simp at hb ⊢; omega)
        refine ⟨x, iterN_step (a' := .inr (bs g, v1, v2, [⟨(c.toNat : Int), bs []⟩])) ?_ h1, ?_⟩
        · simp only [optionTakerGroup_b1, seq_nil, hne, Bool.not_false, cond_true, gtS_cons, Option.bind_some, hk, h0, e0, e2, cond_false, beq_self_eq_true, grd_pos hg1, ext_tail]
        · unfold grpF; rw [h0, if_neg (by decide), if_neg (by decide)]; exact h2
    · obtain ⟨rfl, rfl, rfl, rfl⟩ := h
      rcases kindF_cases (by_ v1) c with h0 | h0 | h0
      · refine ⟨.inr (.inr (.inr (.inl (bs (c :: g), v1, v2, v3, c, c, 0)))), iterN_done ?_, ?_⟩
        · simp only [optionTakerGroup_b1, seq_nil, hne, Bool.not_false, cond_true, gtS_cons, Option.bind_some, hk, h0, beq_self_eq_true]
        · unfold grpF; rw [if_pos h0]; rfl
      · have e0 : ((2 : Int) == (0 : Int)) = false := rfl
        unfold grpF
        rw [h0, if_neg (by decide), if_pos rfl]
        cases g with
        | nil =>
          cases v2 with
          | nil =>
            refine ⟨.inr (.inr (.inr (.inr (.inl (bs [c], v1, [], v3, c, c, 2))))), iterN_done ?_, rfl⟩
            simp only [optionTakerGroup_b1, seq_nil, hne, Bool.not_false, cond_true, gtS_cons, Option.bind_some, hk, h0, e0, cond_false, beq_self_eq_true, grd_pos hg1, grd_pos hg0, ext_tail, List.isEmpty_nil, List.length_nil]
            rfl
          | cons b v2 =>
            obtain ⟨x, h1, h2⟩ := b1_nil v1 v2 (v3 ++ [⟨(c.toNat : Int), b⟩]) (.inr (bs [], v1, v2, v3 ++ [⟨(c.toNat : Int), b⟩])) rfl
            refine ⟨x, iterN_step (a' := .inr (bs [], v1, v2, v3 ++ [⟨(c.toNat : Int), b⟩])) ?_ (iterN_done h1), h2⟩
            have e1 : (((b :: v2).length : Int) == (0 : Int)) = false := by simp; omega
            simp only [optionTakerGroup_b1, seq_nil, hne, Bool.not_false, cond_true, gtS_cons, Option.bind_some, hk, h0, e0, cond_false, beq_self_eq_true, grd_pos hg1, grd_pos hg0, ext_tail, List.isEmpty_nil, e1, next2_eq, grd_pos hr, ext_head, grd_pos hg2]
        | cons d g =>
          obtain ⟨x, h1, h2⟩ := b1_nil v1 v2 (v3 ++ [⟨(c.toNat : Int), bs (d :: g)⟩]) (.inr (bs [], v1, v2, v3 ++ [⟨(c.toNat : Int), bs (d :: g)⟩])) rfl
          refine ⟨x, iterN_step (a' := .inr (bs [], v1, v2, v3 ++ [⟨(c.toNat : Int), bs (d :: g)⟩])) ?_ (iterN_more (iterN_done (n := 0) h1) (by omega)), h2⟩
          have e1 : (d :: g).isEmpty = false := rfl
          simp only [optionTakerGroup_b1, seq_nil, hne, Bool.not_false, cond_true, gtS_cons, Option.bind_some, hk, h0, e0, cond_false, beq_self_eq_true, grd_pos hg1, grd_pos hg0, ext_tail, e1, grd_pos hr, ext_head, grd_pos hg2, List.isEmpty_nil]
      · have e0 : ((1 : Int) == (0 : Int)) = false := rfl
        have e2 : ((1 : Int) == (2 : Int)) = false := rfl
        obtain ⟨x, h1, h2⟩ := group1_loop v1 hs g v2 (v3 ++ [⟨(c.toNat : Int), bs []⟩]) (.inr (bs g, v1, v2, v3 ++ [⟨(c.toNat : Int), bs []⟩])) rfl (by rw [hlen] at hb; simp at hb ⊢; omega)
        refine ⟨x, iterN_step (a' := .inr (bs g, v1, v2, v3 ++ [⟨(c.toNat : Int), bs []⟩])) ?_ h1, ?_⟩
        · simp only [optionTakerGroup_b1, seq_nil, hne, Bool.not_false, cond_true, gtS_cons, Option.bind_some, hk, h0, e0, e2, cond_false, beq_self_eq_true, grd_pos hg1, grd_pos hr, ext_tail]
        · unfold grpF; rw [h0, if_neg (by decide), if_neg (by decide)]; exact h2
theorem group1_eq (g s : ByteArray) (a : List ByteArray) (hs : s.size < 4294967281) (hg : g.size ≤ 1000000) : ∃ y, optionTakerGroup g s a = some y ∧ absG1 y s (grpF (by_ s) (by_ g) a []) := by
  obtain ⟨x, h1, h2⟩ := group1_loop s hs (by_ g) a [] (.inl (g, s, a)) rfl (by rw [← size_by]; simp; omega)
  have h3 := iterN_LF h1 (by rw [← size_by]; omega)
  unfold optionTakerGroup
  rw [h3, Option.bind_some]
  rcases x with ⟨v1, v2, v3, b1, b2, r1⟩ | ⟨v1, v2, v3, b1, b2, r1⟩ | ⟨v1, v2, v3⟩ | ⟨v1, v2, v3, v4, b1, b2, r1⟩ | ⟨v1, v2, v3, v4, b1, b2, r1⟩ | ⟨v1, v2, v3, v4⟩ <;> exact ⟨_, rfl, h2⟩

/-! ### with flags ahead of it -/
abbrev GS2 := (ByteArray × ByteArray × (List ByteArray) × (List FlagD)) ⊕ (ByteArray × ByteArray × (List ByteArray) × (List FlagD))
def absS2 : GS2 → ByteArray × ByteArray × List ByteArray × List FlagD
  | .inl x => x
  | .inr x => x
abbrev GO2 := (ByteArray × (List ByteArray) × (List FlagD)) ⊕ (ByteArray × (List ByteArray) × (List FlagD)) ⊕ (ByteArray × (List ByteArray) × (List FlagD)) ⊕ (ByteArray × (List ByteArray) × (List FlagD)) ⊕ (ByteArray × (List ByteArray) × (List FlagD)) ⊕ (ByteArray × (List ByteArray) × (List FlagD))
def absG2 : GO2 → ByteArray → Int × List ByteArray × List FlagD → Prop
  | .inl _, _, r => r = (30, [], [])
  | .inr (.inl _), _, r => r = (31, [], [])
  | .inr (.inr (.inl (s', a, f))), s, r => s' = s ∧ r = (0, a, f)
  | .inr (.inr (.inr (.inl _))), _, r => r = (30, [], [])
  | .inr (.inr (.inr (.inr (.inl _)))), _, r => r = (31, [], [])
  | .inr (.inr (.inr (.inr (.inr (s', a, f))))), s, r => s' = s ∧ r = (0, a, f)
abbrev GX2 := ((ByteArray × ByteArray × (List ByteArray) × (List FlagD) × UInt8 × UInt8 × Int) ⊕ (ByteArray × ByteArray × (List ByteArray) × (List FlagD) × UInt8 × UInt8 × Int) ⊕ (ByteArray × ByteArray × (List ByteArray) × (List FlagD)) ⊕ (ByteArray × ByteArray × (List ByteArray) × (List FlagD) × UInt8 × UInt8 × Int) ⊕ (ByteArray × ByteArray × (List ByteArray) × (List FlagD) × UInt8 × UInt8 × Int) ⊕ (ByteArray × ByteArray × (List ByteArray) × (List FlagD)))
def absX2 : GX2 → ByteArray → Int × List ByteArray × List FlagD → Prop
  | .inl _, _, r => r = (30, [], [])
  | .inr (.inl _), _, r => r = (31, [], [])
  | .inr (.inr (.inl (_, s', a, f))), s, r => s' = s ∧ r = (0, a, f)
  | .inr (.inr (.inr (.inl _))), _, r => r = (30, [], [])
  | .inr (.inr (.inr (.inr (.inl _)))), _, r => r = (31, [], [])
  | .inr (.inr (.inr (.inr (.inr (_, s', a, f))))), s, r => s' = s ∧ r = (0, a, f)
theorem b2_nil (s : ByteArray) (a : List ByteArray) (f : List FlagD) (st : GS2) (h : absS2 st = (bs [], s, a, f)) : ∃ x, optionTakerGroup2_b1 st = some (.inr x) ∧ absX2 x s (0, a, f) := by
  rcases st with ⟨v0, v1, v2, v3⟩ | ⟨v0, v1, v2, v3⟩ <;> simp only [absS2, Prod.mk.injEq] at h
  · obtain ⟨rfl, rfl, rfl, rfl⟩ := h
    refine ⟨.inr (.inr (.inl (bs [], v1, v2, v3))), ?_, rfl, rfl⟩
    simp only [optionTakerGroup2_b1, seq_nil, List.isEmpty_nil, Bool.not_true, cond_false]
  · obtain ⟨rfl, rfl, rfl, rfl⟩ := h
    refine ⟨.inr (.inr (.inr (.inr (.inr (bs [], v1, v2, v3))))), ?_, rfl, rfl⟩
    simp only [optionTakerGroup2_b1, seq_nil, List.isEmpty_nil, Bool.not_true, cond_false]
theorem group2_loop (s : ByteArray) (hs : s.size < 4294967281) : ∀ (g : List UInt8) (a : List ByteArray) (f : List FlagD) (st : GS2), absS2 st = (bs g, s, a, f) → f.length + g.length ≤ 100000000 →
    ∃ x, iterN optionTakerGroup2_b1 (g.length + 2) st = some x ∧ absX2 x s (grpF (by_ s) g a f)
  | [], a, f, st, h, hb => by
    obtain ⟨x, h1, h2⟩ := b2_nil s a f st h
    exact ⟨x, iterN_done h1, h2⟩
  | c :: g, a, f, st, h, hb => by
    have hk := optionKind_eq s c hs
    have hlen : (c :: g).length = g.length + 1 := rfl
    have hg1 : (0 : Int) ≤ (1 : Int) ∧ (1 : Int) ≤ ((bs (c :: g)).size : Int) ∧ ((bs (c :: g)).size : Int) ≤ ((bs (c :: g)).size : Int) := by rw [size_bs]; simp <;> omega
    have hg0 : (0 : Int) ≤ (0 : Int) ∧ (0 : Int) ≤ (1 : Int) ∧ (1 : Int) ≤ ((bs (c :: g)).size : Int) := by rw [size_bs]; simp <;> omega
    have hg2 : (0 : Int) ≤ (1 : Int) ∧ (1 : Int) ≤ ((bs [c]).size : Int) ∧ ((bs [c]).size : Int) ≤ ((bs [c]).size : Int) := by rw [size_bs]; simp <;> omega
    have hr : room (f.length + 1) 24 := room24 (by rw [hlen] at hb; omega)
    have hne : (c :: g).isEmpty = false := rfl
    rcases st with ⟨v0, v1, v2, v3⟩ | ⟨v0, v1, v2, v3⟩ <;> simp only [absS2, Prod.mk.injEq] at h <;> obtain ⟨rfl, rfl, rfl, rfl⟩ := h
    all_goals
      rcases kindF_cases (by_ v1) c with h0 | h0 | h0
      · first
          | (refine ⟨.inl (bs (c :: g), v1, v2, v3, c, c, 0), iterN_done ?_, ?_⟩
             · simp only [optionTakerGroup2_b1, seq_nil, hne, Bool.not_false, cond_true, gtS_cons, Option.bind_some, hk, h0, beq_self_eq_true]; done
             · unfold grpF; rw [if_pos h0]; rfl)
          | (refine ⟨.inr (.inr (.inr (.inl (bs (c :: g), v1, v2, v3, c, c, 0)))), iterN_done ?_, ?_⟩
             · simp only [optionTakerGroup2_b1, seq_nil, hne, Bool.not_false, cond_true, gtS_cons, Option.bind_some, hk, h0, beq_self_eq_true]; done
             · unfold grpF; rw [if_pos h0]; rfl)
      · have e0 : ((2 : Int) == (0 : Int)) = false := rfl
        unfold grpF
        rw [h0, if_neg (by decide), if_pos rfl]
        cases g with
        | nil =>
          cases v2 with
          | nil =>
            first
              | (refine ⟨.inr (.inl (bs [c], v1, [], v3, c, c, 2)), iterN_done ?_, rfl⟩
                 simp only [optionTakerGroup2_b1, seq_nil, hne, Bool.not_false, cond_true, gtS_cons, Option.bind_some, hk, h0, e0, cond_false, beq_self_eq_true, grd_pos hg1, grd_pos hg0, ext_tail, List.isEmpty_nil, List.length_nil]
                 rfl)
              | (refine ⟨.inr (.inr (.inr (.inr (.inl (bs [c], v1, [], v3, c, c, 2))))), iterN_done ?_, rfl⟩
                 simp only [optionTakerGroup2_b1, seq_nil, hne, Bool.not_false, cond_true, gtS_cons, Option.bind_some, hk, h0, e0, cond_false, beq_self_eq_true, grd_pos hg1, grd_pos hg0, ext_tail, List.isEmpty_nil, List.length_nil]
                 rfl)
          | cons b v2 =>
            obtain ⟨x, h1, h2⟩ := b2_nil v1 v2 (v3 ++ [⟨(c.toNat : Int), b⟩]) (.inr (bs [], v1, v2, v3 ++ [⟨(c.toNat : Int), b⟩])) rfl
            refine ⟨x, iterN_step (a' := .inr (bs [], v1, v2, v3 ++ [⟨(c.toNat : Int), b⟩])) ?_ (iterN_done h1), h2⟩
            have e1 : (((b :: v2).length : Int) == (0 : Int)) = false := by simp; omega
            simp only [optionTakerGroup2_b1, seq_nil, hne, Bool.not_false, cond_true, gtS_cons, Option.bind_some, hk, h0, e0, cond_false, beq_self_eq_true, grd_pos hg1, grd_pos hg0, ext_tail, List.isEmpty_nil, e1, next2_eq, grd_pos hr, ext_head, grd_pos hg2]
        | cons d g =>
          obtain ⟨x, h1, h2⟩ := b2_nil v1 v2 (v3 ++ [⟨(c.toNat : Int), bs (d :: g)⟩]) (.inr (bs [], v1, v2, v3 ++ [⟨(c.toNat : Int), bs (d :: g)⟩])) rfl
          refine ⟨x, iterN_step (a' := .inr (bs [], v1, v2, v3 ++ [⟨(c.toNat : Int), bs (d :: g)⟩])) ?_ (iterN_more (iterN_done (n := 0) h1) (by omega)), h2⟩
          have e1 : (d :: g).isEmpty = false := rfl
          simp only [optionTakerGroup2_b1, seq_nil, hne, Bool.not_false, cond_true, gtS_cons, Option.bind_some, hk, h0, e0, cond_false, beq_self_eq_true, grd_pos hg1, grd_pos hg0, ext_tail, e1, grd_pos hr, ext_head, grd_pos hg2, List.isEmpty_nil]
      · have e0 : ((1 : Int) == (0 : Int)) = false := rfl
        have e2 : ((1 : Int) == (2 : Int)) = false := rfl
        obtain ⟨x, h1, h2⟩ := group2_loop v1 hs g v2 (v3 ++ [⟨(c.toNat : Int), bs []⟩]) (.inr (bs g, v1, v2, v3 ++ [⟨(c.toNat : Int), bs []⟩])) rfl (by rw [hlen] at hb; simp at hb ⊢; omega)
        refine ⟨x, iterN_step (a' := .inr (bs g, v1, v2, v3 ++ [⟨(c.toNat : Int), bs []⟩])) ?_ h1, ?_⟩
        · simp only [optionTakerGroup2_b1, seq_nil, hne, Bool.not_false, cond_true, gtS_cons, Option.bind_some, hk, h0, e0, e2, cond_false, beq_self_eq_true, grd_pos hg1, grd_pos hr, ext_tail]
        · unfold grpF; rw [h0, if_neg (by decide), if_neg (by decide)]; exact h2
theorem group2_eq (g s : ByteArray) (a : List ByteArray) (f : List FlagD) (hs : s.size < 4294967281) (hg : f.length + g.size ≤ 100000000) : ∃ y, optionTakerGroup2 g s a f = some y ∧ absG2 y s (grpF (by_ s) (by_ g) a f) := by
  obtain ⟨x, h1, h2⟩ := group2_loop s hs (by_ g) a f (.inl (g, s, a, f)) rfl (by rw [← size_by]; exact hg)
  have h3 := iterN_LF h1 (by rw [← size_by]; omega)
  unfold optionTakerGroup2
  rw [h3, Option.bind_some]
  rcases x with ⟨v1, v2, v3, v4, b1, b2, r1⟩ | ⟨v1, v2, v3, v4, b1, b2, r1⟩ | ⟨v1, v2, v3, v4⟩ | ⟨v1, v2, v3, v4, b1, b2, r1⟩ | ⟨v1, v2, v3, v4, b1, b2, r1⟩ | ⟨v1, v2, v3, v4⟩ <;> exact ⟨_, rfl, h2⟩

/-! ### what a group leaves -/
def tot (l : List ByteArray) : Nat := (l.map (·.size)).sum
theorem grpF_le (sp : List UInt8) : ∀ (g : List UInt8) (a : List ByteArray) (f : List FlagD) (e : Int) (a' : List ByteArray) (f' : List FlagD), grpF sp g a f = (e, a', f') → a'.length ≤ a.length ∧ f'.length + tot a' ≤ f.length + g.length + tot a
  | [], a, f, e, a', f', h => by simp only [grpF, Prod.mk.injEq] at h; obtain ⟨rfl, rfl, rfl⟩ := h; simp
  | c :: g, a, f, e, a', f', h => by
    unfold grpF at h
    split at h
    · simp only [Prod.mk.injEq] at h; obtain ⟨rfl, rfl, rfl⟩ := h; simp [tot]
    · split at h
      · cases g with
        | nil =>
          cases a with
          | nil => simp only [Prod.mk.injEq] at h; obtain ⟨rfl, rfl, rfl⟩ := h; simp [tot]
          | cons b a => simp only [Prod.mk.injEq] at h; obtain ⟨rfl, rfl, rfl⟩ := h; simp [tot] <;> omega
        | cons d g => simp only [Prod.mk.injEq] at h; obtain ⟨rfl, rfl, rfl⟩ := h; simp <;> omega
      · obtain ⟨h1, h2⟩ := grpF_le sp g a _ e a' f' h
        simp at h2 ⊢
        omega
theorem grpF_err (sp : List UInt8) : ∀ (g : List UInt8) (a : List ByteArray) (f : List FlagD), (grpF sp g a f).1 = 0 ∨ grpF sp g a f = (30, [], []) ∨ grpF sp g a f = (31, [], [])
  | [], a, f => .inl rfl
  | c :: g, a, f => by
    unfold grpF
    split
    · exact .inr (.inl rfl)
    · split
      · cases g with
        | nil => cases a with
          | nil => exact .inr (.inr rfl)
          | cons b a => exact .inl rfl
        | cons d g => exact .inl rfl
      · exact grpF_err sp g a _
end Go.Proofs.YtfjflodicgjihaaGreatDoor.Den
