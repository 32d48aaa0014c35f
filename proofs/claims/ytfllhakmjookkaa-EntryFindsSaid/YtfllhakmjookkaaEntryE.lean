/- Entries: the binary search. -/
import Derived.Test.YtfllhakmjookkaaEntryD
set_option linter.unusedVariables false
set_option linter.unusedSimpArgs false
namespace Go.Proofs.Ytfllhakmjookkaa
open Go Go.RowKit

/-! ### Comparing -/
theorem cmp_facts : ∀ (a b : List UInt8), (decide (Lib.compareBytes a b < 0) = Op.bytesLess a b) ∧ ((Lib.compareBytes a b == 0) = (a == b))
  | [], [] => ⟨rfl, rfl⟩
  | [], _ :: _ => ⟨rfl, rfl⟩
  | _ :: _, [] => ⟨rfl, rfl⟩
  | x :: a, y :: b => by
    have ih := cmp_facts a b
    have h1 : (x < y) = (x.toNat < y.toNat) := by rw [UInt8.lt_iff_toNat_lt]
    have h2 : (y < x) = (y.toNat < x.toNat) := by rw [UInt8.lt_iff_toNat_lt]
    have h3 : (x = y) = (x.toNat = y.toNat) := by rw [← UInt8.toNat_inj]
    have e2 : Op.bytesLess (x :: a) (y :: b) = (decide (x < y) || (x == y && Op.bytesLess a b)) := rfl
    rw [e2]
    by_cases c1 : x.toNat < y.toNat
    · have c2 : ¬ x = y := by rw [h3]; omega
      have c4 : x < y := by rw [h1]; exact c1
      rw [show Lib.compareBytes (x :: a) (y :: b) = -1 by simp only [Lib.compareBytes]; rw [if_pos c4]]
      simp [c4, c2]
    · have c4 : ¬ x < y := by rw [h1]; exact c1
      by_cases c3 : y.toNat < x.toNat
      · have c2 : ¬ x = y := by rw [h3]; omega
        have c5 : y < x := by rw [h2]; exact c3
        rw [show Lib.compareBytes (x :: a) (y :: b) = 1 by simp only [Lib.compareBytes]; rw [if_neg c4, if_pos c5]]
        simp [c4, c2]
      · have c2 : x = y := by rw [h3]; omega
        subst c2
        rw [show Lib.compareBytes (x :: a) (x :: b) = Lib.compareBytes a b by simp only [Lib.compareBytes]; rw [if_neg c4]; rw [if_neg c4]]
        rw [ih.1, ih.2]
        simp
theorem cmp_lt (a b : ByteArray) : decide (Lib.compareBytes a.data.toList b.data.toList < 0) = ltS a b := by
  unfold ltS; rw [ByteArray.toList_eq, ByteArray.toList_eq]; exact (cmp_facts _ _).1
theorem cmp_eq (a b : ByteArray) : (Lib.compareBytes a.data.toList b.data.toList == 0) = (a.toList == b.toList) := by
  rw [ByteArray.toList_eq, ByteArray.toList_eq]; exact (cmp_facts _ _).2
def cmpS (a b : ByteArray) : Int := Lib.compareBytes a.data.toList b.data.toList
theorem place1_any (x : Ent) (n : ByteArray) (w : World) :
    Calls Try.prog 77 #[.agg #[.string x.name, .int .i64 x.ino], .string n] w fun e w' => e = .returned (.int .i64 (cmpS x.name n)) ∧ Below w.heap.size w w' := by
  unfold cmpS
  go_enter Try.func77, Try.ntmps77
  go_wp2_with fail
  refine (Try.strings_Compare _ _ _).mono ?_
  rintro e w' ⟨rfl, rfl⟩
  go_wp2
  go_ret
  exact ⟨rfl, balloc _ _⟩
/-- Entries below a name stand ahead of place i, all others behind. -/
structure Split (l : List Ent) (n : ByteArray) (i : Nat) : Prop where
  lo : ∀ t x, t < i → l[t]? = some x → ltS x.name n = true
  hi : ∀ t x, i ≤ t → l[t]? = some x → ltS x.name n = false
/-- Once an entry is not below a name, none behind it is. -/
def Parts (l : List Ent) (n : ByteArray) : Prop := ∀ (s t : Nat) (x y : Ent), s ≤ t → l[s]? = some x → l[t]? = some y → ltS y.name n = true → ltS x.name n = true
def foundAt (l : List Ent) (n : ByteArray) (i : Nat) : Bool := match l[i]? with | some x => x.name.toList == n.toList | none => false
def Placed (l : List Ent) (n : ByteArray) (w : World) (e : Ending) (w' : World) : Prop := ∃ i : Nat, i ≤ l.length ∧ e = .returned (.tuple #[.int .i64 (i : Int), .bool (foundAt l n i)]) ∧ Split l n i ∧ Below w.heap.size w w'
theorem bsearch_any (l : List Ent) (v : Value) (n : ByteArray) (w : World) (h : entK.Sl (Old w) w v l) (hl : l.length ≤ 1000) (hm : Parts l n) :
    Calls Try.prog 76 #[v, .string n, .func (.func 77) #[] #[]] w (Placed l n w) := by
  have HM := Lib.hid hm
  clear hm
  obtain ⟨av, cap, hvv, hcapv⟩ := Sl.val h
  subst hvv
  have H := Lib.hid h
  clear h
  obtain ⟨L, hL⟩ : ∃ n, l.length = n := ⟨_, rfl⟩
  rw [hL] at hcapv ⊢
  try rw [hL] at hl
  have HL := Lib.hid hL
  clear hL
  go_enter Try.func76, Try.ntmps76
  go_wp2
  go_outline
  go_loopw [9, 10] (fun i j wr => ∃ a b : Nat, a ≤ b ∧ b ≤ L ∧ i = .int .i64 a ∧ j = .int .i64 b ∧ Hid (∀ t x, t < a → l[t]? = some x → ltS x.name n = true) ∧ Hid (∀ t x, b ≤ t → l[t]? = some x → ltS x.name n = false) ∧ Hid (Below w.heap.size w wr)) (fun i j _ => (intOf j - intOf i).toNat)
  case atStart => exact ⟨0, L, by omega, by omega, rfl, rfl, fun t x ht => by omega, fun t x ht hx => by have := (List.getElem?_eq_some_iff.1 hx).1; rw [HL.out] at this; omega, Below.refl _ _⟩
  case round =>
    obtain ⟨a, b, hab, hbL, rfl, rfl, ha, hbb, hb⟩ := hrel
    by_cases hlt : a < b
    · have hm1 : (a + b) / 2 < L := by omega
      obtain ⟨x, hx⟩ : ∃ x, l[(a + b) / 2]? = some x := ⟨_, List.getElem?_eq_getElem (by rw [HL.out]; exact hm1)⟩
      obtain ⟨g, off, cap', he, _, _, ⟨hSg, hnm⟩, c0, c1⟩ := ent_at (Sl.keep (Agree.below hb.out) H.out) hx
      rw [HL.out] at he
      injection he with he1 he2 he3
      subst he1 he3
      clear he2
      have hlo : ∀ t y, t < (a + b) / 2 + 1 → l[t]? = some y → ltS x.name n = true → ltS y.name n = true := fun t y ht hy hq => HM.out t _ y x (by omega) hy hx hq
      have hhi : ∀ t y, (a + b) / 2 ≤ t → l[t]? = some y → ltS x.name n = false → ltS y.name n = false := fun t y ht hy hq => by
        cases hz : ltS y.name n
        · rfl
        · exact absurd (HM.out _ t x y ht hx hy hz) (by rw [hq]; simp)
      have HLO := Lib.hid hlo
      have HHI := Lib.hid hhi
      clear hlo hhi hx
      cases hq : ltS x.name n
      · have hq1 : decide (cmpS x.name n < 0) = false := by unfold cmpS; rw [cmp_lt]; exact hq
        have HQ := Lib.hid (fun t y (ht : (a + b) / 2 ≤ t) hy => HHI.out t y ht hy hq)
        clear HLO HHI hq
        go_wp2_with fail
        refine (place1_any x n _).mono ?_
        rintro e w2 ⟨rfl, hb2⟩
        go_wp2
        go_roundw
        case rel => exact ⟨a, (a + b) / 2, by omega, by omega, rfl, congrArg (Value.int .i64) (by omega), ha, HQ, bthen hb.out hb2⟩
        case measure => simp [intOf]; omega
      · have hq1 : decide (cmpS x.name n < 0) = true := by unfold cmpS; rw [cmp_lt]; exact hq
        have HQ := Lib.hid (fun t y (ht : t < (a + b) / 2 + 1) hy => HLO.out t y ht hy hq)
        clear HLO HHI hq
        go_wp2_with fail
        refine (place1_any x n _).mono ?_
        rintro e w2 ⟨rfl, hb2⟩
        go_wp2
        go_roundw
        case rel => exact ⟨(a + b) / 2 + 1, b, by omega, by omega, congrArg (Value.int .i64) (by omega), rfl, HQ, hbb, bthen hb.out hb2⟩
        case measure => simp [intOf]; omega
    · obtain rfl : a = b := by omega
      have HS := Lib.hid (Split.mk ha.out hbb.out)
      clear ha hbb HM
      by_cases hL2 : a < L
      · obtain ⟨x, hx⟩ : ∃ x, l[a]? = some x := ⟨_, List.getElem?_eq_getElem (by rw [HL.out]; exact hL2)⟩
        obtain ⟨g, off, cap', he, _, _, ⟨hSg, hnm⟩, c0, c1⟩ := ent_at (Sl.keep (Agree.below hb.out) H.out) hx
        rw [HL.out] at he
        injection he with he1 he2 he3
        subst he1 he3
        clear he2
        have HF := Lib.hid (show foundAt l n a = (x.name.toList == n.toList) by unfold foundAt; rw [hx])
        have hq1 : (cmpS x.name n == 0) = (x.name.toList == n.toList) := by unfold cmpS; exact cmp_eq _ _
        clear hx
        go_wp2_with fail
        refine (place1_any x n _).mono ?_
        rintro e w2 ⟨rfl, hb2⟩
        go_wp2
        go_ret2
        exact ⟨a, by rw [HL.out]; omega, ret_int_bool rfl HF.out.symm, HS.out, bthen hb.out hb2⟩
      · obtain rfl : a = L := by omega
        have HF := Lib.hid (show foundAt l n a = false by unfold foundAt; rw [List.getElem?_eq_none (by rw [HL.out]; exact Nat.le_refl _)])
        go_wp2
        go_ret2
        exact ⟨a, by rw [HL.out]; exact Nat.le_refl _, ret_int_bool rfl HF.out.symm, HS.out, hb.out⟩
end Go.Proofs.Ytfllhakmjookkaa
