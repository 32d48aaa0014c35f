/- Texts joined by a program of mine (pack.py): PvEq. -/
import Derived.Test.YtdbekeidlppfiaaGreatDoorDenW
set_option linter.unusedVariables false
set_option linter.unusedSimpArgs false
namespace Go.Proofs.YtdbekeidlppfiaaGreatDoor.Den
open Go Go.RowKit
def vEq : Value → Value → Bool
 | .int a x, .int b y => decide (a = b) && decide (x = y)
 | .bool x, .bool y => x == y
 | .string x, .string y => decide (x.data.toList = y.data.toList)
 | .nilIface, .nilIface => true
 | .nilFunc, .nilFunc => true
 | .slice none a b, .slice none c d => decide (a = c) && decide (b = d)
 | .map none, .map none => true
 | .pointer none, .pointer none => true
 | _, _ => false
theorem vEq_ok {x y : Value} (h : vEq x y = true) : x = y := by
 unfold vEq at h
 split at h
 ·simp only [Bool.and_eq_true, decide_eq_true_eq] at h; rw [h.1, h.2]
 ·simp only [beq_iff_eq] at h; rw [h]
 ·simp only [decide_eq_true_eq] at h
  rename_i x y
  have : x = y := ByteArray.ext (Array.toList_inj.1 h)
  rw [this]
 ·rfl
 ·rfl
 ·simp only [Bool.and_eq_true, decide_eq_true_eq] at h; rw [h.1, h.2]
 ·rfl
 ·rfl
 ·cases h
mutual
def pvEq : PV → PV → Bool
 | .v x, y => match y with | .v y => vEq x y | _ => false
 | .list a b xs, y => match y with | .list c d ys => decide (a = c) && (b == d && pvEqLL xs ys) | _ => false
 | .agg xs, y => match y with | .agg ys => pvEqL xs ys | _ => false
 | .tup xs, y => match y with | .tup ys => pvEqL xs ys | _ => false
 | .ifc t x, y => match y with | .ifc u z => decide (t = u) && pvEq x z | _ => false
 | .far a, y => match y with | .far b => decide (a = b) | _ => false
 | _, _ => false
def pvEqL : List PV → List PV → Bool
 | [], y => match y with | [] => true | _ => false
 | x :: xs, y => match y with | z :: ys => pvEq x z && pvEqL xs ys | _ => false
def pvEqLL : List (List PV) → List (List PV) → Bool
 | [], y => match y with | [] => true | _ => false
 | x :: xs, y => match y with | z :: ys => pvEqL x z && pvEqLL xs ys | _ => false
end
mutual
theorem pvEq_ok : ∀ {x y : PV}, pvEq x y = true → x = y
 | .v x, y, h => by
  unfold pvEq at h
  split at h
  ·rw [vEq_ok h]
  ·cases h
 | .list a b xs, y, h => by
  unfold pvEq at h
  split at h
  ·simp only [Bool.and_eq_true, decide_eq_true_eq, beq_iff_eq] at h
   rw [h.1, h.2.1, pvEqLL_ok h.2.2]
  ·cases h
 | .agg xs, y, h => by
  unfold pvEq at h
  split at h
  ·rw [pvEqL_ok h]
  ·cases h
 | .tup xs, y, h => by
  unfold pvEq at h
  split at h
  ·rw [pvEqL_ok h]
  ·cases h
 | .ifc t x, y, h => by
  unfold pvEq at h
  split at h
  ·simp only [Bool.and_eq_true, decide_eq_true_eq] at h
   rw [h.1, pvEq_ok h.2]
  ·cases h
 | .far a, y, h => by
  unfold pvEq at h
  split at h
  ·simp only [decide_eq_true_eq] at h; rw [h]
  ·cases h
 | .ptr .., y, h => by unfold pvEq at h; cases h
 | .row .., y, h => by unfold pvEq at h; cases h
 | .eptr _, y, h => by unfold pvEq at h; cases h
 | .clo .., y, h => by unfold pvEq at h; cases h
 | .mth .., y, h => by unfold pvEq at h; cases h
 | .own .., y, h => by unfold pvEq at h; cases h
 | .unk, y, h => by unfold pvEq at h; cases h
theorem pvEqL_ok : ∀ {x y : List PV}, pvEqL x y = true → x = y
 | [], y, h => by
  unfold pvEqL at h
  split at h
  ·rfl
  ·cases h
 | x :: xs, y, h => by
  unfold pvEqL at h
  split at h
  ·simp only [Bool.and_eq_true] at h
   rw [pvEq_ok h.1, pvEqL_ok h.2]
  ·cases h
theorem pvEqLL_ok : ∀ {x y : List (List PV)}, pvEqLL x y = true → x = y
 | [], y, h => by
  unfold pvEqLL at h
  split at h
  ·rfl
  ·cases h
 | x :: xs, y, h => by
  unfold pvEqLL at h
  split at h
  ·simp only [Bool.and_eq_true] at h
   rw [pvEqL_ok h.1, pvEqLL_ok h.2]
  ·cases h
end
def tabA (t : List (List PV × PV)) : Ans := fun l => (t.find? fun e => pvEqL e.1 l).map (·.2)
theorem tabA_ok {P : Program} {G : Glo} {f : FuncId} {t : List (List PV × PV)} {g : Ans} (hg : PlainOk P G f g) (h : ∀ e ∈ t, g e.1 = some e.2) : PlainOk P G f (tabA t) := by
 intro cargs r hr
 unfold tabA at hr
 obtain ⟨e, he, rfl⟩ := Option.map_eq_some_iff.1 hr
 have h1 := List.mem_of_find?_eq_some he
 have h2 := List.find?_some he
 have h3 := pvEqL_ok h2
 subst h3
 exact hg _ _ (h e h1)
def ti (n : Int) : PV := .v (.int .i64 n)
def tb (b : Bool) : PV := .v (.bool b)
def ts (l : List UInt8) : PV := .v (.string ⟨⟨l⟩⟩)
end Go.Proofs.YtdbekeidlppfiaaGreatDoor.Den
