/- Texts joined by a program of mine (pack.py): S19X. -/
import Derived.Test.YtdbekeidlppfiaaGreatDoorS19At
import Derived.Lib.LaidTab
set_option linter.unusedVariables false
set_option linter.unusedSimpArgs false
namespace Go.Proofs.YtdbekeidlppfiaaGreatDoor.Den
open Go Go.RowKit
def tabP (k : IntKind) (l : List Int) : List PV := l.map fun z => .v (.int k z)
def G0 : Glo := fun g =>
 if g = 0 then some [.ifc 403 (.far 0)]
 else if g = 1 then some [.ifc 403 (.far 1)]
 else if g = 2 then some [.ifc 403 (.far 2)]
 else if g = 4 then some [.unk]
 else if g = 3 then some [.v (.iface 264 (.agg #[.pointer (some ⟨10, 145, none⟩)]))]
 else if g = 5 then some (tabP .u64 Lib.pow10Tab) else none
def sentB (k : Nat) : Bool := k == 0 || k == 1 || k == 2
theorem G0_at {k : Nat} (h : sentB k = true) : G0 k = some [.ifc 403 (.far k)] := by
 simp only [sentB, Bool.or_eq_true, beq_iff_eq] at h
 rcases h with (rfl | rfl) | rfl <;> rfl
def xIs : Ans := fun l => match l with
 | [.v .nilIface, .ifc t (.far b)] => if t = 403 then some (pB0 false) else none
 | [.ifc t (.v (.int .i64 n)), .ifc t' (.far b)] => if t = 312 ∧ t' = 403 then some (pB0 false) else none
 | [.ifc t (.far a), .ifc t' (.far b)] => if t = 403 ∧ t' = 403 ∧ sentB a = true ∧ sentB b = true then some (pB0 (a == b)) else none
 | _ => none
where pB0 (b : Bool) : PV := .v (.bool b)
theorem far_inv {c : Ctx} {k : Nat} {u : Value} (h : VR c (.far k) u) : u = .pointer (some (c.F k)) := by cases h; rfl
theorem xIs_ok : PlainOk Tryz.prog G0 68 xIs := by
 intro cargs r h c vs hcl hl ha hg hS
 unfold xIs at h
 split at h
 ·split at h
  case isFalse => cases h
  rename_i ht
  subst ht
  cases h
  obtain ⟨u, v, rfl⟩ := args2 hl
  have hu := v_inv (ha 0 _ u rfl rfl)
  obtain ⟨z, rfl, hz⟩ := ifc_inv (ha 1 _ v rfl rfl)
  have hz := far_inv hz
  subst hu hz
  exact out_v (fun c => .v _) rfl ((is_nil _ c.w).mono fun e w' ⟨he, hw⟩ => ⟨he, by rw [hw]; exact Below.refl _ _⟩)
 ·rename_i t n t' b
  split at h
  case isFalse => cases h
  rename_i ht
  obtain ⟨rfl, rfl⟩ := ht
  cases h
  obtain ⟨u, v, rfl⟩ := args2 hl
  obtain ⟨y, rfl, hy⟩ := ifc_inv (ha 0 _ u rfl rfl)
  obtain ⟨z, rfl, hz⟩ := ifc_inv (ha 1 _ v rfl rfl)
  have hy := v_inv hy
  have hz := far_inv hz
  subst hy hz
  exact out_v (fun c => .v _) rfl ((is_val n _ c.w).mono fun e w' ⟨he, hw⟩ => ⟨he, by rw [hw]; exact Below.refl _ _⟩)
 ·rename_i t a t' b
  split at h
  case isFalse => cases h
  rename_i ht
  obtain ⟨rfl, rfl, ha2, hb2⟩ := ht
  cases h
  obtain ⟨u, v, rfl⟩ := args2 hl
  obtain ⟨y, rfl, hy⟩ := ifc_inv (ha 0 _ u rfl rfl)
  obtain ⟨z, rfl, hz⟩ := ifc_inv (ha 1 _ v rfl rfl)
  have hy := far_inv hy
  have hz := far_inv hz
  subst hy hz
  by_cases hab : a = b
  ·subst hab
   have e1 : (a == a) = true := by simp
   rw [e1]
   exact out_v (fun c => .v _) rfl ((is_same _ c.w).mono fun e w' ⟨he, hw⟩ => ⟨he, by rw [hw]; exact Below.refl _ _⟩)
  ·have e1 : (a == b) = false := by simpa using hab
   rw [e1]
   obtain ⟨ca, ta, h1⟩ := hg.far _ _ _ (G0_at ha2)
   obtain ⟨cb, tb, h2⟩ := hg.far _ _ _ (G0_at hb2)
   exact out_v (fun c => .v _) rfl ((is_other _ _ ca cb ta tb c.w (fun e => hab (hg.inj _ _ _ _ _ _ (G0_at ha2) (G0_at hb2) e)) h1 h2).mono fun e w' ⟨he, hw⟩ => ⟨he, by rw [hw]; exact Below.refl _ _⟩)
 ·cases h
end Go.Proofs.YtdbekeidlppfiaaGreatDoor.Den
