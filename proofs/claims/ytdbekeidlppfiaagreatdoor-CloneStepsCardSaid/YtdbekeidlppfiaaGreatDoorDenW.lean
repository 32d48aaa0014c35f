/- Texts joined by a program of mine (pack.py): DenW. -/
import Derived.Test.YtdbekeidlppfiaaGreatDoorDenX
set_option linter.unusedVariables false
set_option linter.unusedSimpArgs false
namespace Go.Proofs.YtdbekeidlppfiaaGreatDoor.Den
open Go Go.RowKit
abbrev Ans := List PV → Option PV
theorem out_v {P : Program} {f : FuncId} {vs : Array Value} {c : Ctx} {r : PV} {v : Value} (hv : ∀ c, VR c r v) (hr : closedB r = true) (h : Calls P f vs c.w fun e w' => e = .returned v ∧ Below c.w.heap.size c.w w') :
  Calls P f vs c.w fun e w' => ∃ v gs, e = .returned v ∧ Below c.w.heap.size c.w w' ∧ RV2 (outC c w' gs) r v gs ∧ gs.Nodup ∧ ∀ g ∈ gs, c.w.heap.size ≤ g ∧ g < w'.heap.size :=
 h.mono fun e w' ⟨he, hb⟩ => ⟨v, [], he, hb, .inl (.inl (.inl ⟨hr, hv _, rfl⟩)), List.nodup_nil, by simp⟩
theorem v_inv {c : Ctx} {x u : Value} (h : VR c (.v x) u) : u = x := by cases h; rfl
theorem args1 {vs : Array Value} {x : PV} (h : vs.size = [x].length) : ∃ u, vs = #[u] := by
 obtain ⟨l⟩ := vs
 match l, h with
 | [u], _ => exact ⟨u, rfl⟩
theorem args2 {vs : Array Value} {x y : PV} (h : vs.size = [x, y].length) : ∃ u v, vs = #[u, v] := by
 obtain ⟨l⟩ := vs
 match l, h with
 | [u, v], _ => exact ⟨u, v, rfl⟩
end Go.Proofs.YtdbekeidlppfiaaGreatDoor.Den
