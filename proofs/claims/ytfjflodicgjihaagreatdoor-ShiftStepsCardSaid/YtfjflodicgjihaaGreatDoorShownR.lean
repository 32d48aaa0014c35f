/- The law's shown(), run whole by the kernel on what Den reads and on the contracts. (Printed by gen/shown.py.) -/
import Derived.Test.YtfjflodicgjihaaGreatDoorS19S
set_option linter.unusedVariables false
set_option linter.unusedSimpArgs false
namespace Go.Proofs.YtfjflodicgjihaaGreatDoor.Den
open Go Go.RowKit

noncomputable def XT1 : List (FuncId × Ans) := [(180, xSplit), (179, xCheck), (60, xIs), (231, xIxb), (232, xCon), (287, xCmp), (254, xPut), (252, xDrop), (45, xClone 45 4 true), (58, xClone 58 1 false), (119, xClone 119 8 true)]
theorem XT1_ok (x) (h : x ∈ XT1) : PlainOk Tryz.prog G0 x.1 x.2 := by
  simp only [XT1, List.mem_cons, List.not_mem_nil, or_false] at h
  rcases h with rfl | rfl | rfl | rfl | rfl | rfl | rfl | rfl | rfl | rfl | rfl
  · exact xSplit_ok G0
  · exact xCheck_ok G0
  · exact xIs_ok
  · exact xIxb_ok G0
  · exact xCon_ok rfl
  · exact xCmp_ok G0
  · exact xPut_ok G0
  · exact xDrop_ok G0
  · exact plain_any xCloneP_ok G0
  · exact plain_any xCloneS_ok G0
  · exact plain_any xCloneN_ok G0
noncomputable def YT1 : List (FuncId × SFun) := [(161, yAs)]
theorem YT1_ok (x) (h : x ∈ YT1) : StateOk Tryz.prog G0 x.1 x.2 := by
  simp only [YT1, List.mem_cons, List.not_mem_nil, or_false] at h
  rcases h with rfl
  · exact yAs_ok
def SL1 : List FuncId := [59, 61, 62, 74, 75, 77, 78, 79, 80, 81, 82, 83, 84, 85, 86, 87, 88, 89, 90, 91, 92, 93, 105, 106, 109, 115, 121, 123, 125, 126, 127, 131, 137, 138, 141, 142, 144, 146, 148, 150, 152, 153, 155, 158, 161, 172, 181, 185, 186, 190, 191, 192, 193, 194, 195, 196, 197, 198, 199, 200, 201, 204, 205, 206, 207, 208, 209, 210, 211, 212, 215, 216, 217, 219, 220, 222, 223, 224, 238, 239, 240, 241, 243, 248, 249, 250, 251, 253, 255, 256, 268, 270, 271, 274, 275, 285, 286, 291, 309, 310, 311, 312, 313, 314, 315, 316, 317, 321, 322, 323, 324, 325, 326, 327, 328, 329, 330, 331, 332, 335, 337, 338, 339, 340, 341, 342]
noncomputable def X1 (f : FuncId) : Option Ans := (XT1.find? fun x => x.1 == f).map (·.2)
noncomputable def Y1 (f : FuncId) : Option SFun := (YT1.find? fun x => x.1 == f).map (·.2)
def K1 : Kind := fun f => if SL1.contains f then none else some false
noncomputable def pf1 : FuncId → Bool := fun f => (X1 f).isSome || (K1 f).isSome
noncomputable def C1 (k : Nat) : CallD := callD Tryz.prog G0 X1 Y1 K1 1000000000 noKT k
theorem X1_ok (f : FuncId) (g : Ans) (h : X1 f = some g) : PlainOk Tryz.prog G0 f g := by
  unfold X1 at h
  obtain ⟨x, hx, rfl⟩ := Option.map_eq_some_iff.1 h
  have h1 := List.mem_of_find?_eq_some hx
  have h2 := List.find?_some hx
  simp only [beq_iff_eq] at h2
  subst h2
  exact XT1_ok x h1
theorem Y1_ok (f : FuncId) (g : SFun) (h : Y1 f = some g) : StateOk Tryz.prog G0 f g := by
  unfold Y1 at h
  obtain ⟨x, hx, rfl⟩ := Option.map_eq_some_iff.1 h
  have h1 := List.mem_of_find?_eq_some hx
  have h2 := List.find?_some hx
  simp only [beq_iff_eq] at h2
  subst h2
  exact YT1_ok x h1
theorem iso1_ok (k : Nat) (f : FuncId) : PlainOk Tryz.prog G0 f (isoD Tryz.prog G0 (C1 k) pf1 false 1000000000 (fun _ => none) f) := by
  have hm : Tryz.prog.follows .mixedOrders = true := Checked.mixed Tryz.checked
  obtain ⟨h1, h2⟩ := callD_ok (P := Tryz.prog) (G := G0) (X := X1) (Y := Y1) (K := K1) (lf := 1000000000) (KT := noKT) hm X1_ok Y1_ok k
  exact isoD_ok hm h1 h2
set_option maxRecDepth 1000000 in
theorem shown_run : (match isoD Tryz.prog G0 (C1 40) pf1 false 1000000000 (fun _ => none) 6 [] with | some (.v (.bool b)) => b | _ => false) = true := by kernel_rfl
def xShown : Ans := fun l => match l with
  | [] => some (.v (.bool true))
  | _ => none
theorem xShown_ok : PlainOk Tryz.prog G0 6 xShown := by
  intro cargs r h
  unfold xShown at h
  split at h
  case h_2 => cases h
  cases h
  have hs := shown_run
  split at hs
  · rename_i b hb
    subst hs
    exact iso1_ok _ _ _ _ hb
  · cases hs
end Go.Proofs.YtfjflodicgjihaaGreatDoor.Den
