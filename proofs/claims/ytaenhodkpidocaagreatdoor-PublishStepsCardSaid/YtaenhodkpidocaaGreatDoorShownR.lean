/- Texts joined by a program of mine (pack.py): ShownR. -/
import Derived.Test.YtaenhodkpidocaaGreatDoorS21C
set_option linter.unusedVariables false
set_option linter.unusedSimpArgs false
namespace Go.Proofs.YtaenhodkpidocaaGreatDoor.Den
open Go Go.RowKit
noncomputable def XT1 : List (FuncId × Ans) := [(208, xSplit), (27, xCheck), (60, xIs), (62, xIxb), (255, xCon), (312, xCmp), (284, xPut), (282, xDrop), (49, xClone 49 4 true), (58, xClone 58 1 false), (145, xClone 145 8 true), (65, xMake), (275, xRep)]
theorem XT1_ok (x) (h : x ∈ XT1) : PlainOk Tryz.prog G0 x.1 x.2 := by
 simp only [XT1, List.mem_cons, List.not_mem_nil, or_false] at h
 rcases h with rfl | rfl | rfl | rfl | rfl | rfl | rfl | rfl | rfl | rfl | rfl | rfl | rfl
 ·exact xSplit_ok G0
 ·exact xCheck_ok G0
 ·exact xIs_ok
 ·exact xIxb_ok G0
 ·exact xCon_ok rfl
 ·exact xCmp_ok G0
 ·exact xPut_ok G0
 ·exact xDrop_ok G0
 ·exact plain_any xCloneP_ok G0
 ·exact plain_any xCloneS_ok G0
 ·exact plain_any xCloneN_ok G0
 ·exact xMake_ok G0
 ·exact xRep_ok G0
noncomputable def YT1 : List (FuncId × SFun) := [(187, yAs2), (212, yRow)]
theorem YT1_ok (x) (h : x ∈ YT1) : StateOk Tryz.prog G0 x.1 x.2 := by
 simp only [YT1, List.mem_cons, List.not_mem_nil, or_false] at h
 rcases h with rfl | rfl
 ·exact yAs2_ok
 ·exact yRow_ok G0
def SL1 : List FuncId := [44, 59, 63, 75, 80, 83, 91, 92, 94, 95, 96, 97, 98, 99, 100, 101, 102, 103, 104, 105, 106, 107, 108, 109, 110, 117, 118, 123, 124, 125, 127, 129, 135, 142, 143, 147, 149, 151, 152, 153, 157, 163, 164, 167, 168, 170, 172, 174, 176, 178, 179, 181, 184, 187, 197, 198, 200, 209, 212, 213, 214, 216, 218, 219, 220, 221, 222, 223, 224, 225, 226, 227, 228, 229, 232, 233, 234, 235, 236, 237, 238, 239, 240, 243, 244, 245, 247, 248, 249, 250, 251, 252, 260, 268, 269, 270, 271, 273, 278, 279, 280, 281, 283, 285, 286, 297, 298, 301, 302, 310, 311, 332, 333, 334, 335, 336, 337, 338, 339, 340, 343, 345, 346, 347, 348, 349, 350, 351, 352, 353, 354, 355, 356, 359, 361, 362, 363, 364, 365, 366]
noncomputable def X1 (f : FuncId) : Option Ans := (XT1.find? fun x => x.1 == f).map (·.2)
noncomputable def Y1 (f : FuncId) : Option SFun := (YT1.find? fun x => x.1 == f).map (·.2)
def K1 : Kind := fun f => if SL1.contains f then none else some false
noncomputable def pf1 : FuncId → Bool := fun f => (X1 f).isSome || (K1 f).isSome
noncomputable def C1 (k : Nat) : CallD := callD Tryz.prog G0 X1 Y1 K1 1000000000 noKT k
theorem X1_ok (f : FuncId) (g : Ans) (h : X1 f = some g) : PlainOk Tryz.prog G0 f g := by
 unfold X1 at h
 obtain ⟨x, hx, rfl⟩ := Option.map_eq_some_iff.1 h
 have h1 := List.mem_of_find?_eq_some hx
 have h2 := List.find?_some hx
 simp only [beq_iff_eq] at h2
 subst h2
 exact XT1_ok x h1
theorem Y1_ok (f : FuncId) (g : SFun) (h : Y1 f = some g) : StateOk Tryz.prog G0 f g := by
 unfold Y1 at h
 obtain ⟨x, hx, rfl⟩ := Option.map_eq_some_iff.1 h
 have h1 := List.mem_of_find?_eq_some hx
 have h2 := List.find?_some hx
 simp only [beq_iff_eq] at h2
 subst h2
 exact YT1_ok x h1
theorem iso1_ok (k : Nat) (f : FuncId) : PlainOk Tryz.prog G0 f (isoD Tryz.prog G0 (C1 k) pf1 false 1000000000 (fun _ => none) f) := by
 have hm : Tryz.prog.follows .mixedOrders = true := Checked.mixed Tryz.checked
 obtain ⟨h1, h2⟩ := callD_ok (P := Tryz.prog) (G := G0) (X := X1) (Y := Y1) (K := K1) (lf := 1000000000) (KT := noKT) hm X1_ok Y1_ok k
 exact isoD_ok hm h1 h2
set_option maxRecDepth 1000000 in
theorem shown_run : (match isoD Tryz.prog G0 (C1 40) pf1 false 1000000000 (fun _ => none) 6 [] with | some (.v (.bool b)) => b | _ => false) = true := by kernel_rfl
def xShown : Ans := fun l => match l with
 | [] => some (.v (.bool true))
 | _ => none
theorem xShown_ok : PlainOk Tryz.prog G0 6 xShown := by
 intro cargs r h
 unfold xShown at h
 split at h
 case h_2 => cases h
 cases h
 have hs := shown_run
 split at hs
 ·rename_i b hb
  subst hs
  exact iso1_ok _ _ _ _ hb
 ·cases hs
end Go.Proofs.YtaenhodkpidocaaGreatDoor.Den
