/- Texts joined by a program of mine (pack.py): ShownR. -/
import Derived.Test.YtdbekeidlppfiaaGreatDoorS18C
import Derived.Test.YtdbekeidlppfiaaGreatDoorPvEq
set_option linter.unusedVariables false
set_option linter.unusedSimpArgs false
namespace Go.Proofs.YtdbekeidlppfiaaGreatDoor.Den
open Go Go.RowKit
noncomputable def XT1 : List (FuncId × Ans) := [(192, xSplit), (27, xCheck), (68, xIs), (70, xIxb), (238, xCon), (297, xCmp), (267, xPut), (265, xDrop), (56, xClone 56 4 true), (66, xClone 66 1 false), (129, xClone 129 8 true), (258, xRep), (128, xGrow)]
theorem XT1_ok (x) (h : x ∈ XT1) : PlainOk Tryz.prog G0 x.1 x.2 := by
 simp only [XT1, List.mem_cons, List.not_mem_nil, or_false] at h
 rcases h with rfl | rfl | rfl | rfl | rfl | rfl | rfl | rfl | rfl | rfl | rfl | rfl | rfl
 ·exact xSplit_ok G0
 ·exact xCheck_ok G0
 ·exact xIs_ok
 ·exact xIxb_ok G0
 ·exact xCon_ok rfl
 ·exact xCmp_ok G0
 ·exact xPut_ok G0
 ·exact xDrop_ok G0
 ·exact plain_any xCloneP_ok G0
 ·exact plain_any xCloneS_ok G0
 ·exact plain_any xCloneN_ok G0
 ·exact xRep_ok G0
 ·exact xGrow_ok G0
noncomputable def YT1 : List (FuncId × SFun) := [(171, yAs2), (65, yRow)]
theorem YT1_ok (x) (h : x ∈ YT1) : StateOk Tryz.prog G0 x.1 x.2 := by
 simp only [YT1, List.mem_cons, List.not_mem_nil, or_false] at h
 rcases h with rfl | rfl
 ·exact yAs2_ok
 ·exact yRow_ok G0
def SL1 : List FuncId := [65, 67, 71, 72, 73, 88, 89, 91, 92, 93, 94, 95, 96, 97, 98, 99, 100, 101, 102, 103, 104, 105, 106, 107, 114, 115, 120, 121, 122, 131, 133, 135, 136, 137, 141, 147, 148, 151, 152, 154, 156, 158, 160, 162, 163, 165, 168, 171, 181, 184, 193, 196, 197, 199, 201, 202, 203, 204, 205, 206, 207, 208, 209, 210, 211, 212, 215, 216, 217, 218, 219, 220, 221, 222, 223, 226, 227, 228, 230, 231, 232, 233, 234, 235, 243, 246, 251, 252, 253, 254, 256, 261, 262, 263, 264, 266, 268, 269, 279, 280, 283, 284, 295, 296, 317, 318, 319, 320, 321, 322, 323, 324, 325, 329, 330, 331, 332, 333, 334, 335, 336, 337, 338, 339, 340, 343, 345, 346, 347, 348, 349, 350]
noncomputable def X1 (f : FuncId) : Option Ans := (XT1.find? fun x => x.1 == f).map (·.2)
noncomputable def Y1 (f : FuncId) : Option SFun := (YT1.find? fun x => x.1 == f).map (·.2)
def K1 : Kind := fun f => if SL1.contains f then none else some false
noncomputable def pf1 : FuncId → Bool := fun f => (X1 f).isSome || (K1 f).isSome
noncomputable def C1 (k : Nat) : CallD := callD Tryz.prog G0 X1 Y1 K1 1000000000 noKT k
theorem X1_ok (f : FuncId) (g : Ans) (h : X1 f = some g) : PlainOk Tryz.prog G0 f g := by
 unfold X1 at h
 obtain ⟨x, hx, rfl⟩ := Option.map_eq_some_iff.1 h
 have h1 := List.mem_of_find?_eq_some hx
 have h2 := List.find?_some hx
 simp only [beq_iff_eq] at h2
 subst h2
 exact XT1_ok x h1
theorem Y1_ok (f : FuncId) (g : SFun) (h : Y1 f = some g) : StateOk Tryz.prog G0 f g := by
 unfold Y1 at h
 obtain ⟨x, hx, rfl⟩ := Option.map_eq_some_iff.1 h
 have h1 := List.mem_of_find?_eq_some hx
 have h2 := List.find?_some hx
 simp only [beq_iff_eq] at h2
 subst h2
 exact YT1_ok x h1
theorem iso1_ok (k : Nat) (f : FuncId) : PlainOk Tryz.prog G0 f (isoD Tryz.prog G0 (C1 k) pf1 false 1000000000 (fun _ => none) f) := by
 have hm : Tryz.prog.follows .mixedOrders = true := Checked.mixed Tryz.checked
 obtain ⟨h1, h2⟩ := callD_ok (P := Tryz.prog) (G := G0) (X := X1) (Y := Y1) (K := K1) (lf := 1000000000) (KT := noKT) hm X1_ok Y1_ok k
 exact isoD_ok hm h1 h2
def f8 : PV := .list 1 false [[ti (-1)], [ti (-1)], [ti (-1)], [ti (-1)], [ti (-1)], [ti (-1)], [ti (-1)], [ti (-1)]]
def cs0 : PV := .agg [.list 8 false [[ti 2, ti 63, ti 0, ti 1, ti 1, ti 0, ts [], .list 2 false []]], ti 9, ti 90, .list 6 false [], .list 1 false [[f8], [f8], [f8], [f8], [f8], [f8], [f8], [f8]], .list 4 false [[ti 1, ti 2, ti 0, tb true]]]
def cs1 : PV := .agg [.list 8 false [[ti 2, ti 63, ti 0, ti 1, ti 1, ti 0, ts [], .list 2 false [[ts [97], ti 1]]], [ti 2, ti 61, ti 1, ti 1, ti 0, ti 0, ts [], .list 2 false []]], ti 9, ti 90, .list 6 false [], .list 1 false [[f8], [f8], [f8], [f8], [f8], [f8], [f8], [f8]], .list 4 false [[ti 1, ti 2, ti 0, tb true]]]
def ca61_0 : List PV := [cs0, ti 0, .agg [ti 5, ti (-1), ti 0, ti 0, ti 63, ti 0, ts [97], ts [], ts []]]
def cr61_0 : PV := .tup [cs1, .agg [ti 0, ti 0, ts [], .list 1 false [], ti 0, ti 0, ti 0, ti 0, ti 0, ti 0]]
set_option maxRecDepth 1000000 in
theorem ct61_0 : isoD Tryz.prog G0 (C1 40) pf1 false 1000000000 (fun _ => none) 61 ca61_0 = some cr61_0 := by kernel_rfl
def cs2 : PV := .agg [.list 8 false [[ti 2, ti 63, ti 0, ti 1, ti 1, ti 0, ts [], .list 2 false [[ts [97], ti 1], [ts [98], ti 2]]], [ti 2, ti 61, ti 1, ti 1, ti 0, ti 0, ts [], .list 2 false []], [ti 2, ti 61, ti 1, ti 1, ti 0, ti 0, ts [], .list 2 false []]], ti 9, ti 90, .list 6 false [], .list 1 false [[f8], [f8], [f8], [f8], [f8], [f8], [f8], [f8]], .list 4 false [[ti 1, ti 2, ti 0, tb true]]]
def ca61_1 : List PV := [cs1, ti 0, .agg [ti 5, ti (-1), ti 0, ti 0, ti 63, ti 0, ts [98], ts [], ts []]]
def cr61_1 : PV := .tup [cs2, .agg [ti 0, ti 0, ts [], .list 1 false [], ti 0, ti 0, ti 0, ti 0, ti 0, ti 0]]
set_option maxRecDepth 1000000 in
theorem ct61_1 : isoD Tryz.prog G0 (C1 40) pf1 false 1000000000 (fun _ => none) 61 ca61_1 = some cr61_1 := by kernel_rfl
def cs3 : PV := .agg [.list 8 false [[ti 2, ti 63, ti 0, ti 1, ti 1, ti 0, ts [], .list 2 false [[ts [97], ti 1], [ts [98], ti 2]]], [ti 2, ti 61, ti 1, ti 1, ti 0, ti 0, ts [], .list 2 false [[ts [108], ti 3]]], [ti 2, ti 61, ti 1, ti 1, ti 0, ti 0, ts [], .list 2 false []], [ti 3, ti 63, ti 1, ti 1, ti 0, ti 0, ts [120], .list 2 false []]], ti 9, ti 90, .list 6 false [], .list 1 false [[f8], [f8], [f8], [f8], [f8], [f8], [f8], [f8]], .list 4 false [[ti 1, ti 2, ti 0, tb true]]]
def ca61_2 : List PV := [cs2, ti 0, .agg [ti 10, ti (-1), ti 0, ti 0, ti 0, ti 0, ts [97, 47, 108], ts [], ts [120]]]
def cr61_2 : PV := .tup [cs3, .agg [ti 0, ti 0, ts [], .list 1 false [], ti 0, ti 0, ti 0, ti 0, ti 0, ti 0]]
set_option maxRecDepth 1000000 in
theorem ct61_2 : isoD Tryz.prog G0 (C1 40) pf1 false 1000000000 (fun _ => none) 61 ca61_2 = some cr61_2 := by kernel_rfl
def cs4 : PV := .agg [.list 8 false [[ti 2, ti 63, ti 0, ti 1, ti 1, ti 0, ts [], .list 2 false [[ts [97], ti 1], [ts [98], ti 2]]], [ti 2, ti 61, ti 1, ti 1, ti 0, ti 0, ts [], .list 2 false [[ts [102], ti 4], [ts [108], ti 3]]], [ti 2, ti 61, ti 1, ti 1, ti 0, ti 0, ts [], .list 2 false []], [ti 3, ti 63, ti 1, ti 1, ti 0, ti 0, ts [120], .list 2 false []], [ti 1, ti 52, ti 1, ti 1, ti 1, ti 0, ts [], .list 2 false []]], ti 9, ti 90, .list 6 false [[ti 4, ti 0, tb false, tb true, ti 1, ti 0]], .list 1 false [[.list 1 false [[ti 0], [ti (-1)], [ti (-1)], [ti (-1)], [ti (-1)], [ti (-1)], [ti (-1)], [ti (-1)]]], [f8], [f8], [f8], [f8], [f8], [f8], [f8]], .list 4 false [[ti 1, ti 2, ti 0, tb true]]]
def ca61_3 : List PV := [cs3, ti 0, .agg [ti 1, ti (-1), ti 0, ti 0, ti 52, ti 6, ts [97, 47, 102], ts [], ts []]]
def cr61_3 : PV := .tup [cs4, .agg [ti 0, ti 0, ts [], .list 1 false [], ti 0, ti 0, ti 0, ti 0, ti 0, ti 0]]
set_option maxRecDepth 1000000 in
theorem ct61_3 : isoD Tryz.prog G0 (C1 40) pf1 false 1000000000 (fun _ => none) 61 ca61_3 = some cr61_3 := by kernel_rfl
def cs5 : PV := .agg [.list 8 false [[ti 2, ti 63, ti 0, ti 1, ti 1, ti 0, ts [], .list 2 false [[ts [97], ti 1], [ts [98], ti 2]]], [ti 2, ti 61, ti 1, ti 1, ti 0, ti 0, ts [], .list 2 false [[ts [102], ti 4], [ts [108], ti 3]]], [ti 2, ti 61, ti 1, ti 1, ti 0, ti 0, ts [], .list 2 false []], [ti 3, ti 63, ti 1, ti 1, ti 0, ti 0, ts [120], .list 2 false []], [ti 1, ti 52, ti 1, ti 1, ti 1, ti 0, ts [104, 101, 121], .list 2 false []]], ti 9, ti 90, .list 6 false [[ti 4, ti 3, tb false, tb true, ti 1, ti 0]], .list 1 false [[.list 1 false [[ti 0], [ti (-1)], [ti (-1)], [ti (-1)], [ti (-1)], [ti (-1)], [ti (-1)], [ti (-1)]]], [f8], [f8], [f8], [f8], [f8], [f8], [f8]], .list 4 false [[ti 1, ti 2, ti 0, tb true]]]
def ca61_4 : List PV := [cs4, ti 0, .agg [ti 4, ti 0, ti 0, ti 0, ti 0, ti 0, ts [], ts [], ts [104, 101, 121]]]
def cr61_4 : PV := .tup [cs5, .agg [ti 0, ti 3, ts [], .list 1 false [], ti 0, ti 0, ti 0, ti 0, ti 0, ti 0]]
set_option maxRecDepth 1000000 in
theorem ct61_4 : isoD Tryz.prog G0 (C1 40) pf1 false 1000000000 (fun _ => none) 61 ca61_4 = some cr61_4 := by kernel_rfl
def ca61_5 : List PV := [cs5, ti 0, .agg [ti 12, ti (-1), ti 0, ti 0, ti 0, ti 0, ts [98], ts [], ts []]]
def cr61_5 : PV := .tup [cs5, .agg [ti 0, ti 0, ts [], .list 1 false [], ti 2, ti 2, ti 61, ti 1, ti 1, ti 0]]
set_option maxRecDepth 1000000 in
theorem ct61_5 : isoD Tryz.prog G0 (C1 40) pf1 false 1000000000 (fun _ => none) 61 ca61_5 = some cr61_5 := by kernel_rfl
def ca61_6 : List PV := [cs5, ti 0, .agg [ti 12, ti (-1), ti 0, ti 0, ti 0, ti 64, ts [97], ts [], ts []]]
def cr61_6 : PV := .tup [cs5, .agg [ti 0, ti 0, ts [], .list 1 false [], ti 1, ti 2, ti 61, ti 1, ti 1, ti 0]]
set_option maxRecDepth 1000000 in
theorem ct61_6 : isoD Tryz.prog G0 (C1 40) pf1 false 1000000000 (fun _ => none) 61 ca61_6 = some cr61_6 := by kernel_rfl
def cs6 : PV := .agg [.list 8 false [[ti 2, ti 63, ti 0, ti 1, ti 1, ti 0, ts [], .list 2 false [[ts [97], ti 1], [ts [98], ti 2]]], [ti 2, ti 61, ti 1, ti 1, ti 0, ti 0, ts [], .list 2 false [[ts [102], ti 4], [ts [108], ti 3]]], [ti 2, ti 61, ti 1, ti 1, ti 0, ti 0, ts [], .list 2 false [[ts [97], ti 5]]], [ti 3, ti 63, ti 1, ti 1, ti 0, ti 0, ts [120], .list 2 false []], [ti 1, ti 52, ti 1, ti 1, ti 1, ti 0, ts [104, 101, 121], .list 2 false []], [ti 2, ti 61, ti 1, ti 1, ti 0, ti 2, ts [], .list 2 false []]], ti 9, ti 90, .list 6 false [[ti 4, ti 3, tb false, tb true, ti 1, ti 0]], .list 1 false [[.list 1 false [[ti 0], [ti (-1)], [ti (-1)], [ti (-1)], [ti (-1)], [ti (-1)], [ti (-1)], [ti (-1)]]], [f8], [f8], [f8], [f8], [f8], [f8], [f8]], .list 4 false [[ti 1, ti 2, ti 0, tb true]]]
def ca61_7 : List PV := [cs5, ti 0, .agg [ti 5, ti (-1), ti 0, ti 0, ti 63, ti 0, ts [98, 47, 97], ts [], ts []]]
def cr61_7 : PV := .tup [cs6, .agg [ti 0, ti 0, ts [], .list 1 false [], ti 0, ti 0, ti 0, ti 0, ti 0, ti 0]]
set_option maxRecDepth 1000000 in
theorem ct61_7 : isoD Tryz.prog G0 (C1 40) pf1 false 1000000000 (fun _ => none) 61 ca61_7 = some cr61_7 := by kernel_rfl
def cs7 : PV := .agg [.list 8 false [[ti 2, ti 63, ti 0, ti 1, ti 1, ti 0, ts [], .list 2 false [[ts [97], ti 1], [ts [98], ti 2]]], [ti 2, ti 61, ti 1, ti 1, ti 1, ti 0, ts [], .list 2 false [[ts [102], ti 4], [ts [108], ti 3]]], [ti 2, ti 61, ti 1, ti 1, ti 0, ti 0, ts [], .list 2 false [[ts [97], ti 5]]], [ti 3, ti 63, ti 1, ti 1, ti 0, ti 0, ts [120], .list 2 false []], [ti 1, ti 52, ti 1, ti 1, ti 1, ti 0, ts [104, 101, 121], .list 2 false []], [ti 2, ti 61, ti 1, ti 1, ti 0, ti 2, ts [], .list 2 false []]], ti 9, ti 90, .list 6 false [[ti 4, ti 3, tb false, tb true, ti 1, ti 0], [ti 1, ti 0, tb true, tb false, ti 1, ti 0]], .list 1 false [[.list 1 false [[ti 0], [ti 1], [ti (-1)], [ti (-1)], [ti (-1)], [ti (-1)], [ti (-1)], [ti (-1)]]], [f8], [f8], [f8], [f8], [f8], [f8], [f8]], .list 4 false [[ti 1, ti 2, ti 0, tb true]]]
def ca61_8 : List PV := [cs6, ti 0, .agg [ti 1, ti (-1), ti 0, ti 0, ti 0, ti 97, ts [97], ts [], ts []]]
def cr61_8 : PV := .tup [cs7, .agg [ti 0, ti 1, ts [], .list 1 false [], ti 0, ti 0, ti 0, ti 0, ti 0, ti 0]]
set_option maxRecDepth 1000000 in
theorem ct61_8 : isoD Tryz.prog G0 (C1 40) pf1 false 1000000000 (fun _ => none) 61 ca61_8 = some cr61_8 := by kernel_rfl
def ca61_9 : List PV := [cs7, ti 0, .agg [ti 13, ti 1, ti 0, ti 0, ti 0, ti 0, ts [], ts [], ts []]]
def cr61_9 : PV := .tup [cs7, .agg [ti 0, ti 0, ts [], .list 1 false [[ts [102]], [ts [108]]], ti 0, ti 0, ti 0, ti 0, ti 0, ti 0]]
set_option maxRecDepth 1000000 in
theorem ct61_9 : isoD Tryz.prog G0 (C1 40) pf1 false 1000000000 (fun _ => none) 61 ca61_9 = some cr61_9 := by kernel_rfl
def cs8 : PV := .agg [.list 8 false [[ti 2, ti 63, ti 0, ti 1, ti 1, ti 0, ts [], .list 2 false [[ts [97], ti 1], [ts [98], ti 2]]], [ti 2, ti 61, ti 1, ti 1, ti 0, ti 0, ts [], .list 2 false [[ts [102], ti 4], [ts [108], ti 3]]], [ti 2, ti 61, ti 1, ti 1, ti 0, ti 0, ts [], .list 2 false [[ts [97], ti 5]]], [ti 3, ti 63, ti 1, ti 1, ti 0, ti 0, ts [120], .list 2 false []], [ti 1, ti 52, ti 1, ti 1, ti 1, ti 0, ts [104, 101, 121], .list 2 false []], [ti 2, ti 61, ti 1, ti 1, ti 0, ti 2, ts [], .list 2 false []]], ti 9, ti 90, .list 6 false [[ti 4, ti 3, tb false, tb true, ti 1, ti 0], [ti 0, ti 0, tb false, tb false, ti 0, ti 0]], .list 1 false [[.list 1 false [[ti 0], [ti (-1)], [ti (-1)], [ti (-1)], [ti (-1)], [ti (-1)], [ti (-1)], [ti (-1)]]], [f8], [f8], [f8], [f8], [f8], [f8], [f8]], .list 4 false [[ti 1, ti 2, ti 0, tb true]]]
def ca61_10 : List PV := [cs7, ti 0, .agg [ti 2, ti 1, ti 0, ti 0, ti 0, ti 0, ts [], ts [], ts []]]
def cr61_10 : PV := .tup [cs8, .agg [ti 0, ti 0, ts [], .list 1 false [], ti 0, ti 0, ti 0, ti 0, ti 0, ti 0]]
set_option maxRecDepth 1000000 in
theorem ct61_10 : isoD Tryz.prog G0 (C1 40) pf1 false 1000000000 (fun _ => none) 61 ca61_10 = some cr61_10 := by kernel_rfl
def ca61_11 : List PV := [cs8, ti 0, .agg [ti 12, ti (-1), ti 0, ti 0, ti 0, ti 64, ts [97, 47, 102], ts [], ts []]]
def cr61_11 : PV := .tup [cs8, .agg [ti 0, ti 0, ts [], .list 1 false [], ti 4, ti 1, ti 52, ti 1, ti 1, ti 3]]
set_option maxRecDepth 1000000 in
theorem ct61_11 : isoD Tryz.prog G0 (C1 40) pf1 false 1000000000 (fun _ => none) 61 ca61_11 = some cr61_11 := by kernel_rfl
def cs9 : PV := .agg [.list 8 false [[ti 2, ti 63, ti 0, ti 1, ti 1, ti 0, ts [], .list 2 false [[ts [97], ti 1], [ts [98], ti 2]]], [ti 2, ti 61, ti 1, ti 1, ti 0, ti 0, ts [], .list 2 false [[ts [102], ti 4], [ts [108], ti 3]]], [ti 2, ti 61, ti 1, ti 1, ti 0, ti 0, ts [], .list 2 false [[ts [97], ti 5]]], [ti 3, ti 63, ti 1, ti 1, ti 0, ti 0, ts [120], .list 2 false []], [ti 1, ti 52, ti 1, ti 1, ti 2, ti 0, ts [104, 101, 121], .list 2 false []], [ti 2, ti 61, ti 1, ti 1, ti 0, ti 2, ts [], .list 2 false []]], ti 9, ti 90, .list 6 false [[ti 4, ti 3, tb false, tb true, ti 1, ti 0], [ti 4, ti 0, tb true, tb false, ti 1, ti 0]], .list 1 false [[.list 1 false [[ti 0], [ti 1], [ti (-1)], [ti (-1)], [ti (-1)], [ti (-1)], [ti (-1)], [ti (-1)]]], [f8], [f8], [f8], [f8], [f8], [f8], [f8]], .list 4 false [[ti 1, ti 2, ti 0, tb true]]]
def ca61_12 : List PV := [cs8, ti 0, .agg [ti 1, ti (-1), ti 0, ti 0, ti 0, ti 65, ts [97, 47, 102], ts [], ts []]]
def cr61_12 : PV := .tup [cs9, .agg [ti 0, ti 1, ts [], .list 1 false [], ti 0, ti 0, ti 0, ti 0, ti 0, ti 0]]
set_option maxRecDepth 1000000 in
theorem ct61_12 : isoD Tryz.prog G0 (C1 40) pf1 false 1000000000 (fun _ => none) 61 ca61_12 = some cr61_12 := by kernel_rfl
def cs10 : PV := .agg [.list 8 false [[ti 2, ti 63, ti 0, ti 1, ti 1, ti 0, ts [], .list 2 false [[ts [97], ti 1], [ts [98], ti 2]]], [ti 2, ti 61, ti 1, ti 1, ti 0, ti 0, ts [], .list 2 false [[ts [102], ti 4], [ts [108], ti 3]]], [ti 2, ti 61, ti 1, ti 1, ti 0, ti 0, ts [], .list 2 false [[ts [97], ti 5]]], [ti 3, ti 63, ti 1, ti 1, ti 0, ti 0, ts [120], .list 2 false []], [ti 1, ti 52, ti 1, ti 1, ti 2, ti 0, ts [104, 101, 121], .list 2 false []], [ti 2, ti 61, ti 1, ti 1, ti 0, ti 2, ts [], .list 2 false []]], ti 9, ti 90, .list 6 false [[ti 4, ti 3, tb false, tb true, ti 1, ti 0], [ti 4, ti 3, tb true, tb false, ti 1, ti 0]], .list 1 false [[.list 1 false [[ti 0], [ti 1], [ti (-1)], [ti (-1)], [ti (-1)], [ti (-1)], [ti (-1)], [ti (-1)]]], [f8], [f8], [f8], [f8], [f8], [f8], [f8]], .list 4 false [[ti 1, ti 2, ti 0, tb true]]]
def ca61_13 : List PV := [cs9, ti 0, .agg [ti 3, ti 1, ti 0, ti 1000, ti 0, ti 0, ts [], ts [], ts []]]
def cr61_13 : PV := .tup [cs10, .agg [ti 0, ti 0, ts [104, 101, 121], .list 1 false [], ti 0, ti 0, ti 0, ti 0, ti 0, ti 0]]
set_option maxRecDepth 1000000 in
theorem ct61_13 : isoD Tryz.prog G0 (C1 40) pf1 false 1000000000 (fun _ => none) 61 ca61_13 = some cr61_13 := by kernel_rfl
def ca61_14 : List PV := [cs10, ti 0, .agg [ti 2, ti 1, ti 0, ti 0, ti 0, ti 0, ts [], ts [], ts []]]
def cr61_14 : PV := .tup [cs8, .agg [ti 0, ti 0, ts [], .list 1 false [], ti 0, ti 0, ti 0, ti 0, ti 0, ti 0]]
set_option maxRecDepth 1000000 in
theorem ct61_14 : isoD Tryz.prog G0 (C1 40) pf1 false 1000000000 (fun _ => none) 61 ca61_14 = some cr61_14 := by kernel_rfl
def cs11 : PV := .agg [.list 8 false [[ti 2, ti 63, ti 0, ti 1, ti 1, ti 0, ts [], .list 2 false [[ts [97], ti 1], [ts [98], ti 2]]], [ti 2, ti 61, ti 1, ti 1, ti 0, ti 0, ts [], .list 2 false [[ts [102], ti 4], [ts [108], ti 3]]], [ti 2, ti 61, ti 1, ti 1, ti 0, ti 0, ts [], .list 2 false [[ts [97], ti 5]]], [ti 3, ti 63, ti 1, ti 1, ti 0, ti 0, ts [120], .list 2 false []], [ti 1, ti 52, ti 1, ti 1, ti 1, ti 0, ts [104, 101, 121], .list 2 false []], [ti 2, ti 61, ti 1, ti 1, ti 0, ti 2, ts [], .list 2 false [[ts [102], ti 6]]], [ti 1, ti 61, ti 1, ti 1, ti 1, ti 0, ts [], .list 2 false []]], ti 9, ti 90, .list 6 false [[ti 4, ti 3, tb false, tb true, ti 1, ti 0], [ti 6, ti 0, tb false, tb true, ti 1, ti 0]], .list 1 false [[.list 1 false [[ti 0], [ti 1], [ti (-1)], [ti (-1)], [ti (-1)], [ti (-1)], [ti (-1)], [ti (-1)]]], [f8], [f8], [f8], [f8], [f8], [f8], [f8]], .list 4 false [[ti 1, ti 2, ti 0, tb true]]]
def ca61_15 : List PV := [cs8, ti 0, .agg [ti 1, ti (-1), ti 0, ti 0, ti 63, ti 14, ts [98, 47, 97, 47, 102], ts [], ts []]]
def cr61_15 : PV := .tup [cs11, .agg [ti 0, ti 1, ts [], .list 1 false [], ti 0, ti 0, ti 0, ti 0, ti 0, ti 0]]
set_option maxRecDepth 1000000 in
theorem ct61_15 : isoD Tryz.prog G0 (C1 40) pf1 false 1000000000 (fun _ => none) 61 ca61_15 = some cr61_15 := by kernel_rfl
def cs12 : PV := .agg [.list 8 false [[ti 2, ti 63, ti 0, ti 1, ti 1, ti 0, ts [], .list 2 false [[ts [97], ti 1], [ts [98], ti 2]]], [ti 2, ti 61, ti 1, ti 1, ti 0, ti 0, ts [], .list 2 false [[ts [102], ti 4], [ts [108], ti 3]]], [ti 2, ti 61, ti 1, ti 1, ti 0, ti 0, ts [], .list 2 false [[ts [97], ti 5]]], [ti 3, ti 63, ti 1, ti 1, ti 0, ti 0, ts [120], .list 2 false []], [ti 1, ti 52, ti 1, ti 1, ti 1, ti 0, ts [104, 101, 121], .list 2 false []], [ti 2, ti 61, ti 1, ti 1, ti 0, ti 2, ts [], .list 2 false [[ts [102], ti 6]]], [ti 1, ti 61, ti 1, ti 1, ti 1, ti 0, ts [104, 101, 121], .list 2 false []]], ti 9, ti 90, .list 6 false [[ti 4, ti 3, tb false, tb true, ti 1, ti 0], [ti 6, ti 3, tb false, tb true, ti 1, ti 0]], .list 1 false [[.list 1 false [[ti 0], [ti 1], [ti (-1)], [ti (-1)], [ti (-1)], [ti (-1)], [ti (-1)], [ti (-1)]]], [f8], [f8], [f8], [f8], [f8], [f8], [f8]], .list 4 false [[ti 1, ti 2, ti 0, tb true]]]
def ca61_16 : List PV := [cs11, ti 0, .agg [ti 4, ti 1, ti 0, ti 0, ti 0, ti 0, ts [], ts [], ts [104, 101, 121]]]
def cr61_16 : PV := .tup [cs12, .agg [ti 0, ti 3, ts [], .list 1 false [], ti 0, ti 0, ti 0, ti 0, ti 0, ti 0]]
set_option maxRecDepth 1000000 in
theorem ct61_16 : isoD Tryz.prog G0 (C1 40) pf1 false 1000000000 (fun _ => none) 61 ca61_16 = some cr61_16 := by kernel_rfl
def cs13 : PV := .agg [.list 8 false [[ti 2, ti 63, ti 0, ti 1, ti 1, ti 0, ts [], .list 2 false [[ts [97], ti 1], [ts [98], ti 2]]], [ti 2, ti 61, ti 1, ti 1, ti 0, ti 0, ts [], .list 2 false [[ts [102], ti 4], [ts [108], ti 3]]], [ti 2, ti 61, ti 1, ti 1, ti 0, ti 0, ts [], .list 2 false [[ts [97], ti 5]]], [ti 3, ti 63, ti 1, ti 1, ti 0, ti 0, ts [120], .list 2 false []], [ti 1, ti 52, ti 1, ti 1, ti 1, ti 0, ts [104, 101, 121], .list 2 false []], [ti 2, ti 61, ti 1, ti 1, ti 0, ti 2, ts [], .list 2 false [[ts [102], ti 6]]], [ti 1, ti 61, ti 1, ti 1, ti 0, ti 0, ts [104, 101, 121], .list 2 false []]], ti 9, ti 90, .list 6 false [[ti 4, ti 3, tb false, tb true, ti 1, ti 0], [ti 0, ti 0, tb false, tb false, ti 0, ti 0]], .list 1 false [[.list 1 false [[ti 0], [ti (-1)], [ti (-1)], [ti (-1)], [ti (-1)], [ti (-1)], [ti (-1)], [ti (-1)]]], [f8], [f8], [f8], [f8], [f8], [f8], [f8]], .list 4 false [[ti 1, ti 2, ti 0, tb true]]]
def ca61_17 : List PV := [cs12, ti 0, .agg [ti 2, ti 1, ti 0, ti 0, ti 0, ti 0, ts [], ts [], ts []]]
def cr61_17 : PV := .tup [cs13, .agg [ti 0, ti 0, ts [], .list 1 false [], ti 0, ti 0, ti 0, ti 0, ti 0, ti 0]]
set_option maxRecDepth 1000000 in
theorem ct61_17 : isoD Tryz.prog G0 (C1 40) pf1 false 1000000000 (fun _ => none) 61 ca61_17 = some cr61_17 := by kernel_rfl
def cs14 : PV := .agg [.list 8 false [[ti 2, ti 63, ti 0, ti 1, ti 1, ti 0, ts [], .list 2 false [[ts [97], ti 1], [ts [98], ti 2]]], [ti 2, ti 61, ti 1, ti 1, ti 0, ti 0, ts [], .list 2 false [[ts [102], ti 4], [ts [108], ti 3]]], [ti 2, ti 61, ti 1, ti 1, ti 0, ti 0, ts [], .list 2 false [[ts [97], ti 5]]], [ti 3, ti 63, ti 1, ti 1, ti 0, ti 0, ts [120], .list 2 false []], [ti 1, ti 52, ti 1, ti 1, ti 1, ti 0, ts [104, 101, 121], .list 2 false []], [ti 2, ti 61, ti 1, ti 1, ti 0, ti 2, ts [], .list 2 false [[ts [102], ti 6]]], [ti 1, ti 52, ti 1, ti 1, ti 0, ti 0, ts [104, 101, 121], .list 2 false []]], ti 9, ti 90, .list 6 false [[ti 4, ti 3, tb false, tb true, ti 1, ti 0], [ti 0, ti 0, tb false, tb false, ti 0, ti 0]], .list 1 false [[.list 1 false [[ti 0], [ti (-1)], [ti (-1)], [ti (-1)], [ti (-1)], [ti (-1)], [ti (-1)], [ti (-1)]]], [f8], [f8], [f8], [f8], [f8], [f8], [f8]], .list 4 false [[ti 1, ti 2, ti 0, tb true]]]
def ca61_18 : List PV := [cs13, ti 0, .agg [ti 16, ti (-1), ti 0, ti 0, ti 52, ti 0, ts [98, 47, 97, 47, 102], ts [], ts []]]
def cr61_18 : PV := .tup [cs14, .agg [ti 0, ti 0, ts [], .list 1 false [], ti 0, ti 0, ti 0, ti 0, ti 0, ti 0]]
set_option maxRecDepth 1000000 in
theorem ct61_18 : isoD Tryz.prog G0 (C1 40) pf1 false 1000000000 (fun _ => none) 61 ca61_18 = some cr61_18 := by kernel_rfl
def ca61_19 : List PV := [cs14, ti 0, .agg [ti 12, ti (-1), ti 0, ti 0, ti 0, ti 64, ts [97, 47, 108], ts [], ts []]]
def cr61_19 : PV := .tup [cs14, .agg [ti 0, ti 0, ts [], .list 1 false [], ti 3, ti 3, ti 63, ti 1, ti 1, ti 1]]
set_option maxRecDepth 1000000 in
theorem ct61_19 : isoD Tryz.prog G0 (C1 40) pf1 false 1000000000 (fun _ => none) 61 ca61_19 = some cr61_19 := by kernel_rfl
def ca61_20 : List PV := [cs14, ti 0, .agg [ti 11, ti (-1), ti 0, ti 0, ti 0, ti 0, ts [97, 47, 108], ts [], ts []]]
def cr61_20 : PV := .tup [cs14, .agg [ti 0, ti 0, ts [120], .list 1 false [], ti 0, ti 0, ti 0, ti 0, ti 0, ti 0]]
set_option maxRecDepth 1000000 in
theorem ct61_20 : isoD Tryz.prog G0 (C1 40) pf1 false 1000000000 (fun _ => none) 61 ca61_20 = some cr61_20 := by kernel_rfl
def cs15 : PV := .agg [.list 8 false [[ti 2, ti 63, ti 0, ti 1, ti 1, ti 0, ts [], .list 2 false [[ts [97], ti 1], [ts [98], ti 2]]], [ti 2, ti 61, ti 1, ti 1, ti 0, ti 0, ts [], .list 2 false [[ts [102], ti 4], [ts [108], ti 3]]], [ti 2, ti 61, ti 1, ti 1, ti 0, ti 0, ts [], .list 2 false [[ts [97], ti 5]]], [ti 3, ti 63, ti 1, ti 1, ti 0, ti 0, ts [120], .list 2 false []], [ti 1, ti 52, ti 1, ti 1, ti 1, ti 0, ts [104, 101, 121], .list 2 false []], [ti 2, ti 61, ti 1, ti 1, ti 0, ti 2, ts [], .list 2 false [[ts [102], ti 6], [ts [108], ti 7]]], [ti 1, ti 52, ti 1, ti 1, ti 0, ti 0, ts [104, 101, 121], .list 2 false []], [ti 3, ti 63, ti 1, ti 1, ti 0, ti 0, ts [120], .list 2 false []]], ti 9, ti 90, .list 6 false [[ti 4, ti 3, tb false, tb true, ti 1, ti 0], [ti 0, ti 0, tb false, tb false, ti 0, ti 0]], .list 1 false [[.list 1 false [[ti 0], [ti (-1)], [ti (-1)], [ti (-1)], [ti (-1)], [ti (-1)], [ti (-1)], [ti (-1)]]], [f8], [f8], [f8], [f8], [f8], [f8], [f8]], .list 4 false [[ti 1, ti 2, ti 0, tb true]]]
def ca61_21 : List PV := [cs14, ti 0, .agg [ti 10, ti (-1), ti 0, ti 0, ti 0, ti 0, ts [98, 47, 97, 47, 108], ts [], ts [120]]]
def cr61_21 : PV := .tup [cs15, .agg [ti 0, ti 0, ts [], .list 1 false [], ti 0, ti 0, ti 0, ti 0, ti 0, ti 0]]
set_option maxRecDepth 1000000 in
theorem ct61_21 : isoD Tryz.prog G0 (C1 40) pf1 false 1000000000 (fun _ => none) 61 ca61_21 = some cr61_21 := by kernel_rfl
def ca61_22 : List PV := [cs15, ti 0, .agg [ti 16, ti (-1), ti 0, ti 0, ti 61, ti 0, ts [98, 47, 97], ts [], ts []]]
def cr61_22 : PV := .tup [cs15, .agg [ti 0, ti 0, ts [], .list 1 false [], ti 0, ti 0, ti 0, ti 0, ti 0, ti 0]]
set_option maxRecDepth 1000000 in
theorem ct61_22 : isoD Tryz.prog G0 (C1 40) pf1 false 1000000000 (fun _ => none) 61 ca61_22 = some cr61_22 := by kernel_rfl
def ca61_23 : List PV := [cs5, ti 0, .agg [ti 12, ti (-1), ti 0, ti 0, ti 0, ti 0, ts [99], ts [], ts []]]
def cr61_23 : PV := .tup [cs5, .agg [ti 2, ti 0, ts [], .list 1 false [], ti 0, ti 0, ti 0, ti 0, ti 0, ti 0]]
set_option maxRecDepth 1000000 in
theorem ct61_23 : isoD Tryz.prog G0 (C1 40) pf1 false 1000000000 (fun _ => none) 61 ca61_23 = some cr61_23 := by kernel_rfl
def tab61 : List (List PV × PV) := [(ca61_0, cr61_0), (ca61_1, cr61_1), (ca61_2, cr61_2), (ca61_3, cr61_3), (ca61_4, cr61_4), (ca61_5, cr61_5), (ca61_6, cr61_6), (ca61_7, cr61_7), (ca61_8, cr61_8), (ca61_9, cr61_9), (ca61_10, cr61_10), (ca61_11, cr61_11), (ca61_12, cr61_12), (ca61_13, cr61_13), (ca61_14, cr61_14), (ca61_15, cr61_15), (ca61_16, cr61_16), (ca61_17, cr61_17), (ca61_18, cr61_18), (ca61_19, cr61_19), (ca61_20, cr61_20), (ca61_21, cr61_21), (ca61_22, cr61_22), (ca61_23, cr61_23)]
theorem tab61_ok : PlainOk Tryz.prog G0 61 (tabA tab61) := tabA_ok (iso1_ok 40 61) (by
 intro e he
 simp only [tab61, List.mem_cons, List.not_mem_nil, or_false] at he
 rcases he with rfl | rfl | rfl | rfl | rfl | rfl | rfl | rfl | rfl | rfl | rfl | rfl | rfl | rfl | rfl | rfl | rfl | rfl | rfl | rfl | rfl | rfl | rfl | rfl
 ·exact ct61_0
 ·exact ct61_1
 ·exact ct61_2
 ·exact ct61_3
 ·exact ct61_4
 ·exact ct61_5
 ·exact ct61_6
 ·exact ct61_7
 ·exact ct61_8
 ·exact ct61_9
 ·exact ct61_10
 ·exact ct61_11
 ·exact ct61_12
 ·exact ct61_13
 ·exact ct61_14
 ·exact ct61_15
 ·exact ct61_16
 ·exact ct61_17
 ·exact ct61_18
 ·exact ct61_19
 ·exact ct61_20
 ·exact ct61_21
 ·exact ct61_22
 ·exact ct61_23)
noncomputable def X3 (f : FuncId) : Option Ans := if f = 61 then some (tabA tab61) else X1 f
theorem X3_ok (f : FuncId) (g : Ans) (h : X3 f = some g) : PlainOk Tryz.prog G0 f g := by
 unfold X3 at h
 split at h
 ·rename_i e; subst e; cases h; exact tab61_ok
 exact X1_ok f g h
noncomputable def pf3 : FuncId → Bool := fun f => (X3 f).isSome || (K1 f).isSome
noncomputable def C3 (k : Nat) : CallD := callD Tryz.prog G0 X3 Y1 K1 1000000000 noKT k
theorem iso3_ok (k : Nat) (f : FuncId) : PlainOk Tryz.prog G0 f (isoD Tryz.prog G0 (C3 k) pf3 false 1000000000 (fun _ => none) f) := by
 have hm : Tryz.prog.follows .mixedOrders = true := Checked.mixed Tryz.checked
 obtain ⟨h1, h2⟩ := callD_ok (P := Tryz.prog) (G := G0) (X := X3) (Y := Y1) (K := K1) (lf := 1000000000) (KT := noKT) hm X3_ok Y1_ok k
 exact isoD_ok hm h1 h2
set_option maxRecDepth 1000000 in
theorem shown_run : (match isoD Tryz.prog G0 (C3 40) pf3 false 1000000000 (fun _ => none) 6 [] with | some (.v (.bool b)) => b | _ => false) = true := by kernel_rfl
def xShown : Ans := fun l => match l with
 | [] => some (.v (.bool true))
 | _ => none
theorem xShown_ok : PlainOk Tryz.prog G0 6 xShown := by
 intro cargs r h
 unfold xShown at h
 split at h
 case h_2 => cases h
 cases h
 have hs := shown_run
 split at hs
 ·rename_i b hb
  subst hs
  exact iso3_ok _ _ _ _ hb
 ·cases hs
end Go.Proofs.YtdbekeidlppfiaaGreatDoor.Den
