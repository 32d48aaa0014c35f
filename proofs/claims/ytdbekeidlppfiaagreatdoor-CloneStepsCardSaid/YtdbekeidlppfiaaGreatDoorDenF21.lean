/- Texts joined by a program of mine (pack.py): DenF16 DenF17 DenF18 DenF19 DenF20 DenF21. -/
import Derived.Test.YtdbekeidlppfiaaGreatDoorDenF15
set_option linter.unusedVariables false
set_option linter.unusedSimpArgs false
namespace Go.Proofs.YtdbekeidlppfiaaGreatDoor.Den
open Go Go.RowKit
noncomputable def cloneTell_L32 : Code := cAt (codeOf Tryz.f12) [true, true, true, true, false, true, false, false, false, true, false, true, false, true, false, false]
def cloneTell_R32_0 (x0 : ByteArray) (x1 : ByteArray) (x2 : List (List PV)) (x3 : Int) (x4 : Int) (x5 : Int) (x6 : Int) (x7 : Int) (x8 : Int) (x9 : Int) (x10 : Int) (x11 : Int) (x12 : Int) (x13 : Int) (x14 : ByteArray) (x15 : ByteArray) (x16 : ByteArray) (x17 : List (List PV)) (x18 : List (List PV)) (x19 : List (List PV)) (x20 : Bool) (x21 : Int) (x22 : ByteArray) (x23 : Int) (x24 : ByteArray) (x25 : ByteArray) : St := ⟨envL [(2, (.ptr [0, TAG] 1 0 0)), (4, (.ptr [1, TAG] 1 0 0)), (5, (pS x0)), (6, (pS x1)), (8, (.row [2, TAG] 1 0 3)), (9, (.v (.slice none 0 0))), (112, (.list 1 false x2)), (113, (pI x3)), (114, (pI x4))], hsL [some ⟨19, 29, [[(pI x5), (pI x6), (pI x7), (pI x8), (pI x9), (pI x10), (pI x11), (pI x12), (pI x13), (pS x14), (pS x15), (pS x16), (.list 1 false x17), (.list 3 false x18), (.list 1 false x19), (pB x20), (pI x21), (pS x22), (pI x23)]], true, false⟩, some ⟨19, 29, [[(pI (0 : Int)), (pI (0 : Int)), (pI (0 : Int)), (pI (0 : Int)), (pI (0 : Int)), (pI (0 : Int)), (pI (0 : Int)), (pI (0 : Int)), (pI (0 : Int)), (pS (bs [])), (pS (bs [])), (pS (bs [])), (.v (.slice none 0 0)), (.v (.slice none 0 0)), (.v (.slice none 0 0)), (pB false), (pI (0 : Int)), (pS (bs [])), (pI (0 : Int))]], true, false⟩, some ⟨1, 9, [[(pS (bs [109, 111, 100, 101]))], [(pS x24)], [(pS x25)]], true, true⟩] [0, 0, 0]⟩
def cloneTell_R32_1 (x0 : ByteArray) (x1 : ByteArray) (x2 : Nat) (x3 : List (List PV)) (x4 : Int) (x5 : Int) (x6 : Int) (x7 : Int) (x8 : Int) (x9 : Int) (x10 : Int) (x11 : Int) (x12 : Int) (x13 : Int) (x14 : Int) (x15 : ByteArray) (x16 : ByteArray) (x17 : ByteArray) (x18 : List (List PV)) (x19 : List (List PV)) (x20 : List (List PV)) (x21 : Bool) (x22 : Int) (x23 : ByteArray) (x24 : Int) (x25 : ByteArray) (x26 : ByteArray) (x27 : List (List PV)) : St := ⟨envL [(2, (.ptr [0, TAG] 1 0 0)), (4, (.ptr [1, TAG] 1 0 0)), (5, (pS x0)), (6, (pS x1)), (8, (.row [2, TAG] 1 0 3)), (9, (.row [3, TAG] 1 0 x2)), (112, (.list 1 false x3)), (113, (pI x4)), (114, (pI x5))], hsL [some ⟨19, 29, [[(pI x6), (pI x7), (pI x8), (pI x9), (pI x10), (pI x11), (pI x12), (pI x13), (pI x14), (pS x15), (pS x16), (pS x17), (.list 1 false x18), (.list 3 false x19), (.list 1 false x20), (pB x21), (pI x22), (pS x23), (pI x24)]], true, false⟩, some ⟨19, 29, [[(pI (0 : Int)), (pI (0 : Int)), (pI (0 : Int)), (pI (0 : Int)), (pI (0 : Int)), (pI (0 : Int)), (pI (0 : Int)), (pI (0 : Int)), (pI (0 : Int)), (pS (bs [])), (pS (bs [])), (pS (bs [])), (.v (.slice none 0 0)), (.v (.slice none 0 0)), (.v (.slice none 0 0)), (pB false), (pI (0 : Int)), (pS (bs [])), (pI (0 : Int))]], true, false⟩, some ⟨1, 9, [[(pS (bs [109, 111, 100, 101]))], [(pS x25)], [(pS x26)]], true, true⟩, some ⟨1, 9, x27, true, true⟩] [0, 0, 0, 0]⟩
theorem cloneTell_R32_1_eq {x0 y0 : ByteArray} {x1 y1 : ByteArray} {x2 y2 : Nat} {x3 y3 : List (List PV)} {x4 y4 : Int} {x5 y5 : Int} {x6 y6 : Int} {x7 y7 : Int} {x8 y8 : Int} {x9 y9 : Int} {x10 y10 : Int} {x11 y11 : Int} {x12 y12 : Int} {x13 y13 : Int} {x14 y14 : Int} {x15 y15 : ByteArray} {x16 y16 : ByteArray} {x17 y17 : ByteArray} {x18 y18 : List (List PV)} {x19 y19 : List (List PV)} {x20 y20 : List (List PV)} {x21 y21 : Bool} {x22 y22 : Int} {x23 y23 : ByteArray} {x24 y24 : Int} {x25 y25 : ByteArray} {x26 y26 : ByteArray} {x27 y27 : List (List PV)} (h0 : x0 = y0) (h1 : x1 = y1) (h2 : x2 = y2) (h3 : x3 = y3) (h4 : x4 = y4) (h5 : x5 = y5) (h6 : x6 = y6) (h7 : x7 = y7) (h8 : x8 = y8) (h9 : x9 = y9) (h10 : x10 = y10) (h11 : x11 = y11) (h12 : x12 = y12) (h13 : x13 = y13) (h14 : x14 = y14) (h15 : x15 = y15) (h16 : x16 = y16) (h17 : x17 = y17) (h18 : x18 = y18) (h19 : x19 = y19) (h20 : x20 = y20) (h21 : x21 = y21) (h22 : x22 = y22) (h23 : x23 = y23) (h24 : x24 = y24) (h25 : x25 = y25) (h26 : x26 = y26) (h27 : x27 = y27) : cloneTell_R32_1 x0 x1 x2 x3 x4 x5 x6 x7 x8 x9 x10 x11 x12 x13 x14 x15 x16 x17 x18 x19 x20 x21 x22 x23 x24 x25 x26 x27 = cloneTell_R32_1 y0 y1 y2 y3 y4 y5 y6 y7 y8 y9 y10 y11 y12 y13 y14 y15 y16 y17 y18 y19 y20 y21 y22 y23 y24 y25 y26 y27 := by
  subst h0 h1 h2 h3 h4 h5 h6 h7 h8 h9 h10 h11 h12 h13 h14 h15 h16 h17 h18 h19 h20 h21 h22 h23 h24 h25 h26 h27; rfl
def cloneTell_S32 (p0 : ByteArray) (p1 : ByteArray) (p2 : (List ByteArray)) (p3 : Int) (p4 : Int) (p5 : Int) (p6 : Int) (p7 : Int) (p8 : Int) (p9 : Int) (p10 : Int) (p11 : Int) (p12 : Int) (p13 : ByteArray) (p14 : ByteArray) (p15 : ByteArray) (p16 : (List ByteArray)) (p17 : (List FrameD)) (p18 : (List Int)) (p19 : Bool) (p20 : Int) (p21 : ByteArray) (p22 : Int) (p23 : ByteArray) (p24 : ByteArray) : (Int × (List ByteArray)) → St
 | (v0, []) => cloneTell_R32_0 p0 p1 (p2.map cS) p3 v0 p4 p5 p6 p7 p8 p9 p10 p11 p12 p13 p14 p15 (p16.map cS) (p17.map FrameD.c) (p18.map cI) p19 p20 p21 p22 p23 p24
 | (v0, z_1 :: z_2) => cloneTell_R32_1 p0 p1 (z_1 :: z_2).length (p2.map cS) p3 v0 p4 p5 p6 p7 p8 p9 p10 p11 p12 p13 p14 p15 (p16.map cS) (p17.map FrameD.c) (p18.map cI) p19 p20 p21 p22 p23 p24 ((z_1 :: z_2).map cS)
def cloneTell_b32 (p0 : ByteArray) (p1 : ByteArray) (p2 : (List ByteArray)) (p3 : Int) (p4 : Int) (p5 : Int) (p6 : Int) (p7 : Int) (p8 : Int) (p9 : Int) (p10 : Int) (p11 : Int) (p12 : Int) (p13 : ByteArray) (p14 : ByteArray) (p15 : ByteArray) (p16 : (List ByteArray)) (p17 : (List FrameD)) (p18 : (List Int)) (p19 : Bool) (p20 : Int) (p21 : ByteArray) (p22 : Int) (p23 : ByteArray) (p24 : ByteArray) : (Int × (List ByteArray)) → Option ((Int × (List ByteArray)) ⊕ (Int ⊕ (Int × ByteArray × (List ByteArray))))
 | (v0, v1) =>
 (match v1 with
 | [] => (
 bif (decide (v0 < p3)) then (
 (gt p2 v0).bind fun y_1 =>
 (routeJoin p0 y_1).bind fun r_1 =>
 (routeJoin p1 y_1).bind fun r_2 =>
 some (.inl ((w64 (v0 + (1 : Int))), [(bs [99, 111, 112, 121]), r_1, r_2]))
 ) else (
 some (.inr (.inl v0))
 )
 )
 | z_1 :: z_2 => (
 bif (decide (v0 < p3)) then (
 (gt p2 v0).bind fun y_1 =>
 (routeJoin p0 y_1).bind fun r_1 =>
 (routeJoin p1 y_1).bind fun r_2 =>
 grd (room ((z_1 :: z_2).length + 3) 16) <|
 some (.inl ((w64 (v0 + (1 : Int))), ((z_1 :: z_2) ++ [(bs [99, 111, 112, 121]), r_1, r_2])))
 ) else (
 some (.inr (.inr ((v0, z_1, z_2))))
 )
 ))
set_option maxRecDepth 100000 in
theorem cloneTell_t32 (k : Nat) (p0 : ByteArray) (p1 : ByteArray) (p2 : (List ByteArray)) (p3 : Int) (p4 : Int) (p5 : Int) (p6 : Int) (p7 : Int) (p8 : Int) (p9 : Int) (p10 : Int) (p11 : Int) (p12 : Int) (p13 : ByteArray) (p14 : ByteArray) (p15 : ByteArray) (p16 : (List ByteArray)) (p17 : (List FrameD)) (p18 : (List Int)) (p19 : Bool) (p20 : Int) (p21 : ByteArray) (p22 : Int) (p23 : ByteArray) (p24 : ByteArray) (a a1 : (Int × (List ByteArray))) (h : cloneTell_b32 p0 p1 p2 p3 p4 p5 p6 p7 p8 p9 p10 p11 p12 p13 p14 p15 p16 p17 p18 p19 p20 p21 p22 p23 p24 a = some (.inl a1)) : ∃ σ, run1 (k + 5) 12 0 141 cloneTell_L32 (cloneTell_S32 p0 p1 p2 p3 p4 p5 p6 p7 p8 p9 p10 p11 p12 p13 p14 p15 p16 p17 p18 p19 p20 p21 p22 p23 p24 a) = some (.normal, σ) ∧ canonS 0 [2, 4, 5, 6, 8, 9, 112, 113, 114] σ = some (cloneTell_S32 p0 p1 p2 p3 p4 p5 p6 p7 p8 p9 p10 p11 p12 p13 p14 p15 p16 p17 p18 p19 p20 p21 p22 p23 p24 a1) := by
  obtain ⟨v0, v1⟩ := a
  unfold cloneTell_b32 at h
  try dsimp only at h
  rcases v1 with _ | ⟨z_1, z_2⟩
  · try dsimp only at h
    rcases bif_some h with ⟨q1, h⟩ | ⟨q1, h⟩
    · obtain ⟨y_1, q2, h⟩ := bnd_some h
      obtain ⟨r_1, q3, h⟩ := bnd_some h
      obtain ⟨r_2, q4, h⟩ := bnd_some h
      obtain rfl := Sum.inl.inj (Option.some.inj h)
      exact ⟨_, run_go (k := (k + 5)) (f := 12) (r0 := 0) (nt := 141) (c := cloneTell_L32) (σ := (cloneTell_S32 p0 p1 p2 p3 p4 p5 p6 p7 p8 p9 p10 p11 p12 p13 p14 p15 p16 p17 p18 p19 p20 p21 p22 p23 p24 (v0, []))) (adv [([], 32, 0, .eq (pB true)), ([], 33, 0, .elem [(pS y_1)]), ([], 34, 3, .ret (pS r_1)), ([], 34, 6, .ret (pS r_2)), ([], 34, 8, .ok)]) (ex := .normal) (by kernel_rfl) (by kernel_rfl) (allC (cg q1) (allC (gt_list (c := cS) q2) (allC (routeJoin_ok (k + 1) p0 y_1 _ q3) (allC (routeJoin_ok (k + 1) p1 y_1 _ q4) (allC (by decide : 3 ≤ 140737488355328 ∧ (3) * 16 ≤ 140737488355328) allN))))), (Eq.trans (b := some (cloneTell_R32_1 p0 p1 3 (p2.map cS) p3 (w64 (v0 + (1 : Int))) p4 p5 p6 p7 p8 p9 p10 p11 p12 p13 p14 p15 (p16.map cS) (p17.map FrameD.c) (p18.map cI) p19 p20 p21 p22 p23 p24 ([[(pS (bs [99, 111, 112, 121]))], [(pS r_1)], [(pS r_2)]]))) (by kernel_rfl) (congrArg some ((cloneTell_R32_1_eq (rfl : p0 = p0) (rfl : p1 = p1) ((rfl : 3 = _) : 3 = (([(bs [99, 111, 112, 121]), r_1, r_2]).length)) (rfl : (p2.map cS) = (p2.map cS)) (rfl : p3 = p3) (rfl : (w64 (v0 + (1 : Int))) = (w64 (v0 + (1 : Int)))) (rfl : p4 = p4) (rfl : p5 = p5) (rfl : p6 = p6) (rfl : p7 = p7) (rfl : p8 = p8) (rfl : p9 = p9) (rfl : p10 = p10) (rfl : p11 = p11) (rfl : p12 = p12) (rfl : p13 = p13) (rfl : p14 = p14) (rfl : p15 = p15) (rfl : (p16.map cS) = (p16.map cS)) (rfl : (p17.map FrameD.c) = (p17.map FrameD.c)) (rfl : (p18.map cI) = (p18.map cI)) (rfl : p19 = p19) (rfl : p20 = p20) (rfl : p21 = p21) (rfl : p22 = p22) (rfl : p23 = p23) (rfl : p24 = p24) (rfl : ([[(pS (bs [99, 111, 112, 121]))], [(pS r_1)], [(pS r_2)]]) = (([(bs [99, 111, 112, 121]), r_1, r_2]).map cS))).trans (by kernel_rfl : cloneTell_R32_1 p0 p1 (([(bs [99, 111, 112, 121]), r_1, r_2]).length) (p2.map cS) p3 (w64 (v0 + (1 : Int))) p4 p5 p6 p7 p8 p9 p10 p11 p12 p13 p14 p15 (p16.map cS) (p17.map FrameD.c) (p18.map cI) p19 p20 p21 p22 p23 p24 (([(bs [99, 111, 112, 121]), r_1, r_2]).map cS) = cloneTell_S32 p0 p1 p2 p3 p4 p5 p6 p7 p8 p9 p10 p11 p12 p13 p14 p15 p16 p17 p18 p19 p20 p21 p22 p23 p24 ((w64 (v0 + (1 : Int))), [(bs [99, 111, 112, 121]), r_1, r_2])))))⟩
    · cases h
  · try dsimp only at h
    rcases bif_some h with ⟨q1, h⟩ | ⟨q1, h⟩
    · obtain ⟨y_1, q2, h⟩ := bnd_some h
      obtain ⟨r_1, q3, h⟩ := bnd_some h
      obtain ⟨r_2, q4, h⟩ := bnd_some h
      obtain ⟨q5, h⟩ := grd_some h
      obtain rfl := Sum.inl.inj (Option.some.inj h)
      exact ⟨_, run_go (k := (k + 5)) (f := 12) (r0 := 0) (nt := 141) (c := cloneTell_L32) (σ := (cloneTell_S32 p0 p1 p2 p3 p4 p5 p6 p7 p8 p9 p10 p11 p12 p13 p14 p15 p16 p17 p18 p19 p20 p21 p22 p23 p24 (v0, (z_1 :: z_2)))) (adv [([], 32, 0, .eq (pB true)), ([], 33, 0, .elem [(pS y_1)]), ([], 34, 3, .ret (pS r_1)), ([], 34, 6, .ret (pS r_2)), ([], 34, 8, .ok)]) (ex := .normal) (by kernel_rfl) (by kernel_rfl) (allC (cg q1) (allC (gt_list (c := cS) q2) (allC (routeJoin_ok (k + 1) p0 y_1 _ q3) (allC (routeJoin_ok (k + 1) p1 y_1 _ q4) (allC (app_ok (rfl : ((z_1 :: z_2).map cS) = (z_1 :: z_2).map cS) (rfl : (z_1 :: z_2).length = (z_1 :: z_2).length) q5) allN))))), (Eq.trans (b := some (cloneTell_R32_1 p0 p1 ((z_1 :: z_2).length + 3) (p2.map cS) p3 (w64 (v0 + (1 : Int))) p4 p5 p6 p7 p8 p9 p10 p11 p12 p13 p14 p15 (p16.map cS) (p17.map FrameD.c) (p18.map cI) p19 p20 p21 p22 p23 p24 (((z_1 :: z_2).map cS) ++ [[(pS (bs [99, 111, 112, 121]))], [(pS r_1)], [(pS r_2)]]))) (by kernel_rfl) (congrArg some ((cloneTell_R32_1_eq (rfl : p0 = p0) (rfl : p1 = p1) ((len_cat (rfl : (z_1 :: z_2).length = (z_1 :: z_2).length) (z_1 :: z_2) (rfl : 3 = ([(bs [99, 111, 112, 121]), r_1, r_2]).length)) : ((z_1 :: z_2).length + 3) = (((z_1 :: z_2) ++ [(bs [99, 111, 112, 121]), r_1, r_2]).length)) (rfl : (p2.map cS) = (p2.map cS)) (rfl : p3 = p3) (rfl : (w64 (v0 + (1 : Int))) = (w64 (v0 + (1 : Int)))) (rfl : p4 = p4) (rfl : p5 = p5) (rfl : p6 = p6) (rfl : p7 = p7) (rfl : p8 = p8) (rfl : p9 = p9) (rfl : p10 = p10) (rfl : p11 = p11) (rfl : p12 = p12) (rfl : p13 = p13) (rfl : p14 = p14) (rfl : p15 = p15) (rfl : (p16.map cS) = (p16.map cS)) (rfl : (p17.map FrameD.c) = (p17.map FrameD.c)) (rfl : (p18.map cI) = (p18.map cI)) (rfl : p19 = p19) (rfl : p20 = p20) (rfl : p21 = p21) (rfl : p22 = p22) (rfl : p23 = p23) (rfl : p24 = p24) ((enc_cat (rfl : ((z_1 :: z_2).map cS) = (z_1 :: z_2).map cS) (show [[(pS (bs [99, 111, 112, 121]))], [(pS r_1)], [(pS r_2)]] = ([(bs [99, 111, 112, 121]), r_1, r_2]).map cS from rfl)) : (((z_1 :: z_2).map cS) ++ [[(pS (bs [99, 111, 112, 121]))], [(pS r_1)], [(pS r_2)]]) = (((z_1 :: z_2) ++ [(bs [99, 111, 112, 121]), r_1, r_2]).map cS))).trans (by kernel_rfl : cloneTell_R32_1 p0 p1 (((z_1 :: z_2) ++ [(bs [99, 111, 112, 121]), r_1, r_2]).length) (p2.map cS) p3 (w64 (v0 + (1 : Int))) p4 p5 p6 p7 p8 p9 p10 p11 p12 p13 p14 p15 (p16.map cS) (p17.map FrameD.c) (p18.map cI) p19 p20 p21 p22 p23 p24 (((z_1 :: z_2) ++ [(bs [99, 111, 112, 121]), r_1, r_2]).map cS) = cloneTell_S32 p0 p1 p2 p3 p4 p5 p6 p7 p8 p9 p10 p11 p12 p13 p14 p15 p16 p17 p18 p19 p20 p21 p22 p23 p24 ((w64 (v0 + (1 : Int))), ((z_1 :: z_2) ++ [(bs [99, 111, 112, 121]), r_1, r_2]))))))⟩
    · cases h
def cloneTell (j : JobD) (rF : ReplyD) : Option JobD :=
 (cloneWork j).bind fun (r_1, r_2, r_3) =>
 bif (!r_3) then (
 some j
 ) else (
 bif (j.phase == (0 : Int)) then (
 (cloneAimed j rF).bind fun r_4 =>
 some r_4
 ) else (
 bif (j.phase == (5 : Int)) then (
 (cloneOn j).bind fun r_4 =>
 some r_4
 ) else (
 bif (j.phase == (8 : Int)) then (
 (cloneTo j (9 : Int)).bind fun r_4 =>
 some r_4
 ) else (
 bif (rF.e != (0 : Int)) then (
 bif (j.phase == (2 : Int)) then (
 (jobFail j r_2 rF.e).bind fun r_4 =>
 some r_4
 ) else (
 bif (j.phase == (9 : Int)) then (
 (jobFail j r_2 rF.e).bind fun r_4 =>
 some r_4
 ) else (
 bif (j.phase == (10 : Int)) then (
 (jobFail j r_2 rF.e).bind fun r_4 =>
 some r_4
 ) else (
 bif (j.phase == (12 : Int)) then (
 (jobFail j r_2 rF.e).bind fun r_4 =>
 some r_4
 ) else (
 (jobFail j r_1 rF.e).bind fun r_4 =>
 some r_4
 )
 )
 )
 )
 ) else (
 (modePrint j.modeF).bind fun r_4 =>
 bif (j.phase == (1 : Int)) then (
 (cloneSeen j rF.i).bind fun r_5 =>
 some r_5
 ) else (
 bif (j.phase == (3 : Int)) then (
 (cloneTo (JobD.mk j.kind j.p j.phase rF.nF j.nF j.modeF j.tries j.atF j.flags j.path j.path2 j.text j.names j.stack j.draws j.done j.exit j.out j.e) (w64 (j.phase + (1 : Int)))).bind fun r_5 =>
 some r_5
 ) else (
 bif (j.phase == (6 : Int)) then (
 (cloneTo (JobD.mk j.kind j.p j.phase rF.nF j.nF j.modeF j.tries j.atF j.flags j.path j.path2 j.text j.names j.stack j.draws j.done j.exit j.out j.e) (w64 (j.phase + (1 : Int)))).bind fun r_5 =>
 some r_5
 ) else (
 bif (j.phase == (9 : Int)) then (
 (cloneTo (JobD.mk j.kind j.p j.phase rF.nF j.nF j.modeF j.tries j.atF j.flags j.path j.path2 j.text j.names j.stack j.draws j.done j.exit j.out j.e) (w64 (j.phase + (1 : Int)))).bind fun r_5 =>
 some r_5
 ) else (
 bif (j.phase == (2 : Int)) then (
 (cloneTo j (w64 (j.phase + (1 : Int)))).bind fun r_5 =>
 some r_5
 ) else (
 bif (j.phase == (7 : Int)) then (
 (cloneTo (JobD.mk j.kind j.p j.phase j.fd j.nF j.modeF j.tries j.atF j.flags j.path j.path2 rF.s j.names j.stack j.draws j.done j.exit j.out j.e) (w64 (j.phase + (1 : Int)))).bind fun r_5 =>
 some r_5
 ) else (
 bif (j.phase == (11 : Int)) then (
 (cloneTo (JobD.mk j.kind j.p j.phase j.fd j.nF j.modeF j.tries j.atF j.flags j.path j.path2 rF.s j.names j.stack j.draws j.done j.exit j.out j.e) (w64 (j.phase + (1 : Int)))).bind fun r_5 =>
 some r_5
 ) else (
 bif (j.phase == (4 : Int)) then (
 (iterN (cloneTell_b32 r_1 r_2 rF.l (rF.l.length : Int) j.kind j.p j.phase j.fd j.nF j.modeF j.tries j.atF j.flags j.path j.path2 j.text j.names j.stack j.draws j.done j.exit j.out j.e r_2 r_4) LF ((0 : Int), [])).bind fun X_1 => match X_1 with
 | .inl v_1 => (
 (cloneInstead j ([(bs [109, 111, 100, 101]), r_2, r_4])).bind fun r_7 =>
 (cloneTo r_7 (5 : Int)).bind fun r_8 =>
 some r_8
 )
 | .inr ((v_1, z_1, z_2)) => (
 grd (room ((z_1 :: z_2).length + 3) 16) <|
 (cloneInstead j ((z_1 :: z_2) ++ [(bs [109, 111, 100, 101]), r_2, r_4])).bind fun r_7 =>
 (cloneTo r_7 (5 : Int)).bind fun r_8 =>
 some r_8
 )
 ) else (
 bif (j.phase == (10 : Int)) then (
 (cloneInstead j ([(bs [109, 111, 100, 101]), r_2, r_4])).bind fun r_5 =>
 (cloneTo r_5 (5 : Int)).bind fun r_6 =>
 some r_6
 ) else (
 (cloneInstead j []).bind fun r_5 =>
 (cloneOn r_5).bind fun r_6 =>
 some r_6
 )
 )
 )
 )
 )
 )
 )
 )
 )
 )
 )
 )
 )
 )
set_option maxRecDepth 100000 in
theorem cloneTell_ok (k : Nat) (j : JobD) (rF : ReplyD) (r : JobD) (h : cloneTell j rF = some r) : run0 (k + 6) 12 [(JobD.a j), (.agg [(pI rF.e), (pI rF.nF), (pS rF.s), (.list 1 false (rF.l.map cS)), (pI rF.i.ino), (pI rF.i.kind), (pI rF.i.modeF), (pI rF.i.owner), (pI rF.i.links), (pI rF.i.size)])] = some (JobD.a r) := by
  unfold cloneTell at h
  obtain ⟨⟨r_1, r_2, r_3⟩, q1, h⟩ := bnd_some h
  try dsimp only at h
  rcases bif_some h with ⟨q2, h⟩ | ⟨q2, h⟩
  · obtain rfl := Option.some.inj h
    exact ret_go (k := (k + 5)) Tryz.func12 Tryz.ntmps12 (by kernel_rfl) (by kernel_rfl) (lb rfl) (adv [([], 1, 1, .ret (.tup [(pS r_1), (pS r_2), (pB r_3)])), ([], 2, 2, .eq (pB true))]) (ex := .ret) (r := (JobD.a j)) (by kernel_rfl) rfl (by kernel_rfl) (allC (cloneWork_ok (k + 4) j _ q1) (allC (cg q2) allN)) (by kernel_rfl) allN
  · rcases bif_some h with ⟨q3, h⟩ | ⟨q3, h⟩
    · obtain ⟨r_4, q4, h⟩ := bnd_some h
      obtain rfl := Option.some.inj h
      exact ret_go (k := (k + 5)) Tryz.func12 Tryz.ntmps12 (by kernel_rfl) (by kernel_rfl) (lb rfl) (adv [([], 1, 1, .ret (.tup [(pS r_1), (pS r_2), (pB r_3)])), ([], 2, 2, .eq (pB false)), ([], 4, 3, .eq (pB true)), ([], 5, 2, .ret (JobD.a r_4))]) (ex := .ret) (r := (JobD.a r_4)) (by kernel_rfl) rfl (by kernel_rfl) (allC (cloneWork_ok (k + 4) j _ q1) (allC (cg q2) (allC (cg q3) (allC (cloneAimed_ok k j rF _ q4) allN)))) (by kernel_rfl) allN
    · rcases bif_some h with ⟨q4, h⟩ | ⟨q4, h⟩
      · obtain ⟨r_4, q5, h⟩ := bnd_some h
        obtain rfl := Option.some.inj h
        exact ret_go (k := (k + 5)) Tryz.func12 Tryz.ntmps12 (by kernel_rfl) (by kernel_rfl) (lb rfl) (adv [([], 1, 1, .ret (.tup [(pS r_1), (pS r_2), (pB r_3)])), ([], 2, 2, .eq (pB false)), ([], 4, 3, .eq (pB false)), ([], 6, 3, .eq (pB true)), ([], 7, 1, .ret (JobD.a r_4))]) (ex := .ret) (r := (JobD.a r_4)) (by kernel_rfl) rfl (by kernel_rfl) (allC (cloneWork_ok (k + 4) j _ q1) (allC (cg q2) (allC (cg q3) (allC (cg q4) (allC (cloneOn_ok (k + 3) j _ q5) allN))))) (by kernel_rfl) allN
      · rcases bif_some h with ⟨q5, h⟩ | ⟨q5, h⟩
        · obtain ⟨r_4, q6, h⟩ := bnd_some h
          obtain rfl := Option.some.inj h
          exact ret_go (k := (k + 5)) Tryz.func12 Tryz.ntmps12 (by kernel_rfl) (by kernel_rfl) (lb rfl) (adv [([], 1, 1, .ret (.tup [(pS r_1), (pS r_2), (pB r_3)])), ([], 2, 2, .eq (pB false)), ([], 4, 3, .eq (pB false)), ([], 6, 3, .eq (pB false)), ([], 8, 3, .eq (pB true)), ([], 9, 1, .ret (JobD.a r_4))]) (ex := .ret) (r := (JobD.a r_4)) (by kernel_rfl) rfl (by kernel_rfl) (allC (cloneWork_ok (k + 4) j _ q1) (allC (cg q2) (allC (cg q3) (allC (cg q4) (allC (cg q5) (allC (cloneTo_ok (k + 4) j (9 : Int) _ q6) allN)))))) (by kernel_rfl) allN
        · rcases bif_some h with ⟨q6, h⟩ | ⟨q6, h⟩
          · rcases bif_some h with ⟨q7, h⟩ | ⟨q7, h⟩
            · obtain ⟨r_4, q8, h⟩ := bnd_some h
              obtain rfl := Option.some.inj h
              exact ret_go (k := (k + 5)) Tryz.func12 Tryz.ntmps12 (by kernel_rfl) (by kernel_rfl) (lb rfl) (adv [([], 1, 1, .ret (.tup [(pS r_1), (pS r_2), (pB r_3)])), ([], 2, 2, .eq (pB false)), ([], 4, 3, .eq (pB false)), ([], 6, 3, .eq (pB false)), ([], 8, 3, .eq (pB false)), ([], 10, 3, .eq (pB true)), ([], 11, 3, .eq (pB true)), ([], 13, 4, .ret (JobD.a r_4))]) (ex := .ret) (r := (JobD.a r_4)) (by kernel_rfl) rfl (by kernel_rfl) (allC (cloneWork_ok (k + 4) j _ q1) (allC (cg q2) (allC (cg q3) (allC (cg q4) (allC (cg q5) (allC (cg q6) (allC (cg q7) (allC (jobFail_ok (k + 4) j r_2 rF.e _ q8) allN)))))))) (by kernel_rfl) allN
            · rcases bif_some h with ⟨q8, h⟩ | ⟨q8, h⟩
              · obtain ⟨r_4, q9, h⟩ := bnd_some h
                obtain rfl := Option.some.inj h
                exact ret_go (k := (k + 5)) Tryz.func12 Tryz.ntmps12 (by kernel_rfl) (by kernel_rfl) (lb rfl) (adv [([], 1, 1, .ret (.tup [(pS r_1), (pS r_2), (pB r_3)])), ([], 2, 2, .eq (pB false)), ([], 4, 3, .eq (pB false)), ([], 6, 3, .eq (pB false)), ([], 8, 3, .eq (pB false)), ([], 10, 3, .eq (pB true)), ([], 11, 3, .eq (pB false)), ([], 11, 8, .eq (pB true)), ([], 13, 4, .ret (JobD.a r_4))]) (ex := .ret) (r := (JobD.a r_4)) (by kernel_rfl) rfl (by kernel_rfl) (allC (cloneWork_ok (k + 4) j _ q1) (allC (cg q2) (allC (cg q3) (allC (cg q4) (allC (cg q5) (allC (cg q6) (allC (cg q7) (allC (cg q8) (allC (jobFail_ok (k + 4) j r_2 rF.e _ q9) allN))))))))) (by kernel_rfl) allN
              · rcases bif_some h with ⟨q9, h⟩ | ⟨q9, h⟩
                · obtain ⟨r_4, q10, h⟩ := bnd_some h
                  obtain rfl := Option.some.inj h
                  exact ret_go (k := (k + 5)) Tryz.func12 Tryz.ntmps12 (by kernel_rfl) (by kernel_rfl) (lb rfl) (adv [([], 1, 1, .ret (.tup [(pS r_1), (pS r_2), (pB r_3)])), ([], 2, 2, .eq (pB false)), ([], 4, 3, .eq (pB false)), ([], 6, 3, .eq (pB false)), ([], 8, 3, .eq (pB false)), ([], 10, 3, .eq (pB true)), ([], 11, 3, .eq (pB false)), ([], 11, 8, .eq (pB false)), ([], 11, 13, .eq (pB true)), ([], 13, 4, .ret (JobD.a r_4))]) (ex := .ret) (r := (JobD.a r_4)) (by kernel_rfl) rfl (by kernel_rfl) (allC (cloneWork_ok (k + 4) j _ q1) (allC (cg q2) (allC (cg q3) (allC (cg q4) (allC (cg q5) (allC (cg q6) (allC (cg q7) (allC (cg q8) (allC (cg q9) (allC (jobFail_ok (k + 4) j r_2 rF.e _ q10) allN)))))))))) (by kernel_rfl) allN
                · rcases bif_some h with ⟨q10, h⟩ | ⟨q10, h⟩
                  · obtain ⟨r_4, q11, h⟩ := bnd_some h
                    obtain rfl := Option.some.inj h
                    exact ret_go (k := (k + 5)) Tryz.func12 Tryz.ntmps12 (by kernel_rfl) (by kernel_rfl) (lb rfl) (adv [([], 1, 1, .ret (.tup [(pS r_1), (pS r_2), (pB r_3)])), ([], 2, 2, .eq (pB false)), ([], 4, 3, .eq (pB false)), ([], 6, 3, .eq (pB false)), ([], 8, 3, .eq (pB false)), ([], 10, 3, .eq (pB true)), ([], 11, 3, .eq (pB false)), ([], 11, 8, .eq (pB false)), ([], 11, 13, .eq (pB false)), ([], 11, 17, .eq (pB true)), ([], 13, 4, .ret (JobD.a r_4))]) (ex := .ret) (r := (JobD.a r_4)) (by kernel_rfl) rfl (by kernel_rfl) (allC (cloneWork_ok (k + 4) j _ q1) (allC (cg q2) (allC (cg q3) (allC (cg q4) (allC (cg q5) (allC (cg q6) (allC (cg q7) (allC (cg q8) (allC (cg q9) (allC (cg q10) (allC (jobFail_ok (k + 4) j r_2 rF.e _ q11) allN))))))))))) (by kernel_rfl) allN
                  · obtain ⟨r_4, q11, h⟩ := bnd_some h
                    obtain rfl := Option.some.inj h
                    exact ret_go (k := (k + 5)) Tryz.func12 Tryz.ntmps12 (by kernel_rfl) (by kernel_rfl) (lb rfl) (adv [([], 1, 1, .ret (.tup [(pS r_1), (pS r_2), (pB r_3)])), ([], 2, 2, .eq (pB false)), ([], 4, 3, .eq (pB false)), ([], 6, 3, .eq (pB false)), ([], 8, 3, .eq (pB false)), ([], 10, 3, .eq (pB true)), ([], 11, 3, .eq (pB false)), ([], 11, 8, .eq (pB false)), ([], 11, 13, .eq (pB false)), ([], 11, 17, .eq (pB false)), ([], 13, 4, .ret (JobD.a r_4))]) (ex := .ret) (r := (JobD.a r_4)) (by kernel_rfl) rfl (by kernel_rfl) (allC (cloneWork_ok (k + 4) j _ q1) (allC (cg q2) (allC (cg q3) (allC (cg q4) (allC (cg q5) (allC (cg q6) (allC (cg q7) (allC (cg q8) (allC (cg q9) (allC (cg q10) (allC (jobFail_ok (k + 4) j r_1 rF.e _ q11) allN))))))))))) (by kernel_rfl) allN
          · obtain ⟨r_4, q7, h⟩ := bnd_some h
            rcases bif_some h with ⟨q8, h⟩ | ⟨q8, h⟩
            · obtain ⟨r_5, q9, h⟩ := bnd_some h
              obtain rfl := Option.some.inj h
              exact ret_go (k := (k + 5)) Tryz.func12 Tryz.ntmps12 (by kernel_rfl) (by kernel_rfl) (lb rfl) (adv [([], 1, 1, .ret (.tup [(pS r_1), (pS r_2), (pB r_3)])), ([], 2, 2, .eq (pB false)), ([], 4, 3, .eq (pB false)), ([], 6, 3, .eq (pB false)), ([], 8, 3, .eq (pB false)), ([], 10, 3, .eq (pB false)), ([], 14, 3, .ret (pS r_4)), ([], 16, 1, .eq (pB true)), ([], 25, 3, .ret (JobD.a r_5))]) (ex := .ret) (r := (JobD.a r_5)) (by kernel_rfl) rfl (by kernel_rfl) (allC (cloneWork_ok (k + 4) j _ q1) (allC (cg q2) (allC (cg q3) (allC (cg q4) (allC (cg q5) (allC (cg q6) (allC (modePrint_ok (k + 4) j.modeF _ q7) (allC (cg q8) (allC (cloneSeen_ok (k + 3) j rF.i _ q9) allN))))))))) (by kernel_rfl) allN
            · rcases bif_some h with ⟨q9, h⟩ | ⟨q9, h⟩
              · obtain ⟨r_5, q10, h⟩ := bnd_some h
                obtain rfl := Option.some.inj h
                exact ret_go (k := (k + 5)) Tryz.func12 Tryz.ntmps12 (by kernel_rfl) (by kernel_rfl) (lb rfl) (adv [([], 1, 1, .ret (.tup [(pS r_1), (pS r_2), (pB r_3)])), ([], 2, 2, .eq (pB false)), ([], 4, 3, .eq (pB false)), ([], 6, 3, .eq (pB false)), ([], 8, 3, .eq (pB false)), ([], 10, 3, .eq (pB false)), ([], 14, 3, .ret (pS r_4)), ([], 16, 1, .eq (pB false)), ([], 17, 1, .eq (pB true)), ([], 27, 4, .ret (JobD.a r_5))]) (ex := .ret) (r := (JobD.a r_5)) (by kernel_rfl) rfl (by kernel_rfl) (allC (cloneWork_ok (k + 4) j _ q1) (allC (cg q2) (allC (cg q3) (allC (cg q4) (allC (cg q5) (allC (cg q6) (allC (modePrint_ok (k + 4) j.modeF _ q7) (allC (cg q8) (allC (cg q9) (allC (cloneTo_ok (k + 4) (JobD.mk j.kind j.p j.phase rF.nF j.nF j.modeF j.tries j.atF j.flags j.path j.path2 j.text j.names j.stack j.draws j.done j.exit j.out j.e) (w64 (j.phase + (1 : Int))) _ q10) allN)))))))))) (by kernel_rfl) allN
              · rcases bif_some h with ⟨q10, h⟩ | ⟨q10, h⟩
                · obtain ⟨r_5, q11, h⟩ := bnd_some h
                  obtain rfl := Option.some.inj h
                  exact ret_go (k := (k + 5)) Tryz.func12 Tryz.ntmps12 (by kernel_rfl) (by kernel_rfl) (lb rfl) (adv [([], 1, 1, .ret (.tup [(pS r_1), (pS r_2), (pB r_3)])), ([], 2, 2, .eq (pB false)), ([], 4, 3, .eq (pB false)), ([], 6, 3, .eq (pB false)), ([], 8, 3, .eq (pB false)), ([], 10, 3, .eq (pB false)), ([], 14, 3, .ret (pS r_4)), ([], 16, 1, .eq (pB false)), ([], 17, 1, .eq (pB false)), ([], 18, 1, .eq (pB true)), ([], 27, 4, .ret (JobD.a r_5))]) (ex := .ret) (r := (JobD.a r_5)) (by kernel_rfl) rfl (by kernel_rfl) (allC (cloneWork_ok (k + 4) j _ q1) (allC (cg q2) (allC (cg q3) (allC (cg q4) (allC (cg q5) (allC (cg q6) (allC (modePrint_ok (k + 4) j.modeF _ q7) (allC (cg q8) (allC (cg q9) (allC (cg q10) (allC (cloneTo_ok (k + 4) (JobD.mk j.kind j.p j.phase rF.nF j.nF j.modeF j.tries j.atF j.flags j.path j.path2 j.text j.names j.stack j.draws j.done j.exit j.out j.e) (w64 (j.phase + (1 : Int))) _ q11) allN))))))))))) (by kernel_rfl) allN
                · rcases bif_some h with ⟨q11, h⟩ | ⟨q11, h⟩
                  · obtain ⟨r_5, q12, h⟩ := bnd_some h
                    obtain rfl := Option.some.inj h
                    exact ret_go (k := (k + 5)) Tryz.func12 Tryz.ntmps12 (by kernel_rfl) (by kernel_rfl) (lb rfl) (adv [([], 1, 1, .ret (.tup [(pS r_1), (pS r_2), (pB r_3)])), ([], 2, 2, .eq (pB false)), ([], 4, 3, .eq (pB false)), ([], 6, 3, .eq (pB false)), ([], 8, 3, .eq (pB false)), ([], 10, 3, .eq (pB false)), ([], 14, 3, .ret (pS r_4)), ([], 16, 1, .eq (pB false)), ([], 17, 1, .eq (pB false)), ([], 18, 1, .eq (pB false)), ([], 19, 1, .eq (pB true)), ([], 27, 4, .ret (JobD.a r_5))]) (ex := .ret) (r := (JobD.a r_5)) (by kernel_rfl) rfl (by kernel_rfl) (allC (cloneWork_ok (k + 4) j _ q1) (allC (cg q2) (allC (cg q3) (allC (cg q4) (allC (cg q5) (allC (cg q6) (allC (modePrint_ok (k + 4) j.modeF _ q7) (allC (cg q8) (allC (cg q9) (allC (cg q10) (allC (cg q11) (allC (cloneTo_ok (k + 4) (JobD.mk j.kind j.p j.phase rF.nF j.nF j.modeF j.tries j.atF j.flags j.path j.path2 j.text j.names j.stack j.draws j.done j.exit j.out j.e) (w64 (j.phase + (1 : Int))) _ q12) allN)))))))))))) (by kernel_rfl) allN
                  · rcases bif_some h with ⟨q12, h⟩ | ⟨q12, h⟩
                    · obtain ⟨r_5, q13, h⟩ := bnd_some h
                      obtain rfl := Option.some.inj h
                      exact ret_go (k := (k + 5)) Tryz.func12 Tryz.ntmps12 (by kernel_rfl) (by kernel_rfl) (lb rfl) (adv [([], 1, 1, .ret (.tup [(pS r_1), (pS r_2), (pB r_3)])), ([], 2, 2, .eq (pB false)), ([], 4, 3, .eq (pB false)), ([], 6, 3, .eq (pB false)), ([], 8, 3, .eq (pB false)), ([], 10, 3, .eq (pB false)), ([], 14, 3, .ret (pS r_4)), ([], 16, 1, .eq (pB false)), ([], 17, 1, .eq (pB false)), ([], 18, 1, .eq (pB false)), ([], 19, 1, .eq (pB false)), ([], 20, 1, .eq (pB true)), ([], 27, 4, .ret (JobD.a r_5))]) (ex := .ret) (r := (JobD.a r_5)) (by kernel_rfl) rfl (by kernel_rfl) (allC (cloneWork_ok (k + 4) j _ q1) (allC (cg q2) (allC (cg q3) (allC (cg q4) (allC (cg q5) (allC (cg q6) (allC (modePrint_ok (k + 4) j.modeF _ q7) (allC (cg q8) (allC (cg q9) (allC (cg q10) (allC (cg q11) (allC (cg q12) (allC (cloneTo_ok (k + 4) j (w64 (j.phase + (1 : Int))) _ q13) allN))))))))))))) (by kernel_rfl) allN
                    · rcases bif_some h with ⟨q13, h⟩ | ⟨q13, h⟩
                      · obtain ⟨r_5, q14, h⟩ := bnd_some h
                        obtain rfl := Option.some.inj h
                        exact ret_go (k := (k + 5)) Tryz.func12 Tryz.ntmps12 (by kernel_rfl) (by kernel_rfl) (lb rfl) (adv [([], 1, 1, .ret (.tup [(pS r_1), (pS r_2), (pB r_3)])), ([], 2, 2, .eq (pB false)), ([], 4, 3, .eq (pB false)), ([], 6, 3, .eq (pB false)), ([], 8, 3, .eq (pB false)), ([], 10, 3, .eq (pB false)), ([], 14, 3, .ret (pS r_4)), ([], 16, 1, .eq (pB false)), ([], 17, 1, .eq (pB false)), ([], 18, 1, .eq (pB false)), ([], 19, 1, .eq (pB false)), ([], 20, 1, .eq (pB false)), ([], 21, 1, .eq (pB true)), ([], 29, 4, .ret (JobD.a r_5))]) (ex := .ret) (r := (JobD.a r_5)) (by kernel_rfl) rfl (by kernel_rfl) (allC (cloneWork_ok (k + 4) j _ q1) (allC (cg q2) (allC (cg q3) (allC (cg q4) (allC (cg q5) (allC (cg q6) (allC (modePrint_ok (k + 4) j.modeF _ q7) (allC (cg q8) (allC (cg q9) (allC (cg q10) (allC (cg q11) (allC (cg q12) (allC (cg q13) (allC (cloneTo_ok (k + 4) (JobD.mk j.kind j.p j.phase j.fd j.nF j.modeF j.tries j.atF j.flags j.path j.path2 rF.s j.names j.stack j.draws j.done j.exit j.out j.e) (w64 (j.phase + (1 : Int))) _ q14) allN)))))))))))))) (by kernel_rfl) allN
                      · rcases bif_some h with ⟨q14, h⟩ | ⟨q14, h⟩
                        · obtain ⟨r_5, q15, h⟩ := bnd_some h
                          obtain rfl := Option.some.inj h
                          exact ret_go (k := (k + 5)) Tryz.func12 Tryz.ntmps12 (by kernel_rfl) (by kernel_rfl) (lb rfl) (adv [([], 1, 1, .ret (.tup [(pS r_1), (pS r_2), (pB r_3)])), ([], 2, 2, .eq (pB false)), ([], 4, 3, .eq (pB false)), ([], 6, 3, .eq (pB false)), ([], 8, 3, .eq (pB false)), ([], 10, 3, .eq (pB false)), ([], 14, 3, .ret (pS r_4)), ([], 16, 1, .eq (pB false)), ([], 17, 1, .eq (pB false)), ([], 18, 1, .eq (pB false)), ([], 19, 1, .eq (pB false)), ([], 20, 1, .eq (pB false)), ([], 21, 1, .eq (pB false)), ([], 22, 1, .eq (pB true)), ([], 29, 4, .ret (JobD.a r_5))]) (ex := .ret) (r := (JobD.a r_5)) (by kernel_rfl) rfl (by kernel_rfl) (allC (cloneWork_ok (k + 4) j _ q1) (allC (cg q2) (allC (cg q3) (allC (cg q4) (allC (cg q5) (allC (cg q6) (allC (modePrint_ok (k + 4) j.modeF _ q7) (allC (cg q8) (allC (cg q9) (allC (cg q10) (allC (cg q11) (allC (cg q12) (allC (cg q13) (allC (cg q14) (allC (cloneTo_ok (k + 4) (JobD.mk j.kind j.p j.phase j.fd j.nF j.modeF j.tries j.atF j.flags j.path j.path2 rF.s j.names j.stack j.draws j.done j.exit j.out j.e) (w64 (j.phase + (1 : Int))) _ q15) allN))))))))))))))) (by kernel_rfl) allN
                        · rcases bif_some h with ⟨q15, h⟩ | ⟨q15, h⟩
                          · obtain ⟨X_1, q16, h⟩ := bnd_some h
                            obtain ⟨a_1, q17, q18⟩ := loop_iter (f := run1 (k + 5) 12 0 141 cloneTell_L32) (cloneTell_S32 r_1 r_2 rF.l (rF.l.length : Int) j.kind j.p j.phase j.fd j.nF j.modeF j.tries j.atF j.flags j.path j.path2 j.text j.names j.stack j.draws j.done j.exit j.out j.e r_2 r_4) (cloneTell_b32 r_1 r_2 rF.l (rF.l.length : Int) j.kind j.p j.phase j.fd j.nF j.modeF j.tries j.atF j.flags j.path j.path2 j.text j.names j.stack j.draws j.done j.exit j.out j.e r_2 r_4) (cloneTell_t32 k r_1 r_2 rF.l (rF.l.length : Int) j.kind j.p j.phase j.fd j.nF j.modeF j.tries j.atF j.flags j.path j.path2 j.text j.names j.stack j.draws j.done j.exit j.out j.e r_2 r_4) LF ((0 : Int), []) _ (stOf (goStop (k + 5) 12 0 141 (adv [([], 1, 1, .ret (.tup [(pS r_1), (pS r_2), (pB r_3)])), ([], 2, 2, .eq (pB false)), ([], 4, 3, .eq (pB false)), ([], 6, 3, .eq (pB false)), ([], 8, 3, .eq (pB false)), ([], 10, 3, .eq (pB false)), ([], 14, 3, .ret (pS r_4)), ([], 16, 1, .eq (pB false)), ([], 17, 1, .eq (pB false)), ([], 18, 1, .eq (pB false)), ([], 19, 1, .eq (pB false)), ([], 20, 1, .eq (pB false)), ([], 21, 1, .eq (pB false)), ([], 22, 1, .eq (pB false)), ([], 23, 1, .eq (pB true)), ([], 31, 2, .eq (pI (rF.l.length : Int)))]) 32 (codeOf Tryz.f12) (argS 12 [(JobD.a j), (.agg [(pI rF.e), (pI rF.nF), (pS rF.s), (.list 1 false (rF.l.map cS)), (pI rF.i.ino), (pI rF.i.kind), (pI rF.i.modeF), (pI rF.i.owner), (pI rF.i.links), (pI rF.i.size)])]))) q16 (by kernel_rfl)
                            obtain ⟨v_1, v_2⟩ := a_1
                            unfold cloneTell_b32 at q17
                            try dsimp only at q17
                            rcases v_2 with _ | ⟨z_1, z_2⟩
                            · try dsimp only at q17
                              rcases bif_some q17 with ⟨q21, q17⟩ | ⟨q21, q17⟩
                              · obtain ⟨y_1, q22, q17⟩ := bnd_some q17
                                obtain ⟨r_5, q23, q17⟩ := bnd_some q17
                                obtain ⟨r_6, q24, q17⟩ := bnd_some q17
                                cases q17
                              · cases q17
                                try dsimp only at h
                                have q19 := run_go (k := (k + 5)) (f := 12) (r0 := 0) (nt := 141) (c := cloneTell_L32) (σ := (cloneTell_S32 r_1 r_2 rF.l (rF.l.length : Int) j.kind j.p j.phase j.fd j.nF j.modeF j.tries j.atF j.flags j.path j.path2 j.text j.names j.stack j.draws j.done j.exit j.out j.e r_2 r_4 (v_1, []))) (adv [([], 32, 0, .eq (pB false))]) (ex := (.exit 8)) (by kernel_rfl) (by kernel_rfl) (allC (cg q21) allN)
                                have q20 := q18 _ _ (by intro e; cases e) q19
                                obtain ⟨r_7, q26, h⟩ := bnd_some h
                                obtain ⟨r_8, q27, h⟩ := bnd_some h
                                obtain rfl := Option.some.inj h
                                exact ret_go (k := (k + 5)) Tryz.func12 Tryz.ntmps12 (by kernel_rfl) (by kernel_rfl) (lb rfl) (adv [([], 1, 1, .ret (.tup [(pS r_1), (pS r_2), (pB r_3)])), ([], 2, 2, .eq (pB false)), ([], 4, 3, .eq (pB false)), ([], 6, 3, .eq (pB false)), ([], 8, 3, .eq (pB false)), ([], 10, 3, .eq (pB false)), ([], 14, 3, .ret (pS r_4)), ([], 16, 1, .eq (pB false)), ([], 17, 1, .eq (pB false)), ([], 18, 1, .eq (pB false)), ([], 19, 1, .eq (pB false)), ([], 20, 1, .eq (pB false)), ([], 21, 1, .eq (pB false)), ([], 22, 1, .eq (pB false)), ([], 23, 1, .eq (pB true)), ([], 31, 2, .eq (pI (rF.l.length : Int))), ([], 36, 3, .ok), ([], 36, 4, .ret (JobD.a r_7)), ([], 36, 5, .ret (JobD.a r_8))] [([], 32, (.exit 8), (stOf (go (k + 5) 12 0 141 (adv [([], 32, 0, .eq (pB false))]) cloneTell_L32 (cloneTell_S32 r_1 r_2 rF.l (rF.l.length : Int) j.kind j.p j.phase j.fd j.nF j.modeF j.tries j.atF j.flags j.path j.path2 j.text j.names j.stack j.draws j.done j.exit j.out j.e r_2 r_4 (v_1, [])))))]) (ex := .ret) (r := (JobD.a r_8)) (by kernel_rfl) rfl (by kernel_rfl) (allC (cloneWork_ok (k + 4) j _ q1) (allC (cg q2) (allC (cg q3) (allC (cg q4) (allC (cg q5) (allC (cg q6) (allC (modePrint_ok (k + 4) j.modeF _ q7) (allC (cg q8) (allC (cg q9) (allC (cg q10) (allC (cg q11) (allC (cg q12) (allC (cg q13) (allC (cg q14) (allC (cg q15) (allC (len_ob (rfl : (rF.l.map cS) = rF.l.map cS)) (allC q20 (allC (by decide : 3 ≤ 140737488355328 ∧ (3) * 16 ≤ 140737488355328) (allC (row_ok (show [[(pS (bs [109, 111, 100, 101]))], [(pS r_2)], [(pS r_4)]] = ([(bs [109, 111, 100, 101]), r_2, r_4]).map cS from rfl) (show 3 = ([(bs [109, 111, 100, 101]), r_2, r_4]).length from (rfl : 3 = _))) (allC (row_ok (show [[(pS (bs [109, 111, 100, 101]))], [(pS r_2)], [(pS r_4)]] = ([(bs [109, 111, 100, 101]), r_2, r_4]).map cS from rfl) (show 3 = ([(bs [109, 111, 100, 101]), r_2, r_4]).length from (rfl : 3 = _))) (allC ((by rw [(show [[(pS (bs [109, 111, 100, 101]))], [(pS r_2)], [(pS r_4)]] = (([(bs [109, 111, 100, 101]), r_2, r_4]).map cS) from rfl)]; exact cloneInstead_ok (k + 3) j ([(bs [109, 111, 100, 101]), r_2, r_4]) _ q26) : run0 ((k + 3) + 2) 44 [(JobD.a j), (.list 1 false [[(pS (bs [109, 111, 100, 101]))], [(pS r_2)], [(pS r_4)]])] = some (JobD.a r_7)) (allC (cloneTo_ok (k + 4) r_7 (5 : Int) _ q27) allN)))))))))))))))))))))) (by kernel_rfl) allN
                            · try dsimp only at q17
                              rcases bif_some q17 with ⟨q21, q17⟩ | ⟨q21, q17⟩
                              · obtain ⟨y_1, q22, q17⟩ := bnd_some q17
                                obtain ⟨r_5, q23, q17⟩ := bnd_some q17
                                obtain ⟨r_6, q24, q17⟩ := bnd_some q17
                                obtain ⟨q25, q17⟩ := grd_some q17
                                cases q17
                              · cases q17
                                try dsimp only at h
                                have q19 := run_go (k := (k + 5)) (f := 12) (r0 := 0) (nt := 141) (c := cloneTell_L32) (σ := (cloneTell_S32 r_1 r_2 rF.l (rF.l.length : Int) j.kind j.p j.phase j.fd j.nF j.modeF j.tries j.atF j.flags j.path j.path2 j.text j.names j.stack j.draws j.done j.exit j.out j.e r_2 r_4 (v_1, (z_1 :: z_2)))) (adv [([], 32, 0, .eq (pB false))]) (ex := (.exit 8)) (by kernel_rfl) (by kernel_rfl) (allC (cg q21) allN)
                                have q20 := q18 _ _ (by intro e; cases e) q19
                                obtain ⟨q26, h⟩ := grd_some h
                                obtain ⟨r_7, q27, h⟩ := bnd_some h
                                obtain ⟨r_8, q28, h⟩ := bnd_some h
                                obtain rfl := Option.some.inj h
                                exact ret_go (k := (k + 5)) Tryz.func12 Tryz.ntmps12 (by kernel_rfl) (by kernel_rfl) (lb rfl) (adv [([], 1, 1, .ret (.tup [(pS r_1), (pS r_2), (pB r_3)])), ([], 2, 2, .eq (pB false)), ([], 4, 3, .eq (pB false)), ([], 6, 3, .eq (pB false)), ([], 8, 3, .eq (pB false)), ([], 10, 3, .eq (pB false)), ([], 14, 3, .ret (pS r_4)), ([], 16, 1, .eq (pB false)), ([], 17, 1, .eq (pB false)), ([], 18, 1, .eq (pB false)), ([], 19, 1, .eq (pB false)), ([], 20, 1, .eq (pB false)), ([], 21, 1, .eq (pB false)), ([], 22, 1, .eq (pB false)), ([], 23, 1, .eq (pB true)), ([], 31, 2, .eq (pI (rF.l.length : Int))), ([], 36, 3, .ok), ([], 36, 4, .ret (JobD.a r_7)), ([], 36, 5, .ret (JobD.a r_8))] [([], 32, (.exit 8), (stOf (go (k + 5) 12 0 141 (adv [([], 32, 0, .eq (pB false))]) cloneTell_L32 (cloneTell_S32 r_1 r_2 rF.l (rF.l.length : Int) j.kind j.p j.phase j.fd j.nF j.modeF j.tries j.atF j.flags j.path j.path2 j.text j.names j.stack j.draws j.done j.exit j.out j.e r_2 r_4 (v_1, (z_1 :: z_2))))))]) (ex := .ret) (r := (JobD.a r_8)) (by kernel_rfl) rfl (by kernel_rfl) (allC (cloneWork_ok (k + 4) j _ q1) (allC (cg q2) (allC (cg q3) (allC (cg q4) (allC (cg q5) (allC (cg q6) (allC (modePrint_ok (k + 4) j.modeF _ q7) (allC (cg q8) (allC (cg q9) (allC (cg q10) (allC (cg q11) (allC (cg q12) (allC (cg q13) (allC (cg q14) (allC (cg q15) (allC (len_ob (rfl : (rF.l.map cS) = rF.l.map cS)) (allC q20 (allC (app_ok (rfl : ((z_1 :: z_2).map cS) = (z_1 :: z_2).map cS) (rfl : (z_1 :: z_2).length = (z_1 :: z_2).length) q26) (allC (row_ok ((enc_cat (rfl : ((z_1 :: z_2).map cS) = (z_1 :: z_2).map cS) (show [[(pS (bs [109, 111, 100, 101]))], [(pS r_2)], [(pS r_4)]] = ([(bs [109, 111, 100, 101]), r_2, r_4]).map cS from rfl)) : (((z_1 :: z_2).map cS) ++ [[(pS (bs [109, 111, 100, 101]))], [(pS r_2)], [(pS r_4)]]) = ((z_1 :: z_2) ++ [(bs [109, 111, 100, 101]), r_2, r_4]).map cS) (show ((z_1 :: z_2).length + 3) = ((z_1 :: z_2) ++ [(bs [109, 111, 100, 101]), r_2, r_4]).length from (len_cat (rfl : (z_1 :: z_2).length = (z_1 :: z_2).length) (z_1 :: z_2) (rfl : 3 = ([(bs [109, 111, 100, 101]), r_2, r_4]).length)))) (allC (row_ok ((enc_cat (rfl : ((z_1 :: z_2).map cS) = (z_1 :: z_2).map cS) (show [[(pS (bs [109, 111, 100, 101]))], [(pS r_2)], [(pS r_4)]] = ([(bs [109, 111, 100, 101]), r_2, r_4]).map cS from rfl)) : (((z_1 :: z_2).map cS) ++ [[(pS (bs [109, 111, 100, 101]))], [(pS r_2)], [(pS r_4)]]) = ((z_1 :: z_2) ++ [(bs [109, 111, 100, 101]), r_2, r_4]).map cS) (show ((z_1 :: z_2).length + 3) = ((z_1 :: z_2) ++ [(bs [109, 111, 100, 101]), r_2, r_4]).length from (len_cat (rfl : (z_1 :: z_2).length = (z_1 :: z_2).length) (z_1 :: z_2) (rfl : 3 = ([(bs [109, 111, 100, 101]), r_2, r_4]).length)))) (allC ((by rw [(show (((z_1 :: z_2).map cS) ++ [[(pS (bs [109, 111, 100, 101]))], [(pS r_2)], [(pS r_4)]]) = (((z_1 :: z_2) ++ [(bs [109, 111, 100, 101]), r_2, r_4]).map cS) from (enc_cat (rfl : ((z_1 :: z_2).map cS) = (z_1 :: z_2).map cS) (show [[(pS (bs [109, 111, 100, 101]))], [(pS r_2)], [(pS r_4)]] = ([(bs [109, 111, 100, 101]), r_2, r_4]).map cS from rfl)))]; exact cloneInstead_ok (k + 3) j ((z_1 :: z_2) ++ [(bs [109, 111, 100, 101]), r_2, r_4]) _ q27) : run0 ((k + 3) + 2) 44 [(JobD.a j), (.list 1 false (((z_1 :: z_2).map cS) ++ [[(pS (bs [109, 111, 100, 101]))], [(pS r_2)], [(pS r_4)]]))] = some (JobD.a r_7)) (allC (cloneTo_ok (k + 4) r_7 (5 : Int) _ q28) allN)))))))))))))))))))))) (by kernel_rfl) allN
                          · rcases bif_some h with ⟨q16, h⟩ | ⟨q16, h⟩
                            · obtain ⟨r_5, q17, h⟩ := bnd_some h
                              obtain ⟨r_6, q18, h⟩ := bnd_some h
                              obtain rfl := Option.some.inj h
                              exact ret_go (k := (k + 5)) Tryz.func12 Tryz.ntmps12 (by kernel_rfl) (by kernel_rfl) (lb rfl) (adv [([], 1, 1, .ret (.tup [(pS r_1), (pS r_2), (pB r_3)])), ([], 2, 2, .eq (pB false)), ([], 4, 3, .eq (pB false)), ([], 6, 3, .eq (pB false)), ([], 8, 3, .eq (pB false)), ([], 10, 3, .eq (pB false)), ([], 14, 3, .ret (pS r_4)), ([], 16, 1, .eq (pB false)), ([], 17, 1, .eq (pB false)), ([], 18, 1, .eq (pB false)), ([], 19, 1, .eq (pB false)), ([], 20, 1, .eq (pB false)), ([], 21, 1, .eq (pB false)), ([], 22, 1, .eq (pB false)), ([], 23, 1, .eq (pB false)), ([], 24, 1, .eq (pB true)), ([], 37, 2, .ret (JobD.a r_5)), ([], 37, 3, .ret (JobD.a r_6))]) (ex := .ret) (r := (JobD.a r_6)) (by kernel_rfl) rfl (by kernel_rfl) (allC (cloneWork_ok (k + 4) j _ q1) (allC (cg q2) (allC (cg q3) (allC (cg q4) (allC (cg q5) (allC (cg q6) (allC (modePrint_ok (k + 4) j.modeF _ q7) (allC (cg q8) (allC (cg q9) (allC (cg q10) (allC (cg q11) (allC (cg q12) (allC (cg q13) (allC (cg q14) (allC (cg q15) (allC (cg q16) (allC (⟨rfl, rfl⟩ : (0 : Nat) = 0 ∧ (3 : Nat) = 3) (allC (cloneInstead_ok (k + 3) j ([(bs [109, 111, 100, 101]), r_2, r_4]) _ q17) (allC (cloneTo_ok (k + 4) r_5 (5 : Int) _ q18) allN))))))))))))))))))) (by kernel_rfl) allN
                            · obtain ⟨r_5, q17, h⟩ := bnd_some h
                              obtain ⟨r_6, q18, h⟩ := bnd_some h
                              obtain rfl := Option.some.inj h
                              exact ret_go (k := (k + 5)) Tryz.func12 Tryz.ntmps12 (by kernel_rfl) (by kernel_rfl) (lb rfl) (adv [([], 1, 1, .ret (.tup [(pS r_1), (pS r_2), (pB r_3)])), ([], 2, 2, .eq (pB false)), ([], 4, 3, .eq (pB false)), ([], 6, 3, .eq (pB false)), ([], 8, 3, .eq (pB false)), ([], 10, 3, .eq (pB false)), ([], 14, 3, .ret (pS r_4)), ([], 16, 1, .eq (pB false)), ([], 17, 1, .eq (pB false)), ([], 18, 1, .eq (pB false)), ([], 19, 1, .eq (pB false)), ([], 20, 1, .eq (pB false)), ([], 21, 1, .eq (pB false)), ([], 22, 1, .eq (pB false)), ([], 23, 1, .eq (pB false)), ([], 24, 1, .eq (pB false)), ([], 38, 1, .ret (JobD.a r_5)), ([], 38, 2, .ret (JobD.a r_6))]) (ex := .ret) (r := (JobD.a r_6)) (by kernel_rfl) rfl (by kernel_rfl) (allC (cloneWork_ok (k + 4) j _ q1) (allC (cg q2) (allC (cg q3) (allC (cg q4) (allC (cg q5) (allC (cg q6) (allC (modePrint_ok (k + 4) j.modeF _ q7) (allC (cg q8) (allC (cg q9) (allC (cg q10) (allC (cg q11) (allC (cg q12) (allC (cg q13) (allC (cg q14) (allC (cg q15) (allC (cg q16) (allC (cloneInstead_ok (k + 3) j [] _ q17) (allC (cloneOn_ok (k + 3) r_5 _ q18) allN)))))))))))))))))) (by kernel_rfl) allN
end Go.Proofs.YtdbekeidlppfiaaGreatDoor.Den
namespace Go.Proofs.YtdbekeidlppfiaaGreatDoor.Den
open Go Go.RowKit
def ref18Mine (j : JobD) : Option Bool :=
 bif (!j.done) then (
 bif (j.kind == (3 : Int)) then (
 bif (decide (j.phase ≥ (0 : Int))) then (
 bif (decide (j.phase ≤ (13 : Int))) then (
 bif (j.phase == (0 : Int)) then (
 some true
 ) else (
 some (decide ((j.names.length : Int) ≥ (3 : Int)))
 )
 ) else (
 some false
 )
 ) else (
 some false
 )
 ) else (
 some false
 )
 ) else (
 some false
 )
set_option maxRecDepth 100000 in
theorem ref18Mine_ok (k : Nat) (j : JobD) (r : Bool) (h : ref18Mine j = some r) : run0 (k + 1) 46 [(JobD.a j)] = some (pB r) := by
  unfold ref18Mine at h
  rcases bif_some h with ⟨q1, h⟩ | ⟨q1, h⟩
  · rcases bif_some h with ⟨q2, h⟩ | ⟨q2, h⟩
    · rcases bif_some h with ⟨q3, h⟩ | ⟨q3, h⟩
      · rcases bif_some h with ⟨q4, h⟩ | ⟨q4, h⟩
        · rcases bif_some h with ⟨q5, h⟩ | ⟨q5, h⟩
          · obtain rfl := Option.some.inj h
            exact ret_go (k := k) Tryz.func46 Tryz.ntmps46 (by kernel_rfl) (by kernel_rfl) (lb rfl) (adv [([], 1, 3, .eq (pB true)), ([], 1, 8, .eq (pB true)), ([], 1, 13, .eq (pB true)), ([], 1, 18, .eq (pB true)), ([], 1, 22, .eq (pB true))]) (ex := .ret) (r := (pB true)) (by kernel_rfl) rfl (by kernel_rfl) (allC (cg q1) (allC (cg q2) (allC (cg q3) (allC (cg q4) (allC (cg q5) allN))))) (by kernel_rfl) allN
          · obtain rfl := Option.some.inj h
            exact ret_go (k := k) Tryz.func46 Tryz.ntmps46 (by kernel_rfl) (by kernel_rfl) (lb rfl) (adv [([], 1, 3, .eq (pB true)), ([], 1, 8, .eq (pB true)), ([], 1, 13, .eq (pB true)), ([], 1, 18, .eq (pB true)), ([], 1, 22, .eq (pB false)), ([], 1, 25, .eq (pI (j.names.length : Int)))]) (ex := .ret) (r := (pB (decide ((j.names.length : Int) ≥ (3 : Int))))) (by kernel_rfl) rfl (by kernel_rfl) (allC (cg q1) (allC (cg q2) (allC (cg q3) (allC (cg q4) (allC (cg q5) (allC (len_ob (rfl : (j.names.map cS) = j.names.map cS)) allN)))))) (by kernel_rfl) allN
        · obtain rfl := Option.some.inj h
          exact ret_go (k := k) Tryz.func46 Tryz.ntmps46 (by kernel_rfl) (by kernel_rfl) (lb rfl) (adv [([], 1, 3, .eq (pB true)), ([], 1, 8, .eq (pB true)), ([], 1, 13, .eq (pB true)), ([], 1, 18, .eq (pB false))]) (ex := .ret) (r := (pB false)) (by kernel_rfl) rfl (by kernel_rfl) (allC (cg q1) (allC (cg q2) (allC (cg q3) (allC (cg q4) allN)))) (by kernel_rfl) allN
      · obtain rfl := Option.some.inj h
        exact ret_go (k := k) Tryz.func46 Tryz.ntmps46 (by kernel_rfl) (by kernel_rfl) (lb rfl) (adv [([], 1, 3, .eq (pB true)), ([], 1, 8, .eq (pB true)), ([], 1, 13, .eq (pB false))]) (ex := .ret) (r := (pB false)) (by kernel_rfl) rfl (by kernel_rfl) (allC (cg q1) (allC (cg q2) (allC (cg q3) allN))) (by kernel_rfl) allN
    · obtain rfl := Option.some.inj h
      exact ret_go (k := k) Tryz.func46 Tryz.ntmps46 (by kernel_rfl) (by kernel_rfl) (lb rfl) (adv [([], 1, 3, .eq (pB true)), ([], 1, 8, .eq (pB false))]) (ex := .ret) (r := (pB false)) (by kernel_rfl) rfl (by kernel_rfl) (allC (cg q1) (allC (cg q2) allN)) (by kernel_rfl) allN
  · obtain rfl := Option.some.inj h
    exact ret_go (k := k) Tryz.func46 Tryz.ntmps46 (by kernel_rfl) (by kernel_rfl) (lb rfl) (adv [([], 1, 3, .eq (pB false))]) (ex := .ret) (r := (pB false)) (by kernel_rfl) rfl (by kernel_rfl) (allC (cg q1) allN) (by kernel_rfl) allN
noncomputable def ref04Parse_L5 : Code := cAt (codeOf Tryz.f47) [true, true, true, false, true, false, false]
def ref04Parse_R5 (x0 : ByteArray) (x1 : Int) (x2 : Int) : St := ⟨envL [(0, (pS x0)), (4, (pI x1)), (5, (pI x2))], hsL [] []⟩
def ref04Parse_S5 (p0 : ByteArray) : (Int × Int) → St
 | (v0, v1) => ref04Parse_R5 p0 v0 v1
def ref04Parse_b5 (p0 : ByteArray) : (Int × Int) → Option ((Int × Int) ⊕ ((Int × Int × UInt8) ⊕ (Int × Int × UInt8 × UInt8) ⊕ (Int × Int)))
 | (v0, v1) =>
 bif (decide (v1 < (p0.size : Int))) then (
 (gtS p0 v1).bind fun b_1 =>
 bif (decide ((b_1.toNat : Int) < (48 : Int))) then (
 some (.inr (.inl (v0, v1, b_1)))
 ) else (
 (gtS p0 v1).bind fun b_2 =>
 bif (decide ((b_2.toNat : Int) > (55 : Int))) then (
 some (.inr (.inr (.inl (v0, v1, b_1, b_2))))
 ) else (
 (gtS p0 v1).bind fun b_3 =>
 some (.inl ((w64 ((w64 ((8 : Int) * v0)) + (IntKind.wrap .i64 (IntKind.wrap .u8 ((b_3.toNat : Int) - (48 : Int)))))), (w64 (v1 + (1 : Int)))))
 )
 )
 ) else (
 some (.inr (.inr (.inr ((v0, v1)))))
 )
set_option maxRecDepth 100000 in
theorem ref04Parse_t5 (k : Nat) (p0 : ByteArray) (a a1 : (Int × Int)) (h : ref04Parse_b5 p0 a = some (.inl a1)) : ∃ σ, run1 k 47 0 39 ref04Parse_L5 (ref04Parse_S5 p0 a) = some (.normal, σ) ∧ canonS 0 [0, 4, 5] σ = some (ref04Parse_S5 p0 a1) := by
  obtain ⟨v0, v1⟩ := a
  unfold ref04Parse_b5 at h
  try dsimp only at h
  rcases bif_some h with ⟨q1, h⟩ | ⟨q1, h⟩
  · obtain ⟨b_1, q2, h⟩ := bnd_some h
    rcases bif_some h with ⟨q3, h⟩ | ⟨q3, h⟩
    · cases h
    · obtain ⟨b_2, q4, h⟩ := bnd_some h
      rcases bif_some h with ⟨q5, h⟩ | ⟨q5, h⟩
      · cases h
      · obtain ⟨b_3, q6, h⟩ := bnd_some h
        obtain rfl := Sum.inl.inj (Option.some.inj h)
        exact ⟨_, run_go (k := k) (f := 47) (r0 := 0) (nt := 39) (c := ref04Parse_L5) (σ := (ref04Parse_S5 p0 (v0, v1))) (adv [([], 5, 3, .eq (pB true)), ([], 7, 2, .chr b_1), ([], 7, 4, .eq (pB false)), ([], 7, 7, .chr b_2), ([], 7, 9, .eq (pB false)), ([], 9, 4, .chr b_3)]) (ex := .normal) (by kernel_rfl) (by kernel_rfl) (allC (cg q1) (allC q2 (allC (cg q3) (allC q4 (allC (cg q5) (allC q6 allN)))))), (by kernel_rfl)⟩
  · cases h
def ref04Parse (s : ByteArray) : Option (Int × Bool) :=
 bif (decide ((s.size : Int) < (1 : Int))) then (
 some ((0 : Int), false)
 ) else (
 bif (decide ((s.size : Int) > (2 : Int))) then (
 some ((0 : Int), false)
 ) else (
 (iterN (ref04Parse_b5 s) LF ((0 : Int), (0 : Int))).bind fun X_1 => match X_1 with
 | .inl (v_1, v_2, b_1) => (
 some ((0 : Int), false)
 )
 | .inr (.inl (v_1, v_2, b_1, b_2)) => (
 some ((0 : Int), false)
 )
 | .inr (.inr ((v_1, v_2))) => (
 some (v_1, true)
 )
 )
 )
set_option maxRecDepth 100000 in
theorem ref04Parse_ok (k : Nat) (s : ByteArray) (r : (Int × Bool)) (h : ref04Parse s = some r) : run0 (k + 1) 47 [(pS s)] = some (.tup [(pI r.1), (pB r.2)]) := by
  unfold ref04Parse at h
  rcases bif_some h with ⟨q1, h⟩ | ⟨q1, h⟩
  · obtain rfl := Option.some.inj h
    exact ret_go (k := k) Tryz.func47 Tryz.ntmps47 (by kernel_rfl) (by kernel_rfl) (lb rfl) (adv [([], 1, 3, .eq (pB true))]) (ex := .ret) (r := (.tup [(pI (0 : Int)), (pB false)])) (by kernel_rfl) rfl (by kernel_rfl) (allC (cg q1) allN) (by kernel_rfl) allN
  · rcases bif_some h with ⟨q2, h⟩ | ⟨q2, h⟩
    · obtain rfl := Option.some.inj h
      exact ret_go (k := k) Tryz.func47 Tryz.ntmps47 (by kernel_rfl) (by kernel_rfl) (lb rfl) (adv [([], 1, 3, .eq (pB false)), ([], 1, 7, .eq (pB true))]) (ex := .ret) (r := (.tup [(pI (0 : Int)), (pB false)])) (by kernel_rfl) rfl (by kernel_rfl) (allC (cg q1) (allC (cg q2) allN)) (by kernel_rfl) allN
    · obtain ⟨X_1, q3, h⟩ := bnd_some h
      obtain ⟨a_1, q4, q5⟩ := loop_iter (f := run1 k 47 0 39 ref04Parse_L5) (ref04Parse_S5 s) (ref04Parse_b5 s) (ref04Parse_t5 k s) LF ((0 : Int), (0 : Int)) _ (stOf (goStop k 47 0 39 (adv [([], 1, 3, .eq (pB false)), ([], 1, 7, .eq (pB false))]) 5 (codeOf Tryz.f47) (argS 47 [(pS s)]))) q3 (by kernel_rfl)
      obtain ⟨v_1, v_2⟩ := a_1
      unfold ref04Parse_b5 at q4
      try dsimp only at q4
      rcases bif_some q4 with ⟨q8, q4⟩ | ⟨q8, q4⟩
      · obtain ⟨b_1, q9, q4⟩ := bnd_some q4
        rcases bif_some q4 with ⟨q10, q4⟩ | ⟨q10, q4⟩
        · cases q4
          try dsimp only at h
          have q6 := run_go (k := k) (f := 47) (r0 := 0) (nt := 39) (c := ref04Parse_L5) (σ := (ref04Parse_S5 s (v_1, v_2))) (adv [([], 5, 3, .eq (pB true)), ([], 7, 2, .chr b_1), ([], 7, 4, .eq (pB true))]) (ex := .ret) (by kernel_rfl) (by kernel_rfl) (allC (cg q8) (allC q9 (allC (cg q10) allN)))
          have q7 := q5 _ _ (by intro e; cases e) q6
          obtain rfl := Option.some.inj h
          exact ret_go (k := k) Tryz.func47 Tryz.ntmps47 (by kernel_rfl) (by kernel_rfl) (lb rfl) (adv [([], 1, 3, .eq (pB false)), ([], 1, 7, .eq (pB false))] [([], 5, .ret, (stOf (go k 47 0 39 (adv [([], 5, 3, .eq (pB true)), ([], 7, 2, .chr b_1), ([], 7, 4, .eq (pB true))]) ref04Parse_L5 (ref04Parse_S5 s (v_1, v_2)))))]) (ex := .ret) (r := (.tup [(pI (0 : Int)), (pB false)])) (by kernel_rfl) rfl (by kernel_rfl) (allC (cg q1) (allC (cg q2) (allC q7 allN))) (by kernel_rfl) allN
        · obtain ⟨b_2, q11, q4⟩ := bnd_some q4
          rcases bif_some q4 with ⟨q12, q4⟩ | ⟨q12, q4⟩
          · cases q4
            try dsimp only at h
            have q6 := run_go (k := k) (f := 47) (r0 := 0) (nt := 39) (c := ref04Parse_L5) (σ := (ref04Parse_S5 s (v_1, v_2))) (adv [([], 5, 3, .eq (pB true)), ([], 7, 2, .chr b_1), ([], 7, 4, .eq (pB false)), ([], 7, 7, .chr b_2), ([], 7, 9, .eq (pB true))]) (ex := .ret) (by kernel_rfl) (by kernel_rfl) (allC (cg q8) (allC q9 (allC (cg q10) (allC q11 (allC (cg q12) allN)))))
            have q7 := q5 _ _ (by intro e; cases e) q6
            obtain rfl := Option.some.inj h
            exact ret_go (k := k) Tryz.func47 Tryz.ntmps47 (by kernel_rfl) (by kernel_rfl) (lb rfl) (adv [([], 1, 3, .eq (pB false)), ([], 1, 7, .eq (pB false))] [([], 5, .ret, (stOf (go k 47 0 39 (adv [([], 5, 3, .eq (pB true)), ([], 7, 2, .chr b_1), ([], 7, 4, .eq (pB false)), ([], 7, 7, .chr b_2), ([], 7, 9, .eq (pB true))]) ref04Parse_L5 (ref04Parse_S5 s (v_1, v_2)))))]) (ex := .ret) (r := (.tup [(pI (0 : Int)), (pB false)])) (by kernel_rfl) rfl (by kernel_rfl) (allC (cg q1) (allC (cg q2) (allC q7 allN))) (by kernel_rfl) allN
          · obtain ⟨b_3, q13, q4⟩ := bnd_some q4
            cases q4
      · cases q4
        try dsimp only at h
        have q6 := run_go (k := k) (f := 47) (r0 := 0) (nt := 39) (c := ref04Parse_L5) (σ := (ref04Parse_S5 s (v_1, v_2))) (adv [([], 5, 3, .eq (pB false))]) (ex := (.exit 0)) (by kernel_rfl) (by kernel_rfl) (allC (cg q8) allN)
        have q7 := q5 _ _ (by intro e; cases e) q6
        obtain rfl := Option.some.inj h
        exact ret_go (k := k) Tryz.func47 Tryz.ntmps47 (by kernel_rfl) (by kernel_rfl) (lb rfl) (adv [([], 1, 3, .eq (pB false)), ([], 1, 7, .eq (pB false))] [([], 5, (.exit 0), (stOf (go k 47 0 39 (adv [([], 5, 3, .eq (pB false))]) ref04Parse_L5 (ref04Parse_S5 s (v_1, v_2)))))]) (ex := .ret) (r := (.tup [(pI v_1), (pB true)])) (by kernel_rfl) rfl (by kernel_rfl) (allC (cg q1) (allC (cg q2) (allC q7 allN))) (by kernel_rfl) allN
def ref18Ask (j : JobD) : Option CalD :=
 (ref18Mine j).bind fun r_1 =>
 bif (!r_1) then (
 some (CalD.mk (0 : Int) (0 : Int) (0 : Int) (0 : Int) (0 : Int) (0 : Int) (bs []) (bs []) (bs []))
 ) else (
 bif (j.phase == (0 : Int)) then (
 some (CalD.mk (12 : Int) (-1 : Int) (0 : Int) (0 : Int) (0 : Int) (0 : Int) j.path2 (bs []) (bs []))
 ) else (
 (gt j.names (1 : Int)).bind fun y_1 =>
 (gt j.names (2 : Int)).bind fun y_2 =>
 bif (j.phase == (1 : Int)) then (
 some (CalD.mk (12 : Int) (-1 : Int) (0 : Int) (0 : Int) (0 : Int) (64 : Int) y_1 (bs []) (bs []))
 ) else (
 bif (j.phase == (2 : Int)) then (
 some (CalD.mk (5 : Int) (-1 : Int) (0 : Int) (0 : Int) (63 : Int) (0 : Int) y_2 (bs []) (bs []))
 ) else (
 bif (j.phase == (3 : Int)) then (
 some (CalD.mk (1 : Int) (-1 : Int) (0 : Int) (0 : Int) (0 : Int) (97 : Int) y_1 (bs []) (bs []))
 ) else (
 bif (j.phase == (4 : Int)) then (
 some (CalD.mk (13 : Int) j.fd (0 : Int) (0 : Int) (0 : Int) (0 : Int) (bs []) (bs []) (bs []))
 ) else (
 bif (j.phase == (5 : Int)) then (
 some (CalD.mk (2 : Int) j.fd (0 : Int) (0 : Int) (0 : Int) (0 : Int) (bs []) (bs []) (bs []))
 ) else (
 bif (j.phase == (8 : Int)) then (
 some (CalD.mk (2 : Int) j.fd (0 : Int) (0 : Int) (0 : Int) (0 : Int) (bs []) (bs []) (bs []))
 ) else (
 bif (j.phase == (6 : Int)) then (
 some (CalD.mk (1 : Int) (-1 : Int) (0 : Int) (0 : Int) (0 : Int) (65 : Int) y_1 (bs []) (bs []))
 ) else (
 bif (j.phase == (7 : Int)) then (
 some (CalD.mk (3 : Int) j.fd (0 : Int) (1000 : Int) (0 : Int) (0 : Int) (bs []) (bs []) (bs []))
 ) else (
 bif (j.phase == (9 : Int)) then (
 some (CalD.mk (1 : Int) (-1 : Int) (0 : Int) (0 : Int) (63 : Int) (14 : Int) y_2 (bs []) (bs []))
 ) else (
 bif (j.phase == (10 : Int)) then (
 some (CalD.mk (4 : Int) j.fd (0 : Int) (0 : Int) (0 : Int) (0 : Int) (bs []) (bs []) j.text)
 ) else (
 bif (j.phase == (11 : Int)) then (
 some (CalD.mk (11 : Int) (-1 : Int) (0 : Int) (0 : Int) (0 : Int) (0 : Int) y_1 (bs []) (bs []))
 ) else (
 bif (j.phase == (12 : Int)) then (
 some (CalD.mk (10 : Int) (-1 : Int) (0 : Int) (0 : Int) (0 : Int) (0 : Int) y_2 (bs []) j.text)
 ) else (
 (ref04Parse y_2).bind fun (r_2, r_3) =>
 some (CalD.mk (16 : Int) (-1 : Int) (0 : Int) (0 : Int) r_2 (0 : Int) y_1 (bs []) (bs []))
 )
 )
 )
 )
 )
 )
 )
 )
 )
 )
 )
 )
 )
 )
set_option maxRecDepth 100000 in
theorem ref18Ask_ok (k : Nat) (j : JobD) (r : CalD) (h : ref18Ask j = some r) : run0 (k + 2) 14 [(JobD.a j)] = some (.agg [(pI r.kind), (pI r.fd), (pI r.fd2), (pI r.nF), (pI r.modeF), (pI r.flags), (pS r.path), (pS r.path2), (pS r.data)]) := by
  unfold ref18Ask at h
  obtain ⟨r_1, q1, h⟩ := bnd_some h
  rcases bif_some h with ⟨q2, h⟩ | ⟨q2, h⟩
  · obtain rfl := Option.some.inj h
    exact ret_go (k := (k + 1)) Tryz.func14 Tryz.ntmps14 (by kernel_rfl) (by kernel_rfl) (lb rfl) (adv [([], 1, 1, .ret (pB r_1)), ([], 1, 2, .eq (pB true))]) (ex := .ret) (r := (.agg [(pI (0 : Int)), (pI (0 : Int)), (pI (0 : Int)), (pI (0 : Int)), (pI (0 : Int)), (pI (0 : Int)), (pS (bs [])), (pS (bs [])), (pS (bs []))])) (by kernel_rfl) rfl (by kernel_rfl) (allC (ref18Mine_ok k j _ q1) (allC (cg q2) allN)) (by kernel_rfl) allN
  · rcases bif_some h with ⟨q3, h⟩ | ⟨q3, h⟩
    · obtain rfl := Option.some.inj h
      exact ret_go (k := (k + 1)) Tryz.func14 Tryz.ntmps14 (by kernel_rfl) (by kernel_rfl) (lb rfl) (adv [([], 1, 1, .ret (pB r_1)), ([], 1, 2, .eq (pB false)), ([], 3, 2, .eq (pB true))]) (ex := .ret) (r := (.agg [(pI (12 : Int)), (pI (-1 : Int)), (pI (0 : Int)), (pI (0 : Int)), (pI (0 : Int)), (pI (0 : Int)), (pS j.path2), (pS (bs [])), (pS (bs []))])) (by kernel_rfl) rfl (by kernel_rfl) (allC (ref18Mine_ok k j _ q1) (allC (cg q2) (allC (cg q3) allN))) (by kernel_rfl) allN
    · obtain ⟨y_1, q4, h⟩ := bnd_some h
      obtain ⟨y_2, q5, h⟩ := bnd_some h
      rcases bif_some h with ⟨q6, h⟩ | ⟨q6, h⟩
      · obtain rfl := Option.some.inj h
        exact ret_go (k := (k + 1)) Tryz.func14 Tryz.ntmps14 (by kernel_rfl) (by kernel_rfl) (lb rfl) (adv [([], 1, 1, .ret (pB r_1)), ([], 1, 2, .eq (pB false)), ([], 3, 2, .eq (pB false)), ([], 5, 2, .elem [(pS y_1)]), ([], 6, 2, .elem [(pS y_2)]), ([], 8, 1, .eq (pB true))]) (ex := .ret) (r := (.agg [(pI (12 : Int)), (pI (-1 : Int)), (pI (0 : Int)), (pI (0 : Int)), (pI (0 : Int)), (pI (64 : Int)), (pS y_1), (pS (bs [])), (pS (bs []))])) (by kernel_rfl) rfl (by kernel_rfl) (allC (ref18Mine_ok k j _ q1) (allC (cg q2) (allC (cg q3) (allC (gt_list (c := cS) q4) (allC (gt_list (c := cS) q5) (allC (cg q6) allN)))))) (by kernel_rfl) allN
      · rcases bif_some h with ⟨q7, h⟩ | ⟨q7, h⟩
        · obtain rfl := Option.some.inj h
          exact ret_go (k := (k + 1)) Tryz.func14 Tryz.ntmps14 (by kernel_rfl) (by kernel_rfl) (lb rfl) (adv [([], 1, 1, .ret (pB r_1)), ([], 1, 2, .eq (pB false)), ([], 3, 2, .eq (pB false)), ([], 5, 2, .elem [(pS y_1)]), ([], 6, 2, .elem [(pS y_2)]), ([], 8, 1, .eq (pB false)), ([], 10, 1, .eq (pB true))]) (ex := .ret) (r := (.agg [(pI (5 : Int)), (pI (-1 : Int)), (pI (0 : Int)), (pI (0 : Int)), (pI (63 : Int)), (pI (0 : Int)), (pS y_2), (pS (bs [])), (pS (bs []))])) (by kernel_rfl) rfl (by kernel_rfl) (allC (ref18Mine_ok k j _ q1) (allC (cg q2) (allC (cg q3) (allC (gt_list (c := cS) q4) (allC (gt_list (c := cS) q5) (allC (cg q6) (allC (cg q7) allN))))))) (by kernel_rfl) allN
        · rcases bif_some h with ⟨q8, h⟩ | ⟨q8, h⟩
          · obtain rfl := Option.some.inj h
            exact ret_go (k := (k + 1)) Tryz.func14 Tryz.ntmps14 (by kernel_rfl) (by kernel_rfl) (lb rfl) (adv [([], 1, 1, .ret (pB r_1)), ([], 1, 2, .eq (pB false)), ([], 3, 2, .eq (pB false)), ([], 5, 2, .elem [(pS y_1)]), ([], 6, 2, .elem [(pS y_2)]), ([], 8, 1, .eq (pB false)), ([], 10, 1, .eq (pB false)), ([], 12, 1, .eq (pB true))]) (ex := .ret) (r := (.agg [(pI (1 : Int)), (pI (-1 : Int)), (pI (0 : Int)), (pI (0 : Int)), (pI (0 : Int)), (pI (97 : Int)), (pS y_1), (pS (bs [])), (pS (bs []))])) (by kernel_rfl) rfl (by kernel_rfl) (allC (ref18Mine_ok k j _ q1) (allC (cg q2) (allC (cg q3) (allC (gt_list (c := cS) q4) (allC (gt_list (c := cS) q5) (allC (cg q6) (allC (cg q7) (allC (cg q8) allN)))))))) (by kernel_rfl) allN
          · rcases bif_some h with ⟨q9, h⟩ | ⟨q9, h⟩
            · obtain rfl := Option.some.inj h
              exact ret_go (k := (k + 1)) Tryz.func14 Tryz.ntmps14 (by kernel_rfl) (by kernel_rfl) (lb rfl) (adv [([], 1, 1, .ret (pB r_1)), ([], 1, 2, .eq (pB false)), ([], 3, 2, .eq (pB false)), ([], 5, 2, .elem [(pS y_1)]), ([], 6, 2, .elem [(pS y_2)]), ([], 8, 1, .eq (pB false)), ([], 10, 1, .eq (pB false)), ([], 12, 1, .eq (pB false)), ([], 14, 1, .eq (pB true))]) (ex := .ret) (r := (.agg [(pI (13 : Int)), (pI j.fd), (pI (0 : Int)), (pI (0 : Int)), (pI (0 : Int)), (pI (0 : Int)), (pS (bs [])), (pS (bs [])), (pS (bs []))])) (by kernel_rfl) rfl (by kernel_rfl) (allC (ref18Mine_ok k j _ q1) (allC (cg q2) (allC (cg q3) (allC (gt_list (c := cS) q4) (allC (gt_list (c := cS) q5) (allC (cg q6) (allC (cg q7) (allC (cg q8) (allC (cg q9) allN))))))))) (by kernel_rfl) allN
            · rcases bif_some h with ⟨q10, h⟩ | ⟨q10, h⟩
              · obtain rfl := Option.some.inj h
                exact ret_go (k := (k + 1)) Tryz.func14 Tryz.ntmps14 (by kernel_rfl) (by kernel_rfl) (lb rfl) (adv [([], 1, 1, .ret (pB r_1)), ([], 1, 2, .eq (pB false)), ([], 3, 2, .eq (pB false)), ([], 5, 2, .elem [(pS y_1)]), ([], 6, 2, .elem [(pS y_2)]), ([], 8, 1, .eq (pB false)), ([], 10, 1, .eq (pB false)), ([], 12, 1, .eq (pB false)), ([], 14, 1, .eq (pB false)), ([], 16, 1, .eq (pB true))]) (ex := .ret) (r := (.agg [(pI (2 : Int)), (pI j.fd), (pI (0 : Int)), (pI (0 : Int)), (pI (0 : Int)), (pI (0 : Int)), (pS (bs [])), (pS (bs [])), (pS (bs []))])) (by kernel_rfl) rfl (by kernel_rfl) (allC (ref18Mine_ok k j _ q1) (allC (cg q2) (allC (cg q3) (allC (gt_list (c := cS) q4) (allC (gt_list (c := cS) q5) (allC (cg q6) (allC (cg q7) (allC (cg q8) (allC (cg q9) (allC (cg q10) allN)))))))))) (by kernel_rfl) allN
              · rcases bif_some h with ⟨q11, h⟩ | ⟨q11, h⟩
                · obtain rfl := Option.some.inj h
                  exact ret_go (k := (k + 1)) Tryz.func14 Tryz.ntmps14 (by kernel_rfl) (by kernel_rfl) (lb rfl) (adv [([], 1, 1, .ret (pB r_1)), ([], 1, 2, .eq (pB false)), ([], 3, 2, .eq (pB false)), ([], 5, 2, .elem [(pS y_1)]), ([], 6, 2, .elem [(pS y_2)]), ([], 8, 1, .eq (pB false)), ([], 10, 1, .eq (pB false)), ([], 12, 1, .eq (pB false)), ([], 14, 1, .eq (pB false)), ([], 16, 1, .eq (pB false)), ([], 17, 1, .eq (pB true))]) (ex := .ret) (r := (.agg [(pI (2 : Int)), (pI j.fd), (pI (0 : Int)), (pI (0 : Int)), (pI (0 : Int)), (pI (0 : Int)), (pS (bs [])), (pS (bs [])), (pS (bs []))])) (by kernel_rfl) rfl (by kernel_rfl) (allC (ref18Mine_ok k j _ q1) (allC (cg q2) (allC (cg q3) (allC (gt_list (c := cS) q4) (allC (gt_list (c := cS) q5) (allC (cg q6) (allC (cg q7) (allC (cg q8) (allC (cg q9) (allC (cg q10) (allC (cg q11) allN))))))))))) (by kernel_rfl) allN
                · rcases bif_some h with ⟨q12, h⟩ | ⟨q12, h⟩
                  · obtain rfl := Option.some.inj h
                    exact ret_go (k := (k + 1)) Tryz.func14 Tryz.ntmps14 (by kernel_rfl) (by kernel_rfl) (lb rfl) (adv [([], 1, 1, .ret (pB r_1)), ([], 1, 2, .eq (pB false)), ([], 3, 2, .eq (pB false)), ([], 5, 2, .elem [(pS y_1)]), ([], 6, 2, .elem [(pS y_2)]), ([], 8, 1, .eq (pB false)), ([], 10, 1, .eq (pB false)), ([], 12, 1, .eq (pB false)), ([], 14, 1, .eq (pB false)), ([], 16, 1, .eq (pB false)), ([], 17, 1, .eq (pB false)), ([], 19, 1, .eq (pB true))]) (ex := .ret) (r := (.agg [(pI (1 : Int)), (pI (-1 : Int)), (pI (0 : Int)), (pI (0 : Int)), (pI (0 : Int)), (pI (65 : Int)), (pS y_1), (pS (bs [])), (pS (bs []))])) (by kernel_rfl) rfl (by kernel_rfl) (allC (ref18Mine_ok k j _ q1) (allC (cg q2) (allC (cg q3) (allC (gt_list (c := cS) q4) (allC (gt_list (c := cS) q5) (allC (cg q6) (allC (cg q7) (allC (cg q8) (allC (cg q9) (allC (cg q10) (allC (cg q11) (allC (cg q12) allN)))))))))))) (by kernel_rfl) allN
                  · rcases bif_some h with ⟨q13, h⟩ | ⟨q13, h⟩
                    · obtain rfl := Option.some.inj h
                      exact ret_go (k := (k + 1)) Tryz.func14 Tryz.ntmps14 (by kernel_rfl) (by kernel_rfl) (lb rfl) (adv [([], 1, 1, .ret (pB r_1)), ([], 1, 2, .eq (pB false)), ([], 3, 2, .eq (pB false)), ([], 5, 2, .elem [(pS y_1)]), ([], 6, 2, .elem [(pS y_2)]), ([], 8, 1, .eq (pB false)), ([], 10, 1, .eq (pB false)), ([], 12, 1, .eq (pB false)), ([], 14, 1, .eq (pB false)), ([], 16, 1, .eq (pB false)), ([], 17, 1, .eq (pB false)), ([], 19, 1, .eq (pB false)), ([], 21, 1, .eq (pB true))]) (ex := .ret) (r := (.agg [(pI (3 : Int)), (pI j.fd), (pI (0 : Int)), (pI (1000 : Int)), (pI (0 : Int)), (pI (0 : Int)), (pS (bs [])), (pS (bs [])), (pS (bs []))])) (by kernel_rfl) rfl (by kernel_rfl) (allC (ref18Mine_ok k j _ q1) (allC (cg q2) (allC (cg q3) (allC (gt_list (c := cS) q4) (allC (gt_list (c := cS) q5) (allC (cg q6) (allC (cg q7) (allC (cg q8) (allC (cg q9) (allC (cg q10) (allC (cg q11) (allC (cg q12) (allC (cg q13) allN))))))))))))) (by kernel_rfl) allN
                    · rcases bif_some h with ⟨q14, h⟩ | ⟨q14, h⟩
                      · obtain rfl := Option.some.inj h
                        exact ret_go (k := (k + 1)) Tryz.func14 Tryz.ntmps14 (by kernel_rfl) (by kernel_rfl) (lb rfl) (adv [([], 1, 1, .ret (pB r_1)), ([], 1, 2, .eq (pB false)), ([], 3, 2, .eq (pB false)), ([], 5, 2, .elem [(pS y_1)]), ([], 6, 2, .elem [(pS y_2)]), ([], 8, 1, .eq (pB false)), ([], 10, 1, .eq (pB false)), ([], 12, 1, .eq (pB false)), ([], 14, 1, .eq (pB false)), ([], 16, 1, .eq (pB false)), ([], 17, 1, .eq (pB false)), ([], 19, 1, .eq (pB false)), ([], 21, 1, .eq (pB false)), ([], 23, 1, .eq (pB true))]) (ex := .ret) (r := (.agg [(pI (1 : Int)), (pI (-1 : Int)), (pI (0 : Int)), (pI (0 : Int)), (pI (63 : Int)), (pI (14 : Int)), (pS y_2), (pS (bs [])), (pS (bs []))])) (by kernel_rfl) rfl (by kernel_rfl) (allC (ref18Mine_ok k j _ q1) (allC (cg q2) (allC (cg q3) (allC (gt_list (c := cS) q4) (allC (gt_list (c := cS) q5) (allC (cg q6) (allC (cg q7) (allC (cg q8) (allC (cg q9) (allC (cg q10) (allC (cg q11) (allC (cg q12) (allC (cg q13) (allC (cg q14) allN)))))))))))))) (by kernel_rfl) allN
                      · rcases bif_some h with ⟨q15, h⟩ | ⟨q15, h⟩
                        · obtain rfl := Option.some.inj h
                          exact ret_go (k := (k + 1)) Tryz.func14 Tryz.ntmps14 (by kernel_rfl) (by kernel_rfl) (lb rfl) (adv [([], 1, 1, .ret (pB r_1)), ([], 1, 2, .eq (pB false)), ([], 3, 2, .eq (pB false)), ([], 5, 2, .elem [(pS y_1)]), ([], 6, 2, .elem [(pS y_2)]), ([], 8, 1, .eq (pB false)), ([], 10, 1, .eq (pB false)), ([], 12, 1, .eq (pB false)), ([], 14, 1, .eq (pB false)), ([], 16, 1, .eq (pB false)), ([], 17, 1, .eq (pB false)), ([], 19, 1, .eq (pB false)), ([], 21, 1, .eq (pB false)), ([], 23, 1, .eq (pB false)), ([], 25, 1, .eq (pB true))]) (ex := .ret) (r := (.agg [(pI (4 : Int)), (pI j.fd), (pI (0 : Int)), (pI (0 : Int)), (pI (0 : Int)), (pI (0 : Int)), (pS (bs [])), (pS (bs [])), (pS j.text)])) (by kernel_rfl) rfl (by kernel_rfl) (allC (ref18Mine_ok k j _ q1) (allC (cg q2) (allC (cg q3) (allC (gt_list (c := cS) q4) (allC (gt_list (c := cS) q5) (allC (cg q6) (allC (cg q7) (allC (cg q8) (allC (cg q9) (allC (cg q10) (allC (cg q11) (allC (cg q12) (allC (cg q13) (allC (cg q14) (allC (cg q15) allN))))))))))))))) (by kernel_rfl) allN
                        · rcases bif_some h with ⟨q16, h⟩ | ⟨q16, h⟩
                          · obtain rfl := Option.some.inj h
                            exact ret_go (k := (k + 1)) Tryz.func14 Tryz.ntmps14 (by kernel_rfl) (by kernel_rfl) (lb rfl) (adv [([], 1, 1, .ret (pB r_1)), ([], 1, 2, .eq (pB false)), ([], 3, 2, .eq (pB false)), ([], 5, 2, .elem [(pS y_1)]), ([], 6, 2, .elem [(pS y_2)]), ([], 8, 1, .eq (pB false)), ([], 10, 1, .eq (pB false)), ([], 12, 1, .eq (pB false)), ([], 14, 1, .eq (pB false)), ([], 16, 1, .eq (pB false)), ([], 17, 1, .eq (pB false)), ([], 19, 1, .eq (pB false)), ([], 21, 1, .eq (pB false)), ([], 23, 1, .eq (pB false)), ([], 25, 1, .eq (pB false)), ([], 27, 1, .eq (pB true))]) (ex := .ret) (r := (.agg [(pI (11 : Int)), (pI (-1 : Int)), (pI (0 : Int)), (pI (0 : Int)), (pI (0 : Int)), (pI (0 : Int)), (pS y_1), (pS (bs [])), (pS (bs []))])) (by kernel_rfl) rfl (by kernel_rfl) (allC (ref18Mine_ok k j _ q1) (allC (cg q2) (allC (cg q3) (allC (gt_list (c := cS) q4) (allC (gt_list (c := cS) q5) (allC (cg q6) (allC (cg q7) (allC (cg q8) (allC (cg q9) (allC (cg q10) (allC (cg q11) (allC (cg q12) (allC (cg q13) (allC (cg q14) (allC (cg q15) (allC (cg q16) allN)))))))))))))))) (by kernel_rfl) allN
                          · rcases bif_some h with ⟨q17, h⟩ | ⟨q17, h⟩
                            · obtain rfl := Option.some.inj h
                              exact ret_go (k := (k + 1)) Tryz.func14 Tryz.ntmps14 (by kernel_rfl) (by kernel_rfl) (lb rfl) (adv [([], 1, 1, .ret (pB r_1)), ([], 1, 2, .eq (pB false)), ([], 3, 2, .eq (pB false)), ([], 5, 2, .elem [(pS y_1)]), ([], 6, 2, .elem [(pS y_2)]), ([], 8, 1, .eq (pB false)), ([], 10, 1, .eq (pB false)), ([], 12, 1, .eq (pB false)), ([], 14, 1, .eq (pB false)), ([], 16, 1, .eq (pB false)), ([], 17, 1, .eq (pB false)), ([], 19, 1, .eq (pB false)), ([], 21, 1, .eq (pB false)), ([], 23, 1, .eq (pB false)), ([], 25, 1, .eq (pB false)), ([], 27, 1, .eq (pB false)), ([], 29, 1, .eq (pB true))]) (ex := .ret) (r := (.agg [(pI (10 : Int)), (pI (-1 : Int)), (pI (0 : Int)), (pI (0 : Int)), (pI (0 : Int)), (pI (0 : Int)), (pS y_2), (pS (bs [])), (pS j.text)])) (by kernel_rfl) rfl (by kernel_rfl) (allC (ref18Mine_ok k j _ q1) (allC (cg q2) (allC (cg q3) (allC (gt_list (c := cS) q4) (allC (gt_list (c := cS) q5) (allC (cg q6) (allC (cg q7) (allC (cg q8) (allC (cg q9) (allC (cg q10) (allC (cg q11) (allC (cg q12) (allC (cg q13) (allC (cg q14) (allC (cg q15) (allC (cg q16) (allC (cg q17) allN))))))))))))))))) (by kernel_rfl) allN
                            · obtain ⟨⟨r_2, r_3⟩, q18, h⟩ := bnd_some h
                              try dsimp only at h
                              obtain rfl := Option.some.inj h
                              exact ret_go (k := (k + 1)) Tryz.func14 Tryz.ntmps14 (by kernel_rfl) (by kernel_rfl) (lb rfl) (adv [([], 1, 1, .ret (pB r_1)), ([], 1, 2, .eq (pB false)), ([], 3, 2, .eq (pB false)), ([], 5, 2, .elem [(pS y_1)]), ([], 6, 2, .elem [(pS y_2)]), ([], 8, 1, .eq (pB false)), ([], 10, 1, .eq (pB false)), ([], 12, 1, .eq (pB false)), ([], 14, 1, .eq (pB false)), ([], 16, 1, .eq (pB false)), ([], 17, 1, .eq (pB false)), ([], 19, 1, .eq (pB false)), ([], 21, 1, .eq (pB false)), ([], 23, 1, .eq (pB false)), ([], 25, 1, .eq (pB false)), ([], 27, 1, .eq (pB false)), ([], 29, 1, .eq (pB false)), ([], 31, 1, .ret (.tup [(pI r_2), (pB r_3)]))]) (ex := .ret) (r := (.agg [(pI (16 : Int)), (pI (-1 : Int)), (pI (0 : Int)), (pI (0 : Int)), (pI r_2), (pI (0 : Int)), (pS y_1), (pS (bs [])), (pS (bs []))])) (by kernel_rfl) rfl (by kernel_rfl) (allC (ref18Mine_ok k j _ q1) (allC (cg q2) (allC (cg q3) (allC (gt_list (c := cS) q4) (allC (gt_list (c := cS) q5) (allC (cg q6) (allC (cg q7) (allC (cg q8) (allC (cg q9) (allC (cg q10) (allC (cg q11) (allC (cg q12) (allC (cg q13) (allC (cg q14) (allC (cg q15) (allC (cg q16) (allC (cg q17) (allC (ref04Parse_ok k y_2 _ q18) allN)))))))))))))))))) (by kernel_rfl) allN
def ref01Base (p : ByteArray) : Option ByteArray :=
 (ref01Split p).bind fun (r_1, r_2, r_3) =>
 bif (seq p (bs [])) then (
 some (bs [])
 ) else (
 bif ((r_1.length : Int) == (0 : Int)) then (
 some (bs [47])
 ) else (
 (gt r_1 (w64 ((r_1.length : Int) - (1 : Int)))).bind fun y_1 =>
 some y_1
 )
 )
set_option maxRecDepth 100000 in
theorem ref01Base_ok (k : Nat) (p : ByteArray) (r : ByteArray) (h : ref01Base p = some r) : run0 (k + 2) 50 [(pS p)] = some (pS r) := by
  unfold ref01Base at h
  obtain ⟨⟨r_1, r_2, r_3⟩, q1, h⟩ := bnd_some h
  try dsimp only at h
  rcases bif_some h with ⟨q2, h⟩ | ⟨q2, h⟩
  · obtain rfl := Option.some.inj h
    exact ret_go (k := (k + 1)) Tryz.func50 Tryz.ntmps50 (by kernel_rfl) (by kernel_rfl) (lb rfl) (adv [([], 1, 1, .ret (.tup [(.list 1 false (r_1.map cS)), (pB r_2), (pB r_3)])), ([], 2, 1, .eq (pB true))]) (ex := .ret) (r := (pS (bs []))) (by kernel_rfl) rfl (by kernel_rfl) (allC (ref01Split_ok k p _ q1) (allC (cg q2) allN)) (by kernel_rfl) allN
  · rcases bif_some h with ⟨q3, h⟩ | ⟨q3, h⟩
    · obtain rfl := Option.some.inj h
      exact ret_go (k := (k + 1)) Tryz.func50 Tryz.ntmps50 (by kernel_rfl) (by kernel_rfl) (lb rfl) (adv [([], 1, 1, .ret (.tup [(.list 1 false (r_1.map cS)), (pB r_2), (pB r_3)])), ([], 2, 1, .eq (pB false)), ([], 4, 1, .eq (pI (r_1.length : Int))), ([], 4, 2, .eq (pB true))]) (ex := .ret) (r := (pS (bs [47]))) (by kernel_rfl) rfl (by kernel_rfl) (allC (ref01Split_ok k p _ q1) (allC (cg q2) (allC (len_ob (rfl : (r_1.map cS) = r_1.map cS)) (allC (cg q3) allN)))) (by kernel_rfl) allN
    · obtain ⟨y_1, q4, h⟩ := bnd_some h
      obtain rfl := Option.some.inj h
      exact ret_go (k := (k + 1)) Tryz.func50 Tryz.ntmps50 (by kernel_rfl) (by kernel_rfl) (lb rfl) (adv [([], 1, 1, .ret (.tup [(.list 1 false (r_1.map cS)), (pB r_2), (pB r_3)])), ([], 2, 1, .eq (pB false)), ([], 4, 1, .eq (pI (r_1.length : Int))), ([], 4, 2, .eq (pB false)), ([], 6, 2, .eq (pI (r_1.length : Int))), ([], 6, 4, .elem [(pS y_1)])]) (ex := .ret) (r := (pS y_1)) (by kernel_rfl) rfl (by kernel_rfl) (allC (ref01Split_ok k p _ q1) (allC (cg q2) (allC (len_ob (rfl : (r_1.map cS) = r_1.map cS)) (allC (cg q3) (allC (len_ob (rfl : (r_1.map cS) = r_1.map cS)) (allC (gt_list (c := cS) q4) allN)))))) (by kernel_rfl) allN
def ref01Join (a : ByteArray) (b : ByteArray) : Option ByteArray :=
 bif (seq a (bs [])) then (
 some b
 ) else (
 bif (!(seq b (bs []))) then (
 (gtS b (0 : Int)).bind fun b_1 =>
 bif ((b_1.toNat : Int) == (47 : Int)) then (
 some b
 ) else (
 bif (seq b (bs [])) then (
 some a
 ) else (
 (gtS a (w64 ((a.size : Int) - (1 : Int)))).bind fun b_2 =>
 bif ((b_2.toNat : Int) == (47 : Int)) then (
 grd (¬ (((a.size + b.size : Nat) : Int) > IntKind.i64.max)) <|
 some (a ++ b)
 ) else (
 grd (¬ (((a.size + (bs [47]).size : Nat) : Int) > IntKind.i64.max)) <|
 grd (¬ ((((a ++ (bs [47])).size + b.size : Nat) : Int) > IntKind.i64.max)) <|
 some ((a ++ (bs [47])) ++ b)
 )
 )
 )
 ) else (
 bif (seq b (bs [])) then (
 some a
 ) else (
 (gtS a (w64 ((a.size : Int) - (1 : Int)))).bind fun b_1 =>
 bif ((b_1.toNat : Int) == (47 : Int)) then (
 grd (¬ (((a.size + b.size : Nat) : Int) > IntKind.i64.max)) <|
 some (a ++ b)
 ) else (
 grd (¬ (((a.size + (bs [47]).size : Nat) : Int) > IntKind.i64.max)) <|
 grd (¬ ((((a ++ (bs [47])).size + b.size : Nat) : Int) > IntKind.i64.max)) <|
 some ((a ++ (bs [47])) ++ b)
 )
 )
 )
 )
set_option maxRecDepth 100000 in
theorem ref01Join_ok (k : Nat) (a : ByteArray) (b : ByteArray) (r : ByteArray) (h : ref01Join a b = some r) : run0 (k + 1) 49 [(pS a), (pS b)] = some (pS r) := by
  unfold ref01Join at h
  rcases bif_some h with ⟨q1, h⟩ | ⟨q1, h⟩
  · obtain rfl := Option.some.inj h
    exact ret_go (k := k) Tryz.func49 Tryz.ntmps49 (by kernel_rfl) (by kernel_rfl) (lb rfl) (adv [([], 1, 2, .eq (pB true))]) (ex := .ret) (r := (pS b)) (by kernel_rfl) rfl (by kernel_rfl) (allC (cg q1) allN) (by kernel_rfl) allN
  · rcases bif_some h with ⟨q2, h⟩ | ⟨q2, h⟩
    · obtain ⟨b_1, q3, h⟩ := bnd_some h
      rcases bif_some h with ⟨q4, h⟩ | ⟨q4, h⟩
      · obtain rfl := Option.some.inj h
        exact ret_go (k := k) Tryz.func49 Tryz.ntmps49 (by kernel_rfl) (by kernel_rfl) (lb rfl) (adv [([], 1, 2, .eq (pB false)), ([], 1, 5, .eq (pB true)), ([], 1, 7, .chr b_1), ([], 1, 10, .eq (pB true))]) (ex := .ret) (r := (pS b)) (by kernel_rfl) rfl (by kernel_rfl) (allC (cg q1) (allC (cg q2) (allC q3 (allC (cg q4) allN)))) (by kernel_rfl) allN
      · rcases bif_some h with ⟨q5, h⟩ | ⟨q5, h⟩
        · obtain rfl := Option.some.inj h
          exact ret_go (k := k) Tryz.func49 Tryz.ntmps49 (by kernel_rfl) (by kernel_rfl) (lb rfl) (adv [([], 1, 2, .eq (pB false)), ([], 1, 5, .eq (pB true)), ([], 1, 7, .chr b_1), ([], 1, 10, .eq (pB false)), ([], 3, 1, .eq (pB true))]) (ex := .ret) (r := (pS a)) (by kernel_rfl) rfl (by kernel_rfl) (allC (cg q1) (allC (cg q2) (allC q3 (allC (cg q4) (allC (cg q5) allN))))) (by kernel_rfl) allN
        · obtain ⟨b_2, q6, h⟩ := bnd_some h
          rcases bif_some h with ⟨q7, h⟩ | ⟨q7, h⟩
          · obtain ⟨q8, h⟩ := grd_some h
            obtain rfl := Option.some.inj h
            exact ret_go (k := k) Tryz.func49 Tryz.ntmps49 (by kernel_rfl) (by kernel_rfl) (lb rfl) (adv [([], 1, 2, .eq (pB false)), ([], 1, 5, .eq (pB true)), ([], 1, 7, .chr b_1), ([], 1, 10, .eq (pB false)), ([], 3, 1, .eq (pB false)), ([], 5, 4, .chr b_2), ([], 5, 5, .eq (pB true)), ([], 6, 2, .cat)]) (ex := .ret) (r := (pS (a ++ b))) (by kernel_rfl) rfl (by kernel_rfl) (allC (cg q1) (allC (cg q2) (allC q3 (allC (cg q4) (allC (cg q5) (allC q6 (allC (cg q7) (allC q8 allN)))))))) (by kernel_rfl) allN
          · obtain ⟨q8, h⟩ := grd_some h
            obtain ⟨q9, h⟩ := grd_some h
            obtain rfl := Option.some.inj h
            exact ret_go (k := k) Tryz.func49 Tryz.ntmps49 (by kernel_rfl) (by kernel_rfl) (lb rfl) (adv [([], 1, 2, .eq (pB false)), ([], 1, 5, .eq (pB true)), ([], 1, 7, .chr b_1), ([], 1, 10, .eq (pB false)), ([], 3, 1, .eq (pB false)), ([], 5, 4, .chr b_2), ([], 5, 5, .eq (pB false)), ([], 7, 1, .cat), ([], 7, 3, .cat)]) (ex := .ret) (r := (pS ((a ++ (bs [47])) ++ b))) (by kernel_rfl) rfl (by kernel_rfl) (allC (cg q1) (allC (cg q2) (allC q3 (allC (cg q4) (allC (cg q5) (allC q6 (allC (cg q7) (allC q8 (allC q9 allN))))))))) (by kernel_rfl) allN
    · rcases bif_some h with ⟨q3, h⟩ | ⟨q3, h⟩
      · obtain rfl := Option.some.inj h
        exact ret_go (k := k) Tryz.func49 Tryz.ntmps49 (by kernel_rfl) (by kernel_rfl) (lb rfl) (adv [([], 1, 2, .eq (pB false)), ([], 1, 5, .eq (pB false)), ([], 3, 1, .eq (pB true))]) (ex := .ret) (r := (pS a)) (by kernel_rfl) rfl (by kernel_rfl) (allC (cg q1) (allC (cg q2) (allC (cg q3) allN))) (by kernel_rfl) allN
      · obtain ⟨b_1, q4, h⟩ := bnd_some h
        rcases bif_some h with ⟨q5, h⟩ | ⟨q5, h⟩
        · obtain ⟨q6, h⟩ := grd_some h
          obtain rfl := Option.some.inj h
          exact ret_go (k := k) Tryz.func49 Tryz.ntmps49 (by kernel_rfl) (by kernel_rfl) (lb rfl) (adv [([], 1, 2, .eq (pB false)), ([], 1, 5, .eq (pB false)), ([], 3, 1, .eq (pB false)), ([], 5, 4, .chr b_1), ([], 5, 5, .eq (pB true)), ([], 6, 2, .cat)]) (ex := .ret) (r := (pS (a ++ b))) (by kernel_rfl) rfl (by kernel_rfl) (allC (cg q1) (allC (cg q2) (allC (cg q3) (allC q4 (allC (cg q5) (allC q6 allN)))))) (by kernel_rfl) allN
        · obtain ⟨q6, h⟩ := grd_some h
          obtain ⟨q7, h⟩ := grd_some h
          obtain rfl := Option.some.inj h
          exact ret_go (k := k) Tryz.func49 Tryz.ntmps49 (by kernel_rfl) (by kernel_rfl) (lb rfl) (adv [([], 1, 2, .eq (pB false)), ([], 1, 5, .eq (pB false)), ([], 3, 1, .eq (pB false)), ([], 5, 4, .chr b_1), ([], 5, 5, .eq (pB false)), ([], 7, 1, .cat), ([], 7, 3, .cat)]) (ex := .ret) (r := (pS ((a ++ (bs [47])) ++ b))) (by kernel_rfl) rfl (by kernel_rfl) (allC (cg q1) (allC (cg q2) (allC (cg q3) (allC q4 (allC (cg q5) (allC q6 (allC q7 allN))))))) (by kernel_rfl) allN
end Go.Proofs.YtdbekeidlppfiaaGreatDoor.Den
namespace Go.Proofs.YtdbekeidlppfiaaGreatDoor.Den
open Go Go.RowKit
def ref18Target (j : JobD) (path : ByteArray) : Option JobD :=
 some (JobD.mk j.kind j.p (1 : Int) j.fd j.nF j.modeF j.tries j.atF j.flags j.path j.path2 j.text ([(bs [99, 111, 112, 121]), j.path, path]) j.stack j.draws j.done j.exit j.out j.e)
set_option maxRecDepth 100000 in
theorem ref18Target_ok (k : Nat) (j : JobD) (path : ByteArray) (r : JobD) (h : ref18Target j path = some r) : run0 (k + 1) 48 [(JobD.a j), (pS path)] = some (JobD.a r) := by
  unfold ref18Target at h
  obtain rfl := Option.some.inj h
  exact ret_go (k := k) Tryz.func48 Tryz.ntmps48 (by kernel_rfl) (by kernel_rfl) (lb rfl) (adv []) (ex := .ret) (r := (.agg [(pI j.kind), (pI j.p), (pI (1 : Int)), (pI j.fd), (pI j.nF), (pI j.modeF), (pI j.tries), (pI j.atF), (pI j.flags), (pS j.path), (pS j.path2), (pS j.text), (.list 1 false [[(pS (bs [99, 111, 112, 121]))], [(pS j.path)], [(pS path)]]), (.list 3 false (j.stack.map FrameD.c)), (.list 1 false (j.draws.map cI)), (pB j.done), (pI j.exit), (pS j.out), (pI j.e)])) (by kernel_rfl) rfl (by kernel_rfl) allN (by kernel_rfl) (allC (⟨rfl, rfl⟩ : (0 : Nat) = 0 ∧ (3 : Nat) = 3) allN)
def ref15End (j : JobD) (out : ByteArray) : Option JobD :=
 some (JobD.mk j.kind j.p j.phase j.fd j.nF j.modeF j.tries j.atF j.flags j.path j.path2 j.text j.names j.stack j.draws true (0 : Int) out j.e)
set_option maxRecDepth 100000 in
theorem ref15End_ok (k : Nat) (j : JobD) (out : ByteArray) (r : JobD) (h : ref15End j out = some r) : run0 (k + 1) 83 [(JobD.a j), (pS out)] = some (JobD.a r) := by
  unfold ref15End at h
  obtain rfl := Option.some.inj h
  exact ret_go (k := k) Tryz.func83 Tryz.ntmps83 (by kernel_rfl) (by kernel_rfl) (lb rfl) (adv []) (ex := .ret) (r := (.agg [(pI j.kind), (pI j.p), (pI j.phase), (pI j.fd), (pI j.nF), (pI j.modeF), (pI j.tries), (pI j.atF), (pI j.flags), (pS j.path), (pS j.path2), (pS j.text), (.list 1 false (j.names.map cS)), (.list 3 false (j.stack.map FrameD.c)), (.list 1 false (j.draws.map cI)), (pB true), (pI (0 : Int)), (pS out), (pI j.e)])) (by kernel_rfl) rfl (by kernel_rfl) allN (by kernel_rfl) allN
def ref18On (j : JobD) : Option JobD :=
 bif (decide ((j.names.length : Int) < (3 : Int))) then (
 (ref15End j (bs [])).bind fun r_1 =>
 some r_1
 ) else (
 (gt j.names (0 : Int)).bind fun y_1 =>
 bif (seq y_1 (bs [99, 111, 112, 121])) then (
 some (JobD.mk j.kind j.p (1 : Int) j.fd j.nF j.modeF j.tries j.atF j.flags j.path j.path2 j.text j.names j.stack j.draws j.done j.exit j.out j.e)
 ) else (
 some (JobD.mk j.kind j.p (13 : Int) j.fd j.nF j.modeF j.tries j.atF j.flags j.path j.path2 j.text j.names j.stack j.draws j.done j.exit j.out j.e)
 )
 )
set_option maxRecDepth 100000 in
theorem ref18On_ok (k : Nat) (j : JobD) (r : JobD) (h : ref18On j = some r) : run0 (k + 2) 51 [(JobD.a j)] = some (JobD.a r) := by
  unfold ref18On at h
  rcases bif_some h with ⟨q1, h⟩ | ⟨q1, h⟩
  · obtain ⟨r_1, q2, h⟩ := bnd_some h
    obtain rfl := Option.some.inj h
    exact ret_go (k := (k + 1)) Tryz.func51 Tryz.ntmps51 (by kernel_rfl) (by kernel_rfl) (lb rfl) (adv [([], 1, 2, .eq (pI (j.names.length : Int))), ([], 1, 3, .eq (pB true)), ([], 2, 1, .ret (JobD.a r_1))]) (ex := .ret) (r := (JobD.a r_1)) (by kernel_rfl) rfl (by kernel_rfl) (allC (len_ob (rfl : (j.names.map cS) = j.names.map cS)) (allC (cg q1) (allC (ref15End_ok k j (bs []) _ q2) allN))) (by kernel_rfl) allN
  · obtain ⟨y_1, q2, h⟩ := bnd_some h
    rcases bif_some h with ⟨q3, h⟩ | ⟨q3, h⟩
    · obtain rfl := Option.some.inj h
      exact ret_go (k := (k + 1)) Tryz.func51 Tryz.ntmps51 (by kernel_rfl) (by kernel_rfl) (lb rfl) (adv [([], 1, 2, .eq (pI (j.names.length : Int))), ([], 1, 3, .eq (pB false)), ([], 4, 2, .elem [(pS y_1)]), ([], 4, 4, .eq (pB true))]) (ex := .ret) (r := (.agg [(pI j.kind), (pI j.p), (pI (1 : Int)), (pI j.fd), (pI j.nF), (pI j.modeF), (pI j.tries), (pI j.atF), (pI j.flags), (pS j.path), (pS j.path2), (pS j.text), (.list 1 false (j.names.map cS)), (.list 3 false (j.stack.map FrameD.c)), (.list 1 false (j.draws.map cI)), (pB j.done), (pI j.exit), (pS j.out), (pI j.e)])) (by kernel_rfl) rfl (by kernel_rfl) (allC (len_ob (rfl : (j.names.map cS) = j.names.map cS)) (allC (cg q1) (allC (gt_list (c := cS) q2) (allC (cg q3) allN)))) (by kernel_rfl) allN
    · obtain rfl := Option.some.inj h
      exact ret_go (k := (k + 1)) Tryz.func51 Tryz.ntmps51 (by kernel_rfl) (by kernel_rfl) (lb rfl) (adv [([], 1, 2, .eq (pI (j.names.length : Int))), ([], 1, 3, .eq (pB false)), ([], 4, 2, .elem [(pS y_1)]), ([], 4, 4, .eq (pB false))]) (ex := .ret) (r := (.agg [(pI j.kind), (pI j.p), (pI (13 : Int)), (pI j.fd), (pI j.nF), (pI j.modeF), (pI j.tries), (pI j.atF), (pI j.flags), (pS j.path), (pS j.path2), (pS j.text), (.list 1 false (j.names.map cS)), (.list 3 false (j.stack.map FrameD.c)), (.list 1 false (j.draws.map cI)), (pB j.done), (pI j.exit), (pS j.out), (pI j.e)])) (by kernel_rfl) rfl (by kernel_rfl) (allC (len_ob (rfl : (j.names.map cS) = j.names.map cS)) (allC (cg q1) (allC (gt_list (c := cS) q2) (allC (cg q3) allN)))) (by kernel_rfl) allN
def ref18Seen (j : JobD) (rF : ReplyD) : Option JobD :=
 bif (rF.i.kind == (2 : Int)) then (
 bif (j.flags == (1 : Int)) then (
 some (JobD.mk j.kind j.p (2 : Int) j.fd j.nF rF.i.modeF j.tries j.atF j.flags j.path j.path2 j.text j.names j.stack j.draws j.done j.exit j.out j.e)
 ) else (
 bif (rF.i.kind == (2 : Int)) then (
 (gt j.names (1 : Int)).bind fun y_1 =>
 (ref15Fail (JobD.mk j.kind j.p j.phase j.fd j.nF rF.i.modeF j.tries j.atF j.flags j.path j.path2 j.text j.names j.stack j.draws j.done j.exit j.out j.e) y_1 (5 : Int)).bind fun r_1 =>
 some r_1
 ) else (
 bif (rF.i.kind == (3 : Int)) then (
 some (JobD.mk j.kind j.p (11 : Int) j.fd j.nF rF.i.modeF j.tries j.atF j.flags j.path j.path2 j.text j.names j.stack j.draws j.done j.exit j.out j.e)
 ) else (
 some (JobD.mk j.kind j.p (6 : Int) j.fd j.nF rF.i.modeF j.tries j.atF j.flags j.path j.path2 j.text j.names j.stack j.draws j.done j.exit j.out j.e)
 )
 )
 )
 ) else (
 bif (rF.i.kind == (2 : Int)) then (
 (gt j.names (1 : Int)).bind fun y_1 =>
 (ref15Fail (JobD.mk j.kind j.p j.phase j.fd j.nF rF.i.modeF j.tries j.atF j.flags j.path j.path2 j.text j.names j.stack j.draws j.done j.exit j.out j.e) y_1 (5 : Int)).bind fun r_1 =>
 some r_1
 ) else (
 bif (rF.i.kind == (3 : Int)) then (
 some (JobD.mk j.kind j.p (11 : Int) j.fd j.nF rF.i.modeF j.tries j.atF j.flags j.path j.path2 j.text j.names j.stack j.draws j.done j.exit j.out j.e)
 ) else (
 some (JobD.mk j.kind j.p (6 : Int) j.fd j.nF rF.i.modeF j.tries j.atF j.flags j.path j.path2 j.text j.names j.stack j.draws j.done j.exit j.out j.e)
 )
 )
 )
set_option maxRecDepth 100000 in
theorem ref18Seen_ok (k : Nat) (j : JobD) (rF : ReplyD) (r : JobD) (h : ref18Seen j rF = some r) : run0 (k + 4) 52 [(JobD.a j), (.agg [(pI rF.e), (pI rF.nF), (pS rF.s), (.list 1 false (rF.l.map cS)), (pI rF.i.ino), (pI rF.i.kind), (pI rF.i.modeF), (pI rF.i.owner), (pI rF.i.links), (pI rF.i.size)])] = some (JobD.a r) := by
  unfold ref18Seen at h
  rcases bif_some h with ⟨q1, h⟩ | ⟨q1, h⟩
  · rcases bif_some h with ⟨q2, h⟩ | ⟨q2, h⟩
    · obtain rfl := Option.some.inj h
      exact ret_go (k := (k + 3)) Tryz.func52 Tryz.ntmps52 (by kernel_rfl) (by kernel_rfl) (lb rfl) (adv [([], 3, 4, .eq (pB true)), ([], 3, 9, .eq (pB true))]) (ex := .ret) (r := (.agg [(pI j.kind), (pI j.p), (pI (2 : Int)), (pI j.fd), (pI j.nF), (pI rF.i.modeF), (pI j.tries), (pI j.atF), (pI j.flags), (pS j.path), (pS j.path2), (pS j.text), (.list 1 false (j.names.map cS)), (.list 3 false (j.stack.map FrameD.c)), (.list 1 false (j.draws.map cI)), (pB j.done), (pI j.exit), (pS j.out), (pI j.e)])) (by kernel_rfl) rfl (by kernel_rfl) (allC (cg q1) (allC (cg q2) allN)) (by kernel_rfl) allN
    · rcases bif_some h with ⟨q3, h⟩ | ⟨q3, h⟩
      · obtain ⟨y_1, q4, h⟩ := bnd_some h
        obtain ⟨r_1, q5, h⟩ := bnd_some h
        obtain rfl := Option.some.inj h
        exact ret_go (k := (k + 3)) Tryz.func52 Tryz.ntmps52 (by kernel_rfl) (by kernel_rfl) (lb rfl) (adv [([], 3, 4, .eq (pB true)), ([], 3, 9, .eq (pB false)), ([], 5, 4, .eq (pB true)), ([], 6, 3, .elem [(pS y_1)]), ([], 6, 5, .ret (JobD.a r_1))]) (ex := .ret) (r := (JobD.a r_1)) (by kernel_rfl) rfl (by kernel_rfl) (allC (cg q1) (allC (cg q2) (allC (cg q3) (allC (gt_list (c := cS) q4) (allC (ref15Fail_ok k (JobD.mk j.kind j.p j.phase j.fd j.nF rF.i.modeF j.tries j.atF j.flags j.path j.path2 j.text j.names j.stack j.draws j.done j.exit j.out j.e) y_1 (5 : Int) _ q5) allN))))) (by kernel_rfl) allN
      · rcases bif_some h with ⟨q4, h⟩ | ⟨q4, h⟩
        · obtain rfl := Option.some.inj h
          exact ret_go (k := (k + 3)) Tryz.func52 Tryz.ntmps52 (by kernel_rfl) (by kernel_rfl) (lb rfl) (adv [([], 3, 4, .eq (pB true)), ([], 3, 9, .eq (pB false)), ([], 5, 4, .eq (pB false)), ([], 7, 4, .eq (pB true))]) (ex := .ret) (r := (.agg [(pI j.kind), (pI j.p), (pI (11 : Int)), (pI j.fd), (pI j.nF), (pI rF.i.modeF), (pI j.tries), (pI j.atF), (pI j.flags), (pS j.path), (pS j.path2), (pS j.text), (.list 1 false (j.names.map cS)), (.list 3 false (j.stack.map FrameD.c)), (.list 1 false (j.draws.map cI)), (pB j.done), (pI j.exit), (pS j.out), (pI j.e)])) (by kernel_rfl) rfl (by kernel_rfl) (allC (cg q1) (allC (cg q2) (allC (cg q3) (allC (cg q4) allN)))) (by kernel_rfl) allN
        · obtain rfl := Option.some.inj h
          exact ret_go (k := (k + 3)) Tryz.func52 Tryz.ntmps52 (by kernel_rfl) (by kernel_rfl) (lb rfl) (adv [([], 3, 4, .eq (pB true)), ([], 3, 9, .eq (pB false)), ([], 5, 4, .eq (pB false)), ([], 7, 4, .eq (pB false))]) (ex := .ret) (r := (.agg [(pI j.kind), (pI j.p), (pI (6 : Int)), (pI j.fd), (pI j.nF), (pI rF.i.modeF), (pI j.tries), (pI j.atF), (pI j.flags), (pS j.path), (pS j.path2), (pS j.text), (.list 1 false (j.names.map cS)), (.list 3 false (j.stack.map FrameD.c)), (.list 1 false (j.draws.map cI)), (pB j.done), (pI j.exit), (pS j.out), (pI j.e)])) (by kernel_rfl) rfl (by kernel_rfl) (allC (cg q1) (allC (cg q2) (allC (cg q3) (allC (cg q4) allN)))) (by kernel_rfl) allN
  · rcases bif_some h with ⟨q2, h⟩ | ⟨q2, h⟩
    · obtain ⟨y_1, q3, h⟩ := bnd_some h
      obtain ⟨r_1, q4, h⟩ := bnd_some h
      obtain rfl := Option.some.inj h
      exact ret_go (k := (k + 3)) Tryz.func52 Tryz.ntmps52 (by kernel_rfl) (by kernel_rfl) (lb rfl) (adv [([], 3, 4, .eq (pB false)), ([], 5, 4, .eq (pB true)), ([], 6, 3, .elem [(pS y_1)]), ([], 6, 5, .ret (JobD.a r_1))]) (ex := .ret) (r := (JobD.a r_1)) (by kernel_rfl) rfl (by kernel_rfl) (allC (cg q1) (allC (cg q2) (allC (gt_list (c := cS) q3) (allC (ref15Fail_ok k (JobD.mk j.kind j.p j.phase j.fd j.nF rF.i.modeF j.tries j.atF j.flags j.path j.path2 j.text j.names j.stack j.draws j.done j.exit j.out j.e) y_1 (5 : Int) _ q4) allN)))) (by kernel_rfl) allN
    · rcases bif_some h with ⟨q3, h⟩ | ⟨q3, h⟩
      · obtain rfl := Option.some.inj h
        exact ret_go (k := (k + 3)) Tryz.func52 Tryz.ntmps52 (by kernel_rfl) (by kernel_rfl) (lb rfl) (adv [([], 3, 4, .eq (pB false)), ([], 5, 4, .eq (pB false)), ([], 7, 4, .eq (pB true))]) (ex := .ret) (r := (.agg [(pI j.kind), (pI j.p), (pI (11 : Int)), (pI j.fd), (pI j.nF), (pI rF.i.modeF), (pI j.tries), (pI j.atF), (pI j.flags), (pS j.path), (pS j.path2), (pS j.text), (.list 1 false (j.names.map cS)), (.list 3 false (j.stack.map FrameD.c)), (.list 1 false (j.draws.map cI)), (pB j.done), (pI j.exit), (pS j.out), (pI j.e)])) (by kernel_rfl) rfl (by kernel_rfl) (allC (cg q1) (allC (cg q2) (allC (cg q3) allN))) (by kernel_rfl) allN
      · obtain rfl := Option.some.inj h
        exact ret_go (k := (k + 3)) Tryz.func52 Tryz.ntmps52 (by kernel_rfl) (by kernel_rfl) (lb rfl) (adv [([], 3, 4, .eq (pB false)), ([], 5, 4, .eq (pB false)), ([], 7, 4, .eq (pB false))]) (ex := .ret) (r := (.agg [(pI j.kind), (pI j.p), (pI (6 : Int)), (pI j.fd), (pI j.nF), (pI rF.i.modeF), (pI j.tries), (pI j.atF), (pI j.flags), (pS j.path), (pS j.path2), (pS j.text), (.list 1 false (j.names.map cS)), (.list 3 false (j.stack.map FrameD.c)), (.list 1 false (j.draws.map cI)), (pB j.done), (pI j.exit), (pS j.out), (pI j.e)])) (by kernel_rfl) rfl (by kernel_rfl) (allC (cg q1) (allC (cg q2) (allC (cg q3) allN))) (by kernel_rfl) allN
def ref04Digit (n : Int) : Option ByteArray :=
 grd (0 ≤ n ∧ n ≤ (w64 (n + (1 : Int))) ∧ (w64 (n + (1 : Int))) ≤ ((bs [48, 49, 50, 51, 52, 53, 54, 55]).size : Int)) <|
 some ((bs [48, 49, 50, 51, 52, 53, 54, 55]).extract (n).toNat ((w64 (n + (1 : Int)))).toNat)
set_option maxRecDepth 100000 in
theorem ref04Digit_ok (k : Nat) (n : Int) (r : ByteArray) (h : ref04Digit n = some r) : run0 (k + 1) 84 [(pI n)] = some (pS r) := by
  unfold ref04Digit at h
  obtain ⟨q1, h⟩ := grd_some h
  obtain rfl := Option.some.inj h
  exact ret_go (k := k) Tryz.func84 Tryz.ntmps84 (by kernel_rfl) (by kernel_rfl) (lb rfl) (adv [([], 1, 3, .sub false)]) (ex := .ret) (r := (pS ((bs [48, 49, 50, 51, 52, 53, 54, 55]).extract (n).toNat ((w64 (n + (1 : Int)))).toNat))) (by kernel_rfl) rfl (by kernel_rfl) (allC q1 allN) (by kernel_rfl) allN
def ref04Print (m : Int) : Option ByteArray :=
 (ref04Digit (IntKind.wrap .i64 (Int.tdiv (bits .and .i64 m (63 : Int)) (8 : Int)))).bind fun r_1 =>
 (ref04Digit (Int.tmod (bits .and .i64 m (63 : Int)) (8 : Int))).bind fun r_2 =>
 grd (¬ (((r_1.size + r_2.size : Nat) : Int) > IntKind.i64.max)) <|
 some (r_1 ++ r_2)
set_option maxRecDepth 100000 in
theorem ref04Print_ok (k : Nat) (m : Int) (r : ByteArray) (h : ref04Print m = some r) : run0 (k + 2) 54 [(pI m)] = some (pS r) := by
  unfold ref04Print at h
  obtain ⟨r_1, q1, h⟩ := bnd_some h
  obtain ⟨r_2, q2, h⟩ := bnd_some h
  obtain ⟨q3, h⟩ := grd_some h
  obtain rfl := Option.some.inj h
  exact ret_go (k := (k + 1)) Tryz.func54 Tryz.ntmps54 (by kernel_rfl) (by kernel_rfl) (lb rfl) (adv [([], 2, 2, .ret (pS r_1)), ([], 2, 5, .ret (pS r_2)), ([], 2, 6, .cat)]) (ex := .ret) (r := (pS (r_1 ++ r_2))) (by kernel_rfl) rfl (by kernel_rfl) (allC (ref04Digit_ok k (IntKind.wrap .i64 (Int.tdiv (bits .and .i64 m (63 : Int)) (8 : Int))) _ q1) (allC (ref04Digit_ok k (Int.tmod (bits .and .i64 m (63 : Int)) (8 : Int)) _ q2) (allC q3 allN))) (by kernel_rfl) allN
noncomputable def ref18Spread_L3 : Code := cAt (codeOf Tryz.f53) [true, true, false, true, false, false]
def ref18Spread_R3 (x0 : List (List PV)) (x1 : Nat) (x2 : Int) (x3 : Int) (x4 : Int) (x5 : Int) (x6 : Int) (x7 : Int) (x8 : Int) (x9 : Int) (x10 : Int) (x11 : Int) (x12 : ByteArray) (x13 : ByteArray) (x14 : ByteArray) (x15 : List (List PV)) (x16 : List (List PV)) (x17 : List (List PV)) (x18 : Bool) (x19 : Int) (x20 : ByteArray) (x21 : Int) (x22 : List (List PV)) : St := ⟨envL [(1, (.list 1 false x0)), (2, (.ptr [0, TAG] 1 0 0)), (4, (.ptr [1, TAG] 1 0 0)), (5, (.row [2, TAG] 1 0 x1)), (6, (pI x2))], hsL [some ⟨19, 34, [[(pI x3), (pI x4), (pI x5), (pI x6), (pI x7), (pI x8), (pI x9), (pI x10), (pI x11), (pS x12), (pS x13), (pS x14), (.list 1 false x15), (.list 3 false x16), (.list 1 false x17), (pB x18), (pI x19), (pS x20), (pI x21)]], true, false⟩, some ⟨19, 34, [[(pI (0 : Int)), (pI (0 : Int)), (pI (0 : Int)), (pI (0 : Int)), (pI (0 : Int)), (pI (0 : Int)), (pI (0 : Int)), (pI (0 : Int)), (pI (0 : Int)), (pS (bs [])), (pS (bs [])), (pS (bs [])), (.v (.slice none 0 0)), (.v (.slice none 0 0)), (.v (.slice none 0 0)), (pB false), (pI (0 : Int)), (pS (bs [])), (pI (0 : Int))]], true, false⟩, some ⟨1, 9, x22, true, true⟩] [0, 0, 0]⟩
theorem ref18Spread_R3_eq {x0 y0 : List (List PV)} {x1 y1 : Nat} {x2 y2 : Int} {x3 y3 : Int} {x4 y4 : Int} {x5 y5 : Int} {x6 y6 : Int} {x7 y7 : Int} {x8 y8 : Int} {x9 y9 : Int} {x10 y10 : Int} {x11 y11 : Int} {x12 y12 : ByteArray} {x13 y13 : ByteArray} {x14 y14 : ByteArray} {x15 y15 : List (List PV)} {x16 y16 : List (List PV)} {x17 y17 : List (List PV)} {x18 y18 : Bool} {x19 y19 : Int} {x20 y20 : ByteArray} {x21 y21 : Int} {x22 y22 : List (List PV)} (h0 : x0 = y0) (h1 : x1 = y1) (h2 : x2 = y2) (h3 : x3 = y3) (h4 : x4 = y4) (h5 : x5 = y5) (h6 : x6 = y6) (h7 : x7 = y7) (h8 : x8 = y8) (h9 : x9 = y9) (h10 : x10 = y10) (h11 : x11 = y11) (h12 : x12 = y12) (h13 : x13 = y13) (h14 : x14 = y14) (h15 : x15 = y15) (h16 : x16 = y16) (h17 : x17 = y17) (h18 : x18 = y18) (h19 : x19 = y19) (h20 : x20 = y20) (h21 : x21 = y21) (h22 : x22 = y22) : ref18Spread_R3 x0 x1 x2 x3 x4 x5 x6 x7 x8 x9 x10 x11 x12 x13 x14 x15 x16 x17 x18 x19 x20 x21 x22 = ref18Spread_R3 y0 y1 y2 y3 y4 y5 y6 y7 y8 y9 y10 y11 y12 y13 y14 y15 y16 y17 y18 y19 y20 y21 y22 := by
  subst h0 h1 h2 h3 h4 h5 h6 h7 h8 h9 h10 h11 h12 h13 h14 h15 h16 h17 h18 h19 h20 h21 h22; rfl
def ref18Spread_S3 (p0 : (List ByteArray)) (p1 : Int) (p2 : Int) (p3 : Int) (p4 : Int) (p5 : Int) (p6 : Int) (p7 : Int) (p8 : Int) (p9 : Int) (p10 : ByteArray) (p11 : ByteArray) (p12 : ByteArray) (p13 : (List ByteArray)) (p14 : (List FrameD)) (p15 : (List Int)) (p16 : Bool) (p17 : Int) (p18 : ByteArray) (p19 : Int) : (Int × (List ByteArray)) → St
 | (v0, v1) => ref18Spread_R3 (p0.map cS) v1.length v0 p1 p2 p3 p4 p5 p6 p7 p8 p9 p10 p11 p12 (p13.map cS) (p14.map FrameD.c) (p15.map cI) p16 p17 p18 p19 (v1.map cS)
def ref18Spread_b3 (p0 : (List ByteArray)) (p1 : Int) (p2 : Int) (p3 : Int) (p4 : Int) (p5 : Int) (p6 : Int) (p7 : Int) (p8 : Int) (p9 : Int) (p10 : ByteArray) (p11 : ByteArray) (p12 : ByteArray) (p13 : (List ByteArray)) (p14 : (List FrameD)) (p15 : (List Int)) (p16 : Bool) (p17 : Int) (p18 : ByteArray) (p19 : Int) : (Int × (List ByteArray)) → Option ((Int × (List ByteArray)) ⊕ (Int × (List ByteArray)))
 | (v0, v1) =>
 bif (decide (v0 < (p0.length : Int))) then (
 (gt p13 (1 : Int)).bind fun y_1 =>
 (gt p0 v0).bind fun y_2 =>
 (ref01Join y_1 y_2).bind fun r_1 =>
 (gt p13 (2 : Int)).bind fun y_3 =>
 (gt p0 v0).bind fun y_4 =>
 (ref01Join y_3 y_4).bind fun r_2 =>
 grd (room (v1.length + 3) 16) <|
 some (.inl ((w64 (v0 + (1 : Int))), (v1 ++ [(bs [99, 111, 112, 121]), r_1, r_2])))
 ) else (
 some (.inr (v0, v1))
 )
set_option maxRecDepth 100000 in
theorem ref18Spread_t3 (k : Nat) (p0 : (List ByteArray)) (p1 : Int) (p2 : Int) (p3 : Int) (p4 : Int) (p5 : Int) (p6 : Int) (p7 : Int) (p8 : Int) (p9 : Int) (p10 : ByteArray) (p11 : ByteArray) (p12 : ByteArray) (p13 : (List ByteArray)) (p14 : (List FrameD)) (p15 : (List Int)) (p16 : Bool) (p17 : Int) (p18 : ByteArray) (p19 : Int) (a a1 : (Int × (List ByteArray))) (h : ref18Spread_b3 p0 p1 p2 p3 p4 p5 p6 p7 p8 p9 p10 p11 p12 p13 p14 p15 p16 p17 p18 p19 a = some (.inl a1)) : ∃ σ, run1 (k + 2) 53 0 53 ref18Spread_L3 (ref18Spread_S3 p0 p1 p2 p3 p4 p5 p6 p7 p8 p9 p10 p11 p12 p13 p14 p15 p16 p17 p18 p19 a) = some (.normal, σ) ∧ canonS 0 [1, 2, 4, 5, 6] σ = some (ref18Spread_S3 p0 p1 p2 p3 p4 p5 p6 p7 p8 p9 p10 p11 p12 p13 p14 p15 p16 p17 p18 p19 a1) := by
  obtain ⟨v0, v1⟩ := a
  unfold ref18Spread_b3 at h
  try dsimp only at h
  rcases bif_some h with ⟨q1, h⟩ | ⟨q1, h⟩
  · obtain ⟨y_1, q2, h⟩ := bnd_some h
    obtain ⟨y_2, q3, h⟩ := bnd_some h
    obtain ⟨r_1, q4, h⟩ := bnd_some h
    obtain ⟨y_3, q5, h⟩ := bnd_some h
    obtain ⟨y_4, q6, h⟩ := bnd_some h
    obtain ⟨r_2, q7, h⟩ := bnd_some h
    obtain ⟨q8, h⟩ := grd_some h
    obtain rfl := Sum.inl.inj (Option.some.inj h)
    exact ⟨_, run_go (k := (k + 2)) (f := 53) (r0 := 0) (nt := 53) (c := ref18Spread_L3) (σ := (ref18Spread_S3 p0 p1 p2 p3 p4 p5 p6 p7 p8 p9 p10 p11 p12 p13 p14 p15 p16 p17 p18 p19 (v0, v1))) (adv [([], 3, 2, .eq (pI (p0.length : Int))), ([], 3, 3, .eq (pB true)), ([], 5, 3, .elem [(pS y_1)]), ([], 5, 7, .elem [(pS y_2)]), ([], 5, 9, .ret (pS r_1)), ([], 5, 12, .elem [(pS y_3)]), ([], 5, 16, .elem [(pS y_4)]), ([], 5, 18, .ret (pS r_2)), ([], 5, 20, .ok)]) (ex := .normal) (by kernel_rfl) (by kernel_rfl) (allC (len_ob (rfl : (p0.map cS) = p0.map cS)) (allC (cg q1) (allC (gt_list (c := cS) q2) (allC (gt_list (c := cS) q3) (allC (ref01Join_ok (k + 1) y_1 y_2 _ q4) (allC (gt_list (c := cS) q5) (allC (gt_list (c := cS) q5) (allC (gt_list (c := cS) q6) (allC (gt_list (c := cS) q6) (allC (ref01Join_ok (k + 1) y_3 y_4 _ q7) (allC (app_ok (rfl : (v1.map cS) = v1.map cS) (rfl : v1.length = v1.length) q8) allN))))))))))), (Eq.trans (b := some (ref18Spread_R3 (p0.map cS) (v1.length + 3) (w64 (v0 + (1 : Int))) p1 p2 p3 p4 p5 p6 p7 p8 p9 p10 p11 p12 (p13.map cS) (p14.map FrameD.c) (p15.map cI) p16 p17 p18 p19 ((v1.map cS) ++ [[(pS (bs [99, 111, 112, 121]))], [(pS r_1)], [(pS r_2)]]))) (by kernel_rfl) (congrArg some ((ref18Spread_R3_eq (rfl : (p0.map cS) = (p0.map cS)) ((len_cat (rfl : v1.length = v1.length) v1 (rfl : 3 = ([(bs [99, 111, 112, 121]), r_1, r_2]).length)) : (v1.length + 3) = ((v1 ++ [(bs [99, 111, 112, 121]), r_1, r_2]).length)) (rfl : (w64 (v0 + (1 : Int))) = (w64 (v0 + (1 : Int)))) (rfl : p1 = p1) (rfl : p2 = p2) (rfl : p3 = p3) (rfl : p4 = p4) (rfl : p5 = p5) (rfl : p6 = p6) (rfl : p7 = p7) (rfl : p8 = p8) (rfl : p9 = p9) (rfl : p10 = p10) (rfl : p11 = p11) (rfl : p12 = p12) (rfl : (p13.map cS) = (p13.map cS)) (rfl : (p14.map FrameD.c) = (p14.map FrameD.c)) (rfl : (p15.map cI) = (p15.map cI)) (rfl : p16 = p16) (rfl : p17 = p17) (rfl : p18 = p18) (rfl : p19 = p19) ((enc_cat (rfl : (v1.map cS) = v1.map cS) (show [[(pS (bs [99, 111, 112, 121]))], [(pS r_1)], [(pS r_2)]] = ([(bs [99, 111, 112, 121]), r_1, r_2]).map cS from rfl)) : ((v1.map cS) ++ [[(pS (bs [99, 111, 112, 121]))], [(pS r_1)], [(pS r_2)]]) = ((v1 ++ [(bs [99, 111, 112, 121]), r_1, r_2]).map cS))).trans (by kernel_rfl : ref18Spread_R3 (p0.map cS) ((v1 ++ [(bs [99, 111, 112, 121]), r_1, r_2]).length) (w64 (v0 + (1 : Int))) p1 p2 p3 p4 p5 p6 p7 p8 p9 p10 p11 p12 (p13.map cS) (p14.map FrameD.c) (p15.map cI) p16 p17 p18 p19 ((v1 ++ [(bs [99, 111, 112, 121]), r_1, r_2]).map cS) = ref18Spread_S3 p0 p1 p2 p3 p4 p5 p6 p7 p8 p9 p10 p11 p12 p13 p14 p15 p16 p17 p18 p19 ((w64 (v0 + (1 : Int))), (v1 ++ [(bs [99, 111, 112, 121]), r_1, r_2]))))))⟩
  · cases h
def ref18Spread (j : JobD) (names : (List ByteArray)) : Option JobD :=
 (iterN (ref18Spread_b3 names j.kind j.p j.phase j.fd j.nF j.modeF j.tries j.atF j.flags j.path j.path2 j.text j.names j.stack j.draws j.done j.exit j.out j.e) LF ((0 : Int), ([] : (List ByteArray)))).bind fun (v_1, v_2) =>
 (gt j.names (2 : Int)).bind fun y_5 =>
 (ref04Print j.modeF).bind fun r_3 =>
 grd (room (v_2.length + 3) 16) <|
 grd (0 ≤ (3 : Int) ∧ (3 : Int) ≤ (j.names.length : Int) ∧ (j.names.length : Int) ≤ (j.names.length : Int)) <|
 grd (room ((v_2 ++ [(bs [109, 111, 100, 101]), y_5, r_3]).length + (j.names.drop (((3 : Int)).toNat)).length) 16) <|
 some (JobD.mk j.kind j.p (5 : Int) j.fd j.nF j.modeF j.tries j.atF j.flags j.path j.path2 j.text ((v_2 ++ [(bs [109, 111, 100, 101]), y_5, r_3]) ++ (j.names.drop (((3 : Int)).toNat))) j.stack j.draws j.done j.exit j.out j.e)
set_option maxRecDepth 100000 in
theorem ref18Spread_ok (k : Nat) (j : JobD) (names : (List ByteArray)) (r : JobD) (h : ref18Spread j names = some r) : run0 (k + 3) 53 [(JobD.a j), (.list 1 false (names.map cS))] = some (JobD.a r) := by
  unfold ref18Spread at h
  obtain ⟨X_1, q1, h⟩ := bnd_some h
  obtain ⟨a_1, q2, q3⟩ := loop_iter (f := run1 (k + 2) 53 0 53 ref18Spread_L3) (ref18Spread_S3 names j.kind j.p j.phase j.fd j.nF j.modeF j.tries j.atF j.flags j.path j.path2 j.text j.names j.stack j.draws j.done j.exit j.out j.e) (ref18Spread_b3 names j.kind j.p j.phase j.fd j.nF j.modeF j.tries j.atF j.flags j.path j.path2 j.text j.names j.stack j.draws j.done j.exit j.out j.e) (ref18Spread_t3 k names j.kind j.p j.phase j.fd j.nF j.modeF j.tries j.atF j.flags j.path j.path2 j.text j.names j.stack j.draws j.done j.exit j.out j.e) LF ((0 : Int), ([] : (List ByteArray))) _ (stOf (goStop (k + 2) 53 0 53 (adv []) 3 (codeOf Tryz.f53) (argS 53 [(JobD.a j), (.list 1 false (names.map cS))]))) q1 (Eq.trans (b := some (ref18Spread_R3 (names.map cS) 0 (0 : Int) j.kind j.p j.phase j.fd j.nF j.modeF j.tries j.atF j.flags j.path j.path2 j.text (j.names.map cS) (j.stack.map FrameD.c) (j.draws.map cI) j.done j.exit j.out j.e [])) (by kernel_rfl) (congrArg some ((ref18Spread_R3_eq (rfl : (names.map cS) = (names.map cS)) (rfl : 0 = (([] : (List ByteArray)).length)) (rfl : (0 : Int) = (0 : Int)) (rfl : j.kind = j.kind) (rfl : j.p = j.p) (rfl : j.phase = j.phase) (rfl : j.fd = j.fd) (rfl : j.nF = j.nF) (rfl : j.modeF = j.modeF) (rfl : j.tries = j.tries) (rfl : j.atF = j.atF) (rfl : j.flags = j.flags) (rfl : j.path = j.path) (rfl : j.path2 = j.path2) (rfl : j.text = j.text) (rfl : (j.names.map cS) = (j.names.map cS)) (rfl : (j.stack.map FrameD.c) = (j.stack.map FrameD.c)) (rfl : (j.draws.map cI) = (j.draws.map cI)) (rfl : j.done = j.done) (rfl : j.exit = j.exit) (rfl : j.out = j.out) (rfl : j.e = j.e) (rfl : [] = (([] : (List ByteArray)).map cS))).trans (by kernel_rfl : ref18Spread_R3 (names.map cS) (([] : (List ByteArray)).length) (0 : Int) j.kind j.p j.phase j.fd j.nF j.modeF j.tries j.atF j.flags j.path j.path2 j.text (j.names.map cS) (j.stack.map FrameD.c) (j.draws.map cI) j.done j.exit j.out j.e (([] : (List ByteArray)).map cS) = ref18Spread_S3 names j.kind j.p j.phase j.fd j.nF j.modeF j.tries j.atF j.flags j.path j.path2 j.text j.names j.stack j.draws j.done j.exit j.out j.e ((0 : Int), ([] : (List ByteArray)))))))
  obtain ⟨v_1, v_2⟩ := a_1
  unfold ref18Spread_b3 at q2
  try dsimp only at q2
  rcases bif_some q2 with ⟨q6, q2⟩ | ⟨q6, q2⟩
  · obtain ⟨y_1, q7, q2⟩ := bnd_some q2
    obtain ⟨y_2, q8, q2⟩ := bnd_some q2
    obtain ⟨r_1, q9, q2⟩ := bnd_some q2
    obtain ⟨y_3, q10, q2⟩ := bnd_some q2
    obtain ⟨y_4, q11, q2⟩ := bnd_some q2
    obtain ⟨r_2, q12, q2⟩ := bnd_some q2
    obtain ⟨q13, q2⟩ := grd_some q2
    cases q2
  · cases q2
    try dsimp only at h
    have q4 := run_go (k := (k + 2)) (f := 53) (r0 := 0) (nt := 53) (c := ref18Spread_L3) (σ := (ref18Spread_S3 names j.kind j.p j.phase j.fd j.nF j.modeF j.tries j.atF j.flags j.path j.path2 j.text j.names j.stack j.draws j.done j.exit j.out j.e (v_1, v_2))) (adv [([], 3, 2, .eq (pI (names.length : Int))), ([], 3, 3, .eq (pB false))]) (ex := (.exit 0)) (by kernel_rfl) (by kernel_rfl) (allC (len_ob (rfl : (names.map cS) = names.map cS)) (allC (cg q6) allN))
    have q5 := q3 _ _ (by intro e; cases e) q4
    obtain ⟨y_5, q14, h⟩ := bnd_some h
    obtain ⟨r_3, q15, h⟩ := bnd_some h
    obtain ⟨q16, h⟩ := grd_some h
    obtain ⟨q17, h⟩ := grd_some h
    obtain ⟨q18, h⟩ := grd_some h
    obtain rfl := Option.some.inj h
    exact (ret_go (k := (k + 2)) Tryz.func53 Tryz.ntmps53 (by kernel_rfl) (by kernel_rfl) (lb rfl) (adv [([], 6, 3, .elem [(pS y_5)]), ([], 6, 7, .ret (pS r_3)), ([], 6, 9, .ok), ([], 7, 3, .sub false), ([], 7, 4, .ok)] [([], 3, (.exit 0), (stOf (go (k + 2) 53 0 53 (adv [([], 3, 2, .eq (pI (names.length : Int))), ([], 3, 3, .eq (pB false))]) ref18Spread_L3 (ref18Spread_S3 names j.kind j.p j.phase j.fd j.nF j.modeF j.tries j.atF j.flags j.path j.path2 j.text j.names j.stack j.draws j.done j.exit j.out j.e (v_1, v_2)))))]) (ex := .ret) (r := (.agg [(pI j.kind), (pI j.p), (pI (5 : Int)), (pI j.fd), (pI j.nF), (pI j.modeF), (pI j.tries), (pI j.atF), (pI j.flags), (pS j.path), (pS j.path2), (pS j.text), (.list 1 false (((v_2.map cS) ++ [[(pS (bs [109, 111, 100, 101]))], [(pS y_5)], [(pS r_3)]]) ++ (((j.names.map cS).drop (((3 : Int)).toNat)).take ((j.names.map cS).length - ((3 : Int)).toNat)))), (.list 3 false (j.stack.map FrameD.c)), (.list 1 false (j.draws.map cI)), (pB j.done), (pI j.exit), (pS j.out), (pI j.e)])) (by kernel_rfl) rfl (by kernel_rfl) (allC q5 (allC (gt_list (c := cS) q14) (allC (gt_list (c := cS) q14) (allC (ref04Print_ok k j.modeF _ q15) (allC (app_ok (rfl : (v_2.map cS) = v_2.map cS) (rfl : v_2.length = v_2.length) q16) (allC (sub_ok1 (c := cS) q17) (allC (app_ok2 ((enc_cat (rfl : (v_2.map cS) = v_2.map cS) (show [[(pS (bs [109, 111, 100, 101]))], [(pS y_5)], [(pS r_3)]] = ([(bs [109, 111, 100, 101]), y_5, r_3]).map cS from rfl)) : ((v_2.map cS) ++ [[(pS (bs [109, 111, 100, 101]))], [(pS y_5)], [(pS r_3)]]) = (v_2 ++ [(bs [109, 111, 100, 101]), y_5, r_3]).map cS) ((len_cat (rfl : v_2.length = v_2.length) v_2 (rfl : 3 = ([(bs [109, 111, 100, 101]), y_5, r_3]).length)) : (v_2.length + 3) = (v_2 ++ [(bs [109, 111, 100, 101]), y_5, r_3]).length) ((enc_drop rfl (((3 : Int)).toNat)) : (((j.names.map cS).drop (((3 : Int)).toNat)).take ((j.names.map cS).length - ((3 : Int)).toNat)) = (j.names.drop (((3 : Int)).toNat)).map cS) q18) allN))))))) (by kernel_rfl) (allC (row_ok ((enc_cat ((enc_cat (rfl : (v_2.map cS) = v_2.map cS) (show [[(pS (bs [109, 111, 100, 101]))], [(pS y_5)], [(pS r_3)]] = ([(bs [109, 111, 100, 101]), y_5, r_3]).map cS from rfl)) : ((v_2.map cS) ++ [[(pS (bs [109, 111, 100, 101]))], [(pS y_5)], [(pS r_3)]]) = (v_2 ++ [(bs [109, 111, 100, 101]), y_5, r_3]).map cS) ((enc_drop rfl (((3 : Int)).toNat)) : (((j.names.map cS).drop (((3 : Int)).toNat)).take ((j.names.map cS).length - ((3 : Int)).toNat)) = (j.names.drop (((3 : Int)).toNat)).map cS)) : (((v_2.map cS) ++ [[(pS (bs [109, 111, 100, 101]))], [(pS y_5)], [(pS r_3)]]) ++ (((j.names.map cS).drop (((3 : Int)).toNat)).take ((j.names.map cS).length - ((3 : Int)).toNat))) = ((v_2 ++ [(bs [109, 111, 100, 101]), y_5, r_3]) ++ (j.names.drop (((3 : Int)).toNat))).map cS) ((len_cat ((len_cat (rfl : v_2.length = v_2.length) v_2 (rfl : 3 = ([(bs [109, 111, 100, 101]), y_5, r_3]).length)) : (v_2.length + 3) = (v_2 ++ [(bs [109, 111, 100, 101]), y_5, r_3]).length) (v_2 ++ [(bs [109, 111, 100, 101]), y_5, r_3]) (enc_len ((enc_drop rfl (((3 : Int)).toNat)) : (((j.names.map cS).drop (((3 : Int)).toNat)).take ((j.names.map cS).length - ((3 : Int)).toNat)) = (j.names.drop (((3 : Int)).toNat)).map cS))) : ((v_2.length + 3) + (((j.names.map cS).drop (((3 : Int)).toNat)).take ((j.names.map cS).length - ((3 : Int)).toNat)).length) = ((v_2 ++ [(bs [109, 111, 100, 101]), y_5, r_3]) ++ (j.names.drop (((3 : Int)).toNat))).length)) allN)).trans (congrArg some (by rw [(show (((v_2.map cS) ++ [[(pS (bs [109, 111, 100, 101]))], [(pS y_5)], [(pS r_3)]]) ++ (((j.names.map cS).drop (((3 : Int)).toNat)).take ((j.names.map cS).length - ((3 : Int)).toNat))) = (((v_2 ++ [(bs [109, 111, 100, 101]), y_5, r_3]) ++ (j.names.drop (((3 : Int)).toNat))).map cS) from (enc_cat ((enc_cat (rfl : (v_2.map cS) = v_2.map cS) (show [[(pS (bs [109, 111, 100, 101]))], [(pS y_5)], [(pS r_3)]] = ([(bs [109, 111, 100, 101]), y_5, r_3]).map cS from rfl)) : ((v_2.map cS) ++ [[(pS (bs [109, 111, 100, 101]))], [(pS y_5)], [(pS r_3)]]) = (v_2 ++ [(bs [109, 111, 100, 101]), y_5, r_3]).map cS) ((enc_drop rfl (((3 : Int)).toNat)) : (((j.names.map cS).drop (((3 : Int)).toNat)).take ((j.names.map cS).length - ((3 : Int)).toNat)) = (j.names.drop (((3 : Int)).toNat)).map cS)))] <;> rfl))
end Go.Proofs.YtdbekeidlppfiaaGreatDoor.Den
namespace Go.Proofs.YtdbekeidlppfiaaGreatDoor.Den
open Go Go.RowKit
def ref18Tell (j : JobD) (rF : ReplyD) : Option JobD :=
 (ref18Mine j).bind fun r_1 =>
 bif (!r_1) then (
 some j
 ) else (
 bif (j.phase == (0 : Int)) then (
 bif (rF.e == (0 : Int)) then (
 bif (rF.i.kind == (2 : Int)) then (
 (ref01Base j.path).bind fun r_2 =>
 (ref01Join j.path2 r_2).bind fun r_3 =>
 (ref18Target j r_3).bind fun r_4 =>
 some r_4
 ) else (
 bif (rF.e == (0 : Int)) then (
 (ref15Fail j j.path2 (3 : Int)).bind fun r_2 =>
 some r_2
 ) else (
 bif (rF.e == (2 : Int)) then (
 (ref18Target j j.path2).bind fun r_2 =>
 some r_2
 ) else (
 (ref15Fail j j.path2 rF.e).bind fun r_2 =>
 some r_2
 )
 )
 )
 ) else (
 bif (rF.e == (0 : Int)) then (
 (ref15Fail j j.path2 (3 : Int)).bind fun r_2 =>
 some r_2
 ) else (
 bif (rF.e == (2 : Int)) then (
 (ref18Target j j.path2).bind fun r_2 =>
 some r_2
 ) else (
 (ref15Fail j j.path2 rF.e).bind fun r_2 =>
 some r_2
 )
 )
 )
 ) else (
 bif (j.phase == (5 : Int)) then (
 (ref18On j).bind fun r_2 =>
 some r_2
 ) else (
 bif (j.phase == (8 : Int)) then (
 some (JobD.mk j.kind j.p (9 : Int) j.fd j.nF j.modeF j.tries j.atF j.flags j.path j.path2 j.text j.names j.stack j.draws j.done j.exit j.out j.e)
 ) else (
 bif (rF.e != (0 : Int)) then (
 (gt j.names (1 : Int)).bind fun y_1 =>
 bif (j.phase == (2 : Int)) then (
 (gt j.names (2 : Int)).bind fun y_2 =>
 (ref15Fail j y_2 rF.e).bind fun r_2 =>
 some r_2
 ) else (
 bif (j.phase == (9 : Int)) then (
 (gt j.names (2 : Int)).bind fun y_2 =>
 (ref15Fail j y_2 rF.e).bind fun r_2 =>
 some r_2
 ) else (
 bif (j.phase == (10 : Int)) then (
 (gt j.names (2 : Int)).bind fun y_2 =>
 (ref15Fail j y_2 rF.e).bind fun r_2 =>
 some r_2
 ) else (
 bif (j.phase == (12 : Int)) then (
 (gt j.names (2 : Int)).bind fun y_2 =>
 (ref15Fail j y_2 rF.e).bind fun r_2 =>
 some r_2
 ) else (
 (ref15Fail j y_1 rF.e).bind fun r_2 =>
 some r_2
 )
 )
 )
 )
 ) else (
 bif (j.phase == (1 : Int)) then (
 (ref18Seen j rF).bind fun r_2 =>
 some r_2
 ) else (
 bif (j.phase == (2 : Int)) then (
 some (JobD.mk j.kind j.p (3 : Int) j.fd j.nF j.modeF j.tries j.atF j.flags j.path j.path2 j.text j.names j.stack j.draws j.done j.exit j.out j.e)
 ) else (
 bif (j.phase == (3 : Int)) then (
 some (JobD.mk j.kind j.p (w64 (j.phase + (1 : Int))) rF.nF j.nF j.modeF j.tries j.atF j.flags j.path j.path2 j.text j.names j.stack j.draws j.done j.exit j.out j.e)
 ) else (
 bif (j.phase == (6 : Int)) then (
 some (JobD.mk j.kind j.p (w64 (j.phase + (1 : Int))) rF.nF j.nF j.modeF j.tries j.atF j.flags j.path j.path2 j.text j.names j.stack j.draws j.done j.exit j.out j.e)
 ) else (
 bif (j.phase == (9 : Int)) then (
 some (JobD.mk j.kind j.p (w64 (j.phase + (1 : Int))) rF.nF j.nF j.modeF j.tries j.atF j.flags j.path j.path2 j.text j.names j.stack j.draws j.done j.exit j.out j.e)
 ) else (
 bif (j.phase == (4 : Int)) then (
 (ref18Spread j rF.l).bind fun r_2 =>
 some r_2
 ) else (
 bif (j.phase == (7 : Int)) then (
 some (JobD.mk j.kind j.p (w64 (j.phase + (1 : Int))) j.fd j.nF j.modeF j.tries j.atF j.flags j.path j.path2 rF.s j.names j.stack j.draws j.done j.exit j.out j.e)
 ) else (
 bif (j.phase == (11 : Int)) then (
 some (JobD.mk j.kind j.p (w64 (j.phase + (1 : Int))) j.fd j.nF j.modeF j.tries j.atF j.flags j.path j.path2 rF.s j.names j.stack j.draws j.done j.exit j.out j.e)
 ) else (
 bif (j.phase == (10 : Int)) then (
 (gt j.names (2 : Int)).bind fun y_1 =>
 (ref04Print j.modeF).bind fun r_2 =>
 grd (0 ≤ (3 : Int) ∧ (3 : Int) ≤ (j.names.length : Int) ∧ (j.names.length : Int) ≤ (j.names.length : Int)) <|
 grd (room (([(bs [109, 111, 100, 101]), y_1, r_2]).length + (j.names.drop (((3 : Int)).toNat)).length) 16) <|
 some (JobD.mk j.kind j.p (5 : Int) j.fd j.nF j.modeF j.tries j.atF j.flags j.path j.path2 j.text ([(bs [109, 111, 100, 101]), y_1, r_2] ++ (j.names.drop (((3 : Int)).toNat))) j.stack j.draws j.done j.exit j.out j.e)
 ) else (
 grd (0 ≤ (3 : Int) ∧ (3 : Int) ≤ (j.names.length : Int) ∧ (j.names.length : Int) ≤ (j.names.length : Int)) <|
 (ref18On (JobD.mk j.kind j.p j.phase j.fd j.nF j.modeF j.tries j.atF j.flags j.path j.path2 j.text (j.names.drop (((3 : Int)).toNat)) j.stack j.draws j.done j.exit j.out j.e)).bind fun r_2 =>
 some r_2
 )
 )
 )
 )
 )
 )
 )
 )
 )
 )
 )
 )
 )
 )
set_option maxRecDepth 100000 in
theorem ref18Tell_ok (k : Nat) (j : JobD) (rF : ReplyD) (r : JobD) (h : ref18Tell j rF = some r) : run0 (k + 5) 15 [(JobD.a j), (.agg [(pI rF.e), (pI rF.nF), (pS rF.s), (.list 1 false (rF.l.map cS)), (pI rF.i.ino), (pI rF.i.kind), (pI rF.i.modeF), (pI rF.i.owner), (pI rF.i.links), (pI rF.i.size)])] = some (JobD.a r) := by
  unfold ref18Tell at h
  obtain ⟨r_1, q1, h⟩ := bnd_some h
  rcases bif_some h with ⟨q2, h⟩ | ⟨q2, h⟩
  · obtain rfl := Option.some.inj h
    exact ret_go (k := (k + 4)) Tryz.func15 Tryz.ntmps15 (by kernel_rfl) (by kernel_rfl) (lb rfl) (adv [([], 1, 1, .ret (pB r_1)), ([], 1, 2, .eq (pB true))]) (ex := .ret) (r := (JobD.a j)) (by kernel_rfl) rfl (by kernel_rfl) (allC (ref18Mine_ok (k + 3) j _ q1) (allC (cg q2) allN)) (by kernel_rfl) allN
  · rcases bif_some h with ⟨q3, h⟩ | ⟨q3, h⟩
    · rcases bif_some h with ⟨q4, h⟩ | ⟨q4, h⟩
      · rcases bif_some h with ⟨q5, h⟩ | ⟨q5, h⟩
        · obtain ⟨r_2, q6, h⟩ := bnd_some h
          obtain ⟨r_3, q7, h⟩ := bnd_some h
          obtain ⟨r_4, q8, h⟩ := bnd_some h
          obtain rfl := Option.some.inj h
          exact ret_go (k := (k + 4)) Tryz.func15 Tryz.ntmps15 (by kernel_rfl) (by kernel_rfl) (lb rfl) (adv [([], 1, 1, .ret (pB r_1)), ([], 1, 2, .eq (pB false)), ([], 4, 1, .eq (pB true)), ([], 5, 3, .eq (pB true)), ([], 5, 8, .eq (pB true)), ([], 6, 5, .ret (pS r_2)), ([], 6, 6, .ret (pS r_3)), ([], 6, 7, .ret (JobD.a r_4))]) (ex := .ret) (r := (JobD.a r_4)) (by kernel_rfl) rfl (by kernel_rfl) (allC (ref18Mine_ok (k + 3) j _ q1) (allC (cg q2) (allC (cg q3) (allC (cg q4) (allC (cg q5) (allC (ref01Base_ok (k + 2) j.path _ q6) (allC (ref01Join_ok (k + 3) j.path2 r_2 _ q7) (allC (ref18Target_ok (k + 3) j r_3 _ q8) allN)))))))) (by kernel_rfl) allN
        · rcases bif_some h with ⟨q6, h⟩ | ⟨q6, h⟩
          · obtain ⟨r_2, q7, h⟩ := bnd_some h
            obtain rfl := Option.some.inj h
            exact ret_go (k := (k + 4)) Tryz.func15 Tryz.ntmps15 (by kernel_rfl) (by kernel_rfl) (lb rfl) (adv [([], 1, 1, .ret (pB r_1)), ([], 1, 2, .eq (pB false)), ([], 4, 1, .eq (pB true)), ([], 5, 3, .eq (pB true)), ([], 5, 8, .eq (pB false)), ([], 7, 2, .eq (pB true)), ([], 8, 3, .ret (JobD.a r_2))]) (ex := .ret) (r := (JobD.a r_2)) (by kernel_rfl) rfl (by kernel_rfl) (allC (ref18Mine_ok (k + 3) j _ q1) (allC (cg q2) (allC (cg q3) (allC (cg q4) (allC (cg q5) (allC (cg q6) (allC (ref15Fail_ok (k + 1) j j.path2 (3 : Int) _ q7) allN))))))) (by kernel_rfl) allN
          · rcases bif_some h with ⟨q7, h⟩ | ⟨q7, h⟩
            · obtain ⟨r_2, q8, h⟩ := bnd_some h
              obtain rfl := Option.some.inj h
              exact ret_go (k := (k + 4)) Tryz.func15 Tryz.ntmps15 (by kernel_rfl) (by kernel_rfl) (lb rfl) (adv [([], 1, 1, .ret (pB r_1)), ([], 1, 2, .eq (pB false)), ([], 4, 1, .eq (pB true)), ([], 5, 3, .eq (pB true)), ([], 5, 8, .eq (pB false)), ([], 7, 2, .eq (pB false)), ([], 9, 2, .eq (pB true)), ([], 10, 3, .ret (JobD.a r_2))]) (ex := .ret) (r := (JobD.a r_2)) (by kernel_rfl) rfl (by kernel_rfl) (allC (ref18Mine_ok (k + 3) j _ q1) (allC (cg q2) (allC (cg q3) (allC (cg q4) (allC (cg q5) (allC (cg q6) (allC (cg q7) (allC (ref18Target_ok (k + 3) j j.path2 _ q8) allN)))))))) (by kernel_rfl) allN
            · obtain ⟨r_2, q8, h⟩ := bnd_some h
              obtain rfl := Option.some.inj h
              exact ret_go (k := (k + 4)) Tryz.func15 Tryz.ntmps15 (by kernel_rfl) (by kernel_rfl) (lb rfl) (adv [([], 1, 1, .ret (pB r_1)), ([], 1, 2, .eq (pB false)), ([], 4, 1, .eq (pB true)), ([], 5, 3, .eq (pB true)), ([], 5, 8, .eq (pB false)), ([], 7, 2, .eq (pB false)), ([], 9, 2, .eq (pB false)), ([], 11, 5, .ret (JobD.a r_2))]) (ex := .ret) (r := (JobD.a r_2)) (by kernel_rfl) rfl (by kernel_rfl) (allC (ref18Mine_ok (k + 3) j _ q1) (allC (cg q2) (allC (cg q3) (allC (cg q4) (allC (cg q5) (allC (cg q6) (allC (cg q7) (allC (ref15Fail_ok (k + 1) j j.path2 rF.e _ q8) allN)))))))) (by kernel_rfl) allN
      · rcases bif_some h with ⟨q5, h⟩ | ⟨q5, h⟩
        · obtain ⟨r_2, q6, h⟩ := bnd_some h
          obtain rfl := Option.some.inj h
          exact ret_go (k := (k + 4)) Tryz.func15 Tryz.ntmps15 (by kernel_rfl) (by kernel_rfl) (lb rfl) (adv [([], 1, 1, .ret (pB r_1)), ([], 1, 2, .eq (pB false)), ([], 4, 1, .eq (pB true)), ([], 5, 3, .eq (pB false)), ([], 7, 2, .eq (pB true)), ([], 8, 3, .ret (JobD.a r_2))]) (ex := .ret) (r := (JobD.a r_2)) (by kernel_rfl) rfl (by kernel_rfl) (allC (ref18Mine_ok (k + 3) j _ q1) (allC (cg q2) (allC (cg q3) (allC (cg q4) (allC (cg q5) (allC (ref15Fail_ok (k + 1) j j.path2 (3 : Int) _ q6) allN)))))) (by kernel_rfl) allN
        · rcases bif_some h with ⟨q6, h⟩ | ⟨q6, h⟩
          · obtain ⟨r_2, q7, h⟩ := bnd_some h
            obtain rfl := Option.some.inj h
            exact ret_go (k := (k + 4)) Tryz.func15 Tryz.ntmps15 (by kernel_rfl) (by kernel_rfl) (lb rfl) (adv [([], 1, 1, .ret (pB r_1)), ([], 1, 2, .eq (pB false)), ([], 4, 1, .eq (pB true)), ([], 5, 3, .eq (pB false)), ([], 7, 2, .eq (pB false)), ([], 9, 2, .eq (pB true)), ([], 10, 3, .ret (JobD.a r_2))]) (ex := .ret) (r := (JobD.a r_2)) (by kernel_rfl) rfl (by kernel_rfl) (allC (ref18Mine_ok (k + 3) j _ q1) (allC (cg q2) (allC (cg q3) (allC (cg q4) (allC (cg q5) (allC (cg q6) (allC (ref18Target_ok (k + 3) j j.path2 _ q7) allN))))))) (by kernel_rfl) allN
          · obtain ⟨r_2, q7, h⟩ := bnd_some h
            obtain rfl := Option.some.inj h
            exact ret_go (k := (k + 4)) Tryz.func15 Tryz.ntmps15 (by kernel_rfl) (by kernel_rfl) (lb rfl) (adv [([], 1, 1, .ret (pB r_1)), ([], 1, 2, .eq (pB false)), ([], 4, 1, .eq (pB true)), ([], 5, 3, .eq (pB false)), ([], 7, 2, .eq (pB false)), ([], 9, 2, .eq (pB false)), ([], 11, 5, .ret (JobD.a r_2))]) (ex := .ret) (r := (JobD.a r_2)) (by kernel_rfl) rfl (by kernel_rfl) (allC (ref18Mine_ok (k + 3) j _ q1) (allC (cg q2) (allC (cg q3) (allC (cg q4) (allC (cg q5) (allC (cg q6) (allC (ref15Fail_ok (k + 1) j j.path2 rF.e _ q7) allN))))))) (by kernel_rfl) allN
    · rcases bif_some h with ⟨q4, h⟩ | ⟨q4, h⟩
      · obtain ⟨r_2, q5, h⟩ := bnd_some h
        obtain rfl := Option.some.inj h
        exact ret_go (k := (k + 4)) Tryz.func15 Tryz.ntmps15 (by kernel_rfl) (by kernel_rfl) (lb rfl) (adv [([], 1, 1, .ret (pB r_1)), ([], 1, 2, .eq (pB false)), ([], 4, 1, .eq (pB false)), ([], 12, 1, .eq (pB true)), ([], 13, 1, .ret (JobD.a r_2))]) (ex := .ret) (r := (JobD.a r_2)) (by kernel_rfl) rfl (by kernel_rfl) (allC (ref18Mine_ok (k + 3) j _ q1) (allC (cg q2) (allC (cg q3) (allC (cg q4) (allC (ref18On_ok (k + 2) j _ q5) allN))))) (by kernel_rfl) allN
      · rcases bif_some h with ⟨q5, h⟩ | ⟨q5, h⟩
        · obtain rfl := Option.some.inj h
          exact ret_go (k := (k + 4)) Tryz.func15 Tryz.ntmps15 (by kernel_rfl) (by kernel_rfl) (lb rfl) (adv [([], 1, 1, .ret (pB r_1)), ([], 1, 2, .eq (pB false)), ([], 4, 1, .eq (pB false)), ([], 12, 1, .eq (pB false)), ([], 14, 1, .eq (pB true))]) (ex := .ret) (r := (.agg [(pI j.kind), (pI j.p), (pI (9 : Int)), (pI j.fd), (pI j.nF), (pI j.modeF), (pI j.tries), (pI j.atF), (pI j.flags), (pS j.path), (pS j.path2), (pS j.text), (.list 1 false (j.names.map cS)), (.list 3 false (j.stack.map FrameD.c)), (.list 1 false (j.draws.map cI)), (pB j.done), (pI j.exit), (pS j.out), (pI j.e)])) (by kernel_rfl) rfl (by kernel_rfl) (allC (ref18Mine_ok (k + 3) j _ q1) (allC (cg q2) (allC (cg q3) (allC (cg q4) (allC (cg q5) allN))))) (by kernel_rfl) allN
        · rcases bif_some h with ⟨q6, h⟩ | ⟨q6, h⟩
          · obtain ⟨y_1, q7, h⟩ := bnd_some h
            rcases bif_some h with ⟨q8, h⟩ | ⟨q8, h⟩
            · obtain ⟨y_2, q9, h⟩ := bnd_some h
              obtain ⟨r_2, q10, h⟩ := bnd_some h
              obtain rfl := Option.some.inj h
              exact ret_go (k := (k + 4)) Tryz.func15 Tryz.ntmps15 (by kernel_rfl) (by kernel_rfl) (lb rfl) (adv [([], 1, 1, .ret (pB r_1)), ([], 1, 2, .eq (pB false)), ([], 4, 1, .eq (pB false)), ([], 12, 1, .eq (pB false)), ([], 14, 1, .eq (pB false)), ([], 17, 2, .eq (pB true)), ([], 18, 2, .elem [(pS y_1)]), ([], 19, 3, .eq (pB true)), ([], 20, 2, .elem [(pS y_2)]), ([], 21, 4, .ret (JobD.a r_2))]) (ex := .ret) (r := (JobD.a r_2)) (by kernel_rfl) rfl (by kernel_rfl) (allC (ref18Mine_ok (k + 3) j _ q1) (allC (cg q2) (allC (cg q3) (allC (cg q4) (allC (cg q5) (allC (cg q6) (allC (gt_list (c := cS) q7) (allC (cg q8) (allC (gt_list (c := cS) q9) (allC (ref15Fail_ok (k + 1) j y_2 rF.e _ q10) allN)))))))))) (by kernel_rfl) allN
            · rcases bif_some h with ⟨q9, h⟩ | ⟨q9, h⟩
              · obtain ⟨y_2, q10, h⟩ := bnd_some h
                obtain ⟨r_2, q11, h⟩ := bnd_some h
                obtain rfl := Option.some.inj h
                exact ret_go (k := (k + 4)) Tryz.func15 Tryz.ntmps15 (by kernel_rfl) (by kernel_rfl) (lb rfl) (adv [([], 1, 1, .ret (pB r_1)), ([], 1, 2, .eq (pB false)), ([], 4, 1, .eq (pB false)), ([], 12, 1, .eq (pB false)), ([], 14, 1, .eq (pB false)), ([], 17, 2, .eq (pB true)), ([], 18, 2, .elem [(pS y_1)]), ([], 19, 3, .eq (pB false)), ([], 19, 8, .eq (pB true)), ([], 20, 2, .elem [(pS y_2)]), ([], 21, 4, .ret (JobD.a r_2))]) (ex := .ret) (r := (JobD.a r_2)) (by kernel_rfl) rfl (by kernel_rfl) (allC (ref18Mine_ok (k + 3) j _ q1) (allC (cg q2) (allC (cg q3) (allC (cg q4) (allC (cg q5) (allC (cg q6) (allC (gt_list (c := cS) q7) (allC (cg q8) (allC (cg q9) (allC (gt_list (c := cS) q10) (allC (ref15Fail_ok (k + 1) j y_2 rF.e _ q11) allN))))))))))) (by kernel_rfl) allN
              · rcases bif_some h with ⟨q10, h⟩ | ⟨q10, h⟩
                · obtain ⟨y_2, q11, h⟩ := bnd_some h
                  obtain ⟨r_2, q12, h⟩ := bnd_some h
                  obtain rfl := Option.some.inj h
                  exact ret_go (k := (k + 4)) Tryz.func15 Tryz.ntmps15 (by kernel_rfl) (by kernel_rfl) (lb rfl) (adv [([], 1, 1, .ret (pB r_1)), ([], 1, 2, .eq (pB false)), ([], 4, 1, .eq (pB false)), ([], 12, 1, .eq (pB false)), ([], 14, 1, .eq (pB false)), ([], 17, 2, .eq (pB true)), ([], 18, 2, .elem [(pS y_1)]), ([], 19, 3, .eq (pB false)), ([], 19, 8, .eq (pB false)), ([], 19, 13, .eq (pB true)), ([], 20, 2, .elem [(pS y_2)]), ([], 21, 4, .ret (JobD.a r_2))]) (ex := .ret) (r := (JobD.a r_2)) (by kernel_rfl) rfl (by kernel_rfl) (allC (ref18Mine_ok (k + 3) j _ q1) (allC (cg q2) (allC (cg q3) (allC (cg q4) (allC (cg q5) (allC (cg q6) (allC (gt_list (c := cS) q7) (allC (cg q8) (allC (cg q9) (allC (cg q10) (allC (gt_list (c := cS) q11) (allC (ref15Fail_ok (k + 1) j y_2 rF.e _ q12) allN)))))))))))) (by kernel_rfl) allN
                · rcases bif_some h with ⟨q11, h⟩ | ⟨q11, h⟩
                  · obtain ⟨y_2, q12, h⟩ := bnd_some h
                    obtain ⟨r_2, q13, h⟩ := bnd_some h
                    obtain rfl := Option.some.inj h
                    exact ret_go (k := (k + 4)) Tryz.func15 Tryz.ntmps15 (by kernel_rfl) (by kernel_rfl) (lb rfl) (adv [([], 1, 1, .ret (pB r_1)), ([], 1, 2, .eq (pB false)), ([], 4, 1, .eq (pB false)), ([], 12, 1, .eq (pB false)), ([], 14, 1, .eq (pB false)), ([], 17, 2, .eq (pB true)), ([], 18, 2, .elem [(pS y_1)]), ([], 19, 3, .eq (pB false)), ([], 19, 8, .eq (pB false)), ([], 19, 13, .eq (pB false)), ([], 19, 17, .eq (pB true)), ([], 20, 2, .elem [(pS y_2)]), ([], 21, 4, .ret (JobD.a r_2))]) (ex := .ret) (r := (JobD.a r_2)) (by kernel_rfl) rfl (by kernel_rfl) (allC (ref18Mine_ok (k + 3) j _ q1) (allC (cg q2) (allC (cg q3) (allC (cg q4) (allC (cg q5) (allC (cg q6) (allC (gt_list (c := cS) q7) (allC (cg q8) (allC (cg q9) (allC (cg q10) (allC (cg q11) (allC (gt_list (c := cS) q12) (allC (ref15Fail_ok (k + 1) j y_2 rF.e _ q13) allN))))))))))))) (by kernel_rfl) allN
                  · obtain ⟨r_2, q12, h⟩ := bnd_some h
                    obtain rfl := Option.some.inj h
                    exact ret_go (k := (k + 4)) Tryz.func15 Tryz.ntmps15 (by kernel_rfl) (by kernel_rfl) (lb rfl) (adv [([], 1, 1, .ret (pB r_1)), ([], 1, 2, .eq (pB false)), ([], 4, 1, .eq (pB false)), ([], 12, 1, .eq (pB false)), ([], 14, 1, .eq (pB false)), ([], 17, 2, .eq (pB true)), ([], 18, 2, .elem [(pS y_1)]), ([], 19, 3, .eq (pB false)), ([], 19, 8, .eq (pB false)), ([], 19, 13, .eq (pB false)), ([], 19, 17, .eq (pB false)), ([], 21, 4, .ret (JobD.a r_2))]) (ex := .ret) (r := (JobD.a r_2)) (by kernel_rfl) rfl (by kernel_rfl) (allC (ref18Mine_ok (k + 3) j _ q1) (allC (cg q2) (allC (cg q3) (allC (cg q4) (allC (cg q5) (allC (cg q6) (allC (gt_list (c := cS) q7) (allC (cg q8) (allC (cg q9) (allC (cg q10) (allC (cg q11) (allC (ref15Fail_ok (k + 1) j y_1 rF.e _ q12) allN)))))))))))) (by kernel_rfl) allN
          · rcases bif_some h with ⟨q7, h⟩ | ⟨q7, h⟩
            · obtain ⟨r_2, q8, h⟩ := bnd_some h
              obtain rfl := Option.some.inj h
              exact ret_go (k := (k + 4)) Tryz.func15 Tryz.ntmps15 (by kernel_rfl) (by kernel_rfl) (lb rfl) (adv [([], 1, 1, .ret (pB r_1)), ([], 1, 2, .eq (pB false)), ([], 4, 1, .eq (pB false)), ([], 12, 1, .eq (pB false)), ([], 14, 1, .eq (pB false)), ([], 17, 2, .eq (pB false)), ([], 25, 1, .eq (pB true)), ([], 26, 2, .ret (JobD.a r_2))]) (ex := .ret) (r := (JobD.a r_2)) (by kernel_rfl) rfl (by kernel_rfl) (allC (ref18Mine_ok (k + 3) j _ q1) (allC (cg q2) (allC (cg q3) (allC (cg q4) (allC (cg q5) (allC (cg q6) (allC (cg q7) (allC (ref18Seen_ok k j rF _ q8) allN)))))))) (by kernel_rfl) allN
            · rcases bif_some h with ⟨q8, h⟩ | ⟨q8, h⟩
              · obtain rfl := Option.some.inj h
                exact ret_go (k := (k + 4)) Tryz.func15 Tryz.ntmps15 (by kernel_rfl) (by kernel_rfl) (lb rfl) (adv [([], 1, 1, .ret (pB r_1)), ([], 1, 2, .eq (pB false)), ([], 4, 1, .eq (pB false)), ([], 12, 1, .eq (pB false)), ([], 14, 1, .eq (pB false)), ([], 17, 2, .eq (pB false)), ([], 25, 1, .eq (pB false)), ([], 27, 1, .eq (pB true))]) (ex := .ret) (r := (.agg [(pI j.kind), (pI j.p), (pI (3 : Int)), (pI j.fd), (pI j.nF), (pI j.modeF), (pI j.tries), (pI j.atF), (pI j.flags), (pS j.path), (pS j.path2), (pS j.text), (.list 1 false (j.names.map cS)), (.list 3 false (j.stack.map FrameD.c)), (.list 1 false (j.draws.map cI)), (pB j.done), (pI j.exit), (pS j.out), (pI j.e)])) (by kernel_rfl) rfl (by kernel_rfl) (allC (ref18Mine_ok (k + 3) j _ q1) (allC (cg q2) (allC (cg q3) (allC (cg q4) (allC (cg q5) (allC (cg q6) (allC (cg q7) (allC (cg q8) allN)))))))) (by kernel_rfl) allN
              · rcases bif_some h with ⟨q9, h⟩ | ⟨q9, h⟩
                · obtain rfl := Option.some.inj h
                  exact ret_go (k := (k + 4)) Tryz.func15 Tryz.ntmps15 (by kernel_rfl) (by kernel_rfl) (lb rfl) (adv [([], 1, 1, .ret (pB r_1)), ([], 1, 2, .eq (pB false)), ([], 4, 1, .eq (pB false)), ([], 12, 1, .eq (pB false)), ([], 14, 1, .eq (pB false)), ([], 17, 2, .eq (pB false)), ([], 25, 1, .eq (pB false)), ([], 27, 1, .eq (pB false)), ([], 29, 1, .eq (pB true))]) (ex := .ret) (r := (.agg [(pI j.kind), (pI j.p), (pI (w64 (j.phase + (1 : Int)))), (pI rF.nF), (pI j.nF), (pI j.modeF), (pI j.tries), (pI j.atF), (pI j.flags), (pS j.path), (pS j.path2), (pS j.text), (.list 1 false (j.names.map cS)), (.list 3 false (j.stack.map FrameD.c)), (.list 1 false (j.draws.map cI)), (pB j.done), (pI j.exit), (pS j.out), (pI j.e)])) (by kernel_rfl) rfl (by kernel_rfl) (allC (ref18Mine_ok (k + 3) j _ q1) (allC (cg q2) (allC (cg q3) (allC (cg q4) (allC (cg q5) (allC (cg q6) (allC (cg q7) (allC (cg q8) (allC (cg q9) allN))))))))) (by kernel_rfl) allN
                · rcases bif_some h with ⟨q10, h⟩ | ⟨q10, h⟩
                  · obtain rfl := Option.some.inj h
                    exact ret_go (k := (k + 4)) Tryz.func15 Tryz.ntmps15 (by kernel_rfl) (by kernel_rfl) (lb rfl) (adv [([], 1, 1, .ret (pB r_1)), ([], 1, 2, .eq (pB false)), ([], 4, 1, .eq (pB false)), ([], 12, 1, .eq (pB false)), ([], 14, 1, .eq (pB false)), ([], 17, 2, .eq (pB false)), ([], 25, 1, .eq (pB false)), ([], 27, 1, .eq (pB false)), ([], 29, 1, .eq (pB false)), ([], 30, 1, .eq (pB true))]) (ex := .ret) (r := (.agg [(pI j.kind), (pI j.p), (pI (w64 (j.phase + (1 : Int)))), (pI rF.nF), (pI j.nF), (pI j.modeF), (pI j.tries), (pI j.atF), (pI j.flags), (pS j.path), (pS j.path2), (pS j.text), (.list 1 false (j.names.map cS)), (.list 3 false (j.stack.map FrameD.c)), (.list 1 false (j.draws.map cI)), (pB j.done), (pI j.exit), (pS j.out), (pI j.e)])) (by kernel_rfl) rfl (by kernel_rfl) (allC (ref18Mine_ok (k + 3) j _ q1) (allC (cg q2) (allC (cg q3) (allC (cg q4) (allC (cg q5) (allC (cg q6) (allC (cg q7) (allC (cg q8) (allC (cg q9) (allC (cg q10) allN)))))))))) (by kernel_rfl) allN
                  · rcases bif_some h with ⟨q11, h⟩ | ⟨q11, h⟩
                    · obtain rfl := Option.some.inj h
                      exact ret_go (k := (k + 4)) Tryz.func15 Tryz.ntmps15 (by kernel_rfl) (by kernel_rfl) (lb rfl) (adv [([], 1, 1, .ret (pB r_1)), ([], 1, 2, .eq (pB false)), ([], 4, 1, .eq (pB false)), ([], 12, 1, .eq (pB false)), ([], 14, 1, .eq (pB false)), ([], 17, 2, .eq (pB false)), ([], 25, 1, .eq (pB false)), ([], 27, 1, .eq (pB false)), ([], 29, 1, .eq (pB false)), ([], 30, 1, .eq (pB false)), ([], 31, 1, .eq (pB true))]) (ex := .ret) (r := (.agg [(pI j.kind), (pI j.p), (pI (w64 (j.phase + (1 : Int)))), (pI rF.nF), (pI j.nF), (pI j.modeF), (pI j.tries), (pI j.atF), (pI j.flags), (pS j.path), (pS j.path2), (pS j.text), (.list 1 false (j.names.map cS)), (.list 3 false (j.stack.map FrameD.c)), (.list 1 false (j.draws.map cI)), (pB j.done), (pI j.exit), (pS j.out), (pI j.e)])) (by kernel_rfl) rfl (by kernel_rfl) (allC (ref18Mine_ok (k + 3) j _ q1) (allC (cg q2) (allC (cg q3) (allC (cg q4) (allC (cg q5) (allC (cg q6) (allC (cg q7) (allC (cg q8) (allC (cg q9) (allC (cg q10) (allC (cg q11) allN))))))))))) (by kernel_rfl) allN
                    · rcases bif_some h with ⟨q12, h⟩ | ⟨q12, h⟩
                      · obtain ⟨r_2, q13, h⟩ := bnd_some h
                        obtain rfl := Option.some.inj h
                        exact ret_go (k := (k + 4)) Tryz.func15 Tryz.ntmps15 (by kernel_rfl) (by kernel_rfl) (lb rfl) (adv [([], 1, 1, .ret (pB r_1)), ([], 1, 2, .eq (pB false)), ([], 4, 1, .eq (pB false)), ([], 12, 1, .eq (pB false)), ([], 14, 1, .eq (pB false)), ([], 17, 2, .eq (pB false)), ([], 25, 1, .eq (pB false)), ([], 27, 1, .eq (pB false)), ([], 29, 1, .eq (pB false)), ([], 30, 1, .eq (pB false)), ([], 31, 1, .eq (pB false)), ([], 34, 1, .eq (pB true)), ([], 35, 3, .ret (JobD.a r_2))]) (ex := .ret) (r := (JobD.a r_2)) (by kernel_rfl) rfl (by kernel_rfl) (allC (ref18Mine_ok (k + 3) j _ q1) (allC (cg q2) (allC (cg q3) (allC (cg q4) (allC (cg q5) (allC (cg q6) (allC (cg q7) (allC (cg q8) (allC (cg q9) (allC (cg q10) (allC (cg q11) (allC (cg q12) (allC (ref18Spread_ok (k + 1) j rF.l _ q13) allN))))))))))))) (by kernel_rfl) allN
                      · rcases bif_some h with ⟨q13, h⟩ | ⟨q13, h⟩
                        · obtain rfl := Option.some.inj h
                          exact ret_go (k := (k + 4)) Tryz.func15 Tryz.ntmps15 (by kernel_rfl) (by kernel_rfl) (lb rfl) (adv [([], 1, 1, .ret (pB r_1)), ([], 1, 2, .eq (pB false)), ([], 4, 1, .eq (pB false)), ([], 12, 1, .eq (pB false)), ([], 14, 1, .eq (pB false)), ([], 17, 2, .eq (pB false)), ([], 25, 1, .eq (pB false)), ([], 27, 1, .eq (pB false)), ([], 29, 1, .eq (pB false)), ([], 30, 1, .eq (pB false)), ([], 31, 1, .eq (pB false)), ([], 34, 1, .eq (pB false)), ([], 36, 1, .eq (pB true))]) (ex := .ret) (r := (.agg [(pI j.kind), (pI j.p), (pI (w64 (j.phase + (1 : Int)))), (pI j.fd), (pI j.nF), (pI j.modeF), (pI j.tries), (pI j.atF), (pI j.flags), (pS j.path), (pS j.path2), (pS rF.s), (.list 1 false (j.names.map cS)), (.list 3 false (j.stack.map FrameD.c)), (.list 1 false (j.draws.map cI)), (pB j.done), (pI j.exit), (pS j.out), (pI j.e)])) (by kernel_rfl) rfl (by kernel_rfl) (allC (ref18Mine_ok (k + 3) j _ q1) (allC (cg q2) (allC (cg q3) (allC (cg q4) (allC (cg q5) (allC (cg q6) (allC (cg q7) (allC (cg q8) (allC (cg q9) (allC (cg q10) (allC (cg q11) (allC (cg q12) (allC (cg q13) allN))))))))))))) (by kernel_rfl) allN
                        · rcases bif_some h with ⟨q14, h⟩ | ⟨q14, h⟩
                          · obtain rfl := Option.some.inj h
                            exact ret_go (k := (k + 4)) Tryz.func15 Tryz.ntmps15 (by kernel_rfl) (by kernel_rfl) (lb rfl) (adv [([], 1, 1, .ret (pB r_1)), ([], 1, 2, .eq (pB false)), ([], 4, 1, .eq (pB false)), ([], 12, 1, .eq (pB false)), ([], 14, 1, .eq (pB false)), ([], 17, 2, .eq (pB false)), ([], 25, 1, .eq (pB false)), ([], 27, 1, .eq (pB false)), ([], 29, 1, .eq (pB false)), ([], 30, 1, .eq (pB false)), ([], 31, 1, .eq (pB false)), ([], 34, 1, .eq (pB false)), ([], 36, 1, .eq (pB false)), ([], 37, 1, .eq (pB true))]) (ex := .ret) (r := (.agg [(pI j.kind), (pI j.p), (pI (w64 (j.phase + (1 : Int)))), (pI j.fd), (pI j.nF), (pI j.modeF), (pI j.tries), (pI j.atF), (pI j.flags), (pS j.path), (pS j.path2), (pS rF.s), (.list 1 false (j.names.map cS)), (.list 3 false (j.stack.map FrameD.c)), (.list 1 false (j.draws.map cI)), (pB j.done), (pI j.exit), (pS j.out), (pI j.e)])) (by kernel_rfl) rfl (by kernel_rfl) (allC (ref18Mine_ok (k + 3) j _ q1) (allC (cg q2) (allC (cg q3) (allC (cg q4) (allC (cg q5) (allC (cg q6) (allC (cg q7) (allC (cg q8) (allC (cg q9) (allC (cg q10) (allC (cg q11) (allC (cg q12) (allC (cg q13) (allC (cg q14) allN)))))))))))))) (by kernel_rfl) allN
                          · rcases bif_some h with ⟨q15, h⟩ | ⟨q15, h⟩
                            · obtain ⟨y_1, q16, h⟩ := bnd_some h
                              obtain ⟨r_2, q17, h⟩ := bnd_some h
                              obtain ⟨q18, h⟩ := grd_some h
                              obtain ⟨q19, h⟩ := grd_some h
                              obtain rfl := Option.some.inj h
                              exact (ret_go (k := (k + 4)) Tryz.func15 Tryz.ntmps15 (by kernel_rfl) (by kernel_rfl) (lb rfl) (adv [([], 1, 1, .ret (pB r_1)), ([], 1, 2, .eq (pB false)), ([], 4, 1, .eq (pB false)), ([], 12, 1, .eq (pB false)), ([], 14, 1, .eq (pB false)), ([], 17, 2, .eq (pB false)), ([], 25, 1, .eq (pB false)), ([], 27, 1, .eq (pB false)), ([], 29, 1, .eq (pB false)), ([], 30, 1, .eq (pB false)), ([], 31, 1, .eq (pB false)), ([], 34, 1, .eq (pB false)), ([], 36, 1, .eq (pB false)), ([], 37, 1, .eq (pB false)), ([], 40, 1, .eq (pB true)), ([], 41, 2, .elem [(pS y_1)]), ([], 41, 6, .ret (pS r_2)), ([], 41, 10, .sub false), ([], 41, 11, .ok)]) (ex := .ret) (r := (.agg [(pI j.kind), (pI j.p), (pI (5 : Int)), (pI j.fd), (pI j.nF), (pI j.modeF), (pI j.tries), (pI j.atF), (pI j.flags), (pS j.path), (pS j.path2), (pS j.text), (.list 1 false ([[(pS (bs [109, 111, 100, 101]))], [(pS y_1)], [(pS r_2)]] ++ (((j.names.map cS).drop (((3 : Int)).toNat)).take ((j.names.map cS).length - ((3 : Int)).toNat)))), (.list 3 false (j.stack.map FrameD.c)), (.list 1 false (j.draws.map cI)), (pB j.done), (pI j.exit), (pS j.out), (pI j.e)])) (by kernel_rfl) rfl (by kernel_rfl) (allC (ref18Mine_ok (k + 3) j _ q1) (allC (cg q2) (allC (cg q3) (allC (cg q4) (allC (cg q5) (allC (cg q6) (allC (cg q7) (allC (cg q8) (allC (cg q9) (allC (cg q10) (allC (cg q11) (allC (cg q12) (allC (cg q13) (allC (cg q14) (allC (cg q15) (allC (gt_list (c := cS) q16) (allC (gt_list (c := cS) q16) (allC (ref04Print_ok (k + 2) j.modeF _ q17) (allC (sub_ok1 (c := cS) q18) (allC (sub_ok1 (c := cS) q18) (allC (app_ok2 (show [[(pS (bs [109, 111, 100, 101]))], [(pS y_1)], [(pS r_2)]] = ([(bs [109, 111, 100, 101]), y_1, r_2]).map cS from rfl) (rfl : 3 = ([(bs [109, 111, 100, 101]), y_1, r_2]).length) ((enc_drop rfl (((3 : Int)).toNat)) : (((j.names.map cS).drop (((3 : Int)).toNat)).take ((j.names.map cS).length - ((3 : Int)).toNat)) = (j.names.drop (((3 : Int)).toNat)).map cS) q19) allN))))))))))))))))))))) (by kernel_rfl) (allC (row_ok ((enc_cat (show [[(pS (bs [109, 111, 100, 101]))], [(pS y_1)], [(pS r_2)]] = ([(bs [109, 111, 100, 101]), y_1, r_2]).map cS from rfl) ((enc_drop rfl (((3 : Int)).toNat)) : (((j.names.map cS).drop (((3 : Int)).toNat)).take ((j.names.map cS).length - ((3 : Int)).toNat)) = (j.names.drop (((3 : Int)).toNat)).map cS)) : ([[(pS (bs [109, 111, 100, 101]))], [(pS y_1)], [(pS r_2)]] ++ (((j.names.map cS).drop (((3 : Int)).toNat)).take ((j.names.map cS).length - ((3 : Int)).toNat))) = ([(bs [109, 111, 100, 101]), y_1, r_2] ++ (j.names.drop (((3 : Int)).toNat))).map cS) ((len_cat (rfl : 3 = ([(bs [109, 111, 100, 101]), y_1, r_2]).length) ([(bs [109, 111, 100, 101]), y_1, r_2]) (enc_len ((enc_drop rfl (((3 : Int)).toNat)) : (((j.names.map cS).drop (((3 : Int)).toNat)).take ((j.names.map cS).length - ((3 : Int)).toNat)) = (j.names.drop (((3 : Int)).toNat)).map cS))) : (3 + (((j.names.map cS).drop (((3 : Int)).toNat)).take ((j.names.map cS).length - ((3 : Int)).toNat)).length) = ([(bs [109, 111, 100, 101]), y_1, r_2] ++ (j.names.drop (((3 : Int)).toNat))).length)) allN)).trans (congrArg some (by rw [(show ([[(pS (bs [109, 111, 100, 101]))], [(pS y_1)], [(pS r_2)]] ++ (((j.names.map cS).drop (((3 : Int)).toNat)).take ((j.names.map cS).length - ((3 : Int)).toNat))) = (([(bs [109, 111, 100, 101]), y_1, r_2] ++ (j.names.drop (((3 : Int)).toNat))).map cS) from (enc_cat (show [[(pS (bs [109, 111, 100, 101]))], [(pS y_1)], [(pS r_2)]] = ([(bs [109, 111, 100, 101]), y_1, r_2]).map cS from rfl) ((enc_drop rfl (((3 : Int)).toNat)) : (((j.names.map cS).drop (((3 : Int)).toNat)).take ((j.names.map cS).length - ((3 : Int)).toNat)) = (j.names.drop (((3 : Int)).toNat)).map cS)))] <;> rfl))
                            · obtain ⟨q16, h⟩ := grd_some h
                              obtain ⟨r_2, q17, h⟩ := bnd_some h
                              obtain rfl := Option.some.inj h
                              exact ret_go (k := (k + 4)) Tryz.func15 Tryz.ntmps15 (by kernel_rfl) (by kernel_rfl) (lb rfl) (adv [([], 1, 1, .ret (pB r_1)), ([], 1, 2, .eq (pB false)), ([], 4, 1, .eq (pB false)), ([], 12, 1, .eq (pB false)), ([], 14, 1, .eq (pB false)), ([], 17, 2, .eq (pB false)), ([], 25, 1, .eq (pB false)), ([], 27, 1, .eq (pB false)), ([], 29, 1, .eq (pB false)), ([], 30, 1, .eq (pB false)), ([], 31, 1, .eq (pB false)), ([], 34, 1, .eq (pB false)), ([], 36, 1, .eq (pB false)), ([], 37, 1, .eq (pB false)), ([], 40, 1, .eq (pB false)), ([], 23, 2, .sub false), ([], 24, 1, .ret (JobD.a r_2))]) (ex := .ret) (r := (JobD.a r_2)) (by kernel_rfl) rfl (by kernel_rfl) (allC (ref18Mine_ok (k + 3) j _ q1) (allC (cg q2) (allC (cg q3) (allC (cg q4) (allC (cg q5) (allC (cg q6) (allC (cg q7) (allC (cg q8) (allC (cg q9) (allC (cg q10) (allC (cg q11) (allC (cg q12) (allC (cg q13) (allC (cg q14) (allC (cg q15) (allC (sub_ok1 (c := cS) q16) (allC ((by rw [(show (((j.names.map cS).drop (((3 : Int)).toNat)).take ((j.names.map cS).length - ((3 : Int)).toNat)) = ((j.names.drop (((3 : Int)).toNat)).map cS) from (enc_drop rfl (((3 : Int)).toNat)))]; exact ref18On_ok (k + 2) (JobD.mk j.kind j.p j.phase j.fd j.nF j.modeF j.tries j.atF j.flags j.path j.path2 j.text (j.names.drop (((3 : Int)).toNat)) j.stack j.draws j.done j.exit j.out j.e) _ q17) : run0 ((k + 2) + 2) 51 [(.agg [(pI j.kind), (pI j.p), (pI j.phase), (pI j.fd), (pI j.nF), (pI j.modeF), (pI j.tries), (pI j.atF), (pI j.flags), (pS j.path), (pS j.path2), (pS j.text), (.list 1 false (((j.names.map cS).drop (((3 : Int)).toNat)).take ((j.names.map cS).length - ((3 : Int)).toNat))), (.list 3 false (j.stack.map FrameD.c)), (.list 1 false (j.draws.map cI)), (pB j.done), (pI j.exit), (pS j.out), (pI j.e)])] = some (JobD.a r_2)) allN))))))))))))))))) (by kernel_rfl) allN
end Go.Proofs.YtdbekeidlppfiaaGreatDoor.Den
namespace Go.Proofs.YtdbekeidlppfiaaGreatDoor.Den
open Go Go.RowKit
noncomputable def law18Plain_L2 : Code := cAt (codeOf Tryz.f11) [true, false, true, false, false]
def law18Plain_R2 (x0 : Int) (x1 : Int) (x2 : Int) (x3 : Int) (x4 : Int) (x5 : Int) (x6 : Int) (x7 : Int) (x8 : Int) (x9 : Int) (x10 : ByteArray) (x11 : ByteArray) (x12 : ByteArray) (x13 : List (List PV)) (x14 : List (List PV)) (x15 : List (List PV)) (x16 : Bool) (x17 : Int) (x18 : ByteArray) (x19 : Int) : St := ⟨envL [(1, (.ptr [0, TAG] 1 0 0)), (3, (pI x0))], hsL [some ⟨19, 29, [[(pI x1), (pI x2), (pI x3), (pI x4), (pI x5), (pI x6), (pI x7), (pI x8), (pI x9), (pS x10), (pS x11), (pS x12), (.list 1 false x13), (.list 3 false x14), (.list 1 false x15), (pB x16), (pI x17), (pS x18), (pI x19)]], true, false⟩] [0]⟩
def law18Plain_S2 (p0 : Int) (p1 : Int) (p2 : Int) (p3 : Int) (p4 : Int) (p5 : Int) (p6 : Int) (p7 : Int) (p8 : Int) (p9 : ByteArray) (p10 : ByteArray) (p11 : ByteArray) (p12 : (List ByteArray)) (p13 : (List FrameD)) (p14 : (List Int)) (p15 : Bool) (p16 : Int) (p17 : ByteArray) (p18 : Int) : Int → St
 | v0 => law18Plain_R2 v0 p0 p1 p2 p3 p4 p5 p6 p7 p8 p9 p10 p11 (p12.map cS) (p13.map FrameD.c) (p14.map cI) p15 p16 p17 p18
def law18Plain_b2 (p0 : Int) (p1 : Int) (p2 : Int) (p3 : Int) (p4 : Int) (p5 : Int) (p6 : Int) (p7 : Int) (p8 : Int) (p9 : ByteArray) (p10 : ByteArray) (p11 : ByteArray) (p12 : (List ByteArray)) (p13 : (List FrameD)) (p14 : (List Int)) (p15 : Bool) (p16 : Int) (p17 : ByteArray) (p18 : Int) : Int → Option (Int ⊕ ((Int × FrameD) ⊕ Int ⊕ Int))
 | v0 =>
 bif (decide (v0 < (p13.length : Int))) then (
 bif (decide (v0 < (30 : Int))) then (
 (gt p13 v0).bind fun y_1 =>
 bif (decide ((y_1.names.length : Int) > (60 : Int))) then (
 some (.inr (.inl (v0, y_1)))
 ) else (
 some (.inl (w64 (v0 + (1 : Int))))
 )
 ) else (
 some (.inr (.inr (.inl v0)))
 )
 ) else (
 some (.inr (.inr (.inr (v0))))
 )
set_option maxRecDepth 100000 in
theorem law18Plain_t2 (k : Nat) (p0 : Int) (p1 : Int) (p2 : Int) (p3 : Int) (p4 : Int) (p5 : Int) (p6 : Int) (p7 : Int) (p8 : Int) (p9 : ByteArray) (p10 : ByteArray) (p11 : ByteArray) (p12 : (List ByteArray)) (p13 : (List FrameD)) (p14 : (List Int)) (p15 : Bool) (p16 : Int) (p17 : ByteArray) (p18 : Int) (v0 a1 : Int) (h : law18Plain_b2 p0 p1 p2 p3 p4 p5 p6 p7 p8 p9 p10 p11 p12 p13 p14 p15 p16 p17 p18 v0 = some (.inl a1)) : ∃ σ, run1 k 11 0 67 law18Plain_L2 (law18Plain_S2 p0 p1 p2 p3 p4 p5 p6 p7 p8 p9 p10 p11 p12 p13 p14 p15 p16 p17 p18 v0) = some (.normal, σ) ∧ canonS 0 [1, 3] σ = some (law18Plain_S2 p0 p1 p2 p3 p4 p5 p6 p7 p8 p9 p10 p11 p12 p13 p14 p15 p16 p17 p18 a1) := by
  unfold law18Plain_b2 at h
  try dsimp only at h
  rcases bif_some h with ⟨q1, h⟩ | ⟨q1, h⟩
  · rcases bif_some h with ⟨q2, h⟩ | ⟨q2, h⟩
    · obtain ⟨y_1, q3, h⟩ := bnd_some h
      rcases bif_some h with ⟨q4, h⟩ | ⟨q4, h⟩
      · cases h
      · obtain rfl := Sum.inl.inj (Option.some.inj h)
        exact ⟨_, run_go (k := k) (f := 11) (r0 := 0) (nt := 67) (c := law18Plain_L2) (σ := (law18Plain_S2 p0 p1 p2 p3 p4 p5 p6 p7 p8 p9 p10 p11 p12 p13 p14 p15 p16 p17 p18 v0)) (adv [([], 2, 3, .eq (pI (p13.length : Int))), ([], 2, 5, .eq (pB true)), ([], 2, 8, .eq (pB true)), ([], 4, 3, .elem [(pI y_1.fd), (pS y_1.name), (.list 1 false (y_1.names.map cS))]), ([], 4, 6, .eq (pI (y_1.names.length : Int))), ([], 4, 7, .eq (pB false))]) (ex := .normal) (by kernel_rfl) (by kernel_rfl) (allC (len_ob (rfl : (p13.map FrameD.c) = p13.map FrameD.c)) (allC (cg q1) (allC (cg q2) (allC (gt_list (c := FrameD.c) q3) (allC (len_ob (rfl : (y_1.names.map cS) = y_1.names.map cS)) (allC (cg q4) allN)))))), (by kernel_rfl)⟩
    · cases h
  · cases h
def law18Plain (j : JobD) : Option Bool :=
 (iterN (law18Plain_b2 j.kind j.p j.phase j.fd j.nF j.modeF j.tries j.atF j.flags j.path j.path2 j.text j.names j.stack j.draws j.done j.exit j.out j.e) LF (0 : Int)).bind fun X_1 => match X_1 with
 | .inl (v_1, y_1) => (
 some false
 )
 | .inr (.inl v_1) => (
 bif (decide ((j.stack.length : Int) ≤ (20 : Int))) then (
 bif (decide ((j.names.length : Int) ≤ (120 : Int))) then (
 bif (decide ((j.draws.length : Int) ≤ (200 : Int))) then (
 bif (decide ((j.path.size : Int) ≤ (400 : Int))) then (
 bif (decide ((j.path2.size : Int) ≤ (400 : Int))) then (
 bif (decide ((j.text.size : Int) ≤ (400 : Int))) then (
 bif (decide (j.atF ≥ (0 : Int))) then (
 some (decide (j.atF ≤ (1000000 : Int)))
 ) else (
 some false
 )
 ) else (
 some false
 )
 ) else (
 some false
 )
 ) else (
 some false
 )
 ) else (
 some false
 )
 ) else (
 some false
 )
 ) else (
 some false
 )
 )
 | .inr (.inr (v_1)) => (
 bif (decide ((j.stack.length : Int) ≤ (20 : Int))) then (
 bif (decide ((j.names.length : Int) ≤ (120 : Int))) then (
 bif (decide ((j.draws.length : Int) ≤ (200 : Int))) then (
 bif (decide ((j.path.size : Int) ≤ (400 : Int))) then (
 bif (decide ((j.path2.size : Int) ≤ (400 : Int))) then (
 bif (decide ((j.text.size : Int) ≤ (400 : Int))) then (
 bif (decide (j.atF ≥ (0 : Int))) then (
 some (decide (j.atF ≤ (1000000 : Int)))
 ) else (
 some false
 )
 ) else (
 some false
 )
 ) else (
 some false
 )
 ) else (
 some false
 )
 ) else (
 some false
 )
 ) else (
 some false
 )
 ) else (
 some false
 )
 )
set_option maxRecDepth 100000 in
theorem law18Plain_ok (k : Nat) (j : JobD) (r : Bool) (h : law18Plain j = some r) : run0 (k + 1) 11 [(JobD.a j)] = some (pB r) := by
  unfold law18Plain at h
  obtain ⟨X_1, q1, h⟩ := bnd_some h
  obtain ⟨v_1, q2, q3⟩ := loop_iter (f := run1 k 11 0 67 law18Plain_L2) (law18Plain_S2 j.kind j.p j.phase j.fd j.nF j.modeF j.tries j.atF j.flags j.path j.path2 j.text j.names j.stack j.draws j.done j.exit j.out j.e) (law18Plain_b2 j.kind j.p j.phase j.fd j.nF j.modeF j.tries j.atF j.flags j.path j.path2 j.text j.names j.stack j.draws j.done j.exit j.out j.e) (law18Plain_t2 k j.kind j.p j.phase j.fd j.nF j.modeF j.tries j.atF j.flags j.path j.path2 j.text j.names j.stack j.draws j.done j.exit j.out j.e) LF (0 : Int) _ (stOf (goStop k 11 0 67 (adv []) 2 (codeOf Tryz.f11) (argS 11 [(JobD.a j)]))) q1 (by kernel_rfl)
  unfold law18Plain_b2 at q2
  try dsimp only at q2
  rcases bif_some q2 with ⟨q6, q2⟩ | ⟨q6, q2⟩
  · rcases bif_some q2 with ⟨q7, q2⟩ | ⟨q7, q2⟩
    · obtain ⟨y_1, q8, q2⟩ := bnd_some q2
      rcases bif_some q2 with ⟨q9, q2⟩ | ⟨q9, q2⟩
      · cases q2
        try dsimp only at h
        have q4 := run_go (k := k) (f := 11) (r0 := 0) (nt := 67) (c := law18Plain_L2) (σ := (law18Plain_S2 j.kind j.p j.phase j.fd j.nF j.modeF j.tries j.atF j.flags j.path j.path2 j.text j.names j.stack j.draws j.done j.exit j.out j.e v_1)) (adv [([], 2, 3, .eq (pI (j.stack.length : Int))), ([], 2, 5, .eq (pB true)), ([], 2, 8, .eq (pB true)), ([], 4, 3, .elem [(pI y_1.fd), (pS y_1.name), (.list 1 false (y_1.names.map cS))]), ([], 4, 6, .eq (pI (y_1.names.length : Int))), ([], 4, 7, .eq (pB true))]) (ex := .ret) (by kernel_rfl) (by kernel_rfl) (allC (len_ob (rfl : (j.stack.map FrameD.c) = j.stack.map FrameD.c)) (allC (cg q6) (allC (cg q7) (allC (gt_list (c := FrameD.c) q8) (allC (len_ob (rfl : (y_1.names.map cS) = y_1.names.map cS)) (allC (cg q9) allN))))))
        have q5 := q3 _ _ (by intro e; cases e) q4
        obtain rfl := Option.some.inj h
        exact ret_go (k := k) Tryz.func11 Tryz.ntmps11 (by kernel_rfl) (by kernel_rfl) (lb rfl) (adv [] [([], 2, .ret, (stOf (go k 11 0 67 (adv [([], 2, 3, .eq (pI (j.stack.length : Int))), ([], 2, 5, .eq (pB true)), ([], 2, 8, .eq (pB true)), ([], 4, 3, .elem [(pI y_1.fd), (pS y_1.name), (.list 1 false (y_1.names.map cS))]), ([], 4, 6, .eq (pI (y_1.names.length : Int))), ([], 4, 7, .eq (pB true))]) law18Plain_L2 (law18Plain_S2 j.kind j.p j.phase j.fd j.nF j.modeF j.tries j.atF j.flags j.path j.path2 j.text j.names j.stack j.draws j.done j.exit j.out j.e v_1))))]) (ex := .ret) (r := (pB false)) (by kernel_rfl) rfl (by kernel_rfl) (allC q5 allN) (by kernel_rfl) allN
      · cases q2
    · cases q2
      try dsimp only at h
      have q4 := run_go (k := k) (f := 11) (r0 := 0) (nt := 67) (c := law18Plain_L2) (σ := (law18Plain_S2 j.kind j.p j.phase j.fd j.nF j.modeF j.tries j.atF j.flags j.path j.path2 j.text j.names j.stack j.draws j.done j.exit j.out j.e v_1)) (adv [([], 2, 3, .eq (pI (j.stack.length : Int))), ([], 2, 5, .eq (pB true)), ([], 2, 8, .eq (pB false))]) (ex := (.exit 0)) (by kernel_rfl) (by kernel_rfl) (allC (len_ob (rfl : (j.stack.map FrameD.c) = j.stack.map FrameD.c)) (allC (cg q6) (allC (cg q7) allN)))
      have q5 := q3 _ _ (by intro e; cases e) q4
      rcases bif_some h with ⟨q10, h⟩ | ⟨q10, h⟩
      · rcases bif_some h with ⟨q11, h⟩ | ⟨q11, h⟩
        · rcases bif_some h with ⟨q12, h⟩ | ⟨q12, h⟩
          · rcases bif_some h with ⟨q13, h⟩ | ⟨q13, h⟩
            · rcases bif_some h with ⟨q14, h⟩ | ⟨q14, h⟩
              · rcases bif_some h with ⟨q15, h⟩ | ⟨q15, h⟩
                · rcases bif_some h with ⟨q16, h⟩ | ⟨q16, h⟩
                  · obtain rfl := Option.some.inj h
                    exact ret_go (k := k) Tryz.func11 Tryz.ntmps11 (by kernel_rfl) (by kernel_rfl) (lb rfl) (adv [([], 6, 2, .eq (pI (j.stack.length : Int))), ([], 6, 4, .eq (pB true)), ([], 6, 7, .eq (pI (j.names.length : Int))), ([], 6, 10, .eq (pB true)), ([], 6, 13, .eq (pI (j.draws.length : Int))), ([], 6, 16, .eq (pB true)), ([], 6, 22, .eq (pB true)), ([], 6, 28, .eq (pB true)), ([], 6, 34, .eq (pB true)), ([], 6, 39, .eq (pB true))] [([], 2, (.exit 0), (stOf (go k 11 0 67 (adv [([], 2, 3, .eq (pI (j.stack.length : Int))), ([], 2, 5, .eq (pB true)), ([], 2, 8, .eq (pB false))]) law18Plain_L2 (law18Plain_S2 j.kind j.p j.phase j.fd j.nF j.modeF j.tries j.atF j.flags j.path j.path2 j.text j.names j.stack j.draws j.done j.exit j.out j.e v_1))))]) (ex := .ret) (r := (pB (decide (j.atF ≤ (1000000 : Int))))) (by kernel_rfl) rfl (by kernel_rfl) (allC q5 (allC (len_ob (rfl : (j.stack.map FrameD.c) = j.stack.map FrameD.c)) (allC (cg q10) (allC (len_ob (rfl : (j.names.map cS) = j.names.map cS)) (allC (cg q11) (allC (len_ob (rfl : (j.draws.map cI) = j.draws.map cI)) (allC (cg q12) (allC (cg q13) (allC (cg q14) (allC (cg q15) (allC (cg q16) allN))))))))))) (by kernel_rfl) allN
                  · obtain rfl := Option.some.inj h
                    exact ret_go (k := k) Tryz.func11 Tryz.ntmps11 (by kernel_rfl) (by kernel_rfl) (lb rfl) (adv [([], 6, 2, .eq (pI (j.stack.length : Int))), ([], 6, 4, .eq (pB true)), ([], 6, 7, .eq (pI (j.names.length : Int))), ([], 6, 10, .eq (pB true)), ([], 6, 13, .eq (pI (j.draws.length : Int))), ([], 6, 16, .eq (pB true)), ([], 6, 22, .eq (pB true)), ([], 6, 28, .eq (pB true)), ([], 6, 34, .eq (pB true)), ([], 6, 39, .eq (pB false))] [([], 2, (.exit 0), (stOf (go k 11 0 67 (adv [([], 2, 3, .eq (pI (j.stack.length : Int))), ([], 2, 5, .eq (pB true)), ([], 2, 8, .eq (pB false))]) law18Plain_L2 (law18Plain_S2 j.kind j.p j.phase j.fd j.nF j.modeF j.tries j.atF j.flags j.path j.path2 j.text j.names j.stack j.draws j.done j.exit j.out j.e v_1))))]) (ex := .ret) (r := (pB false)) (by kernel_rfl) rfl (by kernel_rfl) (allC q5 (allC (len_ob (rfl : (j.stack.map FrameD.c) = j.stack.map FrameD.c)) (allC (cg q10) (allC (len_ob (rfl : (j.names.map cS) = j.names.map cS)) (allC (cg q11) (allC (len_ob (rfl : (j.draws.map cI) = j.draws.map cI)) (allC (cg q12) (allC (cg q13) (allC (cg q14) (allC (cg q15) (allC (cg q16) allN))))))))))) (by kernel_rfl) allN
                · obtain rfl := Option.some.inj h
                  exact ret_go (k := k) Tryz.func11 Tryz.ntmps11 (by kernel_rfl) (by kernel_rfl) (lb rfl) (adv [([], 6, 2, .eq (pI (j.stack.length : Int))), ([], 6, 4, .eq (pB true)), ([], 6, 7, .eq (pI (j.names.length : Int))), ([], 6, 10, .eq (pB true)), ([], 6, 13, .eq (pI (j.draws.length : Int))), ([], 6, 16, .eq (pB true)), ([], 6, 22, .eq (pB true)), ([], 6, 28, .eq (pB true)), ([], 6, 34, .eq (pB false))] [([], 2, (.exit 0), (stOf (go k 11 0 67 (adv [([], 2, 3, .eq (pI (j.stack.length : Int))), ([], 2, 5, .eq (pB true)), ([], 2, 8, .eq (pB false))]) law18Plain_L2 (law18Plain_S2 j.kind j.p j.phase j.fd j.nF j.modeF j.tries j.atF j.flags j.path j.path2 j.text j.names j.stack j.draws j.done j.exit j.out j.e v_1))))]) (ex := .ret) (r := (pB false)) (by kernel_rfl) rfl (by kernel_rfl) (allC q5 (allC (len_ob (rfl : (j.stack.map FrameD.c) = j.stack.map FrameD.c)) (allC (cg q10) (allC (len_ob (rfl : (j.names.map cS) = j.names.map cS)) (allC (cg q11) (allC (len_ob (rfl : (j.draws.map cI) = j.draws.map cI)) (allC (cg q12) (allC (cg q13) (allC (cg q14) (allC (cg q15) allN)))))))))) (by kernel_rfl) allN
              · obtain rfl := Option.some.inj h
                exact ret_go (k := k) Tryz.func11 Tryz.ntmps11 (by kernel_rfl) (by kernel_rfl) (lb rfl) (adv [([], 6, 2, .eq (pI (j.stack.length : Int))), ([], 6, 4, .eq (pB true)), ([], 6, 7, .eq (pI (j.names.length : Int))), ([], 6, 10, .eq (pB true)), ([], 6, 13, .eq (pI (j.draws.length : Int))), ([], 6, 16, .eq (pB true)), ([], 6, 22, .eq (pB true)), ([], 6, 28, .eq (pB false))] [([], 2, (.exit 0), (stOf (go k 11 0 67 (adv [([], 2, 3, .eq (pI (j.stack.length : Int))), ([], 2, 5, .eq (pB true)), ([], 2, 8, .eq (pB false))]) law18Plain_L2 (law18Plain_S2 j.kind j.p j.phase j.fd j.nF j.modeF j.tries j.atF j.flags j.path j.path2 j.text j.names j.stack j.draws j.done j.exit j.out j.e v_1))))]) (ex := .ret) (r := (pB false)) (by kernel_rfl) rfl (by kernel_rfl) (allC q5 (allC (len_ob (rfl : (j.stack.map FrameD.c) = j.stack.map FrameD.c)) (allC (cg q10) (allC (len_ob (rfl : (j.names.map cS) = j.names.map cS)) (allC (cg q11) (allC (len_ob (rfl : (j.draws.map cI) = j.draws.map cI)) (allC (cg q12) (allC (cg q13) (allC (cg q14) allN))))))))) (by kernel_rfl) allN
            · obtain rfl := Option.some.inj h
              exact ret_go (k := k) Tryz.func11 Tryz.ntmps11 (by kernel_rfl) (by kernel_rfl) (lb rfl) (adv [([], 6, 2, .eq (pI (j.stack.length : Int))), ([], 6, 4, .eq (pB true)), ([], 6, 7, .eq (pI (j.names.length : Int))), ([], 6, 10, .eq (pB true)), ([], 6, 13, .eq (pI (j.draws.length : Int))), ([], 6, 16, .eq (pB true)), ([], 6, 22, .eq (pB false))] [([], 2, (.exit 0), (stOf (go k 11 0 67 (adv [([], 2, 3, .eq (pI (j.stack.length : Int))), ([], 2, 5, .eq (pB true)), ([], 2, 8, .eq (pB false))]) law18Plain_L2 (law18Plain_S2 j.kind j.p j.phase j.fd j.nF j.modeF j.tries j.atF j.flags j.path j.path2 j.text j.names j.stack j.draws j.done j.exit j.out j.e v_1))))]) (ex := .ret) (r := (pB false)) (by kernel_rfl) rfl (by kernel_rfl) (allC q5 (allC (len_ob (rfl : (j.stack.map FrameD.c) = j.stack.map FrameD.c)) (allC (cg q10) (allC (len_ob (rfl : (j.names.map cS) = j.names.map cS)) (allC (cg q11) (allC (len_ob (rfl : (j.draws.map cI) = j.draws.map cI)) (allC (cg q12) (allC (cg q13) allN)))))))) (by kernel_rfl) allN
          · obtain rfl := Option.some.inj h
            exact ret_go (k := k) Tryz.func11 Tryz.ntmps11 (by kernel_rfl) (by kernel_rfl) (lb rfl) (adv [([], 6, 2, .eq (pI (j.stack.length : Int))), ([], 6, 4, .eq (pB true)), ([], 6, 7, .eq (pI (j.names.length : Int))), ([], 6, 10, .eq (pB true)), ([], 6, 13, .eq (pI (j.draws.length : Int))), ([], 6, 16, .eq (pB false))] [([], 2, (.exit 0), (stOf (go k 11 0 67 (adv [([], 2, 3, .eq (pI (j.stack.length : Int))), ([], 2, 5, .eq (pB true)), ([], 2, 8, .eq (pB false))]) law18Plain_L2 (law18Plain_S2 j.kind j.p j.phase j.fd j.nF j.modeF j.tries j.atF j.flags j.path j.path2 j.text j.names j.stack j.draws j.done j.exit j.out j.e v_1))))]) (ex := .ret) (r := (pB false)) (by kernel_rfl) rfl (by kernel_rfl) (allC q5 (allC (len_ob (rfl : (j.stack.map FrameD.c) = j.stack.map FrameD.c)) (allC (cg q10) (allC (len_ob (rfl : (j.names.map cS) = j.names.map cS)) (allC (cg q11) (allC (len_ob (rfl : (j.draws.map cI) = j.draws.map cI)) (allC (cg q12) allN))))))) (by kernel_rfl) allN
        · obtain rfl := Option.some.inj h
          exact ret_go (k := k) Tryz.func11 Tryz.ntmps11 (by kernel_rfl) (by kernel_rfl) (lb rfl) (adv [([], 6, 2, .eq (pI (j.stack.length : Int))), ([], 6, 4, .eq (pB true)), ([], 6, 7, .eq (pI (j.names.length : Int))), ([], 6, 10, .eq (pB false))] [([], 2, (.exit 0), (stOf (go k 11 0 67 (adv [([], 2, 3, .eq (pI (j.stack.length : Int))), ([], 2, 5, .eq (pB true)), ([], 2, 8, .eq (pB false))]) law18Plain_L2 (law18Plain_S2 j.kind j.p j.phase j.fd j.nF j.modeF j.tries j.atF j.flags j.path j.path2 j.text j.names j.stack j.draws j.done j.exit j.out j.e v_1))))]) (ex := .ret) (r := (pB false)) (by kernel_rfl) rfl (by kernel_rfl) (allC q5 (allC (len_ob (rfl : (j.stack.map FrameD.c) = j.stack.map FrameD.c)) (allC (cg q10) (allC (len_ob (rfl : (j.names.map cS) = j.names.map cS)) (allC (cg q11) allN))))) (by kernel_rfl) allN
      · obtain rfl := Option.some.inj h
        exact ret_go (k := k) Tryz.func11 Tryz.ntmps11 (by kernel_rfl) (by kernel_rfl) (lb rfl) (adv [([], 6, 2, .eq (pI (j.stack.length : Int))), ([], 6, 4, .eq (pB false))] [([], 2, (.exit 0), (stOf (go k 11 0 67 (adv [([], 2, 3, .eq (pI (j.stack.length : Int))), ([], 2, 5, .eq (pB true)), ([], 2, 8, .eq (pB false))]) law18Plain_L2 (law18Plain_S2 j.kind j.p j.phase j.fd j.nF j.modeF j.tries j.atF j.flags j.path j.path2 j.text j.names j.stack j.draws j.done j.exit j.out j.e v_1))))]) (ex := .ret) (r := (pB false)) (by kernel_rfl) rfl (by kernel_rfl) (allC q5 (allC (len_ob (rfl : (j.stack.map FrameD.c) = j.stack.map FrameD.c)) (allC (cg q10) allN))) (by kernel_rfl) allN
  · cases q2
    try dsimp only at h
    have q4 := run_go (k := k) (f := 11) (r0 := 0) (nt := 67) (c := law18Plain_L2) (σ := (law18Plain_S2 j.kind j.p j.phase j.fd j.nF j.modeF j.tries j.atF j.flags j.path j.path2 j.text j.names j.stack j.draws j.done j.exit j.out j.e v_1)) (adv [([], 2, 3, .eq (pI (j.stack.length : Int))), ([], 2, 5, .eq (pB false))]) (ex := (.exit 0)) (by kernel_rfl) (by kernel_rfl) (allC (len_ob (rfl : (j.stack.map FrameD.c) = j.stack.map FrameD.c)) (allC (cg q6) allN))
    have q5 := q3 _ _ (by intro e; cases e) q4
    rcases bif_some h with ⟨q10, h⟩ | ⟨q10, h⟩
    · rcases bif_some h with ⟨q11, h⟩ | ⟨q11, h⟩
      · rcases bif_some h with ⟨q12, h⟩ | ⟨q12, h⟩
        · rcases bif_some h with ⟨q13, h⟩ | ⟨q13, h⟩
          · rcases bif_some h with ⟨q14, h⟩ | ⟨q14, h⟩
            · rcases bif_some h with ⟨q15, h⟩ | ⟨q15, h⟩
              · rcases bif_some h with ⟨q16, h⟩ | ⟨q16, h⟩
                · obtain rfl := Option.some.inj h
                  exact ret_go (k := k) Tryz.func11 Tryz.ntmps11 (by kernel_rfl) (by kernel_rfl) (lb rfl) (adv [([], 6, 2, .eq (pI (j.stack.length : Int))), ([], 6, 4, .eq (pB true)), ([], 6, 7, .eq (pI (j.names.length : Int))), ([], 6, 10, .eq (pB true)), ([], 6, 13, .eq (pI (j.draws.length : Int))), ([], 6, 16, .eq (pB true)), ([], 6, 22, .eq (pB true)), ([], 6, 28, .eq (pB true)), ([], 6, 34, .eq (pB true)), ([], 6, 39, .eq (pB true))] [([], 2, (.exit 0), (stOf (go k 11 0 67 (adv [([], 2, 3, .eq (pI (j.stack.length : Int))), ([], 2, 5, .eq (pB false))]) law18Plain_L2 (law18Plain_S2 j.kind j.p j.phase j.fd j.nF j.modeF j.tries j.atF j.flags j.path j.path2 j.text j.names j.stack j.draws j.done j.exit j.out j.e v_1))))]) (ex := .ret) (r := (pB (decide (j.atF ≤ (1000000 : Int))))) (by kernel_rfl) rfl (by kernel_rfl) (allC q5 (allC (len_ob (rfl : (j.stack.map FrameD.c) = j.stack.map FrameD.c)) (allC (cg q10) (allC (len_ob (rfl : (j.names.map cS) = j.names.map cS)) (allC (cg q11) (allC (len_ob (rfl : (j.draws.map cI) = j.draws.map cI)) (allC (cg q12) (allC (cg q13) (allC (cg q14) (allC (cg q15) (allC (cg q16) allN))))))))))) (by kernel_rfl) allN
                · obtain rfl := Option.some.inj h
                  exact ret_go (k := k) Tryz.func11 Tryz.ntmps11 (by kernel_rfl) (by kernel_rfl) (lb rfl) (adv [([], 6, 2, .eq (pI (j.stack.length : Int))), ([], 6, 4, .eq (pB true)), ([], 6, 7, .eq (pI (j.names.length : Int))), ([], 6, 10, .eq (pB true)), ([], 6, 13, .eq (pI (j.draws.length : Int))), ([], 6, 16, .eq (pB true)), ([], 6, 22, .eq (pB true)), ([], 6, 28, .eq (pB true)), ([], 6, 34, .eq (pB true)), ([], 6, 39, .eq (pB false))] [([], 2, (.exit 0), (stOf (go k 11 0 67 (adv [([], 2, 3, .eq (pI (j.stack.length : Int))), ([], 2, 5, .eq (pB false))]) law18Plain_L2 (law18Plain_S2 j.kind j.p j.phase j.fd j.nF j.modeF j.tries j.atF j.flags j.path j.path2 j.text j.names j.stack j.draws j.done j.exit j.out j.e v_1))))]) (ex := .ret) (r := (pB false)) (by kernel_rfl) rfl (by kernel_rfl) (allC q5 (allC (len_ob (rfl : (j.stack.map FrameD.c) = j.stack.map FrameD.c)) (allC (cg q10) (allC (len_ob (rfl : (j.names.map cS) = j.names.map cS)) (allC (cg q11) (allC (len_ob (rfl : (j.draws.map cI) = j.draws.map cI)) (allC (cg q12) (allC (cg q13) (allC (cg q14) (allC (cg q15) (allC (cg q16) allN))))))))))) (by kernel_rfl) allN
              · obtain rfl := Option.some.inj h
                exact ret_go (k := k) Tryz.func11 Tryz.ntmps11 (by kernel_rfl) (by kernel_rfl) (lb rfl) (adv [([], 6, 2, .eq (pI (j.stack.length : Int))), ([], 6, 4, .eq (pB true)), ([], 6, 7, .eq (pI (j.names.length : Int))), ([], 6, 10, .eq (pB true)), ([], 6, 13, .eq (pI (j.draws.length : Int))), ([], 6, 16, .eq (pB true)), ([], 6, 22, .eq (pB true)), ([], 6, 28, .eq (pB true)), ([], 6, 34, .eq (pB false))] [([], 2, (.exit 0), (stOf (go k 11 0 67 (adv [([], 2, 3, .eq (pI (j.stack.length : Int))), ([], 2, 5, .eq (pB false))]) law18Plain_L2 (law18Plain_S2 j.kind j.p j.phase j.fd j.nF j.modeF j.tries j.atF j.flags j.path j.path2 j.text j.names j.stack j.draws j.done j.exit j.out j.e v_1))))]) (ex := .ret) (r := (pB false)) (by kernel_rfl) rfl (by kernel_rfl) (allC q5 (allC (len_ob (rfl : (j.stack.map FrameD.c) = j.stack.map FrameD.c)) (allC (cg q10) (allC (len_ob (rfl : (j.names.map cS) = j.names.map cS)) (allC (cg q11) (allC (len_ob (rfl : (j.draws.map cI) = j.draws.map cI)) (allC (cg q12) (allC (cg q13) (allC (cg q14) (allC (cg q15) allN)))))))))) (by kernel_rfl) allN
            · obtain rfl := Option.some.inj h
              exact ret_go (k := k) Tryz.func11 Tryz.ntmps11 (by kernel_rfl) (by kernel_rfl) (lb rfl) (adv [([], 6, 2, .eq (pI (j.stack.length : Int))), ([], 6, 4, .eq (pB true)), ([], 6, 7, .eq (pI (j.names.length : Int))), ([], 6, 10, .eq (pB true)), ([], 6, 13, .eq (pI (j.draws.length : Int))), ([], 6, 16, .eq (pB true)), ([], 6, 22, .eq (pB true)), ([], 6, 28, .eq (pB false))] [([], 2, (.exit 0), (stOf (go k 11 0 67 (adv [([], 2, 3, .eq (pI (j.stack.length : Int))), ([], 2, 5, .eq (pB false))]) law18Plain_L2 (law18Plain_S2 j.kind j.p j.phase j.fd j.nF j.modeF j.tries j.atF j.flags j.path j.path2 j.text j.names j.stack j.draws j.done j.exit j.out j.e v_1))))]) (ex := .ret) (r := (pB false)) (by kernel_rfl) rfl (by kernel_rfl) (allC q5 (allC (len_ob (rfl : (j.stack.map FrameD.c) = j.stack.map FrameD.c)) (allC (cg q10) (allC (len_ob (rfl : (j.names.map cS) = j.names.map cS)) (allC (cg q11) (allC (len_ob (rfl : (j.draws.map cI) = j.draws.map cI)) (allC (cg q12) (allC (cg q13) (allC (cg q14) allN))))))))) (by kernel_rfl) allN
          · obtain rfl := Option.some.inj h
            exact ret_go (k := k) Tryz.func11 Tryz.ntmps11 (by kernel_rfl) (by kernel_rfl) (lb rfl) (adv [([], 6, 2, .eq (pI (j.stack.length : Int))), ([], 6, 4, .eq (pB true)), ([], 6, 7, .eq (pI (j.names.length : Int))), ([], 6, 10, .eq (pB true)), ([], 6, 13, .eq (pI (j.draws.length : Int))), ([], 6, 16, .eq (pB true)), ([], 6, 22, .eq (pB false))] [([], 2, (.exit 0), (stOf (go k 11 0 67 (adv [([], 2, 3, .eq (pI (j.stack.length : Int))), ([], 2, 5, .eq (pB false))]) law18Plain_L2 (law18Plain_S2 j.kind j.p j.phase j.fd j.nF j.modeF j.tries j.atF j.flags j.path j.path2 j.text j.names j.stack j.draws j.done j.exit j.out j.e v_1))))]) (ex := .ret) (r := (pB false)) (by kernel_rfl) rfl (by kernel_rfl) (allC q5 (allC (len_ob (rfl : (j.stack.map FrameD.c) = j.stack.map FrameD.c)) (allC (cg q10) (allC (len_ob (rfl : (j.names.map cS) = j.names.map cS)) (allC (cg q11) (allC (len_ob (rfl : (j.draws.map cI) = j.draws.map cI)) (allC (cg q12) (allC (cg q13) allN)))))))) (by kernel_rfl) allN
        · obtain rfl := Option.some.inj h
          exact ret_go (k := k) Tryz.func11 Tryz.ntmps11 (by kernel_rfl) (by kernel_rfl) (lb rfl) (adv [([], 6, 2, .eq (pI (j.stack.length : Int))), ([], 6, 4, .eq (pB true)), ([], 6, 7, .eq (pI (j.names.length : Int))), ([], 6, 10, .eq (pB true)), ([], 6, 13, .eq (pI (j.draws.length : Int))), ([], 6, 16, .eq (pB false))] [([], 2, (.exit 0), (stOf (go k 11 0 67 (adv [([], 2, 3, .eq (pI (j.stack.length : Int))), ([], 2, 5, .eq (pB false))]) law18Plain_L2 (law18Plain_S2 j.kind j.p j.phase j.fd j.nF j.modeF j.tries j.atF j.flags j.path j.path2 j.text j.names j.stack j.draws j.done j.exit j.out j.e v_1))))]) (ex := .ret) (r := (pB false)) (by kernel_rfl) rfl (by kernel_rfl) (allC q5 (allC (len_ob (rfl : (j.stack.map FrameD.c) = j.stack.map FrameD.c)) (allC (cg q10) (allC (len_ob (rfl : (j.names.map cS) = j.names.map cS)) (allC (cg q11) (allC (len_ob (rfl : (j.draws.map cI) = j.draws.map cI)) (allC (cg q12) allN))))))) (by kernel_rfl) allN
      · obtain rfl := Option.some.inj h
        exact ret_go (k := k) Tryz.func11 Tryz.ntmps11 (by kernel_rfl) (by kernel_rfl) (lb rfl) (adv [([], 6, 2, .eq (pI (j.stack.length : Int))), ([], 6, 4, .eq (pB true)), ([], 6, 7, .eq (pI (j.names.length : Int))), ([], 6, 10, .eq (pB false))] [([], 2, (.exit 0), (stOf (go k 11 0 67 (adv [([], 2, 3, .eq (pI (j.stack.length : Int))), ([], 2, 5, .eq (pB false))]) law18Plain_L2 (law18Plain_S2 j.kind j.p j.phase j.fd j.nF j.modeF j.tries j.atF j.flags j.path j.path2 j.text j.names j.stack j.draws j.done j.exit j.out j.e v_1))))]) (ex := .ret) (r := (pB false)) (by kernel_rfl) rfl (by kernel_rfl) (allC q5 (allC (len_ob (rfl : (j.stack.map FrameD.c) = j.stack.map FrameD.c)) (allC (cg q10) (allC (len_ob (rfl : (j.names.map cS) = j.names.map cS)) (allC (cg q11) allN))))) (by kernel_rfl) allN
    · obtain rfl := Option.some.inj h
      exact ret_go (k := k) Tryz.func11 Tryz.ntmps11 (by kernel_rfl) (by kernel_rfl) (lb rfl) (adv [([], 6, 2, .eq (pI (j.stack.length : Int))), ([], 6, 4, .eq (pB false))] [([], 2, (.exit 0), (stOf (go k 11 0 67 (adv [([], 2, 3, .eq (pI (j.stack.length : Int))), ([], 2, 5, .eq (pB false))]) law18Plain_L2 (law18Plain_S2 j.kind j.p j.phase j.fd j.nF j.modeF j.tries j.atF j.flags j.path j.path2 j.text j.names j.stack j.draws j.done j.exit j.out j.e v_1))))]) (ex := .ret) (r := (pB false)) (by kernel_rfl) rfl (by kernel_rfl) (allC q5 (allC (len_ob (rfl : (j.stack.map FrameD.c) = j.stack.map FrameD.c)) (allC (cg q10) allN))) (by kernel_rfl) allN
def law18Reply (rF : ReplyD) : Option ReplyD :=
 some rF
set_option maxRecDepth 100000 in
theorem law18Reply_ok (k : Nat) (rF : ReplyD) (r : ReplyD) (h : law18Reply rF = some r) : run0 (k + 1) 16 [(.agg [(pI rF.e), (pI rF.nF), (pS rF.s), (.list 1 false (rF.l.map cS)), (pI rF.i.ino), (pI rF.i.kind), (pI rF.i.modeF), (pI rF.i.owner), (pI rF.i.links), (pI rF.i.size)])] = some (.agg [(pI r.e), (pI r.nF), (pS r.s), (.list 1 false (r.l.map cS)), (pI r.i.ino), (pI r.i.kind), (pI r.i.modeF), (pI r.i.owner), (pI r.i.links), (pI r.i.size)]) := by
  unfold law18Reply at h
  obtain rfl := Option.some.inj h
  exact ret_go (k := k) Tryz.func16 Tryz.ntmps16 (by kernel_rfl) (by kernel_rfl) (lb rfl) (adv []) (ex := .ret) (r := (.agg [(pI rF.e), (pI rF.nF), (pS rF.s), (.list 1 false (rF.l.map cS)), (pI rF.i.ino), (pI rF.i.kind), (pI rF.i.modeF), (pI rF.i.owner), (pI rF.i.links), (pI rF.i.size)])) (by kernel_rfl) rfl (by kernel_rfl) allN (by kernel_rfl) allN
end Go.Proofs.YtdbekeidlppfiaaGreatDoor.Den
namespace Go.Proofs.YtdbekeidlppfiaaGreatDoor.Den
open Go Go.RowKit
def law18CloneSteps (j : JobD) (rF : ReplyD) : Option Bool :=
 (law18Plain j).bind fun r_1 =>
 bif (!r_1) then (
 (shownX).bind fun r_2 =>
 some r_2
 ) else (
 bif (decide ((rF.l.length : Int) > (60 : Int))) then (
 (shownX).bind fun r_2 =>
 some r_2
 ) else (
 bif (decide (rF.e < (0 : Int))) then (
 (shownX).bind fun r_2 =>
 some r_2
 ) else (
 (shownX).bind fun r_2 =>
 bif (!r_2) then (
 (shownX).bind fun r_3 =>
 some r_3
 ) else (
 (cloneTell j rF).bind fun r_3 =>
 bif (decide ((r_3.names.length : Int) ≤ (1000 : Int))) then (
 (cloneAsk j).bind fun r_4 =>
 (law18Work j).bind fun r_5 =>
 (ref18Ask r_5).bind fun r_6 =>
 bif ((r_4.kind == r_6.kind) && ((r_4.fd == r_6.fd) && ((r_4.fd2 == r_6.fd2) && ((r_4.nF == r_6.nF) && ((r_4.modeF == r_6.modeF) && ((r_4.flags == r_6.flags) && ((seq r_4.path r_6.path) && ((seq r_4.path2 r_6.path2) && ((seq r_4.data r_6.data) && true))))))))) then (
 (law18Work r_3).bind fun r_7 =>
 (law18Work j).bind fun r_8 =>
 (law18Reply rF).bind fun r_9 =>
 (ref18Tell r_8 r_9).bind fun r_10 =>
 (ref15Same r_7 r_10).bind fun r_11 =>
 some r_11
 ) else (
 some false
 )
 ) else (
 some false
 )
 )
 )
 )
 )
set_option maxRecDepth 100000 in
theorem law18CloneSteps_ok (k : Nat) (j : JobD) (rF : ReplyD) (r : Bool) (h : law18CloneSteps j rF = some r) : run0 (k + 7) 4 [(JobD.a j), (.agg [(pI rF.e), (pI rF.nF), (pS rF.s), (.list 1 false (rF.l.map cS)), (pI rF.i.ino), (pI rF.i.kind), (pI rF.i.modeF), (pI rF.i.owner), (pI rF.i.links), (pI rF.i.size)])] = some (pB r) := by
  unfold law18CloneSteps at h
  obtain ⟨r_1, q1, h⟩ := bnd_some h
  rcases bif_some h with ⟨q2, h⟩ | ⟨q2, h⟩
  · obtain ⟨r_2, q3, h⟩ := bnd_some h
    obtain rfl := Option.some.inj h
    exact ret_go (k := (k + 6)) Tryz.func4 Tryz.ntmps4 (by kernel_rfl) (by kernel_rfl) (lb rfl) (adv [([], 1, 1, .ret (pB r_1)), ([], 1, 3, .eq (pB true)), ([], 2, 0, .ret (pB r_2))]) (ex := .ret) (r := (pB r_2)) (by kernel_rfl) rfl (by kernel_rfl) (allC (law18Plain_ok (k + 5) j _ q1) (allC (cg q2) (allC (shownX_ok (k + 6)  _ q3) allN))) (by kernel_rfl) allN
  · rcases bif_some h with ⟨q3, h⟩ | ⟨q3, h⟩
    · obtain ⟨r_2, q4, h⟩ := bnd_some h
      obtain rfl := Option.some.inj h
      exact ret_go (k := (k + 6)) Tryz.func4 Tryz.ntmps4 (by kernel_rfl) (by kernel_rfl) (lb rfl) (adv [([], 1, 1, .ret (pB r_1)), ([], 1, 3, .eq (pB false)), ([], 1, 6, .eq (pI (rF.l.length : Int))), ([], 1, 9, .eq (pB true)), ([], 2, 0, .ret (pB r_2))]) (ex := .ret) (r := (pB r_2)) (by kernel_rfl) rfl (by kernel_rfl) (allC (law18Plain_ok (k + 5) j _ q1) (allC (cg q2) (allC (len_ob (rfl : (rF.l.map cS) = rF.l.map cS)) (allC (cg q3) (allC (shownX_ok (k + 6)  _ q4) allN))))) (by kernel_rfl) allN
    · rcases bif_some h with ⟨q4, h⟩ | ⟨q4, h⟩
      · obtain ⟨r_2, q5, h⟩ := bnd_some h
        obtain rfl := Option.some.inj h
        exact ret_go (k := (k + 6)) Tryz.func4 Tryz.ntmps4 (by kernel_rfl) (by kernel_rfl) (lb rfl) (adv [([], 1, 1, .ret (pB r_1)), ([], 1, 3, .eq (pB false)), ([], 1, 6, .eq (pI (rF.l.length : Int))), ([], 1, 9, .eq (pB false)), ([], 1, 14, .eq (pB true)), ([], 2, 0, .ret (pB r_2))]) (ex := .ret) (r := (pB r_2)) (by kernel_rfl) rfl (by kernel_rfl) (allC (law18Plain_ok (k + 5) j _ q1) (allC (cg q2) (allC (len_ob (rfl : (rF.l.map cS) = rF.l.map cS)) (allC (cg q3) (allC (cg q4) (allC (shownX_ok (k + 6)  _ q5) allN)))))) (by kernel_rfl) allN
      · obtain ⟨r_2, q5, h⟩ := bnd_some h
        rcases bif_some h with ⟨q6, h⟩ | ⟨q6, h⟩
        · obtain ⟨r_3, q7, h⟩ := bnd_some h
          obtain rfl := Option.some.inj h
          exact ret_go (k := (k + 6)) Tryz.func4 Tryz.ntmps4 (by kernel_rfl) (by kernel_rfl) (lb rfl) (adv [([], 1, 1, .ret (pB r_1)), ([], 1, 3, .eq (pB false)), ([], 1, 6, .eq (pI (rF.l.length : Int))), ([], 1, 9, .eq (pB false)), ([], 1, 14, .eq (pB false)), ([], 1, 15, .ret (pB r_2)), ([], 1, 17, .eq (pB true)), ([], 2, 0, .ret (pB r_3))]) (ex := .ret) (r := (pB r_3)) (by kernel_rfl) rfl (by kernel_rfl) (allC (law18Plain_ok (k + 5) j _ q1) (allC (cg q2) (allC (len_ob (rfl : (rF.l.map cS) = rF.l.map cS)) (allC (cg q3) (allC (cg q4) (allC (shownX_ok (k + 6)  _ q5) (allC (cg q6) (allC (shownX_ok (k + 6)  _ q7) allN)))))))) (by kernel_rfl) allN
        · obtain ⟨r_3, q7, h⟩ := bnd_some h
          rcases bif_some h with ⟨q8, h⟩ | ⟨q8, h⟩
          · obtain ⟨r_4, q9, h⟩ := bnd_some h
            obtain ⟨r_5, q10, h⟩ := bnd_some h
            obtain ⟨r_6, q11, h⟩ := bnd_some h
            rcases bif_some h with ⟨q12, h⟩ | ⟨q12, h⟩
            · obtain ⟨r_7, q13, h⟩ := bnd_some h
              obtain ⟨r_8, q14, h⟩ := bnd_some h
              obtain ⟨r_9, q15, h⟩ := bnd_some h
              obtain ⟨r_10, q16, h⟩ := bnd_some h
              obtain ⟨r_11, q17, h⟩ := bnd_some h
              obtain rfl := Option.some.inj h
              exact ret_go (k := (k + 6)) Tryz.func4 Tryz.ntmps4 (by kernel_rfl) (by kernel_rfl) (lb rfl) (adv [([], 1, 1, .ret (pB r_1)), ([], 1, 3, .eq (pB false)), ([], 1, 6, .eq (pI (rF.l.length : Int))), ([], 1, 9, .eq (pB false)), ([], 1, 14, .eq (pB false)), ([], 1, 15, .ret (pB r_2)), ([], 1, 17, .eq (pB false)), ([], 3, 2, .ret (JobD.a r_3)), ([], 4, 2, .eq (pI (r_3.names.length : Int))), ([], 4, 4, .eq (pB true)), ([], 4, 6, .ret (.agg [(pI r_4.kind), (pI r_4.fd), (pI r_4.fd2), (pI r_4.nF), (pI r_4.modeF), (pI r_4.flags), (pS r_4.path), (pS r_4.path2), (pS r_4.data)])), ([], 4, 8, .ret (JobD.a r_5)), ([], 4, 9, .ret (.agg [(pI r_6.kind), (pI r_6.fd), (pI r_6.fd2), (pI r_6.nF), (pI r_6.modeF), (pI r_6.flags), (pS r_6.path), (pS r_6.path2), (pS r_6.data)])), ([], 4, 12, .eq (pB true)), ([], 4, 14, .ret (JobD.a r_7)), ([], 4, 16, .ret (JobD.a r_8)), ([], 4, 18, .ret (.agg [(pI r_9.e), (pI r_9.nF), (pS r_9.s), (.list 1 false (r_9.l.map cS)), (pI r_9.i.ino), (pI r_9.i.kind), (pI r_9.i.modeF), (pI r_9.i.owner), (pI r_9.i.links), (pI r_9.i.size)])), ([], 4, 19, .ret (JobD.a r_10)), ([], 4, 20, .ret (pB r_11))]) (ex := .ret) (r := (pB r_11)) (by kernel_rfl) rfl (by kernel_rfl) (allC (law18Plain_ok (k + 5) j _ q1) (allC (cg q2) (allC (len_ob (rfl : (rF.l.map cS) = rF.l.map cS)) (allC (cg q3) (allC (cg q4) (allC (shownX_ok (k + 6)  _ q5) (allC (cg q6) (allC (cloneTell_ok k j rF _ q7) (allC (len_ob (rfl : (r_3.names.map cS) = r_3.names.map cS)) (allC (cg q8) (allC (cloneAsk_ok (k + 4) j _ q9) (allC (law18Work_ok (k + 5) j _ q10) (allC (ref18Ask_ok (k + 4) r_5 _ q11) (allC (cg q12) (allC (law18Work_ok (k + 5) r_3 _ q13) (allC (law18Work_ok (k + 5) j _ q14) (allC (law18Reply_ok (k + 5) rF _ q15) (allC (ref18Tell_ok (k + 1) r_8 r_9 _ q16) (allC (ref15Same_ok (k + 3) r_7 r_10 _ q17) allN))))))))))))))))))) (by kernel_rfl) allN
            · obtain rfl := Option.some.inj h
              exact ret_go (k := (k + 6)) Tryz.func4 Tryz.ntmps4 (by kernel_rfl) (by kernel_rfl) (lb rfl) (adv [([], 1, 1, .ret (pB r_1)), ([], 1, 3, .eq (pB false)), ([], 1, 6, .eq (pI (rF.l.length : Int))), ([], 1, 9, .eq (pB false)), ([], 1, 14, .eq (pB false)), ([], 1, 15, .ret (pB r_2)), ([], 1, 17, .eq (pB false)), ([], 3, 2, .ret (JobD.a r_3)), ([], 4, 2, .eq (pI (r_3.names.length : Int))), ([], 4, 4, .eq (pB true)), ([], 4, 6, .ret (.agg [(pI r_4.kind), (pI r_4.fd), (pI r_4.fd2), (pI r_4.nF), (pI r_4.modeF), (pI r_4.flags), (pS r_4.path), (pS r_4.path2), (pS r_4.data)])), ([], 4, 8, .ret (JobD.a r_5)), ([], 4, 9, .ret (.agg [(pI r_6.kind), (pI r_6.fd), (pI r_6.fd2), (pI r_6.nF), (pI r_6.modeF), (pI r_6.flags), (pS r_6.path), (pS r_6.path2), (pS r_6.data)])), ([], 4, 12, .eq (pB false))]) (ex := .ret) (r := (pB false)) (by kernel_rfl) rfl (by kernel_rfl) (allC (law18Plain_ok (k + 5) j _ q1) (allC (cg q2) (allC (len_ob (rfl : (rF.l.map cS) = rF.l.map cS)) (allC (cg q3) (allC (cg q4) (allC (shownX_ok (k + 6)  _ q5) (allC (cg q6) (allC (cloneTell_ok k j rF _ q7) (allC (len_ob (rfl : (r_3.names.map cS) = r_3.names.map cS)) (allC (cg q8) (allC (cloneAsk_ok (k + 4) j _ q9) (allC (law18Work_ok (k + 5) j _ q10) (allC (ref18Ask_ok (k + 4) r_5 _ q11) (allC (cg q12) allN)))))))))))))) (by kernel_rfl) allN
          · obtain rfl := Option.some.inj h
            exact ret_go (k := (k + 6)) Tryz.func4 Tryz.ntmps4 (by kernel_rfl) (by kernel_rfl) (lb rfl) (adv [([], 1, 1, .ret (pB r_1)), ([], 1, 3, .eq (pB false)), ([], 1, 6, .eq (pI (rF.l.length : Int))), ([], 1, 9, .eq (pB false)), ([], 1, 14, .eq (pB false)), ([], 1, 15, .ret (pB r_2)), ([], 1, 17, .eq (pB false)), ([], 3, 2, .ret (JobD.a r_3)), ([], 4, 2, .eq (pI (r_3.names.length : Int))), ([], 4, 4, .eq (pB false))]) (ex := .ret) (r := (pB false)) (by kernel_rfl) rfl (by kernel_rfl) (allC (law18Plain_ok (k + 5) j _ q1) (allC (cg q2) (allC (len_ob (rfl : (rF.l.map cS) = rF.l.map cS)) (allC (cg q3) (allC (cg q4) (allC (shownX_ok (k + 6)  _ q5) (allC (cg q6) (allC (cloneTell_ok k j rF _ q7) (allC (len_ob (rfl : (r_3.names.map cS) = r_3.names.map cS)) (allC (cg q8) allN)))))))))) (by kernel_rfl) allN
end Go.Proofs.YtdbekeidlppfiaaGreatDoor.Den
