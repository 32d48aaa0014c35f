/- Texts joined by a program of mine (pack.py): DenF12. -/
import Derived.Test.YtdbekeidlppfiaaGreatDoorDenF11
set_option linter.unusedVariables false
set_option linter.unusedSimpArgs false
namespace Go.Proofs.YtdbekeidlppfiaaGreatDoor.Den
open Go Go.RowKit
noncomputable def law18Work_L3 : Code := cAt (codeOf Tryz.f9) [true, true, false, true, false, false]
def law18Work_R3_0 (x0 : Int) (x1 : Int) (x2 : Int) (x3 : Int) (x4 : Int) (x5 : Int) (x6 : Int) (x7 : Int) (x8 : Int) (x9 : Int) (x10 : ByteArray) (x11 : ByteArray) (x12 : ByteArray) (x13 : List (List PV)) (x14 : List (List PV)) (x15 : List (List PV)) (x16 : Bool) (x17 : Int) (x18 : ByteArray) (x19 : Int) (x20 : Int) (x21 : Int) (x22 : Int) (x23 : Int) (x24 : Int) (x25 : Int) (x26 : Int) (x27 : Int) (x28 : Int) (x29 : ByteArray) (x30 : ByteArray) (x31 : ByteArray) (x32 : List (List PV)) (x33 : List (List PV)) (x34 : Bool) (x35 : Int) (x36 : ByteArray) (x37 : Int) : St := ⟨envL [(1, (.ptr [0, TAG] 1 0 0)), (2, (.ptr [1, TAG] 1 0 0)), (3, (.ptr [2, TAG] 1 0 0)), (4, (pI x0))], hsL [some ⟨19, 29, [[(pI x1), (pI x2), (pI x3), (pI x4), (pI x5), (pI x6), (pI x7), (pI x8), (pI x9), (pS x10), (pS x11), (pS x12), (.list 1 false x13), (.list 3 false x14), (.list 1 false x15), (pB x16), (pI x17), (pS x18), (pI x19)]], true, false⟩, some ⟨19, 34, [[(pI (0 : Int)), (pI (0 : Int)), (pI (0 : Int)), (pI (0 : Int)), (pI (0 : Int)), (pI (0 : Int)), (pI (0 : Int)), (pI (0 : Int)), (pI (0 : Int)), (pS (bs [])), (pS (bs [])), (pS (bs [])), (.v (.slice none 0 0)), (.v (.slice none 0 0)), (.v (.slice none 0 0)), (pB false), (pI (0 : Int)), (pS (bs [])), (pI (0 : Int))]], true, false⟩, some ⟨19, 34, [[(pI x20), (pI x21), (pI x22), (pI x23), (pI x24), (pI x25), (pI x26), (pI x27), (pI x28), (pS x29), (pS x30), (pS x31), (.list 1 false x32), (.v (.slice none 0 0)), (.list 1 false x33), (pB x34), (pI x35), (pS x36), (pI x37)]], true, false⟩] [0, 0, 0]⟩
def law18Work_R3_1 (x0 : Int) (x1 : Int) (x2 : Int) (x3 : Int) (x4 : Int) (x5 : Int) (x6 : Int) (x7 : Int) (x8 : Int) (x9 : Int) (x10 : ByteArray) (x11 : ByteArray) (x12 : ByteArray) (x13 : List (List PV)) (x14 : List (List PV)) (x15 : List (List PV)) (x16 : Bool) (x17 : Int) (x18 : ByteArray) (x19 : Int) (x20 : Int) (x21 : Int) (x22 : Int) (x23 : Int) (x24 : Int) (x25 : Int) (x26 : Int) (x27 : Int) (x28 : Int) (x29 : ByteArray) (x30 : ByteArray) (x31 : ByteArray) (x32 : List (List PV)) (x33 : Nat) (x34 : List (List PV)) (x35 : Bool) (x36 : Int) (x37 : ByteArray) (x38 : Int) (x39 : List (List PV)) : St := ⟨envL [(1, (.ptr [0, TAG] 1 0 0)), (2, (.ptr [1, TAG] 1 0 0)), (3, (.ptr [2, TAG] 1 0 0)), (4, (pI x0))], hsL [some ⟨19, 29, [[(pI x1), (pI x2), (pI x3), (pI x4), (pI x5), (pI x6), (pI x7), (pI x8), (pI x9), (pS x10), (pS x11), (pS x12), (.list 1 false x13), (.list 3 false x14), (.list 1 false x15), (pB x16), (pI x17), (pS x18), (pI x19)]], true, false⟩, some ⟨19, 34, [[(pI (0 : Int)), (pI (0 : Int)), (pI (0 : Int)), (pI (0 : Int)), (pI (0 : Int)), (pI (0 : Int)), (pI (0 : Int)), (pI (0 : Int)), (pI (0 : Int)), (pS (bs [])), (pS (bs [])), (pS (bs [])), (.v (.slice none 0 0)), (.v (.slice none 0 0)), (.v (.slice none 0 0)), (pB false), (pI (0 : Int)), (pS (bs [])), (pI (0 : Int))]], true, false⟩, some ⟨19, 34, [[(pI x20), (pI x21), (pI x22), (pI x23), (pI x24), (pI x25), (pI x26), (pI x27), (pI x28), (pS x29), (pS x30), (pS x31), (.list 1 false x32), (.row [3, TAG] 1 0 x33), (.list 1 false x34), (pB x35), (pI x36), (pS x37), (pI x38)]], false, false⟩, some ⟨3, 96, x39, true, true⟩] [0, 0, 0, 0]⟩
theorem law18Work_R3_1_eq {x0 y0 : Int} {x1 y1 : Int} {x2 y2 : Int} {x3 y3 : Int} {x4 y4 : Int} {x5 y5 : Int} {x6 y6 : Int} {x7 y7 : Int} {x8 y8 : Int} {x9 y9 : Int} {x10 y10 : ByteArray} {x11 y11 : ByteArray} {x12 y12 : ByteArray} {x13 y13 : List (List PV)} {x14 y14 : List (List PV)} {x15 y15 : List (List PV)} {x16 y16 : Bool} {x17 y17 : Int} {x18 y18 : ByteArray} {x19 y19 : Int} {x20 y20 : Int} {x21 y21 : Int} {x22 y22 : Int} {x23 y23 : Int} {x24 y24 : Int} {x25 y25 : Int} {x26 y26 : Int} {x27 y27 : Int} {x28 y28 : Int} {x29 y29 : ByteArray} {x30 y30 : ByteArray} {x31 y31 : ByteArray} {x32 y32 : List (List PV)} {x33 y33 : Nat} {x34 y34 : List (List PV)} {x35 y35 : Bool} {x36 y36 : Int} {x37 y37 : ByteArray} {x38 y38 : Int} {x39 y39 : List (List PV)} (h0 : x0 = y0) (h1 : x1 = y1) (h2 : x2 = y2) (h3 : x3 = y3) (h4 : x4 = y4) (h5 : x5 = y5) (h6 : x6 = y6) (h7 : x7 = y7) (h8 : x8 = y8) (h9 : x9 = y9) (h10 : x10 = y10) (h11 : x11 = y11) (h12 : x12 = y12) (h13 : x13 = y13) (h14 : x14 = y14) (h15 : x15 = y15) (h16 : x16 = y16) (h17 : x17 = y17) (h18 : x18 = y18) (h19 : x19 = y19) (h20 : x20 = y20) (h21 : x21 = y21) (h22 : x22 = y22) (h23 : x23 = y23) (h24 : x24 = y24) (h25 : x25 = y25) (h26 : x26 = y26) (h27 : x27 = y27) (h28 : x28 = y28) (h29 : x29 = y29) (h30 : x30 = y30) (h31 : x31 = y31) (h32 : x32 = y32) (h33 : x33 = y33) (h34 : x34 = y34) (h35 : x35 = y35) (h36 : x36 = y36) (h37 : x37 = y37) (h38 : x38 = y38) (h39 : x39 = y39) : law18Work_R3_1 x0 x1 x2 x3 x4 x5 x6 x7 x8 x9 x10 x11 x12 x13 x14 x15 x16 x17 x18 x19 x20 x21 x22 x23 x24 x25 x26 x27 x28 x29 x30 x31 x32 x33 x34 x35 x36 x37 x38 x39 = law18Work_R3_1 y0 y1 y2 y3 y4 y5 y6 y7 y8 y9 y10 y11 y12 y13 y14 y15 y16 y17 y18 y19 y20 y21 y22 y23 y24 y25 y26 y27 y28 y29 y30 y31 y32 y33 y34 y35 y36 y37 y38 y39 := by
  subst h0 h1 h2 h3 h4 h5 h6 h7 h8 h9 h10 h11 h12 h13 h14 h15 h16 h17 h18 h19 h20 h21 h22 h23 h24 h25 h26 h27 h28 h29 h30 h31 h32 h33 h34 h35 h36 h37 h38 h39; rfl
def law18Work_S3 (p0 : Int) (p1 : Int) (p2 : Int) (p3 : Int) (p4 : Int) (p5 : Int) (p6 : Int) (p7 : Int) (p8 : Int) (p9 : ByteArray) (p10 : ByteArray) (p11 : ByteArray) (p12 : (List ByteArray)) (p13 : (List FrameD)) (p14 : (List Int)) (p15 : Bool) (p16 : Int) (p17 : ByteArray) (p18 : Int) (p19 : Int) (p20 : Int) (p21 : Int) (p22 : Int) (p23 : Int) (p24 : Int) (p25 : Int) (p26 : Int) (p27 : Int) (p28 : ByteArray) (p29 : ByteArray) (p30 : ByteArray) (p31 : (List ByteArray)) (p32 : (List Int)) (p33 : Bool) (p34 : Int) (p35 : ByteArray) (p36 : Int) : (Int × (List FrameD)) → St
 | (v0, []) => law18Work_R3_0 v0 p0 p1 p2 p3 p4 p5 p6 p7 p8 p9 p10 p11 (p12.map cS) (p13.map FrameD.c) (p14.map cI) p15 p16 p17 p18 p19 p20 p21 p22 p23 p24 p25 p26 p27 p28 p29 p30 (p31.map cS) (p32.map cI) p33 p34 p35 p36
 | (v0, z_1 :: z_2) => law18Work_R3_1 v0 p0 p1 p2 p3 p4 p5 p6 p7 p8 p9 p10 p11 (p12.map cS) (p13.map FrameD.c) (p14.map cI) p15 p16 p17 p18 p19 p20 p21 p22 p23 p24 p25 p26 p27 p28 p29 p30 (p31.map cS) (z_1 :: z_2).length (p32.map cI) p33 p34 p35 p36 ((z_1 :: z_2).map FrameD.c)
def law18Work_b3 (p0 : Int) (p1 : Int) (p2 : Int) (p3 : Int) (p4 : Int) (p5 : Int) (p6 : Int) (p7 : Int) (p8 : Int) (p9 : ByteArray) (p10 : ByteArray) (p11 : ByteArray) (p12 : (List ByteArray)) (p13 : (List FrameD)) (p14 : (List Int)) (p15 : Bool) (p16 : Int) (p17 : ByteArray) (p18 : Int) (p19 : Int) (p20 : Int) (p21 : Int) (p22 : Int) (p23 : Int) (p24 : Int) (p25 : Int) (p26 : Int) (p27 : Int) (p28 : ByteArray) (p29 : ByteArray) (p30 : ByteArray) (p31 : (List ByteArray)) (p32 : (List Int)) (p33 : Bool) (p34 : Int) (p35 : ByteArray) (p36 : Int) : (Int × (List FrameD)) → Option ((Int × (List FrameD)) ⊕ (Int ⊕ (Int × FrameD × (List FrameD))))
 | (v0, v1) =>
 (match v1 with
 | [] => (
 bif (decide (v0 < (p13.length : Int))) then (
 (gt p13 v0).bind fun y_1 =>
 some (.inl ((w64 (v0 + (1 : Int))), [y_1]))
 ) else (
 some (.inr (.inl v0))
 )
 )
 | z_1 :: z_2 => (
 bif (decide (v0 < (p13.length : Int))) then (
 (gt p13 v0).bind fun y_1 =>
 grd (room ((z_1 :: z_2).length + 1) 48) <|
 some (.inl ((w64 (v0 + (1 : Int))), ((z_1 :: z_2) ++ [y_1])))
 ) else (
 some (.inr (.inr ((v0, z_1, z_2))))
 )
 ))
set_option maxRecDepth 100000 in
theorem law18Work_t3 (k : Nat) (p0 : Int) (p1 : Int) (p2 : Int) (p3 : Int) (p4 : Int) (p5 : Int) (p6 : Int) (p7 : Int) (p8 : Int) (p9 : ByteArray) (p10 : ByteArray) (p11 : ByteArray) (p12 : (List ByteArray)) (p13 : (List FrameD)) (p14 : (List Int)) (p15 : Bool) (p16 : Int) (p17 : ByteArray) (p18 : Int) (p19 : Int) (p20 : Int) (p21 : Int) (p22 : Int) (p23 : Int) (p24 : Int) (p25 : Int) (p26 : Int) (p27 : Int) (p28 : ByteArray) (p29 : ByteArray) (p30 : ByteArray) (p31 : (List ByteArray)) (p32 : (List Int)) (p33 : Bool) (p34 : Int) (p35 : ByteArray) (p36 : Int) (a a1 : (Int × (List FrameD))) (h : law18Work_b3 p0 p1 p2 p3 p4 p5 p6 p7 p8 p9 p10 p11 p12 p13 p14 p15 p16 p17 p18 p19 p20 p21 p22 p23 p24 p25 p26 p27 p28 p29 p30 p31 p32 p33 p34 p35 p36 a = some (.inl a1)) : ∃ σ, run1 k 9 0 60 law18Work_L3 (law18Work_S3 p0 p1 p2 p3 p4 p5 p6 p7 p8 p9 p10 p11 p12 p13 p14 p15 p16 p17 p18 p19 p20 p21 p22 p23 p24 p25 p26 p27 p28 p29 p30 p31 p32 p33 p34 p35 p36 a) = some (.normal, σ) ∧ canonS 0 [1, 2, 3, 4] σ = some (law18Work_S3 p0 p1 p2 p3 p4 p5 p6 p7 p8 p9 p10 p11 p12 p13 p14 p15 p16 p17 p18 p19 p20 p21 p22 p23 p24 p25 p26 p27 p28 p29 p30 p31 p32 p33 p34 p35 p36 a1) := by
  obtain ⟨v0, v1⟩ := a
  unfold law18Work_b3 at h
  try dsimp only at h
  rcases v1 with _ | ⟨z_1, z_2⟩
  · try dsimp only at h
    rcases bif_some h with ⟨q1, h⟩ | ⟨q1, h⟩
    · obtain ⟨y_1, q2, h⟩ := bnd_some h
      obtain rfl := Sum.inl.inj (Option.some.inj h)
      exact ⟨_, run_go (k := k) (f := 9) (r0 := 0) (nt := 60) (c := law18Work_L3) (σ := (law18Work_S3 p0 p1 p2 p3 p4 p5 p6 p7 p8 p9 p10 p11 p12 p13 p14 p15 p16 p17 p18 p19 p20 p21 p22 p23 p24 p25 p26 p27 p28 p29 p30 p31 p32 p33 p34 p35 p36 (v0, []))) (adv [([], 3, 3, .eq (pI (p13.length : Int))), ([], 3, 4, .eq (pB true)), ([], 5, 5, .elem [(pI y_1.fd), (pS y_1.name), (.list 1 false (y_1.names.map cS))]), ([], 5, 8, .ok)]) (ex := .normal) (by kernel_rfl) (by kernel_rfl) (allC (len_ob (rfl : (p13.map FrameD.c) = p13.map FrameD.c)) (allC (cg q1) (allC (gt_list (c := FrameD.c) q2) (allC (by decide : 1 ≤ 140737488355328 ∧ (1) * 48 ≤ 140737488355328) allN)))), (Eq.trans (b := some (law18Work_R3_1 (w64 (v0 + (1 : Int))) p0 p1 p2 p3 p4 p5 p6 p7 p8 p9 p10 p11 (p12.map cS) (p13.map FrameD.c) (p14.map cI) p15 p16 p17 p18 p19 p20 p21 p22 p23 p24 p25 p26 p27 p28 p29 p30 (p31.map cS) 1 (p32.map cI) p33 p34 p35 p36 ([[(pI y_1.fd), (pS y_1.name), (.list 1 false (y_1.names.map cS))]]))) (by kernel_rfl) (congrArg some ((law18Work_R3_1_eq (rfl : (w64 (v0 + (1 : Int))) = (w64 (v0 + (1 : Int)))) (rfl : p0 = p0) (rfl : p1 = p1) (rfl : p2 = p2) (rfl : p3 = p3) (rfl : p4 = p4) (rfl : p5 = p5) (rfl : p6 = p6) (rfl : p7 = p7) (rfl : p8 = p8) (rfl : p9 = p9) (rfl : p10 = p10) (rfl : p11 = p11) (rfl : (p12.map cS) = (p12.map cS)) (rfl : (p13.map FrameD.c) = (p13.map FrameD.c)) (rfl : (p14.map cI) = (p14.map cI)) (rfl : p15 = p15) (rfl : p16 = p16) (rfl : p17 = p17) (rfl : p18 = p18) (rfl : p19 = p19) (rfl : p20 = p20) (rfl : p21 = p21) (rfl : p22 = p22) (rfl : p23 = p23) (rfl : p24 = p24) (rfl : p25 = p25) (rfl : p26 = p26) (rfl : p27 = p27) (rfl : p28 = p28) (rfl : p29 = p29) (rfl : p30 = p30) (rfl : (p31.map cS) = (p31.map cS)) ((rfl : 1 = _) : 1 = ([y_1].length)) (rfl : (p32.map cI) = (p32.map cI)) (rfl : p33 = p33) (rfl : p34 = p34) (rfl : p35 = p35) (rfl : p36 = p36) (rfl : ([[(pI y_1.fd), (pS y_1.name), (.list 1 false (y_1.names.map cS))]]) = ([y_1].map FrameD.c))).trans (by kernel_rfl : law18Work_R3_1 (w64 (v0 + (1 : Int))) p0 p1 p2 p3 p4 p5 p6 p7 p8 p9 p10 p11 (p12.map cS) (p13.map FrameD.c) (p14.map cI) p15 p16 p17 p18 p19 p20 p21 p22 p23 p24 p25 p26 p27 p28 p29 p30 (p31.map cS) ([y_1].length) (p32.map cI) p33 p34 p35 p36 ([y_1].map FrameD.c) = law18Work_S3 p0 p1 p2 p3 p4 p5 p6 p7 p8 p9 p10 p11 p12 p13 p14 p15 p16 p17 p18 p19 p20 p21 p22 p23 p24 p25 p26 p27 p28 p29 p30 p31 p32 p33 p34 p35 p36 ((w64 (v0 + (1 : Int))), [y_1])))))⟩
    · cases h
  · try dsimp only at h
    rcases bif_some h with ⟨q1, h⟩ | ⟨q1, h⟩
    · obtain ⟨y_1, q2, h⟩ := bnd_some h
      obtain ⟨q3, h⟩ := grd_some h
      obtain rfl := Sum.inl.inj (Option.some.inj h)
      exact ⟨_, run_go (k := k) (f := 9) (r0 := 0) (nt := 60) (c := law18Work_L3) (σ := (law18Work_S3 p0 p1 p2 p3 p4 p5 p6 p7 p8 p9 p10 p11 p12 p13 p14 p15 p16 p17 p18 p19 p20 p21 p22 p23 p24 p25 p26 p27 p28 p29 p30 p31 p32 p33 p34 p35 p36 (v0, (z_1 :: z_2)))) (adv [([], 3, 3, .eq (pI (p13.length : Int))), ([], 3, 4, .eq (pB true)), ([], 5, 5, .elem [(pI y_1.fd), (pS y_1.name), (.list 1 false (y_1.names.map cS))]), ([], 5, 8, .ok)]) (ex := .normal) (by kernel_rfl) (by kernel_rfl) (allC (len_ob (rfl : (p13.map FrameD.c) = p13.map FrameD.c)) (allC (cg q1) (allC (gt_list (c := FrameD.c) q2) (allC (app_ok (rfl : ((z_1 :: z_2).map FrameD.c) = (z_1 :: z_2).map FrameD.c) (rfl : (z_1 :: z_2).length = (z_1 :: z_2).length) q3) allN)))), (Eq.trans (b := some (law18Work_R3_1 (w64 (v0 + (1 : Int))) p0 p1 p2 p3 p4 p5 p6 p7 p8 p9 p10 p11 (p12.map cS) (p13.map FrameD.c) (p14.map cI) p15 p16 p17 p18 p19 p20 p21 p22 p23 p24 p25 p26 p27 p28 p29 p30 (p31.map cS) ((z_1 :: z_2).length + 1) (p32.map cI) p33 p34 p35 p36 (((z_1 :: z_2).map FrameD.c) ++ [[(pI y_1.fd), (pS y_1.name), (.list 1 false (y_1.names.map cS))]]))) (by kernel_rfl) (congrArg some ((law18Work_R3_1_eq (rfl : (w64 (v0 + (1 : Int))) = (w64 (v0 + (1 : Int)))) (rfl : p0 = p0) (rfl : p1 = p1) (rfl : p2 = p2) (rfl : p3 = p3) (rfl : p4 = p4) (rfl : p5 = p5) (rfl : p6 = p6) (rfl : p7 = p7) (rfl : p8 = p8) (rfl : p9 = p9) (rfl : p10 = p10) (rfl : p11 = p11) (rfl : (p12.map cS) = (p12.map cS)) (rfl : (p13.map FrameD.c) = (p13.map FrameD.c)) (rfl : (p14.map cI) = (p14.map cI)) (rfl : p15 = p15) (rfl : p16 = p16) (rfl : p17 = p17) (rfl : p18 = p18) (rfl : p19 = p19) (rfl : p20 = p20) (rfl : p21 = p21) (rfl : p22 = p22) (rfl : p23 = p23) (rfl : p24 = p24) (rfl : p25 = p25) (rfl : p26 = p26) (rfl : p27 = p27) (rfl : p28 = p28) (rfl : p29 = p29) (rfl : p30 = p30) (rfl : (p31.map cS) = (p31.map cS)) ((len_cat (rfl : (z_1 :: z_2).length = (z_1 :: z_2).length) (z_1 :: z_2) (rfl : 1 = [y_1].length)) : ((z_1 :: z_2).length + 1) = (((z_1 :: z_2) ++ [y_1]).length)) (rfl : (p32.map cI) = (p32.map cI)) (rfl : p33 = p33) (rfl : p34 = p34) (rfl : p35 = p35) (rfl : p36 = p36) ((enc_cat (rfl : ((z_1 :: z_2).map FrameD.c) = (z_1 :: z_2).map FrameD.c) (show [[(pI y_1.fd), (pS y_1.name), (.list 1 false (y_1.names.map cS))]] = [y_1].map FrameD.c from rfl)) : (((z_1 :: z_2).map FrameD.c) ++ [[(pI y_1.fd), (pS y_1.name), (.list 1 false (y_1.names.map cS))]]) = (((z_1 :: z_2) ++ [y_1]).map FrameD.c))).trans (by kernel_rfl : law18Work_R3_1 (w64 (v0 + (1 : Int))) p0 p1 p2 p3 p4 p5 p6 p7 p8 p9 p10 p11 (p12.map cS) (p13.map FrameD.c) (p14.map cI) p15 p16 p17 p18 p19 p20 p21 p22 p23 p24 p25 p26 p27 p28 p29 p30 (p31.map cS) (((z_1 :: z_2) ++ [y_1]).length) (p32.map cI) p33 p34 p35 p36 (((z_1 :: z_2) ++ [y_1]).map FrameD.c) = law18Work_S3 p0 p1 p2 p3 p4 p5 p6 p7 p8 p9 p10 p11 p12 p13 p14 p15 p16 p17 p18 p19 p20 p21 p22 p23 p24 p25 p26 p27 p28 p29 p30 p31 p32 p33 p34 p35 p36 ((w64 (v0 + (1 : Int))), ((z_1 :: z_2) ++ [y_1]))))))⟩
    · cases h
def law18Work (j : JobD) : Option JobD :=
 (iterN (law18Work_b3 j.kind j.p j.phase j.fd j.nF j.modeF j.tries j.atF j.flags j.path j.path2 j.text j.names j.stack j.draws j.done j.exit j.out j.e j.kind j.p j.phase j.fd j.nF j.modeF j.tries j.atF j.flags j.path j.path2 j.text j.names j.draws j.done j.exit j.out j.e) LF ((0 : Int), [])).bind fun X_1 => match X_1 with
 | .inl v_1 => (
 some (JobD.mk j.kind j.p j.phase j.fd j.nF j.modeF j.tries j.atF j.flags j.path j.path2 j.text j.names [] j.draws j.done j.exit j.out j.e)
 )
 | .inr ((v_1, z_1, z_2)) => (
 some (JobD.mk j.kind j.p j.phase j.fd j.nF j.modeF j.tries j.atF j.flags j.path j.path2 j.text j.names (z_1 :: z_2) j.draws j.done j.exit j.out j.e)
 )
set_option maxRecDepth 100000 in
theorem law18Work_ok (k : Nat) (j : JobD) (r : JobD) (h : law18Work j = some r) : run0 (k + 1) 9 [(JobD.a j)] = some (JobD.a r) := by
  unfold law18Work at h
  obtain ⟨X_1, q1, h⟩ := bnd_some h
  obtain ⟨a_1, q2, q3⟩ := loop_iter (f := run1 k 9 0 60 law18Work_L3) (law18Work_S3 j.kind j.p j.phase j.fd j.nF j.modeF j.tries j.atF j.flags j.path j.path2 j.text j.names j.stack j.draws j.done j.exit j.out j.e j.kind j.p j.phase j.fd j.nF j.modeF j.tries j.atF j.flags j.path j.path2 j.text j.names j.draws j.done j.exit j.out j.e) (law18Work_b3 j.kind j.p j.phase j.fd j.nF j.modeF j.tries j.atF j.flags j.path j.path2 j.text j.names j.stack j.draws j.done j.exit j.out j.e j.kind j.p j.phase j.fd j.nF j.modeF j.tries j.atF j.flags j.path j.path2 j.text j.names j.draws j.done j.exit j.out j.e) (law18Work_t3 k j.kind j.p j.phase j.fd j.nF j.modeF j.tries j.atF j.flags j.path j.path2 j.text j.names j.stack j.draws j.done j.exit j.out j.e j.kind j.p j.phase j.fd j.nF j.modeF j.tries j.atF j.flags j.path j.path2 j.text j.names j.draws j.done j.exit j.out j.e) LF ((0 : Int), []) _ (stOf (goStop k 9 0 60 (adv []) 3 (codeOf Tryz.f9) (argS 9 [(JobD.a j)]))) q1 (by kernel_rfl)
  obtain ⟨v_1, v_2⟩ := a_1
  unfold law18Work_b3 at q2
  try dsimp only at q2
  rcases v_2 with _ | ⟨z_1, z_2⟩
  · try dsimp only at q2
    rcases bif_some q2 with ⟨q6, q2⟩ | ⟨q6, q2⟩
    · obtain ⟨y_1, q7, q2⟩ := bnd_some q2
      cases q2
    · cases q2
      try dsimp only at h
      have q4 := run_go (k := k) (f := 9) (r0 := 0) (nt := 60) (c := law18Work_L3) (σ := (law18Work_S3 j.kind j.p j.phase j.fd j.nF j.modeF j.tries j.atF j.flags j.path j.path2 j.text j.names j.stack j.draws j.done j.exit j.out j.e j.kind j.p j.phase j.fd j.nF j.modeF j.tries j.atF j.flags j.path j.path2 j.text j.names j.draws j.done j.exit j.out j.e (v_1, []))) (adv [([], 3, 3, .eq (pI (j.stack.length : Int))), ([], 3, 4, .eq (pB false))]) (ex := (.exit 0)) (by kernel_rfl) (by kernel_rfl) (allC (len_ob (rfl : (j.stack.map FrameD.c) = j.stack.map FrameD.c)) (allC (cg q6) allN))
      have q5 := q3 _ _ (by intro e; cases e) q4
      obtain rfl := Option.some.inj h
      exact ret_go (k := k) Tryz.func9 Tryz.ntmps9 (by kernel_rfl) (by kernel_rfl) (lb rfl) (adv [] [([], 3, (.exit 0), (stOf (go k 9 0 60 (adv [([], 3, 3, .eq (pI (j.stack.length : Int))), ([], 3, 4, .eq (pB false))]) law18Work_L3 (law18Work_S3 j.kind j.p j.phase j.fd j.nF j.modeF j.tries j.atF j.flags j.path j.path2 j.text j.names j.stack j.draws j.done j.exit j.out j.e j.kind j.p j.phase j.fd j.nF j.modeF j.tries j.atF j.flags j.path j.path2 j.text j.names j.draws j.done j.exit j.out j.e (v_1, [])))))]) (ex := .ret) (r := (.agg [(pI j.kind), (pI j.p), (pI j.phase), (pI j.fd), (pI j.nF), (pI j.modeF), (pI j.tries), (pI j.atF), (pI j.flags), (pS j.path), (pS j.path2), (pS j.text), (.list 1 false (j.names.map cS)), (.list 3 false []), (.list 1 false (j.draws.map cI)), (pB j.done), (pI j.exit), (pS j.out), (pI j.e)])) (by kernel_rfl) rfl (by kernel_rfl) (allC q5 allN) (by kernel_rfl) allN
  · try dsimp only at q2
    rcases bif_some q2 with ⟨q6, q2⟩ | ⟨q6, q2⟩
    · obtain ⟨y_1, q7, q2⟩ := bnd_some q2
      obtain ⟨q8, q2⟩ := grd_some q2
      cases q2
    · cases q2
      try dsimp only at h
      have q4 := run_go (k := k) (f := 9) (r0 := 0) (nt := 60) (c := law18Work_L3) (σ := (law18Work_S3 j.kind j.p j.phase j.fd j.nF j.modeF j.tries j.atF j.flags j.path j.path2 j.text j.names j.stack j.draws j.done j.exit j.out j.e j.kind j.p j.phase j.fd j.nF j.modeF j.tries j.atF j.flags j.path j.path2 j.text j.names j.draws j.done j.exit j.out j.e (v_1, (z_1 :: z_2)))) (adv [([], 3, 3, .eq (pI (j.stack.length : Int))), ([], 3, 4, .eq (pB false))]) (ex := (.exit 0)) (by kernel_rfl) (by kernel_rfl) (allC (len_ob (rfl : (j.stack.map FrameD.c) = j.stack.map FrameD.c)) (allC (cg q6) allN))
      have q5 := q3 _ _ (by intro e; cases e) q4
      obtain rfl := Option.some.inj h
      exact ret_go (k := k) Tryz.func9 Tryz.ntmps9 (by kernel_rfl) (by kernel_rfl) (lb rfl) (adv [] [([], 3, (.exit 0), (stOf (go k 9 0 60 (adv [([], 3, 3, .eq (pI (j.stack.length : Int))), ([], 3, 4, .eq (pB false))]) law18Work_L3 (law18Work_S3 j.kind j.p j.phase j.fd j.nF j.modeF j.tries j.atF j.flags j.path j.path2 j.text j.names j.stack j.draws j.done j.exit j.out j.e j.kind j.p j.phase j.fd j.nF j.modeF j.tries j.atF j.flags j.path j.path2 j.text j.names j.draws j.done j.exit j.out j.e (v_1, (z_1 :: z_2))))))]) (ex := .ret) (r := (.agg [(pI j.kind), (pI j.p), (pI j.phase), (pI j.fd), (pI j.nF), (pI j.modeF), (pI j.tries), (pI j.atF), (pI j.flags), (pS j.path), (pS j.path2), (pS j.text), (.list 1 false (j.names.map cS)), (.list 3 false ((z_1 :: z_2).map FrameD.c)), (.list 1 false (j.draws.map cI)), (pB j.done), (pI j.exit), (pS j.out), (pI j.e)])) (by kernel_rfl) rfl (by kernel_rfl) (allC q5 allN) (by kernel_rfl) (allC (row_ok (rfl : ((z_1 :: z_2).map FrameD.c) = (z_1 :: z_2).map FrameD.c) (rfl : (z_1 :: z_2).length = (z_1 :: z_2).length)) allN)
noncomputable def law18Texts_L2 : Code := cAt (codeOf Tryz.f5) [true, false, true, false, false]
def law18Texts_R2 (x0 : List (List PV)) (x1 : Int) : St := ⟨envL [(0, (.list 1 false x0)), (3, (pI x1))], hsL [] []⟩
def law18Texts_S2 (p0 : (List ByteArray)) : Int → St
 | v0 => law18Texts_R2 (p0.map cS) v0
def law18Texts_b2 (p0 : (List ByteArray)) : Int → Option (Int ⊕ ((Int × ByteArray) ⊕ Int ⊕ Int))
 | v0 =>
 bif (decide (v0 < (p0.length : Int))) then (
 bif (decide (v0 < (20 : Int))) then (
 (gt p0 v0).bind fun y_1 =>
 bif (decide ((y_1.size : Int) > (150 : Int))) then (
 some (.inr (.inl (v0, y_1)))
 ) else (
 some (.inl (w64 (v0 + (1 : Int))))
 )
 ) else (
 some (.inr (.inr (.inl v0)))
 )
 ) else (
 some (.inr (.inr (.inr (v0))))
 )
set_option maxRecDepth 100000 in
theorem law18Texts_t2 (k : Nat) (p0 : (List ByteArray)) (v0 a1 : Int) (h : law18Texts_b2 p0 v0 = some (.inl a1)) : ∃ σ, run1 k 5 0 23 law18Texts_L2 (law18Texts_S2 p0 v0) = some (.normal, σ) ∧ canonS 0 [0, 3] σ = some (law18Texts_S2 p0 a1) := by
  unfold law18Texts_b2 at h
  try dsimp only at h
  rcases bif_some h with ⟨q1, h⟩ | ⟨q1, h⟩
  · rcases bif_some h with ⟨q2, h⟩ | ⟨q2, h⟩
    · obtain ⟨y_1, q3, h⟩ := bnd_some h
      rcases bif_some h with ⟨q4, h⟩ | ⟨q4, h⟩
      · cases h
      · obtain rfl := Sum.inl.inj (Option.some.inj h)
        exact ⟨_, run_go (k := k) (f := 5) (r0 := 0) (nt := 23) (c := law18Texts_L2) (σ := (law18Texts_S2 p0 v0)) (adv [([], 2, 2, .eq (pI (p0.length : Int))), ([], 2, 4, .eq (pB true)), ([], 2, 7, .eq (pB true)), ([], 4, 2, .elem [(pS y_1)]), ([], 4, 5, .eq (pB false))]) (ex := .normal) (by kernel_rfl) (by kernel_rfl) (allC (len_ob (rfl : (p0.map cS) = p0.map cS)) (allC (cg q1) (allC (cg q2) (allC (gt_list (c := cS) q3) (allC (cg q4) allN))))), (by kernel_rfl)⟩
    · cases h
  · cases h
def law18Texts (l : (List ByteArray)) : Option Bool :=
 (iterN (law18Texts_b2 l) LF (0 : Int)).bind fun X_1 => match X_1 with
 | .inl (v_1, y_1) => (
 some false
 )
 | .inr (.inl v_1) => (
 some (decide ((l.length : Int) ≤ (10 : Int)))
 )
 | .inr (.inr (v_1)) => (
 some (decide ((l.length : Int) ≤ (10 : Int)))
 )
set_option maxRecDepth 100000 in
theorem law18Texts_ok (k : Nat) (l : (List ByteArray)) (r : Bool) (h : law18Texts l = some r) : run0 (k + 1) 5 [(.list 1 false (l.map cS))] = some (pB r) := by
  unfold law18Texts at h
  obtain ⟨X_1, q1, h⟩ := bnd_some h
  obtain ⟨v_1, q2, q3⟩ := loop_iter (f := run1 k 5 0 23 law18Texts_L2) (law18Texts_S2 l) (law18Texts_b2 l) (law18Texts_t2 k l) LF (0 : Int) _ (stOf (goStop k 5 0 23 (adv []) 2 (codeOf Tryz.f5) (argS 5 [(.list 1 false (l.map cS))]))) q1 (by kernel_rfl)
  unfold law18Texts_b2 at q2
  try dsimp only at q2
  rcases bif_some q2 with ⟨q6, q2⟩ | ⟨q6, q2⟩
  · rcases bif_some q2 with ⟨q7, q2⟩ | ⟨q7, q2⟩
    · obtain ⟨y_1, q8, q2⟩ := bnd_some q2
      rcases bif_some q2 with ⟨q9, q2⟩ | ⟨q9, q2⟩
      · cases q2
        try dsimp only at h
        have q4 := run_go (k := k) (f := 5) (r0 := 0) (nt := 23) (c := law18Texts_L2) (σ := (law18Texts_S2 l v_1)) (adv [([], 2, 2, .eq (pI (l.length : Int))), ([], 2, 4, .eq (pB true)), ([], 2, 7, .eq (pB true)), ([], 4, 2, .elem [(pS y_1)]), ([], 4, 5, .eq (pB true))]) (ex := .ret) (by kernel_rfl) (by kernel_rfl) (allC (len_ob (rfl : (l.map cS) = l.map cS)) (allC (cg q6) (allC (cg q7) (allC (gt_list (c := cS) q8) (allC (cg q9) allN)))))
        have q5 := q3 _ _ (by intro e; cases e) q4
        obtain rfl := Option.some.inj h
        exact ret_go (k := k) Tryz.func5 Tryz.ntmps5 (by kernel_rfl) (by kernel_rfl) (lb rfl) (adv [] [([], 2, .ret, (stOf (go k 5 0 23 (adv [([], 2, 2, .eq (pI (l.length : Int))), ([], 2, 4, .eq (pB true)), ([], 2, 7, .eq (pB true)), ([], 4, 2, .elem [(pS y_1)]), ([], 4, 5, .eq (pB true))]) law18Texts_L2 (law18Texts_S2 l v_1))))]) (ex := .ret) (r := (pB false)) (by kernel_rfl) rfl (by kernel_rfl) (allC q5 allN) (by kernel_rfl) allN
      · cases q2
    · cases q2
      try dsimp only at h
      have q4 := run_go (k := k) (f := 5) (r0 := 0) (nt := 23) (c := law18Texts_L2) (σ := (law18Texts_S2 l v_1)) (adv [([], 2, 2, .eq (pI (l.length : Int))), ([], 2, 4, .eq (pB true)), ([], 2, 7, .eq (pB false))]) (ex := (.exit 0)) (by kernel_rfl) (by kernel_rfl) (allC (len_ob (rfl : (l.map cS) = l.map cS)) (allC (cg q6) (allC (cg q7) allN)))
      have q5 := q3 _ _ (by intro e; cases e) q4
      obtain rfl := Option.some.inj h
      exact ret_go (k := k) Tryz.func5 Tryz.ntmps5 (by kernel_rfl) (by kernel_rfl) (lb rfl) (adv [([], 6, 1, .eq (pI (l.length : Int)))] [([], 2, (.exit 0), (stOf (go k 5 0 23 (adv [([], 2, 2, .eq (pI (l.length : Int))), ([], 2, 4, .eq (pB true)), ([], 2, 7, .eq (pB false))]) law18Texts_L2 (law18Texts_S2 l v_1))))]) (ex := .ret) (r := (pB (decide ((l.length : Int) ≤ (10 : Int))))) (by kernel_rfl) rfl (by kernel_rfl) (allC q5 (allC (len_ob (rfl : (l.map cS) = l.map cS)) allN)) (by kernel_rfl) allN
  · cases q2
    try dsimp only at h
    have q4 := run_go (k := k) (f := 5) (r0 := 0) (nt := 23) (c := law18Texts_L2) (σ := (law18Texts_S2 l v_1)) (adv [([], 2, 2, .eq (pI (l.length : Int))), ([], 2, 4, .eq (pB false))]) (ex := (.exit 0)) (by kernel_rfl) (by kernel_rfl) (allC (len_ob (rfl : (l.map cS) = l.map cS)) (allC (cg q6) allN))
    have q5 := q3 _ _ (by intro e; cases e) q4
    obtain rfl := Option.some.inj h
    exact ret_go (k := k) Tryz.func5 Tryz.ntmps5 (by kernel_rfl) (by kernel_rfl) (lb rfl) (adv [([], 6, 1, .eq (pI (l.length : Int)))] [([], 2, (.exit 0), (stOf (go k 5 0 23 (adv [([], 2, 2, .eq (pI (l.length : Int))), ([], 2, 4, .eq (pB false))]) law18Texts_L2 (law18Texts_S2 l v_1))))]) (ex := .ret) (r := (pB (decide ((l.length : Int) ≤ (10 : Int))))) (by kernel_rfl) rfl (by kernel_rfl) (allC q5 (allC (len_ob (rfl : (l.map cS) = l.map cS)) allN)) (by kernel_rfl) allN
def law18CloneStarts (p : Int) (argv : (List ByteArray)) (draws : (List Int)) : Option Bool :=
 (law18Texts argv).bind fun r_1 =>
 bif (!r_1) then (
 (shownX).bind fun r_2 =>
 some r_2
 ) else (
 bif (decide ((draws.length : Int) > (100 : Int))) then (
 (shownX).bind fun r_2 =>
 some r_2
 ) else (
 (shownX).bind fun r_2 =>
 bif (!r_2) then (
 (shownX).bind fun r_3 =>
 some r_3
 ) else (
 (cloneStart p argv draws).bind fun r_3 =>
 bif (decide ((r_3.names.length : Int) ≤ (200 : Int))) then (
 bif (decide ((r_3.stack.length : Int) ≤ (20 : Int))) then (
 (law18Work r_3).bind fun r_4 =>
 (ref18Start p argv draws).bind fun r_5 =>
 (ref15Same r_4 r_5).bind fun r_6 =>
 some r_6
 ) else (
 some false
 )
 ) else (
 some false
 )
 )
 )
 )
set_option maxRecDepth 100000 in
theorem law18CloneStarts_ok (k : Nat) (p : Int) (argv : (List ByteArray)) (draws : (List Int)) (r : Bool) (h : law18CloneStarts p argv draws = some r) : run0 (k + 7) 3 [(pI p), (.list 1 false (argv.map cS)), (.list 1 false (draws.map cI))] = some (pB r) := by
  unfold law18CloneStarts at h
  obtain ⟨r_1, q1, h⟩ := bnd_some h
  rcases bif_some h with ⟨q2, h⟩ | ⟨q2, h⟩
  · obtain ⟨r_2, q3, h⟩ := bnd_some h
    obtain rfl := Option.some.inj h
    exact ret_go (k := (k + 6)) Tryz.func3 Tryz.ntmps3 (by kernel_rfl) (by kernel_rfl) (lb rfl) (adv [([], 1, 1, .ret (pB r_1)), ([], 1, 3, .eq (pB true)), ([], 2, 0, .ret (pB r_2))]) (ex := .ret) (r := (pB r_2)) (by kernel_rfl) rfl (by kernel_rfl) (allC (law18Texts_ok (k + 5) argv _ q1) (allC (cg q2) (allC (shownX_ok (k + 6)  _ q3) allN))) (by kernel_rfl) allN
  · rcases bif_some h with ⟨q3, h⟩ | ⟨q3, h⟩
    · obtain ⟨r_2, q4, h⟩ := bnd_some h
      obtain rfl := Option.some.inj h
      exact ret_go (k := (k + 6)) Tryz.func3 Tryz.ntmps3 (by kernel_rfl) (by kernel_rfl) (lb rfl) (adv [([], 1, 1, .ret (pB r_1)), ([], 1, 3, .eq (pB false)), ([], 1, 5, .eq (pI (draws.length : Int))), ([], 1, 8, .eq (pB true)), ([], 2, 0, .ret (pB r_2))]) (ex := .ret) (r := (pB r_2)) (by kernel_rfl) rfl (by kernel_rfl) (allC (law18Texts_ok (k + 5) argv _ q1) (allC (cg q2) (allC (len_ob (rfl : (draws.map cI) = draws.map cI)) (allC (cg q3) (allC (shownX_ok (k + 6)  _ q4) allN))))) (by kernel_rfl) allN
    · obtain ⟨r_2, q4, h⟩ := bnd_some h
      rcases bif_some h with ⟨q5, h⟩ | ⟨q5, h⟩
      · obtain ⟨r_3, q6, h⟩ := bnd_some h
        obtain rfl := Option.some.inj h
        exact ret_go (k := (k + 6)) Tryz.func3 Tryz.ntmps3 (by kernel_rfl) (by kernel_rfl) (lb rfl) (adv [([], 1, 1, .ret (pB r_1)), ([], 1, 3, .eq (pB false)), ([], 1, 5, .eq (pI (draws.length : Int))), ([], 1, 8, .eq (pB false)), ([], 1, 9, .ret (pB r_2)), ([], 1, 11, .eq (pB true)), ([], 2, 0, .ret (pB r_3))]) (ex := .ret) (r := (pB r_3)) (by kernel_rfl) rfl (by kernel_rfl) (allC (law18Texts_ok (k + 5) argv _ q1) (allC (cg q2) (allC (len_ob (rfl : (draws.map cI) = draws.map cI)) (allC (cg q3) (allC (shownX_ok (k + 6)  _ q4) (allC (cg q5) (allC (shownX_ok (k + 6)  _ q6) allN))))))) (by kernel_rfl) allN
      · obtain ⟨r_3, q6, h⟩ := bnd_some h
        rcases bif_some h with ⟨q7, h⟩ | ⟨q7, h⟩
        · rcases bif_some h with ⟨q8, h⟩ | ⟨q8, h⟩
          · obtain ⟨r_4, q9, h⟩ := bnd_some h
            obtain ⟨r_5, q10, h⟩ := bnd_some h
            obtain ⟨r_6, q11, h⟩ := bnd_some h
            obtain rfl := Option.some.inj h
            exact ret_go (k := (k + 6)) Tryz.func3 Tryz.ntmps3 (by kernel_rfl) (by kernel_rfl) (lb rfl) (adv [([], 1, 1, .ret (pB r_1)), ([], 1, 3, .eq (pB false)), ([], 1, 5, .eq (pI (draws.length : Int))), ([], 1, 8, .eq (pB false)), ([], 1, 9, .ret (pB r_2)), ([], 1, 11, .eq (pB false)), ([], 3, 3, .ret (JobD.a r_3)), ([], 4, 2, .eq (pI (r_3.names.length : Int))), ([], 4, 4, .eq (pB true)), ([], 4, 7, .eq (pI (r_3.stack.length : Int))), ([], 4, 10, .eq (pB true)), ([], 4, 12, .ret (JobD.a r_4)), ([], 4, 16, .ret (JobD.a r_5)), ([], 4, 17, .ret (pB r_6))]) (ex := .ret) (r := (pB r_6)) (by kernel_rfl) rfl (by kernel_rfl) (allC (law18Texts_ok (k + 5) argv _ q1) (allC (cg q2) (allC (len_ob (rfl : (draws.map cI) = draws.map cI)) (allC (cg q3) (allC (shownX_ok (k + 6)  _ q4) (allC (cg q5) (allC (cloneStart_ok k p argv draws _ q6) (allC (len_ob (rfl : (r_3.names.map cS) = r_3.names.map cS)) (allC (cg q7) (allC (len_ob (rfl : (r_3.stack.map FrameD.c) = r_3.stack.map FrameD.c)) (allC (cg q8) (allC (law18Work_ok (k + 5) r_3 _ q9) (allC (ref18Start_ok (k + 2) p argv draws _ q10) (allC (ref15Same_ok (k + 3) r_4 r_5 _ q11) allN)))))))))))))) (by kernel_rfl) allN
          · obtain rfl := Option.some.inj h
            exact ret_go (k := (k + 6)) Tryz.func3 Tryz.ntmps3 (by kernel_rfl) (by kernel_rfl) (lb rfl) (adv [([], 1, 1, .ret (pB r_1)), ([], 1, 3, .eq (pB false)), ([], 1, 5, .eq (pI (draws.length : Int))), ([], 1, 8, .eq (pB false)), ([], 1, 9, .ret (pB r_2)), ([], 1, 11, .eq (pB false)), ([], 3, 3, .ret (JobD.a r_3)), ([], 4, 2, .eq (pI (r_3.names.length : Int))), ([], 4, 4, .eq (pB true)), ([], 4, 7, .eq (pI (r_3.stack.length : Int))), ([], 4, 10, .eq (pB false))]) (ex := .ret) (r := (pB false)) (by kernel_rfl) rfl (by kernel_rfl) (allC (law18Texts_ok (k + 5) argv _ q1) (allC (cg q2) (allC (len_ob (rfl : (draws.map cI) = draws.map cI)) (allC (cg q3) (allC (shownX_ok (k + 6)  _ q4) (allC (cg q5) (allC (cloneStart_ok k p argv draws _ q6) (allC (len_ob (rfl : (r_3.names.map cS) = r_3.names.map cS)) (allC (cg q7) (allC (len_ob (rfl : (r_3.stack.map FrameD.c) = r_3.stack.map FrameD.c)) (allC (cg q8) allN))))))))))) (by kernel_rfl) allN
        · obtain rfl := Option.some.inj h
          exact ret_go (k := (k + 6)) Tryz.func3 Tryz.ntmps3 (by kernel_rfl) (by kernel_rfl) (lb rfl) (adv [([], 1, 1, .ret (pB r_1)), ([], 1, 3, .eq (pB false)), ([], 1, 5, .eq (pI (draws.length : Int))), ([], 1, 8, .eq (pB false)), ([], 1, 9, .ret (pB r_2)), ([], 1, 11, .eq (pB false)), ([], 3, 3, .ret (JobD.a r_3)), ([], 4, 2, .eq (pI (r_3.names.length : Int))), ([], 4, 4, .eq (pB false))]) (ex := .ret) (r := (pB false)) (by kernel_rfl) rfl (by kernel_rfl) (allC (law18Texts_ok (k + 5) argv _ q1) (allC (cg q2) (allC (len_ob (rfl : (draws.map cI) = draws.map cI)) (allC (cg q3) (allC (shownX_ok (k + 6)  _ q4) (allC (cg q5) (allC (cloneStart_ok k p argv draws _ q6) (allC (len_ob (rfl : (r_3.names.map cS) = r_3.names.map cS)) (allC (cg q7) allN))))))))) (by kernel_rfl) allN
end Go.Proofs.YtdbekeidlppfiaaGreatDoor.Den
