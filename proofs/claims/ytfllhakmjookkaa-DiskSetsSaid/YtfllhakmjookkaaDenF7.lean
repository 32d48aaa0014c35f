/- Functions, printed by den.py out of the code: plain ones, and that the code answers as they do. -/
import Derived.Test.YtfllhakmjookkaaDenF6
set_option linter.unusedVariables false
set_option linter.unusedSimpArgs false
namespace Go.Proofs.Ytfllhakmjookkaa.Den
open Go Go.RowKit

/- (flagstone/disk.Disk).named: its loop at region 6 -/
noncomputable def diskDiskNamed_L6 : Code := cAt (codeOf Try.f53) [true, true, false, true, false, false, true, true, false, false, true, true, false, false]
def diskDiskNamed_R6 (x0 : Nat) (x1 : Nat) (x2 : List (List PV)) (x3 : Int) (x4 : List (List PV)) (x5 : Int) (x6 : Int) (x7 : List (List PV)) (x8 : Int) (x9 : Int) (x10 : List (List PV)) (x11 : List (List PV)) : St := ⟨envL [(1, (.ptr [0, TAG] 1 0 0)), (2, (.row [1, TAG] 1 0 x0)), (3, (.row [2, TAG] 1 0 x1)), (4, (pI (0 : Int))), (17, (.list 8 false x2)), (18, (pI x3)), (19, (pI (0 : Int))), (25, (.list 2 false x4)), (26, (pI x5)), (27, (pI x6))], hsL [some ⟨3, 24, [[(.list 8 false x7), (pI x8), (pI x9)]], true, false⟩, some ⟨1, 3, x10, true, true⟩, some ⟨1, 3, x11, true, true⟩] [0, 0, 0]⟩
theorem diskDiskNamed_R6_eq {x0 y0 : Nat} {x1 y1 : Nat} {x2 y2 : List (List PV)} {x3 y3 : Int} {x4 y4 : List (List PV)} {x5 y5 : Int} {x6 y6 : Int} {x7 y7 : List (List PV)} {x8 y8 : Int} {x9 y9 : Int} {x10 y10 : List (List PV)} {x11 y11 : List (List PV)} (h0 : x0 = y0) (h1 : x1 = y1) (h2 : x2 = y2) (h3 : x3 = y3) (h4 : x4 = y4) (h5 : x5 = y5) (h6 : x6 = y6) (h7 : x7 = y7) (h8 : x8 = y8) (h9 : x9 = y9) (h10 : x10 = y10) (h11 : x11 = y11) : diskDiskNamed_R6 x0 x1 x2 x3 x4 x5 x6 x7 x8 x9 x10 x11 = diskDiskNamed_R6 y0 y1 y2 y3 y4 y5 y6 y7 y8 y9 y10 y11 := by
  subst h0 h1 h2 h3 h4 h5 h6 h7 h8 h9 h10 h11; rfl
def diskDiskNamed_S6 (p0 : (List NodeD)) (p1 : Int) (p2 : (List Ent)) (p3 : Int) (p4 : (List NodeD)) (p5 : Int) (p6 : Int) : (Int × (List Int) × (List Int)) → St
  | (v0, v1, v2) => diskDiskNamed_R6 v1.length v2.length (p0.map NodeD.c) p1 (p2.map entP) p3 v0 (p4.map NodeD.c) p5 p6 (v1.map cI) (v2.map cI)
def diskDiskNamed_b6 (p0 : (List NodeD)) (p1 : Int) (p2 : (List Ent)) (p3 : Int) (p4 : (List NodeD)) (p5 : Int) (p6 : Int) : (Int × (List Int) × (List Int)) → Option ((Int × (List Int) × (List Int)) ⊕ (Int × (List Int) × (List Int)))
  | (v0, v1, v2) =>
    bif (decide (v0 < p3)) then (
      (gt p2 v0).bind fun y_1 =>
      (diskBetween y_1.ino (0 : Int) (w64 ((p4.length : Int) - (1 : Int)))).bind fun r_1 =>
      bif r_1 then (
        (gt v1 y_1.ino).bind fun y_2 =>
        (gt v1 y_1.ino).bind fun y_3 =>
        (gt v2 y_1.ino).bind fun y_4 =>
        some (.inl ((w64 (v0 + (1 : Int))), (v1.set ((y_1.ino).toNat) (w64 (y_2 + (1 : Int)))), (v2.set ((y_1.ino).toNat) (0 : Int))))
      ) else (
        some (.inl ((w64 (v0 + (1 : Int))), v1, v2))
      )
    ) else (
      some (.inr (v0, v1, v2))
    )
set_option maxRecDepth 100000 in
theorem diskDiskNamed_t6 (k : Nat) (p0 : (List NodeD)) (p1 : Int) (p2 : (List Ent)) (p3 : Int) (p4 : (List NodeD)) (p5 : Int) (p6 : Int) (a a1 : (Int × (List Int) × (List Int))) (h : diskDiskNamed_b6 p0 p1 p2 p3 p4 p5 p6 a = some (.inl a1)) : ∃ σ, run1 (k + 1) 53 0 54 diskDiskNamed_L6 (diskDiskNamed_S6 p0 p1 p2 p3 p4 p5 p6 a) = some (.normal, σ) ∧ canonS 0 [1, 2, 3, 4, 17, 18, 19, 25, 26, 27] σ = some (diskDiskNamed_S6 p0 p1 p2 p3 p4 p5 p6 a1) := by
  obtain ⟨v0, v1, v2⟩ := a
  unfold diskDiskNamed_b6 at h
  try dsimp only at h
  rcases bif_some h with ⟨q1, h⟩ | ⟨q1, h⟩
  · skip
    obtain ⟨y_1, q2, h⟩ := bnd_some h
    obtain ⟨r_1, q3, h⟩ := bnd_some h
    rcases bif_some h with ⟨q4, h⟩ | ⟨q4, h⟩
    · skip
      revert h; subst q4; intro h
      obtain ⟨y_2, q5, h⟩ := bnd_some h
      obtain ⟨y_3, q6, h⟩ := bnd_some h
      obtain ⟨y_4, q7, h⟩ := bnd_some h
      obtain rfl := Sum.inl.inj (Option.some.inj h)
      exact ⟨_, run_go (k := (k + 1)) (f := 53) (r0 := 0) (nt := 54) (c := diskDiskNamed_L6) (σ := (diskDiskNamed_S6 p0 p1 p2 p3 p4 p5 p6 (v0, v1, v2))) (adv [([], 6, 0, .eq (pB true)), ([], 7, 0, .elem [(pS y_1.name), (pI y_1.ino)]), ([], 8, 4, .eq (pI (p4.length : Int))), ([], 8, 6, .ret (pB true)), ([], 9, 3, .elem []), ([], 9, 4, .elem [(pI y_2)]), ([], 9, 6, .elem []), ([], 9, 7, .elem [(pI y_3)]), ([], 10, 4, .elem []), ([], 10, 5, .elem [(pI y_4)])]) (ex := .normal) (by kernel_rfl) (by kernel_rfl) (allC (cg q1) (allC (gt_list (c := entP) q2) (allC (len_ob (rfl : (p4.map NodeD.c) = p4.map NodeD.c)) (allC (diskBetween_ok k y_1.ino (0 : Int) (w64 ((p4.length : Int) - (1 : Int))) _ q3) (allC (gt_row q5 (rfl : v1.length = v1.length)) (allC (gt_load (c := cI) q5 (rfl : (v1.map cI) = v1.map cI)) (allC (gt_row q6 (rfl : v1.length = v1.length)) (allC (gt_store (c := cI) q6 (rfl : (v1.map cI) = v1.map cI)) (allC (gt_row q7 (rfl : v2.length = v2.length)) (allC (gt_store (c := cI) q7 (rfl : (v2.map cI) = v2.map cI)) allN)))))))))), (Eq.trans (b := some (diskDiskNamed_R6 v1.length v2.length (p0.map NodeD.c) p1 (p2.map entP) p3 (w64 (v0 + (1 : Int))) (p4.map NodeD.c) p5 p6 ((v1.map cI).set (0 + (y_1.ino).toNat) [(pI (w64 (y_2 + (1 : Int))))]) ((v2.map cI).set (0 + (y_1.ino).toNat) [(pI (0 : Int))]))) (by kernel_rfl) (congrArg some ((diskDiskNamed_R6_eq ((len_set (rfl : v1.length = v1.length) ((y_1.ino).toNat) (w64 (y_2 + (1 : Int)))) : v1.length = ((v1.set ((y_1.ino).toNat) (w64 (y_2 + (1 : Int)))).length)) ((len_set (rfl : v2.length = v2.length) ((y_1.ino).toNat) (0 : Int)) : v2.length = ((v2.set ((y_1.ino).toNat) (0 : Int)).length)) (rfl : (p0.map NodeD.c) = (p0.map NodeD.c)) (rfl : p1 = p1) (rfl : (p2.map entP) = (p2.map entP)) (rfl : p3 = p3) (rfl : (w64 (v0 + (1 : Int))) = (w64 (v0 + (1 : Int)))) (rfl : (p4.map NodeD.c) = (p4.map NodeD.c)) (rfl : p5 = p5) (rfl : p6 = p6) ((enc_set (rfl : (v1.map cI) = v1.map cI) ((y_1.ino).toNat) (w64 (y_2 + (1 : Int)))) : ((v1.map cI).set (0 + (y_1.ino).toNat) [(pI (w64 (y_2 + (1 : Int))))]) = ((v1.set ((y_1.ino).toNat) (w64 (y_2 + (1 : Int)))).map cI)) ((enc_set (rfl : (v2.map cI) = v2.map cI) ((y_1.ino).toNat) (0 : Int)) : ((v2.map cI).set (0 + (y_1.ino).toNat) [(pI (0 : Int))]) = ((v2.set ((y_1.ino).toNat) (0 : Int)).map cI))).trans (by kernel_rfl : diskDiskNamed_R6 ((v1.set ((y_1.ino).toNat) (w64 (y_2 + (1 : Int)))).length) ((v2.set ((y_1.ino).toNat) (0 : Int)).length) (p0.map NodeD.c) p1 (p2.map entP) p3 (w64 (v0 + (1 : Int))) (p4.map NodeD.c) p5 p6 ((v1.set ((y_1.ino).toNat) (w64 (y_2 + (1 : Int)))).map cI) ((v2.set ((y_1.ino).toNat) (0 : Int)).map cI) = diskDiskNamed_S6 p0 p1 p2 p3 p4 p5 p6 ((w64 (v0 + (1 : Int))), (v1.set ((y_1.ino).toNat) (w64 (y_2 + (1 : Int)))), (v2.set ((y_1.ino).toNat) (0 : Int)))))))⟩
    · skip
      revert h; subst q4; intro h
      obtain rfl := Sum.inl.inj (Option.some.inj h)
      exact ⟨_, run_go (k := (k + 1)) (f := 53) (r0 := 0) (nt := 54) (c := diskDiskNamed_L6) (σ := (diskDiskNamed_S6 p0 p1 p2 p3 p4 p5 p6 (v0, v1, v2))) (adv [([], 6, 0, .eq (pB true)), ([], 7, 0, .elem [(pS y_1.name), (pI y_1.ino)]), ([], 8, 4, .eq (pI (p4.length : Int))), ([], 8, 6, .ret (pB false))]) (ex := .normal) (by kernel_rfl) (by kernel_rfl) (allC (cg q1) (allC (gt_list (c := entP) q2) (allC (len_ob (rfl : (p4.map NodeD.c) = p4.map NodeD.c)) (allC (diskBetween_ok k y_1.ino (0 : Int) (w64 ((p4.length : Int) - (1 : Int))) _ q3) allN)))), (by kernel_rfl)⟩
  · skip
    cases h
/- (flagstone/disk.Disk).named: its loop at region 6 -/
noncomputable def diskDiskNamed_L6x1 : Code := cAt (codeOf Try.f53) [true, true, false, true, false, false, true, true, false, false, true, true, false, false]
def diskDiskNamed_R6x1 (x0 : Nat) (x1 : Nat) (x2 : Int) (x3 : List (List PV)) (x4 : Int) (x5 : Int) (x6 : List (List PV)) (x7 : Int) (x8 : Int) (x9 : List (List PV)) (x10 : Int) (x11 : Int) (x12 : List (List PV)) (x13 : List (List PV)) : St := ⟨envL [(1, (.ptr [0, TAG] 1 0 0)), (2, (.row [1, TAG] 1 0 x0)), (3, (.row [2, TAG] 1 0 x1)), (4, (pI x2)), (17, (.list 8 false x3)), (18, (pI x4)), (19, (pI x5)), (25, (.list 2 false x6)), (26, (pI x7)), (27, (pI x8))], hsL [some ⟨3, 24, [[(.list 8 false x9), (pI x10), (pI x11)]], true, false⟩, some ⟨1, 3, x12, true, true⟩, some ⟨1, 3, x13, true, true⟩] [0, 0, 0]⟩
theorem diskDiskNamed_R6x1_eq {x0 y0 : Nat} {x1 y1 : Nat} {x2 y2 : Int} {x3 y3 : List (List PV)} {x4 y4 : Int} {x5 y5 : Int} {x6 y6 : List (List PV)} {x7 y7 : Int} {x8 y8 : Int} {x9 y9 : List (List PV)} {x10 y10 : Int} {x11 y11 : Int} {x12 y12 : List (List PV)} {x13 y13 : List (List PV)} (h0 : x0 = y0) (h1 : x1 = y1) (h2 : x2 = y2) (h3 : x3 = y3) (h4 : x4 = y4) (h5 : x5 = y5) (h6 : x6 = y6) (h7 : x7 = y7) (h8 : x8 = y8) (h9 : x9 = y9) (h10 : x10 = y10) (h11 : x11 = y11) (h12 : x12 = y12) (h13 : x13 = y13) : diskDiskNamed_R6x1 x0 x1 x2 x3 x4 x5 x6 x7 x8 x9 x10 x11 x12 x13 = diskDiskNamed_R6x1 y0 y1 y2 y3 y4 y5 y6 y7 y8 y9 y10 y11 y12 y13 := by
  subst h0 h1 h2 h3 h4 h5 h6 h7 h8 h9 h10 h11 h12 h13; rfl
def diskDiskNamed_S6x1 (p0 : Int) (p1 : (List NodeD)) (p2 : Int) (p3 : Int) (p4 : (List Ent)) (p5 : Int) (p6 : (List NodeD)) (p7 : Int) (p8 : Int) : (Int × (List Int) × (List Int)) → St
  | (v0, v1, v2) => diskDiskNamed_R6x1 v1.length v2.length p0 (p1.map NodeD.c) p2 p3 (p4.map entP) p5 v0 (p6.map NodeD.c) p7 p8 (v1.map cI) (v2.map cI)
def diskDiskNamed_b6x1 (p0 : Int) (p1 : (List NodeD)) (p2 : Int) (p3 : Int) (p4 : (List Ent)) (p5 : Int) (p6 : (List NodeD)) (p7 : Int) (p8 : Int) : (Int × (List Int) × (List Int)) → Option ((Int × (List Int) × (List Int)) ⊕ (Int × (List Int) × (List Int)))
  | (v0, v1, v2) =>
    bif (decide (v0 < p5)) then (
      (gt p4 v0).bind fun y_1 =>
      (diskBetween y_1.ino (0 : Int) (w64 ((p6.length : Int) - (1 : Int)))).bind fun r_1 =>
      bif r_1 then (
        (gt v1 y_1.ino).bind fun y_2 =>
        (gt v1 y_1.ino).bind fun y_3 =>
        (gt v2 y_1.ino).bind fun y_4 =>
        some (.inl ((w64 (v0 + (1 : Int))), (v1.set ((y_1.ino).toNat) (w64 (y_2 + (1 : Int)))), (v2.set ((y_1.ino).toNat) p0)))
      ) else (
        some (.inl ((w64 (v0 + (1 : Int))), v1, v2))
      )
    ) else (
      some (.inr (v0, v1, v2))
    )
set_option maxRecDepth 100000 in
theorem diskDiskNamed_t6x1 (k : Nat) (p0 : Int) (p1 : (List NodeD)) (p2 : Int) (p3 : Int) (p4 : (List Ent)) (p5 : Int) (p6 : (List NodeD)) (p7 : Int) (p8 : Int) (a a1 : (Int × (List Int) × (List Int))) (h : diskDiskNamed_b6x1 p0 p1 p2 p3 p4 p5 p6 p7 p8 a = some (.inl a1)) : ∃ σ, run1 (k + 1) 53 0 54 diskDiskNamed_L6x1 (diskDiskNamed_S6x1 p0 p1 p2 p3 p4 p5 p6 p7 p8 a) = some (.normal, σ) ∧ canonS 0 [1, 2, 3, 4, 17, 18, 19, 25, 26, 27] σ = some (diskDiskNamed_S6x1 p0 p1 p2 p3 p4 p5 p6 p7 p8 a1) := by
  obtain ⟨v0, v1, v2⟩ := a
  unfold diskDiskNamed_b6x1 at h
  try dsimp only at h
  rcases bif_some h with ⟨q1, h⟩ | ⟨q1, h⟩
  · skip
    obtain ⟨y_1, q2, h⟩ := bnd_some h
    obtain ⟨r_1, q3, h⟩ := bnd_some h
    rcases bif_some h with ⟨q4, h⟩ | ⟨q4, h⟩
    · skip
      revert h; subst q4; intro h
      obtain ⟨y_2, q5, h⟩ := bnd_some h
      obtain ⟨y_3, q6, h⟩ := bnd_some h
      obtain ⟨y_4, q7, h⟩ := bnd_some h
      obtain rfl := Sum.inl.inj (Option.some.inj h)
      exact ⟨_, run_go (k := (k + 1)) (f := 53) (r0 := 0) (nt := 54) (c := diskDiskNamed_L6x1) (σ := (diskDiskNamed_S6x1 p0 p1 p2 p3 p4 p5 p6 p7 p8 (v0, v1, v2))) (adv [([], 6, 0, .eq (pB true)), ([], 7, 0, .elem [(pS y_1.name), (pI y_1.ino)]), ([], 8, 4, .eq (pI (p6.length : Int))), ([], 8, 6, .ret (pB true)), ([], 9, 3, .elem []), ([], 9, 4, .elem [(pI y_2)]), ([], 9, 6, .elem []), ([], 9, 7, .elem [(pI y_3)]), ([], 10, 4, .elem []), ([], 10, 5, .elem [(pI y_4)])]) (ex := .normal) (by kernel_rfl) (by kernel_rfl) (allC (cg q1) (allC (gt_list (c := entP) q2) (allC (len_ob (rfl : (p6.map NodeD.c) = p6.map NodeD.c)) (allC (diskBetween_ok k y_1.ino (0 : Int) (w64 ((p6.length : Int) - (1 : Int))) _ q3) (allC (gt_row q5 (rfl : v1.length = v1.length)) (allC (gt_load (c := cI) q5 (rfl : (v1.map cI) = v1.map cI)) (allC (gt_row q6 (rfl : v1.length = v1.length)) (allC (gt_store (c := cI) q6 (rfl : (v1.map cI) = v1.map cI)) (allC (gt_row q7 (rfl : v2.length = v2.length)) (allC (gt_store (c := cI) q7 (rfl : (v2.map cI) = v2.map cI)) allN)))))))))), (Eq.trans (b := some (diskDiskNamed_R6x1 v1.length v2.length p0 (p1.map NodeD.c) p2 p3 (p4.map entP) p5 (w64 (v0 + (1 : Int))) (p6.map NodeD.c) p7 p8 ((v1.map cI).set (0 + (y_1.ino).toNat) [(pI (w64 (y_2 + (1 : Int))))]) ((v2.map cI).set (0 + (y_1.ino).toNat) [(pI p0)]))) (by kernel_rfl) (congrArg some ((diskDiskNamed_R6x1_eq ((len_set (rfl : v1.length = v1.length) ((y_1.ino).toNat) (w64 (y_2 + (1 : Int)))) : v1.length = ((v1.set ((y_1.ino).toNat) (w64 (y_2 + (1 : Int)))).length)) ((len_set (rfl : v2.length = v2.length) ((y_1.ino).toNat) p0) : v2.length = ((v2.set ((y_1.ino).toNat) p0).length)) (rfl : p0 = p0) (rfl : (p1.map NodeD.c) = (p1.map NodeD.c)) (rfl : p2 = p2) (rfl : p3 = p3) (rfl : (p4.map entP) = (p4.map entP)) (rfl : p5 = p5) (rfl : (w64 (v0 + (1 : Int))) = (w64 (v0 + (1 : Int)))) (rfl : (p6.map NodeD.c) = (p6.map NodeD.c)) (rfl : p7 = p7) (rfl : p8 = p8) ((enc_set (rfl : (v1.map cI) = v1.map cI) ((y_1.ino).toNat) (w64 (y_2 + (1 : Int)))) : ((v1.map cI).set (0 + (y_1.ino).toNat) [(pI (w64 (y_2 + (1 : Int))))]) = ((v1.set ((y_1.ino).toNat) (w64 (y_2 + (1 : Int)))).map cI)) ((enc_set (rfl : (v2.map cI) = v2.map cI) ((y_1.ino).toNat) p0) : ((v2.map cI).set (0 + (y_1.ino).toNat) [(pI p0)]) = ((v2.set ((y_1.ino).toNat) p0).map cI))).trans (by kernel_rfl : diskDiskNamed_R6x1 ((v1.set ((y_1.ino).toNat) (w64 (y_2 + (1 : Int)))).length) ((v2.set ((y_1.ino).toNat) p0).length) p0 (p1.map NodeD.c) p2 p3 (p4.map entP) p5 (w64 (v0 + (1 : Int))) (p6.map NodeD.c) p7 p8 ((v1.set ((y_1.ino).toNat) (w64 (y_2 + (1 : Int)))).map cI) ((v2.set ((y_1.ino).toNat) p0).map cI) = diskDiskNamed_S6x1 p0 p1 p2 p3 p4 p5 p6 p7 p8 ((w64 (v0 + (1 : Int))), (v1.set ((y_1.ino).toNat) (w64 (y_2 + (1 : Int)))), (v2.set ((y_1.ino).toNat) p0))))))⟩
    · skip
      revert h; subst q4; intro h
      obtain rfl := Sum.inl.inj (Option.some.inj h)
      exact ⟨_, run_go (k := (k + 1)) (f := 53) (r0 := 0) (nt := 54) (c := diskDiskNamed_L6x1) (σ := (diskDiskNamed_S6x1 p0 p1 p2 p3 p4 p5 p6 p7 p8 (v0, v1, v2))) (adv [([], 6, 0, .eq (pB true)), ([], 7, 0, .elem [(pS y_1.name), (pI y_1.ino)]), ([], 8, 4, .eq (pI (p6.length : Int))), ([], 8, 6, .ret (pB false))]) (ex := .normal) (by kernel_rfl) (by kernel_rfl) (allC (cg q1) (allC (gt_list (c := entP) q2) (allC (len_ob (rfl : (p6.map NodeD.c) = p6.map NodeD.c)) (allC (diskBetween_ok k y_1.ino (0 : Int) (w64 ((p6.length : Int) - (1 : Int))) _ q3) allN)))), (by kernel_rfl)⟩
  · skip
    cases h
/- (flagstone/disk.Disk).named: its loop at region 3 -/
noncomputable def diskDiskNamed_L3 : Code := cAt (codeOf Try.f53) [true, true, false, true, false, false]
def diskDiskNamed_R3 (x0 : Nat) (x1 : Nat) (x2 : List (List PV)) (x3 : Int) (x4 : Int) (x5 : List (List PV)) (x6 : Int) (x7 : Int) (x8 : List (List PV)) (x9 : List (List PV)) : St := ⟨envL [(1, (.ptr [0, TAG] 1 0 0)), (2, (.row [1, TAG] 1 0 x0)), (3, (.row [2, TAG] 1 0 x1)), (17, (.list 8 false x2)), (18, (pI x3)), (19, (pI x4))], hsL [some ⟨3, 24, [[(.list 8 false x5), (pI x6), (pI x7)]], true, false⟩, some ⟨1, 3, x8, true, true⟩, some ⟨1, 3, x9, true, true⟩] [0, 0, 0]⟩
theorem diskDiskNamed_R3_eq {x0 y0 : Nat} {x1 y1 : Nat} {x2 y2 : List (List PV)} {x3 y3 : Int} {x4 y4 : Int} {x5 y5 : List (List PV)} {x6 y6 : Int} {x7 y7 : Int} {x8 y8 : List (List PV)} {x9 y9 : List (List PV)} (h0 : x0 = y0) (h1 : x1 = y1) (h2 : x2 = y2) (h3 : x3 = y3) (h4 : x4 = y4) (h5 : x5 = y5) (h6 : x6 = y6) (h7 : x7 = y7) (h8 : x8 = y8) (h9 : x9 = y9) : diskDiskNamed_R3 x0 x1 x2 x3 x4 x5 x6 x7 x8 x9 = diskDiskNamed_R3 y0 y1 y2 y3 y4 y5 y6 y7 y8 y9 := by
  subst h0 h1 h2 h3 h4 h5 h6 h7 h8 h9; rfl
def diskDiskNamed_S3 (p0 : (List NodeD)) (p1 : Int) (p2 : (List NodeD)) (p3 : Int) (p4 : Int) : (Int × (List Int) × (List Int)) → St
  | (v0, v1, v2) => diskDiskNamed_R3 v1.length v2.length (p0.map NodeD.c) p1 v0 (p2.map NodeD.c) p3 p4 (v1.map cI) (v2.map cI)
def diskDiskNamed_b3 (p0 : (List NodeD)) (p1 : Int) (p2 : (List NodeD)) (p3 : Int) (p4 : Int) : (Int × (List Int) × (List Int)) → Option ((Int × (List Int) × (List Int)) ⊕ (Int × (List Int) × (List Int)))
  | (v0, v1, v2) =>
    bif (decide (v0 < p1)) then (
      (gt p0 v0).bind fun y_1 =>
      (iterN (diskDiskNamed_b6x1 v0 p0 p1 v0 y_1.names (y_1.names.length : Int) p2 p3 p4) LF ((0 : Int), v1, v2)).bind fun (v_1, v_2, v_3) =>
      some (.inl ((w64 (v0 + (1 : Int))), v_2, v_3))
    ) else (
      some (.inr (v0, v1, v2))
    )
set_option maxRecDepth 100000 in
theorem diskDiskNamed_t3 (k : Nat) (p0 : (List NodeD)) (p1 : Int) (p2 : (List NodeD)) (p3 : Int) (p4 : Int) (a a1 : (Int × (List Int) × (List Int))) (h : diskDiskNamed_b3 p0 p1 p2 p3 p4 a = some (.inl a1)) : ∃ σ, run1 (k + 1) 53 0 54 diskDiskNamed_L3 (diskDiskNamed_S3 p0 p1 p2 p3 p4 a) = some (.normal, σ) ∧ canonS 0 [1, 2, 3, 17, 18, 19] σ = some (diskDiskNamed_S3 p0 p1 p2 p3 p4 a1) := by
  obtain ⟨v0, v1, v2⟩ := a
  unfold diskDiskNamed_b3 at h
  try dsimp only at h
  rcases bif_some h with ⟨q1, h⟩ | ⟨q1, h⟩
  · skip
    obtain ⟨y_1, q2, h⟩ := bnd_some h
    obtain ⟨X_1, q3, h⟩ := bnd_some h
    obtain ⟨a_1, q4, q5⟩ := loop_iter (f := run1 (k + 1) 53 0 54 diskDiskNamed_L6x1) (diskDiskNamed_S6x1 v0 p0 p1 v0 y_1.names (y_1.names.length : Int) p2 p3 p4) (diskDiskNamed_b6x1 v0 p0 p1 v0 y_1.names (y_1.names.length : Int) p2 p3 p4) (diskDiskNamed_t6x1 k v0 p0 p1 v0 y_1.names (y_1.names.length : Int) p2 p3 p4) LF ((0 : Int), v1, v2) _ (stOf (goStop (k + 1) 53 0 54 (adv [([], 3, 0, .eq (pB true)), ([], 4, 1, .elem [(pI y_1.kind), (pI y_1.modeF), (pI y_1.owner), (pI y_1.links), (pI y_1.openF), (pI y_1.up), (pS y_1.data), (.list 2 false (y_1.names.map entP))]), ([], 5, 2, .eq (pI (y_1.names.length : Int)))]) 6 (diskDiskNamed_L3) (diskDiskNamed_S3 p0 p1 p2 p3 p4 (v0, v1, v2)))) q3 (by kernel_rfl)
    obtain ⟨v_1, v_2, v_3⟩ := a_1
    unfold diskDiskNamed_b6x1 at q4
    try dsimp only at q4
    rcases bif_some q4 with ⟨q8, q4⟩ | ⟨q8, q4⟩
    · skip
      obtain ⟨y_2, q9, q4⟩ := bnd_some q4
      obtain ⟨r_1, q10, q4⟩ := bnd_some q4
      rcases bif_some q4 with ⟨q11, q4⟩ | ⟨q11, q4⟩
      · skip
        revert q4; subst q11; intro q4
        obtain ⟨y_3, q12, q4⟩ := bnd_some q4
        obtain ⟨y_4, q13, q4⟩ := bnd_some q4
        obtain ⟨y_5, q14, q4⟩ := bnd_some q4
        cases q4
      · skip
        revert q4; subst q11; intro q4
        cases q4
    · skip
      cases q4
      try dsimp only at h
      have q6 := run_go (k := (k + 1)) (f := 53) (r0 := 0) (nt := 54) (c := diskDiskNamed_L6x1) (σ := (diskDiskNamed_S6x1 v0 p0 p1 v0 y_1.names (y_1.names.length : Int) p2 p3 p4 (v_1, v_2, v_3))) (adv [([], 6, 0, .eq (pB false))]) (ex := (.exit 2)) (by kernel_rfl) (by kernel_rfl) (allC (cg q8) allN)
      have q7 := q5 _ _ (by intro e; cases e) q6
      obtain rfl := Sum.inl.inj (Option.some.inj h)
      exact ⟨_, run_go (k := (k + 1)) (f := 53) (r0 := 0) (nt := 54) (c := diskDiskNamed_L3) (σ := (diskDiskNamed_S3 p0 p1 p2 p3 p4 (v0, v1, v2))) (adv [([], 3, 0, .eq (pB true)), ([], 4, 1, .elem [(pI y_1.kind), (pI y_1.modeF), (pI y_1.owner), (pI y_1.links), (pI y_1.openF), (pI y_1.up), (pS y_1.data), (.list 2 false (y_1.names.map entP))]), ([], 5, 2, .eq (pI (y_1.names.length : Int)))] [([], 6, (.exit 2), (stOf (go (k + 1) 53 0 54 (adv [([], 6, 0, .eq (pB false))]) diskDiskNamed_L6x1 (diskDiskNamed_S6x1 v0 p0 p1 v0 y_1.names (y_1.names.length : Int) p2 p3 p4 (v_1, v_2, v_3)))))]) (ex := .normal) (by kernel_rfl) (by kernel_rfl) (allC (cg q1) (allC (gt_list (c := NodeD.c) q2) (allC (len_ob (rfl : (y_1.names.map entP) = y_1.names.map entP)) (allC q7 allN)))), (by kernel_rfl)⟩
  · skip
    cases h
/-- (flagstone/disk.Disk).named: the answer, and what is left of the variables -/
def diskDiskNamed (p0 : (List NodeD)) (p1 : Int) (p2 : Int) : Option ((List Int) × (List Int)) :=
  grd (0 ≤ (p0.length : Int) ∧ (p0.length : Int) ≤ (p0.length : Int) ∧ (8 : Int) * (p0.length : Int) ≤ 281474976710656 ∧ (p0.length : Int) ≤ 9223372036854775807) <|
  grd (0 ≤ (p0.length : Int) ∧ (p0.length : Int) ≤ (p0.length : Int) ∧ (8 : Int) * (p0.length : Int) ≤ 281474976710656 ∧ (p0.length : Int) ≤ 9223372036854775807) <|
  (iterN (diskDiskNamed_b3 p0 (p0.length : Int) p0 p1 p2) LF ((0 : Int), (List.replicate (((p0.length : Int)).toNat) (0 : Int)), (List.replicate (((p0.length : Int)).toNat) (0 : Int)))).bind fun (v_1, v_2, v_3) =>
  some (v_2, v_3)
def diskDiskNamed_out : ((List Int) × (List Int)) → PV × List (Option Blk) × List Nat
  | (r0, r1) => ((.tup [(.row [0, TAG] 1 0 r0.length), (.row [1, TAG] 1 0 r1.length)]), [some ⟨1, 3, (r0.map cI), true, true⟩, some ⟨1, 3, (r1.map cI), true, true⟩], [0, 0])
set_option maxRecDepth 100000 in
theorem diskDiskNamed_ok (k : Nat) (p0 : (List NodeD)) (p1 : Int) (p2 : Int) (r : ((List Int) × (List Int))) (h : diskDiskNamed p0 p1 p2 = some r) : runS0 (k + 2) 53 [(.agg [(.list 8 false (p0.map NodeD.c)), (pI p1), (pI p2)])] [] [] = some (diskDiskNamed_out r) := by
  unfold diskDiskNamed at h
  obtain ⟨q1, h⟩ := grd_some h
  obtain ⟨q2, h⟩ := grd_some h
  obtain ⟨X_1, q3, h⟩ := bnd_some h
  obtain ⟨a_1, q4, q5⟩ := loop_iter (f := run1 (k + 1) 53 0 54 diskDiskNamed_L3) (diskDiskNamed_S3 p0 (p0.length : Int) p0 p1 p2) (diskDiskNamed_b3 p0 (p0.length : Int) p0 p1 p2) (diskDiskNamed_t3 k p0 (p0.length : Int) p0 p1 p2) LF ((0 : Int), (List.replicate (((p0.length : Int)).toNat) (0 : Int)), (List.replicate (((p0.length : Int)).toNat) (0 : Int))) _ (stOf (goStop (k + 1) 53 0 54 (adv [([], 1, 2, .eq (pI (p0.length : Int))), ([], 1, 3, .mk), ([], 1, 6, .eq (pI (p0.length : Int))), ([], 1, 7, .mk), ([], 2, 2, .eq (pI (p0.length : Int)))]) 3 (codeOf Try.f53) (argB 53 [(.agg [(.list 8 false (p0.map NodeD.c)), (pI p1), (pI p2)])] [] []))) q3 (Eq.trans (b := some (diskDiskNamed_R3 (((p0.length : Int)).toNat) (((p0.length : Int)).toNat) (p0.map NodeD.c) (p0.length : Int) (0 : Int) (p0.map NodeD.c) p1 p2 (List.replicate (((p0.length : Int)).toNat) [(pI (0 : Int))]) (List.replicate (((p0.length : Int)).toNat) [(pI (0 : Int))]))) (by kernel_rfl) (congrArg some ((diskDiskNamed_R3_eq (List.length_replicate.symm : (((p0.length : Int)).toNat) = ((List.replicate (((p0.length : Int)).toNat) (0 : Int)).length)) (List.length_replicate.symm : (((p0.length : Int)).toNat) = ((List.replicate (((p0.length : Int)).toNat) (0 : Int)).length)) (rfl : (p0.map NodeD.c) = (p0.map NodeD.c)) (rfl : (p0.length : Int) = (p0.length : Int)) (rfl : (0 : Int) = (0 : Int)) (rfl : (p0.map NodeD.c) = (p0.map NodeD.c)) (rfl : p1 = p1) (rfl : p2 = p2) ((enc_rep (c := cI) (((p0.length : Int)).toNat) (0 : Int)) : (List.replicate (((p0.length : Int)).toNat) [(pI (0 : Int))]) = ((List.replicate (((p0.length : Int)).toNat) (0 : Int)).map cI)) ((enc_rep (c := cI) (((p0.length : Int)).toNat) (0 : Int)) : (List.replicate (((p0.length : Int)).toNat) [(pI (0 : Int))]) = ((List.replicate (((p0.length : Int)).toNat) (0 : Int)).map cI))).trans (by kernel_rfl : diskDiskNamed_R3 ((List.replicate (((p0.length : Int)).toNat) (0 : Int)).length) ((List.replicate (((p0.length : Int)).toNat) (0 : Int)).length) (p0.map NodeD.c) (p0.length : Int) (0 : Int) (p0.map NodeD.c) p1 p2 ((List.replicate (((p0.length : Int)).toNat) (0 : Int)).map cI) ((List.replicate (((p0.length : Int)).toNat) (0 : Int)).map cI) = diskDiskNamed_S3 p0 (p0.length : Int) p0 p1 p2 ((0 : Int), (List.replicate (((p0.length : Int)).toNat) (0 : Int)), (List.replicate (((p0.length : Int)).toNat) (0 : Int)))))))
  obtain ⟨v_1, v_2, v_3⟩ := a_1
  unfold diskDiskNamed_b3 at q4
  try dsimp only at q4
  rcases bif_some q4 with ⟨q8, q4⟩ | ⟨q8, q4⟩
  · skip
    obtain ⟨y_1, q9, q4⟩ := bnd_some q4
    obtain ⟨X_2, q10, q4⟩ := bnd_some q4
    obtain ⟨a_2, q11, q12⟩ := loop_iter (f := run1 (k + 1) 53 0 54 diskDiskNamed_L6x1) (diskDiskNamed_S6x1 v_1 p0 (p0.length : Int) v_1 y_1.names (y_1.names.length : Int) p0 p1 p2) (diskDiskNamed_b6x1 v_1 p0 (p0.length : Int) v_1 y_1.names (y_1.names.length : Int) p0 p1 p2) (diskDiskNamed_t6x1 k v_1 p0 (p0.length : Int) v_1 y_1.names (y_1.names.length : Int) p0 p1 p2) LF ((0 : Int), v_2, v_3) _ (stOf (goStop (k + 1) 53 0 54 (adv [([], 3, 0, .eq (pB true)), ([], 4, 1, .elem [(pI y_1.kind), (pI y_1.modeF), (pI y_1.owner), (pI y_1.links), (pI y_1.openF), (pI y_1.up), (pS y_1.data), (.list 2 false (y_1.names.map entP))]), ([], 5, 2, .eq (pI (y_1.names.length : Int)))]) 6 (diskDiskNamed_L3) (diskDiskNamed_S3 p0 (p0.length : Int) p0 p1 p2 (v_1, v_2, v_3)))) q10 (by kernel_rfl)
    obtain ⟨v_4, v_5, v_6⟩ := a_2
    unfold diskDiskNamed_b6x1 at q11
    try dsimp only at q11
    rcases bif_some q11 with ⟨q15, q11⟩ | ⟨q15, q11⟩
    · skip
      obtain ⟨y_2, q16, q11⟩ := bnd_some q11
      obtain ⟨r_1, q17, q11⟩ := bnd_some q11
      rcases bif_some q11 with ⟨q18, q11⟩ | ⟨q18, q11⟩
      · skip
        revert q11; subst q18; intro q11
        obtain ⟨y_3, q19, q11⟩ := bnd_some q11
        obtain ⟨y_4, q20, q11⟩ := bnd_some q11
        obtain ⟨y_5, q21, q11⟩ := bnd_some q11
        cases q11
      · skip
        revert q11; subst q18; intro q11
        cases q11
    · skip
      cases q11
      try dsimp only at q4
      have q13 := run_go (k := (k + 1)) (f := 53) (r0 := 0) (nt := 54) (c := diskDiskNamed_L6x1) (σ := (diskDiskNamed_S6x1 v_1 p0 (p0.length : Int) v_1 y_1.names (y_1.names.length : Int) p0 p1 p2 (v_4, v_5, v_6))) (adv [([], 6, 0, .eq (pB false))]) (ex := (.exit 2)) (by kernel_rfl) (by kernel_rfl) (allC (cg q15) allN)
      have q14 := q12 _ _ (by intro e; cases e) q13
      cases q4
  · skip
    cases q4
    try dsimp only at h
    have q6 := run_go (k := (k + 1)) (f := 53) (r0 := 0) (nt := 54) (c := diskDiskNamed_L3) (σ := (diskDiskNamed_S3 p0 (p0.length : Int) p0 p1 p2 (v_1, v_2, v_3))) (adv [([], 3, 0, .eq (pB false))]) (ex := (.exit 0)) (by kernel_rfl) (by kernel_rfl) (allC (cg q8) allN)
    have q7 := q5 _ _ (by intro e; cases e) q6
    obtain rfl := Option.some.inj h
    exact retS_go (k := (k + 1)) (n := 0) Try.func53 Try.ntmps53 rfl (by kernel_rfl) (by kernel_rfl) (Nat.le_of_ble_eq_true rfl) (adv [([], 1, 2, .eq (pI (p0.length : Int))), ([], 1, 3, .mk), ([], 1, 6, .eq (pI (p0.length : Int))), ([], 1, 7, .mk), ([], 2, 2, .eq (pI (p0.length : Int)))] [([], 3, (.exit 0), (stOf (go (k + 1) 53 0 54 (adv [([], 3, 0, .eq (pB false))]) diskDiskNamed_L3 (diskDiskNamed_S3 p0 (p0.length : Int) p0 p1 p2 (v_1, v_2, v_3)))))]) (ex := .ret) (r := ((.tup [(.row [0, TAG] 1 0 v_2.length), (.row [1, TAG] 1 0 v_3.length)]), [some ⟨1, 3, (v_2.map cI), true, true⟩, some ⟨1, 3, (v_3.map cI), true, true⟩], [0, 0])) (by kernel_rfl) rfl (by kernel_rfl) (allC (len_ob (rfl : (p0.map NodeD.c) = p0.map NodeD.c)) (allC q1 (allC q1 (allC (len_ob (rfl : (p0.map NodeD.c) = p0.map NodeD.c)) (allC q2 (allC q2 (allC (len_ob (rfl : (p0.map NodeD.c) = p0.map NodeD.c)) (allC q7 allN)))))))) (by kernel_rfl)

/-- (flagstone/disk.Node).zero -/
def diskNodeZero (n : NodeD) : Option Bool :=
  bif ((n.kind == (0 : Int)) && ((n.modeF == (0 : Int)) && ((n.owner == (0 : Int)) && ((n.links == (0 : Int)) && ((n.openF == (0 : Int)) && ((n.up == (0 : Int)) && true)))))) then (
    bif (seq n.data (⟨#[]⟩)) then (
      some ((n.names.length : Int) == (0 : Int))
    ) else (
      some false
    )
  ) else (
    some false
  )
set_option maxRecDepth 100000 in
theorem diskNodeZero_ok (k : Nat) (n : NodeD) (r : Bool) (h : diskNodeZero n = some r) : run0 (k + 1) 63 [(.agg [(pI n.kind), (pI n.modeF), (pI n.owner), (pI n.links), (pI n.openF), (pI n.up), (pS n.data), (.list 2 false (n.names.map entP))])] = some (pB r) := by
  unfold diskNodeZero at h
  rcases bif_some h with ⟨q1, h⟩ | ⟨q1, h⟩
  · skip
    rcases bif_some h with ⟨q2, h⟩ | ⟨q2, h⟩
    · skip
      obtain rfl := Option.some.inj h
      exact ret_go (k := k) Try.func63 Try.ntmps63 (by kernel_rfl) (by kernel_rfl) (Nat.le_of_ble_eq_true rfl) (adv [([], 1, 15, .eq (pB true)), ([], 1, 20, .eq (pB true)), ([], 1, 23, .eq (pI (n.names.length : Int)))]) (ex := .ret) (r := (pB ((n.names.length : Int) == (0 : Int)))) (by kernel_rfl) rfl (by kernel_rfl) (allC (cg q1) (allC (cg q2) (allC (len_ob (rfl : (n.names.map entP) = n.names.map entP)) allN))) (by kernel_rfl) allN
    · skip
      obtain rfl := Option.some.inj h
      exact ret_go (k := k) Try.func63 Try.ntmps63 (by kernel_rfl) (by kernel_rfl) (Nat.le_of_ble_eq_true rfl) (adv [([], 1, 15, .eq (pB true)), ([], 1, 20, .eq (pB false))]) (ex := .ret) (r := (pB false)) (by kernel_rfl) rfl (by kernel_rfl) (allC (cg q1) (allC (cg q2) allN)) (by kernel_rfl) allN
  · skip
    obtain rfl := Option.some.inj h
    exact ret_go (k := k) Try.func63 Try.ntmps63 (by kernel_rfl) (by kernel_rfl) (Nat.le_of_ble_eq_true rfl) (adv [([], 1, 15, .eq (pB false))]) (ex := .ret) (r := (pB false)) (by kernel_rfl) rfl (by kernel_rfl) (allC (cg q1) allN) (by kernel_rfl) allN

/-- flagstone/disk.Right 1: the answer, and what is left of the variables -/
def diskRight1 (p0 : Int) (p1 : Int) (p2 : Int) (p3 : Int) (p4 : Int) (p5 : Int) (p6 : Int) (p7 : ByteArray) (p8 : (List Ent)) : Option Bool :=
  bif (decide (p1 ≤ (3 : Int))) then (
    bif (decide (p1 > (0 : Int))) then (
      (diskBetween p2 (0 : Int) (63 : Int)).bind fun r_1 =>
      bif r_1 then (
        some (decide (p5 ≥ (0 : Int)))
      ) else (
        some false
      )
    ) else (
      some false
    )
  ) else (
    some false
  )
def diskRight1_out : Bool → PV × List (Option Blk) × List Nat
  | r0 => ((pB r0), [], [])
set_option maxRecDepth 100000 in
theorem diskRight1_ok (k : Nat) (p0 : Int) (p1 : Int) (p2 : Int) (p3 : Int) (p4 : Int) (p5 : Int) (p6 : Int) (p7 : ByteArray) (p8 : (List Ent)) (r : Bool) (h : diskRight1 p0 p1 p2 p3 p4 p5 p6 p7 p8 = some r) : runS0 (k + 2) 54 [(pI p0), (.agg [(pI p1), (pI p2), (pI p3), (pI p4), (pI p5), (pI p6), (pS p7), (.list 2 false (p8.map entP))])] [] [] = some (diskRight1_out r) := by
  unfold diskRight1 at h
  rcases bif_some h with ⟨q1, h⟩ | ⟨q1, h⟩
  · skip
    rcases bif_some h with ⟨q2, h⟩ | ⟨q2, h⟩
    · skip
      obtain ⟨r_1, q3, h⟩ := bnd_some h
      rcases bif_some h with ⟨q4, h⟩ | ⟨q4, h⟩
      · skip
        obtain rfl := Option.some.inj h
        exact retS_go (k := (k + 1)) (n := 0) Try.func54 Try.ntmps54 rfl (by kernel_rfl) (by kernel_rfl) (Nat.le_of_ble_eq_true rfl) (adv [([], 1, 3, .eq (pB true)), ([], 1, 8, .eq (pB true)), ([], 1, 11, .ret (pB r_1)), ([], 1, 13, .eq (pB true))]) (ex := .ret) (r := ((pB (decide (p5 ≥ (0 : Int)))), [], [])) (by kernel_rfl) rfl (by kernel_rfl) (allC (cg q1) (allC (cg q2) (allC (diskBetween_ok k p2 (0 : Int) (63 : Int) _ q3) (allC (cg q4) allN)))) (by kernel_rfl)
      · skip
        obtain rfl := Option.some.inj h
        exact retS_go (k := (k + 1)) (n := 0) Try.func54 Try.ntmps54 rfl (by kernel_rfl) (by kernel_rfl) (Nat.le_of_ble_eq_true rfl) (adv [([], 1, 3, .eq (pB true)), ([], 1, 8, .eq (pB true)), ([], 1, 11, .ret (pB r_1)), ([], 1, 13, .eq (pB false))]) (ex := .ret) (r := ((pB false), [], [])) (by kernel_rfl) rfl (by kernel_rfl) (allC (cg q1) (allC (cg q2) (allC (diskBetween_ok k p2 (0 : Int) (63 : Int) _ q3) (allC (cg q4) allN)))) (by kernel_rfl)
    · skip
      obtain rfl := Option.some.inj h
      exact retS_go (k := (k + 1)) (n := 0) Try.func54 Try.ntmps54 rfl (by kernel_rfl) (by kernel_rfl) (Nat.le_of_ble_eq_true rfl) (adv [([], 1, 3, .eq (pB true)), ([], 1, 8, .eq (pB false))]) (ex := .ret) (r := ((pB false), [], [])) (by kernel_rfl) rfl (by kernel_rfl) (allC (cg q1) (allC (cg q2) allN)) (by kernel_rfl)
  · skip
    obtain rfl := Option.some.inj h
    exact retS_go (k := (k + 1)) (n := 0) Try.func54 Try.ntmps54 rfl (by kernel_rfl) (by kernel_rfl) (Nat.le_of_ble_eq_true rfl) (adv [([], 1, 3, .eq (pB false))]) (ex := .ret) (r := ((pB false), [], [])) (by kernel_rfl) rfl (by kernel_rfl) (allC (cg q1) allN) (by kernel_rfl)

/-- flagstone/disk.Right 2: the answer, and what is left of the variables -/
def diskRight2 (p0 : Int) (p1 : Int) (p2 : Int) (p3 : Int) (p4 : Int) (p5 : Int) (p6 : Int) (p7 : ByteArray) (p8 : (List Ent)) : Option Bool :=
  bif (p1 == (2 : Int)) then (
    bif (seq p7 (⟨#[]⟩)) then (
      some true
    ) else (
      bif (p1 != (2 : Int)) then (
        some ((p8.length : Int) == (0 : Int))
      ) else (
        some false
      )
    )
  ) else (
    bif (p1 != (2 : Int)) then (
      some ((p8.length : Int) == (0 : Int))
    ) else (
      some false
    )
  )
def diskRight2_out : Bool → PV × List (Option Blk) × List Nat
  | r0 => ((pB r0), [], [])
set_option maxRecDepth 100000 in
theorem diskRight2_ok (k : Nat) (p0 : Int) (p1 : Int) (p2 : Int) (p3 : Int) (p4 : Int) (p5 : Int) (p6 : Int) (p7 : ByteArray) (p8 : (List Ent)) (r : Bool) (h : diskRight2 p0 p1 p2 p3 p4 p5 p6 p7 p8 = some r) : runS0 (k + 1) 55 [(pI p0), (.agg [(pI p1), (pI p2), (pI p3), (pI p4), (pI p5), (pI p6), (pS p7), (.list 2 false (p8.map entP))])] [] [] = some (diskRight2_out r) := by
  unfold diskRight2 at h
  rcases bif_some h with ⟨q1, h⟩ | ⟨q1, h⟩
  · skip
    rcases bif_some h with ⟨q2, h⟩ | ⟨q2, h⟩
    · skip
      obtain rfl := Option.some.inj h
      exact retS_go (k := k) (n := 0) Try.func55 Try.ntmps55 rfl (by kernel_rfl) (by kernel_rfl) (Nat.le_of_ble_eq_true rfl) (adv [([], 1, 3, .eq (pB true)), ([], 1, 8, .eq (pB true))]) (ex := .ret) (r := ((pB true), [], [])) (by kernel_rfl) rfl (by kernel_rfl) (allC (cg q1) (allC (cg q2) allN)) (by kernel_rfl)
    · skip
      rcases bif_some h with ⟨q3, h⟩ | ⟨q3, h⟩
      · skip
        obtain rfl := Option.some.inj h
        exact retS_go (k := k) (n := 0) Try.func55 Try.ntmps55 rfl (by kernel_rfl) (by kernel_rfl) (Nat.le_of_ble_eq_true rfl) (adv [([], 1, 3, .eq (pB true)), ([], 1, 8, .eq (pB false)), ([], 1, 12, .eq (pB true)), ([], 1, 15, .eq (pI (p8.length : Int)))]) (ex := .ret) (r := ((pB ((p8.length : Int) == (0 : Int))), [], [])) (by kernel_rfl) rfl (by kernel_rfl) (allC (cg q1) (allC (cg q2) (allC (cg q3) (allC (len_ob (rfl : (p8.map entP) = p8.map entP)) allN)))) (by kernel_rfl)
      · skip
        obtain rfl := Option.some.inj h
        exact retS_go (k := k) (n := 0) Try.func55 Try.ntmps55 rfl (by kernel_rfl) (by kernel_rfl) (Nat.le_of_ble_eq_true rfl) (adv [([], 1, 3, .eq (pB true)), ([], 1, 8, .eq (pB false)), ([], 1, 12, .eq (pB false))]) (ex := .ret) (r := ((pB false), [], [])) (by kernel_rfl) rfl (by kernel_rfl) (allC (cg q1) (allC (cg q2) (allC (cg q3) allN))) (by kernel_rfl)
  · skip
    rcases bif_some h with ⟨q2, h⟩ | ⟨q2, h⟩
    · skip
      obtain rfl := Option.some.inj h
      exact retS_go (k := k) (n := 0) Try.func55 Try.ntmps55 rfl (by kernel_rfl) (by kernel_rfl) (Nat.le_of_ble_eq_true rfl) (adv [([], 1, 3, .eq (pB false)), ([], 1, 12, .eq (pB true)), ([], 1, 15, .eq (pI (p8.length : Int)))]) (ex := .ret) (r := ((pB ((p8.length : Int) == (0 : Int))), [], [])) (by kernel_rfl) rfl (by kernel_rfl) (allC (cg q1) (allC (cg q2) (allC (len_ob (rfl : (p8.map entP) = p8.map entP)) allN))) (by kernel_rfl)
    · skip
      obtain rfl := Option.some.inj h
      exact retS_go (k := k) (n := 0) Try.func55 Try.ntmps55 rfl (by kernel_rfl) (by kernel_rfl) (Nat.le_of_ble_eq_true rfl) (adv [([], 1, 3, .eq (pB false)), ([], 1, 12, .eq (pB false))]) (ex := .ret) (r := ((pB false), [], [])) (by kernel_rfl) rfl (by kernel_rfl) (allC (cg q1) (allC (cg q2) allN)) (by kernel_rfl)

/-- flagstone/disk.Right 3 1: the answer, and what is left of the variables -/
def diskRight31 (p0 : ByteArray) (p1 : Int) (p2 : (List NodeD)) (p3 : Int) (p4 : Int) : Option (Bool × (List NodeD) × Int × Int) :=
  (diskGet (DiskD.mk p2 p3 p4) p1).bind fun (r_1, r_2) =>
  bif (!r_2) then (
    some (true, p2, p3, p4)
  ) else (
    some ((p1 == (0 : Int)), p2, p3, p4)
  )
def diskRight31_out : (Bool × (List NodeD) × Int × Int) → PV × List (Option Blk) × List Nat
  | (r0, r1, r2, r3) => ((pB r0), [some ⟨3, 24, [[(.list 8 false (r1.map NodeD.c)), (pI r2), (pI r3)]], true, false⟩], [0])
set_option maxRecDepth 100000 in
theorem diskRight31_ok (k : Nat) (p0 : ByteArray) (p1 : Int) (p2 : (List NodeD)) (p3 : Int) (p4 : Int) (r : (Bool × (List NodeD) × Int × Int)) (h : diskRight31 p0 p1 p2 p3 p4 = some r) : runS0 (k + 3) 58 [(.agg [(pS p0), (pI p1)]), (.ptr [0, TAG] 1 0 0)] [some ⟨3, 24, [[(.list 8 false (p2.map NodeD.c)), (pI p3), (pI p4)]], true, false⟩] [0] = some (diskRight31_out r) := by
  unfold diskRight31 at h
  obtain ⟨⟨r_1, r_2⟩, q1, h⟩ := bnd_some h
  try dsimp only at h
  rcases bif_some h with ⟨q2, h⟩ | ⟨q2, h⟩
  · skip
    obtain rfl := Option.some.inj h
    exact retS_go (k := (k + 2)) (n := 1) Try.func58 Try.ntmps58 rfl (by kernel_rfl) (by kernel_rfl) (Nat.le_of_ble_eq_true rfl) (adv [([], 1, 3, .ret (.tup [(.agg [(pI r_1.kind), (pI r_1.modeF), (pI r_1.owner), (pI r_1.links), (pI r_1.openF), (pI r_1.up), (pS r_1.data), (.list 2 false (r_1.names.map entP))]), (pB r_2)])), ([], 2, 2, .eq (pB true))]) (ex := .ret) (r := ((pB true), [some ⟨3, 24, [[(.list 8 false (p2.map NodeD.c)), (pI p3), (pI p4)]], true, false⟩], [0])) (by kernel_rfl) rfl (by kernel_rfl) (allC (diskGet_ok k (DiskD.mk p2 p3 p4) p1 _ q1) (allC (cg q2) allN)) (by kernel_rfl)
  · skip
    obtain rfl := Option.some.inj h
    exact retS_go (k := (k + 2)) (n := 1) Try.func58 Try.ntmps58 rfl (by kernel_rfl) (by kernel_rfl) (Nat.le_of_ble_eq_true rfl) (adv [([], 1, 3, .ret (.tup [(.agg [(pI r_1.kind), (pI r_1.modeF), (pI r_1.owner), (pI r_1.links), (pI r_1.openF), (pI r_1.up), (pS r_1.data), (.list 2 false (r_1.names.map entP))]), (pB r_2)])), ([], 2, 2, .eq (pB false))]) (ex := .ret) (r := ((pB (p1 == (0 : Int))), [some ⟨3, 24, [[(.list 8 false (p2.map NodeD.c)), (pI p3), (pI p4)]], true, false⟩], [0])) (by kernel_rfl) rfl (by kernel_rfl) (allC (diskGet_ok k (DiskD.mk p2 p3 p4) p1 _ q1) (allC (cg q2) allN)) (by kernel_rfl)


end Go.Proofs.Ytfllhakmjookkaa.Den
