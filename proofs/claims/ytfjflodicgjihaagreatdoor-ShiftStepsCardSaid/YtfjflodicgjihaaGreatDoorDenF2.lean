/- Functions, printed by den.py out of the code: plain ones, and that the code answers as they do. -/
import Derived.Test.YtfjflodicgjihaaGreatDoorDenTy
set_option linter.unusedVariables false
set_option linter.unusedSimpArgs false
namespace Go.Proofs.YtfjflodicgjihaaGreatDoor.Den
open Go Go.RowKit
/- flagstone/flagstoneref01.Texts: its loop at region 4 -/
noncomputable def ref01Texts_L4 : Code := cAt (codeOf Tryz.f29) [true, true, false, true, false, false]
def ref01Texts_R4 (x0 : List (List PV)) (x1 : List (List PV)) (x2 : Int) : St := ⟨envL [(0, (.list 1 false x0)), (1, (.list 1 false x1)), (5, (pI x2))], hsL [] []⟩
theorem ref01Texts_R4_eq {x0 y0 : List (List PV)} {x1 y1 : List (List PV)} {x2 y2 : Int} (h0 : x0 = y0) (h1 : x1 = y1) (h2 : x2 = y2) : ref01Texts_R4 x0 x1 x2 = ref01Texts_R4 y0 y1 y2 := by
  subst h0 h1 h2; rfl
def ref01Texts_S4 (p0 : (List ByteArray)) (p1 : (List ByteArray)) : Int → St
 | v0 => ref01Texts_R4 (p0.map cS) (p1.map cS) v0
def ref01Texts_b4 (p0 : (List ByteArray)) (p1 : (List ByteArray)) : Int → Option (Int ⊕ ((Int × ByteArray × ByteArray) ⊕ Int))
 | v0 =>
 bif (decide (v0 < (p0.length : Int))) then (
 (gt p0 v0).bind fun y_1 =>
 (gt p1 v0).bind fun y_2 =>
 bif (!(seq y_1 y_2)) then (
 some (.inr (.inl (v0, y_1, y_2)))
 ) else (
 some (.inl (w64 (v0 + (1 : Int))))
 )
 ) else (
 some (.inr (.inr (v0)))
 )
set_option maxRecDepth 100000 in
theorem ref01Texts_t4 (k : Nat) (p0 : (List ByteArray)) (p1 : (List ByteArray)) (v0 a1 : Int) (h : ref01Texts_b4 p0 p1 v0 = some (.inl a1)) : ∃ σ, run1 k 29 0 26 ref01Texts_L4 (ref01Texts_S4 p0 p1 v0) = some (.normal, σ) ∧ canonS 0 [0, 1, 5] σ = some (ref01Texts_S4 p0 p1 a1) := by
  unfold ref01Texts_b4 at h
  try dsimp only at h
  rcases bif_some h with ⟨q1, h⟩ | ⟨q1, h⟩
  · obtain ⟨y_1, q2, h⟩ := bnd_some h
    obtain ⟨y_2, q3, h⟩ := bnd_some h
    rcases bif_some h with ⟨q4, h⟩ | ⟨q4, h⟩
    · cases h
    · obtain rfl := Sum.inl.inj (Option.some.inj h)
      exact ⟨_, run_go (k := k) (f := 29) (r0 := 0) (nt := 26) (c := ref01Texts_L4) (σ := (ref01Texts_S4 p0 p1 v0)) (adv [([], 4, 2, .eq (pI (p0.length : Int))), ([], 4, 3, .eq (pB true)), ([], 6, 2, .elem [(pS y_1)]), ([], 6, 6, .elem [(pS y_2)]), ([], 6, 8, .eq (pB false))]) (ex := .normal) (by kernel_rfl) (by kernel_rfl) (allC (len_ob (rfl : (p0.map cS) = p0.map cS)) (allC (cg q1) (allC (gt_list (c := cS) q2) (allC (gt_list (c := cS) q3) (allC (cg q4) allN))))), (by kernel_rfl)⟩
  · cases h
/-- flagstone/flagstoneref01.Texts -/
def ref01Texts (a : (List ByteArray)) (b : (List ByteArray)) : Option Bool :=
 bif ((a.length : Int) != (b.length : Int)) then (
 some false
 ) else (
 (iterN (ref01Texts_b4 a b) LF (0 : Int)).bind fun X_1 => match X_1 with
 | .inl (v_1, y_1, y_2) => (
 some false
 )
 | .inr (v_1) => (
 some true
 )
 )
set_option maxRecDepth 100000 in
theorem ref01Texts_ok (k : Nat) (a : (List ByteArray)) (b : (List ByteArray)) (r : Bool) (h : ref01Texts a b = some r) : run0 (k + 1) 29 [(.list 1 false (a.map cS)), (.list 1 false (b.map cS))] = some (pB r) := by
  unfold ref01Texts at h
  rcases bif_some h with ⟨q1, h⟩ | ⟨q1, h⟩
  · obtain rfl := Option.some.inj h
    exact ret_go (k := k) Tryz.func29 Tryz.ntmps29 (by kernel_rfl) (by kernel_rfl) (lb rfl) (adv [([], 1, 1, .eq (pI (a.length : Int))), ([], 1, 3, .eq (pI (b.length : Int))), ([], 1, 4, .eq (pB true))]) (ex := .ret) (r := (pB false)) (by kernel_rfl) rfl (by kernel_rfl) (allC (len_ob (rfl : (a.map cS) = a.map cS)) (allC (len_ob (rfl : (b.map cS) = b.map cS)) (allC (cg q1) allN))) (by kernel_rfl) allN
  · obtain ⟨X_1, q2, h⟩ := bnd_some h
    obtain ⟨v_1, q3, q4⟩ := loop_iter (f := run1 k 29 0 26 ref01Texts_L4) (ref01Texts_S4 a b) (ref01Texts_b4 a b) (ref01Texts_t4 k a b) LF (0 : Int) _ (stOf (goStop k 29 0 26 (adv [([], 1, 1, .eq (pI (a.length : Int))), ([], 1, 3, .eq (pI (b.length : Int))), ([], 1, 4, .eq (pB false))]) 4 (codeOf Tryz.f29) (argS 29 [(.list 1 false (a.map cS)), (.list 1 false (b.map cS))]))) q2 (by kernel_rfl)
    unfold ref01Texts_b4 at q3
    try dsimp only at q3
    rcases bif_some q3 with ⟨q7, q3⟩ | ⟨q7, q3⟩
    · obtain ⟨y_1, q8, q3⟩ := bnd_some q3
      obtain ⟨y_2, q9, q3⟩ := bnd_some q3
      rcases bif_some q3 with ⟨q10, q3⟩ | ⟨q10, q3⟩
      · cases q3
        try dsimp only at h
        have q5 := run_go (k := k) (f := 29) (r0 := 0) (nt := 26) (c := ref01Texts_L4) (σ := (ref01Texts_S4 a b v_1)) (adv [([], 4, 2, .eq (pI (a.length : Int))), ([], 4, 3, .eq (pB true)), ([], 6, 2, .elem [(pS y_1)]), ([], 6, 6, .elem [(pS y_2)]), ([], 6, 8, .eq (pB true))]) (ex := .ret) (by kernel_rfl) (by kernel_rfl) (allC (len_ob (rfl : (a.map cS) = a.map cS)) (allC (cg q7) (allC (gt_list (c := cS) q8) (allC (gt_list (c := cS) q9) (allC (cg q10) allN)))))
        have q6 := q4 _ _ (by intro e; cases e) q5
        obtain rfl := Option.some.inj h
        exact ret_go (k := k) Tryz.func29 Tryz.ntmps29 (by kernel_rfl) (by kernel_rfl) (lb rfl) (adv [([], 1, 1, .eq (pI (a.length : Int))), ([], 1, 3, .eq (pI (b.length : Int))), ([], 1, 4, .eq (pB false))] [([], 4, .ret, (stOf (go k 29 0 26 (adv [([], 4, 2, .eq (pI (a.length : Int))), ([], 4, 3, .eq (pB true)), ([], 6, 2, .elem [(pS y_1)]), ([], 6, 6, .elem [(pS y_2)]), ([], 6, 8, .eq (pB true))]) ref01Texts_L4 (ref01Texts_S4 a b v_1))))]) (ex := .ret) (r := (pB false)) (by kernel_rfl) rfl (by kernel_rfl) (allC (len_ob (rfl : (a.map cS) = a.map cS)) (allC (len_ob (rfl : (b.map cS) = b.map cS)) (allC (cg q1) (allC q6 allN)))) (by kernel_rfl) allN
      · cases q3
    · cases q3
      try dsimp only at h
      have q5 := run_go (k := k) (f := 29) (r0 := 0) (nt := 26) (c := ref01Texts_L4) (σ := (ref01Texts_S4 a b v_1)) (adv [([], 4, 2, .eq (pI (a.length : Int))), ([], 4, 3, .eq (pB false))]) (ex := (.exit 0)) (by kernel_rfl) (by kernel_rfl) (allC (len_ob (rfl : (a.map cS) = a.map cS)) (allC (cg q7) allN))
      have q6 := q4 _ _ (by intro e; cases e) q5
      obtain rfl := Option.some.inj h
      exact ret_go (k := k) Tryz.func29 Tryz.ntmps29 (by kernel_rfl) (by kernel_rfl) (lb rfl) (adv [([], 1, 1, .eq (pI (a.length : Int))), ([], 1, 3, .eq (pI (b.length : Int))), ([], 1, 4, .eq (pB false))] [([], 4, (.exit 0), (stOf (go k 29 0 26 (adv [([], 4, 2, .eq (pI (a.length : Int))), ([], 4, 3, .eq (pB false))]) ref01Texts_L4 (ref01Texts_S4 a b v_1))))]) (ex := .ret) (r := (pB true)) (by kernel_rfl) rfl (by kernel_rfl) (allC (len_ob (rfl : (a.map cS) = a.map cS)) (allC (len_ob (rfl : (b.map cS) = b.map cS)) (allC (cg q1) (allC q6 allN)))) (by kernel_rfl) allN
/- flagstone/flagstoneref15.frames: its loop at region 4 -/
noncomputable def ref15Frames_L4 : Code := cAt (codeOf Tryz.f30) [true, true, false, true, false, false]
def ref15Frames_R4 (x0 : List (List PV)) (x1 : List (List PV)) (x2 : Int) : St := ⟨envL [(0, (.list 3 false x0)), (1, (.list 3 false x1)), (5, (pI x2))], hsL [] []⟩
theorem ref15Frames_R4_eq {x0 y0 : List (List PV)} {x1 y1 : List (List PV)} {x2 y2 : Int} (h0 : x0 = y0) (h1 : x1 = y1) (h2 : x2 = y2) : ref15Frames_R4 x0 x1 x2 = ref15Frames_R4 y0 y1 y2 := by
  subst h0 h1 h2; rfl
def ref15Frames_S4 (p0 : (List FrameD)) (p1 : (List FrameD)) : Int → St
 | v0 => ref15Frames_R4 (p0.map FrameD.c) (p1.map FrameD.c) v0
def ref15Frames_b4 (p0 : (List FrameD)) (p1 : (List FrameD)) : Int → Option (Int ⊕ ((Int × FrameD × FrameD) ⊕ (Int × FrameD × FrameD × FrameD × FrameD) ⊕ (Int × FrameD × FrameD × FrameD × FrameD × FrameD × FrameD × Bool) ⊕ Int))
 | v0 =>
 bif (decide (v0 < (p0.length : Int))) then (
 (gt p0 v0).bind fun y_1 =>
 (gt p1 v0).bind fun y_2 =>
 bif (y_1.fd != y_2.fd) then (
 some (.inr (.inl (v0, y_1, y_2)))
 ) else (
 (gt p0 v0).bind fun y_3 =>
 (gt p1 v0).bind fun y_4 =>
 bif (!(seq y_3.name y_4.name)) then (
 some (.inr (.inr (.inl (v0, y_1, y_2, y_3, y_4))))
 ) else (
 (gt p0 v0).bind fun y_5 =>
 (gt p1 v0).bind fun y_6 =>
 (ref01Texts y_5.names y_6.names).bind fun r_1 =>
 bif (!r_1) then (
 some (.inr (.inr (.inr (.inl (v0, y_1, y_2, y_3, y_4, y_5, y_6, r_1)))))
 ) else (
 some (.inl (w64 (v0 + (1 : Int))))
 )
 )
 )
 ) else (
 some (.inr (.inr (.inr (.inr (v0)))))
 )
set_option maxRecDepth 100000 in
theorem ref15Frames_t4 (k : Nat) (p0 : (List FrameD)) (p1 : (List FrameD)) (v0 a1 : Int) (h : ref15Frames_b4 p0 p1 v0 = some (.inl a1)) : ∃ σ, run1 (k + 1) 30 0 55 ref15Frames_L4 (ref15Frames_S4 p0 p1 v0) = some (.normal, σ) ∧ canonS 0 [0, 1, 5] σ = some (ref15Frames_S4 p0 p1 a1) := by
  unfold ref15Frames_b4 at h
  try dsimp only at h
  rcases bif_some h with ⟨q1, h⟩ | ⟨q1, h⟩
  · obtain ⟨y_1, q2, h⟩ := bnd_some h
    obtain ⟨y_2, q3, h⟩ := bnd_some h
    rcases bif_some h with ⟨q4, h⟩ | ⟨q4, h⟩
    · cases h
    · obtain ⟨y_3, q5, h⟩ := bnd_some h
      obtain ⟨y_4, q6, h⟩ := bnd_some h
      rcases bif_some h with ⟨q7, h⟩ | ⟨q7, h⟩
      · cases h
      · obtain ⟨y_5, q8, h⟩ := bnd_some h
        obtain ⟨y_6, q9, h⟩ := bnd_some h
        obtain ⟨r_1, q10, h⟩ := bnd_some h
        rcases bif_some h with ⟨q11, h⟩ | ⟨q11, h⟩
        · cases h
        · obtain rfl := Sum.inl.inj (Option.some.inj h)
          exact ⟨_, run_go (k := (k + 1)) (f := 30) (r0 := 0) (nt := 55) (c := ref15Frames_L4) (σ := (ref15Frames_S4 p0 p1 v0)) (adv [([], 4, 2, .eq (pI (p0.length : Int))), ([], 4, 3, .eq (pB true)), ([], 6, 2, .elem [(pI y_1.fd), (pS y_1.name), (.list 1 false (y_1.names.map cS))]), ([], 6, 7, .elem [(pI y_2.fd), (pS y_2.name), (.list 1 false (y_2.names.map cS))]), ([], 6, 11, .eq (pB false)), ([], 6, 14, .elem [(pI y_3.fd), (pS y_3.name), (.list 1 false (y_3.names.map cS))]), ([], 6, 19, .elem [(pI y_4.fd), (pS y_4.name), (.list 1 false (y_4.names.map cS))]), ([], 6, 24, .eq (pB false)), ([], 6, 27, .elem [(pI y_5.fd), (pS y_5.name), (.list 1 false (y_5.names.map cS))]), ([], 6, 32, .elem [(pI y_6.fd), (pS y_6.name), (.list 1 false (y_6.names.map cS))]), ([], 6, 35, .ret (pB r_1)), ([], 6, 37, .eq (pB false))]) (ex := .normal) (by kernel_rfl) (by kernel_rfl) (allC (len_ob (rfl : (p0.map FrameD.c) = p0.map FrameD.c)) (allC (cg q1) (allC (gt_list (c := FrameD.c) q2) (allC (gt_list (c := FrameD.c) q3) (allC (cg q4) (allC (gt_list (c := FrameD.c) q5) (allC (gt_list (c := FrameD.c) q6) (allC (cg q7) (allC (gt_list (c := FrameD.c) q8) (allC (gt_list (c := FrameD.c) q9) (allC (ref01Texts_ok k y_5.names y_6.names _ q10) (allC (cg q11) allN)))))))))))), (by kernel_rfl)⟩
  · cases h
/-- flagstone/flagstoneref15.frames -/
def ref15Frames (a : (List FrameD)) (b : (List FrameD)) : Option Bool :=
 bif ((a.length : Int) != (b.length : Int)) then (
 some false
 ) else (
 (iterN (ref15Frames_b4 a b) LF (0 : Int)).bind fun X_1 => match X_1 with
 | .inl (v_1, y_1, y_2) => (
 some false
 )
 | .inr (.inl (v_1, y_1, y_2, y_3, y_4)) => (
 some false
 )
 | .inr (.inr (.inl (v_1, y_1, y_2, y_3, y_4, y_5, y_6, r_1))) => (
 some false
 )
 | .inr (.inr (.inr (v_1))) => (
 some true
 )
 )
set_option maxRecDepth 100000 in
theorem ref15Frames_ok (k : Nat) (a : (List FrameD)) (b : (List FrameD)) (r : Bool) (h : ref15Frames a b = some r) : run0 (k + 2) 30 [(.list 3 false (a.map FrameD.c)), (.list 3 false (b.map FrameD.c))] = some (pB r) := by
  unfold ref15Frames at h
  rcases bif_some h with ⟨q1, h⟩ | ⟨q1, h⟩
  · obtain rfl := Option.some.inj h
    exact ret_go (k := (k + 1)) Tryz.func30 Tryz.ntmps30 (by kernel_rfl) (by kernel_rfl) (lb rfl) (adv [([], 1, 1, .eq (pI (a.length : Int))), ([], 1, 3, .eq (pI (b.length : Int))), ([], 1, 4, .eq (pB true))]) (ex := .ret) (r := (pB false)) (by kernel_rfl) rfl (by kernel_rfl) (allC (len_ob (rfl : (a.map FrameD.c) = a.map FrameD.c)) (allC (len_ob (rfl : (b.map FrameD.c) = b.map FrameD.c)) (allC (cg q1) allN))) (by kernel_rfl) allN
  · obtain ⟨X_1, q2, h⟩ := bnd_some h
    obtain ⟨v_1, q3, q4⟩ := loop_iter (f := run1 (k + 1) 30 0 55 ref15Frames_L4) (ref15Frames_S4 a b) (ref15Frames_b4 a b) (ref15Frames_t4 k a b) LF (0 : Int) _ (stOf (goStop (k + 1) 30 0 55 (adv [([], 1, 1, .eq (pI (a.length : Int))), ([], 1, 3, .eq (pI (b.length : Int))), ([], 1, 4, .eq (pB false))]) 4 (codeOf Tryz.f30) (argS 30 [(.list 3 false (a.map FrameD.c)), (.list 3 false (b.map FrameD.c))]))) q2 (by kernel_rfl)
    unfold ref15Frames_b4 at q3
    try dsimp only at q3
    rcases bif_some q3 with ⟨q7, q3⟩ | ⟨q7, q3⟩
    · obtain ⟨y_1, q8, q3⟩ := bnd_some q3
      obtain ⟨y_2, q9, q3⟩ := bnd_some q3
      rcases bif_some q3 with ⟨q10, q3⟩ | ⟨q10, q3⟩
      · cases q3
        try dsimp only at h
        have q5 := run_go (k := (k + 1)) (f := 30) (r0 := 0) (nt := 55) (c := ref15Frames_L4) (σ := (ref15Frames_S4 a b v_1)) (adv [([], 4, 2, .eq (pI (a.length : Int))), ([], 4, 3, .eq (pB true)), ([], 6, 2, .elem [(pI y_1.fd), (pS y_1.name), (.list 1 false (y_1.names.map cS))]), ([], 6, 7, .elem [(pI y_2.fd), (pS y_2.name), (.list 1 false (y_2.names.map cS))]), ([], 6, 11, .eq (pB true))]) (ex := .ret) (by kernel_rfl) (by kernel_rfl) (allC (len_ob (rfl : (a.map FrameD.c) = a.map FrameD.c)) (allC (cg q7) (allC (gt_list (c := FrameD.c) q8) (allC (gt_list (c := FrameD.c) q9) (allC (cg q10) allN)))))
        have q6 := q4 _ _ (by intro e; cases e) q5
        obtain rfl := Option.some.inj h
        exact ret_go (k := (k + 1)) Tryz.func30 Tryz.ntmps30 (by kernel_rfl) (by kernel_rfl) (lb rfl) (adv [([], 1, 1, .eq (pI (a.length : Int))), ([], 1, 3, .eq (pI (b.length : Int))), ([], 1, 4, .eq (pB false))] [([], 4, .ret, (stOf (go (k + 1) 30 0 55 (adv [([], 4, 2, .eq (pI (a.length : Int))), ([], 4, 3, .eq (pB true)), ([], 6, 2, .elem [(pI y_1.fd), (pS y_1.name), (.list 1 false (y_1.names.map cS))]), ([], 6, 7, .elem [(pI y_2.fd), (pS y_2.name), (.list 1 false (y_2.names.map cS))]), ([], 6, 11, .eq (pB true))]) ref15Frames_L4 (ref15Frames_S4 a b v_1))))]) (ex := .ret) (r := (pB false)) (by kernel_rfl) rfl (by kernel_rfl) (allC (len_ob (rfl : (a.map FrameD.c) = a.map FrameD.c)) (allC (len_ob (rfl : (b.map FrameD.c) = b.map FrameD.c)) (allC (cg q1) (allC q6 allN)))) (by kernel_rfl) allN
      · obtain ⟨y_3, q11, q3⟩ := bnd_some q3
        obtain ⟨y_4, q12, q3⟩ := bnd_some q3
        rcases bif_some q3 with ⟨q13, q3⟩ | ⟨q13, q3⟩
        · cases q3
          try dsimp only at h
          have q5 := run_go (k := (k + 1)) (f := 30) (r0 := 0) (nt := 55) (c := ref15Frames_L4) (σ := (ref15Frames_S4 a b v_1)) (adv [([], 4, 2, .eq (pI (a.length : Int))), ([], 4, 3, .eq (pB true)), ([], 6, 2, .elem [(pI y_1.fd), (pS y_1.name), (.list 1 false (y_1.names.map cS))]), ([], 6, 7, .elem [(pI y_2.fd), (pS y_2.name), (.list 1 false (y_2.names.map cS))]), ([], 6, 11, .eq (pB false)), ([], 6, 14, .elem [(pI y_3.fd), (pS y_3.name), (.list 1 false (y_3.names.map cS))]), ([], 6, 19, .elem [(pI y_4.fd), (pS y_4.name), (.list 1 false (y_4.names.map cS))]), ([], 6, 24, .eq (pB true))]) (ex := .ret) (by kernel_rfl) (by kernel_rfl) (allC (len_ob (rfl : (a.map FrameD.c) = a.map FrameD.c)) (allC (cg q7) (allC (gt_list (c := FrameD.c) q8) (allC (gt_list (c := FrameD.c) q9) (allC (cg q10) (allC (gt_list (c := FrameD.c) q11) (allC (gt_list (c := FrameD.c) q12) (allC (cg q13) allN))))))))
          have q6 := q4 _ _ (by intro e; cases e) q5
          obtain rfl := Option.some.inj h
          exact ret_go (k := (k + 1)) Tryz.func30 Tryz.ntmps30 (by kernel_rfl) (by kernel_rfl) (lb rfl) (adv [([], 1, 1, .eq (pI (a.length : Int))), ([], 1, 3, .eq (pI (b.length : Int))), ([], 1, 4, .eq (pB false))] [([], 4, .ret, (stOf (go (k + 1) 30 0 55 (adv [([], 4, 2, .eq (pI (a.length : Int))), ([], 4, 3, .eq (pB true)), ([], 6, 2, .elem [(pI y_1.fd), (pS y_1.name), (.list 1 false (y_1.names.map cS))]), ([], 6, 7, .elem [(pI y_2.fd), (pS y_2.name), (.list 1 false (y_2.names.map cS))]), ([], 6, 11, .eq (pB false)), ([], 6, 14, .elem [(pI y_3.fd), (pS y_3.name), (.list 1 false (y_3.names.map cS))]), ([], 6, 19, .elem [(pI y_4.fd), (pS y_4.name), (.list 1 false (y_4.names.map cS))]), ([], 6, 24, .eq (pB true))]) ref15Frames_L4 (ref15Frames_S4 a b v_1))))]) (ex := .ret) (r := (pB false)) (by kernel_rfl) rfl (by kernel_rfl) (allC (len_ob (rfl : (a.map FrameD.c) = a.map FrameD.c)) (allC (len_ob (rfl : (b.map FrameD.c) = b.map FrameD.c)) (allC (cg q1) (allC q6 allN)))) (by kernel_rfl) allN
        · obtain ⟨y_5, q14, q3⟩ := bnd_some q3
          obtain ⟨y_6, q15, q3⟩ := bnd_some q3
          obtain ⟨r_1, q16, q3⟩ := bnd_some q3
          rcases bif_some q3 with ⟨q17, q3⟩ | ⟨q17, q3⟩
          · cases q3
            try dsimp only at h
            have q5 := run_go (k := (k + 1)) (f := 30) (r0 := 0) (nt := 55) (c := ref15Frames_L4) (σ := (ref15Frames_S4 a b v_1)) (adv [([], 4, 2, .eq (pI (a.length : Int))), ([], 4, 3, .eq (pB true)), ([], 6, 2, .elem [(pI y_1.fd), (pS y_1.name), (.list 1 false (y_1.names.map cS))]), ([], 6, 7, .elem [(pI y_2.fd), (pS y_2.name), (.list 1 false (y_2.names.map cS))]), ([], 6, 11, .eq (pB false)), ([], 6, 14, .elem [(pI y_3.fd), (pS y_3.name), (.list 1 false (y_3.names.map cS))]), ([], 6, 19, .elem [(pI y_4.fd), (pS y_4.name), (.list 1 false (y_4.names.map cS))]), ([], 6, 24, .eq (pB false)), ([], 6, 27, .elem [(pI y_5.fd), (pS y_5.name), (.list 1 false (y_5.names.map cS))]), ([], 6, 32, .elem [(pI y_6.fd), (pS y_6.name), (.list 1 false (y_6.names.map cS))]), ([], 6, 35, .ret (pB r_1)), ([], 6, 37, .eq (pB true))]) (ex := .ret) (by kernel_rfl) (by kernel_rfl) (allC (len_ob (rfl : (a.map FrameD.c) = a.map FrameD.c)) (allC (cg q7) (allC (gt_list (c := FrameD.c) q8) (allC (gt_list (c := FrameD.c) q9) (allC (cg q10) (allC (gt_list (c := FrameD.c) q11) (allC (gt_list (c := FrameD.c) q12) (allC (cg q13) (allC (gt_list (c := FrameD.c) q14) (allC (gt_list (c := FrameD.c) q15) (allC (ref01Texts_ok k y_5.names y_6.names _ q16) (allC (cg q17) allN))))))))))))
            have q6 := q4 _ _ (by intro e; cases e) q5
            obtain rfl := Option.some.inj h
            exact ret_go (k := (k + 1)) Tryz.func30 Tryz.ntmps30 (by kernel_rfl) (by kernel_rfl) (lb rfl) (adv [([], 1, 1, .eq (pI (a.length : Int))), ([], 1, 3, .eq (pI (b.length : Int))), ([], 1, 4, .eq (pB false))] [([], 4, .ret, (stOf (go (k + 1) 30 0 55 (adv [([], 4, 2, .eq (pI (a.length : Int))), ([], 4, 3, .eq (pB true)), ([], 6, 2, .elem [(pI y_1.fd), (pS y_1.name), (.list 1 false (y_1.names.map cS))]), ([], 6, 7, .elem [(pI y_2.fd), (pS y_2.name), (.list 1 false (y_2.names.map cS))]), ([], 6, 11, .eq (pB false)), ([], 6, 14, .elem [(pI y_3.fd), (pS y_3.name), (.list 1 false (y_3.names.map cS))]), ([], 6, 19, .elem [(pI y_4.fd), (pS y_4.name), (.list 1 false (y_4.names.map cS))]), ([], 6, 24, .eq (pB false)), ([], 6, 27, .elem [(pI y_5.fd), (pS y_5.name), (.list 1 false (y_5.names.map cS))]), ([], 6, 32, .elem [(pI y_6.fd), (pS y_6.name), (.list 1 false (y_6.names.map cS))]), ([], 6, 35, .ret (pB r_1)), ([], 6, 37, .eq (pB true))]) ref15Frames_L4 (ref15Frames_S4 a b v_1))))]) (ex := .ret) (r := (pB false)) (by kernel_rfl) rfl (by kernel_rfl) (allC (len_ob (rfl : (a.map FrameD.c) = a.map FrameD.c)) (allC (len_ob (rfl : (b.map FrameD.c) = b.map FrameD.c)) (allC (cg q1) (allC q6 allN)))) (by kernel_rfl) allN
          · cases q3
    · cases q3
      try dsimp only at h
      have q5 := run_go (k := (k + 1)) (f := 30) (r0 := 0) (nt := 55) (c := ref15Frames_L4) (σ := (ref15Frames_S4 a b v_1)) (adv [([], 4, 2, .eq (pI (a.length : Int))), ([], 4, 3, .eq (pB false))]) (ex := (.exit 0)) (by kernel_rfl) (by kernel_rfl) (allC (len_ob (rfl : (a.map FrameD.c) = a.map FrameD.c)) (allC (cg q7) allN))
      have q6 := q4 _ _ (by intro e; cases e) q5
      obtain rfl := Option.some.inj h
      exact ret_go (k := (k + 1)) Tryz.func30 Tryz.ntmps30 (by kernel_rfl) (by kernel_rfl) (lb rfl) (adv [([], 1, 1, .eq (pI (a.length : Int))), ([], 1, 3, .eq (pI (b.length : Int))), ([], 1, 4, .eq (pB false))] [([], 4, (.exit 0), (stOf (go (k + 1) 30 0 55 (adv [([], 4, 2, .eq (pI (a.length : Int))), ([], 4, 3, .eq (pB false))]) ref15Frames_L4 (ref15Frames_S4 a b v_1))))]) (ex := .ret) (r := (pB true)) (by kernel_rfl) rfl (by kernel_rfl) (allC (len_ob (rfl : (a.map FrameD.c) = a.map FrameD.c)) (allC (len_ob (rfl : (b.map FrameD.c) = b.map FrameD.c)) (allC (cg q1) (allC q6 allN)))) (by kernel_rfl) allN
/- flagstone/flagstoneref15.ints: its loop at region 4 -/
noncomputable def ref15Ints_L4 : Code := cAt (codeOf Tryz.f31) [true, true, false, true, false, false]
def ref15Ints_R4 (x0 : List (List PV)) (x1 : List (List PV)) (x2 : Int) : St := ⟨envL [(0, (.list 1 false x0)), (1, (.list 1 false x1)), (5, (pI x2))], hsL [] []⟩
theorem ref15Ints_R4_eq {x0 y0 : List (List PV)} {x1 y1 : List (List PV)} {x2 y2 : Int} (h0 : x0 = y0) (h1 : x1 = y1) (h2 : x2 = y2) : ref15Ints_R4 x0 x1 x2 = ref15Ints_R4 y0 y1 y2 := by
  subst h0 h1 h2; rfl
def ref15Ints_S4 (p0 : (List Int)) (p1 : (List Int)) : Int → St
 | v0 => ref15Ints_R4 (p0.map cI) (p1.map cI) v0
def ref15Ints_b4 (p0 : (List Int)) (p1 : (List Int)) : Int → Option (Int ⊕ ((Int × Int × Int) ⊕ Int))
 | v0 =>
 bif (decide (v0 < (p0.length : Int))) then (
 (gt p0 v0).bind fun y_1 =>
 (gt p1 v0).bind fun y_2 =>
 bif (y_1 != y_2) then (
 some (.inr (.inl (v0, y_1, y_2)))
 ) else (
 some (.inl (w64 (v0 + (1 : Int))))
 )
 ) else (
 some (.inr (.inr (v0)))
 )
set_option maxRecDepth 100000 in
theorem ref15Ints_t4 (k : Nat) (p0 : (List Int)) (p1 : (List Int)) (v0 a1 : Int) (h : ref15Ints_b4 p0 p1 v0 = some (.inl a1)) : ∃ σ, run1 k 31 0 26 ref15Ints_L4 (ref15Ints_S4 p0 p1 v0) = some (.normal, σ) ∧ canonS 0 [0, 1, 5] σ = some (ref15Ints_S4 p0 p1 a1) := by
  unfold ref15Ints_b4 at h
  try dsimp only at h
  rcases bif_some h with ⟨q1, h⟩ | ⟨q1, h⟩
  · obtain ⟨y_1, q2, h⟩ := bnd_some h
    obtain ⟨y_2, q3, h⟩ := bnd_some h
    rcases bif_some h with ⟨q4, h⟩ | ⟨q4, h⟩
    · cases h
    · obtain rfl := Sum.inl.inj (Option.some.inj h)
      exact ⟨_, run_go (k := k) (f := 31) (r0 := 0) (nt := 26) (c := ref15Ints_L4) (σ := (ref15Ints_S4 p0 p1 v0)) (adv [([], 4, 2, .eq (pI (p0.length : Int))), ([], 4, 3, .eq (pB true)), ([], 6, 2, .elem [(pI y_1)]), ([], 6, 6, .elem [(pI y_2)]), ([], 6, 8, .eq (pB false))]) (ex := .normal) (by kernel_rfl) (by kernel_rfl) (allC (len_ob (rfl : (p0.map cI) = p0.map cI)) (allC (cg q1) (allC (gt_list (c := cI) q2) (allC (gt_list (c := cI) q3) (allC (cg q4) allN))))), (by kernel_rfl)⟩
  · cases h
/-- flagstone/flagstoneref15.ints -/
def ref15Ints (a : (List Int)) (b : (List Int)) : Option Bool :=
 bif ((a.length : Int) != (b.length : Int)) then (
 some false
 ) else (
 (iterN (ref15Ints_b4 a b) LF (0 : Int)).bind fun X_1 => match X_1 with
 | .inl (v_1, y_1, y_2) => (
 some false
 )
 | .inr (v_1) => (
 some true
 )
 )
set_option maxRecDepth 100000 in
theorem ref15Ints_ok (k : Nat) (a : (List Int)) (b : (List Int)) (r : Bool) (h : ref15Ints a b = some r) : run0 (k + 1) 31 [(.list 1 false (a.map cI)), (.list 1 false (b.map cI))] = some (pB r) := by
  unfold ref15Ints at h
  rcases bif_some h with ⟨q1, h⟩ | ⟨q1, h⟩
  · obtain rfl := Option.some.inj h
    exact ret_go (k := k) Tryz.func31 Tryz.ntmps31 (by kernel_rfl) (by kernel_rfl) (lb rfl) (adv [([], 1, 1, .eq (pI (a.length : Int))), ([], 1, 3, .eq (pI (b.length : Int))), ([], 1, 4, .eq (pB true))]) (ex := .ret) (r := (pB false)) (by kernel_rfl) rfl (by kernel_rfl) (allC (len_ob (rfl : (a.map cI) = a.map cI)) (allC (len_ob (rfl : (b.map cI) = b.map cI)) (allC (cg q1) allN))) (by kernel_rfl) allN
  · obtain ⟨X_1, q2, h⟩ := bnd_some h
    obtain ⟨v_1, q3, q4⟩ := loop_iter (f := run1 k 31 0 26 ref15Ints_L4) (ref15Ints_S4 a b) (ref15Ints_b4 a b) (ref15Ints_t4 k a b) LF (0 : Int) _ (stOf (goStop k 31 0 26 (adv [([], 1, 1, .eq (pI (a.length : Int))), ([], 1, 3, .eq (pI (b.length : Int))), ([], 1, 4, .eq (pB false))]) 4 (codeOf Tryz.f31) (argS 31 [(.list 1 false (a.map cI)), (.list 1 false (b.map cI))]))) q2 (by kernel_rfl)
    unfold ref15Ints_b4 at q3
    try dsimp only at q3
    rcases bif_some q3 with ⟨q7, q3⟩ | ⟨q7, q3⟩
    · obtain ⟨y_1, q8, q3⟩ := bnd_some q3
      obtain ⟨y_2, q9, q3⟩ := bnd_some q3
      rcases bif_some q3 with ⟨q10, q3⟩ | ⟨q10, q3⟩
      · cases q3
        try dsimp only at h
        have q5 := run_go (k := k) (f := 31) (r0 := 0) (nt := 26) (c := ref15Ints_L4) (σ := (ref15Ints_S4 a b v_1)) (adv [([], 4, 2, .eq (pI (a.length : Int))), ([], 4, 3, .eq (pB true)), ([], 6, 2, .elem [(pI y_1)]), ([], 6, 6, .elem [(pI y_2)]), ([], 6, 8, .eq (pB true))]) (ex := .ret) (by kernel_rfl) (by kernel_rfl) (allC (len_ob (rfl : (a.map cI) = a.map cI)) (allC (cg q7) (allC (gt_list (c := cI) q8) (allC (gt_list (c := cI) q9) (allC (cg q10) allN)))))
        have q6 := q4 _ _ (by intro e; cases e) q5
        obtain rfl := Option.some.inj h
        exact ret_go (k := k) Tryz.func31 Tryz.ntmps31 (by kernel_rfl) (by kernel_rfl) (lb rfl) (adv [([], 1, 1, .eq (pI (a.length : Int))), ([], 1, 3, .eq (pI (b.length : Int))), ([], 1, 4, .eq (pB false))] [([], 4, .ret, (stOf (go k 31 0 26 (adv [([], 4, 2, .eq (pI (a.length : Int))), ([], 4, 3, .eq (pB true)), ([], 6, 2, .elem [(pI y_1)]), ([], 6, 6, .elem [(pI y_2)]), ([], 6, 8, .eq (pB true))]) ref15Ints_L4 (ref15Ints_S4 a b v_1))))]) (ex := .ret) (r := (pB false)) (by kernel_rfl) rfl (by kernel_rfl) (allC (len_ob (rfl : (a.map cI) = a.map cI)) (allC (len_ob (rfl : (b.map cI) = b.map cI)) (allC (cg q1) (allC q6 allN)))) (by kernel_rfl) allN
      · cases q3
    · cases q3
      try dsimp only at h
      have q5 := run_go (k := k) (f := 31) (r0 := 0) (nt := 26) (c := ref15Ints_L4) (σ := (ref15Ints_S4 a b v_1)) (adv [([], 4, 2, .eq (pI (a.length : Int))), ([], 4, 3, .eq (pB false))]) (ex := (.exit 0)) (by kernel_rfl) (by kernel_rfl) (allC (len_ob (rfl : (a.map cI) = a.map cI)) (allC (cg q7) allN))
      have q6 := q4 _ _ (by intro e; cases e) q5
      obtain rfl := Option.some.inj h
      exact ret_go (k := k) Tryz.func31 Tryz.ntmps31 (by kernel_rfl) (by kernel_rfl) (lb rfl) (adv [([], 1, 1, .eq (pI (a.length : Int))), ([], 1, 3, .eq (pI (b.length : Int))), ([], 1, 4, .eq (pB false))] [([], 4, (.exit 0), (stOf (go k 31 0 26 (adv [([], 4, 2, .eq (pI (a.length : Int))), ([], 4, 3, .eq (pB false))]) ref15Ints_L4 (ref15Ints_S4 a b v_1))))]) (ex := .ret) (r := (pB true)) (by kernel_rfl) rfl (by kernel_rfl) (allC (len_ob (rfl : (a.map cI) = a.map cI)) (allC (len_ob (rfl : (b.map cI) = b.map cI)) (allC (cg q1) (allC q6 allN)))) (by kernel_rfl) allN
end Go.Proofs.YtfjflodicgjihaaGreatDoor.Den
namespace Go.Proofs.YtfjflodicgjihaaGreatDoor.Den
open Go Go.RowKit
/-- flagstone/flagstoneref15.Same -/
def ref15Same (a : JobD) (b : JobD) : Option Bool :=
 (ref01Texts a.names b.names).bind fun r_1 =>
 bif (!r_1) then (
 some false
 ) else (
 (ref15Frames a.stack b.stack).bind fun r_2 =>
 bif (!r_2) then (
 some false
 ) else (
 (ref15Ints a.draws b.draws).bind fun r_3 =>
 bif (!r_3) then (
 some false
 ) else (
 bif (a.kind == b.kind) then (
 bif (a.p == b.p) then (
 bif (a.phase == b.phase) then (
 bif (a.fd == b.fd) then (
 bif (a.nF == b.nF) then (
 bif (a.modeF == b.modeF) then (
 bif (a.tries == b.tries) then (
 bif (a.atF == b.atF) then (
 bif (a.flags == b.flags) then (
 bif (seq a.path b.path) then (
 bif (seq a.path2 b.path2) then (
 bif (seq a.text b.text) then (
 bif (a.done == b.done) then (
 bif (a.exit == b.exit) then (
 bif (seq a.out b.out) then (
 some (a.e == b.e)
 ) else (
 some false
 )
 ) else (
 some false
 )
 ) else (
 some false
 )
 ) else (
 some false
 )
 ) else (
 some false
 )
 ) else (
 some false
 )
 ) else (
 some false
 )
 ) else (
 some false
 )
 ) else (
 some false
 )
 ) else (
 some false
 )
 ) else (
 some false
 )
 ) else (
 some false
 )
 ) else (
 some false
 )
 ) else (
 some false
 )
 ) else (
 some false
 )
 )
 )
 )
set_option maxRecDepth 100000 in
theorem ref15Same_ok (k : Nat) (a : JobD) (b : JobD) (r : Bool) (h : ref15Same a b = some r) : run0 (k + 3) 8 [(JobD.a a), (JobD.a b)] = some (pB r) := by
  unfold ref15Same at h
  obtain ⟨r_1, q1, h⟩ := bnd_some h
  rcases bif_some h with ⟨q2, h⟩ | ⟨q2, h⟩
  · obtain rfl := Option.some.inj h
    exact ret_go (k := (k + 2)) Tryz.func8 Tryz.ntmps8 (by kernel_rfl) (by kernel_rfl) (lb rfl) (adv [([], 1, 4, .ret (pB r_1)), ([], 1, 6, .eq (pB true))]) (ex := .ret) (r := (pB false)) (by kernel_rfl) rfl (by kernel_rfl) (allC (ref01Texts_ok (k + 1) a.names b.names _ q1) (allC (cg q2) allN)) (by kernel_rfl) allN
  · obtain ⟨r_2, q3, h⟩ := bnd_some h
    rcases bif_some h with ⟨q4, h⟩ | ⟨q4, h⟩
    · obtain rfl := Option.some.inj h
      exact ret_go (k := (k + 2)) Tryz.func8 Tryz.ntmps8 (by kernel_rfl) (by kernel_rfl) (lb rfl) (adv [([], 1, 4, .ret (pB r_1)), ([], 1, 6, .eq (pB false)), ([], 1, 11, .ret (pB r_2)), ([], 1, 14, .eq (pB true))]) (ex := .ret) (r := (pB false)) (by kernel_rfl) rfl (by kernel_rfl) (allC (ref01Texts_ok (k + 1) a.names b.names _ q1) (allC (cg q2) (allC (ref15Frames_ok k a.stack b.stack _ q3) (allC (cg q4) allN)))) (by kernel_rfl) allN
    · obtain ⟨r_3, q5, h⟩ := bnd_some h
      rcases bif_some h with ⟨q6, h⟩ | ⟨q6, h⟩
      · obtain rfl := Option.some.inj h
        exact ret_go (k := (k + 2)) Tryz.func8 Tryz.ntmps8 (by kernel_rfl) (by kernel_rfl) (lb rfl) (adv [([], 1, 4, .ret (pB r_1)), ([], 1, 6, .eq (pB false)), ([], 1, 11, .ret (pB r_2)), ([], 1, 14, .eq (pB false)), ([], 1, 19, .ret (pB r_3)), ([], 1, 21, .eq (pB true))]) (ex := .ret) (r := (pB false)) (by kernel_rfl) rfl (by kernel_rfl) (allC (ref01Texts_ok (k + 1) a.names b.names _ q1) (allC (cg q2) (allC (ref15Frames_ok k a.stack b.stack _ q3) (allC (cg q4) (allC (ref15Ints_ok (k + 1) a.draws b.draws _ q5) (allC (cg q6) allN)))))) (by kernel_rfl) allN
      · rcases bif_some h with ⟨q7, h⟩ | ⟨q7, h⟩
        · rcases bif_some h with ⟨q8, h⟩ | ⟨q8, h⟩
          · rcases bif_some h with ⟨q9, h⟩ | ⟨q9, h⟩
            · rcases bif_some h with ⟨q10, h⟩ | ⟨q10, h⟩
              · rcases bif_some h with ⟨q11, h⟩ | ⟨q11, h⟩
                · rcases bif_some h with ⟨q12, h⟩ | ⟨q12, h⟩
                  · rcases bif_some h with ⟨q13, h⟩ | ⟨q13, h⟩
                    · rcases bif_some h with ⟨q14, h⟩ | ⟨q14, h⟩
                      · rcases bif_some h with ⟨q15, h⟩ | ⟨q15, h⟩
                        · rcases bif_some h with ⟨q16, h⟩ | ⟨q16, h⟩
                          · rcases bif_some h with ⟨q17, h⟩ | ⟨q17, h⟩
                            · rcases bif_some h with ⟨q18, h⟩ | ⟨q18, h⟩
                              · rcases bif_some h with ⟨q19, h⟩ | ⟨q19, h⟩
                                · rcases bif_some h with ⟨q20, h⟩ | ⟨q20, h⟩
                                  · rcases bif_some h with ⟨q21, h⟩ | ⟨q21, h⟩
                                    · obtain rfl := Option.some.inj h
                                      exact ret_go (k := (k + 2)) Tryz.func8 Tryz.ntmps8 (by kernel_rfl) (by kernel_rfl) (lb rfl) (adv [([], 1, 4, .ret (pB r_1)), ([], 1, 6, .eq (pB false)), ([], 1, 11, .ret (pB r_2)), ([], 1, 14, .eq (pB false)), ([], 1, 19, .ret (pB r_3)), ([], 1, 21, .eq (pB false)), ([], 3, 5, .eq (pB true)), ([], 3, 12, .eq (pB true)), ([], 3, 19, .eq (pB true)), ([], 3, 26, .eq (pB true)), ([], 3, 33, .eq (pB true)), ([], 3, 40, .eq (pB true)), ([], 3, 47, .eq (pB true)), ([], 3, 54, .eq (pB true)), ([], 4, 1, .eq (pB true)), ([], 4, 8, .eq (pB true)), ([], 4, 15, .eq (pB true)), ([], 4, 22, .eq (pB true)), ([], 4, 29, .eq (pB true)), ([], 4, 36, .eq (pB true)), ([], 4, 43, .eq (pB true))]) (ex := .ret) (r := (pB (a.e == b.e))) (by kernel_rfl) rfl (by kernel_rfl) (allC (ref01Texts_ok (k + 1) a.names b.names _ q1) (allC (cg q2) (allC (ref15Frames_ok k a.stack b.stack _ q3) (allC (cg q4) (allC (ref15Ints_ok (k + 1) a.draws b.draws _ q5) (allC (cg q6) (allC (cg q7) (allC (cg q8) (allC (cg q9) (allC (cg q10) (allC (cg q11) (allC (cg q12) (allC (cg q13) (allC (cg q14) (allC (cg q15) (allC (cg q16) (allC (cg q17) (allC (cg q18) (allC (cg q19) (allC (cg q20) (allC (cg q21) allN))))))))))))))))))))) (by kernel_rfl) allN
                                    · obtain rfl := Option.some.inj h
                                      exact ret_go (k := (k + 2)) Tryz.func8 Tryz.ntmps8 (by kernel_rfl) (by kernel_rfl) (lb rfl) (adv [([], 1, 4, .ret (pB r_1)), ([], 1, 6, .eq (pB false)), ([], 1, 11, .ret (pB r_2)), ([], 1, 14, .eq (pB false)), ([], 1, 19, .ret (pB r_3)), ([], 1, 21, .eq (pB false)), ([], 3, 5, .eq (pB true)), ([], 3, 12, .eq (pB true)), ([], 3, 19, .eq (pB true)), ([], 3, 26, .eq (pB true)), ([], 3, 33, .eq (pB true)), ([], 3, 40, .eq (pB true)), ([], 3, 47, .eq (pB true)), ([], 3, 54, .eq (pB true)), ([], 4, 1, .eq (pB true)), ([], 4, 8, .eq (pB true)), ([], 4, 15, .eq (pB true)), ([], 4, 22, .eq (pB true)), ([], 4, 29, .eq (pB true)), ([], 4, 36, .eq (pB true)), ([], 4, 43, .eq (pB false))]) (ex := .ret) (r := (pB false)) (by kernel_rfl) rfl (by kernel_rfl) (allC (ref01Texts_ok (k + 1) a.names b.names _ q1) (allC (cg q2) (allC (ref15Frames_ok k a.stack b.stack _ q3) (allC (cg q4) (allC (ref15Ints_ok (k + 1) a.draws b.draws _ q5) (allC (cg q6) (allC (cg q7) (allC (cg q8) (allC (cg q9) (allC (cg q10) (allC (cg q11) (allC (cg q12) (allC (cg q13) (allC (cg q14) (allC (cg q15) (allC (cg q16) (allC (cg q17) (allC (cg q18) (allC (cg q19) (allC (cg q20) (allC (cg q21) allN))))))))))))))))))))) (by kernel_rfl) allN
                                  · obtain rfl := Option.some.inj h
                                    exact ret_go (k := (k + 2)) Tryz.func8 Tryz.ntmps8 (by kernel_rfl) (by kernel_rfl) (lb rfl) (adv [([], 1, 4, .ret (pB r_1)), ([], 1, 6, .eq (pB false)), ([], 1, 11, .ret (pB r_2)), ([], 1, 14, .eq (pB false)), ([], 1, 19, .ret (pB r_3)), ([], 1, 21, .eq (pB false)), ([], 3, 5, .eq (pB true)), ([], 3, 12, .eq (pB true)), ([], 3, 19, .eq (pB true)), ([], 3, 26, .eq (pB true)), ([], 3, 33, .eq (pB true)), ([], 3, 40, .eq (pB true)), ([], 3, 47, .eq (pB true)), ([], 3, 54, .eq (pB true)), ([], 4, 1, .eq (pB true)), ([], 4, 8, .eq (pB true)), ([], 4, 15, .eq (pB true)), ([], 4, 22, .eq (pB true)), ([], 4, 29, .eq (pB true)), ([], 4, 36, .eq (pB false))]) (ex := .ret) (r := (pB false)) (by kernel_rfl) rfl (by kernel_rfl) (allC (ref01Texts_ok (k + 1) a.names b.names _ q1) (allC (cg q2) (allC (ref15Frames_ok k a.stack b.stack _ q3) (allC (cg q4) (allC (ref15Ints_ok (k + 1) a.draws b.draws _ q5) (allC (cg q6) (allC (cg q7) (allC (cg q8) (allC (cg q9) (allC (cg q10) (allC (cg q11) (allC (cg q12) (allC (cg q13) (allC (cg q14) (allC (cg q15) (allC (cg q16) (allC (cg q17) (allC (cg q18) (allC (cg q19) (allC (cg q20) allN)))))))))))))))))))) (by kernel_rfl) allN
                                · obtain rfl := Option.some.inj h
                                  exact ret_go (k := (k + 2)) Tryz.func8 Tryz.ntmps8 (by kernel_rfl) (by kernel_rfl) (lb rfl) (adv [([], 1, 4, .ret (pB r_1)), ([], 1, 6, .eq (pB false)), ([], 1, 11, .ret (pB r_2)), ([], 1, 14, .eq (pB false)), ([], 1, 19, .ret (pB r_3)), ([], 1, 21, .eq (pB false)), ([], 3, 5, .eq (pB true)), ([], 3, 12, .eq (pB true)), ([], 3, 19, .eq (pB true)), ([], 3, 26, .eq (pB true)), ([], 3, 33, .eq (pB true)), ([], 3, 40, .eq (pB true)), ([], 3, 47, .eq (pB true)), ([], 3, 54, .eq (pB true)), ([], 4, 1, .eq (pB true)), ([], 4, 8, .eq (pB true)), ([], 4, 15, .eq (pB true)), ([], 4, 22, .eq (pB true)), ([], 4, 29, .eq (pB false))]) (ex := .ret) (r := (pB false)) (by kernel_rfl) rfl (by kernel_rfl) (allC (ref01Texts_ok (k + 1) a.names b.names _ q1) (allC (cg q2) (allC (ref15Frames_ok k a.stack b.stack _ q3) (allC (cg q4) (allC (ref15Ints_ok (k + 1) a.draws b.draws _ q5) (allC (cg q6) (allC (cg q7) (allC (cg q8) (allC (cg q9) (allC (cg q10) (allC (cg q11) (allC (cg q12) (allC (cg q13) (allC (cg q14) (allC (cg q15) (allC (cg q16) (allC (cg q17) (allC (cg q18) (allC (cg q19) allN))))))))))))))))))) (by kernel_rfl) allN
                              · obtain rfl := Option.some.inj h
                                exact ret_go (k := (k + 2)) Tryz.func8 Tryz.ntmps8 (by kernel_rfl) (by kernel_rfl) (lb rfl) (adv [([], 1, 4, .ret (pB r_1)), ([], 1, 6, .eq (pB false)), ([], 1, 11, .ret (pB r_2)), ([], 1, 14, .eq (pB false)), ([], 1, 19, .ret (pB r_3)), ([], 1, 21, .eq (pB false)), ([], 3, 5, .eq (pB true)), ([], 3, 12, .eq (pB true)), ([], 3, 19, .eq (pB true)), ([], 3, 26, .eq (pB true)), ([], 3, 33, .eq (pB true)), ([], 3, 40, .eq (pB true)), ([], 3, 47, .eq (pB true)), ([], 3, 54, .eq (pB true)), ([], 4, 1, .eq (pB true)), ([], 4, 8, .eq (pB true)), ([], 4, 15, .eq (pB true)), ([], 4, 22, .eq (pB false))]) (ex := .ret) (r := (pB false)) (by kernel_rfl) rfl (by kernel_rfl) (allC (ref01Texts_ok (k + 1) a.names b.names _ q1) (allC (cg q2) (allC (ref15Frames_ok k a.stack b.stack _ q3) (allC (cg q4) (allC (ref15Ints_ok (k + 1) a.draws b.draws _ q5) (allC (cg q6) (allC (cg q7) (allC (cg q8) (allC (cg q9) (allC (cg q10) (allC (cg q11) (allC (cg q12) (allC (cg q13) (allC (cg q14) (allC (cg q15) (allC (cg q16) (allC (cg q17) (allC (cg q18) allN)))))))))))))))))) (by kernel_rfl) allN
                            · obtain rfl := Option.some.inj h
                              exact ret_go (k := (k + 2)) Tryz.func8 Tryz.ntmps8 (by kernel_rfl) (by kernel_rfl) (lb rfl) (adv [([], 1, 4, .ret (pB r_1)), ([], 1, 6, .eq (pB false)), ([], 1, 11, .ret (pB r_2)), ([], 1, 14, .eq (pB false)), ([], 1, 19, .ret (pB r_3)), ([], 1, 21, .eq (pB false)), ([], 3, 5, .eq (pB true)), ([], 3, 12, .eq (pB true)), ([], 3, 19, .eq (pB true)), ([], 3, 26, .eq (pB true)), ([], 3, 33, .eq (pB true)), ([], 3, 40, .eq (pB true)), ([], 3, 47, .eq (pB true)), ([], 3, 54, .eq (pB true)), ([], 4, 1, .eq (pB true)), ([], 4, 8, .eq (pB true)), ([], 4, 15, .eq (pB false))]) (ex := .ret) (r := (pB false)) (by kernel_rfl) rfl (by kernel_rfl) (allC (ref01Texts_ok (k + 1) a.names b.names _ q1) (allC (cg q2) (allC (ref15Frames_ok k a.stack b.stack _ q3) (allC (cg q4) (allC (ref15Ints_ok (k + 1) a.draws b.draws _ q5) (allC (cg q6) (allC (cg q7) (allC (cg q8) (allC (cg q9) (allC (cg q10) (allC (cg q11) (allC (cg q12) (allC (cg q13) (allC (cg q14) (allC (cg q15) (allC (cg q16) (allC (cg q17) allN))))))))))))))))) (by kernel_rfl) allN
                          · obtain rfl := Option.some.inj h
                            exact ret_go (k := (k + 2)) Tryz.func8 Tryz.ntmps8 (by kernel_rfl) (by kernel_rfl) (lb rfl) (adv [([], 1, 4, .ret (pB r_1)), ([], 1, 6, .eq (pB false)), ([], 1, 11, .ret (pB r_2)), ([], 1, 14, .eq (pB false)), ([], 1, 19, .ret (pB r_3)), ([], 1, 21, .eq (pB false)), ([], 3, 5, .eq (pB true)), ([], 3, 12, .eq (pB true)), ([], 3, 19, .eq (pB true)), ([], 3, 26, .eq (pB true)), ([], 3, 33, .eq (pB true)), ([], 3, 40, .eq (pB true)), ([], 3, 47, .eq (pB true)), ([], 3, 54, .eq (pB true)), ([], 4, 1, .eq (pB true)), ([], 4, 8, .eq (pB false))]) (ex := .ret) (r := (pB false)) (by kernel_rfl) rfl (by kernel_rfl) (allC (ref01Texts_ok (k + 1) a.names b.names _ q1) (allC (cg q2) (allC (ref15Frames_ok k a.stack b.stack _ q3) (allC (cg q4) (allC (ref15Ints_ok (k + 1) a.draws b.draws _ q5) (allC (cg q6) (allC (cg q7) (allC (cg q8) (allC (cg q9) (allC (cg q10) (allC (cg q11) (allC (cg q12) (allC (cg q13) (allC (cg q14) (allC (cg q15) (allC (cg q16) allN)))))))))))))))) (by kernel_rfl) allN
                        · obtain rfl := Option.some.inj h
                          exact ret_go (k := (k + 2)) Tryz.func8 Tryz.ntmps8 (by kernel_rfl) (by kernel_rfl) (lb rfl) (adv [([], 1, 4, .ret (pB r_1)), ([], 1, 6, .eq (pB false)), ([], 1, 11, .ret (pB r_2)), ([], 1, 14, .eq (pB false)), ([], 1, 19, .ret (pB r_3)), ([], 1, 21, .eq (pB false)), ([], 3, 5, .eq (pB true)), ([], 3, 12, .eq (pB true)), ([], 3, 19, .eq (pB true)), ([], 3, 26, .eq (pB true)), ([], 3, 33, .eq (pB true)), ([], 3, 40, .eq (pB true)), ([], 3, 47, .eq (pB true)), ([], 3, 54, .eq (pB true)), ([], 4, 1, .eq (pB false))]) (ex := .ret) (r := (pB false)) (by kernel_rfl) rfl (by kernel_rfl) (allC (ref01Texts_ok (k + 1) a.names b.names _ q1) (allC (cg q2) (allC (ref15Frames_ok k a.stack b.stack _ q3) (allC (cg q4) (allC (ref15Ints_ok (k + 1) a.draws b.draws _ q5) (allC (cg q6) (allC (cg q7) (allC (cg q8) (allC (cg q9) (allC (cg q10) (allC (cg q11) (allC (cg q12) (allC (cg q13) (allC (cg q14) (allC (cg q15) allN))))))))))))))) (by kernel_rfl) allN
                      · obtain rfl := Option.some.inj h
                        exact ret_go (k := (k + 2)) Tryz.func8 Tryz.ntmps8 (by kernel_rfl) (by kernel_rfl) (lb rfl) (adv [([], 1, 4, .ret (pB r_1)), ([], 1, 6, .eq (pB false)), ([], 1, 11, .ret (pB r_2)), ([], 1, 14, .eq (pB false)), ([], 1, 19, .ret (pB r_3)), ([], 1, 21, .eq (pB false)), ([], 3, 5, .eq (pB true)), ([], 3, 12, .eq (pB true)), ([], 3, 19, .eq (pB true)), ([], 3, 26, .eq (pB true)), ([], 3, 33, .eq (pB true)), ([], 3, 40, .eq (pB true)), ([], 3, 47, .eq (pB true)), ([], 3, 54, .eq (pB false))]) (ex := .ret) (r := (pB false)) (by kernel_rfl) rfl (by kernel_rfl) (allC (ref01Texts_ok (k + 1) a.names b.names _ q1) (allC (cg q2) (allC (ref15Frames_ok k a.stack b.stack _ q3) (allC (cg q4) (allC (ref15Ints_ok (k + 1) a.draws b.draws _ q5) (allC (cg q6) (allC (cg q7) (allC (cg q8) (allC (cg q9) (allC (cg q10) (allC (cg q11) (allC (cg q12) (allC (cg q13) (allC (cg q14) allN)))))))))))))) (by kernel_rfl) allN
                    · obtain rfl := Option.some.inj h
                      exact ret_go (k := (k + 2)) Tryz.func8 Tryz.ntmps8 (by kernel_rfl) (by kernel_rfl) (lb rfl) (adv [([], 1, 4, .ret (pB r_1)), ([], 1, 6, .eq (pB false)), ([], 1, 11, .ret (pB r_2)), ([], 1, 14, .eq (pB false)), ([], 1, 19, .ret (pB r_3)), ([], 1, 21, .eq (pB false)), ([], 3, 5, .eq (pB true)), ([], 3, 12, .eq (pB true)), ([], 3, 19, .eq (pB true)), ([], 3, 26, .eq (pB true)), ([], 3, 33, .eq (pB true)), ([], 3, 40, .eq (pB true)), ([], 3, 47, .eq (pB false))]) (ex := .ret) (r := (pB false)) (by kernel_rfl) rfl (by kernel_rfl) (allC (ref01Texts_ok (k + 1) a.names b.names _ q1) (allC (cg q2) (allC (ref15Frames_ok k a.stack b.stack _ q3) (allC (cg q4) (allC (ref15Ints_ok (k + 1) a.draws b.draws _ q5) (allC (cg q6) (allC (cg q7) (allC (cg q8) (allC (cg q9) (allC (cg q10) (allC (cg q11) (allC (cg q12) (allC (cg q13) allN))))))))))))) (by kernel_rfl) allN
                  · obtain rfl := Option.some.inj h
                    exact ret_go (k := (k + 2)) Tryz.func8 Tryz.ntmps8 (by kernel_rfl) (by kernel_rfl) (lb rfl) (adv [([], 1, 4, .ret (pB r_1)), ([], 1, 6, .eq (pB false)), ([], 1, 11, .ret (pB r_2)), ([], 1, 14, .eq (pB false)), ([], 1, 19, .ret (pB r_3)), ([], 1, 21, .eq (pB false)), ([], 3, 5, .eq (pB true)), ([], 3, 12, .eq (pB true)), ([], 3, 19, .eq (pB true)), ([], 3, 26, .eq (pB true)), ([], 3, 33, .eq (pB true)), ([], 3, 40, .eq (pB false))]) (ex := .ret) (r := (pB false)) (by kernel_rfl) rfl (by kernel_rfl) (allC (ref01Texts_ok (k + 1) a.names b.names _ q1) (allC (cg q2) (allC (ref15Frames_ok k a.stack b.stack _ q3) (allC (cg q4) (allC (ref15Ints_ok (k + 1) a.draws b.draws _ q5) (allC (cg q6) (allC (cg q7) (allC (cg q8) (allC (cg q9) (allC (cg q10) (allC (cg q11) (allC (cg q12) allN)))))))))))) (by kernel_rfl) allN
                · obtain rfl := Option.some.inj h
                  exact ret_go (k := (k + 2)) Tryz.func8 Tryz.ntmps8 (by kernel_rfl) (by kernel_rfl) (lb rfl) (adv [([], 1, 4, .ret (pB r_1)), ([], 1, 6, .eq (pB false)), ([], 1, 11, .ret (pB r_2)), ([], 1, 14, .eq (pB false)), ([], 1, 19, .ret (pB r_3)), ([], 1, 21, .eq (pB false)), ([], 3, 5, .eq (pB true)), ([], 3, 12, .eq (pB true)), ([], 3, 19, .eq (pB true)), ([], 3, 26, .eq (pB true)), ([], 3, 33, .eq (pB false))]) (ex := .ret) (r := (pB false)) (by kernel_rfl) rfl (by kernel_rfl) (allC (ref01Texts_ok (k + 1) a.names b.names _ q1) (allC (cg q2) (allC (ref15Frames_ok k a.stack b.stack _ q3) (allC (cg q4) (allC (ref15Ints_ok (k + 1) a.draws b.draws _ q5) (allC (cg q6) (allC (cg q7) (allC (cg q8) (allC (cg q9) (allC (cg q10) (allC (cg q11) allN))))))))))) (by kernel_rfl) allN
              · obtain rfl := Option.some.inj h
                exact ret_go (k := (k + 2)) Tryz.func8 Tryz.ntmps8 (by kernel_rfl) (by kernel_rfl) (lb rfl) (adv [([], 1, 4, .ret (pB r_1)), ([], 1, 6, .eq (pB false)), ([], 1, 11, .ret (pB r_2)), ([], 1, 14, .eq (pB false)), ([], 1, 19, .ret (pB r_3)), ([], 1, 21, .eq (pB false)), ([], 3, 5, .eq (pB true)), ([], 3, 12, .eq (pB true)), ([], 3, 19, .eq (pB true)), ([], 3, 26, .eq (pB false))]) (ex := .ret) (r := (pB false)) (by kernel_rfl) rfl (by kernel_rfl) (allC (ref01Texts_ok (k + 1) a.names b.names _ q1) (allC (cg q2) (allC (ref15Frames_ok k a.stack b.stack _ q3) (allC (cg q4) (allC (ref15Ints_ok (k + 1) a.draws b.draws _ q5) (allC (cg q6) (allC (cg q7) (allC (cg q8) (allC (cg q9) (allC (cg q10) allN)))))))))) (by kernel_rfl) allN
            · obtain rfl := Option.some.inj h
              exact ret_go (k := (k + 2)) Tryz.func8 Tryz.ntmps8 (by kernel_rfl) (by kernel_rfl) (lb rfl) (adv [([], 1, 4, .ret (pB r_1)), ([], 1, 6, .eq (pB false)), ([], 1, 11, .ret (pB r_2)), ([], 1, 14, .eq (pB false)), ([], 1, 19, .ret (pB r_3)), ([], 1, 21, .eq (pB false)), ([], 3, 5, .eq (pB true)), ([], 3, 12, .eq (pB true)), ([], 3, 19, .eq (pB false))]) (ex := .ret) (r := (pB false)) (by kernel_rfl) rfl (by kernel_rfl) (allC (ref01Texts_ok (k + 1) a.names b.names _ q1) (allC (cg q2) (allC (ref15Frames_ok k a.stack b.stack _ q3) (allC (cg q4) (allC (ref15Ints_ok (k + 1) a.draws b.draws _ q5) (allC (cg q6) (allC (cg q7) (allC (cg q8) (allC (cg q9) allN))))))))) (by kernel_rfl) allN
          · obtain rfl := Option.some.inj h
            exact ret_go (k := (k + 2)) Tryz.func8 Tryz.ntmps8 (by kernel_rfl) (by kernel_rfl) (lb rfl) (adv [([], 1, 4, .ret (pB r_1)), ([], 1, 6, .eq (pB false)), ([], 1, 11, .ret (pB r_2)), ([], 1, 14, .eq (pB false)), ([], 1, 19, .ret (pB r_3)), ([], 1, 21, .eq (pB false)), ([], 3, 5, .eq (pB true)), ([], 3, 12, .eq (pB false))]) (ex := .ret) (r := (pB false)) (by kernel_rfl) rfl (by kernel_rfl) (allC (ref01Texts_ok (k + 1) a.names b.names _ q1) (allC (cg q2) (allC (ref15Frames_ok k a.stack b.stack _ q3) (allC (cg q4) (allC (ref15Ints_ok (k + 1) a.draws b.draws _ q5) (allC (cg q6) (allC (cg q7) (allC (cg q8) allN)))))))) (by kernel_rfl) allN
        · obtain rfl := Option.some.inj h
          exact ret_go (k := (k + 2)) Tryz.func8 Tryz.ntmps8 (by kernel_rfl) (by kernel_rfl) (lb rfl) (adv [([], 1, 4, .ret (pB r_1)), ([], 1, 6, .eq (pB false)), ([], 1, 11, .ret (pB r_2)), ([], 1, 14, .eq (pB false)), ([], 1, 19, .ret (pB r_3)), ([], 1, 21, .eq (pB false)), ([], 3, 5, .eq (pB false))]) (ex := .ret) (r := (pB false)) (by kernel_rfl) rfl (by kernel_rfl) (allC (ref01Texts_ok (k + 1) a.names b.names _ q1) (allC (cg q2) (allC (ref15Frames_ok k a.stack b.stack _ q3) (allC (cg q4) (allC (ref15Ints_ok (k + 1) a.draws b.draws _ q5) (allC (cg q6) (allC (cg q7) allN))))))) (by kernel_rfl) allN
/-- flagstone/shift.of -/
def shiftOf (kind : Int) : Option ((ByteArray × ByteArray) ⊕ (ByteArray × ByteArray) ⊕ (ByteArray × ByteArray)) :=
 bif (kind == (4 : Int)) then (
 some (.inl ((bs [109, 118]), (bs [102])))
 ) else (
 bif (kind == (5 : Int)) then (
 some (.inr (.inl ((bs [108, 110]), (bs [115]))))
 ) else (
 some (.inr (.inr (((bs []), (bs [])))))
 )
 )
def shiftOf_out : ((ByteArray × ByteArray) ⊕ (ByteArray × ByteArray) ⊕ (ByteArray × ByteArray)) → PV
 | .inl (r0, r1) => (.tup [(.agg [(pS r0), (pS r1), (.clo 55 [])]), (pB true)])
 | .inr (.inl (r0, r1)) => (.tup [(.agg [(pS r0), (pS r1), (.clo 56 [])]), (pB true)])
 | .inr (.inr ((r0, r1))) => (.tup [(.agg [(pS r0), (pS r1), (.v .nilFunc)]), (pB false)])
set_option maxRecDepth 100000 in
theorem shiftOf_ok (k : Nat) (kind : Int) (r : ((ByteArray × ByteArray) ⊕ (ByteArray × ByteArray) ⊕ (ByteArray × ByteArray))) (h : shiftOf kind = some r) : run0 (k + 1) 25 [(pI kind)] = some (shiftOf_out r) := by
  unfold shiftOf at h
  rcases bif_some h with ⟨q1, h⟩ | ⟨q1, h⟩
  · obtain rfl := Option.some.inj h
    exact ret_go (k := k) Tryz.func25 Tryz.ntmps25 (by kernel_rfl) (by kernel_rfl) (lb rfl) (adv [([], 2, 1, .eq (pB true))]) (ex := .ret) (r := (.tup [(.agg [(pS (bs [109, 118])), (pS (bs [102])), (.clo 55 [])]), (pB true)])) (by kernel_rfl) rfl (by kernel_rfl) (allC (cg q1) allN) (by kernel_rfl) allN
  · rcases bif_some h with ⟨q2, h⟩ | ⟨q2, h⟩
    · obtain rfl := Option.some.inj h
      exact ret_go (k := k) Tryz.func25 Tryz.ntmps25 (by kernel_rfl) (by kernel_rfl) (lb rfl) (adv [([], 2, 1, .eq (pB false)), ([], 4, 1, .eq (pB true))]) (ex := .ret) (r := (.tup [(.agg [(pS (bs [108, 110])), (pS (bs [115])), (.clo 56 [])]), (pB true)])) (by kernel_rfl) rfl (by kernel_rfl) (allC (cg q1) (allC (cg q2) allN)) (by kernel_rfl) allN
    · obtain rfl := Option.some.inj h
      exact ret_go (k := k) Tryz.func25 Tryz.ntmps25 (by kernel_rfl) (by kernel_rfl) (lb rfl) (adv [([], 2, 1, .eq (pB false)), ([], 4, 1, .eq (pB false))]) (ex := .ret) (r := (.tup [(.agg [(pS (bs [])), (pS (bs [])), (.v .nilFunc)]), (pB false)])) (by kernel_rfl) rfl (by kernel_rfl) (allC (cg q1) (allC (cg q2) allN)) (by kernel_rfl) allN
/-- flagstone/shift.works -/
def shiftWorks (j : JobD) : Option ((ByteArray × ByteArray) ⊕ (ByteArray × ByteArray × Bool) ⊕ (ByteArray × ByteArray) ⊕ (ByteArray × ByteArray) ⊕ (ByteArray × ByteArray × Bool) ⊕ (ByteArray × ByteArray) ⊕ (ByteArray × ByteArray)) :=
 (shiftOf j.kind).bind fun X_1 => match X_1 with
 | .inl (r_1, r_2) => (
 bif (!j.done) then (
 bif (j.phase == (0 : Int)) then (
 some (.inl (r_1, r_2))
 ) else (
 some (.inr (.inl (r_1, r_2, (j.phase == (1 : Int)))))
 )
 ) else (
 some (.inr (.inr (.inl (r_1, r_2))))
 )
 )
 | .inr (.inl (r_3, r_4)) => (
 bif (!j.done) then (
 bif (j.phase == (0 : Int)) then (
 some (.inr (.inr (.inr (.inl (r_3, r_4)))))
 ) else (
 some (.inr (.inr (.inr (.inr (.inl (r_3, r_4, (j.phase == (1 : Int))))))))
 )
 ) else (
 some (.inr (.inr (.inr (.inr (.inr (.inl (r_3, r_4)))))))
 )
 )
 | .inr (.inr ((r_5, r_6))) => (
 some (.inr (.inr (.inr (.inr (.inr (.inr ((r_5, r_6))))))))
 )
def shiftWorks_out : ((ByteArray × ByteArray) ⊕ (ByteArray × ByteArray × Bool) ⊕ (ByteArray × ByteArray) ⊕ (ByteArray × ByteArray) ⊕ (ByteArray × ByteArray × Bool) ⊕ (ByteArray × ByteArray) ⊕ (ByteArray × ByteArray)) → PV
 | .inl (r0, r1) => (.tup [(.agg [(pS r0), (pS r1), (.clo 55 [])]), (pB true)])
 | .inr (.inl (r0, r1, r2)) => (.tup [(.agg [(pS r0), (pS r1), (.clo 55 [])]), (pB r2)])
 | .inr (.inr (.inl (r0, r1))) => (.tup [(.agg [(pS r0), (pS r1), (.clo 55 [])]), (pB false)])
 | .inr (.inr (.inr (.inl (r0, r1)))) => (.tup [(.agg [(pS r0), (pS r1), (.clo 56 [])]), (pB true)])
 | .inr (.inr (.inr (.inr (.inl (r0, r1, r2))))) => (.tup [(.agg [(pS r0), (pS r1), (.clo 56 [])]), (pB r2)])
 | .inr (.inr (.inr (.inr (.inr (.inl (r0, r1)))))) => (.tup [(.agg [(pS r0), (pS r1), (.clo 56 [])]), (pB false)])
 | .inr (.inr (.inr (.inr (.inr (.inr ((r0, r1))))))) => (.tup [(.agg [(pS r0), (pS r1), (.v .nilFunc)]), (pB false)])
set_option maxRecDepth 100000 in
theorem shiftWorks_ok (k : Nat) (j : JobD) (r : ((ByteArray × ByteArray) ⊕ (ByteArray × ByteArray × Bool) ⊕ (ByteArray × ByteArray) ⊕ (ByteArray × ByteArray) ⊕ (ByteArray × ByteArray × Bool) ⊕ (ByteArray × ByteArray) ⊕ (ByteArray × ByteArray))) (h : shiftWorks j = some r) : run0 (k + 2) 36 [(JobD.a j)] = some (shiftWorks_out r) := by
  unfold shiftWorks at h
  obtain ⟨X_1, q1, h⟩ := bnd_some h
  rcases X_1 with ⟨r_1, r_2⟩ | ⟨r_3, r_4⟩ | ⟨r_5, r_6⟩
  · try dsimp only at h
    rcases bif_some h with ⟨q2, h⟩ | ⟨q2, h⟩
    · rcases bif_some h with ⟨q3, h⟩ | ⟨q3, h⟩
      · obtain rfl := Option.some.inj h
        exact ret_go (k := (k + 1)) Tryz.func36 Tryz.ntmps36 (by kernel_rfl) (by kernel_rfl) (lb rfl) (adv [([], 1, 2, .ret (.tup [(.agg [(pS r_1), (pS r_2), (.clo 55 [])]), (pB true)])), ([], 2, 7, .eq (pB true)), ([], 2, 11, .eq (pB true))]) (ex := .ret) (r := (.tup [(.agg [(pS r_1), (pS r_2), (.clo 55 [])]), (pB true)])) (by kernel_rfl) rfl (by kernel_rfl) (allC (shiftOf_ok k j.kind _ q1) (allC (cg q2) (allC (cg q3) allN))) (by kernel_rfl) allN
      · obtain rfl := Option.some.inj h
        exact ret_go (k := (k + 1)) Tryz.func36 Tryz.ntmps36 (by kernel_rfl) (by kernel_rfl) (lb rfl) (adv [([], 1, 2, .ret (.tup [(.agg [(pS r_1), (pS r_2), (.clo 55 [])]), (pB true)])), ([], 2, 7, .eq (pB true)), ([], 2, 11, .eq (pB false))]) (ex := .ret) (r := (.tup [(.agg [(pS r_1), (pS r_2), (.clo 55 [])]), (pB (j.phase == (1 : Int)))])) (by kernel_rfl) rfl (by kernel_rfl) (allC (shiftOf_ok k j.kind _ q1) (allC (cg q2) (allC (cg q3) allN))) (by kernel_rfl) allN
    · obtain rfl := Option.some.inj h
      exact ret_go (k := (k + 1)) Tryz.func36 Tryz.ntmps36 (by kernel_rfl) (by kernel_rfl) (lb rfl) (adv [([], 1, 2, .ret (.tup [(.agg [(pS r_1), (pS r_2), (.clo 55 [])]), (pB true)])), ([], 2, 7, .eq (pB false))]) (ex := .ret) (r := (.tup [(.agg [(pS r_1), (pS r_2), (.clo 55 [])]), (pB false)])) (by kernel_rfl) rfl (by kernel_rfl) (allC (shiftOf_ok k j.kind _ q1) (allC (cg q2) allN)) (by kernel_rfl) allN
  · try dsimp only at h
    rcases bif_some h with ⟨q2, h⟩ | ⟨q2, h⟩
    · rcases bif_some h with ⟨q3, h⟩ | ⟨q3, h⟩
      · obtain rfl := Option.some.inj h
        exact ret_go (k := (k + 1)) Tryz.func36 Tryz.ntmps36 (by kernel_rfl) (by kernel_rfl) (lb rfl) (adv [([], 1, 2, .ret (.tup [(.agg [(pS r_3), (pS r_4), (.clo 56 [])]), (pB true)])), ([], 2, 7, .eq (pB true)), ([], 2, 11, .eq (pB true))]) (ex := .ret) (r := (.tup [(.agg [(pS r_3), (pS r_4), (.clo 56 [])]), (pB true)])) (by kernel_rfl) rfl (by kernel_rfl) (allC (shiftOf_ok k j.kind _ q1) (allC (cg q2) (allC (cg q3) allN))) (by kernel_rfl) allN
      · obtain rfl := Option.some.inj h
        exact ret_go (k := (k + 1)) Tryz.func36 Tryz.ntmps36 (by kernel_rfl) (by kernel_rfl) (lb rfl) (adv [([], 1, 2, .ret (.tup [(.agg [(pS r_3), (pS r_4), (.clo 56 [])]), (pB true)])), ([], 2, 7, .eq (pB true)), ([], 2, 11, .eq (pB false))]) (ex := .ret) (r := (.tup [(.agg [(pS r_3), (pS r_4), (.clo 56 [])]), (pB (j.phase == (1 : Int)))])) (by kernel_rfl) rfl (by kernel_rfl) (allC (shiftOf_ok k j.kind _ q1) (allC (cg q2) (allC (cg q3) allN))) (by kernel_rfl) allN
    · obtain rfl := Option.some.inj h
      exact ret_go (k := (k + 1)) Tryz.func36 Tryz.ntmps36 (by kernel_rfl) (by kernel_rfl) (lb rfl) (adv [([], 1, 2, .ret (.tup [(.agg [(pS r_3), (pS r_4), (.clo 56 [])]), (pB true)])), ([], 2, 7, .eq (pB false))]) (ex := .ret) (r := (.tup [(.agg [(pS r_3), (pS r_4), (.clo 56 [])]), (pB false)])) (by kernel_rfl) rfl (by kernel_rfl) (allC (shiftOf_ok k j.kind _ q1) (allC (cg q2) allN)) (by kernel_rfl) allN
  · try dsimp only at h
    obtain rfl := Option.some.inj h
    exact ret_go (k := (k + 1)) Tryz.func36 Tryz.ntmps36 (by kernel_rfl) (by kernel_rfl) (lb rfl) (adv [([], 1, 2, .ret (.tup [(.agg [(pS r_5), (pS r_6), (.v .nilFunc)]), (pB false)]))]) (ex := .ret) (r := (.tup [(.agg [(pS r_5), (pS r_6), (.v .nilFunc)]), (pB false)])) (by kernel_rfl) rfl (by kernel_rfl) (allC (shiftOf_ok k j.kind _ q1) allN) (by kernel_rfl) allN
/-- flagstone/shift.move -/
def shiftMove (j : JobD) : Option CalD :=
 some (CalD.mk (8 : Int) (-1 : Int) (-1 : Int) (0 : Int) (0 : Int) (0 : Int) j.path j.path2 (bs []))
set_option maxRecDepth 100000 in
theorem shiftMove_ok (k : Nat) (j : JobD) (r : CalD) (h : shiftMove j = some r) : run0 (k + 1) 55 [(JobD.a j)] = some (.agg [(pI r.kind), (pI r.fd), (pI r.fd2), (pI r.nF), (pI r.modeF), (pI r.flags), (pS r.path), (pS r.path2), (pS r.data)]) := by
  unfold shiftMove at h
  obtain rfl := Option.some.inj h
  exact ret_go (k := k) Tryz.func55 Tryz.ntmps55 (by kernel_rfl) (by kernel_rfl) (lb rfl) (adv []) (ex := .ret) (r := (.agg [(pI (8 : Int)), (pI (-1 : Int)), (pI (-1 : Int)), (pI (0 : Int)), (pI (0 : Int)), (pI (0 : Int)), (pS j.path), (pS j.path2), (pS (bs []))])) (by kernel_rfl) rfl (by kernel_rfl) allN (by kernel_rfl) allN
/-- flagstone/shift.link -/
def shiftLink (j : JobD) : Option CalD :=
 bif (j.flags == (1 : Int)) then (
 some (CalD.mk (10 : Int) (-1 : Int) (0 : Int) (0 : Int) (0 : Int) (0 : Int) j.path2 (bs []) j.path)
 ) else (
 some (CalD.mk (9 : Int) (-1 : Int) (0 : Int) (0 : Int) (0 : Int) (0 : Int) j.path j.path2 (bs []))
 )
set_option maxRecDepth 100000 in
theorem shiftLink_ok (k : Nat) (j : JobD) (r : CalD) (h : shiftLink j = some r) : run0 (k + 1) 56 [(JobD.a j)] = some (.agg [(pI r.kind), (pI r.fd), (pI r.fd2), (pI r.nF), (pI r.modeF), (pI r.flags), (pS r.path), (pS r.path2), (pS r.data)]) := by
  unfold shiftLink at h
  rcases bif_some h with ⟨q1, h⟩ | ⟨q1, h⟩
  · obtain rfl := Option.some.inj h
    exact ret_go (k := k) Tryz.func56 Tryz.ntmps56 (by kernel_rfl) (by kernel_rfl) (lb rfl) (adv [([], 1, 2, .eq (pB true))]) (ex := .ret) (r := (.agg [(pI (10 : Int)), (pI (-1 : Int)), (pI (0 : Int)), (pI (0 : Int)), (pI (0 : Int)), (pI (0 : Int)), (pS j.path2), (pS (bs [])), (pS j.path)])) (by kernel_rfl) rfl (by kernel_rfl) (allC (cg q1) allN) (by kernel_rfl) allN
  · obtain rfl := Option.some.inj h
    exact ret_go (k := k) Tryz.func56 Tryz.ntmps56 (by kernel_rfl) (by kernel_rfl) (lb rfl) (adv [([], 1, 2, .eq (pB false))]) (ex := .ret) (r := (.agg [(pI (9 : Int)), (pI (-1 : Int)), (pI (0 : Int)), (pI (0 : Int)), (pI (0 : Int)), (pI (0 : Int)), (pS j.path), (pS j.path2), (pS (bs []))])) (by kernel_rfl) rfl (by kernel_rfl) (allC (cg q1) allN) (by kernel_rfl) allN
end Go.Proofs.YtfjflodicgjihaaGreatDoor.Den
namespace Go.Proofs.YtfjflodicgjihaaGreatDoor.Den
open Go Go.RowKit
/-- flagstone/shift.Ask -/
def shiftAsk (j : JobD) : Option CalD :=
 (shiftWorks j).bind fun X_1 => match X_1 with
 | .inl (r_1, r_2) => (
 bif (j.phase == (1 : Int)) then (
 (shiftMove j).bind fun r_17 =>
 some r_17
 ) else (
 some (CalD.mk (12 : Int) (-1 : Int) (0 : Int) (0 : Int) (0 : Int) (0 : Int) j.path2 (bs []) (bs []))
 )
 )
 | .inr (.inl (r_3, r_4, r_5)) => (
 bif (!r_5) then (
 some (CalD.mk (0 : Int) (0 : Int) (0 : Int) (0 : Int) (0 : Int) (0 : Int) (bs []) (bs []) (bs []))
 ) else (
 bif (j.phase == (1 : Int)) then (
 (shiftMove j).bind fun r_17 =>
 some r_17
 ) else (
 some (CalD.mk (12 : Int) (-1 : Int) (0 : Int) (0 : Int) (0 : Int) (0 : Int) j.path2 (bs []) (bs []))
 )
 )
 )
 | .inr (.inr (.inl (r_6, r_7))) => (
 some (CalD.mk (0 : Int) (0 : Int) (0 : Int) (0 : Int) (0 : Int) (0 : Int) (bs []) (bs []) (bs []))
 )
 | .inr (.inr (.inr (.inl (r_8, r_9)))) => (
 bif (j.phase == (1 : Int)) then (
 (shiftLink j).bind fun r_17 =>
 some r_17
 ) else (
 some (CalD.mk (12 : Int) (-1 : Int) (0 : Int) (0 : Int) (0 : Int) (0 : Int) j.path2 (bs []) (bs []))
 )
 )
 | .inr (.inr (.inr (.inr (.inl (r_10, r_11, r_12))))) => (
 bif (!r_12) then (
 some (CalD.mk (0 : Int) (0 : Int) (0 : Int) (0 : Int) (0 : Int) (0 : Int) (bs []) (bs []) (bs []))
 ) else (
 bif (j.phase == (1 : Int)) then (
 (shiftLink j).bind fun r_17 =>
 some r_17
 ) else (
 some (CalD.mk (12 : Int) (-1 : Int) (0 : Int) (0 : Int) (0 : Int) (0 : Int) j.path2 (bs []) (bs []))
 )
 )
 )
 | .inr (.inr (.inr (.inr (.inr (.inl (r_13, r_14)))))) => (
 some (CalD.mk (0 : Int) (0 : Int) (0 : Int) (0 : Int) (0 : Int) (0 : Int) (bs []) (bs []) (bs []))
 )
 | .inr (.inr (.inr (.inr (.inr (.inr ((r_15, r_16))))))) => (
 some (CalD.mk (0 : Int) (0 : Int) (0 : Int) (0 : Int) (0 : Int) (0 : Int) (bs []) (bs []) (bs []))
 )
set_option maxRecDepth 100000 in
theorem shiftAsk_ok (k : Nat) (j : JobD) (r : CalD) (h : shiftAsk j = some r) : run0 (k + 3) 12 [(JobD.a j)] = some (.agg [(pI r.kind), (pI r.fd), (pI r.fd2), (pI r.nF), (pI r.modeF), (pI r.flags), (pS r.path), (pS r.path2), (pS r.data)]) := by
  unfold shiftAsk at h
  obtain ⟨X_1, q1, h⟩ := bnd_some h
  rcases X_1 with ⟨r_1, r_2⟩ | ⟨r_3, r_4, r_5⟩ | ⟨r_6, r_7⟩ | ⟨r_8, r_9⟩ | ⟨r_10, r_11, r_12⟩ | ⟨r_13, r_14⟩ | ⟨r_15, r_16⟩
  · try dsimp only at h
    rcases bif_some h with ⟨q2, h⟩ | ⟨q2, h⟩
    · obtain ⟨r_17, q3, h⟩ := bnd_some h
      obtain rfl := Option.some.inj h
      exact ret_go (k := (k + 2)) Tryz.func12 Tryz.ntmps12 (by kernel_rfl) (by kernel_rfl) (lb rfl) (adv [([], 1, 1, .ret (.tup [(.agg [(pS r_1), (pS r_2), (.clo 55 [])]), (pB true)])), ([], 4, 3, .eq (pB true)), ([], 5, 3, .ret (.agg [(pI r_17.kind), (pI r_17.fd), (pI r_17.fd2), (pI r_17.nF), (pI r_17.modeF), (pI r_17.flags), (pS r_17.path), (pS r_17.path2), (pS r_17.data)]))]) (ex := .ret) (r := (.agg [(pI r_17.kind), (pI r_17.fd), (pI r_17.fd2), (pI r_17.nF), (pI r_17.modeF), (pI r_17.flags), (pS r_17.path), (pS r_17.path2), (pS r_17.data)])) (by kernel_rfl) rfl (by kernel_rfl) (allC (shiftWorks_ok k j _ q1) (allC (cg q2) (allC (shiftMove_ok (k + 1) j _ q3) allN))) (by kernel_rfl) allN
    · obtain rfl := Option.some.inj h
      exact ret_go (k := (k + 2)) Tryz.func12 Tryz.ntmps12 (by kernel_rfl) (by kernel_rfl) (lb rfl) (adv [([], 1, 1, .ret (.tup [(.agg [(pS r_1), (pS r_2), (.clo 55 [])]), (pB true)])), ([], 4, 3, .eq (pB false))]) (ex := .ret) (r := (.agg [(pI (12 : Int)), (pI (-1 : Int)), (pI (0 : Int)), (pI (0 : Int)), (pI (0 : Int)), (pI (0 : Int)), (pS j.path2), (pS (bs [])), (pS (bs []))])) (by kernel_rfl) rfl (by kernel_rfl) (allC (shiftWorks_ok k j _ q1) (allC (cg q2) allN)) (by kernel_rfl) allN
  · try dsimp only at h
    rcases bif_some h with ⟨q2, h⟩ | ⟨q2, h⟩
    · obtain rfl := Option.some.inj h
      exact ret_go (k := (k + 2)) Tryz.func12 Tryz.ntmps12 (by kernel_rfl) (by kernel_rfl) (lb rfl) (adv [([], 1, 1, .ret (.tup [(.agg [(pS r_3), (pS r_4), (.clo 55 [])]), (pB r_5)])), ([], 2, 2, .eq (pB true))]) (ex := .ret) (r := (.agg [(pI (0 : Int)), (pI (0 : Int)), (pI (0 : Int)), (pI (0 : Int)), (pI (0 : Int)), (pI (0 : Int)), (pS (bs [])), (pS (bs [])), (pS (bs []))])) (by kernel_rfl) rfl (by kernel_rfl) (allC (shiftWorks_ok k j _ q1) (allC (cg q2) allN)) (by kernel_rfl) allN
    · rcases bif_some h with ⟨q3, h⟩ | ⟨q3, h⟩
      · obtain ⟨r_17, q4, h⟩ := bnd_some h
        obtain rfl := Option.some.inj h
        exact ret_go (k := (k + 2)) Tryz.func12 Tryz.ntmps12 (by kernel_rfl) (by kernel_rfl) (lb rfl) (adv [([], 1, 1, .ret (.tup [(.agg [(pS r_3), (pS r_4), (.clo 55 [])]), (pB r_5)])), ([], 2, 2, .eq (pB false)), ([], 4, 3, .eq (pB true)), ([], 5, 3, .ret (.agg [(pI r_17.kind), (pI r_17.fd), (pI r_17.fd2), (pI r_17.nF), (pI r_17.modeF), (pI r_17.flags), (pS r_17.path), (pS r_17.path2), (pS r_17.data)]))]) (ex := .ret) (r := (.agg [(pI r_17.kind), (pI r_17.fd), (pI r_17.fd2), (pI r_17.nF), (pI r_17.modeF), (pI r_17.flags), (pS r_17.path), (pS r_17.path2), (pS r_17.data)])) (by kernel_rfl) rfl (by kernel_rfl) (allC (shiftWorks_ok k j _ q1) (allC (cg q2) (allC (cg q3) (allC (shiftMove_ok (k + 1) j _ q4) allN)))) (by kernel_rfl) allN
      · obtain rfl := Option.some.inj h
        exact ret_go (k := (k + 2)) Tryz.func12 Tryz.ntmps12 (by kernel_rfl) (by kernel_rfl) (lb rfl) (adv [([], 1, 1, .ret (.tup [(.agg [(pS r_3), (pS r_4), (.clo 55 [])]), (pB r_5)])), ([], 2, 2, .eq (pB false)), ([], 4, 3, .eq (pB false))]) (ex := .ret) (r := (.agg [(pI (12 : Int)), (pI (-1 : Int)), (pI (0 : Int)), (pI (0 : Int)), (pI (0 : Int)), (pI (0 : Int)), (pS j.path2), (pS (bs [])), (pS (bs []))])) (by kernel_rfl) rfl (by kernel_rfl) (allC (shiftWorks_ok k j _ q1) (allC (cg q2) (allC (cg q3) allN))) (by kernel_rfl) allN
  · try dsimp only at h
    obtain rfl := Option.some.inj h
    exact ret_go (k := (k + 2)) Tryz.func12 Tryz.ntmps12 (by kernel_rfl) (by kernel_rfl) (lb rfl) (adv [([], 1, 1, .ret (.tup [(.agg [(pS r_6), (pS r_7), (.clo 55 [])]), (pB false)]))]) (ex := .ret) (r := (.agg [(pI (0 : Int)), (pI (0 : Int)), (pI (0 : Int)), (pI (0 : Int)), (pI (0 : Int)), (pI (0 : Int)), (pS (bs [])), (pS (bs [])), (pS (bs []))])) (by kernel_rfl) rfl (by kernel_rfl) (allC (shiftWorks_ok k j _ q1) allN) (by kernel_rfl) allN
  · try dsimp only at h
    rcases bif_some h with ⟨q2, h⟩ | ⟨q2, h⟩
    · obtain ⟨r_17, q3, h⟩ := bnd_some h
      obtain rfl := Option.some.inj h
      exact ret_go (k := (k + 2)) Tryz.func12 Tryz.ntmps12 (by kernel_rfl) (by kernel_rfl) (lb rfl) (adv [([], 1, 1, .ret (.tup [(.agg [(pS r_8), (pS r_9), (.clo 56 [])]), (pB true)])), ([], 4, 3, .eq (pB true)), ([], 5, 3, .ret (.agg [(pI r_17.kind), (pI r_17.fd), (pI r_17.fd2), (pI r_17.nF), (pI r_17.modeF), (pI r_17.flags), (pS r_17.path), (pS r_17.path2), (pS r_17.data)]))]) (ex := .ret) (r := (.agg [(pI r_17.kind), (pI r_17.fd), (pI r_17.fd2), (pI r_17.nF), (pI r_17.modeF), (pI r_17.flags), (pS r_17.path), (pS r_17.path2), (pS r_17.data)])) (by kernel_rfl) rfl (by kernel_rfl) (allC (shiftWorks_ok k j _ q1) (allC (cg q2) (allC (shiftLink_ok (k + 1) j _ q3) allN))) (by kernel_rfl) allN
    · obtain rfl := Option.some.inj h
      exact ret_go (k := (k + 2)) Tryz.func12 Tryz.ntmps12 (by kernel_rfl) (by kernel_rfl) (lb rfl) (adv [([], 1, 1, .ret (.tup [(.agg [(pS r_8), (pS r_9), (.clo 56 [])]), (pB true)])), ([], 4, 3, .eq (pB false))]) (ex := .ret) (r := (.agg [(pI (12 : Int)), (pI (-1 : Int)), (pI (0 : Int)), (pI (0 : Int)), (pI (0 : Int)), (pI (0 : Int)), (pS j.path2), (pS (bs [])), (pS (bs []))])) (by kernel_rfl) rfl (by kernel_rfl) (allC (shiftWorks_ok k j _ q1) (allC (cg q2) allN)) (by kernel_rfl) allN
  · try dsimp only at h
    rcases bif_some h with ⟨q2, h⟩ | ⟨q2, h⟩
    · obtain rfl := Option.some.inj h
      exact ret_go (k := (k + 2)) Tryz.func12 Tryz.ntmps12 (by kernel_rfl) (by kernel_rfl) (lb rfl) (adv [([], 1, 1, .ret (.tup [(.agg [(pS r_10), (pS r_11), (.clo 56 [])]), (pB r_12)])), ([], 2, 2, .eq (pB true))]) (ex := .ret) (r := (.agg [(pI (0 : Int)), (pI (0 : Int)), (pI (0 : Int)), (pI (0 : Int)), (pI (0 : Int)), (pI (0 : Int)), (pS (bs [])), (pS (bs [])), (pS (bs []))])) (by kernel_rfl) rfl (by kernel_rfl) (allC (shiftWorks_ok k j _ q1) (allC (cg q2) allN)) (by kernel_rfl) allN
    · rcases bif_some h with ⟨q3, h⟩ | ⟨q3, h⟩
      · obtain ⟨r_17, q4, h⟩ := bnd_some h
        obtain rfl := Option.some.inj h
        exact ret_go (k := (k + 2)) Tryz.func12 Tryz.ntmps12 (by kernel_rfl) (by kernel_rfl) (lb rfl) (adv [([], 1, 1, .ret (.tup [(.agg [(pS r_10), (pS r_11), (.clo 56 [])]), (pB r_12)])), ([], 2, 2, .eq (pB false)), ([], 4, 3, .eq (pB true)), ([], 5, 3, .ret (.agg [(pI r_17.kind), (pI r_17.fd), (pI r_17.fd2), (pI r_17.nF), (pI r_17.modeF), (pI r_17.flags), (pS r_17.path), (pS r_17.path2), (pS r_17.data)]))]) (ex := .ret) (r := (.agg [(pI r_17.kind), (pI r_17.fd), (pI r_17.fd2), (pI r_17.nF), (pI r_17.modeF), (pI r_17.flags), (pS r_17.path), (pS r_17.path2), (pS r_17.data)])) (by kernel_rfl) rfl (by kernel_rfl) (allC (shiftWorks_ok k j _ q1) (allC (cg q2) (allC (cg q3) (allC (shiftLink_ok (k + 1) j _ q4) allN)))) (by kernel_rfl) allN
      · obtain rfl := Option.some.inj h
        exact ret_go (k := (k + 2)) Tryz.func12 Tryz.ntmps12 (by kernel_rfl) (by kernel_rfl) (lb rfl) (adv [([], 1, 1, .ret (.tup [(.agg [(pS r_10), (pS r_11), (.clo 56 [])]), (pB r_12)])), ([], 2, 2, .eq (pB false)), ([], 4, 3, .eq (pB false))]) (ex := .ret) (r := (.agg [(pI (12 : Int)), (pI (-1 : Int)), (pI (0 : Int)), (pI (0 : Int)), (pI (0 : Int)), (pI (0 : Int)), (pS j.path2), (pS (bs [])), (pS (bs []))])) (by kernel_rfl) rfl (by kernel_rfl) (allC (shiftWorks_ok k j _ q1) (allC (cg q2) (allC (cg q3) allN))) (by kernel_rfl) allN
  · try dsimp only at h
    obtain rfl := Option.some.inj h
    exact ret_go (k := (k + 2)) Tryz.func12 Tryz.ntmps12 (by kernel_rfl) (by kernel_rfl) (lb rfl) (adv [([], 1, 1, .ret (.tup [(.agg [(pS r_13), (pS r_14), (.clo 56 [])]), (pB false)]))]) (ex := .ret) (r := (.agg [(pI (0 : Int)), (pI (0 : Int)), (pI (0 : Int)), (pI (0 : Int)), (pI (0 : Int)), (pI (0 : Int)), (pS (bs [])), (pS (bs [])), (pS (bs []))])) (by kernel_rfl) rfl (by kernel_rfl) (allC (shiftWorks_ok k j _ q1) allN) (by kernel_rfl) allN
  · try dsimp only at h
    obtain rfl := Option.some.inj h
    exact ret_go (k := (k + 2)) Tryz.func12 Tryz.ntmps12 (by kernel_rfl) (by kernel_rfl) (lb rfl) (adv [([], 1, 1, .ret (.tup [(.agg [(pS r_15), (pS r_16), (.v .nilFunc)]), (pB false)]))]) (ex := .ret) (r := (.agg [(pI (0 : Int)), (pI (0 : Int)), (pI (0 : Int)), (pI (0 : Int)), (pI (0 : Int)), (pI (0 : Int)), (pS (bs [])), (pS (bs [])), (pS (bs []))])) (by kernel_rfl) rfl (by kernel_rfl) (allC (shiftWorks_ok k j _ q1) allN) (by kernel_rfl) allN
/-- flagstone/job.Fail -/
def jobFail (j : JobD) (path : ByteArray) (e : Int) : Option JobD :=
 grd (¬ (((path.size + (bs [58, 32, 101, 114, 114, 111, 114, 32]).size : Nat) : Int) > IntKind.i64.max)) <|
 (itoaX e).bind fun r_1 =>
 grd (¬ ((((path ++ (bs [58, 32, 101, 114, 114, 111, 114, 32])).size + r_1.size : Nat) : Int) > IntKind.i64.max)) <|
 some (JobD.mk j.kind j.p j.phase j.fd j.nF j.modeF j.tries j.atF j.flags j.path j.path2 j.text j.names j.stack j.draws true (1 : Int) ((path ++ (bs [58, 32, 101, 114, 114, 111, 114, 32])) ++ r_1) e)
set_option maxRecDepth 100000 in
theorem jobFail_ok (k : Nat) (j : JobD) (path : ByteArray) (e : Int) (r : JobD) (h : jobFail j path e = some r) : run0 (k + 1) 26 [(JobD.a j), (pS path), (pI e)] = some (JobD.a r) := by
  unfold jobFail at h
  obtain ⟨q1, h⟩ := grd_some h
  obtain ⟨r_1, q2, h⟩ := bnd_some h
  obtain ⟨q3, h⟩ := grd_some h
  obtain rfl := Option.some.inj h
  exact ret_go (k := k) Tryz.func26 Tryz.ntmps26 (by kernel_rfl) (by kernel_rfl) (lb rfl) (adv [([], 1, 2, .cat), ([], 1, 4, .ret (pS r_1)), ([], 1, 5, .cat)]) (ex := .ret) (r := (.agg [(pI j.kind), (pI j.p), (pI j.phase), (pI j.fd), (pI j.nF), (pI j.modeF), (pI j.tries), (pI j.atF), (pI j.flags), (pS j.path), (pS j.path2), (pS j.text), (.list 1 false (j.names.map cS)), (.list 3 false (j.stack.map FrameD.c)), (.list 1 false (j.draws.map cI)), (pB true), (pI (1 : Int)), (pS ((path ++ (bs [58, 32, 101, 114, 114, 111, 114, 32])) ++ r_1)), (pI e)])) (by kernel_rfl) rfl (by kernel_rfl) (allC q1 (allC (itoaX_ok k e _ q2) (allC q3 allN))) (by kernel_rfl) allN
/-- flagstone/job.End -/
def jobEnd (j : JobD) (out : ByteArray) : Option JobD :=
 some (JobD.mk j.kind j.p j.phase j.fd j.nF j.modeF j.tries j.atF j.flags j.path j.path2 j.text j.names j.stack j.draws true (0 : Int) out j.e)
set_option maxRecDepth 100000 in
theorem jobEnd_ok (k : Nat) (j : JobD) (out : ByteArray) (r : JobD) (h : jobEnd j out = some r) : run0 (k + 1) 38 [(JobD.a j), (pS out)] = some (JobD.a r) := by
  unfold jobEnd at h
  obtain rfl := Option.some.inj h
  exact ret_go (k := k) Tryz.func38 Tryz.ntmps38 (by kernel_rfl) (by kernel_rfl) (lb rfl) (adv []) (ex := .ret) (r := (.agg [(pI j.kind), (pI j.p), (pI j.phase), (pI j.fd), (pI j.nF), (pI j.modeF), (pI j.tries), (pI j.atF), (pI j.flags), (pS j.path), (pS j.path2), (pS j.text), (.list 1 false (j.names.map cS)), (.list 3 false (j.stack.map FrameD.c)), (.list 1 false (j.draws.map cI)), (pB true), (pI (0 : Int)), (pS out), (pI j.e)])) (by kernel_rfl) rfl (by kernel_rfl) allN (by kernel_rfl) allN
/-- flagstone/route.Base -/
def routeBase (p : ByteArray) : Option ByteArray :=
 (trimRX p (bs [47])).bind fun r_1 =>
 bif (seq r_1 (bs [])) then (
 bif (!(seq p (bs []))) then (
 some (bs [47])
 ) else (
 (lastIxX r_1 (bs [47])).bind fun r_2 =>
 grd (0 ≤ (w64 (r_2 + (1 : Int))) ∧ (w64 (r_2 + (1 : Int))) ≤ (r_1.size : Int) ∧ (r_1.size : Int) ≤ (r_1.size : Int)) <|
 some (r_1.extract ((w64 (r_2 + (1 : Int)))).toNat r_1.size)
 )
 ) else (
 (lastIxX r_1 (bs [47])).bind fun r_2 =>
 grd (0 ≤ (w64 (r_2 + (1 : Int))) ∧ (w64 (r_2 + (1 : Int))) ≤ (r_1.size : Int) ∧ (r_1.size : Int) ≤ (r_1.size : Int)) <|
 some (r_1.extract ((w64 (r_2 + (1 : Int)))).toNat r_1.size)
 )
set_option maxRecDepth 100000 in
theorem routeBase_ok (k : Nat) (p : ByteArray) (r : ByteArray) (h : routeBase p = some r) : run0 (k + 1) 40 [(pS p)] = some (pS r) := by
  unfold routeBase at h
  obtain ⟨r_1, q1, h⟩ := bnd_some h
  rcases bif_some h with ⟨q2, h⟩ | ⟨q2, h⟩
  · rcases bif_some h with ⟨q3, h⟩ | ⟨q3, h⟩
    · obtain rfl := Option.some.inj h
      exact ret_go (k := k) Tryz.func40 Tryz.ntmps40 (by kernel_rfl) (by kernel_rfl) (lb rfl) (adv [([], 1, 1, .ret (pS r_1)), ([], 2, 2, .eq (pB true)), ([], 2, 5, .eq (pB true))]) (ex := .ret) (r := (pS (bs [47]))) (by kernel_rfl) rfl (by kernel_rfl) (allC (trimRX_ok k p (bs [47]) _ q1) (allC (cg q2) (allC (cg q3) allN))) (by kernel_rfl) allN
    · obtain ⟨r_2, q4, h⟩ := bnd_some h
      obtain ⟨q5, h⟩ := grd_some h
      obtain rfl := Option.some.inj h
      exact ret_go (k := k) Tryz.func40 Tryz.ntmps40 (by kernel_rfl) (by kernel_rfl) (lb rfl) (adv [([], 1, 1, .ret (pS r_1)), ([], 2, 2, .eq (pB true)), ([], 2, 5, .eq (pB false)), ([], 4, 2, .ret (pI r_2)), ([], 4, 4, .sub false)]) (ex := .ret) (r := (pS (r_1.extract ((w64 (r_2 + (1 : Int)))).toNat r_1.size))) (by kernel_rfl) rfl (by kernel_rfl) (allC (trimRX_ok k p (bs [47]) _ q1) (allC (cg q2) (allC (cg q3) (allC (lastIxX_ok k r_1 (bs [47]) _ q4) (allC q5 allN))))) (by kernel_rfl) allN
  · obtain ⟨r_2, q3, h⟩ := bnd_some h
    obtain ⟨q4, h⟩ := grd_some h
    obtain rfl := Option.some.inj h
    exact ret_go (k := k) Tryz.func40 Tryz.ntmps40 (by kernel_rfl) (by kernel_rfl) (lb rfl) (adv [([], 1, 1, .ret (pS r_1)), ([], 2, 2, .eq (pB false)), ([], 4, 2, .ret (pI r_2)), ([], 4, 4, .sub false)]) (ex := .ret) (r := (pS (r_1.extract ((w64 (r_2 + (1 : Int)))).toNat r_1.size))) (by kernel_rfl) rfl (by kernel_rfl) (allC (trimRX_ok k p (bs [47]) _ q1) (allC (cg q2) (allC (lastIxX_ok k r_1 (bs [47]) _ q3) (allC q4 allN)))) (by kernel_rfl) allN
/-- internal/stringslite.HasPrefix -/
def stringsliteHasPrefix (s : ByteArray) (prefixF : ByteArray) : Option Bool :=
 bif (decide ((s.size : Int) ≥ (prefixF.size : Int))) then (
 grd (0 ≤ (0 : Int) ∧ (0 : Int) ≤ (prefixF.size : Int) ∧ (prefixF.size : Int) ≤ (s.size : Int)) <|
 some (seq (s.extract 0 ((prefixF.size : Int)).toNat) prefixF)
 ) else (
 some false
 )
set_option maxRecDepth 100000 in
theorem stringsliteHasPrefix_ok (k : Nat) (s : ByteArray) (prefixF : ByteArray) (r : Bool) (h : stringsliteHasPrefix s prefixF = some r) : run0 (k + 1) 111 [(pS s), (pS prefixF)] = some (pB r) := by
  unfold stringsliteHasPrefix at h
  rcases bif_some h with ⟨q1, h⟩ | ⟨q1, h⟩
  · obtain ⟨q2, h⟩ := grd_some h
    obtain rfl := Option.some.inj h
    exact ret_go (k := k) Tryz.func111 Tryz.ntmps111 (by kernel_rfl) (by kernel_rfl) (lb rfl) (adv [([], 1, 5, .eq (pB true)), ([], 1, 9, .sub false)]) (ex := .ret) (r := (pB (seq (s.extract 0 ((prefixF.size : Int)).toNat) prefixF))) (by kernel_rfl) rfl (by kernel_rfl) (allC (cg q1) (allC q2 allN)) (by kernel_rfl) allN
  · obtain rfl := Option.some.inj h
    exact ret_go (k := k) Tryz.func111 Tryz.ntmps111 (by kernel_rfl) (by kernel_rfl) (lb rfl) (adv [([], 1, 5, .eq (pB false))]) (ex := .ret) (r := (pB false)) (by kernel_rfl) rfl (by kernel_rfl) (allC (cg q1) allN) (by kernel_rfl) allN
/-- strings.HasPrefix -/
def stringsHasPrefix (s : ByteArray) (prefixF : ByteArray) : Option Bool :=
 (stringsliteHasPrefix s prefixF).bind fun r_1 =>
 some r_1
set_option maxRecDepth 100000 in
theorem stringsHasPrefix_ok (k : Nat) (s : ByteArray) (prefixF : ByteArray) (r : Bool) (h : stringsHasPrefix s prefixF = some r) : run0 (k + 2) 66 [(pS s), (pS prefixF)] = some (pB r) := by
  unfold stringsHasPrefix at h
  obtain ⟨r_1, q1, h⟩ := bnd_some h
  obtain rfl := Option.some.inj h
  exact ret_go (k := (k + 1)) Tryz.func66 Tryz.ntmps66 (by kernel_rfl) (by kernel_rfl) (lb rfl) (adv [([], 1, 2, .ret (pB r_1))]) (ex := .ret) (r := (pB r_1)) (by kernel_rfl) rfl (by kernel_rfl) (allC (stringsliteHasPrefix_ok k s prefixF _ q1) allN) (by kernel_rfl) allN
/-- internal/stringslite.HasSuffix -/
def stringsliteHasSuffix (s : ByteArray) (suffix : ByteArray) : Option Bool :=
 bif (decide ((s.size : Int) ≥ (suffix.size : Int))) then (
 grd (0 ≤ (w64 ((s.size : Int) - (suffix.size : Int))) ∧ (w64 ((s.size : Int) - (suffix.size : Int))) ≤ (s.size : Int) ∧ (s.size : Int) ≤ (s.size : Int)) <|
 some (seq (s.extract ((w64 ((s.size : Int) - (suffix.size : Int)))).toNat s.size) suffix)
 ) else (
 some false
 )
set_option maxRecDepth 100000 in
theorem stringsliteHasSuffix_ok (k : Nat) (s : ByteArray) (suffix : ByteArray) (r : Bool) (h : stringsliteHasSuffix s suffix = some r) : run0 (k + 1) 171 [(pS s), (pS suffix)] = some (pB r) := by
  unfold stringsliteHasSuffix at h
  rcases bif_some h with ⟨q1, h⟩ | ⟨q1, h⟩
  · obtain ⟨q2, h⟩ := grd_some h
    obtain rfl := Option.some.inj h
    exact ret_go (k := k) Tryz.func171 Tryz.ntmps171 (by kernel_rfl) (by kernel_rfl) (lb rfl) (adv [([], 1, 5, .eq (pB true)), ([], 1, 12, .sub false)]) (ex := .ret) (r := (pB (seq (s.extract ((w64 ((s.size : Int) - (suffix.size : Int)))).toNat s.size) suffix))) (by kernel_rfl) rfl (by kernel_rfl) (allC (cg q1) (allC q2 allN)) (by kernel_rfl) allN
  · obtain rfl := Option.some.inj h
    exact ret_go (k := k) Tryz.func171 Tryz.ntmps171 (by kernel_rfl) (by kernel_rfl) (lb rfl) (adv [([], 1, 5, .eq (pB false))]) (ex := .ret) (r := (pB false)) (by kernel_rfl) rfl (by kernel_rfl) (allC (cg q1) allN) (by kernel_rfl) allN
/-- internal/stringslite.TrimSuffix -/
def stringsliteTrimSuffix (s : ByteArray) (suffix : ByteArray) : Option ByteArray :=
 (stringsliteHasSuffix s suffix).bind fun r_1 =>
 bif r_1 then (
 grd (0 ≤ (0 : Int) ∧ (0 : Int) ≤ (w64 ((s.size : Int) - (suffix.size : Int))) ∧ (w64 ((s.size : Int) - (suffix.size : Int))) ≤ (s.size : Int)) <|
 some (s.extract 0 ((w64 ((s.size : Int) - (suffix.size : Int)))).toNat)
 ) else (
 some s
 )
set_option maxRecDepth 100000 in
theorem stringsliteTrimSuffix_ok (k : Nat) (s : ByteArray) (suffix : ByteArray) (r : ByteArray) (h : stringsliteTrimSuffix s suffix = some r) : run0 (k + 2) 112 [(pS s), (pS suffix)] = some (pS r) := by
  unfold stringsliteTrimSuffix at h
  obtain ⟨r_1, q1, h⟩ := bnd_some h
  rcases bif_some h with ⟨q2, h⟩ | ⟨q2, h⟩
  · revert h; subst q2; intro h
    obtain ⟨q3, h⟩ := grd_some h
    obtain rfl := Option.some.inj h
    exact ret_go (k := (k + 1)) Tryz.func112 Tryz.ntmps112 (by kernel_rfl) (by kernel_rfl) (lb rfl) (adv [([], 1, 2, .ret (pB true)), ([], 2, 6, .sub false)]) (ex := .ret) (r := (pS (s.extract 0 ((w64 ((s.size : Int) - (suffix.size : Int)))).toNat))) (by kernel_rfl) rfl (by kernel_rfl) (allC (stringsliteHasSuffix_ok k s suffix _ q1) (allC q3 allN)) (by kernel_rfl) allN
  · revert h; subst q2; intro h
    obtain rfl := Option.some.inj h
    exact ret_go (k := (k + 1)) Tryz.func112 Tryz.ntmps112 (by kernel_rfl) (by kernel_rfl) (lb rfl) (adv [([], 1, 2, .ret (pB false))]) (ex := .ret) (r := (pS s)) (by kernel_rfl) rfl (by kernel_rfl) (allC (stringsliteHasSuffix_ok k s suffix _ q1) allN) (by kernel_rfl) allN
/-- strings.TrimSuffix -/
def stringsTrimSuffix (s : ByteArray) (suffix : ByteArray) : Option ByteArray :=
 (stringsliteTrimSuffix s suffix).bind fun r_1 =>
 some r_1
set_option maxRecDepth 100000 in
theorem stringsTrimSuffix_ok (k : Nat) (s : ByteArray) (suffix : ByteArray) (r : ByteArray) (h : stringsTrimSuffix s suffix = some r) : run0 (k + 3) 67 [(pS s), (pS suffix)] = some (pS r) := by
  unfold stringsTrimSuffix at h
  obtain ⟨r_1, q1, h⟩ := bnd_some h
  obtain rfl := Option.some.inj h
  exact ret_go (k := (k + 2)) Tryz.func67 Tryz.ntmps67 (by kernel_rfl) (by kernel_rfl) (lb rfl) (adv [([], 1, 2, .ret (pS r_1))]) (ex := .ret) (r := (pS r_1)) (by kernel_rfl) rfl (by kernel_rfl) (allC (stringsliteTrimSuffix_ok k s suffix _ q1) allN) (by kernel_rfl) allN
/-- flagstone/route.Join -/
def routeJoin (a : ByteArray) (b : ByteArray) : Option ByteArray :=
 bif (seq a (bs [])) then (
 some b
 ) else (
 (stringsHasPrefix b (bs [47])).bind fun r_1 =>
 bif r_1 then (
 some b
 ) else (
 bif (seq b (bs [])) then (
 some a
 ) else (
 (stringsTrimSuffix a (bs [47])).bind fun r_2 =>
 grd (¬ (((r_2.size + (bs [47]).size : Nat) : Int) > IntKind.i64.max)) <|
 grd (¬ ((((r_2 ++ (bs [47])).size + b.size : Nat) : Int) > IntKind.i64.max)) <|
 some ((r_2 ++ (bs [47])) ++ b)
 )
 )
 )
set_option maxRecDepth 100000 in
theorem routeJoin_ok (k : Nat) (a : ByteArray) (b : ByteArray) (r : ByteArray) (h : routeJoin a b = some r) : run0 (k + 4) 39 [(pS a), (pS b)] = some (pS r) := by
  unfold routeJoin at h
  rcases bif_some h with ⟨q1, h⟩ | ⟨q1, h⟩
  · obtain rfl := Option.some.inj h
    exact ret_go (k := (k + 3)) Tryz.func39 Tryz.ntmps39 (by kernel_rfl) (by kernel_rfl) (lb rfl) (adv [([], 1, 2, .eq (pB true))]) (ex := .ret) (r := (pS b)) (by kernel_rfl) rfl (by kernel_rfl) (allC (cg q1) allN) (by kernel_rfl) allN
  · obtain ⟨r_1, q2, h⟩ := bnd_some h
    rcases bif_some h with ⟨q3, h⟩ | ⟨q3, h⟩
    · obtain rfl := Option.some.inj h
      exact ret_go (k := (k + 3)) Tryz.func39 Tryz.ntmps39 (by kernel_rfl) (by kernel_rfl) (lb rfl) (adv [([], 1, 2, .eq (pB false)), ([], 1, 4, .ret (pB r_1)), ([], 1, 6, .eq (pB true))]) (ex := .ret) (r := (pS b)) (by kernel_rfl) rfl (by kernel_rfl) (allC (cg q1) (allC (stringsHasPrefix_ok (k + 1) b (bs [47]) _ q2) (allC (cg q3) allN))) (by kernel_rfl) allN
    · rcases bif_some h with ⟨q4, h⟩ | ⟨q4, h⟩
      · obtain rfl := Option.some.inj h
        exact ret_go (k := (k + 3)) Tryz.func39 Tryz.ntmps39 (by kernel_rfl) (by kernel_rfl) (lb rfl) (adv [([], 1, 2, .eq (pB false)), ([], 1, 4, .ret (pB r_1)), ([], 1, 6, .eq (pB false)), ([], 3, 2, .eq (pB true))]) (ex := .ret) (r := (pS a)) (by kernel_rfl) rfl (by kernel_rfl) (allC (cg q1) (allC (stringsHasPrefix_ok (k + 1) b (bs [47]) _ q2) (allC (cg q3) (allC (cg q4) allN)))) (by kernel_rfl) allN
      · obtain ⟨r_2, q5, h⟩ := bnd_some h
        obtain ⟨q6, h⟩ := grd_some h
        obtain ⟨q7, h⟩ := grd_some h
        obtain rfl := Option.some.inj h
        exact ret_go (k := (k + 3)) Tryz.func39 Tryz.ntmps39 (by kernel_rfl) (by kernel_rfl) (lb rfl) (adv [([], 1, 2, .eq (pB false)), ([], 1, 4, .ret (pB r_1)), ([], 1, 6, .eq (pB false)), ([], 3, 2, .eq (pB false)), ([], 5, 1, .ret (pS r_2)), ([], 5, 2, .cat), ([], 5, 4, .cat)]) (ex := .ret) (r := (pS ((r_2 ++ (bs [47])) ++ b))) (by kernel_rfl) rfl (by kernel_rfl) (allC (cg q1) (allC (stringsHasPrefix_ok (k + 1) b (bs [47]) _ q2) (allC (cg q3) (allC (cg q4) (allC (stringsTrimSuffix_ok k a (bs [47]) _ q5) (allC q6 (allC q7 allN))))))) (by kernel_rfl) allN
end Go.Proofs.YtfjflodicgjihaaGreatDoor.Den
