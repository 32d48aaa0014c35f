/- Functions, printed by den.py out of the code: plain ones, and that the code answers as they do. -/
import Derived.Test.YtfllhakmjookkaaDenF7
set_option linter.unusedVariables false
set_option linter.unusedSimpArgs false
namespace Go.Proofs.Ytfllhakmjookkaa.Den
open Go Go.RowKit

/- slices.IndexFunc[[]flagstone/entry.Entry,flagstone/entry.Entry]: its loop at region 2 -/
noncomputable def slicesIndexFunc2_L2 : Code := cAt (codeOf Try.f71) [true, false, true, false, false]
def slicesIndexFunc2_R2 (x0 : List (List PV)) (x1 : Int) (x2 : Int) (x3 : List (List PV)) (x4 : Int) (x5 : Int) : St := ⟨envL [(0, (.list 2 false x0)), (1, (.clo 58 [(.ptr [0, TAG] 1 0 0)])), (7, (pI x1)), (8, (pI x2))], hsL [some ⟨3, 24, [[(.list 8 false x3), (pI x4), (pI x5)]], true, false⟩] [0]⟩
theorem slicesIndexFunc2_R2_eq {x0 y0 : List (List PV)} {x1 y1 : Int} {x2 y2 : Int} {x3 y3 : List (List PV)} {x4 y4 : Int} {x5 y5 : Int} (h0 : x0 = y0) (h1 : x1 = y1) (h2 : x2 = y2) (h3 : x3 = y3) (h4 : x4 = y4) (h5 : x5 = y5) : slicesIndexFunc2_R2 x0 x1 x2 x3 x4 x5 = slicesIndexFunc2_R2 y0 y1 y2 y3 y4 y5 := by
  subst h0 h1 h2 h3 h4 h5; rfl
def slicesIndexFunc2_S2 (p0 : (List Ent)) (p1 : Int) : (Int × (List NodeD) × Int × Int) → St
  | (v0, v1, v2, v3) => slicesIndexFunc2_R2 (p0.map entP) p1 v0 (v1.map NodeD.c) v2 v3
def slicesIndexFunc2_b2 (p0 : (List Ent)) (p1 : Int) : (Int × (List NodeD) × Int × Int) → Option ((Int × (List NodeD) × Int × Int) ⊕ ((Int × (List NodeD) × Int × Int × Ent × Bool × (List NodeD) × Int × Int) ⊕ (Int × (List NodeD) × Int × Int)))
  | (v0, v1, v2, v3) =>
    bif (decide (v0 < p1)) then (
      (gt p0 v0).bind fun y_1 =>
      (diskRight31 y_1.name y_1.ino v1 v2 v3).bind fun (r_1, r_2, r_3, r_4) =>
      bif r_1 then (
        some (.inr (.inl (v0, v1, v2, v3, y_1, r_1, r_2, r_3, r_4)))
      ) else (
        some (.inl ((w64 (v0 + (1 : Int))), r_2, r_3, r_4))
      )
    ) else (
      some (.inr (.inr ((v0, v1, v2, v3))))
    )
set_option maxRecDepth 100000 in
theorem slicesIndexFunc2_t2 (k : Nat) (p0 : (List Ent)) (p1 : Int) (a a1 : (Int × (List NodeD) × Int × Int)) (h : slicesIndexFunc2_b2 p0 p1 a = some (.inl a1)) : ∃ σ, run1 (k + 3) 71 1 19 slicesIndexFunc2_L2 (slicesIndexFunc2_S2 p0 p1 a) = some (.normal, σ) ∧ canonS 1 [0, 1, 7, 8] σ = some (slicesIndexFunc2_S2 p0 p1 a1) := by
  obtain ⟨v0, v1, v2, v3⟩ := a
  unfold slicesIndexFunc2_b2 at h
  try dsimp only at h
  rcases bif_some h with ⟨q1, h⟩ | ⟨q1, h⟩
  · skip
    obtain ⟨y_1, q2, h⟩ := bnd_some h
    obtain ⟨X_1, q3, h⟩ := bnd_some h
    rcases X_1 with ⟨r_1, r_2, r_3, r_4⟩
    · try dsimp only at h
      rcases bif_some h with ⟨q4, h⟩ | ⟨q4, h⟩
      · skip
        revert h; subst q4; intro h
        cases h
      · skip
        revert h; subst q4; intro h
        obtain rfl := Sum.inl.inj (Option.some.inj h)
        exact ⟨_, run_go (k := (k + 3)) (f := 71) (r0 := 1) (nt := 19) (c := slicesIndexFunc2_L2) (σ := (slicesIndexFunc2_S2 p0 p1 (v0, v1, v2, v3))) (adv [([], 2, 0, .eq (pB true)), ([], 4, 3, .elem [(pS y_1.name), (pI y_1.ino)]), ([], 4, 5, .retS (pB false) [some ⟨3, 24, [[(.list 8 false (r_2.map NodeD.c)), (pI r_3), (pI r_4)]], true, false⟩] [0])]) (ex := .normal) (by kernel_rfl) (by kernel_rfl) (allC (cg q1) (allC (gt_list (c := entP) q2) (allC (diskRight31_ok k y_1.name y_1.ino v1 v2 v3 _ q3) allN))), (by kernel_rfl)⟩
  · skip
    cases h
/-- slices.IndexFunc[[]flagstone/entry.Entry,flagstone/entry.Entry]: the answer, and what is left of the variables -/
def slicesIndexFunc2 (p0 : (List Ent)) (p1 : (List NodeD)) (p2 : Int) (p3 : Int) : Option (Int × (List NodeD) × Int × Int) :=
  (iterN (slicesIndexFunc2_b2 p0 (p0.length : Int)) LF ((0 : Int), p1, p2, p3)).bind fun X_1 => match X_1 with
  | .inl (v_1, v_2, v_3, v_4, y_1, r_1, r_2, r_3, r_4) => (
    some (v_1, r_2, r_3, r_4)
  )
  | .inr ((v_1, v_2, v_3, v_4)) => (
    some ((-1 : Int), v_2, v_3, v_4)
  )
def slicesIndexFunc2_out : (Int × (List NodeD) × Int × Int) → PV × List (Option Blk) × List Nat
  | (r0, r1, r2, r3) => ((pI r0), [some ⟨3, 24, [[(.list 8 false (r1.map NodeD.c)), (pI r2), (pI r3)]], true, false⟩], [0])
set_option maxRecDepth 100000 in
theorem slicesIndexFunc2_ok (k : Nat) (p0 : (List Ent)) (p1 : (List NodeD)) (p2 : Int) (p3 : Int) (r : (Int × (List NodeD) × Int × Int)) (h : slicesIndexFunc2 p0 p1 p2 p3 = some r) : runS0 (k + 4) 71 [(.list 2 false (p0.map entP)), (.clo 58 [(.ptr [0, TAG] 1 0 0)])] [some ⟨3, 24, [[(.list 8 false (p1.map NodeD.c)), (pI p2), (pI p3)]], true, false⟩] [0] = some (slicesIndexFunc2_out r) := by
  unfold slicesIndexFunc2 at h
  obtain ⟨X_1, q1, h⟩ := bnd_some h
  obtain ⟨a_1, q2, q3⟩ := loop_iter (f := run1 (k + 3) 71 1 19 slicesIndexFunc2_L2) (slicesIndexFunc2_S2 p0 (p0.length : Int)) (slicesIndexFunc2_b2 p0 (p0.length : Int)) (slicesIndexFunc2_t2 k p0 (p0.length : Int)) LF ((0 : Int), p1, p2, p3) _ (stOf (goStop (k + 3) 71 1 19 (adv [([], 1, 1, .eq (pI (p0.length : Int)))]) 2 (codeOf Try.f71) (argB 71 [(.list 2 false (p0.map entP)), (.clo 58 [(.ptr [0, TAG] 1 0 0)])] [some ⟨3, 24, [[(.list 8 false (p1.map NodeD.c)), (pI p2), (pI p3)]], true, false⟩] [0]))) q1 (by kernel_rfl)
  obtain ⟨v_1, v_2, v_3, v_4⟩ := a_1
  unfold slicesIndexFunc2_b2 at q2
  try dsimp only at q2
  rcases bif_some q2 with ⟨q6, q2⟩ | ⟨q6, q2⟩
  · skip
    obtain ⟨y_1, q7, q2⟩ := bnd_some q2
    obtain ⟨X_2, q8, q2⟩ := bnd_some q2
    rcases X_2 with ⟨r_1, r_2, r_3, r_4⟩
    · try dsimp only at q2
      rcases bif_some q2 with ⟨q9, q2⟩ | ⟨q9, q2⟩
      · skip
        revert q2; subst q9; intro q2
        cases q2
        try dsimp only at h
        have q4 := run_go (k := (k + 3)) (f := 71) (r0 := 1) (nt := 19) (c := slicesIndexFunc2_L2) (σ := (slicesIndexFunc2_S2 p0 (p0.length : Int) (v_1, v_2, v_3, v_4))) (adv [([], 2, 0, .eq (pB true)), ([], 4, 3, .elem [(pS y_1.name), (pI y_1.ino)]), ([], 4, 5, .retS (pB true) [some ⟨3, 24, [[(.list 8 false (r_2.map NodeD.c)), (pI r_3), (pI r_4)]], true, false⟩] [0])]) (ex := .ret) (by kernel_rfl) (by kernel_rfl) (allC (cg q6) (allC (gt_list (c := entP) q7) (allC (diskRight31_ok k y_1.name y_1.ino v_2 v_3 v_4 _ q8) allN)))
        have q5 := q3 _ _ (by intro e; cases e) q4
        obtain rfl := Option.some.inj h
        exact retS_go (k := (k + 3)) (n := 1) Try.func71 Try.ntmps71 rfl (by kernel_rfl) (by kernel_rfl) (Nat.le_of_ble_eq_true rfl) (adv [([], 1, 1, .eq (pI (p0.length : Int)))] [([], 2, .ret, (stOf (go (k + 3) 71 1 19 (adv [([], 2, 0, .eq (pB true)), ([], 4, 3, .elem [(pS y_1.name), (pI y_1.ino)]), ([], 4, 5, .retS (pB true) [some ⟨3, 24, [[(.list 8 false (r_2.map NodeD.c)), (pI r_3), (pI r_4)]], true, false⟩] [0])]) slicesIndexFunc2_L2 (slicesIndexFunc2_S2 p0 (p0.length : Int) (v_1, v_2, v_3, v_4)))))]) (ex := .ret) (r := ((pI v_1), [some ⟨3, 24, [[(.list 8 false (r_2.map NodeD.c)), (pI r_3), (pI r_4)]], true, false⟩], [0])) (by kernel_rfl) rfl (by kernel_rfl) (allC (len_ob (rfl : (p0.map entP) = p0.map entP)) (allC q5 allN)) (by kernel_rfl)
      · skip
        revert q2; subst q9; intro q2
        cases q2
  · skip
    cases q2
    try dsimp only at h
    have q4 := run_go (k := (k + 3)) (f := 71) (r0 := 1) (nt := 19) (c := slicesIndexFunc2_L2) (σ := (slicesIndexFunc2_S2 p0 (p0.length : Int) (v_1, v_2, v_3, v_4))) (adv [([], 2, 0, .eq (pB false))]) (ex := (.exit 0)) (by kernel_rfl) (by kernel_rfl) (allC (cg q6) allN)
    have q5 := q3 _ _ (by intro e; cases e) q4
    obtain rfl := Option.some.inj h
    exact retS_go (k := (k + 3)) (n := 1) Try.func71 Try.ntmps71 rfl (by kernel_rfl) (by kernel_rfl) (Nat.le_of_ble_eq_true rfl) (adv [([], 1, 1, .eq (pI (p0.length : Int)))] [([], 2, (.exit 0), (stOf (go (k + 3) 71 1 19 (adv [([], 2, 0, .eq (pB false))]) slicesIndexFunc2_L2 (slicesIndexFunc2_S2 p0 (p0.length : Int) (v_1, v_2, v_3, v_4)))))]) (ex := .ret) (r := ((pI (-1 : Int)), [some ⟨3, 24, [[(.list 8 false (v_2.map NodeD.c)), (pI v_3), (pI v_4)]], true, false⟩], [0])) (by kernel_rfl) rfl (by kernel_rfl) (allC (len_ob (rfl : (p0.map entP) = p0.map entP)) (allC q5 allN)) (by kernel_rfl)

/-- slices.ContainsFunc[[]flagstone/entry.Entry,flagstone/entry.Entry]: the answer, and what is left of the variables -/
def slicesContainsFunc (p0 : (List Ent)) (p1 : (List NodeD)) (p2 : Int) (p3 : Int) : Option (Bool × (List NodeD) × Int × Int) :=
  (slicesIndexFunc2 p0 p1 p2 p3).bind fun (r_1, r_2, r_3, r_4) =>
  some ((decide (r_1 ≥ (0 : Int))), r_2, r_3, r_4)
def slicesContainsFunc_out : (Bool × (List NodeD) × Int × Int) → PV × List (Option Blk) × List Nat
  | (r0, r1, r2, r3) => ((pB r0), [some ⟨3, 24, [[(.list 8 false (r1.map NodeD.c)), (pI r2), (pI r3)]], true, false⟩], [0])
set_option maxRecDepth 100000 in
theorem slicesContainsFunc_ok (k : Nat) (p0 : (List Ent)) (p1 : (List NodeD)) (p2 : Int) (p3 : Int) (r : (Bool × (List NodeD) × Int × Int)) (h : slicesContainsFunc p0 p1 p2 p3 = some r) : runS0 (k + 5) 57 [(.list 2 false (p0.map entP)), (.clo 58 [(.ptr [0, TAG] 1 0 0)])] [some ⟨3, 24, [[(.list 8 false (p1.map NodeD.c)), (pI p2), (pI p3)]], true, false⟩] [0] = some (slicesContainsFunc_out r) := by
  unfold slicesContainsFunc at h
  obtain ⟨X_1, q1, h⟩ := bnd_some h
  rcases X_1 with ⟨r_1, r_2, r_3, r_4⟩
  · try dsimp only at h
    obtain rfl := Option.some.inj h
    exact retS_go (k := (k + 4)) (n := 1) Try.func57 Try.ntmps57 rfl (by kernel_rfl) (by kernel_rfl) (Nat.le_of_ble_eq_true rfl) (adv [([], 1, 2, .retS (pI r_1) [some ⟨3, 24, [[(.list 8 false (r_2.map NodeD.c)), (pI r_3), (pI r_4)]], true, false⟩] [0])]) (ex := .ret) (r := ((pB (decide (r_1 ≥ (0 : Int)))), [some ⟨3, 24, [[(.list 8 false (r_2.map NodeD.c)), (pI r_3), (pI r_4)]], true, false⟩], [0])) (by kernel_rfl) rfl (by kernel_rfl) (allC (slicesIndexFunc2_ok k p0 p1 p2 p3 _ q1) allN) (by kernel_rfl)

/-- flagstone/disk.Right 3: the answer, and what is left of the variables -/
def diskRight3 (p0 : Int) (p1 : Int) (p2 : Int) (p3 : Int) (p4 : Int) (p5 : Int) (p6 : Int) (p7 : ByteArray) (p8 : (List Ent)) (p9 : (List NodeD)) (p10 : Int) (p11 : Int) : Option (Bool × (List NodeD) × Int × Int) :=
  (entrySorted p8).bind fun r_1 =>
  bif r_1 then (
    (slicesContainsFunc p8 p9 p10 p11).bind fun (r_2, r_3, r_4, r_5) =>
    some ((!r_2), r_3, r_4, r_5)
  ) else (
    some (false, p9, p10, p11)
  )
def diskRight3_out : (Bool × (List NodeD) × Int × Int) → PV × List (Option Blk) × List Nat
  | (r0, r1, r2, r3) => ((pB r0), [some ⟨3, 24, [[(.list 8 false (r1.map NodeD.c)), (pI r2), (pI r3)]], true, false⟩], [0])
set_option maxRecDepth 100000 in
theorem diskRight3_ok (k : Nat) (p0 : Int) (p1 : Int) (p2 : Int) (p3 : Int) (p4 : Int) (p5 : Int) (p6 : Int) (p7 : ByteArray) (p8 : (List Ent)) (p9 : (List NodeD)) (p10 : Int) (p11 : Int) (r : (Bool × (List NodeD) × Int × Int)) (h : diskRight3 p0 p1 p2 p3 p4 p5 p6 p7 p8 p9 p10 p11 = some r) : runS0 (k + 6) 56 [(pI p0), (.agg [(pI p1), (pI p2), (pI p3), (pI p4), (pI p5), (pI p6), (pS p7), (.list 2 false (p8.map entP))]), (.ptr [0, TAG] 1 0 0)] [some ⟨3, 24, [[(.list 8 false (p9.map NodeD.c)), (pI p10), (pI p11)]], true, false⟩] [0] = some (diskRight3_out r) := by
  unfold diskRight3 at h
  obtain ⟨r_1, q1, h⟩ := bnd_some h
  rcases bif_some h with ⟨q2, h⟩ | ⟨q2, h⟩
  · skip
    obtain ⟨X_1, q3, h⟩ := bnd_some h
    rcases X_1 with ⟨r_2, r_3, r_4, r_5⟩
    · try dsimp only at h
      obtain rfl := Option.some.inj h
      exact retS_go (k := (k + 5)) (n := 1) Try.func56 Try.ntmps56 rfl (by kernel_rfl) (by kernel_rfl) (Nat.le_of_ble_eq_true rfl) (adv [([], 1, 2, .ret (pB r_1)), ([], 1, 3, .eq (pB true)), ([], 1, 7, .retS (pB r_2) [some ⟨3, 24, [[(.list 8 false (r_3.map NodeD.c)), (pI r_4), (pI r_5)]], true, false⟩] [0])]) (ex := .ret) (r := ((pB (!r_2)), [some ⟨3, 24, [[(.list 8 false (r_3.map NodeD.c)), (pI r_4), (pI r_5)]], true, false⟩], [0])) (by kernel_rfl) rfl (by kernel_rfl) (allC (entrySorted_ok (k + 4) p8 _ q1) (allC (cg q2) (allC (slicesContainsFunc_ok k p8 p9 p10 p11 _ q3) allN))) (by kernel_rfl)
  · skip
    obtain rfl := Option.some.inj h
    exact retS_go (k := (k + 5)) (n := 1) Try.func56 Try.ntmps56 rfl (by kernel_rfl) (by kernel_rfl) (Nat.le_of_ble_eq_true rfl) (adv [([], 1, 2, .ret (pB r_1)), ([], 1, 3, .eq (pB false))]) (ex := .ret) (r := ((pB false), [some ⟨3, 24, [[(.list 8 false (p9.map NodeD.c)), (pI p10), (pI p11)]], true, false⟩], [0])) (by kernel_rfl) rfl (by kernel_rfl) (allC (entrySorted_ok (k + 4) p8 _ q1) (allC (cg q2) allN)) (by kernel_rfl)

/-- flagstone/disk.Right 4: the answer, and what is left of the variables -/
def diskRight4 (p0 : Int) (p1 : Int) (p2 : Int) (p3 : Int) (p4 : Int) (p5 : Int) (p6 : Int) (p7 : ByteArray) (p8 : (List Ent)) (p9 : (List Int)) : Option (Bool × (List Int)) :=
  (gt p9 p0).bind fun y_1 =>
  bif (p4 == y_1) then (
    bif (decide (p4 > (0 : Int))) then (
      some (true, p9)
    ) else (
      some ((decide (p5 > (0 : Int))), p9)
    )
  ) else (
    some (false, p9)
  )
def diskRight4_out : (Bool × (List Int)) → PV × List (Option Blk) × List Nat
  | (r0, r1) => ((pB r0), [some ⟨1, 86, [[(.row [1, TAG] 1 0 r1.length)]], false, false⟩, some ⟨1, 3, (r1.map cI), true, true⟩], [0, 0])
set_option maxRecDepth 100000 in
theorem diskRight4_ok (k : Nat) (p0 : Int) (p1 : Int) (p2 : Int) (p3 : Int) (p4 : Int) (p5 : Int) (p6 : Int) (p7 : ByteArray) (p8 : (List Ent)) (p9 : (List Int)) (r : (Bool × (List Int))) (h : diskRight4 p0 p1 p2 p3 p4 p5 p6 p7 p8 p9 = some r) : runS0 (k + 1) 59 [(pI p0), (.agg [(pI p1), (pI p2), (pI p3), (pI p4), (pI p5), (pI p6), (pS p7), (.list 2 false (p8.map entP))]), (.ptr [0, TAG] 1 0 0)] [some ⟨1, 86, [[(.row [1, TAG] 1 0 p9.length)]], false, false⟩, some ⟨1, 3, (p9.map cI), true, true⟩] [0, 0] = some (diskRight4_out r) := by
  unfold diskRight4 at h
  obtain ⟨y_1, q1, h⟩ := bnd_some h
  rcases bif_some h with ⟨q2, h⟩ | ⟨q2, h⟩
  · skip
    rcases bif_some h with ⟨q3, h⟩ | ⟨q3, h⟩
    · skip
      obtain rfl := Option.some.inj h
      exact retS_go (k := k) (n := 2) Try.func59 Try.ntmps59 rfl (by kernel_rfl) (by kernel_rfl) (Nat.le_of_ble_eq_true rfl) (adv [([], 1, 4, .elem []), ([], 1, 5, .elem [(pI y_1)]), ([], 1, 7, .eq (pB true)), ([], 1, 11, .eq (pB true))]) (ex := .ret) (r := ((pB true), [some ⟨1, 86, [[(.row [1, TAG] 1 0 p9.length)]], false, false⟩, some ⟨1, 3, (p9.map cI), true, true⟩], [0, 0])) (by kernel_rfl) rfl (by kernel_rfl) (allC (gt_row q1 (rfl : p9.length = p9.length)) (allC (gt_load (c := cI) q1 (rfl : (p9.map cI) = p9.map cI)) (allC (cg q2) (allC (cg q3) allN)))) (by kernel_rfl)
    · skip
      obtain rfl := Option.some.inj h
      exact retS_go (k := k) (n := 2) Try.func59 Try.ntmps59 rfl (by kernel_rfl) (by kernel_rfl) (Nat.le_of_ble_eq_true rfl) (adv [([], 1, 4, .elem []), ([], 1, 5, .elem [(pI y_1)]), ([], 1, 7, .eq (pB true)), ([], 1, 11, .eq (pB false))]) (ex := .ret) (r := ((pB (decide (p5 > (0 : Int)))), [some ⟨1, 86, [[(.row [1, TAG] 1 0 p9.length)]], false, false⟩, some ⟨1, 3, (p9.map cI), true, true⟩], [0, 0])) (by kernel_rfl) rfl (by kernel_rfl) (allC (gt_row q1 (rfl : p9.length = p9.length)) (allC (gt_load (c := cI) q1 (rfl : (p9.map cI) = p9.map cI)) (allC (cg q2) (allC (cg q3) allN)))) (by kernel_rfl)
  · skip
    obtain rfl := Option.some.inj h
    exact retS_go (k := k) (n := 2) Try.func59 Try.ntmps59 rfl (by kernel_rfl) (by kernel_rfl) (Nat.le_of_ble_eq_true rfl) (adv [([], 1, 4, .elem []), ([], 1, 5, .elem [(pI y_1)]), ([], 1, 7, .eq (pB false))]) (ex := .ret) (r := ((pB false), [some ⟨1, 86, [[(.row [1, TAG] 1 0 p9.length)]], false, false⟩, some ⟨1, 3, (p9.map cI), true, true⟩], [0, 0])) (by kernel_rfl) rfl (by kernel_rfl) (allC (gt_row q1 (rfl : p9.length = p9.length)) (allC (gt_load (c := cI) q1 (rfl : (p9.map cI) = p9.map cI)) (allC (cg q2) allN))) (by kernel_rfl)

/-- flagstone/disk.Right 5: the answer, and what is left of the variables -/
def diskRight5 (p0 : Int) (p1 : Int) (p2 : Int) (p3 : Int) (p4 : Int) (p5 : Int) (p6 : Int) (p7 : ByteArray) (p8 : (List Ent)) (p9 : (List Int)) : Option (Bool × (List Int)) :=
  bif (p1 != (2 : Int)) then (
    some (true, p9)
  ) else (
    (gt p9 p0).bind fun y_1 =>
    bif (y_1 != (0 : Int)) then (
      some (true, p9)
    ) else (
      bif (p6 == (0 : Int)) then (
        some (((p8.length : Int) == (0 : Int)), p9)
      ) else (
        some (false, p9)
      )
    )
  )
def diskRight5_out : (Bool × (List Int)) → PV × List (Option Blk) × List Nat
  | (r0, r1) => ((pB r0), [some ⟨1, 86, [[(.row [1, TAG] 1 0 r1.length)]], false, false⟩, some ⟨1, 3, (r1.map cI), true, true⟩], [0, 0])
set_option maxRecDepth 100000 in
theorem diskRight5_ok (k : Nat) (p0 : Int) (p1 : Int) (p2 : Int) (p3 : Int) (p4 : Int) (p5 : Int) (p6 : Int) (p7 : ByteArray) (p8 : (List Ent)) (p9 : (List Int)) (r : (Bool × (List Int))) (h : diskRight5 p0 p1 p2 p3 p4 p5 p6 p7 p8 p9 = some r) : runS0 (k + 1) 60 [(pI p0), (.agg [(pI p1), (pI p2), (pI p3), (pI p4), (pI p5), (pI p6), (pS p7), (.list 2 false (p8.map entP))]), (.ptr [0, TAG] 1 0 0)] [some ⟨1, 86, [[(.row [1, TAG] 1 0 p9.length)]], false, false⟩, some ⟨1, 3, (p9.map cI), true, true⟩] [0, 0] = some (diskRight5_out r) := by
  unfold diskRight5 at h
  rcases bif_some h with ⟨q1, h⟩ | ⟨q1, h⟩
  · skip
    obtain rfl := Option.some.inj h
    exact retS_go (k := k) (n := 2) Try.func60 Try.ntmps60 rfl (by kernel_rfl) (by kernel_rfl) (Nat.le_of_ble_eq_true rfl) (adv [([], 1, 3, .eq (pB true))]) (ex := .ret) (r := ((pB true), [some ⟨1, 86, [[(.row [1, TAG] 1 0 p9.length)]], false, false⟩, some ⟨1, 3, (p9.map cI), true, true⟩], [0, 0])) (by kernel_rfl) rfl (by kernel_rfl) (allC (cg q1) allN) (by kernel_rfl)
  · skip
    obtain ⟨y_1, q2, h⟩ := bnd_some h
    rcases bif_some h with ⟨q3, h⟩ | ⟨q3, h⟩
    · skip
      obtain rfl := Option.some.inj h
      exact retS_go (k := k) (n := 2) Try.func60 Try.ntmps60 rfl (by kernel_rfl) (by kernel_rfl) (Nat.le_of_ble_eq_true rfl) (adv [([], 1, 3, .eq (pB false)), ([], 1, 6, .elem []), ([], 1, 7, .elem [(pI y_1)]), ([], 1, 10, .eq (pB true))]) (ex := .ret) (r := ((pB true), [some ⟨1, 86, [[(.row [1, TAG] 1 0 p9.length)]], false, false⟩, some ⟨1, 3, (p9.map cI), true, true⟩], [0, 0])) (by kernel_rfl) rfl (by kernel_rfl) (allC (cg q1) (allC (gt_row q2 (rfl : p9.length = p9.length)) (allC (gt_load (c := cI) q2 (rfl : (p9.map cI) = p9.map cI)) (allC (cg q3) allN)))) (by kernel_rfl)
    · skip
      rcases bif_some h with ⟨q4, h⟩ | ⟨q4, h⟩
      · skip
        obtain rfl := Option.some.inj h
        exact retS_go (k := k) (n := 2) Try.func60 Try.ntmps60 rfl (by kernel_rfl) (by kernel_rfl) (Nat.le_of_ble_eq_true rfl) (adv [([], 1, 3, .eq (pB false)), ([], 1, 6, .elem []), ([], 1, 7, .elem [(pI y_1)]), ([], 1, 10, .eq (pB false)), ([], 1, 14, .eq (pB true)), ([], 1, 17, .eq (pI (p8.length : Int)))]) (ex := .ret) (r := ((pB ((p8.length : Int) == (0 : Int))), [some ⟨1, 86, [[(.row [1, TAG] 1 0 p9.length)]], false, false⟩, some ⟨1, 3, (p9.map cI), true, true⟩], [0, 0])) (by kernel_rfl) rfl (by kernel_rfl) (allC (cg q1) (allC (gt_row q2 (rfl : p9.length = p9.length)) (allC (gt_load (c := cI) q2 (rfl : (p9.map cI) = p9.map cI)) (allC (cg q3) (allC (cg q4) (allC (len_ob (rfl : (p8.map entP) = p8.map entP)) allN)))))) (by kernel_rfl)
      · skip
        obtain rfl := Option.some.inj h
        exact retS_go (k := k) (n := 2) Try.func60 Try.ntmps60 rfl (by kernel_rfl) (by kernel_rfl) (Nat.le_of_ble_eq_true rfl) (adv [([], 1, 3, .eq (pB false)), ([], 1, 6, .elem []), ([], 1, 7, .elem [(pI y_1)]), ([], 1, 10, .eq (pB false)), ([], 1, 14, .eq (pB false))]) (ex := .ret) (r := ((pB false), [some ⟨1, 86, [[(.row [1, TAG] 1 0 p9.length)]], false, false⟩, some ⟨1, 3, (p9.map cI), true, true⟩], [0, 0])) (by kernel_rfl) rfl (by kernel_rfl) (allC (cg q1) (allC (gt_row q2 (rfl : p9.length = p9.length)) (allC (gt_load (c := cI) q2 (rfl : (p9.map cI) = p9.map cI)) (allC (cg q3) (allC (cg q4) allN))))) (by kernel_rfl)

/- (flagstone/disk.Disk).rooted: its loop at region 2 -/
noncomputable def diskDiskRooted_L2 : Code := cAt (codeOf Try.f62) [true, false, true, false, false]
def diskDiskRooted_R2 (x0 : Int) (x1 : Int) (x2 : Int) (x3 : List (List PV)) (x4 : Int) (x5 : Int) : St := ⟨envL [(1, (pI x0)), (2, (.ptr [0, TAG] 1 0 0)), (9, (pI x1)), (10, (pI x2))], hsL [some ⟨3, 24, [[(.list 8 false x3), (pI x4), (pI x5)]], true, false⟩] [0]⟩
theorem diskDiskRooted_R2_eq {x0 y0 : Int} {x1 y1 : Int} {x2 y2 : Int} {x3 y3 : List (List PV)} {x4 y4 : Int} {x5 y5 : Int} (h0 : x0 = y0) (h1 : x1 = y1) (h2 : x2 = y2) (h3 : x3 = y3) (h4 : x4 = y4) (h5 : x5 = y5) : diskDiskRooted_R2 x0 x1 x2 x3 x4 x5 = diskDiskRooted_R2 y0 y1 y2 y3 y4 y5 := by
  subst h0 h1 h2 h3 h4 h5; rfl
def diskDiskRooted_S2 (p0 : Int) (p1 : (List NodeD)) (p2 : Int) (p3 : Int) : (Int × Int) → St
  | (v0, v1) => diskDiskRooted_R2 v0 p0 v1 (p1.map NodeD.c) p2 p3
def diskDiskRooted_b2 (p0 : Int) (p1 : (List NodeD)) (p2 : Int) (p3 : Int) : (Int × Int) → Option ((Int × Int) ⊕ ((Int × Int × NodeD × Bool) ⊕ (Int × Int × NodeD × Bool) ⊕ (Int × Int × NodeD × Bool) ⊕ (Int × Int)))
  | (v0, v1) =>
    bif (decide (v1 < p0)) then (
      (diskGet (DiskD.mk p1 p2 p3) v0).bind fun (r_1, r_2) =>
      bif (v0 == (0 : Int)) then (
        some (.inr (.inl (v0, v1, r_1, r_2)))
      ) else (
        bif (!r_2) then (
          some (.inr (.inr (.inl (v0, v1, r_1, r_2))))
        ) else (
          bif (r_1.kind != (2 : Int)) then (
            some (.inr (.inr (.inr (.inl (v0, v1, r_1, r_2)))))
          ) else (
            some (.inl (r_1.up, (w64 (v1 + (1 : Int)))))
          )
        )
      )
    ) else (
      some (.inr (.inr (.inr (.inr ((v0, v1))))))
    )
set_option maxRecDepth 100000 in
theorem diskDiskRooted_t2 (k : Nat) (p0 : Int) (p1 : (List NodeD)) (p2 : Int) (p3 : Int) (a a1 : (Int × Int)) (h : diskDiskRooted_b2 p0 p1 p2 p3 a = some (.inl a1)) : ∃ σ, run1 (k + 2) 62 0 34 diskDiskRooted_L2 (diskDiskRooted_S2 p0 p1 p2 p3 a) = some (.normal, σ) ∧ canonS 0 [1, 2, 9, 10] σ = some (diskDiskRooted_S2 p0 p1 p2 p3 a1) := by
  obtain ⟨v0, v1⟩ := a
  unfold diskDiskRooted_b2 at h
  try dsimp only at h
  rcases bif_some h with ⟨q1, h⟩ | ⟨q1, h⟩
  · skip
    obtain ⟨⟨r_1, r_2⟩, q2, h⟩ := bnd_some h
    try dsimp only at h
    rcases bif_some h with ⟨q3, h⟩ | ⟨q3, h⟩
    · skip
      cases h
    · skip
      rcases bif_some h with ⟨q4, h⟩ | ⟨q4, h⟩
      · skip
        cases h
      · skip
        rcases bif_some h with ⟨q5, h⟩ | ⟨q5, h⟩
        · skip
          cases h
        · skip
          obtain rfl := Sum.inl.inj (Option.some.inj h)
          exact ⟨_, run_go (k := (k + 2)) (f := 62) (r0 := 0) (nt := 34) (c := diskDiskRooted_L2) (σ := (diskDiskRooted_S2 p0 p1 p2 p3 (v0, v1))) (adv [([], 2, 0, .eq (pB true)), ([], 3, 2, .ret (.tup [(.agg [(pI r_1.kind), (pI r_1.modeF), (pI r_1.owner), (pI r_1.links), (pI r_1.openF), (pI r_1.up), (pS r_1.data), (.list 2 false (r_1.names.map entP))]), (pB r_2)])), ([], 4, 2, .eq (pB false)), ([], 4, 6, .eq (pB false)), ([], 4, 10, .eq (pB false))]) (ex := .normal) (by kernel_rfl) (by kernel_rfl) (allC (cg q1) (allC (diskGet_ok k (DiskD.mk p1 p2 p3) v0 _ q2) (allC (cg q3) (allC (cg q4) (allC (cg q5) allN))))), (by kernel_rfl)⟩
  · skip
    cases h
/-- (flagstone/disk.Disk).rooted -/
def diskDiskRooted (d : DiskD) (i : Int) : Option Bool :=
  (iterN (diskDiskRooted_b2 (d.nodes.length : Int) d.nodes d.most d.room) LF (i, (0 : Int))).bind fun X_1 => match X_1 with
  | .inl (v_1, v_2, r_1, r_2) => (
    some (v_1 == (0 : Int))
  )
  | .inr (.inl (v_1, v_2, r_1, r_2)) => (
    some (v_1 == (0 : Int))
  )
  | .inr (.inr (.inl (v_1, v_2, r_1, r_2))) => (
    some (v_1 == (0 : Int))
  )
  | .inr (.inr (.inr ((v_1, v_2)))) => (
    some (v_1 == (0 : Int))
  )
set_option maxRecDepth 100000 in
theorem diskDiskRooted_ok (k : Nat) (d : DiskD) (i : Int) (r : Bool) (h : diskDiskRooted d i = some r) : run0 (k + 3) 62 [(.agg [(.list 8 false (d.nodes.map NodeD.c)), (pI d.most), (pI d.room)]), (pI i)] = some (pB r) := by
  unfold diskDiskRooted at h
  obtain ⟨X_1, q1, h⟩ := bnd_some h
  obtain ⟨a_1, q2, q3⟩ := loop_iter (f := run1 (k + 2) 62 0 34 diskDiskRooted_L2) (diskDiskRooted_S2 (d.nodes.length : Int) d.nodes d.most d.room) (diskDiskRooted_b2 (d.nodes.length : Int) d.nodes d.most d.room) (diskDiskRooted_t2 k (d.nodes.length : Int) d.nodes d.most d.room) LF (i, (0 : Int)) _ (stOf (goStop (k + 2) 62 0 34 (adv [([], 1, 2, .eq (pI (d.nodes.length : Int)))]) 2 (codeOf Try.f62) (argS 62 [(.agg [(.list 8 false (d.nodes.map NodeD.c)), (pI d.most), (pI d.room)]), (pI i)]))) q1 (by kernel_rfl)
  obtain ⟨v_1, v_2⟩ := a_1
  unfold diskDiskRooted_b2 at q2
  try dsimp only at q2
  rcases bif_some q2 with ⟨q6, q2⟩ | ⟨q6, q2⟩
  · skip
    obtain ⟨⟨r_1, r_2⟩, q7, q2⟩ := bnd_some q2
    try dsimp only at q2
    rcases bif_some q2 with ⟨q8, q2⟩ | ⟨q8, q2⟩
    · skip
      cases q2
      try dsimp only at h
      have q4 := run_go (k := (k + 2)) (f := 62) (r0 := 0) (nt := 34) (c := diskDiskRooted_L2) (σ := (diskDiskRooted_S2 (d.nodes.length : Int) d.nodes d.most d.room (v_1, v_2))) (adv [([], 2, 0, .eq (pB true)), ([], 3, 2, .ret (.tup [(.agg [(pI r_1.kind), (pI r_1.modeF), (pI r_1.owner), (pI r_1.links), (pI r_1.openF), (pI r_1.up), (pS r_1.data), (.list 2 false (r_1.names.map entP))]), (pB r_2)])), ([], 4, 2, .eq (pB true))]) (ex := (.exit 0)) (by kernel_rfl) (by kernel_rfl) (allC (cg q6) (allC (diskGet_ok k d v_1 _ q7) (allC (cg q8) allN)))
      have q5 := q3 _ _ (by intro e; cases e) q4
      obtain rfl := Option.some.inj h
      exact ret_go (k := (k + 2)) Try.func62 Try.ntmps62 (by kernel_rfl) (by kernel_rfl) (Nat.le_of_ble_eq_true rfl) (adv [([], 1, 2, .eq (pI (d.nodes.length : Int)))] [([], 2, (.exit 0), (stOf (go (k + 2) 62 0 34 (adv [([], 2, 0, .eq (pB true)), ([], 3, 2, .ret (.tup [(.agg [(pI r_1.kind), (pI r_1.modeF), (pI r_1.owner), (pI r_1.links), (pI r_1.openF), (pI r_1.up), (pS r_1.data), (.list 2 false (r_1.names.map entP))]), (pB r_2)])), ([], 4, 2, .eq (pB true))]) diskDiskRooted_L2 (diskDiskRooted_S2 (d.nodes.length : Int) d.nodes d.most d.room (v_1, v_2)))))]) (ex := .ret) (r := (pB (v_1 == (0 : Int)))) (by kernel_rfl) rfl (by kernel_rfl) (allC (len_ob (rfl : (d.nodes.map NodeD.c) = d.nodes.map NodeD.c)) (allC q5 allN)) (by kernel_rfl) allN
    · skip
      rcases bif_some q2 with ⟨q9, q2⟩ | ⟨q9, q2⟩
      · skip
        cases q2
        try dsimp only at h
        have q4 := run_go (k := (k + 2)) (f := 62) (r0 := 0) (nt := 34) (c := diskDiskRooted_L2) (σ := (diskDiskRooted_S2 (d.nodes.length : Int) d.nodes d.most d.room (v_1, v_2))) (adv [([], 2, 0, .eq (pB true)), ([], 3, 2, .ret (.tup [(.agg [(pI r_1.kind), (pI r_1.modeF), (pI r_1.owner), (pI r_1.links), (pI r_1.openF), (pI r_1.up), (pS r_1.data), (.list 2 false (r_1.names.map entP))]), (pB r_2)])), ([], 4, 2, .eq (pB false)), ([], 4, 6, .eq (pB true))]) (ex := (.exit 0)) (by kernel_rfl) (by kernel_rfl) (allC (cg q6) (allC (diskGet_ok k d v_1 _ q7) (allC (cg q8) (allC (cg q9) allN))))
        have q5 := q3 _ _ (by intro e; cases e) q4
        obtain rfl := Option.some.inj h
        exact ret_go (k := (k + 2)) Try.func62 Try.ntmps62 (by kernel_rfl) (by kernel_rfl) (Nat.le_of_ble_eq_true rfl) (adv [([], 1, 2, .eq (pI (d.nodes.length : Int)))] [([], 2, (.exit 0), (stOf (go (k + 2) 62 0 34 (adv [([], 2, 0, .eq (pB true)), ([], 3, 2, .ret (.tup [(.agg [(pI r_1.kind), (pI r_1.modeF), (pI r_1.owner), (pI r_1.links), (pI r_1.openF), (pI r_1.up), (pS r_1.data), (.list 2 false (r_1.names.map entP))]), (pB r_2)])), ([], 4, 2, .eq (pB false)), ([], 4, 6, .eq (pB true))]) diskDiskRooted_L2 (diskDiskRooted_S2 (d.nodes.length : Int) d.nodes d.most d.room (v_1, v_2)))))]) (ex := .ret) (r := (pB (v_1 == (0 : Int)))) (by kernel_rfl) rfl (by kernel_rfl) (allC (len_ob (rfl : (d.nodes.map NodeD.c) = d.nodes.map NodeD.c)) (allC q5 allN)) (by kernel_rfl) allN
      · skip
        rcases bif_some q2 with ⟨q10, q2⟩ | ⟨q10, q2⟩
        · skip
          cases q2
          try dsimp only at h
          have q4 := run_go (k := (k + 2)) (f := 62) (r0 := 0) (nt := 34) (c := diskDiskRooted_L2) (σ := (diskDiskRooted_S2 (d.nodes.length : Int) d.nodes d.most d.room (v_1, v_2))) (adv [([], 2, 0, .eq (pB true)), ([], 3, 2, .ret (.tup [(.agg [(pI r_1.kind), (pI r_1.modeF), (pI r_1.owner), (pI r_1.links), (pI r_1.openF), (pI r_1.up), (pS r_1.data), (.list 2 false (r_1.names.map entP))]), (pB r_2)])), ([], 4, 2, .eq (pB false)), ([], 4, 6, .eq (pB false)), ([], 4, 10, .eq (pB true))]) (ex := (.exit 0)) (by kernel_rfl) (by kernel_rfl) (allC (cg q6) (allC (diskGet_ok k d v_1 _ q7) (allC (cg q8) (allC (cg q9) (allC (cg q10) allN)))))
          have q5 := q3 _ _ (by intro e; cases e) q4
          obtain rfl := Option.some.inj h
          exact ret_go (k := (k + 2)) Try.func62 Try.ntmps62 (by kernel_rfl) (by kernel_rfl) (Nat.le_of_ble_eq_true rfl) (adv [([], 1, 2, .eq (pI (d.nodes.length : Int)))] [([], 2, (.exit 0), (stOf (go (k + 2) 62 0 34 (adv [([], 2, 0, .eq (pB true)), ([], 3, 2, .ret (.tup [(.agg [(pI r_1.kind), (pI r_1.modeF), (pI r_1.owner), (pI r_1.links), (pI r_1.openF), (pI r_1.up), (pS r_1.data), (.list 2 false (r_1.names.map entP))]), (pB r_2)])), ([], 4, 2, .eq (pB false)), ([], 4, 6, .eq (pB false)), ([], 4, 10, .eq (pB true))]) diskDiskRooted_L2 (diskDiskRooted_S2 (d.nodes.length : Int) d.nodes d.most d.room (v_1, v_2)))))]) (ex := .ret) (r := (pB (v_1 == (0 : Int)))) (by kernel_rfl) rfl (by kernel_rfl) (allC (len_ob (rfl : (d.nodes.map NodeD.c) = d.nodes.map NodeD.c)) (allC q5 allN)) (by kernel_rfl) allN
        · skip
          cases q2
  · skip
    cases q2
    try dsimp only at h
    have q4 := run_go (k := (k + 2)) (f := 62) (r0 := 0) (nt := 34) (c := diskDiskRooted_L2) (σ := (diskDiskRooted_S2 (d.nodes.length : Int) d.nodes d.most d.room (v_1, v_2))) (adv [([], 2, 0, .eq (pB false))]) (ex := (.exit 0)) (by kernel_rfl) (by kernel_rfl) (allC (cg q6) allN)
    have q5 := q3 _ _ (by intro e; cases e) q4
    obtain rfl := Option.some.inj h
    exact ret_go (k := (k + 2)) Try.func62 Try.ntmps62 (by kernel_rfl) (by kernel_rfl) (Nat.le_of_ble_eq_true rfl) (adv [([], 1, 2, .eq (pI (d.nodes.length : Int)))] [([], 2, (.exit 0), (stOf (go (k + 2) 62 0 34 (adv [([], 2, 0, .eq (pB false))]) diskDiskRooted_L2 (diskDiskRooted_S2 (d.nodes.length : Int) d.nodes d.most d.room (v_1, v_2)))))]) (ex := .ret) (r := (pB (v_1 == (0 : Int)))) (by kernel_rfl) rfl (by kernel_rfl) (allC (len_ob (rfl : (d.nodes.map NodeD.c) = d.nodes.map NodeD.c)) (allC q5 allN)) (by kernel_rfl) allN

/-- flagstone/disk.Right 6: the answer, and what is left of the variables -/
def diskRight6 (p0 : Int) (p1 : Int) (p2 : Int) (p3 : Int) (p4 : Int) (p5 : Int) (p6 : Int) (p7 : ByteArray) (p8 : (List Ent)) (p9 : (List NodeD)) (p10 : Int) (p11 : Int) (p12 : (List Int)) (p13 : (List Int)) : Option (Bool × (List NodeD) × Int × Int × (List Int) × (List Int)) :=
  bif (p1 != (2 : Int)) then (
    some (true, p9, p10, p11, p12, p13)
  ) else (
    bif (p0 == (0 : Int)) then (
      some (true, p9, p10, p11, p12, p13)
    ) else (
      (gt p12 p0).bind fun y_1 =>
      bif (y_1 == (0 : Int)) then (
        some (true, p9, p10, p11, p12, p13)
      ) else (
        (gt p12 p0).bind fun y_2 =>
        bif (y_2 == (1 : Int)) then (
          (gt p13 p0).bind fun y_3 =>
          bif (p6 == y_3) then (
            (diskDiskRooted (DiskD.mk p9 p10 p11) p0).bind fun r_1 =>
            some (r_1, p9, p10, p11, p12, p13)
          ) else (
            some (false, p9, p10, p11, p12, p13)
          )
        ) else (
          some (false, p9, p10, p11, p12, p13)
        )
      )
    )
  )
def diskRight6_out : (Bool × (List NodeD) × Int × Int × (List Int) × (List Int)) → PV × List (Option Blk) × List Nat
  | (r0, r1, r2, r3, r4, r5) => ((pB r0), [some ⟨1, 86, [[(.row [3, TAG] 1 0 r4.length)]], false, false⟩, some ⟨1, 86, [[(.row [4, TAG] 1 0 r5.length)]], false, false⟩, some ⟨3, 24, [[(.list 8 false (r1.map NodeD.c)), (pI r2), (pI r3)]], true, false⟩, some ⟨1, 3, (r4.map cI), true, true⟩, some ⟨1, 3, (r5.map cI), true, true⟩], [0, 0, 0, 0, 0])
set_option maxRecDepth 100000 in
theorem diskRight6_ok (k : Nat) (p0 : Int) (p1 : Int) (p2 : Int) (p3 : Int) (p4 : Int) (p5 : Int) (p6 : Int) (p7 : ByteArray) (p8 : (List Ent)) (p9 : (List NodeD)) (p10 : Int) (p11 : Int) (p12 : (List Int)) (p13 : (List Int)) (r : (Bool × (List NodeD) × Int × Int × (List Int) × (List Int))) (h : diskRight6 p0 p1 p2 p3 p4 p5 p6 p7 p8 p9 p10 p11 p12 p13 = some r) : runS0 (k + 4) 61 [(pI p0), (.agg [(pI p1), (pI p2), (pI p3), (pI p4), (pI p5), (pI p6), (pS p7), (.list 2 false (p8.map entP))]), (.ptr [0, TAG] 1 0 0), (.ptr [1, TAG] 1 0 0), (.ptr [2, TAG] 1 0 0)] [some ⟨1, 86, [[(.row [3, TAG] 1 0 p12.length)]], false, false⟩, some ⟨1, 86, [[(.row [4, TAG] 1 0 p13.length)]], false, false⟩, some ⟨3, 24, [[(.list 8 false (p9.map NodeD.c)), (pI p10), (pI p11)]], true, false⟩, some ⟨1, 3, (p12.map cI), true, true⟩, some ⟨1, 3, (p13.map cI), true, true⟩] [0, 0, 0, 0, 0] = some (diskRight6_out r) := by
  unfold diskRight6 at h
  rcases bif_some h with ⟨q1, h⟩ | ⟨q1, h⟩
  · skip
    obtain rfl := Option.some.inj h
    exact retS_go (k := (k + 3)) (n := 5) Try.func61 Try.ntmps61 rfl (by kernel_rfl) (by kernel_rfl) (Nat.le_of_ble_eq_true rfl) (adv [([], 1, 3, .eq (pB true))]) (ex := .ret) (r := ((pB true), [some ⟨1, 86, [[(.row [3, TAG] 1 0 p12.length)]], false, false⟩, some ⟨1, 86, [[(.row [4, TAG] 1 0 p13.length)]], false, false⟩, some ⟨3, 24, [[(.list 8 false (p9.map NodeD.c)), (pI p10), (pI p11)]], true, false⟩, some ⟨1, 3, (p12.map cI), true, true⟩, some ⟨1, 3, (p13.map cI), true, true⟩], [0, 0, 0, 0, 0])) (by kernel_rfl) rfl (by kernel_rfl) (allC (cg q1) allN) (by kernel_rfl)
  · skip
    rcases bif_some h with ⟨q2, h⟩ | ⟨q2, h⟩
    · skip
      obtain rfl := Option.some.inj h
      exact retS_go (k := (k + 3)) (n := 5) Try.func61 Try.ntmps61 rfl (by kernel_rfl) (by kernel_rfl) (Nat.le_of_ble_eq_true rfl) (adv [([], 1, 3, .eq (pB false)), ([], 1, 7, .eq (pB true))]) (ex := .ret) (r := ((pB true), [some ⟨1, 86, [[(.row [3, TAG] 1 0 p12.length)]], false, false⟩, some ⟨1, 86, [[(.row [4, TAG] 1 0 p13.length)]], false, false⟩, some ⟨3, 24, [[(.list 8 false (p9.map NodeD.c)), (pI p10), (pI p11)]], true, false⟩, some ⟨1, 3, (p12.map cI), true, true⟩, some ⟨1, 3, (p13.map cI), true, true⟩], [0, 0, 0, 0, 0])) (by kernel_rfl) rfl (by kernel_rfl) (allC (cg q1) (allC (cg q2) allN)) (by kernel_rfl)
    · skip
      obtain ⟨y_1, q3, h⟩ := bnd_some h
      rcases bif_some h with ⟨q4, h⟩ | ⟨q4, h⟩
      · skip
        obtain rfl := Option.some.inj h
        exact retS_go (k := (k + 3)) (n := 5) Try.func61 Try.ntmps61 rfl (by kernel_rfl) (by kernel_rfl) (Nat.le_of_ble_eq_true rfl) (adv [([], 1, 3, .eq (pB false)), ([], 1, 7, .eq (pB false)), ([], 1, 10, .elem []), ([], 1, 11, .elem [(pI y_1)]), ([], 1, 14, .eq (pB true))]) (ex := .ret) (r := ((pB true), [some ⟨1, 86, [[(.row [3, TAG] 1 0 p12.length)]], false, false⟩, some ⟨1, 86, [[(.row [4, TAG] 1 0 p13.length)]], false, false⟩, some ⟨3, 24, [[(.list 8 false (p9.map NodeD.c)), (pI p10), (pI p11)]], true, false⟩, some ⟨1, 3, (p12.map cI), true, true⟩, some ⟨1, 3, (p13.map cI), true, true⟩], [0, 0, 0, 0, 0])) (by kernel_rfl) rfl (by kernel_rfl) (allC (cg q1) (allC (cg q2) (allC (gt_row q3 (rfl : p12.length = p12.length)) (allC (gt_load (c := cI) q3 (rfl : (p12.map cI) = p12.map cI)) (allC (cg q4) allN))))) (by kernel_rfl)
      · skip
        obtain ⟨y_2, q5, h⟩ := bnd_some h
        rcases bif_some h with ⟨q6, h⟩ | ⟨q6, h⟩
        · skip
          obtain ⟨y_3, q7, h⟩ := bnd_some h
          rcases bif_some h with ⟨q8, h⟩ | ⟨q8, h⟩
          · skip
            obtain ⟨r_1, q9, h⟩ := bnd_some h
            obtain rfl := Option.some.inj h
            exact retS_go (k := (k + 3)) (n := 5) Try.func61 Try.ntmps61 rfl (by kernel_rfl) (by kernel_rfl) (Nat.le_of_ble_eq_true rfl) (adv [([], 1, 3, .eq (pB false)), ([], 1, 7, .eq (pB false)), ([], 1, 10, .elem []), ([], 1, 11, .elem [(pI y_1)]), ([], 1, 14, .eq (pB false)), ([], 1, 17, .elem []), ([], 1, 18, .elem [(pI y_2)]), ([], 1, 20, .eq (pB true)), ([], 1, 25, .elem []), ([], 1, 26, .elem [(pI y_3)]), ([], 1, 29, .eq (pB true)), ([], 1, 32, .ret (pB r_1))]) (ex := .ret) (r := ((pB r_1), [some ⟨1, 86, [[(.row [3, TAG] 1 0 p12.length)]], false, false⟩, some ⟨1, 86, [[(.row [4, TAG] 1 0 p13.length)]], false, false⟩, some ⟨3, 24, [[(.list 8 false (p9.map NodeD.c)), (pI p10), (pI p11)]], true, false⟩, some ⟨1, 3, (p12.map cI), true, true⟩, some ⟨1, 3, (p13.map cI), true, true⟩], [0, 0, 0, 0, 0])) (by kernel_rfl) rfl (by kernel_rfl) (allC (cg q1) (allC (cg q2) (allC (gt_row q3 (rfl : p12.length = p12.length)) (allC (gt_load (c := cI) q3 (rfl : (p12.map cI) = p12.map cI)) (allC (cg q4) (allC (gt_row q5 (rfl : p12.length = p12.length)) (allC (gt_load (c := cI) q5 (rfl : (p12.map cI) = p12.map cI)) (allC (cg q6) (allC (gt_row q7 (rfl : p13.length = p13.length)) (allC (gt_load (c := cI) q7 (rfl : (p13.map cI) = p13.map cI)) (allC (cg q8) (allC (diskDiskRooted_ok k (DiskD.mk p9 p10 p11) p0 _ q9) allN)))))))))))) (by kernel_rfl)
          · skip
            obtain rfl := Option.some.inj h
            exact retS_go (k := (k + 3)) (n := 5) Try.func61 Try.ntmps61 rfl (by kernel_rfl) (by kernel_rfl) (Nat.le_of_ble_eq_true rfl) (adv [([], 1, 3, .eq (pB false)), ([], 1, 7, .eq (pB false)), ([], 1, 10, .elem []), ([], 1, 11, .elem [(pI y_1)]), ([], 1, 14, .eq (pB false)), ([], 1, 17, .elem []), ([], 1, 18, .elem [(pI y_2)]), ([], 1, 20, .eq (pB true)), ([], 1, 25, .elem []), ([], 1, 26, .elem [(pI y_3)]), ([], 1, 29, .eq (pB false))]) (ex := .ret) (r := ((pB false), [some ⟨1, 86, [[(.row [3, TAG] 1 0 p12.length)]], false, false⟩, some ⟨1, 86, [[(.row [4, TAG] 1 0 p13.length)]], false, false⟩, some ⟨3, 24, [[(.list 8 false (p9.map NodeD.c)), (pI p10), (pI p11)]], true, false⟩, some ⟨1, 3, (p12.map cI), true, true⟩, some ⟨1, 3, (p13.map cI), true, true⟩], [0, 0, 0, 0, 0])) (by kernel_rfl) rfl (by kernel_rfl) (allC (cg q1) (allC (cg q2) (allC (gt_row q3 (rfl : p12.length = p12.length)) (allC (gt_load (c := cI) q3 (rfl : (p12.map cI) = p12.map cI)) (allC (cg q4) (allC (gt_row q5 (rfl : p12.length = p12.length)) (allC (gt_load (c := cI) q5 (rfl : (p12.map cI) = p12.map cI)) (allC (cg q6) (allC (gt_row q7 (rfl : p13.length = p13.length)) (allC (gt_load (c := cI) q7 (rfl : (p13.map cI) = p13.map cI)) (allC (cg q8) allN))))))))))) (by kernel_rfl)
        · skip
          obtain rfl := Option.some.inj h
          exact retS_go (k := (k + 3)) (n := 5) Try.func61 Try.ntmps61 rfl (by kernel_rfl) (by kernel_rfl) (Nat.le_of_ble_eq_true rfl) (adv [([], 1, 3, .eq (pB false)), ([], 1, 7, .eq (pB false)), ([], 1, 10, .elem []), ([], 1, 11, .elem [(pI y_1)]), ([], 1, 14, .eq (pB false)), ([], 1, 17, .elem []), ([], 1, 18, .elem [(pI y_2)]), ([], 1, 20, .eq (pB false))]) (ex := .ret) (r := ((pB false), [some ⟨1, 86, [[(.row [3, TAG] 1 0 p12.length)]], false, false⟩, some ⟨1, 86, [[(.row [4, TAG] 1 0 p13.length)]], false, false⟩, some ⟨3, 24, [[(.list 8 false (p9.map NodeD.c)), (pI p10), (pI p11)]], true, false⟩, some ⟨1, 3, (p12.map cI), true, true⟩, some ⟨1, 3, (p13.map cI), true, true⟩], [0, 0, 0, 0, 0])) (by kernel_rfl) rfl (by kernel_rfl) (allC (cg q1) (allC (cg q2) (allC (gt_row q3 (rfl : p12.length = p12.length)) (allC (gt_load (c := cI) q3 (rfl : (p12.map cI) = p12.map cI)) (allC (cg q4) (allC (gt_row q5 (rfl : p12.length = p12.length)) (allC (gt_load (c := cI) q5 (rfl : (p12.map cI) = p12.map cI)) (allC (cg q6) allN)))))))) (by kernel_rfl)


end Go.Proofs.Ytfllhakmjookkaa.Den
