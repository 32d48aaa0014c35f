/- Functions, printed by den.py out of the code: plain ones, and that the code answers as they do. -/
import Derived.Test.YtfllhakmjookkaaDenF0
set_option linter.unusedVariables false
set_option linter.unusedSimpArgs false
namespace Go.Proofs.Ytfllhakmjookkaa.Den
open Go Go.RowKit

/- flagstone/flagstonelaw06.its: its loop at region 3 -/
noncomputable def law06Its_L3 : Code := cAt (codeOf Try.f17) [true, true, false, true, false, false]
def law06Its_R3_0 (x0 : Int) (x1 : List (List PV)) (x2 : Int) (x3 : Int) (x4 : Int) (x5 : Int) : St := ⟨envL [(1, (.ptr [0, TAG] 1 0 0)), (2, (.ptr [1, TAG] 1 0 0)), (3, (.ptr [2, TAG] 1 0 0)), (4, (pI x0))], hsL [some ⟨3, 24, [[(.list 8 false x1), (pI x2), (pI x3)]], true, false⟩, some ⟨3, 30, [[(.v (.slice none 0 0)), (pI (0 : Int)), (pI (0 : Int))]], true, false⟩, some ⟨3, 30, [[(.v (.slice none 0 0)), (pI x4), (pI x5)]], true, false⟩] [0, 0, 0]⟩
theorem law06Its_R3_0_eq {x0 y0 : Int} {x1 y1 : List (List PV)} {x2 y2 : Int} {x3 y3 : Int} {x4 y4 : Int} {x5 y5 : Int} (h0 : x0 = y0) (h1 : x1 = y1) (h2 : x2 = y2) (h3 : x3 = y3) (h4 : x4 = y4) (h5 : x5 = y5) : law06Its_R3_0 x0 x1 x2 x3 x4 x5 = law06Its_R3_0 y0 y1 y2 y3 y4 y5 := by
  subst h0 h1 h2 h3 h4 h5; rfl
def law06Its_R3_1 (x0 : Int) (x1 : List (List PV)) (x2 : Int) (x3 : Int) (x4 : Nat) (x5 : Int) (x6 : Int) (x7 : List (List PV)) : St := ⟨envL [(1, (.ptr [0, TAG] 1 0 0)), (2, (.ptr [1, TAG] 1 0 0)), (3, (.ptr [2, TAG] 1 0 0)), (4, (pI x0))], hsL [some ⟨3, 24, [[(.list 8 false x1), (pI x2), (pI x3)]], true, false⟩, some ⟨3, 30, [[(.v (.slice none 0 0)), (pI (0 : Int)), (pI (0 : Int))]], true, false⟩, some ⟨3, 30, [[(.row [3, TAG] 1 0 x4), (pI x5), (pI x6)]], false, false⟩, some ⟨8, 51, x7, true, true⟩] [0, 0, 0, 0]⟩
theorem law06Its_R3_1_eq {x0 y0 : Int} {x1 y1 : List (List PV)} {x2 y2 : Int} {x3 y3 : Int} {x4 y4 : Nat} {x5 y5 : Int} {x6 y6 : Int} {x7 y7 : List (List PV)} (h0 : x0 = y0) (h1 : x1 = y1) (h2 : x2 = y2) (h3 : x3 = y3) (h4 : x4 = y4) (h5 : x5 = y5) (h6 : x6 = y6) (h7 : x7 = y7) : law06Its_R3_1 x0 x1 x2 x3 x4 x5 x6 x7 = law06Its_R3_1 y0 y1 y2 y3 y4 y5 y6 y7 := by
  subst h0 h1 h2 h3 h4 h5 h6 h7; rfl
def law06Its_S3 (p0 : (List NodeD)) (p1 : Int) (p2 : Int) (p3 : Int) (p4 : Int) : (Int × (List NodeD)) → St
  | (v0, []) => law06Its_R3_0 v0 (p0.map NodeD.c) p1 p2 p3 p4
  | (v0, z_1 :: z_2) => law06Its_R3_1 v0 (p0.map NodeD.c) p1 p2 (z_1 :: z_2).length p3 p4 ((z_1 :: z_2).map NodeD.c)
def law06Its_b3 (p0 : (List NodeD)) (p1 : Int) (p2 : Int) (p3 : Int) (p4 : Int) : (Int × (List NodeD)) → Option ((Int × (List NodeD)) ⊕ (Int ⊕ (Int × NodeD × (List NodeD))))
  | (v0, v1) =>
    (match v1 with
    | [] => (
      bif (decide (v0 < (p0.length : Int))) then (
        (gt p0 v0).bind fun y_1 =>
        (law06Node y_1).bind fun r_1 =>
        some (.inl ((w64 (v0 + (1 : Int))), [r_1]))
      ) else (
        some (.inr (.inl v0))
      )
    )
    | z_1 :: z_2 => (
      bif (decide (v0 < (p0.length : Int))) then (
        (gt p0 v0).bind fun y_1 =>
        (law06Node y_1).bind fun r_1 =>
        grd (room ((z_1 :: z_2).length + 1) 88) <|
        some (.inl ((w64 (v0 + (1 : Int))), ((z_1 :: z_2) ++ [r_1])))
      ) else (
        some (.inr (.inr ((v0, z_1, z_2))))
      )
    ))
set_option maxRecDepth 100000 in
theorem law06Its_t3 (k : Nat) (p0 : (List NodeD)) (p1 : Int) (p2 : Int) (p3 : Int) (p4 : Int) (a a1 : (Int × (List NodeD))) (h : law06Its_b3 p0 p1 p2 p3 p4 a = some (.inl a1)) : ∃ σ, run1 (k + 1) 17 0 29 law06Its_L3 (law06Its_S3 p0 p1 p2 p3 p4 a) = some (.normal, σ) ∧ canonS 0 [1, 2, 3, 4] σ = some (law06Its_S3 p0 p1 p2 p3 p4 a1) := by
  obtain ⟨v0, v1⟩ := a
  unfold law06Its_b3 at h
  try dsimp only at h
  rcases v1 with _ | ⟨z_1, z_2⟩
  · try dsimp only at h
    rcases bif_some h with ⟨q1, h⟩ | ⟨q1, h⟩
    · skip
      obtain ⟨y_1, q2, h⟩ := bnd_some h
      obtain ⟨r_1, q3, h⟩ := bnd_some h
      obtain rfl := Sum.inl.inj (Option.some.inj h)
      exact ⟨_, run_go (k := (k + 1)) (f := 17) (r0 := 0) (nt := 29) (c := law06Its_L3) (σ := (law06Its_S3 p0 p1 p2 p3 p4 (v0, []))) (adv [([], 3, 3, .eq (pI (p0.length : Int))), ([], 3, 4, .eq (pB true)), ([], 5, 5, .elem [(pI y_1.kind), (pI y_1.modeF), (pI y_1.owner), (pI y_1.links), (pI y_1.openF), (pI y_1.up), (pS y_1.data), (.list 2 false (y_1.names.map entP))]), ([], 5, 7, .ret (.agg [(pI r_1.kind), (pI r_1.modeF), (pI r_1.owner), (pI r_1.links), (pI r_1.openF), (pI r_1.up), (pS r_1.data), (.list 2 false (r_1.names.map entP))])), ([], 5, 9, .ok)]) (ex := .normal) (by kernel_rfl) (by kernel_rfl) (allC (len_ob (rfl : (p0.map NodeD.c) = p0.map NodeD.c)) (allC (cg q1) (allC (gt_list (c := NodeD.c) q2) (allC (law06Node_ok k y_1 _ q3) (allC (by decide : 1 ≤ 140737488355328 ∧ (1) * 88 ≤ 140737488355328) allN))))), (Eq.trans (b := some (law06Its_R3_1 (w64 (v0 + (1 : Int))) (p0.map NodeD.c) p1 p2 1 p3 p4 ([[(pI r_1.kind), (pI r_1.modeF), (pI r_1.owner), (pI r_1.links), (pI r_1.openF), (pI r_1.up), (pS r_1.data), (.list 2 false (r_1.names.map entP))]]))) (by kernel_rfl) (congrArg some ((law06Its_R3_1_eq (rfl : (w64 (v0 + (1 : Int))) = (w64 (v0 + (1 : Int)))) (rfl : (p0.map NodeD.c) = (p0.map NodeD.c)) (rfl : p1 = p1) (rfl : p2 = p2) ((rfl : 1 = _) : 1 = ([r_1].length)) (rfl : p3 = p3) (rfl : p4 = p4) (rfl : ([[(pI r_1.kind), (pI r_1.modeF), (pI r_1.owner), (pI r_1.links), (pI r_1.openF), (pI r_1.up), (pS r_1.data), (.list 2 false (r_1.names.map entP))]]) = ([r_1].map NodeD.c))).trans (by kernel_rfl : law06Its_R3_1 (w64 (v0 + (1 : Int))) (p0.map NodeD.c) p1 p2 ([r_1].length) p3 p4 ([r_1].map NodeD.c) = law06Its_S3 p0 p1 p2 p3 p4 ((w64 (v0 + (1 : Int))), [r_1])))))⟩
    · skip
      cases h
  · try dsimp only at h
    rcases bif_some h with ⟨q1, h⟩ | ⟨q1, h⟩
    · skip
      obtain ⟨y_1, q2, h⟩ := bnd_some h
      obtain ⟨r_1, q3, h⟩ := bnd_some h
      obtain ⟨q4, h⟩ := grd_some h
      obtain rfl := Sum.inl.inj (Option.some.inj h)
      exact ⟨_, run_go (k := (k + 1)) (f := 17) (r0 := 0) (nt := 29) (c := law06Its_L3) (σ := (law06Its_S3 p0 p1 p2 p3 p4 (v0, (z_1 :: z_2)))) (adv [([], 3, 3, .eq (pI (p0.length : Int))), ([], 3, 4, .eq (pB true)), ([], 5, 5, .elem [(pI y_1.kind), (pI y_1.modeF), (pI y_1.owner), (pI y_1.links), (pI y_1.openF), (pI y_1.up), (pS y_1.data), (.list 2 false (y_1.names.map entP))]), ([], 5, 7, .ret (.agg [(pI r_1.kind), (pI r_1.modeF), (pI r_1.owner), (pI r_1.links), (pI r_1.openF), (pI r_1.up), (pS r_1.data), (.list 2 false (r_1.names.map entP))])), ([], 5, 9, .ok)]) (ex := .normal) (by kernel_rfl) (by kernel_rfl) (allC (len_ob (rfl : (p0.map NodeD.c) = p0.map NodeD.c)) (allC (cg q1) (allC (gt_list (c := NodeD.c) q2) (allC (law06Node_ok k y_1 _ q3) (allC (app_ok (rfl : ((z_1 :: z_2).map NodeD.c) = (z_1 :: z_2).map NodeD.c) (rfl : (z_1 :: z_2).length = (z_1 :: z_2).length) q4) allN))))), (Eq.trans (b := some (law06Its_R3_1 (w64 (v0 + (1 : Int))) (p0.map NodeD.c) p1 p2 ((z_1 :: z_2).length + 1) p3 p4 (((z_1 :: z_2).map NodeD.c) ++ [[(pI r_1.kind), (pI r_1.modeF), (pI r_1.owner), (pI r_1.links), (pI r_1.openF), (pI r_1.up), (pS r_1.data), (.list 2 false (r_1.names.map entP))]]))) (by kernel_rfl) (congrArg some ((law06Its_R3_1_eq (rfl : (w64 (v0 + (1 : Int))) = (w64 (v0 + (1 : Int)))) (rfl : (p0.map NodeD.c) = (p0.map NodeD.c)) (rfl : p1 = p1) (rfl : p2 = p2) ((len_cat (rfl : (z_1 :: z_2).length = (z_1 :: z_2).length) (z_1 :: z_2) (rfl : 1 = [r_1].length)) : ((z_1 :: z_2).length + 1) = (((z_1 :: z_2) ++ [r_1]).length)) (rfl : p3 = p3) (rfl : p4 = p4) ((enc_cat (rfl : ((z_1 :: z_2).map NodeD.c) = (z_1 :: z_2).map NodeD.c) (show [[(pI r_1.kind), (pI r_1.modeF), (pI r_1.owner), (pI r_1.links), (pI r_1.openF), (pI r_1.up), (pS r_1.data), (.list 2 false (r_1.names.map entP))]] = [r_1].map NodeD.c from rfl)) : (((z_1 :: z_2).map NodeD.c) ++ [[(pI r_1.kind), (pI r_1.modeF), (pI r_1.owner), (pI r_1.links), (pI r_1.openF), (pI r_1.up), (pS r_1.data), (.list 2 false (r_1.names.map entP))]]) = (((z_1 :: z_2) ++ [r_1]).map NodeD.c))).trans (by kernel_rfl : law06Its_R3_1 (w64 (v0 + (1 : Int))) (p0.map NodeD.c) p1 p2 (((z_1 :: z_2) ++ [r_1]).length) p3 p4 (((z_1 :: z_2) ++ [r_1]).map NodeD.c) = law06Its_S3 p0 p1 p2 p3 p4 ((w64 (v0 + (1 : Int))), ((z_1 :: z_2) ++ [r_1]))))))⟩
    · skip
      cases h
/-- flagstone/flagstonelaw06.its -/
def law06Its (d : DiskD) : Option DiskD :=
  (iterN (law06Its_b3 d.nodes d.most d.room d.most d.room) LF ((0 : Int), [])).bind fun X_1 => match X_1 with
  | .inl v_1 => (
    some (DiskD.mk [] d.most d.room)
  )
  | .inr ((v_1, z_1, z_2)) => (
    some (DiskD.mk (z_1 :: z_2) d.most d.room)
  )
set_option maxRecDepth 100000 in
theorem law06Its_ok (k : Nat) (d : DiskD) (r : DiskD) (h : law06Its d = some r) : run0 (k + 2) 17 [(.agg [(.list 8 false (d.nodes.map NodeD.c)), (pI d.most), (pI d.room)])] = some (.agg [(.list 8 false (r.nodes.map NodeD.c)), (pI r.most), (pI r.room)]) := by
  unfold law06Its at h
  obtain ⟨X_1, q1, h⟩ := bnd_some h
  obtain ⟨a_1, q2, q3⟩ := loop_iter (f := run1 (k + 1) 17 0 29 law06Its_L3) (law06Its_S3 d.nodes d.most d.room d.most d.room) (law06Its_b3 d.nodes d.most d.room d.most d.room) (law06Its_t3 k d.nodes d.most d.room d.most d.room) LF ((0 : Int), []) _ (stOf (goStop (k + 1) 17 0 29 (adv []) 3 (codeOf Try.f17) (argS 17 [(.agg [(.list 8 false (d.nodes.map NodeD.c)), (pI d.most), (pI d.room)])]))) q1 (by kernel_rfl)
  obtain ⟨v_1, v_2⟩ := a_1
  unfold law06Its_b3 at q2
  try dsimp only at q2
  rcases v_2 with _ | ⟨z_1, z_2⟩
  · try dsimp only at q2
    rcases bif_some q2 with ⟨q6, q2⟩ | ⟨q6, q2⟩
    · skip
      obtain ⟨y_1, q7, q2⟩ := bnd_some q2
      obtain ⟨r_1, q8, q2⟩ := bnd_some q2
      cases q2
    · skip
      cases q2
      try dsimp only at h
      have q4 := run_go (k := (k + 1)) (f := 17) (r0 := 0) (nt := 29) (c := law06Its_L3) (σ := (law06Its_S3 d.nodes d.most d.room d.most d.room (v_1, []))) (adv [([], 3, 3, .eq (pI (d.nodes.length : Int))), ([], 3, 4, .eq (pB false))]) (ex := (.exit 0)) (by kernel_rfl) (by kernel_rfl) (allC (len_ob (rfl : (d.nodes.map NodeD.c) = d.nodes.map NodeD.c)) (allC (cg q6) allN))
      have q5 := q3 _ _ (by intro e; cases e) q4
      obtain rfl := Option.some.inj h
      exact ret_go (k := (k + 1)) Try.func17 Try.ntmps17 (by kernel_rfl) (by kernel_rfl) (Nat.le_of_ble_eq_true rfl) (adv [] [([], 3, (.exit 0), (stOf (go (k + 1) 17 0 29 (adv [([], 3, 3, .eq (pI (d.nodes.length : Int))), ([], 3, 4, .eq (pB false))]) law06Its_L3 (law06Its_S3 d.nodes d.most d.room d.most d.room (v_1, [])))))]) (ex := .ret) (r := (.agg [(.list 8 false []), (pI d.most), (pI d.room)])) (by kernel_rfl) rfl (by kernel_rfl) (allC q5 allN) (by kernel_rfl) allN
  · try dsimp only at q2
    rcases bif_some q2 with ⟨q6, q2⟩ | ⟨q6, q2⟩
    · skip
      obtain ⟨y_1, q7, q2⟩ := bnd_some q2
      obtain ⟨r_1, q8, q2⟩ := bnd_some q2
      obtain ⟨q9, q2⟩ := grd_some q2
      cases q2
    · skip
      cases q2
      try dsimp only at h
      have q4 := run_go (k := (k + 1)) (f := 17) (r0 := 0) (nt := 29) (c := law06Its_L3) (σ := (law06Its_S3 d.nodes d.most d.room d.most d.room (v_1, (z_1 :: z_2)))) (adv [([], 3, 3, .eq (pI (d.nodes.length : Int))), ([], 3, 4, .eq (pB false))]) (ex := (.exit 0)) (by kernel_rfl) (by kernel_rfl) (allC (len_ob (rfl : (d.nodes.map NodeD.c) = d.nodes.map NodeD.c)) (allC (cg q6) allN))
      have q5 := q3 _ _ (by intro e; cases e) q4
      obtain rfl := Option.some.inj h
      exact ret_go (k := (k + 1)) Try.func17 Try.ntmps17 (by kernel_rfl) (by kernel_rfl) (Nat.le_of_ble_eq_true rfl) (adv [] [([], 3, (.exit 0), (stOf (go (k + 1) 17 0 29 (adv [([], 3, 3, .eq (pI (d.nodes.length : Int))), ([], 3, 4, .eq (pB false))]) law06Its_L3 (law06Its_S3 d.nodes d.most d.room d.most d.room (v_1, (z_1 :: z_2))))))]) (ex := .ret) (r := (.agg [(.list 8 false ((z_1 :: z_2).map NodeD.c)), (pI d.most), (pI d.room)])) (by kernel_rfl) rfl (by kernel_rfl) (allC q5 allN) (by kernel_rfl) (allC (row_ok (rfl : ((z_1 :: z_2).map NodeD.c) = (z_1 :: z_2).map NodeD.c) (rfl : (z_1 :: z_2).length = (z_1 :: z_2).length)) allN)

/-- flagstone/flagstoneref06.New -/
def ref06New (most : Int) (room : Int) (modeF : Int) : Option DiskD :=
  bif (decide (most < (1 : Int))) then (
    some (DiskD.mk [] (0 : Int) (0 : Int))
  ) else (
    bif (decide (most > (100 : Int))) then (
      some (DiskD.mk [] (0 : Int) (0 : Int))
    ) else (
      bif (decide (room < (0 : Int))) then (
        some (DiskD.mk [] (0 : Int) (0 : Int))
      ) else (
        bif (decide (room > (1000 : Int))) then (
          some (DiskD.mk [] (0 : Int) (0 : Int))
        ) else (
          bif (decide (modeF < (0 : Int))) then (
            some (DiskD.mk [] (0 : Int) (0 : Int))
          ) else (
            bif (decide (modeF > (63 : Int))) then (
              some (DiskD.mk [] (0 : Int) (0 : Int))
            ) else (
              some (DiskD.mk ([(NodeD.mk (2 : Int) modeF (0 : Int) (1 : Int) (0 : Int) (0 : Int) (⟨#[]⟩) [])]) most room)
            )
          )
        )
      )
    )
  )
set_option maxRecDepth 100000 in
theorem ref06New_ok (k : Nat) (most : Int) (room : Int) (modeF : Int) (r : DiskD) (h : ref06New most room modeF = some r) : run0 (k + 1) 19 [(pI most), (pI room), (pI modeF)] = some (.agg [(.list 8 false (r.nodes.map NodeD.c)), (pI r.most), (pI r.room)]) := by
  unfold ref06New at h
  rcases bif_some h with ⟨q1, h⟩ | ⟨q1, h⟩
  · skip
    obtain rfl := Option.some.inj h
    exact ret_go (k := k) Try.func19 Try.ntmps19 (by kernel_rfl) (by kernel_rfl) (Nat.le_of_ble_eq_true rfl) (adv [([], 1, 2, .eq (pB true))]) (ex := .ret) (r := (.agg [(.list 8 false []), (pI (0 : Int)), (pI (0 : Int))])) (by kernel_rfl) rfl (by kernel_rfl) (allC (cg q1) allN) (by kernel_rfl) allN
  · skip
    rcases bif_some h with ⟨q2, h⟩ | ⟨q2, h⟩
    · skip
      obtain rfl := Option.some.inj h
      exact ret_go (k := k) Try.func19 Try.ntmps19 (by kernel_rfl) (by kernel_rfl) (Nat.le_of_ble_eq_true rfl) (adv [([], 1, 2, .eq (pB false)), ([], 1, 6, .eq (pB true))]) (ex := .ret) (r := (.agg [(.list 8 false []), (pI (0 : Int)), (pI (0 : Int))])) (by kernel_rfl) rfl (by kernel_rfl) (allC (cg q1) (allC (cg q2) allN)) (by kernel_rfl) allN
    · skip
      rcases bif_some h with ⟨q3, h⟩ | ⟨q3, h⟩
      · skip
        obtain rfl := Option.some.inj h
        exact ret_go (k := k) Try.func19 Try.ntmps19 (by kernel_rfl) (by kernel_rfl) (Nat.le_of_ble_eq_true rfl) (adv [([], 1, 2, .eq (pB false)), ([], 1, 6, .eq (pB false)), ([], 1, 10, .eq (pB true))]) (ex := .ret) (r := (.agg [(.list 8 false []), (pI (0 : Int)), (pI (0 : Int))])) (by kernel_rfl) rfl (by kernel_rfl) (allC (cg q1) (allC (cg q2) (allC (cg q3) allN))) (by kernel_rfl) allN
      · skip
        rcases bif_some h with ⟨q4, h⟩ | ⟨q4, h⟩
        · skip
          obtain rfl := Option.some.inj h
          exact ret_go (k := k) Try.func19 Try.ntmps19 (by kernel_rfl) (by kernel_rfl) (Nat.le_of_ble_eq_true rfl) (adv [([], 1, 2, .eq (pB false)), ([], 1, 6, .eq (pB false)), ([], 1, 10, .eq (pB false)), ([], 1, 14, .eq (pB true))]) (ex := .ret) (r := (.agg [(.list 8 false []), (pI (0 : Int)), (pI (0 : Int))])) (by kernel_rfl) rfl (by kernel_rfl) (allC (cg q1) (allC (cg q2) (allC (cg q3) (allC (cg q4) allN)))) (by kernel_rfl) allN
        · skip
          rcases bif_some h with ⟨q5, h⟩ | ⟨q5, h⟩
          · skip
            obtain rfl := Option.some.inj h
            exact ret_go (k := k) Try.func19 Try.ntmps19 (by kernel_rfl) (by kernel_rfl) (Nat.le_of_ble_eq_true rfl) (adv [([], 1, 2, .eq (pB false)), ([], 1, 6, .eq (pB false)), ([], 1, 10, .eq (pB false)), ([], 1, 14, .eq (pB false)), ([], 1, 18, .eq (pB true))]) (ex := .ret) (r := (.agg [(.list 8 false []), (pI (0 : Int)), (pI (0 : Int))])) (by kernel_rfl) rfl (by kernel_rfl) (allC (cg q1) (allC (cg q2) (allC (cg q3) (allC (cg q4) (allC (cg q5) allN))))) (by kernel_rfl) allN
          · skip
            rcases bif_some h with ⟨q6, h⟩ | ⟨q6, h⟩
            · skip
              obtain rfl := Option.some.inj h
              exact ret_go (k := k) Try.func19 Try.ntmps19 (by kernel_rfl) (by kernel_rfl) (Nat.le_of_ble_eq_true rfl) (adv [([], 1, 2, .eq (pB false)), ([], 1, 6, .eq (pB false)), ([], 1, 10, .eq (pB false)), ([], 1, 14, .eq (pB false)), ([], 1, 18, .eq (pB false)), ([], 1, 21, .eq (pB true))]) (ex := .ret) (r := (.agg [(.list 8 false []), (pI (0 : Int)), (pI (0 : Int))])) (by kernel_rfl) rfl (by kernel_rfl) (allC (cg q1) (allC (cg q2) (allC (cg q3) (allC (cg q4) (allC (cg q5) (allC (cg q6) allN)))))) (by kernel_rfl) allN
            · skip
              obtain rfl := Option.some.inj h
              exact ret_go (k := k) Try.func19 Try.ntmps19 (by kernel_rfl) (by kernel_rfl) (Nat.le_of_ble_eq_true rfl) (adv [([], 1, 2, .eq (pB false)), ([], 1, 6, .eq (pB false)), ([], 1, 10, .eq (pB false)), ([], 1, 14, .eq (pB false)), ([], 1, 18, .eq (pB false)), ([], 1, 21, .eq (pB false))]) (ex := .ret) (r := (.agg [(.list 8 false [[(pI (2 : Int)), (pI modeF), (pI (0 : Int)), (pI (1 : Int)), (pI (0 : Int)), (pI (0 : Int)), (pS (⟨#[]⟩)), (.list 2 false [])]]), (pI most), (pI room)])) (by kernel_rfl) rfl (by kernel_rfl) (allC (cg q1) (allC (cg q2) (allC (cg q3) (allC (cg q4) (allC (cg q5) (allC (cg q6) allN)))))) (by kernel_rfl) (allC (⟨rfl, rfl⟩ : (0 : Nat) = 0 ∧ (1 : Nat) = 1) allN)

/- flagstone/flagstoneref05.Same: its loop at region 4 -/
noncomputable def ref05Same_L4 : Code := cAt (codeOf Try.f40) [true, true, false, true, false, false]
def ref05Same_R4 (x0 : List (List PV)) (x1 : List (List PV)) (x2 : Int) : St := ⟨envL [(0, (.list 2 false x0)), (1, (.list 2 false x1)), (5, (pI x2))], hsL [] []⟩
theorem ref05Same_R4_eq {x0 y0 : List (List PV)} {x1 y1 : List (List PV)} {x2 y2 : Int} (h0 : x0 = y0) (h1 : x1 = y1) (h2 : x2 = y2) : ref05Same_R4 x0 x1 x2 = ref05Same_R4 y0 y1 y2 := by
  subst h0 h1 h2; rfl
def ref05Same_S4 (p0 : (List Ent)) (p1 : (List Ent)) : Int → St
  | v0 => ref05Same_R4 (p0.map entP) (p1.map entP) v0
def ref05Same_b4 (p0 : (List Ent)) (p1 : (List Ent)) : Int → Option (Int ⊕ ((Int × Ent × Ent) ⊕ Int))
  | v0 =>
    bif (decide (v0 < (p0.length : Int))) then (
      (gt p0 v0).bind fun y_1 =>
      (gt p1 v0).bind fun y_2 =>
      bif (!((seq y_1.name y_2.name) && ((y_1.ino == y_2.ino) && true))) then (
        some (.inr (.inl (v0, y_1, y_2)))
      ) else (
        some (.inl (w64 (v0 + (1 : Int))))
      )
    ) else (
      some (.inr (.inr (v0)))
    )
set_option maxRecDepth 100000 in
theorem ref05Same_t4 (k : Nat) (p0 : (List Ent)) (p1 : (List Ent)) (v0 a1 : Int) (h : ref05Same_b4 p0 p1 v0 = some (.inl a1)) : ∃ σ, run1 k 40 0 26 ref05Same_L4 (ref05Same_S4 p0 p1 v0) = some (.normal, σ) ∧ canonS 0 [0, 1, 5] σ = some (ref05Same_S4 p0 p1 a1) := by
  unfold ref05Same_b4 at h
  try dsimp only at h
  rcases bif_some h with ⟨q1, h⟩ | ⟨q1, h⟩
  · skip
    obtain ⟨y_1, q2, h⟩ := bnd_some h
    obtain ⟨y_2, q3, h⟩ := bnd_some h
    rcases bif_some h with ⟨q4, h⟩ | ⟨q4, h⟩
    · skip
      cases h
    · skip
      obtain rfl := Sum.inl.inj (Option.some.inj h)
      exact ⟨_, run_go (k := k) (f := 40) (r0 := 0) (nt := 26) (c := ref05Same_L4) (σ := (ref05Same_S4 p0 p1 v0)) (adv [([], 4, 2, .eq (pI (p0.length : Int))), ([], 4, 3, .eq (pB true)), ([], 6, 2, .elem [(pS y_1.name), (pI y_1.ino)]), ([], 6, 6, .elem [(pS y_2.name), (pI y_2.ino)]), ([], 6, 8, .eq (pB false))]) (ex := .normal) (by kernel_rfl) (by kernel_rfl) (allC (len_ob (rfl : (p0.map entP) = p0.map entP)) (allC (cg q1) (allC (gt_list (c := entP) q2) (allC (gt_list (c := entP) q3) (allC (cg q4) allN))))), (by kernel_rfl)⟩
  · skip
    cases h
/-- flagstone/flagstoneref05.Same -/
def ref05Same (a : (List Ent)) (b : (List Ent)) : Option Bool :=
  bif ((a.length : Int) != (b.length : Int)) then (
    some false
  ) else (
    (iterN (ref05Same_b4 a b) LF (0 : Int)).bind fun X_1 => match X_1 with
    | .inl (v_1, y_1, y_2) => (
      some false
    )
    | .inr (v_1) => (
      some true
    )
  )
set_option maxRecDepth 100000 in
theorem ref05Same_ok (k : Nat) (a : (List Ent)) (b : (List Ent)) (r : Bool) (h : ref05Same a b = some r) : run0 (k + 1) 40 [(.list 2 false (a.map entP)), (.list 2 false (b.map entP))] = some (pB r) := by
  unfold ref05Same at h
  rcases bif_some h with ⟨q1, h⟩ | ⟨q1, h⟩
  · skip
    obtain rfl := Option.some.inj h
    exact ret_go (k := k) Try.func40 Try.ntmps40 (by kernel_rfl) (by kernel_rfl) (Nat.le_of_ble_eq_true rfl) (adv [([], 1, 1, .eq (pI (a.length : Int))), ([], 1, 3, .eq (pI (b.length : Int))), ([], 1, 4, .eq (pB true))]) (ex := .ret) (r := (pB false)) (by kernel_rfl) rfl (by kernel_rfl) (allC (len_ob (rfl : (a.map entP) = a.map entP)) (allC (len_ob (rfl : (b.map entP) = b.map entP)) (allC (cg q1) allN))) (by kernel_rfl) allN
  · skip
    obtain ⟨X_1, q2, h⟩ := bnd_some h
    obtain ⟨v_1, q3, q4⟩ := loop_iter (f := run1 k 40 0 26 ref05Same_L4) (ref05Same_S4 a b) (ref05Same_b4 a b) (ref05Same_t4 k a b) LF (0 : Int) _ (stOf (goStop k 40 0 26 (adv [([], 1, 1, .eq (pI (a.length : Int))), ([], 1, 3, .eq (pI (b.length : Int))), ([], 1, 4, .eq (pB false))]) 4 (codeOf Try.f40) (argS 40 [(.list 2 false (a.map entP)), (.list 2 false (b.map entP))]))) q2 (by kernel_rfl)
    unfold ref05Same_b4 at q3
    try dsimp only at q3
    rcases bif_some q3 with ⟨q7, q3⟩ | ⟨q7, q3⟩
    · skip
      obtain ⟨y_1, q8, q3⟩ := bnd_some q3
      obtain ⟨y_2, q9, q3⟩ := bnd_some q3
      rcases bif_some q3 with ⟨q10, q3⟩ | ⟨q10, q3⟩
      · skip
        cases q3
        try dsimp only at h
        have q5 := run_go (k := k) (f := 40) (r0 := 0) (nt := 26) (c := ref05Same_L4) (σ := (ref05Same_S4 a b v_1)) (adv [([], 4, 2, .eq (pI (a.length : Int))), ([], 4, 3, .eq (pB true)), ([], 6, 2, .elem [(pS y_1.name), (pI y_1.ino)]), ([], 6, 6, .elem [(pS y_2.name), (pI y_2.ino)]), ([], 6, 8, .eq (pB true))]) (ex := .ret) (by kernel_rfl) (by kernel_rfl) (allC (len_ob (rfl : (a.map entP) = a.map entP)) (allC (cg q7) (allC (gt_list (c := entP) q8) (allC (gt_list (c := entP) q9) (allC (cg q10) allN)))))
        have q6 := q4 _ _ (by intro e; cases e) q5
        obtain rfl := Option.some.inj h
        exact ret_go (k := k) Try.func40 Try.ntmps40 (by kernel_rfl) (by kernel_rfl) (Nat.le_of_ble_eq_true rfl) (adv [([], 1, 1, .eq (pI (a.length : Int))), ([], 1, 3, .eq (pI (b.length : Int))), ([], 1, 4, .eq (pB false))] [([], 4, .ret, (stOf (go k 40 0 26 (adv [([], 4, 2, .eq (pI (a.length : Int))), ([], 4, 3, .eq (pB true)), ([], 6, 2, .elem [(pS y_1.name), (pI y_1.ino)]), ([], 6, 6, .elem [(pS y_2.name), (pI y_2.ino)]), ([], 6, 8, .eq (pB true))]) ref05Same_L4 (ref05Same_S4 a b v_1))))]) (ex := .ret) (r := (pB false)) (by kernel_rfl) rfl (by kernel_rfl) (allC (len_ob (rfl : (a.map entP) = a.map entP)) (allC (len_ob (rfl : (b.map entP) = b.map entP)) (allC (cg q1) (allC q6 allN)))) (by kernel_rfl) allN
      · skip
        cases q3
    · skip
      cases q3
      try dsimp only at h
      have q5 := run_go (k := k) (f := 40) (r0 := 0) (nt := 26) (c := ref05Same_L4) (σ := (ref05Same_S4 a b v_1)) (adv [([], 4, 2, .eq (pI (a.length : Int))), ([], 4, 3, .eq (pB false))]) (ex := (.exit 0)) (by kernel_rfl) (by kernel_rfl) (allC (len_ob (rfl : (a.map entP) = a.map entP)) (allC (cg q7) allN))
      have q6 := q4 _ _ (by intro e; cases e) q5
      obtain rfl := Option.some.inj h
      exact ret_go (k := k) Try.func40 Try.ntmps40 (by kernel_rfl) (by kernel_rfl) (Nat.le_of_ble_eq_true rfl) (adv [([], 1, 1, .eq (pI (a.length : Int))), ([], 1, 3, .eq (pI (b.length : Int))), ([], 1, 4, .eq (pB false))] [([], 4, (.exit 0), (stOf (go k 40 0 26 (adv [([], 4, 2, .eq (pI (a.length : Int))), ([], 4, 3, .eq (pB false))]) ref05Same_L4 (ref05Same_S4 a b v_1))))]) (ex := .ret) (r := (pB true)) (by kernel_rfl) rfl (by kernel_rfl) (allC (len_ob (rfl : (a.map entP) = a.map entP)) (allC (len_ob (rfl : (b.map entP) = b.map entP)) (allC (cg q1) (allC q6 allN)))) (by kernel_rfl) allN

/-- flagstone/flagstoneref06.Alike -/
def ref06Alike (a : NodeD) (b : NodeD) : Option Bool :=
  bif (a.kind == b.kind) then (
    bif (a.modeF == b.modeF) then (
      bif (a.owner == b.owner) then (
        bif (a.links == b.links) then (
          bif (a.openF == b.openF) then (
            bif (a.up == b.up) then (
              bif (seq a.data b.data) then (
                (ref05Same a.names b.names).bind fun r_1 =>
                some r_1
              ) else (
                some false
              )
            ) else (
              some false
            )
          ) else (
            some false
          )
        ) else (
          some false
        )
      ) else (
        some false
      )
    ) else (
      some false
    )
  ) else (
    some false
  )
set_option maxRecDepth 100000 in
theorem ref06Alike_ok (k : Nat) (a : NodeD) (b : NodeD) (r : Bool) (h : ref06Alike a b = some r) : run0 (k + 2) 29 [(.agg [(pI a.kind), (pI a.modeF), (pI a.owner), (pI a.links), (pI a.openF), (pI a.up), (pS a.data), (.list 2 false (a.names.map entP))]), (.agg [(pI b.kind), (pI b.modeF), (pI b.owner), (pI b.links), (pI b.openF), (pI b.up), (pS b.data), (.list 2 false (b.names.map entP))])] = some (pB r) := by
  unfold ref06Alike at h
  rcases bif_some h with ⟨q1, h⟩ | ⟨q1, h⟩
  · skip
    rcases bif_some h with ⟨q2, h⟩ | ⟨q2, h⟩
    · skip
      rcases bif_some h with ⟨q3, h⟩ | ⟨q3, h⟩
      · skip
        rcases bif_some h with ⟨q4, h⟩ | ⟨q4, h⟩
        · skip
          rcases bif_some h with ⟨q5, h⟩ | ⟨q5, h⟩
          · skip
            rcases bif_some h with ⟨q6, h⟩ | ⟨q6, h⟩
            · skip
              rcases bif_some h with ⟨q7, h⟩ | ⟨q7, h⟩
              · skip
                obtain ⟨r_1, q8, h⟩ := bnd_some h
                obtain rfl := Option.some.inj h
                exact ret_go (k := (k + 1)) Try.func29 Try.ntmps29 (by kernel_rfl) (by kernel_rfl) (Nat.le_of_ble_eq_true rfl) (adv [([], 1, 5, .eq (pB true)), ([], 1, 12, .eq (pB true)), ([], 1, 19, .eq (pB true)), ([], 1, 26, .eq (pB true)), ([], 1, 33, .eq (pB true)), ([], 1, 40, .eq (pB true)), ([], 1, 47, .eq (pB true)), ([], 1, 52, .ret (pB r_1))]) (ex := .ret) (r := (pB r_1)) (by kernel_rfl) rfl (by kernel_rfl) (allC (cg q1) (allC (cg q2) (allC (cg q3) (allC (cg q4) (allC (cg q5) (allC (cg q6) (allC (cg q7) (allC (ref05Same_ok k a.names b.names _ q8) allN)))))))) (by kernel_rfl) allN
              · skip
                obtain rfl := Option.some.inj h
                exact ret_go (k := (k + 1)) Try.func29 Try.ntmps29 (by kernel_rfl) (by kernel_rfl) (Nat.le_of_ble_eq_true rfl) (adv [([], 1, 5, .eq (pB true)), ([], 1, 12, .eq (pB true)), ([], 1, 19, .eq (pB true)), ([], 1, 26, .eq (pB true)), ([], 1, 33, .eq (pB true)), ([], 1, 40, .eq (pB true)), ([], 1, 47, .eq (pB false))]) (ex := .ret) (r := (pB false)) (by kernel_rfl) rfl (by kernel_rfl) (allC (cg q1) (allC (cg q2) (allC (cg q3) (allC (cg q4) (allC (cg q5) (allC (cg q6) (allC (cg q7) allN))))))) (by kernel_rfl) allN
            · skip
              obtain rfl := Option.some.inj h
              exact ret_go (k := (k + 1)) Try.func29 Try.ntmps29 (by kernel_rfl) (by kernel_rfl) (Nat.le_of_ble_eq_true rfl) (adv [([], 1, 5, .eq (pB true)), ([], 1, 12, .eq (pB true)), ([], 1, 19, .eq (pB true)), ([], 1, 26, .eq (pB true)), ([], 1, 33, .eq (pB true)), ([], 1, 40, .eq (pB false))]) (ex := .ret) (r := (pB false)) (by kernel_rfl) rfl (by kernel_rfl) (allC (cg q1) (allC (cg q2) (allC (cg q3) (allC (cg q4) (allC (cg q5) (allC (cg q6) allN)))))) (by kernel_rfl) allN
          · skip
            obtain rfl := Option.some.inj h
            exact ret_go (k := (k + 1)) Try.func29 Try.ntmps29 (by kernel_rfl) (by kernel_rfl) (Nat.le_of_ble_eq_true rfl) (adv [([], 1, 5, .eq (pB true)), ([], 1, 12, .eq (pB true)), ([], 1, 19, .eq (pB true)), ([], 1, 26, .eq (pB true)), ([], 1, 33, .eq (pB false))]) (ex := .ret) (r := (pB false)) (by kernel_rfl) rfl (by kernel_rfl) (allC (cg q1) (allC (cg q2) (allC (cg q3) (allC (cg q4) (allC (cg q5) allN))))) (by kernel_rfl) allN
        · skip
          obtain rfl := Option.some.inj h
          exact ret_go (k := (k + 1)) Try.func29 Try.ntmps29 (by kernel_rfl) (by kernel_rfl) (Nat.le_of_ble_eq_true rfl) (adv [([], 1, 5, .eq (pB true)), ([], 1, 12, .eq (pB true)), ([], 1, 19, .eq (pB true)), ([], 1, 26, .eq (pB false))]) (ex := .ret) (r := (pB false)) (by kernel_rfl) rfl (by kernel_rfl) (allC (cg q1) (allC (cg q2) (allC (cg q3) (allC (cg q4) allN)))) (by kernel_rfl) allN
      · skip
        obtain rfl := Option.some.inj h
        exact ret_go (k := (k + 1)) Try.func29 Try.ntmps29 (by kernel_rfl) (by kernel_rfl) (Nat.le_of_ble_eq_true rfl) (adv [([], 1, 5, .eq (pB true)), ([], 1, 12, .eq (pB true)), ([], 1, 19, .eq (pB false))]) (ex := .ret) (r := (pB false)) (by kernel_rfl) rfl (by kernel_rfl) (allC (cg q1) (allC (cg q2) (allC (cg q3) allN))) (by kernel_rfl) allN
    · skip
      obtain rfl := Option.some.inj h
      exact ret_go (k := (k + 1)) Try.func29 Try.ntmps29 (by kernel_rfl) (by kernel_rfl) (Nat.le_of_ble_eq_true rfl) (adv [([], 1, 5, .eq (pB true)), ([], 1, 12, .eq (pB false))]) (ex := .ret) (r := (pB false)) (by kernel_rfl) rfl (by kernel_rfl) (allC (cg q1) (allC (cg q2) allN)) (by kernel_rfl) allN
  · skip
    obtain rfl := Option.some.inj h
    exact ret_go (k := (k + 1)) Try.func29 Try.ntmps29 (by kernel_rfl) (by kernel_rfl) (Nat.le_of_ble_eq_true rfl) (adv [([], 1, 5, .eq (pB false))]) (ex := .ret) (r := (pB false)) (by kernel_rfl) rfl (by kernel_rfl) (allC (cg q1) allN) (by kernel_rfl) allN

/- flagstone/flagstoneref06.Same: its loop at region 4 -/
noncomputable def ref06Same_L4 : Code := cAt (codeOf Try.f16) [true, true, false, true, false, false]
def ref06Same_R4 (x0 : Int) (x1 : List (List PV)) (x2 : Int) (x3 : Int) (x4 : List (List PV)) (x5 : Int) (x6 : Int) : St := ⟨envL [(2, (.ptr [0, TAG] 1 0 0)), (3, (.ptr [1, TAG] 1 0 0)), (5, (pI x0))], hsL [some ⟨3, 30, [[(.list 8 false x1), (pI x2), (pI x3)]], true, false⟩, some ⟨3, 30, [[(.list 8 false x4), (pI x5), (pI x6)]], true, false⟩] [0, 0]⟩
theorem ref06Same_R4_eq {x0 y0 : Int} {x1 y1 : List (List PV)} {x2 y2 : Int} {x3 y3 : Int} {x4 y4 : List (List PV)} {x5 y5 : Int} {x6 y6 : Int} (h0 : x0 = y0) (h1 : x1 = y1) (h2 : x2 = y2) (h3 : x3 = y3) (h4 : x4 = y4) (h5 : x5 = y5) (h6 : x6 = y6) : ref06Same_R4 x0 x1 x2 x3 x4 x5 x6 = ref06Same_R4 y0 y1 y2 y3 y4 y5 y6 := by
  subst h0 h1 h2 h3 h4 h5 h6; rfl
def ref06Same_S4 (p0 : (List NodeD)) (p1 : Int) (p2 : Int) (p3 : (List NodeD)) (p4 : Int) (p5 : Int) : Int → St
  | v0 => ref06Same_R4 v0 (p0.map NodeD.c) p1 p2 (p3.map NodeD.c) p4 p5
def ref06Same_b4 (p0 : (List NodeD)) (p1 : Int) (p2 : Int) (p3 : (List NodeD)) (p4 : Int) (p5 : Int) : Int → Option (Int ⊕ ((Int × NodeD × NodeD × Bool) ⊕ Int))
  | v0 =>
    bif (decide (v0 < (p0.length : Int))) then (
      (gt p0 v0).bind fun y_1 =>
      (gt p3 v0).bind fun y_2 =>
      (ref06Alike y_1 y_2).bind fun r_1 =>
      bif (!r_1) then (
        some (.inr (.inl (v0, y_1, y_2, r_1)))
      ) else (
        some (.inl (w64 (v0 + (1 : Int))))
      )
    ) else (
      some (.inr (.inr (v0)))
    )
set_option maxRecDepth 100000 in
theorem ref06Same_t4 (k : Nat) (p0 : (List NodeD)) (p1 : Int) (p2 : Int) (p3 : (List NodeD)) (p4 : Int) (p5 : Int) (v0 a1 : Int) (h : ref06Same_b4 p0 p1 p2 p3 p4 p5 v0 = some (.inl a1)) : ∃ σ, run1 (k + 2) 16 0 46 ref06Same_L4 (ref06Same_S4 p0 p1 p2 p3 p4 p5 v0) = some (.normal, σ) ∧ canonS 0 [2, 3, 5] σ = some (ref06Same_S4 p0 p1 p2 p3 p4 p5 a1) := by
  unfold ref06Same_b4 at h
  try dsimp only at h
  rcases bif_some h with ⟨q1, h⟩ | ⟨q1, h⟩
  · skip
    obtain ⟨y_1, q2, h⟩ := bnd_some h
    obtain ⟨y_2, q3, h⟩ := bnd_some h
    obtain ⟨r_1, q4, h⟩ := bnd_some h
    rcases bif_some h with ⟨q5, h⟩ | ⟨q5, h⟩
    · skip
      cases h
    · skip
      obtain rfl := Sum.inl.inj (Option.some.inj h)
      exact ⟨_, run_go (k := (k + 2)) (f := 16) (r0 := 0) (nt := 46) (c := ref06Same_L4) (σ := (ref06Same_S4 p0 p1 p2 p3 p4 p5 v0)) (adv [([], 4, 3, .eq (pI (p0.length : Int))), ([], 4, 4, .eq (pB true)), ([], 6, 3, .elem [(pI y_1.kind), (pI y_1.modeF), (pI y_1.owner), (pI y_1.links), (pI y_1.openF), (pI y_1.up), (pS y_1.data), (.list 2 false (y_1.names.map entP))]), ([], 6, 8, .elem [(pI y_2.kind), (pI y_2.modeF), (pI y_2.owner), (pI y_2.links), (pI y_2.openF), (pI y_2.up), (pS y_2.data), (.list 2 false (y_2.names.map entP))]), ([], 6, 10, .ret (pB r_1)), ([], 6, 11, .eq (pB false))]) (ex := .normal) (by kernel_rfl) (by kernel_rfl) (allC (len_ob (rfl : (p0.map NodeD.c) = p0.map NodeD.c)) (allC (cg q1) (allC (gt_list (c := NodeD.c) q2) (allC (gt_list (c := NodeD.c) q3) (allC (ref06Alike_ok k y_1 y_2 _ q4) (allC (cg q5) allN)))))), (by kernel_rfl)⟩
  · skip
    cases h
/-- flagstone/flagstoneref06.Same -/
def ref06Same (a : DiskD) (b : DiskD) : Option Bool :=
  bif (a.most != b.most) then (
    some false
  ) else (
    bif (a.room != b.room) then (
      some false
    ) else (
      bif ((a.nodes.length : Int) != (b.nodes.length : Int)) then (
        some false
      ) else (
        (iterN (ref06Same_b4 a.nodes a.most a.room b.nodes b.most b.room) LF (0 : Int)).bind fun X_1 => match X_1 with
        | .inl (v_1, y_1, y_2, r_1) => (
          some false
        )
        | .inr (v_1) => (
          some true
        )
      )
    )
  )
set_option maxRecDepth 100000 in
theorem ref06Same_ok (k : Nat) (a : DiskD) (b : DiskD) (r : Bool) (h : ref06Same a b = some r) : run0 (k + 3) 16 [(.agg [(.list 8 false (a.nodes.map NodeD.c)), (pI a.most), (pI a.room)]), (.agg [(.list 8 false (b.nodes.map NodeD.c)), (pI b.most), (pI b.room)])] = some (pB r) := by
  unfold ref06Same at h
  rcases bif_some h with ⟨q1, h⟩ | ⟨q1, h⟩
  · skip
    obtain rfl := Option.some.inj h
    exact ret_go (k := (k + 2)) Try.func16 Try.ntmps16 (by kernel_rfl) (by kernel_rfl) (Nat.le_of_ble_eq_true rfl) (adv [([], 1, 5, .eq (pB true))]) (ex := .ret) (r := (pB false)) (by kernel_rfl) rfl (by kernel_rfl) (allC (cg q1) allN) (by kernel_rfl) allN
  · skip
    rcases bif_some h with ⟨q2, h⟩ | ⟨q2, h⟩
    · skip
      obtain rfl := Option.some.inj h
      exact ret_go (k := (k + 2)) Try.func16 Try.ntmps16 (by kernel_rfl) (by kernel_rfl) (Nat.le_of_ble_eq_true rfl) (adv [([], 1, 5, .eq (pB false)), ([], 1, 12, .eq (pB true))]) (ex := .ret) (r := (pB false)) (by kernel_rfl) rfl (by kernel_rfl) (allC (cg q1) (allC (cg q2) allN)) (by kernel_rfl) allN
    · skip
      rcases bif_some h with ⟨q3, h⟩ | ⟨q3, h⟩
      · skip
        obtain rfl := Option.some.inj h
        exact ret_go (k := (k + 2)) Try.func16 Try.ntmps16 (by kernel_rfl) (by kernel_rfl) (Nat.le_of_ble_eq_true rfl) (adv [([], 1, 5, .eq (pB false)), ([], 1, 12, .eq (pB false)), ([], 1, 15, .eq (pI (a.nodes.length : Int))), ([], 1, 18, .eq (pI (b.nodes.length : Int))), ([], 1, 20, .eq (pB true))]) (ex := .ret) (r := (pB false)) (by kernel_rfl) rfl (by kernel_rfl) (allC (cg q1) (allC (cg q2) (allC (len_ob (rfl : (a.nodes.map NodeD.c) = a.nodes.map NodeD.c)) (allC (len_ob (rfl : (b.nodes.map NodeD.c) = b.nodes.map NodeD.c)) (allC (cg q3) allN))))) (by kernel_rfl) allN
      · skip
        obtain ⟨X_1, q4, h⟩ := bnd_some h
        obtain ⟨v_1, q5, q6⟩ := loop_iter (f := run1 (k + 2) 16 0 46 ref06Same_L4) (ref06Same_S4 a.nodes a.most a.room b.nodes b.most b.room) (ref06Same_b4 a.nodes a.most a.room b.nodes b.most b.room) (ref06Same_t4 k a.nodes a.most a.room b.nodes b.most b.room) LF (0 : Int) _ (stOf (goStop (k + 2) 16 0 46 (adv [([], 1, 5, .eq (pB false)), ([], 1, 12, .eq (pB false)), ([], 1, 15, .eq (pI (a.nodes.length : Int))), ([], 1, 18, .eq (pI (b.nodes.length : Int))), ([], 1, 20, .eq (pB false))]) 4 (codeOf Try.f16) (argS 16 [(.agg [(.list 8 false (a.nodes.map NodeD.c)), (pI a.most), (pI a.room)]), (.agg [(.list 8 false (b.nodes.map NodeD.c)), (pI b.most), (pI b.room)])]))) q4 (by kernel_rfl)
        unfold ref06Same_b4 at q5
        try dsimp only at q5
        rcases bif_some q5 with ⟨q9, q5⟩ | ⟨q9, q5⟩
        · skip
          obtain ⟨y_1, q10, q5⟩ := bnd_some q5
          obtain ⟨y_2, q11, q5⟩ := bnd_some q5
          obtain ⟨r_1, q12, q5⟩ := bnd_some q5
          rcases bif_some q5 with ⟨q13, q5⟩ | ⟨q13, q5⟩
          · skip
            cases q5
            try dsimp only at h
            have q7 := run_go (k := (k + 2)) (f := 16) (r0 := 0) (nt := 46) (c := ref06Same_L4) (σ := (ref06Same_S4 a.nodes a.most a.room b.nodes b.most b.room v_1)) (adv [([], 4, 3, .eq (pI (a.nodes.length : Int))), ([], 4, 4, .eq (pB true)), ([], 6, 3, .elem [(pI y_1.kind), (pI y_1.modeF), (pI y_1.owner), (pI y_1.links), (pI y_1.openF), (pI y_1.up), (pS y_1.data), (.list 2 false (y_1.names.map entP))]), ([], 6, 8, .elem [(pI y_2.kind), (pI y_2.modeF), (pI y_2.owner), (pI y_2.links), (pI y_2.openF), (pI y_2.up), (pS y_2.data), (.list 2 false (y_2.names.map entP))]), ([], 6, 10, .ret (pB r_1)), ([], 6, 11, .eq (pB true))]) (ex := .ret) (by kernel_rfl) (by kernel_rfl) (allC (len_ob (rfl : (a.nodes.map NodeD.c) = a.nodes.map NodeD.c)) (allC (cg q9) (allC (gt_list (c := NodeD.c) q10) (allC (gt_list (c := NodeD.c) q11) (allC (ref06Alike_ok k y_1 y_2 _ q12) (allC (cg q13) allN))))))
            have q8 := q6 _ _ (by intro e; cases e) q7
            obtain rfl := Option.some.inj h
            exact ret_go (k := (k + 2)) Try.func16 Try.ntmps16 (by kernel_rfl) (by kernel_rfl) (Nat.le_of_ble_eq_true rfl) (adv [([], 1, 5, .eq (pB false)), ([], 1, 12, .eq (pB false)), ([], 1, 15, .eq (pI (a.nodes.length : Int))), ([], 1, 18, .eq (pI (b.nodes.length : Int))), ([], 1, 20, .eq (pB false))] [([], 4, .ret, (stOf (go (k + 2) 16 0 46 (adv [([], 4, 3, .eq (pI (a.nodes.length : Int))), ([], 4, 4, .eq (pB true)), ([], 6, 3, .elem [(pI y_1.kind), (pI y_1.modeF), (pI y_1.owner), (pI y_1.links), (pI y_1.openF), (pI y_1.up), (pS y_1.data), (.list 2 false (y_1.names.map entP))]), ([], 6, 8, .elem [(pI y_2.kind), (pI y_2.modeF), (pI y_2.owner), (pI y_2.links), (pI y_2.openF), (pI y_2.up), (pS y_2.data), (.list 2 false (y_2.names.map entP))]), ([], 6, 10, .ret (pB r_1)), ([], 6, 11, .eq (pB true))]) ref06Same_L4 (ref06Same_S4 a.nodes a.most a.room b.nodes b.most b.room v_1))))]) (ex := .ret) (r := (pB false)) (by kernel_rfl) rfl (by kernel_rfl) (allC (cg q1) (allC (cg q2) (allC (len_ob (rfl : (a.nodes.map NodeD.c) = a.nodes.map NodeD.c)) (allC (len_ob (rfl : (b.nodes.map NodeD.c) = b.nodes.map NodeD.c)) (allC (cg q3) (allC q8 allN)))))) (by kernel_rfl) allN
          · skip
            cases q5
        · skip
          cases q5
          try dsimp only at h
          have q7 := run_go (k := (k + 2)) (f := 16) (r0 := 0) (nt := 46) (c := ref06Same_L4) (σ := (ref06Same_S4 a.nodes a.most a.room b.nodes b.most b.room v_1)) (adv [([], 4, 3, .eq (pI (a.nodes.length : Int))), ([], 4, 4, .eq (pB false))]) (ex := (.exit 0)) (by kernel_rfl) (by kernel_rfl) (allC (len_ob (rfl : (a.nodes.map NodeD.c) = a.nodes.map NodeD.c)) (allC (cg q9) allN))
          have q8 := q6 _ _ (by intro e; cases e) q7
          obtain rfl := Option.some.inj h
          exact ret_go (k := (k + 2)) Try.func16 Try.ntmps16 (by kernel_rfl) (by kernel_rfl) (Nat.le_of_ble_eq_true rfl) (adv [([], 1, 5, .eq (pB false)), ([], 1, 12, .eq (pB false)), ([], 1, 15, .eq (pI (a.nodes.length : Int))), ([], 1, 18, .eq (pI (b.nodes.length : Int))), ([], 1, 20, .eq (pB false))] [([], 4, (.exit 0), (stOf (go (k + 2) 16 0 46 (adv [([], 4, 3, .eq (pI (a.nodes.length : Int))), ([], 4, 4, .eq (pB false))]) ref06Same_L4 (ref06Same_S4 a.nodes a.most a.room b.nodes b.most b.room v_1))))]) (ex := .ret) (r := (pB true)) (by kernel_rfl) rfl (by kernel_rfl) (allC (cg q1) (allC (cg q2) (allC (len_ob (rfl : (a.nodes.map NodeD.c) = a.nodes.map NodeD.c)) (allC (len_ob (rfl : (b.nodes.map NodeD.c) = b.nodes.map NodeD.c)) (allC (cg q3) (allC q8 allN)))))) (by kernel_rfl) allN


end Go.Proofs.Ytfllhakmjookkaa.Den
