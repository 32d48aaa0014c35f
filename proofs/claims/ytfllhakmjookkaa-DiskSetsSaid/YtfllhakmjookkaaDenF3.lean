/- Functions, printed by den.py out of the code: plain ones, and that the code answers as they do. -/
import Derived.Test.YtfllhakmjookkaaDenF2
set_option linter.unusedVariables false
set_option linter.unusedSimpArgs false
namespace Go.Proofs.Ytfllhakmjookkaa.Den
open Go Go.RowKit

/- slices.IndexFunc[[]flagstone/disk.Node,flagstone/disk.Node]: its loop at region 2 -/
noncomputable def slicesIndexFunc_L2 : Code := cAt (codeOf Try.f65) [true, false, true, false, false]
def slicesIndexFunc_R2 (x0 : List (List PV)) (x1 : Int) (x2 : Int) : St := ⟨envL [(0, (.list 8 false x0)), (1, (.clo 66 [])), (7, (pI x1)), (8, (pI x2))], hsL [] []⟩
theorem slicesIndexFunc_R2_eq {x0 y0 : List (List PV)} {x1 y1 : Int} {x2 y2 : Int} (h0 : x0 = y0) (h1 : x1 = y1) (h2 : x2 = y2) : slicesIndexFunc_R2 x0 x1 x2 = slicesIndexFunc_R2 y0 y1 y2 := by
  subst h0 h1 h2; rfl
def slicesIndexFunc_S2 (p0 : (List NodeD)) (p1 : Int) : Int → St
  | v0 => slicesIndexFunc_R2 (p0.map NodeD.c) p1 v0
def slicesIndexFunc_b2 (p0 : (List NodeD)) (p1 : Int) : Int → Option (Int ⊕ ((Int × NodeD × Bool) ⊕ Int))
  | v0 =>
    bif (decide (v0 < p1)) then (
      (gt p0 v0).bind fun y_1 =>
      (diskAdd1 y_1).bind fun r_1 =>
      bif r_1 then (
        some (.inr (.inl (v0, y_1, r_1)))
      ) else (
        some (.inl (w64 (v0 + (1 : Int))))
      )
    ) else (
      some (.inr (.inr (v0)))
    )
set_option maxRecDepth 100000 in
theorem slicesIndexFunc_t2 (k : Nat) (p0 : (List NodeD)) (p1 : Int) (v0 a1 : Int) (h : slicesIndexFunc_b2 p0 p1 v0 = some (.inl a1)) : ∃ σ, run1 (k + 1) 65 0 19 slicesIndexFunc_L2 (slicesIndexFunc_S2 p0 p1 v0) = some (.normal, σ) ∧ canonS 0 [0, 1, 7, 8] σ = some (slicesIndexFunc_S2 p0 p1 a1) := by
  unfold slicesIndexFunc_b2 at h
  try dsimp only at h
  rcases bif_some h with ⟨q1, h⟩ | ⟨q1, h⟩
  · skip
    obtain ⟨y_1, q2, h⟩ := bnd_some h
    obtain ⟨r_1, q3, h⟩ := bnd_some h
    rcases bif_some h with ⟨q4, h⟩ | ⟨q4, h⟩
    · skip
      revert h; subst q4; intro h
      cases h
    · skip
      revert h; subst q4; intro h
      obtain rfl := Sum.inl.inj (Option.some.inj h)
      exact ⟨_, run_go (k := (k + 1)) (f := 65) (r0 := 0) (nt := 19) (c := slicesIndexFunc_L2) (σ := (slicesIndexFunc_S2 p0 p1 v0)) (adv [([], 2, 0, .eq (pB true)), ([], 4, 3, .elem [(pI y_1.kind), (pI y_1.modeF), (pI y_1.owner), (pI y_1.links), (pI y_1.openF), (pI y_1.up), (pS y_1.data), (.list 2 false (y_1.names.map entP))]), ([], 4, 5, .ret (pB false))]) (ex := .normal) (by kernel_rfl) (by kernel_rfl) (allC (cg q1) (allC (gt_list (c := NodeD.c) q2) (allC (diskAdd1_ok k y_1 _ q3) allN))), (by kernel_rfl)⟩
  · skip
    cases h
/-- slices.IndexFunc[[]flagstone/disk.Node,flagstone/disk.Node] -/
def slicesIndexFunc (s : (List NodeD)) : Option Int :=
  (iterN (slicesIndexFunc_b2 s (s.length : Int)) LF (0 : Int)).bind fun X_1 => match X_1 with
  | .inl (v_1, y_1, r_1) => (
    some v_1
  )
  | .inr (v_1) => (
    some (-1 : Int)
  )
set_option maxRecDepth 100000 in
theorem slicesIndexFunc_ok (k : Nat) (s : (List NodeD)) (r : Int) (h : slicesIndexFunc s = some r) : run0 (k + 2) 65 [(.list 8 false (s.map NodeD.c)), (.clo 66 [])] = some (pI r) := by
  unfold slicesIndexFunc at h
  obtain ⟨X_1, q1, h⟩ := bnd_some h
  obtain ⟨v_1, q2, q3⟩ := loop_iter (f := run1 (k + 1) 65 0 19 slicesIndexFunc_L2) (slicesIndexFunc_S2 s (s.length : Int)) (slicesIndexFunc_b2 s (s.length : Int)) (slicesIndexFunc_t2 k s (s.length : Int)) LF (0 : Int) _ (stOf (goStop (k + 1) 65 0 19 (adv [([], 1, 1, .eq (pI (s.length : Int)))]) 2 (codeOf Try.f65) (argS 65 [(.list 8 false (s.map NodeD.c)), (.clo 66 [])]))) q1 (by kernel_rfl)
  unfold slicesIndexFunc_b2 at q2
  try dsimp only at q2
  rcases bif_some q2 with ⟨q6, q2⟩ | ⟨q6, q2⟩
  · skip
    obtain ⟨y_1, q7, q2⟩ := bnd_some q2
    obtain ⟨r_1, q8, q2⟩ := bnd_some q2
    rcases bif_some q2 with ⟨q9, q2⟩ | ⟨q9, q2⟩
    · skip
      revert q2; subst q9; intro q2
      cases q2
      try dsimp only at h
      have q4 := run_go (k := (k + 1)) (f := 65) (r0 := 0) (nt := 19) (c := slicesIndexFunc_L2) (σ := (slicesIndexFunc_S2 s (s.length : Int) v_1)) (adv [([], 2, 0, .eq (pB true)), ([], 4, 3, .elem [(pI y_1.kind), (pI y_1.modeF), (pI y_1.owner), (pI y_1.links), (pI y_1.openF), (pI y_1.up), (pS y_1.data), (.list 2 false (y_1.names.map entP))]), ([], 4, 5, .ret (pB true))]) (ex := .ret) (by kernel_rfl) (by kernel_rfl) (allC (cg q6) (allC (gt_list (c := NodeD.c) q7) (allC (diskAdd1_ok k y_1 _ q8) allN)))
      have q5 := q3 _ _ (by intro e; cases e) q4
      obtain rfl := Option.some.inj h
      exact ret_go (k := (k + 1)) Try.func65 Try.ntmps65 (by kernel_rfl) (by kernel_rfl) (Nat.le_of_ble_eq_true rfl) (adv [([], 1, 1, .eq (pI (s.length : Int)))] [([], 2, .ret, (stOf (go (k + 1) 65 0 19 (adv [([], 2, 0, .eq (pB true)), ([], 4, 3, .elem [(pI y_1.kind), (pI y_1.modeF), (pI y_1.owner), (pI y_1.links), (pI y_1.openF), (pI y_1.up), (pS y_1.data), (.list 2 false (y_1.names.map entP))]), ([], 4, 5, .ret (pB true))]) slicesIndexFunc_L2 (slicesIndexFunc_S2 s (s.length : Int) v_1))))]) (ex := .ret) (r := (pI v_1)) (by kernel_rfl) rfl (by kernel_rfl) (allC (len_ob (rfl : (s.map NodeD.c) = s.map NodeD.c)) (allC q5 allN)) (by kernel_rfl) allN
    · skip
      revert q2; subst q9; intro q2
      cases q2
  · skip
    cases q2
    try dsimp only at h
    have q4 := run_go (k := (k + 1)) (f := 65) (r0 := 0) (nt := 19) (c := slicesIndexFunc_L2) (σ := (slicesIndexFunc_S2 s (s.length : Int) v_1)) (adv [([], 2, 0, .eq (pB false))]) (ex := (.exit 0)) (by kernel_rfl) (by kernel_rfl) (allC (cg q6) allN)
    have q5 := q3 _ _ (by intro e; cases e) q4
    obtain rfl := Option.some.inj h
    exact ret_go (k := (k + 1)) Try.func65 Try.ntmps65 (by kernel_rfl) (by kernel_rfl) (Nat.le_of_ble_eq_true rfl) (adv [([], 1, 1, .eq (pI (s.length : Int)))] [([], 2, (.exit 0), (stOf (go (k + 1) 65 0 19 (adv [([], 2, 0, .eq (pB false))]) slicesIndexFunc_L2 (slicesIndexFunc_S2 s (s.length : Int) v_1))))]) (ex := .ret) (r := (pI (-1 : Int))) (by kernel_rfl) rfl (by kernel_rfl) (allC (len_ob (rfl : (s.map NodeD.c) = s.map NodeD.c)) (allC q5 allN)) (by kernel_rfl) allN

/-- flagstone/disk.Add -/
def diskAdd (d : DiskD) (n : NodeD) : Option (DiskD × Int × Int) :=
  (diskUsed d).bind fun r_1 =>
  bif (decide (r_1 ≥ d.most)) then (
    some (d, (0 : Int), (10 : Int))
  ) else (
    (diskBytes d).bind fun r_2 =>
    (diskNodeBytes n).bind fun r_3 =>
    bif (decide ((w64 (r_2 + r_3)) > d.room)) then (
      some (d, (0 : Int), (10 : Int))
    ) else (
      (slicesIndexFunc d.nodes).bind fun r_4 =>
      bif (decide (r_4 < (0 : Int))) then (
        bif d.nodes.isEmpty then (
          (diskSet (DiskD.mk ([(NodeD.mk (0 : Int) (0 : Int) (0 : Int) (0 : Int) (0 : Int) (0 : Int) (⟨#[]⟩) [])]) d.most d.room) (d.nodes.length : Int) n).bind fun r_5 =>
          some (r_5, (d.nodes.length : Int), (0 : Int))
        ) else (
          grd (room (d.nodes.length) 88) <|
          grd (room (d.nodes.length + 1) 88) <|
          (diskSet (DiskD.mk (d.nodes ++ [(NodeD.mk (0 : Int) (0 : Int) (0 : Int) (0 : Int) (0 : Int) (0 : Int) (⟨#[]⟩) [])]) d.most d.room) (d.nodes.length : Int) n).bind fun r_5 =>
          some (r_5, (d.nodes.length : Int), (0 : Int))
        )
      ) else (
        (diskSet d r_4 n).bind fun r_5 =>
        some (r_5, r_4, (0 : Int))
      )
    )
  )
set_option maxRecDepth 100000 in
theorem diskAdd_ok (k : Nat) (d : DiskD) (n : NodeD) (r : (DiskD × Int × Int)) (h : diskAdd d n = some r) : run0 (k + 4) 26 [(.agg [(.list 8 false (d.nodes.map NodeD.c)), (pI d.most), (pI d.room)]), (.agg [(pI n.kind), (pI n.modeF), (pI n.owner), (pI n.links), (pI n.openF), (pI n.up), (pS n.data), (.list 2 false (n.names.map entP))])] = some (.tup [(.agg [(.list 8 false (r.1.nodes.map NodeD.c)), (pI r.1.most), (pI r.1.room)]), (pI r.2.1), (pI r.2.2)]) := by
  unfold diskAdd at h
  obtain ⟨r_1, q1, h⟩ := bnd_some h
  rcases bif_some h with ⟨q2, h⟩ | ⟨q2, h⟩
  · skip
    obtain rfl := Option.some.inj h
    exact ret_go (k := (k + 3)) Try.func26 Try.ntmps26 (by kernel_rfl) (by kernel_rfl) (Nat.le_of_ble_eq_true rfl) (adv [([], 1, 1, .ret (pI r_1)), ([], 1, 5, .eq (pB true))]) (ex := .ret) (r := (.tup [(.agg [(.list 8 false (d.nodes.map NodeD.c)), (pI d.most), (pI d.room)]), (pI (0 : Int)), (pI (10 : Int))])) (by kernel_rfl) rfl (by kernel_rfl) (allC (diskUsed_ok k d _ q1) (allC (cg q2) allN)) (by kernel_rfl) allN
  · skip
    obtain ⟨r_2, q3, h⟩ := bnd_some h
    obtain ⟨r_3, q4, h⟩ := bnd_some h
    rcases bif_some h with ⟨q5, h⟩ | ⟨q5, h⟩
    · skip
      obtain rfl := Option.some.inj h
      exact ret_go (k := (k + 3)) Try.func26 Try.ntmps26 (by kernel_rfl) (by kernel_rfl) (Nat.le_of_ble_eq_true rfl) (adv [([], 1, 1, .ret (pI r_1)), ([], 1, 5, .eq (pB false)), ([], 1, 7, .ret (pI r_2)), ([], 1, 9, .ret (pI r_3)), ([], 1, 14, .eq (pB true))]) (ex := .ret) (r := (.tup [(.agg [(.list 8 false (d.nodes.map NodeD.c)), (pI d.most), (pI d.room)]), (pI (0 : Int)), (pI (10 : Int))])) (by kernel_rfl) rfl (by kernel_rfl) (allC (diskUsed_ok k d _ q1) (allC (cg q2) (allC (diskBytes_ok k d _ q3) (allC (diskNodeBytes_ok (k + 2) n _ q4) (allC (cg q5) allN))))) (by kernel_rfl) allN
    · skip
      obtain ⟨r_4, q6, h⟩ := bnd_some h
      rcases bif_some h with ⟨q7, h⟩ | ⟨q7, h⟩
      · skip
        rcases bif_some h with ⟨q8, h⟩ | ⟨q8, h⟩
        · skip
          obtain ⟨r_5, q9, h⟩ := bnd_some h
          obtain rfl := Option.some.inj h
          exact ret_go (k := (k + 3)) Try.func26 Try.ntmps26 (by kernel_rfl) (by kernel_rfl) (Nat.le_of_ble_eq_true rfl) (adv [([], 1, 1, .ret (pI r_1)), ([], 1, 5, .eq (pB false)), ([], 1, 7, .ret (pI r_2)), ([], 1, 9, .ret (pI r_3)), ([], 1, 14, .eq (pB false)), ([], 3, 2, .ret (pI r_4)), ([], 4, 1, .eq (pB true)), ([], 5, 2, .eq (pI (d.nodes.length : Int))), ([], 6, 2, .ret (.list 8 true [])), ([], 6, 5, .ok), ([], 7, 3, .ret (.agg [(.list 8 false (r_5.nodes.map NodeD.c)), (pI r_5.most), (pI r_5.room)]))]) (ex := .ret) (r := (.tup [(.agg [(.list 8 false (r_5.nodes.map NodeD.c)), (pI r_5.most), (pI r_5.room)]), (pI (d.nodes.length : Int)), (pI (0 : Int))])) (by kernel_rfl) rfl (by kernel_rfl) (allC (diskUsed_ok k d _ q1) (allC (cg q2) (allC (diskBytes_ok k d _ q3) (allC (diskNodeBytes_ok (k + 2) n _ q4) (allC (cg q5) (allC (slicesIndexFunc_ok (k + 1) d.nodes _ q6) (allC (cg q7) (allC (len_ob (rfl : (d.nodes.map NodeD.c) = d.nodes.map NodeD.c)) (allC (cloneN_nil (k + 3) (rfl : (d.nodes.map NodeD.c) = d.nodes.map NodeD.c) q8) (allC (by decide : 0 + 1 ≤ 140737488355328 ∧ (0 + 1) * 88 ≤ 140737488355328) (allC (row_ok (show [[(pI (0 : Int)), (pI (0 : Int)), (pI (0 : Int)), (pI (0 : Int)), (pI (0 : Int)), (pI (0 : Int)), (pS (⟨#[]⟩)), (.list 2 false [])]] = ([(NodeD.mk (0 : Int) (0 : Int) (0 : Int) (0 : Int) (0 : Int) (0 : Int) (⟨#[]⟩) [])]).map NodeD.c from rfl) (show 0 + 1 = ([(NodeD.mk (0 : Int) (0 : Int) (0 : Int) (0 : Int) (0 : Int) (0 : Int) (⟨#[]⟩) [])]).length from (rfl : 0 + 1 = _))) (allC ((by rw [(show [[(pI (0 : Int)), (pI (0 : Int)), (pI (0 : Int)), (pI (0 : Int)), (pI (0 : Int)), (pI (0 : Int)), (pS (⟨#[]⟩)), (.list 2 false [])]] = (([(NodeD.mk (0 : Int) (0 : Int) (0 : Int) (0 : Int) (0 : Int) (0 : Int) (⟨#[]⟩) [])]).map NodeD.c) from rfl)]; exact diskSet_ok (k + 1) (DiskD.mk ([(NodeD.mk (0 : Int) (0 : Int) (0 : Int) (0 : Int) (0 : Int) (0 : Int) (⟨#[]⟩) [])]) d.most d.room) (d.nodes.length : Int) n _ q9) : run0 ((k + 1) + 2) 27 [(.agg [(.list 8 false [[(pI (0 : Int)), (pI (0 : Int)), (pI (0 : Int)), (pI (0 : Int)), (pI (0 : Int)), (pI (0 : Int)), (pS (⟨#[]⟩)), (.list 2 false [])]]), (pI d.most), (pI d.room)]), (pI (d.nodes.length : Int)), (.agg [(pI n.kind), (pI n.modeF), (pI n.owner), (pI n.links), (pI n.openF), (pI n.up), (pS n.data), (.list 2 false (n.names.map entP))])] = some (.agg [(.list 8 false (r_5.nodes.map NodeD.c)), (pI r_5.most), (pI r_5.room)])) allN)))))))))))) (by kernel_rfl) allN
        · skip
          obtain ⟨q9, h⟩ := grd_some h
          obtain ⟨q10, h⟩ := grd_some h
          obtain ⟨r_5, q11, h⟩ := bnd_some h
          obtain rfl := Option.some.inj h
          exact ret_go (k := (k + 3)) Try.func26 Try.ntmps26 (by kernel_rfl) (by kernel_rfl) (Nat.le_of_ble_eq_true rfl) (adv [([], 1, 1, .ret (pI r_1)), ([], 1, 5, .eq (pB false)), ([], 1, 7, .ret (pI r_2)), ([], 1, 9, .ret (pI r_3)), ([], 1, 14, .eq (pB false)), ([], 3, 2, .ret (pI r_4)), ([], 4, 1, .eq (pB true)), ([], 5, 2, .eq (pI (d.nodes.length : Int))), ([], 6, 2, .ret (.own 8 43 (d.nodes.map NodeD.c))), ([], 6, 5, .ok), ([], 7, 3, .ret (.agg [(.list 8 false (r_5.nodes.map NodeD.c)), (pI r_5.most), (pI r_5.room)]))]) (ex := .ret) (r := (.tup [(.agg [(.list 8 false (r_5.nodes.map NodeD.c)), (pI r_5.most), (pI r_5.room)]), (pI (d.nodes.length : Int)), (pI (0 : Int))])) (by kernel_rfl) rfl (by kernel_rfl) (allC (diskUsed_ok k d _ q1) (allC (cg q2) (allC (diskBytes_ok k d _ q3) (allC (diskNodeBytes_ok (k + 2) n _ q4) (allC (cg q5) (allC (slicesIndexFunc_ok (k + 1) d.nodes _ q6) (allC (cg q7) (allC (len_ob (rfl : (d.nodes.map NodeD.c) = d.nodes.map NodeD.c)) (allC (cloneN_own (k + 3) (rfl : (d.nodes.map NodeD.c) = d.nodes.map NodeD.c) (fun _ => rfl) q8 q9) (allC (app_ok (rfl : (d.nodes.map NodeD.c) = d.nodes.map NodeD.c) ((enc_len (rfl : (d.nodes.map NodeD.c) = d.nodes.map NodeD.c)) : (d.nodes.map NodeD.c).length = d.nodes.length) q10) (allC (row_ok ((enc_cat (rfl : (d.nodes.map NodeD.c) = d.nodes.map NodeD.c) (show [[(pI (0 : Int)), (pI (0 : Int)), (pI (0 : Int)), (pI (0 : Int)), (pI (0 : Int)), (pI (0 : Int)), (pS (⟨#[]⟩)), (.list 2 false [])]] = ([(NodeD.mk (0 : Int) (0 : Int) (0 : Int) (0 : Int) (0 : Int) (0 : Int) (⟨#[]⟩) [])]).map NodeD.c from rfl)) : ((d.nodes.map NodeD.c) ++ [[(pI (0 : Int)), (pI (0 : Int)), (pI (0 : Int)), (pI (0 : Int)), (pI (0 : Int)), (pI (0 : Int)), (pS (⟨#[]⟩)), (.list 2 false [])]]) = (d.nodes ++ [(NodeD.mk (0 : Int) (0 : Int) (0 : Int) (0 : Int) (0 : Int) (0 : Int) (⟨#[]⟩) [])]).map NodeD.c) (show ((d.nodes.map NodeD.c).length + 1) = (d.nodes ++ [(NodeD.mk (0 : Int) (0 : Int) (0 : Int) (0 : Int) (0 : Int) (0 : Int) (⟨#[]⟩) [])]).length from (len_cat ((enc_len (rfl : (d.nodes.map NodeD.c) = d.nodes.map NodeD.c)) : (d.nodes.map NodeD.c).length = d.nodes.length) d.nodes (rfl : 1 = ([(NodeD.mk (0 : Int) (0 : Int) (0 : Int) (0 : Int) (0 : Int) (0 : Int) (⟨#[]⟩) [])]).length)))) (allC ((by rw [(show ((d.nodes.map NodeD.c) ++ [[(pI (0 : Int)), (pI (0 : Int)), (pI (0 : Int)), (pI (0 : Int)), (pI (0 : Int)), (pI (0 : Int)), (pS (⟨#[]⟩)), (.list 2 false [])]]) = ((d.nodes ++ [(NodeD.mk (0 : Int) (0 : Int) (0 : Int) (0 : Int) (0 : Int) (0 : Int) (⟨#[]⟩) [])]).map NodeD.c) from (enc_cat (rfl : (d.nodes.map NodeD.c) = d.nodes.map NodeD.c) (show [[(pI (0 : Int)), (pI (0 : Int)), (pI (0 : Int)), (pI (0 : Int)), (pI (0 : Int)), (pI (0 : Int)), (pS (⟨#[]⟩)), (.list 2 false [])]] = ([(NodeD.mk (0 : Int) (0 : Int) (0 : Int) (0 : Int) (0 : Int) (0 : Int) (⟨#[]⟩) [])]).map NodeD.c from rfl)))]; exact diskSet_ok (k + 1) (DiskD.mk (d.nodes ++ [(NodeD.mk (0 : Int) (0 : Int) (0 : Int) (0 : Int) (0 : Int) (0 : Int) (⟨#[]⟩) [])]) d.most d.room) (d.nodes.length : Int) n _ q11) : run0 ((k + 1) + 2) 27 [(.agg [(.list 8 false ((d.nodes.map NodeD.c) ++ [[(pI (0 : Int)), (pI (0 : Int)), (pI (0 : Int)), (pI (0 : Int)), (pI (0 : Int)), (pI (0 : Int)), (pS (⟨#[]⟩)), (.list 2 false [])]])), (pI d.most), (pI d.room)]), (pI (d.nodes.length : Int)), (.agg [(pI n.kind), (pI n.modeF), (pI n.owner), (pI n.links), (pI n.openF), (pI n.up), (pS n.data), (.list 2 false (n.names.map entP))])] = some (.agg [(.list 8 false (r_5.nodes.map NodeD.c)), (pI r_5.most), (pI r_5.room)])) allN)))))))))))) (by kernel_rfl) allN
      · skip
        obtain ⟨r_5, q8, h⟩ := bnd_some h
        obtain rfl := Option.some.inj h
        exact ret_go (k := (k + 3)) Try.func26 Try.ntmps26 (by kernel_rfl) (by kernel_rfl) (Nat.le_of_ble_eq_true rfl) (adv [([], 1, 1, .ret (pI r_1)), ([], 1, 5, .eq (pB false)), ([], 1, 7, .ret (pI r_2)), ([], 1, 9, .ret (pI r_3)), ([], 1, 14, .eq (pB false)), ([], 3, 2, .ret (pI r_4)), ([], 4, 1, .eq (pB false)), ([], 7, 3, .ret (.agg [(.list 8 false (r_5.nodes.map NodeD.c)), (pI r_5.most), (pI r_5.room)]))]) (ex := .ret) (r := (.tup [(.agg [(.list 8 false (r_5.nodes.map NodeD.c)), (pI r_5.most), (pI r_5.room)]), (pI r_4), (pI (0 : Int))])) (by kernel_rfl) rfl (by kernel_rfl) (allC (diskUsed_ok k d _ q1) (allC (cg q2) (allC (diskBytes_ok k d _ q3) (allC (diskNodeBytes_ok (k + 2) n _ q4) (allC (cg q5) (allC (slicesIndexFunc_ok (k + 1) d.nodes _ q6) (allC (cg q7) (allC (diskSet_ok (k + 1) d r_4 n _ q8) allN)))))))) (by kernel_rfl) allN

/- flagstone/flagstoneref05.Sorted: its loop at region 2 -/
noncomputable def ref05Sorted_L2 : Code := cAt (codeOf Try.f35) [true, false, true, false, false]
def ref05Sorted_R2 (x0 : List (List PV)) (x1 : Int) : St := ⟨envL [(0, (.list 2 false x0)), (3, (pI x1))], hsL [] []⟩
theorem ref05Sorted_R2_eq {x0 y0 : List (List PV)} {x1 y1 : Int} (h0 : x0 = y0) (h1 : x1 = y1) : ref05Sorted_R2 x0 x1 = ref05Sorted_R2 y0 y1 := by
  subst h0 h1; rfl
def ref05Sorted_S2 (p0 : (List Ent)) : Int → St
  | v0 => ref05Sorted_R2 (p0.map entP) v0
def ref05Sorted_b2 (p0 : (List Ent)) : Int → Option (Int ⊕ ((Int × Ent × Int) ⊕ (Int × Ent × Int × Ent × Ent) ⊕ Int))
  | v0 =>
    bif (decide (v0 < (p0.length : Int))) then (
      (gt p0 v0).bind fun y_1 =>
      (legalX y_1.name).bind fun r_1 =>
      bif (r_1 != (0 : Int)) then (
        some (.inr (.inl (v0, y_1, r_1)))
      ) else (
        bif (decide (v0 > (0 : Int))) then (
          (gt p0 v0).bind fun y_2 =>
          (gt p0 (w64 (v0 - (1 : Int)))).bind fun y_3 =>
          bif ((Op.bytesLess y_2.name.toList y_3.name.toList) || (seq y_2.name y_3.name)) then (
            some (.inr (.inr (.inl (v0, y_1, r_1, y_2, y_3))))
          ) else (
            some (.inl (w64 (v0 + (1 : Int))))
          )
        ) else (
          some (.inl (w64 (v0 + (1 : Int))))
        )
      )
    ) else (
      some (.inr (.inr (.inr (v0))))
    )
set_option maxRecDepth 100000 in
theorem ref05Sorted_t2 (k : Nat) (p0 : (List Ent)) (v0 a1 : Int) (h : ref05Sorted_b2 p0 v0 = some (.inl a1)) : ∃ σ, run1 k 35 0 35 ref05Sorted_L2 (ref05Sorted_S2 p0 v0) = some (.normal, σ) ∧ canonS 0 [0, 3] σ = some (ref05Sorted_S2 p0 a1) := by
  unfold ref05Sorted_b2 at h
  try dsimp only at h
  rcases bif_some h with ⟨q1, h⟩ | ⟨q1, h⟩
  · skip
    obtain ⟨y_1, q2, h⟩ := bnd_some h
    obtain ⟨r_1, q3, h⟩ := bnd_some h
    rcases bif_some h with ⟨q4, h⟩ | ⟨q4, h⟩
    · skip
      cases h
    · skip
      rcases bif_some h with ⟨q5, h⟩ | ⟨q5, h⟩
      · skip
        obtain ⟨y_2, q6, h⟩ := bnd_some h
        obtain ⟨y_3, q7, h⟩ := bnd_some h
        rcases bif_some h with ⟨q8, h⟩ | ⟨q8, h⟩
        · skip
          cases h
        · skip
          obtain rfl := Sum.inl.inj (Option.some.inj h)
          exact ⟨_, run_go (k := k) (f := 35) (r0 := 0) (nt := 35) (c := ref05Sorted_L2) (σ := (ref05Sorted_S2 p0 v0)) (adv [([], 2, 2, .eq (pI (p0.length : Int))), ([], 2, 3, .eq (pB true)), ([], 4, 2, .elem [(pS y_1.name), (pI y_1.ino)]), ([], 4, 5, .ret (pI r_1)), ([], 4, 7, .eq (pB false)), ([], 4, 10, .eq (pB true)), ([], 4, 13, .elem [(pS y_2.name), (pI y_2.ino)]), ([], 4, 19, .elem [(pS y_3.name), (pI y_3.ino)]), ([], 4, 24, .eq (pB false))]) (ex := .normal) (by kernel_rfl) (by kernel_rfl) (allC (len_ob (rfl : (p0.map entP) = p0.map entP)) (allC (cg q1) (allC (gt_list (c := entP) q2) (allC (legalXr_ok k y_1.name _ q3) (allC (cg q4) (allC (cg q5) (allC (gt_list (c := entP) q6) (allC (gt_list (c := entP) q7) (allC (cg q8) allN))))))))), (by kernel_rfl)⟩
      · skip
        obtain rfl := Sum.inl.inj (Option.some.inj h)
        exact ⟨_, run_go (k := k) (f := 35) (r0 := 0) (nt := 35) (c := ref05Sorted_L2) (σ := (ref05Sorted_S2 p0 v0)) (adv [([], 2, 2, .eq (pI (p0.length : Int))), ([], 2, 3, .eq (pB true)), ([], 4, 2, .elem [(pS y_1.name), (pI y_1.ino)]), ([], 4, 5, .ret (pI r_1)), ([], 4, 7, .eq (pB false)), ([], 4, 10, .eq (pB false))]) (ex := .normal) (by kernel_rfl) (by kernel_rfl) (allC (len_ob (rfl : (p0.map entP) = p0.map entP)) (allC (cg q1) (allC (gt_list (c := entP) q2) (allC (legalXr_ok k y_1.name _ q3) (allC (cg q4) (allC (cg q5) allN)))))), (by kernel_rfl)⟩
  · skip
    cases h
/-- flagstone/flagstoneref05.Sorted -/
def ref05Sorted (l : (List Ent)) : Option Bool :=
  (iterN (ref05Sorted_b2 l) LF (0 : Int)).bind fun X_1 => match X_1 with
  | .inl (v_1, y_1, r_1) => (
    some false
  )
  | .inr (.inl (v_1, y_1, r_1, y_2, y_3)) => (
    some false
  )
  | .inr (.inr (v_1)) => (
    some true
  )
set_option maxRecDepth 100000 in
theorem ref05Sorted_ok (k : Nat) (l : (List Ent)) (r : Bool) (h : ref05Sorted l = some r) : run0 (k + 1) 35 [(.list 2 false (l.map entP))] = some (pB r) := by
  unfold ref05Sorted at h
  obtain ⟨X_1, q1, h⟩ := bnd_some h
  obtain ⟨v_1, q2, q3⟩ := loop_iter (f := run1 k 35 0 35 ref05Sorted_L2) (ref05Sorted_S2 l) (ref05Sorted_b2 l) (ref05Sorted_t2 k l) LF (0 : Int) _ (stOf (goStop k 35 0 35 (adv []) 2 (codeOf Try.f35) (argS 35 [(.list 2 false (l.map entP))]))) q1 (by kernel_rfl)
  unfold ref05Sorted_b2 at q2
  try dsimp only at q2
  rcases bif_some q2 with ⟨q6, q2⟩ | ⟨q6, q2⟩
  · skip
    obtain ⟨y_1, q7, q2⟩ := bnd_some q2
    obtain ⟨r_1, q8, q2⟩ := bnd_some q2
    rcases bif_some q2 with ⟨q9, q2⟩ | ⟨q9, q2⟩
    · skip
      cases q2
      try dsimp only at h
      have q4 := run_go (k := k) (f := 35) (r0 := 0) (nt := 35) (c := ref05Sorted_L2) (σ := (ref05Sorted_S2 l v_1)) (adv [([], 2, 2, .eq (pI (l.length : Int))), ([], 2, 3, .eq (pB true)), ([], 4, 2, .elem [(pS y_1.name), (pI y_1.ino)]), ([], 4, 5, .ret (pI r_1)), ([], 4, 7, .eq (pB true))]) (ex := .ret) (by kernel_rfl) (by kernel_rfl) (allC (len_ob (rfl : (l.map entP) = l.map entP)) (allC (cg q6) (allC (gt_list (c := entP) q7) (allC (legalXr_ok k y_1.name _ q8) (allC (cg q9) allN)))))
      have q5 := q3 _ _ (by intro e; cases e) q4
      obtain rfl := Option.some.inj h
      exact ret_go (k := k) Try.func35 Try.ntmps35 (by kernel_rfl) (by kernel_rfl) (Nat.le_of_ble_eq_true rfl) (adv [] [([], 2, .ret, (stOf (go k 35 0 35 (adv [([], 2, 2, .eq (pI (l.length : Int))), ([], 2, 3, .eq (pB true)), ([], 4, 2, .elem [(pS y_1.name), (pI y_1.ino)]), ([], 4, 5, .ret (pI r_1)), ([], 4, 7, .eq (pB true))]) ref05Sorted_L2 (ref05Sorted_S2 l v_1))))]) (ex := .ret) (r := (pB false)) (by kernel_rfl) rfl (by kernel_rfl) (allC q5 allN) (by kernel_rfl) allN
    · skip
      rcases bif_some q2 with ⟨q10, q2⟩ | ⟨q10, q2⟩
      · skip
        obtain ⟨y_2, q11, q2⟩ := bnd_some q2
        obtain ⟨y_3, q12, q2⟩ := bnd_some q2
        rcases bif_some q2 with ⟨q13, q2⟩ | ⟨q13, q2⟩
        · skip
          cases q2
          try dsimp only at h
          have q4 := run_go (k := k) (f := 35) (r0 := 0) (nt := 35) (c := ref05Sorted_L2) (σ := (ref05Sorted_S2 l v_1)) (adv [([], 2, 2, .eq (pI (l.length : Int))), ([], 2, 3, .eq (pB true)), ([], 4, 2, .elem [(pS y_1.name), (pI y_1.ino)]), ([], 4, 5, .ret (pI r_1)), ([], 4, 7, .eq (pB false)), ([], 4, 10, .eq (pB true)), ([], 4, 13, .elem [(pS y_2.name), (pI y_2.ino)]), ([], 4, 19, .elem [(pS y_3.name), (pI y_3.ino)]), ([], 4, 24, .eq (pB true))]) (ex := .ret) (by kernel_rfl) (by kernel_rfl) (allC (len_ob (rfl : (l.map entP) = l.map entP)) (allC (cg q6) (allC (gt_list (c := entP) q7) (allC (legalXr_ok k y_1.name _ q8) (allC (cg q9) (allC (cg q10) (allC (gt_list (c := entP) q11) (allC (gt_list (c := entP) q12) (allC (cg q13) allN)))))))))
          have q5 := q3 _ _ (by intro e; cases e) q4
          obtain rfl := Option.some.inj h
          exact ret_go (k := k) Try.func35 Try.ntmps35 (by kernel_rfl) (by kernel_rfl) (Nat.le_of_ble_eq_true rfl) (adv [] [([], 2, .ret, (stOf (go k 35 0 35 (adv [([], 2, 2, .eq (pI (l.length : Int))), ([], 2, 3, .eq (pB true)), ([], 4, 2, .elem [(pS y_1.name), (pI y_1.ino)]), ([], 4, 5, .ret (pI r_1)), ([], 4, 7, .eq (pB false)), ([], 4, 10, .eq (pB true)), ([], 4, 13, .elem [(pS y_2.name), (pI y_2.ino)]), ([], 4, 19, .elem [(pS y_3.name), (pI y_3.ino)]), ([], 4, 24, .eq (pB true))]) ref05Sorted_L2 (ref05Sorted_S2 l v_1))))]) (ex := .ret) (r := (pB false)) (by kernel_rfl) rfl (by kernel_rfl) (allC q5 allN) (by kernel_rfl) allN
        · skip
          cases q2
      · skip
        cases q2
  · skip
    cases q2
    try dsimp only at h
    have q4 := run_go (k := k) (f := 35) (r0 := 0) (nt := 35) (c := ref05Sorted_L2) (σ := (ref05Sorted_S2 l v_1)) (adv [([], 2, 2, .eq (pI (l.length : Int))), ([], 2, 3, .eq (pB false))]) (ex := (.exit 0)) (by kernel_rfl) (by kernel_rfl) (allC (len_ob (rfl : (l.map entP) = l.map entP)) (allC (cg q6) allN))
    have q5 := q3 _ _ (by intro e; cases e) q4
    obtain rfl := Option.some.inj h
    exact ret_go (k := k) Try.func35 Try.ntmps35 (by kernel_rfl) (by kernel_rfl) (Nat.le_of_ble_eq_true rfl) (adv [] [([], 2, (.exit 0), (stOf (go k 35 0 35 (adv [([], 2, 2, .eq (pI (l.length : Int))), ([], 2, 3, .eq (pB false))]) ref05Sorted_L2 (ref05Sorted_S2 l v_1))))]) (ex := .ret) (r := (pB true)) (by kernel_rfl) rfl (by kernel_rfl) (allC q5 allN) (by kernel_rfl) allN

/-- flagstone/flagstoneref06.Get -/
def ref06Get (d : DiskD) (i : Int) : Option (NodeD × Bool) :=
  bif (decide (i < (0 : Int))) then (
    some ((NodeD.mk (0 : Int) (0 : Int) (0 : Int) (0 : Int) (0 : Int) (0 : Int) (⟨#[]⟩) []), false)
  ) else (
    bif (decide (i ≥ (d.nodes.length : Int))) then (
      some ((NodeD.mk (0 : Int) (0 : Int) (0 : Int) (0 : Int) (0 : Int) (0 : Int) (⟨#[]⟩) []), false)
    ) else (
      (gt d.nodes i).bind fun y_1 =>
      bif (y_1.kind == (0 : Int)) then (
        some ((NodeD.mk (0 : Int) (0 : Int) (0 : Int) (0 : Int) (0 : Int) (0 : Int) (⟨#[]⟩) []), false)
      ) else (
        (gt d.nodes i).bind fun y_2 =>
        some (y_2, true)
      )
    )
  )
set_option maxRecDepth 100000 in
theorem ref06Get_ok (k : Nat) (d : DiskD) (i : Int) (r : (NodeD × Bool)) (h : ref06Get d i = some r) : run0 (k + 1) 72 [(.agg [(.list 8 false (d.nodes.map NodeD.c)), (pI d.most), (pI d.room)]), (pI i)] = some (.tup [(.agg [(pI r.1.kind), (pI r.1.modeF), (pI r.1.owner), (pI r.1.links), (pI r.1.openF), (pI r.1.up), (pS r.1.data), (.list 2 false (r.1.names.map entP))]), (pB r.2)]) := by
  unfold ref06Get at h
  rcases bif_some h with ⟨q1, h⟩ | ⟨q1, h⟩
  · skip
    obtain rfl := Option.some.inj h
    exact ret_go (k := k) Try.func72 Try.ntmps72 (by kernel_rfl) (by kernel_rfl) (Nat.le_of_ble_eq_true rfl) (adv [([], 1, 2, .eq (pB true))]) (ex := .ret) (r := (.tup [(.agg [(pI (0 : Int)), (pI (0 : Int)), (pI (0 : Int)), (pI (0 : Int)), (pI (0 : Int)), (pI (0 : Int)), (pS (⟨#[]⟩)), (.list 2 false [])]), (pB false)])) (by kernel_rfl) rfl (by kernel_rfl) (allC (cg q1) allN) (by kernel_rfl) allN
  · skip
    rcases bif_some h with ⟨q2, h⟩ | ⟨q2, h⟩
    · skip
      obtain rfl := Option.some.inj h
      exact ret_go (k := k) Try.func72 Try.ntmps72 (by kernel_rfl) (by kernel_rfl) (Nat.le_of_ble_eq_true rfl) (adv [([], 1, 2, .eq (pB false)), ([], 1, 6, .eq (pI (d.nodes.length : Int))), ([], 1, 9, .eq (pB true))]) (ex := .ret) (r := (.tup [(.agg [(pI (0 : Int)), (pI (0 : Int)), (pI (0 : Int)), (pI (0 : Int)), (pI (0 : Int)), (pI (0 : Int)), (pS (⟨#[]⟩)), (.list 2 false [])]), (pB false)])) (by kernel_rfl) rfl (by kernel_rfl) (allC (cg q1) (allC (len_ob (rfl : (d.nodes.map NodeD.c) = d.nodes.map NodeD.c)) (allC (cg q2) allN))) (by kernel_rfl) allN
    · skip
      obtain ⟨y_1, q3, h⟩ := bnd_some h
      rcases bif_some h with ⟨q4, h⟩ | ⟨q4, h⟩
      · skip
        obtain rfl := Option.some.inj h
        exact ret_go (k := k) Try.func72 Try.ntmps72 (by kernel_rfl) (by kernel_rfl) (Nat.le_of_ble_eq_true rfl) (adv [([], 1, 2, .eq (pB false)), ([], 1, 6, .eq (pI (d.nodes.length : Int))), ([], 1, 9, .eq (pB false)), ([], 1, 13, .elem [(pI y_1.kind), (pI y_1.modeF), (pI y_1.owner), (pI y_1.links), (pI y_1.openF), (pI y_1.up), (pS y_1.data), (.list 2 false (y_1.names.map entP))]), ([], 1, 17, .eq (pB true))]) (ex := .ret) (r := (.tup [(.agg [(pI (0 : Int)), (pI (0 : Int)), (pI (0 : Int)), (pI (0 : Int)), (pI (0 : Int)), (pI (0 : Int)), (pS (⟨#[]⟩)), (.list 2 false [])]), (pB false)])) (by kernel_rfl) rfl (by kernel_rfl) (allC (cg q1) (allC (len_ob (rfl : (d.nodes.map NodeD.c) = d.nodes.map NodeD.c)) (allC (cg q2) (allC (gt_list (c := NodeD.c) q3) (allC (cg q4) allN))))) (by kernel_rfl) allN
      · skip
        obtain ⟨y_2, q5, h⟩ := bnd_some h
        obtain rfl := Option.some.inj h
        exact ret_go (k := k) Try.func72 Try.ntmps72 (by kernel_rfl) (by kernel_rfl) (Nat.le_of_ble_eq_true rfl) (adv [([], 1, 2, .eq (pB false)), ([], 1, 6, .eq (pI (d.nodes.length : Int))), ([], 1, 9, .eq (pB false)), ([], 1, 13, .elem [(pI y_1.kind), (pI y_1.modeF), (pI y_1.owner), (pI y_1.links), (pI y_1.openF), (pI y_1.up), (pS y_1.data), (.list 2 false (y_1.names.map entP))]), ([], 1, 17, .eq (pB false)), ([], 3, 3, .elem [(pI y_2.kind), (pI y_2.modeF), (pI y_2.owner), (pI y_2.links), (pI y_2.openF), (pI y_2.up), (pS y_2.data), (.list 2 false (y_2.names.map entP))])]) (ex := .ret) (r := (.tup [(.agg [(pI y_2.kind), (pI y_2.modeF), (pI y_2.owner), (pI y_2.links), (pI y_2.openF), (pI y_2.up), (pS y_2.data), (.list 2 false (y_2.names.map entP))]), (pB true)])) (by kernel_rfl) rfl (by kernel_rfl) (allC (cg q1) (allC (len_ob (rfl : (d.nodes.map NodeD.c) = d.nodes.map NodeD.c)) (allC (cg q2) (allC (gt_list (c := NodeD.c) q3) (allC (cg q4) (allC (gt_list (c := NodeD.c) q5) allN)))))) (by kernel_rfl) allN


end Go.Proofs.Ytfllhakmjookkaa.Den
