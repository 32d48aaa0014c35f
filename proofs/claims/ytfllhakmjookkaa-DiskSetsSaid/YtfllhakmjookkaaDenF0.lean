/- Functions, printed by den.py out of the code: plain ones, and that the code answers as they do. -/
import Derived.Test.YtfllhakmjookkaaDenTy
set_option linter.unusedVariables false
set_option linter.unusedSimpArgs false
namespace Go.Proofs.Ytfllhakmjookkaa.Den
open Go Go.RowKit

/- flagstone/flagstonelaw06.big: its loop at region 2 -/
noncomputable def law06Big_L2 : Code := cAt (codeOf Try.f14) [true, false, true, false, false]
def law06Big_R2 (x0 : Int) (x1 : List (List PV)) (x2 : Int) (x3 : Int) : St := ⟨envL [(1, (.ptr [0, TAG] 1 0 0)), (3, (pI x0))], hsL [some ⟨3, 24, [[(.list 8 false x1), (pI x2), (pI x3)]], true, false⟩] [0]⟩
theorem law06Big_R2_eq {x0 y0 : Int} {x1 y1 : List (List PV)} {x2 y2 : Int} {x3 y3 : Int} (h0 : x0 = y0) (h1 : x1 = y1) (h2 : x2 = y2) (h3 : x3 = y3) : law06Big_R2 x0 x1 x2 x3 = law06Big_R2 y0 y1 y2 y3 := by
  subst h0 h1 h2 h3; rfl
def law06Big_S2 (p0 : (List NodeD)) (p1 : Int) (p2 : Int) : Int → St
  | v0 => law06Big_R2 v0 (p0.map NodeD.c) p1 p2
def law06Big_b2 (p0 : (List NodeD)) (p1 : Int) (p2 : Int) : Int → Option (Int ⊕ ((Int × NodeD) ⊕ (Int × NodeD × NodeD) ⊕ Int ⊕ Int))
  | v0 =>
    bif (decide (v0 < (p0.length : Int))) then (
      bif (decide (v0 < (110 : Int))) then (
        (gt p0 v0).bind fun y_1 =>
        bif (decide ((y_1.data.size : Int) > (300 : Int))) then (
          some (.inr (.inl (v0, y_1)))
        ) else (
          (gt p0 v0).bind fun y_2 =>
          bif (decide ((y_2.names.length : Int) > (60 : Int))) then (
            some (.inr (.inr (.inl (v0, y_1, y_2))))
          ) else (
            some (.inl (w64 (v0 + (1 : Int))))
          )
        )
      ) else (
        some (.inr (.inr (.inr (.inl v0))))
      )
    ) else (
      some (.inr (.inr (.inr (.inr (v0)))))
    )
set_option maxRecDepth 100000 in
theorem law06Big_t2 (k : Nat) (p0 : (List NodeD)) (p1 : Int) (p2 : Int) (v0 a1 : Int) (h : law06Big_b2 p0 p1 p2 v0 = some (.inl a1)) : ∃ σ, run1 k 14 0 37 law06Big_L2 (law06Big_S2 p0 p1 p2 v0) = some (.normal, σ) ∧ canonS 0 [1, 3] σ = some (law06Big_S2 p0 p1 p2 a1) := by
  unfold law06Big_b2 at h
  try dsimp only at h
  rcases bif_some h with ⟨q1, h⟩ | ⟨q1, h⟩
  · skip
    rcases bif_some h with ⟨q2, h⟩ | ⟨q2, h⟩
    · skip
      obtain ⟨y_1, q3, h⟩ := bnd_some h
      rcases bif_some h with ⟨q4, h⟩ | ⟨q4, h⟩
      · skip
        cases h
      · skip
        obtain ⟨y_2, q5, h⟩ := bnd_some h
        rcases bif_some h with ⟨q6, h⟩ | ⟨q6, h⟩
        · skip
          cases h
        · skip
          obtain rfl := Sum.inl.inj (Option.some.inj h)
          exact ⟨_, run_go (k := k) (f := 14) (r0 := 0) (nt := 37) (c := law06Big_L2) (σ := (law06Big_S2 p0 p1 p2 v0)) (adv [([], 2, 3, .eq (pI (p0.length : Int))), ([], 2, 5, .eq (pB true)), ([], 2, 8, .eq (pB true)), ([], 4, 3, .elem [(pI y_1.kind), (pI y_1.modeF), (pI y_1.owner), (pI y_1.links), (pI y_1.openF), (pI y_1.up), (pS y_1.data), (.list 2 false (y_1.names.map entP))]), ([], 4, 8, .eq (pB false)), ([], 4, 12, .elem [(pI y_2.kind), (pI y_2.modeF), (pI y_2.owner), (pI y_2.links), (pI y_2.openF), (pI y_2.up), (pS y_2.data), (.list 2 false (y_2.names.map entP))]), ([], 4, 15, .eq (pI (y_2.names.length : Int))), ([], 4, 17, .eq (pB false))]) (ex := .normal) (by kernel_rfl) (by kernel_rfl) (allC (len_ob (rfl : (p0.map NodeD.c) = p0.map NodeD.c)) (allC (cg q1) (allC (cg q2) (allC (gt_list (c := NodeD.c) q3) (allC (cg q4) (allC (gt_list (c := NodeD.c) q5) (allC (len_ob (rfl : (y_2.names.map entP) = y_2.names.map entP)) (allC (cg q6) allN)))))))), (by kernel_rfl)⟩
    · skip
      cases h
  · skip
    cases h
/-- flagstone/flagstonelaw06.big -/
def law06Big (d : DiskD) : Option Bool :=
  (iterN (law06Big_b2 d.nodes d.most d.room) LF (0 : Int)).bind fun X_1 => match X_1 with
  | .inl (v_1, y_1) => (
    some true
  )
  | .inr (.inl (v_1, y_1, y_2)) => (
    some true
  )
  | .inr (.inr (.inl v_1)) => (
    some (decide ((d.nodes.length : Int) > (100 : Int)))
  )
  | .inr (.inr (.inr (v_1))) => (
    some (decide ((d.nodes.length : Int) > (100 : Int)))
  )
set_option maxRecDepth 100000 in
theorem law06Big_ok (k : Nat) (d : DiskD) (r : Bool) (h : law06Big d = some r) : run0 (k + 1) 14 [(.agg [(.list 8 false (d.nodes.map NodeD.c)), (pI d.most), (pI d.room)])] = some (pB r) := by
  unfold law06Big at h
  obtain ⟨X_1, q1, h⟩ := bnd_some h
  obtain ⟨v_1, q2, q3⟩ := loop_iter (f := run1 k 14 0 37 law06Big_L2) (law06Big_S2 d.nodes d.most d.room) (law06Big_b2 d.nodes d.most d.room) (law06Big_t2 k d.nodes d.most d.room) LF (0 : Int) _ (stOf (goStop k 14 0 37 (adv []) 2 (codeOf Try.f14) (argS 14 [(.agg [(.list 8 false (d.nodes.map NodeD.c)), (pI d.most), (pI d.room)])]))) q1 (by kernel_rfl)
  unfold law06Big_b2 at q2
  try dsimp only at q2
  rcases bif_some q2 with ⟨q6, q2⟩ | ⟨q6, q2⟩
  · skip
    rcases bif_some q2 with ⟨q7, q2⟩ | ⟨q7, q2⟩
    · skip
      obtain ⟨y_1, q8, q2⟩ := bnd_some q2
      rcases bif_some q2 with ⟨q9, q2⟩ | ⟨q9, q2⟩
      · skip
        cases q2
        try dsimp only at h
        have q4 := run_go (k := k) (f := 14) (r0 := 0) (nt := 37) (c := law06Big_L2) (σ := (law06Big_S2 d.nodes d.most d.room v_1)) (adv [([], 2, 3, .eq (pI (d.nodes.length : Int))), ([], 2, 5, .eq (pB true)), ([], 2, 8, .eq (pB true)), ([], 4, 3, .elem [(pI y_1.kind), (pI y_1.modeF), (pI y_1.owner), (pI y_1.links), (pI y_1.openF), (pI y_1.up), (pS y_1.data), (.list 2 false (y_1.names.map entP))]), ([], 4, 8, .eq (pB true))]) (ex := .ret) (by kernel_rfl) (by kernel_rfl) (allC (len_ob (rfl : (d.nodes.map NodeD.c) = d.nodes.map NodeD.c)) (allC (cg q6) (allC (cg q7) (allC (gt_list (c := NodeD.c) q8) (allC (cg q9) allN)))))
        have q5 := q3 _ _ (by intro e; cases e) q4
        obtain rfl := Option.some.inj h
        exact ret_go (k := k) Try.func14 Try.ntmps14 (by kernel_rfl) (by kernel_rfl) (Nat.le_of_ble_eq_true rfl) (adv [] [([], 2, .ret, (stOf (go k 14 0 37 (adv [([], 2, 3, .eq (pI (d.nodes.length : Int))), ([], 2, 5, .eq (pB true)), ([], 2, 8, .eq (pB true)), ([], 4, 3, .elem [(pI y_1.kind), (pI y_1.modeF), (pI y_1.owner), (pI y_1.links), (pI y_1.openF), (pI y_1.up), (pS y_1.data), (.list 2 false (y_1.names.map entP))]), ([], 4, 8, .eq (pB true))]) law06Big_L2 (law06Big_S2 d.nodes d.most d.room v_1))))]) (ex := .ret) (r := (pB true)) (by kernel_rfl) rfl (by kernel_rfl) (allC q5 allN) (by kernel_rfl) allN
      · skip
        obtain ⟨y_2, q10, q2⟩ := bnd_some q2
        rcases bif_some q2 with ⟨q11, q2⟩ | ⟨q11, q2⟩
        · skip
          cases q2
          try dsimp only at h
          have q4 := run_go (k := k) (f := 14) (r0 := 0) (nt := 37) (c := law06Big_L2) (σ := (law06Big_S2 d.nodes d.most d.room v_1)) (adv [([], 2, 3, .eq (pI (d.nodes.length : Int))), ([], 2, 5, .eq (pB true)), ([], 2, 8, .eq (pB true)), ([], 4, 3, .elem [(pI y_1.kind), (pI y_1.modeF), (pI y_1.owner), (pI y_1.links), (pI y_1.openF), (pI y_1.up), (pS y_1.data), (.list 2 false (y_1.names.map entP))]), ([], 4, 8, .eq (pB false)), ([], 4, 12, .elem [(pI y_2.kind), (pI y_2.modeF), (pI y_2.owner), (pI y_2.links), (pI y_2.openF), (pI y_2.up), (pS y_2.data), (.list 2 false (y_2.names.map entP))]), ([], 4, 15, .eq (pI (y_2.names.length : Int))), ([], 4, 17, .eq (pB true))]) (ex := .ret) (by kernel_rfl) (by kernel_rfl) (allC (len_ob (rfl : (d.nodes.map NodeD.c) = d.nodes.map NodeD.c)) (allC (cg q6) (allC (cg q7) (allC (gt_list (c := NodeD.c) q8) (allC (cg q9) (allC (gt_list (c := NodeD.c) q10) (allC (len_ob (rfl : (y_2.names.map entP) = y_2.names.map entP)) (allC (cg q11) allN))))))))
          have q5 := q3 _ _ (by intro e; cases e) q4
          obtain rfl := Option.some.inj h
          exact ret_go (k := k) Try.func14 Try.ntmps14 (by kernel_rfl) (by kernel_rfl) (Nat.le_of_ble_eq_true rfl) (adv [] [([], 2, .ret, (stOf (go k 14 0 37 (adv [([], 2, 3, .eq (pI (d.nodes.length : Int))), ([], 2, 5, .eq (pB true)), ([], 2, 8, .eq (pB true)), ([], 4, 3, .elem [(pI y_1.kind), (pI y_1.modeF), (pI y_1.owner), (pI y_1.links), (pI y_1.openF), (pI y_1.up), (pS y_1.data), (.list 2 false (y_1.names.map entP))]), ([], 4, 8, .eq (pB false)), ([], 4, 12, .elem [(pI y_2.kind), (pI y_2.modeF), (pI y_2.owner), (pI y_2.links), (pI y_2.openF), (pI y_2.up), (pS y_2.data), (.list 2 false (y_2.names.map entP))]), ([], 4, 15, .eq (pI (y_2.names.length : Int))), ([], 4, 17, .eq (pB true))]) law06Big_L2 (law06Big_S2 d.nodes d.most d.room v_1))))]) (ex := .ret) (r := (pB true)) (by kernel_rfl) rfl (by kernel_rfl) (allC q5 allN) (by kernel_rfl) allN
        · skip
          cases q2
    · skip
      cases q2
      try dsimp only at h
      have q4 := run_go (k := k) (f := 14) (r0 := 0) (nt := 37) (c := law06Big_L2) (σ := (law06Big_S2 d.nodes d.most d.room v_1)) (adv [([], 2, 3, .eq (pI (d.nodes.length : Int))), ([], 2, 5, .eq (pB true)), ([], 2, 8, .eq (pB false))]) (ex := (.exit 0)) (by kernel_rfl) (by kernel_rfl) (allC (len_ob (rfl : (d.nodes.map NodeD.c) = d.nodes.map NodeD.c)) (allC (cg q6) (allC (cg q7) allN)))
      have q5 := q3 _ _ (by intro e; cases e) q4
      obtain rfl := Option.some.inj h
      exact ret_go (k := k) Try.func14 Try.ntmps14 (by kernel_rfl) (by kernel_rfl) (Nat.le_of_ble_eq_true rfl) (adv [([], 6, 2, .eq (pI (d.nodes.length : Int)))] [([], 2, (.exit 0), (stOf (go k 14 0 37 (adv [([], 2, 3, .eq (pI (d.nodes.length : Int))), ([], 2, 5, .eq (pB true)), ([], 2, 8, .eq (pB false))]) law06Big_L2 (law06Big_S2 d.nodes d.most d.room v_1))))]) (ex := .ret) (r := (pB (decide ((d.nodes.length : Int) > (100 : Int))))) (by kernel_rfl) rfl (by kernel_rfl) (allC q5 (allC (len_ob (rfl : (d.nodes.map NodeD.c) = d.nodes.map NodeD.c)) allN)) (by kernel_rfl) allN
  · skip
    cases q2
    try dsimp only at h
    have q4 := run_go (k := k) (f := 14) (r0 := 0) (nt := 37) (c := law06Big_L2) (σ := (law06Big_S2 d.nodes d.most d.room v_1)) (adv [([], 2, 3, .eq (pI (d.nodes.length : Int))), ([], 2, 5, .eq (pB false))]) (ex := (.exit 0)) (by kernel_rfl) (by kernel_rfl) (allC (len_ob (rfl : (d.nodes.map NodeD.c) = d.nodes.map NodeD.c)) (allC (cg q6) allN))
    have q5 := q3 _ _ (by intro e; cases e) q4
    obtain rfl := Option.some.inj h
    exact ret_go (k := k) Try.func14 Try.ntmps14 (by kernel_rfl) (by kernel_rfl) (Nat.le_of_ble_eq_true rfl) (adv [([], 6, 2, .eq (pI (d.nodes.length : Int)))] [([], 2, (.exit 0), (stOf (go k 14 0 37 (adv [([], 2, 3, .eq (pI (d.nodes.length : Int))), ([], 2, 5, .eq (pB false))]) law06Big_L2 (law06Big_S2 d.nodes d.most d.room v_1))))]) (ex := .ret) (r := (pB (decide ((d.nodes.length : Int) > (100 : Int))))) (by kernel_rfl) rfl (by kernel_rfl) (allC q5 (allC (len_ob (rfl : (d.nodes.map NodeD.c) = d.nodes.map NodeD.c)) allN)) (by kernel_rfl) allN

/-- flagstone/disk.between -/
def diskBetween (n : Int) (least : Int) (most : Int) : Option Bool :=
  bif (decide (least ≤ n)) then (
    some (decide (n ≤ most))
  ) else (
    some false
  )
set_option maxRecDepth 100000 in
theorem diskBetween_ok (k : Nat) (n : Int) (least : Int) (most : Int) (r : Bool) (h : diskBetween n least most = some r) : run0 (k + 1) 48 [(pI n), (pI least), (pI most)] = some (pB r) := by
  unfold diskBetween at h
  rcases bif_some h with ⟨q1, h⟩ | ⟨q1, h⟩
  · skip
    obtain rfl := Option.some.inj h
    exact ret_go (k := k) Try.func48 Try.ntmps48 (by kernel_rfl) (by kernel_rfl) (Nat.le_of_ble_eq_true rfl) (adv [([], 1, 3, .eq (pB true))]) (ex := .ret) (r := (pB (decide (n ≤ most)))) (by kernel_rfl) rfl (by kernel_rfl) (allC (cg q1) allN) (by kernel_rfl) allN
  · skip
    obtain rfl := Option.some.inj h
    exact ret_go (k := k) Try.func48 Try.ntmps48 (by kernel_rfl) (by kernel_rfl) (Nat.le_of_ble_eq_true rfl) (adv [([], 1, 3, .eq (pB false))]) (ex := .ret) (r := (pB false)) (by kernel_rfl) rfl (by kernel_rfl) (allC (cg q1) allN) (by kernel_rfl) allN

/-- flagstone/disk.New -/
def diskNew (most : Int) (room : Int) (modeF : Int) : Option DiskD :=
  (diskBetween most (1 : Int) (100 : Int)).bind fun r_1 =>
  bif (!r_1) then (
    some (DiskD.mk [] (0 : Int) (0 : Int))
  ) else (
    (diskBetween room (0 : Int) (1000 : Int)).bind fun r_2 =>
    bif (!r_2) then (
      some (DiskD.mk [] (0 : Int) (0 : Int))
    ) else (
      (diskBetween modeF (0 : Int) (63 : Int)).bind fun r_3 =>
      bif (!r_3) then (
        some (DiskD.mk [] (0 : Int) (0 : Int))
      ) else (
        some (DiskD.mk ([(NodeD.mk (2 : Int) modeF (0 : Int) (1 : Int) (0 : Int) (0 : Int) (⟨#[]⟩) [])]) most room)
      )
    )
  )
set_option maxRecDepth 100000 in
theorem diskNew_ok (k : Nat) (most : Int) (room : Int) (modeF : Int) (r : DiskD) (h : diskNew most room modeF = some r) : run0 (k + 2) 18 [(pI most), (pI room), (pI modeF)] = some (.agg [(.list 8 false (r.nodes.map NodeD.c)), (pI r.most), (pI r.room)]) := by
  unfold diskNew at h
  obtain ⟨r_1, q1, h⟩ := bnd_some h
  rcases bif_some h with ⟨q2, h⟩ | ⟨q2, h⟩
  · skip
    obtain rfl := Option.some.inj h
    exact ret_go (k := (k + 1)) Try.func18 Try.ntmps18 (by kernel_rfl) (by kernel_rfl) (Nat.le_of_ble_eq_true rfl) (adv [([0], 4, 6, .ret (pB r_1)), ([0], 4, 7, .eq (pB true))] [] [2]) (ex := .ret) (r := (.agg [(.list 8 false []), (pI (0 : Int)), (pI (0 : Int))])) (by kernel_rfl) rfl (by kernel_rfl) (allC (diskBetween_ok k most (1 : Int) (100 : Int) _ q1) (allC (cg q2) allN)) (by kernel_rfl) allN
  · skip
    obtain ⟨r_2, q3, h⟩ := bnd_some h
    rcases bif_some h with ⟨q4, h⟩ | ⟨q4, h⟩
    · skip
      obtain rfl := Option.some.inj h
      exact ret_go (k := (k + 1)) Try.func18 Try.ntmps18 (by kernel_rfl) (by kernel_rfl) (Nat.le_of_ble_eq_true rfl) (adv [([0], 4, 6, .ret (pB r_1)), ([0], 4, 7, .eq (pB false)), ([1], 4, 6, .ret (pB r_2)), ([1], 4, 7, .eq (pB true))] [] [2]) (ex := .ret) (r := (.agg [(.list 8 false []), (pI (0 : Int)), (pI (0 : Int))])) (by kernel_rfl) rfl (by kernel_rfl) (allC (diskBetween_ok k most (1 : Int) (100 : Int) _ q1) (allC (cg q2) (allC (diskBetween_ok k room (0 : Int) (1000 : Int) _ q3) (allC (cg q4) allN)))) (by kernel_rfl) allN
    · skip
      obtain ⟨r_3, q5, h⟩ := bnd_some h
      rcases bif_some h with ⟨q6, h⟩ | ⟨q6, h⟩
      · skip
        obtain rfl := Option.some.inj h
        exact ret_go (k := (k + 1)) Try.func18 Try.ntmps18 (by kernel_rfl) (by kernel_rfl) (Nat.le_of_ble_eq_true rfl) (adv [([0], 4, 6, .ret (pB r_1)), ([0], 4, 7, .eq (pB false)), ([1], 4, 6, .ret (pB r_2)), ([1], 4, 7, .eq (pB false)), ([2], 4, 6, .ret (pB r_3)), ([2], 4, 7, .eq (pB true))] [] [2]) (ex := .ret) (r := (.agg [(.list 8 false []), (pI (0 : Int)), (pI (0 : Int))])) (by kernel_rfl) rfl (by kernel_rfl) (allC (diskBetween_ok k most (1 : Int) (100 : Int) _ q1) (allC (cg q2) (allC (diskBetween_ok k room (0 : Int) (1000 : Int) _ q3) (allC (cg q4) (allC (diskBetween_ok k modeF (0 : Int) (63 : Int) _ q5) (allC (cg q6) allN)))))) (by kernel_rfl) allN
      · skip
        obtain rfl := Option.some.inj h
        exact ret_go (k := (k + 1)) Try.func18 Try.ntmps18 (by kernel_rfl) (by kernel_rfl) (Nat.le_of_ble_eq_true rfl) (adv [([0], 4, 6, .ret (pB r_1)), ([0], 4, 7, .eq (pB false)), ([1], 4, 6, .ret (pB r_2)), ([1], 4, 7, .eq (pB false)), ([2], 4, 6, .ret (pB r_3)), ([2], 4, 7, .eq (pB false))] [] [2]) (ex := .ret) (r := (.agg [(.list 8 false [[(pI (2 : Int)), (pI modeF), (pI (0 : Int)), (pI (1 : Int)), (pI (0 : Int)), (pI (0 : Int)), (pS (⟨#[]⟩)), (.list 2 false [])]]), (pI most), (pI room)])) (by kernel_rfl) rfl (by kernel_rfl) (allC (diskBetween_ok k most (1 : Int) (100 : Int) _ q1) (allC (cg q2) (allC (diskBetween_ok k room (0 : Int) (1000 : Int) _ q3) (allC (cg q4) (allC (diskBetween_ok k modeF (0 : Int) (63 : Int) _ q5) (allC (cg q6) allN)))))) (by kernel_rfl) (allC (⟨rfl, rfl⟩ : (0 : Nat) = 0 ∧ (1 : Nat) = 1) allN)

/- flagstone/flagstonelaw06.node: its loop at region 3 -/
noncomputable def law06Node_L3 : Code := cAt (codeOf Try.f30) [true, true, false, true, false, false]
def law06Node_R3_0 (x0 : Int) (x1 : Int) (x2 : Int) (x3 : Int) (x4 : Int) (x5 : Int) (x6 : Int) (x7 : ByteArray) (x8 : List (List PV)) (x9 : Int) (x10 : Int) (x11 : Int) (x12 : Int) (x13 : Int) (x14 : Int) (x15 : ByteArray) : St := ⟨envL [(1, (.ptr [0, TAG] 1 0 0)), (2, (.ptr [1, TAG] 1 0 0)), (3, (.ptr [2, TAG] 1 0 0)), (4, (pI x0))], hsL [some ⟨8, 43, [[(pI x1), (pI x2), (pI x3), (pI x4), (pI x5), (pI x6), (pS x7), (.list 2 false x8)]], true, false⟩, some ⟨8, 51, [[(pI (0 : Int)), (pI (0 : Int)), (pI (0 : Int)), (pI (0 : Int)), (pI (0 : Int)), (pI (0 : Int)), (pS (⟨#[]⟩)), (.v (.slice none 0 0))]], true, false⟩, some ⟨8, 51, [[(pI x9), (pI x10), (pI x11), (pI x12), (pI x13), (pI x14), (pS x15), (.v (.slice none 0 0))]], true, false⟩] [0, 0, 0]⟩
theorem law06Node_R3_0_eq {x0 y0 : Int} {x1 y1 : Int} {x2 y2 : Int} {x3 y3 : Int} {x4 y4 : Int} {x5 y5 : Int} {x6 y6 : Int} {x7 y7 : ByteArray} {x8 y8 : List (List PV)} {x9 y9 : Int} {x10 y10 : Int} {x11 y11 : Int} {x12 y12 : Int} {x13 y13 : Int} {x14 y14 : Int} {x15 y15 : ByteArray} (h0 : x0 = y0) (h1 : x1 = y1) (h2 : x2 = y2) (h3 : x3 = y3) (h4 : x4 = y4) (h5 : x5 = y5) (h6 : x6 = y6) (h7 : x7 = y7) (h8 : x8 = y8) (h9 : x9 = y9) (h10 : x10 = y10) (h11 : x11 = y11) (h12 : x12 = y12) (h13 : x13 = y13) (h14 : x14 = y14) (h15 : x15 = y15) : law06Node_R3_0 x0 x1 x2 x3 x4 x5 x6 x7 x8 x9 x10 x11 x12 x13 x14 x15 = law06Node_R3_0 y0 y1 y2 y3 y4 y5 y6 y7 y8 y9 y10 y11 y12 y13 y14 y15 := by
  subst h0 h1 h2 h3 h4 h5 h6 h7 h8 h9 h10 h11 h12 h13 h14 h15; rfl
def law06Node_R3_1 (x0 : Int) (x1 : Int) (x2 : Int) (x3 : Int) (x4 : Int) (x5 : Int) (x6 : Int) (x7 : ByteArray) (x8 : List (List PV)) (x9 : Int) (x10 : Int) (x11 : Int) (x12 : Int) (x13 : Int) (x14 : Int) (x15 : ByteArray) (x16 : Nat) (x17 : List (List PV)) : St := ⟨envL [(1, (.ptr [0, TAG] 1 0 0)), (2, (.ptr [1, TAG] 1 0 0)), (3, (.ptr [2, TAG] 1 0 0)), (4, (pI x0))], hsL [some ⟨8, 43, [[(pI x1), (pI x2), (pI x3), (pI x4), (pI x5), (pI x6), (pS x7), (.list 2 false x8)]], true, false⟩, some ⟨8, 51, [[(pI (0 : Int)), (pI (0 : Int)), (pI (0 : Int)), (pI (0 : Int)), (pI (0 : Int)), (pI (0 : Int)), (pS (⟨#[]⟩)), (.v (.slice none 0 0))]], true, false⟩, some ⟨8, 51, [[(pI x9), (pI x10), (pI x11), (pI x12), (pI x13), (pI x14), (pS x15), (.row [3, TAG] 1 0 x16)]], false, false⟩, some ⟨2, 74, x17, true, true⟩] [0, 0, 0, 0]⟩
theorem law06Node_R3_1_eq {x0 y0 : Int} {x1 y1 : Int} {x2 y2 : Int} {x3 y3 : Int} {x4 y4 : Int} {x5 y5 : Int} {x6 y6 : Int} {x7 y7 : ByteArray} {x8 y8 : List (List PV)} {x9 y9 : Int} {x10 y10 : Int} {x11 y11 : Int} {x12 y12 : Int} {x13 y13 : Int} {x14 y14 : Int} {x15 y15 : ByteArray} {x16 y16 : Nat} {x17 y17 : List (List PV)} (h0 : x0 = y0) (h1 : x1 = y1) (h2 : x2 = y2) (h3 : x3 = y3) (h4 : x4 = y4) (h5 : x5 = y5) (h6 : x6 = y6) (h7 : x7 = y7) (h8 : x8 = y8) (h9 : x9 = y9) (h10 : x10 = y10) (h11 : x11 = y11) (h12 : x12 = y12) (h13 : x13 = y13) (h14 : x14 = y14) (h15 : x15 = y15) (h16 : x16 = y16) (h17 : x17 = y17) : law06Node_R3_1 x0 x1 x2 x3 x4 x5 x6 x7 x8 x9 x10 x11 x12 x13 x14 x15 x16 x17 = law06Node_R3_1 y0 y1 y2 y3 y4 y5 y6 y7 y8 y9 y10 y11 y12 y13 y14 y15 y16 y17 := by
  subst h0 h1 h2 h3 h4 h5 h6 h7 h8 h9 h10 h11 h12 h13 h14 h15 h16 h17; rfl
def law06Node_S3 (p0 : Int) (p1 : Int) (p2 : Int) (p3 : Int) (p4 : Int) (p5 : Int) (p6 : ByteArray) (p7 : (List Ent)) (p8 : Int) (p9 : Int) (p10 : Int) (p11 : Int) (p12 : Int) (p13 : Int) (p14 : ByteArray) : (Int × (List Ent)) → St
  | (v0, []) => law06Node_R3_0 v0 p0 p1 p2 p3 p4 p5 p6 (p7.map entP) p8 p9 p10 p11 p12 p13 p14
  | (v0, z_1 :: z_2) => law06Node_R3_1 v0 p0 p1 p2 p3 p4 p5 p6 (p7.map entP) p8 p9 p10 p11 p12 p13 p14 (z_1 :: z_2).length ((z_1 :: z_2).map entP)
def law06Node_b3 (p0 : Int) (p1 : Int) (p2 : Int) (p3 : Int) (p4 : Int) (p5 : Int) (p6 : ByteArray) (p7 : (List Ent)) (p8 : Int) (p9 : Int) (p10 : Int) (p11 : Int) (p12 : Int) (p13 : Int) (p14 : ByteArray) : (Int × (List Ent)) → Option ((Int × (List Ent)) ⊕ (Int ⊕ (Int × Ent × (List Ent))))
  | (v0, v1) =>
    (match v1 with
    | [] => (
      bif (decide (v0 < (p7.length : Int))) then (
        (gt p7 v0).bind fun y_1 =>
        some (.inl ((w64 (v0 + (1 : Int))), [y_1]))
      ) else (
        some (.inr (.inl v0))
      )
    )
    | z_1 :: z_2 => (
      bif (decide (v0 < (p7.length : Int))) then (
        (gt p7 v0).bind fun y_1 =>
        grd (room ((z_1 :: z_2).length + 1) 24) <|
        some (.inl ((w64 (v0 + (1 : Int))), ((z_1 :: z_2) ++ [y_1])))
      ) else (
        some (.inr (.inr ((v0, z_1, z_2))))
      )
    ))
set_option maxRecDepth 100000 in
theorem law06Node_t3 (k : Nat) (p0 : Int) (p1 : Int) (p2 : Int) (p3 : Int) (p4 : Int) (p5 : Int) (p6 : ByteArray) (p7 : (List Ent)) (p8 : Int) (p9 : Int) (p10 : Int) (p11 : Int) (p12 : Int) (p13 : Int) (p14 : ByteArray) (a a1 : (Int × (List Ent))) (h : law06Node_b3 p0 p1 p2 p3 p4 p5 p6 p7 p8 p9 p10 p11 p12 p13 p14 a = some (.inl a1)) : ∃ σ, run1 k 30 0 38 law06Node_L3 (law06Node_S3 p0 p1 p2 p3 p4 p5 p6 p7 p8 p9 p10 p11 p12 p13 p14 a) = some (.normal, σ) ∧ canonS 0 [1, 2, 3, 4] σ = some (law06Node_S3 p0 p1 p2 p3 p4 p5 p6 p7 p8 p9 p10 p11 p12 p13 p14 a1) := by
  obtain ⟨v0, v1⟩ := a
  unfold law06Node_b3 at h
  try dsimp only at h
  rcases v1 with _ | ⟨z_1, z_2⟩
  · try dsimp only at h
    rcases bif_some h with ⟨q1, h⟩ | ⟨q1, h⟩
    · skip
      obtain ⟨y_1, q2, h⟩ := bnd_some h
      obtain rfl := Sum.inl.inj (Option.some.inj h)
      exact ⟨_, run_go (k := k) (f := 30) (r0 := 0) (nt := 38) (c := law06Node_L3) (σ := (law06Node_S3 p0 p1 p2 p3 p4 p5 p6 p7 p8 p9 p10 p11 p12 p13 p14 (v0, []))) (adv [([], 3, 3, .eq (pI (p7.length : Int))), ([], 3, 4, .eq (pB true)), ([], 5, 5, .elem [(pS y_1.name), (pI y_1.ino)]), ([], 5, 8, .ok)]) (ex := .normal) (by kernel_rfl) (by kernel_rfl) (allC (len_ob (rfl : (p7.map entP) = p7.map entP)) (allC (cg q1) (allC (gt_list (c := entP) q2) (allC (by decide : 1 ≤ 140737488355328 ∧ (1) * 24 ≤ 140737488355328) allN)))), (Eq.trans (b := some (law06Node_R3_1 (w64 (v0 + (1 : Int))) p0 p1 p2 p3 p4 p5 p6 (p7.map entP) p8 p9 p10 p11 p12 p13 p14 1 ([[(pS y_1.name), (pI y_1.ino)]]))) (by kernel_rfl) (congrArg some ((law06Node_R3_1_eq (rfl : (w64 (v0 + (1 : Int))) = (w64 (v0 + (1 : Int)))) (rfl : p0 = p0) (rfl : p1 = p1) (rfl : p2 = p2) (rfl : p3 = p3) (rfl : p4 = p4) (rfl : p5 = p5) (rfl : p6 = p6) (rfl : (p7.map entP) = (p7.map entP)) (rfl : p8 = p8) (rfl : p9 = p9) (rfl : p10 = p10) (rfl : p11 = p11) (rfl : p12 = p12) (rfl : p13 = p13) (rfl : p14 = p14) ((rfl : 1 = _) : 1 = ([y_1].length)) (rfl : ([[(pS y_1.name), (pI y_1.ino)]]) = ([y_1].map entP))).trans (by kernel_rfl : law06Node_R3_1 (w64 (v0 + (1 : Int))) p0 p1 p2 p3 p4 p5 p6 (p7.map entP) p8 p9 p10 p11 p12 p13 p14 ([y_1].length) ([y_1].map entP) = law06Node_S3 p0 p1 p2 p3 p4 p5 p6 p7 p8 p9 p10 p11 p12 p13 p14 ((w64 (v0 + (1 : Int))), [y_1])))))⟩
    · skip
      cases h
  · try dsimp only at h
    rcases bif_some h with ⟨q1, h⟩ | ⟨q1, h⟩
    · skip
      obtain ⟨y_1, q2, h⟩ := bnd_some h
      obtain ⟨q3, h⟩ := grd_some h
      obtain rfl := Sum.inl.inj (Option.some.inj h)
      exact ⟨_, run_go (k := k) (f := 30) (r0 := 0) (nt := 38) (c := law06Node_L3) (σ := (law06Node_S3 p0 p1 p2 p3 p4 p5 p6 p7 p8 p9 p10 p11 p12 p13 p14 (v0, (z_1 :: z_2)))) (adv [([], 3, 3, .eq (pI (p7.length : Int))), ([], 3, 4, .eq (pB true)), ([], 5, 5, .elem [(pS y_1.name), (pI y_1.ino)]), ([], 5, 8, .ok)]) (ex := .normal) (by kernel_rfl) (by kernel_rfl) (allC (len_ob (rfl : (p7.map entP) = p7.map entP)) (allC (cg q1) (allC (gt_list (c := entP) q2) (allC (app_ok (rfl : ((z_1 :: z_2).map entP) = (z_1 :: z_2).map entP) (rfl : (z_1 :: z_2).length = (z_1 :: z_2).length) q3) allN)))), (Eq.trans (b := some (law06Node_R3_1 (w64 (v0 + (1 : Int))) p0 p1 p2 p3 p4 p5 p6 (p7.map entP) p8 p9 p10 p11 p12 p13 p14 ((z_1 :: z_2).length + 1) (((z_1 :: z_2).map entP) ++ [[(pS y_1.name), (pI y_1.ino)]]))) (by kernel_rfl) (congrArg some ((law06Node_R3_1_eq (rfl : (w64 (v0 + (1 : Int))) = (w64 (v0 + (1 : Int)))) (rfl : p0 = p0) (rfl : p1 = p1) (rfl : p2 = p2) (rfl : p3 = p3) (rfl : p4 = p4) (rfl : p5 = p5) (rfl : p6 = p6) (rfl : (p7.map entP) = (p7.map entP)) (rfl : p8 = p8) (rfl : p9 = p9) (rfl : p10 = p10) (rfl : p11 = p11) (rfl : p12 = p12) (rfl : p13 = p13) (rfl : p14 = p14) ((len_cat (rfl : (z_1 :: z_2).length = (z_1 :: z_2).length) (z_1 :: z_2) (rfl : 1 = [y_1].length)) : ((z_1 :: z_2).length + 1) = (((z_1 :: z_2) ++ [y_1]).length)) ((enc_cat (rfl : ((z_1 :: z_2).map entP) = (z_1 :: z_2).map entP) (show [[(pS y_1.name), (pI y_1.ino)]] = [y_1].map entP from rfl)) : (((z_1 :: z_2).map entP) ++ [[(pS y_1.name), (pI y_1.ino)]]) = (((z_1 :: z_2) ++ [y_1]).map entP))).trans (by kernel_rfl : law06Node_R3_1 (w64 (v0 + (1 : Int))) p0 p1 p2 p3 p4 p5 p6 (p7.map entP) p8 p9 p10 p11 p12 p13 p14 (((z_1 :: z_2) ++ [y_1]).length) (((z_1 :: z_2) ++ [y_1]).map entP) = law06Node_S3 p0 p1 p2 p3 p4 p5 p6 p7 p8 p9 p10 p11 p12 p13 p14 ((w64 (v0 + (1 : Int))), ((z_1 :: z_2) ++ [y_1]))))))⟩
    · skip
      cases h
/-- flagstone/flagstonelaw06.node -/
def law06Node (n : NodeD) : Option NodeD :=
  (iterN (law06Node_b3 n.kind n.modeF n.owner n.links n.openF n.up n.data n.names n.kind n.modeF n.owner n.links n.openF n.up n.data) LF ((0 : Int), [])).bind fun X_1 => match X_1 with
  | .inl v_1 => (
    some (NodeD.mk n.kind n.modeF n.owner n.links n.openF n.up n.data [])
  )
  | .inr ((v_1, z_1, z_2)) => (
    some (NodeD.mk n.kind n.modeF n.owner n.links n.openF n.up n.data (z_1 :: z_2))
  )
set_option maxRecDepth 100000 in
theorem law06Node_ok (k : Nat) (n : NodeD) (r : NodeD) (h : law06Node n = some r) : run0 (k + 1) 30 [(.agg [(pI n.kind), (pI n.modeF), (pI n.owner), (pI n.links), (pI n.openF), (pI n.up), (pS n.data), (.list 2 false (n.names.map entP))])] = some (.agg [(pI r.kind), (pI r.modeF), (pI r.owner), (pI r.links), (pI r.openF), (pI r.up), (pS r.data), (.list 2 false (r.names.map entP))]) := by
  unfold law06Node at h
  obtain ⟨X_1, q1, h⟩ := bnd_some h
  obtain ⟨a_1, q2, q3⟩ := loop_iter (f := run1 k 30 0 38 law06Node_L3) (law06Node_S3 n.kind n.modeF n.owner n.links n.openF n.up n.data n.names n.kind n.modeF n.owner n.links n.openF n.up n.data) (law06Node_b3 n.kind n.modeF n.owner n.links n.openF n.up n.data n.names n.kind n.modeF n.owner n.links n.openF n.up n.data) (law06Node_t3 k n.kind n.modeF n.owner n.links n.openF n.up n.data n.names n.kind n.modeF n.owner n.links n.openF n.up n.data) LF ((0 : Int), []) _ (stOf (goStop k 30 0 38 (adv []) 3 (codeOf Try.f30) (argS 30 [(.agg [(pI n.kind), (pI n.modeF), (pI n.owner), (pI n.links), (pI n.openF), (pI n.up), (pS n.data), (.list 2 false (n.names.map entP))])]))) q1 (by kernel_rfl)
  obtain ⟨v_1, v_2⟩ := a_1
  unfold law06Node_b3 at q2
  try dsimp only at q2
  rcases v_2 with _ | ⟨z_1, z_2⟩
  · try dsimp only at q2
    rcases bif_some q2 with ⟨q6, q2⟩ | ⟨q6, q2⟩
    · skip
      obtain ⟨y_1, q7, q2⟩ := bnd_some q2
      cases q2
    · skip
      cases q2
      try dsimp only at h
      have q4 := run_go (k := k) (f := 30) (r0 := 0) (nt := 38) (c := law06Node_L3) (σ := (law06Node_S3 n.kind n.modeF n.owner n.links n.openF n.up n.data n.names n.kind n.modeF n.owner n.links n.openF n.up n.data (v_1, []))) (adv [([], 3, 3, .eq (pI (n.names.length : Int))), ([], 3, 4, .eq (pB false))]) (ex := (.exit 0)) (by kernel_rfl) (by kernel_rfl) (allC (len_ob (rfl : (n.names.map entP) = n.names.map entP)) (allC (cg q6) allN))
      have q5 := q3 _ _ (by intro e; cases e) q4
      obtain rfl := Option.some.inj h
      exact ret_go (k := k) Try.func30 Try.ntmps30 (by kernel_rfl) (by kernel_rfl) (Nat.le_of_ble_eq_true rfl) (adv [] [([], 3, (.exit 0), (stOf (go k 30 0 38 (adv [([], 3, 3, .eq (pI (n.names.length : Int))), ([], 3, 4, .eq (pB false))]) law06Node_L3 (law06Node_S3 n.kind n.modeF n.owner n.links n.openF n.up n.data n.names n.kind n.modeF n.owner n.links n.openF n.up n.data (v_1, [])))))]) (ex := .ret) (r := (.agg [(pI n.kind), (pI n.modeF), (pI n.owner), (pI n.links), (pI n.openF), (pI n.up), (pS n.data), (.list 2 false [])])) (by kernel_rfl) rfl (by kernel_rfl) (allC q5 allN) (by kernel_rfl) allN
  · try dsimp only at q2
    rcases bif_some q2 with ⟨q6, q2⟩ | ⟨q6, q2⟩
    · skip
      obtain ⟨y_1, q7, q2⟩ := bnd_some q2
      obtain ⟨q8, q2⟩ := grd_some q2
      cases q2
    · skip
      cases q2
      try dsimp only at h
      have q4 := run_go (k := k) (f := 30) (r0 := 0) (nt := 38) (c := law06Node_L3) (σ := (law06Node_S3 n.kind n.modeF n.owner n.links n.openF n.up n.data n.names n.kind n.modeF n.owner n.links n.openF n.up n.data (v_1, (z_1 :: z_2)))) (adv [([], 3, 3, .eq (pI (n.names.length : Int))), ([], 3, 4, .eq (pB false))]) (ex := (.exit 0)) (by kernel_rfl) (by kernel_rfl) (allC (len_ob (rfl : (n.names.map entP) = n.names.map entP)) (allC (cg q6) allN))
      have q5 := q3 _ _ (by intro e; cases e) q4
      obtain rfl := Option.some.inj h
      exact ret_go (k := k) Try.func30 Try.ntmps30 (by kernel_rfl) (by kernel_rfl) (Nat.le_of_ble_eq_true rfl) (adv [] [([], 3, (.exit 0), (stOf (go k 30 0 38 (adv [([], 3, 3, .eq (pI (n.names.length : Int))), ([], 3, 4, .eq (pB false))]) law06Node_L3 (law06Node_S3 n.kind n.modeF n.owner n.links n.openF n.up n.data n.names n.kind n.modeF n.owner n.links n.openF n.up n.data (v_1, (z_1 :: z_2))))))]) (ex := .ret) (r := (.agg [(pI n.kind), (pI n.modeF), (pI n.owner), (pI n.links), (pI n.openF), (pI n.up), (pS n.data), (.list 2 false ((z_1 :: z_2).map entP))])) (by kernel_rfl) rfl (by kernel_rfl) (allC q5 allN) (by kernel_rfl) (allC (row_ok (rfl : ((z_1 :: z_2).map entP) = (z_1 :: z_2).map entP) (rfl : (z_1 :: z_2).length = (z_1 :: z_2).length)) allN)


end Go.Proofs.Ytfllhakmjookkaa.Den
