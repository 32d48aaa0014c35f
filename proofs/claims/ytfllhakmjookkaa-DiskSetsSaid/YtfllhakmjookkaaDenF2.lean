/- Functions, printed by den.py out of the code: plain ones, and that the code answers as they do. -/
import Derived.Test.YtfllhakmjookkaaDenF1
set_option linter.unusedVariables false
set_option linter.unusedSimpArgs false
namespace Go.Proofs.Ytfllhakmjookkaa.Den
open Go Go.RowKit

/-- flagstone/disk.Used 1 -/
def diskUsed1 (n : NodeD) : Option Int :=
  bif (n.kind == (0 : Int)) then (
    some (0 : Int)
  ) else (
    some (1 : Int)
  )
set_option maxRecDepth 100000 in
theorem diskUsed1_ok (k : Nat) (n : NodeD) (r : Int) (h : diskUsed1 n = some r) : run0 (k + 1) 50 [(.agg [(pI n.kind), (pI n.modeF), (pI n.owner), (pI n.links), (pI n.openF), (pI n.up), (pS n.data), (.list 2 false (n.names.map entP))])] = some (pI r) := by
  unfold diskUsed1 at h
  rcases bif_some h with ⟨q1, h⟩ | ⟨q1, h⟩
  · skip
    obtain rfl := Option.some.inj h
    exact ret_go (k := k) Try.func50 Try.ntmps50 (by kernel_rfl) (by kernel_rfl) (Nat.le_of_ble_eq_true rfl) (adv [([], 1, 2, .eq (pB true))]) (ex := .ret) (r := (pI (0 : Int))) (by kernel_rfl) rfl (by kernel_rfl) (allC (cg q1) allN) (by kernel_rfl) allN
  · skip
    obtain rfl := Option.some.inj h
    exact ret_go (k := k) Try.func50 Try.ntmps50 (by kernel_rfl) (by kernel_rfl) (Nat.le_of_ble_eq_true rfl) (adv [([], 1, 2, .eq (pB false))]) (ex := .ret) (r := (pI (1 : Int))) (by kernel_rfl) rfl (by kernel_rfl) (allC (cg q1) allN) (by kernel_rfl) allN

/- (flagstone/disk.Disk).sum: its loop at region 2 -/
noncomputable def diskDiskSum_L2 : Code := cAt (codeOf Try.f49) [true, false, true, false, false]
def diskDiskSum_R2 (x0 : Int) (x1 : List (List PV)) (x2 : Int) (x3 : Int) : St := ⟨envL [(1, (.clo 50 [])), (4, (pI x0)), (8, (.list 8 false x1)), (9, (pI x2)), (10, (pI x3))], hsL [] []⟩
theorem diskDiskSum_R2_eq {x0 y0 : Int} {x1 y1 : List (List PV)} {x2 y2 : Int} {x3 y3 : Int} (h0 : x0 = y0) (h1 : x1 = y1) (h2 : x2 = y2) (h3 : x3 = y3) : diskDiskSum_R2 x0 x1 x2 x3 = diskDiskSum_R2 y0 y1 y2 y3 := by
  subst h0 h1 h2 h3; rfl
def diskDiskSum_S2 (p0 : (List NodeD)) (p1 : Int) : (Int × Int) → St
  | (v0, v1) => diskDiskSum_R2 v0 (p0.map NodeD.c) p1 v1
def diskDiskSum_b2 (p0 : (List NodeD)) (p1 : Int) : (Int × Int) → Option ((Int × Int) ⊕ (Int × Int))
  | (v0, v1) =>
    bif (decide (v1 < p1)) then (
      (gt p0 v1).bind fun y_1 =>
      (diskUsed1 y_1).bind fun r_1 =>
      some (.inl ((w64 (v0 + r_1)), (w64 (v1 + (1 : Int)))))
    ) else (
      some (.inr (v0, v1))
    )
set_option maxRecDepth 100000 in
theorem diskDiskSum_t2 (k : Nat) (p0 : (List NodeD)) (p1 : Int) (a a1 : (Int × Int)) (h : diskDiskSum_b2 p0 p1 a = some (.inl a1)) : ∃ σ, run1 (k + 1) 49 0 21 diskDiskSum_L2 (diskDiskSum_S2 p0 p1 a) = some (.normal, σ) ∧ canonS 0 [1, 4, 8, 9, 10] σ = some (diskDiskSum_S2 p0 p1 a1) := by
  obtain ⟨v0, v1⟩ := a
  unfold diskDiskSum_b2 at h
  try dsimp only at h
  rcases bif_some h with ⟨q1, h⟩ | ⟨q1, h⟩
  · skip
    obtain ⟨y_1, q2, h⟩ := bnd_some h
    obtain ⟨r_1, q3, h⟩ := bnd_some h
    obtain rfl := Sum.inl.inj (Option.some.inj h)
    exact ⟨_, run_go (k := (k + 1)) (f := 49) (r0 := 0) (nt := 21) (c := diskDiskSum_L2) (σ := (diskDiskSum_S2 p0 p1 (v0, v1))) (adv [([], 2, 0, .eq (pB true)), ([], 3, 0, .elem [(pI y_1.kind), (pI y_1.modeF), (pI y_1.owner), (pI y_1.links), (pI y_1.openF), (pI y_1.up), (pS y_1.data), (.list 2 false (y_1.names.map entP))]), ([], 4, 3, .ret (pI r_1))]) (ex := .normal) (by kernel_rfl) (by kernel_rfl) (allC (cg q1) (allC (gt_list (c := NodeD.c) q2) (allC (diskUsed1_ok k y_1 _ q3) allN))), (by kernel_rfl)⟩
  · skip
    cases h
/-- (flagstone/disk.Disk).sum -/
def diskDiskSum (d : DiskD) : Option Int :=
  (iterN (diskDiskSum_b2 d.nodes (d.nodes.length : Int)) LF ((0 : Int), (0 : Int))).bind fun (v_1, v_2) =>
  some v_1
set_option maxRecDepth 100000 in
theorem diskDiskSum_ok (k : Nat) (d : DiskD) (r : Int) (h : diskDiskSum d = some r) : run0 (k + 2) 49 [(.agg [(.list 8 false (d.nodes.map NodeD.c)), (pI d.most), (pI d.room)]), (.clo 50 [])] = some (pI r) := by
  unfold diskDiskSum at h
  obtain ⟨X_1, q1, h⟩ := bnd_some h
  obtain ⟨a_1, q2, q3⟩ := loop_iter (f := run1 (k + 1) 49 0 21 diskDiskSum_L2) (diskDiskSum_S2 d.nodes (d.nodes.length : Int)) (diskDiskSum_b2 d.nodes (d.nodes.length : Int)) (diskDiskSum_t2 k d.nodes (d.nodes.length : Int)) LF ((0 : Int), (0 : Int)) _ (stOf (goStop (k + 1) 49 0 21 (adv [([], 1, 2, .eq (pI (d.nodes.length : Int)))]) 2 (codeOf Try.f49) (argS 49 [(.agg [(.list 8 false (d.nodes.map NodeD.c)), (pI d.most), (pI d.room)]), (.clo 50 [])]))) q1 (by kernel_rfl)
  obtain ⟨v_1, v_2⟩ := a_1
  unfold diskDiskSum_b2 at q2
  try dsimp only at q2
  rcases bif_some q2 with ⟨q6, q2⟩ | ⟨q6, q2⟩
  · skip
    obtain ⟨y_1, q7, q2⟩ := bnd_some q2
    obtain ⟨r_1, q8, q2⟩ := bnd_some q2
    cases q2
  · skip
    cases q2
    try dsimp only at h
    have q4 := run_go (k := (k + 1)) (f := 49) (r0 := 0) (nt := 21) (c := diskDiskSum_L2) (σ := (diskDiskSum_S2 d.nodes (d.nodes.length : Int) (v_1, v_2))) (adv [([], 2, 0, .eq (pB false))]) (ex := (.exit 0)) (by kernel_rfl) (by kernel_rfl) (allC (cg q6) allN)
    have q5 := q3 _ _ (by intro e; cases e) q4
    obtain rfl := Option.some.inj h
    exact ret_go (k := (k + 1)) Try.func49 Try.ntmps49 (by kernel_rfl) (by kernel_rfl) (Nat.le_of_ble_eq_true rfl) (adv [([], 1, 2, .eq (pI (d.nodes.length : Int)))] [([], 2, (.exit 0), (stOf (go (k + 1) 49 0 21 (adv [([], 2, 0, .eq (pB false))]) diskDiskSum_L2 (diskDiskSum_S2 d.nodes (d.nodes.length : Int) (v_1, v_2)))))]) (ex := .ret) (r := (pI v_1)) (by kernel_rfl) rfl (by kernel_rfl) (allC (len_ob (rfl : (d.nodes.map NodeD.c) = d.nodes.map NodeD.c)) (allC q5 allN)) (by kernel_rfl) allN

/-- flagstone/disk.Used -/
def diskUsed (d : DiskD) : Option Int :=
  (diskDiskSum d).bind fun r_1 =>
  some r_1
set_option maxRecDepth 100000 in
theorem diskUsed_ok (k : Nat) (d : DiskD) (r : Int) (h : diskUsed d = some r) : run0 (k + 3) 20 [(.agg [(.list 8 false (d.nodes.map NodeD.c)), (pI d.most), (pI d.room)])] = some (pI r) := by
  unfold diskUsed at h
  obtain ⟨r_1, q1, h⟩ := bnd_some h
  obtain rfl := Option.some.inj h
  exact ret_go (k := (k + 2)) Try.func20 Try.ntmps20 (by kernel_rfl) (by kernel_rfl) (Nat.le_of_ble_eq_true rfl) (adv [([], 1, 1, .ret (pI r_1))]) (ex := .ret) (r := (pI r_1)) (by kernel_rfl) rfl (by kernel_rfl) (allC (diskDiskSum_ok k d _ q1) allN) (by kernel_rfl) allN

/- flagstone/flagstoneref06.Used: its loop at region 3 -/
noncomputable def ref06Used_L3 : Code := cAt (codeOf Try.f21) [true, true, false, true, false, false]
def ref06Used_R3 (x0 : Int) (x1 : Int) (x2 : List (List PV)) (x3 : Int) (x4 : Int) : St := ⟨envL [(1, (.ptr [0, TAG] 1 0 0)), (3, (pI x0)), (4, (pI x1))], hsL [some ⟨3, 30, [[(.list 8 false x2), (pI x3), (pI x4)]], true, false⟩] [0]⟩
theorem ref06Used_R3_eq {x0 y0 : Int} {x1 y1 : Int} {x2 y2 : List (List PV)} {x3 y3 : Int} {x4 y4 : Int} (h0 : x0 = y0) (h1 : x1 = y1) (h2 : x2 = y2) (h3 : x3 = y3) (h4 : x4 = y4) : ref06Used_R3 x0 x1 x2 x3 x4 = ref06Used_R3 y0 y1 y2 y3 y4 := by
  subst h0 h1 h2 h3 h4; rfl
def ref06Used_S3 (p0 : (List NodeD)) (p1 : Int) (p2 : Int) : (Int × Int) → St
  | (v0, v1) => ref06Used_R3 v0 v1 (p0.map NodeD.c) p1 p2
def ref06Used_b3 (p0 : (List NodeD)) (p1 : Int) (p2 : Int) : (Int × Int) → Option ((Int × Int) ⊕ (Int × Int))
  | (v0, v1) =>
    bif (decide (v1 < (p0.length : Int))) then (
      (gt p0 v1).bind fun y_1 =>
      bif (y_1.kind != (0 : Int)) then (
        some (.inl ((w64 (v0 + (1 : Int))), (w64 (v1 + (1 : Int)))))
      ) else (
        some (.inl (v0, (w64 (v1 + (1 : Int)))))
      )
    ) else (
      some (.inr (v0, v1))
    )
set_option maxRecDepth 100000 in
theorem ref06Used_t3 (k : Nat) (p0 : (List NodeD)) (p1 : Int) (p2 : Int) (a a1 : (Int × Int)) (h : ref06Used_b3 p0 p1 p2 a = some (.inl a1)) : ∃ σ, run1 k 21 0 22 ref06Used_L3 (ref06Used_S3 p0 p1 p2 a) = some (.normal, σ) ∧ canonS 0 [1, 3, 4] σ = some (ref06Used_S3 p0 p1 p2 a1) := by
  obtain ⟨v0, v1⟩ := a
  unfold ref06Used_b3 at h
  try dsimp only at h
  rcases bif_some h with ⟨q1, h⟩ | ⟨q1, h⟩
  · skip
    obtain ⟨y_1, q2, h⟩ := bnd_some h
    rcases bif_some h with ⟨q3, h⟩ | ⟨q3, h⟩
    · skip
      obtain rfl := Sum.inl.inj (Option.some.inj h)
      exact ⟨_, run_go (k := k) (f := 21) (r0 := 0) (nt := 22) (c := ref06Used_L3) (σ := (ref06Used_S3 p0 p1 p2 (v0, v1))) (adv [([], 3, 3, .eq (pI (p0.length : Int))), ([], 3, 4, .eq (pB true)), ([], 5, 3, .elem [(pI y_1.kind), (pI y_1.modeF), (pI y_1.owner), (pI y_1.links), (pI y_1.openF), (pI y_1.up), (pS y_1.data), (.list 2 false (y_1.names.map entP))]), ([], 5, 6, .eq (pB true))]) (ex := .normal) (by kernel_rfl) (by kernel_rfl) (allC (len_ob (rfl : (p0.map NodeD.c) = p0.map NodeD.c)) (allC (cg q1) (allC (gt_list (c := NodeD.c) q2) (allC (cg q3) allN)))), (by kernel_rfl)⟩
    · skip
      obtain rfl := Sum.inl.inj (Option.some.inj h)
      exact ⟨_, run_go (k := k) (f := 21) (r0 := 0) (nt := 22) (c := ref06Used_L3) (σ := (ref06Used_S3 p0 p1 p2 (v0, v1))) (adv [([], 3, 3, .eq (pI (p0.length : Int))), ([], 3, 4, .eq (pB true)), ([], 5, 3, .elem [(pI y_1.kind), (pI y_1.modeF), (pI y_1.owner), (pI y_1.links), (pI y_1.openF), (pI y_1.up), (pS y_1.data), (.list 2 false (y_1.names.map entP))]), ([], 5, 6, .eq (pB false))]) (ex := .normal) (by kernel_rfl) (by kernel_rfl) (allC (len_ob (rfl : (p0.map NodeD.c) = p0.map NodeD.c)) (allC (cg q1) (allC (gt_list (c := NodeD.c) q2) (allC (cg q3) allN)))), (by kernel_rfl)⟩
  · skip
    cases h
/-- flagstone/flagstoneref06.Used -/
def ref06Used (d : DiskD) : Option Int :=
  (iterN (ref06Used_b3 d.nodes d.most d.room) LF ((0 : Int), (0 : Int))).bind fun (v_1, v_2) =>
  some v_1
set_option maxRecDepth 100000 in
theorem ref06Used_ok (k : Nat) (d : DiskD) (r : Int) (h : ref06Used d = some r) : run0 (k + 1) 21 [(.agg [(.list 8 false (d.nodes.map NodeD.c)), (pI d.most), (pI d.room)])] = some (pI r) := by
  unfold ref06Used at h
  obtain ⟨X_1, q1, h⟩ := bnd_some h
  obtain ⟨a_1, q2, q3⟩ := loop_iter (f := run1 k 21 0 22 ref06Used_L3) (ref06Used_S3 d.nodes d.most d.room) (ref06Used_b3 d.nodes d.most d.room) (ref06Used_t3 k d.nodes d.most d.room) LF ((0 : Int), (0 : Int)) _ (stOf (goStop k 21 0 22 (adv []) 3 (codeOf Try.f21) (argS 21 [(.agg [(.list 8 false (d.nodes.map NodeD.c)), (pI d.most), (pI d.room)])]))) q1 (by kernel_rfl)
  obtain ⟨v_1, v_2⟩ := a_1
  unfold ref06Used_b3 at q2
  try dsimp only at q2
  rcases bif_some q2 with ⟨q6, q2⟩ | ⟨q6, q2⟩
  · skip
    obtain ⟨y_1, q7, q2⟩ := bnd_some q2
    rcases bif_some q2 with ⟨q8, q2⟩ | ⟨q8, q2⟩
    · skip
      cases q2
    · skip
      cases q2
  · skip
    cases q2
    try dsimp only at h
    have q4 := run_go (k := k) (f := 21) (r0 := 0) (nt := 22) (c := ref06Used_L3) (σ := (ref06Used_S3 d.nodes d.most d.room (v_1, v_2))) (adv [([], 3, 3, .eq (pI (d.nodes.length : Int))), ([], 3, 4, .eq (pB false))]) (ex := (.exit 0)) (by kernel_rfl) (by kernel_rfl) (allC (len_ob (rfl : (d.nodes.map NodeD.c) = d.nodes.map NodeD.c)) (allC (cg q6) allN))
    have q5 := q3 _ _ (by intro e; cases e) q4
    obtain rfl := Option.some.inj h
    exact ret_go (k := k) Try.func21 Try.ntmps21 (by kernel_rfl) (by kernel_rfl) (Nat.le_of_ble_eq_true rfl) (adv [] [([], 3, (.exit 0), (stOf (go k 21 0 22 (adv [([], 3, 3, .eq (pI (d.nodes.length : Int))), ([], 3, 4, .eq (pB false))]) ref06Used_L3 (ref06Used_S3 d.nodes d.most d.room (v_1, v_2)))))]) (ex := .ret) (r := (pI v_1)) (by kernel_rfl) rfl (by kernel_rfl) (allC q5 allN) (by kernel_rfl) allN

/-- (flagstone/disk.Node).bytes -/
def diskNodeBytes (n : NodeD) : Option Int :=
  bif (n.kind != (1 : Int)) then (
    bif (n.kind != (3 : Int)) then (
      some (0 : Int)
    ) else (
      some (n.data.size : Int)
    )
  ) else (
    some (n.data.size : Int)
  )
set_option maxRecDepth 100000 in
theorem diskNodeBytes_ok (k : Nat) (n : NodeD) (r : Int) (h : diskNodeBytes n = some r) : run0 (k + 1) 51 [(.agg [(pI n.kind), (pI n.modeF), (pI n.owner), (pI n.links), (pI n.openF), (pI n.up), (pS n.data), (.list 2 false (n.names.map entP))])] = some (pI r) := by
  unfold diskNodeBytes at h
  rcases bif_some h with ⟨q1, h⟩ | ⟨q1, h⟩
  · skip
    rcases bif_some h with ⟨q2, h⟩ | ⟨q2, h⟩
    · skip
      obtain rfl := Option.some.inj h
      exact ret_go (k := k) Try.func51 Try.ntmps51 (by kernel_rfl) (by kernel_rfl) (Nat.le_of_ble_eq_true rfl) (adv [([], 1, 3, .eq (pB true)), ([], 1, 7, .eq (pB true))]) (ex := .ret) (r := (pI (0 : Int))) (by kernel_rfl) rfl (by kernel_rfl) (allC (cg q1) (allC (cg q2) allN)) (by kernel_rfl) allN
    · skip
      obtain rfl := Option.some.inj h
      exact ret_go (k := k) Try.func51 Try.ntmps51 (by kernel_rfl) (by kernel_rfl) (Nat.le_of_ble_eq_true rfl) (adv [([], 1, 3, .eq (pB true)), ([], 1, 7, .eq (pB false))]) (ex := .ret) (r := (pI (n.data.size : Int))) (by kernel_rfl) rfl (by kernel_rfl) (allC (cg q1) (allC (cg q2) allN)) (by kernel_rfl) allN
  · skip
    obtain rfl := Option.some.inj h
    exact ret_go (k := k) Try.func51 Try.ntmps51 (by kernel_rfl) (by kernel_rfl) (Nat.le_of_ble_eq_true rfl) (adv [([], 1, 3, .eq (pB false))]) (ex := .ret) (r := (pI (n.data.size : Int))) (by kernel_rfl) rfl (by kernel_rfl) (allC (cg q1) allN) (by kernel_rfl) allN

/- (flagstone/disk.Disk).sum: its loop at region 2 -/
noncomputable def diskDiskSum2_L2 : Code := cAt (codeOf Try.f49) [true, false, true, false, false]
def diskDiskSum2_R2 (x0 : Int) (x1 : List (List PV)) (x2 : Int) (x3 : Int) : St := ⟨envL [(1, (.clo 51 [])), (4, (pI x0)), (8, (.list 8 false x1)), (9, (pI x2)), (10, (pI x3))], hsL [] []⟩
theorem diskDiskSum2_R2_eq {x0 y0 : Int} {x1 y1 : List (List PV)} {x2 y2 : Int} {x3 y3 : Int} (h0 : x0 = y0) (h1 : x1 = y1) (h2 : x2 = y2) (h3 : x3 = y3) : diskDiskSum2_R2 x0 x1 x2 x3 = diskDiskSum2_R2 y0 y1 y2 y3 := by
  subst h0 h1 h2 h3; rfl
def diskDiskSum2_S2 (p0 : (List NodeD)) (p1 : Int) : (Int × Int) → St
  | (v0, v1) => diskDiskSum2_R2 v0 (p0.map NodeD.c) p1 v1
def diskDiskSum2_b2 (p0 : (List NodeD)) (p1 : Int) : (Int × Int) → Option ((Int × Int) ⊕ (Int × Int))
  | (v0, v1) =>
    bif (decide (v1 < p1)) then (
      (gt p0 v1).bind fun y_1 =>
      (diskNodeBytes y_1).bind fun r_1 =>
      some (.inl ((w64 (v0 + r_1)), (w64 (v1 + (1 : Int)))))
    ) else (
      some (.inr (v0, v1))
    )
set_option maxRecDepth 100000 in
theorem diskDiskSum2_t2 (k : Nat) (p0 : (List NodeD)) (p1 : Int) (a a1 : (Int × Int)) (h : diskDiskSum2_b2 p0 p1 a = some (.inl a1)) : ∃ σ, run1 (k + 1) 49 0 21 diskDiskSum2_L2 (diskDiskSum2_S2 p0 p1 a) = some (.normal, σ) ∧ canonS 0 [1, 4, 8, 9, 10] σ = some (diskDiskSum2_S2 p0 p1 a1) := by
  obtain ⟨v0, v1⟩ := a
  unfold diskDiskSum2_b2 at h
  try dsimp only at h
  rcases bif_some h with ⟨q1, h⟩ | ⟨q1, h⟩
  · skip
    obtain ⟨y_1, q2, h⟩ := bnd_some h
    obtain ⟨r_1, q3, h⟩ := bnd_some h
    obtain rfl := Sum.inl.inj (Option.some.inj h)
    exact ⟨_, run_go (k := (k + 1)) (f := 49) (r0 := 0) (nt := 21) (c := diskDiskSum2_L2) (σ := (diskDiskSum2_S2 p0 p1 (v0, v1))) (adv [([], 2, 0, .eq (pB true)), ([], 3, 0, .elem [(pI y_1.kind), (pI y_1.modeF), (pI y_1.owner), (pI y_1.links), (pI y_1.openF), (pI y_1.up), (pS y_1.data), (.list 2 false (y_1.names.map entP))]), ([], 4, 3, .ret (pI r_1))]) (ex := .normal) (by kernel_rfl) (by kernel_rfl) (allC (cg q1) (allC (gt_list (c := NodeD.c) q2) (allC (diskNodeBytes_ok k y_1 _ q3) allN))), (by kernel_rfl)⟩
  · skip
    cases h
/-- (flagstone/disk.Disk).sum -/
def diskDiskSum2 (d : DiskD) : Option Int :=
  (iterN (diskDiskSum2_b2 d.nodes (d.nodes.length : Int)) LF ((0 : Int), (0 : Int))).bind fun (v_1, v_2) =>
  some v_1
set_option maxRecDepth 100000 in
theorem diskDiskSum2_ok (k : Nat) (d : DiskD) (r : Int) (h : diskDiskSum2 d = some r) : run0 (k + 2) 49 [(.agg [(.list 8 false (d.nodes.map NodeD.c)), (pI d.most), (pI d.room)]), (.clo 51 [])] = some (pI r) := by
  unfold diskDiskSum2 at h
  obtain ⟨X_1, q1, h⟩ := bnd_some h
  obtain ⟨a_1, q2, q3⟩ := loop_iter (f := run1 (k + 1) 49 0 21 diskDiskSum2_L2) (diskDiskSum2_S2 d.nodes (d.nodes.length : Int)) (diskDiskSum2_b2 d.nodes (d.nodes.length : Int)) (diskDiskSum2_t2 k d.nodes (d.nodes.length : Int)) LF ((0 : Int), (0 : Int)) _ (stOf (goStop (k + 1) 49 0 21 (adv [([], 1, 2, .eq (pI (d.nodes.length : Int)))]) 2 (codeOf Try.f49) (argS 49 [(.agg [(.list 8 false (d.nodes.map NodeD.c)), (pI d.most), (pI d.room)]), (.clo 51 [])]))) q1 (by kernel_rfl)
  obtain ⟨v_1, v_2⟩ := a_1
  unfold diskDiskSum2_b2 at q2
  try dsimp only at q2
  rcases bif_some q2 with ⟨q6, q2⟩ | ⟨q6, q2⟩
  · skip
    obtain ⟨y_1, q7, q2⟩ := bnd_some q2
    obtain ⟨r_1, q8, q2⟩ := bnd_some q2
    cases q2
  · skip
    cases q2
    try dsimp only at h
    have q4 := run_go (k := (k + 1)) (f := 49) (r0 := 0) (nt := 21) (c := diskDiskSum2_L2) (σ := (diskDiskSum2_S2 d.nodes (d.nodes.length : Int) (v_1, v_2))) (adv [([], 2, 0, .eq (pB false))]) (ex := (.exit 0)) (by kernel_rfl) (by kernel_rfl) (allC (cg q6) allN)
    have q5 := q3 _ _ (by intro e; cases e) q4
    obtain rfl := Option.some.inj h
    exact ret_go (k := (k + 1)) Try.func49 Try.ntmps49 (by kernel_rfl) (by kernel_rfl) (Nat.le_of_ble_eq_true rfl) (adv [([], 1, 2, .eq (pI (d.nodes.length : Int)))] [([], 2, (.exit 0), (stOf (go (k + 1) 49 0 21 (adv [([], 2, 0, .eq (pB false))]) diskDiskSum2_L2 (diskDiskSum2_S2 d.nodes (d.nodes.length : Int) (v_1, v_2)))))]) (ex := .ret) (r := (pI v_1)) (by kernel_rfl) rfl (by kernel_rfl) (allC (len_ob (rfl : (d.nodes.map NodeD.c) = d.nodes.map NodeD.c)) (allC q5 allN)) (by kernel_rfl) allN

/-- flagstone/disk.Bytes -/
def diskBytes (d : DiskD) : Option Int :=
  (diskDiskSum2 d).bind fun r_1 =>
  some r_1
set_option maxRecDepth 100000 in
theorem diskBytes_ok (k : Nat) (d : DiskD) (r : Int) (h : diskBytes d = some r) : run0 (k + 3) 22 [(.agg [(.list 8 false (d.nodes.map NodeD.c)), (pI d.most), (pI d.room)])] = some (pI r) := by
  unfold diskBytes at h
  obtain ⟨r_1, q1, h⟩ := bnd_some h
  obtain rfl := Option.some.inj h
  exact ret_go (k := (k + 2)) Try.func22 Try.ntmps22 (by kernel_rfl) (by kernel_rfl) (Nat.le_of_ble_eq_true rfl) (adv [([], 1, 1, .ret (pI r_1))]) (ex := .ret) (r := (pI r_1)) (by kernel_rfl) rfl (by kernel_rfl) (allC (diskDiskSum2_ok k d _ q1) allN) (by kernel_rfl) allN

/-- flagstone/flagstoneref06.weight -/
def ref06Weight (n : NodeD) : Option Int :=
  bif (n.kind == (1 : Int)) then (
    some (n.data.size : Int)
  ) else (
    bif (n.kind == (3 : Int)) then (
      some (n.data.size : Int)
    ) else (
      some (0 : Int)
    )
  )
set_option maxRecDepth 100000 in
theorem ref06Weight_ok (k : Nat) (n : NodeD) (r : Int) (h : ref06Weight n = some r) : run0 (k + 1) 52 [(.agg [(pI n.kind), (pI n.modeF), (pI n.owner), (pI n.links), (pI n.openF), (pI n.up), (pS n.data), (.list 2 false (n.names.map entP))])] = some (pI r) := by
  unfold ref06Weight at h
  rcases bif_some h with ⟨q1, h⟩ | ⟨q1, h⟩
  · skip
    obtain rfl := Option.some.inj h
    exact ret_go (k := k) Try.func52 Try.ntmps52 (by kernel_rfl) (by kernel_rfl) (Nat.le_of_ble_eq_true rfl) (adv [([], 1, 3, .eq (pB true))]) (ex := .ret) (r := (pI (n.data.size : Int))) (by kernel_rfl) rfl (by kernel_rfl) (allC (cg q1) allN) (by kernel_rfl) allN
  · skip
    rcases bif_some h with ⟨q2, h⟩ | ⟨q2, h⟩
    · skip
      obtain rfl := Option.some.inj h
      exact ret_go (k := k) Try.func52 Try.ntmps52 (by kernel_rfl) (by kernel_rfl) (Nat.le_of_ble_eq_true rfl) (adv [([], 1, 3, .eq (pB false)), ([], 1, 7, .eq (pB true))]) (ex := .ret) (r := (pI (n.data.size : Int))) (by kernel_rfl) rfl (by kernel_rfl) (allC (cg q1) (allC (cg q2) allN)) (by kernel_rfl) allN
    · skip
      obtain rfl := Option.some.inj h
      exact ret_go (k := k) Try.func52 Try.ntmps52 (by kernel_rfl) (by kernel_rfl) (Nat.le_of_ble_eq_true rfl) (adv [([], 1, 3, .eq (pB false)), ([], 1, 7, .eq (pB false))]) (ex := .ret) (r := (pI (0 : Int))) (by kernel_rfl) rfl (by kernel_rfl) (allC (cg q1) (allC (cg q2) allN)) (by kernel_rfl) allN

/- flagstone/flagstoneref06.Bytes: its loop at region 3 -/
noncomputable def ref06Bytes_L3 : Code := cAt (codeOf Try.f23) [true, true, false, true, false, false]
def ref06Bytes_R3 (x0 : Int) (x1 : Int) (x2 : List (List PV)) (x3 : Int) (x4 : Int) : St := ⟨envL [(1, (.ptr [0, TAG] 1 0 0)), (3, (pI x0)), (4, (pI x1))], hsL [some ⟨3, 30, [[(.list 8 false x2), (pI x3), (pI x4)]], true, false⟩] [0]⟩
theorem ref06Bytes_R3_eq {x0 y0 : Int} {x1 y1 : Int} {x2 y2 : List (List PV)} {x3 y3 : Int} {x4 y4 : Int} (h0 : x0 = y0) (h1 : x1 = y1) (h2 : x2 = y2) (h3 : x3 = y3) (h4 : x4 = y4) : ref06Bytes_R3 x0 x1 x2 x3 x4 = ref06Bytes_R3 y0 y1 y2 y3 y4 := by
  subst h0 h1 h2 h3 h4; rfl
def ref06Bytes_S3 (p0 : (List NodeD)) (p1 : Int) (p2 : Int) : (Int × Int) → St
  | (v0, v1) => ref06Bytes_R3 v0 v1 (p0.map NodeD.c) p1 p2
def ref06Bytes_b3 (p0 : (List NodeD)) (p1 : Int) (p2 : Int) : (Int × Int) → Option ((Int × Int) ⊕ (Int × Int))
  | (v0, v1) =>
    bif (decide (v1 < (p0.length : Int))) then (
      (gt p0 v1).bind fun y_1 =>
      (ref06Weight y_1).bind fun r_1 =>
      some (.inl ((w64 (v0 + r_1)), (w64 (v1 + (1 : Int)))))
    ) else (
      some (.inr (v0, v1))
    )
set_option maxRecDepth 100000 in
theorem ref06Bytes_t3 (k : Nat) (p0 : (List NodeD)) (p1 : Int) (p2 : Int) (a a1 : (Int × Int)) (h : ref06Bytes_b3 p0 p1 p2 a = some (.inl a1)) : ∃ σ, run1 (k + 1) 23 0 21 ref06Bytes_L3 (ref06Bytes_S3 p0 p1 p2 a) = some (.normal, σ) ∧ canonS 0 [1, 3, 4] σ = some (ref06Bytes_S3 p0 p1 p2 a1) := by
  obtain ⟨v0, v1⟩ := a
  unfold ref06Bytes_b3 at h
  try dsimp only at h
  rcases bif_some h with ⟨q1, h⟩ | ⟨q1, h⟩
  · skip
    obtain ⟨y_1, q2, h⟩ := bnd_some h
    obtain ⟨r_1, q3, h⟩ := bnd_some h
    obtain rfl := Sum.inl.inj (Option.some.inj h)
    exact ⟨_, run_go (k := (k + 1)) (f := 23) (r0 := 0) (nt := 21) (c := ref06Bytes_L3) (σ := (ref06Bytes_S3 p0 p1 p2 (v0, v1))) (adv [([], 3, 3, .eq (pI (p0.length : Int))), ([], 3, 4, .eq (pB true)), ([], 5, 4, .elem [(pI y_1.kind), (pI y_1.modeF), (pI y_1.owner), (pI y_1.links), (pI y_1.openF), (pI y_1.up), (pS y_1.data), (.list 2 false (y_1.names.map entP))]), ([], 5, 6, .ret (pI r_1))]) (ex := .normal) (by kernel_rfl) (by kernel_rfl) (allC (len_ob (rfl : (p0.map NodeD.c) = p0.map NodeD.c)) (allC (cg q1) (allC (gt_list (c := NodeD.c) q2) (allC (ref06Weight_ok k y_1 _ q3) allN)))), (by kernel_rfl)⟩
  · skip
    cases h
/-- flagstone/flagstoneref06.Bytes -/
def ref06Bytes (d : DiskD) : Option Int :=
  (iterN (ref06Bytes_b3 d.nodes d.most d.room) LF ((0 : Int), (0 : Int))).bind fun (v_1, v_2) =>
  some v_1
set_option maxRecDepth 100000 in
theorem ref06Bytes_ok (k : Nat) (d : DiskD) (r : Int) (h : ref06Bytes d = some r) : run0 (k + 2) 23 [(.agg [(.list 8 false (d.nodes.map NodeD.c)), (pI d.most), (pI d.room)])] = some (pI r) := by
  unfold ref06Bytes at h
  obtain ⟨X_1, q1, h⟩ := bnd_some h
  obtain ⟨a_1, q2, q3⟩ := loop_iter (f := run1 (k + 1) 23 0 21 ref06Bytes_L3) (ref06Bytes_S3 d.nodes d.most d.room) (ref06Bytes_b3 d.nodes d.most d.room) (ref06Bytes_t3 k d.nodes d.most d.room) LF ((0 : Int), (0 : Int)) _ (stOf (goStop (k + 1) 23 0 21 (adv []) 3 (codeOf Try.f23) (argS 23 [(.agg [(.list 8 false (d.nodes.map NodeD.c)), (pI d.most), (pI d.room)])]))) q1 (by kernel_rfl)
  obtain ⟨v_1, v_2⟩ := a_1
  unfold ref06Bytes_b3 at q2
  try dsimp only at q2
  rcases bif_some q2 with ⟨q6, q2⟩ | ⟨q6, q2⟩
  · skip
    obtain ⟨y_1, q7, q2⟩ := bnd_some q2
    obtain ⟨r_1, q8, q2⟩ := bnd_some q2
    cases q2
  · skip
    cases q2
    try dsimp only at h
    have q4 := run_go (k := (k + 1)) (f := 23) (r0 := 0) (nt := 21) (c := ref06Bytes_L3) (σ := (ref06Bytes_S3 d.nodes d.most d.room (v_1, v_2))) (adv [([], 3, 3, .eq (pI (d.nodes.length : Int))), ([], 3, 4, .eq (pB false))]) (ex := (.exit 0)) (by kernel_rfl) (by kernel_rfl) (allC (len_ob (rfl : (d.nodes.map NodeD.c) = d.nodes.map NodeD.c)) (allC (cg q6) allN))
    have q5 := q3 _ _ (by intro e; cases e) q4
    obtain rfl := Option.some.inj h
    exact ret_go (k := (k + 1)) Try.func23 Try.ntmps23 (by kernel_rfl) (by kernel_rfl) (Nat.le_of_ble_eq_true rfl) (adv [] [([], 3, (.exit 0), (stOf (go (k + 1) 23 0 21 (adv [([], 3, 3, .eq (pI (d.nodes.length : Int))), ([], 3, 4, .eq (pB false))]) ref06Bytes_L3 (ref06Bytes_S3 d.nodes d.most d.room (v_1, v_2)))))]) (ex := .ret) (r := (pI v_1)) (by kernel_rfl) rfl (by kernel_rfl) (allC q5 allN) (by kernel_rfl) allN

/-- flagstone/flagstonelaw06.DiskCounts -/
def law06DiskCounts (most : Int) (room : Int) (modeF : Int) (d : DiskD) : Option Bool :=
  (law06Big d).bind fun r_1 =>
  bif r_1 then (
    (shownX).bind fun r_2 =>
    some r_2
  ) else (
    (shownX).bind fun r_2 =>
    bif (!r_2) then (
      (shownX).bind fun r_3 =>
      some r_3
    ) else (
      (diskNew most room modeF).bind fun r_3 =>
      (law06Its r_3).bind fun r_4 =>
      (ref06New most room modeF).bind fun r_5 =>
      (ref06Same r_4 r_5).bind fun r_6 =>
      bif r_6 then (
        (diskUsed d).bind fun r_7 =>
        (law06Its d).bind fun r_8 =>
        (ref06Used r_8).bind fun r_9 =>
        bif (r_7 == r_9) then (
          (diskBytes d).bind fun r_10 =>
          (law06Its d).bind fun r_11 =>
          (ref06Bytes r_11).bind fun r_12 =>
          some (r_10 == r_12)
        ) else (
          some false
        )
      ) else (
        some false
      )
    )
  )
set_option maxRecDepth 100000 in
theorem law06DiskCounts_ok (k : Nat) (most : Int) (room : Int) (modeF : Int) (d : DiskD) (r : Bool) (h : law06DiskCounts most room modeF d = some r) : run0 (k + 13) 3 [(pI most), (pI room), (pI modeF), (.agg [(.list 8 false (d.nodes.map NodeD.c)), (pI d.most), (pI d.room)])] = some (pB r) := by
  unfold law06DiskCounts at h
  obtain ⟨r_1, q1, h⟩ := bnd_some h
  rcases bif_some h with ⟨q2, h⟩ | ⟨q2, h⟩
  · skip
    obtain ⟨r_2, q3, h⟩ := bnd_some h
    obtain rfl := Option.some.inj h
    exact ret_go (k := (k + 12)) Try.func3 Try.ntmps3 (by kernel_rfl) (by kernel_rfl) (Nat.le_of_ble_eq_true rfl) (adv [([], 1, 1, .ret (pB r_1)), ([], 1, 2, .eq (pB true)), ([], 2, 0, .ret (pB r_2))]) (ex := .ret) (r := (pB r_2)) (by kernel_rfl) rfl (by kernel_rfl) (allC (law06Big_ok (k + 11) d _ q1) (allC (cg q2) (allC (shownX_ok k  _ q3) allN))) (by kernel_rfl) allN
  · skip
    obtain ⟨r_2, q3, h⟩ := bnd_some h
    rcases bif_some h with ⟨q4, h⟩ | ⟨q4, h⟩
    · skip
      obtain ⟨r_3, q5, h⟩ := bnd_some h
      obtain rfl := Option.some.inj h
      exact ret_go (k := (k + 12)) Try.func3 Try.ntmps3 (by kernel_rfl) (by kernel_rfl) (Nat.le_of_ble_eq_true rfl) (adv [([], 1, 1, .ret (pB r_1)), ([], 1, 2, .eq (pB false)), ([], 1, 3, .ret (pB r_2)), ([], 1, 5, .eq (pB true)), ([], 2, 0, .ret (pB r_3))]) (ex := .ret) (r := (pB r_3)) (by kernel_rfl) rfl (by kernel_rfl) (allC (law06Big_ok (k + 11) d _ q1) (allC (cg q2) (allC (shownX_ok k  _ q3) (allC (cg q4) (allC (shownX_ok k  _ q5) allN))))) (by kernel_rfl) allN
    · skip
      obtain ⟨r_3, q5, h⟩ := bnd_some h
      obtain ⟨r_4, q6, h⟩ := bnd_some h
      obtain ⟨r_5, q7, h⟩ := bnd_some h
      obtain ⟨r_6, q8, h⟩ := bnd_some h
      rcases bif_some h with ⟨q9, h⟩ | ⟨q9, h⟩
      · skip
        obtain ⟨r_7, q10, h⟩ := bnd_some h
        obtain ⟨r_8, q11, h⟩ := bnd_some h
        obtain ⟨r_9, q12, h⟩ := bnd_some h
        rcases bif_some h with ⟨q13, h⟩ | ⟨q13, h⟩
        · skip
          obtain ⟨r_10, q14, h⟩ := bnd_some h
          obtain ⟨r_11, q15, h⟩ := bnd_some h
          obtain ⟨r_12, q16, h⟩ := bnd_some h
          obtain rfl := Option.some.inj h
          exact ret_go (k := (k + 12)) Try.func3 Try.ntmps3 (by kernel_rfl) (by kernel_rfl) (Nat.le_of_ble_eq_true rfl) (adv [([], 1, 1, .ret (pB r_1)), ([], 1, 2, .eq (pB false)), ([], 1, 3, .ret (pB r_2)), ([], 1, 5, .eq (pB false)), ([], 3, 3, .ret (.agg [(.list 8 false (r_3.nodes.map NodeD.c)), (pI r_3.most), (pI r_3.room)])), ([], 3, 4, .ret (.agg [(.list 8 false (r_4.nodes.map NodeD.c)), (pI r_4.most), (pI r_4.room)])), ([], 3, 8, .ret (.agg [(.list 8 false (r_5.nodes.map NodeD.c)), (pI r_5.most), (pI r_5.room)])), ([], 3, 9, .ret (pB r_6)), ([], 3, 10, .eq (pB true)), ([], 3, 12, .ret (pI r_7)), ([], 3, 14, .ret (.agg [(.list 8 false (r_8.nodes.map NodeD.c)), (pI r_8.most), (pI r_8.room)])), ([], 3, 15, .ret (pI r_9)), ([], 3, 18, .eq (pB true)), ([], 3, 20, .ret (pI r_10)), ([], 3, 22, .ret (.agg [(.list 8 false (r_11.nodes.map NodeD.c)), (pI r_11.most), (pI r_11.room)])), ([], 3, 23, .ret (pI r_12))]) (ex := .ret) (r := (pB (r_10 == r_12))) (by kernel_rfl) rfl (by kernel_rfl) (allC (law06Big_ok (k + 11) d _ q1) (allC (cg q2) (allC (shownX_ok k  _ q3) (allC (cg q4) (allC (diskNew_ok (k + 10) most room modeF _ q5) (allC (law06Its_ok (k + 10) r_3 _ q6) (allC (ref06New_ok (k + 11) most room modeF _ q7) (allC (ref06Same_ok (k + 9) r_4 r_5 _ q8) (allC (cg q9) (allC (diskUsed_ok (k + 9) d _ q10) (allC (law06Its_ok (k + 10) d _ q11) (allC (ref06Used_ok (k + 11) r_8 _ q12) (allC (cg q13) (allC (diskBytes_ok (k + 9) d _ q14) (allC (law06Its_ok (k + 10) d _ q15) (allC (ref06Bytes_ok (k + 10) r_11 _ q16) allN)))))))))))))))) (by kernel_rfl) allN
        · skip
          obtain rfl := Option.some.inj h
          exact ret_go (k := (k + 12)) Try.func3 Try.ntmps3 (by kernel_rfl) (by kernel_rfl) (Nat.le_of_ble_eq_true rfl) (adv [([], 1, 1, .ret (pB r_1)), ([], 1, 2, .eq (pB false)), ([], 1, 3, .ret (pB r_2)), ([], 1, 5, .eq (pB false)), ([], 3, 3, .ret (.agg [(.list 8 false (r_3.nodes.map NodeD.c)), (pI r_3.most), (pI r_3.room)])), ([], 3, 4, .ret (.agg [(.list 8 false (r_4.nodes.map NodeD.c)), (pI r_4.most), (pI r_4.room)])), ([], 3, 8, .ret (.agg [(.list 8 false (r_5.nodes.map NodeD.c)), (pI r_5.most), (pI r_5.room)])), ([], 3, 9, .ret (pB r_6)), ([], 3, 10, .eq (pB true)), ([], 3, 12, .ret (pI r_7)), ([], 3, 14, .ret (.agg [(.list 8 false (r_8.nodes.map NodeD.c)), (pI r_8.most), (pI r_8.room)])), ([], 3, 15, .ret (pI r_9)), ([], 3, 18, .eq (pB false))]) (ex := .ret) (r := (pB false)) (by kernel_rfl) rfl (by kernel_rfl) (allC (law06Big_ok (k + 11) d _ q1) (allC (cg q2) (allC (shownX_ok k  _ q3) (allC (cg q4) (allC (diskNew_ok (k + 10) most room modeF _ q5) (allC (law06Its_ok (k + 10) r_3 _ q6) (allC (ref06New_ok (k + 11) most room modeF _ q7) (allC (ref06Same_ok (k + 9) r_4 r_5 _ q8) (allC (cg q9) (allC (diskUsed_ok (k + 9) d _ q10) (allC (law06Its_ok (k + 10) d _ q11) (allC (ref06Used_ok (k + 11) r_8 _ q12) (allC (cg q13) allN))))))))))))) (by kernel_rfl) allN
      · skip
        obtain rfl := Option.some.inj h
        exact ret_go (k := (k + 12)) Try.func3 Try.ntmps3 (by kernel_rfl) (by kernel_rfl) (Nat.le_of_ble_eq_true rfl) (adv [([], 1, 1, .ret (pB r_1)), ([], 1, 2, .eq (pB false)), ([], 1, 3, .ret (pB r_2)), ([], 1, 5, .eq (pB false)), ([], 3, 3, .ret (.agg [(.list 8 false (r_3.nodes.map NodeD.c)), (pI r_3.most), (pI r_3.room)])), ([], 3, 4, .ret (.agg [(.list 8 false (r_4.nodes.map NodeD.c)), (pI r_4.most), (pI r_4.room)])), ([], 3, 8, .ret (.agg [(.list 8 false (r_5.nodes.map NodeD.c)), (pI r_5.most), (pI r_5.room)])), ([], 3, 9, .ret (pB r_6)), ([], 3, 10, .eq (pB false))]) (ex := .ret) (r := (pB false)) (by kernel_rfl) rfl (by kernel_rfl) (allC (law06Big_ok (k + 11) d _ q1) (allC (cg q2) (allC (shownX_ok k  _ q3) (allC (cg q4) (allC (diskNew_ok (k + 10) most room modeF _ q5) (allC (law06Its_ok (k + 10) r_3 _ q6) (allC (ref06New_ok (k + 11) most room modeF _ q7) (allC (ref06Same_ok (k + 9) r_4 r_5 _ q8) (allC (cg q9) allN))))))))) (by kernel_rfl) allN

/-- flagstone/disk.Get -/
def diskGet (d : DiskD) (i : Int) : Option (NodeD × Bool) :=
  (diskBetween i (0 : Int) (w64 ((d.nodes.length : Int) - (1 : Int)))).bind fun r_1 =>
  bif (!r_1) then (
    some ((NodeD.mk (0 : Int) (0 : Int) (0 : Int) (0 : Int) (0 : Int) (0 : Int) (⟨#[]⟩) []), false)
  ) else (
    (gt d.nodes i).bind fun y_1 =>
    bif (y_1.kind == (0 : Int)) then (
      some ((NodeD.mk (0 : Int) (0 : Int) (0 : Int) (0 : Int) (0 : Int) (0 : Int) (⟨#[]⟩) []), false)
    ) else (
      (gt d.nodes i).bind fun y_2 =>
      some (y_2, true)
    )
  )
set_option maxRecDepth 100000 in
theorem diskGet_ok (k : Nat) (d : DiskD) (i : Int) (r : (NodeD × Bool)) (h : diskGet d i = some r) : run0 (k + 2) 28 [(.agg [(.list 8 false (d.nodes.map NodeD.c)), (pI d.most), (pI d.room)]), (pI i)] = some (.tup [(.agg [(pI r.1.kind), (pI r.1.modeF), (pI r.1.owner), (pI r.1.links), (pI r.1.openF), (pI r.1.up), (pS r.1.data), (.list 2 false (r.1.names.map entP))]), (pB r.2)]) := by
  unfold diskGet at h
  obtain ⟨r_1, q1, h⟩ := bnd_some h
  rcases bif_some h with ⟨q2, h⟩ | ⟨q2, h⟩
  · skip
    obtain rfl := Option.some.inj h
    exact ret_go (k := (k + 1)) Try.func28 Try.ntmps28 (by kernel_rfl) (by kernel_rfl) (Nat.le_of_ble_eq_true rfl) (adv [([], 1, 3, .eq (pI (d.nodes.length : Int))), ([], 1, 5, .ret (pB r_1)), ([], 1, 7, .eq (pB true))]) (ex := .ret) (r := (.tup [(.agg [(pI (0 : Int)), (pI (0 : Int)), (pI (0 : Int)), (pI (0 : Int)), (pI (0 : Int)), (pI (0 : Int)), (pS (⟨#[]⟩)), (.list 2 false [])]), (pB false)])) (by kernel_rfl) rfl (by kernel_rfl) (allC (len_ob (rfl : (d.nodes.map NodeD.c) = d.nodes.map NodeD.c)) (allC (diskBetween_ok k i (0 : Int) (w64 ((d.nodes.length : Int) - (1 : Int))) _ q1) (allC (cg q2) allN))) (by kernel_rfl) allN
  · skip
    obtain ⟨y_1, q3, h⟩ := bnd_some h
    rcases bif_some h with ⟨q4, h⟩ | ⟨q4, h⟩
    · skip
      obtain rfl := Option.some.inj h
      exact ret_go (k := (k + 1)) Try.func28 Try.ntmps28 (by kernel_rfl) (by kernel_rfl) (Nat.le_of_ble_eq_true rfl) (adv [([], 1, 3, .eq (pI (d.nodes.length : Int))), ([], 1, 5, .ret (pB r_1)), ([], 1, 7, .eq (pB false)), ([], 1, 11, .elem [(pI y_1.kind), (pI y_1.modeF), (pI y_1.owner), (pI y_1.links), (pI y_1.openF), (pI y_1.up), (pS y_1.data), (.list 2 false (y_1.names.map entP))]), ([], 1, 15, .eq (pB true))]) (ex := .ret) (r := (.tup [(.agg [(pI (0 : Int)), (pI (0 : Int)), (pI (0 : Int)), (pI (0 : Int)), (pI (0 : Int)), (pI (0 : Int)), (pS (⟨#[]⟩)), (.list 2 false [])]), (pB false)])) (by kernel_rfl) rfl (by kernel_rfl) (allC (len_ob (rfl : (d.nodes.map NodeD.c) = d.nodes.map NodeD.c)) (allC (diskBetween_ok k i (0 : Int) (w64 ((d.nodes.length : Int) - (1 : Int))) _ q1) (allC (cg q2) (allC (gt_list (c := NodeD.c) q3) (allC (cg q4) allN))))) (by kernel_rfl) allN
    · skip
      obtain ⟨y_2, q5, h⟩ := bnd_some h
      obtain rfl := Option.some.inj h
      exact ret_go (k := (k + 1)) Try.func28 Try.ntmps28 (by kernel_rfl) (by kernel_rfl) (Nat.le_of_ble_eq_true rfl) (adv [([], 1, 3, .eq (pI (d.nodes.length : Int))), ([], 1, 5, .ret (pB r_1)), ([], 1, 7, .eq (pB false)), ([], 1, 11, .elem [(pI y_1.kind), (pI y_1.modeF), (pI y_1.owner), (pI y_1.links), (pI y_1.openF), (pI y_1.up), (pS y_1.data), (.list 2 false (y_1.names.map entP))]), ([], 1, 15, .eq (pB false)), ([], 3, 3, .elem [(pI y_2.kind), (pI y_2.modeF), (pI y_2.owner), (pI y_2.links), (pI y_2.openF), (pI y_2.up), (pS y_2.data), (.list 2 false (y_2.names.map entP))])]) (ex := .ret) (r := (.tup [(.agg [(pI y_2.kind), (pI y_2.modeF), (pI y_2.owner), (pI y_2.links), (pI y_2.openF), (pI y_2.up), (pS y_2.data), (.list 2 false (y_2.names.map entP))]), (pB true)])) (by kernel_rfl) rfl (by kernel_rfl) (allC (len_ob (rfl : (d.nodes.map NodeD.c) = d.nodes.map NodeD.c)) (allC (diskBetween_ok k i (0 : Int) (w64 ((d.nodes.length : Int) - (1 : Int))) _ q1) (allC (cg q2) (allC (gt_list (c := NodeD.c) q3) (allC (cg q4) (allC (gt_list (c := NodeD.c) q5) allN)))))) (by kernel_rfl) allN

/-- flagstone/disk.Set -/
def diskSet (d : DiskD) (i : Int) (n : NodeD) : Option DiskD :=
  (diskBetween i (0 : Int) (w64 ((d.nodes.length : Int) - (1 : Int)))).bind fun r_1 =>
  bif r_1 then (
    bif d.nodes.isEmpty then (
      none
    ) else (
      grd (room (d.nodes.length) 88) <|
      (gt d.nodes i).bind fun y_1 =>
      some (DiskD.mk (d.nodes.set ((i).toNat) n) d.most d.room)
    )
  ) else (
    some d
  )
set_option maxRecDepth 100000 in
theorem diskSet_ok (k : Nat) (d : DiskD) (i : Int) (n : NodeD) (r : DiskD) (h : diskSet d i n = some r) : run0 (k + 2) 27 [(.agg [(.list 8 false (d.nodes.map NodeD.c)), (pI d.most), (pI d.room)]), (pI i), (.agg [(pI n.kind), (pI n.modeF), (pI n.owner), (pI n.links), (pI n.openF), (pI n.up), (pS n.data), (.list 2 false (n.names.map entP))])] = some (.agg [(.list 8 false (r.nodes.map NodeD.c)), (pI r.most), (pI r.room)]) := by
  unfold diskSet at h
  obtain ⟨r_1, q1, h⟩ := bnd_some h
  rcases bif_some h with ⟨q2, h⟩ | ⟨q2, h⟩
  · skip
    revert h; subst q2; intro h
    rcases bif_some h with ⟨q3, h⟩ | ⟨q3, h⟩
    · skip
      cases h
    · skip
      obtain ⟨q4, h⟩ := grd_some h
      obtain ⟨y_1, q5, h⟩ := bnd_some h
      obtain rfl := Option.some.inj h
      exact (ret_go (k := (k + 1)) Try.func27 Try.ntmps27 (by kernel_rfl) (by kernel_rfl) (Nat.le_of_ble_eq_true rfl) (adv [([], 1, 3, .eq (pI (d.nodes.length : Int))), ([], 1, 5, .ret (pB true)), ([], 2, 2, .ret (.own 8 43 (d.nodes.map NodeD.c))), ([], 3, 4, .elem []), ([], 3, 5, .elem [(pI y_1.kind), (pI y_1.modeF), (pI y_1.owner), (pI y_1.links), (pI y_1.openF), (pI y_1.up), (pS y_1.data), (.list 2 false (y_1.names.map entP))])]) (ex := .ret) (r := (.agg [(.list 8 false ((d.nodes.map NodeD.c).set (0 + (i).toNat) [(pI n.kind), (pI n.modeF), (pI n.owner), (pI n.links), (pI n.openF), (pI n.up), (pS n.data), (.list 2 false (n.names.map entP))])), (pI d.most), (pI d.room)])) (by kernel_rfl) rfl (by kernel_rfl) (allC (len_ob (rfl : (d.nodes.map NodeD.c) = d.nodes.map NodeD.c)) (allC (diskBetween_ok k i (0 : Int) (w64 ((d.nodes.length : Int) - (1 : Int))) _ q1) (allC (cloneN_own (k + 1) (rfl : (d.nodes.map NodeD.c) = d.nodes.map NodeD.c) (fun _ => rfl) q3 q4) (allC (gt_row q5 ((enc_len (rfl : (d.nodes.map NodeD.c) = d.nodes.map NodeD.c)) : (d.nodes.map NodeD.c).length = d.nodes.length)) (allC (gt_store (c := NodeD.c) q5 (rfl : (d.nodes.map NodeD.c) = d.nodes.map NodeD.c)) allN))))) (by kernel_rfl) (allC (row_ok ((enc_set (rfl : (d.nodes.map NodeD.c) = d.nodes.map NodeD.c) ((i).toNat) n) : ((d.nodes.map NodeD.c).set (0 + (i).toNat) [(pI n.kind), (pI n.modeF), (pI n.owner), (pI n.links), (pI n.openF), (pI n.up), (pS n.data), (.list 2 false (n.names.map entP))]) = (d.nodes.set ((i).toNat) n).map NodeD.c) ((Eq.trans (enc_len (rfl : (d.nodes.map NodeD.c) = d.nodes.map NodeD.c)) (len_set (rfl : d.nodes.length = d.nodes.length) ((i).toNat) n)) : (d.nodes.map NodeD.c).length = (d.nodes.set ((i).toNat) n).length)) allN)).trans (congrArg some (by rw [(show ((d.nodes.map NodeD.c).set (0 + (i).toNat) [(pI n.kind), (pI n.modeF), (pI n.owner), (pI n.links), (pI n.openF), (pI n.up), (pS n.data), (.list 2 false (n.names.map entP))]) = ((d.nodes.set ((i).toNat) n).map NodeD.c) from (enc_set (rfl : (d.nodes.map NodeD.c) = d.nodes.map NodeD.c) ((i).toNat) n))] <;> rfl))
  · skip
    revert h; subst q2; intro h
    obtain rfl := Option.some.inj h
    exact ret_go (k := (k + 1)) Try.func27 Try.ntmps27 (by kernel_rfl) (by kernel_rfl) (Nat.le_of_ble_eq_true rfl) (adv [([], 1, 3, .eq (pI (d.nodes.length : Int))), ([], 1, 5, .ret (pB false))]) (ex := .ret) (r := (.agg [(.list 8 false (d.nodes.map NodeD.c)), (pI d.most), (pI d.room)])) (by kernel_rfl) rfl (by kernel_rfl) (allC (len_ob (rfl : (d.nodes.map NodeD.c) = d.nodes.map NodeD.c)) (allC (diskBetween_ok k i (0 : Int) (w64 ((d.nodes.length : Int) - (1 : Int))) _ q1) allN)) (by kernel_rfl) allN

/-- flagstone/disk.Add 1 -/
def diskAdd1 (n : NodeD) : Option Bool :=
  some (n.kind == (0 : Int))
set_option maxRecDepth 100000 in
theorem diskAdd1_ok (k : Nat) (n : NodeD) (r : Bool) (h : diskAdd1 n = some r) : run0 (k + 1) 66 [(.agg [(pI n.kind), (pI n.modeF), (pI n.owner), (pI n.links), (pI n.openF), (pI n.up), (pS n.data), (.list 2 false (n.names.map entP))])] = some (pB r) := by
  unfold diskAdd1 at h
  obtain rfl := Option.some.inj h
  exact ret_go (k := k) Try.func66 Try.ntmps66 (by kernel_rfl) (by kernel_rfl) (Nat.le_of_ble_eq_true rfl) (adv []) (ex := .ret) (r := (pB (n.kind == (0 : Int)))) (by kernel_rfl) rfl (by kernel_rfl) allN (by kernel_rfl) allN


end Go.Proofs.Ytfllhakmjookkaa.Den
