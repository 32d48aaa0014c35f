/- Functions, printed by den.py out of the code: plain ones, and that the code answers as they do. -/
import Derived.Test.YtfllhakmjookkaaDenF3
set_option linter.unusedVariables false
set_option linter.unusedSimpArgs false
namespace Go.Proofs.Ytfllhakmjookkaa.Den
open Go Go.RowKit

/- flagstone/flagstoneref06.names: its loop at region 7 -/
noncomputable def ref06Names_L7 : Code := cAt (codeOf Try.f73) [true, true, true, false, true, false, false, true, false, false, true, false, false]
def ref06Names_R7 (x0 : Int) (x1 : Int) (x2 : Int) (x3 : Int) (x4 : List (List PV)) (x5 : Int) (x6 : Int) : St := ⟨envL [(1, (pI x0)), (2, (.ptr [0, TAG] 1 0 0)), (6, (pI x1)), (7, (pI x2)), (8, (pI (0 : Int))), (9, (pI x3))], hsL [some ⟨3, 30, [[(.list 8 false x4), (pI x5), (pI x6)]], true, false⟩] [0]⟩
theorem ref06Names_R7_eq {x0 y0 : Int} {x1 y1 : Int} {x2 y2 : Int} {x3 y3 : Int} {x4 y4 : List (List PV)} {x5 y5 : Int} {x6 y6 : Int} (h0 : x0 = y0) (h1 : x1 = y1) (h2 : x2 = y2) (h3 : x3 = y3) (h4 : x4 = y4) (h5 : x5 = y5) (h6 : x6 = y6) : ref06Names_R7 x0 x1 x2 x3 x4 x5 x6 = ref06Names_R7 y0 y1 y2 y3 y4 y5 y6 := by
  subst h0 h1 h2 h3 h4 h5 h6; rfl
def ref06Names_S7 (p0 : Int) (p1 : (List NodeD)) (p2 : Int) (p3 : Int) : (Int × Int × Int) → St
  | (v0, v1, v2) => ref06Names_R7 p0 v0 v1 v2 (p1.map NodeD.c) p2 p3
def ref06Names_b7 (p0 : Int) (p1 : (List NodeD)) (p2 : Int) (p3 : Int) : (Int × Int × Int) → Option ((Int × Int × Int) ⊕ (Int × Int × Int × NodeD))
  | (v0, v1, v2) =>
    (gt p1 (0 : Int)).bind fun y_1 =>
    bif (decide (v2 < (y_1.names.length : Int))) then (
      (gt p1 (0 : Int)).bind fun y_2 =>
      (gt y_2.names v2).bind fun y_3 =>
      bif (y_3.ino == p0) then (
        some (.inl ((w64 (v0 + (1 : Int))), (0 : Int), (w64 (v2 + (1 : Int)))))
      ) else (
        some (.inl (v0, v1, (w64 (v2 + (1 : Int)))))
      )
    ) else (
      some (.inr (v0, v1, v2, y_1))
    )
set_option maxRecDepth 100000 in
theorem ref06Names_t7 (k : Nat) (p0 : Int) (p1 : (List NodeD)) (p2 : Int) (p3 : Int) (a a1 : (Int × Int × Int)) (h : ref06Names_b7 p0 p1 p2 p3 a = some (.inl a1)) : ∃ σ, run1 k 73 0 45 ref06Names_L7 (ref06Names_S7 p0 p1 p2 p3 a) = some (.normal, σ) ∧ canonS 0 [1, 2, 6, 7, 8, 9] σ = some (ref06Names_S7 p0 p1 p2 p3 a1) := by
  obtain ⟨v0, v1, v2⟩ := a
  unfold ref06Names_b7 at h
  try dsimp only at h
  obtain ⟨y_1, q1, h⟩ := bnd_some h
  rcases bif_some h with ⟨q2, h⟩ | ⟨q2, h⟩
  · skip
    obtain ⟨y_2, q3, h⟩ := bnd_some h
    obtain ⟨y_3, q4, h⟩ := bnd_some h
    rcases bif_some h with ⟨q5, h⟩ | ⟨q5, h⟩
    · skip
      obtain rfl := Sum.inl.inj (Option.some.inj h)
      exact ⟨_, run_go (k := k) (f := 73) (r0 := 0) (nt := 45) (c := ref06Names_L7) (σ := (ref06Names_S7 p0 p1 p2 p3 (v0, v1, v2))) (adv [([], 7, 4, .elem [(pI y_1.kind), (pI y_1.modeF), (pI y_1.owner), (pI y_1.links), (pI y_1.openF), (pI y_1.up), (pS y_1.data), (.list 2 false (y_1.names.map entP))]), ([], 7, 7, .eq (pI (y_1.names.length : Int))), ([], 7, 8, .eq (pB true)), ([], 9, 3, .elem [(pI y_2.kind), (pI y_2.modeF), (pI y_2.owner), (pI y_2.links), (pI y_2.openF), (pI y_2.up), (pS y_2.data), (.list 2 false (y_2.names.map entP))]), ([], 9, 7, .elem [(pS y_3.name), (pI y_3.ino)]), ([], 9, 11, .eq (pB true))]) (ex := .normal) (by kernel_rfl) (by kernel_rfl) (allC (gt_list (c := NodeD.c) q1) (allC (len_ob (rfl : (y_1.names.map entP) = y_1.names.map entP)) (allC (cg q2) (allC (gt_list (c := NodeD.c) q3) (allC (gt_list (c := entP) q4) (allC (cg q5) allN)))))), (by kernel_rfl)⟩
    · skip
      obtain rfl := Sum.inl.inj (Option.some.inj h)
      exact ⟨_, run_go (k := k) (f := 73) (r0 := 0) (nt := 45) (c := ref06Names_L7) (σ := (ref06Names_S7 p0 p1 p2 p3 (v0, v1, v2))) (adv [([], 7, 4, .elem [(pI y_1.kind), (pI y_1.modeF), (pI y_1.owner), (pI y_1.links), (pI y_1.openF), (pI y_1.up), (pS y_1.data), (.list 2 false (y_1.names.map entP))]), ([], 7, 7, .eq (pI (y_1.names.length : Int))), ([], 7, 8, .eq (pB true)), ([], 9, 3, .elem [(pI y_2.kind), (pI y_2.modeF), (pI y_2.owner), (pI y_2.links), (pI y_2.openF), (pI y_2.up), (pS y_2.data), (.list 2 false (y_2.names.map entP))]), ([], 9, 7, .elem [(pS y_3.name), (pI y_3.ino)]), ([], 9, 11, .eq (pB false))]) (ex := .normal) (by kernel_rfl) (by kernel_rfl) (allC (gt_list (c := NodeD.c) q1) (allC (len_ob (rfl : (y_1.names.map entP) = y_1.names.map entP)) (allC (cg q2) (allC (gt_list (c := NodeD.c) q3) (allC (gt_list (c := entP) q4) (allC (cg q5) allN)))))), (by kernel_rfl)⟩
  · skip
    cases h
/- flagstone/flagstoneref06.names: its loop at region 7 -/
noncomputable def ref06Names_L7x1 : Code := cAt (codeOf Try.f73) [true, true, true, false, true, false, false, true, false, false, true, false, false]
def ref06Names_R7x1 (x0 : Int) (x1 : Int) (x2 : Int) (x3 : Int) (x4 : Int) (x5 : List (List PV)) (x6 : Int) (x7 : Int) : St := ⟨envL [(1, (pI x0)), (2, (.ptr [0, TAG] 1 0 0)), (6, (pI x1)), (7, (pI x2)), (8, (pI x3)), (9, (pI x4))], hsL [some ⟨3, 30, [[(.list 8 false x5), (pI x6), (pI x7)]], true, false⟩] [0]⟩
theorem ref06Names_R7x1_eq {x0 y0 : Int} {x1 y1 : Int} {x2 y2 : Int} {x3 y3 : Int} {x4 y4 : Int} {x5 y5 : List (List PV)} {x6 y6 : Int} {x7 y7 : Int} (h0 : x0 = y0) (h1 : x1 = y1) (h2 : x2 = y2) (h3 : x3 = y3) (h4 : x4 = y4) (h5 : x5 = y5) (h6 : x6 = y6) (h7 : x7 = y7) : ref06Names_R7x1 x0 x1 x2 x3 x4 x5 x6 x7 = ref06Names_R7x1 y0 y1 y2 y3 y4 y5 y6 y7 := by
  subst h0 h1 h2 h3 h4 h5 h6 h7; rfl
def ref06Names_S7x1 (p0 : Int) (p1 : Int) (p2 : (List NodeD)) (p3 : Int) (p4 : Int) : (Int × Int × Int) → St
  | (v0, v1, v2) => ref06Names_R7x1 p0 v0 v1 p1 v2 (p2.map NodeD.c) p3 p4
def ref06Names_b7x1 (p0 : Int) (p1 : Int) (p2 : (List NodeD)) (p3 : Int) (p4 : Int) : (Int × Int × Int) → Option ((Int × Int × Int) ⊕ (Int × Int × Int × NodeD))
  | (v0, v1, v2) =>
    (gt p2 p1).bind fun y_1 =>
    bif (decide (v2 < (y_1.names.length : Int))) then (
      (gt p2 p1).bind fun y_2 =>
      (gt y_2.names v2).bind fun y_3 =>
      bif (y_3.ino == p0) then (
        some (.inl ((w64 (v0 + (1 : Int))), p1, (w64 (v2 + (1 : Int)))))
      ) else (
        some (.inl (v0, v1, (w64 (v2 + (1 : Int)))))
      )
    ) else (
      some (.inr (v0, v1, v2, y_1))
    )
set_option maxRecDepth 100000 in
theorem ref06Names_t7x1 (k : Nat) (p0 : Int) (p1 : Int) (p2 : (List NodeD)) (p3 : Int) (p4 : Int) (a a1 : (Int × Int × Int)) (h : ref06Names_b7x1 p0 p1 p2 p3 p4 a = some (.inl a1)) : ∃ σ, run1 k 73 0 45 ref06Names_L7x1 (ref06Names_S7x1 p0 p1 p2 p3 p4 a) = some (.normal, σ) ∧ canonS 0 [1, 2, 6, 7, 8, 9] σ = some (ref06Names_S7x1 p0 p1 p2 p3 p4 a1) := by
  obtain ⟨v0, v1, v2⟩ := a
  unfold ref06Names_b7x1 at h
  try dsimp only at h
  obtain ⟨y_1, q1, h⟩ := bnd_some h
  rcases bif_some h with ⟨q2, h⟩ | ⟨q2, h⟩
  · skip
    obtain ⟨y_2, q3, h⟩ := bnd_some h
    obtain ⟨y_3, q4, h⟩ := bnd_some h
    rcases bif_some h with ⟨q5, h⟩ | ⟨q5, h⟩
    · skip
      obtain rfl := Sum.inl.inj (Option.some.inj h)
      exact ⟨_, run_go (k := k) (f := 73) (r0 := 0) (nt := 45) (c := ref06Names_L7x1) (σ := (ref06Names_S7x1 p0 p1 p2 p3 p4 (v0, v1, v2))) (adv [([], 7, 4, .elem [(pI y_1.kind), (pI y_1.modeF), (pI y_1.owner), (pI y_1.links), (pI y_1.openF), (pI y_1.up), (pS y_1.data), (.list 2 false (y_1.names.map entP))]), ([], 7, 7, .eq (pI (y_1.names.length : Int))), ([], 7, 8, .eq (pB true)), ([], 9, 3, .elem [(pI y_2.kind), (pI y_2.modeF), (pI y_2.owner), (pI y_2.links), (pI y_2.openF), (pI y_2.up), (pS y_2.data), (.list 2 false (y_2.names.map entP))]), ([], 9, 7, .elem [(pS y_3.name), (pI y_3.ino)]), ([], 9, 11, .eq (pB true))]) (ex := .normal) (by kernel_rfl) (by kernel_rfl) (allC (gt_list (c := NodeD.c) q1) (allC (len_ob (rfl : (y_1.names.map entP) = y_1.names.map entP)) (allC (cg q2) (allC (gt_list (c := NodeD.c) q3) (allC (gt_list (c := entP) q4) (allC (cg q5) allN)))))), (by kernel_rfl)⟩
    · skip
      obtain rfl := Sum.inl.inj (Option.some.inj h)
      exact ⟨_, run_go (k := k) (f := 73) (r0 := 0) (nt := 45) (c := ref06Names_L7x1) (σ := (ref06Names_S7x1 p0 p1 p2 p3 p4 (v0, v1, v2))) (adv [([], 7, 4, .elem [(pI y_1.kind), (pI y_1.modeF), (pI y_1.owner), (pI y_1.links), (pI y_1.openF), (pI y_1.up), (pS y_1.data), (.list 2 false (y_1.names.map entP))]), ([], 7, 7, .eq (pI (y_1.names.length : Int))), ([], 7, 8, .eq (pB true)), ([], 9, 3, .elem [(pI y_2.kind), (pI y_2.modeF), (pI y_2.owner), (pI y_2.links), (pI y_2.openF), (pI y_2.up), (pS y_2.data), (.list 2 false (y_2.names.map entP))]), ([], 9, 7, .elem [(pS y_3.name), (pI y_3.ino)]), ([], 9, 11, .eq (pB false))]) (ex := .normal) (by kernel_rfl) (by kernel_rfl) (allC (gt_list (c := NodeD.c) q1) (allC (len_ob (rfl : (y_1.names.map entP) = y_1.names.map entP)) (allC (cg q2) (allC (gt_list (c := NodeD.c) q3) (allC (gt_list (c := entP) q4) (allC (cg q5) allN)))))), (by kernel_rfl)⟩
  · skip
    cases h
/- flagstone/flagstoneref06.names: its loop at region 4 -/
noncomputable def ref06Names_L4 : Code := cAt (codeOf Try.f73) [true, true, true, false, true, false, false]
def ref06Names_R4 (x0 : Int) (x1 : Int) (x2 : Int) (x3 : Int) (x4 : List (List PV)) (x5 : Int) (x6 : Int) : St := ⟨envL [(1, (pI x0)), (2, (.ptr [0, TAG] 1 0 0)), (6, (pI x1)), (7, (pI x2)), (8, (pI x3))], hsL [some ⟨3, 30, [[(.list 8 false x4), (pI x5), (pI x6)]], true, false⟩] [0]⟩
theorem ref06Names_R4_eq {x0 y0 : Int} {x1 y1 : Int} {x2 y2 : Int} {x3 y3 : Int} {x4 y4 : List (List PV)} {x5 y5 : Int} {x6 y6 : Int} (h0 : x0 = y0) (h1 : x1 = y1) (h2 : x2 = y2) (h3 : x3 = y3) (h4 : x4 = y4) (h5 : x5 = y5) (h6 : x6 = y6) : ref06Names_R4 x0 x1 x2 x3 x4 x5 x6 = ref06Names_R4 y0 y1 y2 y3 y4 y5 y6 := by
  subst h0 h1 h2 h3 h4 h5 h6; rfl
def ref06Names_S4 (p0 : Int) (p1 : (List NodeD)) (p2 : Int) (p3 : Int) : (Int × Int × Int) → St
  | (v0, v1, v2) => ref06Names_R4 p0 v0 v1 v2 (p1.map NodeD.c) p2 p3
def ref06Names_b4 (p0 : Int) (p1 : (List NodeD)) (p2 : Int) (p3 : Int) : (Int × Int × Int) → Option ((Int × Int × Int) ⊕ (Int × Int × Int))
  | (v0, v1, v2) =>
    bif (decide (v2 < (p1.length : Int))) then (
      (iterN (ref06Names_b7x1 p0 v2 p1 p2 p3) LF (v0, v1, (0 : Int))).bind fun (v_1, v_2, v_3, y_1) =>
      some (.inl (v_1, v_2, (w64 (v2 + (1 : Int)))))
    ) else (
      some (.inr (v0, v1, v2))
    )
set_option maxRecDepth 100000 in
theorem ref06Names_t4 (k : Nat) (p0 : Int) (p1 : (List NodeD)) (p2 : Int) (p3 : Int) (a a1 : (Int × Int × Int)) (h : ref06Names_b4 p0 p1 p2 p3 a = some (.inl a1)) : ∃ σ, run1 k 73 0 45 ref06Names_L4 (ref06Names_S4 p0 p1 p2 p3 a) = some (.normal, σ) ∧ canonS 0 [1, 2, 6, 7, 8] σ = some (ref06Names_S4 p0 p1 p2 p3 a1) := by
  obtain ⟨v0, v1, v2⟩ := a
  unfold ref06Names_b4 at h
  try dsimp only at h
  rcases bif_some h with ⟨q1, h⟩ | ⟨q1, h⟩
  · skip
    obtain ⟨X_1, q2, h⟩ := bnd_some h
    obtain ⟨a_1, q3, q4⟩ := loop_iter (f := run1 k 73 0 45 ref06Names_L7x1) (ref06Names_S7x1 p0 v2 p1 p2 p3) (ref06Names_b7x1 p0 v2 p1 p2 p3) (ref06Names_t7x1 k p0 v2 p1 p2 p3) LF (v0, v1, (0 : Int)) _ (stOf (goStop k 73 0 45 (adv [([], 4, 3, .eq (pI (p1.length : Int))), ([], 4, 4, .eq (pB true))]) 7 (ref06Names_L4) (ref06Names_S4 p0 p1 p2 p3 (v0, v1, v2)))) q2 (by kernel_rfl)
    obtain ⟨v_1, v_2, v_3⟩ := a_1
    unfold ref06Names_b7x1 at q3
    try dsimp only at q3
    obtain ⟨y_1, q7, q3⟩ := bnd_some q3
    rcases bif_some q3 with ⟨q8, q3⟩ | ⟨q8, q3⟩
    · skip
      obtain ⟨y_2, q9, q3⟩ := bnd_some q3
      obtain ⟨y_3, q10, q3⟩ := bnd_some q3
      rcases bif_some q3 with ⟨q11, q3⟩ | ⟨q11, q3⟩
      · skip
        cases q3
      · skip
        cases q3
    · skip
      cases q3
      try dsimp only at h
      have q5 := run_go (k := k) (f := 73) (r0 := 0) (nt := 45) (c := ref06Names_L7x1) (σ := (ref06Names_S7x1 p0 v2 p1 p2 p3 (v_1, v_2, v_3))) (adv [([], 7, 4, .elem [(pI y_1.kind), (pI y_1.modeF), (pI y_1.owner), (pI y_1.links), (pI y_1.openF), (pI y_1.up), (pS y_1.data), (.list 2 false (y_1.names.map entP))]), ([], 7, 7, .eq (pI (y_1.names.length : Int))), ([], 7, 8, .eq (pB false))]) (ex := (.exit 2)) (by kernel_rfl) (by kernel_rfl) (allC (gt_list (c := NodeD.c) q7) (allC (len_ob (rfl : (y_1.names.map entP) = y_1.names.map entP)) (allC (cg q8) allN)))
      have q6 := q4 _ _ (by intro e; cases e) q5
      obtain rfl := Sum.inl.inj (Option.some.inj h)
      exact ⟨_, run_go (k := k) (f := 73) (r0 := 0) (nt := 45) (c := ref06Names_L4) (σ := (ref06Names_S4 p0 p1 p2 p3 (v0, v1, v2))) (adv [([], 4, 3, .eq (pI (p1.length : Int))), ([], 4, 4, .eq (pB true))] [([], 7, (.exit 2), (stOf (go k 73 0 45 (adv [([], 7, 4, .elem [(pI y_1.kind), (pI y_1.modeF), (pI y_1.owner), (pI y_1.links), (pI y_1.openF), (pI y_1.up), (pS y_1.data), (.list 2 false (y_1.names.map entP))]), ([], 7, 7, .eq (pI (y_1.names.length : Int))), ([], 7, 8, .eq (pB false))]) ref06Names_L7x1 (ref06Names_S7x1 p0 v2 p1 p2 p3 (v_1, v_2, v_3)))))]) (ex := .normal) (by kernel_rfl) (by kernel_rfl) (allC (len_ob (rfl : (p1.map NodeD.c) = p1.map NodeD.c)) (allC (cg q1) (allC q6 allN))), (by kernel_rfl)⟩
  · skip
    cases h
/-- flagstone/flagstoneref06.names -/
def ref06Names (d : DiskD) (i : Int) : Option (Int × Int) :=
  (iterN (ref06Names_b4 i d.nodes d.most d.room) LF ((0 : Int), (-1 : Int), (0 : Int))).bind fun (v_1, v_2, v_3) =>
  some (v_1, v_2)
set_option maxRecDepth 100000 in
theorem ref06Names_ok (k : Nat) (d : DiskD) (i : Int) (r : (Int × Int)) (h : ref06Names d i = some r) : run0 (k + 1) 73 [(.agg [(.list 8 false (d.nodes.map NodeD.c)), (pI d.most), (pI d.room)]), (pI i)] = some (.tup [(pI r.1), (pI r.2)]) := by
  unfold ref06Names at h
  obtain ⟨X_1, q1, h⟩ := bnd_some h
  obtain ⟨a_1, q2, q3⟩ := loop_iter (f := run1 k 73 0 45 ref06Names_L4) (ref06Names_S4 i d.nodes d.most d.room) (ref06Names_b4 i d.nodes d.most d.room) (ref06Names_t4 k i d.nodes d.most d.room) LF ((0 : Int), (-1 : Int), (0 : Int)) _ (stOf (goStop k 73 0 45 (adv []) 4 (codeOf Try.f73) (argS 73 [(.agg [(.list 8 false (d.nodes.map NodeD.c)), (pI d.most), (pI d.room)]), (pI i)]))) q1 (by kernel_rfl)
  obtain ⟨v_1, v_2, v_3⟩ := a_1
  unfold ref06Names_b4 at q2
  try dsimp only at q2
  rcases bif_some q2 with ⟨q6, q2⟩ | ⟨q6, q2⟩
  · skip
    obtain ⟨X_2, q7, q2⟩ := bnd_some q2
    obtain ⟨a_2, q8, q9⟩ := loop_iter (f := run1 k 73 0 45 ref06Names_L7x1) (ref06Names_S7x1 i v_3 d.nodes d.most d.room) (ref06Names_b7x1 i v_3 d.nodes d.most d.room) (ref06Names_t7x1 k i v_3 d.nodes d.most d.room) LF (v_1, v_2, (0 : Int)) _ (stOf (goStop k 73 0 45 (adv [([], 4, 3, .eq (pI (d.nodes.length : Int))), ([], 4, 4, .eq (pB true))]) 7 (ref06Names_L4) (ref06Names_S4 i d.nodes d.most d.room (v_1, v_2, v_3)))) q7 (by kernel_rfl)
    obtain ⟨v_4, v_5, v_6⟩ := a_2
    unfold ref06Names_b7x1 at q8
    try dsimp only at q8
    obtain ⟨y_1, q12, q8⟩ := bnd_some q8
    rcases bif_some q8 with ⟨q13, q8⟩ | ⟨q13, q8⟩
    · skip
      obtain ⟨y_2, q14, q8⟩ := bnd_some q8
      obtain ⟨y_3, q15, q8⟩ := bnd_some q8
      rcases bif_some q8 with ⟨q16, q8⟩ | ⟨q16, q8⟩
      · skip
        cases q8
      · skip
        cases q8
    · skip
      cases q8
      try dsimp only at q2
      have q10 := run_go (k := k) (f := 73) (r0 := 0) (nt := 45) (c := ref06Names_L7x1) (σ := (ref06Names_S7x1 i v_3 d.nodes d.most d.room (v_4, v_5, v_6))) (adv [([], 7, 4, .elem [(pI y_1.kind), (pI y_1.modeF), (pI y_1.owner), (pI y_1.links), (pI y_1.openF), (pI y_1.up), (pS y_1.data), (.list 2 false (y_1.names.map entP))]), ([], 7, 7, .eq (pI (y_1.names.length : Int))), ([], 7, 8, .eq (pB false))]) (ex := (.exit 2)) (by kernel_rfl) (by kernel_rfl) (allC (gt_list (c := NodeD.c) q12) (allC (len_ob (rfl : (y_1.names.map entP) = y_1.names.map entP)) (allC (cg q13) allN)))
      have q11 := q9 _ _ (by intro e; cases e) q10
      cases q2
  · skip
    cases q2
    try dsimp only at h
    have q4 := run_go (k := k) (f := 73) (r0 := 0) (nt := 45) (c := ref06Names_L4) (σ := (ref06Names_S4 i d.nodes d.most d.room (v_1, v_2, v_3))) (adv [([], 4, 3, .eq (pI (d.nodes.length : Int))), ([], 4, 4, .eq (pB false))]) (ex := (.exit 0)) (by kernel_rfl) (by kernel_rfl) (allC (len_ob (rfl : (d.nodes.map NodeD.c) = d.nodes.map NodeD.c)) (allC (cg q6) allN))
    have q5 := q3 _ _ (by intro e; cases e) q4
    obtain rfl := Option.some.inj h
    exact ret_go (k := k) Try.func73 Try.ntmps73 (by kernel_rfl) (by kernel_rfl) (Nat.le_of_ble_eq_true rfl) (adv [] [([], 4, (.exit 0), (stOf (go k 73 0 45 (adv [([], 4, 3, .eq (pI (d.nodes.length : Int))), ([], 4, 4, .eq (pB false))]) ref06Names_L4 (ref06Names_S4 i d.nodes d.most d.room (v_1, v_2, v_3)))))]) (ex := .ret) (r := (.tup [(pI v_1), (pI v_2)])) (by kernel_rfl) rfl (by kernel_rfl) (allC q5 allN) (by kernel_rfl) allN

/- flagstone/flagstoneref06.rooted: its loop at region 2 -/
noncomputable def ref06Rooted_L2 : Code := cAt (codeOf Try.f74) [true, false, true, false, false]
def ref06Rooted_R2 (x0 : Int) (x1 : Int) (x2 : List (List PV)) (x3 : Int) (x4 : Int) : St := ⟨envL [(1, (pI x0)), (2, (.ptr [0, TAG] 1 0 0)), (5, (pI x1))], hsL [some ⟨3, 30, [[(.list 8 false x2), (pI x3), (pI x4)]], true, false⟩] [0]⟩
theorem ref06Rooted_R2_eq {x0 y0 : Int} {x1 y1 : Int} {x2 y2 : List (List PV)} {x3 y3 : Int} {x4 y4 : Int} (h0 : x0 = y0) (h1 : x1 = y1) (h2 : x2 = y2) (h3 : x3 = y3) (h4 : x4 = y4) : ref06Rooted_R2 x0 x1 x2 x3 x4 = ref06Rooted_R2 y0 y1 y2 y3 y4 := by
  subst h0 h1 h2 h3 h4; rfl
def ref06Rooted_S2 (p0 : (List NodeD)) (p1 : Int) (p2 : Int) : (Int × Int) → St
  | (v0, v1) => ref06Rooted_R2 v0 v1 (p0.map NodeD.c) p1 p2
def ref06Rooted_b2 (p0 : (List NodeD)) (p1 : Int) (p2 : Int) : (Int × Int) → Option ((Int × Int) ⊕ ((Int × Int) ⊕ (Int × Int × NodeD × Bool) ⊕ (Int × Int × NodeD × Bool) ⊕ (Int × Int)))
  | (v0, v1) =>
    bif (decide (v1 ≤ (p0.length : Int))) then (
      bif (v0 == (0 : Int)) then (
        some (.inr (.inl (v0, v1)))
      ) else (
        (ref06Get (DiskD.mk p0 p1 p2) v0).bind fun (r_1, r_2) =>
        bif (!r_2) then (
          some (.inr (.inr (.inl (v0, v1, r_1, r_2))))
        ) else (
          bif (r_1.kind != (2 : Int)) then (
            some (.inr (.inr (.inr (.inl (v0, v1, r_1, r_2)))))
          ) else (
            some (.inl (r_1.up, (w64 (v1 + (1 : Int)))))
          )
        )
      )
    ) else (
      some (.inr (.inr (.inr (.inr ((v0, v1))))))
    )
set_option maxRecDepth 100000 in
theorem ref06Rooted_t2 (k : Nat) (p0 : (List NodeD)) (p1 : Int) (p2 : Int) (a a1 : (Int × Int)) (h : ref06Rooted_b2 p0 p1 p2 a = some (.inl a1)) : ∃ σ, run1 (k + 1) 74 0 32 ref06Rooted_L2 (ref06Rooted_S2 p0 p1 p2 a) = some (.normal, σ) ∧ canonS 0 [1, 2, 5] σ = some (ref06Rooted_S2 p0 p1 p2 a1) := by
  obtain ⟨v0, v1⟩ := a
  unfold ref06Rooted_b2 at h
  try dsimp only at h
  rcases bif_some h with ⟨q1, h⟩ | ⟨q1, h⟩
  · skip
    rcases bif_some h with ⟨q2, h⟩ | ⟨q2, h⟩
    · skip
      cases h
    · skip
      obtain ⟨⟨r_1, r_2⟩, q3, h⟩ := bnd_some h
      try dsimp only at h
      rcases bif_some h with ⟨q4, h⟩ | ⟨q4, h⟩
      · skip
        cases h
      · skip
        rcases bif_some h with ⟨q5, h⟩ | ⟨q5, h⟩
        · skip
          cases h
        · skip
          obtain rfl := Sum.inl.inj (Option.some.inj h)
          exact ⟨_, run_go (k := (k + 1)) (f := 74) (r0 := 0) (nt := 32) (c := ref06Rooted_L2) (σ := (ref06Rooted_S2 p0 p1 p2 (v0, v1))) (adv [([], 2, 3, .eq (pI (p0.length : Int))), ([], 2, 4, .eq (pB true)), ([], 4, 1, .eq (pB false)), ([], 6, 2, .ret (.tup [(.agg [(pI r_1.kind), (pI r_1.modeF), (pI r_1.owner), (pI r_1.links), (pI r_1.openF), (pI r_1.up), (pS r_1.data), (.list 2 false (r_1.names.map entP))]), (pB r_2)])), ([], 7, 2, .eq (pB false)), ([], 7, 6, .eq (pB false))]) (ex := .normal) (by kernel_rfl) (by kernel_rfl) (allC (len_ob (rfl : (p0.map NodeD.c) = p0.map NodeD.c)) (allC (cg q1) (allC (cg q2) (allC (ref06Get_ok k (DiskD.mk p0 p1 p2) v0 _ q3) (allC (cg q4) (allC (cg q5) allN)))))), (by kernel_rfl)⟩
  · skip
    cases h
/-- flagstone/flagstoneref06.rooted -/
def ref06Rooted (d : DiskD) (i : Int) : Option Bool :=
  (iterN (ref06Rooted_b2 d.nodes d.most d.room) LF (i, (0 : Int))).bind fun X_1 => match X_1 with
  | .inl (v_1, v_2) => (
    some true
  )
  | .inr (.inl (v_1, v_2, r_1, r_2)) => (
    some false
  )
  | .inr (.inr (.inl (v_1, v_2, r_1, r_2))) => (
    some false
  )
  | .inr (.inr (.inr ((v_1, v_2)))) => (
    some false
  )
set_option maxRecDepth 100000 in
theorem ref06Rooted_ok (k : Nat) (d : DiskD) (i : Int) (r : Bool) (h : ref06Rooted d i = some r) : run0 (k + 2) 74 [(.agg [(.list 8 false (d.nodes.map NodeD.c)), (pI d.most), (pI d.room)]), (pI i)] = some (pB r) := by
  unfold ref06Rooted at h
  obtain ⟨X_1, q1, h⟩ := bnd_some h
  obtain ⟨a_1, q2, q3⟩ := loop_iter (f := run1 (k + 1) 74 0 32 ref06Rooted_L2) (ref06Rooted_S2 d.nodes d.most d.room) (ref06Rooted_b2 d.nodes d.most d.room) (ref06Rooted_t2 k d.nodes d.most d.room) LF (i, (0 : Int)) _ (stOf (goStop (k + 1) 74 0 32 (adv []) 2 (codeOf Try.f74) (argS 74 [(.agg [(.list 8 false (d.nodes.map NodeD.c)), (pI d.most), (pI d.room)]), (pI i)]))) q1 (by kernel_rfl)
  obtain ⟨v_1, v_2⟩ := a_1
  unfold ref06Rooted_b2 at q2
  try dsimp only at q2
  rcases bif_some q2 with ⟨q6, q2⟩ | ⟨q6, q2⟩
  · skip
    rcases bif_some q2 with ⟨q7, q2⟩ | ⟨q7, q2⟩
    · skip
      cases q2
      try dsimp only at h
      have q4 := run_go (k := (k + 1)) (f := 74) (r0 := 0) (nt := 32) (c := ref06Rooted_L2) (σ := (ref06Rooted_S2 d.nodes d.most d.room (v_1, v_2))) (adv [([], 2, 3, .eq (pI (d.nodes.length : Int))), ([], 2, 4, .eq (pB true)), ([], 4, 1, .eq (pB true))]) (ex := .ret) (by kernel_rfl) (by kernel_rfl) (allC (len_ob (rfl : (d.nodes.map NodeD.c) = d.nodes.map NodeD.c)) (allC (cg q6) (allC (cg q7) allN)))
      have q5 := q3 _ _ (by intro e; cases e) q4
      obtain rfl := Option.some.inj h
      exact ret_go (k := (k + 1)) Try.func74 Try.ntmps74 (by kernel_rfl) (by kernel_rfl) (Nat.le_of_ble_eq_true rfl) (adv [] [([], 2, .ret, (stOf (go (k + 1) 74 0 32 (adv [([], 2, 3, .eq (pI (d.nodes.length : Int))), ([], 2, 4, .eq (pB true)), ([], 4, 1, .eq (pB true))]) ref06Rooted_L2 (ref06Rooted_S2 d.nodes d.most d.room (v_1, v_2)))))]) (ex := .ret) (r := (pB true)) (by kernel_rfl) rfl (by kernel_rfl) (allC q5 allN) (by kernel_rfl) allN
    · skip
      obtain ⟨⟨r_1, r_2⟩, q8, q2⟩ := bnd_some q2
      try dsimp only at q2
      rcases bif_some q2 with ⟨q9, q2⟩ | ⟨q9, q2⟩
      · skip
        cases q2
        try dsimp only at h
        have q4 := run_go (k := (k + 1)) (f := 74) (r0 := 0) (nt := 32) (c := ref06Rooted_L2) (σ := (ref06Rooted_S2 d.nodes d.most d.room (v_1, v_2))) (adv [([], 2, 3, .eq (pI (d.nodes.length : Int))), ([], 2, 4, .eq (pB true)), ([], 4, 1, .eq (pB false)), ([], 6, 2, .ret (.tup [(.agg [(pI r_1.kind), (pI r_1.modeF), (pI r_1.owner), (pI r_1.links), (pI r_1.openF), (pI r_1.up), (pS r_1.data), (.list 2 false (r_1.names.map entP))]), (pB r_2)])), ([], 7, 2, .eq (pB true))]) (ex := .ret) (by kernel_rfl) (by kernel_rfl) (allC (len_ob (rfl : (d.nodes.map NodeD.c) = d.nodes.map NodeD.c)) (allC (cg q6) (allC (cg q7) (allC (ref06Get_ok k d v_1 _ q8) (allC (cg q9) allN)))))
        have q5 := q3 _ _ (by intro e; cases e) q4
        obtain rfl := Option.some.inj h
        exact ret_go (k := (k + 1)) Try.func74 Try.ntmps74 (by kernel_rfl) (by kernel_rfl) (Nat.le_of_ble_eq_true rfl) (adv [] [([], 2, .ret, (stOf (go (k + 1) 74 0 32 (adv [([], 2, 3, .eq (pI (d.nodes.length : Int))), ([], 2, 4, .eq (pB true)), ([], 4, 1, .eq (pB false)), ([], 6, 2, .ret (.tup [(.agg [(pI r_1.kind), (pI r_1.modeF), (pI r_1.owner), (pI r_1.links), (pI r_1.openF), (pI r_1.up), (pS r_1.data), (.list 2 false (r_1.names.map entP))]), (pB r_2)])), ([], 7, 2, .eq (pB true))]) ref06Rooted_L2 (ref06Rooted_S2 d.nodes d.most d.room (v_1, v_2)))))]) (ex := .ret) (r := (pB false)) (by kernel_rfl) rfl (by kernel_rfl) (allC q5 allN) (by kernel_rfl) allN
      · skip
        rcases bif_some q2 with ⟨q10, q2⟩ | ⟨q10, q2⟩
        · skip
          cases q2
          try dsimp only at h
          have q4 := run_go (k := (k + 1)) (f := 74) (r0 := 0) (nt := 32) (c := ref06Rooted_L2) (σ := (ref06Rooted_S2 d.nodes d.most d.room (v_1, v_2))) (adv [([], 2, 3, .eq (pI (d.nodes.length : Int))), ([], 2, 4, .eq (pB true)), ([], 4, 1, .eq (pB false)), ([], 6, 2, .ret (.tup [(.agg [(pI r_1.kind), (pI r_1.modeF), (pI r_1.owner), (pI r_1.links), (pI r_1.openF), (pI r_1.up), (pS r_1.data), (.list 2 false (r_1.names.map entP))]), (pB r_2)])), ([], 7, 2, .eq (pB false)), ([], 7, 6, .eq (pB true))]) (ex := .ret) (by kernel_rfl) (by kernel_rfl) (allC (len_ob (rfl : (d.nodes.map NodeD.c) = d.nodes.map NodeD.c)) (allC (cg q6) (allC (cg q7) (allC (ref06Get_ok k d v_1 _ q8) (allC (cg q9) (allC (cg q10) allN))))))
          have q5 := q3 _ _ (by intro e; cases e) q4
          obtain rfl := Option.some.inj h
          exact ret_go (k := (k + 1)) Try.func74 Try.ntmps74 (by kernel_rfl) (by kernel_rfl) (Nat.le_of_ble_eq_true rfl) (adv [] [([], 2, .ret, (stOf (go (k + 1) 74 0 32 (adv [([], 2, 3, .eq (pI (d.nodes.length : Int))), ([], 2, 4, .eq (pB true)), ([], 4, 1, .eq (pB false)), ([], 6, 2, .ret (.tup [(.agg [(pI r_1.kind), (pI r_1.modeF), (pI r_1.owner), (pI r_1.links), (pI r_1.openF), (pI r_1.up), (pS r_1.data), (.list 2 false (r_1.names.map entP))]), (pB r_2)])), ([], 7, 2, .eq (pB false)), ([], 7, 6, .eq (pB true))]) ref06Rooted_L2 (ref06Rooted_S2 d.nodes d.most d.room (v_1, v_2)))))]) (ex := .ret) (r := (pB false)) (by kernel_rfl) rfl (by kernel_rfl) (allC q5 allN) (by kernel_rfl) allN
        · skip
          cases q2
  · skip
    cases q2
    try dsimp only at h
    have q4 := run_go (k := (k + 1)) (f := 74) (r0 := 0) (nt := 32) (c := ref06Rooted_L2) (σ := (ref06Rooted_S2 d.nodes d.most d.room (v_1, v_2))) (adv [([], 2, 3, .eq (pI (d.nodes.length : Int))), ([], 2, 4, .eq (pB false))]) (ex := (.exit 0)) (by kernel_rfl) (by kernel_rfl) (allC (len_ob (rfl : (d.nodes.map NodeD.c) = d.nodes.map NodeD.c)) (allC (cg q6) allN))
    have q5 := q3 _ _ (by intro e; cases e) q4
    obtain rfl := Option.some.inj h
    exact ret_go (k := (k + 1)) Try.func74 Try.ntmps74 (by kernel_rfl) (by kernel_rfl) (Nat.le_of_ble_eq_true rfl) (adv [] [([], 2, (.exit 0), (stOf (go (k + 1) 74 0 32 (adv [([], 2, 3, .eq (pI (d.nodes.length : Int))), ([], 2, 4, .eq (pB false))]) ref06Rooted_L2 (ref06Rooted_S2 d.nodes d.most d.room (v_1, v_2)))))]) (ex := .ret) (r := (pB false)) (by kernel_rfl) rfl (by kernel_rfl) (allC q5 allN) (by kernel_rfl) allN


end Go.Proofs.Ytfllhakmjookkaa.Den
