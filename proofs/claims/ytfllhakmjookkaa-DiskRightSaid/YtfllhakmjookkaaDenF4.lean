/- Functions, printed by den.py out of the code: plain ones, and that the code answers as they do. -/
import Derived.Test.YtfllhakmjookkaaDenF3
set_option linter.unusedVariables false
set_option linter.unusedSimpArgs false
namespace Go.Proofs.Ytfllhakmjookkaa.Den
open Go Go.RowKit

/- flagstone/flagstoneref06.rooted: its loop at region 2 -/
noncomputable def ref06Rooted_L2 : Code := cAt (codeOf Try.f74) [true, false, true, false, false]
def ref06Rooted_R2 (x0 : Int) (x1 : Int) (x2 : List (List PV)) (x3 : Int) (x4 : Int) : St := ⟨envL [(1, (pI x0)), (2, (.ptr [0, TAG] 1 0 0)), (5, (pI x1))], hsL [some ⟨3, 30, [[(.list 8 false x2), (pI x3), (pI x4)]], true, false⟩] [0]⟩
theorem ref06Rooted_R2_eq {x0 y0 : Int} {x1 y1 : Int} {x2 y2 : List (List PV)} {x3 y3 : Int} {x4 y4 : Int} (h0 : x0 = y0) (h1 : x1 = y1) (h2 : x2 = y2) (h3 : x3 = y3) (h4 : x4 = y4) : ref06Rooted_R2 x0 x1 x2 x3 x4 = ref06Rooted_R2 y0 y1 y2 y3 y4 := by
  subst h0 h1 h2 h3 h4; rfl
def ref06Rooted_S2 (p0 : (List NodeD)) (p1 : Int) (p2 : Int) : (Int × Int) → St
  | (v0, v1) => ref06Rooted_R2 v0 v1 (p0.map NodeD.c) p1 p2
def ref06Rooted_b2 (p0 : (List NodeD)) (p1 : Int) (p2 : Int) : (Int × Int) → Option ((Int × Int) ⊕ ((Int × Int) ⊕ (Int × Int × NodeD × Bool) ⊕ (Int × Int × NodeD × Bool) ⊕ (Int × Int)))
  | (v0, v1) =>
    bif (decide (v1 ≤ (p0.length : Int))) then (
      bif (v0 == (0 : Int)) then (
        some (.inr (.inl (v0, v1)))
      ) else (
        (ref06Get (DiskD.mk p0 p1 p2) v0).bind fun (r_1, r_2) =>
        bif (!r_2) then (
          some (.inr (.inr (.inl (v0, v1, r_1, r_2))))
        ) else (
          bif (r_1.kind != (2 : Int)) then (
            some (.inr (.inr (.inr (.inl (v0, v1, r_1, r_2)))))
          ) else (
            some (.inl (r_1.up, (w64 (v1 + (1 : Int)))))
          )
        )
      )
    ) else (
      some (.inr (.inr (.inr (.inr ((v0, v1))))))
    )
set_option maxRecDepth 100000 in
theorem ref06Rooted_t2 (k : Nat) (p0 : (List NodeD)) (p1 : Int) (p2 : Int) (a a1 : (Int × Int)) (h : ref06Rooted_b2 p0 p1 p2 a = some (.inl a1)) : ∃ σ, run1 (k + 1) 74 0 32 ref06Rooted_L2 (ref06Rooted_S2 p0 p1 p2 a) = some (.normal, σ) ∧ canonS 0 [1, 2, 5] σ = some (ref06Rooted_S2 p0 p1 p2 a1) := by
  obtain ⟨v0, v1⟩ := a
  unfold ref06Rooted_b2 at h
  try dsimp only at h
  rcases bif_some h with ⟨q1, h⟩ | ⟨q1, h⟩
  · skip
    rcases bif_some h with ⟨q2, h⟩ | ⟨q2, h⟩
    · skip
      cases h
    · skip
      obtain ⟨⟨r_1, r_2⟩, q3, h⟩ := bnd_some h
      try dsimp only at h
      rcases bif_some h with ⟨q4, h⟩ | ⟨q4, h⟩
      · skip
        cases h
      · skip
        rcases bif_some h with ⟨q5, h⟩ | ⟨q5, h⟩
        · skip
          cases h
        · skip
          obtain rfl := Sum.inl.inj (Option.some.inj h)
          exact ⟨_, run_go (k := (k + 1)) (f := 74) (r0 := 0) (nt := 32) (c := ref06Rooted_L2) (σ := (ref06Rooted_S2 p0 p1 p2 (v0, v1))) (adv [([], 2, 3, .eq (pI (p0.length : Int))), ([], 2, 4, .eq (pB true)), ([], 4, 1, .eq (pB false)), ([], 6, 2, .ret (.tup [(.agg [(pI r_1.kind), (pI r_1.modeF), (pI r_1.owner), (pI r_1.links), (pI r_1.openF), (pI r_1.up), (pS r_1.data), (.list 2 false (r_1.names.map entP))]), (pB r_2)])), ([], 7, 2, .eq (pB false)), ([], 7, 6, .eq (pB false))]) (ex := .normal) (by kernel_rfl) (by kernel_rfl) (allC (len_ob (rfl : (p0.map NodeD.c) = p0.map NodeD.c)) (allC (cg q1) (allC (cg q2) (allC (ref06Get_ok k (DiskD.mk p0 p1 p2) v0 _ q3) (allC (cg q4) (allC (cg q5) allN)))))), (by kernel_rfl)⟩
  · skip
    cases h
/-- flagstone/flagstoneref06.rooted -/
def ref06Rooted (d : DiskD) (i : Int) : Option Bool :=
  (iterN (ref06Rooted_b2 d.nodes d.most d.room) LF (i, (0 : Int))).bind fun X_1 => match X_1 with
  | .inl (v_1, v_2) => (
    some true
  )
  | .inr (.inl (v_1, v_2, r_1, r_2)) => (
    some false
  )
  | .inr (.inr (.inl (v_1, v_2, r_1, r_2))) => (
    some false
  )
  | .inr (.inr (.inr ((v_1, v_2)))) => (
    some false
  )
set_option maxRecDepth 100000 in
theorem ref06Rooted_ok (k : Nat) (d : DiskD) (i : Int) (r : Bool) (h : ref06Rooted d i = some r) : run0 (k + 2) 74 [(.agg [(.list 8 false (d.nodes.map NodeD.c)), (pI d.most), (pI d.room)]), (pI i)] = some (pB r) := by
  unfold ref06Rooted at h
  obtain ⟨X_1, q1, h⟩ := bnd_some h
  obtain ⟨a_1, q2, q3⟩ := loop_iter (f := run1 (k + 1) 74 0 32 ref06Rooted_L2) (ref06Rooted_S2 d.nodes d.most d.room) (ref06Rooted_b2 d.nodes d.most d.room) (ref06Rooted_t2 k d.nodes d.most d.room) LF (i, (0 : Int)) _ (stOf (goStop (k + 1) 74 0 32 (adv []) 2 (codeOf Try.f74) (argS 74 [(.agg [(.list 8 false (d.nodes.map NodeD.c)), (pI d.most), (pI d.room)]), (pI i)]))) q1 (by kernel_rfl)
  obtain ⟨v_1, v_2⟩ := a_1
  unfold ref06Rooted_b2 at q2
  try dsimp only at q2
  rcases bif_some q2 with ⟨q6, q2⟩ | ⟨q6, q2⟩
  · skip
    rcases bif_some q2 with ⟨q7, q2⟩ | ⟨q7, q2⟩
    · skip
      cases q2
      try dsimp only at h
      have q4 := run_go (k := (k + 1)) (f := 74) (r0 := 0) (nt := 32) (c := ref06Rooted_L2) (σ := (ref06Rooted_S2 d.nodes d.most d.room (v_1, v_2))) (adv [([], 2, 3, .eq (pI (d.nodes.length : Int))), ([], 2, 4, .eq (pB true)), ([], 4, 1, .eq (pB true))]) (ex := .ret) (by kernel_rfl) (by kernel_rfl) (allC (len_ob (rfl : (d.nodes.map NodeD.c) = d.nodes.map NodeD.c)) (allC (cg q6) (allC (cg q7) allN)))
      have q5 := q3 _ _ (by intro e; cases e) q4
      obtain rfl := Option.some.inj h
      exact ret_go (k := (k + 1)) Try.func74 Try.ntmps74 (by kernel_rfl) (by kernel_rfl) (Nat.le_of_ble_eq_true rfl) (adv [] [([], 2, .ret, (stOf (go (k + 1) 74 0 32 (adv [([], 2, 3, .eq (pI (d.nodes.length : Int))), ([], 2, 4, .eq (pB true)), ([], 4, 1, .eq (pB true))]) ref06Rooted_L2 (ref06Rooted_S2 d.nodes d.most d.room (v_1, v_2)))))]) (ex := .ret) (r := (pB true)) (by kernel_rfl) rfl (by kernel_rfl) (allC q5 allN) (by kernel_rfl) allN
    · skip
      obtain ⟨⟨r_1, r_2⟩, q8, q2⟩ := bnd_some q2
      try dsimp only at q2
      rcases bif_some q2 with ⟨q9, q2⟩ | ⟨q9, q2⟩
      · skip
        cases q2
        try dsimp only at h
        have q4 := run_go (k := (k + 1)) (f := 74) (r0 := 0) (nt := 32) (c := ref06Rooted_L2) (σ := (ref06Rooted_S2 d.nodes d.most d.room (v_1, v_2))) (adv [([], 2, 3, .eq (pI (d.nodes.length : Int))), ([], 2, 4, .eq (pB true)), ([], 4, 1, .eq (pB false)), ([], 6, 2, .ret (.tup [(.agg [(pI r_1.kind), (pI r_1.modeF), (pI r_1.owner), (pI r_1.links), (pI r_1.openF), (pI r_1.up), (pS r_1.data), (.list 2 false (r_1.names.map entP))]), (pB r_2)])), ([], 7, 2, .eq (pB true))]) (ex := .ret) (by kernel_rfl) (by kernel_rfl) (allC (len_ob (rfl : (d.nodes.map NodeD.c) = d.nodes.map NodeD.c)) (allC (cg q6) (allC (cg q7) (allC (ref06Get_ok k d v_1 _ q8) (allC (cg q9) allN)))))
        have q5 := q3 _ _ (by intro e; cases e) q4
        obtain rfl := Option.some.inj h
        exact ret_go (k := (k + 1)) Try.func74 Try.ntmps74 (by kernel_rfl) (by kernel_rfl) (Nat.le_of_ble_eq_true rfl) (adv [] [([], 2, .ret, (stOf (go (k + 1) 74 0 32 (adv [([], 2, 3, .eq (pI (d.nodes.length : Int))), ([], 2, 4, .eq (pB true)), ([], 4, 1, .eq (pB false)), ([], 6, 2, .ret (.tup [(.agg [(pI r_1.kind), (pI r_1.modeF), (pI r_1.owner), (pI r_1.links), (pI r_1.openF), (pI r_1.up), (pS r_1.data), (.list 2 false (r_1.names.map entP))]), (pB r_2)])), ([], 7, 2, .eq (pB true))]) ref06Rooted_L2 (ref06Rooted_S2 d.nodes d.most d.room (v_1, v_2)))))]) (ex := .ret) (r := (pB false)) (by kernel_rfl) rfl (by kernel_rfl) (allC q5 allN) (by kernel_rfl) allN
      · skip
        rcases bif_some q2 with ⟨q10, q2⟩ | ⟨q10, q2⟩
        · skip
          cases q2
          try dsimp only at h
          have q4 := run_go (k := (k + 1)) (f := 74) (r0 := 0) (nt := 32) (c := ref06Rooted_L2) (σ := (ref06Rooted_S2 d.nodes d.most d.room (v_1, v_2))) (adv [([], 2, 3, .eq (pI (d.nodes.length : Int))), ([], 2, 4, .eq (pB true)), ([], 4, 1, .eq (pB false)), ([], 6, 2, .ret (.tup [(.agg [(pI r_1.kind), (pI r_1.modeF), (pI r_1.owner), (pI r_1.links), (pI r_1.openF), (pI r_1.up), (pS r_1.data), (.list 2 false (r_1.names.map entP))]), (pB r_2)])), ([], 7, 2, .eq (pB false)), ([], 7, 6, .eq (pB true))]) (ex := .ret) (by kernel_rfl) (by kernel_rfl) (allC (len_ob (rfl : (d.nodes.map NodeD.c) = d.nodes.map NodeD.c)) (allC (cg q6) (allC (cg q7) (allC (ref06Get_ok k d v_1 _ q8) (allC (cg q9) (allC (cg q10) allN))))))
          have q5 := q3 _ _ (by intro e; cases e) q4
          obtain rfl := Option.some.inj h
          exact ret_go (k := (k + 1)) Try.func74 Try.ntmps74 (by kernel_rfl) (by kernel_rfl) (Nat.le_of_ble_eq_true rfl) (adv [] [([], 2, .ret, (stOf (go (k + 1) 74 0 32 (adv [([], 2, 3, .eq (pI (d.nodes.length : Int))), ([], 2, 4, .eq (pB true)), ([], 4, 1, .eq (pB false)), ([], 6, 2, .ret (.tup [(.agg [(pI r_1.kind), (pI r_1.modeF), (pI r_1.owner), (pI r_1.links), (pI r_1.openF), (pI r_1.up), (pS r_1.data), (.list 2 false (r_1.names.map entP))]), (pB r_2)])), ([], 7, 2, .eq (pB false)), ([], 7, 6, .eq (pB true))]) ref06Rooted_L2 (ref06Rooted_S2 d.nodes d.most d.room (v_1, v_2)))))]) (ex := .ret) (r := (pB false)) (by kernel_rfl) rfl (by kernel_rfl) (allC q5 allN) (by kernel_rfl) allN
        · skip
          cases q2
  · skip
    cases q2
    try dsimp only at h
    have q4 := run_go (k := (k + 1)) (f := 74) (r0 := 0) (nt := 32) (c := ref06Rooted_L2) (σ := (ref06Rooted_S2 d.nodes d.most d.room (v_1, v_2))) (adv [([], 2, 3, .eq (pI (d.nodes.length : Int))), ([], 2, 4, .eq (pB false))]) (ex := (.exit 0)) (by kernel_rfl) (by kernel_rfl) (allC (len_ob (rfl : (d.nodes.map NodeD.c) = d.nodes.map NodeD.c)) (allC (cg q6) allN))
    have q5 := q3 _ _ (by intro e; cases e) q4
    obtain rfl := Option.some.inj h
    exact ret_go (k := (k + 1)) Try.func74 Try.ntmps74 (by kernel_rfl) (by kernel_rfl) (Nat.le_of_ble_eq_true rfl) (adv [] [([], 2, (.exit 0), (stOf (go (k + 1) 74 0 32 (adv [([], 2, 3, .eq (pI (d.nodes.length : Int))), ([], 2, 4, .eq (pB false))]) ref06Rooted_L2 (ref06Rooted_S2 d.nodes d.most d.room (v_1, v_2)))))]) (ex := .ret) (r := (pB false)) (by kernel_rfl) rfl (by kernel_rfl) (allC q5 allN) (by kernel_rfl) allN


end Go.Proofs.Ytfllhakmjookkaa.Den
