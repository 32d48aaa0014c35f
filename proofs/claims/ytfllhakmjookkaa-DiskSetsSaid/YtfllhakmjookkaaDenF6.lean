/- Functions, printed by den.py out of the code: plain ones, and that the code answers as they do. -/
import Derived.Test.YtfllhakmjookkaaDenF5
set_option linter.unusedVariables false
set_option linter.unusedSimpArgs false
namespace Go.Proofs.Ytfllhakmjookkaa.Den
open Go Go.RowKit

/- flagstone/flagstoneref06.Right: its loop at region 4 -/
noncomputable def ref06Right_L4 : Code := cAt (codeOf Try.f25) [true, true, false, true, false, false]
def ref06Right_R4 (x0 : Int) (x1 : List (List PV)) (x2 : Int) (x3 : Int) : St := ⟨envL [(1, (.ptr [0, TAG] 1 0 0)), (3, (pI x0))], hsL [some ⟨3, 30, [[(.list 8 false x1), (pI x2), (pI x3)]], true, false⟩] [0]⟩
theorem ref06Right_R4_eq {x0 y0 : Int} {x1 y1 : List (List PV)} {x2 y2 : Int} {x3 y3 : Int} (h0 : x0 = y0) (h1 : x1 = y1) (h2 : x2 = y2) (h3 : x3 = y3) : ref06Right_R4 x0 x1 x2 x3 = ref06Right_R4 y0 y1 y2 y3 := by
  subst h0 h1 h2 h3; rfl
def ref06Right_S4 (p0 : (List NodeD)) (p1 : Int) (p2 : Int) : Int → St
  | v0 => ref06Right_R4 v0 (p0.map NodeD.c) p1 p2
def ref06Right_b4 (p0 : (List NodeD)) (p1 : Int) (p2 : Int) : Int → Option (Int ⊕ ((Int × Bool) ⊕ Int))
  | v0 =>
    bif (decide (v0 < (p0.length : Int))) then (
      (ref06Right2 (DiskD.mk p0 p1 p2) v0).bind fun r_1 =>
      bif (!r_1) then (
        some (.inr (.inl (v0, r_1)))
      ) else (
        some (.inl (w64 (v0 + (1 : Int))))
      )
    ) else (
      some (.inr (.inr (v0)))
    )
set_option maxRecDepth 100000 in
theorem ref06Right_t4 (k : Nat) (p0 : (List NodeD)) (p1 : Int) (p2 : Int) (v0 a1 : Int) (h : ref06Right_b4 p0 p1 p2 v0 = some (.inl a1)) : ∃ σ, run1 (k + 3) 25 0 42 ref06Right_L4 (ref06Right_S4 p0 p1 p2 v0) = some (.normal, σ) ∧ canonS 0 [1, 3] σ = some (ref06Right_S4 p0 p1 p2 a1) := by
  unfold ref06Right_b4 at h
  try dsimp only at h
  rcases bif_some h with ⟨q1, h⟩ | ⟨q1, h⟩
  · skip
    obtain ⟨r_1, q2, h⟩ := bnd_some h
    rcases bif_some h with ⟨q3, h⟩ | ⟨q3, h⟩
    · skip
      cases h
    · skip
      obtain rfl := Sum.inl.inj (Option.some.inj h)
      exact ⟨_, run_go (k := (k + 3)) (f := 25) (r0 := 0) (nt := 42) (c := ref06Right_L4) (σ := (ref06Right_S4 p0 p1 p2 v0)) (adv [([], 4, 3, .eq (pI (p0.length : Int))), ([], 4, 4, .eq (pB true)), ([], 6, 2, .ret (pB r_1)), ([], 6, 3, .eq (pB false))]) (ex := .normal) (by kernel_rfl) (by kernel_rfl) (allC (len_ob (rfl : (p0.map NodeD.c) = p0.map NodeD.c)) (allC (cg q1) (allC (ref06Right2_ok k (DiskD.mk p0 p1 p2) v0 _ q2) (allC (cg q3) allN)))), (by kernel_rfl)⟩
  · skip
    cases h
/-- flagstone/flagstoneref06.Right -/
def ref06Right (d : DiskD) : Option Bool :=
  bif ((d.nodes.length : Int) == (0 : Int)) then (
    some false
  ) else (
    bif (decide ((d.nodes.length : Int) > d.most)) then (
      some false
    ) else (
      (ref06Bytes d).bind fun r_1 =>
      bif (decide (r_1 > d.room)) then (
        some false
      ) else (
        (gt d.nodes (0 : Int)).bind fun y_1 =>
        bif (y_1.kind != (2 : Int)) then (
          some false
        ) else (
          (iterN (ref06Right_b4 d.nodes d.most d.room) LF (0 : Int)).bind fun X_1 => match X_1 with
          | .inl (v_1, r_2) => (
            some false
          )
          | .inr (v_1) => (
            some true
          )
        )
      )
    )
  )
set_option maxRecDepth 100000 in
theorem ref06Right_ok (k : Nat) (d : DiskD) (r : Bool) (h : ref06Right d = some r) : run0 (k + 4) 25 [(.agg [(.list 8 false (d.nodes.map NodeD.c)), (pI d.most), (pI d.room)])] = some (pB r) := by
  unfold ref06Right at h
  rcases bif_some h with ⟨q1, h⟩ | ⟨q1, h⟩
  · skip
    obtain rfl := Option.some.inj h
    exact ret_go (k := (k + 3)) Try.func25 Try.ntmps25 (by kernel_rfl) (by kernel_rfl) (Nat.le_of_ble_eq_true rfl) (adv [([], 1, 2, .eq (pI (d.nodes.length : Int))), ([], 1, 4, .eq (pB true))]) (ex := .ret) (r := (pB false)) (by kernel_rfl) rfl (by kernel_rfl) (allC (len_ob (rfl : (d.nodes.map NodeD.c) = d.nodes.map NodeD.c)) (allC (cg q1) allN)) (by kernel_rfl) allN
  · skip
    rcases bif_some h with ⟨q2, h⟩ | ⟨q2, h⟩
    · skip
      obtain rfl := Option.some.inj h
      exact ret_go (k := (k + 3)) Try.func25 Try.ntmps25 (by kernel_rfl) (by kernel_rfl) (Nat.le_of_ble_eq_true rfl) (adv [([], 1, 2, .eq (pI (d.nodes.length : Int))), ([], 1, 4, .eq (pB false)), ([], 1, 7, .eq (pI (d.nodes.length : Int))), ([], 1, 12, .eq (pB true))]) (ex := .ret) (r := (pB false)) (by kernel_rfl) rfl (by kernel_rfl) (allC (len_ob (rfl : (d.nodes.map NodeD.c) = d.nodes.map NodeD.c)) (allC (cg q1) (allC (len_ob (rfl : (d.nodes.map NodeD.c) = d.nodes.map NodeD.c)) (allC (cg q2) allN)))) (by kernel_rfl) allN
    · skip
      obtain ⟨r_1, q3, h⟩ := bnd_some h
      rcases bif_some h with ⟨q4, h⟩ | ⟨q4, h⟩
      · skip
        obtain rfl := Option.some.inj h
        exact ret_go (k := (k + 3)) Try.func25 Try.ntmps25 (by kernel_rfl) (by kernel_rfl) (Nat.le_of_ble_eq_true rfl) (adv [([], 1, 2, .eq (pI (d.nodes.length : Int))), ([], 1, 4, .eq (pB false)), ([], 1, 7, .eq (pI (d.nodes.length : Int))), ([], 1, 12, .eq (pB false)), ([], 1, 14, .ret (pI r_1)), ([], 1, 19, .eq (pB true))]) (ex := .ret) (r := (pB false)) (by kernel_rfl) rfl (by kernel_rfl) (allC (len_ob (rfl : (d.nodes.map NodeD.c) = d.nodes.map NodeD.c)) (allC (cg q1) (allC (len_ob (rfl : (d.nodes.map NodeD.c) = d.nodes.map NodeD.c)) (allC (cg q2) (allC (ref06Bytes_ok (k + 1) d _ q3) (allC (cg q4) allN)))))) (by kernel_rfl) allN
      · skip
        obtain ⟨y_1, q5, h⟩ := bnd_some h
        rcases bif_some h with ⟨q6, h⟩ | ⟨q6, h⟩
        · skip
          obtain rfl := Option.some.inj h
          exact ret_go (k := (k + 3)) Try.func25 Try.ntmps25 (by kernel_rfl) (by kernel_rfl) (Nat.le_of_ble_eq_true rfl) (adv [([], 1, 2, .eq (pI (d.nodes.length : Int))), ([], 1, 4, .eq (pB false)), ([], 1, 7, .eq (pI (d.nodes.length : Int))), ([], 1, 12, .eq (pB false)), ([], 1, 14, .ret (pI r_1)), ([], 1, 19, .eq (pB false)), ([], 1, 22, .elem [(pI y_1.kind), (pI y_1.modeF), (pI y_1.owner), (pI y_1.links), (pI y_1.openF), (pI y_1.up), (pS y_1.data), (.list 2 false (y_1.names.map entP))]), ([], 1, 26, .eq (pB true))]) (ex := .ret) (r := (pB false)) (by kernel_rfl) rfl (by kernel_rfl) (allC (len_ob (rfl : (d.nodes.map NodeD.c) = d.nodes.map NodeD.c)) (allC (cg q1) (allC (len_ob (rfl : (d.nodes.map NodeD.c) = d.nodes.map NodeD.c)) (allC (cg q2) (allC (ref06Bytes_ok (k + 1) d _ q3) (allC (cg q4) (allC (gt_list (c := NodeD.c) q5) (allC (cg q6) allN)))))))) (by kernel_rfl) allN
        · skip
          obtain ⟨X_1, q7, h⟩ := bnd_some h
          obtain ⟨v_1, q8, q9⟩ := loop_iter (f := run1 (k + 3) 25 0 42 ref06Right_L4) (ref06Right_S4 d.nodes d.most d.room) (ref06Right_b4 d.nodes d.most d.room) (ref06Right_t4 k d.nodes d.most d.room) LF (0 : Int) _ (stOf (goStop (k + 3) 25 0 42 (adv [([], 1, 2, .eq (pI (d.nodes.length : Int))), ([], 1, 4, .eq (pB false)), ([], 1, 7, .eq (pI (d.nodes.length : Int))), ([], 1, 12, .eq (pB false)), ([], 1, 14, .ret (pI r_1)), ([], 1, 19, .eq (pB false)), ([], 1, 22, .elem [(pI y_1.kind), (pI y_1.modeF), (pI y_1.owner), (pI y_1.links), (pI y_1.openF), (pI y_1.up), (pS y_1.data), (.list 2 false (y_1.names.map entP))]), ([], 1, 26, .eq (pB false))]) 4 (codeOf Try.f25) (argS 25 [(.agg [(.list 8 false (d.nodes.map NodeD.c)), (pI d.most), (pI d.room)])]))) q7 (by kernel_rfl)
          unfold ref06Right_b4 at q8
          try dsimp only at q8
          rcases bif_some q8 with ⟨q12, q8⟩ | ⟨q12, q8⟩
          · skip
            obtain ⟨r_2, q13, q8⟩ := bnd_some q8
            rcases bif_some q8 with ⟨q14, q8⟩ | ⟨q14, q8⟩
            · skip
              cases q8
              try dsimp only at h
              have q10 := run_go (k := (k + 3)) (f := 25) (r0 := 0) (nt := 42) (c := ref06Right_L4) (σ := (ref06Right_S4 d.nodes d.most d.room v_1)) (adv [([], 4, 3, .eq (pI (d.nodes.length : Int))), ([], 4, 4, .eq (pB true)), ([], 6, 2, .ret (pB r_2)), ([], 6, 3, .eq (pB true))]) (ex := .ret) (by kernel_rfl) (by kernel_rfl) (allC (len_ob (rfl : (d.nodes.map NodeD.c) = d.nodes.map NodeD.c)) (allC (cg q12) (allC (ref06Right2_ok k d v_1 _ q13) (allC (cg q14) allN))))
              have q11 := q9 _ _ (by intro e; cases e) q10
              obtain rfl := Option.some.inj h
              exact ret_go (k := (k + 3)) Try.func25 Try.ntmps25 (by kernel_rfl) (by kernel_rfl) (Nat.le_of_ble_eq_true rfl) (adv [([], 1, 2, .eq (pI (d.nodes.length : Int))), ([], 1, 4, .eq (pB false)), ([], 1, 7, .eq (pI (d.nodes.length : Int))), ([], 1, 12, .eq (pB false)), ([], 1, 14, .ret (pI r_1)), ([], 1, 19, .eq (pB false)), ([], 1, 22, .elem [(pI y_1.kind), (pI y_1.modeF), (pI y_1.owner), (pI y_1.links), (pI y_1.openF), (pI y_1.up), (pS y_1.data), (.list 2 false (y_1.names.map entP))]), ([], 1, 26, .eq (pB false))] [([], 4, .ret, (stOf (go (k + 3) 25 0 42 (adv [([], 4, 3, .eq (pI (d.nodes.length : Int))), ([], 4, 4, .eq (pB true)), ([], 6, 2, .ret (pB r_2)), ([], 6, 3, .eq (pB true))]) ref06Right_L4 (ref06Right_S4 d.nodes d.most d.room v_1))))]) (ex := .ret) (r := (pB false)) (by kernel_rfl) rfl (by kernel_rfl) (allC (len_ob (rfl : (d.nodes.map NodeD.c) = d.nodes.map NodeD.c)) (allC (cg q1) (allC (len_ob (rfl : (d.nodes.map NodeD.c) = d.nodes.map NodeD.c)) (allC (cg q2) (allC (ref06Bytes_ok (k + 1) d _ q3) (allC (cg q4) (allC (gt_list (c := NodeD.c) q5) (allC (cg q6) (allC q11 allN))))))))) (by kernel_rfl) allN
            · skip
              cases q8
          · skip
            cases q8
            try dsimp only at h
            have q10 := run_go (k := (k + 3)) (f := 25) (r0 := 0) (nt := 42) (c := ref06Right_L4) (σ := (ref06Right_S4 d.nodes d.most d.room v_1)) (adv [([], 4, 3, .eq (pI (d.nodes.length : Int))), ([], 4, 4, .eq (pB false))]) (ex := (.exit 0)) (by kernel_rfl) (by kernel_rfl) (allC (len_ob (rfl : (d.nodes.map NodeD.c) = d.nodes.map NodeD.c)) (allC (cg q12) allN))
            have q11 := q9 _ _ (by intro e; cases e) q10
            obtain rfl := Option.some.inj h
            exact ret_go (k := (k + 3)) Try.func25 Try.ntmps25 (by kernel_rfl) (by kernel_rfl) (Nat.le_of_ble_eq_true rfl) (adv [([], 1, 2, .eq (pI (d.nodes.length : Int))), ([], 1, 4, .eq (pB false)), ([], 1, 7, .eq (pI (d.nodes.length : Int))), ([], 1, 12, .eq (pB false)), ([], 1, 14, .ret (pI r_1)), ([], 1, 19, .eq (pB false)), ([], 1, 22, .elem [(pI y_1.kind), (pI y_1.modeF), (pI y_1.owner), (pI y_1.links), (pI y_1.openF), (pI y_1.up), (pS y_1.data), (.list 2 false (y_1.names.map entP))]), ([], 1, 26, .eq (pB false))] [([], 4, (.exit 0), (stOf (go (k + 3) 25 0 42 (adv [([], 4, 3, .eq (pI (d.nodes.length : Int))), ([], 4, 4, .eq (pB false))]) ref06Right_L4 (ref06Right_S4 d.nodes d.most d.room v_1))))]) (ex := .ret) (r := (pB true)) (by kernel_rfl) rfl (by kernel_rfl) (allC (len_ob (rfl : (d.nodes.map NodeD.c) = d.nodes.map NodeD.c)) (allC (cg q1) (allC (len_ob (rfl : (d.nodes.map NodeD.c) = d.nodes.map NodeD.c)) (allC (cg q2) (allC (ref06Bytes_ok (k + 1) d _ q3) (allC (cg q4) (allC (gt_list (c := NodeD.c) q5) (allC (cg q6) (allC q11 allN))))))))) (by kernel_rfl) allN

/- flagstone/entry.Sorted: its loop at region 3 -/
noncomputable def entrySorted_L3 : Code := cAt (codeOf Try.f34) [true, true, false, true, false, false]
def entrySorted_R3 (x0 : ByteArray) (x1 : List (List PV)) (x2 : Int) (x3 : Int) : St := ⟨envL [(3, (pS x0)), (6, (.list 2 false x1)), (7, (pI x2)), (8, (pI x3))], hsL [] []⟩
theorem entrySorted_R3_eq {x0 y0 : ByteArray} {x1 y1 : List (List PV)} {x2 y2 : Int} {x3 y3 : Int} (h0 : x0 = y0) (h1 : x1 = y1) (h2 : x2 = y2) (h3 : x3 = y3) : entrySorted_R3 x0 x1 x2 x3 = entrySorted_R3 y0 y1 y2 y3 := by
  subst h0 h1 h2 h3; rfl
def entrySorted_S3 (p0 : (List Ent)) (p1 : Int) : (ByteArray × Int) → St
  | (v0, v1) => entrySorted_R3 v0 (p0.map entP) p1 v1
def entrySorted_b3 (p0 : (List Ent)) (p1 : Int) : (ByteArray × Int) → Option ((ByteArray × Int) ⊕ ((ByteArray × Int × Ent × Int) ⊕ (ByteArray × Int × Ent × Int) ⊕ (ByteArray × Int)))
  | (v0, v1) =>
    bif (decide (v1 < p1)) then (
      (gt p0 v1).bind fun y_1 =>
      (legalX y_1.name).bind fun r_1 =>
      bif (r_1 != (0 : Int)) then (
        some (.inr (.inl (v0, v1, y_1, r_1)))
      ) else (
        bif ((Op.bytesLess y_1.name.toList v0.toList) || (seq y_1.name v0)) then (
          some (.inr (.inr (.inl (v0, v1, y_1, r_1))))
        ) else (
          some (.inl (y_1.name, (w64 (v1 + (1 : Int)))))
        )
      )
    ) else (
      some (.inr (.inr (.inr ((v0, v1)))))
    )
set_option maxRecDepth 100000 in
theorem entrySorted_t3 (k : Nat) (p0 : (List Ent)) (p1 : Int) (a a1 : (ByteArray × Int)) (h : entrySorted_b3 p0 p1 a = some (.inl a1)) : ∃ σ, run1 k 34 0 25 entrySorted_L3 (entrySorted_S3 p0 p1 a) = some (.normal, σ) ∧ canonS 0 [3, 6, 7, 8] σ = some (entrySorted_S3 p0 p1 a1) := by
  obtain ⟨v0, v1⟩ := a
  unfold entrySorted_b3 at h
  try dsimp only at h
  rcases bif_some h with ⟨q1, h⟩ | ⟨q1, h⟩
  · skip
    obtain ⟨y_1, q2, h⟩ := bnd_some h
    obtain ⟨r_1, q3, h⟩ := bnd_some h
    rcases bif_some h with ⟨q4, h⟩ | ⟨q4, h⟩
    · skip
      cases h
    · skip
      rcases bif_some h with ⟨q5, h⟩ | ⟨q5, h⟩
      · skip
        cases h
      · skip
        obtain rfl := Sum.inl.inj (Option.some.inj h)
        exact ⟨_, run_go (k := k) (f := 34) (r0 := 0) (nt := 25) (c := entrySorted_L3) (σ := (entrySorted_S3 p0 p1 (v0, v1))) (adv [([], 3, 0, .eq (pB true)), ([], 4, 0, .elem [(pS y_1.name), (pI y_1.ino)]), ([], 5, 2, .ret (pI r_1)), ([], 5, 4, .eq (pB false)), ([], 5, 9, .eq (pB false))]) (ex := .normal) (by kernel_rfl) (by kernel_rfl) (allC (cg q1) (allC (gt_list (c := entP) q2) (allC (legalX_ok k y_1.name _ q3) (allC (cg q4) (allC (cg q5) allN))))), (by kernel_rfl)⟩
  · skip
    cases h
/-- flagstone/entry.Sorted -/
def entrySorted (l : (List Ent)) : Option Bool :=
  (iterN (entrySorted_b3 l (l.length : Int)) LF (⟨#[]⟩, (0 : Int))).bind fun X_1 => match X_1 with
  | .inl (v_1, v_2, y_1, r_1) => (
    some false
  )
  | .inr (.inl (v_1, v_2, y_1, r_1)) => (
    some false
  )
  | .inr (.inr ((v_1, v_2))) => (
    some true
  )
set_option maxRecDepth 100000 in
theorem entrySorted_ok (k : Nat) (l : (List Ent)) (r : Bool) (h : entrySorted l = some r) : run0 (k + 1) 34 [(.list 2 false (l.map entP))] = some (pB r) := by
  unfold entrySorted at h
  obtain ⟨X_1, q1, h⟩ := bnd_some h
  obtain ⟨a_1, q2, q3⟩ := loop_iter (f := run1 k 34 0 25 entrySorted_L3) (entrySorted_S3 l (l.length : Int)) (entrySorted_b3 l (l.length : Int)) (entrySorted_t3 k l (l.length : Int)) LF (⟨#[]⟩, (0 : Int)) _ (stOf (goStop k 34 0 25 (adv [([], 2, 1, .eq (pI (l.length : Int)))]) 3 (codeOf Try.f34) (argS 34 [(.list 2 false (l.map entP))]))) q1 (by kernel_rfl)
  obtain ⟨v_1, v_2⟩ := a_1
  unfold entrySorted_b3 at q2
  try dsimp only at q2
  rcases bif_some q2 with ⟨q6, q2⟩ | ⟨q6, q2⟩
  · skip
    obtain ⟨y_1, q7, q2⟩ := bnd_some q2
    obtain ⟨r_1, q8, q2⟩ := bnd_some q2
    rcases bif_some q2 with ⟨q9, q2⟩ | ⟨q9, q2⟩
    · skip
      cases q2
      try dsimp only at h
      have q4 := run_go (k := k) (f := 34) (r0 := 0) (nt := 25) (c := entrySorted_L3) (σ := (entrySorted_S3 l (l.length : Int) (v_1, v_2))) (adv [([], 3, 0, .eq (pB true)), ([], 4, 0, .elem [(pS y_1.name), (pI y_1.ino)]), ([], 5, 2, .ret (pI r_1)), ([], 5, 4, .eq (pB true))]) (ex := .ret) (by kernel_rfl) (by kernel_rfl) (allC (cg q6) (allC (gt_list (c := entP) q7) (allC (legalX_ok k y_1.name _ q8) (allC (cg q9) allN))))
      have q5 := q3 _ _ (by intro e; cases e) q4
      obtain rfl := Option.some.inj h
      exact ret_go (k := k) Try.func34 Try.ntmps34 (by kernel_rfl) (by kernel_rfl) (Nat.le_of_ble_eq_true rfl) (adv [([], 2, 1, .eq (pI (l.length : Int)))] [([], 3, .ret, (stOf (go k 34 0 25 (adv [([], 3, 0, .eq (pB true)), ([], 4, 0, .elem [(pS y_1.name), (pI y_1.ino)]), ([], 5, 2, .ret (pI r_1)), ([], 5, 4, .eq (pB true))]) entrySorted_L3 (entrySorted_S3 l (l.length : Int) (v_1, v_2)))))]) (ex := .ret) (r := (pB false)) (by kernel_rfl) rfl (by kernel_rfl) (allC (len_ob (rfl : (l.map entP) = l.map entP)) (allC q5 allN)) (by kernel_rfl) allN
    · skip
      rcases bif_some q2 with ⟨q10, q2⟩ | ⟨q10, q2⟩
      · skip
        cases q2
        try dsimp only at h
        have q4 := run_go (k := k) (f := 34) (r0 := 0) (nt := 25) (c := entrySorted_L3) (σ := (entrySorted_S3 l (l.length : Int) (v_1, v_2))) (adv [([], 3, 0, .eq (pB true)), ([], 4, 0, .elem [(pS y_1.name), (pI y_1.ino)]), ([], 5, 2, .ret (pI r_1)), ([], 5, 4, .eq (pB false)), ([], 5, 9, .eq (pB true))]) (ex := .ret) (by kernel_rfl) (by kernel_rfl) (allC (cg q6) (allC (gt_list (c := entP) q7) (allC (legalX_ok k y_1.name _ q8) (allC (cg q9) (allC (cg q10) allN)))))
        have q5 := q3 _ _ (by intro e; cases e) q4
        obtain rfl := Option.some.inj h
        exact ret_go (k := k) Try.func34 Try.ntmps34 (by kernel_rfl) (by kernel_rfl) (Nat.le_of_ble_eq_true rfl) (adv [([], 2, 1, .eq (pI (l.length : Int)))] [([], 3, .ret, (stOf (go k 34 0 25 (adv [([], 3, 0, .eq (pB true)), ([], 4, 0, .elem [(pS y_1.name), (pI y_1.ino)]), ([], 5, 2, .ret (pI r_1)), ([], 5, 4, .eq (pB false)), ([], 5, 9, .eq (pB true))]) entrySorted_L3 (entrySorted_S3 l (l.length : Int) (v_1, v_2)))))]) (ex := .ret) (r := (pB false)) (by kernel_rfl) rfl (by kernel_rfl) (allC (len_ob (rfl : (l.map entP) = l.map entP)) (allC q5 allN)) (by kernel_rfl) allN
      · skip
        cases q2
  · skip
    cases q2
    try dsimp only at h
    have q4 := run_go (k := k) (f := 34) (r0 := 0) (nt := 25) (c := entrySorted_L3) (σ := (entrySorted_S3 l (l.length : Int) (v_1, v_2))) (adv [([], 3, 0, .eq (pB false))]) (ex := (.exit 0)) (by kernel_rfl) (by kernel_rfl) (allC (cg q6) allN)
    have q5 := q3 _ _ (by intro e; cases e) q4
    obtain rfl := Option.some.inj h
    exact ret_go (k := k) Try.func34 Try.ntmps34 (by kernel_rfl) (by kernel_rfl) (Nat.le_of_ble_eq_true rfl) (adv [([], 2, 1, .eq (pI (l.length : Int)))] [([], 3, (.exit 0), (stOf (go k 34 0 25 (adv [([], 3, 0, .eq (pB false))]) entrySorted_L3 (entrySorted_S3 l (l.length : Int) (v_1, v_2)))))]) (ex := .ret) (r := (pB true)) (by kernel_rfl) rfl (by kernel_rfl) (allC (len_ob (rfl : (l.map entP) = l.map entP)) (allC q5 allN)) (by kernel_rfl) allN


end Go.Proofs.Ytfllhakmjookkaa.Den
