/- Functions, printed by den.py out of the code: plain ones, and that the code answers as they do. -/
import Derived.Test.YtbidfkibpjjghaaDoorDenF5
set_option linter.unusedVariables false
set_option linter.unusedSimpArgs false
namespace Go.Proofs.YtbidfkibpjjghaaDoor.Den
open Go Go.RowKit

/- flagstone/option.Value: its loop at region 2 -/
noncomputable def optionValue_L2 : Code := cAt (codeOf Tryd.f16) [true, false, true, false, false]
def optionValue_R2 (x0 : Int) (x1 : ByteArray) (x2 : Bool) (x3 : List (List PV)) (x4 : Int) (x5 : Int) : St := ⟨envL [(1, (.v (.int .u8 x0))), (4, (pS x1)), (5, (pB x2)), (8, (.list 2 false x3)), (9, (pI x4)), (10, (pI x5))], hsL [] []⟩
theorem optionValue_R2_eq {x0 y0 : Int} {x1 y1 : ByteArray} {x2 y2 : Bool} {x3 y3 : List (List PV)} {x4 y4 : Int} {x5 y5 : Int} (h0 : x0 = y0) (h1 : x1 = y1) (h2 : x2 = y2) (h3 : x3 = y3) (h4 : x4 = y4) (h5 : x5 = y5) : optionValue_R2 x0 x1 x2 x3 x4 x5 = optionValue_R2 y0 y1 y2 y3 y4 y5 := by
  subst h0 h1 h2 h3 h4 h5; rfl
def optionValue_S2 (p0 : Int) (p1 : (List FlagD)) (p2 : Int) : (ByteArray × Bool × Int) → St
  | (v0, v1, v2) => optionValue_R2 p0 v0 v1 (p1.map FlagD.c) p2 v2
def optionValue_b2 (p0 : Int) (p1 : (List FlagD)) (p2 : Int) : (ByteArray × Bool × Int) → Option ((ByteArray × Bool × Int) ⊕ (ByteArray × Bool × Int))
  | (v0, v1, v2) =>
    bif (decide (v2 < p2)) then (
      (gt p1 v2).bind fun y_1 =>
      bif (y_1.letter == p0) then (
        some (.inl (y_1.value, true, (w64 (v2 + (1 : Int)))))
      ) else (
        some (.inl (v0, v1, (w64 (v2 + (1 : Int)))))
      )
    ) else (
      some (.inr (v0, v1, v2))
    )
set_option maxRecDepth 100000 in
theorem optionValue_t2 (k : Nat) (p0 : Int) (p1 : (List FlagD)) (p2 : Int) (a a1 : (ByteArray × Bool × Int)) (h : optionValue_b2 p0 p1 p2 a = some (.inl a1)) : ∃ σ, run1 k 16 0 23 optionValue_L2 (optionValue_S2 p0 p1 p2 a) = some (.normal, σ) ∧ canonS 0 [1, 4, 5, 8, 9, 10] σ = some (optionValue_S2 p0 p1 p2 a1) := by
  obtain ⟨v0, v1, v2⟩ := a
  unfold optionValue_b2 at h
  try dsimp only at h
  rcases bif_some h with ⟨q1, h⟩ | ⟨q1, h⟩
  · skip
    obtain ⟨y_1, q2, h⟩ := bnd_some h
    rcases bif_some h with ⟨q3, h⟩ | ⟨q3, h⟩
    · skip
      obtain rfl := Sum.inl.inj (Option.some.inj h)
      exact ⟨_, run_go (k := k) (f := 16) (r0 := 0) (nt := 23) (c := optionValue_L2) (σ := (optionValue_S2 p0 p1 p2 (v0, v1, v2))) (adv [([], 2, 0, .eq (pB true)), ([], 3, 0, .elem [(.v (.int .u8 y_1.letter)), (pS y_1.value)]), ([], 4, 3, .eq (pB true))]) (ex := .normal) (by kernel_rfl) (by kernel_rfl) (allC (cg q1) (allC (gt_list (c := FlagD.c) q2) (allC (cg q3) allN))), (by kernel_rfl)⟩
    · skip
      obtain rfl := Sum.inl.inj (Option.some.inj h)
      exact ⟨_, run_go (k := k) (f := 16) (r0 := 0) (nt := 23) (c := optionValue_L2) (σ := (optionValue_S2 p0 p1 p2 (v0, v1, v2))) (adv [([], 2, 0, .eq (pB true)), ([], 3, 0, .elem [(.v (.int .u8 y_1.letter)), (pS y_1.value)]), ([], 4, 3, .eq (pB false))]) (ex := .normal) (by kernel_rfl) (by kernel_rfl) (allC (cg q1) (allC (gt_list (c := FlagD.c) q2) (allC (cg q3) allN))), (by kernel_rfl)⟩
  · skip
    cases h
/-- flagstone/option.Value -/
def optionValue (l : (List FlagD)) (letter : Int) : Option (ByteArray × Bool) :=
  (iterN (optionValue_b2 letter l (l.length : Int)) LF ((bs []), false, (0 : Int))).bind fun (v_1, v_2, v_3) =>
  some (v_1, v_2)
set_option maxRecDepth 100000 in
theorem optionValue_ok (k : Nat) (l : (List FlagD)) (letter : Int) (r : (ByteArray × Bool)) (h : optionValue l letter = some r) : run0 (k + 1) 16 [(.list 2 false (l.map FlagD.c)), (.v (.int .u8 letter))] = some (.tup [(pS r.1), (pB r.2)]) := by
  unfold optionValue at h
  obtain ⟨X_1, q1, h⟩ := bnd_some h
  obtain ⟨a_1, q2, q3⟩ := loop_iter (f := run1 k 16 0 23 optionValue_L2) (optionValue_S2 letter l (l.length : Int)) (optionValue_b2 letter l (l.length : Int)) (optionValue_t2 k letter l (l.length : Int)) LF ((bs []), false, (0 : Int)) _ (stOf (goStop k 16 0 23 (adv [([], 1, 1, .eq (pI (l.length : Int)))]) 2 (codeOf Tryd.f16) (argS 16 [(.list 2 false (l.map FlagD.c)), (.v (.int .u8 letter))]))) q1 (by kernel_rfl)
  obtain ⟨v_1, v_2, v_3⟩ := a_1
  unfold optionValue_b2 at q2
  try dsimp only at q2
  rcases bif_some q2 with ⟨q6, q2⟩ | ⟨q6, q2⟩
  · skip
    obtain ⟨y_1, q7, q2⟩ := bnd_some q2
    rcases bif_some q2 with ⟨q8, q2⟩ | ⟨q8, q2⟩
    · skip
      cases q2
    · skip
      cases q2
  · skip
    cases q2
    try dsimp only at h
    have q4 := run_go (k := k) (f := 16) (r0 := 0) (nt := 23) (c := optionValue_L2) (σ := (optionValue_S2 letter l (l.length : Int) (v_1, v_2, v_3))) (adv [([], 2, 0, .eq (pB false))]) (ex := (.exit 0)) (by kernel_rfl) (by kernel_rfl) (allC (cg q6) allN)
    have q5 := q3 _ _ (by intro e; cases e) q4
    obtain rfl := Option.some.inj h
    exact ret_go (k := k) Tryd.func16 Tryd.ntmps16 (by kernel_rfl) (by kernel_rfl) (Nat.le_of_ble_eq_true rfl) (adv [([], 1, 1, .eq (pI (l.length : Int)))] [([], 2, (.exit 0), (stOf (go k 16 0 23 (adv [([], 2, 0, .eq (pB false))]) optionValue_L2 (optionValue_S2 letter l (l.length : Int) (v_1, v_2, v_3)))))]) (ex := .ret) (r := (.tup [(pS v_1), (pB v_2)])) (by kernel_rfl) rfl (by kernel_rfl) (allC (len_ob (rfl : (l.map FlagD.c) = l.map FlagD.c)) (allC q5 allN)) (by kernel_rfl) allN

/-- flagstone/option.Has 1: the answer, and what is left of the variables -/
def optionHas1 (p0 : Int) (p1 : ByteArray) (p2 : Int) : Option (Bool × Int) :=
  some ((p0 == p2), p2)
def optionHas1_out : (Bool × Int) → PV × List (Option Blk) × List Nat
  | (r0, r1) => ((pB r0), [some ⟨1, 5, [[(.v (.int .u8 r1))]], true, false⟩], [0])
set_option maxRecDepth 100000 in
theorem optionHas1_ok (k : Nat) (p0 : Int) (p1 : ByteArray) (p2 : Int) (r : (Bool × Int)) (h : optionHas1 p0 p1 p2 = some r) : runS0 (k + 1) 25 [(.agg [(.v (.int .u8 p0)), (pS p1)]), (.ptr [0, TAG] 1 0 0)] [some ⟨1, 5, [[(.v (.int .u8 p2))]], true, false⟩] [0] = some (optionHas1_out r) := by
  unfold optionHas1 at h
  obtain rfl := Option.some.inj h
  exact retS_go (k := k) (n := 1) Tryd.func25 Tryd.ntmps25 rfl (by kernel_rfl) (by kernel_rfl) (Nat.le_of_ble_eq_true rfl) (adv []) (ex := .ret) (r := ((pB (p0 == p2)), [some ⟨1, 5, [[(.v (.int .u8 p2))]], true, false⟩], [0])) (by kernel_rfl) rfl (by kernel_rfl) allN (by kernel_rfl)

/- slices.IndexFunc[[]flagstone/option.Flag,flagstone/option.Flag]: its loop at region 2 -/
noncomputable def slicesIndexFunc_L2 : Code := cAt (codeOf Tryd.f31) [true, false, true, false, false]
def slicesIndexFunc_R2 (x0 : List (List PV)) (x1 : Int) (x2 : Int) (x3 : Int) : St := ⟨envL [(0, (.list 2 false x0)), (1, (.clo 25 [(.ptr [0, TAG] 1 0 0)])), (7, (pI x1)), (8, (pI x2))], hsL [some ⟨1, 5, [[(.v (.int .u8 x3))]], true, false⟩] [0]⟩
theorem slicesIndexFunc_R2_eq {x0 y0 : List (List PV)} {x1 y1 : Int} {x2 y2 : Int} {x3 y3 : Int} (h0 : x0 = y0) (h1 : x1 = y1) (h2 : x2 = y2) (h3 : x3 = y3) : slicesIndexFunc_R2 x0 x1 x2 x3 = slicesIndexFunc_R2 y0 y1 y2 y3 := by
  subst h0 h1 h2 h3; rfl
def slicesIndexFunc_S2 (p0 : (List FlagD)) (p1 : Int) : (Int × Int) → St
  | (v0, v1) => slicesIndexFunc_R2 (p0.map FlagD.c) p1 v0 v1
def slicesIndexFunc_b2 (p0 : (List FlagD)) (p1 : Int) : (Int × Int) → Option ((Int × Int) ⊕ ((Int × Int × FlagD × Bool × Int) ⊕ (Int × Int)))
  | (v0, v1) =>
    bif (decide (v0 < p1)) then (
      (gt p0 v0).bind fun y_1 =>
      (optionHas1 y_1.letter y_1.value v1).bind fun (r_1, r_2) =>
      bif r_1 then (
        some (.inr (.inl (v0, v1, y_1, r_1, r_2)))
      ) else (
        some (.inl ((w64 (v0 + (1 : Int))), r_2))
      )
    ) else (
      some (.inr (.inr ((v0, v1))))
    )
set_option maxRecDepth 100000 in
theorem slicesIndexFunc_t2 (k : Nat) (p0 : (List FlagD)) (p1 : Int) (a a1 : (Int × Int)) (h : slicesIndexFunc_b2 p0 p1 a = some (.inl a1)) : ∃ σ, run1 (k + 1) 31 1 19 slicesIndexFunc_L2 (slicesIndexFunc_S2 p0 p1 a) = some (.normal, σ) ∧ canonS 1 [0, 1, 7, 8] σ = some (slicesIndexFunc_S2 p0 p1 a1) := by
  obtain ⟨v0, v1⟩ := a
  unfold slicesIndexFunc_b2 at h
  try dsimp only at h
  rcases bif_some h with ⟨q1, h⟩ | ⟨q1, h⟩
  · skip
    obtain ⟨y_1, q2, h⟩ := bnd_some h
    obtain ⟨X_1, q3, h⟩ := bnd_some h
    rcases X_1 with ⟨r_1, r_2⟩
    · try dsimp only at h
      rcases bif_some h with ⟨q4, h⟩ | ⟨q4, h⟩
      · skip
        revert h; subst q4; intro h
        cases h
      · skip
        revert h; subst q4; intro h
        obtain rfl := Sum.inl.inj (Option.some.inj h)
        exact ⟨_, run_go (k := (k + 1)) (f := 31) (r0 := 1) (nt := 19) (c := slicesIndexFunc_L2) (σ := (slicesIndexFunc_S2 p0 p1 (v0, v1))) (adv [([], 2, 0, .eq (pB true)), ([], 4, 3, .elem [(.v (.int .u8 y_1.letter)), (pS y_1.value)]), ([], 4, 5, .retS (pB false) [some ⟨1, 5, [[(.v (.int .u8 r_2))]], true, false⟩] [0])]) (ex := .normal) (by kernel_rfl) (by kernel_rfl) (allC (cg q1) (allC (gt_list (c := FlagD.c) q2) (allC (optionHas1_ok k y_1.letter y_1.value v1 _ q3) allN))), (by kernel_rfl)⟩
  · skip
    cases h
/-- slices.IndexFunc[[]flagstone/option.Flag,flagstone/option.Flag]: the answer, and what is left of the variables -/
def slicesIndexFunc (p0 : (List FlagD)) (p1 : Int) : Option (Int × Int) :=
  (iterN (slicesIndexFunc_b2 p0 (p0.length : Int)) LF ((0 : Int), p1)).bind fun X_1 => match X_1 with
  | .inl (v_1, v_2, y_1, r_1, r_2) => (
    some (v_1, r_2)
  )
  | .inr ((v_1, v_2)) => (
    some ((-1 : Int), v_2)
  )
def slicesIndexFunc_out : (Int × Int) → PV × List (Option Blk) × List Nat
  | (r0, r1) => ((pI r0), [some ⟨1, 5, [[(.v (.int .u8 r1))]], true, false⟩], [0])
set_option maxRecDepth 100000 in
theorem slicesIndexFunc_ok (k : Nat) (p0 : (List FlagD)) (p1 : Int) (r : (Int × Int)) (h : slicesIndexFunc p0 p1 = some r) : runS0 (k + 2) 31 [(.list 2 false (p0.map FlagD.c)), (.clo 25 [(.ptr [0, TAG] 1 0 0)])] [some ⟨1, 5, [[(.v (.int .u8 p1))]], true, false⟩] [0] = some (slicesIndexFunc_out r) := by
  unfold slicesIndexFunc at h
  obtain ⟨X_1, q1, h⟩ := bnd_some h
  obtain ⟨a_1, q2, q3⟩ := loop_iter (f := run1 (k + 1) 31 1 19 slicesIndexFunc_L2) (slicesIndexFunc_S2 p0 (p0.length : Int)) (slicesIndexFunc_b2 p0 (p0.length : Int)) (slicesIndexFunc_t2 k p0 (p0.length : Int)) LF ((0 : Int), p1) _ (stOf (goStop (k + 1) 31 1 19 (adv [([], 1, 1, .eq (pI (p0.length : Int)))]) 2 (codeOf Tryd.f31) (argB 31 [(.list 2 false (p0.map FlagD.c)), (.clo 25 [(.ptr [0, TAG] 1 0 0)])] [some ⟨1, 5, [[(.v (.int .u8 p1))]], true, false⟩] [0]))) q1 (by kernel_rfl)
  obtain ⟨v_1, v_2⟩ := a_1
  unfold slicesIndexFunc_b2 at q2
  try dsimp only at q2
  rcases bif_some q2 with ⟨q6, q2⟩ | ⟨q6, q2⟩
  · skip
    obtain ⟨y_1, q7, q2⟩ := bnd_some q2
    obtain ⟨X_2, q8, q2⟩ := bnd_some q2
    rcases X_2 with ⟨r_1, r_2⟩
    · try dsimp only at q2
      rcases bif_some q2 with ⟨q9, q2⟩ | ⟨q9, q2⟩
      · skip
        revert q2; subst q9; intro q2
        cases q2
        try dsimp only at h
        have q4 := run_go (k := (k + 1)) (f := 31) (r0 := 1) (nt := 19) (c := slicesIndexFunc_L2) (σ := (slicesIndexFunc_S2 p0 (p0.length : Int) (v_1, v_2))) (adv [([], 2, 0, .eq (pB true)), ([], 4, 3, .elem [(.v (.int .u8 y_1.letter)), (pS y_1.value)]), ([], 4, 5, .retS (pB true) [some ⟨1, 5, [[(.v (.int .u8 r_2))]], true, false⟩] [0])]) (ex := .ret) (by kernel_rfl) (by kernel_rfl) (allC (cg q6) (allC (gt_list (c := FlagD.c) q7) (allC (optionHas1_ok k y_1.letter y_1.value v_2 _ q8) allN)))
        have q5 := q3 _ _ (by intro e; cases e) q4
        obtain rfl := Option.some.inj h
        exact retS_go (k := (k + 1)) (n := 1) Tryd.func31 Tryd.ntmps31 rfl (by kernel_rfl) (by kernel_rfl) (Nat.le_of_ble_eq_true rfl) (adv [([], 1, 1, .eq (pI (p0.length : Int)))] [([], 2, .ret, (stOf (go (k + 1) 31 1 19 (adv [([], 2, 0, .eq (pB true)), ([], 4, 3, .elem [(.v (.int .u8 y_1.letter)), (pS y_1.value)]), ([], 4, 5, .retS (pB true) [some ⟨1, 5, [[(.v (.int .u8 r_2))]], true, false⟩] [0])]) slicesIndexFunc_L2 (slicesIndexFunc_S2 p0 (p0.length : Int) (v_1, v_2)))))]) (ex := .ret) (r := ((pI v_1), [some ⟨1, 5, [[(.v (.int .u8 r_2))]], true, false⟩], [0])) (by kernel_rfl) rfl (by kernel_rfl) (allC (len_ob (rfl : (p0.map FlagD.c) = p0.map FlagD.c)) (allC q5 allN)) (by kernel_rfl)
      · skip
        revert q2; subst q9; intro q2
        cases q2
  · skip
    cases q2
    try dsimp only at h
    have q4 := run_go (k := (k + 1)) (f := 31) (r0 := 1) (nt := 19) (c := slicesIndexFunc_L2) (σ := (slicesIndexFunc_S2 p0 (p0.length : Int) (v_1, v_2))) (adv [([], 2, 0, .eq (pB false))]) (ex := (.exit 0)) (by kernel_rfl) (by kernel_rfl) (allC (cg q6) allN)
    have q5 := q3 _ _ (by intro e; cases e) q4
    obtain rfl := Option.some.inj h
    exact retS_go (k := (k + 1)) (n := 1) Tryd.func31 Tryd.ntmps31 rfl (by kernel_rfl) (by kernel_rfl) (Nat.le_of_ble_eq_true rfl) (adv [([], 1, 1, .eq (pI (p0.length : Int)))] [([], 2, (.exit 0), (stOf (go (k + 1) 31 1 19 (adv [([], 2, 0, .eq (pB false))]) slicesIndexFunc_L2 (slicesIndexFunc_S2 p0 (p0.length : Int) (v_1, v_2)))))]) (ex := .ret) (r := ((pI (-1 : Int)), [some ⟨1, 5, [[(.v (.int .u8 v_2))]], true, false⟩], [0])) (by kernel_rfl) rfl (by kernel_rfl) (allC (len_ob (rfl : (p0.map FlagD.c) = p0.map FlagD.c)) (allC q5 allN)) (by kernel_rfl)

/-- slices.ContainsFunc[[]flagstone/option.Flag,flagstone/option.Flag]: the answer, and what is left of the variables -/
def slicesContainsFunc (p0 : (List FlagD)) (p1 : Int) : Option (Bool × Int) :=
  (slicesIndexFunc p0 p1).bind fun (r_1, r_2) =>
  some ((decide (r_1 ≥ (0 : Int))), r_2)
def slicesContainsFunc_out : (Bool × Int) → PV × List (Option Blk) × List Nat
  | (r0, r1) => ((pB r0), [some ⟨1, 5, [[(.v (.int .u8 r1))]], true, false⟩], [0])
set_option maxRecDepth 100000 in
theorem slicesContainsFunc_ok (k : Nat) (p0 : (List FlagD)) (p1 : Int) (r : (Bool × Int)) (h : slicesContainsFunc p0 p1 = some r) : runS0 (k + 3) 24 [(.list 2 false (p0.map FlagD.c)), (.clo 25 [(.ptr [0, TAG] 1 0 0)])] [some ⟨1, 5, [[(.v (.int .u8 p1))]], true, false⟩] [0] = some (slicesContainsFunc_out r) := by
  unfold slicesContainsFunc at h
  obtain ⟨X_1, q1, h⟩ := bnd_some h
  rcases X_1 with ⟨r_1, r_2⟩
  · try dsimp only at h
    obtain rfl := Option.some.inj h
    exact retS_go (k := (k + 2)) (n := 1) Tryd.func24 Tryd.ntmps24 rfl (by kernel_rfl) (by kernel_rfl) (Nat.le_of_ble_eq_true rfl) (adv [([], 1, 2, .retS (pI r_1) [some ⟨1, 5, [[(.v (.int .u8 r_2))]], true, false⟩] [0])]) (ex := .ret) (r := ((pB (decide (r_1 ≥ (0 : Int)))), [some ⟨1, 5, [[(.v (.int .u8 r_2))]], true, false⟩], [0])) (by kernel_rfl) rfl (by kernel_rfl) (allC (slicesIndexFunc_ok k p0 p1 _ q1) allN) (by kernel_rfl)

/-- flagstone/option.Has -/
def optionHas (l : (List FlagD)) (letter : Int) : Option Bool :=
  (slicesContainsFunc l letter).bind fun (r_1, r_2) =>
  some r_1
set_option maxRecDepth 100000 in
theorem optionHas_ok (k : Nat) (l : (List FlagD)) (letter : Int) (r : Bool) (h : optionHas l letter = some r) : run0 (k + 4) 18 [(.list 2 false (l.map FlagD.c)), (.v (.int .u8 letter))] = some (pB r) := by
  unfold optionHas at h
  obtain ⟨X_1, q1, h⟩ := bnd_some h
  rcases X_1 with ⟨r_1, r_2⟩
  · try dsimp only at h
    obtain rfl := Option.some.inj h
    exact ret_go (k := (k + 3)) Tryd.func18 Tryd.ntmps18 (by kernel_rfl) (by kernel_rfl) (Nat.le_of_ble_eq_true rfl) (adv [([], 1, 2, .retS (pB r_1) [some ⟨1, 5, [[(.v (.int .u8 r_2))]], true, false⟩] [0])]) (ex := .ret) (r := (pB r_1)) (by kernel_rfl) rfl (by kernel_rfl) (allC (slicesContainsFunc_ok k l letter _ q1) allN) (by kernel_rfl) allN

/-- flagstone/flagstonelaw03.shown -/
def law03Shown : Option Bool :=
  (optionParse (bs [112, 109, 58]) ([(bs [45, 112, 109, 55]), (bs [97]), (bs [45, 112])])).bind fun (r_1, r_2, r_3) =>
  (optionValue r_1 (109 : Int)).bind fun (r_4, r_5) =>
  (optionParse (bs [112, 109, 58]) ([(bs [45, 120])])).bind fun (r_6, r_7, r_8) =>
  (optionParse (bs [112, 109, 58]) ([(bs [45, 109])])).bind fun (r_9, r_10, r_11) =>
  bif ((r_1.length : Int) == (2 : Int)) then (
    bif (seq r_4 (bs [55])) then (
      bif r_5 then (
        (optionHas r_1 (112 : Int)).bind fun r_12 =>
        bif r_12 then (
          (optionHas r_1 (120 : Int)).bind fun r_13 =>
          bif (!r_13) then (
            bif ((r_2.length : Int) == (2 : Int)) then (
              (gt r_2 (0 : Int)).bind fun y_1 =>
              bif (seq y_1 (bs [97])) then (
                bif (r_3 == (0 : Int)) then (
                  bif (r_8 == (30 : Int)) then (
                    some (r_11 == (31 : Int))
                  ) else (
                    some false
                  )
                ) else (
                  some false
                )
              ) else (
                some false
              )
            ) else (
              some false
            )
          ) else (
            some false
          )
        ) else (
          some false
        )
      ) else (
        some false
      )
    ) else (
      some false
    )
  ) else (
    some false
  )
set_option maxRecDepth 100000 in
theorem law03Shown_ok (k : Nat) (r : Bool) (h : law03Shown = some r) : run0 (k + 6) 10 [] = some (pB r) := by
  unfold law03Shown at h
  obtain ⟨⟨r_1, r_2, r_3⟩, q1, h⟩ := bnd_some h
  try dsimp only at h
  obtain ⟨⟨r_4, r_5⟩, q2, h⟩ := bnd_some h
  try dsimp only at h
  obtain ⟨⟨r_6, r_7, r_8⟩, q3, h⟩ := bnd_some h
  try dsimp only at h
  obtain ⟨⟨r_9, r_10, r_11⟩, q4, h⟩ := bnd_some h
  try dsimp only at h
  rcases bif_some h with ⟨q5, h⟩ | ⟨q5, h⟩
  · skip
    rcases bif_some h with ⟨q6, h⟩ | ⟨q6, h⟩
    · skip
      rcases bif_some h with ⟨q7, h⟩ | ⟨q7, h⟩
      · skip
        obtain ⟨r_12, q8, h⟩ := bnd_some h
        rcases bif_some h with ⟨q9, h⟩ | ⟨q9, h⟩
        · skip
          obtain ⟨r_13, q10, h⟩ := bnd_some h
          rcases bif_some h with ⟨q11, h⟩ | ⟨q11, h⟩
          · skip
            rcases bif_some h with ⟨q12, h⟩ | ⟨q12, h⟩
            · skip
              obtain ⟨y_1, q13, h⟩ := bnd_some h
              rcases bif_some h with ⟨q14, h⟩ | ⟨q14, h⟩
              · skip
                rcases bif_some h with ⟨q15, h⟩ | ⟨q15, h⟩
                · skip
                  rcases bif_some h with ⟨q16, h⟩ | ⟨q16, h⟩
                  · skip
                    obtain rfl := Option.some.inj h
                    exact ret_go (k := (k + 5)) Tryd.func10 Tryd.ntmps10 (by kernel_rfl) (by kernel_rfl) (Nat.le_of_ble_eq_true rfl) (adv [([], 1, 1, .ret (.tup [(.list 2 false (r_1.map FlagD.c)), (.list 1 false (r_2.map cS)), (pI r_3)])), ([], 2, 1, .ret (.tup [(pS r_4), (pB r_5)])), ([], 3, 1, .ret (.tup [(.list 2 false (r_6.map FlagD.c)), (.list 1 false (r_7.map cS)), (pI r_8)])), ([], 4, 1, .ret (.tup [(.list 2 false (r_9.map FlagD.c)), (.list 1 false (r_10.map cS)), (pI r_11)])), ([], 5, 1, .eq (pI (r_1.length : Int))), ([], 5, 3, .eq (pB true)), ([], 5, 7, .eq (pB true)), ([], 5, 10, .eq (pB true)), ([], 5, 12, .ret (pB r_12)), ([], 5, 14, .eq (pB true)), ([], 5, 16, .ret (pB r_13)), ([], 5, 19, .eq (pB true)), ([], 5, 21, .eq (pI (r_2.length : Int))), ([], 5, 24, .eq (pB true)), ([], 5, 26, .elem [(pS y_1)]), ([], 5, 30, .eq (pB true)), ([], 5, 34, .eq (pB true)), ([], 5, 38, .eq (pB true))]) (ex := .ret) (r := (pB (r_11 == (31 : Int)))) (by kernel_rfl) rfl (by kernel_rfl) (allC (⟨rfl, rfl⟩ : (0 : Nat) = 0 ∧ (3 : Nat) = 3) (allC (optionParse_ok k (bs [112, 109, 58]) ([(bs [45, 112, 109, 55]), (bs [97]), (bs [45, 112])]) _ q1) (allC (optionValue_ok (k + 4) r_1 (109 : Int) _ q2) (allC (⟨rfl, rfl⟩ : (0 : Nat) = 0 ∧ (1 : Nat) = 1) (allC (optionParse_ok k (bs [112, 109, 58]) ([(bs [45, 120])]) _ q3) (allC (⟨rfl, rfl⟩ : (0 : Nat) = 0 ∧ (1 : Nat) = 1) (allC (optionParse_ok k (bs [112, 109, 58]) ([(bs [45, 109])]) _ q4) (allC (len_ob (rfl : (r_1.map FlagD.c) = r_1.map FlagD.c)) (allC (cg q5) (allC (cg q6) (allC (cg q7) (allC (optionHas_ok (k + 1) r_1 (112 : Int) _ q8) (allC (cg q9) (allC (optionHas_ok (k + 1) r_1 (120 : Int) _ q10) (allC (cg q11) (allC (len_ob (rfl : (r_2.map cS) = r_2.map cS)) (allC (cg q12) (allC (gt_list (c := cS) q13) (allC (cg q14) (allC (cg q15) (allC (cg q16) allN))))))))))))))))))))) (by kernel_rfl) allN
                  · skip
                    obtain rfl := Option.some.inj h
                    exact ret_go (k := (k + 5)) Tryd.func10 Tryd.ntmps10 (by kernel_rfl) (by kernel_rfl) (Nat.le_of_ble_eq_true rfl) (adv [([], 1, 1, .ret (.tup [(.list 2 false (r_1.map FlagD.c)), (.list 1 false (r_2.map cS)), (pI r_3)])), ([], 2, 1, .ret (.tup [(pS r_4), (pB r_5)])), ([], 3, 1, .ret (.tup [(.list 2 false (r_6.map FlagD.c)), (.list 1 false (r_7.map cS)), (pI r_8)])), ([], 4, 1, .ret (.tup [(.list 2 false (r_9.map FlagD.c)), (.list 1 false (r_10.map cS)), (pI r_11)])), ([], 5, 1, .eq (pI (r_1.length : Int))), ([], 5, 3, .eq (pB true)), ([], 5, 7, .eq (pB true)), ([], 5, 10, .eq (pB true)), ([], 5, 12, .ret (pB r_12)), ([], 5, 14, .eq (pB true)), ([], 5, 16, .ret (pB r_13)), ([], 5, 19, .eq (pB true)), ([], 5, 21, .eq (pI (r_2.length : Int))), ([], 5, 24, .eq (pB true)), ([], 5, 26, .elem [(pS y_1)]), ([], 5, 30, .eq (pB true)), ([], 5, 34, .eq (pB true)), ([], 5, 38, .eq (pB false))]) (ex := .ret) (r := (pB false)) (by kernel_rfl) rfl (by kernel_rfl) (allC (⟨rfl, rfl⟩ : (0 : Nat) = 0 ∧ (3 : Nat) = 3) (allC (optionParse_ok k (bs [112, 109, 58]) ([(bs [45, 112, 109, 55]), (bs [97]), (bs [45, 112])]) _ q1) (allC (optionValue_ok (k + 4) r_1 (109 : Int) _ q2) (allC (⟨rfl, rfl⟩ : (0 : Nat) = 0 ∧ (1 : Nat) = 1) (allC (optionParse_ok k (bs [112, 109, 58]) ([(bs [45, 120])]) _ q3) (allC (⟨rfl, rfl⟩ : (0 : Nat) = 0 ∧ (1 : Nat) = 1) (allC (optionParse_ok k (bs [112, 109, 58]) ([(bs [45, 109])]) _ q4) (allC (len_ob (rfl : (r_1.map FlagD.c) = r_1.map FlagD.c)) (allC (cg q5) (allC (cg q6) (allC (cg q7) (allC (optionHas_ok (k + 1) r_1 (112 : Int) _ q8) (allC (cg q9) (allC (optionHas_ok (k + 1) r_1 (120 : Int) _ q10) (allC (cg q11) (allC (len_ob (rfl : (r_2.map cS) = r_2.map cS)) (allC (cg q12) (allC (gt_list (c := cS) q13) (allC (cg q14) (allC (cg q15) (allC (cg q16) allN))))))))))))))))))))) (by kernel_rfl) allN
                · skip
                  obtain rfl := Option.some.inj h
                  exact ret_go (k := (k + 5)) Tryd.func10 Tryd.ntmps10 (by kernel_rfl) (by kernel_rfl) (Nat.le_of_ble_eq_true rfl) (adv [([], 1, 1, .ret (.tup [(.list 2 false (r_1.map FlagD.c)), (.list 1 false (r_2.map cS)), (pI r_3)])), ([], 2, 1, .ret (.tup [(pS r_4), (pB r_5)])), ([], 3, 1, .ret (.tup [(.list 2 false (r_6.map FlagD.c)), (.list 1 false (r_7.map cS)), (pI r_8)])), ([], 4, 1, .ret (.tup [(.list 2 false (r_9.map FlagD.c)), (.list 1 false (r_10.map cS)), (pI r_11)])), ([], 5, 1, .eq (pI (r_1.length : Int))), ([], 5, 3, .eq (pB true)), ([], 5, 7, .eq (pB true)), ([], 5, 10, .eq (pB true)), ([], 5, 12, .ret (pB r_12)), ([], 5, 14, .eq (pB true)), ([], 5, 16, .ret (pB r_13)), ([], 5, 19, .eq (pB true)), ([], 5, 21, .eq (pI (r_2.length : Int))), ([], 5, 24, .eq (pB true)), ([], 5, 26, .elem [(pS y_1)]), ([], 5, 30, .eq (pB true)), ([], 5, 34, .eq (pB false))]) (ex := .ret) (r := (pB false)) (by kernel_rfl) rfl (by kernel_rfl) (allC (⟨rfl, rfl⟩ : (0 : Nat) = 0 ∧ (3 : Nat) = 3) (allC (optionParse_ok k (bs [112, 109, 58]) ([(bs [45, 112, 109, 55]), (bs [97]), (bs [45, 112])]) _ q1) (allC (optionValue_ok (k + 4) r_1 (109 : Int) _ q2) (allC (⟨rfl, rfl⟩ : (0 : Nat) = 0 ∧ (1 : Nat) = 1) (allC (optionParse_ok k (bs [112, 109, 58]) ([(bs [45, 120])]) _ q3) (allC (⟨rfl, rfl⟩ : (0 : Nat) = 0 ∧ (1 : Nat) = 1) (allC (optionParse_ok k (bs [112, 109, 58]) ([(bs [45, 109])]) _ q4) (allC (len_ob (rfl : (r_1.map FlagD.c) = r_1.map FlagD.c)) (allC (cg q5) (allC (cg q6) (allC (cg q7) (allC (optionHas_ok (k + 1) r_1 (112 : Int) _ q8) (allC (cg q9) (allC (optionHas_ok (k + 1) r_1 (120 : Int) _ q10) (allC (cg q11) (allC (len_ob (rfl : (r_2.map cS) = r_2.map cS)) (allC (cg q12) (allC (gt_list (c := cS) q13) (allC (cg q14) (allC (cg q15) allN)))))))))))))))))))) (by kernel_rfl) allN
              · skip
                obtain rfl := Option.some.inj h
                exact ret_go (k := (k + 5)) Tryd.func10 Tryd.ntmps10 (by kernel_rfl) (by kernel_rfl) (Nat.le_of_ble_eq_true rfl) (adv [([], 1, 1, .ret (.tup [(.list 2 false (r_1.map FlagD.c)), (.list 1 false (r_2.map cS)), (pI r_3)])), ([], 2, 1, .ret (.tup [(pS r_4), (pB r_5)])), ([], 3, 1, .ret (.tup [(.list 2 false (r_6.map FlagD.c)), (.list 1 false (r_7.map cS)), (pI r_8)])), ([], 4, 1, .ret (.tup [(.list 2 false (r_9.map FlagD.c)), (.list 1 false (r_10.map cS)), (pI r_11)])), ([], 5, 1, .eq (pI (r_1.length : Int))), ([], 5, 3, .eq (pB true)), ([], 5, 7, .eq (pB true)), ([], 5, 10, .eq (pB true)), ([], 5, 12, .ret (pB r_12)), ([], 5, 14, .eq (pB true)), ([], 5, 16, .ret (pB r_13)), ([], 5, 19, .eq (pB true)), ([], 5, 21, .eq (pI (r_2.length : Int))), ([], 5, 24, .eq (pB true)), ([], 5, 26, .elem [(pS y_1)]), ([], 5, 30, .eq (pB false))]) (ex := .ret) (r := (pB false)) (by kernel_rfl) rfl (by kernel_rfl) (allC (⟨rfl, rfl⟩ : (0 : Nat) = 0 ∧ (3 : Nat) = 3) (allC (optionParse_ok k (bs [112, 109, 58]) ([(bs [45, 112, 109, 55]), (bs [97]), (bs [45, 112])]) _ q1) (allC (optionValue_ok (k + 4) r_1 (109 : Int) _ q2) (allC (⟨rfl, rfl⟩ : (0 : Nat) = 0 ∧ (1 : Nat) = 1) (allC (optionParse_ok k (bs [112, 109, 58]) ([(bs [45, 120])]) _ q3) (allC (⟨rfl, rfl⟩ : (0 : Nat) = 0 ∧ (1 : Nat) = 1) (allC (optionParse_ok k (bs [112, 109, 58]) ([(bs [45, 109])]) _ q4) (allC (len_ob (rfl : (r_1.map FlagD.c) = r_1.map FlagD.c)) (allC (cg q5) (allC (cg q6) (allC (cg q7) (allC (optionHas_ok (k + 1) r_1 (112 : Int) _ q8) (allC (cg q9) (allC (optionHas_ok (k + 1) r_1 (120 : Int) _ q10) (allC (cg q11) (allC (len_ob (rfl : (r_2.map cS) = r_2.map cS)) (allC (cg q12) (allC (gt_list (c := cS) q13) (allC (cg q14) allN))))))))))))))))))) (by kernel_rfl) allN
            · skip
              obtain rfl := Option.some.inj h
              exact ret_go (k := (k + 5)) Tryd.func10 Tryd.ntmps10 (by kernel_rfl) (by kernel_rfl) (Nat.le_of_ble_eq_true rfl) (adv [([], 1, 1, .ret (.tup [(.list 2 false (r_1.map FlagD.c)), (.list 1 false (r_2.map cS)), (pI r_3)])), ([], 2, 1, .ret (.tup [(pS r_4), (pB r_5)])), ([], 3, 1, .ret (.tup [(.list 2 false (r_6.map FlagD.c)), (.list 1 false (r_7.map cS)), (pI r_8)])), ([], 4, 1, .ret (.tup [(.list 2 false (r_9.map FlagD.c)), (.list 1 false (r_10.map cS)), (pI r_11)])), ([], 5, 1, .eq (pI (r_1.length : Int))), ([], 5, 3, .eq (pB true)), ([], 5, 7, .eq (pB true)), ([], 5, 10, .eq (pB true)), ([], 5, 12, .ret (pB r_12)), ([], 5, 14, .eq (pB true)), ([], 5, 16, .ret (pB r_13)), ([], 5, 19, .eq (pB true)), ([], 5, 21, .eq (pI (r_2.length : Int))), ([], 5, 24, .eq (pB false))]) (ex := .ret) (r := (pB false)) (by kernel_rfl) rfl (by kernel_rfl) (allC (⟨rfl, rfl⟩ : (0 : Nat) = 0 ∧ (3 : Nat) = 3) (allC (optionParse_ok k (bs [112, 109, 58]) ([(bs [45, 112, 109, 55]), (bs [97]), (bs [45, 112])]) _ q1) (allC (optionValue_ok (k + 4) r_1 (109 : Int) _ q2) (allC (⟨rfl, rfl⟩ : (0 : Nat) = 0 ∧ (1 : Nat) = 1) (allC (optionParse_ok k (bs [112, 109, 58]) ([(bs [45, 120])]) _ q3) (allC (⟨rfl, rfl⟩ : (0 : Nat) = 0 ∧ (1 : Nat) = 1) (allC (optionParse_ok k (bs [112, 109, 58]) ([(bs [45, 109])]) _ q4) (allC (len_ob (rfl : (r_1.map FlagD.c) = r_1.map FlagD.c)) (allC (cg q5) (allC (cg q6) (allC (cg q7) (allC (optionHas_ok (k + 1) r_1 (112 : Int) _ q8) (allC (cg q9) (allC (optionHas_ok (k + 1) r_1 (120 : Int) _ q10) (allC (cg q11) (allC (len_ob (rfl : (r_2.map cS) = r_2.map cS)) (allC (cg q12) allN))))))))))))))))) (by kernel_rfl) allN
          · skip
            obtain rfl := Option.some.inj h
            exact ret_go (k := (k + 5)) Tryd.func10 Tryd.ntmps10 (by kernel_rfl) (by kernel_rfl) (Nat.le_of_ble_eq_true rfl) (adv [([], 1, 1, .ret (.tup [(.list 2 false (r_1.map FlagD.c)), (.list 1 false (r_2.map cS)), (pI r_3)])), ([], 2, 1, .ret (.tup [(pS r_4), (pB r_5)])), ([], 3, 1, .ret (.tup [(.list 2 false (r_6.map FlagD.c)), (.list 1 false (r_7.map cS)), (pI r_8)])), ([], 4, 1, .ret (.tup [(.list 2 false (r_9.map FlagD.c)), (.list 1 false (r_10.map cS)), (pI r_11)])), ([], 5, 1, .eq (pI (r_1.length : Int))), ([], 5, 3, .eq (pB true)), ([], 5, 7, .eq (pB true)), ([], 5, 10, .eq (pB true)), ([], 5, 12, .ret (pB r_12)), ([], 5, 14, .eq (pB true)), ([], 5, 16, .ret (pB r_13)), ([], 5, 19, .eq (pB false))]) (ex := .ret) (r := (pB false)) (by kernel_rfl) rfl (by kernel_rfl) (allC (⟨rfl, rfl⟩ : (0 : Nat) = 0 ∧ (3 : Nat) = 3) (allC (optionParse_ok k (bs [112, 109, 58]) ([(bs [45, 112, 109, 55]), (bs [97]), (bs [45, 112])]) _ q1) (allC (optionValue_ok (k + 4) r_1 (109 : Int) _ q2) (allC (⟨rfl, rfl⟩ : (0 : Nat) = 0 ∧ (1 : Nat) = 1) (allC (optionParse_ok k (bs [112, 109, 58]) ([(bs [45, 120])]) _ q3) (allC (⟨rfl, rfl⟩ : (0 : Nat) = 0 ∧ (1 : Nat) = 1) (allC (optionParse_ok k (bs [112, 109, 58]) ([(bs [45, 109])]) _ q4) (allC (len_ob (rfl : (r_1.map FlagD.c) = r_1.map FlagD.c)) (allC (cg q5) (allC (cg q6) (allC (cg q7) (allC (optionHas_ok (k + 1) r_1 (112 : Int) _ q8) (allC (cg q9) (allC (optionHas_ok (k + 1) r_1 (120 : Int) _ q10) (allC (cg q11) allN))))))))))))))) (by kernel_rfl) allN
        · skip
          obtain rfl := Option.some.inj h
          exact ret_go (k := (k + 5)) Tryd.func10 Tryd.ntmps10 (by kernel_rfl) (by kernel_rfl) (Nat.le_of_ble_eq_true rfl) (adv [([], 1, 1, .ret (.tup [(.list 2 false (r_1.map FlagD.c)), (.list 1 false (r_2.map cS)), (pI r_3)])), ([], 2, 1, .ret (.tup [(pS r_4), (pB r_5)])), ([], 3, 1, .ret (.tup [(.list 2 false (r_6.map FlagD.c)), (.list 1 false (r_7.map cS)), (pI r_8)])), ([], 4, 1, .ret (.tup [(.list 2 false (r_9.map FlagD.c)), (.list 1 false (r_10.map cS)), (pI r_11)])), ([], 5, 1, .eq (pI (r_1.length : Int))), ([], 5, 3, .eq (pB true)), ([], 5, 7, .eq (pB true)), ([], 5, 10, .eq (pB true)), ([], 5, 12, .ret (pB r_12)), ([], 5, 14, .eq (pB false))]) (ex := .ret) (r := (pB false)) (by kernel_rfl) rfl (by kernel_rfl) (allC (⟨rfl, rfl⟩ : (0 : Nat) = 0 ∧ (3 : Nat) = 3) (allC (optionParse_ok k (bs [112, 109, 58]) ([(bs [45, 112, 109, 55]), (bs [97]), (bs [45, 112])]) _ q1) (allC (optionValue_ok (k + 4) r_1 (109 : Int) _ q2) (allC (⟨rfl, rfl⟩ : (0 : Nat) = 0 ∧ (1 : Nat) = 1) (allC (optionParse_ok k (bs [112, 109, 58]) ([(bs [45, 120])]) _ q3) (allC (⟨rfl, rfl⟩ : (0 : Nat) = 0 ∧ (1 : Nat) = 1) (allC (optionParse_ok k (bs [112, 109, 58]) ([(bs [45, 109])]) _ q4) (allC (len_ob (rfl : (r_1.map FlagD.c) = r_1.map FlagD.c)) (allC (cg q5) (allC (cg q6) (allC (cg q7) (allC (optionHas_ok (k + 1) r_1 (112 : Int) _ q8) (allC (cg q9) allN))))))))))))) (by kernel_rfl) allN
      · skip
        obtain rfl := Option.some.inj h
        exact ret_go (k := (k + 5)) Tryd.func10 Tryd.ntmps10 (by kernel_rfl) (by kernel_rfl) (Nat.le_of_ble_eq_true rfl) (adv [([], 1, 1, .ret (.tup [(.list 2 false (r_1.map FlagD.c)), (.list 1 false (r_2.map cS)), (pI r_3)])), ([], 2, 1, .ret (.tup [(pS r_4), (pB r_5)])), ([], 3, 1, .ret (.tup [(.list 2 false (r_6.map FlagD.c)), (.list 1 false (r_7.map cS)), (pI r_8)])), ([], 4, 1, .ret (.tup [(.list 2 false (r_9.map FlagD.c)), (.list 1 false (r_10.map cS)), (pI r_11)])), ([], 5, 1, .eq (pI (r_1.length : Int))), ([], 5, 3, .eq (pB true)), ([], 5, 7, .eq (pB true)), ([], 5, 10, .eq (pB false))]) (ex := .ret) (r := (pB false)) (by kernel_rfl) rfl (by kernel_rfl) (allC (⟨rfl, rfl⟩ : (0 : Nat) = 0 ∧ (3 : Nat) = 3) (allC (optionParse_ok k (bs [112, 109, 58]) ([(bs [45, 112, 109, 55]), (bs [97]), (bs [45, 112])]) _ q1) (allC (optionValue_ok (k + 4) r_1 (109 : Int) _ q2) (allC (⟨rfl, rfl⟩ : (0 : Nat) = 0 ∧ (1 : Nat) = 1) (allC (optionParse_ok k (bs [112, 109, 58]) ([(bs [45, 120])]) _ q3) (allC (⟨rfl, rfl⟩ : (0 : Nat) = 0 ∧ (1 : Nat) = 1) (allC (optionParse_ok k (bs [112, 109, 58]) ([(bs [45, 109])]) _ q4) (allC (len_ob (rfl : (r_1.map FlagD.c) = r_1.map FlagD.c)) (allC (cg q5) (allC (cg q6) (allC (cg q7) allN))))))))))) (by kernel_rfl) allN
    · skip
      obtain rfl := Option.some.inj h
      exact ret_go (k := (k + 5)) Tryd.func10 Tryd.ntmps10 (by kernel_rfl) (by kernel_rfl) (Nat.le_of_ble_eq_true rfl) (adv [([], 1, 1, .ret (.tup [(.list 2 false (r_1.map FlagD.c)), (.list 1 false (r_2.map cS)), (pI r_3)])), ([], 2, 1, .ret (.tup [(pS r_4), (pB r_5)])), ([], 3, 1, .ret (.tup [(.list 2 false (r_6.map FlagD.c)), (.list 1 false (r_7.map cS)), (pI r_8)])), ([], 4, 1, .ret (.tup [(.list 2 false (r_9.map FlagD.c)), (.list 1 false (r_10.map cS)), (pI r_11)])), ([], 5, 1, .eq (pI (r_1.length : Int))), ([], 5, 3, .eq (pB true)), ([], 5, 7, .eq (pB false))]) (ex := .ret) (r := (pB false)) (by kernel_rfl) rfl (by kernel_rfl) (allC (⟨rfl, rfl⟩ : (0 : Nat) = 0 ∧ (3 : Nat) = 3) (allC (optionParse_ok k (bs [112, 109, 58]) ([(bs [45, 112, 109, 55]), (bs [97]), (bs [45, 112])]) _ q1) (allC (optionValue_ok (k + 4) r_1 (109 : Int) _ q2) (allC (⟨rfl, rfl⟩ : (0 : Nat) = 0 ∧ (1 : Nat) = 1) (allC (optionParse_ok k (bs [112, 109, 58]) ([(bs [45, 120])]) _ q3) (allC (⟨rfl, rfl⟩ : (0 : Nat) = 0 ∧ (1 : Nat) = 1) (allC (optionParse_ok k (bs [112, 109, 58]) ([(bs [45, 109])]) _ q4) (allC (len_ob (rfl : (r_1.map FlagD.c) = r_1.map FlagD.c)) (allC (cg q5) (allC (cg q6) allN)))))))))) (by kernel_rfl) allN
  · skip
    obtain rfl := Option.some.inj h
    exact ret_go (k := (k + 5)) Tryd.func10 Tryd.ntmps10 (by kernel_rfl) (by kernel_rfl) (Nat.le_of_ble_eq_true rfl) (adv [([], 1, 1, .ret (.tup [(.list 2 false (r_1.map FlagD.c)), (.list 1 false (r_2.map cS)), (pI r_3)])), ([], 2, 1, .ret (.tup [(pS r_4), (pB r_5)])), ([], 3, 1, .ret (.tup [(.list 2 false (r_6.map FlagD.c)), (.list 1 false (r_7.map cS)), (pI r_8)])), ([], 4, 1, .ret (.tup [(.list 2 false (r_9.map FlagD.c)), (.list 1 false (r_10.map cS)), (pI r_11)])), ([], 5, 1, .eq (pI (r_1.length : Int))), ([], 5, 3, .eq (pB false))]) (ex := .ret) (r := (pB false)) (by kernel_rfl) rfl (by kernel_rfl) (allC (⟨rfl, rfl⟩ : (0 : Nat) = 0 ∧ (3 : Nat) = 3) (allC (optionParse_ok k (bs [112, 109, 58]) ([(bs [45, 112, 109, 55]), (bs [97]), (bs [45, 112])]) _ q1) (allC (optionValue_ok (k + 4) r_1 (109 : Int) _ q2) (allC (⟨rfl, rfl⟩ : (0 : Nat) = 0 ∧ (1 : Nat) = 1) (allC (optionParse_ok k (bs [112, 109, 58]) ([(bs [45, 120])]) _ q3) (allC (⟨rfl, rfl⟩ : (0 : Nat) = 0 ∧ (1 : Nat) = 1) (allC (optionParse_ok k (bs [112, 109, 58]) ([(bs [45, 109])]) _ q4) (allC (len_ob (rfl : (r_1.map FlagD.c) = r_1.map FlagD.c)) (allC (cg q5) allN))))))))) (by kernel_rfl) allN


end Go.Proofs.YtbidfkibpjjghaaDoor.Den
