/- Functions, printed by den.py out of the code: plain ones, and that the code answers as they do. -/
import Derived.Test.YtbidfkibpjjghaaDoorDenF6
set_option linter.unusedVariables false
set_option linter.unusedSimpArgs false
namespace Go.Proofs.YtbidfkibpjjghaaDoor.Den
open Go Go.RowKit

/- flagstone/flagstonelaw03.long: its loop at region 2 -/
noncomputable def law03Long_L2 : Code := cAt (codeOf Tryd.f9) [true, false, true, false, false]
def law03Long_R2 (x0 : List (List PV)) (x1 : Int) : St := ⟨envL [(0, (.list 1 false x0)), (3, (pI x1))], hsL [] []⟩
theorem law03Long_R2_eq {x0 y0 : List (List PV)} {x1 y1 : Int} (h0 : x0 = y0) (h1 : x1 = y1) : law03Long_R2 x0 x1 = law03Long_R2 y0 y1 := by
  subst h0 h1; rfl
def law03Long_S2 (p0 : (List ByteArray)) : Int → St
  | v0 => law03Long_R2 (p0.map cS) v0
def law03Long_b2 (p0 : (List ByteArray)) : Int → Option (Int ⊕ ((Int × ByteArray) ⊕ Int ⊕ Int))
  | v0 =>
    bif (decide (v0 < (p0.length : Int))) then (
      bif (decide (v0 < (60 : Int))) then (
        (gt p0 v0).bind fun y_1 =>
        bif (decide ((y_1.size : Int) > (100 : Int))) then (
          some (.inr (.inl (v0, y_1)))
        ) else (
          some (.inl (w64 (v0 + (1 : Int))))
        )
      ) else (
        some (.inr (.inr (.inl v0)))
      )
    ) else (
      some (.inr (.inr (.inr (v0))))
    )
set_option maxRecDepth 100000 in
theorem law03Long_t2 (k : Nat) (p0 : (List ByteArray)) (v0 a1 : Int) (h : law03Long_b2 p0 v0 = some (.inl a1)) : ∃ σ, run1 k 9 0 23 law03Long_L2 (law03Long_S2 p0 v0) = some (.normal, σ) ∧ canonS 0 [0, 3] σ = some (law03Long_S2 p0 a1) := by
  unfold law03Long_b2 at h
  try dsimp only at h
  rcases bif_some h with ⟨q1, h⟩ | ⟨q1, h⟩
  · skip
    rcases bif_some h with ⟨q2, h⟩ | ⟨q2, h⟩
    · skip
      obtain ⟨y_1, q3, h⟩ := bnd_some h
      rcases bif_some h with ⟨q4, h⟩ | ⟨q4, h⟩
      · skip
        cases h
      · skip
        obtain rfl := Sum.inl.inj (Option.some.inj h)
        exact ⟨_, run_go (k := k) (f := 9) (r0 := 0) (nt := 23) (c := law03Long_L2) (σ := (law03Long_S2 p0 v0)) (adv [([], 2, 2, .eq (pI (p0.length : Int))), ([], 2, 4, .eq (pB true)), ([], 2, 7, .eq (pB true)), ([], 4, 2, .elem [(pS y_1)]), ([], 4, 5, .eq (pB false))]) (ex := .normal) (by kernel_rfl) (by kernel_rfl) (allC (len_ob (rfl : (p0.map cS) = p0.map cS)) (allC (cg q1) (allC (cg q2) (allC (gt_list (c := cS) q3) (allC (cg q4) allN))))), (by kernel_rfl)⟩
    · skip
      cases h
  · skip
    cases h
/-- flagstone/flagstonelaw03.long -/
def law03Long (l : (List ByteArray)) : Option Bool :=
  (iterN (law03Long_b2 l) LF (0 : Int)).bind fun X_1 => match X_1 with
  | .inl (v_1, y_1) => (
    some true
  )
  | .inr (.inl v_1) => (
    some (decide ((l.length : Int) > (50 : Int)))
  )
  | .inr (.inr (v_1)) => (
    some (decide ((l.length : Int) > (50 : Int)))
  )
set_option maxRecDepth 100000 in
theorem law03Long_ok (k : Nat) (l : (List ByteArray)) (r : Bool) (h : law03Long l = some r) : run0 (k + 1) 9 [(.list 1 false (l.map cS))] = some (pB r) := by
  unfold law03Long at h
  obtain ⟨X_1, q1, h⟩ := bnd_some h
  obtain ⟨v_1, q2, q3⟩ := loop_iter (f := run1 k 9 0 23 law03Long_L2) (law03Long_S2 l) (law03Long_b2 l) (law03Long_t2 k l) LF (0 : Int) _ (stOf (goStop k 9 0 23 (adv []) 2 (codeOf Tryd.f9) (argS 9 [(.list 1 false (l.map cS))]))) q1 (by kernel_rfl)
  unfold law03Long_b2 at q2
  try dsimp only at q2
  rcases bif_some q2 with ⟨q6, q2⟩ | ⟨q6, q2⟩
  · skip
    rcases bif_some q2 with ⟨q7, q2⟩ | ⟨q7, q2⟩
    · skip
      obtain ⟨y_1, q8, q2⟩ := bnd_some q2
      rcases bif_some q2 with ⟨q9, q2⟩ | ⟨q9, q2⟩
      · skip
        cases q2
        try dsimp only at h
        have q4 := run_go (k := k) (f := 9) (r0 := 0) (nt := 23) (c := law03Long_L2) (σ := (law03Long_S2 l v_1)) (adv [([], 2, 2, .eq (pI (l.length : Int))), ([], 2, 4, .eq (pB true)), ([], 2, 7, .eq (pB true)), ([], 4, 2, .elem [(pS y_1)]), ([], 4, 5, .eq (pB true))]) (ex := .ret) (by kernel_rfl) (by kernel_rfl) (allC (len_ob (rfl : (l.map cS) = l.map cS)) (allC (cg q6) (allC (cg q7) (allC (gt_list (c := cS) q8) (allC (cg q9) allN)))))
        have q5 := q3 _ _ (by intro e; cases e) q4
        obtain rfl := Option.some.inj h
        exact ret_go (k := k) Tryd.func9 Tryd.ntmps9 (by kernel_rfl) (by kernel_rfl) (Nat.le_of_ble_eq_true rfl) (adv [] [([], 2, .ret, (stOf (go k 9 0 23 (adv [([], 2, 2, .eq (pI (l.length : Int))), ([], 2, 4, .eq (pB true)), ([], 2, 7, .eq (pB true)), ([], 4, 2, .elem [(pS y_1)]), ([], 4, 5, .eq (pB true))]) law03Long_L2 (law03Long_S2 l v_1))))]) (ex := .ret) (r := (pB true)) (by kernel_rfl) rfl (by kernel_rfl) (allC q5 allN) (by kernel_rfl) allN
      · skip
        cases q2
    · skip
      cases q2
      try dsimp only at h
      have q4 := run_go (k := k) (f := 9) (r0 := 0) (nt := 23) (c := law03Long_L2) (σ := (law03Long_S2 l v_1)) (adv [([], 2, 2, .eq (pI (l.length : Int))), ([], 2, 4, .eq (pB true)), ([], 2, 7, .eq (pB false))]) (ex := (.exit 0)) (by kernel_rfl) (by kernel_rfl) (allC (len_ob (rfl : (l.map cS) = l.map cS)) (allC (cg q6) (allC (cg q7) allN)))
      have q5 := q3 _ _ (by intro e; cases e) q4
      obtain rfl := Option.some.inj h
      exact ret_go (k := k) Tryd.func9 Tryd.ntmps9 (by kernel_rfl) (by kernel_rfl) (Nat.le_of_ble_eq_true rfl) (adv [([], 6, 1, .eq (pI (l.length : Int)))] [([], 2, (.exit 0), (stOf (go k 9 0 23 (adv [([], 2, 2, .eq (pI (l.length : Int))), ([], 2, 4, .eq (pB true)), ([], 2, 7, .eq (pB false))]) law03Long_L2 (law03Long_S2 l v_1))))]) (ex := .ret) (r := (pB (decide ((l.length : Int) > (50 : Int))))) (by kernel_rfl) rfl (by kernel_rfl) (allC q5 (allC (len_ob (rfl : (l.map cS) = l.map cS)) allN)) (by kernel_rfl) allN
  · skip
    cases q2
    try dsimp only at h
    have q4 := run_go (k := k) (f := 9) (r0 := 0) (nt := 23) (c := law03Long_L2) (σ := (law03Long_S2 l v_1)) (adv [([], 2, 2, .eq (pI (l.length : Int))), ([], 2, 4, .eq (pB false))]) (ex := (.exit 0)) (by kernel_rfl) (by kernel_rfl) (allC (len_ob (rfl : (l.map cS) = l.map cS)) (allC (cg q6) allN))
    have q5 := q3 _ _ (by intro e; cases e) q4
    obtain rfl := Option.some.inj h
    exact ret_go (k := k) Tryd.func9 Tryd.ntmps9 (by kernel_rfl) (by kernel_rfl) (Nat.le_of_ble_eq_true rfl) (adv [([], 6, 1, .eq (pI (l.length : Int)))] [([], 2, (.exit 0), (stOf (go k 9 0 23 (adv [([], 2, 2, .eq (pI (l.length : Int))), ([], 2, 4, .eq (pB false))]) law03Long_L2 (law03Long_S2 l v_1))))]) (ex := .ret) (r := (pB (decide ((l.length : Int) > (50 : Int))))) (by kernel_rfl) rfl (by kernel_rfl) (allC q5 (allC (len_ob (rfl : (l.map cS) = l.map cS)) allN)) (by kernel_rfl) allN

/- flagstone/flagstonelaw03.its: its loop at region 3 -/
noncomputable def law03Its_L3 : Code := cAt (codeOf Tryd.f14) [true, true, false, true, false, false]
def law03Its_R3 (x0 : List (List PV)) (x1 : Nat) (x2 : Int) (x3 : List (List PV)) : St := ⟨envL [(0, (.list 2 false x0)), (3, (.row [0, TAG] 1 0 x1)), (4, (pI x2))], hsL [some ⟨2, 43, x3, true, true⟩] [0]⟩
theorem law03Its_R3_eq {x0 y0 : List (List PV)} {x1 y1 : Nat} {x2 y2 : Int} {x3 y3 : List (List PV)} (h0 : x0 = y0) (h1 : x1 = y1) (h2 : x2 = y2) (h3 : x3 = y3) : law03Its_R3 x0 x1 x2 x3 = law03Its_R3 y0 y1 y2 y3 := by
  subst h0 h1 h2 h3; rfl
def law03Its_S3 (p0 : (List FlagD)) : (Int × (List FlagD)) → St
  | (v0, v1) => law03Its_R3 (p0.map FlagD.c) v1.length v0 (v1.map FlagD.c)
def law03Its_b3 (p0 : (List FlagD)) : (Int × (List FlagD)) → Option ((Int × (List FlagD)) ⊕ (Int × (List FlagD)))
  | (v0, v1) =>
    bif (decide (v0 < (p0.length : Int))) then (
      (gt p0 v0).bind fun y_1 =>
      grd (room (v1.length + 1) 24) <|
      some (.inl ((w64 (v0 + (1 : Int))), (v1 ++ [y_1])))
    ) else (
      some (.inr (v0, v1))
    )
set_option maxRecDepth 100000 in
theorem law03Its_t3 (k : Nat) (p0 : (List FlagD)) (a a1 : (Int × (List FlagD))) (h : law03Its_b3 p0 a = some (.inl a1)) : ∃ σ, run1 k 14 0 20 law03Its_L3 (law03Its_S3 p0 a) = some (.normal, σ) ∧ canonS 0 [0, 3, 4] σ = some (law03Its_S3 p0 a1) := by
  obtain ⟨v0, v1⟩ := a
  unfold law03Its_b3 at h
  try dsimp only at h
  rcases bif_some h with ⟨q1, h⟩ | ⟨q1, h⟩
  · skip
    obtain ⟨y_1, q2, h⟩ := bnd_some h
    obtain ⟨q3, h⟩ := grd_some h
    obtain rfl := Sum.inl.inj (Option.some.inj h)
    exact ⟨_, run_go (k := k) (f := 14) (r0 := 0) (nt := 20) (c := law03Its_L3) (σ := (law03Its_S3 p0 (v0, v1))) (adv [([], 3, 2, .eq (pI (p0.length : Int))), ([], 3, 3, .eq (pB true)), ([], 5, 3, .elem [(.v (.int .u8 y_1.letter)), (pS y_1.value)]), ([], 5, 6, .ok)]) (ex := .normal) (by kernel_rfl) (by kernel_rfl) (allC (len_ob (rfl : (p0.map FlagD.c) = p0.map FlagD.c)) (allC (cg q1) (allC (gt_list (c := FlagD.c) q2) (allC (app_ok (rfl : (v1.map FlagD.c) = v1.map FlagD.c) (rfl : v1.length = v1.length) q3) allN)))), (Eq.trans (b := some (law03Its_R3 (p0.map FlagD.c) (v1.length + 1) (w64 (v0 + (1 : Int))) ((v1.map FlagD.c) ++ [[(.v (.int .u8 y_1.letter)), (pS y_1.value)]]))) (by kernel_rfl) (congrArg some ((law03Its_R3_eq (rfl : (p0.map FlagD.c) = (p0.map FlagD.c)) ((len_cat (rfl : v1.length = v1.length) v1 (rfl : 1 = [y_1].length)) : (v1.length + 1) = ((v1 ++ [y_1]).length)) (rfl : (w64 (v0 + (1 : Int))) = (w64 (v0 + (1 : Int)))) ((enc_cat (rfl : (v1.map FlagD.c) = v1.map FlagD.c) (show [[(.v (.int .u8 y_1.letter)), (pS y_1.value)]] = [y_1].map FlagD.c from rfl)) : ((v1.map FlagD.c) ++ [[(.v (.int .u8 y_1.letter)), (pS y_1.value)]]) = ((v1 ++ [y_1]).map FlagD.c))).trans (by kernel_rfl : law03Its_R3 (p0.map FlagD.c) ((v1 ++ [y_1]).length) (w64 (v0 + (1 : Int))) ((v1 ++ [y_1]).map FlagD.c) = law03Its_S3 p0 ((w64 (v0 + (1 : Int))), (v1 ++ [y_1]))))))⟩
  · skip
    cases h
/-- flagstone/flagstonelaw03.its -/
def law03Its (l : (List FlagD)) : Option (List FlagD) :=
  (iterN (law03Its_b3 l) LF ((0 : Int), ([] : (List FlagD)))).bind fun (v_1, v_2) =>
  some v_2
set_option maxRecDepth 100000 in
theorem law03Its_ok (k : Nat) (l : (List FlagD)) (r : (List FlagD)) (h : law03Its l = some r) : run0 (k + 1) 14 [(.list 2 false (l.map FlagD.c))] = some (.list 2 false (r.map FlagD.c)) := by
  unfold law03Its at h
  obtain ⟨X_1, q1, h⟩ := bnd_some h
  obtain ⟨a_1, q2, q3⟩ := loop_iter (f := run1 k 14 0 20 law03Its_L3) (law03Its_S3 l) (law03Its_b3 l) (law03Its_t3 k l) LF ((0 : Int), ([] : (List FlagD))) _ (stOf (goStop k 14 0 20 (adv []) 3 (codeOf Tryd.f14) (argS 14 [(.list 2 false (l.map FlagD.c))]))) q1 (Eq.trans (b := some (law03Its_R3 (l.map FlagD.c) 0 (0 : Int) [])) (by kernel_rfl) (congrArg some ((law03Its_R3_eq (rfl : (l.map FlagD.c) = (l.map FlagD.c)) (rfl : 0 = (([] : (List FlagD)).length)) (rfl : (0 : Int) = (0 : Int)) (rfl : [] = (([] : (List FlagD)).map FlagD.c))).trans (by kernel_rfl : law03Its_R3 (l.map FlagD.c) (([] : (List FlagD)).length) (0 : Int) (([] : (List FlagD)).map FlagD.c) = law03Its_S3 l ((0 : Int), ([] : (List FlagD)))))))
  obtain ⟨v_1, v_2⟩ := a_1
  unfold law03Its_b3 at q2
  try dsimp only at q2
  rcases bif_some q2 with ⟨q6, q2⟩ | ⟨q6, q2⟩
  · skip
    obtain ⟨y_1, q7, q2⟩ := bnd_some q2
    obtain ⟨q8, q2⟩ := grd_some q2
    cases q2
  · skip
    cases q2
    try dsimp only at h
    have q4 := run_go (k := k) (f := 14) (r0 := 0) (nt := 20) (c := law03Its_L3) (σ := (law03Its_S3 l (v_1, v_2))) (adv [([], 3, 2, .eq (pI (l.length : Int))), ([], 3, 3, .eq (pB false))]) (ex := (.exit 0)) (by kernel_rfl) (by kernel_rfl) (allC (len_ob (rfl : (l.map FlagD.c) = l.map FlagD.c)) (allC (cg q6) allN))
    have q5 := q3 _ _ (by intro e; cases e) q4
    obtain rfl := Option.some.inj h
    exact ret_go (k := k) Tryd.func14 Tryd.ntmps14 (by kernel_rfl) (by kernel_rfl) (Nat.le_of_ble_eq_true rfl) (adv [] [([], 3, (.exit 0), (stOf (go k 14 0 20 (adv [([], 3, 2, .eq (pI (l.length : Int))), ([], 3, 3, .eq (pB false))]) law03Its_L3 (law03Its_S3 l (v_1, v_2)))))]) (ex := .ret) (r := (.list 2 false (v_2.map FlagD.c))) (by kernel_rfl) rfl (by kernel_rfl) (allC q5 allN) (by kernel_rfl) (allC (row_ok (rfl : (v_2.map FlagD.c) = v_2.map FlagD.c) (rfl : v_2.length = v_2.length)) allN)

/- flagstone/flagstoneref03.Same: its loop at region 4 -/
noncomputable def ref03Same_L4 : Code := cAt (codeOf Tryd.f13) [true, true, false, true, false, false]
def ref03Same_R4 (x0 : List (List PV)) (x1 : List (List PV)) (x2 : Int) : St := ⟨envL [(0, (.list 2 false x0)), (1, (.list 2 false x1)), (5, (pI x2))], hsL [] []⟩
theorem ref03Same_R4_eq {x0 y0 : List (List PV)} {x1 y1 : List (List PV)} {x2 y2 : Int} (h0 : x0 = y0) (h1 : x1 = y1) (h2 : x2 = y2) : ref03Same_R4 x0 x1 x2 = ref03Same_R4 y0 y1 y2 := by
  subst h0 h1 h2; rfl
def ref03Same_S4 (p0 : (List FlagD)) (p1 : (List FlagD)) : Int → St
  | v0 => ref03Same_R4 (p0.map FlagD.c) (p1.map FlagD.c) v0
def ref03Same_b4 (p0 : (List FlagD)) (p1 : (List FlagD)) : Int → Option (Int ⊕ ((Int × FlagD × FlagD) ⊕ Int))
  | v0 =>
    bif (decide (v0 < (p0.length : Int))) then (
      (gt p0 v0).bind fun y_1 =>
      (gt p1 v0).bind fun y_2 =>
      bif (!((y_1.letter == y_2.letter) && ((seq y_1.value y_2.value) && true))) then (
        some (.inr (.inl (v0, y_1, y_2)))
      ) else (
        some (.inl (w64 (v0 + (1 : Int))))
      )
    ) else (
      some (.inr (.inr (v0)))
    )
set_option maxRecDepth 100000 in
theorem ref03Same_t4 (k : Nat) (p0 : (List FlagD)) (p1 : (List FlagD)) (v0 a1 : Int) (h : ref03Same_b4 p0 p1 v0 = some (.inl a1)) : ∃ σ, run1 k 13 0 26 ref03Same_L4 (ref03Same_S4 p0 p1 v0) = some (.normal, σ) ∧ canonS 0 [0, 1, 5] σ = some (ref03Same_S4 p0 p1 a1) := by
  unfold ref03Same_b4 at h
  try dsimp only at h
  rcases bif_some h with ⟨q1, h⟩ | ⟨q1, h⟩
  · skip
    obtain ⟨y_1, q2, h⟩ := bnd_some h
    obtain ⟨y_2, q3, h⟩ := bnd_some h
    rcases bif_some h with ⟨q4, h⟩ | ⟨q4, h⟩
    · skip
      cases h
    · skip
      obtain rfl := Sum.inl.inj (Option.some.inj h)
      exact ⟨_, run_go (k := k) (f := 13) (r0 := 0) (nt := 26) (c := ref03Same_L4) (σ := (ref03Same_S4 p0 p1 v0)) (adv [([], 4, 2, .eq (pI (p0.length : Int))), ([], 4, 3, .eq (pB true)), ([], 6, 2, .elem [(.v (.int .u8 y_1.letter)), (pS y_1.value)]), ([], 6, 6, .elem [(.v (.int .u8 y_2.letter)), (pS y_2.value)]), ([], 6, 8, .eq (pB false))]) (ex := .normal) (by kernel_rfl) (by kernel_rfl) (allC (len_ob (rfl : (p0.map FlagD.c) = p0.map FlagD.c)) (allC (cg q1) (allC (gt_list (c := FlagD.c) q2) (allC (gt_list (c := FlagD.c) q3) (allC (cg q4) allN))))), (by kernel_rfl)⟩
  · skip
    cases h
/-- flagstone/flagstoneref03.Same -/
def ref03Same (a : (List FlagD)) (b : (List FlagD)) : Option Bool :=
  bif ((a.length : Int) != (b.length : Int)) then (
    some false
  ) else (
    (iterN (ref03Same_b4 a b) LF (0 : Int)).bind fun X_1 => match X_1 with
    | .inl (v_1, y_1, y_2) => (
      some false
    )
    | .inr (v_1) => (
      some true
    )
  )
set_option maxRecDepth 100000 in
theorem ref03Same_ok (k : Nat) (a : (List FlagD)) (b : (List FlagD)) (r : Bool) (h : ref03Same a b = some r) : run0 (k + 1) 13 [(.list 2 false (a.map FlagD.c)), (.list 2 false (b.map FlagD.c))] = some (pB r) := by
  unfold ref03Same at h
  rcases bif_some h with ⟨q1, h⟩ | ⟨q1, h⟩
  · skip
    obtain rfl := Option.some.inj h
    exact ret_go (k := k) Tryd.func13 Tryd.ntmps13 (by kernel_rfl) (by kernel_rfl) (Nat.le_of_ble_eq_true rfl) (adv [([], 1, 1, .eq (pI (a.length : Int))), ([], 1, 3, .eq (pI (b.length : Int))), ([], 1, 4, .eq (pB true))]) (ex := .ret) (r := (pB false)) (by kernel_rfl) rfl (by kernel_rfl) (allC (len_ob (rfl : (a.map FlagD.c) = a.map FlagD.c)) (allC (len_ob (rfl : (b.map FlagD.c) = b.map FlagD.c)) (allC (cg q1) allN))) (by kernel_rfl) allN
  · skip
    obtain ⟨X_1, q2, h⟩ := bnd_some h
    obtain ⟨v_1, q3, q4⟩ := loop_iter (f := run1 k 13 0 26 ref03Same_L4) (ref03Same_S4 a b) (ref03Same_b4 a b) (ref03Same_t4 k a b) LF (0 : Int) _ (stOf (goStop k 13 0 26 (adv [([], 1, 1, .eq (pI (a.length : Int))), ([], 1, 3, .eq (pI (b.length : Int))), ([], 1, 4, .eq (pB false))]) 4 (codeOf Tryd.f13) (argS 13 [(.list 2 false (a.map FlagD.c)), (.list 2 false (b.map FlagD.c))]))) q2 (by kernel_rfl)
    unfold ref03Same_b4 at q3
    try dsimp only at q3
    rcases bif_some q3 with ⟨q7, q3⟩ | ⟨q7, q3⟩
    · skip
      obtain ⟨y_1, q8, q3⟩ := bnd_some q3
      obtain ⟨y_2, q9, q3⟩ := bnd_some q3
      rcases bif_some q3 with ⟨q10, q3⟩ | ⟨q10, q3⟩
      · skip
        cases q3
        try dsimp only at h
        have q5 := run_go (k := k) (f := 13) (r0 := 0) (nt := 26) (c := ref03Same_L4) (σ := (ref03Same_S4 a b v_1)) (adv [([], 4, 2, .eq (pI (a.length : Int))), ([], 4, 3, .eq (pB true)), ([], 6, 2, .elem [(.v (.int .u8 y_1.letter)), (pS y_1.value)]), ([], 6, 6, .elem [(.v (.int .u8 y_2.letter)), (pS y_2.value)]), ([], 6, 8, .eq (pB true))]) (ex := .ret) (by kernel_rfl) (by kernel_rfl) (allC (len_ob (rfl : (a.map FlagD.c) = a.map FlagD.c)) (allC (cg q7) (allC (gt_list (c := FlagD.c) q8) (allC (gt_list (c := FlagD.c) q9) (allC (cg q10) allN)))))
        have q6 := q4 _ _ (by intro e; cases e) q5
        obtain rfl := Option.some.inj h
        exact ret_go (k := k) Tryd.func13 Tryd.ntmps13 (by kernel_rfl) (by kernel_rfl) (Nat.le_of_ble_eq_true rfl) (adv [([], 1, 1, .eq (pI (a.length : Int))), ([], 1, 3, .eq (pI (b.length : Int))), ([], 1, 4, .eq (pB false))] [([], 4, .ret, (stOf (go k 13 0 26 (adv [([], 4, 2, .eq (pI (a.length : Int))), ([], 4, 3, .eq (pB true)), ([], 6, 2, .elem [(.v (.int .u8 y_1.letter)), (pS y_1.value)]), ([], 6, 6, .elem [(.v (.int .u8 y_2.letter)), (pS y_2.value)]), ([], 6, 8, .eq (pB true))]) ref03Same_L4 (ref03Same_S4 a b v_1))))]) (ex := .ret) (r := (pB false)) (by kernel_rfl) rfl (by kernel_rfl) (allC (len_ob (rfl : (a.map FlagD.c) = a.map FlagD.c)) (allC (len_ob (rfl : (b.map FlagD.c) = b.map FlagD.c)) (allC (cg q1) (allC q6 allN)))) (by kernel_rfl) allN
      · skip
        cases q3
    · skip
      cases q3
      try dsimp only at h
      have q5 := run_go (k := k) (f := 13) (r0 := 0) (nt := 26) (c := ref03Same_L4) (σ := (ref03Same_S4 a b v_1)) (adv [([], 4, 2, .eq (pI (a.length : Int))), ([], 4, 3, .eq (pB false))]) (ex := (.exit 0)) (by kernel_rfl) (by kernel_rfl) (allC (len_ob (rfl : (a.map FlagD.c) = a.map FlagD.c)) (allC (cg q7) allN))
      have q6 := q4 _ _ (by intro e; cases e) q5
      obtain rfl := Option.some.inj h
      exact ret_go (k := k) Tryd.func13 Tryd.ntmps13 (by kernel_rfl) (by kernel_rfl) (Nat.le_of_ble_eq_true rfl) (adv [([], 1, 1, .eq (pI (a.length : Int))), ([], 1, 3, .eq (pI (b.length : Int))), ([], 1, 4, .eq (pB false))] [([], 4, (.exit 0), (stOf (go k 13 0 26 (adv [([], 4, 2, .eq (pI (a.length : Int))), ([], 4, 3, .eq (pB false))]) ref03Same_L4 (ref03Same_S4 a b v_1))))]) (ex := .ret) (r := (pB true)) (by kernel_rfl) rfl (by kernel_rfl) (allC (len_ob (rfl : (a.map FlagD.c) = a.map FlagD.c)) (allC (len_ob (rfl : (b.map FlagD.c) = b.map FlagD.c)) (allC (cg q1) (allC q6 allN)))) (by kernel_rfl) allN

/- flagstone/flagstoneref01.Texts: its loop at region 4 -/
noncomputable def ref01Texts_L4 : Code := cAt (codeOf Tryd.f15) [true, true, false, true, false, false]
def ref01Texts_R4 (x0 : List (List PV)) (x1 : List (List PV)) (x2 : Int) : St := ⟨envL [(0, (.list 1 false x0)), (1, (.list 1 false x1)), (5, (pI x2))], hsL [] []⟩
theorem ref01Texts_R4_eq {x0 y0 : List (List PV)} {x1 y1 : List (List PV)} {x2 y2 : Int} (h0 : x0 = y0) (h1 : x1 = y1) (h2 : x2 = y2) : ref01Texts_R4 x0 x1 x2 = ref01Texts_R4 y0 y1 y2 := by
  subst h0 h1 h2; rfl
def ref01Texts_S4 (p0 : (List ByteArray)) (p1 : (List ByteArray)) : Int → St
  | v0 => ref01Texts_R4 (p0.map cS) (p1.map cS) v0
def ref01Texts_b4 (p0 : (List ByteArray)) (p1 : (List ByteArray)) : Int → Option (Int ⊕ ((Int × ByteArray × ByteArray) ⊕ Int))
  | v0 =>
    bif (decide (v0 < (p0.length : Int))) then (
      (gt p0 v0).bind fun y_1 =>
      (gt p1 v0).bind fun y_2 =>
      bif (!(seq y_1 y_2)) then (
        some (.inr (.inl (v0, y_1, y_2)))
      ) else (
        some (.inl (w64 (v0 + (1 : Int))))
      )
    ) else (
      some (.inr (.inr (v0)))
    )
set_option maxRecDepth 100000 in
theorem ref01Texts_t4 (k : Nat) (p0 : (List ByteArray)) (p1 : (List ByteArray)) (v0 a1 : Int) (h : ref01Texts_b4 p0 p1 v0 = some (.inl a1)) : ∃ σ, run1 k 15 0 26 ref01Texts_L4 (ref01Texts_S4 p0 p1 v0) = some (.normal, σ) ∧ canonS 0 [0, 1, 5] σ = some (ref01Texts_S4 p0 p1 a1) := by
  unfold ref01Texts_b4 at h
  try dsimp only at h
  rcases bif_some h with ⟨q1, h⟩ | ⟨q1, h⟩
  · skip
    obtain ⟨y_1, q2, h⟩ := bnd_some h
    obtain ⟨y_2, q3, h⟩ := bnd_some h
    rcases bif_some h with ⟨q4, h⟩ | ⟨q4, h⟩
    · skip
      cases h
    · skip
      obtain rfl := Sum.inl.inj (Option.some.inj h)
      exact ⟨_, run_go (k := k) (f := 15) (r0 := 0) (nt := 26) (c := ref01Texts_L4) (σ := (ref01Texts_S4 p0 p1 v0)) (adv [([], 4, 2, .eq (pI (p0.length : Int))), ([], 4, 3, .eq (pB true)), ([], 6, 2, .elem [(pS y_1)]), ([], 6, 6, .elem [(pS y_2)]), ([], 6, 8, .eq (pB false))]) (ex := .normal) (by kernel_rfl) (by kernel_rfl) (allC (len_ob (rfl : (p0.map cS) = p0.map cS)) (allC (cg q1) (allC (gt_list (c := cS) q2) (allC (gt_list (c := cS) q3) (allC (cg q4) allN))))), (by kernel_rfl)⟩
  · skip
    cases h
/-- flagstone/flagstoneref01.Texts -/
def ref01Texts (a : (List ByteArray)) (b : (List ByteArray)) : Option Bool :=
  bif ((a.length : Int) != (b.length : Int)) then (
    some false
  ) else (
    (iterN (ref01Texts_b4 a b) LF (0 : Int)).bind fun X_1 => match X_1 with
    | .inl (v_1, y_1, y_2) => (
      some false
    )
    | .inr (v_1) => (
      some true
    )
  )
set_option maxRecDepth 100000 in
theorem ref01Texts_ok (k : Nat) (a : (List ByteArray)) (b : (List ByteArray)) (r : Bool) (h : ref01Texts a b = some r) : run0 (k + 1) 15 [(.list 1 false (a.map cS)), (.list 1 false (b.map cS))] = some (pB r) := by
  unfold ref01Texts at h
  rcases bif_some h with ⟨q1, h⟩ | ⟨q1, h⟩
  · skip
    obtain rfl := Option.some.inj h
    exact ret_go (k := k) Tryd.func15 Tryd.ntmps15 (by kernel_rfl) (by kernel_rfl) (Nat.le_of_ble_eq_true rfl) (adv [([], 1, 1, .eq (pI (a.length : Int))), ([], 1, 3, .eq (pI (b.length : Int))), ([], 1, 4, .eq (pB true))]) (ex := .ret) (r := (pB false)) (by kernel_rfl) rfl (by kernel_rfl) (allC (len_ob (rfl : (a.map cS) = a.map cS)) (allC (len_ob (rfl : (b.map cS) = b.map cS)) (allC (cg q1) allN))) (by kernel_rfl) allN
  · skip
    obtain ⟨X_1, q2, h⟩ := bnd_some h
    obtain ⟨v_1, q3, q4⟩ := loop_iter (f := run1 k 15 0 26 ref01Texts_L4) (ref01Texts_S4 a b) (ref01Texts_b4 a b) (ref01Texts_t4 k a b) LF (0 : Int) _ (stOf (goStop k 15 0 26 (adv [([], 1, 1, .eq (pI (a.length : Int))), ([], 1, 3, .eq (pI (b.length : Int))), ([], 1, 4, .eq (pB false))]) 4 (codeOf Tryd.f15) (argS 15 [(.list 1 false (a.map cS)), (.list 1 false (b.map cS))]))) q2 (by kernel_rfl)
    unfold ref01Texts_b4 at q3
    try dsimp only at q3
    rcases bif_some q3 with ⟨q7, q3⟩ | ⟨q7, q3⟩
    · skip
      obtain ⟨y_1, q8, q3⟩ := bnd_some q3
      obtain ⟨y_2, q9, q3⟩ := bnd_some q3
      rcases bif_some q3 with ⟨q10, q3⟩ | ⟨q10, q3⟩
      · skip
        cases q3
        try dsimp only at h
        have q5 := run_go (k := k) (f := 15) (r0 := 0) (nt := 26) (c := ref01Texts_L4) (σ := (ref01Texts_S4 a b v_1)) (adv [([], 4, 2, .eq (pI (a.length : Int))), ([], 4, 3, .eq (pB true)), ([], 6, 2, .elem [(pS y_1)]), ([], 6, 6, .elem [(pS y_2)]), ([], 6, 8, .eq (pB true))]) (ex := .ret) (by kernel_rfl) (by kernel_rfl) (allC (len_ob (rfl : (a.map cS) = a.map cS)) (allC (cg q7) (allC (gt_list (c := cS) q8) (allC (gt_list (c := cS) q9) (allC (cg q10) allN)))))
        have q6 := q4 _ _ (by intro e; cases e) q5
        obtain rfl := Option.some.inj h
        exact ret_go (k := k) Tryd.func15 Tryd.ntmps15 (by kernel_rfl) (by kernel_rfl) (Nat.le_of_ble_eq_true rfl) (adv [([], 1, 1, .eq (pI (a.length : Int))), ([], 1, 3, .eq (pI (b.length : Int))), ([], 1, 4, .eq (pB false))] [([], 4, .ret, (stOf (go k 15 0 26 (adv [([], 4, 2, .eq (pI (a.length : Int))), ([], 4, 3, .eq (pB true)), ([], 6, 2, .elem [(pS y_1)]), ([], 6, 6, .elem [(pS y_2)]), ([], 6, 8, .eq (pB true))]) ref01Texts_L4 (ref01Texts_S4 a b v_1))))]) (ex := .ret) (r := (pB false)) (by kernel_rfl) rfl (by kernel_rfl) (allC (len_ob (rfl : (a.map cS) = a.map cS)) (allC (len_ob (rfl : (b.map cS) = b.map cS)) (allC (cg q1) (allC q6 allN)))) (by kernel_rfl) allN
      · skip
        cases q3
    · skip
      cases q3
      try dsimp only at h
      have q5 := run_go (k := k) (f := 15) (r0 := 0) (nt := 26) (c := ref01Texts_L4) (σ := (ref01Texts_S4 a b v_1)) (adv [([], 4, 2, .eq (pI (a.length : Int))), ([], 4, 3, .eq (pB false))]) (ex := (.exit 0)) (by kernel_rfl) (by kernel_rfl) (allC (len_ob (rfl : (a.map cS) = a.map cS)) (allC (cg q7) allN))
      have q6 := q4 _ _ (by intro e; cases e) q5
      obtain rfl := Option.some.inj h
      exact ret_go (k := k) Tryd.func15 Tryd.ntmps15 (by kernel_rfl) (by kernel_rfl) (Nat.le_of_ble_eq_true rfl) (adv [([], 1, 1, .eq (pI (a.length : Int))), ([], 1, 3, .eq (pI (b.length : Int))), ([], 1, 4, .eq (pB false))] [([], 4, (.exit 0), (stOf (go k 15 0 26 (adv [([], 4, 2, .eq (pI (a.length : Int))), ([], 4, 3, .eq (pB false))]) ref01Texts_L4 (ref01Texts_S4 a b v_1))))]) (ex := .ret) (r := (pB true)) (by kernel_rfl) rfl (by kernel_rfl) (allC (len_ob (rfl : (a.map cS) = a.map cS)) (allC (len_ob (rfl : (b.map cS) = b.map cS)) (allC (cg q1) (allC q6 allN)))) (by kernel_rfl) allN

/-- flagstone/flagstonelaw03.OptionParses -/
def law03OptionParses (spec : ByteArray) (argv : (List ByteArray)) : Option Bool :=
  bif (decide ((spec.size : Int) > (50 : Int))) then (
    (law03Shown).bind fun r_1 =>
    some r_1
  ) else (
    (law03Long argv).bind fun r_1 =>
    bif r_1 then (
      (law03Shown).bind fun r_2 =>
      some r_2
    ) else (
      (law03Shown).bind fun r_2 =>
      bif (!r_2) then (
        (law03Shown).bind fun r_3 =>
        some r_3
      ) else (
        (optionParse spec argv).bind fun (r_3, r_4, r_5) =>
        (ref03Parse spec argv).bind fun (r_6, r_7, r_8) =>
        (law03Its r_3).bind fun r_9 =>
        (ref03Same r_9 r_6).bind fun r_10 =>
        bif r_10 then (
          (ref01Texts r_4 r_7).bind fun r_11 =>
          bif r_11 then (
            some (r_5 == r_8)
          ) else (
            some false
          )
        ) else (
          some false
        )
      )
    )
  )
set_option maxRecDepth 100000 in
theorem law03OptionParses_ok (k : Nat) (spec : ByteArray) (argv : (List ByteArray)) (r : Bool) (h : law03OptionParses spec argv = some r) : run0 (k + 7) 3 [(pS spec), (.list 1 false (argv.map cS))] = some (pB r) := by
  unfold law03OptionParses at h
  rcases bif_some h with ⟨q1, h⟩ | ⟨q1, h⟩
  · skip
    obtain ⟨r_1, q2, h⟩ := bnd_some h
    obtain rfl := Option.some.inj h
    exact ret_go (k := (k + 6)) Tryd.func3 Tryd.ntmps3 (by kernel_rfl) (by kernel_rfl) (Nat.le_of_ble_eq_true rfl) (adv [([], 1, 3, .eq (pB true)), ([], 2, 0, .ret (pB r_1))]) (ex := .ret) (r := (pB r_1)) (by kernel_rfl) rfl (by kernel_rfl) (allC (cg q1) (allC (law03Shown_ok k _ q2) allN)) (by kernel_rfl) allN
  · skip
    obtain ⟨r_1, q2, h⟩ := bnd_some h
    rcases bif_some h with ⟨q3, h⟩ | ⟨q3, h⟩
    · skip
      obtain ⟨r_2, q4, h⟩ := bnd_some h
      obtain rfl := Option.some.inj h
      exact ret_go (k := (k + 6)) Tryd.func3 Tryd.ntmps3 (by kernel_rfl) (by kernel_rfl) (Nat.le_of_ble_eq_true rfl) (adv [([], 1, 3, .eq (pB false)), ([], 1, 5, .ret (pB r_1)), ([], 1, 7, .eq (pB true)), ([], 2, 0, .ret (pB r_2))]) (ex := .ret) (r := (pB r_2)) (by kernel_rfl) rfl (by kernel_rfl) (allC (cg q1) (allC (law03Long_ok (k + 5) argv _ q2) (allC (cg q3) (allC (law03Shown_ok k _ q4) allN)))) (by kernel_rfl) allN
    · skip
      obtain ⟨r_2, q4, h⟩ := bnd_some h
      rcases bif_some h with ⟨q5, h⟩ | ⟨q5, h⟩
      · skip
        obtain ⟨r_3, q6, h⟩ := bnd_some h
        obtain rfl := Option.some.inj h
        exact ret_go (k := (k + 6)) Tryd.func3 Tryd.ntmps3 (by kernel_rfl) (by kernel_rfl) (Nat.le_of_ble_eq_true rfl) (adv [([], 1, 3, .eq (pB false)), ([], 1, 5, .ret (pB r_1)), ([], 1, 7, .eq (pB false)), ([], 1, 8, .ret (pB r_2)), ([], 1, 10, .eq (pB true)), ([], 2, 0, .ret (pB r_3))]) (ex := .ret) (r := (pB r_3)) (by kernel_rfl) rfl (by kernel_rfl) (allC (cg q1) (allC (law03Long_ok (k + 5) argv _ q2) (allC (cg q3) (allC (law03Shown_ok k _ q4) (allC (cg q5) (allC (law03Shown_ok k _ q6) allN)))))) (by kernel_rfl) allN
      · skip
        obtain ⟨⟨r_3, r_4, r_5⟩, q6, h⟩ := bnd_some h
        try dsimp only at h
        obtain ⟨⟨r_6, r_7, r_8⟩, q7, h⟩ := bnd_some h
        try dsimp only at h
        obtain ⟨r_9, q8, h⟩ := bnd_some h
        obtain ⟨r_10, q9, h⟩ := bnd_some h
        rcases bif_some h with ⟨q10, h⟩ | ⟨q10, h⟩
        · skip
          obtain ⟨r_11, q11, h⟩ := bnd_some h
          rcases bif_some h with ⟨q12, h⟩ | ⟨q12, h⟩
          · skip
            obtain rfl := Option.some.inj h
            exact ret_go (k := (k + 6)) Tryd.func3 Tryd.ntmps3 (by kernel_rfl) (by kernel_rfl) (Nat.le_of_ble_eq_true rfl) (adv [([], 1, 3, .eq (pB false)), ([], 1, 5, .ret (pB r_1)), ([], 1, 7, .eq (pB false)), ([], 1, 8, .ret (pB r_2)), ([], 1, 10, .eq (pB false)), ([], 3, 2, .ret (.tup [(.list 2 false (r_3.map FlagD.c)), (.list 1 false (r_4.map cS)), (pI r_5)])), ([], 4, 2, .ret (.tup [(.list 2 false (r_6.map FlagD.c)), (.list 1 false (r_7.map cS)), (pI r_8)])), ([], 5, 1, .ret (.list 2 false (r_9.map FlagD.c))), ([], 5, 3, .ret (pB r_10)), ([], 5, 4, .eq (pB true)), ([], 5, 7, .ret (pB r_11)), ([], 5, 9, .eq (pB true))]) (ex := .ret) (r := (pB (r_5 == r_8))) (by kernel_rfl) rfl (by kernel_rfl) (allC (cg q1) (allC (law03Long_ok (k + 5) argv _ q2) (allC (cg q3) (allC (law03Shown_ok k _ q4) (allC (cg q5) (allC (optionParse_ok (k + 1) spec argv _ q6) (allC (ref03Parse_ok (k + 4) spec argv _ q7) (allC (law03Its_ok (k + 5) r_3 _ q8) (allC (ref03Same_ok (k + 5) r_9 r_6 _ q9) (allC (cg q10) (allC (ref01Texts_ok (k + 5) r_4 r_7 _ q11) (allC (cg q12) allN)))))))))))) (by kernel_rfl) allN
          · skip
            obtain rfl := Option.some.inj h
            exact ret_go (k := (k + 6)) Tryd.func3 Tryd.ntmps3 (by kernel_rfl) (by kernel_rfl) (Nat.le_of_ble_eq_true rfl) (adv [([], 1, 3, .eq (pB false)), ([], 1, 5, .ret (pB r_1)), ([], 1, 7, .eq (pB false)), ([], 1, 8, .ret (pB r_2)), ([], 1, 10, .eq (pB false)), ([], 3, 2, .ret (.tup [(.list 2 false (r_3.map FlagD.c)), (.list 1 false (r_4.map cS)), (pI r_5)])), ([], 4, 2, .ret (.tup [(.list 2 false (r_6.map FlagD.c)), (.list 1 false (r_7.map cS)), (pI r_8)])), ([], 5, 1, .ret (.list 2 false (r_9.map FlagD.c))), ([], 5, 3, .ret (pB r_10)), ([], 5, 4, .eq (pB true)), ([], 5, 7, .ret (pB r_11)), ([], 5, 9, .eq (pB false))]) (ex := .ret) (r := (pB false)) (by kernel_rfl) rfl (by kernel_rfl) (allC (cg q1) (allC (law03Long_ok (k + 5) argv _ q2) (allC (cg q3) (allC (law03Shown_ok k _ q4) (allC (cg q5) (allC (optionParse_ok (k + 1) spec argv _ q6) (allC (ref03Parse_ok (k + 4) spec argv _ q7) (allC (law03Its_ok (k + 5) r_3 _ q8) (allC (ref03Same_ok (k + 5) r_9 r_6 _ q9) (allC (cg q10) (allC (ref01Texts_ok (k + 5) r_4 r_7 _ q11) (allC (cg q12) allN)))))))))))) (by kernel_rfl) allN
        · skip
          obtain rfl := Option.some.inj h
          exact ret_go (k := (k + 6)) Tryd.func3 Tryd.ntmps3 (by kernel_rfl) (by kernel_rfl) (Nat.le_of_ble_eq_true rfl) (adv [([], 1, 3, .eq (pB false)), ([], 1, 5, .ret (pB r_1)), ([], 1, 7, .eq (pB false)), ([], 1, 8, .ret (pB r_2)), ([], 1, 10, .eq (pB false)), ([], 3, 2, .ret (.tup [(.list 2 false (r_3.map FlagD.c)), (.list 1 false (r_4.map cS)), (pI r_5)])), ([], 4, 2, .ret (.tup [(.list 2 false (r_6.map FlagD.c)), (.list 1 false (r_7.map cS)), (pI r_8)])), ([], 5, 1, .ret (.list 2 false (r_9.map FlagD.c))), ([], 5, 3, .ret (pB r_10)), ([], 5, 4, .eq (pB false))]) (ex := .ret) (r := (pB false)) (by kernel_rfl) rfl (by kernel_rfl) (allC (cg q1) (allC (law03Long_ok (k + 5) argv _ q2) (allC (cg q3) (allC (law03Shown_ok k _ q4) (allC (cg q5) (allC (optionParse_ok (k + 1) spec argv _ q6) (allC (ref03Parse_ok (k + 4) spec argv _ q7) (allC (law03Its_ok (k + 5) r_3 _ q8) (allC (ref03Same_ok (k + 5) r_9 r_6 _ q9) (allC (cg q10) allN)))))))))) (by kernel_rfl) allN

/- flagstone/flagstoneref03.Value: its loop at region 2 -/
noncomputable def ref03Value_L2 : Code := cAt (codeOf Tryd.f17) [true, false, true, false, false]
def ref03Value_R2 (x0 : List (List PV)) (x1 : Int) (x2 : Int) : St := ⟨envL [(0, (.list 2 false x0)), (1, (.v (.int .u8 x1))), (6, (pI x2))], hsL [] []⟩
theorem ref03Value_R2_eq {x0 y0 : List (List PV)} {x1 y1 : Int} {x2 y2 : Int} (h0 : x0 = y0) (h1 : x1 = y1) (h2 : x2 = y2) : ref03Value_R2 x0 x1 x2 = ref03Value_R2 y0 y1 y2 := by
  subst h0 h1 h2; rfl
def ref03Value_S2 (p0 : (List FlagD)) (p1 : Int) : Int → St
  | v0 => ref03Value_R2 (p0.map FlagD.c) p1 v0
def ref03Value_b2 (p0 : (List FlagD)) (p1 : Int) : Int → Option (Int ⊕ ((Int × FlagD × FlagD) ⊕ Int))
  | v0 =>
    bif (decide (v0 ≥ (0 : Int))) then (
      (gt p0 v0).bind fun y_1 =>
      bif (y_1.letter == p1) then (
        (gt p0 v0).bind fun y_2 =>
        some (.inr (.inl (v0, y_1, y_2)))
      ) else (
        some (.inl (w64 (v0 - (1 : Int))))
      )
    ) else (
      some (.inr (.inr (v0)))
    )
set_option maxRecDepth 100000 in
theorem ref03Value_t2 (k : Nat) (p0 : (List FlagD)) (p1 : Int) (v0 a1 : Int) (h : ref03Value_b2 p0 p1 v0 = some (.inl a1)) : ∃ σ, run1 k 17 0 26 ref03Value_L2 (ref03Value_S2 p0 p1 v0) = some (.normal, σ) ∧ canonS 0 [0, 1, 6] σ = some (ref03Value_S2 p0 p1 a1) := by
  unfold ref03Value_b2 at h
  try dsimp only at h
  rcases bif_some h with ⟨q1, h⟩ | ⟨q1, h⟩
  · skip
    obtain ⟨y_1, q2, h⟩ := bnd_some h
    rcases bif_some h with ⟨q3, h⟩ | ⟨q3, h⟩
    · skip
      obtain ⟨y_2, q4, h⟩ := bnd_some h
      cases h
    · skip
      obtain rfl := Sum.inl.inj (Option.some.inj h)
      exact ⟨_, run_go (k := k) (f := 17) (r0 := 0) (nt := 26) (c := ref03Value_L2) (σ := (ref03Value_S2 p0 p1 v0)) (adv [([], 2, 1, .eq (pB true)), ([], 4, 2, .elem [(.v (.int .u8 y_1.letter)), (pS y_1.value)]), ([], 4, 6, .eq (pB false))]) (ex := .normal) (by kernel_rfl) (by kernel_rfl) (allC (cg q1) (allC (gt_list (c := FlagD.c) q2) (allC (cg q3) allN))), (by kernel_rfl)⟩
  · skip
    cases h
/-- flagstone/flagstoneref03.Value -/
def ref03Value (l : (List FlagD)) (letter : Int) : Option (ByteArray × Bool) :=
  (iterN (ref03Value_b2 l letter) LF (w64 ((l.length : Int) - (1 : Int)))).bind fun X_1 => match X_1 with
  | .inl (v_1, y_1, y_2) => (
    some (y_2.value, true)
  )
  | .inr (v_1) => (
    some ((bs []), false)
  )
set_option maxRecDepth 100000 in
theorem ref03Value_ok (k : Nat) (l : (List FlagD)) (letter : Int) (r : (ByteArray × Bool)) (h : ref03Value l letter = some r) : run0 (k + 1) 17 [(.list 2 false (l.map FlagD.c)), (.v (.int .u8 letter))] = some (.tup [(pS r.1), (pB r.2)]) := by
  unfold ref03Value at h
  obtain ⟨X_1, q1, h⟩ := bnd_some h
  obtain ⟨v_1, q2, q3⟩ := loop_iter (f := run1 k 17 0 26 ref03Value_L2) (ref03Value_S2 l letter) (ref03Value_b2 l letter) (ref03Value_t2 k l letter) LF (w64 ((l.length : Int) - (1 : Int))) _ (stOf (goStop k 17 0 26 (adv [([], 1, 1, .eq (pI (l.length : Int)))]) 2 (codeOf Tryd.f17) (argS 17 [(.list 2 false (l.map FlagD.c)), (.v (.int .u8 letter))]))) q1 (by kernel_rfl)
  unfold ref03Value_b2 at q2
  try dsimp only at q2
  rcases bif_some q2 with ⟨q6, q2⟩ | ⟨q6, q2⟩
  · skip
    obtain ⟨y_1, q7, q2⟩ := bnd_some q2
    rcases bif_some q2 with ⟨q8, q2⟩ | ⟨q8, q2⟩
    · skip
      obtain ⟨y_2, q9, q2⟩ := bnd_some q2
      cases q2
      try dsimp only at h
      have q4 := run_go (k := k) (f := 17) (r0 := 0) (nt := 26) (c := ref03Value_L2) (σ := (ref03Value_S2 l letter v_1)) (adv [([], 2, 1, .eq (pB true)), ([], 4, 2, .elem [(.v (.int .u8 y_1.letter)), (pS y_1.value)]), ([], 4, 6, .eq (pB true)), ([], 5, 2, .elem [(.v (.int .u8 y_2.letter)), (pS y_2.value)])]) (ex := .ret) (by kernel_rfl) (by kernel_rfl) (allC (cg q6) (allC (gt_list (c := FlagD.c) q7) (allC (cg q8) (allC (gt_list (c := FlagD.c) q9) allN))))
      have q5 := q3 _ _ (by intro e; cases e) q4
      obtain rfl := Option.some.inj h
      exact ret_go (k := k) Tryd.func17 Tryd.ntmps17 (by kernel_rfl) (by kernel_rfl) (Nat.le_of_ble_eq_true rfl) (adv [([], 1, 1, .eq (pI (l.length : Int)))] [([], 2, .ret, (stOf (go k 17 0 26 (adv [([], 2, 1, .eq (pB true)), ([], 4, 2, .elem [(.v (.int .u8 y_1.letter)), (pS y_1.value)]), ([], 4, 6, .eq (pB true)), ([], 5, 2, .elem [(.v (.int .u8 y_2.letter)), (pS y_2.value)])]) ref03Value_L2 (ref03Value_S2 l letter v_1))))]) (ex := .ret) (r := (.tup [(pS y_2.value), (pB true)])) (by kernel_rfl) rfl (by kernel_rfl) (allC (len_ob (rfl : (l.map FlagD.c) = l.map FlagD.c)) (allC q5 allN)) (by kernel_rfl) allN
    · skip
      cases q2
  · skip
    cases q2
    try dsimp only at h
    have q4 := run_go (k := k) (f := 17) (r0 := 0) (nt := 26) (c := ref03Value_L2) (σ := (ref03Value_S2 l letter v_1)) (adv [([], 2, 1, .eq (pB false))]) (ex := (.exit 0)) (by kernel_rfl) (by kernel_rfl) (allC (cg q6) allN)
    have q5 := q3 _ _ (by intro e; cases e) q4
    obtain rfl := Option.some.inj h
    exact ret_go (k := k) Tryd.func17 Tryd.ntmps17 (by kernel_rfl) (by kernel_rfl) (Nat.le_of_ble_eq_true rfl) (adv [([], 1, 1, .eq (pI (l.length : Int)))] [([], 2, (.exit 0), (stOf (go k 17 0 26 (adv [([], 2, 1, .eq (pB false))]) ref03Value_L2 (ref03Value_S2 l letter v_1))))]) (ex := .ret) (r := (.tup [(pS (bs [])), (pB false)])) (by kernel_rfl) rfl (by kernel_rfl) (allC (len_ob (rfl : (l.map FlagD.c) = l.map FlagD.c)) (allC q5 allN)) (by kernel_rfl) allN

/-- flagstone/flagstoneref03.Has -/
def ref03Has (l : (List FlagD)) (letter : Int) : Option Bool :=
  (ref03Value l letter).bind fun (r_1, r_2) =>
  some r_2
set_option maxRecDepth 100000 in
theorem ref03Has_ok (k : Nat) (l : (List FlagD)) (letter : Int) (r : Bool) (h : ref03Has l letter = some r) : run0 (k + 2) 19 [(.list 2 false (l.map FlagD.c)), (.v (.int .u8 letter))] = some (pB r) := by
  unfold ref03Has at h
  obtain ⟨⟨r_1, r_2⟩, q1, h⟩ := bnd_some h
  try dsimp only at h
  obtain rfl := Option.some.inj h
  exact ret_go (k := (k + 1)) Tryd.func19 Tryd.ntmps19 (by kernel_rfl) (by kernel_rfl) (Nat.le_of_ble_eq_true rfl) (adv [([], 1, 2, .ret (.tup [(pS r_1), (pB r_2)]))]) (ex := .ret) (r := (pB r_2)) (by kernel_rfl) rfl (by kernel_rfl) (allC (ref03Value_ok k l letter _ q1) allN) (by kernel_rfl) allN


end Go.Proofs.YtbidfkibpjjghaaDoor.Den
