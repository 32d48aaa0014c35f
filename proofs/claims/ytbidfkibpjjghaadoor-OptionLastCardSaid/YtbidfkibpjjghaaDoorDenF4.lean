/- Functions, printed by den.py out of the code: plain ones, and that the code answers as they do. -/
import Derived.Test.YtbidfkibpjjghaaDoorDenF3
set_option linter.unusedVariables false
set_option linter.unusedSimpArgs false
namespace Go.Proofs.YtbidfkibpjjghaaDoor.Den
open Go Go.RowKit

/-- flagstone/option.Parse -/
def optionParse (spec : ByteArray) (argv : (List ByteArray)) : Option ((List FlagD) × (List ByteArray) × Int) :=
  grd (room (argv.length) 16) <|
  (optionTakerAll spec argv).bind fun X_1 => match X_1 with
  | .inl (r_1, r_2) => (
    some ([], r_2, (0 : Int))
  )
  | .inr (.inl (r_3, r_4)) => (
    some ([], [], (30 : Int))
  )
  | .inr (.inr (.inl (r_5, r_6))) => (
    some ([], [], (31 : Int))
  )
  | .inr (.inr (.inr (.inl (r_7, r_8, r_9)))) => (
    some ([], [], (30 : Int))
  )
  | .inr (.inr (.inr (.inr (.inl (r_10, r_11, r_12))))) => (
    some ([], [], (31 : Int))
  )
  | .inr (.inr (.inr (.inr (.inr ((r_13, r_14, r_15)))))) => (
    some (r_15, r_14, (0 : Int))
  )
set_option maxRecDepth 100000 in
theorem optionParse_ok (k : Nat) (spec : ByteArray) (argv : (List ByteArray)) (r : ((List FlagD) × (List ByteArray) × Int)) (h : optionParse spec argv = some r) : run0 (k + 5) 11 [(pS spec), (.list 1 false (argv.map cS))] = some (.tup [(.list 2 false (r.1.map FlagD.c)), (.list 1 false (r.2.1.map cS)), (pI r.2.2)]) := by
  unfold optionParse at h
  obtain ⟨q1, h⟩ := grd_some h
  obtain ⟨X_1, q2, h⟩ := bnd_some h
  rcases X_1 with ⟨r_1, r_2⟩ | ⟨r_3, r_4⟩ | ⟨r_5, r_6⟩ | ⟨r_7, r_8, r_9⟩ | ⟨r_10, r_11, r_12⟩ | ⟨r_13, r_14, r_15⟩
  · try dsimp only at h
    obtain rfl := Option.some.inj h
    exact ret_go (k := (k + 4)) Tryd.func11 Tryd.ntmps11 (by kernel_rfl) (by kernel_rfl) (Nat.le_of_ble_eq_true rfl) (adv [([], 1, 2, .ret (.list 1 false (argv.map cS))), ([], 2, 1, .retS (.v .nilIface) [some ⟨3, 51, [[(pS r_1), (.list 1 false (r_2.map cS)), (.v (.slice none 0 0))]], true, false⟩] [0])]) (ex := .ret) (r := (.tup [(.list 2 false []), (.list 1 false (r_2.map cS)), (pI (0 : Int))])) (by kernel_rfl) rfl (by kernel_rfl) (allC (cloneS_ok (k + 4) (rfl : (argv.map cS) = argv.map cS) q1) (allC (optionTakerAll_ok k spec argv _ q2) allN)) (by kernel_rfl) allN
  · try dsimp only at h
    obtain rfl := Option.some.inj h
    exact ret_go (k := (k + 4)) Tryd.func11 Tryd.ntmps11 (by kernel_rfl) (by kernel_rfl) (Nat.le_of_ble_eq_true rfl) (adv [([], 1, 2, .ret (.list 1 false (argv.map cS))), ([], 2, 1, .retS (.ifc 87 (.far 0)) [some ⟨3, 51, [[(pS r_3), (.list 1 false (r_4.map cS)), (.v (.slice none 0 0))]], true, false⟩] [0])]) (ex := .ret) (r := (.tup [(.list 2 false []), (.list 1 false []), (pI (30 : Int))])) (by kernel_rfl) rfl (by kernel_rfl) (allC (cloneS_ok (k + 4) (rfl : (argv.map cS) = argv.map cS) q1) (allC (optionTakerAll_ok k spec argv _ q2) allN)) (by kernel_rfl) allN
  · try dsimp only at h
    obtain rfl := Option.some.inj h
    exact ret_go (k := (k + 4)) Tryd.func11 Tryd.ntmps11 (by kernel_rfl) (by kernel_rfl) (Nat.le_of_ble_eq_true rfl) (adv [([], 1, 2, .ret (.list 1 false (argv.map cS))), ([], 2, 1, .retS (.ifc 87 (.far 1)) [some ⟨3, 51, [[(pS r_5), (.list 1 false (r_6.map cS)), (.v (.slice none 0 0))]], true, false⟩] [0])]) (ex := .ret) (r := (.tup [(.list 2 false []), (.list 1 false []), (pI (31 : Int))])) (by kernel_rfl) rfl (by kernel_rfl) (allC (cloneS_ok (k + 4) (rfl : (argv.map cS) = argv.map cS) q1) (allC (optionTakerAll_ok k spec argv _ q2) allN)) (by kernel_rfl) allN
  · try dsimp only at h
    obtain rfl := Option.some.inj h
    exact ret_go (k := (k + 4)) Tryd.func11 Tryd.ntmps11 (by kernel_rfl) (by kernel_rfl) (Nat.le_of_ble_eq_true rfl) (adv [([], 1, 2, .ret (.list 1 false (argv.map cS))), ([], 2, 1, .retS (.ifc 87 (.far 0)) [some ⟨3, 51, [[(pS r_7), (.list 1 false (r_8.map cS)), (.row [1, TAG] 1 0 r_9.length)]], false, false⟩, some ⟨2, 58, (r_9.map FlagD.c), true, true⟩] [0, 0])]) (ex := .ret) (r := (.tup [(.list 2 false []), (.list 1 false []), (pI (30 : Int))])) (by kernel_rfl) rfl (by kernel_rfl) (allC (cloneS_ok (k + 4) (rfl : (argv.map cS) = argv.map cS) q1) (allC (optionTakerAll_ok k spec argv _ q2) allN)) (by kernel_rfl) allN
  · try dsimp only at h
    obtain rfl := Option.some.inj h
    exact ret_go (k := (k + 4)) Tryd.func11 Tryd.ntmps11 (by kernel_rfl) (by kernel_rfl) (Nat.le_of_ble_eq_true rfl) (adv [([], 1, 2, .ret (.list 1 false (argv.map cS))), ([], 2, 1, .retS (.ifc 87 (.far 1)) [some ⟨3, 51, [[(pS r_10), (.list 1 false (r_11.map cS)), (.row [1, TAG] 1 0 r_12.length)]], false, false⟩, some ⟨2, 58, (r_12.map FlagD.c), true, true⟩] [0, 0])]) (ex := .ret) (r := (.tup [(.list 2 false []), (.list 1 false []), (pI (31 : Int))])) (by kernel_rfl) rfl (by kernel_rfl) (allC (cloneS_ok (k + 4) (rfl : (argv.map cS) = argv.map cS) q1) (allC (optionTakerAll_ok k spec argv _ q2) allN)) (by kernel_rfl) allN
  · try dsimp only at h
    obtain rfl := Option.some.inj h
    exact ret_go (k := (k + 4)) Tryd.func11 Tryd.ntmps11 (by kernel_rfl) (by kernel_rfl) (Nat.le_of_ble_eq_true rfl) (adv [([], 1, 2, .ret (.list 1 false (argv.map cS))), ([], 2, 1, .retS (.v .nilIface) [some ⟨3, 51, [[(pS r_13), (.list 1 false (r_14.map cS)), (.row [1, TAG] 1 0 r_15.length)]], false, false⟩, some ⟨2, 58, (r_15.map FlagD.c), true, true⟩] [0, 0])]) (ex := .ret) (r := (.tup [(.list 2 false (r_15.map FlagD.c)), (.list 1 false (r_14.map cS)), (pI (0 : Int))])) (by kernel_rfl) rfl (by kernel_rfl) (allC (cloneS_ok (k + 4) (rfl : (argv.map cS) = argv.map cS) q1) (allC (optionTakerAll_ok k spec argv _ q2) allN)) (by kernel_rfl) (allC (row_ok (rfl : (r_15.map FlagD.c) = r_15.map FlagD.c) (rfl : r_15.length = r_15.length)) allN)

/- flagstone/flagstoneref03.known: its loop at region 6 -/
noncomputable def ref03Known_L6 : Code := cAt (codeOf Tryd.f23) [true, true, true, true, false, true, false, false]
def ref03Known_R6 (x0 : ByteArray) (x1 : Int) (x2 : Bool) (x3 : Bool) (x4 : Int) : St := ⟨envL [(0, (pS x0)), (1, (.v (.int .u8 x1))), (6, (pB x2)), (7, (pB x3)), (8, (pI x4))], hsL [] []⟩
theorem ref03Known_R6_eq {x0 y0 : ByteArray} {x1 y1 : Int} {x2 y2 : Bool} {x3 y3 : Bool} {x4 y4 : Int} (h0 : x0 = y0) (h1 : x1 = y1) (h2 : x2 = y2) (h3 : x3 = y3) (h4 : x4 = y4) : ref03Known_R6 x0 x1 x2 x3 x4 = ref03Known_R6 y0 y1 y2 y3 y4 := by
  subst h0 h1 h2 h3 h4; rfl
def ref03Known_S6 (p0 : ByteArray) (p1 : Int) : (Bool × Bool × Int) → St
  | (v0, v1, v2) => ref03Known_R6 p0 p1 v0 v1 v2
def ref03Known_b6 (p0 : ByteArray) (p1 : Int) : (Bool × Bool × Int) → Option ((Bool × Bool × Int) ⊕ (Bool × Bool × Int))
  | (v0, v1, v2) =>
    bif (decide (v2 < (p0.size : Int))) then (
      (gtS p0 v2).bind fun b_1 =>
      bif ((b_1.toNat : Int) == p1) then (
        bif v1 then (
          some (.inl (true, true, (w64 (v2 + (1 : Int)))))
        ) else (
          bif (decide ((w64 (v2 + (1 : Int))) < (p0.size : Int))) then (
            (gtS p0 (w64 (v2 + (1 : Int)))).bind fun b_2 =>
            some (.inl (true, ((b_2.toNat : Int) == (58 : Int)), (w64 (v2 + (1 : Int)))))
          ) else (
            some (.inl (true, false, (w64 (v2 + (1 : Int)))))
          )
        )
      ) else (
        some (.inl (v0, v1, (w64 (v2 + (1 : Int)))))
      )
    ) else (
      some (.inr (v0, v1, v2))
    )
set_option maxRecDepth 100000 in
theorem ref03Known_t6 (k : Nat) (p0 : ByteArray) (p1 : Int) (a a1 : (Bool × Bool × Int)) (h : ref03Known_b6 p0 p1 a = some (.inl a1)) : ∃ σ, run1 k 23 0 39 ref03Known_L6 (ref03Known_S6 p0 p1 a) = some (.normal, σ) ∧ canonS 0 [0, 1, 6, 7, 8] σ = some (ref03Known_S6 p0 p1 a1) := by
  obtain ⟨v0, v1, v2⟩ := a
  unfold ref03Known_b6 at h
  try dsimp only at h
  rcases bif_some h with ⟨q1, h⟩ | ⟨q1, h⟩
  · skip
    obtain ⟨b_1, q2, h⟩ := bnd_some h
    rcases bif_some h with ⟨q3, h⟩ | ⟨q3, h⟩
    · skip
      rcases bif_some h with ⟨q4, h⟩ | ⟨q4, h⟩
      · skip
        obtain rfl := Sum.inl.inj (Option.some.inj h)
        exact ⟨_, run_go (k := k) (f := 23) (r0 := 0) (nt := 39) (c := ref03Known_L6) (σ := (ref03Known_S6 p0 p1 (v0, v1, v2))) (adv [([], 6, 3, .eq (pB true)), ([], 8, 2, .chr b_1), ([], 8, 4, .eq (pB true)), ([], 10, 1, .eq (pB true))]) (ex := .normal) (by kernel_rfl) (by kernel_rfl) (allC (cg q1) (allC q2 (allC (cg q3) (allC (cg q4) allN)))), (by kernel_rfl)⟩
      · skip
        rcases bif_some h with ⟨q5, h⟩ | ⟨q5, h⟩
        · skip
          obtain ⟨b_2, q6, h⟩ := bnd_some h
          obtain rfl := Sum.inl.inj (Option.some.inj h)
          exact ⟨_, run_go (k := k) (f := 23) (r0 := 0) (nt := 39) (c := ref03Known_L6) (σ := (ref03Known_S6 p0 p1 (v0, v1, v2))) (adv [([], 6, 3, .eq (pB true)), ([], 8, 2, .chr b_1), ([], 8, 4, .eq (pB true)), ([], 10, 1, .eq (pB false)), ([], 10, 7, .eq (pB true)), ([], 10, 11, .chr b_2)]) (ex := .normal) (by kernel_rfl) (by kernel_rfl) (allC (cg q1) (allC q2 (allC (cg q3) (allC (cg q4) (allC (cg q5) (allC q6 allN)))))), (by kernel_rfl)⟩
        · skip
          obtain rfl := Sum.inl.inj (Option.some.inj h)
          exact ⟨_, run_go (k := k) (f := 23) (r0 := 0) (nt := 39) (c := ref03Known_L6) (σ := (ref03Known_S6 p0 p1 (v0, v1, v2))) (adv [([], 6, 3, .eq (pB true)), ([], 8, 2, .chr b_1), ([], 8, 4, .eq (pB true)), ([], 10, 1, .eq (pB false)), ([], 10, 7, .eq (pB false))]) (ex := .normal) (by kernel_rfl) (by kernel_rfl) (allC (cg q1) (allC q2 (allC (cg q3) (allC (cg q4) (allC (cg q5) allN))))), (by kernel_rfl)⟩
    · skip
      obtain rfl := Sum.inl.inj (Option.some.inj h)
      exact ⟨_, run_go (k := k) (f := 23) (r0 := 0) (nt := 39) (c := ref03Known_L6) (σ := (ref03Known_S6 p0 p1 (v0, v1, v2))) (adv [([], 6, 3, .eq (pB true)), ([], 8, 2, .chr b_1), ([], 8, 4, .eq (pB false))]) (ex := .normal) (by kernel_rfl) (by kernel_rfl) (allC (cg q1) (allC q2 (allC (cg q3) allN))), (by kernel_rfl)⟩
  · skip
    cases h
/-- flagstone/flagstoneref03.known -/
def ref03Known (spec : ByteArray) (c : Int) : Option (Bool × Bool) :=
  bif (c == (58 : Int)) then (
    some (false, false)
  ) else (
    (iterN (ref03Known_b6 spec c) LF (false, false, (0 : Int))).bind fun (v_1, v_2, v_3) =>
    some (v_1, v_2)
  )
set_option maxRecDepth 100000 in
theorem ref03Known_ok (k : Nat) (spec : ByteArray) (c : Int) (r : (Bool × Bool)) (h : ref03Known spec c = some r) : run0 (k + 1) 23 [(pS spec), (.v (.int .u8 c))] = some (.tup [(pB r.1), (pB r.2)]) := by
  unfold ref03Known at h
  rcases bif_some h with ⟨q1, h⟩ | ⟨q1, h⟩
  · skip
    obtain rfl := Option.some.inj h
    exact ret_go (k := k) Tryd.func23 Tryd.ntmps23 (by kernel_rfl) (by kernel_rfl) (Nat.le_of_ble_eq_true rfl) (adv [([], 1, 1, .eq (pB true))]) (ex := .ret) (r := (.tup [(pB false), (pB false)])) (by kernel_rfl) rfl (by kernel_rfl) (allC (cg q1) allN) (by kernel_rfl) allN
  · skip
    obtain ⟨X_1, q2, h⟩ := bnd_some h
    obtain ⟨a_1, q3, q4⟩ := loop_iter (f := run1 k 23 0 39 ref03Known_L6) (ref03Known_S6 spec c) (ref03Known_b6 spec c) (ref03Known_t6 k spec c) LF (false, false, (0 : Int)) _ (stOf (goStop k 23 0 39 (adv [([], 1, 1, .eq (pB false))]) 6 (codeOf Tryd.f23) (argS 23 [(pS spec), (.v (.int .u8 c))]))) q2 (by kernel_rfl)
    obtain ⟨v_1, v_2, v_3⟩ := a_1
    unfold ref03Known_b6 at q3
    try dsimp only at q3
    rcases bif_some q3 with ⟨q7, q3⟩ | ⟨q7, q3⟩
    · skip
      obtain ⟨b_1, q8, q3⟩ := bnd_some q3
      rcases bif_some q3 with ⟨q9, q3⟩ | ⟨q9, q3⟩
      · skip
        rcases bif_some q3 with ⟨q10, q3⟩ | ⟨q10, q3⟩
        · skip
          cases q3
        · skip
          rcases bif_some q3 with ⟨q11, q3⟩ | ⟨q11, q3⟩
          · skip
            obtain ⟨b_2, q12, q3⟩ := bnd_some q3
            cases q3
          · skip
            cases q3
      · skip
        cases q3
    · skip
      cases q3
      try dsimp only at h
      have q5 := run_go (k := k) (f := 23) (r0 := 0) (nt := 39) (c := ref03Known_L6) (σ := (ref03Known_S6 spec c (v_1, v_2, v_3))) (adv [([], 6, 3, .eq (pB false))]) (ex := (.exit 0)) (by kernel_rfl) (by kernel_rfl) (allC (cg q7) allN)
      have q6 := q4 _ _ (by intro e; cases e) q5
      obtain rfl := Option.some.inj h
      exact ret_go (k := k) Tryd.func23 Tryd.ntmps23 (by kernel_rfl) (by kernel_rfl) (Nat.le_of_ble_eq_true rfl) (adv [([], 1, 1, .eq (pB false))] [([], 6, (.exit 0), (stOf (go k 23 0 39 (adv [([], 6, 3, .eq (pB false))]) ref03Known_L6 (ref03Known_S6 spec c (v_1, v_2, v_3)))))]) (ex := .ret) (r := (.tup [(pB v_1), (pB v_2)])) (by kernel_rfl) rfl (by kernel_rfl) (allC (cg q1) (allC q6 allN)) (by kernel_rfl) allN


end Go.Proofs.YtbidfkibpjjghaaDoor.Den
