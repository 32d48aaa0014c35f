/- Functions, printed by den.py out of the code: plain ones, and that the code answers as they do. -/
import Derived.Test.YtfjflodicgjihaaGreatDoorDenF5
set_option linter.unusedVariables false
set_option linter.unusedSimpArgs false
namespace Go.Proofs.YtfjflodicgjihaaGreatDoor.Den
open Go Go.RowKit
/-- flagstone/flagstoneref15.Digits -/
def ref15Digits (n : Int) : Option ByteArray :=
 bif (decide (n < (0 : Int))) then (
 (ref15Natural (IntKind.wrap .u64 ((IntKind.wrap .u64 (IntKind.wrap .i64 (0 - (w64 (n + (1 : Int)))))) + (1 : Int)))).bind fun r_1 =>
 grd (¬ ((((bs [45]).size + r_1.size : Nat) : Int) > IntKind.i64.max)) <|
 some ((bs [45]) ++ r_1)
 ) else (
 (ref15Natural (IntKind.wrap .u64 n)).bind fun r_1 =>
 some r_1
 )
set_option maxRecDepth 100000 in
theorem ref15Digits_ok (k : Nat) (n : Int) (r : ByteArray) (h : ref15Digits n = some r) : run0 (k + 2) 63 [(pI n)] = some (pS r) := by
  unfold ref15Digits at h
  rcases bif_some h with ⟨q1, h⟩ | ⟨q1, h⟩
  · obtain ⟨r_1, q2, h⟩ := bnd_some h
    obtain ⟨q3, h⟩ := grd_some h
    obtain rfl := Option.some.inj h
    exact ret_go (k := (k + 1)) Tryz.func63 Tryz.ntmps63 (by kernel_rfl) (by kernel_rfl) (lb rfl) (adv [([], 1, 1, .eq (pB true)), ([], 2, 5, .ret (pS r_1)), ([], 2, 6, .cat)]) (ex := .ret) (r := (pS ((bs [45]) ++ r_1))) (by kernel_rfl) rfl (by kernel_rfl) (allC (cg q1) (allC (ref15Natural_ok k (IntKind.wrap .u64 ((IntKind.wrap .u64 (IntKind.wrap .i64 (0 - (w64 (n + (1 : Int)))))) + (1 : Int))) _ q2) (allC q3 allN))) (by kernel_rfl) allN
  · obtain ⟨r_1, q2, h⟩ := bnd_some h
    obtain rfl := Option.some.inj h
    exact ret_go (k := (k + 1)) Tryz.func63 Tryz.ntmps63 (by kernel_rfl) (by kernel_rfl) (lb rfl) (adv [([], 1, 1, .eq (pB false)), ([], 3, 2, .ret (pS r_1))]) (ex := .ret) (r := (pS r_1)) (by kernel_rfl) rfl (by kernel_rfl) (allC (cg q1) (allC (ref15Natural_ok k (IntKind.wrap .u64 n) _ q2) allN)) (by kernel_rfl) allN
/-- flagstone/flagstoneref15.Fail -/
def ref15Fail (j : JobD) (path : ByteArray) (e : Int) : Option JobD :=
 grd (¬ (((path.size + (bs [58, 32, 101, 114, 114, 111, 114, 32]).size : Nat) : Int) > IntKind.i64.max)) <|
 (ref15Digits e).bind fun r_1 =>
 grd (¬ ((((path ++ (bs [58, 32, 101, 114, 114, 111, 114, 32])).size + r_1.size : Nat) : Int) > IntKind.i64.max)) <|
 some (JobD.mk j.kind j.p j.phase j.fd j.nF j.modeF j.tries j.atF j.flags j.path j.path2 j.text j.names j.stack j.draws true (1 : Int) ((path ++ (bs [58, 32, 101, 114, 114, 111, 114, 32])) ++ r_1) e)
set_option maxRecDepth 100000 in
theorem ref15Fail_ok (k : Nat) (j : JobD) (path : ByteArray) (e : Int) (r : JobD) (h : ref15Fail j path e = some r) : run0 (k + 3) 33 [(JobD.a j), (pS path), (pI e)] = some (JobD.a r) := by
  unfold ref15Fail at h
  obtain ⟨q1, h⟩ := grd_some h
  obtain ⟨r_1, q2, h⟩ := bnd_some h
  obtain ⟨q3, h⟩ := grd_some h
  obtain rfl := Option.some.inj h
  exact ret_go (k := (k + 2)) Tryz.func33 Tryz.ntmps33 (by kernel_rfl) (by kernel_rfl) (lb rfl) (adv [([], 4, 1, .cat), ([], 4, 3, .ret (pS r_1)), ([], 4, 4, .cat)]) (ex := .ret) (r := (.agg [(pI j.kind), (pI j.p), (pI j.phase), (pI j.fd), (pI j.nF), (pI j.modeF), (pI j.tries), (pI j.atF), (pI j.flags), (pS j.path), (pS j.path2), (pS j.text), (.list 1 false (j.names.map cS)), (.list 3 false (j.stack.map FrameD.c)), (.list 1 false (j.draws.map cI)), (pB true), (pI (1 : Int)), (pS ((path ++ (bs [58, 32, 101, 114, 114, 111, 114, 32])) ++ r_1)), (pI e)])) (by kernel_rfl) rfl (by kernel_rfl) (allC q1 (allC (ref15Digits_ok k e _ q2) (allC q3 allN))) (by kernel_rfl) allN
/- flagstone/flagstoneref03.known: its loop at region 6 -/
noncomputable def ref03Known_L6 : Code := cAt (codeOf Tryz.f64) [true, true, true, true, false, true, false, false]
def ref03Known_R6 (x0 : ByteArray) (x1 : Int) (x2 : Bool) (x3 : Bool) (x4 : Int) : St := ⟨envL [(0, (pS x0)), (1, (.v (.int .u8 x1))), (6, (pB x2)), (7, (pB x3)), (8, (pI x4))], hsL [] []⟩
theorem ref03Known_R6_eq {x0 y0 : ByteArray} {x1 y1 : Int} {x2 y2 : Bool} {x3 y3 : Bool} {x4 y4 : Int} (h0 : x0 = y0) (h1 : x1 = y1) (h2 : x2 = y2) (h3 : x3 = y3) (h4 : x4 = y4) : ref03Known_R6 x0 x1 x2 x3 x4 = ref03Known_R6 y0 y1 y2 y3 y4 := by
  subst h0 h1 h2 h3 h4; rfl
def ref03Known_S6 (p0 : ByteArray) (p1 : Int) : (Bool × Bool × Int) → St
 | (v0, v1, v2) => ref03Known_R6 p0 p1 v0 v1 v2
def ref03Known_b6 (p0 : ByteArray) (p1 : Int) : (Bool × Bool × Int) → Option ((Bool × Bool × Int) ⊕ (Bool × Bool × Int))
 | (v0, v1, v2) =>
 bif (decide (v2 < (p0.size : Int))) then (
 (gtS p0 v2).bind fun b_1 =>
 bif ((b_1.toNat : Int) == p1) then (
 bif v1 then (
 some (.inl (true, true, (w64 (v2 + (1 : Int)))))
 ) else (
 bif (decide ((w64 (v2 + (1 : Int))) < (p0.size : Int))) then (
 (gtS p0 (w64 (v2 + (1 : Int)))).bind fun b_2 =>
 some (.inl (true, ((b_2.toNat : Int) == (58 : Int)), (w64 (v2 + (1 : Int)))))
 ) else (
 some (.inl (true, false, (w64 (v2 + (1 : Int)))))
 )
 )
 ) else (
 some (.inl (v0, v1, (w64 (v2 + (1 : Int)))))
 )
 ) else (
 some (.inr (v0, v1, v2))
 )
set_option maxRecDepth 100000 in
theorem ref03Known_t6 (k : Nat) (p0 : ByteArray) (p1 : Int) (a a1 : (Bool × Bool × Int)) (h : ref03Known_b6 p0 p1 a = some (.inl a1)) : ∃ σ, run1 k 64 0 39 ref03Known_L6 (ref03Known_S6 p0 p1 a) = some (.normal, σ) ∧ canonS 0 [0, 1, 6, 7, 8] σ = some (ref03Known_S6 p0 p1 a1) := by
  obtain ⟨v0, v1, v2⟩ := a
  unfold ref03Known_b6 at h
  try dsimp only at h
  rcases bif_some h with ⟨q1, h⟩ | ⟨q1, h⟩
  · obtain ⟨b_1, q2, h⟩ := bnd_some h
    rcases bif_some h with ⟨q3, h⟩ | ⟨q3, h⟩
    · rcases bif_some h with ⟨q4, h⟩ | ⟨q4, h⟩
      · obtain rfl := Sum.inl.inj (Option.some.inj h)
        exact ⟨_, run_go (k := k) (f := 64) (r0 := 0) (nt := 39) (c := ref03Known_L6) (σ := (ref03Known_S6 p0 p1 (v0, v1, v2))) (adv [([], 6, 3, .eq (pB true)), ([], 8, 2, .chr b_1), ([], 8, 4, .eq (pB true)), ([], 10, 1, .eq (pB true))]) (ex := .normal) (by kernel_rfl) (by kernel_rfl) (allC (cg q1) (allC q2 (allC (cg q3) (allC (cg q4) allN)))), (by kernel_rfl)⟩
      · rcases bif_some h with ⟨q5, h⟩ | ⟨q5, h⟩
        · obtain ⟨b_2, q6, h⟩ := bnd_some h
          obtain rfl := Sum.inl.inj (Option.some.inj h)
          exact ⟨_, run_go (k := k) (f := 64) (r0 := 0) (nt := 39) (c := ref03Known_L6) (σ := (ref03Known_S6 p0 p1 (v0, v1, v2))) (adv [([], 6, 3, .eq (pB true)), ([], 8, 2, .chr b_1), ([], 8, 4, .eq (pB true)), ([], 10, 1, .eq (pB false)), ([], 10, 7, .eq (pB true)), ([], 10, 11, .chr b_2)]) (ex := .normal) (by kernel_rfl) (by kernel_rfl) (allC (cg q1) (allC q2 (allC (cg q3) (allC (cg q4) (allC (cg q5) (allC q6 allN)))))), (by kernel_rfl)⟩
        · obtain rfl := Sum.inl.inj (Option.some.inj h)
          exact ⟨_, run_go (k := k) (f := 64) (r0 := 0) (nt := 39) (c := ref03Known_L6) (σ := (ref03Known_S6 p0 p1 (v0, v1, v2))) (adv [([], 6, 3, .eq (pB true)), ([], 8, 2, .chr b_1), ([], 8, 4, .eq (pB true)), ([], 10, 1, .eq (pB false)), ([], 10, 7, .eq (pB false))]) (ex := .normal) (by kernel_rfl) (by kernel_rfl) (allC (cg q1) (allC q2 (allC (cg q3) (allC (cg q4) (allC (cg q5) allN))))), (by kernel_rfl)⟩
    · obtain rfl := Sum.inl.inj (Option.some.inj h)
      exact ⟨_, run_go (k := k) (f := 64) (r0 := 0) (nt := 39) (c := ref03Known_L6) (σ := (ref03Known_S6 p0 p1 (v0, v1, v2))) (adv [([], 6, 3, .eq (pB true)), ([], 8, 2, .chr b_1), ([], 8, 4, .eq (pB false))]) (ex := .normal) (by kernel_rfl) (by kernel_rfl) (allC (cg q1) (allC q2 (allC (cg q3) allN))), (by kernel_rfl)⟩
  · cases h
/-- flagstone/flagstoneref03.known -/
def ref03Known (spec : ByteArray) (c : Int) : Option (Bool × Bool) :=
 bif (c == (58 : Int)) then (
 some (false, false)
 ) else (
 (iterN (ref03Known_b6 spec c) LF (false, false, (0 : Int))).bind fun (v_1, v_2, v_3) =>
 some (v_1, v_2)
 )
set_option maxRecDepth 100000 in
theorem ref03Known_ok (k : Nat) (spec : ByteArray) (c : Int) (r : (Bool × Bool)) (h : ref03Known spec c = some r) : run0 (k + 1) 64 [(pS spec), (.v (.int .u8 c))] = some (.tup [(pB r.1), (pB r.2)]) := by
  unfold ref03Known at h
  rcases bif_some h with ⟨q1, h⟩ | ⟨q1, h⟩
  · obtain rfl := Option.some.inj h
    exact ret_go (k := k) Tryz.func64 Tryz.ntmps64 (by kernel_rfl) (by kernel_rfl) (lb rfl) (adv [([], 1, 1, .eq (pB true))]) (ex := .ret) (r := (.tup [(pB false), (pB false)])) (by kernel_rfl) rfl (by kernel_rfl) (allC (cg q1) allN) (by kernel_rfl) allN
  · obtain ⟨X_1, q2, h⟩ := bnd_some h
    obtain ⟨a_1, q3, q4⟩ := loop_iter (f := run1 k 64 0 39 ref03Known_L6) (ref03Known_S6 spec c) (ref03Known_b6 spec c) (ref03Known_t6 k spec c) LF (false, false, (0 : Int)) _ (stOf (goStop k 64 0 39 (adv [([], 1, 1, .eq (pB false))]) 6 (codeOf Tryz.f64) (argS 64 [(pS spec), (.v (.int .u8 c))]))) q2 (by kernel_rfl)
    obtain ⟨v_1, v_2, v_3⟩ := a_1
    unfold ref03Known_b6 at q3
    try dsimp only at q3
    rcases bif_some q3 with ⟨q7, q3⟩ | ⟨q7, q3⟩
    · obtain ⟨b_1, q8, q3⟩ := bnd_some q3
      rcases bif_some q3 with ⟨q9, q3⟩ | ⟨q9, q3⟩
      · rcases bif_some q3 with ⟨q10, q3⟩ | ⟨q10, q3⟩
        · cases q3
        · rcases bif_some q3 with ⟨q11, q3⟩ | ⟨q11, q3⟩
          · obtain ⟨b_2, q12, q3⟩ := bnd_some q3
            cases q3
          · cases q3
      · cases q3
    · cases q3
      try dsimp only at h
      have q5 := run_go (k := k) (f := 64) (r0 := 0) (nt := 39) (c := ref03Known_L6) (σ := (ref03Known_S6 spec c (v_1, v_2, v_3))) (adv [([], 6, 3, .eq (pB false))]) (ex := (.exit 0)) (by kernel_rfl) (by kernel_rfl) (allC (cg q7) allN)
      have q6 := q4 _ _ (by intro e; cases e) q5
      obtain rfl := Option.some.inj h
      exact ret_go (k := k) Tryz.func64 Tryz.ntmps64 (by kernel_rfl) (by kernel_rfl) (lb rfl) (adv [([], 1, 1, .eq (pB false))] [([], 6, (.exit 0), (stOf (go k 64 0 39 (adv [([], 6, 3, .eq (pB false))]) ref03Known_L6 (ref03Known_S6 spec c (v_1, v_2, v_3)))))]) (ex := .ret) (r := (.tup [(pB v_1), (pB v_2)])) (by kernel_rfl) rfl (by kernel_rfl) (allC (cg q1) (allC q6 allN)) (by kernel_rfl) allN
end Go.Proofs.YtfjflodicgjihaaGreatDoor.Den
namespace Go.Proofs.YtfjflodicgjihaaGreatDoor.Den
open Go Go.RowKit
/- flagstone/flagstoneref03.Parse: its loop at region 10 -/
noncomputable def ref03Parse_L10 : Code := cAt (codeOf Tryz.f34) [true, true, true, false, false, false, true, false, true, true, true, true, true, false, false]
def ref03Parse_R10 (x0 : ByteArray) (x1 : List (List PV)) (x2 : Nat) (x3 : Int) (x4 : ByteArray) (x5 : Int) (x6 : List (List PV)) : St := ⟨envL [(0, (pS x0)), (1, (.list 1 false x1)), (7, (.row [0, TAG] 1 0 x2)), (8, (pI x3)), (9, (pS x4)), (10, (pI x5))], hsL [some ⟨2, 150, x6, true, true⟩] [0]⟩
theorem ref03Parse_R10_eq {x0 y0 : ByteArray} {x1 y1 : List (List PV)} {x2 y2 : Nat} {x3 y3 : Int} {x4 y4 : ByteArray} {x5 y5 : Int} {x6 y6 : List (List PV)} (h0 : x0 = y0) (h1 : x1 = y1) (h2 : x2 = y2) (h3 : x3 = y3) (h4 : x4 = y4) (h5 : x5 = y5) (h6 : x6 = y6) : ref03Parse_R10 x0 x1 x2 x3 x4 x5 x6 = ref03Parse_R10 y0 y1 y2 y3 y4 y5 y6 := by
  subst h0 h1 h2 h3 h4 h5 h6; rfl
def ref03Parse_S10 (p0 : ByteArray) (p1 : (List ByteArray)) (p2 : ByteArray) : (Int × Int × (List FlagD)) → St
 | (v0, v1, v2) => ref03Parse_R10 p0 (p1.map cS) v2.length v0 p2 v1 (v2.map FlagD.c)
def ref03Parse_b10 (p0 : ByteArray) (p1 : (List ByteArray)) (p2 : ByteArray) : (Int × Int × (List FlagD)) → Option ((Int × Int × (List FlagD)) ⊕ ((Int × Int × (List FlagD) × UInt8 × Bool × Bool) ⊕ (Int × Int × (List FlagD) × UInt8 × Bool × Bool × UInt8) ⊕ (Int × Int × (List FlagD) × UInt8 × Bool × Bool) ⊕ (Int × Int × (List FlagD))))
 | (v0, v1, v2) =>
 bif (decide (v1 < (p2.size : Int))) then (
 (gtS p2 v1).bind fun b_1 =>
 (ref03Known p0 (b_1.toNat : Int)).bind fun (r_1, r_2) =>
 bif (!r_1) then (
 some (.inr (.inl (v0, v1, v2, b_1, r_1, r_2)))
 ) else (
 bif (!r_2) then (
 (gtS p2 v1).bind fun b_2 =>
 grd (room (v2.length + 1) 24) <|
 some (.inl (v0, (w64 (v1 + (1 : Int))), (v2 ++ [(FlagD.mk (b_2.toNat : Int) (bs []))])))
 ) else (
 bif (decide ((w64 (v1 + (1 : Int))) < (p2.size : Int))) then (
 (gtS p2 v1).bind fun b_2 =>
 grd (0 ≤ (w64 (v1 + (1 : Int))) ∧ (w64 (v1 + (1 : Int))) ≤ (p2.size : Int) ∧ (p2.size : Int) ≤ (p2.size : Int)) <|
 grd (room (v2.length + 1) 24) <|
 some (.inr (.inr (.inl (v0, v1, v2, b_1, r_1, r_2, b_2))))
 ) else (
 bif (v0 == (p1.length : Int)) then (
 some (.inr (.inr (.inr (.inl (v0, v1, v2, b_1, r_1, r_2)))))
 ) else (
 (gtS p2 v1).bind fun b_2 =>
 (gt p1 v0).bind fun y_1 =>
 grd (room (v2.length + 1) 24) <|
 some (.inl ((w64 (v0 + (1 : Int))), (w64 (v1 + (1 : Int))), (v2 ++ [(FlagD.mk (b_2.toNat : Int) y_1)])))
 )
 )
 )
 )
 ) else (
 some (.inr (.inr (.inr (.inr ((v0, v1, v2))))))
 )
set_option maxRecDepth 100000 in
theorem ref03Parse_t10 (k : Nat) (p0 : ByteArray) (p1 : (List ByteArray)) (p2 : ByteArray) (a a1 : (Int × Int × (List FlagD))) (h : ref03Parse_b10 p0 p1 p2 a = some (.inl a1)) : ∃ σ, run1 (k + 1) 34 0 103 ref03Parse_L10 (ref03Parse_S10 p0 p1 p2 a) = some (.normal, σ) ∧ canonS 0 [0, 1, 7, 8, 9, 10] σ = some (ref03Parse_S10 p0 p1 p2 a1) := by
  obtain ⟨v0, v1, v2⟩ := a
  unfold ref03Parse_b10 at h
  try dsimp only at h
  rcases bif_some h with ⟨q1, h⟩ | ⟨q1, h⟩
  · obtain ⟨b_1, q2, h⟩ := bnd_some h
    obtain ⟨⟨r_1, r_2⟩, q3, h⟩ := bnd_some h
    try dsimp only at h
    rcases bif_some h with ⟨q4, h⟩ | ⟨q4, h⟩
    · cases h
    · rcases bif_some h with ⟨q5, h⟩ | ⟨q5, h⟩
      · obtain ⟨b_2, q6, h⟩ := bnd_some h
        obtain ⟨q7, h⟩ := grd_some h
        obtain rfl := Sum.inl.inj (Option.some.inj h)
        exact ⟨_, run_go (k := (k + 1)) (f := 34) (r0 := 0) (nt := 103) (c := ref03Parse_L10) (σ := (ref03Parse_S10 p0 p1 p2 (v0, v1, v2))) (adv [([], 10, 3, .eq (pB true)), ([], 12, 3, .chr b_1), ([], 12, 4, .ret (.tup [(pB r_1), (pB r_2)])), ([], 13, 1, .eq (pB false)), ([], 15, 1, .eq (pB true)), ([], 16, 3, .chr b_2), ([], 16, 6, .ok)]) (ex := .normal) (by kernel_rfl) (by kernel_rfl) (allC (cg q1) (allC q2 (allC (ref03Known_ok k p0 (b_1.toNat : Int) _ q3) (allC (cg q4) (allC (cg q5) (allC q6 (allC (app_ok (rfl : (v2.map FlagD.c) = v2.map FlagD.c) (rfl : v2.length = v2.length) q7) allN))))))), (Eq.trans (b := some (ref03Parse_R10 p0 (p1.map cS) (v2.length + 1) v0 p2 (w64 (v1 + (1 : Int))) ((v2.map FlagD.c) ++ [[(.v (.int .u8 (b_2.toNat : Int))), (pS (bs []))]]))) (by kernel_rfl) (congrArg some ((ref03Parse_R10_eq (rfl : p0 = p0) (rfl : (p1.map cS) = (p1.map cS)) ((len_cat (rfl : v2.length = v2.length) v2 (rfl : 1 = ([(FlagD.mk (b_2.toNat : Int) (bs []))]).length)) : (v2.length + 1) = ((v2 ++ [(FlagD.mk (b_2.toNat : Int) (bs []))]).length)) (rfl : v0 = v0) (rfl : p2 = p2) (rfl : (w64 (v1 + (1 : Int))) = (w64 (v1 + (1 : Int)))) ((enc_cat (rfl : (v2.map FlagD.c) = v2.map FlagD.c) (show [[(.v (.int .u8 (b_2.toNat : Int))), (pS (bs []))]] = ([(FlagD.mk (b_2.toNat : Int) (bs []))]).map FlagD.c from rfl)) : ((v2.map FlagD.c) ++ [[(.v (.int .u8 (b_2.toNat : Int))), (pS (bs []))]]) = ((v2 ++ [(FlagD.mk (b_2.toNat : Int) (bs []))]).map FlagD.c))).trans (by kernel_rfl : ref03Parse_R10 p0 (p1.map cS) ((v2 ++ [(FlagD.mk (b_2.toNat : Int) (bs []))]).length) v0 p2 (w64 (v1 + (1 : Int))) ((v2 ++ [(FlagD.mk (b_2.toNat : Int) (bs []))]).map FlagD.c) = ref03Parse_S10 p0 p1 p2 (v0, (w64 (v1 + (1 : Int))), (v2 ++ [(FlagD.mk (b_2.toNat : Int) (bs []))]))))))⟩
      · rcases bif_some h with ⟨q6, h⟩ | ⟨q6, h⟩
        · obtain ⟨b_2, q7, h⟩ := bnd_some h
          obtain ⟨q8, h⟩ := grd_some h
          obtain ⟨q9, h⟩ := grd_some h
          cases h
        · rcases bif_some h with ⟨q7, h⟩ | ⟨q7, h⟩
          · cases h
          · obtain ⟨b_2, q8, h⟩ := bnd_some h
            obtain ⟨y_1, q9, h⟩ := bnd_some h
            obtain ⟨q10, h⟩ := grd_some h
            obtain rfl := Sum.inl.inj (Option.some.inj h)
            exact ⟨_, run_go (k := (k + 1)) (f := 34) (r0 := 0) (nt := 103) (c := ref03Parse_L10) (σ := (ref03Parse_S10 p0 p1 p2 (v0, v1, v2))) (adv [([], 10, 3, .eq (pB true)), ([], 12, 3, .chr b_1), ([], 12, 4, .ret (.tup [(pB r_1), (pB r_2)])), ([], 13, 1, .eq (pB false)), ([], 15, 1, .eq (pB false)), ([], 17, 4, .eq (pB false)), ([], 19, 2, .eq (pI (p1.length : Int))), ([], 19, 3, .eq (pB false)), ([], 21, 3, .chr b_2), ([], 21, 6, .elem [(pS y_1)]), ([], 21, 10, .ok)]) (ex := .normal) (by kernel_rfl) (by kernel_rfl) (allC (cg q1) (allC q2 (allC (ref03Known_ok k p0 (b_1.toNat : Int) _ q3) (allC (cg q4) (allC (cg q5) (allC (cg q6) (allC (len_ob (rfl : (p1.map cS) = p1.map cS)) (allC (cg q7) (allC q8 (allC (gt_list (c := cS) q9) (allC (app_ok (rfl : (v2.map FlagD.c) = v2.map FlagD.c) (rfl : v2.length = v2.length) q10) allN))))))))))), (Eq.trans (b := some (ref03Parse_R10 p0 (p1.map cS) (v2.length + 1) (w64 (v0 + (1 : Int))) p2 (w64 (v1 + (1 : Int))) ((v2.map FlagD.c) ++ [[(.v (.int .u8 (b_2.toNat : Int))), (pS y_1)]]))) (by kernel_rfl) (congrArg some ((ref03Parse_R10_eq (rfl : p0 = p0) (rfl : (p1.map cS) = (p1.map cS)) ((len_cat (rfl : v2.length = v2.length) v2 (rfl : 1 = [(FlagD.mk (b_2.toNat : Int) y_1)].length)) : (v2.length + 1) = ((v2 ++ [(FlagD.mk (b_2.toNat : Int) y_1)]).length)) (rfl : (w64 (v0 + (1 : Int))) = (w64 (v0 + (1 : Int)))) (rfl : p2 = p2) (rfl : (w64 (v1 + (1 : Int))) = (w64 (v1 + (1 : Int)))) ((enc_cat (rfl : (v2.map FlagD.c) = v2.map FlagD.c) (show [[(.v (.int .u8 (b_2.toNat : Int))), (pS y_1)]] = [(FlagD.mk (b_2.toNat : Int) y_1)].map FlagD.c from rfl)) : ((v2.map FlagD.c) ++ [[(.v (.int .u8 (b_2.toNat : Int))), (pS y_1)]]) = ((v2 ++ [(FlagD.mk (b_2.toNat : Int) y_1)]).map FlagD.c))).trans (by kernel_rfl : ref03Parse_R10 p0 (p1.map cS) ((v2 ++ [(FlagD.mk (b_2.toNat : Int) y_1)]).length) (w64 (v0 + (1 : Int))) p2 (w64 (v1 + (1 : Int))) ((v2 ++ [(FlagD.mk (b_2.toNat : Int) y_1)]).map FlagD.c) = ref03Parse_S10 p0 p1 p2 ((w64 (v0 + (1 : Int))), (w64 (v1 + (1 : Int))), (v2 ++ [(FlagD.mk (b_2.toNat : Int) y_1)]))))))⟩
  · cases h
/- flagstone/flagstoneref03.Parse: its loop at region 10 -/
noncomputable def ref03Parse_L10x1 : Code := cAt (codeOf Tryz.f34) [true, true, true, false, false, false, true, false, true, true, true, true, true, false, false]
def ref03Parse_R10x1 (x0 : ByteArray) (x1 : List (List PV)) (x2 : Nat) (x3 : Int) (x4 : ByteArray) (x5 : Int) (x6 : List (List PV)) : St := ⟨envL [(0, (pS x0)), (1, (.list 1 false x1)), (7, (.row [0, TAG] 1 0 x2)), (8, (pI x3)), (9, (pS x4)), (10, (pI x5))], hsL [some ⟨2, 150, x6, true, true⟩] [0]⟩
theorem ref03Parse_R10x1_eq {x0 y0 : ByteArray} {x1 y1 : List (List PV)} {x2 y2 : Nat} {x3 y3 : Int} {x4 y4 : ByteArray} {x5 y5 : Int} {x6 y6 : List (List PV)} (h0 : x0 = y0) (h1 : x1 = y1) (h2 : x2 = y2) (h3 : x3 = y3) (h4 : x4 = y4) (h5 : x5 = y5) (h6 : x6 = y6) : ref03Parse_R10x1 x0 x1 x2 x3 x4 x5 x6 = ref03Parse_R10x1 y0 y1 y2 y3 y4 y5 y6 := by
  subst h0 h1 h2 h3 h4 h5 h6; rfl
def ref03Parse_S10x1 (p0 : ByteArray) (p1 : (List ByteArray)) (p2 : ByteArray) : (Int × Int × (List FlagD)) → St
 | (v0, v1, v2) => ref03Parse_R10x1 p0 (p1.map cS) v2.length v0 p2 v1 (v2.map FlagD.c)
def ref03Parse_b10x1 (p0 : ByteArray) (p1 : (List ByteArray)) (p2 : ByteArray) : (Int × Int × (List FlagD)) → Option ((Int × Int × (List FlagD)) ⊕ ((Int × Int × (List FlagD) × UInt8 × Bool × Bool) ⊕ (Int × Int × (List FlagD) × UInt8 × Bool × Bool × UInt8) ⊕ (Int × Int × (List FlagD) × UInt8 × Bool × Bool) ⊕ (Int × Int × (List FlagD))))
 | (v0, v1, v2) =>
 bif (decide (v1 < (p2.size : Int))) then (
 (gtS p2 v1).bind fun b_1 =>
 (ref03Known p0 (b_1.toNat : Int)).bind fun (r_1, r_2) =>
 bif (!r_1) then (
 some (.inr (.inl (v0, v1, v2, b_1, r_1, r_2)))
 ) else (
 bif (!r_2) then (
 (gtS p2 v1).bind fun b_2 =>
 grd (room (v2.length + 1) 24) <|
 some (.inl (v0, (w64 (v1 + (1 : Int))), (v2 ++ [(FlagD.mk (b_2.toNat : Int) (bs []))])))
 ) else (
 bif (decide ((w64 (v1 + (1 : Int))) < (p2.size : Int))) then (
 (gtS p2 v1).bind fun b_2 =>
 grd (0 ≤ (w64 (v1 + (1 : Int))) ∧ (w64 (v1 + (1 : Int))) ≤ (p2.size : Int) ∧ (p2.size : Int) ≤ (p2.size : Int)) <|
 grd (room (v2.length + 1) 24) <|
 some (.inr (.inr (.inl (v0, v1, v2, b_1, r_1, r_2, b_2))))
 ) else (
 bif (v0 == (p1.length : Int)) then (
 some (.inr (.inr (.inr (.inl (v0, v1, v2, b_1, r_1, r_2)))))
 ) else (
 (gtS p2 v1).bind fun b_2 =>
 (gt p1 v0).bind fun y_1 =>
 grd (room (v2.length + 1) 24) <|
 some (.inl ((w64 (v0 + (1 : Int))), (w64 (v1 + (1 : Int))), (v2 ++ [(FlagD.mk (b_2.toNat : Int) y_1)])))
 )
 )
 )
 )
 ) else (
 some (.inr (.inr (.inr (.inr ((v0, v1, v2))))))
 )
set_option maxRecDepth 100000 in
theorem ref03Parse_t10x1 (k : Nat) (p0 : ByteArray) (p1 : (List ByteArray)) (p2 : ByteArray) (a a1 : (Int × Int × (List FlagD))) (h : ref03Parse_b10x1 p0 p1 p2 a = some (.inl a1)) : ∃ σ, run1 (k + 1) 34 0 103 ref03Parse_L10x1 (ref03Parse_S10x1 p0 p1 p2 a) = some (.normal, σ) ∧ canonS 0 [0, 1, 7, 8, 9, 10] σ = some (ref03Parse_S10x1 p0 p1 p2 a1) := by
  obtain ⟨v0, v1, v2⟩ := a
  unfold ref03Parse_b10x1 at h
  try dsimp only at h
  rcases bif_some h with ⟨q1, h⟩ | ⟨q1, h⟩
  · obtain ⟨b_1, q2, h⟩ := bnd_some h
    obtain ⟨⟨r_1, r_2⟩, q3, h⟩ := bnd_some h
    try dsimp only at h
    rcases bif_some h with ⟨q4, h⟩ | ⟨q4, h⟩
    · cases h
    · rcases bif_some h with ⟨q5, h⟩ | ⟨q5, h⟩
      · obtain ⟨b_2, q6, h⟩ := bnd_some h
        obtain ⟨q7, h⟩ := grd_some h
        obtain rfl := Sum.inl.inj (Option.some.inj h)
        exact ⟨_, run_go (k := (k + 1)) (f := 34) (r0 := 0) (nt := 103) (c := ref03Parse_L10x1) (σ := (ref03Parse_S10x1 p0 p1 p2 (v0, v1, v2))) (adv [([], 10, 3, .eq (pB true)), ([], 12, 3, .chr b_1), ([], 12, 4, .ret (.tup [(pB r_1), (pB r_2)])), ([], 13, 1, .eq (pB false)), ([], 15, 1, .eq (pB true)), ([], 16, 3, .chr b_2), ([], 16, 6, .ok)]) (ex := .normal) (by kernel_rfl) (by kernel_rfl) (allC (cg q1) (allC q2 (allC (ref03Known_ok k p0 (b_1.toNat : Int) _ q3) (allC (cg q4) (allC (cg q5) (allC q6 (allC (app_ok (rfl : (v2.map FlagD.c) = v2.map FlagD.c) (rfl : v2.length = v2.length) q7) allN))))))), (Eq.trans (b := some (ref03Parse_R10x1 p0 (p1.map cS) (v2.length + 1) v0 p2 (w64 (v1 + (1 : Int))) ((v2.map FlagD.c) ++ [[(.v (.int .u8 (b_2.toNat : Int))), (pS (bs []))]]))) (by kernel_rfl) (congrArg some ((ref03Parse_R10x1_eq (rfl : p0 = p0) (rfl : (p1.map cS) = (p1.map cS)) ((len_cat (rfl : v2.length = v2.length) v2 (rfl : 1 = ([(FlagD.mk (b_2.toNat : Int) (bs []))]).length)) : (v2.length + 1) = ((v2 ++ [(FlagD.mk (b_2.toNat : Int) (bs []))]).length)) (rfl : v0 = v0) (rfl : p2 = p2) (rfl : (w64 (v1 + (1 : Int))) = (w64 (v1 + (1 : Int)))) ((enc_cat (rfl : (v2.map FlagD.c) = v2.map FlagD.c) (show [[(.v (.int .u8 (b_2.toNat : Int))), (pS (bs []))]] = ([(FlagD.mk (b_2.toNat : Int) (bs []))]).map FlagD.c from rfl)) : ((v2.map FlagD.c) ++ [[(.v (.int .u8 (b_2.toNat : Int))), (pS (bs []))]]) = ((v2 ++ [(FlagD.mk (b_2.toNat : Int) (bs []))]).map FlagD.c))).trans (by kernel_rfl : ref03Parse_R10x1 p0 (p1.map cS) ((v2 ++ [(FlagD.mk (b_2.toNat : Int) (bs []))]).length) v0 p2 (w64 (v1 + (1 : Int))) ((v2 ++ [(FlagD.mk (b_2.toNat : Int) (bs []))]).map FlagD.c) = ref03Parse_S10x1 p0 p1 p2 (v0, (w64 (v1 + (1 : Int))), (v2 ++ [(FlagD.mk (b_2.toNat : Int) (bs []))]))))))⟩
      · rcases bif_some h with ⟨q6, h⟩ | ⟨q6, h⟩
        · obtain ⟨b_2, q7, h⟩ := bnd_some h
          obtain ⟨q8, h⟩ := grd_some h
          obtain ⟨q9, h⟩ := grd_some h
          cases h
        · rcases bif_some h with ⟨q7, h⟩ | ⟨q7, h⟩
          · cases h
          · obtain ⟨b_2, q8, h⟩ := bnd_some h
            obtain ⟨y_1, q9, h⟩ := bnd_some h
            obtain ⟨q10, h⟩ := grd_some h
            obtain rfl := Sum.inl.inj (Option.some.inj h)
            exact ⟨_, run_go (k := (k + 1)) (f := 34) (r0 := 0) (nt := 103) (c := ref03Parse_L10x1) (σ := (ref03Parse_S10x1 p0 p1 p2 (v0, v1, v2))) (adv [([], 10, 3, .eq (pB true)), ([], 12, 3, .chr b_1), ([], 12, 4, .ret (.tup [(pB r_1), (pB r_2)])), ([], 13, 1, .eq (pB false)), ([], 15, 1, .eq (pB false)), ([], 17, 4, .eq (pB false)), ([], 19, 2, .eq (pI (p1.length : Int))), ([], 19, 3, .eq (pB false)), ([], 21, 3, .chr b_2), ([], 21, 6, .elem [(pS y_1)]), ([], 21, 10, .ok)]) (ex := .normal) (by kernel_rfl) (by kernel_rfl) (allC (cg q1) (allC q2 (allC (ref03Known_ok k p0 (b_1.toNat : Int) _ q3) (allC (cg q4) (allC (cg q5) (allC (cg q6) (allC (len_ob (rfl : (p1.map cS) = p1.map cS)) (allC (cg q7) (allC q8 (allC (gt_list (c := cS) q9) (allC (app_ok (rfl : (v2.map FlagD.c) = v2.map FlagD.c) (rfl : v2.length = v2.length) q10) allN))))))))))), (Eq.trans (b := some (ref03Parse_R10x1 p0 (p1.map cS) (v2.length + 1) (w64 (v0 + (1 : Int))) p2 (w64 (v1 + (1 : Int))) ((v2.map FlagD.c) ++ [[(.v (.int .u8 (b_2.toNat : Int))), (pS y_1)]]))) (by kernel_rfl) (congrArg some ((ref03Parse_R10x1_eq (rfl : p0 = p0) (rfl : (p1.map cS) = (p1.map cS)) ((len_cat (rfl : v2.length = v2.length) v2 (rfl : 1 = [(FlagD.mk (b_2.toNat : Int) y_1)].length)) : (v2.length + 1) = ((v2 ++ [(FlagD.mk (b_2.toNat : Int) y_1)]).length)) (rfl : (w64 (v0 + (1 : Int))) = (w64 (v0 + (1 : Int)))) (rfl : p2 = p2) (rfl : (w64 (v1 + (1 : Int))) = (w64 (v1 + (1 : Int)))) ((enc_cat (rfl : (v2.map FlagD.c) = v2.map FlagD.c) (show [[(.v (.int .u8 (b_2.toNat : Int))), (pS y_1)]] = [(FlagD.mk (b_2.toNat : Int) y_1)].map FlagD.c from rfl)) : ((v2.map FlagD.c) ++ [[(.v (.int .u8 (b_2.toNat : Int))), (pS y_1)]]) = ((v2 ++ [(FlagD.mk (b_2.toNat : Int) y_1)]).map FlagD.c))).trans (by kernel_rfl : ref03Parse_R10x1 p0 (p1.map cS) ((v2 ++ [(FlagD.mk (b_2.toNat : Int) y_1)]).length) (w64 (v0 + (1 : Int))) p2 (w64 (v1 + (1 : Int))) ((v2 ++ [(FlagD.mk (b_2.toNat : Int) y_1)]).map FlagD.c) = ref03Parse_S10x1 p0 p1 p2 ((w64 (v0 + (1 : Int))), (w64 (v1 + (1 : Int))), (v2 ++ [(FlagD.mk (b_2.toNat : Int) y_1)]))))))⟩
  · cases h
/- flagstone/flagstoneref03.Parse: its loop at region 3 -/
noncomputable def ref03Parse_L3 : Code := cAt (codeOf Tryz.f34) [true, true, true, false, false, false]
def ref03Parse_R3 (x0 : ByteArray) (x1 : List (List PV)) (x2 : Nat) (x3 : Int) (x4 : List (List PV)) : St := ⟨envL [(0, (pS x0)), (1, (.list 1 false x1)), (7, (.row [0, TAG] 1 0 x2)), (8, (pI x3))], hsL [some ⟨2, 150, x4, true, true⟩] [0]⟩
theorem ref03Parse_R3_eq {x0 y0 : ByteArray} {x1 y1 : List (List PV)} {x2 y2 : Nat} {x3 y3 : Int} {x4 y4 : List (List PV)} (h0 : x0 = y0) (h1 : x1 = y1) (h2 : x2 = y2) (h3 : x3 = y3) (h4 : x4 = y4) : ref03Parse_R3 x0 x1 x2 x3 x4 = ref03Parse_R3 y0 y1 y2 y3 y4 := by
  subst h0 h1 h2 h3 h4; rfl
def ref03Parse_S3 (p0 : ByteArray) (p1 : (List ByteArray)) : (Int × (List FlagD)) → St
 | (v0, v1) => ref03Parse_R3 p0 (p1.map cS) v1.length v0 (v1.map FlagD.c)
def ref03Parse_b3 (p0 : ByteArray) (p1 : (List ByteArray)) : (Int × (List FlagD)) → Option ((Int × (List FlagD)) ⊕ ((Int × (List FlagD) × ByteArray) ⊕ (Int × (List FlagD) × ByteArray) ⊕ (Int × (List FlagD) × ByteArray) ⊕ (Int × (List FlagD) × ByteArray × UInt8) ⊕ (Int × (List FlagD) × ByteArray × UInt8 × Int × Int × (List FlagD) × UInt8 × Bool × Bool) ⊕ (Int × (List FlagD) × ByteArray × UInt8 × Int × Int × (List FlagD) × UInt8 × Bool × Bool) ⊕ (Int × (List FlagD))))
 | (v0, v1) =>
 bif (decide (v0 < (p1.length : Int))) then (
 (gt p1 v0).bind fun y_1 =>
 bif (seq y_1 (bs [45, 45])) then (
 some (.inr (.inl (v0, v1, y_1)))
 ) else (
 bif (seq y_1 (bs [45])) then (
 some (.inr (.inr (.inl (v0, v1, y_1))))
 ) else (
 bif (seq y_1 (bs [])) then (
 some (.inr (.inr (.inr (.inl (v0, v1, y_1)))))
 ) else (
 (gtS y_1 (0 : Int)).bind fun b_1 =>
 bif ((b_1.toNat : Int) != (45 : Int)) then (
 some (.inr (.inr (.inr (.inr (.inl (v0, v1, y_1, b_1))))))
 ) else (
 (iterN (ref03Parse_b10x1 p0 p1 y_1) LF ((w64 (v0 + (1 : Int))), (1 : Int), v1)).bind fun X_1 => match X_1 with
 | .inl (v_1, v_2, v_3, b_2, r_1, r_2) => (
 some (.inr (.inr (.inr (.inr (.inr (.inl (v0, v1, y_1, b_1, v_1, v_2, v_3, b_2, r_1, r_2)))))))
 )
 | .inr (.inl (v_1, v_2, v_3, b_2, r_1, r_2, b_3)) => (
 some (.inl (v_1, (v_3 ++ [(FlagD.mk (b_3.toNat : Int) (y_1.extract ((w64 (v_2 + (1 : Int)))).toNat y_1.size))])))
 )
 | .inr (.inr (.inl (v_1, v_2, v_3, b_2, r_1, r_2))) => (
 some (.inr (.inr (.inr (.inr (.inr (.inr (.inl (v0, v1, y_1, b_1, v_1, v_2, v_3, b_2, r_1, r_2))))))))
 )
 | .inr (.inr (.inr ((v_1, v_2, v_3)))) => (
 some (.inl (v_1, v_3))
 )
 )
 )
 )
 )
 ) else (
 some (.inr (.inr (.inr (.inr (.inr (.inr (.inr ((v0, v1)))))))))
 )
set_option maxRecDepth 100000 in
theorem ref03Parse_t3 (k : Nat) (p0 : ByteArray) (p1 : (List ByteArray)) (a a1 : (Int × (List FlagD))) (h : ref03Parse_b3 p0 p1 a = some (.inl a1)) : ∃ σ, run1 (k + 1) 34 0 103 ref03Parse_L3 (ref03Parse_S3 p0 p1 a) = some (.normal, σ) ∧ canonS 0 [0, 1, 7, 8] σ = some (ref03Parse_S3 p0 p1 a1) := by
  obtain ⟨v0, v1⟩ := a
  unfold ref03Parse_b3 at h
  try dsimp only at h
  rcases bif_some h with ⟨q1, h⟩ | ⟨q1, h⟩
  · obtain ⟨y_1, q2, h⟩ := bnd_some h
    rcases bif_some h with ⟨q3, h⟩ | ⟨q3, h⟩
    · cases h
    · rcases bif_some h with ⟨q4, h⟩ | ⟨q4, h⟩
      · cases h
      · rcases bif_some h with ⟨q5, h⟩ | ⟨q5, h⟩
        · cases h
        · obtain ⟨b_1, q6, h⟩ := bnd_some h
          rcases bif_some h with ⟨q7, h⟩ | ⟨q7, h⟩
          · cases h
          · obtain ⟨X_1, q8, h⟩ := bnd_some h
            obtain ⟨a_1, q9, q10⟩ := loop_iter (f := run1 (k + 1) 34 0 103 ref03Parse_L10x1) (ref03Parse_S10x1 p0 p1 y_1) (ref03Parse_b10x1 p0 p1 y_1) (ref03Parse_t10x1 k p0 p1 y_1) LF ((w64 (v0 + (1 : Int))), (1 : Int), v1) _ (stOf (goStop (k + 1) 34 0 103 (adv [([], 3, 2, .eq (pI (p1.length : Int))), ([], 3, 3, .eq (pB true)), ([], 4, 2, .elem [(pS y_1)]), ([], 5, 1, .eq (pB false)), ([], 7, 2, .eq (pB false)), ([], 7, 6, .eq (pB false)), ([], 7, 8, .chr b_1), ([], 7, 10, .eq (pB false))]) 10 (ref03Parse_L3) (ref03Parse_S3 p0 p1 (v0, v1)))) q8 (by kernel_rfl)
            obtain ⟨v_1, v_2, v_3⟩ := a_1
            unfold ref03Parse_b10x1 at q9
            try dsimp only at q9
            rcases bif_some q9 with ⟨q13, q9⟩ | ⟨q13, q9⟩
            · obtain ⟨b_2, q14, q9⟩ := bnd_some q9
              obtain ⟨⟨r_1, r_2⟩, q15, q9⟩ := bnd_some q9
              try dsimp only at q9
              rcases bif_some q9 with ⟨q16, q9⟩ | ⟨q16, q9⟩
              · cases q9
                try dsimp only at h
                have q11 := run_go (k := (k + 1)) (f := 34) (r0 := 0) (nt := 103) (c := ref03Parse_L10x1) (σ := (ref03Parse_S10x1 p0 p1 y_1 (v_1, v_2, v_3))) (adv [([], 10, 3, .eq (pB true)), ([], 12, 3, .chr b_2), ([], 12, 4, .ret (.tup [(pB r_1), (pB r_2)])), ([], 13, 1, .eq (pB true))]) (ex := .ret) (by kernel_rfl) (by kernel_rfl) (allC (cg q13) (allC q14 (allC (ref03Known_ok k p0 (b_2.toNat : Int) _ q15) (allC (cg q16) allN))))
                have q12 := q10 _ _ (by intro e; cases e) q11
                cases h
              · rcases bif_some q9 with ⟨q17, q9⟩ | ⟨q17, q9⟩
                · obtain ⟨b_3, q18, q9⟩ := bnd_some q9
                  obtain ⟨q19, q9⟩ := grd_some q9
                  cases q9
                · rcases bif_some q9 with ⟨q18, q9⟩ | ⟨q18, q9⟩
                  · obtain ⟨b_3, q19, q9⟩ := bnd_some q9
                    obtain ⟨q20, q9⟩ := grd_some q9
                    obtain ⟨q21, q9⟩ := grd_some q9
                    cases q9
                    try dsimp only at h
                    have q11 := run_go (k := (k + 1)) (f := 34) (r0 := 0) (nt := 103) (c := ref03Parse_L10x1) (σ := (ref03Parse_S10x1 p0 p1 y_1 (v_1, v_2, v_3))) (adv [([], 10, 3, .eq (pB true)), ([], 12, 3, .chr b_2), ([], 12, 4, .ret (.tup [(pB r_1), (pB r_2)])), ([], 13, 1, .eq (pB false)), ([], 15, 1, .eq (pB false)), ([], 17, 4, .eq (pB true)), ([], 18, 3, .chr b_3), ([], 18, 7, .sub false), ([], 18, 10, .ok)]) (ex := (.exit 2)) (by kernel_rfl) (by kernel_rfl) (allC (cg q13) (allC q14 (allC (ref03Known_ok k p0 (b_2.toNat : Int) _ q15) (allC (cg q16) (allC (cg q17) (allC (cg q18) (allC q19 (allC q20 (allC (app_ok (rfl : (v_3.map FlagD.c) = v_3.map FlagD.c) (rfl : v_3.length = v_3.length) q21) allN)))))))))
                    have q12 := q10 _ _ (by intro e; cases e) q11
                    obtain rfl := Sum.inl.inj (Option.some.inj h)
                    exact ⟨_, run_go (k := (k + 1)) (f := 34) (r0 := 0) (nt := 103) (c := ref03Parse_L3) (σ := (ref03Parse_S3 p0 p1 (v0, v1))) (adv [([], 3, 2, .eq (pI (p1.length : Int))), ([], 3, 3, .eq (pB true)), ([], 4, 2, .elem [(pS y_1)]), ([], 5, 1, .eq (pB false)), ([], 7, 2, .eq (pB false)), ([], 7, 6, .eq (pB false)), ([], 7, 8, .chr b_1), ([], 7, 10, .eq (pB false))] [([], 10, (.exit 2), (stOf (go (k + 1) 34 0 103 (adv [([], 10, 3, .eq (pB true)), ([], 12, 3, .chr b_2), ([], 12, 4, .ret (.tup [(pB r_1), (pB r_2)])), ([], 13, 1, .eq (pB false)), ([], 15, 1, .eq (pB false)), ([], 17, 4, .eq (pB true)), ([], 18, 3, .chr b_3), ([], 18, 7, .sub false), ([], 18, 10, .ok)]) ref03Parse_L10x1 (ref03Parse_S10x1 p0 p1 y_1 (v_1, v_2, v_3)))))]) (ex := .normal) (by kernel_rfl) (by kernel_rfl) (allC (len_ob (rfl : (p1.map cS) = p1.map cS)) (allC (cg q1) (allC (gt_list (c := cS) q2) (allC (cg q3) (allC (cg q4) (allC (cg q5) (allC q6 (allC (cg q7) (allC q12 allN))))))))), (Eq.trans (b := some (ref03Parse_R3 p0 (p1.map cS) (v_3.length + 1) v_1 ((v_3.map FlagD.c) ++ [[(.v (.int .u8 (b_3.toNat : Int))), (pS (y_1.extract ((w64 (v_2 + (1 : Int)))).toNat y_1.size))]]))) (by kernel_rfl) (congrArg some ((ref03Parse_R3_eq (rfl : p0 = p0) (rfl : (p1.map cS) = (p1.map cS)) ((len_cat (rfl : v_3.length = v_3.length) v_3 (rfl : 1 = [(FlagD.mk (b_3.toNat : Int) (y_1.extract ((w64 (v_2 + (1 : Int)))).toNat y_1.size))].length)) : (v_3.length + 1) = ((v_3 ++ [(FlagD.mk (b_3.toNat : Int) (y_1.extract ((w64 (v_2 + (1 : Int)))).toNat y_1.size))]).length)) (rfl : v_1 = v_1) ((enc_cat (rfl : (v_3.map FlagD.c) = v_3.map FlagD.c) (show [[(.v (.int .u8 (b_3.toNat : Int))), (pS (y_1.extract ((w64 (v_2 + (1 : Int)))).toNat y_1.size))]] = [(FlagD.mk (b_3.toNat : Int) (y_1.extract ((w64 (v_2 + (1 : Int)))).toNat y_1.size))].map FlagD.c from rfl)) : ((v_3.map FlagD.c) ++ [[(.v (.int .u8 (b_3.toNat : Int))), (pS (y_1.extract ((w64 (v_2 + (1 : Int)))).toNat y_1.size))]]) = ((v_3 ++ [(FlagD.mk (b_3.toNat : Int) (y_1.extract ((w64 (v_2 + (1 : Int)))).toNat y_1.size))]).map FlagD.c))).trans (by kernel_rfl : ref03Parse_R3 p0 (p1.map cS) ((v_3 ++ [(FlagD.mk (b_3.toNat : Int) (y_1.extract ((w64 (v_2 + (1 : Int)))).toNat y_1.size))]).length) v_1 ((v_3 ++ [(FlagD.mk (b_3.toNat : Int) (y_1.extract ((w64 (v_2 + (1 : Int)))).toNat y_1.size))]).map FlagD.c) = ref03Parse_S3 p0 p1 (v_1, (v_3 ++ [(FlagD.mk (b_3.toNat : Int) (y_1.extract ((w64 (v_2 + (1 : Int)))).toNat y_1.size))]))))))⟩
                  · rcases bif_some q9 with ⟨q19, q9⟩ | ⟨q19, q9⟩
                    · cases q9
                      try dsimp only at h
                      have q11 := run_go (k := (k + 1)) (f := 34) (r0 := 0) (nt := 103) (c := ref03Parse_L10x1) (σ := (ref03Parse_S10x1 p0 p1 y_1 (v_1, v_2, v_3))) (adv [([], 10, 3, .eq (pB true)), ([], 12, 3, .chr b_2), ([], 12, 4, .ret (.tup [(pB r_1), (pB r_2)])), ([], 13, 1, .eq (pB false)), ([], 15, 1, .eq (pB false)), ([], 17, 4, .eq (pB false)), ([], 19, 2, .eq (pI (p1.length : Int))), ([], 19, 3, .eq (pB true))]) (ex := .ret) (by kernel_rfl) (by kernel_rfl) (allC (cg q13) (allC q14 (allC (ref03Known_ok k p0 (b_2.toNat : Int) _ q15) (allC (cg q16) (allC (cg q17) (allC (cg q18) (allC (len_ob (rfl : (p1.map cS) = p1.map cS)) (allC (cg q19) allN))))))))
                      have q12 := q10 _ _ (by intro e; cases e) q11
                      cases h
                    · obtain ⟨b_3, q20, q9⟩ := bnd_some q9
                      obtain ⟨y_2, q21, q9⟩ := bnd_some q9
                      obtain ⟨q22, q9⟩ := grd_some q9
                      cases q9
            · cases q9
              try dsimp only at h
              have q11 := run_go (k := (k + 1)) (f := 34) (r0 := 0) (nt := 103) (c := ref03Parse_L10x1) (σ := (ref03Parse_S10x1 p0 p1 y_1 (v_1, v_2, v_3))) (adv [([], 10, 3, .eq (pB false))]) (ex := (.exit 2)) (by kernel_rfl) (by kernel_rfl) (allC (cg q13) allN)
              have q12 := q10 _ _ (by intro e; cases e) q11
              obtain rfl := Sum.inl.inj (Option.some.inj h)
              exact ⟨_, run_go (k := (k + 1)) (f := 34) (r0 := 0) (nt := 103) (c := ref03Parse_L3) (σ := (ref03Parse_S3 p0 p1 (v0, v1))) (adv [([], 3, 2, .eq (pI (p1.length : Int))), ([], 3, 3, .eq (pB true)), ([], 4, 2, .elem [(pS y_1)]), ([], 5, 1, .eq (pB false)), ([], 7, 2, .eq (pB false)), ([], 7, 6, .eq (pB false)), ([], 7, 8, .chr b_1), ([], 7, 10, .eq (pB false))] [([], 10, (.exit 2), (stOf (go (k + 1) 34 0 103 (adv [([], 10, 3, .eq (pB false))]) ref03Parse_L10x1 (ref03Parse_S10x1 p0 p1 y_1 (v_1, v_2, v_3)))))]) (ex := .normal) (by kernel_rfl) (by kernel_rfl) (allC (len_ob (rfl : (p1.map cS) = p1.map cS)) (allC (cg q1) (allC (gt_list (c := cS) q2) (allC (cg q3) (allC (cg q4) (allC (cg q5) (allC q6 (allC (cg q7) (allC q12 allN))))))))), (by kernel_rfl)⟩
  · cases h
/-- flagstone/flagstoneref03.Parse -/
def ref03Parse (spec : ByteArray) (argv : (List ByteArray)) : Option ((List FlagD) × (List ByteArray) × Int) :=
 (iterN (ref03Parse_b3 spec argv) LF ((0 : Int), ([] : (List FlagD)))).bind fun X_1 => match X_1 with
 | .inl (v_1, v_2, y_1) => (
 grd (0 ≤ (w64 (v_1 + (1 : Int))) ∧ (w64 (v_1 + (1 : Int))) ≤ (argv.length : Int) ∧ (argv.length : Int) ≤ (argv.length : Int)) <|
 grd (room (([] : (List ByteArray)).length + (argv.drop (((w64 (v_1 + (1 : Int)))).toNat)).length) 16) <|
 some (v_2, (([] : (List ByteArray)) ++ (argv.drop (((w64 (v_1 + (1 : Int)))).toNat))), (0 : Int))
 )
 | .inr (.inl (v_1, v_2, y_1)) => (
 grd (0 ≤ v_1 ∧ v_1 ≤ (argv.length : Int) ∧ (argv.length : Int) ≤ (argv.length : Int)) <|
 grd (room (([] : (List ByteArray)).length + (argv.drop ((v_1).toNat)).length) 16) <|
 some (v_2, (([] : (List ByteArray)) ++ (argv.drop ((v_1).toNat))), (0 : Int))
 )
 | .inr (.inr (.inl (v_1, v_2, y_1))) => (
 grd (0 ≤ v_1 ∧ v_1 ≤ (argv.length : Int) ∧ (argv.length : Int) ≤ (argv.length : Int)) <|
 grd (room (([] : (List ByteArray)).length + (argv.drop ((v_1).toNat)).length) 16) <|
 some (v_2, (([] : (List ByteArray)) ++ (argv.drop ((v_1).toNat))), (0 : Int))
 )
 | .inr (.inr (.inr (.inl (v_1, v_2, y_1, b_1)))) => (
 grd (0 ≤ v_1 ∧ v_1 ≤ (argv.length : Int) ∧ (argv.length : Int) ≤ (argv.length : Int)) <|
 grd (room (([] : (List ByteArray)).length + (argv.drop ((v_1).toNat)).length) 16) <|
 some (v_2, (([] : (List ByteArray)) ++ (argv.drop ((v_1).toNat))), (0 : Int))
 )
 | .inr (.inr (.inr (.inr (.inl (v_1, v_2, y_1, b_1, v_3, v_4, v_5, b_2, r_1, r_2))))) => (
 some ([], [], (30 : Int))
 )
 | .inr (.inr (.inr (.inr (.inr (.inl (v_1, v_2, y_1, b_1, v_3, v_4, v_5, b_2, r_1, r_2)))))) => (
 some ([], [], (31 : Int))
 )
 | .inr (.inr (.inr (.inr (.inr (.inr ((v_1, v_2))))))) => (
 grd (0 ≤ v_1 ∧ v_1 ≤ (argv.length : Int) ∧ (argv.length : Int) ≤ (argv.length : Int)) <|
 grd (room (([] : (List ByteArray)).length + (argv.drop ((v_1).toNat)).length) 16) <|
 some (v_2, (([] : (List ByteArray)) ++ (argv.drop ((v_1).toNat))), (0 : Int))
 )
set_option maxRecDepth 100000 in
theorem ref03Parse_ok (k : Nat) (spec : ByteArray) (argv : (List ByteArray)) (r : ((List FlagD) × (List ByteArray) × Int)) (h : ref03Parse spec argv = some r) : run0 (k + 2) 34 [(pS spec), (.list 1 false (argv.map cS))] = some (.tup [(.list 2 false (r.1.map FlagD.c)), (.list 1 false (r.2.1.map cS)), (pI r.2.2)]) := by
  unfold ref03Parse at h
  obtain ⟨X_1, q1, h⟩ := bnd_some h
  obtain ⟨a_1, q2, q3⟩ := loop_iter (f := run1 (k + 1) 34 0 103 ref03Parse_L3) (ref03Parse_S3 spec argv) (ref03Parse_b3 spec argv) (ref03Parse_t3 k spec argv) LF ((0 : Int), ([] : (List FlagD))) _ (stOf (goStop (k + 1) 34 0 103 (adv []) 3 (codeOf Tryz.f34) (argS 34 [(pS spec), (.list 1 false (argv.map cS))]))) q1 (Eq.trans (b := some (ref03Parse_R3 spec (argv.map cS) 0 (0 : Int) [])) (by kernel_rfl) (congrArg some ((ref03Parse_R3_eq (rfl : spec = spec) (rfl : (argv.map cS) = (argv.map cS)) (rfl : 0 = (([] : (List FlagD)).length)) (rfl : (0 : Int) = (0 : Int)) (rfl : [] = (([] : (List FlagD)).map FlagD.c))).trans (by kernel_rfl : ref03Parse_R3 spec (argv.map cS) (([] : (List FlagD)).length) (0 : Int) (([] : (List FlagD)).map FlagD.c) = ref03Parse_S3 spec argv ((0 : Int), ([] : (List FlagD)))))))
  obtain ⟨v_1, v_2⟩ := a_1
  unfold ref03Parse_b3 at q2
  try dsimp only at q2
  rcases bif_some q2 with ⟨q6, q2⟩ | ⟨q6, q2⟩
  · obtain ⟨y_1, q7, q2⟩ := bnd_some q2
    rcases bif_some q2 with ⟨q8, q2⟩ | ⟨q8, q2⟩
    · cases q2
      try dsimp only at h
      have q4 := run_go (k := (k + 1)) (f := 34) (r0 := 0) (nt := 103) (c := ref03Parse_L3) (σ := (ref03Parse_S3 spec argv (v_1, v_2))) (adv [([], 3, 2, .eq (pI (argv.length : Int))), ([], 3, 3, .eq (pB true)), ([], 4, 2, .elem [(pS y_1)]), ([], 5, 1, .eq (pB true))]) (ex := (.exit 0)) (by kernel_rfl) (by kernel_rfl) (allC (len_ob (rfl : (argv.map cS) = argv.map cS)) (allC (cg q6) (allC (gt_list (c := cS) q7) (allC (cg q8) allN))))
      have q5 := q3 _ _ (by intro e; cases e) q4
      obtain ⟨q28, h⟩ := grd_some h
      obtain ⟨q29, h⟩ := grd_some h
      obtain rfl := Option.some.inj h
      exact (ret_go (k := (k + 1)) Tryz.func34 Tryz.ntmps34 (by kernel_rfl) (by kernel_rfl) (lb rfl) (adv [([], 23, 4, .sub false), ([], 23, 5, .ok)] [([], 3, (.exit 0), (stOf (go (k + 1) 34 0 103 (adv [([], 3, 2, .eq (pI (argv.length : Int))), ([], 3, 3, .eq (pB true)), ([], 4, 2, .elem [(pS y_1)]), ([], 5, 1, .eq (pB true))]) ref03Parse_L3 (ref03Parse_S3 spec argv (v_1, v_2)))))]) (ex := .ret) (r := (.tup [(.list 2 false (v_2.map FlagD.c)), (.list 1 false ([] ++ (((argv.map cS).drop (((w64 (v_1 + (1 : Int)))).toNat)).take ((argv.map cS).length - ((w64 (v_1 + (1 : Int)))).toNat)))), (pI (0 : Int))])) (by kernel_rfl) rfl (by kernel_rfl) (allC q5 (allC (sub_ok1 (c := cS) q28) (allC (app_ok2 (rfl : [] = ([] : (List ByteArray)).map cS) (rfl : 0 = ([] : (List ByteArray)).length) ((enc_drop rfl (((w64 (v_1 + (1 : Int)))).toNat)) : (((argv.map cS).drop (((w64 (v_1 + (1 : Int)))).toNat)).take ((argv.map cS).length - ((w64 (v_1 + (1 : Int)))).toNat)) = (argv.drop (((w64 (v_1 + (1 : Int)))).toNat)).map cS) q29) allN))) (by kernel_rfl) (allC (row_ok (rfl : (v_2.map FlagD.c) = v_2.map FlagD.c) (rfl : v_2.length = v_2.length)) (allC (row_ok ((enc_cat (rfl : [] = ([] : (List ByteArray)).map cS) ((enc_drop rfl (((w64 (v_1 + (1 : Int)))).toNat)) : (((argv.map cS).drop (((w64 (v_1 + (1 : Int)))).toNat)).take ((argv.map cS).length - ((w64 (v_1 + (1 : Int)))).toNat)) = (argv.drop (((w64 (v_1 + (1 : Int)))).toNat)).map cS)) : ([] ++ (((argv.map cS).drop (((w64 (v_1 + (1 : Int)))).toNat)).take ((argv.map cS).length - ((w64 (v_1 + (1 : Int)))).toNat))) = (([] : (List ByteArray)) ++ (argv.drop (((w64 (v_1 + (1 : Int)))).toNat))).map cS) ((len_cat (rfl : 0 = ([] : (List ByteArray)).length) ([] : (List ByteArray)) (enc_len ((enc_drop rfl (((w64 (v_1 + (1 : Int)))).toNat)) : (((argv.map cS).drop (((w64 (v_1 + (1 : Int)))).toNat)).take ((argv.map cS).length - ((w64 (v_1 + (1 : Int)))).toNat)) = (argv.drop (((w64 (v_1 + (1 : Int)))).toNat)).map cS))) : (0 + (((argv.map cS).drop (((w64 (v_1 + (1 : Int)))).toNat)).take ((argv.map cS).length - ((w64 (v_1 + (1 : Int)))).toNat)).length) = (([] : (List ByteArray)) ++ (argv.drop (((w64 (v_1 + (1 : Int)))).toNat))).length)) allN))).trans (congrArg some (by rw [(show ([] ++ (((argv.map cS).drop (((w64 (v_1 + (1 : Int)))).toNat)).take ((argv.map cS).length - ((w64 (v_1 + (1 : Int)))).toNat))) = ((([] : (List ByteArray)) ++ (argv.drop (((w64 (v_1 + (1 : Int)))).toNat))).map cS) from (enc_cat (rfl : [] = ([] : (List ByteArray)).map cS) ((enc_drop rfl (((w64 (v_1 + (1 : Int)))).toNat)) : (((argv.map cS).drop (((w64 (v_1 + (1 : Int)))).toNat)).take ((argv.map cS).length - ((w64 (v_1 + (1 : Int)))).toNat)) = (argv.drop (((w64 (v_1 + (1 : Int)))).toNat)).map cS)))] <;> rfl))
    · rcases bif_some q2 with ⟨q9, q2⟩ | ⟨q9, q2⟩
      · cases q2
        try dsimp only at h
        have q4 := run_go (k := (k + 1)) (f := 34) (r0 := 0) (nt := 103) (c := ref03Parse_L3) (σ := (ref03Parse_S3 spec argv (v_1, v_2))) (adv [([], 3, 2, .eq (pI (argv.length : Int))), ([], 3, 3, .eq (pB true)), ([], 4, 2, .elem [(pS y_1)]), ([], 5, 1, .eq (pB false)), ([], 7, 2, .eq (pB true))]) (ex := (.exit 0)) (by kernel_rfl) (by kernel_rfl) (allC (len_ob (rfl : (argv.map cS) = argv.map cS)) (allC (cg q6) (allC (gt_list (c := cS) q7) (allC (cg q8) (allC (cg q9) allN)))))
        have q5 := q3 _ _ (by intro e; cases e) q4
        obtain ⟨q28, h⟩ := grd_some h
        obtain ⟨q29, h⟩ := grd_some h
        obtain rfl := Option.some.inj h
        exact (ret_go (k := (k + 1)) Tryz.func34 Tryz.ntmps34 (by kernel_rfl) (by kernel_rfl) (lb rfl) (adv [([], 23, 4, .sub false), ([], 23, 5, .ok)] [([], 3, (.exit 0), (stOf (go (k + 1) 34 0 103 (adv [([], 3, 2, .eq (pI (argv.length : Int))), ([], 3, 3, .eq (pB true)), ([], 4, 2, .elem [(pS y_1)]), ([], 5, 1, .eq (pB false)), ([], 7, 2, .eq (pB true))]) ref03Parse_L3 (ref03Parse_S3 spec argv (v_1, v_2)))))]) (ex := .ret) (r := (.tup [(.list 2 false (v_2.map FlagD.c)), (.list 1 false ([] ++ (((argv.map cS).drop ((v_1).toNat)).take ((argv.map cS).length - (v_1).toNat)))), (pI (0 : Int))])) (by kernel_rfl) rfl (by kernel_rfl) (allC q5 (allC (sub_ok1 (c := cS) q28) (allC (app_ok2 (rfl : [] = ([] : (List ByteArray)).map cS) (rfl : 0 = ([] : (List ByteArray)).length) ((enc_drop rfl ((v_1).toNat)) : (((argv.map cS).drop ((v_1).toNat)).take ((argv.map cS).length - (v_1).toNat)) = (argv.drop ((v_1).toNat)).map cS) q29) allN))) (by kernel_rfl) (allC (row_ok (rfl : (v_2.map FlagD.c) = v_2.map FlagD.c) (rfl : v_2.length = v_2.length)) (allC (row_ok ((enc_cat (rfl : [] = ([] : (List ByteArray)).map cS) ((enc_drop rfl ((v_1).toNat)) : (((argv.map cS).drop ((v_1).toNat)).take ((argv.map cS).length - (v_1).toNat)) = (argv.drop ((v_1).toNat)).map cS)) : ([] ++ (((argv.map cS).drop ((v_1).toNat)).take ((argv.map cS).length - (v_1).toNat))) = (([] : (List ByteArray)) ++ (argv.drop ((v_1).toNat))).map cS) ((len_cat (rfl : 0 = ([] : (List ByteArray)).length) ([] : (List ByteArray)) (enc_len ((enc_drop rfl ((v_1).toNat)) : (((argv.map cS).drop ((v_1).toNat)).take ((argv.map cS).length - (v_1).toNat)) = (argv.drop ((v_1).toNat)).map cS))) : (0 + (((argv.map cS).drop ((v_1).toNat)).take ((argv.map cS).length - (v_1).toNat)).length) = (([] : (List ByteArray)) ++ (argv.drop ((v_1).toNat))).length)) allN))).trans (congrArg some (by rw [(show ([] ++ (((argv.map cS).drop ((v_1).toNat)).take ((argv.map cS).length - (v_1).toNat))) = ((([] : (List ByteArray)) ++ (argv.drop ((v_1).toNat))).map cS) from (enc_cat (rfl : [] = ([] : (List ByteArray)).map cS) ((enc_drop rfl ((v_1).toNat)) : (((argv.map cS).drop ((v_1).toNat)).take ((argv.map cS).length - (v_1).toNat)) = (argv.drop ((v_1).toNat)).map cS)))] <;> rfl))
      · rcases bif_some q2 with ⟨q10, q2⟩ | ⟨q10, q2⟩
        · cases q2
          try dsimp only at h
          have q4 := run_go (k := (k + 1)) (f := 34) (r0 := 0) (nt := 103) (c := ref03Parse_L3) (σ := (ref03Parse_S3 spec argv (v_1, v_2))) (adv [([], 3, 2, .eq (pI (argv.length : Int))), ([], 3, 3, .eq (pB true)), ([], 4, 2, .elem [(pS y_1)]), ([], 5, 1, .eq (pB false)), ([], 7, 2, .eq (pB false)), ([], 7, 6, .eq (pB true))]) (ex := (.exit 0)) (by kernel_rfl) (by kernel_rfl) (allC (len_ob (rfl : (argv.map cS) = argv.map cS)) (allC (cg q6) (allC (gt_list (c := cS) q7) (allC (cg q8) (allC (cg q9) (allC (cg q10) allN))))))
          have q5 := q3 _ _ (by intro e; cases e) q4
          obtain ⟨q28, h⟩ := grd_some h
          obtain ⟨q29, h⟩ := grd_some h
          obtain rfl := Option.some.inj h
          exact (ret_go (k := (k + 1)) Tryz.func34 Tryz.ntmps34 (by kernel_rfl) (by kernel_rfl) (lb rfl) (adv [([], 23, 4, .sub false), ([], 23, 5, .ok)] [([], 3, (.exit 0), (stOf (go (k + 1) 34 0 103 (adv [([], 3, 2, .eq (pI (argv.length : Int))), ([], 3, 3, .eq (pB true)), ([], 4, 2, .elem [(pS y_1)]), ([], 5, 1, .eq (pB false)), ([], 7, 2, .eq (pB false)), ([], 7, 6, .eq (pB true))]) ref03Parse_L3 (ref03Parse_S3 spec argv (v_1, v_2)))))]) (ex := .ret) (r := (.tup [(.list 2 false (v_2.map FlagD.c)), (.list 1 false ([] ++ (((argv.map cS).drop ((v_1).toNat)).take ((argv.map cS).length - (v_1).toNat)))), (pI (0 : Int))])) (by kernel_rfl) rfl (by kernel_rfl) (allC q5 (allC (sub_ok1 (c := cS) q28) (allC (app_ok2 (rfl : [] = ([] : (List ByteArray)).map cS) (rfl : 0 = ([] : (List ByteArray)).length) ((enc_drop rfl ((v_1).toNat)) : (((argv.map cS).drop ((v_1).toNat)).take ((argv.map cS).length - (v_1).toNat)) = (argv.drop ((v_1).toNat)).map cS) q29) allN))) (by kernel_rfl) (allC (row_ok (rfl : (v_2.map FlagD.c) = v_2.map FlagD.c) (rfl : v_2.length = v_2.length)) (allC (row_ok ((enc_cat (rfl : [] = ([] : (List ByteArray)).map cS) ((enc_drop rfl ((v_1).toNat)) : (((argv.map cS).drop ((v_1).toNat)).take ((argv.map cS).length - (v_1).toNat)) = (argv.drop ((v_1).toNat)).map cS)) : ([] ++ (((argv.map cS).drop ((v_1).toNat)).take ((argv.map cS).length - (v_1).toNat))) = (([] : (List ByteArray)) ++ (argv.drop ((v_1).toNat))).map cS) ((len_cat (rfl : 0 = ([] : (List ByteArray)).length) ([] : (List ByteArray)) (enc_len ((enc_drop rfl ((v_1).toNat)) : (((argv.map cS).drop ((v_1).toNat)).take ((argv.map cS).length - (v_1).toNat)) = (argv.drop ((v_1).toNat)).map cS))) : (0 + (((argv.map cS).drop ((v_1).toNat)).take ((argv.map cS).length - (v_1).toNat)).length) = (([] : (List ByteArray)) ++ (argv.drop ((v_1).toNat))).length)) allN))).trans (congrArg some (by rw [(show ([] ++ (((argv.map cS).drop ((v_1).toNat)).take ((argv.map cS).length - (v_1).toNat))) = ((([] : (List ByteArray)) ++ (argv.drop ((v_1).toNat))).map cS) from (enc_cat (rfl : [] = ([] : (List ByteArray)).map cS) ((enc_drop rfl ((v_1).toNat)) : (((argv.map cS).drop ((v_1).toNat)).take ((argv.map cS).length - (v_1).toNat)) = (argv.drop ((v_1).toNat)).map cS)))] <;> rfl))
        · obtain ⟨b_1, q11, q2⟩ := bnd_some q2
          rcases bif_some q2 with ⟨q12, q2⟩ | ⟨q12, q2⟩
          · cases q2
            try dsimp only at h
            have q4 := run_go (k := (k + 1)) (f := 34) (r0 := 0) (nt := 103) (c := ref03Parse_L3) (σ := (ref03Parse_S3 spec argv (v_1, v_2))) (adv [([], 3, 2, .eq (pI (argv.length : Int))), ([], 3, 3, .eq (pB true)), ([], 4, 2, .elem [(pS y_1)]), ([], 5, 1, .eq (pB false)), ([], 7, 2, .eq (pB false)), ([], 7, 6, .eq (pB false)), ([], 7, 8, .chr b_1), ([], 7, 10, .eq (pB true))]) (ex := (.exit 0)) (by kernel_rfl) (by kernel_rfl) (allC (len_ob (rfl : (argv.map cS) = argv.map cS)) (allC (cg q6) (allC (gt_list (c := cS) q7) (allC (cg q8) (allC (cg q9) (allC (cg q10) (allC q11 (allC (cg q12) allN))))))))
            have q5 := q3 _ _ (by intro e; cases e) q4
            obtain ⟨q28, h⟩ := grd_some h
            obtain ⟨q29, h⟩ := grd_some h
            obtain rfl := Option.some.inj h
            exact (ret_go (k := (k + 1)) Tryz.func34 Tryz.ntmps34 (by kernel_rfl) (by kernel_rfl) (lb rfl) (adv [([], 23, 4, .sub false), ([], 23, 5, .ok)] [([], 3, (.exit 0), (stOf (go (k + 1) 34 0 103 (adv [([], 3, 2, .eq (pI (argv.length : Int))), ([], 3, 3, .eq (pB true)), ([], 4, 2, .elem [(pS y_1)]), ([], 5, 1, .eq (pB false)), ([], 7, 2, .eq (pB false)), ([], 7, 6, .eq (pB false)), ([], 7, 8, .chr b_1), ([], 7, 10, .eq (pB true))]) ref03Parse_L3 (ref03Parse_S3 spec argv (v_1, v_2)))))]) (ex := .ret) (r := (.tup [(.list 2 false (v_2.map FlagD.c)), (.list 1 false ([] ++ (((argv.map cS).drop ((v_1).toNat)).take ((argv.map cS).length - (v_1).toNat)))), (pI (0 : Int))])) (by kernel_rfl) rfl (by kernel_rfl) (allC q5 (allC (sub_ok1 (c := cS) q28) (allC (app_ok2 (rfl : [] = ([] : (List ByteArray)).map cS) (rfl : 0 = ([] : (List ByteArray)).length) ((enc_drop rfl ((v_1).toNat)) : (((argv.map cS).drop ((v_1).toNat)).take ((argv.map cS).length - (v_1).toNat)) = (argv.drop ((v_1).toNat)).map cS) q29) allN))) (by kernel_rfl) (allC (row_ok (rfl : (v_2.map FlagD.c) = v_2.map FlagD.c) (rfl : v_2.length = v_2.length)) (allC (row_ok ((enc_cat (rfl : [] = ([] : (List ByteArray)).map cS) ((enc_drop rfl ((v_1).toNat)) : (((argv.map cS).drop ((v_1).toNat)).take ((argv.map cS).length - (v_1).toNat)) = (argv.drop ((v_1).toNat)).map cS)) : ([] ++ (((argv.map cS).drop ((v_1).toNat)).take ((argv.map cS).length - (v_1).toNat))) = (([] : (List ByteArray)) ++ (argv.drop ((v_1).toNat))).map cS) ((len_cat (rfl : 0 = ([] : (List ByteArray)).length) ([] : (List ByteArray)) (enc_len ((enc_drop rfl ((v_1).toNat)) : (((argv.map cS).drop ((v_1).toNat)).take ((argv.map cS).length - (v_1).toNat)) = (argv.drop ((v_1).toNat)).map cS))) : (0 + (((argv.map cS).drop ((v_1).toNat)).take ((argv.map cS).length - (v_1).toNat)).length) = (([] : (List ByteArray)) ++ (argv.drop ((v_1).toNat))).length)) allN))).trans (congrArg some (by rw [(show ([] ++ (((argv.map cS).drop ((v_1).toNat)).take ((argv.map cS).length - (v_1).toNat))) = ((([] : (List ByteArray)) ++ (argv.drop ((v_1).toNat))).map cS) from (enc_cat (rfl : [] = ([] : (List ByteArray)).map cS) ((enc_drop rfl ((v_1).toNat)) : (((argv.map cS).drop ((v_1).toNat)).take ((argv.map cS).length - (v_1).toNat)) = (argv.drop ((v_1).toNat)).map cS)))] <;> rfl))
          · obtain ⟨X_2, q13, q2⟩ := bnd_some q2
            obtain ⟨a_2, q14, q15⟩ := loop_iter (f := run1 (k + 1) 34 0 103 ref03Parse_L10x1) (ref03Parse_S10x1 spec argv y_1) (ref03Parse_b10x1 spec argv y_1) (ref03Parse_t10x1 k spec argv y_1) LF ((w64 (v_1 + (1 : Int))), (1 : Int), v_2) _ (stOf (goStop (k + 1) 34 0 103 (adv [([], 3, 2, .eq (pI (argv.length : Int))), ([], 3, 3, .eq (pB true)), ([], 4, 2, .elem [(pS y_1)]), ([], 5, 1, .eq (pB false)), ([], 7, 2, .eq (pB false)), ([], 7, 6, .eq (pB false)), ([], 7, 8, .chr b_1), ([], 7, 10, .eq (pB false))]) 10 (ref03Parse_L3) (ref03Parse_S3 spec argv (v_1, v_2)))) q13 (by kernel_rfl)
            obtain ⟨v_3, v_4, v_5⟩ := a_2
            unfold ref03Parse_b10x1 at q14
            try dsimp only at q14
            rcases bif_some q14 with ⟨q18, q14⟩ | ⟨q18, q14⟩
            · obtain ⟨b_2, q19, q14⟩ := bnd_some q14
              obtain ⟨⟨r_1, r_2⟩, q20, q14⟩ := bnd_some q14
              try dsimp only at q14
              rcases bif_some q14 with ⟨q21, q14⟩ | ⟨q21, q14⟩
              · cases q14
                try dsimp only at q2
                have q16 := run_go (k := (k + 1)) (f := 34) (r0 := 0) (nt := 103) (c := ref03Parse_L10x1) (σ := (ref03Parse_S10x1 spec argv y_1 (v_3, v_4, v_5))) (adv [([], 10, 3, .eq (pB true)), ([], 12, 3, .chr b_2), ([], 12, 4, .ret (.tup [(pB r_1), (pB r_2)])), ([], 13, 1, .eq (pB true))]) (ex := .ret) (by kernel_rfl) (by kernel_rfl) (allC (cg q18) (allC q19 (allC (ref03Known_ok k spec (b_2.toNat : Int) _ q20) (allC (cg q21) allN))))
                have q17 := q15 _ _ (by intro e; cases e) q16
                cases q2
                try dsimp only at h
                have q4 := run_go (k := (k + 1)) (f := 34) (r0 := 0) (nt := 103) (c := ref03Parse_L3) (σ := (ref03Parse_S3 spec argv (v_1, v_2))) (adv [([], 3, 2, .eq (pI (argv.length : Int))), ([], 3, 3, .eq (pB true)), ([], 4, 2, .elem [(pS y_1)]), ([], 5, 1, .eq (pB false)), ([], 7, 2, .eq (pB false)), ([], 7, 6, .eq (pB false)), ([], 7, 8, .chr b_1), ([], 7, 10, .eq (pB false))] [([], 10, .ret, (stOf (go (k + 1) 34 0 103 (adv [([], 10, 3, .eq (pB true)), ([], 12, 3, .chr b_2), ([], 12, 4, .ret (.tup [(pB r_1), (pB r_2)])), ([], 13, 1, .eq (pB true))]) ref03Parse_L10x1 (ref03Parse_S10x1 spec argv y_1 (v_3, v_4, v_5)))))]) (ex := .ret) (by kernel_rfl) (by kernel_rfl) (allC (len_ob (rfl : (argv.map cS) = argv.map cS)) (allC (cg q6) (allC (gt_list (c := cS) q7) (allC (cg q8) (allC (cg q9) (allC (cg q10) (allC q11 (allC (cg q12) (allC q17 allN)))))))))
                have q5 := q3 _ _ (by intro e; cases e) q4
                obtain rfl := Option.some.inj h
                exact ret_go (k := (k + 1)) Tryz.func34 Tryz.ntmps34 (by kernel_rfl) (by kernel_rfl) (lb rfl) (adv [] [([], 3, .ret, (stOf (go (k + 1) 34 0 103 (adv [([], 3, 2, .eq (pI (argv.length : Int))), ([], 3, 3, .eq (pB true)), ([], 4, 2, .elem [(pS y_1)]), ([], 5, 1, .eq (pB false)), ([], 7, 2, .eq (pB false)), ([], 7, 6, .eq (pB false)), ([], 7, 8, .chr b_1), ([], 7, 10, .eq (pB false))] [([], 10, .ret, (stOf (go (k + 1) 34 0 103 (adv [([], 10, 3, .eq (pB true)), ([], 12, 3, .chr b_2), ([], 12, 4, .ret (.tup [(pB r_1), (pB r_2)])), ([], 13, 1, .eq (pB true))]) ref03Parse_L10x1 (ref03Parse_S10x1 spec argv y_1 (v_3, v_4, v_5)))))]) ref03Parse_L3 (ref03Parse_S3 spec argv (v_1, v_2)))))]) (ex := .ret) (r := (.tup [(.list 2 false []), (.list 1 false []), (pI (30 : Int))])) (by kernel_rfl) rfl (by kernel_rfl) (allC q5 allN) (by kernel_rfl) allN
              · rcases bif_some q14 with ⟨q22, q14⟩ | ⟨q22, q14⟩
                · obtain ⟨b_3, q23, q14⟩ := bnd_some q14
                  obtain ⟨q24, q14⟩ := grd_some q14
                  cases q14
                · rcases bif_some q14 with ⟨q23, q14⟩ | ⟨q23, q14⟩
                  · obtain ⟨b_3, q24, q14⟩ := bnd_some q14
                    obtain ⟨q25, q14⟩ := grd_some q14
                    obtain ⟨q26, q14⟩ := grd_some q14
                    cases q14
                    try dsimp only at q2
                    have q16 := run_go (k := (k + 1)) (f := 34) (r0 := 0) (nt := 103) (c := ref03Parse_L10x1) (σ := (ref03Parse_S10x1 spec argv y_1 (v_3, v_4, v_5))) (adv [([], 10, 3, .eq (pB true)), ([], 12, 3, .chr b_2), ([], 12, 4, .ret (.tup [(pB r_1), (pB r_2)])), ([], 13, 1, .eq (pB false)), ([], 15, 1, .eq (pB false)), ([], 17, 4, .eq (pB true)), ([], 18, 3, .chr b_3), ([], 18, 7, .sub false), ([], 18, 10, .ok)]) (ex := (.exit 2)) (by kernel_rfl) (by kernel_rfl) (allC (cg q18) (allC q19 (allC (ref03Known_ok k spec (b_2.toNat : Int) _ q20) (allC (cg q21) (allC (cg q22) (allC (cg q23) (allC q24 (allC q25 (allC (app_ok (rfl : (v_5.map FlagD.c) = v_5.map FlagD.c) (rfl : v_5.length = v_5.length) q26) allN)))))))))
                    have q17 := q15 _ _ (by intro e; cases e) q16
                    cases q2
                  · rcases bif_some q14 with ⟨q24, q14⟩ | ⟨q24, q14⟩
                    · cases q14
                      try dsimp only at q2
                      have q16 := run_go (k := (k + 1)) (f := 34) (r0 := 0) (nt := 103) (c := ref03Parse_L10x1) (σ := (ref03Parse_S10x1 spec argv y_1 (v_3, v_4, v_5))) (adv [([], 10, 3, .eq (pB true)), ([], 12, 3, .chr b_2), ([], 12, 4, .ret (.tup [(pB r_1), (pB r_2)])), ([], 13, 1, .eq (pB false)), ([], 15, 1, .eq (pB false)), ([], 17, 4, .eq (pB false)), ([], 19, 2, .eq (pI (argv.length : Int))), ([], 19, 3, .eq (pB true))]) (ex := .ret) (by kernel_rfl) (by kernel_rfl) (allC (cg q18) (allC q19 (allC (ref03Known_ok k spec (b_2.toNat : Int) _ q20) (allC (cg q21) (allC (cg q22) (allC (cg q23) (allC (len_ob (rfl : (argv.map cS) = argv.map cS)) (allC (cg q24) allN))))))))
                      have q17 := q15 _ _ (by intro e; cases e) q16
                      cases q2
                      try dsimp only at h
                      have q4 := run_go (k := (k + 1)) (f := 34) (r0 := 0) (nt := 103) (c := ref03Parse_L3) (σ := (ref03Parse_S3 spec argv (v_1, v_2))) (adv [([], 3, 2, .eq (pI (argv.length : Int))), ([], 3, 3, .eq (pB true)), ([], 4, 2, .elem [(pS y_1)]), ([], 5, 1, .eq (pB false)), ([], 7, 2, .eq (pB false)), ([], 7, 6, .eq (pB false)), ([], 7, 8, .chr b_1), ([], 7, 10, .eq (pB false))] [([], 10, .ret, (stOf (go (k + 1) 34 0 103 (adv [([], 10, 3, .eq (pB true)), ([], 12, 3, .chr b_2), ([], 12, 4, .ret (.tup [(pB r_1), (pB r_2)])), ([], 13, 1, .eq (pB false)), ([], 15, 1, .eq (pB false)), ([], 17, 4, .eq (pB false)), ([], 19, 2, .eq (pI (argv.length : Int))), ([], 19, 3, .eq (pB true))]) ref03Parse_L10x1 (ref03Parse_S10x1 spec argv y_1 (v_3, v_4, v_5)))))]) (ex := .ret) (by kernel_rfl) (by kernel_rfl) (allC (len_ob (rfl : (argv.map cS) = argv.map cS)) (allC (cg q6) (allC (gt_list (c := cS) q7) (allC (cg q8) (allC (cg q9) (allC (cg q10) (allC q11 (allC (cg q12) (allC q17 allN)))))))))
                      have q5 := q3 _ _ (by intro e; cases e) q4
                      obtain rfl := Option.some.inj h
                      exact ret_go (k := (k + 1)) Tryz.func34 Tryz.ntmps34 (by kernel_rfl) (by kernel_rfl) (lb rfl) (adv [] [([], 3, .ret, (stOf (go (k + 1) 34 0 103 (adv [([], 3, 2, .eq (pI (argv.length : Int))), ([], 3, 3, .eq (pB true)), ([], 4, 2, .elem [(pS y_1)]), ([], 5, 1, .eq (pB false)), ([], 7, 2, .eq (pB false)), ([], 7, 6, .eq (pB false)), ([], 7, 8, .chr b_1), ([], 7, 10, .eq (pB false))] [([], 10, .ret, (stOf (go (k + 1) 34 0 103 (adv [([], 10, 3, .eq (pB true)), ([], 12, 3, .chr b_2), ([], 12, 4, .ret (.tup [(pB r_1), (pB r_2)])), ([], 13, 1, .eq (pB false)), ([], 15, 1, .eq (pB false)), ([], 17, 4, .eq (pB false)), ([], 19, 2, .eq (pI (argv.length : Int))), ([], 19, 3, .eq (pB true))]) ref03Parse_L10x1 (ref03Parse_S10x1 spec argv y_1 (v_3, v_4, v_5)))))]) ref03Parse_L3 (ref03Parse_S3 spec argv (v_1, v_2)))))]) (ex := .ret) (r := (.tup [(.list 2 false []), (.list 1 false []), (pI (31 : Int))])) (by kernel_rfl) rfl (by kernel_rfl) (allC q5 allN) (by kernel_rfl) allN
                    · obtain ⟨b_3, q25, q14⟩ := bnd_some q14
                      obtain ⟨y_2, q26, q14⟩ := bnd_some q14
                      obtain ⟨q27, q14⟩ := grd_some q14
                      cases q14
            · cases q14
              try dsimp only at q2
              have q16 := run_go (k := (k + 1)) (f := 34) (r0 := 0) (nt := 103) (c := ref03Parse_L10x1) (σ := (ref03Parse_S10x1 spec argv y_1 (v_3, v_4, v_5))) (adv [([], 10, 3, .eq (pB false))]) (ex := (.exit 2)) (by kernel_rfl) (by kernel_rfl) (allC (cg q18) allN)
              have q17 := q15 _ _ (by intro e; cases e) q16
              cases q2
  · cases q2
    try dsimp only at h
    have q4 := run_go (k := (k + 1)) (f := 34) (r0 := 0) (nt := 103) (c := ref03Parse_L3) (σ := (ref03Parse_S3 spec argv (v_1, v_2))) (adv [([], 3, 2, .eq (pI (argv.length : Int))), ([], 3, 3, .eq (pB false))]) (ex := (.exit 0)) (by kernel_rfl) (by kernel_rfl) (allC (len_ob (rfl : (argv.map cS) = argv.map cS)) (allC (cg q6) allN))
    have q5 := q3 _ _ (by intro e; cases e) q4
    obtain ⟨q28, h⟩ := grd_some h
    obtain ⟨q29, h⟩ := grd_some h
    obtain rfl := Option.some.inj h
    exact (ret_go (k := (k + 1)) Tryz.func34 Tryz.ntmps34 (by kernel_rfl) (by kernel_rfl) (lb rfl) (adv [([], 23, 4, .sub false), ([], 23, 5, .ok)] [([], 3, (.exit 0), (stOf (go (k + 1) 34 0 103 (adv [([], 3, 2, .eq (pI (argv.length : Int))), ([], 3, 3, .eq (pB false))]) ref03Parse_L3 (ref03Parse_S3 spec argv (v_1, v_2)))))]) (ex := .ret) (r := (.tup [(.list 2 false (v_2.map FlagD.c)), (.list 1 false ([] ++ (((argv.map cS).drop ((v_1).toNat)).take ((argv.map cS).length - (v_1).toNat)))), (pI (0 : Int))])) (by kernel_rfl) rfl (by kernel_rfl) (allC q5 (allC (sub_ok1 (c := cS) q28) (allC (app_ok2 (rfl : [] = ([] : (List ByteArray)).map cS) (rfl : 0 = ([] : (List ByteArray)).length) ((enc_drop rfl ((v_1).toNat)) : (((argv.map cS).drop ((v_1).toNat)).take ((argv.map cS).length - (v_1).toNat)) = (argv.drop ((v_1).toNat)).map cS) q29) allN))) (by kernel_rfl) (allC (row_ok (rfl : (v_2.map FlagD.c) = v_2.map FlagD.c) (rfl : v_2.length = v_2.length)) (allC (row_ok ((enc_cat (rfl : [] = ([] : (List ByteArray)).map cS) ((enc_drop rfl ((v_1).toNat)) : (((argv.map cS).drop ((v_1).toNat)).take ((argv.map cS).length - (v_1).toNat)) = (argv.drop ((v_1).toNat)).map cS)) : ([] ++ (((argv.map cS).drop ((v_1).toNat)).take ((argv.map cS).length - (v_1).toNat))) = (([] : (List ByteArray)) ++ (argv.drop ((v_1).toNat))).map cS) ((len_cat (rfl : 0 = ([] : (List ByteArray)).length) ([] : (List ByteArray)) (enc_len ((enc_drop rfl ((v_1).toNat)) : (((argv.map cS).drop ((v_1).toNat)).take ((argv.map cS).length - (v_1).toNat)) = (argv.drop ((v_1).toNat)).map cS))) : (0 + (((argv.map cS).drop ((v_1).toNat)).take ((argv.map cS).length - (v_1).toNat)).length) = (([] : (List ByteArray)) ++ (argv.drop ((v_1).toNat))).length)) allN))).trans (congrArg some (by rw [(show ([] ++ (((argv.map cS).drop ((v_1).toNat)).take ((argv.map cS).length - (v_1).toNat))) = ((([] : (List ByteArray)) ++ (argv.drop ((v_1).toNat))).map cS) from (enc_cat (rfl : [] = ([] : (List ByteArray)).map cS) ((enc_drop rfl ((v_1).toNat)) : (((argv.map cS).drop ((v_1).toNat)).take ((argv.map cS).length - (v_1).toNat)) = (argv.drop ((v_1).toNat)).map cS)))] <;> rfl))
end Go.Proofs.YtfjflodicgjihaaGreatDoor.Den
namespace Go.Proofs.YtfjflodicgjihaaGreatDoor.Den
open Go Go.RowKit
/- flagstone/flagstoneref03.Value: its loop at region 2 -/
noncomputable def ref03Value_L2 : Code := cAt (codeOf Tryz.f65) [true, false, true, false, false]
def ref03Value_R2 (x0 : List (List PV)) (x1 : Int) (x2 : Int) : St := ⟨envL [(0, (.list 2 false x0)), (1, (.v (.int .u8 x1))), (6, (pI x2))], hsL [] []⟩
theorem ref03Value_R2_eq {x0 y0 : List (List PV)} {x1 y1 : Int} {x2 y2 : Int} (h0 : x0 = y0) (h1 : x1 = y1) (h2 : x2 = y2) : ref03Value_R2 x0 x1 x2 = ref03Value_R2 y0 y1 y2 := by
  subst h0 h1 h2; rfl
def ref03Value_S2 (p0 : (List FlagD)) (p1 : Int) : Int → St
 | v0 => ref03Value_R2 (p0.map FlagD.c) p1 v0
def ref03Value_b2 (p0 : (List FlagD)) (p1 : Int) : Int → Option (Int ⊕ ((Int × FlagD × FlagD) ⊕ Int))
 | v0 =>
 bif (decide (v0 ≥ (0 : Int))) then (
 (gt p0 v0).bind fun y_1 =>
 bif (y_1.letter == p1) then (
 (gt p0 v0).bind fun y_2 =>
 some (.inr (.inl (v0, y_1, y_2)))
 ) else (
 some (.inl (w64 (v0 - (1 : Int))))
 )
 ) else (
 some (.inr (.inr (v0)))
 )
set_option maxRecDepth 100000 in
theorem ref03Value_t2 (k : Nat) (p0 : (List FlagD)) (p1 : Int) (v0 a1 : Int) (h : ref03Value_b2 p0 p1 v0 = some (.inl a1)) : ∃ σ, run1 k 65 0 26 ref03Value_L2 (ref03Value_S2 p0 p1 v0) = some (.normal, σ) ∧ canonS 0 [0, 1, 6] σ = some (ref03Value_S2 p0 p1 a1) := by
  unfold ref03Value_b2 at h
  try dsimp only at h
  rcases bif_some h with ⟨q1, h⟩ | ⟨q1, h⟩
  · obtain ⟨y_1, q2, h⟩ := bnd_some h
    rcases bif_some h with ⟨q3, h⟩ | ⟨q3, h⟩
    · obtain ⟨y_2, q4, h⟩ := bnd_some h
      cases h
    · obtain rfl := Sum.inl.inj (Option.some.inj h)
      exact ⟨_, run_go (k := k) (f := 65) (r0 := 0) (nt := 26) (c := ref03Value_L2) (σ := (ref03Value_S2 p0 p1 v0)) (adv [([], 2, 1, .eq (pB true)), ([], 4, 2, .elem [(.v (.int .u8 y_1.letter)), (pS y_1.value)]), ([], 4, 6, .eq (pB false))]) (ex := .normal) (by kernel_rfl) (by kernel_rfl) (allC (cg q1) (allC (gt_list (c := FlagD.c) q2) (allC (cg q3) allN))), (by kernel_rfl)⟩
  · cases h
/-- flagstone/flagstoneref03.Value -/
def ref03Value (l : (List FlagD)) (letter : Int) : Option (ByteArray × Bool) :=
 (iterN (ref03Value_b2 l letter) LF (w64 ((l.length : Int) - (1 : Int)))).bind fun X_1 => match X_1 with
 | .inl (v_1, y_1, y_2) => (
 some (y_2.value, true)
 )
 | .inr (v_1) => (
 some ((bs []), false)
 )
set_option maxRecDepth 100000 in
theorem ref03Value_ok (k : Nat) (l : (List FlagD)) (letter : Int) (r : (ByteArray × Bool)) (h : ref03Value l letter = some r) : run0 (k + 1) 65 [(.list 2 false (l.map FlagD.c)), (.v (.int .u8 letter))] = some (.tup [(pS r.1), (pB r.2)]) := by
  unfold ref03Value at h
  obtain ⟨X_1, q1, h⟩ := bnd_some h
  obtain ⟨v_1, q2, q3⟩ := loop_iter (f := run1 k 65 0 26 ref03Value_L2) (ref03Value_S2 l letter) (ref03Value_b2 l letter) (ref03Value_t2 k l letter) LF (w64 ((l.length : Int) - (1 : Int))) _ (stOf (goStop k 65 0 26 (adv [([], 1, 1, .eq (pI (l.length : Int)))]) 2 (codeOf Tryz.f65) (argS 65 [(.list 2 false (l.map FlagD.c)), (.v (.int .u8 letter))]))) q1 (by kernel_rfl)
  unfold ref03Value_b2 at q2
  try dsimp only at q2
  rcases bif_some q2 with ⟨q6, q2⟩ | ⟨q6, q2⟩
  · obtain ⟨y_1, q7, q2⟩ := bnd_some q2
    rcases bif_some q2 with ⟨q8, q2⟩ | ⟨q8, q2⟩
    · obtain ⟨y_2, q9, q2⟩ := bnd_some q2
      cases q2
      try dsimp only at h
      have q4 := run_go (k := k) (f := 65) (r0 := 0) (nt := 26) (c := ref03Value_L2) (σ := (ref03Value_S2 l letter v_1)) (adv [([], 2, 1, .eq (pB true)), ([], 4, 2, .elem [(.v (.int .u8 y_1.letter)), (pS y_1.value)]), ([], 4, 6, .eq (pB true)), ([], 5, 2, .elem [(.v (.int .u8 y_2.letter)), (pS y_2.value)])]) (ex := .ret) (by kernel_rfl) (by kernel_rfl) (allC (cg q6) (allC (gt_list (c := FlagD.c) q7) (allC (cg q8) (allC (gt_list (c := FlagD.c) q9) allN))))
      have q5 := q3 _ _ (by intro e; cases e) q4
      obtain rfl := Option.some.inj h
      exact ret_go (k := k) Tryz.func65 Tryz.ntmps65 (by kernel_rfl) (by kernel_rfl) (lb rfl) (adv [([], 1, 1, .eq (pI (l.length : Int)))] [([], 2, .ret, (stOf (go k 65 0 26 (adv [([], 2, 1, .eq (pB true)), ([], 4, 2, .elem [(.v (.int .u8 y_1.letter)), (pS y_1.value)]), ([], 4, 6, .eq (pB true)), ([], 5, 2, .elem [(.v (.int .u8 y_2.letter)), (pS y_2.value)])]) ref03Value_L2 (ref03Value_S2 l letter v_1))))]) (ex := .ret) (r := (.tup [(pS y_2.value), (pB true)])) (by kernel_rfl) rfl (by kernel_rfl) (allC (len_ob (rfl : (l.map FlagD.c) = l.map FlagD.c)) (allC q5 allN)) (by kernel_rfl) allN
    · cases q2
  · cases q2
    try dsimp only at h
    have q4 := run_go (k := k) (f := 65) (r0 := 0) (nt := 26) (c := ref03Value_L2) (σ := (ref03Value_S2 l letter v_1)) (adv [([], 2, 1, .eq (pB false))]) (ex := (.exit 0)) (by kernel_rfl) (by kernel_rfl) (allC (cg q6) allN)
    have q5 := q3 _ _ (by intro e; cases e) q4
    obtain rfl := Option.some.inj h
    exact ret_go (k := k) Tryz.func65 Tryz.ntmps65 (by kernel_rfl) (by kernel_rfl) (lb rfl) (adv [([], 1, 1, .eq (pI (l.length : Int)))] [([], 2, (.exit 0), (stOf (go k 65 0 26 (adv [([], 2, 1, .eq (pB false))]) ref03Value_L2 (ref03Value_S2 l letter v_1))))]) (ex := .ret) (r := (.tup [(pS (bs [])), (pB false)])) (by kernel_rfl) rfl (by kernel_rfl) (allC (len_ob (rfl : (l.map FlagD.c) = l.map FlagD.c)) (allC q5 allN)) (by kernel_rfl) allN
/-- flagstone/flagstoneref03.Has -/
def ref03Has (l : (List FlagD)) (letter : Int) : Option Bool :=
 (ref03Value l letter).bind fun (r_1, r_2) =>
 some r_2
set_option maxRecDepth 100000 in
theorem ref03Has_ok (k : Nat) (l : (List FlagD)) (letter : Int) (r : Bool) (h : ref03Has l letter = some r) : run0 (k + 2) 35 [(.list 2 false (l.map FlagD.c)), (.v (.int .u8 letter))] = some (pB r) := by
  unfold ref03Has at h
  obtain ⟨⟨r_1, r_2⟩, q1, h⟩ := bnd_some h
  try dsimp only at h
  obtain rfl := Option.some.inj h
  exact ret_go (k := (k + 1)) Tryz.func35 Tryz.ntmps35 (by kernel_rfl) (by kernel_rfl) (lb rfl) (adv [([], 1, 2, .ret (.tup [(pS r_1), (pB r_2)]))]) (ex := .ret) (r := (pB r_2)) (by kernel_rfl) rfl (by kernel_rfl) (allC (ref03Value_ok k l letter _ q1) allN) (by kernel_rfl) allN
end Go.Proofs.YtfjflodicgjihaaGreatDoor.Den
namespace Go.Proofs.YtfjflodicgjihaaGreatDoor.Den
open Go Go.RowKit
/-- flagstone/flagstoneref19.Start -/
def ref19Start (kind : Int) (p : Int) (argv : (List ByteArray)) (draws : (List Int)) : Option JobD :=
 (ref15New kind p draws).bind fun r_1 =>
 bif (kind == (5 : Int)) then (
 bif (kind != (4 : Int)) then (
 bif (kind != (5 : Int)) then (
 (ref15Fail r_1 (bs []) (1 : Int)).bind fun r_2 =>
 some r_2
 ) else (
 (ref03Parse (bs [115]) argv).bind fun (r_2, r_3, r_4) =>
 bif (r_4 != (0 : Int)) then (
 (ref15Fail r_1 (bs [108, 110]) r_4).bind fun r_5 =>
 some r_5
 ) else (
 bif ((r_3.length : Int) != (2 : Int)) then (
 (ref15Fail r_1 (bs [108, 110]) (1 : Int)).bind fun r_5 =>
 some r_5
 ) else (
 (gt r_3 (0 : Int)).bind fun y_1 =>
 (gt r_3 (1 : Int)).bind fun y_2 =>
 (ref03Has r_2 (115 : Int)).bind fun r_5 =>
 bif r_5 then (
 some (JobD.mk r_1.kind r_1.p r_1.phase r_1.fd r_1.nF r_1.modeF r_1.tries r_1.atF (1 : Int) y_1 y_2 r_1.text r_1.names r_1.stack r_1.draws r_1.done r_1.exit r_1.out r_1.e)
 ) else (
 some (JobD.mk r_1.kind r_1.p r_1.phase r_1.fd r_1.nF r_1.modeF r_1.tries r_1.atF r_1.flags y_1 y_2 r_1.text r_1.names r_1.stack r_1.draws r_1.done r_1.exit r_1.out r_1.e)
 )
 )
 )
 )
 ) else (
 (ref03Parse (bs [115]) argv).bind fun (r_2, r_3, r_4) =>
 bif (r_4 != (0 : Int)) then (
 (ref15Fail r_1 (bs [108, 110]) r_4).bind fun r_5 =>
 some r_5
 ) else (
 bif ((r_3.length : Int) != (2 : Int)) then (
 (ref15Fail r_1 (bs [108, 110]) (1 : Int)).bind fun r_5 =>
 some r_5
 ) else (
 (gt r_3 (0 : Int)).bind fun y_1 =>
 (gt r_3 (1 : Int)).bind fun y_2 =>
 (ref03Has r_2 (115 : Int)).bind fun r_5 =>
 bif r_5 then (
 some (JobD.mk r_1.kind r_1.p r_1.phase r_1.fd r_1.nF r_1.modeF r_1.tries r_1.atF (1 : Int) y_1 y_2 r_1.text r_1.names r_1.stack r_1.draws r_1.done r_1.exit r_1.out r_1.e)
 ) else (
 some (JobD.mk r_1.kind r_1.p r_1.phase r_1.fd r_1.nF r_1.modeF r_1.tries r_1.atF r_1.flags y_1 y_2 r_1.text r_1.names r_1.stack r_1.draws r_1.done r_1.exit r_1.out r_1.e)
 )
 )
 )
 )
 ) else (
 bif (kind != (4 : Int)) then (
 bif (kind != (5 : Int)) then (
 (ref15Fail r_1 (bs []) (1 : Int)).bind fun r_2 =>
 some r_2
 ) else (
 (ref03Parse (bs [102]) argv).bind fun (r_2, r_3, r_4) =>
 bif (r_4 != (0 : Int)) then (
 (ref15Fail r_1 (bs [109, 118]) r_4).bind fun r_5 =>
 some r_5
 ) else (
 bif ((r_3.length : Int) != (2 : Int)) then (
 (ref15Fail r_1 (bs [109, 118]) (1 : Int)).bind fun r_5 =>
 some r_5
 ) else (
 (gt r_3 (0 : Int)).bind fun y_1 =>
 (gt r_3 (1 : Int)).bind fun y_2 =>
 (ref03Has r_2 (115 : Int)).bind fun r_5 =>
 bif r_5 then (
 some (JobD.mk r_1.kind r_1.p r_1.phase r_1.fd r_1.nF r_1.modeF r_1.tries r_1.atF (1 : Int) y_1 y_2 r_1.text r_1.names r_1.stack r_1.draws r_1.done r_1.exit r_1.out r_1.e)
 ) else (
 some (JobD.mk r_1.kind r_1.p r_1.phase r_1.fd r_1.nF r_1.modeF r_1.tries r_1.atF r_1.flags y_1 y_2 r_1.text r_1.names r_1.stack r_1.draws r_1.done r_1.exit r_1.out r_1.e)
 )
 )
 )
 )
 ) else (
 (ref03Parse (bs [102]) argv).bind fun (r_2, r_3, r_4) =>
 bif (r_4 != (0 : Int)) then (
 (ref15Fail r_1 (bs [109, 118]) r_4).bind fun r_5 =>
 some r_5
 ) else (
 bif ((r_3.length : Int) != (2 : Int)) then (
 (ref15Fail r_1 (bs [109, 118]) (1 : Int)).bind fun r_5 =>
 some r_5
 ) else (
 (gt r_3 (0 : Int)).bind fun y_1 =>
 (gt r_3 (1 : Int)).bind fun y_2 =>
 (ref03Has r_2 (115 : Int)).bind fun r_5 =>
 bif r_5 then (
 some (JobD.mk r_1.kind r_1.p r_1.phase r_1.fd r_1.nF r_1.modeF r_1.tries r_1.atF (1 : Int) y_1 y_2 r_1.text r_1.names r_1.stack r_1.draws r_1.done r_1.exit r_1.out r_1.e)
 ) else (
 some (JobD.mk r_1.kind r_1.p r_1.phase r_1.fd r_1.nF r_1.modeF r_1.tries r_1.atF r_1.flags y_1 y_2 r_1.text r_1.names r_1.stack r_1.draws r_1.done r_1.exit r_1.out r_1.e)
 )
 )
 )
 )
 )
set_option maxRecDepth 100000 in
theorem ref19Start_ok (k : Nat) (kind : Int) (p : Int) (argv : (List ByteArray)) (draws : (List Int)) (r : JobD) (h : ref19Start kind p argv draws = some r) : run0 (k + 4) 10 [(pI kind), (pI p), (.list 1 false (argv.map cS)), (.list 1 false (draws.map cI))] = some (JobD.a r) := by
  unfold ref19Start at h
  obtain ⟨r_1, q1, h⟩ := bnd_some h
  rcases bif_some h with ⟨q2, h⟩ | ⟨q2, h⟩
  · rcases bif_some h with ⟨q3, h⟩ | ⟨q3, h⟩
    · rcases bif_some h with ⟨q4, h⟩ | ⟨q4, h⟩
      · obtain ⟨r_2, q5, h⟩ := bnd_some h
        obtain rfl := Option.some.inj h
        exact ret_go (k := (k + 3)) Tryz.func10 Tryz.ntmps10 (by kernel_rfl) (by kernel_rfl) (lb rfl) (adv [([], 1, 3, .ret (JobD.a r_1)), ([], 4, 1, .eq (pB true)), ([], 7, 2, .eq (pB true)), ([], 7, 5, .eq (pB true)), ([], 8, 1, .ret (JobD.a r_2))]) (ex := .ret) (r := (JobD.a r_2)) (by kernel_rfl) rfl (by kernel_rfl) (allC (ref15New_ok (k + 2) kind p draws _ q1) (allC (cg q2) (allC (cg q3) (allC (cg q4) (allC (ref15Fail_ok k r_1 (bs []) (1 : Int) _ q5) allN))))) (by kernel_rfl) allN
      · obtain ⟨⟨r_2, r_3, r_4⟩, q5, h⟩ := bnd_some h
        try dsimp only at h
        rcases bif_some h with ⟨q6, h⟩ | ⟨q6, h⟩
        · obtain ⟨r_5, q7, h⟩ := bnd_some h
          obtain rfl := Option.some.inj h
          exact ret_go (k := (k + 3)) Tryz.func10 Tryz.ntmps10 (by kernel_rfl) (by kernel_rfl) (lb rfl) (adv [([], 1, 3, .ret (JobD.a r_1)), ([], 4, 1, .eq (pB true)), ([], 7, 2, .eq (pB true)), ([], 7, 5, .eq (pB false)), ([], 9, 2, .ret (.tup [(.list 2 false (r_2.map FlagD.c)), (.list 1 false (r_3.map cS)), (pI r_4)])), ([], 10, 1, .eq (pB true)), ([], 11, 3, .ret (JobD.a r_5))]) (ex := .ret) (r := (JobD.a r_5)) (by kernel_rfl) rfl (by kernel_rfl) (allC (ref15New_ok (k + 2) kind p draws _ q1) (allC (cg q2) (allC (cg q3) (allC (cg q4) (allC (ref03Parse_ok (k + 1) (bs [115]) argv _ q5) (allC (cg q6) (allC (ref15Fail_ok k r_1 (bs [108, 110]) r_4 _ q7) allN))))))) (by kernel_rfl) allN
        · rcases bif_some h with ⟨q7, h⟩ | ⟨q7, h⟩
          · obtain ⟨r_5, q8, h⟩ := bnd_some h
            obtain rfl := Option.some.inj h
            exact ret_go (k := (k + 3)) Tryz.func10 Tryz.ntmps10 (by kernel_rfl) (by kernel_rfl) (lb rfl) (adv [([], 1, 3, .ret (JobD.a r_1)), ([], 4, 1, .eq (pB true)), ([], 7, 2, .eq (pB true)), ([], 7, 5, .eq (pB false)), ([], 9, 2, .ret (.tup [(.list 2 false (r_2.map FlagD.c)), (.list 1 false (r_3.map cS)), (pI r_4)])), ([], 10, 1, .eq (pB false)), ([], 12, 1, .eq (pI (r_3.length : Int))), ([], 12, 2, .eq (pB true)), ([], 13, 2, .ret (JobD.a r_5))]) (ex := .ret) (r := (JobD.a r_5)) (by kernel_rfl) rfl (by kernel_rfl) (allC (ref15New_ok (k + 2) kind p draws _ q1) (allC (cg q2) (allC (cg q3) (allC (cg q4) (allC (ref03Parse_ok (k + 1) (bs [115]) argv _ q5) (allC (cg q6) (allC (len_ob (rfl : (r_3.map cS) = r_3.map cS)) (allC (cg q7) (allC (ref15Fail_ok k r_1 (bs [108, 110]) (1 : Int) _ q8) allN))))))))) (by kernel_rfl) allN
          · obtain ⟨y_1, q8, h⟩ := bnd_some h
            obtain ⟨y_2, q9, h⟩ := bnd_some h
            obtain ⟨r_5, q10, h⟩ := bnd_some h
            rcases bif_some h with ⟨q11, h⟩ | ⟨q11, h⟩
            · revert h; subst q11; intro h
              obtain rfl := Option.some.inj h
              exact ret_go (k := (k + 3)) Tryz.func10 Tryz.ntmps10 (by kernel_rfl) (by kernel_rfl) (lb rfl) (adv [([], 1, 3, .ret (JobD.a r_1)), ([], 4, 1, .eq (pB true)), ([], 7, 2, .eq (pB true)), ([], 7, 5, .eq (pB false)), ([], 9, 2, .ret (.tup [(.list 2 false (r_2.map FlagD.c)), (.list 1 false (r_3.map cS)), (pI r_4)])), ([], 10, 1, .eq (pB false)), ([], 12, 1, .eq (pI (r_3.length : Int))), ([], 12, 2, .eq (pB false)), ([], 14, 1, .elem [(pS y_1)]), ([], 15, 1, .elem [(pS y_2)]), ([], 16, 1, .ret (pB true))]) (ex := .ret) (r := (.agg [(pI r_1.kind), (pI r_1.p), (pI r_1.phase), (pI r_1.fd), (pI r_1.nF), (pI r_1.modeF), (pI r_1.tries), (pI r_1.atF), (pI (1 : Int)), (pS y_1), (pS y_2), (pS r_1.text), (.list 1 false (r_1.names.map cS)), (.list 3 false (r_1.stack.map FrameD.c)), (.list 1 false (r_1.draws.map cI)), (pB r_1.done), (pI r_1.exit), (pS r_1.out), (pI r_1.e)])) (by kernel_rfl) rfl (by kernel_rfl) (allC (ref15New_ok (k + 2) kind p draws _ q1) (allC (cg q2) (allC (cg q3) (allC (cg q4) (allC (ref03Parse_ok (k + 1) (bs [115]) argv _ q5) (allC (cg q6) (allC (len_ob (rfl : (r_3.map cS) = r_3.map cS)) (allC (cg q7) (allC (gt_list (c := cS) q8) (allC (gt_list (c := cS) q9) (allC (ref03Has_ok (k + 1) r_2 (115 : Int) _ q10) allN))))))))))) (by kernel_rfl) allN
            · revert h; subst q11; intro h
              obtain rfl := Option.some.inj h
              exact ret_go (k := (k + 3)) Tryz.func10 Tryz.ntmps10 (by kernel_rfl) (by kernel_rfl) (lb rfl) (adv [([], 1, 3, .ret (JobD.a r_1)), ([], 4, 1, .eq (pB true)), ([], 7, 2, .eq (pB true)), ([], 7, 5, .eq (pB false)), ([], 9, 2, .ret (.tup [(.list 2 false (r_2.map FlagD.c)), (.list 1 false (r_3.map cS)), (pI r_4)])), ([], 10, 1, .eq (pB false)), ([], 12, 1, .eq (pI (r_3.length : Int))), ([], 12, 2, .eq (pB false)), ([], 14, 1, .elem [(pS y_1)]), ([], 15, 1, .elem [(pS y_2)]), ([], 16, 1, .ret (pB false))]) (ex := .ret) (r := (.agg [(pI r_1.kind), (pI r_1.p), (pI r_1.phase), (pI r_1.fd), (pI r_1.nF), (pI r_1.modeF), (pI r_1.tries), (pI r_1.atF), (pI r_1.flags), (pS y_1), (pS y_2), (pS r_1.text), (.list 1 false (r_1.names.map cS)), (.list 3 false (r_1.stack.map FrameD.c)), (.list 1 false (r_1.draws.map cI)), (pB r_1.done), (pI r_1.exit), (pS r_1.out), (pI r_1.e)])) (by kernel_rfl) rfl (by kernel_rfl) (allC (ref15New_ok (k + 2) kind p draws _ q1) (allC (cg q2) (allC (cg q3) (allC (cg q4) (allC (ref03Parse_ok (k + 1) (bs [115]) argv _ q5) (allC (cg q6) (allC (len_ob (rfl : (r_3.map cS) = r_3.map cS)) (allC (cg q7) (allC (gt_list (c := cS) q8) (allC (gt_list (c := cS) q9) (allC (ref03Has_ok (k + 1) r_2 (115 : Int) _ q10) allN))))))))))) (by kernel_rfl) allN
    · obtain ⟨⟨r_2, r_3, r_4⟩, q4, h⟩ := bnd_some h
      try dsimp only at h
      rcases bif_some h with ⟨q5, h⟩ | ⟨q5, h⟩
      · obtain ⟨r_5, q6, h⟩ := bnd_some h
        obtain rfl := Option.some.inj h
        exact ret_go (k := (k + 3)) Tryz.func10 Tryz.ntmps10 (by kernel_rfl) (by kernel_rfl) (lb rfl) (adv [([], 1, 3, .ret (JobD.a r_1)), ([], 4, 1, .eq (pB true)), ([], 7, 2, .eq (pB false)), ([], 9, 2, .ret (.tup [(.list 2 false (r_2.map FlagD.c)), (.list 1 false (r_3.map cS)), (pI r_4)])), ([], 10, 1, .eq (pB true)), ([], 11, 3, .ret (JobD.a r_5))]) (ex := .ret) (r := (JobD.a r_5)) (by kernel_rfl) rfl (by kernel_rfl) (allC (ref15New_ok (k + 2) kind p draws _ q1) (allC (cg q2) (allC (cg q3) (allC (ref03Parse_ok (k + 1) (bs [115]) argv _ q4) (allC (cg q5) (allC (ref15Fail_ok k r_1 (bs [108, 110]) r_4 _ q6) allN)))))) (by kernel_rfl) allN
      · rcases bif_some h with ⟨q6, h⟩ | ⟨q6, h⟩
        · obtain ⟨r_5, q7, h⟩ := bnd_some h
          obtain rfl := Option.some.inj h
          exact ret_go (k := (k + 3)) Tryz.func10 Tryz.ntmps10 (by kernel_rfl) (by kernel_rfl) (lb rfl) (adv [([], 1, 3, .ret (JobD.a r_1)), ([], 4, 1, .eq (pB true)), ([], 7, 2, .eq (pB false)), ([], 9, 2, .ret (.tup [(.list 2 false (r_2.map FlagD.c)), (.list 1 false (r_3.map cS)), (pI r_4)])), ([], 10, 1, .eq (pB false)), ([], 12, 1, .eq (pI (r_3.length : Int))), ([], 12, 2, .eq (pB true)), ([], 13, 2, .ret (JobD.a r_5))]) (ex := .ret) (r := (JobD.a r_5)) (by kernel_rfl) rfl (by kernel_rfl) (allC (ref15New_ok (k + 2) kind p draws _ q1) (allC (cg q2) (allC (cg q3) (allC (ref03Parse_ok (k + 1) (bs [115]) argv _ q4) (allC (cg q5) (allC (len_ob (rfl : (r_3.map cS) = r_3.map cS)) (allC (cg q6) (allC (ref15Fail_ok k r_1 (bs [108, 110]) (1 : Int) _ q7) allN)))))))) (by kernel_rfl) allN
        · obtain ⟨y_1, q7, h⟩ := bnd_some h
          obtain ⟨y_2, q8, h⟩ := bnd_some h
          obtain ⟨r_5, q9, h⟩ := bnd_some h
          rcases bif_some h with ⟨q10, h⟩ | ⟨q10, h⟩
          · revert h; subst q10; intro h
            obtain rfl := Option.some.inj h
            exact ret_go (k := (k + 3)) Tryz.func10 Tryz.ntmps10 (by kernel_rfl) (by kernel_rfl) (lb rfl) (adv [([], 1, 3, .ret (JobD.a r_1)), ([], 4, 1, .eq (pB true)), ([], 7, 2, .eq (pB false)), ([], 9, 2, .ret (.tup [(.list 2 false (r_2.map FlagD.c)), (.list 1 false (r_3.map cS)), (pI r_4)])), ([], 10, 1, .eq (pB false)), ([], 12, 1, .eq (pI (r_3.length : Int))), ([], 12, 2, .eq (pB false)), ([], 14, 1, .elem [(pS y_1)]), ([], 15, 1, .elem [(pS y_2)]), ([], 16, 1, .ret (pB true))]) (ex := .ret) (r := (.agg [(pI r_1.kind), (pI r_1.p), (pI r_1.phase), (pI r_1.fd), (pI r_1.nF), (pI r_1.modeF), (pI r_1.tries), (pI r_1.atF), (pI (1 : Int)), (pS y_1), (pS y_2), (pS r_1.text), (.list 1 false (r_1.names.map cS)), (.list 3 false (r_1.stack.map FrameD.c)), (.list 1 false (r_1.draws.map cI)), (pB r_1.done), (pI r_1.exit), (pS r_1.out), (pI r_1.e)])) (by kernel_rfl) rfl (by kernel_rfl) (allC (ref15New_ok (k + 2) kind p draws _ q1) (allC (cg q2) (allC (cg q3) (allC (ref03Parse_ok (k + 1) (bs [115]) argv _ q4) (allC (cg q5) (allC (len_ob (rfl : (r_3.map cS) = r_3.map cS)) (allC (cg q6) (allC (gt_list (c := cS) q7) (allC (gt_list (c := cS) q8) (allC (ref03Has_ok (k + 1) r_2 (115 : Int) _ q9) allN)))))))))) (by kernel_rfl) allN
          · revert h; subst q10; intro h
            obtain rfl := Option.some.inj h
            exact ret_go (k := (k + 3)) Tryz.func10 Tryz.ntmps10 (by kernel_rfl) (by kernel_rfl) (lb rfl) (adv [([], 1, 3, .ret (JobD.a r_1)), ([], 4, 1, .eq (pB true)), ([], 7, 2, .eq (pB false)), ([], 9, 2, .ret (.tup [(.list 2 false (r_2.map FlagD.c)), (.list 1 false (r_3.map cS)), (pI r_4)])), ([], 10, 1, .eq (pB false)), ([], 12, 1, .eq (pI (r_3.length : Int))), ([], 12, 2, .eq (pB false)), ([], 14, 1, .elem [(pS y_1)]), ([], 15, 1, .elem [(pS y_2)]), ([], 16, 1, .ret (pB false))]) (ex := .ret) (r := (.agg [(pI r_1.kind), (pI r_1.p), (pI r_1.phase), (pI r_1.fd), (pI r_1.nF), (pI r_1.modeF), (pI r_1.tries), (pI r_1.atF), (pI r_1.flags), (pS y_1), (pS y_2), (pS r_1.text), (.list 1 false (r_1.names.map cS)), (.list 3 false (r_1.stack.map FrameD.c)), (.list 1 false (r_1.draws.map cI)), (pB r_1.done), (pI r_1.exit), (pS r_1.out), (pI r_1.e)])) (by kernel_rfl) rfl (by kernel_rfl) (allC (ref15New_ok (k + 2) kind p draws _ q1) (allC (cg q2) (allC (cg q3) (allC (ref03Parse_ok (k + 1) (bs [115]) argv _ q4) (allC (cg q5) (allC (len_ob (rfl : (r_3.map cS) = r_3.map cS)) (allC (cg q6) (allC (gt_list (c := cS) q7) (allC (gt_list (c := cS) q8) (allC (ref03Has_ok (k + 1) r_2 (115 : Int) _ q9) allN)))))))))) (by kernel_rfl) allN
  · rcases bif_some h with ⟨q3, h⟩ | ⟨q3, h⟩
    · rcases bif_some h with ⟨q4, h⟩ | ⟨q4, h⟩
      · obtain ⟨r_2, q5, h⟩ := bnd_some h
        obtain rfl := Option.some.inj h
        exact ret_go (k := (k + 3)) Tryz.func10 Tryz.ntmps10 (by kernel_rfl) (by kernel_rfl) (lb rfl) (adv [([], 1, 3, .ret (JobD.a r_1)), ([], 4, 1, .eq (pB false)), ([], 7, 2, .eq (pB true)), ([], 7, 5, .eq (pB true)), ([], 8, 1, .ret (JobD.a r_2))]) (ex := .ret) (r := (JobD.a r_2)) (by kernel_rfl) rfl (by kernel_rfl) (allC (ref15New_ok (k + 2) kind p draws _ q1) (allC (cg q2) (allC (cg q3) (allC (cg q4) (allC (ref15Fail_ok k r_1 (bs []) (1 : Int) _ q5) allN))))) (by kernel_rfl) allN
      · obtain ⟨⟨r_2, r_3, r_4⟩, q5, h⟩ := bnd_some h
        try dsimp only at h
        rcases bif_some h with ⟨q6, h⟩ | ⟨q6, h⟩
        · obtain ⟨r_5, q7, h⟩ := bnd_some h
          obtain rfl := Option.some.inj h
          exact ret_go (k := (k + 3)) Tryz.func10 Tryz.ntmps10 (by kernel_rfl) (by kernel_rfl) (lb rfl) (adv [([], 1, 3, .ret (JobD.a r_1)), ([], 4, 1, .eq (pB false)), ([], 7, 2, .eq (pB true)), ([], 7, 5, .eq (pB false)), ([], 9, 2, .ret (.tup [(.list 2 false (r_2.map FlagD.c)), (.list 1 false (r_3.map cS)), (pI r_4)])), ([], 10, 1, .eq (pB true)), ([], 11, 3, .ret (JobD.a r_5))]) (ex := .ret) (r := (JobD.a r_5)) (by kernel_rfl) rfl (by kernel_rfl) (allC (ref15New_ok (k + 2) kind p draws _ q1) (allC (cg q2) (allC (cg q3) (allC (cg q4) (allC (ref03Parse_ok (k + 1) (bs [102]) argv _ q5) (allC (cg q6) (allC (ref15Fail_ok k r_1 (bs [109, 118]) r_4 _ q7) allN))))))) (by kernel_rfl) allN
        · rcases bif_some h with ⟨q7, h⟩ | ⟨q7, h⟩
          · obtain ⟨r_5, q8, h⟩ := bnd_some h
            obtain rfl := Option.some.inj h
            exact ret_go (k := (k + 3)) Tryz.func10 Tryz.ntmps10 (by kernel_rfl) (by kernel_rfl) (lb rfl) (adv [([], 1, 3, .ret (JobD.a r_1)), ([], 4, 1, .eq (pB false)), ([], 7, 2, .eq (pB true)), ([], 7, 5, .eq (pB false)), ([], 9, 2, .ret (.tup [(.list 2 false (r_2.map FlagD.c)), (.list 1 false (r_3.map cS)), (pI r_4)])), ([], 10, 1, .eq (pB false)), ([], 12, 1, .eq (pI (r_3.length : Int))), ([], 12, 2, .eq (pB true)), ([], 13, 2, .ret (JobD.a r_5))]) (ex := .ret) (r := (JobD.a r_5)) (by kernel_rfl) rfl (by kernel_rfl) (allC (ref15New_ok (k + 2) kind p draws _ q1) (allC (cg q2) (allC (cg q3) (allC (cg q4) (allC (ref03Parse_ok (k + 1) (bs [102]) argv _ q5) (allC (cg q6) (allC (len_ob (rfl : (r_3.map cS) = r_3.map cS)) (allC (cg q7) (allC (ref15Fail_ok k r_1 (bs [109, 118]) (1 : Int) _ q8) allN))))))))) (by kernel_rfl) allN
          · obtain ⟨y_1, q8, h⟩ := bnd_some h
            obtain ⟨y_2, q9, h⟩ := bnd_some h
            obtain ⟨r_5, q10, h⟩ := bnd_some h
            rcases bif_some h with ⟨q11, h⟩ | ⟨q11, h⟩
            · revert h; subst q11; intro h
              obtain rfl := Option.some.inj h
              exact ret_go (k := (k + 3)) Tryz.func10 Tryz.ntmps10 (by kernel_rfl) (by kernel_rfl) (lb rfl) (adv [([], 1, 3, .ret (JobD.a r_1)), ([], 4, 1, .eq (pB false)), ([], 7, 2, .eq (pB true)), ([], 7, 5, .eq (pB false)), ([], 9, 2, .ret (.tup [(.list 2 false (r_2.map FlagD.c)), (.list 1 false (r_3.map cS)), (pI r_4)])), ([], 10, 1, .eq (pB false)), ([], 12, 1, .eq (pI (r_3.length : Int))), ([], 12, 2, .eq (pB false)), ([], 14, 1, .elem [(pS y_1)]), ([], 15, 1, .elem [(pS y_2)]), ([], 16, 1, .ret (pB true))]) (ex := .ret) (r := (.agg [(pI r_1.kind), (pI r_1.p), (pI r_1.phase), (pI r_1.fd), (pI r_1.nF), (pI r_1.modeF), (pI r_1.tries), (pI r_1.atF), (pI (1 : Int)), (pS y_1), (pS y_2), (pS r_1.text), (.list 1 false (r_1.names.map cS)), (.list 3 false (r_1.stack.map FrameD.c)), (.list 1 false (r_1.draws.map cI)), (pB r_1.done), (pI r_1.exit), (pS r_1.out), (pI r_1.e)])) (by kernel_rfl) rfl (by kernel_rfl) (allC (ref15New_ok (k + 2) kind p draws _ q1) (allC (cg q2) (allC (cg q3) (allC (cg q4) (allC (ref03Parse_ok (k + 1) (bs [102]) argv _ q5) (allC (cg q6) (allC (len_ob (rfl : (r_3.map cS) = r_3.map cS)) (allC (cg q7) (allC (gt_list (c := cS) q8) (allC (gt_list (c := cS) q9) (allC (ref03Has_ok (k + 1) r_2 (115 : Int) _ q10) allN))))))))))) (by kernel_rfl) allN
            · revert h; subst q11; intro h
              obtain rfl := Option.some.inj h
              exact ret_go (k := (k + 3)) Tryz.func10 Tryz.ntmps10 (by kernel_rfl) (by kernel_rfl) (lb rfl) (adv [([], 1, 3, .ret (JobD.a r_1)), ([], 4, 1, .eq (pB false)), ([], 7, 2, .eq (pB true)), ([], 7, 5, .eq (pB false)), ([], 9, 2, .ret (.tup [(.list 2 false (r_2.map FlagD.c)), (.list 1 false (r_3.map cS)), (pI r_4)])), ([], 10, 1, .eq (pB false)), ([], 12, 1, .eq (pI (r_3.length : Int))), ([], 12, 2, .eq (pB false)), ([], 14, 1, .elem [(pS y_1)]), ([], 15, 1, .elem [(pS y_2)]), ([], 16, 1, .ret (pB false))]) (ex := .ret) (r := (.agg [(pI r_1.kind), (pI r_1.p), (pI r_1.phase), (pI r_1.fd), (pI r_1.nF), (pI r_1.modeF), (pI r_1.tries), (pI r_1.atF), (pI r_1.flags), (pS y_1), (pS y_2), (pS r_1.text), (.list 1 false (r_1.names.map cS)), (.list 3 false (r_1.stack.map FrameD.c)), (.list 1 false (r_1.draws.map cI)), (pB r_1.done), (pI r_1.exit), (pS r_1.out), (pI r_1.e)])) (by kernel_rfl) rfl (by kernel_rfl) (allC (ref15New_ok (k + 2) kind p draws _ q1) (allC (cg q2) (allC (cg q3) (allC (cg q4) (allC (ref03Parse_ok (k + 1) (bs [102]) argv _ q5) (allC (cg q6) (allC (len_ob (rfl : (r_3.map cS) = r_3.map cS)) (allC (cg q7) (allC (gt_list (c := cS) q8) (allC (gt_list (c := cS) q9) (allC (ref03Has_ok (k + 1) r_2 (115 : Int) _ q10) allN))))))))))) (by kernel_rfl) allN
    · obtain ⟨⟨r_2, r_3, r_4⟩, q4, h⟩ := bnd_some h
      try dsimp only at h
      rcases bif_some h with ⟨q5, h⟩ | ⟨q5, h⟩
      · obtain ⟨r_5, q6, h⟩ := bnd_some h
        obtain rfl := Option.some.inj h
        exact ret_go (k := (k + 3)) Tryz.func10 Tryz.ntmps10 (by kernel_rfl) (by kernel_rfl) (lb rfl) (adv [([], 1, 3, .ret (JobD.a r_1)), ([], 4, 1, .eq (pB false)), ([], 7, 2, .eq (pB false)), ([], 9, 2, .ret (.tup [(.list 2 false (r_2.map FlagD.c)), (.list 1 false (r_3.map cS)), (pI r_4)])), ([], 10, 1, .eq (pB true)), ([], 11, 3, .ret (JobD.a r_5))]) (ex := .ret) (r := (JobD.a r_5)) (by kernel_rfl) rfl (by kernel_rfl) (allC (ref15New_ok (k + 2) kind p draws _ q1) (allC (cg q2) (allC (cg q3) (allC (ref03Parse_ok (k + 1) (bs [102]) argv _ q4) (allC (cg q5) (allC (ref15Fail_ok k r_1 (bs [109, 118]) r_4 _ q6) allN)))))) (by kernel_rfl) allN
      · rcases bif_some h with ⟨q6, h⟩ | ⟨q6, h⟩
        · obtain ⟨r_5, q7, h⟩ := bnd_some h
          obtain rfl := Option.some.inj h
          exact ret_go (k := (k + 3)) Tryz.func10 Tryz.ntmps10 (by kernel_rfl) (by kernel_rfl) (lb rfl) (adv [([], 1, 3, .ret (JobD.a r_1)), ([], 4, 1, .eq (pB false)), ([], 7, 2, .eq (pB false)), ([], 9, 2, .ret (.tup [(.list 2 false (r_2.map FlagD.c)), (.list 1 false (r_3.map cS)), (pI r_4)])), ([], 10, 1, .eq (pB false)), ([], 12, 1, .eq (pI (r_3.length : Int))), ([], 12, 2, .eq (pB true)), ([], 13, 2, .ret (JobD.a r_5))]) (ex := .ret) (r := (JobD.a r_5)) (by kernel_rfl) rfl (by kernel_rfl) (allC (ref15New_ok (k + 2) kind p draws _ q1) (allC (cg q2) (allC (cg q3) (allC (ref03Parse_ok (k + 1) (bs [102]) argv _ q4) (allC (cg q5) (allC (len_ob (rfl : (r_3.map cS) = r_3.map cS)) (allC (cg q6) (allC (ref15Fail_ok k r_1 (bs [109, 118]) (1 : Int) _ q7) allN)))))))) (by kernel_rfl) allN
        · obtain ⟨y_1, q7, h⟩ := bnd_some h
          obtain ⟨y_2, q8, h⟩ := bnd_some h
          obtain ⟨r_5, q9, h⟩ := bnd_some h
          rcases bif_some h with ⟨q10, h⟩ | ⟨q10, h⟩
          · revert h; subst q10; intro h
            obtain rfl := Option.some.inj h
            exact ret_go (k := (k + 3)) Tryz.func10 Tryz.ntmps10 (by kernel_rfl) (by kernel_rfl) (lb rfl) (adv [([], 1, 3, .ret (JobD.a r_1)), ([], 4, 1, .eq (pB false)), ([], 7, 2, .eq (pB false)), ([], 9, 2, .ret (.tup [(.list 2 false (r_2.map FlagD.c)), (.list 1 false (r_3.map cS)), (pI r_4)])), ([], 10, 1, .eq (pB false)), ([], 12, 1, .eq (pI (r_3.length : Int))), ([], 12, 2, .eq (pB false)), ([], 14, 1, .elem [(pS y_1)]), ([], 15, 1, .elem [(pS y_2)]), ([], 16, 1, .ret (pB true))]) (ex := .ret) (r := (.agg [(pI r_1.kind), (pI r_1.p), (pI r_1.phase), (pI r_1.fd), (pI r_1.nF), (pI r_1.modeF), (pI r_1.tries), (pI r_1.atF), (pI (1 : Int)), (pS y_1), (pS y_2), (pS r_1.text), (.list 1 false (r_1.names.map cS)), (.list 3 false (r_1.stack.map FrameD.c)), (.list 1 false (r_1.draws.map cI)), (pB r_1.done), (pI r_1.exit), (pS r_1.out), (pI r_1.e)])) (by kernel_rfl) rfl (by kernel_rfl) (allC (ref15New_ok (k + 2) kind p draws _ q1) (allC (cg q2) (allC (cg q3) (allC (ref03Parse_ok (k + 1) (bs [102]) argv _ q4) (allC (cg q5) (allC (len_ob (rfl : (r_3.map cS) = r_3.map cS)) (allC (cg q6) (allC (gt_list (c := cS) q7) (allC (gt_list (c := cS) q8) (allC (ref03Has_ok (k + 1) r_2 (115 : Int) _ q9) allN)))))))))) (by kernel_rfl) allN
          · revert h; subst q10; intro h
            obtain rfl := Option.some.inj h
            exact ret_go (k := (k + 3)) Tryz.func10 Tryz.ntmps10 (by kernel_rfl) (by kernel_rfl) (lb rfl) (adv [([], 1, 3, .ret (JobD.a r_1)), ([], 4, 1, .eq (pB false)), ([], 7, 2, .eq (pB false)), ([], 9, 2, .ret (.tup [(.list 2 false (r_2.map FlagD.c)), (.list 1 false (r_3.map cS)), (pI r_4)])), ([], 10, 1, .eq (pB false)), ([], 12, 1, .eq (pI (r_3.length : Int))), ([], 12, 2, .eq (pB false)), ([], 14, 1, .elem [(pS y_1)]), ([], 15, 1, .elem [(pS y_2)]), ([], 16, 1, .ret (pB false))]) (ex := .ret) (r := (.agg [(pI r_1.kind), (pI r_1.p), (pI r_1.phase), (pI r_1.fd), (pI r_1.nF), (pI r_1.modeF), (pI r_1.tries), (pI r_1.atF), (pI r_1.flags), (pS y_1), (pS y_2), (pS r_1.text), (.list 1 false (r_1.names.map cS)), (.list 3 false (r_1.stack.map FrameD.c)), (.list 1 false (r_1.draws.map cI)), (pB r_1.done), (pI r_1.exit), (pS r_1.out), (pI r_1.e)])) (by kernel_rfl) rfl (by kernel_rfl) (allC (ref15New_ok (k + 2) kind p draws _ q1) (allC (cg q2) (allC (cg q3) (allC (ref03Parse_ok (k + 1) (bs [102]) argv _ q4) (allC (cg q5) (allC (len_ob (rfl : (r_3.map cS) = r_3.map cS)) (allC (cg q6) (allC (gt_list (c := cS) q7) (allC (gt_list (c := cS) q8) (allC (ref03Has_ok (k + 1) r_2 (115 : Int) _ q9) allN)))))))))) (by kernel_rfl) allN
end Go.Proofs.YtfjflodicgjihaaGreatDoor.Den
