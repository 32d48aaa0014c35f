/- Texts joined by a program of mine (pack.py): DenF9 DenF10 DenF11 DenF12 DenF13. -/
import Derived.Test.YtaenhodkpidocaaGreatDoorDenF8
set_option linter.unusedVariables false
set_option linter.unusedSimpArgs false
namespace Go.Proofs.YtaenhodkpidocaaGreatDoor.Den
open Go Go.RowKit
def ref01Join (a : ByteArray) (b : ByteArray) : Option ByteArray :=
 bif (seq a (bs [])) then (
 some b
 ) else (
 bif (!(seq b (bs []))) then (
 (gtS b (0 : Int)).bind fun b_1 =>
 bif ((b_1.toNat : Int) == (47 : Int)) then (
 some b
 ) else (
 bif (seq b (bs [])) then (
 some a
 ) else (
 (gtS a (w64 ((a.size : Int) - (1 : Int)))).bind fun b_2 =>
 bif ((b_2.toNat : Int) == (47 : Int)) then (
 grd (¬ (((a.size + b.size : Nat) : Int) > IntKind.i64.max)) <|
 some (a ++ b)
 ) else (
 grd (¬ (((a.size + (bs [47]).size : Nat) : Int) > IntKind.i64.max)) <|
 grd (¬ ((((a ++ (bs [47])).size + b.size : Nat) : Int) > IntKind.i64.max)) <|
 some ((a ++ (bs [47])) ++ b)
 )
 )
 )
 ) else (
 bif (seq b (bs [])) then (
 some a
 ) else (
 (gtS a (w64 ((a.size : Int) - (1 : Int)))).bind fun b_1 =>
 bif ((b_1.toNat : Int) == (47 : Int)) then (
 grd (¬ (((a.size + b.size : Nat) : Int) > IntKind.i64.max)) <|
 some (a ++ b)
 ) else (
 grd (¬ (((a.size + (bs [47]).size : Nat) : Int) > IntKind.i64.max)) <|
 grd (¬ ((((a ++ (bs [47])).size + b.size : Nat) : Int) > IntKind.i64.max)) <|
 some ((a ++ (bs [47])) ++ b)
 )
 )
 )
 )
set_option maxRecDepth 100000 in
theorem ref01Join_ok (k : Nat) (a : ByteArray) (b : ByteArray) (r : ByteArray) (h : ref01Join a b = some r) : run0 (k + 1) 42 [(pS a), (pS b)] = some (pS r) := by
  unfold ref01Join at h
  rcases bif_some h with ⟨q1, h⟩ | ⟨q1, h⟩
  · obtain rfl := Option.some.inj h
    exact ret_go (k := k) Tryz.func42 Tryz.ntmps42 (by kernel_rfl) (by kernel_rfl) (lb rfl) (adv [([], 1, 2, .eq (pB true))]) (ex := .ret) (r := (pS b)) (by kernel_rfl) rfl (by kernel_rfl) (allC (cg q1) allN) (by kernel_rfl) allN
  · rcases bif_some h with ⟨q2, h⟩ | ⟨q2, h⟩
    · obtain ⟨b_1, q3, h⟩ := bnd_some h
      rcases bif_some h with ⟨q4, h⟩ | ⟨q4, h⟩
      · obtain rfl := Option.some.inj h
        exact ret_go (k := k) Tryz.func42 Tryz.ntmps42 (by kernel_rfl) (by kernel_rfl) (lb rfl) (adv [([], 1, 2, .eq (pB false)), ([], 1, 5, .eq (pB true)), ([], 1, 7, .chr b_1), ([], 1, 10, .eq (pB true))]) (ex := .ret) (r := (pS b)) (by kernel_rfl) rfl (by kernel_rfl) (allC (cg q1) (allC (cg q2) (allC q3 (allC (cg q4) allN)))) (by kernel_rfl) allN
      · rcases bif_some h with ⟨q5, h⟩ | ⟨q5, h⟩
        · obtain rfl := Option.some.inj h
          exact ret_go (k := k) Tryz.func42 Tryz.ntmps42 (by kernel_rfl) (by kernel_rfl) (lb rfl) (adv [([], 1, 2, .eq (pB false)), ([], 1, 5, .eq (pB true)), ([], 1, 7, .chr b_1), ([], 1, 10, .eq (pB false)), ([], 3, 1, .eq (pB true))]) (ex := .ret) (r := (pS a)) (by kernel_rfl) rfl (by kernel_rfl) (allC (cg q1) (allC (cg q2) (allC q3 (allC (cg q4) (allC (cg q5) allN))))) (by kernel_rfl) allN
        · obtain ⟨b_2, q6, h⟩ := bnd_some h
          rcases bif_some h with ⟨q7, h⟩ | ⟨q7, h⟩
          · obtain ⟨q8, h⟩ := grd_some h
            obtain rfl := Option.some.inj h
            exact ret_go (k := k) Tryz.func42 Tryz.ntmps42 (by kernel_rfl) (by kernel_rfl) (lb rfl) (adv [([], 1, 2, .eq (pB false)), ([], 1, 5, .eq (pB true)), ([], 1, 7, .chr b_1), ([], 1, 10, .eq (pB false)), ([], 3, 1, .eq (pB false)), ([], 5, 4, .chr b_2), ([], 5, 5, .eq (pB true)), ([], 6, 2, .cat)]) (ex := .ret) (r := (pS (a ++ b))) (by kernel_rfl) rfl (by kernel_rfl) (allC (cg q1) (allC (cg q2) (allC q3 (allC (cg q4) (allC (cg q5) (allC q6 (allC (cg q7) (allC q8 allN)))))))) (by kernel_rfl) allN
          · obtain ⟨q8, h⟩ := grd_some h
            obtain ⟨q9, h⟩ := grd_some h
            obtain rfl := Option.some.inj h
            exact ret_go (k := k) Tryz.func42 Tryz.ntmps42 (by kernel_rfl) (by kernel_rfl) (lb rfl) (adv [([], 1, 2, .eq (pB false)), ([], 1, 5, .eq (pB true)), ([], 1, 7, .chr b_1), ([], 1, 10, .eq (pB false)), ([], 3, 1, .eq (pB false)), ([], 5, 4, .chr b_2), ([], 5, 5, .eq (pB false)), ([], 7, 1, .cat), ([], 7, 3, .cat)]) (ex := .ret) (r := (pS ((a ++ (bs [47])) ++ b))) (by kernel_rfl) rfl (by kernel_rfl) (allC (cg q1) (allC (cg q2) (allC q3 (allC (cg q4) (allC (cg q5) (allC q6 (allC (cg q7) (allC q8 (allC q9 allN))))))))) (by kernel_rfl) allN
    · rcases bif_some h with ⟨q3, h⟩ | ⟨q3, h⟩
      · obtain rfl := Option.some.inj h
        exact ret_go (k := k) Tryz.func42 Tryz.ntmps42 (by kernel_rfl) (by kernel_rfl) (lb rfl) (adv [([], 1, 2, .eq (pB false)), ([], 1, 5, .eq (pB false)), ([], 3, 1, .eq (pB true))]) (ex := .ret) (r := (pS a)) (by kernel_rfl) rfl (by kernel_rfl) (allC (cg q1) (allC (cg q2) (allC (cg q3) allN))) (by kernel_rfl) allN
      · obtain ⟨b_1, q4, h⟩ := bnd_some h
        rcases bif_some h with ⟨q5, h⟩ | ⟨q5, h⟩
        · obtain ⟨q6, h⟩ := grd_some h
          obtain rfl := Option.some.inj h
          exact ret_go (k := k) Tryz.func42 Tryz.ntmps42 (by kernel_rfl) (by kernel_rfl) (lb rfl) (adv [([], 1, 2, .eq (pB false)), ([], 1, 5, .eq (pB false)), ([], 3, 1, .eq (pB false)), ([], 5, 4, .chr b_1), ([], 5, 5, .eq (pB true)), ([], 6, 2, .cat)]) (ex := .ret) (r := (pS (a ++ b))) (by kernel_rfl) rfl (by kernel_rfl) (allC (cg q1) (allC (cg q2) (allC (cg q3) (allC q4 (allC (cg q5) (allC q6 allN)))))) (by kernel_rfl) allN
        · obtain ⟨q6, h⟩ := grd_some h
          obtain ⟨q7, h⟩ := grd_some h
          obtain rfl := Option.some.inj h
          exact ret_go (k := k) Tryz.func42 Tryz.ntmps42 (by kernel_rfl) (by kernel_rfl) (lb rfl) (adv [([], 1, 2, .eq (pB false)), ([], 1, 5, .eq (pB false)), ([], 3, 1, .eq (pB false)), ([], 5, 4, .chr b_1), ([], 5, 5, .eq (pB false)), ([], 7, 1, .cat), ([], 7, 3, .cat)]) (ex := .ret) (r := (pS ((a ++ (bs [47])) ++ b))) (by kernel_rfl) rfl (by kernel_rfl) (allC (cg q1) (allC (cg q2) (allC (cg q3) (allC q4 (allC (cg q5) (allC q6 (allC q7 allN))))))) (by kernel_rfl) allN
def ref21Stem (path : ByteArray) : Option ByteArray :=
 (ref01Base path).bind fun r_1 =>
 bif (decide ((r_1.size : Int) ≥ (3 : Int))) then (
 grd (0 ≤ (0 : Int) ∧ (0 : Int) ≤ (3 : Int) ∧ (3 : Int) ≤ (r_1.size : Int)) <|
 bif (seq (r_1.extract 0 ((3 : Int)).toNat) (bs [116, 109, 112])) then (
 (ref01Dir path).bind fun r_2 =>
 (ref01Join r_2 (bs [112, 109, 116, 88, 88, 88])).bind fun r_3 =>
 some r_3
 ) else (
 (ref01Dir path).bind fun r_2 =>
 (ref01Join r_2 (bs [116, 109, 112, 88, 88, 88])).bind fun r_3 =>
 some r_3
 )
 ) else (
 (ref01Dir path).bind fun r_2 =>
 (ref01Join r_2 (bs [116, 109, 112, 88, 88, 88])).bind fun r_3 =>
 some r_3
 )
set_option maxRecDepth 100000 in
theorem ref21Stem_ok (k : Nat) (path : ByteArray) (r : ByteArray) (h : ref21Stem path = some r) : run0 (k + 3) 12 [(pS path)] = some (pS r) := by
  unfold ref21Stem at h
  obtain ⟨r_1, q1, h⟩ := bnd_some h
  rcases bif_some h with ⟨q2, h⟩ | ⟨q2, h⟩
  · obtain ⟨q3, h⟩ := grd_some h
    rcases bif_some h with ⟨q4, h⟩ | ⟨q4, h⟩
    · obtain ⟨r_2, q5, h⟩ := bnd_some h
      obtain ⟨r_3, q6, h⟩ := bnd_some h
      obtain rfl := Option.some.inj h
      exact ret_go (k := (k + 2)) Tryz.func12 Tryz.ntmps12 (by kernel_rfl) (by kernel_rfl) (lb rfl) (adv [([], 1, 1, .ret (pS r_1)), ([], 3, 3, .eq (pB true)), ([], 3, 5, .sub false), ([], 3, 7, .eq (pB true)), ([], 5, 1, .ret (pS r_2)), ([], 5, 3, .ret (pS r_3))]) (ex := .ret) (r := (pS r_3)) (by kernel_rfl) rfl (by kernel_rfl) (allC (ref01Base_ok k path _ q1) (allC (cg q2) (allC q3 (allC (cg q4) (allC (ref01Dir_ok k path _ q5) (allC (ref01Join_ok (k + 1) r_2 (bs [112, 109, 116, 88, 88, 88]) _ q6) allN)))))) (by kernel_rfl) allN
    · obtain ⟨r_2, q5, h⟩ := bnd_some h
      obtain ⟨r_3, q6, h⟩ := bnd_some h
      obtain rfl := Option.some.inj h
      exact ret_go (k := (k + 2)) Tryz.func12 Tryz.ntmps12 (by kernel_rfl) (by kernel_rfl) (lb rfl) (adv [([], 1, 1, .ret (pS r_1)), ([], 3, 3, .eq (pB true)), ([], 3, 5, .sub false), ([], 3, 7, .eq (pB false)), ([], 5, 1, .ret (pS r_2)), ([], 5, 3, .ret (pS r_3))]) (ex := .ret) (r := (pS r_3)) (by kernel_rfl) rfl (by kernel_rfl) (allC (ref01Base_ok k path _ q1) (allC (cg q2) (allC q3 (allC (cg q4) (allC (ref01Dir_ok k path _ q5) (allC (ref01Join_ok (k + 1) r_2 (bs [116, 109, 112, 88, 88, 88]) _ q6) allN)))))) (by kernel_rfl) allN
  · obtain ⟨r_2, q3, h⟩ := bnd_some h
    obtain ⟨r_3, q4, h⟩ := bnd_some h
    obtain rfl := Option.some.inj h
    exact ret_go (k := (k + 2)) Tryz.func12 Tryz.ntmps12 (by kernel_rfl) (by kernel_rfl) (lb rfl) (adv [([], 1, 1, .ret (pS r_1)), ([], 3, 3, .eq (pB false)), ([], 5, 1, .ret (pS r_2)), ([], 5, 3, .ret (pS r_3))]) (ex := .ret) (r := (pS r_3)) (by kernel_rfl) rfl (by kernel_rfl) (allC (ref01Base_ok k path _ q1) (allC (cg q2) (allC (ref01Dir_ok k path _ q3) (allC (ref01Join_ok (k + 1) r_2 (bs [116, 109, 112, 88, 88, 88]) _ q4) allN)))) (by kernel_rfl) allN
noncomputable def ref02Count_L2 : Code := cAt (codeOf Tryz.f131) [true, true, false, false, false]
def ref02Count_R2 (x0 : ByteArray) (x1 : Int) : St := ⟨envL [(0, (pS x0)), (3, (pI x1))], hsL [] []⟩
def ref02Count_S2 (p0 : ByteArray) : Int → St
 | v0 => ref02Count_R2 p0 v0
def ref02Count_b2 (p0 : ByteArray) : Int → Option (Int ⊕ ((Int × UInt8) ⊕ Int))
 | v0 =>
 bif (decide (v0 < (p0.size : Int))) then (
 (gtS p0 (w64 ((w64 ((p0.size : Int) - (1 : Int))) - v0))).bind fun b_1 =>
 bif ((b_1.toNat : Int) == (88 : Int)) then (
 some (.inl (w64 (v0 + (1 : Int))))
 ) else (
 some (.inr (.inl (v0, b_1)))
 )
 ) else (
 some (.inr (.inr (v0)))
 )
set_option maxRecDepth 100000 in
theorem ref02Count_t2 (k : Nat) (p0 : ByteArray) (v0 a1 : Int) (h : ref02Count_b2 p0 v0 = some (.inl a1)) : ∃ σ, run1 k 131 0 21 ref02Count_L2 (ref02Count_S2 p0 v0) = some (.normal, σ) ∧ canonS 0 [0, 3] σ = some (ref02Count_S2 p0 a1) := by
  unfold ref02Count_b2 at h
  try dsimp only at h
  rcases bif_some h with ⟨q1, h⟩ | ⟨q1, h⟩
  · obtain ⟨b_1, q2, h⟩ := bnd_some h
    rcases bif_some h with ⟨q3, h⟩ | ⟨q3, h⟩
    · obtain rfl := Sum.inl.inj (Option.some.inj h)
      exact ⟨_, run_go (k := k) (f := 131) (r0 := 0) (nt := 21) (c := ref02Count_L2) (σ := (ref02Count_S2 p0 v0)) (adv [([], 2, 4, .eq (pB true)), ([], 2, 11, .chr b_1), ([], 2, 13, .eq (pB true))]) (ex := .normal) (by kernel_rfl) (by kernel_rfl) (allC (cg q1) (allC q2 (allC (cg q3) allN))), (by kernel_rfl)⟩
    · cases h
  · cases h
def ref02Count (t : ByteArray) : Option Int :=
 (iterN (ref02Count_b2 t) LF (0 : Int)).bind fun X_1 => match X_1 with
 | .inl (v_1, b_1) => (
 some v_1
 )
 | .inr (v_1) => (
 some v_1
 )
set_option maxRecDepth 100000 in
theorem ref02Count_ok (k : Nat) (t : ByteArray) (r : Int) (h : ref02Count t = some r) : run0 (k + 1) 131 [(pS t)] = some (pI r) := by
  unfold ref02Count at h
  obtain ⟨X_1, q1, h⟩ := bnd_some h
  obtain ⟨v_1, q2, q3⟩ := loop_iter (f := run1 k 131 0 21 ref02Count_L2) (ref02Count_S2 t) (ref02Count_b2 t) (ref02Count_t2 k t) LF (0 : Int) _ (stOf (goStop k 131 0 21 (adv []) 2 (codeOf Tryz.f131) (argS 131 [(pS t)]))) q1 (by kernel_rfl)
  unfold ref02Count_b2 at q2
  try dsimp only at q2
  rcases bif_some q2 with ⟨q6, q2⟩ | ⟨q6, q2⟩
  · obtain ⟨b_1, q7, q2⟩ := bnd_some q2
    rcases bif_some q2 with ⟨q8, q2⟩ | ⟨q8, q2⟩
    · cases q2
    · cases q2
      try dsimp only at h
      have q4 := run_go (k := k) (f := 131) (r0 := 0) (nt := 21) (c := ref02Count_L2) (σ := (ref02Count_S2 t v_1)) (adv [([], 2, 4, .eq (pB true)), ([], 2, 11, .chr b_1), ([], 2, 13, .eq (pB false))]) (ex := (.exit 0)) (by kernel_rfl) (by kernel_rfl) (allC (cg q6) (allC q7 (allC (cg q8) allN)))
      have q5 := q3 _ _ (by intro e; cases e) q4
      obtain rfl := Option.some.inj h
      exact ret_go (k := k) Tryz.func131 Tryz.ntmps131 (by kernel_rfl) (by kernel_rfl) (lb rfl) (adv [] [([], 2, (.exit 0), (stOf (go k 131 0 21 (adv [([], 2, 4, .eq (pB true)), ([], 2, 11, .chr b_1), ([], 2, 13, .eq (pB false))]) ref02Count_L2 (ref02Count_S2 t v_1))))]) (ex := .ret) (r := (pI v_1)) (by kernel_rfl) rfl (by kernel_rfl) (allC q5 allN) (by kernel_rfl) allN
  · cases q2
    try dsimp only at h
    have q4 := run_go (k := k) (f := 131) (r0 := 0) (nt := 21) (c := ref02Count_L2) (σ := (ref02Count_S2 t v_1)) (adv [([], 2, 4, .eq (pB false))]) (ex := (.exit 0)) (by kernel_rfl) (by kernel_rfl) (allC (cg q6) allN)
    have q5 := q3 _ _ (by intro e; cases e) q4
    obtain rfl := Option.some.inj h
    exact ret_go (k := k) Tryz.func131 Tryz.ntmps131 (by kernel_rfl) (by kernel_rfl) (lb rfl) (adv [] [([], 2, (.exit 0), (stOf (go k 131 0 21 (adv [([], 2, 4, .eq (pB false))]) ref02Count_L2 (ref02Count_S2 t v_1))))]) (ex := .ret) (r := (pI v_1)) (by kernel_rfl) rfl (by kernel_rfl) (allC q5 allN) (by kernel_rfl) allN
def ref02Letter (n : Int) : Option ByteArray :=
 bif (decide ((Int.tmod n (36 : Int)) < (0 : Int))) then (
 grd (0 ≤ (w64 ((Int.tmod n (36 : Int)) + (36 : Int))) ∧ (w64 ((Int.tmod n (36 : Int)) + (36 : Int))) ≤ (w64 ((w64 ((Int.tmod n (36 : Int)) + (36 : Int))) + (1 : Int))) ∧ (w64 ((w64 ((Int.tmod n (36 : Int)) + (36 : Int))) + (1 : Int))) ≤ ((bs [97, 98, 99, 100, 101, 102, 103, 104, 105, 106, 107, 108, 109, 110, 111, 112, 113, 114, 115, 116, 117, 118, 119, 120, 121, 122, 48, 49, 50, 51, 52, 53, 54, 55, 56, 57]).size : Int)) <|
 some ((bs [97, 98, 99, 100, 101, 102, 103, 104, 105, 106, 107, 108, 109, 110, 111, 112, 113, 114, 115, 116, 117, 118, 119, 120, 121, 122, 48, 49, 50, 51, 52, 53, 54, 55, 56, 57]).extract ((w64 ((Int.tmod n (36 : Int)) + (36 : Int)))).toNat ((w64 ((w64 ((Int.tmod n (36 : Int)) + (36 : Int))) + (1 : Int)))).toNat)
 ) else (
 grd (0 ≤ (Int.tmod n (36 : Int)) ∧ (Int.tmod n (36 : Int)) ≤ (w64 ((Int.tmod n (36 : Int)) + (1 : Int))) ∧ (w64 ((Int.tmod n (36 : Int)) + (1 : Int))) ≤ ((bs [97, 98, 99, 100, 101, 102, 103, 104, 105, 106, 107, 108, 109, 110, 111, 112, 113, 114, 115, 116, 117, 118, 119, 120, 121, 122, 48, 49, 50, 51, 52, 53, 54, 55, 56, 57]).size : Int)) <|
 some ((bs [97, 98, 99, 100, 101, 102, 103, 104, 105, 106, 107, 108, 109, 110, 111, 112, 113, 114, 115, 116, 117, 118, 119, 120, 121, 122, 48, 49, 50, 51, 52, 53, 54, 55, 56, 57]).extract ((Int.tmod n (36 : Int))).toNat ((w64 ((Int.tmod n (36 : Int)) + (1 : Int)))).toNat)
 )
set_option maxRecDepth 100000 in
theorem ref02Letter_ok (k : Nat) (n : Int) (r : ByteArray) (h : ref02Letter n = some r) : run0 (k + 1) 132 [(pI n)] = some (pS r) := by
  unfold ref02Letter at h
  rcases bif_some h with ⟨q1, h⟩ | ⟨q1, h⟩
  · obtain ⟨q2, h⟩ := grd_some h
    obtain rfl := Option.some.inj h
    exact ret_go (k := k) Tryz.func132 Tryz.ntmps132 (by kernel_rfl) (by kernel_rfl) (lb rfl) (adv [([], 2, 1, .eq (pB true)), ([], 4, 3, .sub false)]) (ex := .ret) (r := (pS ((bs [97, 98, 99, 100, 101, 102, 103, 104, 105, 106, 107, 108, 109, 110, 111, 112, 113, 114, 115, 116, 117, 118, 119, 120, 121, 122, 48, 49, 50, 51, 52, 53, 54, 55, 56, 57]).extract ((w64 ((Int.tmod n (36 : Int)) + (36 : Int)))).toNat ((w64 ((w64 ((Int.tmod n (36 : Int)) + (36 : Int))) + (1 : Int)))).toNat))) (by kernel_rfl) rfl (by kernel_rfl) (allC (cg q1) (allC q2 allN)) (by kernel_rfl) allN
  · obtain ⟨q2, h⟩ := grd_some h
    obtain rfl := Option.some.inj h
    exact ret_go (k := k) Tryz.func132 Tryz.ntmps132 (by kernel_rfl) (by kernel_rfl) (lb rfl) (adv [([], 2, 1, .eq (pB false)), ([], 4, 3, .sub false)]) (ex := .ret) (r := (pS ((bs [97, 98, 99, 100, 101, 102, 103, 104, 105, 106, 107, 108, 109, 110, 111, 112, 113, 114, 115, 116, 117, 118, 119, 120, 121, 122, 48, 49, 50, 51, 52, 53, 54, 55, 56, 57]).extract ((Int.tmod n (36 : Int))).toNat ((w64 ((Int.tmod n (36 : Int)) + (1 : Int)))).toNat))) (by kernel_rfl) rfl (by kernel_rfl) (allC (cg q1) (allC q2 allN)) (by kernel_rfl) allN
noncomputable def ref02Make_L4 : Code := cAt (codeOf Tryz.f70) [true, true, true, false, true, false, false]
def ref02Make_R4 (x0 : List (List PV)) (x1 : Int) (x2 : ByteArray) (x3 : Int) : St := ⟨envL [(1, (.list 1 false x0)), (5, (pI x1)), (6, (pS x2)), (7, (pI x3))], hsL [] []⟩
def ref02Make_S4 (p0 : (List Int)) (p1 : Int) : (ByteArray × Int) → St
 | (v0, v1) => ref02Make_R4 (p0.map cI) p1 v0 v1
def ref02Make_b4 (p0 : (List Int)) (p1 : Int) : (ByteArray × Int) → Option ((ByteArray × Int) ⊕ (ByteArray × Int))
 | (v0, v1) =>
 bif (decide (v1 < p1)) then (
 bif (decide (v1 < (p0.length : Int))) then (
 (gt p0 v1).bind fun y_1 =>
 (ref02Letter y_1).bind fun r_1 =>
 grd (¬ (((v0.size + r_1.size : Nat) : Int) > IntKind.i64.max)) <|
 some (.inl ((v0 ++ r_1), (w64 (v1 + (1 : Int)))))
 ) else (
 (ref02Letter (0 : Int)).bind fun r_1 =>
 grd (¬ (((v0.size + r_1.size : Nat) : Int) > IntKind.i64.max)) <|
 some (.inl ((v0 ++ r_1), (w64 (v1 + (1 : Int)))))
 )
 ) else (
 some (.inr (v0, v1))
 )
set_option maxRecDepth 100000 in
theorem ref02Make_t4 (k : Nat) (p0 : (List Int)) (p1 : Int) (a a1 : (ByteArray × Int)) (h : ref02Make_b4 p0 p1 a = some (.inl a1)) : ∃ σ, run1 (k + 1) 70 0 36 ref02Make_L4 (ref02Make_S4 p0 p1 a) = some (.normal, σ) ∧ canonS 0 [1, 5, 6, 7] σ = some (ref02Make_S4 p0 p1 a1) := by
  obtain ⟨v0, v1⟩ := a
  unfold ref02Make_b4 at h
  try dsimp only at h
  rcases bif_some h with ⟨q1, h⟩ | ⟨q1, h⟩
  · rcases bif_some h with ⟨q2, h⟩ | ⟨q2, h⟩
    · obtain ⟨y_1, q3, h⟩ := bnd_some h
      obtain ⟨r_1, q4, h⟩ := bnd_some h
      obtain ⟨q5, h⟩ := grd_some h
      obtain rfl := Sum.inl.inj (Option.some.inj h)
      exact ⟨_, run_go (k := (k + 1)) (f := 70) (r0 := 0) (nt := 36) (c := ref02Make_L4) (σ := (ref02Make_S4 p0 p1 (v0, v1))) (adv [([], 4, 2, .eq (pB true)), ([], 6, 2, .eq (pI (p0.length : Int))), ([], 6, 3, .eq (pB true)), ([], 7, 3, .elem [(pI y_1)]), ([], 7, 5, .ret (pS r_1)), ([], 7, 6, .cat)]) (ex := .normal) (by kernel_rfl) (by kernel_rfl) (allC (cg q1) (allC (len_ob (rfl : (p0.map cI) = p0.map cI)) (allC (cg q2) (allC (gt_list (c := cI) q3) (allC (ref02Letter_ok k y_1 _ q4) (allC q5 allN)))))), (by kernel_rfl)⟩
    · obtain ⟨r_1, q3, h⟩ := bnd_some h
      obtain ⟨q4, h⟩ := grd_some h
      obtain rfl := Sum.inl.inj (Option.some.inj h)
      exact ⟨_, run_go (k := (k + 1)) (f := 70) (r0 := 0) (nt := 36) (c := ref02Make_L4) (σ := (ref02Make_S4 p0 p1 (v0, v1))) (adv [([], 4, 2, .eq (pB true)), ([], 6, 2, .eq (pI (p0.length : Int))), ([], 6, 3, .eq (pB false)), ([], 8, 1, .ret (pS r_1)), ([], 8, 2, .cat)]) (ex := .normal) (by kernel_rfl) (by kernel_rfl) (allC (cg q1) (allC (len_ob (rfl : (p0.map cI) = p0.map cI)) (allC (cg q2) (allC (ref02Letter_ok k (0 : Int) _ q3) (allC q4 allN))))), (by kernel_rfl)⟩
  · cases h
def ref02Make (t : ByteArray) (draws : (List Int)) : Option ByteArray :=
 (ref02Count t).bind fun r_1 =>
 grd (0 ≤ (0 : Int) ∧ (0 : Int) ≤ (w64 ((t.size : Int) - r_1)) ∧ (w64 ((t.size : Int) - r_1)) ≤ (t.size : Int)) <|
 (iterN (ref02Make_b4 draws r_1) LF ((t.extract 0 ((w64 ((t.size : Int) - r_1))).toNat), (0 : Int))).bind fun (v_1, v_2) =>
 some v_1
set_option maxRecDepth 100000 in
theorem ref02Make_ok (k : Nat) (t : ByteArray) (draws : (List Int)) (r : ByteArray) (h : ref02Make t draws = some r) : run0 (k + 2) 70 [(pS t), (.list 1 false (draws.map cI))] = some (pS r) := by
  unfold ref02Make at h
  obtain ⟨r_1, q1, h⟩ := bnd_some h
  obtain ⟨q2, h⟩ := grd_some h
  obtain ⟨X_1, q3, h⟩ := bnd_some h
  obtain ⟨a_1, q4, q5⟩ := loop_iter (f := run1 (k + 1) 70 0 36 ref02Make_L4) (ref02Make_S4 draws r_1) (ref02Make_b4 draws r_1) (ref02Make_t4 k draws r_1) LF ((t.extract 0 ((w64 ((t.size : Int) - r_1))).toNat), (0 : Int)) _ (stOf (goStop (k + 1) 70 0 36 (adv [([], 1, 1, .ret (pI r_1)), ([], 2, 5, .sub false)]) 4 (codeOf Tryz.f70) (argS 70 [(pS t), (.list 1 false (draws.map cI))]))) q3 (by kernel_rfl)
  obtain ⟨v_1, v_2⟩ := a_1
  unfold ref02Make_b4 at q4
  try dsimp only at q4
  rcases bif_some q4 with ⟨q8, q4⟩ | ⟨q8, q4⟩
  · rcases bif_some q4 with ⟨q9, q4⟩ | ⟨q9, q4⟩
    · obtain ⟨y_1, q10, q4⟩ := bnd_some q4
      obtain ⟨r_2, q11, q4⟩ := bnd_some q4
      obtain ⟨q12, q4⟩ := grd_some q4
      cases q4
    · obtain ⟨r_2, q10, q4⟩ := bnd_some q4
      obtain ⟨q11, q4⟩ := grd_some q4
      cases q4
  · cases q4
    try dsimp only at h
    have q6 := run_go (k := (k + 1)) (f := 70) (r0 := 0) (nt := 36) (c := ref02Make_L4) (σ := (ref02Make_S4 draws r_1 (v_1, v_2))) (adv [([], 4, 2, .eq (pB false))]) (ex := (.exit 0)) (by kernel_rfl) (by kernel_rfl) (allC (cg q8) allN)
    have q7 := q5 _ _ (by intro e; cases e) q6
    obtain rfl := Option.some.inj h
    exact ret_go (k := (k + 1)) Tryz.func70 Tryz.ntmps70 (by kernel_rfl) (by kernel_rfl) (lb rfl) (adv [([], 1, 1, .ret (pI r_1)), ([], 2, 5, .sub false)] [([], 4, (.exit 0), (stOf (go (k + 1) 70 0 36 (adv [([], 4, 2, .eq (pB false))]) ref02Make_L4 (ref02Make_S4 draws r_1 (v_1, v_2)))))]) (ex := .ret) (r := (pS v_1)) (by kernel_rfl) rfl (by kernel_rfl) (allC (ref02Count_ok k t _ q1) (allC q2 (allC q7 allN))) (by kernel_rfl) allN
def ref21Named (j : JobD) : Option JobD :=
 (ref15Draw j (3 : Int)).bind fun (r_1, r_2) =>
 (ref21Stem j.path).bind fun r_3 =>
 (ref02Make r_3 r_1).bind fun r_4 =>
 some (JobD.mk r_2.kind r_2.p r_2.phase r_2.fd r_2.nF r_2.modeF r_2.tries r_2.atF r_2.flags r_2.path r_4 r_2.text r_2.names r_2.stack r_2.draws r_2.done r_2.exit r_2.out r_2.e)
set_option maxRecDepth 100000 in
theorem ref21Named_ok (k : Nat) (j : JobD) (r : JobD) (h : ref21Named j = some r) : run0 (k + 4) 36 [(JobD.a j)] = some (JobD.a r) := by
  unfold ref21Named at h
  obtain ⟨⟨r_1, r_2⟩, q1, h⟩ := bnd_some h
  try dsimp only at h
  obtain ⟨r_3, q2, h⟩ := bnd_some h
  obtain ⟨r_4, q3, h⟩ := bnd_some h
  obtain rfl := Option.some.inj h
  exact ret_go (k := (k + 3)) Tryz.func36 Tryz.ntmps36 (by kernel_rfl) (by kernel_rfl) (lb rfl) (adv [([], 1, 1, .ret (.tup [(.list 1 false (r_1.map cI)), (JobD.a r_2)])), ([], 2, 2, .ret (pS r_3)), ([], 2, 4, .ret (pS r_4))]) (ex := .ret) (r := (.agg [(pI r_2.kind), (pI r_2.p), (pI r_2.phase), (pI r_2.fd), (pI r_2.nF), (pI r_2.modeF), (pI r_2.tries), (pI r_2.atF), (pI r_2.flags), (pS r_2.path), (pS r_4), (pS r_2.text), (.list 1 false (r_2.names.map cS)), (.list 3 false (r_2.stack.map FrameD.c)), (.list 1 false (r_2.draws.map cI)), (pB r_2.done), (pI r_2.exit), (pS r_2.out), (pI r_2.e)])) (by kernel_rfl) rfl (by kernel_rfl) (allC (ref15Draw_ok (k + 2) j (3 : Int) _ q1) (allC (ref21Stem_ok k j.path _ q2) (allC (ref02Make_ok (k + 1) r_3 r_1 _ q3) allN))) (by kernel_rfl) allN
end Go.Proofs.YtaenhodkpidocaaGreatDoor.Den
namespace Go.Proofs.YtaenhodkpidocaaGreatDoor.Den
open Go Go.RowKit
noncomputable def ref01Texts_L4 : Code := cAt (codeOf Tryz.f29) [true, true, false, true, false, false]
def ref01Texts_R4 (x0 : List (List PV)) (x1 : List (List PV)) (x2 : Int) : St := ⟨envL [(0, (.list 1 false x0)), (1, (.list 1 false x1)), (5, (pI x2))], hsL [] []⟩
def ref01Texts_S4 (p0 : (List ByteArray)) (p1 : (List ByteArray)) : Int → St
 | v0 => ref01Texts_R4 (p0.map cS) (p1.map cS) v0
def ref01Texts_b4 (p0 : (List ByteArray)) (p1 : (List ByteArray)) : Int → Option (Int ⊕ ((Int × ByteArray × ByteArray) ⊕ Int))
 | v0 =>
 bif (decide (v0 < (p0.length : Int))) then (
 (gt p0 v0).bind fun y_1 =>
 (gt p1 v0).bind fun y_2 =>
 bif (!(seq y_1 y_2)) then (
 some (.inr (.inl (v0, y_1, y_2)))
 ) else (
 some (.inl (w64 (v0 + (1 : Int))))
 )
 ) else (
 some (.inr (.inr (v0)))
 )
set_option maxRecDepth 100000 in
theorem ref01Texts_t4 (k : Nat) (p0 : (List ByteArray)) (p1 : (List ByteArray)) (v0 a1 : Int) (h : ref01Texts_b4 p0 p1 v0 = some (.inl a1)) : ∃ σ, run1 k 29 0 26 ref01Texts_L4 (ref01Texts_S4 p0 p1 v0) = some (.normal, σ) ∧ canonS 0 [0, 1, 5] σ = some (ref01Texts_S4 p0 p1 a1) := by
  unfold ref01Texts_b4 at h
  try dsimp only at h
  rcases bif_some h with ⟨q1, h⟩ | ⟨q1, h⟩
  · obtain ⟨y_1, q2, h⟩ := bnd_some h
    obtain ⟨y_2, q3, h⟩ := bnd_some h
    rcases bif_some h with ⟨q4, h⟩ | ⟨q4, h⟩
    · cases h
    · obtain rfl := Sum.inl.inj (Option.some.inj h)
      exact ⟨_, run_go (k := k) (f := 29) (r0 := 0) (nt := 26) (c := ref01Texts_L4) (σ := (ref01Texts_S4 p0 p1 v0)) (adv [([], 4, 2, .eq (pI (p0.length : Int))), ([], 4, 3, .eq (pB true)), ([], 6, 2, .elem [(pS y_1)]), ([], 6, 6, .elem [(pS y_2)]), ([], 6, 8, .eq (pB false))]) (ex := .normal) (by kernel_rfl) (by kernel_rfl) (allC (len_ob (rfl : (p0.map cS) = p0.map cS)) (allC (cg q1) (allC (gt_list (c := cS) q2) (allC (gt_list (c := cS) q3) (allC (cg q4) allN))))), (by kernel_rfl)⟩
  · cases h
def ref01Texts (a : (List ByteArray)) (b : (List ByteArray)) : Option Bool :=
 bif ((a.length : Int) != (b.length : Int)) then (
 some false
 ) else (
 (iterN (ref01Texts_b4 a b) LF (0 : Int)).bind fun X_1 => match X_1 with
 | .inl (v_1, y_1, y_2) => (
 some false
 )
 | .inr (v_1) => (
 some true
 )
 )
set_option maxRecDepth 100000 in
theorem ref01Texts_ok (k : Nat) (a : (List ByteArray)) (b : (List ByteArray)) (r : Bool) (h : ref01Texts a b = some r) : run0 (k + 1) 29 [(.list 1 false (a.map cS)), (.list 1 false (b.map cS))] = some (pB r) := by
  unfold ref01Texts at h
  rcases bif_some h with ⟨q1, h⟩ | ⟨q1, h⟩
  · obtain rfl := Option.some.inj h
    exact ret_go (k := k) Tryz.func29 Tryz.ntmps29 (by kernel_rfl) (by kernel_rfl) (lb rfl) (adv [([], 1, 1, .eq (pI (a.length : Int))), ([], 1, 3, .eq (pI (b.length : Int))), ([], 1, 4, .eq (pB true))]) (ex := .ret) (r := (pB false)) (by kernel_rfl) rfl (by kernel_rfl) (allC (len_ob (rfl : (a.map cS) = a.map cS)) (allC (len_ob (rfl : (b.map cS) = b.map cS)) (allC (cg q1) allN))) (by kernel_rfl) allN
  · obtain ⟨X_1, q2, h⟩ := bnd_some h
    obtain ⟨v_1, q3, q4⟩ := loop_iter (f := run1 k 29 0 26 ref01Texts_L4) (ref01Texts_S4 a b) (ref01Texts_b4 a b) (ref01Texts_t4 k a b) LF (0 : Int) _ (stOf (goStop k 29 0 26 (adv [([], 1, 1, .eq (pI (a.length : Int))), ([], 1, 3, .eq (pI (b.length : Int))), ([], 1, 4, .eq (pB false))]) 4 (codeOf Tryz.f29) (argS 29 [(.list 1 false (a.map cS)), (.list 1 false (b.map cS))]))) q2 (by kernel_rfl)
    unfold ref01Texts_b4 at q3
    try dsimp only at q3
    rcases bif_some q3 with ⟨q7, q3⟩ | ⟨q7, q3⟩
    · obtain ⟨y_1, q8, q3⟩ := bnd_some q3
      obtain ⟨y_2, q9, q3⟩ := bnd_some q3
      rcases bif_some q3 with ⟨q10, q3⟩ | ⟨q10, q3⟩
      · cases q3
        try dsimp only at h
        have q5 := run_go (k := k) (f := 29) (r0 := 0) (nt := 26) (c := ref01Texts_L4) (σ := (ref01Texts_S4 a b v_1)) (adv [([], 4, 2, .eq (pI (a.length : Int))), ([], 4, 3, .eq (pB true)), ([], 6, 2, .elem [(pS y_1)]), ([], 6, 6, .elem [(pS y_2)]), ([], 6, 8, .eq (pB true))]) (ex := .ret) (by kernel_rfl) (by kernel_rfl) (allC (len_ob (rfl : (a.map cS) = a.map cS)) (allC (cg q7) (allC (gt_list (c := cS) q8) (allC (gt_list (c := cS) q9) (allC (cg q10) allN)))))
        have q6 := q4 _ _ (by intro e; cases e) q5
        obtain rfl := Option.some.inj h
        exact ret_go (k := k) Tryz.func29 Tryz.ntmps29 (by kernel_rfl) (by kernel_rfl) (lb rfl) (adv [([], 1, 1, .eq (pI (a.length : Int))), ([], 1, 3, .eq (pI (b.length : Int))), ([], 1, 4, .eq (pB false))] [([], 4, .ret, (stOf (go k 29 0 26 (adv [([], 4, 2, .eq (pI (a.length : Int))), ([], 4, 3, .eq (pB true)), ([], 6, 2, .elem [(pS y_1)]), ([], 6, 6, .elem [(pS y_2)]), ([], 6, 8, .eq (pB true))]) ref01Texts_L4 (ref01Texts_S4 a b v_1))))]) (ex := .ret) (r := (pB false)) (by kernel_rfl) rfl (by kernel_rfl) (allC (len_ob (rfl : (a.map cS) = a.map cS)) (allC (len_ob (rfl : (b.map cS) = b.map cS)) (allC (cg q1) (allC q6 allN)))) (by kernel_rfl) allN
      · cases q3
    · cases q3
      try dsimp only at h
      have q5 := run_go (k := k) (f := 29) (r0 := 0) (nt := 26) (c := ref01Texts_L4) (σ := (ref01Texts_S4 a b v_1)) (adv [([], 4, 2, .eq (pI (a.length : Int))), ([], 4, 3, .eq (pB false))]) (ex := (.exit 0)) (by kernel_rfl) (by kernel_rfl) (allC (len_ob (rfl : (a.map cS) = a.map cS)) (allC (cg q7) allN))
      have q6 := q4 _ _ (by intro e; cases e) q5
      obtain rfl := Option.some.inj h
      exact ret_go (k := k) Tryz.func29 Tryz.ntmps29 (by kernel_rfl) (by kernel_rfl) (lb rfl) (adv [([], 1, 1, .eq (pI (a.length : Int))), ([], 1, 3, .eq (pI (b.length : Int))), ([], 1, 4, .eq (pB false))] [([], 4, (.exit 0), (stOf (go k 29 0 26 (adv [([], 4, 2, .eq (pI (a.length : Int))), ([], 4, 3, .eq (pB false))]) ref01Texts_L4 (ref01Texts_S4 a b v_1))))]) (ex := .ret) (r := (pB true)) (by kernel_rfl) rfl (by kernel_rfl) (allC (len_ob (rfl : (a.map cS) = a.map cS)) (allC (len_ob (rfl : (b.map cS) = b.map cS)) (allC (cg q1) (allC q6 allN)))) (by kernel_rfl) allN
noncomputable def ref15Frames_L4 : Code := cAt (codeOf Tryz.f30) [true, true, false, true, false, false]
def ref15Frames_R4 (x0 : List (List PV)) (x1 : List (List PV)) (x2 : Int) : St := ⟨envL [(0, (.list 3 false x0)), (1, (.list 3 false x1)), (5, (pI x2))], hsL [] []⟩
def ref15Frames_S4 (p0 : (List FrameD)) (p1 : (List FrameD)) : Int → St
 | v0 => ref15Frames_R4 (p0.map FrameD.c) (p1.map FrameD.c) v0
def ref15Frames_b4 (p0 : (List FrameD)) (p1 : (List FrameD)) : Int → Option (Int ⊕ ((Int × FrameD × FrameD) ⊕ (Int × FrameD × FrameD × FrameD × FrameD) ⊕ (Int × FrameD × FrameD × FrameD × FrameD × FrameD × FrameD × Bool) ⊕ Int))
 | v0 =>
 bif (decide (v0 < (p0.length : Int))) then (
 (gt p0 v0).bind fun y_1 =>
 (gt p1 v0).bind fun y_2 =>
 bif (y_1.fd != y_2.fd) then (
 some (.inr (.inl (v0, y_1, y_2)))
 ) else (
 (gt p0 v0).bind fun y_3 =>
 (gt p1 v0).bind fun y_4 =>
 bif (!(seq y_3.name y_4.name)) then (
 some (.inr (.inr (.inl (v0, y_1, y_2, y_3, y_4))))
 ) else (
 (gt p0 v0).bind fun y_5 =>
 (gt p1 v0).bind fun y_6 =>
 (ref01Texts y_5.names y_6.names).bind fun r_1 =>
 bif (!r_1) then (
 some (.inr (.inr (.inr (.inl (v0, y_1, y_2, y_3, y_4, y_5, y_6, r_1)))))
 ) else (
 some (.inl (w64 (v0 + (1 : Int))))
 )
 )
 )
 ) else (
 some (.inr (.inr (.inr (.inr (v0)))))
 )
set_option maxRecDepth 100000 in
theorem ref15Frames_t4 (k : Nat) (p0 : (List FrameD)) (p1 : (List FrameD)) (v0 a1 : Int) (h : ref15Frames_b4 p0 p1 v0 = some (.inl a1)) : ∃ σ, run1 (k + 1) 30 0 55 ref15Frames_L4 (ref15Frames_S4 p0 p1 v0) = some (.normal, σ) ∧ canonS 0 [0, 1, 5] σ = some (ref15Frames_S4 p0 p1 a1) := by
  unfold ref15Frames_b4 at h
  try dsimp only at h
  rcases bif_some h with ⟨q1, h⟩ | ⟨q1, h⟩
  · obtain ⟨y_1, q2, h⟩ := bnd_some h
    obtain ⟨y_2, q3, h⟩ := bnd_some h
    rcases bif_some h with ⟨q4, h⟩ | ⟨q4, h⟩
    · cases h
    · obtain ⟨y_3, q5, h⟩ := bnd_some h
      obtain ⟨y_4, q6, h⟩ := bnd_some h
      rcases bif_some h with ⟨q7, h⟩ | ⟨q7, h⟩
      · cases h
      · obtain ⟨y_5, q8, h⟩ := bnd_some h
        obtain ⟨y_6, q9, h⟩ := bnd_some h
        obtain ⟨r_1, q10, h⟩ := bnd_some h
        rcases bif_some h with ⟨q11, h⟩ | ⟨q11, h⟩
        · cases h
        · obtain rfl := Sum.inl.inj (Option.some.inj h)
          exact ⟨_, run_go (k := (k + 1)) (f := 30) (r0 := 0) (nt := 55) (c := ref15Frames_L4) (σ := (ref15Frames_S4 p0 p1 v0)) (adv [([], 4, 2, .eq (pI (p0.length : Int))), ([], 4, 3, .eq (pB true)), ([], 6, 2, .elem [(pI y_1.fd), (pS y_1.name), (.list 1 false (y_1.names.map cS))]), ([], 6, 7, .elem [(pI y_2.fd), (pS y_2.name), (.list 1 false (y_2.names.map cS))]), ([], 6, 11, .eq (pB false)), ([], 6, 14, .elem [(pI y_3.fd), (pS y_3.name), (.list 1 false (y_3.names.map cS))]), ([], 6, 19, .elem [(pI y_4.fd), (pS y_4.name), (.list 1 false (y_4.names.map cS))]), ([], 6, 24, .eq (pB false)), ([], 6, 27, .elem [(pI y_5.fd), (pS y_5.name), (.list 1 false (y_5.names.map cS))]), ([], 6, 32, .elem [(pI y_6.fd), (pS y_6.name), (.list 1 false (y_6.names.map cS))]), ([], 6, 35, .ret (pB r_1)), ([], 6, 37, .eq (pB false))]) (ex := .normal) (by kernel_rfl) (by kernel_rfl) (allC (len_ob (rfl : (p0.map FrameD.c) = p0.map FrameD.c)) (allC (cg q1) (allC (gt_list (c := FrameD.c) q2) (allC (gt_list (c := FrameD.c) q3) (allC (cg q4) (allC (gt_list (c := FrameD.c) q5) (allC (gt_list (c := FrameD.c) q6) (allC (cg q7) (allC (gt_list (c := FrameD.c) q8) (allC (gt_list (c := FrameD.c) q9) (allC (ref01Texts_ok k y_5.names y_6.names _ q10) (allC (cg q11) allN)))))))))))), (by kernel_rfl)⟩
  · cases h
def ref15Frames (a : (List FrameD)) (b : (List FrameD)) : Option Bool :=
 bif ((a.length : Int) != (b.length : Int)) then (
 some false
 ) else (
 (iterN (ref15Frames_b4 a b) LF (0 : Int)).bind fun X_1 => match X_1 with
 | .inl (v_1, y_1, y_2) => (
 some false
 )
 | .inr (.inl (v_1, y_1, y_2, y_3, y_4)) => (
 some false
 )
 | .inr (.inr (.inl (v_1, y_1, y_2, y_3, y_4, y_5, y_6, r_1))) => (
 some false
 )
 | .inr (.inr (.inr (v_1))) => (
 some true
 )
 )
set_option maxRecDepth 100000 in
theorem ref15Frames_ok (k : Nat) (a : (List FrameD)) (b : (List FrameD)) (r : Bool) (h : ref15Frames a b = some r) : run0 (k + 2) 30 [(.list 3 false (a.map FrameD.c)), (.list 3 false (b.map FrameD.c))] = some (pB r) := by
  unfold ref15Frames at h
  rcases bif_some h with ⟨q1, h⟩ | ⟨q1, h⟩
  · obtain rfl := Option.some.inj h
    exact ret_go (k := (k + 1)) Tryz.func30 Tryz.ntmps30 (by kernel_rfl) (by kernel_rfl) (lb rfl) (adv [([], 1, 1, .eq (pI (a.length : Int))), ([], 1, 3, .eq (pI (b.length : Int))), ([], 1, 4, .eq (pB true))]) (ex := .ret) (r := (pB false)) (by kernel_rfl) rfl (by kernel_rfl) (allC (len_ob (rfl : (a.map FrameD.c) = a.map FrameD.c)) (allC (len_ob (rfl : (b.map FrameD.c) = b.map FrameD.c)) (allC (cg q1) allN))) (by kernel_rfl) allN
  · obtain ⟨X_1, q2, h⟩ := bnd_some h
    obtain ⟨v_1, q3, q4⟩ := loop_iter (f := run1 (k + 1) 30 0 55 ref15Frames_L4) (ref15Frames_S4 a b) (ref15Frames_b4 a b) (ref15Frames_t4 k a b) LF (0 : Int) _ (stOf (goStop (k + 1) 30 0 55 (adv [([], 1, 1, .eq (pI (a.length : Int))), ([], 1, 3, .eq (pI (b.length : Int))), ([], 1, 4, .eq (pB false))]) 4 (codeOf Tryz.f30) (argS 30 [(.list 3 false (a.map FrameD.c)), (.list 3 false (b.map FrameD.c))]))) q2 (by kernel_rfl)
    unfold ref15Frames_b4 at q3
    try dsimp only at q3
    rcases bif_some q3 with ⟨q7, q3⟩ | ⟨q7, q3⟩
    · obtain ⟨y_1, q8, q3⟩ := bnd_some q3
      obtain ⟨y_2, q9, q3⟩ := bnd_some q3
      rcases bif_some q3 with ⟨q10, q3⟩ | ⟨q10, q3⟩
      · cases q3
        try dsimp only at h
        have q5 := run_go (k := (k + 1)) (f := 30) (r0 := 0) (nt := 55) (c := ref15Frames_L4) (σ := (ref15Frames_S4 a b v_1)) (adv [([], 4, 2, .eq (pI (a.length : Int))), ([], 4, 3, .eq (pB true)), ([], 6, 2, .elem [(pI y_1.fd), (pS y_1.name), (.list 1 false (y_1.names.map cS))]), ([], 6, 7, .elem [(pI y_2.fd), (pS y_2.name), (.list 1 false (y_2.names.map cS))]), ([], 6, 11, .eq (pB true))]) (ex := .ret) (by kernel_rfl) (by kernel_rfl) (allC (len_ob (rfl : (a.map FrameD.c) = a.map FrameD.c)) (allC (cg q7) (allC (gt_list (c := FrameD.c) q8) (allC (gt_list (c := FrameD.c) q9) (allC (cg q10) allN)))))
        have q6 := q4 _ _ (by intro e; cases e) q5
        obtain rfl := Option.some.inj h
        exact ret_go (k := (k + 1)) Tryz.func30 Tryz.ntmps30 (by kernel_rfl) (by kernel_rfl) (lb rfl) (adv [([], 1, 1, .eq (pI (a.length : Int))), ([], 1, 3, .eq (pI (b.length : Int))), ([], 1, 4, .eq (pB false))] [([], 4, .ret, (stOf (go (k + 1) 30 0 55 (adv [([], 4, 2, .eq (pI (a.length : Int))), ([], 4, 3, .eq (pB true)), ([], 6, 2, .elem [(pI y_1.fd), (pS y_1.name), (.list 1 false (y_1.names.map cS))]), ([], 6, 7, .elem [(pI y_2.fd), (pS y_2.name), (.list 1 false (y_2.names.map cS))]), ([], 6, 11, .eq (pB true))]) ref15Frames_L4 (ref15Frames_S4 a b v_1))))]) (ex := .ret) (r := (pB false)) (by kernel_rfl) rfl (by kernel_rfl) (allC (len_ob (rfl : (a.map FrameD.c) = a.map FrameD.c)) (allC (len_ob (rfl : (b.map FrameD.c) = b.map FrameD.c)) (allC (cg q1) (allC q6 allN)))) (by kernel_rfl) allN
      · obtain ⟨y_3, q11, q3⟩ := bnd_some q3
        obtain ⟨y_4, q12, q3⟩ := bnd_some q3
        rcases bif_some q3 with ⟨q13, q3⟩ | ⟨q13, q3⟩
        · cases q3
          try dsimp only at h
          have q5 := run_go (k := (k + 1)) (f := 30) (r0 := 0) (nt := 55) (c := ref15Frames_L4) (σ := (ref15Frames_S4 a b v_1)) (adv [([], 4, 2, .eq (pI (a.length : Int))), ([], 4, 3, .eq (pB true)), ([], 6, 2, .elem [(pI y_1.fd), (pS y_1.name), (.list 1 false (y_1.names.map cS))]), ([], 6, 7, .elem [(pI y_2.fd), (pS y_2.name), (.list 1 false (y_2.names.map cS))]), ([], 6, 11, .eq (pB false)), ([], 6, 14, .elem [(pI y_3.fd), (pS y_3.name), (.list 1 false (y_3.names.map cS))]), ([], 6, 19, .elem [(pI y_4.fd), (pS y_4.name), (.list 1 false (y_4.names.map cS))]), ([], 6, 24, .eq (pB true))]) (ex := .ret) (by kernel_rfl) (by kernel_rfl) (allC (len_ob (rfl : (a.map FrameD.c) = a.map FrameD.c)) (allC (cg q7) (allC (gt_list (c := FrameD.c) q8) (allC (gt_list (c := FrameD.c) q9) (allC (cg q10) (allC (gt_list (c := FrameD.c) q11) (allC (gt_list (c := FrameD.c) q12) (allC (cg q13) allN))))))))
          have q6 := q4 _ _ (by intro e; cases e) q5
          obtain rfl := Option.some.inj h
          exact ret_go (k := (k + 1)) Tryz.func30 Tryz.ntmps30 (by kernel_rfl) (by kernel_rfl) (lb rfl) (adv [([], 1, 1, .eq (pI (a.length : Int))), ([], 1, 3, .eq (pI (b.length : Int))), ([], 1, 4, .eq (pB false))] [([], 4, .ret, (stOf (go (k + 1) 30 0 55 (adv [([], 4, 2, .eq (pI (a.length : Int))), ([], 4, 3, .eq (pB true)), ([], 6, 2, .elem [(pI y_1.fd), (pS y_1.name), (.list 1 false (y_1.names.map cS))]), ([], 6, 7, .elem [(pI y_2.fd), (pS y_2.name), (.list 1 false (y_2.names.map cS))]), ([], 6, 11, .eq (pB false)), ([], 6, 14, .elem [(pI y_3.fd), (pS y_3.name), (.list 1 false (y_3.names.map cS))]), ([], 6, 19, .elem [(pI y_4.fd), (pS y_4.name), (.list 1 false (y_4.names.map cS))]), ([], 6, 24, .eq (pB true))]) ref15Frames_L4 (ref15Frames_S4 a b v_1))))]) (ex := .ret) (r := (pB false)) (by kernel_rfl) rfl (by kernel_rfl) (allC (len_ob (rfl : (a.map FrameD.c) = a.map FrameD.c)) (allC (len_ob (rfl : (b.map FrameD.c) = b.map FrameD.c)) (allC (cg q1) (allC q6 allN)))) (by kernel_rfl) allN
        · obtain ⟨y_5, q14, q3⟩ := bnd_some q3
          obtain ⟨y_6, q15, q3⟩ := bnd_some q3
          obtain ⟨r_1, q16, q3⟩ := bnd_some q3
          rcases bif_some q3 with ⟨q17, q3⟩ | ⟨q17, q3⟩
          · cases q3
            try dsimp only at h
            have q5 := run_go (k := (k + 1)) (f := 30) (r0 := 0) (nt := 55) (c := ref15Frames_L4) (σ := (ref15Frames_S4 a b v_1)) (adv [([], 4, 2, .eq (pI (a.length : Int))), ([], 4, 3, .eq (pB true)), ([], 6, 2, .elem [(pI y_1.fd), (pS y_1.name), (.list 1 false (y_1.names.map cS))]), ([], 6, 7, .elem [(pI y_2.fd), (pS y_2.name), (.list 1 false (y_2.names.map cS))]), ([], 6, 11, .eq (pB false)), ([], 6, 14, .elem [(pI y_3.fd), (pS y_3.name), (.list 1 false (y_3.names.map cS))]), ([], 6, 19, .elem [(pI y_4.fd), (pS y_4.name), (.list 1 false (y_4.names.map cS))]), ([], 6, 24, .eq (pB false)), ([], 6, 27, .elem [(pI y_5.fd), (pS y_5.name), (.list 1 false (y_5.names.map cS))]), ([], 6, 32, .elem [(pI y_6.fd), (pS y_6.name), (.list 1 false (y_6.names.map cS))]), ([], 6, 35, .ret (pB r_1)), ([], 6, 37, .eq (pB true))]) (ex := .ret) (by kernel_rfl) (by kernel_rfl) (allC (len_ob (rfl : (a.map FrameD.c) = a.map FrameD.c)) (allC (cg q7) (allC (gt_list (c := FrameD.c) q8) (allC (gt_list (c := FrameD.c) q9) (allC (cg q10) (allC (gt_list (c := FrameD.c) q11) (allC (gt_list (c := FrameD.c) q12) (allC (cg q13) (allC (gt_list (c := FrameD.c) q14) (allC (gt_list (c := FrameD.c) q15) (allC (ref01Texts_ok k y_5.names y_6.names _ q16) (allC (cg q17) allN))))))))))))
            have q6 := q4 _ _ (by intro e; cases e) q5
            obtain rfl := Option.some.inj h
            exact ret_go (k := (k + 1)) Tryz.func30 Tryz.ntmps30 (by kernel_rfl) (by kernel_rfl) (lb rfl) (adv [([], 1, 1, .eq (pI (a.length : Int))), ([], 1, 3, .eq (pI (b.length : Int))), ([], 1, 4, .eq (pB false))] [([], 4, .ret, (stOf (go (k + 1) 30 0 55 (adv [([], 4, 2, .eq (pI (a.length : Int))), ([], 4, 3, .eq (pB true)), ([], 6, 2, .elem [(pI y_1.fd), (pS y_1.name), (.list 1 false (y_1.names.map cS))]), ([], 6, 7, .elem [(pI y_2.fd), (pS y_2.name), (.list 1 false (y_2.names.map cS))]), ([], 6, 11, .eq (pB false)), ([], 6, 14, .elem [(pI y_3.fd), (pS y_3.name), (.list 1 false (y_3.names.map cS))]), ([], 6, 19, .elem [(pI y_4.fd), (pS y_4.name), (.list 1 false (y_4.names.map cS))]), ([], 6, 24, .eq (pB false)), ([], 6, 27, .elem [(pI y_5.fd), (pS y_5.name), (.list 1 false (y_5.names.map cS))]), ([], 6, 32, .elem [(pI y_6.fd), (pS y_6.name), (.list 1 false (y_6.names.map cS))]), ([], 6, 35, .ret (pB r_1)), ([], 6, 37, .eq (pB true))]) ref15Frames_L4 (ref15Frames_S4 a b v_1))))]) (ex := .ret) (r := (pB false)) (by kernel_rfl) rfl (by kernel_rfl) (allC (len_ob (rfl : (a.map FrameD.c) = a.map FrameD.c)) (allC (len_ob (rfl : (b.map FrameD.c) = b.map FrameD.c)) (allC (cg q1) (allC q6 allN)))) (by kernel_rfl) allN
          · cases q3
    · cases q3
      try dsimp only at h
      have q5 := run_go (k := (k + 1)) (f := 30) (r0 := 0) (nt := 55) (c := ref15Frames_L4) (σ := (ref15Frames_S4 a b v_1)) (adv [([], 4, 2, .eq (pI (a.length : Int))), ([], 4, 3, .eq (pB false))]) (ex := (.exit 0)) (by kernel_rfl) (by kernel_rfl) (allC (len_ob (rfl : (a.map FrameD.c) = a.map FrameD.c)) (allC (cg q7) allN))
      have q6 := q4 _ _ (by intro e; cases e) q5
      obtain rfl := Option.some.inj h
      exact ret_go (k := (k + 1)) Tryz.func30 Tryz.ntmps30 (by kernel_rfl) (by kernel_rfl) (lb rfl) (adv [([], 1, 1, .eq (pI (a.length : Int))), ([], 1, 3, .eq (pI (b.length : Int))), ([], 1, 4, .eq (pB false))] [([], 4, (.exit 0), (stOf (go (k + 1) 30 0 55 (adv [([], 4, 2, .eq (pI (a.length : Int))), ([], 4, 3, .eq (pB false))]) ref15Frames_L4 (ref15Frames_S4 a b v_1))))]) (ex := .ret) (r := (pB true)) (by kernel_rfl) rfl (by kernel_rfl) (allC (len_ob (rfl : (a.map FrameD.c) = a.map FrameD.c)) (allC (len_ob (rfl : (b.map FrameD.c) = b.map FrameD.c)) (allC (cg q1) (allC q6 allN)))) (by kernel_rfl) allN
noncomputable def ref15Ints_L4 : Code := cAt (codeOf Tryz.f31) [true, true, false, true, false, false]
def ref15Ints_R4 (x0 : List (List PV)) (x1 : List (List PV)) (x2 : Int) : St := ⟨envL [(0, (.list 1 false x0)), (1, (.list 1 false x1)), (5, (pI x2))], hsL [] []⟩
def ref15Ints_S4 (p0 : (List Int)) (p1 : (List Int)) : Int → St
 | v0 => ref15Ints_R4 (p0.map cI) (p1.map cI) v0
def ref15Ints_b4 (p0 : (List Int)) (p1 : (List Int)) : Int → Option (Int ⊕ ((Int × Int × Int) ⊕ Int))
 | v0 =>
 bif (decide (v0 < (p0.length : Int))) then (
 (gt p0 v0).bind fun y_1 =>
 (gt p1 v0).bind fun y_2 =>
 bif (y_1 != y_2) then (
 some (.inr (.inl (v0, y_1, y_2)))
 ) else (
 some (.inl (w64 (v0 + (1 : Int))))
 )
 ) else (
 some (.inr (.inr (v0)))
 )
set_option maxRecDepth 100000 in
theorem ref15Ints_t4 (k : Nat) (p0 : (List Int)) (p1 : (List Int)) (v0 a1 : Int) (h : ref15Ints_b4 p0 p1 v0 = some (.inl a1)) : ∃ σ, run1 k 31 0 26 ref15Ints_L4 (ref15Ints_S4 p0 p1 v0) = some (.normal, σ) ∧ canonS 0 [0, 1, 5] σ = some (ref15Ints_S4 p0 p1 a1) := by
  unfold ref15Ints_b4 at h
  try dsimp only at h
  rcases bif_some h with ⟨q1, h⟩ | ⟨q1, h⟩
  · obtain ⟨y_1, q2, h⟩ := bnd_some h
    obtain ⟨y_2, q3, h⟩ := bnd_some h
    rcases bif_some h with ⟨q4, h⟩ | ⟨q4, h⟩
    · cases h
    · obtain rfl := Sum.inl.inj (Option.some.inj h)
      exact ⟨_, run_go (k := k) (f := 31) (r0 := 0) (nt := 26) (c := ref15Ints_L4) (σ := (ref15Ints_S4 p0 p1 v0)) (adv [([], 4, 2, .eq (pI (p0.length : Int))), ([], 4, 3, .eq (pB true)), ([], 6, 2, .elem [(pI y_1)]), ([], 6, 6, .elem [(pI y_2)]), ([], 6, 8, .eq (pB false))]) (ex := .normal) (by kernel_rfl) (by kernel_rfl) (allC (len_ob (rfl : (p0.map cI) = p0.map cI)) (allC (cg q1) (allC (gt_list (c := cI) q2) (allC (gt_list (c := cI) q3) (allC (cg q4) allN))))), (by kernel_rfl)⟩
  · cases h
def ref15Ints (a : (List Int)) (b : (List Int)) : Option Bool :=
 bif ((a.length : Int) != (b.length : Int)) then (
 some false
 ) else (
 (iterN (ref15Ints_b4 a b) LF (0 : Int)).bind fun X_1 => match X_1 with
 | .inl (v_1, y_1, y_2) => (
 some false
 )
 | .inr (v_1) => (
 some true
 )
 )
set_option maxRecDepth 100000 in
theorem ref15Ints_ok (k : Nat) (a : (List Int)) (b : (List Int)) (r : Bool) (h : ref15Ints a b = some r) : run0 (k + 1) 31 [(.list 1 false (a.map cI)), (.list 1 false (b.map cI))] = some (pB r) := by
  unfold ref15Ints at h
  rcases bif_some h with ⟨q1, h⟩ | ⟨q1, h⟩
  · obtain rfl := Option.some.inj h
    exact ret_go (k := k) Tryz.func31 Tryz.ntmps31 (by kernel_rfl) (by kernel_rfl) (lb rfl) (adv [([], 1, 1, .eq (pI (a.length : Int))), ([], 1, 3, .eq (pI (b.length : Int))), ([], 1, 4, .eq (pB true))]) (ex := .ret) (r := (pB false)) (by kernel_rfl) rfl (by kernel_rfl) (allC (len_ob (rfl : (a.map cI) = a.map cI)) (allC (len_ob (rfl : (b.map cI) = b.map cI)) (allC (cg q1) allN))) (by kernel_rfl) allN
  · obtain ⟨X_1, q2, h⟩ := bnd_some h
    obtain ⟨v_1, q3, q4⟩ := loop_iter (f := run1 k 31 0 26 ref15Ints_L4) (ref15Ints_S4 a b) (ref15Ints_b4 a b) (ref15Ints_t4 k a b) LF (0 : Int) _ (stOf (goStop k 31 0 26 (adv [([], 1, 1, .eq (pI (a.length : Int))), ([], 1, 3, .eq (pI (b.length : Int))), ([], 1, 4, .eq (pB false))]) 4 (codeOf Tryz.f31) (argS 31 [(.list 1 false (a.map cI)), (.list 1 false (b.map cI))]))) q2 (by kernel_rfl)
    unfold ref15Ints_b4 at q3
    try dsimp only at q3
    rcases bif_some q3 with ⟨q7, q3⟩ | ⟨q7, q3⟩
    · obtain ⟨y_1, q8, q3⟩ := bnd_some q3
      obtain ⟨y_2, q9, q3⟩ := bnd_some q3
      rcases bif_some q3 with ⟨q10, q3⟩ | ⟨q10, q3⟩
      · cases q3
        try dsimp only at h
        have q5 := run_go (k := k) (f := 31) (r0 := 0) (nt := 26) (c := ref15Ints_L4) (σ := (ref15Ints_S4 a b v_1)) (adv [([], 4, 2, .eq (pI (a.length : Int))), ([], 4, 3, .eq (pB true)), ([], 6, 2, .elem [(pI y_1)]), ([], 6, 6, .elem [(pI y_2)]), ([], 6, 8, .eq (pB true))]) (ex := .ret) (by kernel_rfl) (by kernel_rfl) (allC (len_ob (rfl : (a.map cI) = a.map cI)) (allC (cg q7) (allC (gt_list (c := cI) q8) (allC (gt_list (c := cI) q9) (allC (cg q10) allN)))))
        have q6 := q4 _ _ (by intro e; cases e) q5
        obtain rfl := Option.some.inj h
        exact ret_go (k := k) Tryz.func31 Tryz.ntmps31 (by kernel_rfl) (by kernel_rfl) (lb rfl) (adv [([], 1, 1, .eq (pI (a.length : Int))), ([], 1, 3, .eq (pI (b.length : Int))), ([], 1, 4, .eq (pB false))] [([], 4, .ret, (stOf (go k 31 0 26 (adv [([], 4, 2, .eq (pI (a.length : Int))), ([], 4, 3, .eq (pB true)), ([], 6, 2, .elem [(pI y_1)]), ([], 6, 6, .elem [(pI y_2)]), ([], 6, 8, .eq (pB true))]) ref15Ints_L4 (ref15Ints_S4 a b v_1))))]) (ex := .ret) (r := (pB false)) (by kernel_rfl) rfl (by kernel_rfl) (allC (len_ob (rfl : (a.map cI) = a.map cI)) (allC (len_ob (rfl : (b.map cI) = b.map cI)) (allC (cg q1) (allC q6 allN)))) (by kernel_rfl) allN
      · cases q3
    · cases q3
      try dsimp only at h
      have q5 := run_go (k := k) (f := 31) (r0 := 0) (nt := 26) (c := ref15Ints_L4) (σ := (ref15Ints_S4 a b v_1)) (adv [([], 4, 2, .eq (pI (a.length : Int))), ([], 4, 3, .eq (pB false))]) (ex := (.exit 0)) (by kernel_rfl) (by kernel_rfl) (allC (len_ob (rfl : (a.map cI) = a.map cI)) (allC (cg q7) allN))
      have q6 := q4 _ _ (by intro e; cases e) q5
      obtain rfl := Option.some.inj h
      exact ret_go (k := k) Tryz.func31 Tryz.ntmps31 (by kernel_rfl) (by kernel_rfl) (lb rfl) (adv [([], 1, 1, .eq (pI (a.length : Int))), ([], 1, 3, .eq (pI (b.length : Int))), ([], 1, 4, .eq (pB false))] [([], 4, (.exit 0), (stOf (go k 31 0 26 (adv [([], 4, 2, .eq (pI (a.length : Int))), ([], 4, 3, .eq (pB false))]) ref15Ints_L4 (ref15Ints_S4 a b v_1))))]) (ex := .ret) (r := (pB true)) (by kernel_rfl) rfl (by kernel_rfl) (allC (len_ob (rfl : (a.map cI) = a.map cI)) (allC (len_ob (rfl : (b.map cI) = b.map cI)) (allC (cg q1) (allC q6 allN)))) (by kernel_rfl) allN
end Go.Proofs.YtaenhodkpidocaaGreatDoor.Den
namespace Go.Proofs.YtaenhodkpidocaaGreatDoor.Den
open Go Go.RowKit
def ref15Same (a : JobD) (b : JobD) : Option Bool :=
 (ref01Texts a.names b.names).bind fun r_1 =>
 bif (!r_1) then (
 some false
 ) else (
 (ref15Frames a.stack b.stack).bind fun r_2 =>
 bif (!r_2) then (
 some false
 ) else (
 (ref15Ints a.draws b.draws).bind fun r_3 =>
 bif (!r_3) then (
 some false
 ) else (
 bif (a.kind == b.kind) then (
 bif (a.p == b.p) then (
 bif (a.phase == b.phase) then (
 bif (a.fd == b.fd) then (
 bif (a.nF == b.nF) then (
 bif (a.modeF == b.modeF) then (
 bif (a.tries == b.tries) then (
 bif (a.atF == b.atF) then (
 bif (a.flags == b.flags) then (
 bif (seq a.path b.path) then (
 bif (seq a.path2 b.path2) then (
 bif (seq a.text b.text) then (
 bif (a.done == b.done) then (
 bif (a.exit == b.exit) then (
 bif (seq a.out b.out) then (
 some (a.e == b.e)
 ) else (
 some false
 )
 ) else (
 some false
 )
 ) else (
 some false
 )
 ) else (
 some false
 )
 ) else (
 some false
 )
 ) else (
 some false
 )
 ) else (
 some false
 )
 ) else (
 some false
 )
 ) else (
 some false
 )
 ) else (
 some false
 )
 ) else (
 some false
 )
 ) else (
 some false
 )
 ) else (
 some false
 )
 ) else (
 some false
 )
 ) else (
 some false
 )
 )
 )
 )
set_option maxRecDepth 100000 in
theorem ref15Same_ok (k : Nat) (a : JobD) (b : JobD) (r : Bool) (h : ref15Same a b = some r) : run0 (k + 3) 8 [(JobD.a a), (JobD.a b)] = some (pB r) := by
  unfold ref15Same at h
  obtain ⟨r_1, q1, h⟩ := bnd_some h
  rcases bif_some h with ⟨q2, h⟩ | ⟨q2, h⟩
  · obtain rfl := Option.some.inj h
    exact ret_go (k := (k + 2)) Tryz.func8 Tryz.ntmps8 (by kernel_rfl) (by kernel_rfl) (lb rfl) (adv [([], 1, 4, .ret (pB r_1)), ([], 1, 6, .eq (pB true))]) (ex := .ret) (r := (pB false)) (by kernel_rfl) rfl (by kernel_rfl) (allC (ref01Texts_ok (k + 1) a.names b.names _ q1) (allC (cg q2) allN)) (by kernel_rfl) allN
  · obtain ⟨r_2, q3, h⟩ := bnd_some h
    rcases bif_some h with ⟨q4, h⟩ | ⟨q4, h⟩
    · obtain rfl := Option.some.inj h
      exact ret_go (k := (k + 2)) Tryz.func8 Tryz.ntmps8 (by kernel_rfl) (by kernel_rfl) (lb rfl) (adv [([], 1, 4, .ret (pB r_1)), ([], 1, 6, .eq (pB false)), ([], 1, 11, .ret (pB r_2)), ([], 1, 14, .eq (pB true))]) (ex := .ret) (r := (pB false)) (by kernel_rfl) rfl (by kernel_rfl) (allC (ref01Texts_ok (k + 1) a.names b.names _ q1) (allC (cg q2) (allC (ref15Frames_ok k a.stack b.stack _ q3) (allC (cg q4) allN)))) (by kernel_rfl) allN
    · obtain ⟨r_3, q5, h⟩ := bnd_some h
      rcases bif_some h with ⟨q6, h⟩ | ⟨q6, h⟩
      · obtain rfl := Option.some.inj h
        exact ret_go (k := (k + 2)) Tryz.func8 Tryz.ntmps8 (by kernel_rfl) (by kernel_rfl) (lb rfl) (adv [([], 1, 4, .ret (pB r_1)), ([], 1, 6, .eq (pB false)), ([], 1, 11, .ret (pB r_2)), ([], 1, 14, .eq (pB false)), ([], 1, 19, .ret (pB r_3)), ([], 1, 21, .eq (pB true))]) (ex := .ret) (r := (pB false)) (by kernel_rfl) rfl (by kernel_rfl) (allC (ref01Texts_ok (k + 1) a.names b.names _ q1) (allC (cg q2) (allC (ref15Frames_ok k a.stack b.stack _ q3) (allC (cg q4) (allC (ref15Ints_ok (k + 1) a.draws b.draws _ q5) (allC (cg q6) allN)))))) (by kernel_rfl) allN
      · rcases bif_some h with ⟨q7, h⟩ | ⟨q7, h⟩
        · rcases bif_some h with ⟨q8, h⟩ | ⟨q8, h⟩
          · rcases bif_some h with ⟨q9, h⟩ | ⟨q9, h⟩
            · rcases bif_some h with ⟨q10, h⟩ | ⟨q10, h⟩
              · rcases bif_some h with ⟨q11, h⟩ | ⟨q11, h⟩
                · rcases bif_some h with ⟨q12, h⟩ | ⟨q12, h⟩
                  · rcases bif_some h with ⟨q13, h⟩ | ⟨q13, h⟩
                    · rcases bif_some h with ⟨q14, h⟩ | ⟨q14, h⟩
                      · rcases bif_some h with ⟨q15, h⟩ | ⟨q15, h⟩
                        · rcases bif_some h with ⟨q16, h⟩ | ⟨q16, h⟩
                          · rcases bif_some h with ⟨q17, h⟩ | ⟨q17, h⟩
                            · rcases bif_some h with ⟨q18, h⟩ | ⟨q18, h⟩
                              · rcases bif_some h with ⟨q19, h⟩ | ⟨q19, h⟩
                                · rcases bif_some h with ⟨q20, h⟩ | ⟨q20, h⟩
                                  · rcases bif_some h with ⟨q21, h⟩ | ⟨q21, h⟩
                                    · obtain rfl := Option.some.inj h
                                      exact ret_go (k := (k + 2)) Tryz.func8 Tryz.ntmps8 (by kernel_rfl) (by kernel_rfl) (lb rfl) (adv [([], 1, 4, .ret (pB r_1)), ([], 1, 6, .eq (pB false)), ([], 1, 11, .ret (pB r_2)), ([], 1, 14, .eq (pB false)), ([], 1, 19, .ret (pB r_3)), ([], 1, 21, .eq (pB false)), ([], 3, 5, .eq (pB true)), ([], 3, 12, .eq (pB true)), ([], 3, 19, .eq (pB true)), ([], 3, 26, .eq (pB true)), ([], 3, 33, .eq (pB true)), ([], 3, 40, .eq (pB true)), ([], 3, 47, .eq (pB true)), ([], 3, 54, .eq (pB true)), ([], 4, 1, .eq (pB true)), ([], 4, 8, .eq (pB true)), ([], 4, 15, .eq (pB true)), ([], 4, 22, .eq (pB true)), ([], 4, 29, .eq (pB true)), ([], 4, 36, .eq (pB true)), ([], 4, 43, .eq (pB true))]) (ex := .ret) (r := (pB (a.e == b.e))) (by kernel_rfl) rfl (by kernel_rfl) (allC (ref01Texts_ok (k + 1) a.names b.names _ q1) (allC (cg q2) (allC (ref15Frames_ok k a.stack b.stack _ q3) (allC (cg q4) (allC (ref15Ints_ok (k + 1) a.draws b.draws _ q5) (allC (cg q6) (allC (cg q7) (allC (cg q8) (allC (cg q9) (allC (cg q10) (allC (cg q11) (allC (cg q12) (allC (cg q13) (allC (cg q14) (allC (cg q15) (allC (cg q16) (allC (cg q17) (allC (cg q18) (allC (cg q19) (allC (cg q20) (allC (cg q21) allN))))))))))))))))))))) (by kernel_rfl) allN
                                    · obtain rfl := Option.some.inj h
                                      exact ret_go (k := (k + 2)) Tryz.func8 Tryz.ntmps8 (by kernel_rfl) (by kernel_rfl) (lb rfl) (adv [([], 1, 4, .ret (pB r_1)), ([], 1, 6, .eq (pB false)), ([], 1, 11, .ret (pB r_2)), ([], 1, 14, .eq (pB false)), ([], 1, 19, .ret (pB r_3)), ([], 1, 21, .eq (pB false)), ([], 3, 5, .eq (pB true)), ([], 3, 12, .eq (pB true)), ([], 3, 19, .eq (pB true)), ([], 3, 26, .eq (pB true)), ([], 3, 33, .eq (pB true)), ([], 3, 40, .eq (pB true)), ([], 3, 47, .eq (pB true)), ([], 3, 54, .eq (pB true)), ([], 4, 1, .eq (pB true)), ([], 4, 8, .eq (pB true)), ([], 4, 15, .eq (pB true)), ([], 4, 22, .eq (pB true)), ([], 4, 29, .eq (pB true)), ([], 4, 36, .eq (pB true)), ([], 4, 43, .eq (pB false))]) (ex := .ret) (r := (pB false)) (by kernel_rfl) rfl (by kernel_rfl) (allC (ref01Texts_ok (k + 1) a.names b.names _ q1) (allC (cg q2) (allC (ref15Frames_ok k a.stack b.stack _ q3) (allC (cg q4) (allC (ref15Ints_ok (k + 1) a.draws b.draws _ q5) (allC (cg q6) (allC (cg q7) (allC (cg q8) (allC (cg q9) (allC (cg q10) (allC (cg q11) (allC (cg q12) (allC (cg q13) (allC (cg q14) (allC (cg q15) (allC (cg q16) (allC (cg q17) (allC (cg q18) (allC (cg q19) (allC (cg q20) (allC (cg q21) allN))))))))))))))))))))) (by kernel_rfl) allN
                                  · obtain rfl := Option.some.inj h
                                    exact ret_go (k := (k + 2)) Tryz.func8 Tryz.ntmps8 (by kernel_rfl) (by kernel_rfl) (lb rfl) (adv [([], 1, 4, .ret (pB r_1)), ([], 1, 6, .eq (pB false)), ([], 1, 11, .ret (pB r_2)), ([], 1, 14, .eq (pB false)), ([], 1, 19, .ret (pB r_3)), ([], 1, 21, .eq (pB false)), ([], 3, 5, .eq (pB true)), ([], 3, 12, .eq (pB true)), ([], 3, 19, .eq (pB true)), ([], 3, 26, .eq (pB true)), ([], 3, 33, .eq (pB true)), ([], 3, 40, .eq (pB true)), ([], 3, 47, .eq (pB true)), ([], 3, 54, .eq (pB true)), ([], 4, 1, .eq (pB true)), ([], 4, 8, .eq (pB true)), ([], 4, 15, .eq (pB true)), ([], 4, 22, .eq (pB true)), ([], 4, 29, .eq (pB true)), ([], 4, 36, .eq (pB false))]) (ex := .ret) (r := (pB false)) (by kernel_rfl) rfl (by kernel_rfl) (allC (ref01Texts_ok (k + 1) a.names b.names _ q1) (allC (cg q2) (allC (ref15Frames_ok k a.stack b.stack _ q3) (allC (cg q4) (allC (ref15Ints_ok (k + 1) a.draws b.draws _ q5) (allC (cg q6) (allC (cg q7) (allC (cg q8) (allC (cg q9) (allC (cg q10) (allC (cg q11) (allC (cg q12) (allC (cg q13) (allC (cg q14) (allC (cg q15) (allC (cg q16) (allC (cg q17) (allC (cg q18) (allC (cg q19) (allC (cg q20) allN)))))))))))))))))))) (by kernel_rfl) allN
                                · obtain rfl := Option.some.inj h
                                  exact ret_go (k := (k + 2)) Tryz.func8 Tryz.ntmps8 (by kernel_rfl) (by kernel_rfl) (lb rfl) (adv [([], 1, 4, .ret (pB r_1)), ([], 1, 6, .eq (pB false)), ([], 1, 11, .ret (pB r_2)), ([], 1, 14, .eq (pB false)), ([], 1, 19, .ret (pB r_3)), ([], 1, 21, .eq (pB false)), ([], 3, 5, .eq (pB true)), ([], 3, 12, .eq (pB true)), ([], 3, 19, .eq (pB true)), ([], 3, 26, .eq (pB true)), ([], 3, 33, .eq (pB true)), ([], 3, 40, .eq (pB true)), ([], 3, 47, .eq (pB true)), ([], 3, 54, .eq (pB true)), ([], 4, 1, .eq (pB true)), ([], 4, 8, .eq (pB true)), ([], 4, 15, .eq (pB true)), ([], 4, 22, .eq (pB true)), ([], 4, 29, .eq (pB false))]) (ex := .ret) (r := (pB false)) (by kernel_rfl) rfl (by kernel_rfl) (allC (ref01Texts_ok (k + 1) a.names b.names _ q1) (allC (cg q2) (allC (ref15Frames_ok k a.stack b.stack _ q3) (allC (cg q4) (allC (ref15Ints_ok (k + 1) a.draws b.draws _ q5) (allC (cg q6) (allC (cg q7) (allC (cg q8) (allC (cg q9) (allC (cg q10) (allC (cg q11) (allC (cg q12) (allC (cg q13) (allC (cg q14) (allC (cg q15) (allC (cg q16) (allC (cg q17) (allC (cg q18) (allC (cg q19) allN))))))))))))))))))) (by kernel_rfl) allN
                              · obtain rfl := Option.some.inj h
                                exact ret_go (k := (k + 2)) Tryz.func8 Tryz.ntmps8 (by kernel_rfl) (by kernel_rfl) (lb rfl) (adv [([], 1, 4, .ret (pB r_1)), ([], 1, 6, .eq (pB false)), ([], 1, 11, .ret (pB r_2)), ([], 1, 14, .eq (pB false)), ([], 1, 19, .ret (pB r_3)), ([], 1, 21, .eq (pB false)), ([], 3, 5, .eq (pB true)), ([], 3, 12, .eq (pB true)), ([], 3, 19, .eq (pB true)), ([], 3, 26, .eq (pB true)), ([], 3, 33, .eq (pB true)), ([], 3, 40, .eq (pB true)), ([], 3, 47, .eq (pB true)), ([], 3, 54, .eq (pB true)), ([], 4, 1, .eq (pB true)), ([], 4, 8, .eq (pB true)), ([], 4, 15, .eq (pB true)), ([], 4, 22, .eq (pB false))]) (ex := .ret) (r := (pB false)) (by kernel_rfl) rfl (by kernel_rfl) (allC (ref01Texts_ok (k + 1) a.names b.names _ q1) (allC (cg q2) (allC (ref15Frames_ok k a.stack b.stack _ q3) (allC (cg q4) (allC (ref15Ints_ok (k + 1) a.draws b.draws _ q5) (allC (cg q6) (allC (cg q7) (allC (cg q8) (allC (cg q9) (allC (cg q10) (allC (cg q11) (allC (cg q12) (allC (cg q13) (allC (cg q14) (allC (cg q15) (allC (cg q16) (allC (cg q17) (allC (cg q18) allN)))))))))))))))))) (by kernel_rfl) allN
                            · obtain rfl := Option.some.inj h
                              exact ret_go (k := (k + 2)) Tryz.func8 Tryz.ntmps8 (by kernel_rfl) (by kernel_rfl) (lb rfl) (adv [([], 1, 4, .ret (pB r_1)), ([], 1, 6, .eq (pB false)), ([], 1, 11, .ret (pB r_2)), ([], 1, 14, .eq (pB false)), ([], 1, 19, .ret (pB r_3)), ([], 1, 21, .eq (pB false)), ([], 3, 5, .eq (pB true)), ([], 3, 12, .eq (pB true)), ([], 3, 19, .eq (pB true)), ([], 3, 26, .eq (pB true)), ([], 3, 33, .eq (pB true)), ([], 3, 40, .eq (pB true)), ([], 3, 47, .eq (pB true)), ([], 3, 54, .eq (pB true)), ([], 4, 1, .eq (pB true)), ([], 4, 8, .eq (pB true)), ([], 4, 15, .eq (pB false))]) (ex := .ret) (r := (pB false)) (by kernel_rfl) rfl (by kernel_rfl) (allC (ref01Texts_ok (k + 1) a.names b.names _ q1) (allC (cg q2) (allC (ref15Frames_ok k a.stack b.stack _ q3) (allC (cg q4) (allC (ref15Ints_ok (k + 1) a.draws b.draws _ q5) (allC (cg q6) (allC (cg q7) (allC (cg q8) (allC (cg q9) (allC (cg q10) (allC (cg q11) (allC (cg q12) (allC (cg q13) (allC (cg q14) (allC (cg q15) (allC (cg q16) (allC (cg q17) allN))))))))))))))))) (by kernel_rfl) allN
                          · obtain rfl := Option.some.inj h
                            exact ret_go (k := (k + 2)) Tryz.func8 Tryz.ntmps8 (by kernel_rfl) (by kernel_rfl) (lb rfl) (adv [([], 1, 4, .ret (pB r_1)), ([], 1, 6, .eq (pB false)), ([], 1, 11, .ret (pB r_2)), ([], 1, 14, .eq (pB false)), ([], 1, 19, .ret (pB r_3)), ([], 1, 21, .eq (pB false)), ([], 3, 5, .eq (pB true)), ([], 3, 12, .eq (pB true)), ([], 3, 19, .eq (pB true)), ([], 3, 26, .eq (pB true)), ([], 3, 33, .eq (pB true)), ([], 3, 40, .eq (pB true)), ([], 3, 47, .eq (pB true)), ([], 3, 54, .eq (pB true)), ([], 4, 1, .eq (pB true)), ([], 4, 8, .eq (pB false))]) (ex := .ret) (r := (pB false)) (by kernel_rfl) rfl (by kernel_rfl) (allC (ref01Texts_ok (k + 1) a.names b.names _ q1) (allC (cg q2) (allC (ref15Frames_ok k a.stack b.stack _ q3) (allC (cg q4) (allC (ref15Ints_ok (k + 1) a.draws b.draws _ q5) (allC (cg q6) (allC (cg q7) (allC (cg q8) (allC (cg q9) (allC (cg q10) (allC (cg q11) (allC (cg q12) (allC (cg q13) (allC (cg q14) (allC (cg q15) (allC (cg q16) allN)))))))))))))))) (by kernel_rfl) allN
                        · obtain rfl := Option.some.inj h
                          exact ret_go (k := (k + 2)) Tryz.func8 Tryz.ntmps8 (by kernel_rfl) (by kernel_rfl) (lb rfl) (adv [([], 1, 4, .ret (pB r_1)), ([], 1, 6, .eq (pB false)), ([], 1, 11, .ret (pB r_2)), ([], 1, 14, .eq (pB false)), ([], 1, 19, .ret (pB r_3)), ([], 1, 21, .eq (pB false)), ([], 3, 5, .eq (pB true)), ([], 3, 12, .eq (pB true)), ([], 3, 19, .eq (pB true)), ([], 3, 26, .eq (pB true)), ([], 3, 33, .eq (pB true)), ([], 3, 40, .eq (pB true)), ([], 3, 47, .eq (pB true)), ([], 3, 54, .eq (pB true)), ([], 4, 1, .eq (pB false))]) (ex := .ret) (r := (pB false)) (by kernel_rfl) rfl (by kernel_rfl) (allC (ref01Texts_ok (k + 1) a.names b.names _ q1) (allC (cg q2) (allC (ref15Frames_ok k a.stack b.stack _ q3) (allC (cg q4) (allC (ref15Ints_ok (k + 1) a.draws b.draws _ q5) (allC (cg q6) (allC (cg q7) (allC (cg q8) (allC (cg q9) (allC (cg q10) (allC (cg q11) (allC (cg q12) (allC (cg q13) (allC (cg q14) (allC (cg q15) allN))))))))))))))) (by kernel_rfl) allN
                      · obtain rfl := Option.some.inj h
                        exact ret_go (k := (k + 2)) Tryz.func8 Tryz.ntmps8 (by kernel_rfl) (by kernel_rfl) (lb rfl) (adv [([], 1, 4, .ret (pB r_1)), ([], 1, 6, .eq (pB false)), ([], 1, 11, .ret (pB r_2)), ([], 1, 14, .eq (pB false)), ([], 1, 19, .ret (pB r_3)), ([], 1, 21, .eq (pB false)), ([], 3, 5, .eq (pB true)), ([], 3, 12, .eq (pB true)), ([], 3, 19, .eq (pB true)), ([], 3, 26, .eq (pB true)), ([], 3, 33, .eq (pB true)), ([], 3, 40, .eq (pB true)), ([], 3, 47, .eq (pB true)), ([], 3, 54, .eq (pB false))]) (ex := .ret) (r := (pB false)) (by kernel_rfl) rfl (by kernel_rfl) (allC (ref01Texts_ok (k + 1) a.names b.names _ q1) (allC (cg q2) (allC (ref15Frames_ok k a.stack b.stack _ q3) (allC (cg q4) (allC (ref15Ints_ok (k + 1) a.draws b.draws _ q5) (allC (cg q6) (allC (cg q7) (allC (cg q8) (allC (cg q9) (allC (cg q10) (allC (cg q11) (allC (cg q12) (allC (cg q13) (allC (cg q14) allN)))))))))))))) (by kernel_rfl) allN
                    · obtain rfl := Option.some.inj h
                      exact ret_go (k := (k + 2)) Tryz.func8 Tryz.ntmps8 (by kernel_rfl) (by kernel_rfl) (lb rfl) (adv [([], 1, 4, .ret (pB r_1)), ([], 1, 6, .eq (pB false)), ([], 1, 11, .ret (pB r_2)), ([], 1, 14, .eq (pB false)), ([], 1, 19, .ret (pB r_3)), ([], 1, 21, .eq (pB false)), ([], 3, 5, .eq (pB true)), ([], 3, 12, .eq (pB true)), ([], 3, 19, .eq (pB true)), ([], 3, 26, .eq (pB true)), ([], 3, 33, .eq (pB true)), ([], 3, 40, .eq (pB true)), ([], 3, 47, .eq (pB false))]) (ex := .ret) (r := (pB false)) (by kernel_rfl) rfl (by kernel_rfl) (allC (ref01Texts_ok (k + 1) a.names b.names _ q1) (allC (cg q2) (allC (ref15Frames_ok k a.stack b.stack _ q3) (allC (cg q4) (allC (ref15Ints_ok (k + 1) a.draws b.draws _ q5) (allC (cg q6) (allC (cg q7) (allC (cg q8) (allC (cg q9) (allC (cg q10) (allC (cg q11) (allC (cg q12) (allC (cg q13) allN))))))))))))) (by kernel_rfl) allN
                  · obtain rfl := Option.some.inj h
                    exact ret_go (k := (k + 2)) Tryz.func8 Tryz.ntmps8 (by kernel_rfl) (by kernel_rfl) (lb rfl) (adv [([], 1, 4, .ret (pB r_1)), ([], 1, 6, .eq (pB false)), ([], 1, 11, .ret (pB r_2)), ([], 1, 14, .eq (pB false)), ([], 1, 19, .ret (pB r_3)), ([], 1, 21, .eq (pB false)), ([], 3, 5, .eq (pB true)), ([], 3, 12, .eq (pB true)), ([], 3, 19, .eq (pB true)), ([], 3, 26, .eq (pB true)), ([], 3, 33, .eq (pB true)), ([], 3, 40, .eq (pB false))]) (ex := .ret) (r := (pB false)) (by kernel_rfl) rfl (by kernel_rfl) (allC (ref01Texts_ok (k + 1) a.names b.names _ q1) (allC (cg q2) (allC (ref15Frames_ok k a.stack b.stack _ q3) (allC (cg q4) (allC (ref15Ints_ok (k + 1) a.draws b.draws _ q5) (allC (cg q6) (allC (cg q7) (allC (cg q8) (allC (cg q9) (allC (cg q10) (allC (cg q11) (allC (cg q12) allN)))))))))))) (by kernel_rfl) allN
                · obtain rfl := Option.some.inj h
                  exact ret_go (k := (k + 2)) Tryz.func8 Tryz.ntmps8 (by kernel_rfl) (by kernel_rfl) (lb rfl) (adv [([], 1, 4, .ret (pB r_1)), ([], 1, 6, .eq (pB false)), ([], 1, 11, .ret (pB r_2)), ([], 1, 14, .eq (pB false)), ([], 1, 19, .ret (pB r_3)), ([], 1, 21, .eq (pB false)), ([], 3, 5, .eq (pB true)), ([], 3, 12, .eq (pB true)), ([], 3, 19, .eq (pB true)), ([], 3, 26, .eq (pB true)), ([], 3, 33, .eq (pB false))]) (ex := .ret) (r := (pB false)) (by kernel_rfl) rfl (by kernel_rfl) (allC (ref01Texts_ok (k + 1) a.names b.names _ q1) (allC (cg q2) (allC (ref15Frames_ok k a.stack b.stack _ q3) (allC (cg q4) (allC (ref15Ints_ok (k + 1) a.draws b.draws _ q5) (allC (cg q6) (allC (cg q7) (allC (cg q8) (allC (cg q9) (allC (cg q10) (allC (cg q11) allN))))))))))) (by kernel_rfl) allN
              · obtain rfl := Option.some.inj h
                exact ret_go (k := (k + 2)) Tryz.func8 Tryz.ntmps8 (by kernel_rfl) (by kernel_rfl) (lb rfl) (adv [([], 1, 4, .ret (pB r_1)), ([], 1, 6, .eq (pB false)), ([], 1, 11, .ret (pB r_2)), ([], 1, 14, .eq (pB false)), ([], 1, 19, .ret (pB r_3)), ([], 1, 21, .eq (pB false)), ([], 3, 5, .eq (pB true)), ([], 3, 12, .eq (pB true)), ([], 3, 19, .eq (pB true)), ([], 3, 26, .eq (pB false))]) (ex := .ret) (r := (pB false)) (by kernel_rfl) rfl (by kernel_rfl) (allC (ref01Texts_ok (k + 1) a.names b.names _ q1) (allC (cg q2) (allC (ref15Frames_ok k a.stack b.stack _ q3) (allC (cg q4) (allC (ref15Ints_ok (k + 1) a.draws b.draws _ q5) (allC (cg q6) (allC (cg q7) (allC (cg q8) (allC (cg q9) (allC (cg q10) allN)))))))))) (by kernel_rfl) allN
            · obtain rfl := Option.some.inj h
              exact ret_go (k := (k + 2)) Tryz.func8 Tryz.ntmps8 (by kernel_rfl) (by kernel_rfl) (lb rfl) (adv [([], 1, 4, .ret (pB r_1)), ([], 1, 6, .eq (pB false)), ([], 1, 11, .ret (pB r_2)), ([], 1, 14, .eq (pB false)), ([], 1, 19, .ret (pB r_3)), ([], 1, 21, .eq (pB false)), ([], 3, 5, .eq (pB true)), ([], 3, 12, .eq (pB true)), ([], 3, 19, .eq (pB false))]) (ex := .ret) (r := (pB false)) (by kernel_rfl) rfl (by kernel_rfl) (allC (ref01Texts_ok (k + 1) a.names b.names _ q1) (allC (cg q2) (allC (ref15Frames_ok k a.stack b.stack _ q3) (allC (cg q4) (allC (ref15Ints_ok (k + 1) a.draws b.draws _ q5) (allC (cg q6) (allC (cg q7) (allC (cg q8) (allC (cg q9) allN))))))))) (by kernel_rfl) allN
          · obtain rfl := Option.some.inj h
            exact ret_go (k := (k + 2)) Tryz.func8 Tryz.ntmps8 (by kernel_rfl) (by kernel_rfl) (lb rfl) (adv [([], 1, 4, .ret (pB r_1)), ([], 1, 6, .eq (pB false)), ([], 1, 11, .ret (pB r_2)), ([], 1, 14, .eq (pB false)), ([], 1, 19, .ret (pB r_3)), ([], 1, 21, .eq (pB false)), ([], 3, 5, .eq (pB true)), ([], 3, 12, .eq (pB false))]) (ex := .ret) (r := (pB false)) (by kernel_rfl) rfl (by kernel_rfl) (allC (ref01Texts_ok (k + 1) a.names b.names _ q1) (allC (cg q2) (allC (ref15Frames_ok k a.stack b.stack _ q3) (allC (cg q4) (allC (ref15Ints_ok (k + 1) a.draws b.draws _ q5) (allC (cg q6) (allC (cg q7) (allC (cg q8) allN)))))))) (by kernel_rfl) allN
        · obtain rfl := Option.some.inj h
          exact ret_go (k := (k + 2)) Tryz.func8 Tryz.ntmps8 (by kernel_rfl) (by kernel_rfl) (lb rfl) (adv [([], 1, 4, .ret (pB r_1)), ([], 1, 6, .eq (pB false)), ([], 1, 11, .ret (pB r_2)), ([], 1, 14, .eq (pB false)), ([], 1, 19, .ret (pB r_3)), ([], 1, 21, .eq (pB false)), ([], 3, 5, .eq (pB false))]) (ex := .ret) (r := (pB false)) (by kernel_rfl) rfl (by kernel_rfl) (allC (ref01Texts_ok (k + 1) a.names b.names _ q1) (allC (cg q2) (allC (ref15Frames_ok k a.stack b.stack _ q3) (allC (cg q4) (allC (ref15Ints_ok (k + 1) a.draws b.draws _ q5) (allC (cg q6) (allC (cg q7) allN))))))) (by kernel_rfl) allN
end Go.Proofs.YtaenhodkpidocaaGreatDoor.Den
namespace Go.Proofs.YtaenhodkpidocaaGreatDoor.Den
open Go Go.RowKit
noncomputable def law21Work_L3 : Code := cAt (codeOf Tryz.f9) [true, true, false, true, false, false]
def law21Work_R3_0 (x0 : Int) (x1 : Int) (x2 : Int) (x3 : Int) (x4 : Int) (x5 : Int) (x6 : Int) (x7 : Int) (x8 : Int) (x9 : Int) (x10 : ByteArray) (x11 : ByteArray) (x12 : ByteArray) (x13 : List (List PV)) (x14 : List (List PV)) (x15 : List (List PV)) (x16 : Bool) (x17 : Int) (x18 : ByteArray) (x19 : Int) (x20 : Int) (x21 : Int) (x22 : Int) (x23 : Int) (x24 : Int) (x25 : Int) (x26 : Int) (x27 : Int) (x28 : Int) (x29 : ByteArray) (x30 : ByteArray) (x31 : ByteArray) (x32 : List (List PV)) (x33 : List (List PV)) (x34 : Bool) (x35 : Int) (x36 : ByteArray) (x37 : Int) : St := ⟨envL [(1, (.ptr [0, TAG] 1 0 0)), (2, (.ptr [1, TAG] 1 0 0)), (3, (.ptr [2, TAG] 1 0 0)), (4, (pI x0))], hsL [some ⟨19, 29, [[(pI x1), (pI x2), (pI x3), (pI x4), (pI x5), (pI x6), (pI x7), (pI x8), (pI x9), (pS x10), (pS x11), (pS x12), (.list 1 false x13), (.list 3 false x14), (.list 1 false x15), (pB x16), (pI x17), (pS x18), (pI x19)]], true, false⟩, some ⟨19, 34, [[(pI (0 : Int)), (pI (0 : Int)), (pI (0 : Int)), (pI (0 : Int)), (pI (0 : Int)), (pI (0 : Int)), (pI (0 : Int)), (pI (0 : Int)), (pI (0 : Int)), (pS (bs [])), (pS (bs [])), (pS (bs [])), (.v (.slice none 0 0)), (.v (.slice none 0 0)), (.v (.slice none 0 0)), (pB false), (pI (0 : Int)), (pS (bs [])), (pI (0 : Int))]], true, false⟩, some ⟨19, 34, [[(pI x20), (pI x21), (pI x22), (pI x23), (pI x24), (pI x25), (pI x26), (pI x27), (pI x28), (pS x29), (pS x30), (pS x31), (.list 1 false x32), (.v (.slice none 0 0)), (.list 1 false x33), (pB x34), (pI x35), (pS x36), (pI x37)]], true, false⟩] [0, 0, 0]⟩
def law21Work_R3_1 (x0 : Int) (x1 : Int) (x2 : Int) (x3 : Int) (x4 : Int) (x5 : Int) (x6 : Int) (x7 : Int) (x8 : Int) (x9 : Int) (x10 : ByteArray) (x11 : ByteArray) (x12 : ByteArray) (x13 : List (List PV)) (x14 : List (List PV)) (x15 : List (List PV)) (x16 : Bool) (x17 : Int) (x18 : ByteArray) (x19 : Int) (x20 : Int) (x21 : Int) (x22 : Int) (x23 : Int) (x24 : Int) (x25 : Int) (x26 : Int) (x27 : Int) (x28 : Int) (x29 : ByteArray) (x30 : ByteArray) (x31 : ByteArray) (x32 : List (List PV)) (x33 : Nat) (x34 : List (List PV)) (x35 : Bool) (x36 : Int) (x37 : ByteArray) (x38 : Int) (x39 : List (List PV)) : St := ⟨envL [(1, (.ptr [0, TAG] 1 0 0)), (2, (.ptr [1, TAG] 1 0 0)), (3, (.ptr [2, TAG] 1 0 0)), (4, (pI x0))], hsL [some ⟨19, 29, [[(pI x1), (pI x2), (pI x3), (pI x4), (pI x5), (pI x6), (pI x7), (pI x8), (pI x9), (pS x10), (pS x11), (pS x12), (.list 1 false x13), (.list 3 false x14), (.list 1 false x15), (pB x16), (pI x17), (pS x18), (pI x19)]], true, false⟩, some ⟨19, 34, [[(pI (0 : Int)), (pI (0 : Int)), (pI (0 : Int)), (pI (0 : Int)), (pI (0 : Int)), (pI (0 : Int)), (pI (0 : Int)), (pI (0 : Int)), (pI (0 : Int)), (pS (bs [])), (pS (bs [])), (pS (bs [])), (.v (.slice none 0 0)), (.v (.slice none 0 0)), (.v (.slice none 0 0)), (pB false), (pI (0 : Int)), (pS (bs [])), (pI (0 : Int))]], true, false⟩, some ⟨19, 34, [[(pI x20), (pI x21), (pI x22), (pI x23), (pI x24), (pI x25), (pI x26), (pI x27), (pI x28), (pS x29), (pS x30), (pS x31), (.list 1 false x32), (.row [3, TAG] 1 0 x33), (.list 1 false x34), (pB x35), (pI x36), (pS x37), (pI x38)]], false, false⟩, some ⟨3, 90, x39, true, true⟩] [0, 0, 0, 0]⟩
theorem law21Work_R3_1_eq {x0 y0 : Int} {x1 y1 : Int} {x2 y2 : Int} {x3 y3 : Int} {x4 y4 : Int} {x5 y5 : Int} {x6 y6 : Int} {x7 y7 : Int} {x8 y8 : Int} {x9 y9 : Int} {x10 y10 : ByteArray} {x11 y11 : ByteArray} {x12 y12 : ByteArray} {x13 y13 : List (List PV)} {x14 y14 : List (List PV)} {x15 y15 : List (List PV)} {x16 y16 : Bool} {x17 y17 : Int} {x18 y18 : ByteArray} {x19 y19 : Int} {x20 y20 : Int} {x21 y21 : Int} {x22 y22 : Int} {x23 y23 : Int} {x24 y24 : Int} {x25 y25 : Int} {x26 y26 : Int} {x27 y27 : Int} {x28 y28 : Int} {x29 y29 : ByteArray} {x30 y30 : ByteArray} {x31 y31 : ByteArray} {x32 y32 : List (List PV)} {x33 y33 : Nat} {x34 y34 : List (List PV)} {x35 y35 : Bool} {x36 y36 : Int} {x37 y37 : ByteArray} {x38 y38 : Int} {x39 y39 : List (List PV)} (h0 : x0 = y0) (h1 : x1 = y1) (h2 : x2 = y2) (h3 : x3 = y3) (h4 : x4 = y4) (h5 : x5 = y5) (h6 : x6 = y6) (h7 : x7 = y7) (h8 : x8 = y8) (h9 : x9 = y9) (h10 : x10 = y10) (h11 : x11 = y11) (h12 : x12 = y12) (h13 : x13 = y13) (h14 : x14 = y14) (h15 : x15 = y15) (h16 : x16 = y16) (h17 : x17 = y17) (h18 : x18 = y18) (h19 : x19 = y19) (h20 : x20 = y20) (h21 : x21 = y21) (h22 : x22 = y22) (h23 : x23 = y23) (h24 : x24 = y24) (h25 : x25 = y25) (h26 : x26 = y26) (h27 : x27 = y27) (h28 : x28 = y28) (h29 : x29 = y29) (h30 : x30 = y30) (h31 : x31 = y31) (h32 : x32 = y32) (h33 : x33 = y33) (h34 : x34 = y34) (h35 : x35 = y35) (h36 : x36 = y36) (h37 : x37 = y37) (h38 : x38 = y38) (h39 : x39 = y39) : law21Work_R3_1 x0 x1 x2 x3 x4 x5 x6 x7 x8 x9 x10 x11 x12 x13 x14 x15 x16 x17 x18 x19 x20 x21 x22 x23 x24 x25 x26 x27 x28 x29 x30 x31 x32 x33 x34 x35 x36 x37 x38 x39 = law21Work_R3_1 y0 y1 y2 y3 y4 y5 y6 y7 y8 y9 y10 y11 y12 y13 y14 y15 y16 y17 y18 y19 y20 y21 y22 y23 y24 y25 y26 y27 y28 y29 y30 y31 y32 y33 y34 y35 y36 y37 y38 y39 := by
  subst h0 h1 h2 h3 h4 h5 h6 h7 h8 h9 h10 h11 h12 h13 h14 h15 h16 h17 h18 h19 h20 h21 h22 h23 h24 h25 h26 h27 h28 h29 h30 h31 h32 h33 h34 h35 h36 h37 h38 h39; rfl
def law21Work_S3 (p0 : Int) (p1 : Int) (p2 : Int) (p3 : Int) (p4 : Int) (p5 : Int) (p6 : Int) (p7 : Int) (p8 : Int) (p9 : ByteArray) (p10 : ByteArray) (p11 : ByteArray) (p12 : (List ByteArray)) (p13 : (List FrameD)) (p14 : (List Int)) (p15 : Bool) (p16 : Int) (p17 : ByteArray) (p18 : Int) (p19 : Int) (p20 : Int) (p21 : Int) (p22 : Int) (p23 : Int) (p24 : Int) (p25 : Int) (p26 : Int) (p27 : Int) (p28 : ByteArray) (p29 : ByteArray) (p30 : ByteArray) (p31 : (List ByteArray)) (p32 : (List Int)) (p33 : Bool) (p34 : Int) (p35 : ByteArray) (p36 : Int) : (Int × (List FrameD)) → St
 | (v0, []) => law21Work_R3_0 v0 p0 p1 p2 p3 p4 p5 p6 p7 p8 p9 p10 p11 (p12.map cS) (p13.map FrameD.c) (p14.map cI) p15 p16 p17 p18 p19 p20 p21 p22 p23 p24 p25 p26 p27 p28 p29 p30 (p31.map cS) (p32.map cI) p33 p34 p35 p36
 | (v0, z_1 :: z_2) => law21Work_R3_1 v0 p0 p1 p2 p3 p4 p5 p6 p7 p8 p9 p10 p11 (p12.map cS) (p13.map FrameD.c) (p14.map cI) p15 p16 p17 p18 p19 p20 p21 p22 p23 p24 p25 p26 p27 p28 p29 p30 (p31.map cS) (z_1 :: z_2).length (p32.map cI) p33 p34 p35 p36 ((z_1 :: z_2).map FrameD.c)
def law21Work_b3 (p0 : Int) (p1 : Int) (p2 : Int) (p3 : Int) (p4 : Int) (p5 : Int) (p6 : Int) (p7 : Int) (p8 : Int) (p9 : ByteArray) (p10 : ByteArray) (p11 : ByteArray) (p12 : (List ByteArray)) (p13 : (List FrameD)) (p14 : (List Int)) (p15 : Bool) (p16 : Int) (p17 : ByteArray) (p18 : Int) (p19 : Int) (p20 : Int) (p21 : Int) (p22 : Int) (p23 : Int) (p24 : Int) (p25 : Int) (p26 : Int) (p27 : Int) (p28 : ByteArray) (p29 : ByteArray) (p30 : ByteArray) (p31 : (List ByteArray)) (p32 : (List Int)) (p33 : Bool) (p34 : Int) (p35 : ByteArray) (p36 : Int) : (Int × (List FrameD)) → Option ((Int × (List FrameD)) ⊕ (Int ⊕ (Int × FrameD × (List FrameD))))
 | (v0, v1) =>
 (match v1 with
 | [] => (
 bif (decide (v0 < (p13.length : Int))) then (
 (gt p13 v0).bind fun y_1 =>
 some (.inl ((w64 (v0 + (1 : Int))), [y_1]))
 ) else (
 some (.inr (.inl v0))
 )
 )
 | z_1 :: z_2 => (
 bif (decide (v0 < (p13.length : Int))) then (
 (gt p13 v0).bind fun y_1 =>
 grd (room ((z_1 :: z_2).length + 1) 48) <|
 some (.inl ((w64 (v0 + (1 : Int))), ((z_1 :: z_2) ++ [y_1])))
 ) else (
 some (.inr (.inr ((v0, z_1, z_2))))
 )
 ))
set_option maxRecDepth 100000 in
theorem law21Work_t3 (k : Nat) (p0 : Int) (p1 : Int) (p2 : Int) (p3 : Int) (p4 : Int) (p5 : Int) (p6 : Int) (p7 : Int) (p8 : Int) (p9 : ByteArray) (p10 : ByteArray) (p11 : ByteArray) (p12 : (List ByteArray)) (p13 : (List FrameD)) (p14 : (List Int)) (p15 : Bool) (p16 : Int) (p17 : ByteArray) (p18 : Int) (p19 : Int) (p20 : Int) (p21 : Int) (p22 : Int) (p23 : Int) (p24 : Int) (p25 : Int) (p26 : Int) (p27 : Int) (p28 : ByteArray) (p29 : ByteArray) (p30 : ByteArray) (p31 : (List ByteArray)) (p32 : (List Int)) (p33 : Bool) (p34 : Int) (p35 : ByteArray) (p36 : Int) (a a1 : (Int × (List FrameD))) (h : law21Work_b3 p0 p1 p2 p3 p4 p5 p6 p7 p8 p9 p10 p11 p12 p13 p14 p15 p16 p17 p18 p19 p20 p21 p22 p23 p24 p25 p26 p27 p28 p29 p30 p31 p32 p33 p34 p35 p36 a = some (.inl a1)) : ∃ σ, run1 k 9 0 60 law21Work_L3 (law21Work_S3 p0 p1 p2 p3 p4 p5 p6 p7 p8 p9 p10 p11 p12 p13 p14 p15 p16 p17 p18 p19 p20 p21 p22 p23 p24 p25 p26 p27 p28 p29 p30 p31 p32 p33 p34 p35 p36 a) = some (.normal, σ) ∧ canonS 0 [1, 2, 3, 4] σ = some (law21Work_S3 p0 p1 p2 p3 p4 p5 p6 p7 p8 p9 p10 p11 p12 p13 p14 p15 p16 p17 p18 p19 p20 p21 p22 p23 p24 p25 p26 p27 p28 p29 p30 p31 p32 p33 p34 p35 p36 a1) := by
  obtain ⟨v0, v1⟩ := a
  unfold law21Work_b3 at h
  try dsimp only at h
  rcases v1 with _ | ⟨z_1, z_2⟩
  · try dsimp only at h
    rcases bif_some h with ⟨q1, h⟩ | ⟨q1, h⟩
    · obtain ⟨y_1, q2, h⟩ := bnd_some h
      obtain rfl := Sum.inl.inj (Option.some.inj h)
      exact ⟨_, run_go (k := k) (f := 9) (r0 := 0) (nt := 60) (c := law21Work_L3) (σ := (law21Work_S3 p0 p1 p2 p3 p4 p5 p6 p7 p8 p9 p10 p11 p12 p13 p14 p15 p16 p17 p18 p19 p20 p21 p22 p23 p24 p25 p26 p27 p28 p29 p30 p31 p32 p33 p34 p35 p36 (v0, []))) (adv [([], 3, 3, .eq (pI (p13.length : Int))), ([], 3, 4, .eq (pB true)), ([], 5, 5, .elem [(pI y_1.fd), (pS y_1.name), (.list 1 false (y_1.names.map cS))]), ([], 5, 8, .ok)]) (ex := .normal) (by kernel_rfl) (by kernel_rfl) (allC (len_ob (rfl : (p13.map FrameD.c) = p13.map FrameD.c)) (allC (cg q1) (allC (gt_list (c := FrameD.c) q2) (allC (by decide : 1 ≤ 140737488355328 ∧ (1) * 48 ≤ 140737488355328) allN)))), (Eq.trans (b := some (law21Work_R3_1 (w64 (v0 + (1 : Int))) p0 p1 p2 p3 p4 p5 p6 p7 p8 p9 p10 p11 (p12.map cS) (p13.map FrameD.c) (p14.map cI) p15 p16 p17 p18 p19 p20 p21 p22 p23 p24 p25 p26 p27 p28 p29 p30 (p31.map cS) 1 (p32.map cI) p33 p34 p35 p36 ([[(pI y_1.fd), (pS y_1.name), (.list 1 false (y_1.names.map cS))]]))) (by kernel_rfl) (congrArg some ((law21Work_R3_1_eq (rfl : (w64 (v0 + (1 : Int))) = (w64 (v0 + (1 : Int)))) (rfl : p0 = p0) (rfl : p1 = p1) (rfl : p2 = p2) (rfl : p3 = p3) (rfl : p4 = p4) (rfl : p5 = p5) (rfl : p6 = p6) (rfl : p7 = p7) (rfl : p8 = p8) (rfl : p9 = p9) (rfl : p10 = p10) (rfl : p11 = p11) (rfl : (p12.map cS) = (p12.map cS)) (rfl : (p13.map FrameD.c) = (p13.map FrameD.c)) (rfl : (p14.map cI) = (p14.map cI)) (rfl : p15 = p15) (rfl : p16 = p16) (rfl : p17 = p17) (rfl : p18 = p18) (rfl : p19 = p19) (rfl : p20 = p20) (rfl : p21 = p21) (rfl : p22 = p22) (rfl : p23 = p23) (rfl : p24 = p24) (rfl : p25 = p25) (rfl : p26 = p26) (rfl : p27 = p27) (rfl : p28 = p28) (rfl : p29 = p29) (rfl : p30 = p30) (rfl : (p31.map cS) = (p31.map cS)) ((rfl : 1 = _) : 1 = ([y_1].length)) (rfl : (p32.map cI) = (p32.map cI)) (rfl : p33 = p33) (rfl : p34 = p34) (rfl : p35 = p35) (rfl : p36 = p36) (rfl : ([[(pI y_1.fd), (pS y_1.name), (.list 1 false (y_1.names.map cS))]]) = ([y_1].map FrameD.c))).trans (by kernel_rfl : law21Work_R3_1 (w64 (v0 + (1 : Int))) p0 p1 p2 p3 p4 p5 p6 p7 p8 p9 p10 p11 (p12.map cS) (p13.map FrameD.c) (p14.map cI) p15 p16 p17 p18 p19 p20 p21 p22 p23 p24 p25 p26 p27 p28 p29 p30 (p31.map cS) ([y_1].length) (p32.map cI) p33 p34 p35 p36 ([y_1].map FrameD.c) = law21Work_S3 p0 p1 p2 p3 p4 p5 p6 p7 p8 p9 p10 p11 p12 p13 p14 p15 p16 p17 p18 p19 p20 p21 p22 p23 p24 p25 p26 p27 p28 p29 p30 p31 p32 p33 p34 p35 p36 ((w64 (v0 + (1 : Int))), [y_1])))))⟩
    · cases h
  · try dsimp only at h
    rcases bif_some h with ⟨q1, h⟩ | ⟨q1, h⟩
    · obtain ⟨y_1, q2, h⟩ := bnd_some h
      obtain ⟨q3, h⟩ := grd_some h
      obtain rfl := Sum.inl.inj (Option.some.inj h)
      exact ⟨_, run_go (k := k) (f := 9) (r0 := 0) (nt := 60) (c := law21Work_L3) (σ := (law21Work_S3 p0 p1 p2 p3 p4 p5 p6 p7 p8 p9 p10 p11 p12 p13 p14 p15 p16 p17 p18 p19 p20 p21 p22 p23 p24 p25 p26 p27 p28 p29 p30 p31 p32 p33 p34 p35 p36 (v0, (z_1 :: z_2)))) (adv [([], 3, 3, .eq (pI (p13.length : Int))), ([], 3, 4, .eq (pB true)), ([], 5, 5, .elem [(pI y_1.fd), (pS y_1.name), (.list 1 false (y_1.names.map cS))]), ([], 5, 8, .ok)]) (ex := .normal) (by kernel_rfl) (by kernel_rfl) (allC (len_ob (rfl : (p13.map FrameD.c) = p13.map FrameD.c)) (allC (cg q1) (allC (gt_list (c := FrameD.c) q2) (allC (app_ok (rfl : ((z_1 :: z_2).map FrameD.c) = (z_1 :: z_2).map FrameD.c) (rfl : (z_1 :: z_2).length = (z_1 :: z_2).length) q3) allN)))), (Eq.trans (b := some (law21Work_R3_1 (w64 (v0 + (1 : Int))) p0 p1 p2 p3 p4 p5 p6 p7 p8 p9 p10 p11 (p12.map cS) (p13.map FrameD.c) (p14.map cI) p15 p16 p17 p18 p19 p20 p21 p22 p23 p24 p25 p26 p27 p28 p29 p30 (p31.map cS) ((z_1 :: z_2).length + 1) (p32.map cI) p33 p34 p35 p36 (((z_1 :: z_2).map FrameD.c) ++ [[(pI y_1.fd), (pS y_1.name), (.list 1 false (y_1.names.map cS))]]))) (by kernel_rfl) (congrArg some ((law21Work_R3_1_eq (rfl : (w64 (v0 + (1 : Int))) = (w64 (v0 + (1 : Int)))) (rfl : p0 = p0) (rfl : p1 = p1) (rfl : p2 = p2) (rfl : p3 = p3) (rfl : p4 = p4) (rfl : p5 = p5) (rfl : p6 = p6) (rfl : p7 = p7) (rfl : p8 = p8) (rfl : p9 = p9) (rfl : p10 = p10) (rfl : p11 = p11) (rfl : (p12.map cS) = (p12.map cS)) (rfl : (p13.map FrameD.c) = (p13.map FrameD.c)) (rfl : (p14.map cI) = (p14.map cI)) (rfl : p15 = p15) (rfl : p16 = p16) (rfl : p17 = p17) (rfl : p18 = p18) (rfl : p19 = p19) (rfl : p20 = p20) (rfl : p21 = p21) (rfl : p22 = p22) (rfl : p23 = p23) (rfl : p24 = p24) (rfl : p25 = p25) (rfl : p26 = p26) (rfl : p27 = p27) (rfl : p28 = p28) (rfl : p29 = p29) (rfl : p30 = p30) (rfl : (p31.map cS) = (p31.map cS)) ((len_cat (rfl : (z_1 :: z_2).length = (z_1 :: z_2).length) (z_1 :: z_2) (rfl : 1 = [y_1].length)) : ((z_1 :: z_2).length + 1) = (((z_1 :: z_2) ++ [y_1]).length)) (rfl : (p32.map cI) = (p32.map cI)) (rfl : p33 = p33) (rfl : p34 = p34) (rfl : p35 = p35) (rfl : p36 = p36) ((enc_cat (rfl : ((z_1 :: z_2).map FrameD.c) = (z_1 :: z_2).map FrameD.c) (show [[(pI y_1.fd), (pS y_1.name), (.list 1 false (y_1.names.map cS))]] = [y_1].map FrameD.c from rfl)) : (((z_1 :: z_2).map FrameD.c) ++ [[(pI y_1.fd), (pS y_1.name), (.list 1 false (y_1.names.map cS))]]) = (((z_1 :: z_2) ++ [y_1]).map FrameD.c))).trans (by kernel_rfl : law21Work_R3_1 (w64 (v0 + (1 : Int))) p0 p1 p2 p3 p4 p5 p6 p7 p8 p9 p10 p11 (p12.map cS) (p13.map FrameD.c) (p14.map cI) p15 p16 p17 p18 p19 p20 p21 p22 p23 p24 p25 p26 p27 p28 p29 p30 (p31.map cS) (((z_1 :: z_2) ++ [y_1]).length) (p32.map cI) p33 p34 p35 p36 (((z_1 :: z_2) ++ [y_1]).map FrameD.c) = law21Work_S3 p0 p1 p2 p3 p4 p5 p6 p7 p8 p9 p10 p11 p12 p13 p14 p15 p16 p17 p18 p19 p20 p21 p22 p23 p24 p25 p26 p27 p28 p29 p30 p31 p32 p33 p34 p35 p36 ((w64 (v0 + (1 : Int))), ((z_1 :: z_2) ++ [y_1]))))))⟩
    · cases h
def law21Work (j : JobD) : Option JobD :=
 (iterN (law21Work_b3 j.kind j.p j.phase j.fd j.nF j.modeF j.tries j.atF j.flags j.path j.path2 j.text j.names j.stack j.draws j.done j.exit j.out j.e j.kind j.p j.phase j.fd j.nF j.modeF j.tries j.atF j.flags j.path j.path2 j.text j.names j.draws j.done j.exit j.out j.e) LF ((0 : Int), [])).bind fun X_1 => match X_1 with
 | .inl v_1 => (
 some (JobD.mk j.kind j.p j.phase j.fd j.nF j.modeF j.tries j.atF j.flags j.path j.path2 j.text j.names [] j.draws j.done j.exit j.out j.e)
 )
 | .inr ((v_1, z_1, z_2)) => (
 some (JobD.mk j.kind j.p j.phase j.fd j.nF j.modeF j.tries j.atF j.flags j.path j.path2 j.text j.names (z_1 :: z_2) j.draws j.done j.exit j.out j.e)
 )
set_option maxRecDepth 100000 in
theorem law21Work_ok (k : Nat) (j : JobD) (r : JobD) (h : law21Work j = some r) : run0 (k + 1) 9 [(JobD.a j)] = some (JobD.a r) := by
  unfold law21Work at h
  obtain ⟨X_1, q1, h⟩ := bnd_some h
  obtain ⟨a_1, q2, q3⟩ := loop_iter (f := run1 k 9 0 60 law21Work_L3) (law21Work_S3 j.kind j.p j.phase j.fd j.nF j.modeF j.tries j.atF j.flags j.path j.path2 j.text j.names j.stack j.draws j.done j.exit j.out j.e j.kind j.p j.phase j.fd j.nF j.modeF j.tries j.atF j.flags j.path j.path2 j.text j.names j.draws j.done j.exit j.out j.e) (law21Work_b3 j.kind j.p j.phase j.fd j.nF j.modeF j.tries j.atF j.flags j.path j.path2 j.text j.names j.stack j.draws j.done j.exit j.out j.e j.kind j.p j.phase j.fd j.nF j.modeF j.tries j.atF j.flags j.path j.path2 j.text j.names j.draws j.done j.exit j.out j.e) (law21Work_t3 k j.kind j.p j.phase j.fd j.nF j.modeF j.tries j.atF j.flags j.path j.path2 j.text j.names j.stack j.draws j.done j.exit j.out j.e j.kind j.p j.phase j.fd j.nF j.modeF j.tries j.atF j.flags j.path j.path2 j.text j.names j.draws j.done j.exit j.out j.e) LF ((0 : Int), []) _ (stOf (goStop k 9 0 60 (adv []) 3 (codeOf Tryz.f9) (argS 9 [(JobD.a j)]))) q1 (by kernel_rfl)
  obtain ⟨v_1, v_2⟩ := a_1
  unfold law21Work_b3 at q2
  try dsimp only at q2
  rcases v_2 with _ | ⟨z_1, z_2⟩
  · try dsimp only at q2
    rcases bif_some q2 with ⟨q6, q2⟩ | ⟨q6, q2⟩
    · obtain ⟨y_1, q7, q2⟩ := bnd_some q2
      cases q2
    · cases q2
      try dsimp only at h
      have q4 := run_go (k := k) (f := 9) (r0 := 0) (nt := 60) (c := law21Work_L3) (σ := (law21Work_S3 j.kind j.p j.phase j.fd j.nF j.modeF j.tries j.atF j.flags j.path j.path2 j.text j.names j.stack j.draws j.done j.exit j.out j.e j.kind j.p j.phase j.fd j.nF j.modeF j.tries j.atF j.flags j.path j.path2 j.text j.names j.draws j.done j.exit j.out j.e (v_1, []))) (adv [([], 3, 3, .eq (pI (j.stack.length : Int))), ([], 3, 4, .eq (pB false))]) (ex := (.exit 0)) (by kernel_rfl) (by kernel_rfl) (allC (len_ob (rfl : (j.stack.map FrameD.c) = j.stack.map FrameD.c)) (allC (cg q6) allN))
      have q5 := q3 _ _ (by intro e; cases e) q4
      obtain rfl := Option.some.inj h
      exact ret_go (k := k) Tryz.func9 Tryz.ntmps9 (by kernel_rfl) (by kernel_rfl) (lb rfl) (adv [] [([], 3, (.exit 0), (stOf (go k 9 0 60 (adv [([], 3, 3, .eq (pI (j.stack.length : Int))), ([], 3, 4, .eq (pB false))]) law21Work_L3 (law21Work_S3 j.kind j.p j.phase j.fd j.nF j.modeF j.tries j.atF j.flags j.path j.path2 j.text j.names j.stack j.draws j.done j.exit j.out j.e j.kind j.p j.phase j.fd j.nF j.modeF j.tries j.atF j.flags j.path j.path2 j.text j.names j.draws j.done j.exit j.out j.e (v_1, [])))))]) (ex := .ret) (r := (.agg [(pI j.kind), (pI j.p), (pI j.phase), (pI j.fd), (pI j.nF), (pI j.modeF), (pI j.tries), (pI j.atF), (pI j.flags), (pS j.path), (pS j.path2), (pS j.text), (.list 1 false (j.names.map cS)), (.list 3 false []), (.list 1 false (j.draws.map cI)), (pB j.done), (pI j.exit), (pS j.out), (pI j.e)])) (by kernel_rfl) rfl (by kernel_rfl) (allC q5 allN) (by kernel_rfl) allN
  · try dsimp only at q2
    rcases bif_some q2 with ⟨q6, q2⟩ | ⟨q6, q2⟩
    · obtain ⟨y_1, q7, q2⟩ := bnd_some q2
      obtain ⟨q8, q2⟩ := grd_some q2
      cases q2
    · cases q2
      try dsimp only at h
      have q4 := run_go (k := k) (f := 9) (r0 := 0) (nt := 60) (c := law21Work_L3) (σ := (law21Work_S3 j.kind j.p j.phase j.fd j.nF j.modeF j.tries j.atF j.flags j.path j.path2 j.text j.names j.stack j.draws j.done j.exit j.out j.e j.kind j.p j.phase j.fd j.nF j.modeF j.tries j.atF j.flags j.path j.path2 j.text j.names j.draws j.done j.exit j.out j.e (v_1, (z_1 :: z_2)))) (adv [([], 3, 3, .eq (pI (j.stack.length : Int))), ([], 3, 4, .eq (pB false))]) (ex := (.exit 0)) (by kernel_rfl) (by kernel_rfl) (allC (len_ob (rfl : (j.stack.map FrameD.c) = j.stack.map FrameD.c)) (allC (cg q6) allN))
      have q5 := q3 _ _ (by intro e; cases e) q4
      obtain rfl := Option.some.inj h
      exact ret_go (k := k) Tryz.func9 Tryz.ntmps9 (by kernel_rfl) (by kernel_rfl) (lb rfl) (adv [] [([], 3, (.exit 0), (stOf (go k 9 0 60 (adv [([], 3, 3, .eq (pI (j.stack.length : Int))), ([], 3, 4, .eq (pB false))]) law21Work_L3 (law21Work_S3 j.kind j.p j.phase j.fd j.nF j.modeF j.tries j.atF j.flags j.path j.path2 j.text j.names j.stack j.draws j.done j.exit j.out j.e j.kind j.p j.phase j.fd j.nF j.modeF j.tries j.atF j.flags j.path j.path2 j.text j.names j.draws j.done j.exit j.out j.e (v_1, (z_1 :: z_2))))))]) (ex := .ret) (r := (.agg [(pI j.kind), (pI j.p), (pI j.phase), (pI j.fd), (pI j.nF), (pI j.modeF), (pI j.tries), (pI j.atF), (pI j.flags), (pS j.path), (pS j.path2), (pS j.text), (.list 1 false (j.names.map cS)), (.list 3 false ((z_1 :: z_2).map FrameD.c)), (.list 1 false (j.draws.map cI)), (pB j.done), (pI j.exit), (pS j.out), (pI j.e)])) (by kernel_rfl) rfl (by kernel_rfl) (allC q5 allN) (by kernel_rfl) (allC (row_ok (rfl : ((z_1 :: z_2).map FrameD.c) = (z_1 :: z_2).map FrameD.c) (rfl : (z_1 :: z_2).length = (z_1 :: z_2).length)) allN)
end Go.Proofs.YtaenhodkpidocaaGreatDoor.Den
namespace Go.Proofs.YtaenhodkpidocaaGreatDoor.Den
open Go Go.RowKit
def publishOr (p0 : Int) (p1 : Int) : Option (Int × Int) :=
 some (p0, p1)
def publishOr_out : (Int × Int) → PV × List (Option Blk) × List Nat
 | (r0, r1) => ((.clo 142 [(.ptr [0, TAG] 1 0 0), (.ptr [1, TAG] 1 0 0)]), [some ⟨1, 3, [[(pI r0)]], true, false⟩, some ⟨1, 3, [[(pI r1)]], true, false⟩], [0, 0])
set_option maxRecDepth 100000 in
theorem publishOr_ok (k : Nat) (p0 : Int) (p1 : Int) (r : (Int × Int)) (h : publishOr p0 p1 = some r) : runS0 (k + 1) 80 [(pI p0), (pI p1)] [] [] = some (publishOr_out r) := by
  unfold publishOr at h
  obtain rfl := Option.some.inj h
  exact retS_go (k := k) (n := 0) Tryz.func80 Tryz.ntmps80 rfl (by kernel_rfl) (by kernel_rfl) (lb rfl) (adv []) (ex := .ret) (r := ((.clo 142 [(.ptr [0, TAG] 1 0 0), (.ptr [1, TAG] 1 0 0)]), [some ⟨1, 3, [[(pI p0)]], true, false⟩, some ⟨1, 3, [[(pI p1)]], true, false⟩], [0, 0])) (by kernel_rfl) rfl (by kernel_rfl) allN (by kernel_rfl)
def publishThen (p0 : Int) : Option Int :=
 some p0
def publishThen_out : Int → PV × List (Option Blk) × List Nat
 | r0 => ((.clo 143 [(.ptr [0, TAG] 1 0 0)]), [some ⟨1, 3, [[(pI r0)]], true, false⟩], [0])
set_option maxRecDepth 100000 in
theorem publishThen_ok (k : Nat) (p0 : Int) (r : Int) (h : publishThen p0 = some r) : runS0 (k + 1) 83 [(pI p0)] [] [] = some (publishThen_out r) := by
  unfold publishThen at h
  obtain rfl := Option.some.inj h
  exact retS_go (k := k) (n := 0) Tryz.func83 Tryz.ntmps83 rfl (by kernel_rfl) (by kernel_rfl) (lb rfl) (adv []) (ex := .ret) (r := ((.clo 143 [(.ptr [0, TAG] 1 0 0)]), [some ⟨1, 3, [[(pI p0)]], true, false⟩], [0])) (by kernel_rfl) rfl (by kernel_rfl) allN (by kernel_rfl)
def publishOf (p0 : Int) (p1 : Int) (p2 : Int) (p3 : Int) (p4 : Int) (p5 : Int) (p6 : Int) (p7 : Int) (p8 : Int) (p9 : ByteArray) (p10 : ByteArray) (p11 : ByteArray) (p12 : (List ByteArray)) (p13 : (List FrameD)) (p14 : (List Int)) (p15 : Bool) (p16 : Int) (p17 : ByteArray) (p18 : Int) : Option (Unit ⊕ Unit ⊕ (Int × Int) ⊕ (Int × Int) ⊕ Int ⊕ Unit ⊕ Unit) :=
 (publishOr (2 : Int) (5 : Int)).bind fun (r_1, r_2) =>
 (publishOr (3 : Int) (5 : Int)).bind fun (r_3, r_4) =>
 (publishThen (4 : Int)).bind fun r_5 =>
 (publishThen (6 : Int)).bind fun r_6 =>
 bif p15 then (
 some (.inl ())
 ) else (
 bif (p0 != (9 : Int)) then (
 some (.inl ())
 ) else (
 bif (decide (p2 < (0 : Int))) then (
 some (.inl ())
 ) else (
 bif (decide (p2 ≥ (7 : Int))) then (
 some (.inl ())
 ) else (
 bif (p2 == (0 : Int)) then (
 some (.inr (.inl ()))
 ) else (
 bif (p2 == (1 : Int)) then (
 some (.inr (.inr (.inl (r_1, r_2))))
 ) else (
 bif (p2 == (2 : Int)) then (
 some (.inr (.inr (.inr (.inl (r_3, r_4)))))
 ) else (
 bif (p2 == (3 : Int)) then (
 some (.inr (.inr (.inr (.inr (.inl r_5)))))
 ) else (
 bif (p2 == (4 : Int)) then (
 some (.inr (.inr (.inr (.inr (.inr (.inl ()))))))
 ) else (
 bif (p2 == (5 : Int)) then (
 some (.inr (.inr (.inr (.inr (.inl r_6)))))
 ) else (
 bif (p2 == (6 : Int)) then (
 some (.inr (.inr (.inr (.inr (.inr (.inr (())))))))
 ) else (
 none
 )
 )
 )
 )
 )
 )
 )
 )
 )
 )
 )
def publishOf_out : (Unit ⊕ Unit ⊕ (Int × Int) ⊕ (Int × Int) ⊕ Int ⊕ Unit ⊕ Unit) → PV × List (Option Blk) × List Nat
 | .inl () => ((.tup [(.agg [(.v .nilFunc), (.v .nilFunc)]), (pB false)]), [], [])
 | .inr (.inl ()) => ((.tup [(.agg [(.clo 77 []), (.clo 78 [])]), (pB true)]), [], [])
 | .inr (.inr (.inl (r0, r1))) => ((.tup [(.agg [(.clo 79 []), (.clo 142 [(.ptr [0, TAG] 1 0 0), (.ptr [1, TAG] 1 0 0)])]), (pB true)]), [some ⟨1, 3, [[(pI r0)]], true, false⟩, some ⟨1, 3, [[(pI r1)]], true, false⟩], [0, 0])
 | .inr (.inr (.inr (.inl (r0, r1)))) => ((.tup [(.agg [(.clo 81 []), (.clo 142 [(.ptr [0, TAG] 1 0 0), (.ptr [1, TAG] 1 0 0)])]), (pB true)]), [some ⟨1, 3, [[(pI r0)]], true, false⟩, some ⟨1, 3, [[(pI r1)]], true, false⟩], [0, 0])
 | .inr (.inr (.inr (.inr (.inl r0)))) => ((.tup [(.agg [(.clo 82 []), (.clo 143 [(.ptr [0, TAG] 1 0 0)])]), (pB true)]), [some ⟨1, 3, [[(pI r0)]], true, false⟩], [0])
 | .inr (.inr (.inr (.inr (.inr (.inl ()))))) => ((.tup [(.agg [(.clo 84 []), (.clo 85 [])]), (pB true)]), [], [])
 | .inr (.inr (.inr (.inr (.inr (.inr (())))))) => ((.tup [(.agg [(.clo 86 []), (.clo 87 [])]), (pB true)]), [], [])
set_option maxRecDepth 100000 in
theorem publishOf_ok (k : Nat) (p0 : Int) (p1 : Int) (p2 : Int) (p3 : Int) (p4 : Int) (p5 : Int) (p6 : Int) (p7 : Int) (p8 : Int) (p9 : ByteArray) (p10 : ByteArray) (p11 : ByteArray) (p12 : (List ByteArray)) (p13 : (List FrameD)) (p14 : (List Int)) (p15 : Bool) (p16 : Int) (p17 : ByteArray) (p18 : Int) (r : (Unit ⊕ Unit ⊕ (Int × Int) ⊕ (Int × Int) ⊕ Int ⊕ Unit ⊕ Unit)) (h : publishOf p0 p1 p2 p3 p4 p5 p6 p7 p8 p9 p10 p11 p12 p13 p14 p15 p16 p17 p18 = some r) : runS0 (k + 2) 44 [(.agg [(pI p0), (pI p1), (pI p2), (pI p3), (pI p4), (pI p5), (pI p6), (pI p7), (pI p8), (pS p9), (pS p10), (pS p11), (.list 1 false (p12.map cS)), (.list 3 false (p13.map FrameD.c)), (.list 1 false (p14.map cI)), (pB p15), (pI p16), (pS p17), (pI p18)])] [] [] = some (publishOf_out r) := by
  unfold publishOf at h
  obtain ⟨X_1, q1, h⟩ := bnd_some h
  rcases X_1 with ⟨r_1, r_2⟩
  · try dsimp only at h
    obtain ⟨X_2, q2, h⟩ := bnd_some h
    rcases X_2 with ⟨r_3, r_4⟩
    · try dsimp only at h
      obtain ⟨r_5, q3, h⟩ := bnd_some h
      try dsimp only at h
      obtain ⟨r_6, q4, h⟩ := bnd_some h
      try dsimp only at h
      rcases bif_some h with ⟨q5, h⟩ | ⟨q5, h⟩
      · obtain rfl := Option.some.inj h
        exact retS_go (k := (k + 1)) (n := 0) Tryz.func44 Tryz.ntmps44 rfl (by kernel_rfl) (by kernel_rfl) (lb rfl) (adv [([], 1, 1, .retS (.clo 142 [(.ptr [0, TAG] 1 0 0), (.ptr [1, TAG] 1 0 0)]) [some ⟨1, 3, [[(pI r_1)]], true, false⟩, some ⟨1, 3, [[(pI r_2)]], true, false⟩] [0, 0]), ([], 1, 3, .retS (.clo 142 [(.ptr [0, TAG] 1 0 0), (.ptr [1, TAG] 1 0 0)]) [some ⟨1, 3, [[(pI r_3)]], true, false⟩, some ⟨1, 3, [[(pI r_4)]], true, false⟩] [0, 0]), ([], 1, 5, .retS (.clo 143 [(.ptr [0, TAG] 1 0 0)]) [some ⟨1, 3, [[(pI r_5)]], true, false⟩] [0]), ([], 1, 8, .retS (.clo 143 [(.ptr [0, TAG] 1 0 0)]) [some ⟨1, 3, [[(pI r_6)]], true, false⟩] [0]), ([], 2, 2, .eq (pB true))]) (ex := .ret) (r := ((.tup [(.agg [(.v .nilFunc), (.v .nilFunc)]), (pB false)]), [], [])) (by kernel_rfl) rfl (by kernel_rfl) (allC (publishOr_ok k (2 : Int) (5 : Int) _ q1) (allC (publishOr_ok k (3 : Int) (5 : Int) _ q2) (allC (publishThen_ok k (4 : Int) _ q3) (allC (publishThen_ok k (6 : Int) _ q4) (allC (cg q5) allN))))) (by kernel_rfl)
      · rcases bif_some h with ⟨q6, h⟩ | ⟨q6, h⟩
        · obtain rfl := Option.some.inj h
          exact retS_go (k := (k + 1)) (n := 0) Tryz.func44 Tryz.ntmps44 rfl (by kernel_rfl) (by kernel_rfl) (lb rfl) (adv [([], 1, 1, .retS (.clo 142 [(.ptr [0, TAG] 1 0 0), (.ptr [1, TAG] 1 0 0)]) [some ⟨1, 3, [[(pI r_1)]], true, false⟩, some ⟨1, 3, [[(pI r_2)]], true, false⟩] [0, 0]), ([], 1, 3, .retS (.clo 142 [(.ptr [0, TAG] 1 0 0), (.ptr [1, TAG] 1 0 0)]) [some ⟨1, 3, [[(pI r_3)]], true, false⟩, some ⟨1, 3, [[(pI r_4)]], true, false⟩] [0, 0]), ([], 1, 5, .retS (.clo 143 [(.ptr [0, TAG] 1 0 0)]) [some ⟨1, 3, [[(pI r_5)]], true, false⟩] [0]), ([], 1, 8, .retS (.clo 143 [(.ptr [0, TAG] 1 0 0)]) [some ⟨1, 3, [[(pI r_6)]], true, false⟩] [0]), ([], 2, 2, .eq (pB false)), ([], 2, 7, .eq (pB true))]) (ex := .ret) (r := ((.tup [(.agg [(.v .nilFunc), (.v .nilFunc)]), (pB false)]), [], [])) (by kernel_rfl) rfl (by kernel_rfl) (allC (publishOr_ok k (2 : Int) (5 : Int) _ q1) (allC (publishOr_ok k (3 : Int) (5 : Int) _ q2) (allC (publishThen_ok k (4 : Int) _ q3) (allC (publishThen_ok k (6 : Int) _ q4) (allC (cg q5) (allC (cg q6) allN)))))) (by kernel_rfl)
        · rcases bif_some h with ⟨q7, h⟩ | ⟨q7, h⟩
          · obtain rfl := Option.some.inj h
            exact retS_go (k := (k + 1)) (n := 0) Tryz.func44 Tryz.ntmps44 rfl (by kernel_rfl) (by kernel_rfl) (lb rfl) (adv [([], 1, 1, .retS (.clo 142 [(.ptr [0, TAG] 1 0 0), (.ptr [1, TAG] 1 0 0)]) [some ⟨1, 3, [[(pI r_1)]], true, false⟩, some ⟨1, 3, [[(pI r_2)]], true, false⟩] [0, 0]), ([], 1, 3, .retS (.clo 142 [(.ptr [0, TAG] 1 0 0), (.ptr [1, TAG] 1 0 0)]) [some ⟨1, 3, [[(pI r_3)]], true, false⟩, some ⟨1, 3, [[(pI r_4)]], true, false⟩] [0, 0]), ([], 1, 5, .retS (.clo 143 [(.ptr [0, TAG] 1 0 0)]) [some ⟨1, 3, [[(pI r_5)]], true, false⟩] [0]), ([], 1, 8, .retS (.clo 143 [(.ptr [0, TAG] 1 0 0)]) [some ⟨1, 3, [[(pI r_6)]], true, false⟩] [0]), ([], 2, 2, .eq (pB false)), ([], 2, 7, .eq (pB false)), ([], 2, 12, .eq (pB true))]) (ex := .ret) (r := ((.tup [(.agg [(.v .nilFunc), (.v .nilFunc)]), (pB false)]), [], [])) (by kernel_rfl) rfl (by kernel_rfl) (allC (publishOr_ok k (2 : Int) (5 : Int) _ q1) (allC (publishOr_ok k (3 : Int) (5 : Int) _ q2) (allC (publishThen_ok k (4 : Int) _ q3) (allC (publishThen_ok k (6 : Int) _ q4) (allC (cg q5) (allC (cg q6) (allC (cg q7) allN))))))) (by kernel_rfl)
          · rcases bif_some h with ⟨q8, h⟩ | ⟨q8, h⟩
            · obtain rfl := Option.some.inj h
              exact retS_go (k := (k + 1)) (n := 0) Tryz.func44 Tryz.ntmps44 rfl (by kernel_rfl) (by kernel_rfl) (lb rfl) (adv [([], 1, 1, .retS (.clo 142 [(.ptr [0, TAG] 1 0 0), (.ptr [1, TAG] 1 0 0)]) [some ⟨1, 3, [[(pI r_1)]], true, false⟩, some ⟨1, 3, [[(pI r_2)]], true, false⟩] [0, 0]), ([], 1, 3, .retS (.clo 142 [(.ptr [0, TAG] 1 0 0), (.ptr [1, TAG] 1 0 0)]) [some ⟨1, 3, [[(pI r_3)]], true, false⟩, some ⟨1, 3, [[(pI r_4)]], true, false⟩] [0, 0]), ([], 1, 5, .retS (.clo 143 [(.ptr [0, TAG] 1 0 0)]) [some ⟨1, 3, [[(pI r_5)]], true, false⟩] [0]), ([], 1, 8, .retS (.clo 143 [(.ptr [0, TAG] 1 0 0)]) [some ⟨1, 3, [[(pI r_6)]], true, false⟩] [0]), ([], 2, 2, .eq (pB false)), ([], 2, 7, .eq (pB false)), ([], 2, 12, .eq (pB false)), ([], 2, 18, .eq (pB true))]) (ex := .ret) (r := ((.tup [(.agg [(.v .nilFunc), (.v .nilFunc)]), (pB false)]), [], [])) (by kernel_rfl) rfl (by kernel_rfl) (allC (publishOr_ok k (2 : Int) (5 : Int) _ q1) (allC (publishOr_ok k (3 : Int) (5 : Int) _ q2) (allC (publishThen_ok k (4 : Int) _ q3) (allC (publishThen_ok k (6 : Int) _ q4) (allC (cg q5) (allC (cg q6) (allC (cg q7) (allC (cg q8) allN)))))))) (by kernel_rfl)
            · rcases bif_some h with ⟨q9, h⟩ | ⟨q9, h⟩
              · obtain rfl := Option.some.inj h
                exact retS_go (k := (k + 1)) (n := 0) Tryz.func44 Tryz.ntmps44 rfl (by kernel_rfl) (by kernel_rfl) (lb rfl) (adv [([], 1, 1, .retS (.clo 142 [(.ptr [0, TAG] 1 0 0), (.ptr [1, TAG] 1 0 0)]) [some ⟨1, 3, [[(pI r_1)]], true, false⟩, some ⟨1, 3, [[(pI r_2)]], true, false⟩] [0, 0]), ([], 1, 3, .retS (.clo 142 [(.ptr [0, TAG] 1 0 0), (.ptr [1, TAG] 1 0 0)]) [some ⟨1, 3, [[(pI r_3)]], true, false⟩, some ⟨1, 3, [[(pI r_4)]], true, false⟩] [0, 0]), ([], 1, 5, .retS (.clo 143 [(.ptr [0, TAG] 1 0 0)]) [some ⟨1, 3, [[(pI r_5)]], true, false⟩] [0]), ([], 1, 8, .retS (.clo 143 [(.ptr [0, TAG] 1 0 0)]) [some ⟨1, 3, [[(pI r_6)]], true, false⟩] [0]), ([], 2, 2, .eq (pB false)), ([], 2, 7, .eq (pB false)), ([], 2, 12, .eq (pB false)), ([], 2, 18, .eq (pB false)), ([], 4, 2, .eq (pI (0 : Int)))]) (ex := .ret) (r := ((.tup [(.agg [(.clo 77 []), (.clo 78 [])]), (pB true)]), [], [])) (by kernel_rfl) rfl (by kernel_rfl) (allC (publishOr_ok k (2 : Int) (5 : Int) _ q1) (allC (publishOr_ok k (3 : Int) (5 : Int) _ q2) (allC (publishThen_ok k (4 : Int) _ q3) (allC (publishThen_ok k (6 : Int) _ q4) (allC (cg q5) (allC (cg q6) (allC (cg q7) (allC (cg q8) (allC (congrArg (fun n : Int => pI n) (eq_of_beq q9)) allN))))))))) (by kernel_rfl)
              · rcases bif_some h with ⟨q10, h⟩ | ⟨q10, h⟩
                · obtain rfl := Option.some.inj h
                  exact retS_go (k := (k + 1)) (n := 0) Tryz.func44 Tryz.ntmps44 rfl (by kernel_rfl) (by kernel_rfl) (lb rfl) (adv [([], 1, 1, .retS (.clo 142 [(.ptr [0, TAG] 1 0 0), (.ptr [1, TAG] 1 0 0)]) [some ⟨1, 3, [[(pI r_1)]], true, false⟩, some ⟨1, 3, [[(pI r_2)]], true, false⟩] [0, 0]), ([], 1, 3, .retS (.clo 142 [(.ptr [0, TAG] 1 0 0), (.ptr [1, TAG] 1 0 0)]) [some ⟨1, 3, [[(pI r_3)]], true, false⟩, some ⟨1, 3, [[(pI r_4)]], true, false⟩] [0, 0]), ([], 1, 5, .retS (.clo 143 [(.ptr [0, TAG] 1 0 0)]) [some ⟨1, 3, [[(pI r_5)]], true, false⟩] [0]), ([], 1, 8, .retS (.clo 143 [(.ptr [0, TAG] 1 0 0)]) [some ⟨1, 3, [[(pI r_6)]], true, false⟩] [0]), ([], 2, 2, .eq (pB false)), ([], 2, 7, .eq (pB false)), ([], 2, 12, .eq (pB false)), ([], 2, 18, .eq (pB false)), ([], 4, 2, .eq (pI (1 : Int)))]) (ex := .ret) (r := ((.tup [(.agg [(.clo 79 []), (.clo 142 [(.ptr [0, TAG] 1 0 0), (.ptr [1, TAG] 1 0 0)])]), (pB true)]), [some ⟨1, 3, [[(pI r_1)]], true, false⟩, some ⟨1, 3, [[(pI r_2)]], true, false⟩], [0, 0])) (by kernel_rfl) rfl (by kernel_rfl) (allC (publishOr_ok k (2 : Int) (5 : Int) _ q1) (allC (publishOr_ok k (3 : Int) (5 : Int) _ q2) (allC (publishThen_ok k (4 : Int) _ q3) (allC (publishThen_ok k (6 : Int) _ q4) (allC (cg q5) (allC (cg q6) (allC (cg q7) (allC (cg q8) (allC (congrArg (fun n : Int => pI n) (eq_of_beq q10)) allN))))))))) (by kernel_rfl)
                · rcases bif_some h with ⟨q11, h⟩ | ⟨q11, h⟩
                  · obtain rfl := Option.some.inj h
                    exact retS_go (k := (k + 1)) (n := 0) Tryz.func44 Tryz.ntmps44 rfl (by kernel_rfl) (by kernel_rfl) (lb rfl) (adv [([], 1, 1, .retS (.clo 142 [(.ptr [0, TAG] 1 0 0), (.ptr [1, TAG] 1 0 0)]) [some ⟨1, 3, [[(pI r_1)]], true, false⟩, some ⟨1, 3, [[(pI r_2)]], true, false⟩] [0, 0]), ([], 1, 3, .retS (.clo 142 [(.ptr [0, TAG] 1 0 0), (.ptr [1, TAG] 1 0 0)]) [some ⟨1, 3, [[(pI r_3)]], true, false⟩, some ⟨1, 3, [[(pI r_4)]], true, false⟩] [0, 0]), ([], 1, 5, .retS (.clo 143 [(.ptr [0, TAG] 1 0 0)]) [some ⟨1, 3, [[(pI r_5)]], true, false⟩] [0]), ([], 1, 8, .retS (.clo 143 [(.ptr [0, TAG] 1 0 0)]) [some ⟨1, 3, [[(pI r_6)]], true, false⟩] [0]), ([], 2, 2, .eq (pB false)), ([], 2, 7, .eq (pB false)), ([], 2, 12, .eq (pB false)), ([], 2, 18, .eq (pB false)), ([], 4, 2, .eq (pI (2 : Int)))]) (ex := .ret) (r := ((.tup [(.agg [(.clo 81 []), (.clo 142 [(.ptr [0, TAG] 1 0 0), (.ptr [1, TAG] 1 0 0)])]), (pB true)]), [some ⟨1, 3, [[(pI r_3)]], true, false⟩, some ⟨1, 3, [[(pI r_4)]], true, false⟩], [0, 0])) (by kernel_rfl) rfl (by kernel_rfl) (allC (publishOr_ok k (2 : Int) (5 : Int) _ q1) (allC (publishOr_ok k (3 : Int) (5 : Int) _ q2) (allC (publishThen_ok k (4 : Int) _ q3) (allC (publishThen_ok k (6 : Int) _ q4) (allC (cg q5) (allC (cg q6) (allC (cg q7) (allC (cg q8) (allC (congrArg (fun n : Int => pI n) (eq_of_beq q11)) allN))))))))) (by kernel_rfl)
                  · rcases bif_some h with ⟨q12, h⟩ | ⟨q12, h⟩
                    · obtain rfl := Option.some.inj h
                      exact retS_go (k := (k + 1)) (n := 0) Tryz.func44 Tryz.ntmps44 rfl (by kernel_rfl) (by kernel_rfl) (lb rfl) (adv [([], 1, 1, .retS (.clo 142 [(.ptr [0, TAG] 1 0 0), (.ptr [1, TAG] 1 0 0)]) [some ⟨1, 3, [[(pI r_1)]], true, false⟩, some ⟨1, 3, [[(pI r_2)]], true, false⟩] [0, 0]), ([], 1, 3, .retS (.clo 142 [(.ptr [0, TAG] 1 0 0), (.ptr [1, TAG] 1 0 0)]) [some ⟨1, 3, [[(pI r_3)]], true, false⟩, some ⟨1, 3, [[(pI r_4)]], true, false⟩] [0, 0]), ([], 1, 5, .retS (.clo 143 [(.ptr [0, TAG] 1 0 0)]) [some ⟨1, 3, [[(pI r_5)]], true, false⟩] [0]), ([], 1, 8, .retS (.clo 143 [(.ptr [0, TAG] 1 0 0)]) [some ⟨1, 3, [[(pI r_6)]], true, false⟩] [0]), ([], 2, 2, .eq (pB false)), ([], 2, 7, .eq (pB false)), ([], 2, 12, .eq (pB false)), ([], 2, 18, .eq (pB false)), ([], 4, 2, .eq (pI (3 : Int)))]) (ex := .ret) (r := ((.tup [(.agg [(.clo 82 []), (.clo 143 [(.ptr [0, TAG] 1 0 0)])]), (pB true)]), [some ⟨1, 3, [[(pI r_5)]], true, false⟩], [0])) (by kernel_rfl) rfl (by kernel_rfl) (allC (publishOr_ok k (2 : Int) (5 : Int) _ q1) (allC (publishOr_ok k (3 : Int) (5 : Int) _ q2) (allC (publishThen_ok k (4 : Int) _ q3) (allC (publishThen_ok k (6 : Int) _ q4) (allC (cg q5) (allC (cg q6) (allC (cg q7) (allC (cg q8) (allC (congrArg (fun n : Int => pI n) (eq_of_beq q12)) allN))))))))) (by kernel_rfl)
                    · rcases bif_some h with ⟨q13, h⟩ | ⟨q13, h⟩
                      · obtain rfl := Option.some.inj h
                        exact retS_go (k := (k + 1)) (n := 0) Tryz.func44 Tryz.ntmps44 rfl (by kernel_rfl) (by kernel_rfl) (lb rfl) (adv [([], 1, 1, .retS (.clo 142 [(.ptr [0, TAG] 1 0 0), (.ptr [1, TAG] 1 0 0)]) [some ⟨1, 3, [[(pI r_1)]], true, false⟩, some ⟨1, 3, [[(pI r_2)]], true, false⟩] [0, 0]), ([], 1, 3, .retS (.clo 142 [(.ptr [0, TAG] 1 0 0), (.ptr [1, TAG] 1 0 0)]) [some ⟨1, 3, [[(pI r_3)]], true, false⟩, some ⟨1, 3, [[(pI r_4)]], true, false⟩] [0, 0]), ([], 1, 5, .retS (.clo 143 [(.ptr [0, TAG] 1 0 0)]) [some ⟨1, 3, [[(pI r_5)]], true, false⟩] [0]), ([], 1, 8, .retS (.clo 143 [(.ptr [0, TAG] 1 0 0)]) [some ⟨1, 3, [[(pI r_6)]], true, false⟩] [0]), ([], 2, 2, .eq (pB false)), ([], 2, 7, .eq (pB false)), ([], 2, 12, .eq (pB false)), ([], 2, 18, .eq (pB false)), ([], 4, 2, .eq (pI (4 : Int)))]) (ex := .ret) (r := ((.tup [(.agg [(.clo 84 []), (.clo 85 [])]), (pB true)]), [], [])) (by kernel_rfl) rfl (by kernel_rfl) (allC (publishOr_ok k (2 : Int) (5 : Int) _ q1) (allC (publishOr_ok k (3 : Int) (5 : Int) _ q2) (allC (publishThen_ok k (4 : Int) _ q3) (allC (publishThen_ok k (6 : Int) _ q4) (allC (cg q5) (allC (cg q6) (allC (cg q7) (allC (cg q8) (allC (congrArg (fun n : Int => pI n) (eq_of_beq q13)) allN))))))))) (by kernel_rfl)
                      · rcases bif_some h with ⟨q14, h⟩ | ⟨q14, h⟩
                        · obtain rfl := Option.some.inj h
                          exact retS_go (k := (k + 1)) (n := 0) Tryz.func44 Tryz.ntmps44 rfl (by kernel_rfl) (by kernel_rfl) (lb rfl) (adv [([], 1, 1, .retS (.clo 142 [(.ptr [0, TAG] 1 0 0), (.ptr [1, TAG] 1 0 0)]) [some ⟨1, 3, [[(pI r_1)]], true, false⟩, some ⟨1, 3, [[(pI r_2)]], true, false⟩] [0, 0]), ([], 1, 3, .retS (.clo 142 [(.ptr [0, TAG] 1 0 0), (.ptr [1, TAG] 1 0 0)]) [some ⟨1, 3, [[(pI r_3)]], true, false⟩, some ⟨1, 3, [[(pI r_4)]], true, false⟩] [0, 0]), ([], 1, 5, .retS (.clo 143 [(.ptr [0, TAG] 1 0 0)]) [some ⟨1, 3, [[(pI r_5)]], true, false⟩] [0]), ([], 1, 8, .retS (.clo 143 [(.ptr [0, TAG] 1 0 0)]) [some ⟨1, 3, [[(pI r_6)]], true, false⟩] [0]), ([], 2, 2, .eq (pB false)), ([], 2, 7, .eq (pB false)), ([], 2, 12, .eq (pB false)), ([], 2, 18, .eq (pB false)), ([], 4, 2, .eq (pI (5 : Int)))]) (ex := .ret) (r := ((.tup [(.agg [(.clo 82 []), (.clo 143 [(.ptr [0, TAG] 1 0 0)])]), (pB true)]), [some ⟨1, 3, [[(pI r_6)]], true, false⟩], [0])) (by kernel_rfl) rfl (by kernel_rfl) (allC (publishOr_ok k (2 : Int) (5 : Int) _ q1) (allC (publishOr_ok k (3 : Int) (5 : Int) _ q2) (allC (publishThen_ok k (4 : Int) _ q3) (allC (publishThen_ok k (6 : Int) _ q4) (allC (cg q5) (allC (cg q6) (allC (cg q7) (allC (cg q8) (allC (congrArg (fun n : Int => pI n) (eq_of_beq q14)) allN))))))))) (by kernel_rfl)
                        · rcases bif_some h with ⟨q15, h⟩ | ⟨q15, h⟩
                          · obtain rfl := Option.some.inj h
                            exact retS_go (k := (k + 1)) (n := 0) Tryz.func44 Tryz.ntmps44 rfl (by kernel_rfl) (by kernel_rfl) (lb rfl) (adv [([], 1, 1, .retS (.clo 142 [(.ptr [0, TAG] 1 0 0), (.ptr [1, TAG] 1 0 0)]) [some ⟨1, 3, [[(pI r_1)]], true, false⟩, some ⟨1, 3, [[(pI r_2)]], true, false⟩] [0, 0]), ([], 1, 3, .retS (.clo 142 [(.ptr [0, TAG] 1 0 0), (.ptr [1, TAG] 1 0 0)]) [some ⟨1, 3, [[(pI r_3)]], true, false⟩, some ⟨1, 3, [[(pI r_4)]], true, false⟩] [0, 0]), ([], 1, 5, .retS (.clo 143 [(.ptr [0, TAG] 1 0 0)]) [some ⟨1, 3, [[(pI r_5)]], true, false⟩] [0]), ([], 1, 8, .retS (.clo 143 [(.ptr [0, TAG] 1 0 0)]) [some ⟨1, 3, [[(pI r_6)]], true, false⟩] [0]), ([], 2, 2, .eq (pB false)), ([], 2, 7, .eq (pB false)), ([], 2, 12, .eq (pB false)), ([], 2, 18, .eq (pB false)), ([], 4, 2, .eq (pI (6 : Int)))]) (ex := .ret) (r := ((.tup [(.agg [(.clo 86 []), (.clo 87 [])]), (pB true)]), [], [])) (by kernel_rfl) rfl (by kernel_rfl) (allC (publishOr_ok k (2 : Int) (5 : Int) _ q1) (allC (publishOr_ok k (3 : Int) (5 : Int) _ q2) (allC (publishThen_ok k (4 : Int) _ q3) (allC (publishThen_ok k (6 : Int) _ q4) (allC (cg q5) (allC (cg q6) (allC (cg q7) (allC (cg q8) (allC (congrArg (fun n : Int => pI n) (eq_of_beq q15)) allN))))))))) (by kernel_rfl)
                          · cases h
def publishWriterOpen (w : WriterD) : Option CalD :=
 some (CalD.mk (1 : Int) (-1 : Int) (0 : Int) (0 : Int) (63 : Int) (14 : Int) w.job.path2 (bs []) (bs []))
set_option maxRecDepth 100000 in
theorem publishWriterOpen_ok (k : Nat) (w : WriterD) (r : CalD) (h : publishWriterOpen w = some r) : run0 (k + 1) 77 [(JobD.a w.job)] = some (.agg [(pI r.kind), (pI r.fd), (pI r.fd2), (pI r.nF), (pI r.modeF), (pI r.flags), (pS r.path), (pS r.path2), (pS r.data)]) := by
  unfold publishWriterOpen at h
  obtain rfl := Option.some.inj h
  exact ret_go (k := k) Tryz.func77 Tryz.ntmps77 (by kernel_rfl) (by kernel_rfl) (lb rfl) (adv []) (ex := .ret) (r := (.agg [(pI (1 : Int)), (pI (-1 : Int)), (pI (0 : Int)), (pI (0 : Int)), (pI (63 : Int)), (pI (14 : Int)), (pS w.job.path2), (pS (bs [])), (pS (bs []))])) (by kernel_rfl) rfl (by kernel_rfl) allN (by kernel_rfl) allN
def publishWriterHead (w : WriterD) : Option CalD :=
 grd (0 ≤ (0 : Int) ∧ (0 : Int) ≤ (IntKind.wrap .i64 (Int.tdiv (w.job.text.size : Int) (2 : Int))) ∧ (IntKind.wrap .i64 (Int.tdiv (w.job.text.size : Int) (2 : Int))) ≤ (w.job.text.size : Int)) <|
 some (CalD.mk (4 : Int) w.job.fd (0 : Int) (0 : Int) (0 : Int) (0 : Int) (bs []) (bs []) (w.job.text.extract 0 ((IntKind.wrap .i64 (Int.tdiv (w.job.text.size : Int) (2 : Int)))).toNat))
set_option maxRecDepth 100000 in
theorem publishWriterHead_ok (k : Nat) (w : WriterD) (r : CalD) (h : publishWriterHead w = some r) : run0 (k + 1) 79 [(JobD.a w.job)] = some (.agg [(pI r.kind), (pI r.fd), (pI r.fd2), (pI r.nF), (pI r.modeF), (pI r.flags), (pS r.path), (pS r.path2), (pS r.data)]) := by
  unfold publishWriterHead at h
  obtain ⟨q1, h⟩ := grd_some h
  obtain rfl := Option.some.inj h
  exact ret_go (k := k) Tryz.func79 Tryz.ntmps79 (by kernel_rfl) (by kernel_rfl) (lb rfl) (adv [([], 1, 11, .sub false)]) (ex := .ret) (r := (.agg [(pI (4 : Int)), (pI w.job.fd), (pI (0 : Int)), (pI (0 : Int)), (pI (0 : Int)), (pI (0 : Int)), (pS (bs [])), (pS (bs [])), (pS (w.job.text.extract 0 ((IntKind.wrap .i64 (Int.tdiv (w.job.text.size : Int) (2 : Int)))).toNat))])) (by kernel_rfl) rfl (by kernel_rfl) (allC q1 allN) (by kernel_rfl) allN
def publishWriterTail (w : WriterD) : Option CalD :=
 grd (0 ≤ (IntKind.wrap .i64 (Int.tdiv (w.job.text.size : Int) (2 : Int))) ∧ (IntKind.wrap .i64 (Int.tdiv (w.job.text.size : Int) (2 : Int))) ≤ (w.job.text.size : Int) ∧ (w.job.text.size : Int) ≤ (w.job.text.size : Int)) <|
 some (CalD.mk (4 : Int) w.job.fd (0 : Int) (0 : Int) (0 : Int) (0 : Int) (bs []) (bs []) (w.job.text.extract ((IntKind.wrap .i64 (Int.tdiv (w.job.text.size : Int) (2 : Int)))).toNat w.job.text.size))
set_option maxRecDepth 100000 in
theorem publishWriterTail_ok (k : Nat) (w : WriterD) (r : CalD) (h : publishWriterTail w = some r) : run0 (k + 1) 81 [(JobD.a w.job)] = some (.agg [(pI r.kind), (pI r.fd), (pI r.fd2), (pI r.nF), (pI r.modeF), (pI r.flags), (pS r.path), (pS r.path2), (pS r.data)]) := by
  unfold publishWriterTail at h
  obtain ⟨q1, h⟩ := grd_some h
  obtain rfl := Option.some.inj h
  exact ret_go (k := k) Tryz.func81 Tryz.ntmps81 (by kernel_rfl) (by kernel_rfl) (lb rfl) (adv [([], 1, 11, .sub false)]) (ex := .ret) (r := (.agg [(pI (4 : Int)), (pI w.job.fd), (pI (0 : Int)), (pI (0 : Int)), (pI (0 : Int)), (pI (0 : Int)), (pS (bs [])), (pS (bs [])), (pS (w.job.text.extract ((IntKind.wrap .i64 (Int.tdiv (w.job.text.size : Int) (2 : Int)))).toNat w.job.text.size))])) (by kernel_rfl) rfl (by kernel_rfl) (allC q1 allN) (by kernel_rfl) allN
end Go.Proofs.YtaenhodkpidocaaGreatDoor.Den
