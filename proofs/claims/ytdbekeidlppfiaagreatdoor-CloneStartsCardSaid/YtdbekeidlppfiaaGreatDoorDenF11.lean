/- Texts joined by a program of mine (pack.py): DenF6 DenF7 DenF8 DenF9 DenF10 DenF11. -/
import Derived.Test.YtdbekeidlppfiaaGreatDoorDenF5
set_option linter.unusedVariables false
set_option linter.unusedSimpArgs false
namespace Go.Proofs.YtdbekeidlppfiaaGreatDoor.Den
open Go Go.RowKit
noncomputable def ref03Known_L6 : Code := cAt (codeOf Tryz.f74) [true, true, true, true, false, true, false, false]
def ref03Known_R6 (x0 : ByteArray) (x1 : Int) (x2 : Bool) (x3 : Bool) (x4 : Int) : St := ⟨envL [(0, (pS x0)), (1, (.v (.int .u8 x1))), (6, (pB x2)), (7, (pB x3)), (8, (pI x4))], hsL [] []⟩
def ref03Known_S6 (p0 : ByteArray) (p1 : Int) : (Bool × Bool × Int) → St
 | (v0, v1, v2) => ref03Known_R6 p0 p1 v0 v1 v2
def ref03Known_b6 (p0 : ByteArray) (p1 : Int) : (Bool × Bool × Int) → Option ((Bool × Bool × Int) ⊕ (Bool × Bool × Int))
 | (v0, v1, v2) =>
 bif (decide (v2 < (p0.size : Int))) then (
 (gtS p0 v2).bind fun b_1 =>
 bif ((b_1.toNat : Int) == p1) then (
 bif v1 then (
 some (.inl (true, true, (w64 (v2 + (1 : Int)))))
 ) else (
 bif (decide ((w64 (v2 + (1 : Int))) < (p0.size : Int))) then (
 (gtS p0 (w64 (v2 + (1 : Int)))).bind fun b_2 =>
 some (.inl (true, ((b_2.toNat : Int) == (58 : Int)), (w64 (v2 + (1 : Int)))))
 ) else (
 some (.inl (true, false, (w64 (v2 + (1 : Int)))))
 )
 )
 ) else (
 some (.inl (v0, v1, (w64 (v2 + (1 : Int)))))
 )
 ) else (
 some (.inr (v0, v1, v2))
 )
set_option maxRecDepth 100000 in
theorem ref03Known_t6 (k : Nat) (p0 : ByteArray) (p1 : Int) (a a1 : (Bool × Bool × Int)) (h : ref03Known_b6 p0 p1 a = some (.inl a1)) : ∃ σ, run1 k 74 0 39 ref03Known_L6 (ref03Known_S6 p0 p1 a) = some (.normal, σ) ∧ canonS 0 [0, 1, 6, 7, 8] σ = some (ref03Known_S6 p0 p1 a1) := by
  obtain ⟨v0, v1, v2⟩ := a
  unfold ref03Known_b6 at h
  try dsimp only at h
  rcases bif_some h with ⟨q1, h⟩ | ⟨q1, h⟩
  · obtain ⟨b_1, q2, h⟩ := bnd_some h
    rcases bif_some h with ⟨q3, h⟩ | ⟨q3, h⟩
    · rcases bif_some h with ⟨q4, h⟩ | ⟨q4, h⟩
      · obtain rfl := Sum.inl.inj (Option.some.inj h)
        exact ⟨_, run_go (k := k) (f := 74) (r0 := 0) (nt := 39) (c := ref03Known_L6) (σ := (ref03Known_S6 p0 p1 (v0, v1, v2))) (adv [([], 6, 3, .eq (pB true)), ([], 8, 2, .chr b_1), ([], 8, 4, .eq (pB true)), ([], 10, 1, .eq (pB true))]) (ex := .normal) (by kernel_rfl) (by kernel_rfl) (allC (cg q1) (allC q2 (allC (cg q3) (allC (cg q4) allN)))), (by kernel_rfl)⟩
      · rcases bif_some h with ⟨q5, h⟩ | ⟨q5, h⟩
        · obtain ⟨b_2, q6, h⟩ := bnd_some h
          obtain rfl := Sum.inl.inj (Option.some.inj h)
          exact ⟨_, run_go (k := k) (f := 74) (r0 := 0) (nt := 39) (c := ref03Known_L6) (σ := (ref03Known_S6 p0 p1 (v0, v1, v2))) (adv [([], 6, 3, .eq (pB true)), ([], 8, 2, .chr b_1), ([], 8, 4, .eq (pB true)), ([], 10, 1, .eq (pB false)), ([], 10, 7, .eq (pB true)), ([], 10, 11, .chr b_2)]) (ex := .normal) (by kernel_rfl) (by kernel_rfl) (allC (cg q1) (allC q2 (allC (cg q3) (allC (cg q4) (allC (cg q5) (allC q6 allN)))))), (by kernel_rfl)⟩
        · obtain rfl := Sum.inl.inj (Option.some.inj h)
          exact ⟨_, run_go (k := k) (f := 74) (r0 := 0) (nt := 39) (c := ref03Known_L6) (σ := (ref03Known_S6 p0 p1 (v0, v1, v2))) (adv [([], 6, 3, .eq (pB true)), ([], 8, 2, .chr b_1), ([], 8, 4, .eq (pB true)), ([], 10, 1, .eq (pB false)), ([], 10, 7, .eq (pB false))]) (ex := .normal) (by kernel_rfl) (by kernel_rfl) (allC (cg q1) (allC q2 (allC (cg q3) (allC (cg q4) (allC (cg q5) allN))))), (by kernel_rfl)⟩
    · obtain rfl := Sum.inl.inj (Option.some.inj h)
      exact ⟨_, run_go (k := k) (f := 74) (r0 := 0) (nt := 39) (c := ref03Known_L6) (σ := (ref03Known_S6 p0 p1 (v0, v1, v2))) (adv [([], 6, 3, .eq (pB true)), ([], 8, 2, .chr b_1), ([], 8, 4, .eq (pB false))]) (ex := .normal) (by kernel_rfl) (by kernel_rfl) (allC (cg q1) (allC q2 (allC (cg q3) allN))), (by kernel_rfl)⟩
  · cases h
def ref03Known (spec : ByteArray) (c : Int) : Option (Bool × Bool) :=
 bif (c == (58 : Int)) then (
 some (false, false)
 ) else (
 (iterN (ref03Known_b6 spec c) LF (false, false, (0 : Int))).bind fun (v_1, v_2, v_3) =>
 some (v_1, v_2)
 )
set_option maxRecDepth 100000 in
theorem ref03Known_ok (k : Nat) (spec : ByteArray) (c : Int) (r : (Bool × Bool)) (h : ref03Known spec c = some r) : run0 (k + 1) 74 [(pS spec), (.v (.int .u8 c))] = some (.tup [(pB r.1), (pB r.2)]) := by
  unfold ref03Known at h
  rcases bif_some h with ⟨q1, h⟩ | ⟨q1, h⟩
  · obtain rfl := Option.some.inj h
    exact ret_go (k := k) Tryz.func74 Tryz.ntmps74 (by kernel_rfl) (by kernel_rfl) (lb rfl) (adv [([], 1, 1, .eq (pB true))]) (ex := .ret) (r := (.tup [(pB false), (pB false)])) (by kernel_rfl) rfl (by kernel_rfl) (allC (cg q1) allN) (by kernel_rfl) allN
  · obtain ⟨X_1, q2, h⟩ := bnd_some h
    obtain ⟨a_1, q3, q4⟩ := loop_iter (f := run1 k 74 0 39 ref03Known_L6) (ref03Known_S6 spec c) (ref03Known_b6 spec c) (ref03Known_t6 k spec c) LF (false, false, (0 : Int)) _ (stOf (goStop k 74 0 39 (adv [([], 1, 1, .eq (pB false))]) 6 (codeOf Tryz.f74) (argS 74 [(pS spec), (.v (.int .u8 c))]))) q2 (by kernel_rfl)
    obtain ⟨v_1, v_2, v_3⟩ := a_1
    unfold ref03Known_b6 at q3
    try dsimp only at q3
    rcases bif_some q3 with ⟨q7, q3⟩ | ⟨q7, q3⟩
    · obtain ⟨b_1, q8, q3⟩ := bnd_some q3
      rcases bif_some q3 with ⟨q9, q3⟩ | ⟨q9, q3⟩
      · rcases bif_some q3 with ⟨q10, q3⟩ | ⟨q10, q3⟩
        · cases q3
        · rcases bif_some q3 with ⟨q11, q3⟩ | ⟨q11, q3⟩
          · obtain ⟨b_2, q12, q3⟩ := bnd_some q3
            cases q3
          · cases q3
      · cases q3
    · cases q3
      try dsimp only at h
      have q5 := run_go (k := k) (f := 74) (r0 := 0) (nt := 39) (c := ref03Known_L6) (σ := (ref03Known_S6 spec c (v_1, v_2, v_3))) (adv [([], 6, 3, .eq (pB false))]) (ex := (.exit 0)) (by kernel_rfl) (by kernel_rfl) (allC (cg q7) allN)
      have q6 := q4 _ _ (by intro e; cases e) q5
      obtain rfl := Option.some.inj h
      exact ret_go (k := k) Tryz.func74 Tryz.ntmps74 (by kernel_rfl) (by kernel_rfl) (lb rfl) (adv [([], 1, 1, .eq (pB false))] [([], 6, (.exit 0), (stOf (go k 74 0 39 (adv [([], 6, 3, .eq (pB false))]) ref03Known_L6 (ref03Known_S6 spec c (v_1, v_2, v_3)))))]) (ex := .ret) (r := (.tup [(pB v_1), (pB v_2)])) (by kernel_rfl) rfl (by kernel_rfl) (allC (cg q1) (allC q6 allN)) (by kernel_rfl) allN
end Go.Proofs.YtdbekeidlppfiaaGreatDoor.Den
namespace Go.Proofs.YtdbekeidlppfiaaGreatDoor.Den
open Go Go.RowKit
noncomputable def ref03Parse_L10x1 : Code := cAt (codeOf Tryz.f33) [true, true, true, false, false, false, true, false, true, true, true, true, true, false, false]
def ref03Parse_R10x1 (x0 : ByteArray) (x1 : List (List PV)) (x2 : Nat) (x3 : Int) (x4 : ByteArray) (x5 : Int) (x6 : List (List PV)) : St := ⟨envL [(0, (pS x0)), (1, (.list 1 false x1)), (7, (.row [0, TAG] 1 0 x2)), (8, (pI x3)), (9, (pS x4)), (10, (pI x5))], hsL [some ⟨2, 158, x6, true, true⟩] [0]⟩
theorem ref03Parse_R10x1_eq {x0 y0 : ByteArray} {x1 y1 : List (List PV)} {x2 y2 : Nat} {x3 y3 : Int} {x4 y4 : ByteArray} {x5 y5 : Int} {x6 y6 : List (List PV)} (h0 : x0 = y0) (h1 : x1 = y1) (h2 : x2 = y2) (h3 : x3 = y3) (h4 : x4 = y4) (h5 : x5 = y5) (h6 : x6 = y6) : ref03Parse_R10x1 x0 x1 x2 x3 x4 x5 x6 = ref03Parse_R10x1 y0 y1 y2 y3 y4 y5 y6 := by
  subst h0 h1 h2 h3 h4 h5 h6; rfl
def ref03Parse_S10x1 (p0 : ByteArray) (p1 : (List ByteArray)) (p2 : ByteArray) : (Int × Int × (List FlagD)) → St
 | (v0, v1, v2) => ref03Parse_R10x1 p0 (p1.map cS) v2.length v0 p2 v1 (v2.map FlagD.c)
def ref03Parse_b10x1 (p0 : ByteArray) (p1 : (List ByteArray)) (p2 : ByteArray) : (Int × Int × (List FlagD)) → Option ((Int × Int × (List FlagD)) ⊕ ((Int × Int × (List FlagD) × UInt8 × Bool × Bool) ⊕ (Int × Int × (List FlagD) × UInt8 × Bool × Bool × UInt8) ⊕ (Int × Int × (List FlagD) × UInt8 × Bool × Bool) ⊕ (Int × Int × (List FlagD))))
 | (v0, v1, v2) =>
 bif (decide (v1 < (p2.size : Int))) then (
 (gtS p2 v1).bind fun b_1 =>
 (ref03Known p0 (b_1.toNat : Int)).bind fun (r_1, r_2) =>
 bif (!r_1) then (
 some (.inr (.inl (v0, v1, v2, b_1, r_1, r_2)))
 ) else (
 bif (!r_2) then (
 (gtS p2 v1).bind fun b_2 =>
 grd (room (v2.length + 1) 24) <|
 some (.inl (v0, (w64 (v1 + (1 : Int))), (v2 ++ [(FlagD.mk (b_2.toNat : Int) (bs []))])))
 ) else (
 bif (decide ((w64 (v1 + (1 : Int))) < (p2.size : Int))) then (
 (gtS p2 v1).bind fun b_2 =>
 grd (0 ≤ (w64 (v1 + (1 : Int))) ∧ (w64 (v1 + (1 : Int))) ≤ (p2.size : Int) ∧ (p2.size : Int) ≤ (p2.size : Int)) <|
 grd (room (v2.length + 1) 24) <|
 some (.inr (.inr (.inl (v0, v1, v2, b_1, r_1, r_2, b_2))))
 ) else (
 bif (v0 == (p1.length : Int)) then (
 some (.inr (.inr (.inr (.inl (v0, v1, v2, b_1, r_1, r_2)))))
 ) else (
 (gtS p2 v1).bind fun b_2 =>
 (gt p1 v0).bind fun y_1 =>
 grd (room (v2.length + 1) 24) <|
 some (.inl ((w64 (v0 + (1 : Int))), (w64 (v1 + (1 : Int))), (v2 ++ [(FlagD.mk (b_2.toNat : Int) y_1)])))
 )
 )
 )
 )
 ) else (
 some (.inr (.inr (.inr (.inr ((v0, v1, v2))))))
 )
set_option maxRecDepth 100000 in
theorem ref03Parse_t10x1 (k : Nat) (p0 : ByteArray) (p1 : (List ByteArray)) (p2 : ByteArray) (a a1 : (Int × Int × (List FlagD))) (h : ref03Parse_b10x1 p0 p1 p2 a = some (.inl a1)) : ∃ σ, run1 (k + 1) 33 0 103 ref03Parse_L10x1 (ref03Parse_S10x1 p0 p1 p2 a) = some (.normal, σ) ∧ canonS 0 [0, 1, 7, 8, 9, 10] σ = some (ref03Parse_S10x1 p0 p1 p2 a1) := by
  obtain ⟨v0, v1, v2⟩ := a
  unfold ref03Parse_b10x1 at h
  try dsimp only at h
  rcases bif_some h with ⟨q1, h⟩ | ⟨q1, h⟩
  · obtain ⟨b_1, q2, h⟩ := bnd_some h
    obtain ⟨⟨r_1, r_2⟩, q3, h⟩ := bnd_some h
    try dsimp only at h
    rcases bif_some h with ⟨q4, h⟩ | ⟨q4, h⟩
    · cases h
    · rcases bif_some h with ⟨q5, h⟩ | ⟨q5, h⟩
      · obtain ⟨b_2, q6, h⟩ := bnd_some h
        obtain ⟨q7, h⟩ := grd_some h
        obtain rfl := Sum.inl.inj (Option.some.inj h)
        exact ⟨_, run_go (k := (k + 1)) (f := 33) (r0 := 0) (nt := 103) (c := ref03Parse_L10x1) (σ := (ref03Parse_S10x1 p0 p1 p2 (v0, v1, v2))) (adv [([], 10, 3, .eq (pB true)), ([], 12, 3, .chr b_1), ([], 12, 4, .ret (.tup [(pB r_1), (pB r_2)])), ([], 13, 1, .eq (pB false)), ([], 15, 1, .eq (pB true)), ([], 16, 3, .chr b_2), ([], 16, 6, .ok)]) (ex := .normal) (by kernel_rfl) (by kernel_rfl) (allC (cg q1) (allC q2 (allC (ref03Known_ok k p0 (b_1.toNat : Int) _ q3) (allC (cg q4) (allC (cg q5) (allC q6 (allC (app_ok (rfl : (v2.map FlagD.c) = v2.map FlagD.c) (rfl : v2.length = v2.length) q7) allN))))))), (Eq.trans (b := some (ref03Parse_R10x1 p0 (p1.map cS) (v2.length + 1) v0 p2 (w64 (v1 + (1 : Int))) ((v2.map FlagD.c) ++ [[(.v (.int .u8 (b_2.toNat : Int))), (pS (bs []))]]))) (by kernel_rfl) (congrArg some ((ref03Parse_R10x1_eq (rfl : p0 = p0) (rfl : (p1.map cS) = (p1.map cS)) ((len_cat (rfl : v2.length = v2.length) v2 (rfl : 1 = ([(FlagD.mk (b_2.toNat : Int) (bs []))]).length)) : (v2.length + 1) = ((v2 ++ [(FlagD.mk (b_2.toNat : Int) (bs []))]).length)) (rfl : v0 = v0) (rfl : p2 = p2) (rfl : (w64 (v1 + (1 : Int))) = (w64 (v1 + (1 : Int)))) ((enc_cat (rfl : (v2.map FlagD.c) = v2.map FlagD.c) (show [[(.v (.int .u8 (b_2.toNat : Int))), (pS (bs []))]] = ([(FlagD.mk (b_2.toNat : Int) (bs []))]).map FlagD.c from rfl)) : ((v2.map FlagD.c) ++ [[(.v (.int .u8 (b_2.toNat : Int))), (pS (bs []))]]) = ((v2 ++ [(FlagD.mk (b_2.toNat : Int) (bs []))]).map FlagD.c))).trans (by kernel_rfl : ref03Parse_R10x1 p0 (p1.map cS) ((v2 ++ [(FlagD.mk (b_2.toNat : Int) (bs []))]).length) v0 p2 (w64 (v1 + (1 : Int))) ((v2 ++ [(FlagD.mk (b_2.toNat : Int) (bs []))]).map FlagD.c) = ref03Parse_S10x1 p0 p1 p2 (v0, (w64 (v1 + (1 : Int))), (v2 ++ [(FlagD.mk (b_2.toNat : Int) (bs []))]))))))⟩
      · rcases bif_some h with ⟨q6, h⟩ | ⟨q6, h⟩
        · obtain ⟨b_2, q7, h⟩ := bnd_some h
          obtain ⟨q8, h⟩ := grd_some h
          obtain ⟨q9, h⟩ := grd_some h
          cases h
        · rcases bif_some h with ⟨q7, h⟩ | ⟨q7, h⟩
          · cases h
          · obtain ⟨b_2, q8, h⟩ := bnd_some h
            obtain ⟨y_1, q9, h⟩ := bnd_some h
            obtain ⟨q10, h⟩ := grd_some h
            obtain rfl := Sum.inl.inj (Option.some.inj h)
            exact ⟨_, run_go (k := (k + 1)) (f := 33) (r0 := 0) (nt := 103) (c := ref03Parse_L10x1) (σ := (ref03Parse_S10x1 p0 p1 p2 (v0, v1, v2))) (adv [([], 10, 3, .eq (pB true)), ([], 12, 3, .chr b_1), ([], 12, 4, .ret (.tup [(pB r_1), (pB r_2)])), ([], 13, 1, .eq (pB false)), ([], 15, 1, .eq (pB false)), ([], 17, 4, .eq (pB false)), ([], 19, 2, .eq (pI (p1.length : Int))), ([], 19, 3, .eq (pB false)), ([], 21, 3, .chr b_2), ([], 21, 6, .elem [(pS y_1)]), ([], 21, 10, .ok)]) (ex := .normal) (by kernel_rfl) (by kernel_rfl) (allC (cg q1) (allC q2 (allC (ref03Known_ok k p0 (b_1.toNat : Int) _ q3) (allC (cg q4) (allC (cg q5) (allC (cg q6) (allC (len_ob (rfl : (p1.map cS) = p1.map cS)) (allC (cg q7) (allC q8 (allC (gt_list (c := cS) q9) (allC (app_ok (rfl : (v2.map FlagD.c) = v2.map FlagD.c) (rfl : v2.length = v2.length) q10) allN))))))))))), (Eq.trans (b := some (ref03Parse_R10x1 p0 (p1.map cS) (v2.length + 1) (w64 (v0 + (1 : Int))) p2 (w64 (v1 + (1 : Int))) ((v2.map FlagD.c) ++ [[(.v (.int .u8 (b_2.toNat : Int))), (pS y_1)]]))) (by kernel_rfl) (congrArg some ((ref03Parse_R10x1_eq (rfl : p0 = p0) (rfl : (p1.map cS) = (p1.map cS)) ((len_cat (rfl : v2.length = v2.length) v2 (rfl : 1 = [(FlagD.mk (b_2.toNat : Int) y_1)].length)) : (v2.length + 1) = ((v2 ++ [(FlagD.mk (b_2.toNat : Int) y_1)]).length)) (rfl : (w64 (v0 + (1 : Int))) = (w64 (v0 + (1 : Int)))) (rfl : p2 = p2) (rfl : (w64 (v1 + (1 : Int))) = (w64 (v1 + (1 : Int)))) ((enc_cat (rfl : (v2.map FlagD.c) = v2.map FlagD.c) (show [[(.v (.int .u8 (b_2.toNat : Int))), (pS y_1)]] = [(FlagD.mk (b_2.toNat : Int) y_1)].map FlagD.c from rfl)) : ((v2.map FlagD.c) ++ [[(.v (.int .u8 (b_2.toNat : Int))), (pS y_1)]]) = ((v2 ++ [(FlagD.mk (b_2.toNat : Int) y_1)]).map FlagD.c))).trans (by kernel_rfl : ref03Parse_R10x1 p0 (p1.map cS) ((v2 ++ [(FlagD.mk (b_2.toNat : Int) y_1)]).length) (w64 (v0 + (1 : Int))) p2 (w64 (v1 + (1 : Int))) ((v2 ++ [(FlagD.mk (b_2.toNat : Int) y_1)]).map FlagD.c) = ref03Parse_S10x1 p0 p1 p2 ((w64 (v0 + (1 : Int))), (w64 (v1 + (1 : Int))), (v2 ++ [(FlagD.mk (b_2.toNat : Int) y_1)]))))))⟩
  · cases h
noncomputable def ref03Parse_L3 : Code := cAt (codeOf Tryz.f33) [true, true, true, false, false, false]
def ref03Parse_R3 (x0 : ByteArray) (x1 : List (List PV)) (x2 : Nat) (x3 : Int) (x4 : List (List PV)) : St := ⟨envL [(0, (pS x0)), (1, (.list 1 false x1)), (7, (.row [0, TAG] 1 0 x2)), (8, (pI x3))], hsL [some ⟨2, 158, x4, true, true⟩] [0]⟩
theorem ref03Parse_R3_eq {x0 y0 : ByteArray} {x1 y1 : List (List PV)} {x2 y2 : Nat} {x3 y3 : Int} {x4 y4 : List (List PV)} (h0 : x0 = y0) (h1 : x1 = y1) (h2 : x2 = y2) (h3 : x3 = y3) (h4 : x4 = y4) : ref03Parse_R3 x0 x1 x2 x3 x4 = ref03Parse_R3 y0 y1 y2 y3 y4 := by
  subst h0 h1 h2 h3 h4; rfl
def ref03Parse_S3 (p0 : ByteArray) (p1 : (List ByteArray)) : (Int × (List FlagD)) → St
 | (v0, v1) => ref03Parse_R3 p0 (p1.map cS) v1.length v0 (v1.map FlagD.c)
def ref03Parse_b3 (p0 : ByteArray) (p1 : (List ByteArray)) : (Int × (List FlagD)) → Option ((Int × (List FlagD)) ⊕ ((Int × (List FlagD) × ByteArray) ⊕ (Int × (List FlagD) × ByteArray) ⊕ (Int × (List FlagD) × ByteArray) ⊕ (Int × (List FlagD) × ByteArray × UInt8) ⊕ (Int × (List FlagD) × ByteArray × UInt8 × Int × Int × (List FlagD) × UInt8 × Bool × Bool) ⊕ (Int × (List FlagD) × ByteArray × UInt8 × Int × Int × (List FlagD) × UInt8 × Bool × Bool) ⊕ (Int × (List FlagD))))
 | (v0, v1) =>
 bif (decide (v0 < (p1.length : Int))) then (
 (gt p1 v0).bind fun y_1 =>
 bif (seq y_1 (bs [45, 45])) then (
 some (.inr (.inl (v0, v1, y_1)))
 ) else (
 bif (seq y_1 (bs [45])) then (
 some (.inr (.inr (.inl (v0, v1, y_1))))
 ) else (
 bif (seq y_1 (bs [])) then (
 some (.inr (.inr (.inr (.inl (v0, v1, y_1)))))
 ) else (
 (gtS y_1 (0 : Int)).bind fun b_1 =>
 bif ((b_1.toNat : Int) != (45 : Int)) then (
 some (.inr (.inr (.inr (.inr (.inl (v0, v1, y_1, b_1))))))
 ) else (
 (iterN (ref03Parse_b10x1 p0 p1 y_1) LF ((w64 (v0 + (1 : Int))), (1 : Int), v1)).bind fun X_1 => match X_1 with
 | .inl (v_1, v_2, v_3, b_2, r_1, r_2) => (
 some (.inr (.inr (.inr (.inr (.inr (.inl (v0, v1, y_1, b_1, v_1, v_2, v_3, b_2, r_1, r_2)))))))
 )
 | .inr (.inl (v_1, v_2, v_3, b_2, r_1, r_2, b_3)) => (
 some (.inl (v_1, (v_3 ++ [(FlagD.mk (b_3.toNat : Int) (y_1.extract ((w64 (v_2 + (1 : Int)))).toNat y_1.size))])))
 )
 | .inr (.inr (.inl (v_1, v_2, v_3, b_2, r_1, r_2))) => (
 some (.inr (.inr (.inr (.inr (.inr (.inr (.inl (v0, v1, y_1, b_1, v_1, v_2, v_3, b_2, r_1, r_2))))))))
 )
 | .inr (.inr (.inr ((v_1, v_2, v_3)))) => (
 some (.inl (v_1, v_3))
 )
 )
 )
 )
 )
 ) else (
 some (.inr (.inr (.inr (.inr (.inr (.inr (.inr ((v0, v1)))))))))
 )
set_option maxRecDepth 100000 in
theorem ref03Parse_t3 (k : Nat) (p0 : ByteArray) (p1 : (List ByteArray)) (a a1 : (Int × (List FlagD))) (h : ref03Parse_b3 p0 p1 a = some (.inl a1)) : ∃ σ, run1 (k + 1) 33 0 103 ref03Parse_L3 (ref03Parse_S3 p0 p1 a) = some (.normal, σ) ∧ canonS 0 [0, 1, 7, 8] σ = some (ref03Parse_S3 p0 p1 a1) := by
  obtain ⟨v0, v1⟩ := a
  unfold ref03Parse_b3 at h
  try dsimp only at h
  rcases bif_some h with ⟨q1, h⟩ | ⟨q1, h⟩
  · obtain ⟨y_1, q2, h⟩ := bnd_some h
    rcases bif_some h with ⟨q3, h⟩ | ⟨q3, h⟩
    · cases h
    · rcases bif_some h with ⟨q4, h⟩ | ⟨q4, h⟩
      · cases h
      · rcases bif_some h with ⟨q5, h⟩ | ⟨q5, h⟩
        · cases h
        · obtain ⟨b_1, q6, h⟩ := bnd_some h
          rcases bif_some h with ⟨q7, h⟩ | ⟨q7, h⟩
          · cases h
          · obtain ⟨X_1, q8, h⟩ := bnd_some h
            obtain ⟨a_1, q9, q10⟩ := loop_iter (f := run1 (k + 1) 33 0 103 ref03Parse_L10x1) (ref03Parse_S10x1 p0 p1 y_1) (ref03Parse_b10x1 p0 p1 y_1) (ref03Parse_t10x1 k p0 p1 y_1) LF ((w64 (v0 + (1 : Int))), (1 : Int), v1) _ (stOf (goStop (k + 1) 33 0 103 (adv [([], 3, 2, .eq (pI (p1.length : Int))), ([], 3, 3, .eq (pB true)), ([], 4, 2, .elem [(pS y_1)]), ([], 5, 1, .eq (pB false)), ([], 7, 2, .eq (pB false)), ([], 7, 6, .eq (pB false)), ([], 7, 8, .chr b_1), ([], 7, 10, .eq (pB false))]) 10 (ref03Parse_L3) (ref03Parse_S3 p0 p1 (v0, v1)))) q8 (by kernel_rfl)
            obtain ⟨v_1, v_2, v_3⟩ := a_1
            unfold ref03Parse_b10x1 at q9
            try dsimp only at q9
            rcases bif_some q9 with ⟨q13, q9⟩ | ⟨q13, q9⟩
            · obtain ⟨b_2, q14, q9⟩ := bnd_some q9
              obtain ⟨⟨r_1, r_2⟩, q15, q9⟩ := bnd_some q9
              try dsimp only at q9
              rcases bif_some q9 with ⟨q16, q9⟩ | ⟨q16, q9⟩
              · cases q9
                try dsimp only at h
                have q11 := run_go (k := (k + 1)) (f := 33) (r0 := 0) (nt := 103) (c := ref03Parse_L10x1) (σ := (ref03Parse_S10x1 p0 p1 y_1 (v_1, v_2, v_3))) (adv [([], 10, 3, .eq (pB true)), ([], 12, 3, .chr b_2), ([], 12, 4, .ret (.tup [(pB r_1), (pB r_2)])), ([], 13, 1, .eq (pB true))]) (ex := .ret) (by kernel_rfl) (by kernel_rfl) (allC (cg q13) (allC q14 (allC (ref03Known_ok k p0 (b_2.toNat : Int) _ q15) (allC (cg q16) allN))))
                have q12 := q10 _ _ (by intro e; cases e) q11
                cases h
              · rcases bif_some q9 with ⟨q17, q9⟩ | ⟨q17, q9⟩
                · obtain ⟨b_3, q18, q9⟩ := bnd_some q9
                  obtain ⟨q19, q9⟩ := grd_some q9
                  cases q9
                · rcases bif_some q9 with ⟨q18, q9⟩ | ⟨q18, q9⟩
                  · obtain ⟨b_3, q19, q9⟩ := bnd_some q9
                    obtain ⟨q20, q9⟩ := grd_some q9
                    obtain ⟨q21, q9⟩ := grd_some q9
                    cases q9
                    try dsimp only at h
                    have q11 := run_go (k := (k + 1)) (f := 33) (r0 := 0) (nt := 103) (c := ref03Parse_L10x1) (σ := (ref03Parse_S10x1 p0 p1 y_1 (v_1, v_2, v_3))) (adv [([], 10, 3, .eq (pB true)), ([], 12, 3, .chr b_2), ([], 12, 4, .ret (.tup [(pB r_1), (pB r_2)])), ([], 13, 1, .eq (pB false)), ([], 15, 1, .eq (pB false)), ([], 17, 4, .eq (pB true)), ([], 18, 3, .chr b_3), ([], 18, 7, .sub false), ([], 18, 10, .ok)]) (ex := (.exit 2)) (by kernel_rfl) (by kernel_rfl) (allC (cg q13) (allC q14 (allC (ref03Known_ok k p0 (b_2.toNat : Int) _ q15) (allC (cg q16) (allC (cg q17) (allC (cg q18) (allC q19 (allC q20 (allC (app_ok (rfl : (v_3.map FlagD.c) = v_3.map FlagD.c) (rfl : v_3.length = v_3.length) q21) allN)))))))))
                    have q12 := q10 _ _ (by intro e; cases e) q11
                    obtain rfl := Sum.inl.inj (Option.some.inj h)
                    exact ⟨_, run_go (k := (k + 1)) (f := 33) (r0 := 0) (nt := 103) (c := ref03Parse_L3) (σ := (ref03Parse_S3 p0 p1 (v0, v1))) (adv [([], 3, 2, .eq (pI (p1.length : Int))), ([], 3, 3, .eq (pB true)), ([], 4, 2, .elem [(pS y_1)]), ([], 5, 1, .eq (pB false)), ([], 7, 2, .eq (pB false)), ([], 7, 6, .eq (pB false)), ([], 7, 8, .chr b_1), ([], 7, 10, .eq (pB false))] [([], 10, (.exit 2), (stOf (go (k + 1) 33 0 103 (adv [([], 10, 3, .eq (pB true)), ([], 12, 3, .chr b_2), ([], 12, 4, .ret (.tup [(pB r_1), (pB r_2)])), ([], 13, 1, .eq (pB false)), ([], 15, 1, .eq (pB false)), ([], 17, 4, .eq (pB true)), ([], 18, 3, .chr b_3), ([], 18, 7, .sub false), ([], 18, 10, .ok)]) ref03Parse_L10x1 (ref03Parse_S10x1 p0 p1 y_1 (v_1, v_2, v_3)))))]) (ex := .normal) (by kernel_rfl) (by kernel_rfl) (allC (len_ob (rfl : (p1.map cS) = p1.map cS)) (allC (cg q1) (allC (gt_list (c := cS) q2) (allC (cg q3) (allC (cg q4) (allC (cg q5) (allC q6 (allC (cg q7) (allC q12 allN))))))))), (Eq.trans (b := some (ref03Parse_R3 p0 (p1.map cS) (v_3.length + 1) v_1 ((v_3.map FlagD.c) ++ [[(.v (.int .u8 (b_3.toNat : Int))), (pS (y_1.extract ((w64 (v_2 + (1 : Int)))).toNat y_1.size))]]))) (by kernel_rfl) (congrArg some ((ref03Parse_R3_eq (rfl : p0 = p0) (rfl : (p1.map cS) = (p1.map cS)) ((len_cat (rfl : v_3.length = v_3.length) v_3 (rfl : 1 = [(FlagD.mk (b_3.toNat : Int) (y_1.extract ((w64 (v_2 + (1 : Int)))).toNat y_1.size))].length)) : (v_3.length + 1) = ((v_3 ++ [(FlagD.mk (b_3.toNat : Int) (y_1.extract ((w64 (v_2 + (1 : Int)))).toNat y_1.size))]).length)) (rfl : v_1 = v_1) ((enc_cat (rfl : (v_3.map FlagD.c) = v_3.map FlagD.c) (show [[(.v (.int .u8 (b_3.toNat : Int))), (pS (y_1.extract ((w64 (v_2 + (1 : Int)))).toNat y_1.size))]] = [(FlagD.mk (b_3.toNat : Int) (y_1.extract ((w64 (v_2 + (1 : Int)))).toNat y_1.size))].map FlagD.c from rfl)) : ((v_3.map FlagD.c) ++ [[(.v (.int .u8 (b_3.toNat : Int))), (pS (y_1.extract ((w64 (v_2 + (1 : Int)))).toNat y_1.size))]]) = ((v_3 ++ [(FlagD.mk (b_3.toNat : Int) (y_1.extract ((w64 (v_2 + (1 : Int)))).toNat y_1.size))]).map FlagD.c))).trans (by kernel_rfl : ref03Parse_R3 p0 (p1.map cS) ((v_3 ++ [(FlagD.mk (b_3.toNat : Int) (y_1.extract ((w64 (v_2 + (1 : Int)))).toNat y_1.size))]).length) v_1 ((v_3 ++ [(FlagD.mk (b_3.toNat : Int) (y_1.extract ((w64 (v_2 + (1 : Int)))).toNat y_1.size))]).map FlagD.c) = ref03Parse_S3 p0 p1 (v_1, (v_3 ++ [(FlagD.mk (b_3.toNat : Int) (y_1.extract ((w64 (v_2 + (1 : Int)))).toNat y_1.size))]))))))⟩
                  · rcases bif_some q9 with ⟨q19, q9⟩ | ⟨q19, q9⟩
                    · cases q9
                      try dsimp only at h
                      have q11 := run_go (k := (k + 1)) (f := 33) (r0 := 0) (nt := 103) (c := ref03Parse_L10x1) (σ := (ref03Parse_S10x1 p0 p1 y_1 (v_1, v_2, v_3))) (adv [([], 10, 3, .eq (pB true)), ([], 12, 3, .chr b_2), ([], 12, 4, .ret (.tup [(pB r_1), (pB r_2)])), ([], 13, 1, .eq (pB false)), ([], 15, 1, .eq (pB false)), ([], 17, 4, .eq (pB false)), ([], 19, 2, .eq (pI (p1.length : Int))), ([], 19, 3, .eq (pB true))]) (ex := .ret) (by kernel_rfl) (by kernel_rfl) (allC (cg q13) (allC q14 (allC (ref03Known_ok k p0 (b_2.toNat : Int) _ q15) (allC (cg q16) (allC (cg q17) (allC (cg q18) (allC (len_ob (rfl : (p1.map cS) = p1.map cS)) (allC (cg q19) allN))))))))
                      have q12 := q10 _ _ (by intro e; cases e) q11
                      cases h
                    · obtain ⟨b_3, q20, q9⟩ := bnd_some q9
                      obtain ⟨y_2, q21, q9⟩ := bnd_some q9
                      obtain ⟨q22, q9⟩ := grd_some q9
                      cases q9
            · cases q9
              try dsimp only at h
              have q11 := run_go (k := (k + 1)) (f := 33) (r0 := 0) (nt := 103) (c := ref03Parse_L10x1) (σ := (ref03Parse_S10x1 p0 p1 y_1 (v_1, v_2, v_3))) (adv [([], 10, 3, .eq (pB false))]) (ex := (.exit 2)) (by kernel_rfl) (by kernel_rfl) (allC (cg q13) allN)
              have q12 := q10 _ _ (by intro e; cases e) q11
              obtain rfl := Sum.inl.inj (Option.some.inj h)
              exact ⟨_, run_go (k := (k + 1)) (f := 33) (r0 := 0) (nt := 103) (c := ref03Parse_L3) (σ := (ref03Parse_S3 p0 p1 (v0, v1))) (adv [([], 3, 2, .eq (pI (p1.length : Int))), ([], 3, 3, .eq (pB true)), ([], 4, 2, .elem [(pS y_1)]), ([], 5, 1, .eq (pB false)), ([], 7, 2, .eq (pB false)), ([], 7, 6, .eq (pB false)), ([], 7, 8, .chr b_1), ([], 7, 10, .eq (pB false))] [([], 10, (.exit 2), (stOf (go (k + 1) 33 0 103 (adv [([], 10, 3, .eq (pB false))]) ref03Parse_L10x1 (ref03Parse_S10x1 p0 p1 y_1 (v_1, v_2, v_3)))))]) (ex := .normal) (by kernel_rfl) (by kernel_rfl) (allC (len_ob (rfl : (p1.map cS) = p1.map cS)) (allC (cg q1) (allC (gt_list (c := cS) q2) (allC (cg q3) (allC (cg q4) (allC (cg q5) (allC q6 (allC (cg q7) (allC q12 allN))))))))), (by kernel_rfl)⟩
  · cases h
def ref03Parse (spec : ByteArray) (argv : (List ByteArray)) : Option ((List FlagD) × (List ByteArray) × Int) :=
 (iterN (ref03Parse_b3 spec argv) LF ((0 : Int), ([] : (List FlagD)))).bind fun X_1 => match X_1 with
 | .inl (v_1, v_2, y_1) => (
 grd (0 ≤ (w64 (v_1 + (1 : Int))) ∧ (w64 (v_1 + (1 : Int))) ≤ (argv.length : Int) ∧ (argv.length : Int) ≤ (argv.length : Int)) <|
 grd (room (([] : (List ByteArray)).length + (argv.drop (((w64 (v_1 + (1 : Int)))).toNat)).length) 16) <|
 some (v_2, (([] : (List ByteArray)) ++ (argv.drop (((w64 (v_1 + (1 : Int)))).toNat))), (0 : Int))
 )
 | .inr (.inl (v_1, v_2, y_1)) => (
 grd (0 ≤ v_1 ∧ v_1 ≤ (argv.length : Int) ∧ (argv.length : Int) ≤ (argv.length : Int)) <|
 grd (room (([] : (List ByteArray)).length + (argv.drop ((v_1).toNat)).length) 16) <|
 some (v_2, (([] : (List ByteArray)) ++ (argv.drop ((v_1).toNat))), (0 : Int))
 )
 | .inr (.inr (.inl (v_1, v_2, y_1))) => (
 grd (0 ≤ v_1 ∧ v_1 ≤ (argv.length : Int) ∧ (argv.length : Int) ≤ (argv.length : Int)) <|
 grd (room (([] : (List ByteArray)).length + (argv.drop ((v_1).toNat)).length) 16) <|
 some (v_2, (([] : (List ByteArray)) ++ (argv.drop ((v_1).toNat))), (0 : Int))
 )
 | .inr (.inr (.inr (.inl (v_1, v_2, y_1, b_1)))) => (
 grd (0 ≤ v_1 ∧ v_1 ≤ (argv.length : Int) ∧ (argv.length : Int) ≤ (argv.length : Int)) <|
 grd (room (([] : (List ByteArray)).length + (argv.drop ((v_1).toNat)).length) 16) <|
 some (v_2, (([] : (List ByteArray)) ++ (argv.drop ((v_1).toNat))), (0 : Int))
 )
 | .inr (.inr (.inr (.inr (.inl (v_1, v_2, y_1, b_1, v_3, v_4, v_5, b_2, r_1, r_2))))) => (
 some ([], [], (30 : Int))
 )
 | .inr (.inr (.inr (.inr (.inr (.inl (v_1, v_2, y_1, b_1, v_3, v_4, v_5, b_2, r_1, r_2)))))) => (
 some ([], [], (31 : Int))
 )
 | .inr (.inr (.inr (.inr (.inr (.inr ((v_1, v_2))))))) => (
 grd (0 ≤ v_1 ∧ v_1 ≤ (argv.length : Int) ∧ (argv.length : Int) ≤ (argv.length : Int)) <|
 grd (room (([] : (List ByteArray)).length + (argv.drop ((v_1).toNat)).length) 16) <|
 some (v_2, (([] : (List ByteArray)) ++ (argv.drop ((v_1).toNat))), (0 : Int))
 )
set_option maxRecDepth 100000 in
theorem ref03Parse_ok (k : Nat) (spec : ByteArray) (argv : (List ByteArray)) (r : ((List FlagD) × (List ByteArray) × Int)) (h : ref03Parse spec argv = some r) : run0 (k + 2) 33 [(pS spec), (.list 1 false (argv.map cS))] = some (.tup [(.list 2 false (r.1.map FlagD.c)), (.list 1 false (r.2.1.map cS)), (pI r.2.2)]) := by
  unfold ref03Parse at h
  obtain ⟨X_1, q1, h⟩ := bnd_some h
  obtain ⟨a_1, q2, q3⟩ := loop_iter (f := run1 (k + 1) 33 0 103 ref03Parse_L3) (ref03Parse_S3 spec argv) (ref03Parse_b3 spec argv) (ref03Parse_t3 k spec argv) LF ((0 : Int), ([] : (List FlagD))) _ (stOf (goStop (k + 1) 33 0 103 (adv []) 3 (codeOf Tryz.f33) (argS 33 [(pS spec), (.list 1 false (argv.map cS))]))) q1 (Eq.trans (b := some (ref03Parse_R3 spec (argv.map cS) 0 (0 : Int) [])) (by kernel_rfl) (congrArg some ((ref03Parse_R3_eq (rfl : spec = spec) (rfl : (argv.map cS) = (argv.map cS)) (rfl : 0 = (([] : (List FlagD)).length)) (rfl : (0 : Int) = (0 : Int)) (rfl : [] = (([] : (List FlagD)).map FlagD.c))).trans (by kernel_rfl : ref03Parse_R3 spec (argv.map cS) (([] : (List FlagD)).length) (0 : Int) (([] : (List FlagD)).map FlagD.c) = ref03Parse_S3 spec argv ((0 : Int), ([] : (List FlagD)))))))
  obtain ⟨v_1, v_2⟩ := a_1
  unfold ref03Parse_b3 at q2
  try dsimp only at q2
  rcases bif_some q2 with ⟨q6, q2⟩ | ⟨q6, q2⟩
  · obtain ⟨y_1, q7, q2⟩ := bnd_some q2
    rcases bif_some q2 with ⟨q8, q2⟩ | ⟨q8, q2⟩
    · cases q2
      try dsimp only at h
      have q4 := run_go (k := (k + 1)) (f := 33) (r0 := 0) (nt := 103) (c := ref03Parse_L3) (σ := (ref03Parse_S3 spec argv (v_1, v_2))) (adv [([], 3, 2, .eq (pI (argv.length : Int))), ([], 3, 3, .eq (pB true)), ([], 4, 2, .elem [(pS y_1)]), ([], 5, 1, .eq (pB true))]) (ex := (.exit 0)) (by kernel_rfl) (by kernel_rfl) (allC (len_ob (rfl : (argv.map cS) = argv.map cS)) (allC (cg q6) (allC (gt_list (c := cS) q7) (allC (cg q8) allN))))
      have q5 := q3 _ _ (by intro e; cases e) q4
      obtain ⟨q28, h⟩ := grd_some h
      obtain ⟨q29, h⟩ := grd_some h
      obtain rfl := Option.some.inj h
      exact (ret_go (k := (k + 1)) Tryz.func33 Tryz.ntmps33 (by kernel_rfl) (by kernel_rfl) (lb rfl) (adv [([], 23, 4, .sub false), ([], 23, 5, .ok)] [([], 3, (.exit 0), (stOf (go (k + 1) 33 0 103 (adv [([], 3, 2, .eq (pI (argv.length : Int))), ([], 3, 3, .eq (pB true)), ([], 4, 2, .elem [(pS y_1)]), ([], 5, 1, .eq (pB true))]) ref03Parse_L3 (ref03Parse_S3 spec argv (v_1, v_2)))))]) (ex := .ret) (r := (.tup [(.list 2 false (v_2.map FlagD.c)), (.list 1 false ([] ++ (((argv.map cS).drop (((w64 (v_1 + (1 : Int)))).toNat)).take ((argv.map cS).length - ((w64 (v_1 + (1 : Int)))).toNat)))), (pI (0 : Int))])) (by kernel_rfl) rfl (by kernel_rfl) (allC q5 (allC (sub_ok1 (c := cS) q28) (allC (app_ok2 (rfl : [] = ([] : (List ByteArray)).map cS) (rfl : 0 = ([] : (List ByteArray)).length) ((enc_drop rfl (((w64 (v_1 + (1 : Int)))).toNat)) : (((argv.map cS).drop (((w64 (v_1 + (1 : Int)))).toNat)).take ((argv.map cS).length - ((w64 (v_1 + (1 : Int)))).toNat)) = (argv.drop (((w64 (v_1 + (1 : Int)))).toNat)).map cS) q29) allN))) (by kernel_rfl) (allC (row_ok (rfl : (v_2.map FlagD.c) = v_2.map FlagD.c) (rfl : v_2.length = v_2.length)) (allC (row_ok ((enc_cat (rfl : [] = ([] : (List ByteArray)).map cS) ((enc_drop rfl (((w64 (v_1 + (1 : Int)))).toNat)) : (((argv.map cS).drop (((w64 (v_1 + (1 : Int)))).toNat)).take ((argv.map cS).length - ((w64 (v_1 + (1 : Int)))).toNat)) = (argv.drop (((w64 (v_1 + (1 : Int)))).toNat)).map cS)) : ([] ++ (((argv.map cS).drop (((w64 (v_1 + (1 : Int)))).toNat)).take ((argv.map cS).length - ((w64 (v_1 + (1 : Int)))).toNat))) = (([] : (List ByteArray)) ++ (argv.drop (((w64 (v_1 + (1 : Int)))).toNat))).map cS) ((len_cat (rfl : 0 = ([] : (List ByteArray)).length) ([] : (List ByteArray)) (enc_len ((enc_drop rfl (((w64 (v_1 + (1 : Int)))).toNat)) : (((argv.map cS).drop (((w64 (v_1 + (1 : Int)))).toNat)).take ((argv.map cS).length - ((w64 (v_1 + (1 : Int)))).toNat)) = (argv.drop (((w64 (v_1 + (1 : Int)))).toNat)).map cS))) : (0 + (((argv.map cS).drop (((w64 (v_1 + (1 : Int)))).toNat)).take ((argv.map cS).length - ((w64 (v_1 + (1 : Int)))).toNat)).length) = (([] : (List ByteArray)) ++ (argv.drop (((w64 (v_1 + (1 : Int)))).toNat))).length)) allN))).trans (congrArg some (by rw [(show ([] ++ (((argv.map cS).drop (((w64 (v_1 + (1 : Int)))).toNat)).take ((argv.map cS).length - ((w64 (v_1 + (1 : Int)))).toNat))) = ((([] : (List ByteArray)) ++ (argv.drop (((w64 (v_1 + (1 : Int)))).toNat))).map cS) from (enc_cat (rfl : [] = ([] : (List ByteArray)).map cS) ((enc_drop rfl (((w64 (v_1 + (1 : Int)))).toNat)) : (((argv.map cS).drop (((w64 (v_1 + (1 : Int)))).toNat)).take ((argv.map cS).length - ((w64 (v_1 + (1 : Int)))).toNat)) = (argv.drop (((w64 (v_1 + (1 : Int)))).toNat)).map cS)))] <;> rfl))
    · rcases bif_some q2 with ⟨q9, q2⟩ | ⟨q9, q2⟩
      · cases q2
        try dsimp only at h
        have q4 := run_go (k := (k + 1)) (f := 33) (r0 := 0) (nt := 103) (c := ref03Parse_L3) (σ := (ref03Parse_S3 spec argv (v_1, v_2))) (adv [([], 3, 2, .eq (pI (argv.length : Int))), ([], 3, 3, .eq (pB true)), ([], 4, 2, .elem [(pS y_1)]), ([], 5, 1, .eq (pB false)), ([], 7, 2, .eq (pB true))]) (ex := (.exit 0)) (by kernel_rfl) (by kernel_rfl) (allC (len_ob (rfl : (argv.map cS) = argv.map cS)) (allC (cg q6) (allC (gt_list (c := cS) q7) (allC (cg q8) (allC (cg q9) allN)))))
        have q5 := q3 _ _ (by intro e; cases e) q4
        obtain ⟨q28, h⟩ := grd_some h
        obtain ⟨q29, h⟩ := grd_some h
        obtain rfl := Option.some.inj h
        exact (ret_go (k := (k + 1)) Tryz.func33 Tryz.ntmps33 (by kernel_rfl) (by kernel_rfl) (lb rfl) (adv [([], 23, 4, .sub false), ([], 23, 5, .ok)] [([], 3, (.exit 0), (stOf (go (k + 1) 33 0 103 (adv [([], 3, 2, .eq (pI (argv.length : Int))), ([], 3, 3, .eq (pB true)), ([], 4, 2, .elem [(pS y_1)]), ([], 5, 1, .eq (pB false)), ([], 7, 2, .eq (pB true))]) ref03Parse_L3 (ref03Parse_S3 spec argv (v_1, v_2)))))]) (ex := .ret) (r := (.tup [(.list 2 false (v_2.map FlagD.c)), (.list 1 false ([] ++ (((argv.map cS).drop ((v_1).toNat)).take ((argv.map cS).length - (v_1).toNat)))), (pI (0 : Int))])) (by kernel_rfl) rfl (by kernel_rfl) (allC q5 (allC (sub_ok1 (c := cS) q28) (allC (app_ok2 (rfl : [] = ([] : (List ByteArray)).map cS) (rfl : 0 = ([] : (List ByteArray)).length) ((enc_drop rfl ((v_1).toNat)) : (((argv.map cS).drop ((v_1).toNat)).take ((argv.map cS).length - (v_1).toNat)) = (argv.drop ((v_1).toNat)).map cS) q29) allN))) (by kernel_rfl) (allC (row_ok (rfl : (v_2.map FlagD.c) = v_2.map FlagD.c) (rfl : v_2.length = v_2.length)) (allC (row_ok ((enc_cat (rfl : [] = ([] : (List ByteArray)).map cS) ((enc_drop rfl ((v_1).toNat)) : (((argv.map cS).drop ((v_1).toNat)).take ((argv.map cS).length - (v_1).toNat)) = (argv.drop ((v_1).toNat)).map cS)) : ([] ++ (((argv.map cS).drop ((v_1).toNat)).take ((argv.map cS).length - (v_1).toNat))) = (([] : (List ByteArray)) ++ (argv.drop ((v_1).toNat))).map cS) ((len_cat (rfl : 0 = ([] : (List ByteArray)).length) ([] : (List ByteArray)) (enc_len ((enc_drop rfl ((v_1).toNat)) : (((argv.map cS).drop ((v_1).toNat)).take ((argv.map cS).length - (v_1).toNat)) = (argv.drop ((v_1).toNat)).map cS))) : (0 + (((argv.map cS).drop ((v_1).toNat)).take ((argv.map cS).length - (v_1).toNat)).length) = (([] : (List ByteArray)) ++ (argv.drop ((v_1).toNat))).length)) allN))).trans (congrArg some (by rw [(show ([] ++ (((argv.map cS).drop ((v_1).toNat)).take ((argv.map cS).length - (v_1).toNat))) = ((([] : (List ByteArray)) ++ (argv.drop ((v_1).toNat))).map cS) from (enc_cat (rfl : [] = ([] : (List ByteArray)).map cS) ((enc_drop rfl ((v_1).toNat)) : (((argv.map cS).drop ((v_1).toNat)).take ((argv.map cS).length - (v_1).toNat)) = (argv.drop ((v_1).toNat)).map cS)))] <;> rfl))
      · rcases bif_some q2 with ⟨q10, q2⟩ | ⟨q10, q2⟩
        · cases q2
          try dsimp only at h
          have q4 := run_go (k := (k + 1)) (f := 33) (r0 := 0) (nt := 103) (c := ref03Parse_L3) (σ := (ref03Parse_S3 spec argv (v_1, v_2))) (adv [([], 3, 2, .eq (pI (argv.length : Int))), ([], 3, 3, .eq (pB true)), ([], 4, 2, .elem [(pS y_1)]), ([], 5, 1, .eq (pB false)), ([], 7, 2, .eq (pB false)), ([], 7, 6, .eq (pB true))]) (ex := (.exit 0)) (by kernel_rfl) (by kernel_rfl) (allC (len_ob (rfl : (argv.map cS) = argv.map cS)) (allC (cg q6) (allC (gt_list (c := cS) q7) (allC (cg q8) (allC (cg q9) (allC (cg q10) allN))))))
          have q5 := q3 _ _ (by intro e; cases e) q4
          obtain ⟨q28, h⟩ := grd_some h
          obtain ⟨q29, h⟩ := grd_some h
          obtain rfl := Option.some.inj h
          exact (ret_go (k := (k + 1)) Tryz.func33 Tryz.ntmps33 (by kernel_rfl) (by kernel_rfl) (lb rfl) (adv [([], 23, 4, .sub false), ([], 23, 5, .ok)] [([], 3, (.exit 0), (stOf (go (k + 1) 33 0 103 (adv [([], 3, 2, .eq (pI (argv.length : Int))), ([], 3, 3, .eq (pB true)), ([], 4, 2, .elem [(pS y_1)]), ([], 5, 1, .eq (pB false)), ([], 7, 2, .eq (pB false)), ([], 7, 6, .eq (pB true))]) ref03Parse_L3 (ref03Parse_S3 spec argv (v_1, v_2)))))]) (ex := .ret) (r := (.tup [(.list 2 false (v_2.map FlagD.c)), (.list 1 false ([] ++ (((argv.map cS).drop ((v_1).toNat)).take ((argv.map cS).length - (v_1).toNat)))), (pI (0 : Int))])) (by kernel_rfl) rfl (by kernel_rfl) (allC q5 (allC (sub_ok1 (c := cS) q28) (allC (app_ok2 (rfl : [] = ([] : (List ByteArray)).map cS) (rfl : 0 = ([] : (List ByteArray)).length) ((enc_drop rfl ((v_1).toNat)) : (((argv.map cS).drop ((v_1).toNat)).take ((argv.map cS).length - (v_1).toNat)) = (argv.drop ((v_1).toNat)).map cS) q29) allN))) (by kernel_rfl) (allC (row_ok (rfl : (v_2.map FlagD.c) = v_2.map FlagD.c) (rfl : v_2.length = v_2.length)) (allC (row_ok ((enc_cat (rfl : [] = ([] : (List ByteArray)).map cS) ((enc_drop rfl ((v_1).toNat)) : (((argv.map cS).drop ((v_1).toNat)).take ((argv.map cS).length - (v_1).toNat)) = (argv.drop ((v_1).toNat)).map cS)) : ([] ++ (((argv.map cS).drop ((v_1).toNat)).take ((argv.map cS).length - (v_1).toNat))) = (([] : (List ByteArray)) ++ (argv.drop ((v_1).toNat))).map cS) ((len_cat (rfl : 0 = ([] : (List ByteArray)).length) ([] : (List ByteArray)) (enc_len ((enc_drop rfl ((v_1).toNat)) : (((argv.map cS).drop ((v_1).toNat)).take ((argv.map cS).length - (v_1).toNat)) = (argv.drop ((v_1).toNat)).map cS))) : (0 + (((argv.map cS).drop ((v_1).toNat)).take ((argv.map cS).length - (v_1).toNat)).length) = (([] : (List ByteArray)) ++ (argv.drop ((v_1).toNat))).length)) allN))).trans (congrArg some (by rw [(show ([] ++ (((argv.map cS).drop ((v_1).toNat)).take ((argv.map cS).length - (v_1).toNat))) = ((([] : (List ByteArray)) ++ (argv.drop ((v_1).toNat))).map cS) from (enc_cat (rfl : [] = ([] : (List ByteArray)).map cS) ((enc_drop rfl ((v_1).toNat)) : (((argv.map cS).drop ((v_1).toNat)).take ((argv.map cS).length - (v_1).toNat)) = (argv.drop ((v_1).toNat)).map cS)))] <;> rfl))
        · obtain ⟨b_1, q11, q2⟩ := bnd_some q2
          rcases bif_some q2 with ⟨q12, q2⟩ | ⟨q12, q2⟩
          · cases q2
            try dsimp only at h
            have q4 := run_go (k := (k + 1)) (f := 33) (r0 := 0) (nt := 103) (c := ref03Parse_L3) (σ := (ref03Parse_S3 spec argv (v_1, v_2))) (adv [([], 3, 2, .eq (pI (argv.length : Int))), ([], 3, 3, .eq (pB true)), ([], 4, 2, .elem [(pS y_1)]), ([], 5, 1, .eq (pB false)), ([], 7, 2, .eq (pB false)), ([], 7, 6, .eq (pB false)), ([], 7, 8, .chr b_1), ([], 7, 10, .eq (pB true))]) (ex := (.exit 0)) (by kernel_rfl) (by kernel_rfl) (allC (len_ob (rfl : (argv.map cS) = argv.map cS)) (allC (cg q6) (allC (gt_list (c := cS) q7) (allC (cg q8) (allC (cg q9) (allC (cg q10) (allC q11 (allC (cg q12) allN))))))))
            have q5 := q3 _ _ (by intro e; cases e) q4
            obtain ⟨q28, h⟩ := grd_some h
            obtain ⟨q29, h⟩ := grd_some h
            obtain rfl := Option.some.inj h
            exact (ret_go (k := (k + 1)) Tryz.func33 Tryz.ntmps33 (by kernel_rfl) (by kernel_rfl) (lb rfl) (adv [([], 23, 4, .sub false), ([], 23, 5, .ok)] [([], 3, (.exit 0), (stOf (go (k + 1) 33 0 103 (adv [([], 3, 2, .eq (pI (argv.length : Int))), ([], 3, 3, .eq (pB true)), ([], 4, 2, .elem [(pS y_1)]), ([], 5, 1, .eq (pB false)), ([], 7, 2, .eq (pB false)), ([], 7, 6, .eq (pB false)), ([], 7, 8, .chr b_1), ([], 7, 10, .eq (pB true))]) ref03Parse_L3 (ref03Parse_S3 spec argv (v_1, v_2)))))]) (ex := .ret) (r := (.tup [(.list 2 false (v_2.map FlagD.c)), (.list 1 false ([] ++ (((argv.map cS).drop ((v_1).toNat)).take ((argv.map cS).length - (v_1).toNat)))), (pI (0 : Int))])) (by kernel_rfl) rfl (by kernel_rfl) (allC q5 (allC (sub_ok1 (c := cS) q28) (allC (app_ok2 (rfl : [] = ([] : (List ByteArray)).map cS) (rfl : 0 = ([] : (List ByteArray)).length) ((enc_drop rfl ((v_1).toNat)) : (((argv.map cS).drop ((v_1).toNat)).take ((argv.map cS).length - (v_1).toNat)) = (argv.drop ((v_1).toNat)).map cS) q29) allN))) (by kernel_rfl) (allC (row_ok (rfl : (v_2.map FlagD.c) = v_2.map FlagD.c) (rfl : v_2.length = v_2.length)) (allC (row_ok ((enc_cat (rfl : [] = ([] : (List ByteArray)).map cS) ((enc_drop rfl ((v_1).toNat)) : (((argv.map cS).drop ((v_1).toNat)).take ((argv.map cS).length - (v_1).toNat)) = (argv.drop ((v_1).toNat)).map cS)) : ([] ++ (((argv.map cS).drop ((v_1).toNat)).take ((argv.map cS).length - (v_1).toNat))) = (([] : (List ByteArray)) ++ (argv.drop ((v_1).toNat))).map cS) ((len_cat (rfl : 0 = ([] : (List ByteArray)).length) ([] : (List ByteArray)) (enc_len ((enc_drop rfl ((v_1).toNat)) : (((argv.map cS).drop ((v_1).toNat)).take ((argv.map cS).length - (v_1).toNat)) = (argv.drop ((v_1).toNat)).map cS))) : (0 + (((argv.map cS).drop ((v_1).toNat)).take ((argv.map cS).length - (v_1).toNat)).length) = (([] : (List ByteArray)) ++ (argv.drop ((v_1).toNat))).length)) allN))).trans (congrArg some (by rw [(show ([] ++ (((argv.map cS).drop ((v_1).toNat)).take ((argv.map cS).length - (v_1).toNat))) = ((([] : (List ByteArray)) ++ (argv.drop ((v_1).toNat))).map cS) from (enc_cat (rfl : [] = ([] : (List ByteArray)).map cS) ((enc_drop rfl ((v_1).toNat)) : (((argv.map cS).drop ((v_1).toNat)).take ((argv.map cS).length - (v_1).toNat)) = (argv.drop ((v_1).toNat)).map cS)))] <;> rfl))
          · obtain ⟨X_2, q13, q2⟩ := bnd_some q2
            obtain ⟨a_2, q14, q15⟩ := loop_iter (f := run1 (k + 1) 33 0 103 ref03Parse_L10x1) (ref03Parse_S10x1 spec argv y_1) (ref03Parse_b10x1 spec argv y_1) (ref03Parse_t10x1 k spec argv y_1) LF ((w64 (v_1 + (1 : Int))), (1 : Int), v_2) _ (stOf (goStop (k + 1) 33 0 103 (adv [([], 3, 2, .eq (pI (argv.length : Int))), ([], 3, 3, .eq (pB true)), ([], 4, 2, .elem [(pS y_1)]), ([], 5, 1, .eq (pB false)), ([], 7, 2, .eq (pB false)), ([], 7, 6, .eq (pB false)), ([], 7, 8, .chr b_1), ([], 7, 10, .eq (pB false))]) 10 (ref03Parse_L3) (ref03Parse_S3 spec argv (v_1, v_2)))) q13 (by kernel_rfl)
            obtain ⟨v_3, v_4, v_5⟩ := a_2
            unfold ref03Parse_b10x1 at q14
            try dsimp only at q14
            rcases bif_some q14 with ⟨q18, q14⟩ | ⟨q18, q14⟩
            · obtain ⟨b_2, q19, q14⟩ := bnd_some q14
              obtain ⟨⟨r_1, r_2⟩, q20, q14⟩ := bnd_some q14
              try dsimp only at q14
              rcases bif_some q14 with ⟨q21, q14⟩ | ⟨q21, q14⟩
              · cases q14
                try dsimp only at q2
                have q16 := run_go (k := (k + 1)) (f := 33) (r0 := 0) (nt := 103) (c := ref03Parse_L10x1) (σ := (ref03Parse_S10x1 spec argv y_1 (v_3, v_4, v_5))) (adv [([], 10, 3, .eq (pB true)), ([], 12, 3, .chr b_2), ([], 12, 4, .ret (.tup [(pB r_1), (pB r_2)])), ([], 13, 1, .eq (pB true))]) (ex := .ret) (by kernel_rfl) (by kernel_rfl) (allC (cg q18) (allC q19 (allC (ref03Known_ok k spec (b_2.toNat : Int) _ q20) (allC (cg q21) allN))))
                have q17 := q15 _ _ (by intro e; cases e) q16
                cases q2
                try dsimp only at h
                have q4 := run_go (k := (k + 1)) (f := 33) (r0 := 0) (nt := 103) (c := ref03Parse_L3) (σ := (ref03Parse_S3 spec argv (v_1, v_2))) (adv [([], 3, 2, .eq (pI (argv.length : Int))), ([], 3, 3, .eq (pB true)), ([], 4, 2, .elem [(pS y_1)]), ([], 5, 1, .eq (pB false)), ([], 7, 2, .eq (pB false)), ([], 7, 6, .eq (pB false)), ([], 7, 8, .chr b_1), ([], 7, 10, .eq (pB false))] [([], 10, .ret, (stOf (go (k + 1) 33 0 103 (adv [([], 10, 3, .eq (pB true)), ([], 12, 3, .chr b_2), ([], 12, 4, .ret (.tup [(pB r_1), (pB r_2)])), ([], 13, 1, .eq (pB true))]) ref03Parse_L10x1 (ref03Parse_S10x1 spec argv y_1 (v_3, v_4, v_5)))))]) (ex := .ret) (by kernel_rfl) (by kernel_rfl) (allC (len_ob (rfl : (argv.map cS) = argv.map cS)) (allC (cg q6) (allC (gt_list (c := cS) q7) (allC (cg q8) (allC (cg q9) (allC (cg q10) (allC q11 (allC (cg q12) (allC q17 allN)))))))))
                have q5 := q3 _ _ (by intro e; cases e) q4
                obtain rfl := Option.some.inj h
                exact ret_go (k := (k + 1)) Tryz.func33 Tryz.ntmps33 (by kernel_rfl) (by kernel_rfl) (lb rfl) (adv [] [([], 3, .ret, (stOf (go (k + 1) 33 0 103 (adv [([], 3, 2, .eq (pI (argv.length : Int))), ([], 3, 3, .eq (pB true)), ([], 4, 2, .elem [(pS y_1)]), ([], 5, 1, .eq (pB false)), ([], 7, 2, .eq (pB false)), ([], 7, 6, .eq (pB false)), ([], 7, 8, .chr b_1), ([], 7, 10, .eq (pB false))] [([], 10, .ret, (stOf (go (k + 1) 33 0 103 (adv [([], 10, 3, .eq (pB true)), ([], 12, 3, .chr b_2), ([], 12, 4, .ret (.tup [(pB r_1), (pB r_2)])), ([], 13, 1, .eq (pB true))]) ref03Parse_L10x1 (ref03Parse_S10x1 spec argv y_1 (v_3, v_4, v_5)))))]) ref03Parse_L3 (ref03Parse_S3 spec argv (v_1, v_2)))))]) (ex := .ret) (r := (.tup [(.list 2 false []), (.list 1 false []), (pI (30 : Int))])) (by kernel_rfl) rfl (by kernel_rfl) (allC q5 allN) (by kernel_rfl) allN
              · rcases bif_some q14 with ⟨q22, q14⟩ | ⟨q22, q14⟩
                · obtain ⟨b_3, q23, q14⟩ := bnd_some q14
                  obtain ⟨q24, q14⟩ := grd_some q14
                  cases q14
                · rcases bif_some q14 with ⟨q23, q14⟩ | ⟨q23, q14⟩
                  · obtain ⟨b_3, q24, q14⟩ := bnd_some q14
                    obtain ⟨q25, q14⟩ := grd_some q14
                    obtain ⟨q26, q14⟩ := grd_some q14
                    cases q14
                    try dsimp only at q2
                    have q16 := run_go (k := (k + 1)) (f := 33) (r0 := 0) (nt := 103) (c := ref03Parse_L10x1) (σ := (ref03Parse_S10x1 spec argv y_1 (v_3, v_4, v_5))) (adv [([], 10, 3, .eq (pB true)), ([], 12, 3, .chr b_2), ([], 12, 4, .ret (.tup [(pB r_1), (pB r_2)])), ([], 13, 1, .eq (pB false)), ([], 15, 1, .eq (pB false)), ([], 17, 4, .eq (pB true)), ([], 18, 3, .chr b_3), ([], 18, 7, .sub false), ([], 18, 10, .ok)]) (ex := (.exit 2)) (by kernel_rfl) (by kernel_rfl) (allC (cg q18) (allC q19 (allC (ref03Known_ok k spec (b_2.toNat : Int) _ q20) (allC (cg q21) (allC (cg q22) (allC (cg q23) (allC q24 (allC q25 (allC (app_ok (rfl : (v_5.map FlagD.c) = v_5.map FlagD.c) (rfl : v_5.length = v_5.length) q26) allN)))))))))
                    have q17 := q15 _ _ (by intro e; cases e) q16
                    cases q2
                  · rcases bif_some q14 with ⟨q24, q14⟩ | ⟨q24, q14⟩
                    · cases q14
                      try dsimp only at q2
                      have q16 := run_go (k := (k + 1)) (f := 33) (r0 := 0) (nt := 103) (c := ref03Parse_L10x1) (σ := (ref03Parse_S10x1 spec argv y_1 (v_3, v_4, v_5))) (adv [([], 10, 3, .eq (pB true)), ([], 12, 3, .chr b_2), ([], 12, 4, .ret (.tup [(pB r_1), (pB r_2)])), ([], 13, 1, .eq (pB false)), ([], 15, 1, .eq (pB false)), ([], 17, 4, .eq (pB false)), ([], 19, 2, .eq (pI (argv.length : Int))), ([], 19, 3, .eq (pB true))]) (ex := .ret) (by kernel_rfl) (by kernel_rfl) (allC (cg q18) (allC q19 (allC (ref03Known_ok k spec (b_2.toNat : Int) _ q20) (allC (cg q21) (allC (cg q22) (allC (cg q23) (allC (len_ob (rfl : (argv.map cS) = argv.map cS)) (allC (cg q24) allN))))))))
                      have q17 := q15 _ _ (by intro e; cases e) q16
                      cases q2
                      try dsimp only at h
                      have q4 := run_go (k := (k + 1)) (f := 33) (r0 := 0) (nt := 103) (c := ref03Parse_L3) (σ := (ref03Parse_S3 spec argv (v_1, v_2))) (adv [([], 3, 2, .eq (pI (argv.length : Int))), ([], 3, 3, .eq (pB true)), ([], 4, 2, .elem [(pS y_1)]), ([], 5, 1, .eq (pB false)), ([], 7, 2, .eq (pB false)), ([], 7, 6, .eq (pB false)), ([], 7, 8, .chr b_1), ([], 7, 10, .eq (pB false))] [([], 10, .ret, (stOf (go (k + 1) 33 0 103 (adv [([], 10, 3, .eq (pB true)), ([], 12, 3, .chr b_2), ([], 12, 4, .ret (.tup [(pB r_1), (pB r_2)])), ([], 13, 1, .eq (pB false)), ([], 15, 1, .eq (pB false)), ([], 17, 4, .eq (pB false)), ([], 19, 2, .eq (pI (argv.length : Int))), ([], 19, 3, .eq (pB true))]) ref03Parse_L10x1 (ref03Parse_S10x1 spec argv y_1 (v_3, v_4, v_5)))))]) (ex := .ret) (by kernel_rfl) (by kernel_rfl) (allC (len_ob (rfl : (argv.map cS) = argv.map cS)) (allC (cg q6) (allC (gt_list (c := cS) q7) (allC (cg q8) (allC (cg q9) (allC (cg q10) (allC q11 (allC (cg q12) (allC q17 allN)))))))))
                      have q5 := q3 _ _ (by intro e; cases e) q4
                      obtain rfl := Option.some.inj h
                      exact ret_go (k := (k + 1)) Tryz.func33 Tryz.ntmps33 (by kernel_rfl) (by kernel_rfl) (lb rfl) (adv [] [([], 3, .ret, (stOf (go (k + 1) 33 0 103 (adv [([], 3, 2, .eq (pI (argv.length : Int))), ([], 3, 3, .eq (pB true)), ([], 4, 2, .elem [(pS y_1)]), ([], 5, 1, .eq (pB false)), ([], 7, 2, .eq (pB false)), ([], 7, 6, .eq (pB false)), ([], 7, 8, .chr b_1), ([], 7, 10, .eq (pB false))] [([], 10, .ret, (stOf (go (k + 1) 33 0 103 (adv [([], 10, 3, .eq (pB true)), ([], 12, 3, .chr b_2), ([], 12, 4, .ret (.tup [(pB r_1), (pB r_2)])), ([], 13, 1, .eq (pB false)), ([], 15, 1, .eq (pB false)), ([], 17, 4, .eq (pB false)), ([], 19, 2, .eq (pI (argv.length : Int))), ([], 19, 3, .eq (pB true))]) ref03Parse_L10x1 (ref03Parse_S10x1 spec argv y_1 (v_3, v_4, v_5)))))]) ref03Parse_L3 (ref03Parse_S3 spec argv (v_1, v_2)))))]) (ex := .ret) (r := (.tup [(.list 2 false []), (.list 1 false []), (pI (31 : Int))])) (by kernel_rfl) rfl (by kernel_rfl) (allC q5 allN) (by kernel_rfl) allN
                    · obtain ⟨b_3, q25, q14⟩ := bnd_some q14
                      obtain ⟨y_2, q26, q14⟩ := bnd_some q14
                      obtain ⟨q27, q14⟩ := grd_some q14
                      cases q14
            · cases q14
              try dsimp only at q2
              have q16 := run_go (k := (k + 1)) (f := 33) (r0 := 0) (nt := 103) (c := ref03Parse_L10x1) (σ := (ref03Parse_S10x1 spec argv y_1 (v_3, v_4, v_5))) (adv [([], 10, 3, .eq (pB false))]) (ex := (.exit 2)) (by kernel_rfl) (by kernel_rfl) (allC (cg q18) allN)
              have q17 := q15 _ _ (by intro e; cases e) q16
              cases q2
  · cases q2
    try dsimp only at h
    have q4 := run_go (k := (k + 1)) (f := 33) (r0 := 0) (nt := 103) (c := ref03Parse_L3) (σ := (ref03Parse_S3 spec argv (v_1, v_2))) (adv [([], 3, 2, .eq (pI (argv.length : Int))), ([], 3, 3, .eq (pB false))]) (ex := (.exit 0)) (by kernel_rfl) (by kernel_rfl) (allC (len_ob (rfl : (argv.map cS) = argv.map cS)) (allC (cg q6) allN))
    have q5 := q3 _ _ (by intro e; cases e) q4
    obtain ⟨q28, h⟩ := grd_some h
    obtain ⟨q29, h⟩ := grd_some h
    obtain rfl := Option.some.inj h
    exact (ret_go (k := (k + 1)) Tryz.func33 Tryz.ntmps33 (by kernel_rfl) (by kernel_rfl) (lb rfl) (adv [([], 23, 4, .sub false), ([], 23, 5, .ok)] [([], 3, (.exit 0), (stOf (go (k + 1) 33 0 103 (adv [([], 3, 2, .eq (pI (argv.length : Int))), ([], 3, 3, .eq (pB false))]) ref03Parse_L3 (ref03Parse_S3 spec argv (v_1, v_2)))))]) (ex := .ret) (r := (.tup [(.list 2 false (v_2.map FlagD.c)), (.list 1 false ([] ++ (((argv.map cS).drop ((v_1).toNat)).take ((argv.map cS).length - (v_1).toNat)))), (pI (0 : Int))])) (by kernel_rfl) rfl (by kernel_rfl) (allC q5 (allC (sub_ok1 (c := cS) q28) (allC (app_ok2 (rfl : [] = ([] : (List ByteArray)).map cS) (rfl : 0 = ([] : (List ByteArray)).length) ((enc_drop rfl ((v_1).toNat)) : (((argv.map cS).drop ((v_1).toNat)).take ((argv.map cS).length - (v_1).toNat)) = (argv.drop ((v_1).toNat)).map cS) q29) allN))) (by kernel_rfl) (allC (row_ok (rfl : (v_2.map FlagD.c) = v_2.map FlagD.c) (rfl : v_2.length = v_2.length)) (allC (row_ok ((enc_cat (rfl : [] = ([] : (List ByteArray)).map cS) ((enc_drop rfl ((v_1).toNat)) : (((argv.map cS).drop ((v_1).toNat)).take ((argv.map cS).length - (v_1).toNat)) = (argv.drop ((v_1).toNat)).map cS)) : ([] ++ (((argv.map cS).drop ((v_1).toNat)).take ((argv.map cS).length - (v_1).toNat))) = (([] : (List ByteArray)) ++ (argv.drop ((v_1).toNat))).map cS) ((len_cat (rfl : 0 = ([] : (List ByteArray)).length) ([] : (List ByteArray)) (enc_len ((enc_drop rfl ((v_1).toNat)) : (((argv.map cS).drop ((v_1).toNat)).take ((argv.map cS).length - (v_1).toNat)) = (argv.drop ((v_1).toNat)).map cS))) : (0 + (((argv.map cS).drop ((v_1).toNat)).take ((argv.map cS).length - (v_1).toNat)).length) = (([] : (List ByteArray)) ++ (argv.drop ((v_1).toNat))).length)) allN))).trans (congrArg some (by rw [(show ([] ++ (((argv.map cS).drop ((v_1).toNat)).take ((argv.map cS).length - (v_1).toNat))) = ((([] : (List ByteArray)) ++ (argv.drop ((v_1).toNat))).map cS) from (enc_cat (rfl : [] = ([] : (List ByteArray)).map cS) ((enc_drop rfl ((v_1).toNat)) : (((argv.map cS).drop ((v_1).toNat)).take ((argv.map cS).length - (v_1).toNat)) = (argv.drop ((v_1).toNat)).map cS)))] <;> rfl))
end Go.Proofs.YtdbekeidlppfiaaGreatDoor.Den
namespace Go.Proofs.YtdbekeidlppfiaaGreatDoor.Den
open Go Go.RowKit
noncomputable def ref15Natural_L2 : Code := cAt (codeOf Tryz.f123) [true, true, false, false]
def ref15Natural_R2 (x0 : Int) (x1 : ByteArray) : St := ⟨envL [(0, (.v (.int .u64 x0))), (3, (pS x1))], hsL [] []⟩
def ref15Natural_S2 : (Int × ByteArray) → St
 | (v0, v1) => ref15Natural_R2 v0 v1
def ref15Natural_b2 : (Int × ByteArray) → Option ((Int × ByteArray) ⊕ (Int × ByteArray))
 | (v0, v1) =>
 grd (0 ≤ (Int.tmod v0 (10 : Int)) ∧ (Int.tmod v0 (10 : Int)) ≤ (IntKind.wrap .u64 ((Int.tmod v0 (10 : Int)) + (1 : Int))) ∧ (IntKind.wrap .u64 ((Int.tmod v0 (10 : Int)) + (1 : Int))) ≤ ((bs [48, 49, 50, 51, 52, 53, 54, 55, 56, 57]).size : Int)) <|
 grd (¬ (((((bs [48, 49, 50, 51, 52, 53, 54, 55, 56, 57]).extract ((Int.tmod v0 (10 : Int))).toNat ((IntKind.wrap .u64 ((Int.tmod v0 (10 : Int)) + (1 : Int)))).toNat).size + v1.size : Nat) : Int) > IntKind.i64.max)) <|
 bif ((IntKind.wrap .u64 (Int.tdiv v0 (10 : Int))) == (0 : Int)) then (
 some (.inr (v0, v1))
 ) else (
 some (.inl ((IntKind.wrap .u64 (Int.tdiv v0 (10 : Int))), (((bs [48, 49, 50, 51, 52, 53, 54, 55, 56, 57]).extract ((Int.tmod v0 (10 : Int))).toNat ((IntKind.wrap .u64 ((Int.tmod v0 (10 : Int)) + (1 : Int)))).toNat) ++ v1)))
 )
set_option maxRecDepth 100000 in
theorem ref15Natural_t2 (k : Nat) (a a1 : (Int × ByteArray)) (h : ref15Natural_b2 a = some (.inl a1)) : ∃ σ, run1 k 123 0 17 ref15Natural_L2 (ref15Natural_S2 a) = some (.normal, σ) ∧ canonS 0 [0, 3] σ = some (ref15Natural_S2 a1) := by
  obtain ⟨v0, v1⟩ := a
  unfold ref15Natural_b2 at h
  try dsimp only at h
  obtain ⟨q1, h⟩ := grd_some h
  obtain ⟨q2, h⟩ := grd_some h
  rcases bif_some h with ⟨q3, h⟩ | ⟨q3, h⟩
  · cases h
  · obtain rfl := Sum.inl.inj (Option.some.inj h)
    exact ⟨_, run_go (k := k) (f := 123) (r0 := 0) (nt := 17) (c := ref15Natural_L2) (σ := (ref15Natural_S2 (v0, v1))) (adv [([], 2, 5, .sub false), ([], 2, 7, .cat), ([], 4, 1, .eq (pB false))]) (ex := .normal) (by kernel_rfl) (by kernel_rfl) (allC q1 (allC q2 (allC (cg q3) allN))), (by kernel_rfl)⟩
def ref15Natural (n : Int) : Option ByteArray :=
 (iterN (ref15Natural_b2) LF (n, (bs []))).bind fun (v_1, v_2) =>
 some (((bs [48, 49, 50, 51, 52, 53, 54, 55, 56, 57]).extract ((Int.tmod v_1 (10 : Int))).toNat ((IntKind.wrap .u64 ((Int.tmod v_1 (10 : Int)) + (1 : Int)))).toNat) ++ v_2)
set_option maxRecDepth 100000 in
theorem ref15Natural_ok (k : Nat) (n : Int) (r : ByteArray) (h : ref15Natural n = some r) : run0 (k + 1) 123 [(.v (.int .u64 n))] = some (pS r) := by
  unfold ref15Natural at h
  obtain ⟨X_1, q1, h⟩ := bnd_some h
  obtain ⟨a_1, q2, q3⟩ := loop_iter (f := run1 k 123 0 17 ref15Natural_L2) (ref15Natural_S2) (ref15Natural_b2) (ref15Natural_t2 k) LF (n, (bs [])) _ (stOf (goStop k 123 0 17 (adv []) 2 (codeOf Tryz.f123) (argS 123 [(.v (.int .u64 n))]))) q1 (by kernel_rfl)
  obtain ⟨v_1, v_2⟩ := a_1
  unfold ref15Natural_b2 at q2
  try dsimp only at q2
  obtain ⟨q6, q2⟩ := grd_some q2
  obtain ⟨q7, q2⟩ := grd_some q2
  rcases bif_some q2 with ⟨q8, q2⟩ | ⟨q8, q2⟩
  · cases q2
    try dsimp only at h
    have q4 := run_go (k := k) (f := 123) (r0 := 0) (nt := 17) (c := ref15Natural_L2) (σ := (ref15Natural_S2 (v_1, v_2))) (adv [([], 2, 5, .sub false), ([], 2, 7, .cat), ([], 4, 1, .eq (pB true))]) (ex := .ret) (by kernel_rfl) (by kernel_rfl) (allC q6 (allC q7 (allC (cg q8) allN)))
    have q5 := q3 _ _ (by intro e; cases e) q4
    obtain rfl := Option.some.inj h
    exact ret_go (k := k) Tryz.func123 Tryz.ntmps123 (by kernel_rfl) (by kernel_rfl) (lb rfl) (adv [] [([], 2, .ret, (stOf (go k 123 0 17 (adv [([], 2, 5, .sub false), ([], 2, 7, .cat), ([], 4, 1, .eq (pB true))]) ref15Natural_L2 (ref15Natural_S2 (v_1, v_2)))))]) (ex := .ret) (r := (pS (((bs [48, 49, 50, 51, 52, 53, 54, 55, 56, 57]).extract ((Int.tmod v_1 (10 : Int))).toNat ((IntKind.wrap .u64 ((Int.tmod v_1 (10 : Int)) + (1 : Int)))).toNat) ++ v_2))) (by kernel_rfl) rfl (by kernel_rfl) (allC q5 allN) (by kernel_rfl) allN
  · cases q2
def ref15Digits (n : Int) : Option ByteArray :=
 bif (decide (n < (0 : Int))) then (
 (ref15Natural (IntKind.wrap .u64 ((IntKind.wrap .u64 (IntKind.wrap .i64 (0 - (w64 (n + (1 : Int)))))) + (1 : Int)))).bind fun r_1 =>
 grd (¬ ((((bs [45]).size + r_1.size : Nat) : Int) > IntKind.i64.max)) <|
 some ((bs [45]) ++ r_1)
 ) else (
 (ref15Natural (IntKind.wrap .u64 n)).bind fun r_1 =>
 some r_1
 )
set_option maxRecDepth 100000 in
theorem ref15Digits_ok (k : Nat) (n : Int) (r : ByteArray) (h : ref15Digits n = some r) : run0 (k + 2) 75 [(pI n)] = some (pS r) := by
  unfold ref15Digits at h
  rcases bif_some h with ⟨q1, h⟩ | ⟨q1, h⟩
  · obtain ⟨r_1, q2, h⟩ := bnd_some h
    obtain ⟨q3, h⟩ := grd_some h
    obtain rfl := Option.some.inj h
    exact ret_go (k := (k + 1)) Tryz.func75 Tryz.ntmps75 (by kernel_rfl) (by kernel_rfl) (lb rfl) (adv [([], 1, 1, .eq (pB true)), ([], 2, 5, .ret (pS r_1)), ([], 2, 6, .cat)]) (ex := .ret) (r := (pS ((bs [45]) ++ r_1))) (by kernel_rfl) rfl (by kernel_rfl) (allC (cg q1) (allC (ref15Natural_ok k (IntKind.wrap .u64 ((IntKind.wrap .u64 (IntKind.wrap .i64 (0 - (w64 (n + (1 : Int)))))) + (1 : Int))) _ q2) (allC q3 allN))) (by kernel_rfl) allN
  · obtain ⟨r_1, q2, h⟩ := bnd_some h
    obtain rfl := Option.some.inj h
    exact ret_go (k := (k + 1)) Tryz.func75 Tryz.ntmps75 (by kernel_rfl) (by kernel_rfl) (lb rfl) (adv [([], 1, 1, .eq (pB false)), ([], 3, 2, .ret (pS r_1))]) (ex := .ret) (r := (pS r_1)) (by kernel_rfl) rfl (by kernel_rfl) (allC (cg q1) (allC (ref15Natural_ok k (IntKind.wrap .u64 n) _ q2) allN)) (by kernel_rfl) allN
def ref15Fail (j : JobD) (path : ByteArray) (e : Int) : Option JobD :=
 grd (¬ (((path.size + (bs [58, 32, 101, 114, 114, 111, 114, 32]).size : Nat) : Int) > IntKind.i64.max)) <|
 (ref15Digits e).bind fun r_1 =>
 grd (¬ ((((path ++ (bs [58, 32, 101, 114, 114, 111, 114, 32])).size + r_1.size : Nat) : Int) > IntKind.i64.max)) <|
 some (JobD.mk j.kind j.p j.phase j.fd j.nF j.modeF j.tries j.atF j.flags j.path j.path2 j.text j.names j.stack j.draws true (1 : Int) ((path ++ (bs [58, 32, 101, 114, 114, 111, 114, 32])) ++ r_1) e)
set_option maxRecDepth 100000 in
theorem ref15Fail_ok (k : Nat) (j : JobD) (path : ByteArray) (e : Int) (r : JobD) (h : ref15Fail j path e = some r) : run0 (k + 3) 34 [(JobD.a j), (pS path), (pI e)] = some (JobD.a r) := by
  unfold ref15Fail at h
  obtain ⟨q1, h⟩ := grd_some h
  obtain ⟨r_1, q2, h⟩ := bnd_some h
  obtain ⟨q3, h⟩ := grd_some h
  obtain rfl := Option.some.inj h
  exact ret_go (k := (k + 2)) Tryz.func34 Tryz.ntmps34 (by kernel_rfl) (by kernel_rfl) (lb rfl) (adv [([], 4, 1, .cat), ([], 4, 3, .ret (pS r_1)), ([], 4, 4, .cat)]) (ex := .ret) (r := (.agg [(pI j.kind), (pI j.p), (pI j.phase), (pI j.fd), (pI j.nF), (pI j.modeF), (pI j.tries), (pI j.atF), (pI j.flags), (pS j.path), (pS j.path2), (pS j.text), (.list 1 false (j.names.map cS)), (.list 3 false (j.stack.map FrameD.c)), (.list 1 false (j.draws.map cI)), (pB true), (pI (1 : Int)), (pS ((path ++ (bs [58, 32, 101, 114, 114, 111, 114, 32])) ++ r_1)), (pI e)])) (by kernel_rfl) rfl (by kernel_rfl) (allC q1 (allC (ref15Digits_ok k e _ q2) (allC q3 allN))) (by kernel_rfl) allN
noncomputable def ref01Split_L4 : Code := cAt (codeOf Tryz.f76) [true, true, true, false, true, false, false]
def ref01Split_R4 (x0 : ByteArray) (x1 : Nat) (x2 : ByteArray) (x3 : Int) (x4 : List (List PV)) : St := ⟨envL [(0, (pS x0)), (5, (.row [0, TAG] 1 0 x1)), (6, (pS x2)), (7, (pI x3))], hsL [some ⟨1, 9, x4, true, true⟩] [0]⟩
theorem ref01Split_R4_eq {x0 y0 : ByteArray} {x1 y1 : Nat} {x2 y2 : ByteArray} {x3 y3 : Int} {x4 y4 : List (List PV)} (h0 : x0 = y0) (h1 : x1 = y1) (h2 : x2 = y2) (h3 : x3 = y3) (h4 : x4 = y4) : ref01Split_R4 x0 x1 x2 x3 x4 = ref01Split_R4 y0 y1 y2 y3 y4 := by
  subst h0 h1 h2 h3 h4; rfl
def ref01Split_S4 (p0 : ByteArray) : (ByteArray × Int × (List ByteArray)) → St
 | (v0, v1, v2) => ref01Split_R4 p0 v2.length v0 v1 (v2.map cS)
def ref01Split_b4 (p0 : ByteArray) : (ByteArray × Int × (List ByteArray)) → Option ((ByteArray × Int × (List ByteArray)) ⊕ (ByteArray × Int × (List ByteArray)))
 | (v0, v1, v2) =>
 bif (decide (v1 < (p0.size : Int))) then (
 (gtS p0 v1).bind fun b_1 =>
 bif ((b_1.toNat : Int) != (47 : Int)) then (
 grd (0 ≤ v1 ∧ v1 ≤ (w64 (v1 + (1 : Int))) ∧ (w64 (v1 + (1 : Int))) ≤ (p0.size : Int)) <|
 grd (¬ (((v0.size + (p0.extract (v1).toNat ((w64 (v1 + (1 : Int)))).toNat).size : Nat) : Int) > IntKind.i64.max)) <|
 bif (!(seq (v0 ++ (p0.extract (v1).toNat ((w64 (v1 + (1 : Int)))).toNat)) (bs []))) then (
 (gtS p0 v1).bind fun b_2 =>
 bif ((b_2.toNat : Int) == (47 : Int)) then (
 grd (room (v2.length + 1) 16) <|
 some (.inl ((bs []), (w64 (v1 + (1 : Int))), (v2 ++ [(v0 ++ (p0.extract (v1).toNat ((w64 (v1 + (1 : Int)))).toNat))])))
 ) else (
 bif (v1 == (w64 ((p0.size : Int) - (1 : Int)))) then (
 grd (room (v2.length + 1) 16) <|
 some (.inl ((bs []), (w64 (v1 + (1 : Int))), (v2 ++ [(v0 ++ (p0.extract (v1).toNat ((w64 (v1 + (1 : Int)))).toNat))])))
 ) else (
 some (.inl ((v0 ++ (p0.extract (v1).toNat ((w64 (v1 + (1 : Int)))).toNat)), (w64 (v1 + (1 : Int))), v2))
 )
 )
 ) else (
 some (.inl ((v0 ++ (p0.extract (v1).toNat ((w64 (v1 + (1 : Int)))).toNat)), (w64 (v1 + (1 : Int))), v2))
 )
 ) else (
 bif (!(seq v0 (bs []))) then (
 (gtS p0 v1).bind fun b_2 =>
 bif ((b_2.toNat : Int) == (47 : Int)) then (
 grd (room (v2.length + 1) 16) <|
 some (.inl ((bs []), (w64 (v1 + (1 : Int))), (v2 ++ [v0])))
 ) else (
 bif (v1 == (w64 ((p0.size : Int) - (1 : Int)))) then (
 grd (room (v2.length + 1) 16) <|
 some (.inl ((bs []), (w64 (v1 + (1 : Int))), (v2 ++ [v0])))
 ) else (
 some (.inl (v0, (w64 (v1 + (1 : Int))), v2))
 )
 )
 ) else (
 some (.inl (v0, (w64 (v1 + (1 : Int))), v2))
 )
 )
 ) else (
 some (.inr (v0, v1, v2))
 )
set_option maxRecDepth 100000 in
theorem ref01Split_t4 (k : Nat) (p0 : ByteArray) (a a1 : (ByteArray × Int × (List ByteArray))) (h : ref01Split_b4 p0 a = some (.inl a1)) : ∃ σ, run1 k 76 0 63 ref01Split_L4 (ref01Split_S4 p0 a) = some (.normal, σ) ∧ canonS 0 [0, 5, 6, 7] σ = some (ref01Split_S4 p0 a1) := by
  obtain ⟨v0, v1, v2⟩ := a
  unfold ref01Split_b4 at h
  try dsimp only at h
  rcases bif_some h with ⟨q1, h⟩ | ⟨q1, h⟩
  · obtain ⟨b_1, q2, h⟩ := bnd_some h
    rcases bif_some h with ⟨q3, h⟩ | ⟨q3, h⟩
    · obtain ⟨q4, h⟩ := grd_some h
      obtain ⟨q5, h⟩ := grd_some h
      rcases bif_some h with ⟨q6, h⟩ | ⟨q6, h⟩
      · obtain ⟨b_2, q7, h⟩ := bnd_some h
        rcases bif_some h with ⟨q8, h⟩ | ⟨q8, h⟩
        · obtain ⟨q9, h⟩ := grd_some h
          obtain rfl := Sum.inl.inj (Option.some.inj h)
          exact ⟨_, run_go (k := k) (f := 76) (r0 := 0) (nt := 63) (c := ref01Split_L4) (σ := (ref01Split_S4 p0 (v0, v1, v2))) (adv [([], 4, 3, .eq (pB true)), ([], 6, 2, .chr b_1), ([], 6, 3, .eq (pB true)), ([], 7, 5, .sub false), ([], 7, 6, .cat), ([], 8, 2, .eq (pB true)), ([], 8, 5, .chr b_2), ([], 8, 7, .eq (pB true)), ([], 9, 3, .ok)]) (ex := .normal) (by kernel_rfl) (by kernel_rfl) (allC (cg q1) (allC q2 (allC (cg q3) (allC q4 (allC q5 (allC (cg q6) (allC q7 (allC (cg q8) (allC (app_ok (rfl : (v2.map cS) = v2.map cS) (rfl : v2.length = v2.length) q9) allN))))))))), (Eq.trans (b := some (ref01Split_R4 p0 (v2.length + 1) (bs []) (w64 (v1 + (1 : Int))) ((v2.map cS) ++ [[(pS (v0 ++ (p0.extract (v1).toNat ((w64 (v1 + (1 : Int)))).toNat)))]]))) (by kernel_rfl) (congrArg some ((ref01Split_R4_eq (rfl : p0 = p0) ((len_cat (rfl : v2.length = v2.length) v2 (rfl : 1 = [(v0 ++ (p0.extract (v1).toNat ((w64 (v1 + (1 : Int)))).toNat))].length)) : (v2.length + 1) = ((v2 ++ [(v0 ++ (p0.extract (v1).toNat ((w64 (v1 + (1 : Int)))).toNat))]).length)) (rfl : (bs []) = (bs [])) (rfl : (w64 (v1 + (1 : Int))) = (w64 (v1 + (1 : Int)))) ((enc_cat (rfl : (v2.map cS) = v2.map cS) (show [[(pS (v0 ++ (p0.extract (v1).toNat ((w64 (v1 + (1 : Int)))).toNat)))]] = [(v0 ++ (p0.extract (v1).toNat ((w64 (v1 + (1 : Int)))).toNat))].map cS from rfl)) : ((v2.map cS) ++ [[(pS (v0 ++ (p0.extract (v1).toNat ((w64 (v1 + (1 : Int)))).toNat)))]]) = ((v2 ++ [(v0 ++ (p0.extract (v1).toNat ((w64 (v1 + (1 : Int)))).toNat))]).map cS))).trans (by kernel_rfl : ref01Split_R4 p0 ((v2 ++ [(v0 ++ (p0.extract (v1).toNat ((w64 (v1 + (1 : Int)))).toNat))]).length) (bs []) (w64 (v1 + (1 : Int))) ((v2 ++ [(v0 ++ (p0.extract (v1).toNat ((w64 (v1 + (1 : Int)))).toNat))]).map cS) = ref01Split_S4 p0 ((bs []), (w64 (v1 + (1 : Int))), (v2 ++ [(v0 ++ (p0.extract (v1).toNat ((w64 (v1 + (1 : Int)))).toNat))]))))))⟩
        · rcases bif_some h with ⟨q9, h⟩ | ⟨q9, h⟩
          · obtain ⟨q10, h⟩ := grd_some h
            obtain rfl := Sum.inl.inj (Option.some.inj h)
            exact ⟨_, run_go (k := k) (f := 76) (r0 := 0) (nt := 63) (c := ref01Split_L4) (σ := (ref01Split_S4 p0 (v0, v1, v2))) (adv [([], 4, 3, .eq (pB true)), ([], 6, 2, .chr b_1), ([], 6, 3, .eq (pB true)), ([], 7, 5, .sub false), ([], 7, 6, .cat), ([], 8, 2, .eq (pB true)), ([], 8, 5, .chr b_2), ([], 8, 7, .eq (pB false)), ([], 8, 14, .eq (pB true)), ([], 9, 3, .ok)]) (ex := .normal) (by kernel_rfl) (by kernel_rfl) (allC (cg q1) (allC q2 (allC (cg q3) (allC q4 (allC q5 (allC (cg q6) (allC q7 (allC (cg q8) (allC (cg q9) (allC (app_ok (rfl : (v2.map cS) = v2.map cS) (rfl : v2.length = v2.length) q10) allN)))))))))), (Eq.trans (b := some (ref01Split_R4 p0 (v2.length + 1) (bs []) (w64 (v1 + (1 : Int))) ((v2.map cS) ++ [[(pS (v0 ++ (p0.extract (v1).toNat ((w64 (v1 + (1 : Int)))).toNat)))]]))) (by kernel_rfl) (congrArg some ((ref01Split_R4_eq (rfl : p0 = p0) ((len_cat (rfl : v2.length = v2.length) v2 (rfl : 1 = [(v0 ++ (p0.extract (v1).toNat ((w64 (v1 + (1 : Int)))).toNat))].length)) : (v2.length + 1) = ((v2 ++ [(v0 ++ (p0.extract (v1).toNat ((w64 (v1 + (1 : Int)))).toNat))]).length)) (rfl : (bs []) = (bs [])) (rfl : (w64 (v1 + (1 : Int))) = (w64 (v1 + (1 : Int)))) ((enc_cat (rfl : (v2.map cS) = v2.map cS) (show [[(pS (v0 ++ (p0.extract (v1).toNat ((w64 (v1 + (1 : Int)))).toNat)))]] = [(v0 ++ (p0.extract (v1).toNat ((w64 (v1 + (1 : Int)))).toNat))].map cS from rfl)) : ((v2.map cS) ++ [[(pS (v0 ++ (p0.extract (v1).toNat ((w64 (v1 + (1 : Int)))).toNat)))]]) = ((v2 ++ [(v0 ++ (p0.extract (v1).toNat ((w64 (v1 + (1 : Int)))).toNat))]).map cS))).trans (by kernel_rfl : ref01Split_R4 p0 ((v2 ++ [(v0 ++ (p0.extract (v1).toNat ((w64 (v1 + (1 : Int)))).toNat))]).length) (bs []) (w64 (v1 + (1 : Int))) ((v2 ++ [(v0 ++ (p0.extract (v1).toNat ((w64 (v1 + (1 : Int)))).toNat))]).map cS) = ref01Split_S4 p0 ((bs []), (w64 (v1 + (1 : Int))), (v2 ++ [(v0 ++ (p0.extract (v1).toNat ((w64 (v1 + (1 : Int)))).toNat))]))))))⟩
          · obtain rfl := Sum.inl.inj (Option.some.inj h)
            exact ⟨_, run_go (k := k) (f := 76) (r0 := 0) (nt := 63) (c := ref01Split_L4) (σ := (ref01Split_S4 p0 (v0, v1, v2))) (adv [([], 4, 3, .eq (pB true)), ([], 6, 2, .chr b_1), ([], 6, 3, .eq (pB true)), ([], 7, 5, .sub false), ([], 7, 6, .cat), ([], 8, 2, .eq (pB true)), ([], 8, 5, .chr b_2), ([], 8, 7, .eq (pB false)), ([], 8, 14, .eq (pB false))]) (ex := .normal) (by kernel_rfl) (by kernel_rfl) (allC (cg q1) (allC q2 (allC (cg q3) (allC q4 (allC q5 (allC (cg q6) (allC q7 (allC (cg q8) (allC (cg q9) allN))))))))), (by kernel_rfl)⟩
      · obtain rfl := Sum.inl.inj (Option.some.inj h)
        exact ⟨_, run_go (k := k) (f := 76) (r0 := 0) (nt := 63) (c := ref01Split_L4) (σ := (ref01Split_S4 p0 (v0, v1, v2))) (adv [([], 4, 3, .eq (pB true)), ([], 6, 2, .chr b_1), ([], 6, 3, .eq (pB true)), ([], 7, 5, .sub false), ([], 7, 6, .cat), ([], 8, 2, .eq (pB false))]) (ex := .normal) (by kernel_rfl) (by kernel_rfl) (allC (cg q1) (allC q2 (allC (cg q3) (allC q4 (allC q5 (allC (cg q6) allN)))))), (by kernel_rfl)⟩
    · rcases bif_some h with ⟨q4, h⟩ | ⟨q4, h⟩
      · obtain ⟨b_2, q5, h⟩ := bnd_some h
        rcases bif_some h with ⟨q6, h⟩ | ⟨q6, h⟩
        · obtain ⟨q7, h⟩ := grd_some h
          obtain rfl := Sum.inl.inj (Option.some.inj h)
          exact ⟨_, run_go (k := k) (f := 76) (r0 := 0) (nt := 63) (c := ref01Split_L4) (σ := (ref01Split_S4 p0 (v0, v1, v2))) (adv [([], 4, 3, .eq (pB true)), ([], 6, 2, .chr b_1), ([], 6, 3, .eq (pB false)), ([], 8, 2, .eq (pB true)), ([], 8, 5, .chr b_2), ([], 8, 7, .eq (pB true)), ([], 9, 3, .ok)]) (ex := .normal) (by kernel_rfl) (by kernel_rfl) (allC (cg q1) (allC q2 (allC (cg q3) (allC (cg q4) (allC q5 (allC (cg q6) (allC (app_ok (rfl : (v2.map cS) = v2.map cS) (rfl : v2.length = v2.length) q7) allN))))))), (Eq.trans (b := some (ref01Split_R4 p0 (v2.length + 1) (bs []) (w64 (v1 + (1 : Int))) ((v2.map cS) ++ [[(pS v0)]]))) (by kernel_rfl) (congrArg some ((ref01Split_R4_eq (rfl : p0 = p0) ((len_cat (rfl : v2.length = v2.length) v2 (rfl : 1 = [v0].length)) : (v2.length + 1) = ((v2 ++ [v0]).length)) (rfl : (bs []) = (bs [])) (rfl : (w64 (v1 + (1 : Int))) = (w64 (v1 + (1 : Int)))) ((enc_cat (rfl : (v2.map cS) = v2.map cS) (show [[(pS v0)]] = [v0].map cS from rfl)) : ((v2.map cS) ++ [[(pS v0)]]) = ((v2 ++ [v0]).map cS))).trans (by kernel_rfl : ref01Split_R4 p0 ((v2 ++ [v0]).length) (bs []) (w64 (v1 + (1 : Int))) ((v2 ++ [v0]).map cS) = ref01Split_S4 p0 ((bs []), (w64 (v1 + (1 : Int))), (v2 ++ [v0]))))))⟩
        · rcases bif_some h with ⟨q7, h⟩ | ⟨q7, h⟩
          · obtain ⟨q8, h⟩ := grd_some h
            obtain rfl := Sum.inl.inj (Option.some.inj h)
            exact ⟨_, run_go (k := k) (f := 76) (r0 := 0) (nt := 63) (c := ref01Split_L4) (σ := (ref01Split_S4 p0 (v0, v1, v2))) (adv [([], 4, 3, .eq (pB true)), ([], 6, 2, .chr b_1), ([], 6, 3, .eq (pB false)), ([], 8, 2, .eq (pB true)), ([], 8, 5, .chr b_2), ([], 8, 7, .eq (pB false)), ([], 8, 14, .eq (pB true)), ([], 9, 3, .ok)]) (ex := .normal) (by kernel_rfl) (by kernel_rfl) (allC (cg q1) (allC q2 (allC (cg q3) (allC (cg q4) (allC q5 (allC (cg q6) (allC (cg q7) (allC (app_ok (rfl : (v2.map cS) = v2.map cS) (rfl : v2.length = v2.length) q8) allN)))))))), (Eq.trans (b := some (ref01Split_R4 p0 (v2.length + 1) (bs []) (w64 (v1 + (1 : Int))) ((v2.map cS) ++ [[(pS v0)]]))) (by kernel_rfl) (congrArg some ((ref01Split_R4_eq (rfl : p0 = p0) ((len_cat (rfl : v2.length = v2.length) v2 (rfl : 1 = [v0].length)) : (v2.length + 1) = ((v2 ++ [v0]).length)) (rfl : (bs []) = (bs [])) (rfl : (w64 (v1 + (1 : Int))) = (w64 (v1 + (1 : Int)))) ((enc_cat (rfl : (v2.map cS) = v2.map cS) (show [[(pS v0)]] = [v0].map cS from rfl)) : ((v2.map cS) ++ [[(pS v0)]]) = ((v2 ++ [v0]).map cS))).trans (by kernel_rfl : ref01Split_R4 p0 ((v2 ++ [v0]).length) (bs []) (w64 (v1 + (1 : Int))) ((v2 ++ [v0]).map cS) = ref01Split_S4 p0 ((bs []), (w64 (v1 + (1 : Int))), (v2 ++ [v0]))))))⟩
          · obtain rfl := Sum.inl.inj (Option.some.inj h)
            exact ⟨_, run_go (k := k) (f := 76) (r0 := 0) (nt := 63) (c := ref01Split_L4) (σ := (ref01Split_S4 p0 (v0, v1, v2))) (adv [([], 4, 3, .eq (pB true)), ([], 6, 2, .chr b_1), ([], 6, 3, .eq (pB false)), ([], 8, 2, .eq (pB true)), ([], 8, 5, .chr b_2), ([], 8, 7, .eq (pB false)), ([], 8, 14, .eq (pB false))]) (ex := .normal) (by kernel_rfl) (by kernel_rfl) (allC (cg q1) (allC q2 (allC (cg q3) (allC (cg q4) (allC q5 (allC (cg q6) (allC (cg q7) allN))))))), (by kernel_rfl)⟩
      · obtain rfl := Sum.inl.inj (Option.some.inj h)
        exact ⟨_, run_go (k := k) (f := 76) (r0 := 0) (nt := 63) (c := ref01Split_L4) (σ := (ref01Split_S4 p0 (v0, v1, v2))) (adv [([], 4, 3, .eq (pB true)), ([], 6, 2, .chr b_1), ([], 6, 3, .eq (pB false)), ([], 8, 2, .eq (pB false))]) (ex := .normal) (by kernel_rfl) (by kernel_rfl) (allC (cg q1) (allC q2 (allC (cg q3) (allC (cg q4) allN)))), (by kernel_rfl)⟩
  · cases h
def ref01Split (p : ByteArray) : Option ((List ByteArray) × Bool × Bool) :=
 (iterN (ref01Split_b4 p) LF ((bs []), (0 : Int), ([] : (List ByteArray)))).bind fun (v_1, v_2, v_3) =>
 bif (!(seq p (bs []))) then (
 (gtS p (0 : Int)).bind fun b_3 =>
 bif (!(seq p (bs []))) then (
 (gtS p (w64 ((p.size : Int) - (1 : Int)))).bind fun b_4 =>
 some (v_3, ((b_3.toNat : Int) == (47 : Int)), ((b_4.toNat : Int) == (47 : Int)))
 ) else (
 some (v_3, ((b_3.toNat : Int) == (47 : Int)), false)
 )
 ) else (
 bif (!(seq p (bs []))) then (
 (gtS p (w64 ((p.size : Int) - (1 : Int)))).bind fun b_3 =>
 some (v_3, false, ((b_3.toNat : Int) == (47 : Int)))
 ) else (
 some (v_3, false, false)
 )
 )
set_option maxRecDepth 100000 in
theorem ref01Split_ok (k : Nat) (p : ByteArray) (r : ((List ByteArray) × Bool × Bool)) (h : ref01Split p = some r) : run0 (k + 1) 76 [(pS p)] = some (.tup [(.list 1 false (r.1.map cS)), (pB r.2.1), (pB r.2.2)]) := by
  unfold ref01Split at h
  obtain ⟨X_1, q1, h⟩ := bnd_some h
  obtain ⟨a_1, q2, q3⟩ := loop_iter (f := run1 k 76 0 63 ref01Split_L4) (ref01Split_S4 p) (ref01Split_b4 p) (ref01Split_t4 k p) LF ((bs []), (0 : Int), ([] : (List ByteArray))) _ (stOf (goStop k 76 0 63 (adv []) 4 (codeOf Tryz.f76) (argS 76 [(pS p)]))) q1 (Eq.trans (b := some (ref01Split_R4 p 0 (bs []) (0 : Int) [])) (by kernel_rfl) (congrArg some ((ref01Split_R4_eq (rfl : p = p) (rfl : 0 = (([] : (List ByteArray)).length)) (rfl : (bs []) = (bs [])) (rfl : (0 : Int) = (0 : Int)) (rfl : [] = (([] : (List ByteArray)).map cS))).trans (by kernel_rfl : ref01Split_R4 p (([] : (List ByteArray)).length) (bs []) (0 : Int) (([] : (List ByteArray)).map cS) = ref01Split_S4 p ((bs []), (0 : Int), ([] : (List ByteArray)))))))
  obtain ⟨v_1, v_2, v_3⟩ := a_1
  unfold ref01Split_b4 at q2
  try dsimp only at q2
  rcases bif_some q2 with ⟨q6, q2⟩ | ⟨q6, q2⟩
  · obtain ⟨b_1, q7, q2⟩ := bnd_some q2
    rcases bif_some q2 with ⟨q8, q2⟩ | ⟨q8, q2⟩
    · obtain ⟨q9, q2⟩ := grd_some q2
      obtain ⟨q10, q2⟩ := grd_some q2
      rcases bif_some q2 with ⟨q11, q2⟩ | ⟨q11, q2⟩
      · obtain ⟨b_2, q12, q2⟩ := bnd_some q2
        rcases bif_some q2 with ⟨q13, q2⟩ | ⟨q13, q2⟩
        · obtain ⟨q14, q2⟩ := grd_some q2
          cases q2
        · rcases bif_some q2 with ⟨q14, q2⟩ | ⟨q14, q2⟩
          · obtain ⟨q15, q2⟩ := grd_some q2
            cases q2
          · cases q2
      · cases q2
    · rcases bif_some q2 with ⟨q9, q2⟩ | ⟨q9, q2⟩
      · obtain ⟨b_2, q10, q2⟩ := bnd_some q2
        rcases bif_some q2 with ⟨q11, q2⟩ | ⟨q11, q2⟩
        · obtain ⟨q12, q2⟩ := grd_some q2
          cases q2
        · rcases bif_some q2 with ⟨q12, q2⟩ | ⟨q12, q2⟩
          · obtain ⟨q13, q2⟩ := grd_some q2
            cases q2
          · cases q2
      · cases q2
  · cases q2
    try dsimp only at h
    have q4 := run_go (k := k) (f := 76) (r0 := 0) (nt := 63) (c := ref01Split_L4) (σ := (ref01Split_S4 p (v_1, v_2, v_3))) (adv [([], 4, 3, .eq (pB false))]) (ex := (.exit 0)) (by kernel_rfl) (by kernel_rfl) (allC (cg q6) allN)
    have q5 := q3 _ _ (by intro e; cases e) q4
    rcases bif_some h with ⟨q16, h⟩ | ⟨q16, h⟩
    · obtain ⟨b_3, q17, h⟩ := bnd_some h
      rcases bif_some h with ⟨q18, h⟩ | ⟨q18, h⟩
      · obtain ⟨b_4, q19, h⟩ := bnd_some h
        obtain rfl := Option.some.inj h
        exact ret_go (k := k) Tryz.func76 Tryz.ntmps76 (by kernel_rfl) (by kernel_rfl) (lb rfl) (adv [([], 11, 3, .eq (pB true)), ([], 11, 5, .chr b_3), ([], 11, 10, .eq (pB true)), ([], 11, 15, .chr b_4)] [([], 4, (.exit 0), (stOf (go k 76 0 63 (adv [([], 4, 3, .eq (pB false))]) ref01Split_L4 (ref01Split_S4 p (v_1, v_2, v_3)))))]) (ex := .ret) (r := (.tup [(.list 1 false (v_3.map cS)), (pB ((b_3.toNat : Int) == (47 : Int))), (pB ((b_4.toNat : Int) == (47 : Int)))])) (by kernel_rfl) rfl (by kernel_rfl) (allC q5 (allC (cg q16) (allC q17 (allC (cg q18) (allC q19 allN))))) (by kernel_rfl) (allC (row_ok (rfl : (v_3.map cS) = v_3.map cS) (rfl : v_3.length = v_3.length)) allN)
      · obtain rfl := Option.some.inj h
        exact ret_go (k := k) Tryz.func76 Tryz.ntmps76 (by kernel_rfl) (by kernel_rfl) (lb rfl) (adv [([], 11, 3, .eq (pB true)), ([], 11, 5, .chr b_3), ([], 11, 10, .eq (pB false))] [([], 4, (.exit 0), (stOf (go k 76 0 63 (adv [([], 4, 3, .eq (pB false))]) ref01Split_L4 (ref01Split_S4 p (v_1, v_2, v_3)))))]) (ex := .ret) (r := (.tup [(.list 1 false (v_3.map cS)), (pB ((b_3.toNat : Int) == (47 : Int))), (pB false)])) (by kernel_rfl) rfl (by kernel_rfl) (allC q5 (allC (cg q16) (allC q17 (allC (cg q18) allN)))) (by kernel_rfl) (allC (row_ok (rfl : (v_3.map cS) = v_3.map cS) (rfl : v_3.length = v_3.length)) allN)
    · rcases bif_some h with ⟨q17, h⟩ | ⟨q17, h⟩
      · obtain ⟨b_3, q18, h⟩ := bnd_some h
        obtain rfl := Option.some.inj h
        exact ret_go (k := k) Tryz.func76 Tryz.ntmps76 (by kernel_rfl) (by kernel_rfl) (lb rfl) (adv [([], 11, 3, .eq (pB false)), ([], 11, 10, .eq (pB true)), ([], 11, 15, .chr b_3)] [([], 4, (.exit 0), (stOf (go k 76 0 63 (adv [([], 4, 3, .eq (pB false))]) ref01Split_L4 (ref01Split_S4 p (v_1, v_2, v_3)))))]) (ex := .ret) (r := (.tup [(.list 1 false (v_3.map cS)), (pB false), (pB ((b_3.toNat : Int) == (47 : Int)))])) (by kernel_rfl) rfl (by kernel_rfl) (allC q5 (allC (cg q16) (allC (cg q17) (allC q18 allN)))) (by kernel_rfl) (allC (row_ok (rfl : (v_3.map cS) = v_3.map cS) (rfl : v_3.length = v_3.length)) allN)
      · obtain rfl := Option.some.inj h
        exact ret_go (k := k) Tryz.func76 Tryz.ntmps76 (by kernel_rfl) (by kernel_rfl) (lb rfl) (adv [([], 11, 3, .eq (pB false)), ([], 11, 10, .eq (pB false))] [([], 4, (.exit 0), (stOf (go k 76 0 63 (adv [([], 4, 3, .eq (pB false))]) ref01Split_L4 (ref01Split_S4 p (v_1, v_2, v_3)))))]) (ex := .ret) (r := (.tup [(.list 1 false (v_3.map cS)), (pB false), (pB false)])) (by kernel_rfl) rfl (by kernel_rfl) (allC q5 (allC (cg q16) (allC (cg q17) allN))) (by kernel_rfl) (allC (row_ok (rfl : (v_3.map cS) = v_3.map cS) (rfl : v_3.length = v_3.length)) allN)
noncomputable def ref01Check_L6 : Code := cAt (codeOf Tryz.f35) [true, true, true, false, true, false, false]
def ref01Check_R6 (x0 : ByteArray) (x1 : Int) : St := ⟨envL [(0, (pS x0)), (3, (pI x1))], hsL [] []⟩
def ref01Check_S6 (p0 : ByteArray) : Int → St
 | v0 => ref01Check_R6 p0 v0
def ref01Check_b6 (p0 : ByteArray) : Int → Option (Int ⊕ ((Int × UInt8) ⊕ Int))
 | v0 =>
 bif (decide (v0 < (p0.size : Int))) then (
 (gtS p0 v0).bind fun b_1 =>
 bif ((b_1.toNat : Int) == (0 : Int)) then (
 some (.inr (.inl (v0, b_1)))
 ) else (
 some (.inl (w64 (v0 + (1 : Int))))
 )
 ) else (
 some (.inr (.inr (v0)))
 )
set_option maxRecDepth 100000 in
theorem ref01Check_t6 (k : Nat) (p0 : ByteArray) (v0 a1 : Int) (h : ref01Check_b6 p0 v0 = some (.inl a1)) : ∃ σ, run1 (k + 1) 35 0 41 ref01Check_L6 (ref01Check_S6 p0 v0) = some (.normal, σ) ∧ canonS 0 [0, 3] σ = some (ref01Check_S6 p0 a1) := by
  unfold ref01Check_b6 at h
  try dsimp only at h
  rcases bif_some h with ⟨q1, h⟩ | ⟨q1, h⟩
  · obtain ⟨b_1, q2, h⟩ := bnd_some h
    rcases bif_some h with ⟨q3, h⟩ | ⟨q3, h⟩
    · cases h
    · obtain rfl := Sum.inl.inj (Option.some.inj h)
      exact ⟨_, run_go (k := (k + 1)) (f := 35) (r0 := 0) (nt := 41) (c := ref01Check_L6) (σ := (ref01Check_S6 p0 v0)) (adv [([], 6, 3, .eq (pB true)), ([], 8, 2, .chr b_1), ([], 8, 3, .eq (pB false))]) (ex := .normal) (by kernel_rfl) (by kernel_rfl) (allC (cg q1) (allC q2 (allC (cg q3) allN))), (by kernel_rfl)⟩
  · cases h
noncomputable def ref01Check_L12 : Code := cAt (codeOf Tryz.f35) [true, true, true, true, true, false, true, false, false]
def ref01Check_R12 (x0 : List (List PV)) (x1 : Int) : St := ⟨envL [(4, (.list 1 false x0)), (7, (pI x1))], hsL [] []⟩
def ref01Check_S12 (p0 : (List ByteArray)) : Int → St
 | v0 => ref01Check_R12 (p0.map cS) v0
def ref01Check_b12 (p0 : (List ByteArray)) : Int → Option (Int ⊕ ((Int × ByteArray) ⊕ Int))
 | v0 =>
 bif (decide (v0 < (p0.length : Int))) then (
 (gt p0 v0).bind fun y_1 =>
 bif (decide ((y_1.size : Int) > (12 : Int))) then (
 some (.inr (.inl (v0, y_1)))
 ) else (
 some (.inl (w64 (v0 + (1 : Int))))
 )
 ) else (
 some (.inr (.inr (v0)))
 )
set_option maxRecDepth 100000 in
theorem ref01Check_t12 (k : Nat) (p0 : (List ByteArray)) (v0 a1 : Int) (h : ref01Check_b12 p0 v0 = some (.inl a1)) : ∃ σ, run1 (k + 1) 35 0 41 ref01Check_L12 (ref01Check_S12 p0 v0) = some (.normal, σ) ∧ canonS 0 [4, 7] σ = some (ref01Check_S12 p0 a1) := by
  unfold ref01Check_b12 at h
  try dsimp only at h
  rcases bif_some h with ⟨q1, h⟩ | ⟨q1, h⟩
  · obtain ⟨y_1, q2, h⟩ := bnd_some h
    rcases bif_some h with ⟨q3, h⟩ | ⟨q3, h⟩
    · cases h
    · obtain rfl := Sum.inl.inj (Option.some.inj h)
      exact ⟨_, run_go (k := (k + 1)) (f := 35) (r0 := 0) (nt := 41) (c := ref01Check_L12) (σ := (ref01Check_S12 p0 v0)) (adv [([], 12, 2, .eq (pI (p0.length : Int))), ([], 12, 3, .eq (pB true)), ([], 14, 2, .elem [(pS y_1)]), ([], 14, 5, .eq (pB false))]) (ex := .normal) (by kernel_rfl) (by kernel_rfl) (allC (len_ob (rfl : (p0.map cS) = p0.map cS)) (allC (cg q1) (allC (gt_list (c := cS) q2) (allC (cg q3) allN)))), (by kernel_rfl)⟩
  · cases h
def ref01Check (p : ByteArray) : Option Int :=
 bif (seq p (bs [])) then (
 some (2 : Int)
 ) else (
 bif (decide ((p.size : Int) > (100 : Int))) then (
 some (9 : Int)
 ) else (
 (iterN (ref01Check_b6 p) LF (0 : Int)).bind fun X_1 => match X_1 with
 | .inl (v_1, b_1) => (
 some (1 : Int)
 )
 | .inr (v_1) => (
 (ref01Split p).bind fun (r_1, r_2, r_3) =>
 (iterN (ref01Check_b12 r_1) LF (0 : Int)).bind fun X_2 => match X_2 with
 | .inl (v_2, y_1) => (
 some (9 : Int)
 )
 | .inr (v_2) => (
 some (0 : Int)
 )
 )
 )
 )
set_option maxRecDepth 100000 in
theorem ref01Check_ok (k : Nat) (p : ByteArray) (r : Int) (h : ref01Check p = some r) : run0 (k + 2) 35 [(pS p)] = some (pI r) := by
  unfold ref01Check at h
  rcases bif_some h with ⟨q1, h⟩ | ⟨q1, h⟩
  · obtain rfl := Option.some.inj h
    exact ret_go (k := (k + 1)) Tryz.func35 Tryz.ntmps35 (by kernel_rfl) (by kernel_rfl) (lb rfl) (adv [([], 1, 1, .eq (pB true))]) (ex := .ret) (r := (pI (2 : Int))) (by kernel_rfl) rfl (by kernel_rfl) (allC (cg q1) allN) (by kernel_rfl) allN
  · rcases bif_some h with ⟨q2, h⟩ | ⟨q2, h⟩
    · obtain rfl := Option.some.inj h
      exact ret_go (k := (k + 1)) Tryz.func35 Tryz.ntmps35 (by kernel_rfl) (by kernel_rfl) (lb rfl) (adv [([], 1, 1, .eq (pB false)), ([], 3, 2, .eq (pB true))]) (ex := .ret) (r := (pI (9 : Int))) (by kernel_rfl) rfl (by kernel_rfl) (allC (cg q1) (allC (cg q2) allN)) (by kernel_rfl) allN
    · obtain ⟨X_1, q3, h⟩ := bnd_some h
      obtain ⟨v_1, q4, q5⟩ := loop_iter (f := run1 (k + 1) 35 0 41 ref01Check_L6) (ref01Check_S6 p) (ref01Check_b6 p) (ref01Check_t6 k p) LF (0 : Int) _ (stOf (goStop (k + 1) 35 0 41 (adv [([], 1, 1, .eq (pB false)), ([], 3, 2, .eq (pB false))]) 6 (codeOf Tryz.f35) (argS 35 [(pS p)]))) q3 (by kernel_rfl)
      unfold ref01Check_b6 at q4
      try dsimp only at q4
      rcases bif_some q4 with ⟨q8, q4⟩ | ⟨q8, q4⟩
      · obtain ⟨b_1, q9, q4⟩ := bnd_some q4
        rcases bif_some q4 with ⟨q10, q4⟩ | ⟨q10, q4⟩
        · cases q4
          try dsimp only at h
          have q6 := run_go (k := (k + 1)) (f := 35) (r0 := 0) (nt := 41) (c := ref01Check_L6) (σ := (ref01Check_S6 p v_1)) (adv [([], 6, 3, .eq (pB true)), ([], 8, 2, .chr b_1), ([], 8, 3, .eq (pB true))]) (ex := .ret) (by kernel_rfl) (by kernel_rfl) (allC (cg q8) (allC q9 (allC (cg q10) allN)))
          have q7 := q5 _ _ (by intro e; cases e) q6
          obtain rfl := Option.some.inj h
          exact ret_go (k := (k + 1)) Tryz.func35 Tryz.ntmps35 (by kernel_rfl) (by kernel_rfl) (lb rfl) (adv [([], 1, 1, .eq (pB false)), ([], 3, 2, .eq (pB false))] [([], 6, .ret, (stOf (go (k + 1) 35 0 41 (adv [([], 6, 3, .eq (pB true)), ([], 8, 2, .chr b_1), ([], 8, 3, .eq (pB true))]) ref01Check_L6 (ref01Check_S6 p v_1))))]) (ex := .ret) (r := (pI (1 : Int))) (by kernel_rfl) rfl (by kernel_rfl) (allC (cg q1) (allC (cg q2) (allC q7 allN))) (by kernel_rfl) allN
        · cases q4
      · cases q4
        try dsimp only at h
        have q6 := run_go (k := (k + 1)) (f := 35) (r0 := 0) (nt := 41) (c := ref01Check_L6) (σ := (ref01Check_S6 p v_1)) (adv [([], 6, 3, .eq (pB false))]) (ex := (.exit 0)) (by kernel_rfl) (by kernel_rfl) (allC (cg q8) allN)
        have q7 := q5 _ _ (by intro e; cases e) q6
        obtain ⟨⟨r_1, r_2, r_3⟩, q11, h⟩ := bnd_some h
        try dsimp only at h
        obtain ⟨X_2, q12, h⟩ := bnd_some h
        obtain ⟨v_2, q13, q14⟩ := loop_iter (f := run1 (k + 1) 35 0 41 ref01Check_L12) (ref01Check_S12 r_1) (ref01Check_b12 r_1) (ref01Check_t12 k r_1) LF (0 : Int) _ (stOf (goStop (k + 1) 35 0 41 (adv [([], 1, 1, .eq (pB false)), ([], 3, 2, .eq (pB false)), ([], 10, 1, .ret (.tup [(.list 1 false (r_1.map cS)), (pB r_2), (pB r_3)]))] [([], 6, (.exit 0), (stOf (go (k + 1) 35 0 41 (adv [([], 6, 3, .eq (pB false))]) ref01Check_L6 (ref01Check_S6 p v_1))))]) 12 (codeOf Tryz.f35) (argS 35 [(pS p)]))) q12 (by kernel_rfl)
        unfold ref01Check_b12 at q13
        try dsimp only at q13
        rcases bif_some q13 with ⟨q17, q13⟩ | ⟨q17, q13⟩
        · obtain ⟨y_1, q18, q13⟩ := bnd_some q13
          rcases bif_some q13 with ⟨q19, q13⟩ | ⟨q19, q13⟩
          · cases q13
            try dsimp only at h
            have q15 := run_go (k := (k + 1)) (f := 35) (r0 := 0) (nt := 41) (c := ref01Check_L12) (σ := (ref01Check_S12 r_1 v_2)) (adv [([], 12, 2, .eq (pI (r_1.length : Int))), ([], 12, 3, .eq (pB true)), ([], 14, 2, .elem [(pS y_1)]), ([], 14, 5, .eq (pB true))]) (ex := .ret) (by kernel_rfl) (by kernel_rfl) (allC (len_ob (rfl : (r_1.map cS) = r_1.map cS)) (allC (cg q17) (allC (gt_list (c := cS) q18) (allC (cg q19) allN))))
            have q16 := q14 _ _ (by intro e; cases e) q15
            obtain rfl := Option.some.inj h
            exact ret_go (k := (k + 1)) Tryz.func35 Tryz.ntmps35 (by kernel_rfl) (by kernel_rfl) (lb rfl) (adv [([], 1, 1, .eq (pB false)), ([], 3, 2, .eq (pB false)), ([], 10, 1, .ret (.tup [(.list 1 false (r_1.map cS)), (pB r_2), (pB r_3)]))] [([], 6, (.exit 0), (stOf (go (k + 1) 35 0 41 (adv [([], 6, 3, .eq (pB false))]) ref01Check_L6 (ref01Check_S6 p v_1)))), ([], 12, .ret, (stOf (go (k + 1) 35 0 41 (adv [([], 12, 2, .eq (pI (r_1.length : Int))), ([], 12, 3, .eq (pB true)), ([], 14, 2, .elem [(pS y_1)]), ([], 14, 5, .eq (pB true))]) ref01Check_L12 (ref01Check_S12 r_1 v_2))))]) (ex := .ret) (r := (pI (9 : Int))) (by kernel_rfl) rfl (by kernel_rfl) (allC (cg q1) (allC (cg q2) (allC q7 (allC (ref01Split_ok k p _ q11) (allC q16 allN))))) (by kernel_rfl) allN
          · cases q13
        · cases q13
          try dsimp only at h
          have q15 := run_go (k := (k + 1)) (f := 35) (r0 := 0) (nt := 41) (c := ref01Check_L12) (σ := (ref01Check_S12 r_1 v_2)) (adv [([], 12, 2, .eq (pI (r_1.length : Int))), ([], 12, 3, .eq (pB false))]) (ex := (.exit 2)) (by kernel_rfl) (by kernel_rfl) (allC (len_ob (rfl : (r_1.map cS) = r_1.map cS)) (allC (cg q17) allN))
          have q16 := q14 _ _ (by intro e; cases e) q15
          obtain rfl := Option.some.inj h
          exact ret_go (k := (k + 1)) Tryz.func35 Tryz.ntmps35 (by kernel_rfl) (by kernel_rfl) (lb rfl) (adv [([], 1, 1, .eq (pB false)), ([], 3, 2, .eq (pB false)), ([], 10, 1, .ret (.tup [(.list 1 false (r_1.map cS)), (pB r_2), (pB r_3)]))] [([], 6, (.exit 0), (stOf (go (k + 1) 35 0 41 (adv [([], 6, 3, .eq (pB false))]) ref01Check_L6 (ref01Check_S6 p v_1)))), ([], 12, (.exit 2), (stOf (go (k + 1) 35 0 41 (adv [([], 12, 2, .eq (pI (r_1.length : Int))), ([], 12, 3, .eq (pB false))]) ref01Check_L12 (ref01Check_S12 r_1 v_2))))]) (ex := .ret) (r := (pI (0 : Int))) (by kernel_rfl) rfl (by kernel_rfl) (allC (cg q1) (allC (cg q2) (allC q7 (allC (ref01Split_ok k p _ q11) (allC q16 allN))))) (by kernel_rfl) allN
end Go.Proofs.YtdbekeidlppfiaaGreatDoor.Den
namespace Go.Proofs.YtdbekeidlppfiaaGreatDoor.Den
open Go Go.RowKit
noncomputable def ref03Value_L2 : Code := cAt (codeOf Tryz.f77) [true, false, true, false, false]
def ref03Value_R2 (x0 : List (List PV)) (x1 : Int) (x2 : Int) : St := ⟨envL [(0, (.list 2 false x0)), (1, (.v (.int .u8 x1))), (6, (pI x2))], hsL [] []⟩
def ref03Value_S2 (p0 : (List FlagD)) (p1 : Int) : Int → St
 | v0 => ref03Value_R2 (p0.map FlagD.c) p1 v0
def ref03Value_b2 (p0 : (List FlagD)) (p1 : Int) : Int → Option (Int ⊕ ((Int × FlagD × FlagD) ⊕ Int))
 | v0 =>
 bif (decide (v0 ≥ (0 : Int))) then (
 (gt p0 v0).bind fun y_1 =>
 bif (y_1.letter == p1) then (
 (gt p0 v0).bind fun y_2 =>
 some (.inr (.inl (v0, y_1, y_2)))
 ) else (
 some (.inl (w64 (v0 - (1 : Int))))
 )
 ) else (
 some (.inr (.inr (v0)))
 )
set_option maxRecDepth 100000 in
theorem ref03Value_t2 (k : Nat) (p0 : (List FlagD)) (p1 : Int) (v0 a1 : Int) (h : ref03Value_b2 p0 p1 v0 = some (.inl a1)) : ∃ σ, run1 k 77 0 26 ref03Value_L2 (ref03Value_S2 p0 p1 v0) = some (.normal, σ) ∧ canonS 0 [0, 1, 6] σ = some (ref03Value_S2 p0 p1 a1) := by
  unfold ref03Value_b2 at h
  try dsimp only at h
  rcases bif_some h with ⟨q1, h⟩ | ⟨q1, h⟩
  · obtain ⟨y_1, q2, h⟩ := bnd_some h
    rcases bif_some h with ⟨q3, h⟩ | ⟨q3, h⟩
    · obtain ⟨y_2, q4, h⟩ := bnd_some h
      cases h
    · obtain rfl := Sum.inl.inj (Option.some.inj h)
      exact ⟨_, run_go (k := k) (f := 77) (r0 := 0) (nt := 26) (c := ref03Value_L2) (σ := (ref03Value_S2 p0 p1 v0)) (adv [([], 2, 1, .eq (pB true)), ([], 4, 2, .elem [(.v (.int .u8 y_1.letter)), (pS y_1.value)]), ([], 4, 6, .eq (pB false))]) (ex := .normal) (by kernel_rfl) (by kernel_rfl) (allC (cg q1) (allC (gt_list (c := FlagD.c) q2) (allC (cg q3) allN))), (by kernel_rfl)⟩
  · cases h
def ref03Value (l : (List FlagD)) (letter : Int) : Option (ByteArray × Bool) :=
 (iterN (ref03Value_b2 l letter) LF (w64 ((l.length : Int) - (1 : Int)))).bind fun X_1 => match X_1 with
 | .inl (v_1, y_1, y_2) => (
 some (y_2.value, true)
 )
 | .inr (v_1) => (
 some ((bs []), false)
 )
set_option maxRecDepth 100000 in
theorem ref03Value_ok (k : Nat) (l : (List FlagD)) (letter : Int) (r : (ByteArray × Bool)) (h : ref03Value l letter = some r) : run0 (k + 1) 77 [(.list 2 false (l.map FlagD.c)), (.v (.int .u8 letter))] = some (.tup [(pS r.1), (pB r.2)]) := by
  unfold ref03Value at h
  obtain ⟨X_1, q1, h⟩ := bnd_some h
  obtain ⟨v_1, q2, q3⟩ := loop_iter (f := run1 k 77 0 26 ref03Value_L2) (ref03Value_S2 l letter) (ref03Value_b2 l letter) (ref03Value_t2 k l letter) LF (w64 ((l.length : Int) - (1 : Int))) _ (stOf (goStop k 77 0 26 (adv [([], 1, 1, .eq (pI (l.length : Int)))]) 2 (codeOf Tryz.f77) (argS 77 [(.list 2 false (l.map FlagD.c)), (.v (.int .u8 letter))]))) q1 (by kernel_rfl)
  unfold ref03Value_b2 at q2
  try dsimp only at q2
  rcases bif_some q2 with ⟨q6, q2⟩ | ⟨q6, q2⟩
  · obtain ⟨y_1, q7, q2⟩ := bnd_some q2
    rcases bif_some q2 with ⟨q8, q2⟩ | ⟨q8, q2⟩
    · obtain ⟨y_2, q9, q2⟩ := bnd_some q2
      cases q2
      try dsimp only at h
      have q4 := run_go (k := k) (f := 77) (r0 := 0) (nt := 26) (c := ref03Value_L2) (σ := (ref03Value_S2 l letter v_1)) (adv [([], 2, 1, .eq (pB true)), ([], 4, 2, .elem [(.v (.int .u8 y_1.letter)), (pS y_1.value)]), ([], 4, 6, .eq (pB true)), ([], 5, 2, .elem [(.v (.int .u8 y_2.letter)), (pS y_2.value)])]) (ex := .ret) (by kernel_rfl) (by kernel_rfl) (allC (cg q6) (allC (gt_list (c := FlagD.c) q7) (allC (cg q8) (allC (gt_list (c := FlagD.c) q9) allN))))
      have q5 := q3 _ _ (by intro e; cases e) q4
      obtain rfl := Option.some.inj h
      exact ret_go (k := k) Tryz.func77 Tryz.ntmps77 (by kernel_rfl) (by kernel_rfl) (lb rfl) (adv [([], 1, 1, .eq (pI (l.length : Int)))] [([], 2, .ret, (stOf (go k 77 0 26 (adv [([], 2, 1, .eq (pB true)), ([], 4, 2, .elem [(.v (.int .u8 y_1.letter)), (pS y_1.value)]), ([], 4, 6, .eq (pB true)), ([], 5, 2, .elem [(.v (.int .u8 y_2.letter)), (pS y_2.value)])]) ref03Value_L2 (ref03Value_S2 l letter v_1))))]) (ex := .ret) (r := (.tup [(pS y_2.value), (pB true)])) (by kernel_rfl) rfl (by kernel_rfl) (allC (len_ob (rfl : (l.map FlagD.c) = l.map FlagD.c)) (allC q5 allN)) (by kernel_rfl) allN
    · cases q2
  · cases q2
    try dsimp only at h
    have q4 := run_go (k := k) (f := 77) (r0 := 0) (nt := 26) (c := ref03Value_L2) (σ := (ref03Value_S2 l letter v_1)) (adv [([], 2, 1, .eq (pB false))]) (ex := (.exit 0)) (by kernel_rfl) (by kernel_rfl) (allC (cg q6) allN)
    have q5 := q3 _ _ (by intro e; cases e) q4
    obtain rfl := Option.some.inj h
    exact ret_go (k := k) Tryz.func77 Tryz.ntmps77 (by kernel_rfl) (by kernel_rfl) (lb rfl) (adv [([], 1, 1, .eq (pI (l.length : Int)))] [([], 2, (.exit 0), (stOf (go k 77 0 26 (adv [([], 2, 1, .eq (pB false))]) ref03Value_L2 (ref03Value_S2 l letter v_1))))]) (ex := .ret) (r := (.tup [(pS (bs [])), (pB false)])) (by kernel_rfl) rfl (by kernel_rfl) (allC (len_ob (rfl : (l.map FlagD.c) = l.map FlagD.c)) (allC q5 allN)) (by kernel_rfl) allN
def ref03Has (l : (List FlagD)) (letter : Int) : Option Bool :=
 (ref03Value l letter).bind fun (r_1, r_2) =>
 some r_2
set_option maxRecDepth 100000 in
theorem ref03Has_ok (k : Nat) (l : (List FlagD)) (letter : Int) (r : Bool) (h : ref03Has l letter = some r) : run0 (k + 2) 36 [(.list 2 false (l.map FlagD.c)), (.v (.int .u8 letter))] = some (pB r) := by
  unfold ref03Has at h
  obtain ⟨⟨r_1, r_2⟩, q1, h⟩ := bnd_some h
  try dsimp only at h
  obtain rfl := Option.some.inj h
  exact ret_go (k := (k + 1)) Tryz.func36 Tryz.ntmps36 (by kernel_rfl) (by kernel_rfl) (lb rfl) (adv [([], 1, 2, .ret (.tup [(pS r_1), (pB r_2)]))]) (ex := .ret) (r := (pB r_2)) (by kernel_rfl) rfl (by kernel_rfl) (allC (ref03Value_ok k l letter _ q1) allN) (by kernel_rfl) allN
noncomputable def ref18Start_L8 : Code := cAt (codeOf Tryz.f10) [true, true, true, true, true, false, true, false, false]
def ref18Start_R8 (x0 : List (List PV)) (x1 : List (List PV)) (x2 : Int) (x3 : Int) (x4 : Int) (x5 : Int) (x6 : Int) (x7 : Int) (x8 : Int) (x9 : Int) (x10 : Int) (x11 : Int) (x12 : ByteArray) (x13 : ByteArray) (x14 : ByteArray) (x15 : List (List PV)) (x16 : List (List PV)) (x17 : List (List PV)) (x18 : Bool) (x19 : Int) (x20 : ByteArray) (x21 : Int) : St := ⟨envL [(6, (.ptr [0, TAG] 1 0 0)), (7, (.ptr [1, TAG] 1 0 0)), (8, (.list 2 false x0)), (9, (.list 1 false x1)), (11, (pI x2))], hsL [some ⟨19, 34, [[(pI (0 : Int)), (pI (0 : Int)), (pI (0 : Int)), (pI (0 : Int)), (pI (0 : Int)), (pI (0 : Int)), (pI (0 : Int)), (pI (0 : Int)), (pI (0 : Int)), (pS (bs [])), (pS (bs [])), (pS (bs [])), (.v (.slice none 0 0)), (.v (.slice none 0 0)), (.v (.slice none 0 0)), (pB false), (pI (0 : Int)), (pS (bs [])), (pI (0 : Int))]], true, false⟩, some ⟨19, 34, [[(pI x3), (pI x4), (pI x5), (pI x6), (pI x7), (pI x8), (pI x9), (pI x10), (pI x11), (pS x12), (pS x13), (pS x14), (.list 1 false x15), (.list 3 false x16), (.list 1 false x17), (pB x18), (pI x19), (pS x20), (pI x21)]], true, false⟩] [0, 0]⟩
def ref18Start_S8 (p0 : (List FlagD)) (p1 : (List ByteArray)) (p2 : Int) (p3 : Int) (p4 : Int) (p5 : Int) (p6 : Int) (p7 : Int) (p8 : Int) (p9 : Int) (p10 : Int) (p11 : ByteArray) (p12 : ByteArray) (p13 : ByteArray) (p14 : (List ByteArray)) (p15 : (List FrameD)) (p16 : (List Int)) (p17 : Bool) (p18 : Int) (p19 : ByteArray) (p20 : Int) : Int → St
 | v0 => ref18Start_R8 (p0.map FlagD.c) (p1.map cS) v0 p2 p3 p4 p5 p6 p7 p8 p9 p10 p11 p12 p13 (p14.map cS) (p15.map FrameD.c) (p16.map cI) p17 p18 p19 p20
def ref18Start_b8 (p0 : (List FlagD)) (p1 : (List ByteArray)) (p2 : Int) (p3 : Int) (p4 : Int) (p5 : Int) (p6 : Int) (p7 : Int) (p8 : Int) (p9 : Int) (p10 : Int) (p11 : ByteArray) (p12 : ByteArray) (p13 : ByteArray) (p14 : (List ByteArray)) (p15 : (List FrameD)) (p16 : (List Int)) (p17 : Bool) (p18 : Int) (p19 : ByteArray) (p20 : Int) : Int → Option (Int ⊕ ((Int × ByteArray × Int × ByteArray × JobD) ⊕ Int))
 | v0 =>
 bif (decide (v0 < (2 : Int))) then (
 (gt p1 v0).bind fun y_1 =>
 (ref01Check y_1).bind fun r_1 =>
 bif (r_1 != (0 : Int)) then (
 (gt p1 v0).bind fun y_2 =>
 (ref15Fail (JobD.mk p2 p3 p4 p5 p6 p7 p8 p9 p10 p11 p12 p13 p14 p15 p16 p17 p18 p19 p20) y_2 r_1).bind fun r_2 =>
 some (.inr (.inl (v0, y_1, r_1, y_2, r_2)))
 ) else (
 some (.inl (w64 (v0 + (1 : Int))))
 )
 ) else (
 some (.inr (.inr (v0)))
 )
set_option maxRecDepth 100000 in
theorem ref18Start_t8 (k : Nat) (p0 : (List FlagD)) (p1 : (List ByteArray)) (p2 : Int) (p3 : Int) (p4 : Int) (p5 : Int) (p6 : Int) (p7 : Int) (p8 : Int) (p9 : Int) (p10 : Int) (p11 : ByteArray) (p12 : ByteArray) (p13 : ByteArray) (p14 : (List ByteArray)) (p15 : (List FrameD)) (p16 : (List Int)) (p17 : Bool) (p18 : Int) (p19 : ByteArray) (p20 : Int) (v0 a1 : Int) (h : ref18Start_b8 p0 p1 p2 p3 p4 p5 p6 p7 p8 p9 p10 p11 p12 p13 p14 p15 p16 p17 p18 p19 p20 v0 = some (.inl a1)) : ∃ σ, run1 (k + 3) 10 0 61 ref18Start_L8 (ref18Start_S8 p0 p1 p2 p3 p4 p5 p6 p7 p8 p9 p10 p11 p12 p13 p14 p15 p16 p17 p18 p19 p20 v0) = some (.normal, σ) ∧ canonS 0 [6, 7, 8, 9, 11] σ = some (ref18Start_S8 p0 p1 p2 p3 p4 p5 p6 p7 p8 p9 p10 p11 p12 p13 p14 p15 p16 p17 p18 p19 p20 a1) := by
  unfold ref18Start_b8 at h
  try dsimp only at h
  rcases bif_some h with ⟨q1, h⟩ | ⟨q1, h⟩
  · obtain ⟨y_1, q2, h⟩ := bnd_some h
    obtain ⟨r_1, q3, h⟩ := bnd_some h
    rcases bif_some h with ⟨q4, h⟩ | ⟨q4, h⟩
    · obtain ⟨y_2, q5, h⟩ := bnd_some h
      obtain ⟨r_2, q6, h⟩ := bnd_some h
      cases h
    · obtain rfl := Sum.inl.inj (Option.some.inj h)
      exact ⟨_, run_go (k := (k + 3)) (f := 10) (r0 := 0) (nt := 61) (c := ref18Start_L8) (σ := (ref18Start_S8 p0 p1 p2 p3 p4 p5 p6 p7 p8 p9 p10 p11 p12 p13 p14 p15 p16 p17 p18 p19 p20 v0)) (adv [([], 8, 1, .eq (pB true)), ([], 10, 2, .elem [(pS y_1)]), ([], 10, 4, .ret (pI r_1)), ([], 11, 1, .eq (pB false))]) (ex := .normal) (by kernel_rfl) (by kernel_rfl) (allC (cg q1) (allC (gt_list (c := cS) q2) (allC (ref01Check_ok (k + 1) y_1 _ q3) (allC (cg q4) allN)))), (by kernel_rfl)⟩
  · cases h
def ref18Start (p : Int) (argv : (List ByteArray)) (draws : (List Int)) : Option JobD :=
 (ref15New (3 : Int) p draws).bind fun r_1 =>
 (ref03Parse (bs [82]) argv).bind fun (r_2, r_3, r_4) =>
 bif (r_4 != (0 : Int)) then (
 (ref15Fail r_1 (bs [99, 112]) r_4).bind fun r_5 =>
 some r_5
 ) else (
 bif ((r_3.length : Int) != (2 : Int)) then (
 (ref15Fail r_1 (bs [99, 112]) (1 : Int)).bind fun r_5 =>
 some r_5
 ) else (
 (iterN (ref18Start_b8 r_2 r_3 r_1.kind r_1.p r_1.phase r_1.fd r_1.nF r_1.modeF r_1.tries r_1.atF r_1.flags r_1.path r_1.path2 r_1.text r_1.names r_1.stack r_1.draws r_1.done r_1.exit r_1.out r_1.e) LF (0 : Int)).bind fun X_1 => match X_1 with
 | .inl (v_1, y_1, r_5, y_2, r_6) => (
 some r_6
 )
 | .inr (v_1) => (
 (gt r_3 (0 : Int)).bind fun y_3 =>
 (gt r_3 (1 : Int)).bind fun y_4 =>
 (ref03Has r_2 (82 : Int)).bind fun r_7 =>
 bif r_7 then (
 some (JobD.mk r_1.kind r_1.p r_1.phase r_1.fd r_1.nF r_1.modeF r_1.tries r_1.atF (1 : Int) y_3 y_4 r_1.text r_1.names r_1.stack r_1.draws r_1.done r_1.exit r_1.out r_1.e)
 ) else (
 some (JobD.mk r_1.kind r_1.p r_1.phase r_1.fd r_1.nF r_1.modeF r_1.tries r_1.atF r_1.flags y_3 y_4 r_1.text r_1.names r_1.stack r_1.draws r_1.done r_1.exit r_1.out r_1.e)
 )
 )
 )
 )
set_option maxRecDepth 100000 in
theorem ref18Start_ok (k : Nat) (p : Int) (argv : (List ByteArray)) (draws : (List Int)) (r : JobD) (h : ref18Start p argv draws = some r) : run0 (k + 4) 10 [(pI p), (.list 1 false (argv.map cS)), (.list 1 false (draws.map cI))] = some (JobD.a r) := by
  unfold ref18Start at h
  obtain ⟨r_1, q1, h⟩ := bnd_some h
  obtain ⟨⟨r_2, r_3, r_4⟩, q2, h⟩ := bnd_some h
  try dsimp only at h
  rcases bif_some h with ⟨q3, h⟩ | ⟨q3, h⟩
  · obtain ⟨r_5, q4, h⟩ := bnd_some h
    obtain rfl := Option.some.inj h
    exact ret_go (k := (k + 3)) Tryz.func10 Tryz.ntmps10 (by kernel_rfl) (by kernel_rfl) (lb rfl) (adv [([], 1, 2, .ret (JobD.a r_1)), ([], 2, 1, .ret (.tup [(.list 2 false (r_2.map FlagD.c)), (.list 1 false (r_3.map cS)), (pI r_4)])), ([], 3, 1, .eq (pB true)), ([], 4, 2, .ret (JobD.a r_5))]) (ex := .ret) (r := (JobD.a r_5)) (by kernel_rfl) rfl (by kernel_rfl) (allC (ref15New_ok (k + 2) (3 : Int) p draws _ q1) (allC (ref03Parse_ok (k + 1) (bs [82]) argv _ q2) (allC (cg q3) (allC (ref15Fail_ok k r_1 (bs [99, 112]) r_4 _ q4) allN)))) (by kernel_rfl) allN
  · rcases bif_some h with ⟨q4, h⟩ | ⟨q4, h⟩
    · obtain ⟨r_5, q5, h⟩ := bnd_some h
      obtain rfl := Option.some.inj h
      exact ret_go (k := (k + 3)) Tryz.func10 Tryz.ntmps10 (by kernel_rfl) (by kernel_rfl) (lb rfl) (adv [([], 1, 2, .ret (JobD.a r_1)), ([], 2, 1, .ret (.tup [(.list 2 false (r_2.map FlagD.c)), (.list 1 false (r_3.map cS)), (pI r_4)])), ([], 3, 1, .eq (pB false)), ([], 5, 1, .eq (pI (r_3.length : Int))), ([], 5, 2, .eq (pB true)), ([], 6, 1, .ret (JobD.a r_5))]) (ex := .ret) (r := (JobD.a r_5)) (by kernel_rfl) rfl (by kernel_rfl) (allC (ref15New_ok (k + 2) (3 : Int) p draws _ q1) (allC (ref03Parse_ok (k + 1) (bs [82]) argv _ q2) (allC (cg q3) (allC (len_ob (rfl : (r_3.map cS) = r_3.map cS)) (allC (cg q4) (allC (ref15Fail_ok k r_1 (bs [99, 112]) (1 : Int) _ q5) allN)))))) (by kernel_rfl) allN
    · obtain ⟨X_1, q5, h⟩ := bnd_some h
      obtain ⟨v_1, q6, q7⟩ := loop_iter (f := run1 (k + 3) 10 0 61 ref18Start_L8) (ref18Start_S8 r_2 r_3 r_1.kind r_1.p r_1.phase r_1.fd r_1.nF r_1.modeF r_1.tries r_1.atF r_1.flags r_1.path r_1.path2 r_1.text r_1.names r_1.stack r_1.draws r_1.done r_1.exit r_1.out r_1.e) (ref18Start_b8 r_2 r_3 r_1.kind r_1.p r_1.phase r_1.fd r_1.nF r_1.modeF r_1.tries r_1.atF r_1.flags r_1.path r_1.path2 r_1.text r_1.names r_1.stack r_1.draws r_1.done r_1.exit r_1.out r_1.e) (ref18Start_t8 k r_2 r_3 r_1.kind r_1.p r_1.phase r_1.fd r_1.nF r_1.modeF r_1.tries r_1.atF r_1.flags r_1.path r_1.path2 r_1.text r_1.names r_1.stack r_1.draws r_1.done r_1.exit r_1.out r_1.e) LF (0 : Int) _ (stOf (goStop (k + 3) 10 0 61 (adv [([], 1, 2, .ret (JobD.a r_1)), ([], 2, 1, .ret (.tup [(.list 2 false (r_2.map FlagD.c)), (.list 1 false (r_3.map cS)), (pI r_4)])), ([], 3, 1, .eq (pB false)), ([], 5, 1, .eq (pI (r_3.length : Int))), ([], 5, 2, .eq (pB false))]) 8 (codeOf Tryz.f10) (argS 10 [(pI p), (.list 1 false (argv.map cS)), (.list 1 false (draws.map cI))]))) q5 (by kernel_rfl)
      unfold ref18Start_b8 at q6
      try dsimp only at q6
      rcases bif_some q6 with ⟨q10, q6⟩ | ⟨q10, q6⟩
      · obtain ⟨y_1, q11, q6⟩ := bnd_some q6
        obtain ⟨r_5, q12, q6⟩ := bnd_some q6
        rcases bif_some q6 with ⟨q13, q6⟩ | ⟨q13, q6⟩
        · obtain ⟨y_2, q14, q6⟩ := bnd_some q6
          obtain ⟨r_6, q15, q6⟩ := bnd_some q6
          cases q6
          try dsimp only at h
          have q8 := run_go (k := (k + 3)) (f := 10) (r0 := 0) (nt := 61) (c := ref18Start_L8) (σ := (ref18Start_S8 r_2 r_3 r_1.kind r_1.p r_1.phase r_1.fd r_1.nF r_1.modeF r_1.tries r_1.atF r_1.flags r_1.path r_1.path2 r_1.text r_1.names r_1.stack r_1.draws r_1.done r_1.exit r_1.out r_1.e v_1)) (adv [([], 8, 1, .eq (pB true)), ([], 10, 2, .elem [(pS y_1)]), ([], 10, 4, .ret (pI r_5)), ([], 11, 1, .eq (pB true)), ([], 12, 3, .elem [(pS y_2)]), ([], 12, 6, .ret (JobD.a r_6))]) (ex := .ret) (by kernel_rfl) (by kernel_rfl) (allC (cg q10) (allC (gt_list (c := cS) q11) (allC (ref01Check_ok (k + 1) y_1 _ q12) (allC (cg q13) (allC (gt_list (c := cS) q14) (allC (ref15Fail_ok k r_1 y_2 r_5 _ q15) allN))))))
          have q9 := q7 _ _ (by intro e; cases e) q8
          obtain rfl := Option.some.inj h
          exact ret_go (k := (k + 3)) Tryz.func10 Tryz.ntmps10 (by kernel_rfl) (by kernel_rfl) (lb rfl) (adv [([], 1, 2, .ret (JobD.a r_1)), ([], 2, 1, .ret (.tup [(.list 2 false (r_2.map FlagD.c)), (.list 1 false (r_3.map cS)), (pI r_4)])), ([], 3, 1, .eq (pB false)), ([], 5, 1, .eq (pI (r_3.length : Int))), ([], 5, 2, .eq (pB false))] [([], 8, .ret, (stOf (go (k + 3) 10 0 61 (adv [([], 8, 1, .eq (pB true)), ([], 10, 2, .elem [(pS y_1)]), ([], 10, 4, .ret (pI r_5)), ([], 11, 1, .eq (pB true)), ([], 12, 3, .elem [(pS y_2)]), ([], 12, 6, .ret (JobD.a r_6))]) ref18Start_L8 (ref18Start_S8 r_2 r_3 r_1.kind r_1.p r_1.phase r_1.fd r_1.nF r_1.modeF r_1.tries r_1.atF r_1.flags r_1.path r_1.path2 r_1.text r_1.names r_1.stack r_1.draws r_1.done r_1.exit r_1.out r_1.e v_1))))]) (ex := .ret) (r := (JobD.a r_6)) (by kernel_rfl) rfl (by kernel_rfl) (allC (ref15New_ok (k + 2) (3 : Int) p draws _ q1) (allC (ref03Parse_ok (k + 1) (bs [82]) argv _ q2) (allC (cg q3) (allC (len_ob (rfl : (r_3.map cS) = r_3.map cS)) (allC (cg q4) (allC q9 allN)))))) (by kernel_rfl) allN
        · cases q6
      · cases q6
        try dsimp only at h
        have q8 := run_go (k := (k + 3)) (f := 10) (r0 := 0) (nt := 61) (c := ref18Start_L8) (σ := (ref18Start_S8 r_2 r_3 r_1.kind r_1.p r_1.phase r_1.fd r_1.nF r_1.modeF r_1.tries r_1.atF r_1.flags r_1.path r_1.path2 r_1.text r_1.names r_1.stack r_1.draws r_1.done r_1.exit r_1.out r_1.e v_1)) (adv [([], 8, 1, .eq (pB false))]) (ex := (.exit 0)) (by kernel_rfl) (by kernel_rfl) (allC (cg q10) allN)
        have q9 := q7 _ _ (by intro e; cases e) q8
        obtain ⟨y_3, q16, h⟩ := bnd_some h
        obtain ⟨y_4, q17, h⟩ := bnd_some h
        obtain ⟨r_7, q18, h⟩ := bnd_some h
        rcases bif_some h with ⟨q19, h⟩ | ⟨q19, h⟩
        · revert h; subst q19; intro h
          obtain rfl := Option.some.inj h
          exact ret_go (k := (k + 3)) Tryz.func10 Tryz.ntmps10 (by kernel_rfl) (by kernel_rfl) (lb rfl) (adv [([], 1, 2, .ret (JobD.a r_1)), ([], 2, 1, .ret (.tup [(.list 2 false (r_2.map FlagD.c)), (.list 1 false (r_3.map cS)), (pI r_4)])), ([], 3, 1, .eq (pB false)), ([], 5, 1, .eq (pI (r_3.length : Int))), ([], 5, 2, .eq (pB false)), ([], 13, 1, .elem [(pS y_3)]), ([], 14, 1, .elem [(pS y_4)]), ([], 15, 1, .ret (pB true))] [([], 8, (.exit 0), (stOf (go (k + 3) 10 0 61 (adv [([], 8, 1, .eq (pB false))]) ref18Start_L8 (ref18Start_S8 r_2 r_3 r_1.kind r_1.p r_1.phase r_1.fd r_1.nF r_1.modeF r_1.tries r_1.atF r_1.flags r_1.path r_1.path2 r_1.text r_1.names r_1.stack r_1.draws r_1.done r_1.exit r_1.out r_1.e v_1))))]) (ex := .ret) (r := (.agg [(pI r_1.kind), (pI r_1.p), (pI r_1.phase), (pI r_1.fd), (pI r_1.nF), (pI r_1.modeF), (pI r_1.tries), (pI r_1.atF), (pI (1 : Int)), (pS y_3), (pS y_4), (pS r_1.text), (.list 1 false (r_1.names.map cS)), (.list 3 false (r_1.stack.map FrameD.c)), (.list 1 false (r_1.draws.map cI)), (pB r_1.done), (pI r_1.exit), (pS r_1.out), (pI r_1.e)])) (by kernel_rfl) rfl (by kernel_rfl) (allC (ref15New_ok (k + 2) (3 : Int) p draws _ q1) (allC (ref03Parse_ok (k + 1) (bs [82]) argv _ q2) (allC (cg q3) (allC (len_ob (rfl : (r_3.map cS) = r_3.map cS)) (allC (cg q4) (allC q9 (allC (gt_list (c := cS) q16) (allC (gt_list (c := cS) q17) (allC (ref03Has_ok (k + 1) r_2 (82 : Int) _ q18) allN))))))))) (by kernel_rfl) allN
        · revert h; subst q19; intro h
          obtain rfl := Option.some.inj h
          exact ret_go (k := (k + 3)) Tryz.func10 Tryz.ntmps10 (by kernel_rfl) (by kernel_rfl) (lb rfl) (adv [([], 1, 2, .ret (JobD.a r_1)), ([], 2, 1, .ret (.tup [(.list 2 false (r_2.map FlagD.c)), (.list 1 false (r_3.map cS)), (pI r_4)])), ([], 3, 1, .eq (pB false)), ([], 5, 1, .eq (pI (r_3.length : Int))), ([], 5, 2, .eq (pB false)), ([], 13, 1, .elem [(pS y_3)]), ([], 14, 1, .elem [(pS y_4)]), ([], 15, 1, .ret (pB false))] [([], 8, (.exit 0), (stOf (go (k + 3) 10 0 61 (adv [([], 8, 1, .eq (pB false))]) ref18Start_L8 (ref18Start_S8 r_2 r_3 r_1.kind r_1.p r_1.phase r_1.fd r_1.nF r_1.modeF r_1.tries r_1.atF r_1.flags r_1.path r_1.path2 r_1.text r_1.names r_1.stack r_1.draws r_1.done r_1.exit r_1.out r_1.e v_1))))]) (ex := .ret) (r := (.agg [(pI r_1.kind), (pI r_1.p), (pI r_1.phase), (pI r_1.fd), (pI r_1.nF), (pI r_1.modeF), (pI r_1.tries), (pI r_1.atF), (pI r_1.flags), (pS y_3), (pS y_4), (pS r_1.text), (.list 1 false (r_1.names.map cS)), (.list 3 false (r_1.stack.map FrameD.c)), (.list 1 false (r_1.draws.map cI)), (pB r_1.done), (pI r_1.exit), (pS r_1.out), (pI r_1.e)])) (by kernel_rfl) rfl (by kernel_rfl) (allC (ref15New_ok (k + 2) (3 : Int) p draws _ q1) (allC (ref03Parse_ok (k + 1) (bs [82]) argv _ q2) (allC (cg q3) (allC (len_ob (rfl : (r_3.map cS) = r_3.map cS)) (allC (cg q4) (allC q9 (allC (gt_list (c := cS) q16) (allC (gt_list (c := cS) q17) (allC (ref03Has_ok (k + 1) r_2 (82 : Int) _ q18) allN))))))))) (by kernel_rfl) allN
noncomputable def ref01Texts_L4 : Code := cAt (codeOf Tryz.f29) [true, true, false, true, false, false]
def ref01Texts_R4 (x0 : List (List PV)) (x1 : List (List PV)) (x2 : Int) : St := ⟨envL [(0, (.list 1 false x0)), (1, (.list 1 false x1)), (5, (pI x2))], hsL [] []⟩
def ref01Texts_S4 (p0 : (List ByteArray)) (p1 : (List ByteArray)) : Int → St
 | v0 => ref01Texts_R4 (p0.map cS) (p1.map cS) v0
def ref01Texts_b4 (p0 : (List ByteArray)) (p1 : (List ByteArray)) : Int → Option (Int ⊕ ((Int × ByteArray × ByteArray) ⊕ Int))
 | v0 =>
 bif (decide (v0 < (p0.length : Int))) then (
 (gt p0 v0).bind fun y_1 =>
 (gt p1 v0).bind fun y_2 =>
 bif (!(seq y_1 y_2)) then (
 some (.inr (.inl (v0, y_1, y_2)))
 ) else (
 some (.inl (w64 (v0 + (1 : Int))))
 )
 ) else (
 some (.inr (.inr (v0)))
 )
set_option maxRecDepth 100000 in
theorem ref01Texts_t4 (k : Nat) (p0 : (List ByteArray)) (p1 : (List ByteArray)) (v0 a1 : Int) (h : ref01Texts_b4 p0 p1 v0 = some (.inl a1)) : ∃ σ, run1 k 29 0 26 ref01Texts_L4 (ref01Texts_S4 p0 p1 v0) = some (.normal, σ) ∧ canonS 0 [0, 1, 5] σ = some (ref01Texts_S4 p0 p1 a1) := by
  unfold ref01Texts_b4 at h
  try dsimp only at h
  rcases bif_some h with ⟨q1, h⟩ | ⟨q1, h⟩
  · obtain ⟨y_1, q2, h⟩ := bnd_some h
    obtain ⟨y_2, q3, h⟩ := bnd_some h
    rcases bif_some h with ⟨q4, h⟩ | ⟨q4, h⟩
    · cases h
    · obtain rfl := Sum.inl.inj (Option.some.inj h)
      exact ⟨_, run_go (k := k) (f := 29) (r0 := 0) (nt := 26) (c := ref01Texts_L4) (σ := (ref01Texts_S4 p0 p1 v0)) (adv [([], 4, 2, .eq (pI (p0.length : Int))), ([], 4, 3, .eq (pB true)), ([], 6, 2, .elem [(pS y_1)]), ([], 6, 6, .elem [(pS y_2)]), ([], 6, 8, .eq (pB false))]) (ex := .normal) (by kernel_rfl) (by kernel_rfl) (allC (len_ob (rfl : (p0.map cS) = p0.map cS)) (allC (cg q1) (allC (gt_list (c := cS) q2) (allC (gt_list (c := cS) q3) (allC (cg q4) allN))))), (by kernel_rfl)⟩
  · cases h
def ref01Texts (a : (List ByteArray)) (b : (List ByteArray)) : Option Bool :=
 bif ((a.length : Int) != (b.length : Int)) then (
 some false
 ) else (
 (iterN (ref01Texts_b4 a b) LF (0 : Int)).bind fun X_1 => match X_1 with
 | .inl (v_1, y_1, y_2) => (
 some false
 )
 | .inr (v_1) => (
 some true
 )
 )
set_option maxRecDepth 100000 in
theorem ref01Texts_ok (k : Nat) (a : (List ByteArray)) (b : (List ByteArray)) (r : Bool) (h : ref01Texts a b = some r) : run0 (k + 1) 29 [(.list 1 false (a.map cS)), (.list 1 false (b.map cS))] = some (pB r) := by
  unfold ref01Texts at h
  rcases bif_some h with ⟨q1, h⟩ | ⟨q1, h⟩
  · obtain rfl := Option.some.inj h
    exact ret_go (k := k) Tryz.func29 Tryz.ntmps29 (by kernel_rfl) (by kernel_rfl) (lb rfl) (adv [([], 1, 1, .eq (pI (a.length : Int))), ([], 1, 3, .eq (pI (b.length : Int))), ([], 1, 4, .eq (pB true))]) (ex := .ret) (r := (pB false)) (by kernel_rfl) rfl (by kernel_rfl) (allC (len_ob (rfl : (a.map cS) = a.map cS)) (allC (len_ob (rfl : (b.map cS) = b.map cS)) (allC (cg q1) allN))) (by kernel_rfl) allN
  · obtain ⟨X_1, q2, h⟩ := bnd_some h
    obtain ⟨v_1, q3, q4⟩ := loop_iter (f := run1 k 29 0 26 ref01Texts_L4) (ref01Texts_S4 a b) (ref01Texts_b4 a b) (ref01Texts_t4 k a b) LF (0 : Int) _ (stOf (goStop k 29 0 26 (adv [([], 1, 1, .eq (pI (a.length : Int))), ([], 1, 3, .eq (pI (b.length : Int))), ([], 1, 4, .eq (pB false))]) 4 (codeOf Tryz.f29) (argS 29 [(.list 1 false (a.map cS)), (.list 1 false (b.map cS))]))) q2 (by kernel_rfl)
    unfold ref01Texts_b4 at q3
    try dsimp only at q3
    rcases bif_some q3 with ⟨q7, q3⟩ | ⟨q7, q3⟩
    · obtain ⟨y_1, q8, q3⟩ := bnd_some q3
      obtain ⟨y_2, q9, q3⟩ := bnd_some q3
      rcases bif_some q3 with ⟨q10, q3⟩ | ⟨q10, q3⟩
      · cases q3
        try dsimp only at h
        have q5 := run_go (k := k) (f := 29) (r0 := 0) (nt := 26) (c := ref01Texts_L4) (σ := (ref01Texts_S4 a b v_1)) (adv [([], 4, 2, .eq (pI (a.length : Int))), ([], 4, 3, .eq (pB true)), ([], 6, 2, .elem [(pS y_1)]), ([], 6, 6, .elem [(pS y_2)]), ([], 6, 8, .eq (pB true))]) (ex := .ret) (by kernel_rfl) (by kernel_rfl) (allC (len_ob (rfl : (a.map cS) = a.map cS)) (allC (cg q7) (allC (gt_list (c := cS) q8) (allC (gt_list (c := cS) q9) (allC (cg q10) allN)))))
        have q6 := q4 _ _ (by intro e; cases e) q5
        obtain rfl := Option.some.inj h
        exact ret_go (k := k) Tryz.func29 Tryz.ntmps29 (by kernel_rfl) (by kernel_rfl) (lb rfl) (adv [([], 1, 1, .eq (pI (a.length : Int))), ([], 1, 3, .eq (pI (b.length : Int))), ([], 1, 4, .eq (pB false))] [([], 4, .ret, (stOf (go k 29 0 26 (adv [([], 4, 2, .eq (pI (a.length : Int))), ([], 4, 3, .eq (pB true)), ([], 6, 2, .elem [(pS y_1)]), ([], 6, 6, .elem [(pS y_2)]), ([], 6, 8, .eq (pB true))]) ref01Texts_L4 (ref01Texts_S4 a b v_1))))]) (ex := .ret) (r := (pB false)) (by kernel_rfl) rfl (by kernel_rfl) (allC (len_ob (rfl : (a.map cS) = a.map cS)) (allC (len_ob (rfl : (b.map cS) = b.map cS)) (allC (cg q1) (allC q6 allN)))) (by kernel_rfl) allN
      · cases q3
    · cases q3
      try dsimp only at h
      have q5 := run_go (k := k) (f := 29) (r0 := 0) (nt := 26) (c := ref01Texts_L4) (σ := (ref01Texts_S4 a b v_1)) (adv [([], 4, 2, .eq (pI (a.length : Int))), ([], 4, 3, .eq (pB false))]) (ex := (.exit 0)) (by kernel_rfl) (by kernel_rfl) (allC (len_ob (rfl : (a.map cS) = a.map cS)) (allC (cg q7) allN))
      have q6 := q4 _ _ (by intro e; cases e) q5
      obtain rfl := Option.some.inj h
      exact ret_go (k := k) Tryz.func29 Tryz.ntmps29 (by kernel_rfl) (by kernel_rfl) (lb rfl) (adv [([], 1, 1, .eq (pI (a.length : Int))), ([], 1, 3, .eq (pI (b.length : Int))), ([], 1, 4, .eq (pB false))] [([], 4, (.exit 0), (stOf (go k 29 0 26 (adv [([], 4, 2, .eq (pI (a.length : Int))), ([], 4, 3, .eq (pB false))]) ref01Texts_L4 (ref01Texts_S4 a b v_1))))]) (ex := .ret) (r := (pB true)) (by kernel_rfl) rfl (by kernel_rfl) (allC (len_ob (rfl : (a.map cS) = a.map cS)) (allC (len_ob (rfl : (b.map cS) = b.map cS)) (allC (cg q1) (allC q6 allN)))) (by kernel_rfl) allN
end Go.Proofs.YtdbekeidlppfiaaGreatDoor.Den
namespace Go.Proofs.YtdbekeidlppfiaaGreatDoor.Den
open Go Go.RowKit
noncomputable def ref15Frames_L4 : Code := cAt (codeOf Tryz.f30) [true, true, false, true, false, false]
def ref15Frames_R4 (x0 : List (List PV)) (x1 : List (List PV)) (x2 : Int) : St := ⟨envL [(0, (.list 3 false x0)), (1, (.list 3 false x1)), (5, (pI x2))], hsL [] []⟩
def ref15Frames_S4 (p0 : (List FrameD)) (p1 : (List FrameD)) : Int → St
 | v0 => ref15Frames_R4 (p0.map FrameD.c) (p1.map FrameD.c) v0
def ref15Frames_b4 (p0 : (List FrameD)) (p1 : (List FrameD)) : Int → Option (Int ⊕ ((Int × FrameD × FrameD) ⊕ (Int × FrameD × FrameD × FrameD × FrameD) ⊕ (Int × FrameD × FrameD × FrameD × FrameD × FrameD × FrameD × Bool) ⊕ Int))
 | v0 =>
 bif (decide (v0 < (p0.length : Int))) then (
 (gt p0 v0).bind fun y_1 =>
 (gt p1 v0).bind fun y_2 =>
 bif (y_1.fd != y_2.fd) then (
 some (.inr (.inl (v0, y_1, y_2)))
 ) else (
 (gt p0 v0).bind fun y_3 =>
 (gt p1 v0).bind fun y_4 =>
 bif (!(seq y_3.name y_4.name)) then (
 some (.inr (.inr (.inl (v0, y_1, y_2, y_3, y_4))))
 ) else (
 (gt p0 v0).bind fun y_5 =>
 (gt p1 v0).bind fun y_6 =>
 (ref01Texts y_5.names y_6.names).bind fun r_1 =>
 bif (!r_1) then (
 some (.inr (.inr (.inr (.inl (v0, y_1, y_2, y_3, y_4, y_5, y_6, r_1)))))
 ) else (
 some (.inl (w64 (v0 + (1 : Int))))
 )
 )
 )
 ) else (
 some (.inr (.inr (.inr (.inr (v0)))))
 )
set_option maxRecDepth 100000 in
theorem ref15Frames_t4 (k : Nat) (p0 : (List FrameD)) (p1 : (List FrameD)) (v0 a1 : Int) (h : ref15Frames_b4 p0 p1 v0 = some (.inl a1)) : ∃ σ, run1 (k + 1) 30 0 55 ref15Frames_L4 (ref15Frames_S4 p0 p1 v0) = some (.normal, σ) ∧ canonS 0 [0, 1, 5] σ = some (ref15Frames_S4 p0 p1 a1) := by
  unfold ref15Frames_b4 at h
  try dsimp only at h
  rcases bif_some h with ⟨q1, h⟩ | ⟨q1, h⟩
  · obtain ⟨y_1, q2, h⟩ := bnd_some h
    obtain ⟨y_2, q3, h⟩ := bnd_some h
    rcases bif_some h with ⟨q4, h⟩ | ⟨q4, h⟩
    · cases h
    · obtain ⟨y_3, q5, h⟩ := bnd_some h
      obtain ⟨y_4, q6, h⟩ := bnd_some h
      rcases bif_some h with ⟨q7, h⟩ | ⟨q7, h⟩
      · cases h
      · obtain ⟨y_5, q8, h⟩ := bnd_some h
        obtain ⟨y_6, q9, h⟩ := bnd_some h
        obtain ⟨r_1, q10, h⟩ := bnd_some h
        rcases bif_some h with ⟨q11, h⟩ | ⟨q11, h⟩
        · cases h
        · obtain rfl := Sum.inl.inj (Option.some.inj h)
          exact ⟨_, run_go (k := (k + 1)) (f := 30) (r0 := 0) (nt := 55) (c := ref15Frames_L4) (σ := (ref15Frames_S4 p0 p1 v0)) (adv [([], 4, 2, .eq (pI (p0.length : Int))), ([], 4, 3, .eq (pB true)), ([], 6, 2, .elem [(pI y_1.fd), (pS y_1.name), (.list 1 false (y_1.names.map cS))]), ([], 6, 7, .elem [(pI y_2.fd), (pS y_2.name), (.list 1 false (y_2.names.map cS))]), ([], 6, 11, .eq (pB false)), ([], 6, 14, .elem [(pI y_3.fd), (pS y_3.name), (.list 1 false (y_3.names.map cS))]), ([], 6, 19, .elem [(pI y_4.fd), (pS y_4.name), (.list 1 false (y_4.names.map cS))]), ([], 6, 24, .eq (pB false)), ([], 6, 27, .elem [(pI y_5.fd), (pS y_5.name), (.list 1 false (y_5.names.map cS))]), ([], 6, 32, .elem [(pI y_6.fd), (pS y_6.name), (.list 1 false (y_6.names.map cS))]), ([], 6, 35, .ret (pB r_1)), ([], 6, 37, .eq (pB false))]) (ex := .normal) (by kernel_rfl) (by kernel_rfl) (allC (len_ob (rfl : (p0.map FrameD.c) = p0.map FrameD.c)) (allC (cg q1) (allC (gt_list (c := FrameD.c) q2) (allC (gt_list (c := FrameD.c) q3) (allC (cg q4) (allC (gt_list (c := FrameD.c) q5) (allC (gt_list (c := FrameD.c) q6) (allC (cg q7) (allC (gt_list (c := FrameD.c) q8) (allC (gt_list (c := FrameD.c) q9) (allC (ref01Texts_ok k y_5.names y_6.names _ q10) (allC (cg q11) allN)))))))))))), (by kernel_rfl)⟩
  · cases h
def ref15Frames (a : (List FrameD)) (b : (List FrameD)) : Option Bool :=
 bif ((a.length : Int) != (b.length : Int)) then (
 some false
 ) else (
 (iterN (ref15Frames_b4 a b) LF (0 : Int)).bind fun X_1 => match X_1 with
 | .inl (v_1, y_1, y_2) => (
 some false
 )
 | .inr (.inl (v_1, y_1, y_2, y_3, y_4)) => (
 some false
 )
 | .inr (.inr (.inl (v_1, y_1, y_2, y_3, y_4, y_5, y_6, r_1))) => (
 some false
 )
 | .inr (.inr (.inr (v_1))) => (
 some true
 )
 )
set_option maxRecDepth 100000 in
theorem ref15Frames_ok (k : Nat) (a : (List FrameD)) (b : (List FrameD)) (r : Bool) (h : ref15Frames a b = some r) : run0 (k + 2) 30 [(.list 3 false (a.map FrameD.c)), (.list 3 false (b.map FrameD.c))] = some (pB r) := by
  unfold ref15Frames at h
  rcases bif_some h with ⟨q1, h⟩ | ⟨q1, h⟩
  · obtain rfl := Option.some.inj h
    exact ret_go (k := (k + 1)) Tryz.func30 Tryz.ntmps30 (by kernel_rfl) (by kernel_rfl) (lb rfl) (adv [([], 1, 1, .eq (pI (a.length : Int))), ([], 1, 3, .eq (pI (b.length : Int))), ([], 1, 4, .eq (pB true))]) (ex := .ret) (r := (pB false)) (by kernel_rfl) rfl (by kernel_rfl) (allC (len_ob (rfl : (a.map FrameD.c) = a.map FrameD.c)) (allC (len_ob (rfl : (b.map FrameD.c) = b.map FrameD.c)) (allC (cg q1) allN))) (by kernel_rfl) allN
  · obtain ⟨X_1, q2, h⟩ := bnd_some h
    obtain ⟨v_1, q3, q4⟩ := loop_iter (f := run1 (k + 1) 30 0 55 ref15Frames_L4) (ref15Frames_S4 a b) (ref15Frames_b4 a b) (ref15Frames_t4 k a b) LF (0 : Int) _ (stOf (goStop (k + 1) 30 0 55 (adv [([], 1, 1, .eq (pI (a.length : Int))), ([], 1, 3, .eq (pI (b.length : Int))), ([], 1, 4, .eq (pB false))]) 4 (codeOf Tryz.f30) (argS 30 [(.list 3 false (a.map FrameD.c)), (.list 3 false (b.map FrameD.c))]))) q2 (by kernel_rfl)
    unfold ref15Frames_b4 at q3
    try dsimp only at q3
    rcases bif_some q3 with ⟨q7, q3⟩ | ⟨q7, q3⟩
    · obtain ⟨y_1, q8, q3⟩ := bnd_some q3
      obtain ⟨y_2, q9, q3⟩ := bnd_some q3
      rcases bif_some q3 with ⟨q10, q3⟩ | ⟨q10, q3⟩
      · cases q3
        try dsimp only at h
        have q5 := run_go (k := (k + 1)) (f := 30) (r0 := 0) (nt := 55) (c := ref15Frames_L4) (σ := (ref15Frames_S4 a b v_1)) (adv [([], 4, 2, .eq (pI (a.length : Int))), ([], 4, 3, .eq (pB true)), ([], 6, 2, .elem [(pI y_1.fd), (pS y_1.name), (.list 1 false (y_1.names.map cS))]), ([], 6, 7, .elem [(pI y_2.fd), (pS y_2.name), (.list 1 false (y_2.names.map cS))]), ([], 6, 11, .eq (pB true))]) (ex := .ret) (by kernel_rfl) (by kernel_rfl) (allC (len_ob (rfl : (a.map FrameD.c) = a.map FrameD.c)) (allC (cg q7) (allC (gt_list (c := FrameD.c) q8) (allC (gt_list (c := FrameD.c) q9) (allC (cg q10) allN)))))
        have q6 := q4 _ _ (by intro e; cases e) q5
        obtain rfl := Option.some.inj h
        exact ret_go (k := (k + 1)) Tryz.func30 Tryz.ntmps30 (by kernel_rfl) (by kernel_rfl) (lb rfl) (adv [([], 1, 1, .eq (pI (a.length : Int))), ([], 1, 3, .eq (pI (b.length : Int))), ([], 1, 4, .eq (pB false))] [([], 4, .ret, (stOf (go (k + 1) 30 0 55 (adv [([], 4, 2, .eq (pI (a.length : Int))), ([], 4, 3, .eq (pB true)), ([], 6, 2, .elem [(pI y_1.fd), (pS y_1.name), (.list 1 false (y_1.names.map cS))]), ([], 6, 7, .elem [(pI y_2.fd), (pS y_2.name), (.list 1 false (y_2.names.map cS))]), ([], 6, 11, .eq (pB true))]) ref15Frames_L4 (ref15Frames_S4 a b v_1))))]) (ex := .ret) (r := (pB false)) (by kernel_rfl) rfl (by kernel_rfl) (allC (len_ob (rfl : (a.map FrameD.c) = a.map FrameD.c)) (allC (len_ob (rfl : (b.map FrameD.c) = b.map FrameD.c)) (allC (cg q1) (allC q6 allN)))) (by kernel_rfl) allN
      · obtain ⟨y_3, q11, q3⟩ := bnd_some q3
        obtain ⟨y_4, q12, q3⟩ := bnd_some q3
        rcases bif_some q3 with ⟨q13, q3⟩ | ⟨q13, q3⟩
        · cases q3
          try dsimp only at h
          have q5 := run_go (k := (k + 1)) (f := 30) (r0 := 0) (nt := 55) (c := ref15Frames_L4) (σ := (ref15Frames_S4 a b v_1)) (adv [([], 4, 2, .eq (pI (a.length : Int))), ([], 4, 3, .eq (pB true)), ([], 6, 2, .elem [(pI y_1.fd), (pS y_1.name), (.list 1 false (y_1.names.map cS))]), ([], 6, 7, .elem [(pI y_2.fd), (pS y_2.name), (.list 1 false (y_2.names.map cS))]), ([], 6, 11, .eq (pB false)), ([], 6, 14, .elem [(pI y_3.fd), (pS y_3.name), (.list 1 false (y_3.names.map cS))]), ([], 6, 19, .elem [(pI y_4.fd), (pS y_4.name), (.list 1 false (y_4.names.map cS))]), ([], 6, 24, .eq (pB true))]) (ex := .ret) (by kernel_rfl) (by kernel_rfl) (allC (len_ob (rfl : (a.map FrameD.c) = a.map FrameD.c)) (allC (cg q7) (allC (gt_list (c := FrameD.c) q8) (allC (gt_list (c := FrameD.c) q9) (allC (cg q10) (allC (gt_list (c := FrameD.c) q11) (allC (gt_list (c := FrameD.c) q12) (allC (cg q13) allN))))))))
          have q6 := q4 _ _ (by intro e; cases e) q5
          obtain rfl := Option.some.inj h
          exact ret_go (k := (k + 1)) Tryz.func30 Tryz.ntmps30 (by kernel_rfl) (by kernel_rfl) (lb rfl) (adv [([], 1, 1, .eq (pI (a.length : Int))), ([], 1, 3, .eq (pI (b.length : Int))), ([], 1, 4, .eq (pB false))] [([], 4, .ret, (stOf (go (k + 1) 30 0 55 (adv [([], 4, 2, .eq (pI (a.length : Int))), ([], 4, 3, .eq (pB true)), ([], 6, 2, .elem [(pI y_1.fd), (pS y_1.name), (.list 1 false (y_1.names.map cS))]), ([], 6, 7, .elem [(pI y_2.fd), (pS y_2.name), (.list 1 false (y_2.names.map cS))]), ([], 6, 11, .eq (pB false)), ([], 6, 14, .elem [(pI y_3.fd), (pS y_3.name), (.list 1 false (y_3.names.map cS))]), ([], 6, 19, .elem [(pI y_4.fd), (pS y_4.name), (.list 1 false (y_4.names.map cS))]), ([], 6, 24, .eq (pB true))]) ref15Frames_L4 (ref15Frames_S4 a b v_1))))]) (ex := .ret) (r := (pB false)) (by kernel_rfl) rfl (by kernel_rfl) (allC (len_ob (rfl : (a.map FrameD.c) = a.map FrameD.c)) (allC (len_ob (rfl : (b.map FrameD.c) = b.map FrameD.c)) (allC (cg q1) (allC q6 allN)))) (by kernel_rfl) allN
        · obtain ⟨y_5, q14, q3⟩ := bnd_some q3
          obtain ⟨y_6, q15, q3⟩ := bnd_some q3
          obtain ⟨r_1, q16, q3⟩ := bnd_some q3
          rcases bif_some q3 with ⟨q17, q3⟩ | ⟨q17, q3⟩
          · cases q3
            try dsimp only at h
            have q5 := run_go (k := (k + 1)) (f := 30) (r0 := 0) (nt := 55) (c := ref15Frames_L4) (σ := (ref15Frames_S4 a b v_1)) (adv [([], 4, 2, .eq (pI (a.length : Int))), ([], 4, 3, .eq (pB true)), ([], 6, 2, .elem [(pI y_1.fd), (pS y_1.name), (.list 1 false (y_1.names.map cS))]), ([], 6, 7, .elem [(pI y_2.fd), (pS y_2.name), (.list 1 false (y_2.names.map cS))]), ([], 6, 11, .eq (pB false)), ([], 6, 14, .elem [(pI y_3.fd), (pS y_3.name), (.list 1 false (y_3.names.map cS))]), ([], 6, 19, .elem [(pI y_4.fd), (pS y_4.name), (.list 1 false (y_4.names.map cS))]), ([], 6, 24, .eq (pB false)), ([], 6, 27, .elem [(pI y_5.fd), (pS y_5.name), (.list 1 false (y_5.names.map cS))]), ([], 6, 32, .elem [(pI y_6.fd), (pS y_6.name), (.list 1 false (y_6.names.map cS))]), ([], 6, 35, .ret (pB r_1)), ([], 6, 37, .eq (pB true))]) (ex := .ret) (by kernel_rfl) (by kernel_rfl) (allC (len_ob (rfl : (a.map FrameD.c) = a.map FrameD.c)) (allC (cg q7) (allC (gt_list (c := FrameD.c) q8) (allC (gt_list (c := FrameD.c) q9) (allC (cg q10) (allC (gt_list (c := FrameD.c) q11) (allC (gt_list (c := FrameD.c) q12) (allC (cg q13) (allC (gt_list (c := FrameD.c) q14) (allC (gt_list (c := FrameD.c) q15) (allC (ref01Texts_ok k y_5.names y_6.names _ q16) (allC (cg q17) allN))))))))))))
            have q6 := q4 _ _ (by intro e; cases e) q5
            obtain rfl := Option.some.inj h
            exact ret_go (k := (k + 1)) Tryz.func30 Tryz.ntmps30 (by kernel_rfl) (by kernel_rfl) (lb rfl) (adv [([], 1, 1, .eq (pI (a.length : Int))), ([], 1, 3, .eq (pI (b.length : Int))), ([], 1, 4, .eq (pB false))] [([], 4, .ret, (stOf (go (k + 1) 30 0 55 (adv [([], 4, 2, .eq (pI (a.length : Int))), ([], 4, 3, .eq (pB true)), ([], 6, 2, .elem [(pI y_1.fd), (pS y_1.name), (.list 1 false (y_1.names.map cS))]), ([], 6, 7, .elem [(pI y_2.fd), (pS y_2.name), (.list 1 false (y_2.names.map cS))]), ([], 6, 11, .eq (pB false)), ([], 6, 14, .elem [(pI y_3.fd), (pS y_3.name), (.list 1 false (y_3.names.map cS))]), ([], 6, 19, .elem [(pI y_4.fd), (pS y_4.name), (.list 1 false (y_4.names.map cS))]), ([], 6, 24, .eq (pB false)), ([], 6, 27, .elem [(pI y_5.fd), (pS y_5.name), (.list 1 false (y_5.names.map cS))]), ([], 6, 32, .elem [(pI y_6.fd), (pS y_6.name), (.list 1 false (y_6.names.map cS))]), ([], 6, 35, .ret (pB r_1)), ([], 6, 37, .eq (pB true))]) ref15Frames_L4 (ref15Frames_S4 a b v_1))))]) (ex := .ret) (r := (pB false)) (by kernel_rfl) rfl (by kernel_rfl) (allC (len_ob (rfl : (a.map FrameD.c) = a.map FrameD.c)) (allC (len_ob (rfl : (b.map FrameD.c) = b.map FrameD.c)) (allC (cg q1) (allC q6 allN)))) (by kernel_rfl) allN
          · cases q3
    · cases q3
      try dsimp only at h
      have q5 := run_go (k := (k + 1)) (f := 30) (r0 := 0) (nt := 55) (c := ref15Frames_L4) (σ := (ref15Frames_S4 a b v_1)) (adv [([], 4, 2, .eq (pI (a.length : Int))), ([], 4, 3, .eq (pB false))]) (ex := (.exit 0)) (by kernel_rfl) (by kernel_rfl) (allC (len_ob (rfl : (a.map FrameD.c) = a.map FrameD.c)) (allC (cg q7) allN))
      have q6 := q4 _ _ (by intro e; cases e) q5
      obtain rfl := Option.some.inj h
      exact ret_go (k := (k + 1)) Tryz.func30 Tryz.ntmps30 (by kernel_rfl) (by kernel_rfl) (lb rfl) (adv [([], 1, 1, .eq (pI (a.length : Int))), ([], 1, 3, .eq (pI (b.length : Int))), ([], 1, 4, .eq (pB false))] [([], 4, (.exit 0), (stOf (go (k + 1) 30 0 55 (adv [([], 4, 2, .eq (pI (a.length : Int))), ([], 4, 3, .eq (pB false))]) ref15Frames_L4 (ref15Frames_S4 a b v_1))))]) (ex := .ret) (r := (pB true)) (by kernel_rfl) rfl (by kernel_rfl) (allC (len_ob (rfl : (a.map FrameD.c) = a.map FrameD.c)) (allC (len_ob (rfl : (b.map FrameD.c) = b.map FrameD.c)) (allC (cg q1) (allC q6 allN)))) (by kernel_rfl) allN
noncomputable def ref15Ints_L4 : Code := cAt (codeOf Tryz.f31) [true, true, false, true, false, false]
def ref15Ints_R4 (x0 : List (List PV)) (x1 : List (List PV)) (x2 : Int) : St := ⟨envL [(0, (.list 1 false x0)), (1, (.list 1 false x1)), (5, (pI x2))], hsL [] []⟩
def ref15Ints_S4 (p0 : (List Int)) (p1 : (List Int)) : Int → St
 | v0 => ref15Ints_R4 (p0.map cI) (p1.map cI) v0
def ref15Ints_b4 (p0 : (List Int)) (p1 : (List Int)) : Int → Option (Int ⊕ ((Int × Int × Int) ⊕ Int))
 | v0 =>
 bif (decide (v0 < (p0.length : Int))) then (
 (gt p0 v0).bind fun y_1 =>
 (gt p1 v0).bind fun y_2 =>
 bif (y_1 != y_2) then (
 some (.inr (.inl (v0, y_1, y_2)))
 ) else (
 some (.inl (w64 (v0 + (1 : Int))))
 )
 ) else (
 some (.inr (.inr (v0)))
 )
set_option maxRecDepth 100000 in
theorem ref15Ints_t4 (k : Nat) (p0 : (List Int)) (p1 : (List Int)) (v0 a1 : Int) (h : ref15Ints_b4 p0 p1 v0 = some (.inl a1)) : ∃ σ, run1 k 31 0 26 ref15Ints_L4 (ref15Ints_S4 p0 p1 v0) = some (.normal, σ) ∧ canonS 0 [0, 1, 5] σ = some (ref15Ints_S4 p0 p1 a1) := by
  unfold ref15Ints_b4 at h
  try dsimp only at h
  rcases bif_some h with ⟨q1, h⟩ | ⟨q1, h⟩
  · obtain ⟨y_1, q2, h⟩ := bnd_some h
    obtain ⟨y_2, q3, h⟩ := bnd_some h
    rcases bif_some h with ⟨q4, h⟩ | ⟨q4, h⟩
    · cases h
    · obtain rfl := Sum.inl.inj (Option.some.inj h)
      exact ⟨_, run_go (k := k) (f := 31) (r0 := 0) (nt := 26) (c := ref15Ints_L4) (σ := (ref15Ints_S4 p0 p1 v0)) (adv [([], 4, 2, .eq (pI (p0.length : Int))), ([], 4, 3, .eq (pB true)), ([], 6, 2, .elem [(pI y_1)]), ([], 6, 6, .elem [(pI y_2)]), ([], 6, 8, .eq (pB false))]) (ex := .normal) (by kernel_rfl) (by kernel_rfl) (allC (len_ob (rfl : (p0.map cI) = p0.map cI)) (allC (cg q1) (allC (gt_list (c := cI) q2) (allC (gt_list (c := cI) q3) (allC (cg q4) allN))))), (by kernel_rfl)⟩
  · cases h
def ref15Ints (a : (List Int)) (b : (List Int)) : Option Bool :=
 bif ((a.length : Int) != (b.length : Int)) then (
 some false
 ) else (
 (iterN (ref15Ints_b4 a b) LF (0 : Int)).bind fun X_1 => match X_1 with
 | .inl (v_1, y_1, y_2) => (
 some false
 )
 | .inr (v_1) => (
 some true
 )
 )
set_option maxRecDepth 100000 in
theorem ref15Ints_ok (k : Nat) (a : (List Int)) (b : (List Int)) (r : Bool) (h : ref15Ints a b = some r) : run0 (k + 1) 31 [(.list 1 false (a.map cI)), (.list 1 false (b.map cI))] = some (pB r) := by
  unfold ref15Ints at h
  rcases bif_some h with ⟨q1, h⟩ | ⟨q1, h⟩
  · obtain rfl := Option.some.inj h
    exact ret_go (k := k) Tryz.func31 Tryz.ntmps31 (by kernel_rfl) (by kernel_rfl) (lb rfl) (adv [([], 1, 1, .eq (pI (a.length : Int))), ([], 1, 3, .eq (pI (b.length : Int))), ([], 1, 4, .eq (pB true))]) (ex := .ret) (r := (pB false)) (by kernel_rfl) rfl (by kernel_rfl) (allC (len_ob (rfl : (a.map cI) = a.map cI)) (allC (len_ob (rfl : (b.map cI) = b.map cI)) (allC (cg q1) allN))) (by kernel_rfl) allN
  · obtain ⟨X_1, q2, h⟩ := bnd_some h
    obtain ⟨v_1, q3, q4⟩ := loop_iter (f := run1 k 31 0 26 ref15Ints_L4) (ref15Ints_S4 a b) (ref15Ints_b4 a b) (ref15Ints_t4 k a b) LF (0 : Int) _ (stOf (goStop k 31 0 26 (adv [([], 1, 1, .eq (pI (a.length : Int))), ([], 1, 3, .eq (pI (b.length : Int))), ([], 1, 4, .eq (pB false))]) 4 (codeOf Tryz.f31) (argS 31 [(.list 1 false (a.map cI)), (.list 1 false (b.map cI))]))) q2 (by kernel_rfl)
    unfold ref15Ints_b4 at q3
    try dsimp only at q3
    rcases bif_some q3 with ⟨q7, q3⟩ | ⟨q7, q3⟩
    · obtain ⟨y_1, q8, q3⟩ := bnd_some q3
      obtain ⟨y_2, q9, q3⟩ := bnd_some q3
      rcases bif_some q3 with ⟨q10, q3⟩ | ⟨q10, q3⟩
      · cases q3
        try dsimp only at h
        have q5 := run_go (k := k) (f := 31) (r0 := 0) (nt := 26) (c := ref15Ints_L4) (σ := (ref15Ints_S4 a b v_1)) (adv [([], 4, 2, .eq (pI (a.length : Int))), ([], 4, 3, .eq (pB true)), ([], 6, 2, .elem [(pI y_1)]), ([], 6, 6, .elem [(pI y_2)]), ([], 6, 8, .eq (pB true))]) (ex := .ret) (by kernel_rfl) (by kernel_rfl) (allC (len_ob (rfl : (a.map cI) = a.map cI)) (allC (cg q7) (allC (gt_list (c := cI) q8) (allC (gt_list (c := cI) q9) (allC (cg q10) allN)))))
        have q6 := q4 _ _ (by intro e; cases e) q5
        obtain rfl := Option.some.inj h
        exact ret_go (k := k) Tryz.func31 Tryz.ntmps31 (by kernel_rfl) (by kernel_rfl) (lb rfl) (adv [([], 1, 1, .eq (pI (a.length : Int))), ([], 1, 3, .eq (pI (b.length : Int))), ([], 1, 4, .eq (pB false))] [([], 4, .ret, (stOf (go k 31 0 26 (adv [([], 4, 2, .eq (pI (a.length : Int))), ([], 4, 3, .eq (pB true)), ([], 6, 2, .elem [(pI y_1)]), ([], 6, 6, .elem [(pI y_2)]), ([], 6, 8, .eq (pB true))]) ref15Ints_L4 (ref15Ints_S4 a b v_1))))]) (ex := .ret) (r := (pB false)) (by kernel_rfl) rfl (by kernel_rfl) (allC (len_ob (rfl : (a.map cI) = a.map cI)) (allC (len_ob (rfl : (b.map cI) = b.map cI)) (allC (cg q1) (allC q6 allN)))) (by kernel_rfl) allN
      · cases q3
    · cases q3
      try dsimp only at h
      have q5 := run_go (k := k) (f := 31) (r0 := 0) (nt := 26) (c := ref15Ints_L4) (σ := (ref15Ints_S4 a b v_1)) (adv [([], 4, 2, .eq (pI (a.length : Int))), ([], 4, 3, .eq (pB false))]) (ex := (.exit 0)) (by kernel_rfl) (by kernel_rfl) (allC (len_ob (rfl : (a.map cI) = a.map cI)) (allC (cg q7) allN))
      have q6 := q4 _ _ (by intro e; cases e) q5
      obtain rfl := Option.some.inj h
      exact ret_go (k := k) Tryz.func31 Tryz.ntmps31 (by kernel_rfl) (by kernel_rfl) (lb rfl) (adv [([], 1, 1, .eq (pI (a.length : Int))), ([], 1, 3, .eq (pI (b.length : Int))), ([], 1, 4, .eq (pB false))] [([], 4, (.exit 0), (stOf (go k 31 0 26 (adv [([], 4, 2, .eq (pI (a.length : Int))), ([], 4, 3, .eq (pB false))]) ref15Ints_L4 (ref15Ints_S4 a b v_1))))]) (ex := .ret) (r := (pB true)) (by kernel_rfl) rfl (by kernel_rfl) (allC (len_ob (rfl : (a.map cI) = a.map cI)) (allC (len_ob (rfl : (b.map cI) = b.map cI)) (allC (cg q1) (allC q6 allN)))) (by kernel_rfl) allN
end Go.Proofs.YtdbekeidlppfiaaGreatDoor.Den
namespace Go.Proofs.YtdbekeidlppfiaaGreatDoor.Den
open Go Go.RowKit
def ref15Same (a : JobD) (b : JobD) : Option Bool :=
 (ref01Texts a.names b.names).bind fun r_1 =>
 bif (!r_1) then (
 some false
 ) else (
 (ref15Frames a.stack b.stack).bind fun r_2 =>
 bif (!r_2) then (
 some false
 ) else (
 (ref15Ints a.draws b.draws).bind fun r_3 =>
 bif (!r_3) then (
 some false
 ) else (
 bif (a.kind == b.kind) then (
 bif (a.p == b.p) then (
 bif (a.phase == b.phase) then (
 bif (a.fd == b.fd) then (
 bif (a.nF == b.nF) then (
 bif (a.modeF == b.modeF) then (
 bif (a.tries == b.tries) then (
 bif (a.atF == b.atF) then (
 bif (a.flags == b.flags) then (
 bif (seq a.path b.path) then (
 bif (seq a.path2 b.path2) then (
 bif (seq a.text b.text) then (
 bif (a.done == b.done) then (
 bif (a.exit == b.exit) then (
 bif (seq a.out b.out) then (
 some (a.e == b.e)
 ) else (
 some false
 )
 ) else (
 some false
 )
 ) else (
 some false
 )
 ) else (
 some false
 )
 ) else (
 some false
 )
 ) else (
 some false
 )
 ) else (
 some false
 )
 ) else (
 some false
 )
 ) else (
 some false
 )
 ) else (
 some false
 )
 ) else (
 some false
 )
 ) else (
 some false
 )
 ) else (
 some false
 )
 ) else (
 some false
 )
 ) else (
 some false
 )
 )
 )
 )
set_option maxRecDepth 100000 in
theorem ref15Same_ok (k : Nat) (a : JobD) (b : JobD) (r : Bool) (h : ref15Same a b = some r) : run0 (k + 3) 8 [(JobD.a a), (JobD.a b)] = some (pB r) := by
  unfold ref15Same at h
  obtain ⟨r_1, q1, h⟩ := bnd_some h
  rcases bif_some h with ⟨q2, h⟩ | ⟨q2, h⟩
  · obtain rfl := Option.some.inj h
    exact ret_go (k := (k + 2)) Tryz.func8 Tryz.ntmps8 (by kernel_rfl) (by kernel_rfl) (lb rfl) (adv [([], 1, 4, .ret (pB r_1)), ([], 1, 6, .eq (pB true))]) (ex := .ret) (r := (pB false)) (by kernel_rfl) rfl (by kernel_rfl) (allC (ref01Texts_ok (k + 1) a.names b.names _ q1) (allC (cg q2) allN)) (by kernel_rfl) allN
  · obtain ⟨r_2, q3, h⟩ := bnd_some h
    rcases bif_some h with ⟨q4, h⟩ | ⟨q4, h⟩
    · obtain rfl := Option.some.inj h
      exact ret_go (k := (k + 2)) Tryz.func8 Tryz.ntmps8 (by kernel_rfl) (by kernel_rfl) (lb rfl) (adv [([], 1, 4, .ret (pB r_1)), ([], 1, 6, .eq (pB false)), ([], 1, 11, .ret (pB r_2)), ([], 1, 14, .eq (pB true))]) (ex := .ret) (r := (pB false)) (by kernel_rfl) rfl (by kernel_rfl) (allC (ref01Texts_ok (k + 1) a.names b.names _ q1) (allC (cg q2) (allC (ref15Frames_ok k a.stack b.stack _ q3) (allC (cg q4) allN)))) (by kernel_rfl) allN
    · obtain ⟨r_3, q5, h⟩ := bnd_some h
      rcases bif_some h with ⟨q6, h⟩ | ⟨q6, h⟩
      · obtain rfl := Option.some.inj h
        exact ret_go (k := (k + 2)) Tryz.func8 Tryz.ntmps8 (by kernel_rfl) (by kernel_rfl) (lb rfl) (adv [([], 1, 4, .ret (pB r_1)), ([], 1, 6, .eq (pB false)), ([], 1, 11, .ret (pB r_2)), ([], 1, 14, .eq (pB false)), ([], 1, 19, .ret (pB r_3)), ([], 1, 21, .eq (pB true))]) (ex := .ret) (r := (pB false)) (by kernel_rfl) rfl (by kernel_rfl) (allC (ref01Texts_ok (k + 1) a.names b.names _ q1) (allC (cg q2) (allC (ref15Frames_ok k a.stack b.stack _ q3) (allC (cg q4) (allC (ref15Ints_ok (k + 1) a.draws b.draws _ q5) (allC (cg q6) allN)))))) (by kernel_rfl) allN
      · rcases bif_some h with ⟨q7, h⟩ | ⟨q7, h⟩
        · rcases bif_some h with ⟨q8, h⟩ | ⟨q8, h⟩
          · rcases bif_some h with ⟨q9, h⟩ | ⟨q9, h⟩
            · rcases bif_some h with ⟨q10, h⟩ | ⟨q10, h⟩
              · rcases bif_some h with ⟨q11, h⟩ | ⟨q11, h⟩
                · rcases bif_some h with ⟨q12, h⟩ | ⟨q12, h⟩
                  · rcases bif_some h with ⟨q13, h⟩ | ⟨q13, h⟩
                    · rcases bif_some h with ⟨q14, h⟩ | ⟨q14, h⟩
                      · rcases bif_some h with ⟨q15, h⟩ | ⟨q15, h⟩
                        · rcases bif_some h with ⟨q16, h⟩ | ⟨q16, h⟩
                          · rcases bif_some h with ⟨q17, h⟩ | ⟨q17, h⟩
                            · rcases bif_some h with ⟨q18, h⟩ | ⟨q18, h⟩
                              · rcases bif_some h with ⟨q19, h⟩ | ⟨q19, h⟩
                                · rcases bif_some h with ⟨q20, h⟩ | ⟨q20, h⟩
                                  · rcases bif_some h with ⟨q21, h⟩ | ⟨q21, h⟩
                                    · obtain rfl := Option.some.inj h
                                      exact ret_go (k := (k + 2)) Tryz.func8 Tryz.ntmps8 (by kernel_rfl) (by kernel_rfl) (lb rfl) (adv [([], 1, 4, .ret (pB r_1)), ([], 1, 6, .eq (pB false)), ([], 1, 11, .ret (pB r_2)), ([], 1, 14, .eq (pB false)), ([], 1, 19, .ret (pB r_3)), ([], 1, 21, .eq (pB false)), ([], 3, 5, .eq (pB true)), ([], 3, 12, .eq (pB true)), ([], 3, 19, .eq (pB true)), ([], 3, 26, .eq (pB true)), ([], 3, 33, .eq (pB true)), ([], 3, 40, .eq (pB true)), ([], 3, 47, .eq (pB true)), ([], 3, 54, .eq (pB true)), ([], 4, 1, .eq (pB true)), ([], 4, 8, .eq (pB true)), ([], 4, 15, .eq (pB true)), ([], 4, 22, .eq (pB true)), ([], 4, 29, .eq (pB true)), ([], 4, 36, .eq (pB true)), ([], 4, 43, .eq (pB true))]) (ex := .ret) (r := (pB (a.e == b.e))) (by kernel_rfl) rfl (by kernel_rfl) (allC (ref01Texts_ok (k + 1) a.names b.names _ q1) (allC (cg q2) (allC (ref15Frames_ok k a.stack b.stack _ q3) (allC (cg q4) (allC (ref15Ints_ok (k + 1) a.draws b.draws _ q5) (allC (cg q6) (allC (cg q7) (allC (cg q8) (allC (cg q9) (allC (cg q10) (allC (cg q11) (allC (cg q12) (allC (cg q13) (allC (cg q14) (allC (cg q15) (allC (cg q16) (allC (cg q17) (allC (cg q18) (allC (cg q19) (allC (cg q20) (allC (cg q21) allN))))))))))))))))))))) (by kernel_rfl) allN
                                    · obtain rfl := Option.some.inj h
                                      exact ret_go (k := (k + 2)) Tryz.func8 Tryz.ntmps8 (by kernel_rfl) (by kernel_rfl) (lb rfl) (adv [([], 1, 4, .ret (pB r_1)), ([], 1, 6, .eq (pB false)), ([], 1, 11, .ret (pB r_2)), ([], 1, 14, .eq (pB false)), ([], 1, 19, .ret (pB r_3)), ([], 1, 21, .eq (pB false)), ([], 3, 5, .eq (pB true)), ([], 3, 12, .eq (pB true)), ([], 3, 19, .eq (pB true)), ([], 3, 26, .eq (pB true)), ([], 3, 33, .eq (pB true)), ([], 3, 40, .eq (pB true)), ([], 3, 47, .eq (pB true)), ([], 3, 54, .eq (pB true)), ([], 4, 1, .eq (pB true)), ([], 4, 8, .eq (pB true)), ([], 4, 15, .eq (pB true)), ([], 4, 22, .eq (pB true)), ([], 4, 29, .eq (pB true)), ([], 4, 36, .eq (pB true)), ([], 4, 43, .eq (pB false))]) (ex := .ret) (r := (pB false)) (by kernel_rfl) rfl (by kernel_rfl) (allC (ref01Texts_ok (k + 1) a.names b.names _ q1) (allC (cg q2) (allC (ref15Frames_ok k a.stack b.stack _ q3) (allC (cg q4) (allC (ref15Ints_ok (k + 1) a.draws b.draws _ q5) (allC (cg q6) (allC (cg q7) (allC (cg q8) (allC (cg q9) (allC (cg q10) (allC (cg q11) (allC (cg q12) (allC (cg q13) (allC (cg q14) (allC (cg q15) (allC (cg q16) (allC (cg q17) (allC (cg q18) (allC (cg q19) (allC (cg q20) (allC (cg q21) allN))))))))))))))))))))) (by kernel_rfl) allN
                                  · obtain rfl := Option.some.inj h
                                    exact ret_go (k := (k + 2)) Tryz.func8 Tryz.ntmps8 (by kernel_rfl) (by kernel_rfl) (lb rfl) (adv [([], 1, 4, .ret (pB r_1)), ([], 1, 6, .eq (pB false)), ([], 1, 11, .ret (pB r_2)), ([], 1, 14, .eq (pB false)), ([], 1, 19, .ret (pB r_3)), ([], 1, 21, .eq (pB false)), ([], 3, 5, .eq (pB true)), ([], 3, 12, .eq (pB true)), ([], 3, 19, .eq (pB true)), ([], 3, 26, .eq (pB true)), ([], 3, 33, .eq (pB true)), ([], 3, 40, .eq (pB true)), ([], 3, 47, .eq (pB true)), ([], 3, 54, .eq (pB true)), ([], 4, 1, .eq (pB true)), ([], 4, 8, .eq (pB true)), ([], 4, 15, .eq (pB true)), ([], 4, 22, .eq (pB true)), ([], 4, 29, .eq (pB true)), ([], 4, 36, .eq (pB false))]) (ex := .ret) (r := (pB false)) (by kernel_rfl) rfl (by kernel_rfl) (allC (ref01Texts_ok (k + 1) a.names b.names _ q1) (allC (cg q2) (allC (ref15Frames_ok k a.stack b.stack _ q3) (allC (cg q4) (allC (ref15Ints_ok (k + 1) a.draws b.draws _ q5) (allC (cg q6) (allC (cg q7) (allC (cg q8) (allC (cg q9) (allC (cg q10) (allC (cg q11) (allC (cg q12) (allC (cg q13) (allC (cg q14) (allC (cg q15) (allC (cg q16) (allC (cg q17) (allC (cg q18) (allC (cg q19) (allC (cg q20) allN)))))))))))))))))))) (by kernel_rfl) allN
                                · obtain rfl := Option.some.inj h
                                  exact ret_go (k := (k + 2)) Tryz.func8 Tryz.ntmps8 (by kernel_rfl) (by kernel_rfl) (lb rfl) (adv [([], 1, 4, .ret (pB r_1)), ([], 1, 6, .eq (pB false)), ([], 1, 11, .ret (pB r_2)), ([], 1, 14, .eq (pB false)), ([], 1, 19, .ret (pB r_3)), ([], 1, 21, .eq (pB false)), ([], 3, 5, .eq (pB true)), ([], 3, 12, .eq (pB true)), ([], 3, 19, .eq (pB true)), ([], 3, 26, .eq (pB true)), ([], 3, 33, .eq (pB true)), ([], 3, 40, .eq (pB true)), ([], 3, 47, .eq (pB true)), ([], 3, 54, .eq (pB true)), ([], 4, 1, .eq (pB true)), ([], 4, 8, .eq (pB true)), ([], 4, 15, .eq (pB true)), ([], 4, 22, .eq (pB true)), ([], 4, 29, .eq (pB false))]) (ex := .ret) (r := (pB false)) (by kernel_rfl) rfl (by kernel_rfl) (allC (ref01Texts_ok (k + 1) a.names b.names _ q1) (allC (cg q2) (allC (ref15Frames_ok k a.stack b.stack _ q3) (allC (cg q4) (allC (ref15Ints_ok (k + 1) a.draws b.draws _ q5) (allC (cg q6) (allC (cg q7) (allC (cg q8) (allC (cg q9) (allC (cg q10) (allC (cg q11) (allC (cg q12) (allC (cg q13) (allC (cg q14) (allC (cg q15) (allC (cg q16) (allC (cg q17) (allC (cg q18) (allC (cg q19) allN))))))))))))))))))) (by kernel_rfl) allN
                              · obtain rfl := Option.some.inj h
                                exact ret_go (k := (k + 2)) Tryz.func8 Tryz.ntmps8 (by kernel_rfl) (by kernel_rfl) (lb rfl) (adv [([], 1, 4, .ret (pB r_1)), ([], 1, 6, .eq (pB false)), ([], 1, 11, .ret (pB r_2)), ([], 1, 14, .eq (pB false)), ([], 1, 19, .ret (pB r_3)), ([], 1, 21, .eq (pB false)), ([], 3, 5, .eq (pB true)), ([], 3, 12, .eq (pB true)), ([], 3, 19, .eq (pB true)), ([], 3, 26, .eq (pB true)), ([], 3, 33, .eq (pB true)), ([], 3, 40, .eq (pB true)), ([], 3, 47, .eq (pB true)), ([], 3, 54, .eq (pB true)), ([], 4, 1, .eq (pB true)), ([], 4, 8, .eq (pB true)), ([], 4, 15, .eq (pB true)), ([], 4, 22, .eq (pB false))]) (ex := .ret) (r := (pB false)) (by kernel_rfl) rfl (by kernel_rfl) (allC (ref01Texts_ok (k + 1) a.names b.names _ q1) (allC (cg q2) (allC (ref15Frames_ok k a.stack b.stack _ q3) (allC (cg q4) (allC (ref15Ints_ok (k + 1) a.draws b.draws _ q5) (allC (cg q6) (allC (cg q7) (allC (cg q8) (allC (cg q9) (allC (cg q10) (allC (cg q11) (allC (cg q12) (allC (cg q13) (allC (cg q14) (allC (cg q15) (allC (cg q16) (allC (cg q17) (allC (cg q18) allN)))))))))))))))))) (by kernel_rfl) allN
                            · obtain rfl := Option.some.inj h
                              exact ret_go (k := (k + 2)) Tryz.func8 Tryz.ntmps8 (by kernel_rfl) (by kernel_rfl) (lb rfl) (adv [([], 1, 4, .ret (pB r_1)), ([], 1, 6, .eq (pB false)), ([], 1, 11, .ret (pB r_2)), ([], 1, 14, .eq (pB false)), ([], 1, 19, .ret (pB r_3)), ([], 1, 21, .eq (pB false)), ([], 3, 5, .eq (pB true)), ([], 3, 12, .eq (pB true)), ([], 3, 19, .eq (pB true)), ([], 3, 26, .eq (pB true)), ([], 3, 33, .eq (pB true)), ([], 3, 40, .eq (pB true)), ([], 3, 47, .eq (pB true)), ([], 3, 54, .eq (pB true)), ([], 4, 1, .eq (pB true)), ([], 4, 8, .eq (pB true)), ([], 4, 15, .eq (pB false))]) (ex := .ret) (r := (pB false)) (by kernel_rfl) rfl (by kernel_rfl) (allC (ref01Texts_ok (k + 1) a.names b.names _ q1) (allC (cg q2) (allC (ref15Frames_ok k a.stack b.stack _ q3) (allC (cg q4) (allC (ref15Ints_ok (k + 1) a.draws b.draws _ q5) (allC (cg q6) (allC (cg q7) (allC (cg q8) (allC (cg q9) (allC (cg q10) (allC (cg q11) (allC (cg q12) (allC (cg q13) (allC (cg q14) (allC (cg q15) (allC (cg q16) (allC (cg q17) allN))))))))))))))))) (by kernel_rfl) allN
                          · obtain rfl := Option.some.inj h
                            exact ret_go (k := (k + 2)) Tryz.func8 Tryz.ntmps8 (by kernel_rfl) (by kernel_rfl) (lb rfl) (adv [([], 1, 4, .ret (pB r_1)), ([], 1, 6, .eq (pB false)), ([], 1, 11, .ret (pB r_2)), ([], 1, 14, .eq (pB false)), ([], 1, 19, .ret (pB r_3)), ([], 1, 21, .eq (pB false)), ([], 3, 5, .eq (pB true)), ([], 3, 12, .eq (pB true)), ([], 3, 19, .eq (pB true)), ([], 3, 26, .eq (pB true)), ([], 3, 33, .eq (pB true)), ([], 3, 40, .eq (pB true)), ([], 3, 47, .eq (pB true)), ([], 3, 54, .eq (pB true)), ([], 4, 1, .eq (pB true)), ([], 4, 8, .eq (pB false))]) (ex := .ret) (r := (pB false)) (by kernel_rfl) rfl (by kernel_rfl) (allC (ref01Texts_ok (k + 1) a.names b.names _ q1) (allC (cg q2) (allC (ref15Frames_ok k a.stack b.stack _ q3) (allC (cg q4) (allC (ref15Ints_ok (k + 1) a.draws b.draws _ q5) (allC (cg q6) (allC (cg q7) (allC (cg q8) (allC (cg q9) (allC (cg q10) (allC (cg q11) (allC (cg q12) (allC (cg q13) (allC (cg q14) (allC (cg q15) (allC (cg q16) allN)))))))))))))))) (by kernel_rfl) allN
                        · obtain rfl := Option.some.inj h
                          exact ret_go (k := (k + 2)) Tryz.func8 Tryz.ntmps8 (by kernel_rfl) (by kernel_rfl) (lb rfl) (adv [([], 1, 4, .ret (pB r_1)), ([], 1, 6, .eq (pB false)), ([], 1, 11, .ret (pB r_2)), ([], 1, 14, .eq (pB false)), ([], 1, 19, .ret (pB r_3)), ([], 1, 21, .eq (pB false)), ([], 3, 5, .eq (pB true)), ([], 3, 12, .eq (pB true)), ([], 3, 19, .eq (pB true)), ([], 3, 26, .eq (pB true)), ([], 3, 33, .eq (pB true)), ([], 3, 40, .eq (pB true)), ([], 3, 47, .eq (pB true)), ([], 3, 54, .eq (pB true)), ([], 4, 1, .eq (pB false))]) (ex := .ret) (r := (pB false)) (by kernel_rfl) rfl (by kernel_rfl) (allC (ref01Texts_ok (k + 1) a.names b.names _ q1) (allC (cg q2) (allC (ref15Frames_ok k a.stack b.stack _ q3) (allC (cg q4) (allC (ref15Ints_ok (k + 1) a.draws b.draws _ q5) (allC (cg q6) (allC (cg q7) (allC (cg q8) (allC (cg q9) (allC (cg q10) (allC (cg q11) (allC (cg q12) (allC (cg q13) (allC (cg q14) (allC (cg q15) allN))))))))))))))) (by kernel_rfl) allN
                      · obtain rfl := Option.some.inj h
                        exact ret_go (k := (k + 2)) Tryz.func8 Tryz.ntmps8 (by kernel_rfl) (by kernel_rfl) (lb rfl) (adv [([], 1, 4, .ret (pB r_1)), ([], 1, 6, .eq (pB false)), ([], 1, 11, .ret (pB r_2)), ([], 1, 14, .eq (pB false)), ([], 1, 19, .ret (pB r_3)), ([], 1, 21, .eq (pB false)), ([], 3, 5, .eq (pB true)), ([], 3, 12, .eq (pB true)), ([], 3, 19, .eq (pB true)), ([], 3, 26, .eq (pB true)), ([], 3, 33, .eq (pB true)), ([], 3, 40, .eq (pB true)), ([], 3, 47, .eq (pB true)), ([], 3, 54, .eq (pB false))]) (ex := .ret) (r := (pB false)) (by kernel_rfl) rfl (by kernel_rfl) (allC (ref01Texts_ok (k + 1) a.names b.names _ q1) (allC (cg q2) (allC (ref15Frames_ok k a.stack b.stack _ q3) (allC (cg q4) (allC (ref15Ints_ok (k + 1) a.draws b.draws _ q5) (allC (cg q6) (allC (cg q7) (allC (cg q8) (allC (cg q9) (allC (cg q10) (allC (cg q11) (allC (cg q12) (allC (cg q13) (allC (cg q14) allN)))))))))))))) (by kernel_rfl) allN
                    · obtain rfl := Option.some.inj h
                      exact ret_go (k := (k + 2)) Tryz.func8 Tryz.ntmps8 (by kernel_rfl) (by kernel_rfl) (lb rfl) (adv [([], 1, 4, .ret (pB r_1)), ([], 1, 6, .eq (pB false)), ([], 1, 11, .ret (pB r_2)), ([], 1, 14, .eq (pB false)), ([], 1, 19, .ret (pB r_3)), ([], 1, 21, .eq (pB false)), ([], 3, 5, .eq (pB true)), ([], 3, 12, .eq (pB true)), ([], 3, 19, .eq (pB true)), ([], 3, 26, .eq (pB true)), ([], 3, 33, .eq (pB true)), ([], 3, 40, .eq (pB true)), ([], 3, 47, .eq (pB false))]) (ex := .ret) (r := (pB false)) (by kernel_rfl) rfl (by kernel_rfl) (allC (ref01Texts_ok (k + 1) a.names b.names _ q1) (allC (cg q2) (allC (ref15Frames_ok k a.stack b.stack _ q3) (allC (cg q4) (allC (ref15Ints_ok (k + 1) a.draws b.draws _ q5) (allC (cg q6) (allC (cg q7) (allC (cg q8) (allC (cg q9) (allC (cg q10) (allC (cg q11) (allC (cg q12) (allC (cg q13) allN))))))))))))) (by kernel_rfl) allN
                  · obtain rfl := Option.some.inj h
                    exact ret_go (k := (k + 2)) Tryz.func8 Tryz.ntmps8 (by kernel_rfl) (by kernel_rfl) (lb rfl) (adv [([], 1, 4, .ret (pB r_1)), ([], 1, 6, .eq (pB false)), ([], 1, 11, .ret (pB r_2)), ([], 1, 14, .eq (pB false)), ([], 1, 19, .ret (pB r_3)), ([], 1, 21, .eq (pB false)), ([], 3, 5, .eq (pB true)), ([], 3, 12, .eq (pB true)), ([], 3, 19, .eq (pB true)), ([], 3, 26, .eq (pB true)), ([], 3, 33, .eq (pB true)), ([], 3, 40, .eq (pB false))]) (ex := .ret) (r := (pB false)) (by kernel_rfl) rfl (by kernel_rfl) (allC (ref01Texts_ok (k + 1) a.names b.names _ q1) (allC (cg q2) (allC (ref15Frames_ok k a.stack b.stack _ q3) (allC (cg q4) (allC (ref15Ints_ok (k + 1) a.draws b.draws _ q5) (allC (cg q6) (allC (cg q7) (allC (cg q8) (allC (cg q9) (allC (cg q10) (allC (cg q11) (allC (cg q12) allN)))))))))))) (by kernel_rfl) allN
                · obtain rfl := Option.some.inj h
                  exact ret_go (k := (k + 2)) Tryz.func8 Tryz.ntmps8 (by kernel_rfl) (by kernel_rfl) (lb rfl) (adv [([], 1, 4, .ret (pB r_1)), ([], 1, 6, .eq (pB false)), ([], 1, 11, .ret (pB r_2)), ([], 1, 14, .eq (pB false)), ([], 1, 19, .ret (pB r_3)), ([], 1, 21, .eq (pB false)), ([], 3, 5, .eq (pB true)), ([], 3, 12, .eq (pB true)), ([], 3, 19, .eq (pB true)), ([], 3, 26, .eq (pB true)), ([], 3, 33, .eq (pB false))]) (ex := .ret) (r := (pB false)) (by kernel_rfl) rfl (by kernel_rfl) (allC (ref01Texts_ok (k + 1) a.names b.names _ q1) (allC (cg q2) (allC (ref15Frames_ok k a.stack b.stack _ q3) (allC (cg q4) (allC (ref15Ints_ok (k + 1) a.draws b.draws _ q5) (allC (cg q6) (allC (cg q7) (allC (cg q8) (allC (cg q9) (allC (cg q10) (allC (cg q11) allN))))))))))) (by kernel_rfl) allN
              · obtain rfl := Option.some.inj h
                exact ret_go (k := (k + 2)) Tryz.func8 Tryz.ntmps8 (by kernel_rfl) (by kernel_rfl) (lb rfl) (adv [([], 1, 4, .ret (pB r_1)), ([], 1, 6, .eq (pB false)), ([], 1, 11, .ret (pB r_2)), ([], 1, 14, .eq (pB false)), ([], 1, 19, .ret (pB r_3)), ([], 1, 21, .eq (pB false)), ([], 3, 5, .eq (pB true)), ([], 3, 12, .eq (pB true)), ([], 3, 19, .eq (pB true)), ([], 3, 26, .eq (pB false))]) (ex := .ret) (r := (pB false)) (by kernel_rfl) rfl (by kernel_rfl) (allC (ref01Texts_ok (k + 1) a.names b.names _ q1) (allC (cg q2) (allC (ref15Frames_ok k a.stack b.stack _ q3) (allC (cg q4) (allC (ref15Ints_ok (k + 1) a.draws b.draws _ q5) (allC (cg q6) (allC (cg q7) (allC (cg q8) (allC (cg q9) (allC (cg q10) allN)))))))))) (by kernel_rfl) allN
            · obtain rfl := Option.some.inj h
              exact ret_go (k := (k + 2)) Tryz.func8 Tryz.ntmps8 (by kernel_rfl) (by kernel_rfl) (lb rfl) (adv [([], 1, 4, .ret (pB r_1)), ([], 1, 6, .eq (pB false)), ([], 1, 11, .ret (pB r_2)), ([], 1, 14, .eq (pB false)), ([], 1, 19, .ret (pB r_3)), ([], 1, 21, .eq (pB false)), ([], 3, 5, .eq (pB true)), ([], 3, 12, .eq (pB true)), ([], 3, 19, .eq (pB false))]) (ex := .ret) (r := (pB false)) (by kernel_rfl) rfl (by kernel_rfl) (allC (ref01Texts_ok (k + 1) a.names b.names _ q1) (allC (cg q2) (allC (ref15Frames_ok k a.stack b.stack _ q3) (allC (cg q4) (allC (ref15Ints_ok (k + 1) a.draws b.draws _ q5) (allC (cg q6) (allC (cg q7) (allC (cg q8) (allC (cg q9) allN))))))))) (by kernel_rfl) allN
          · obtain rfl := Option.some.inj h
            exact ret_go (k := (k + 2)) Tryz.func8 Tryz.ntmps8 (by kernel_rfl) (by kernel_rfl) (lb rfl) (adv [([], 1, 4, .ret (pB r_1)), ([], 1, 6, .eq (pB false)), ([], 1, 11, .ret (pB r_2)), ([], 1, 14, .eq (pB false)), ([], 1, 19, .ret (pB r_3)), ([], 1, 21, .eq (pB false)), ([], 3, 5, .eq (pB true)), ([], 3, 12, .eq (pB false))]) (ex := .ret) (r := (pB false)) (by kernel_rfl) rfl (by kernel_rfl) (allC (ref01Texts_ok (k + 1) a.names b.names _ q1) (allC (cg q2) (allC (ref15Frames_ok k a.stack b.stack _ q3) (allC (cg q4) (allC (ref15Ints_ok (k + 1) a.draws b.draws _ q5) (allC (cg q6) (allC (cg q7) (allC (cg q8) allN)))))))) (by kernel_rfl) allN
        · obtain rfl := Option.some.inj h
          exact ret_go (k := (k + 2)) Tryz.func8 Tryz.ntmps8 (by kernel_rfl) (by kernel_rfl) (lb rfl) (adv [([], 1, 4, .ret (pB r_1)), ([], 1, 6, .eq (pB false)), ([], 1, 11, .ret (pB r_2)), ([], 1, 14, .eq (pB false)), ([], 1, 19, .ret (pB r_3)), ([], 1, 21, .eq (pB false)), ([], 3, 5, .eq (pB false))]) (ex := .ret) (r := (pB false)) (by kernel_rfl) rfl (by kernel_rfl) (allC (ref01Texts_ok (k + 1) a.names b.names _ q1) (allC (cg q2) (allC (ref15Frames_ok k a.stack b.stack _ q3) (allC (cg q4) (allC (ref15Ints_ok (k + 1) a.draws b.draws _ q5) (allC (cg q6) (allC (cg q7) allN))))))) (by kernel_rfl) allN
end Go.Proofs.YtdbekeidlppfiaaGreatDoor.Den
