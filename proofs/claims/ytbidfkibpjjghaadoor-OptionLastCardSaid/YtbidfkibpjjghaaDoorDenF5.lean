/- Functions, printed by den.py out of the code: plain ones, and that the code answers as they do. -/
import Derived.Test.YtbidfkibpjjghaaDoorDenF4
set_option linter.unusedVariables false
set_option linter.unusedSimpArgs false
namespace Go.Proofs.YtbidfkibpjjghaaDoor.Den
open Go Go.RowKit

/- flagstone/flagstoneref03.Parse: its loop at region 10 -/
noncomputable def ref03Parse_L10 : Code := cAt (codeOf Tryd.f12) [true, true, true, false, false, false, true, false, true, true, true, true, true, false, false]
def ref03Parse_R10 (x0 : ByteArray) (x1 : List (List PV)) (x2 : Nat) (x3 : Int) (x4 : ByteArray) (x5 : Int) (x6 : List (List PV)) : St := ⟨envL [(0, (pS x0)), (1, (.list 1 false x1)), (7, (.row [0, TAG] 1 0 x2)), (8, (pI x3)), (9, (pS x4)), (10, (pI x5))], hsL [some ⟨2, 43, x6, true, true⟩] [0]⟩
theorem ref03Parse_R10_eq {x0 y0 : ByteArray} {x1 y1 : List (List PV)} {x2 y2 : Nat} {x3 y3 : Int} {x4 y4 : ByteArray} {x5 y5 : Int} {x6 y6 : List (List PV)} (h0 : x0 = y0) (h1 : x1 = y1) (h2 : x2 = y2) (h3 : x3 = y3) (h4 : x4 = y4) (h5 : x5 = y5) (h6 : x6 = y6) : ref03Parse_R10 x0 x1 x2 x3 x4 x5 x6 = ref03Parse_R10 y0 y1 y2 y3 y4 y5 y6 := by
  subst h0 h1 h2 h3 h4 h5 h6; rfl
def ref03Parse_S10 (p0 : ByteArray) (p1 : (List ByteArray)) (p2 : ByteArray) : (Int × Int × (List FlagD)) → St
  | (v0, v1, v2) => ref03Parse_R10 p0 (p1.map cS) v2.length v0 p2 v1 (v2.map FlagD.c)
def ref03Parse_b10 (p0 : ByteArray) (p1 : (List ByteArray)) (p2 : ByteArray) : (Int × Int × (List FlagD)) → Option ((Int × Int × (List FlagD)) ⊕ ((Int × Int × (List FlagD) × UInt8 × Bool × Bool) ⊕ (Int × Int × (List FlagD) × UInt8 × Bool × Bool × UInt8) ⊕ (Int × Int × (List FlagD) × UInt8 × Bool × Bool) ⊕ (Int × Int × (List FlagD))))
  | (v0, v1, v2) =>
    bif (decide (v1 < (p2.size : Int))) then (
      (gtS p2 v1).bind fun b_1 =>
      (ref03Known p0 (b_1.toNat : Int)).bind fun (r_1, r_2) =>
      bif (!r_1) then (
        some (.inr (.inl (v0, v1, v2, b_1, r_1, r_2)))
      ) else (
        bif (!r_2) then (
          (gtS p2 v1).bind fun b_2 =>
          grd (room (v2.length + 1) 24) <|
          some (.inl (v0, (w64 (v1 + (1 : Int))), (v2 ++ [(FlagD.mk (b_2.toNat : Int) (bs []))])))
        ) else (
          bif (decide ((w64 (v1 + (1 : Int))) < (p2.size : Int))) then (
            (gtS p2 v1).bind fun b_2 =>
            grd (0 ≤ (w64 (v1 + (1 : Int))) ∧ (w64 (v1 + (1 : Int))) ≤ (p2.size : Int) ∧ (p2.size : Int) ≤ (p2.size : Int)) <|
            grd (room (v2.length + 1) 24) <|
            some (.inr (.inr (.inl (v0, v1, v2, b_1, r_1, r_2, b_2))))
          ) else (
            bif (v0 == (p1.length : Int)) then (
              some (.inr (.inr (.inr (.inl (v0, v1, v2, b_1, r_1, r_2)))))
            ) else (
              (gtS p2 v1).bind fun b_2 =>
              (gt p1 v0).bind fun y_1 =>
              grd (room (v2.length + 1) 24) <|
              some (.inl ((w64 (v0 + (1 : Int))), (w64 (v1 + (1 : Int))), (v2 ++ [(FlagD.mk (b_2.toNat : Int) y_1)])))
            )
          )
        )
      )
    ) else (
      some (.inr (.inr (.inr (.inr ((v0, v1, v2))))))
    )
set_option maxRecDepth 100000 in
theorem ref03Parse_t10 (k : Nat) (p0 : ByteArray) (p1 : (List ByteArray)) (p2 : ByteArray) (a a1 : (Int × Int × (List FlagD))) (h : ref03Parse_b10 p0 p1 p2 a = some (.inl a1)) : ∃ σ, run1 (k + 1) 12 0 103 ref03Parse_L10 (ref03Parse_S10 p0 p1 p2 a) = some (.normal, σ) ∧ canonS 0 [0, 1, 7, 8, 9, 10] σ = some (ref03Parse_S10 p0 p1 p2 a1) := by
  obtain ⟨v0, v1, v2⟩ := a
  unfold ref03Parse_b10 at h
  try dsimp only at h
  rcases bif_some h with ⟨q1, h⟩ | ⟨q1, h⟩
  · skip
    obtain ⟨b_1, q2, h⟩ := bnd_some h
    obtain ⟨⟨r_1, r_2⟩, q3, h⟩ := bnd_some h
    try dsimp only at h
    rcases bif_some h with ⟨q4, h⟩ | ⟨q4, h⟩
    · skip
      cases h
    · skip
      rcases bif_some h with ⟨q5, h⟩ | ⟨q5, h⟩
      · skip
        obtain ⟨b_2, q6, h⟩ := bnd_some h
        obtain ⟨q7, h⟩ := grd_some h
        obtain rfl := Sum.inl.inj (Option.some.inj h)
        exact ⟨_, run_go (k := (k + 1)) (f := 12) (r0 := 0) (nt := 103) (c := ref03Parse_L10) (σ := (ref03Parse_S10 p0 p1 p2 (v0, v1, v2))) (adv [([], 10, 3, .eq (pB true)), ([], 12, 3, .chr b_1), ([], 12, 4, .ret (.tup [(pB r_1), (pB r_2)])), ([], 13, 1, .eq (pB false)), ([], 15, 1, .eq (pB true)), ([], 16, 3, .chr b_2), ([], 16, 6, .ok)]) (ex := .normal) (by kernel_rfl) (by kernel_rfl) (allC (cg q1) (allC q2 (allC (ref03Known_ok k p0 (b_1.toNat : Int) _ q3) (allC (cg q4) (allC (cg q5) (allC q6 (allC (app_ok (rfl : (v2.map FlagD.c) = v2.map FlagD.c) (rfl : v2.length = v2.length) q7) allN))))))), (Eq.trans (b := some (ref03Parse_R10 p0 (p1.map cS) (v2.length + 1) v0 p2 (w64 (v1 + (1 : Int))) ((v2.map FlagD.c) ++ [[(.v (.int .u8 (b_2.toNat : Int))), (pS (bs []))]]))) (by kernel_rfl) (congrArg some ((ref03Parse_R10_eq (rfl : p0 = p0) (rfl : (p1.map cS) = (p1.map cS)) ((len_cat (rfl : v2.length = v2.length) v2 (rfl : 1 = ([(FlagD.mk (b_2.toNat : Int) (bs []))]).length)) : (v2.length + 1) = ((v2 ++ [(FlagD.mk (b_2.toNat : Int) (bs []))]).length)) (rfl : v0 = v0) (rfl : p2 = p2) (rfl : (w64 (v1 + (1 : Int))) = (w64 (v1 + (1 : Int)))) ((enc_cat (rfl : (v2.map FlagD.c) = v2.map FlagD.c) (show [[(.v (.int .u8 (b_2.toNat : Int))), (pS (bs []))]] = ([(FlagD.mk (b_2.toNat : Int) (bs []))]).map FlagD.c from rfl)) : ((v2.map FlagD.c) ++ [[(.v (.int .u8 (b_2.toNat : Int))), (pS (bs []))]]) = ((v2 ++ [(FlagD.mk (b_2.toNat : Int) (bs []))]).map FlagD.c))).trans (by kernel_rfl : ref03Parse_R10 p0 (p1.map cS) ((v2 ++ [(FlagD.mk (b_2.toNat : Int) (bs []))]).length) v0 p2 (w64 (v1 + (1 : Int))) ((v2 ++ [(FlagD.mk (b_2.toNat : Int) (bs []))]).map FlagD.c) = ref03Parse_S10 p0 p1 p2 (v0, (w64 (v1 + (1 : Int))), (v2 ++ [(FlagD.mk (b_2.toNat : Int) (bs []))]))))))⟩
      · skip
        rcases bif_some h with ⟨q6, h⟩ | ⟨q6, h⟩
        · skip
          obtain ⟨b_2, q7, h⟩ := bnd_some h
          obtain ⟨q8, h⟩ := grd_some h
          obtain ⟨q9, h⟩ := grd_some h
          cases h
        · skip
          rcases bif_some h with ⟨q7, h⟩ | ⟨q7, h⟩
          · skip
            cases h
          · skip
            obtain ⟨b_2, q8, h⟩ := bnd_some h
            obtain ⟨y_1, q9, h⟩ := bnd_some h
            obtain ⟨q10, h⟩ := grd_some h
            obtain rfl := Sum.inl.inj (Option.some.inj h)
            exact ⟨_, run_go (k := (k + 1)) (f := 12) (r0 := 0) (nt := 103) (c := ref03Parse_L10) (σ := (ref03Parse_S10 p0 p1 p2 (v0, v1, v2))) (adv [([], 10, 3, .eq (pB true)), ([], 12, 3, .chr b_1), ([], 12, 4, .ret (.tup [(pB r_1), (pB r_2)])), ([], 13, 1, .eq (pB false)), ([], 15, 1, .eq (pB false)), ([], 17, 4, .eq (pB false)), ([], 19, 2, .eq (pI (p1.length : Int))), ([], 19, 3, .eq (pB false)), ([], 21, 3, .chr b_2), ([], 21, 6, .elem [(pS y_1)]), ([], 21, 10, .ok)]) (ex := .normal) (by kernel_rfl) (by kernel_rfl) (allC (cg q1) (allC q2 (allC (ref03Known_ok k p0 (b_1.toNat : Int) _ q3) (allC (cg q4) (allC (cg q5) (allC (cg q6) (allC (len_ob (rfl : (p1.map cS) = p1.map cS)) (allC (cg q7) (allC q8 (allC (gt_list (c := cS) q9) (allC (app_ok (rfl : (v2.map FlagD.c) = v2.map FlagD.c) (rfl : v2.length = v2.length) q10) allN))))))))))), (Eq.trans (b := some (ref03Parse_R10 p0 (p1.map cS) (v2.length + 1) (w64 (v0 + (1 : Int))) p2 (w64 (v1 + (1 : Int))) ((v2.map FlagD.c) ++ [[(.v (.int .u8 (b_2.toNat : Int))), (pS y_1)]]))) (by kernel_rfl) (congrArg some ((ref03Parse_R10_eq (rfl : p0 = p0) (rfl : (p1.map cS) = (p1.map cS)) ((len_cat (rfl : v2.length = v2.length) v2 (rfl : 1 = [(FlagD.mk (b_2.toNat : Int) y_1)].length)) : (v2.length + 1) = ((v2 ++ [(FlagD.mk (b_2.toNat : Int) y_1)]).length)) (rfl : (w64 (v0 + (1 : Int))) = (w64 (v0 + (1 : Int)))) (rfl : p2 = p2) (rfl : (w64 (v1 + (1 : Int))) = (w64 (v1 + (1 : Int)))) ((enc_cat (rfl : (v2.map FlagD.c) = v2.map FlagD.c) (show [[(.v (.int .u8 (b_2.toNat : Int))), (pS y_1)]] = [(FlagD.mk (b_2.toNat : Int) y_1)].map FlagD.c from rfl)) : ((v2.map FlagD.c) ++ [[(.v (.int .u8 (b_2.toNat : Int))), (pS y_1)]]) = ((v2 ++ [(FlagD.mk (b_2.toNat : Int) y_1)]).map FlagD.c))).trans (by kernel_rfl : ref03Parse_R10 p0 (p1.map cS) ((v2 ++ [(FlagD.mk (b_2.toNat : Int) y_1)]).length) (w64 (v0 + (1 : Int))) p2 (w64 (v1 + (1 : Int))) ((v2 ++ [(FlagD.mk (b_2.toNat : Int) y_1)]).map FlagD.c) = ref03Parse_S10 p0 p1 p2 ((w64 (v0 + (1 : Int))), (w64 (v1 + (1 : Int))), (v2 ++ [(FlagD.mk (b_2.toNat : Int) y_1)]))))))⟩
  · skip
    cases h
/- flagstone/flagstoneref03.Parse: its loop at region 10 -/
noncomputable def ref03Parse_L10x1 : Code := cAt (codeOf Tryd.f12) [true, true, true, false, false, false, true, false, true, true, true, true, true, false, false]
def ref03Parse_R10x1 (x0 : ByteArray) (x1 : List (List PV)) (x2 : Nat) (x3 : Int) (x4 : ByteArray) (x5 : Int) (x6 : List (List PV)) : St := ⟨envL [(0, (pS x0)), (1, (.list 1 false x1)), (7, (.row [0, TAG] 1 0 x2)), (8, (pI x3)), (9, (pS x4)), (10, (pI x5))], hsL [some ⟨2, 43, x6, true, true⟩] [0]⟩
theorem ref03Parse_R10x1_eq {x0 y0 : ByteArray} {x1 y1 : List (List PV)} {x2 y2 : Nat} {x3 y3 : Int} {x4 y4 : ByteArray} {x5 y5 : Int} {x6 y6 : List (List PV)} (h0 : x0 = y0) (h1 : x1 = y1) (h2 : x2 = y2) (h3 : x3 = y3) (h4 : x4 = y4) (h5 : x5 = y5) (h6 : x6 = y6) : ref03Parse_R10x1 x0 x1 x2 x3 x4 x5 x6 = ref03Parse_R10x1 y0 y1 y2 y3 y4 y5 y6 := by
  subst h0 h1 h2 h3 h4 h5 h6; rfl
def ref03Parse_S10x1 (p0 : ByteArray) (p1 : (List ByteArray)) (p2 : ByteArray) : (Int × Int × (List FlagD)) → St
  | (v0, v1, v2) => ref03Parse_R10x1 p0 (p1.map cS) v2.length v0 p2 v1 (v2.map FlagD.c)
def ref03Parse_b10x1 (p0 : ByteArray) (p1 : (List ByteArray)) (p2 : ByteArray) : (Int × Int × (List FlagD)) → Option ((Int × Int × (List FlagD)) ⊕ ((Int × Int × (List FlagD) × UInt8 × Bool × Bool) ⊕ (Int × Int × (List FlagD) × UInt8 × Bool × Bool × UInt8) ⊕ (Int × Int × (List FlagD) × UInt8 × Bool × Bool) ⊕ (Int × Int × (List FlagD))))
  | (v0, v1, v2) =>
    bif (decide (v1 < (p2.size : Int))) then (
      (gtS p2 v1).bind fun b_1 =>
      (ref03Known p0 (b_1.toNat : Int)).bind fun (r_1, r_2) =>
      bif (!r_1) then (
        some (.inr (.inl (v0, v1, v2, b_1, r_1, r_2)))
      ) else (
        bif (!r_2) then (
          (gtS p2 v1).bind fun b_2 =>
          grd (room (v2.length + 1) 24) <|
          some (.inl (v0, (w64 (v1 + (1 : Int))), (v2 ++ [(FlagD.mk (b_2.toNat : Int) (bs []))])))
        ) else (
          bif (decide ((w64 (v1 + (1 : Int))) < (p2.size : Int))) then (
            (gtS p2 v1).bind fun b_2 =>
            grd (0 ≤ (w64 (v1 + (1 : Int))) ∧ (w64 (v1 + (1 : Int))) ≤ (p2.size : Int) ∧ (p2.size : Int) ≤ (p2.size : Int)) <|
            grd (room (v2.length + 1) 24) <|
            some (.inr (.inr (.inl (v0, v1, v2, b_1, r_1, r_2, b_2))))
          ) else (
            bif (v0 == (p1.length : Int)) then (
              some (.inr (.inr (.inr (.inl (v0, v1, v2, b_1, r_1, r_2)))))
            ) else (
              (gtS p2 v1).bind fun b_2 =>
              (gt p1 v0).bind fun y_1 =>
              grd (room (v2.length + 1) 24) <|
              some (.inl ((w64 (v0 + (1 : Int))), (w64 (v1 + (1 : Int))), (v2 ++ [(FlagD.mk (b_2.toNat : Int) y_1)])))
            )
          )
        )
      )
    ) else (
      some (.inr (.inr (.inr (.inr ((v0, v1, v2))))))
    )
set_option maxRecDepth 100000 in
theorem ref03Parse_t10x1 (k : Nat) (p0 : ByteArray) (p1 : (List ByteArray)) (p2 : ByteArray) (a a1 : (Int × Int × (List FlagD))) (h : ref03Parse_b10x1 p0 p1 p2 a = some (.inl a1)) : ∃ σ, run1 (k + 1) 12 0 103 ref03Parse_L10x1 (ref03Parse_S10x1 p0 p1 p2 a) = some (.normal, σ) ∧ canonS 0 [0, 1, 7, 8, 9, 10] σ = some (ref03Parse_S10x1 p0 p1 p2 a1) := by
  obtain ⟨v0, v1, v2⟩ := a
  unfold ref03Parse_b10x1 at h
  try dsimp only at h
  rcases bif_some h with ⟨q1, h⟩ | ⟨q1, h⟩
  · skip
    obtain ⟨b_1, q2, h⟩ := bnd_some h
    obtain ⟨⟨r_1, r_2⟩, q3, h⟩ := bnd_some h
    try dsimp only at h
    rcases bif_some h with ⟨q4, h⟩ | ⟨q4, h⟩
    · skip
      cases h
    · skip
      rcases bif_some h with ⟨q5, h⟩ | ⟨q5, h⟩
      · skip
        obtain ⟨b_2, q6, h⟩ := bnd_some h
        obtain ⟨q7, h⟩ := grd_some h
        obtain rfl := Sum.inl.inj (Option.some.inj h)
        exact ⟨_, run_go (k := (k + 1)) (f := 12) (r0 := 0) (nt := 103) (c := ref03Parse_L10x1) (σ := (ref03Parse_S10x1 p0 p1 p2 (v0, v1, v2))) (adv [([], 10, 3, .eq (pB true)), ([], 12, 3, .chr b_1), ([], 12, 4, .ret (.tup [(pB r_1), (pB r_2)])), ([], 13, 1, .eq (pB false)), ([], 15, 1, .eq (pB true)), ([], 16, 3, .chr b_2), ([], 16, 6, .ok)]) (ex := .normal) (by kernel_rfl) (by kernel_rfl) (allC (cg q1) (allC q2 (allC (ref03Known_ok k p0 (b_1.toNat : Int) _ q3) (allC (cg q4) (allC (cg q5) (allC q6 (allC (app_ok (rfl : (v2.map FlagD.c) = v2.map FlagD.c) (rfl : v2.length = v2.length) q7) allN))))))), (Eq.trans (b := some (ref03Parse_R10x1 p0 (p1.map cS) (v2.length + 1) v0 p2 (w64 (v1 + (1 : Int))) ((v2.map FlagD.c) ++ [[(.v (.int .u8 (b_2.toNat : Int))), (pS (bs []))]]))) (by kernel_rfl) (congrArg some ((ref03Parse_R10x1_eq (rfl : p0 = p0) (rfl : (p1.map cS) = (p1.map cS)) ((len_cat (rfl : v2.length = v2.length) v2 (rfl : 1 = ([(FlagD.mk (b_2.toNat : Int) (bs []))]).length)) : (v2.length + 1) = ((v2 ++ [(FlagD.mk (b_2.toNat : Int) (bs []))]).length)) (rfl : v0 = v0) (rfl : p2 = p2) (rfl : (w64 (v1 + (1 : Int))) = (w64 (v1 + (1 : Int)))) ((enc_cat (rfl : (v2.map FlagD.c) = v2.map FlagD.c) (show [[(.v (.int .u8 (b_2.toNat : Int))), (pS (bs []))]] = ([(FlagD.mk (b_2.toNat : Int) (bs []))]).map FlagD.c from rfl)) : ((v2.map FlagD.c) ++ [[(.v (.int .u8 (b_2.toNat : Int))), (pS (bs []))]]) = ((v2 ++ [(FlagD.mk (b_2.toNat : Int) (bs []))]).map FlagD.c))).trans (by kernel_rfl : ref03Parse_R10x1 p0 (p1.map cS) ((v2 ++ [(FlagD.mk (b_2.toNat : Int) (bs []))]).length) v0 p2 (w64 (v1 + (1 : Int))) ((v2 ++ [(FlagD.mk (b_2.toNat : Int) (bs []))]).map FlagD.c) = ref03Parse_S10x1 p0 p1 p2 (v0, (w64 (v1 + (1 : Int))), (v2 ++ [(FlagD.mk (b_2.toNat : Int) (bs []))]))))))⟩
      · skip
        rcases bif_some h with ⟨q6, h⟩ | ⟨q6, h⟩
        · skip
          obtain ⟨b_2, q7, h⟩ := bnd_some h
          obtain ⟨q8, h⟩ := grd_some h
          obtain ⟨q9, h⟩ := grd_some h
          cases h
        · skip
          rcases bif_some h with ⟨q7, h⟩ | ⟨q7, h⟩
          · skip
            cases h
          · skip
            obtain ⟨b_2, q8, h⟩ := bnd_some h
            obtain ⟨y_1, q9, h⟩ := bnd_some h
            obtain ⟨q10, h⟩ := grd_some h
            obtain rfl := Sum.inl.inj (Option.some.inj h)
            exact ⟨_, run_go (k := (k + 1)) (f := 12) (r0 := 0) (nt := 103) (c := ref03Parse_L10x1) (σ := (ref03Parse_S10x1 p0 p1 p2 (v0, v1, v2))) (adv [([], 10, 3, .eq (pB true)), ([], 12, 3, .chr b_1), ([], 12, 4, .ret (.tup [(pB r_1), (pB r_2)])), ([], 13, 1, .eq (pB false)), ([], 15, 1, .eq (pB false)), ([], 17, 4, .eq (pB false)), ([], 19, 2, .eq (pI (p1.length : Int))), ([], 19, 3, .eq (pB false)), ([], 21, 3, .chr b_2), ([], 21, 6, .elem [(pS y_1)]), ([], 21, 10, .ok)]) (ex := .normal) (by kernel_rfl) (by kernel_rfl) (allC (cg q1) (allC q2 (allC (ref03Known_ok k p0 (b_1.toNat : Int) _ q3) (allC (cg q4) (allC (cg q5) (allC (cg q6) (allC (len_ob (rfl : (p1.map cS) = p1.map cS)) (allC (cg q7) (allC q8 (allC (gt_list (c := cS) q9) (allC (app_ok (rfl : (v2.map FlagD.c) = v2.map FlagD.c) (rfl : v2.length = v2.length) q10) allN))))))))))), (Eq.trans (b := some (ref03Parse_R10x1 p0 (p1.map cS) (v2.length + 1) (w64 (v0 + (1 : Int))) p2 (w64 (v1 + (1 : Int))) ((v2.map FlagD.c) ++ [[(.v (.int .u8 (b_2.toNat : Int))), (pS y_1)]]))) (by kernel_rfl) (congrArg some ((ref03Parse_R10x1_eq (rfl : p0 = p0) (rfl : (p1.map cS) = (p1.map cS)) ((len_cat (rfl : v2.length = v2.length) v2 (rfl : 1 = [(FlagD.mk (b_2.toNat : Int) y_1)].length)) : (v2.length + 1) = ((v2 ++ [(FlagD.mk (b_2.toNat : Int) y_1)]).length)) (rfl : (w64 (v0 + (1 : Int))) = (w64 (v0 + (1 : Int)))) (rfl : p2 = p2) (rfl : (w64 (v1 + (1 : Int))) = (w64 (v1 + (1 : Int)))) ((enc_cat (rfl : (v2.map FlagD.c) = v2.map FlagD.c) (show [[(.v (.int .u8 (b_2.toNat : Int))), (pS y_1)]] = [(FlagD.mk (b_2.toNat : Int) y_1)].map FlagD.c from rfl)) : ((v2.map FlagD.c) ++ [[(.v (.int .u8 (b_2.toNat : Int))), (pS y_1)]]) = ((v2 ++ [(FlagD.mk (b_2.toNat : Int) y_1)]).map FlagD.c))).trans (by kernel_rfl : ref03Parse_R10x1 p0 (p1.map cS) ((v2 ++ [(FlagD.mk (b_2.toNat : Int) y_1)]).length) (w64 (v0 + (1 : Int))) p2 (w64 (v1 + (1 : Int))) ((v2 ++ [(FlagD.mk (b_2.toNat : Int) y_1)]).map FlagD.c) = ref03Parse_S10x1 p0 p1 p2 ((w64 (v0 + (1 : Int))), (w64 (v1 + (1 : Int))), (v2 ++ [(FlagD.mk (b_2.toNat : Int) y_1)]))))))⟩
  · skip
    cases h
/- flagstone/flagstoneref03.Parse: its loop at region 3 -/
noncomputable def ref03Parse_L3 : Code := cAt (codeOf Tryd.f12) [true, true, true, false, false, false]
def ref03Parse_R3 (x0 : ByteArray) (x1 : List (List PV)) (x2 : Nat) (x3 : Int) (x4 : List (List PV)) : St := ⟨envL [(0, (pS x0)), (1, (.list 1 false x1)), (7, (.row [0, TAG] 1 0 x2)), (8, (pI x3))], hsL [some ⟨2, 43, x4, true, true⟩] [0]⟩
theorem ref03Parse_R3_eq {x0 y0 : ByteArray} {x1 y1 : List (List PV)} {x2 y2 : Nat} {x3 y3 : Int} {x4 y4 : List (List PV)} (h0 : x0 = y0) (h1 : x1 = y1) (h2 : x2 = y2) (h3 : x3 = y3) (h4 : x4 = y4) : ref03Parse_R3 x0 x1 x2 x3 x4 = ref03Parse_R3 y0 y1 y2 y3 y4 := by
  subst h0 h1 h2 h3 h4; rfl
def ref03Parse_S3 (p0 : ByteArray) (p1 : (List ByteArray)) : (Int × (List FlagD)) → St
  | (v0, v1) => ref03Parse_R3 p0 (p1.map cS) v1.length v0 (v1.map FlagD.c)
def ref03Parse_b3 (p0 : ByteArray) (p1 : (List ByteArray)) : (Int × (List FlagD)) → Option ((Int × (List FlagD)) ⊕ ((Int × (List FlagD) × ByteArray) ⊕ (Int × (List FlagD) × ByteArray) ⊕ (Int × (List FlagD) × ByteArray) ⊕ (Int × (List FlagD) × ByteArray × UInt8) ⊕ (Int × (List FlagD) × ByteArray × UInt8 × Int × Int × (List FlagD) × UInt8 × Bool × Bool) ⊕ (Int × (List FlagD) × ByteArray × UInt8 × Int × Int × (List FlagD) × UInt8 × Bool × Bool) ⊕ (Int × (List FlagD))))
  | (v0, v1) =>
    bif (decide (v0 < (p1.length : Int))) then (
      (gt p1 v0).bind fun y_1 =>
      bif (seq y_1 (bs [45, 45])) then (
        some (.inr (.inl (v0, v1, y_1)))
      ) else (
        bif (seq y_1 (bs [45])) then (
          some (.inr (.inr (.inl (v0, v1, y_1))))
        ) else (
          bif (seq y_1 (bs [])) then (
            some (.inr (.inr (.inr (.inl (v0, v1, y_1)))))
          ) else (
            (gtS y_1 (0 : Int)).bind fun b_1 =>
            bif ((b_1.toNat : Int) != (45 : Int)) then (
              some (.inr (.inr (.inr (.inr (.inl (v0, v1, y_1, b_1))))))
            ) else (
              (iterN (ref03Parse_b10x1 p0 p1 y_1) LF ((w64 (v0 + (1 : Int))), (1 : Int), v1)).bind fun X_1 => match X_1 with
              | .inl (v_1, v_2, v_3, b_2, r_1, r_2) => (
                some (.inr (.inr (.inr (.inr (.inr (.inl (v0, v1, y_1, b_1, v_1, v_2, v_3, b_2, r_1, r_2)))))))
              )
              | .inr (.inl (v_1, v_2, v_3, b_2, r_1, r_2, b_3)) => (
                some (.inl (v_1, (v_3 ++ [(FlagD.mk (b_3.toNat : Int) (y_1.extract ((w64 (v_2 + (1 : Int)))).toNat y_1.size))])))
              )
              | .inr (.inr (.inl (v_1, v_2, v_3, b_2, r_1, r_2))) => (
                some (.inr (.inr (.inr (.inr (.inr (.inr (.inl (v0, v1, y_1, b_1, v_1, v_2, v_3, b_2, r_1, r_2))))))))
              )
              | .inr (.inr (.inr ((v_1, v_2, v_3)))) => (
                some (.inl (v_1, v_3))
              )
            )
          )
        )
      )
    ) else (
      some (.inr (.inr (.inr (.inr (.inr (.inr (.inr ((v0, v1)))))))))
    )
set_option maxRecDepth 100000 in
theorem ref03Parse_t3 (k : Nat) (p0 : ByteArray) (p1 : (List ByteArray)) (a a1 : (Int × (List FlagD))) (h : ref03Parse_b3 p0 p1 a = some (.inl a1)) : ∃ σ, run1 (k + 1) 12 0 103 ref03Parse_L3 (ref03Parse_S3 p0 p1 a) = some (.normal, σ) ∧ canonS 0 [0, 1, 7, 8] σ = some (ref03Parse_S3 p0 p1 a1) := by
  obtain ⟨v0, v1⟩ := a
  unfold ref03Parse_b3 at h
  try dsimp only at h
  rcases bif_some h with ⟨q1, h⟩ | ⟨q1, h⟩
  · skip
    obtain ⟨y_1, q2, h⟩ := bnd_some h
    rcases bif_some h with ⟨q3, h⟩ | ⟨q3, h⟩
    · skip
      cases h
    · skip
      rcases bif_some h with ⟨q4, h⟩ | ⟨q4, h⟩
      · skip
        cases h
      · skip
        rcases bif_some h with ⟨q5, h⟩ | ⟨q5, h⟩
        · skip
          cases h
        · skip
          obtain ⟨b_1, q6, h⟩ := bnd_some h
          rcases bif_some h with ⟨q7, h⟩ | ⟨q7, h⟩
          · skip
            cases h
          · skip
            obtain ⟨X_1, q8, h⟩ := bnd_some h
            obtain ⟨a_1, q9, q10⟩ := loop_iter (f := run1 (k + 1) 12 0 103 ref03Parse_L10x1) (ref03Parse_S10x1 p0 p1 y_1) (ref03Parse_b10x1 p0 p1 y_1) (ref03Parse_t10x1 k p0 p1 y_1) LF ((w64 (v0 + (1 : Int))), (1 : Int), v1) _ (stOf (goStop (k + 1) 12 0 103 (adv [([], 3, 2, .eq (pI (p1.length : Int))), ([], 3, 3, .eq (pB true)), ([], 4, 2, .elem [(pS y_1)]), ([], 5, 1, .eq (pB false)), ([], 7, 2, .eq (pB false)), ([], 7, 6, .eq (pB false)), ([], 7, 8, .chr b_1), ([], 7, 10, .eq (pB false))]) 10 (ref03Parse_L3) (ref03Parse_S3 p0 p1 (v0, v1)))) q8 (by kernel_rfl)
            obtain ⟨v_1, v_2, v_3⟩ := a_1
            unfold ref03Parse_b10x1 at q9
            try dsimp only at q9
            rcases bif_some q9 with ⟨q13, q9⟩ | ⟨q13, q9⟩
            · skip
              obtain ⟨b_2, q14, q9⟩ := bnd_some q9
              obtain ⟨⟨r_1, r_2⟩, q15, q9⟩ := bnd_some q9
              try dsimp only at q9
              rcases bif_some q9 with ⟨q16, q9⟩ | ⟨q16, q9⟩
              · skip
                cases q9
                try dsimp only at h
                have q11 := run_go (k := (k + 1)) (f := 12) (r0 := 0) (nt := 103) (c := ref03Parse_L10x1) (σ := (ref03Parse_S10x1 p0 p1 y_1 (v_1, v_2, v_3))) (adv [([], 10, 3, .eq (pB true)), ([], 12, 3, .chr b_2), ([], 12, 4, .ret (.tup [(pB r_1), (pB r_2)])), ([], 13, 1, .eq (pB true))]) (ex := .ret) (by kernel_rfl) (by kernel_rfl) (allC (cg q13) (allC q14 (allC (ref03Known_ok k p0 (b_2.toNat : Int) _ q15) (allC (cg q16) allN))))
                have q12 := q10 _ _ (by intro e; cases e) q11
                cases h
              · skip
                rcases bif_some q9 with ⟨q17, q9⟩ | ⟨q17, q9⟩
                · skip
                  obtain ⟨b_3, q18, q9⟩ := bnd_some q9
                  obtain ⟨q19, q9⟩ := grd_some q9
                  cases q9
                · skip
                  rcases bif_some q9 with ⟨q18, q9⟩ | ⟨q18, q9⟩
                  · skip
                    obtain ⟨b_3, q19, q9⟩ := bnd_some q9
                    obtain ⟨q20, q9⟩ := grd_some q9
                    obtain ⟨q21, q9⟩ := grd_some q9
                    cases q9
                    try dsimp only at h
                    have q11 := run_go (k := (k + 1)) (f := 12) (r0 := 0) (nt := 103) (c := ref03Parse_L10x1) (σ := (ref03Parse_S10x1 p0 p1 y_1 (v_1, v_2, v_3))) (adv [([], 10, 3, .eq (pB true)), ([], 12, 3, .chr b_2), ([], 12, 4, .ret (.tup [(pB r_1), (pB r_2)])), ([], 13, 1, .eq (pB false)), ([], 15, 1, .eq (pB false)), ([], 17, 4, .eq (pB true)), ([], 18, 3, .chr b_3), ([], 18, 7, .sub false), ([], 18, 10, .ok)]) (ex := (.exit 2)) (by kernel_rfl) (by kernel_rfl) (allC (cg q13) (allC q14 (allC (ref03Known_ok k p0 (b_2.toNat : Int) _ q15) (allC (cg q16) (allC (cg q17) (allC (cg q18) (allC q19 (allC q20 (allC (app_ok (rfl : (v_3.map FlagD.c) = v_3.map FlagD.c) (rfl : v_3.length = v_3.length) q21) allN)))))))))
                    have q12 := q10 _ _ (by intro e; cases e) q11
                    obtain rfl := Sum.inl.inj (Option.some.inj h)
                    exact ⟨_, run_go (k := (k + 1)) (f := 12) (r0 := 0) (nt := 103) (c := ref03Parse_L3) (σ := (ref03Parse_S3 p0 p1 (v0, v1))) (adv [([], 3, 2, .eq (pI (p1.length : Int))), ([], 3, 3, .eq (pB true)), ([], 4, 2, .elem [(pS y_1)]), ([], 5, 1, .eq (pB false)), ([], 7, 2, .eq (pB false)), ([], 7, 6, .eq (pB false)), ([], 7, 8, .chr b_1), ([], 7, 10, .eq (pB false))] [([], 10, (.exit 2), (stOf (go (k + 1) 12 0 103 (adv [([], 10, 3, .eq (pB true)), ([], 12, 3, .chr b_2), ([], 12, 4, .ret (.tup [(pB r_1), (pB r_2)])), ([], 13, 1, .eq (pB false)), ([], 15, 1, .eq (pB false)), ([], 17, 4, .eq (pB true)), ([], 18, 3, .chr b_3), ([], 18, 7, .sub false), ([], 18, 10, .ok)]) ref03Parse_L10x1 (ref03Parse_S10x1 p0 p1 y_1 (v_1, v_2, v_3)))))]) (ex := .normal) (by kernel_rfl) (by kernel_rfl) (allC (len_ob (rfl : (p1.map cS) = p1.map cS)) (allC (cg q1) (allC (gt_list (c := cS) q2) (allC (cg q3) (allC (cg q4) (allC (cg q5) (allC q6 (allC (cg q7) (allC q12 allN))))))))), (Eq.trans (b := some (ref03Parse_R3 p0 (p1.map cS) (v_3.length + 1) v_1 ((v_3.map FlagD.c) ++ [[(.v (.int .u8 (b_3.toNat : Int))), (pS (y_1.extract ((w64 (v_2 + (1 : Int)))).toNat y_1.size))]]))) (by kernel_rfl) (congrArg some ((ref03Parse_R3_eq (rfl : p0 = p0) (rfl : (p1.map cS) = (p1.map cS)) ((len_cat (rfl : v_3.length = v_3.length) v_3 (rfl : 1 = [(FlagD.mk (b_3.toNat : Int) (y_1.extract ((w64 (v_2 + (1 : Int)))).toNat y_1.size))].length)) : (v_3.length + 1) = ((v_3 ++ [(FlagD.mk (b_3.toNat : Int) (y_1.extract ((w64 (v_2 + (1 : Int)))).toNat y_1.size))]).length)) (rfl : v_1 = v_1) ((enc_cat (rfl : (v_3.map FlagD.c) = v_3.map FlagD.c) (show [[(.v (.int .u8 (b_3.toNat : Int))), (pS (y_1.extract ((w64 (v_2 + (1 : Int)))).toNat y_1.size))]] = [(FlagD.mk (b_3.toNat : Int) (y_1.extract ((w64 (v_2 + (1 : Int)))).toNat y_1.size))].map FlagD.c from rfl)) : ((v_3.map FlagD.c) ++ [[(.v (.int .u8 (b_3.toNat : Int))), (pS (y_1.extract ((w64 (v_2 + (1 : Int)))).toNat y_1.size))]]) = ((v_3 ++ [(FlagD.mk (b_3.toNat : Int) (y_1.extract ((w64 (v_2 + (1 : Int)))).toNat y_1.size))]).map FlagD.c))).trans (by kernel_rfl : ref03Parse_R3 p0 (p1.map cS) ((v_3 ++ [(FlagD.mk (b_3.toNat : Int) (y_1.extract ((w64 (v_2 + (1 : Int)))).toNat y_1.size))]).length) v_1 ((v_3 ++ [(FlagD.mk (b_3.toNat : Int) (y_1.extract ((w64 (v_2 + (1 : Int)))).toNat y_1.size))]).map FlagD.c) = ref03Parse_S3 p0 p1 (v_1, (v_3 ++ [(FlagD.mk (b_3.toNat : Int) (y_1.extract ((w64 (v_2 + (1 : Int)))).toNat y_1.size))]))))))⟩
                  · skip
                    rcases bif_some q9 with ⟨q19, q9⟩ | ⟨q19, q9⟩
                    · skip
                      cases q9
                      try dsimp only at h
                      have q11 := run_go (k := (k + 1)) (f := 12) (r0 := 0) (nt := 103) (c := ref03Parse_L10x1) (σ := (ref03Parse_S10x1 p0 p1 y_1 (v_1, v_2, v_3))) (adv [([], 10, 3, .eq (pB true)), ([], 12, 3, .chr b_2), ([], 12, 4, .ret (.tup [(pB r_1), (pB r_2)])), ([], 13, 1, .eq (pB false)), ([], 15, 1, .eq (pB false)), ([], 17, 4, .eq (pB false)), ([], 19, 2, .eq (pI (p1.length : Int))), ([], 19, 3, .eq (pB true))]) (ex := .ret) (by kernel_rfl) (by kernel_rfl) (allC (cg q13) (allC q14 (allC (ref03Known_ok k p0 (b_2.toNat : Int) _ q15) (allC (cg q16) (allC (cg q17) (allC (cg q18) (allC (len_ob (rfl : (p1.map cS) = p1.map cS)) (allC (cg q19) allN))))))))
                      have q12 := q10 _ _ (by intro e; cases e) q11
                      cases h
                    · skip
                      obtain ⟨b_3, q20, q9⟩ := bnd_some q9
                      obtain ⟨y_2, q21, q9⟩ := bnd_some q9
                      obtain ⟨q22, q9⟩ := grd_some q9
                      cases q9
            · skip
              cases q9
              try dsimp only at h
              have q11 := run_go (k := (k + 1)) (f := 12) (r0 := 0) (nt := 103) (c := ref03Parse_L10x1) (σ := (ref03Parse_S10x1 p0 p1 y_1 (v_1, v_2, v_3))) (adv [([], 10, 3, .eq (pB false))]) (ex := (.exit 2)) (by kernel_rfl) (by kernel_rfl) (allC (cg q13) allN)
              have q12 := q10 _ _ (by intro e; cases e) q11
              obtain rfl := Sum.inl.inj (Option.some.inj h)
              exact ⟨_, run_go (k := (k + 1)) (f := 12) (r0 := 0) (nt := 103) (c := ref03Parse_L3) (σ := (ref03Parse_S3 p0 p1 (v0, v1))) (adv [([], 3, 2, .eq (pI (p1.length : Int))), ([], 3, 3, .eq (pB true)), ([], 4, 2, .elem [(pS y_1)]), ([], 5, 1, .eq (pB false)), ([], 7, 2, .eq (pB false)), ([], 7, 6, .eq (pB false)), ([], 7, 8, .chr b_1), ([], 7, 10, .eq (pB false))] [([], 10, (.exit 2), (stOf (go (k + 1) 12 0 103 (adv [([], 10, 3, .eq (pB false))]) ref03Parse_L10x1 (ref03Parse_S10x1 p0 p1 y_1 (v_1, v_2, v_3)))))]) (ex := .normal) (by kernel_rfl) (by kernel_rfl) (allC (len_ob (rfl : (p1.map cS) = p1.map cS)) (allC (cg q1) (allC (gt_list (c := cS) q2) (allC (cg q3) (allC (cg q4) (allC (cg q5) (allC q6 (allC (cg q7) (allC q12 allN))))))))), (by kernel_rfl)⟩
  · skip
    cases h
/-- flagstone/flagstoneref03.Parse -/
def ref03Parse (spec : ByteArray) (argv : (List ByteArray)) : Option ((List FlagD) × (List ByteArray) × Int) :=
  (iterN (ref03Parse_b3 spec argv) LF ((0 : Int), ([] : (List FlagD)))).bind fun X_1 => match X_1 with
  | .inl (v_1, v_2, y_1) => (
    grd (0 ≤ (w64 (v_1 + (1 : Int))) ∧ (w64 (v_1 + (1 : Int))) ≤ (argv.length : Int) ∧ (argv.length : Int) ≤ (argv.length : Int)) <|
    grd (room (([] : (List ByteArray)).length + (argv.drop (((w64 (v_1 + (1 : Int)))).toNat)).length) 16) <|
    some (v_2, (([] : (List ByteArray)) ++ (argv.drop (((w64 (v_1 + (1 : Int)))).toNat))), (0 : Int))
  )
  | .inr (.inl (v_1, v_2, y_1)) => (
    grd (0 ≤ v_1 ∧ v_1 ≤ (argv.length : Int) ∧ (argv.length : Int) ≤ (argv.length : Int)) <|
    grd (room (([] : (List ByteArray)).length + (argv.drop ((v_1).toNat)).length) 16) <|
    some (v_2, (([] : (List ByteArray)) ++ (argv.drop ((v_1).toNat))), (0 : Int))
  )
  | .inr (.inr (.inl (v_1, v_2, y_1))) => (
    grd (0 ≤ v_1 ∧ v_1 ≤ (argv.length : Int) ∧ (argv.length : Int) ≤ (argv.length : Int)) <|
    grd (room (([] : (List ByteArray)).length + (argv.drop ((v_1).toNat)).length) 16) <|
    some (v_2, (([] : (List ByteArray)) ++ (argv.drop ((v_1).toNat))), (0 : Int))
  )
  | .inr (.inr (.inr (.inl (v_1, v_2, y_1, b_1)))) => (
    grd (0 ≤ v_1 ∧ v_1 ≤ (argv.length : Int) ∧ (argv.length : Int) ≤ (argv.length : Int)) <|
    grd (room (([] : (List ByteArray)).length + (argv.drop ((v_1).toNat)).length) 16) <|
    some (v_2, (([] : (List ByteArray)) ++ (argv.drop ((v_1).toNat))), (0 : Int))
  )
  | .inr (.inr (.inr (.inr (.inl (v_1, v_2, y_1, b_1, v_3, v_4, v_5, b_2, r_1, r_2))))) => (
    some ([], [], (30 : Int))
  )
  | .inr (.inr (.inr (.inr (.inr (.inl (v_1, v_2, y_1, b_1, v_3, v_4, v_5, b_2, r_1, r_2)))))) => (
    some ([], [], (31 : Int))
  )
  | .inr (.inr (.inr (.inr (.inr (.inr ((v_1, v_2))))))) => (
    grd (0 ≤ v_1 ∧ v_1 ≤ (argv.length : Int) ∧ (argv.length : Int) ≤ (argv.length : Int)) <|
    grd (room (([] : (List ByteArray)).length + (argv.drop ((v_1).toNat)).length) 16) <|
    some (v_2, (([] : (List ByteArray)) ++ (argv.drop ((v_1).toNat))), (0 : Int))
  )
set_option maxRecDepth 100000 in
theorem ref03Parse_ok (k : Nat) (spec : ByteArray) (argv : (List ByteArray)) (r : ((List FlagD) × (List ByteArray) × Int)) (h : ref03Parse spec argv = some r) : run0 (k + 2) 12 [(pS spec), (.list 1 false (argv.map cS))] = some (.tup [(.list 2 false (r.1.map FlagD.c)), (.list 1 false (r.2.1.map cS)), (pI r.2.2)]) := by
  unfold ref03Parse at h
  obtain ⟨X_1, q1, h⟩ := bnd_some h
  obtain ⟨a_1, q2, q3⟩ := loop_iter (f := run1 (k + 1) 12 0 103 ref03Parse_L3) (ref03Parse_S3 spec argv) (ref03Parse_b3 spec argv) (ref03Parse_t3 k spec argv) LF ((0 : Int), ([] : (List FlagD))) _ (stOf (goStop (k + 1) 12 0 103 (adv []) 3 (codeOf Tryd.f12) (argS 12 [(pS spec), (.list 1 false (argv.map cS))]))) q1 (Eq.trans (b := some (ref03Parse_R3 spec (argv.map cS) 0 (0 : Int) [])) (by kernel_rfl) (congrArg some ((ref03Parse_R3_eq (rfl : spec = spec) (rfl : (argv.map cS) = (argv.map cS)) (rfl : 0 = (([] : (List FlagD)).length)) (rfl : (0 : Int) = (0 : Int)) (rfl : [] = (([] : (List FlagD)).map FlagD.c))).trans (by kernel_rfl : ref03Parse_R3 spec (argv.map cS) (([] : (List FlagD)).length) (0 : Int) (([] : (List FlagD)).map FlagD.c) = ref03Parse_S3 spec argv ((0 : Int), ([] : (List FlagD)))))))
  obtain ⟨v_1, v_2⟩ := a_1
  unfold ref03Parse_b3 at q2
  try dsimp only at q2
  rcases bif_some q2 with ⟨q6, q2⟩ | ⟨q6, q2⟩
  · skip
    obtain ⟨y_1, q7, q2⟩ := bnd_some q2
    rcases bif_some q2 with ⟨q8, q2⟩ | ⟨q8, q2⟩
    · skip
      cases q2
      try dsimp only at h
      have q4 := run_go (k := (k + 1)) (f := 12) (r0 := 0) (nt := 103) (c := ref03Parse_L3) (σ := (ref03Parse_S3 spec argv (v_1, v_2))) (adv [([], 3, 2, .eq (pI (argv.length : Int))), ([], 3, 3, .eq (pB true)), ([], 4, 2, .elem [(pS y_1)]), ([], 5, 1, .eq (pB true))]) (ex := (.exit 0)) (by kernel_rfl) (by kernel_rfl) (allC (len_ob (rfl : (argv.map cS) = argv.map cS)) (allC (cg q6) (allC (gt_list (c := cS) q7) (allC (cg q8) allN))))
      have q5 := q3 _ _ (by intro e; cases e) q4
      obtain ⟨q28, h⟩ := grd_some h
      obtain ⟨q29, h⟩ := grd_some h
      obtain rfl := Option.some.inj h
      exact (ret_go (k := (k + 1)) Tryd.func12 Tryd.ntmps12 (by kernel_rfl) (by kernel_rfl) (Nat.le_of_ble_eq_true rfl) (adv [([], 23, 4, .sub false), ([], 23, 5, .ok)] [([], 3, (.exit 0), (stOf (go (k + 1) 12 0 103 (adv [([], 3, 2, .eq (pI (argv.length : Int))), ([], 3, 3, .eq (pB true)), ([], 4, 2, .elem [(pS y_1)]), ([], 5, 1, .eq (pB true))]) ref03Parse_L3 (ref03Parse_S3 spec argv (v_1, v_2)))))]) (ex := .ret) (r := (.tup [(.list 2 false (v_2.map FlagD.c)), (.list 1 false ([] ++ (((argv.map cS).drop (((w64 (v_1 + (1 : Int)))).toNat)).take ((argv.map cS).length - ((w64 (v_1 + (1 : Int)))).toNat)))), (pI (0 : Int))])) (by kernel_rfl) rfl (by kernel_rfl) (allC q5 (allC (sub_ok1 (c := cS) q28) (allC (app_ok2 (rfl : [] = ([] : (List ByteArray)).map cS) (rfl : 0 = ([] : (List ByteArray)).length) ((enc_drop rfl (((w64 (v_1 + (1 : Int)))).toNat)) : (((argv.map cS).drop (((w64 (v_1 + (1 : Int)))).toNat)).take ((argv.map cS).length - ((w64 (v_1 + (1 : Int)))).toNat)) = (argv.drop (((w64 (v_1 + (1 : Int)))).toNat)).map cS) q29) allN))) (by kernel_rfl) (allC (row_ok (rfl : (v_2.map FlagD.c) = v_2.map FlagD.c) (rfl : v_2.length = v_2.length)) (allC (row_ok ((enc_cat (rfl : [] = ([] : (List ByteArray)).map cS) ((enc_drop rfl (((w64 (v_1 + (1 : Int)))).toNat)) : (((argv.map cS).drop (((w64 (v_1 + (1 : Int)))).toNat)).take ((argv.map cS).length - ((w64 (v_1 + (1 : Int)))).toNat)) = (argv.drop (((w64 (v_1 + (1 : Int)))).toNat)).map cS)) : ([] ++ (((argv.map cS).drop (((w64 (v_1 + (1 : Int)))).toNat)).take ((argv.map cS).length - ((w64 (v_1 + (1 : Int)))).toNat))) = (([] : (List ByteArray)) ++ (argv.drop (((w64 (v_1 + (1 : Int)))).toNat))).map cS) ((len_cat (rfl : 0 = ([] : (List ByteArray)).length) ([] : (List ByteArray)) (enc_len ((enc_drop rfl (((w64 (v_1 + (1 : Int)))).toNat)) : (((argv.map cS).drop (((w64 (v_1 + (1 : Int)))).toNat)).take ((argv.map cS).length - ((w64 (v_1 + (1 : Int)))).toNat)) = (argv.drop (((w64 (v_1 + (1 : Int)))).toNat)).map cS))) : (0 + (((argv.map cS).drop (((w64 (v_1 + (1 : Int)))).toNat)).take ((argv.map cS).length - ((w64 (v_1 + (1 : Int)))).toNat)).length) = (([] : (List ByteArray)) ++ (argv.drop (((w64 (v_1 + (1 : Int)))).toNat))).length)) allN))).trans (congrArg some (by rw [(show ([] ++ (((argv.map cS).drop (((w64 (v_1 + (1 : Int)))).toNat)).take ((argv.map cS).length - ((w64 (v_1 + (1 : Int)))).toNat))) = ((([] : (List ByteArray)) ++ (argv.drop (((w64 (v_1 + (1 : Int)))).toNat))).map cS) from (enc_cat (rfl : [] = ([] : (List ByteArray)).map cS) ((enc_drop rfl (((w64 (v_1 + (1 : Int)))).toNat)) : (((argv.map cS).drop (((w64 (v_1 + (1 : Int)))).toNat)).take ((argv.map cS).length - ((w64 (v_1 + (1 : Int)))).toNat)) = (argv.drop (((w64 (v_1 + (1 : Int)))).toNat)).map cS)))] <;> rfl))
    · skip
      rcases bif_some q2 with ⟨q9, q2⟩ | ⟨q9, q2⟩
      · skip
        cases q2
        try dsimp only at h
        have q4 := run_go (k := (k + 1)) (f := 12) (r0 := 0) (nt := 103) (c := ref03Parse_L3) (σ := (ref03Parse_S3 spec argv (v_1, v_2))) (adv [([], 3, 2, .eq (pI (argv.length : Int))), ([], 3, 3, .eq (pB true)), ([], 4, 2, .elem [(pS y_1)]), ([], 5, 1, .eq (pB false)), ([], 7, 2, .eq (pB true))]) (ex := (.exit 0)) (by kernel_rfl) (by kernel_rfl) (allC (len_ob (rfl : (argv.map cS) = argv.map cS)) (allC (cg q6) (allC (gt_list (c := cS) q7) (allC (cg q8) (allC (cg q9) allN)))))
        have q5 := q3 _ _ (by intro e; cases e) q4
        obtain ⟨q28, h⟩ := grd_some h
        obtain ⟨q29, h⟩ := grd_some h
        obtain rfl := Option.some.inj h
        exact (ret_go (k := (k + 1)) Tryd.func12 Tryd.ntmps12 (by kernel_rfl) (by kernel_rfl) (Nat.le_of_ble_eq_true rfl) (adv [([], 23, 4, .sub false), ([], 23, 5, .ok)] [([], 3, (.exit 0), (stOf (go (k + 1) 12 0 103 (adv [([], 3, 2, .eq (pI (argv.length : Int))), ([], 3, 3, .eq (pB true)), ([], 4, 2, .elem [(pS y_1)]), ([], 5, 1, .eq (pB false)), ([], 7, 2, .eq (pB true))]) ref03Parse_L3 (ref03Parse_S3 spec argv (v_1, v_2)))))]) (ex := .ret) (r := (.tup [(.list 2 false (v_2.map FlagD.c)), (.list 1 false ([] ++ (((argv.map cS).drop ((v_1).toNat)).take ((argv.map cS).length - (v_1).toNat)))), (pI (0 : Int))])) (by kernel_rfl) rfl (by kernel_rfl) (allC q5 (allC (sub_ok1 (c := cS) q28) (allC (app_ok2 (rfl : [] = ([] : (List ByteArray)).map cS) (rfl : 0 = ([] : (List ByteArray)).length) ((enc_drop rfl ((v_1).toNat)) : (((argv.map cS).drop ((v_1).toNat)).take ((argv.map cS).length - (v_1).toNat)) = (argv.drop ((v_1).toNat)).map cS) q29) allN))) (by kernel_rfl) (allC (row_ok (rfl : (v_2.map FlagD.c) = v_2.map FlagD.c) (rfl : v_2.length = v_2.length)) (allC (row_ok ((enc_cat (rfl : [] = ([] : (List ByteArray)).map cS) ((enc_drop rfl ((v_1).toNat)) : (((argv.map cS).drop ((v_1).toNat)).take ((argv.map cS).length - (v_1).toNat)) = (argv.drop ((v_1).toNat)).map cS)) : ([] ++ (((argv.map cS).drop ((v_1).toNat)).take ((argv.map cS).length - (v_1).toNat))) = (([] : (List ByteArray)) ++ (argv.drop ((v_1).toNat))).map cS) ((len_cat (rfl : 0 = ([] : (List ByteArray)).length) ([] : (List ByteArray)) (enc_len ((enc_drop rfl ((v_1).toNat)) : (((argv.map cS).drop ((v_1).toNat)).take ((argv.map cS).length - (v_1).toNat)) = (argv.drop ((v_1).toNat)).map cS))) : (0 + (((argv.map cS).drop ((v_1).toNat)).take ((argv.map cS).length - (v_1).toNat)).length) = (([] : (List ByteArray)) ++ (argv.drop ((v_1).toNat))).length)) allN))).trans (congrArg some (by rw [(show ([] ++ (((argv.map cS).drop ((v_1).toNat)).take ((argv.map cS).length - (v_1).toNat))) = ((([] : (List ByteArray)) ++ (argv.drop ((v_1).toNat))).map cS) from (enc_cat (rfl : [] = ([] : (List ByteArray)).map cS) ((enc_drop rfl ((v_1).toNat)) : (((argv.map cS).drop ((v_1).toNat)).take ((argv.map cS).length - (v_1).toNat)) = (argv.drop ((v_1).toNat)).map cS)))] <;> rfl))
      · skip
        rcases bif_some q2 with ⟨q10, q2⟩ | ⟨q10, q2⟩
        · skip
          cases q2
          try dsimp only at h
          have q4 := run_go (k := (k + 1)) (f := 12) (r0 := 0) (nt := 103) (c := ref03Parse_L3) (σ := (ref03Parse_S3 spec argv (v_1, v_2))) (adv [([], 3, 2, .eq (pI (argv.length : Int))), ([], 3, 3, .eq (pB true)), ([], 4, 2, .elem [(pS y_1)]), ([], 5, 1, .eq (pB false)), ([], 7, 2, .eq (pB false)), ([], 7, 6, .eq (pB true))]) (ex := (.exit 0)) (by kernel_rfl) (by kernel_rfl) (allC (len_ob (rfl : (argv.map cS) = argv.map cS)) (allC (cg q6) (allC (gt_list (c := cS) q7) (allC (cg q8) (allC (cg q9) (allC (cg q10) allN))))))
          have q5 := q3 _ _ (by intro e; cases e) q4
          obtain ⟨q28, h⟩ := grd_some h
          obtain ⟨q29, h⟩ := grd_some h
          obtain rfl := Option.some.inj h
          exact (ret_go (k := (k + 1)) Tryd.func12 Tryd.ntmps12 (by kernel_rfl) (by kernel_rfl) (Nat.le_of_ble_eq_true rfl) (adv [([], 23, 4, .sub false), ([], 23, 5, .ok)] [([], 3, (.exit 0), (stOf (go (k + 1) 12 0 103 (adv [([], 3, 2, .eq (pI (argv.length : Int))), ([], 3, 3, .eq (pB true)), ([], 4, 2, .elem [(pS y_1)]), ([], 5, 1, .eq (pB false)), ([], 7, 2, .eq (pB false)), ([], 7, 6, .eq (pB true))]) ref03Parse_L3 (ref03Parse_S3 spec argv (v_1, v_2)))))]) (ex := .ret) (r := (.tup [(.list 2 false (v_2.map FlagD.c)), (.list 1 false ([] ++ (((argv.map cS).drop ((v_1).toNat)).take ((argv.map cS).length - (v_1).toNat)))), (pI (0 : Int))])) (by kernel_rfl) rfl (by kernel_rfl) (allC q5 (allC (sub_ok1 (c := cS) q28) (allC (app_ok2 (rfl : [] = ([] : (List ByteArray)).map cS) (rfl : 0 = ([] : (List ByteArray)).length) ((enc_drop rfl ((v_1).toNat)) : (((argv.map cS).drop ((v_1).toNat)).take ((argv.map cS).length - (v_1).toNat)) = (argv.drop ((v_1).toNat)).map cS) q29) allN))) (by kernel_rfl) (allC (row_ok (rfl : (v_2.map FlagD.c) = v_2.map FlagD.c) (rfl : v_2.length = v_2.length)) (allC (row_ok ((enc_cat (rfl : [] = ([] : (List ByteArray)).map cS) ((enc_drop rfl ((v_1).toNat)) : (((argv.map cS).drop ((v_1).toNat)).take ((argv.map cS).length - (v_1).toNat)) = (argv.drop ((v_1).toNat)).map cS)) : ([] ++ (((argv.map cS).drop ((v_1).toNat)).take ((argv.map cS).length - (v_1).toNat))) = (([] : (List ByteArray)) ++ (argv.drop ((v_1).toNat))).map cS) ((len_cat (rfl : 0 = ([] : (List ByteArray)).length) ([] : (List ByteArray)) (enc_len ((enc_drop rfl ((v_1).toNat)) : (((argv.map cS).drop ((v_1).toNat)).take ((argv.map cS).length - (v_1).toNat)) = (argv.drop ((v_1).toNat)).map cS))) : (0 + (((argv.map cS).drop ((v_1).toNat)).take ((argv.map cS).length - (v_1).toNat)).length) = (([] : (List ByteArray)) ++ (argv.drop ((v_1).toNat))).length)) allN))).trans (congrArg some (by rw [(show ([] ++ (((argv.map cS).drop ((v_1).toNat)).take ((argv.map cS).length - (v_1).toNat))) = ((([] : (List ByteArray)) ++ (argv.drop ((v_1).toNat))).map cS) from (enc_cat (rfl : [] = ([] : (List ByteArray)).map cS) ((enc_drop rfl ((v_1).toNat)) : (((argv.map cS).drop ((v_1).toNat)).take ((argv.map cS).length - (v_1).toNat)) = (argv.drop ((v_1).toNat)).map cS)))] <;> rfl))
        · skip
          obtain ⟨b_1, q11, q2⟩ := bnd_some q2
          rcases bif_some q2 with ⟨q12, q2⟩ | ⟨q12, q2⟩
          · skip
            cases q2
            try dsimp only at h
            have q4 := run_go (k := (k + 1)) (f := 12) (r0 := 0) (nt := 103) (c := ref03Parse_L3) (σ := (ref03Parse_S3 spec argv (v_1, v_2))) (adv [([], 3, 2, .eq (pI (argv.length : Int))), ([], 3, 3, .eq (pB true)), ([], 4, 2, .elem [(pS y_1)]), ([], 5, 1, .eq (pB false)), ([], 7, 2, .eq (pB false)), ([], 7, 6, .eq (pB false)), ([], 7, 8, .chr b_1), ([], 7, 10, .eq (pB true))]) (ex := (.exit 0)) (by kernel_rfl) (by kernel_rfl) (allC (len_ob (rfl : (argv.map cS) = argv.map cS)) (allC (cg q6) (allC (gt_list (c := cS) q7) (allC (cg q8) (allC (cg q9) (allC (cg q10) (allC q11 (allC (cg q12) allN))))))))
            have q5 := q3 _ _ (by intro e; cases e) q4
            obtain ⟨q28, h⟩ := grd_some h
            obtain ⟨q29, h⟩ := grd_some h
            obtain rfl := Option.some.inj h
            exact (ret_go (k := (k + 1)) Tryd.func12 Tryd.ntmps12 (by kernel_rfl) (by kernel_rfl) (Nat.le_of_ble_eq_true rfl) (adv [([], 23, 4, .sub false), ([], 23, 5, .ok)] [([], 3, (.exit 0), (stOf (go (k + 1) 12 0 103 (adv [([], 3, 2, .eq (pI (argv.length : Int))), ([], 3, 3, .eq (pB true)), ([], 4, 2, .elem [(pS y_1)]), ([], 5, 1, .eq (pB false)), ([], 7, 2, .eq (pB false)), ([], 7, 6, .eq (pB false)), ([], 7, 8, .chr b_1), ([], 7, 10, .eq (pB true))]) ref03Parse_L3 (ref03Parse_S3 spec argv (v_1, v_2)))))]) (ex := .ret) (r := (.tup [(.list 2 false (v_2.map FlagD.c)), (.list 1 false ([] ++ (((argv.map cS).drop ((v_1).toNat)).take ((argv.map cS).length - (v_1).toNat)))), (pI (0 : Int))])) (by kernel_rfl) rfl (by kernel_rfl) (allC q5 (allC (sub_ok1 (c := cS) q28) (allC (app_ok2 (rfl : [] = ([] : (List ByteArray)).map cS) (rfl : 0 = ([] : (List ByteArray)).length) ((enc_drop rfl ((v_1).toNat)) : (((argv.map cS).drop ((v_1).toNat)).take ((argv.map cS).length - (v_1).toNat)) = (argv.drop ((v_1).toNat)).map cS) q29) allN))) (by kernel_rfl) (allC (row_ok (rfl : (v_2.map FlagD.c) = v_2.map FlagD.c) (rfl : v_2.length = v_2.length)) (allC (row_ok ((enc_cat (rfl : [] = ([] : (List ByteArray)).map cS) ((enc_drop rfl ((v_1).toNat)) : (((argv.map cS).drop ((v_1).toNat)).take ((argv.map cS).length - (v_1).toNat)) = (argv.drop ((v_1).toNat)).map cS)) : ([] ++ (((argv.map cS).drop ((v_1).toNat)).take ((argv.map cS).length - (v_1).toNat))) = (([] : (List ByteArray)) ++ (argv.drop ((v_1).toNat))).map cS) ((len_cat (rfl : 0 = ([] : (List ByteArray)).length) ([] : (List ByteArray)) (enc_len ((enc_drop rfl ((v_1).toNat)) : (((argv.map cS).drop ((v_1).toNat)).take ((argv.map cS).length - (v_1).toNat)) = (argv.drop ((v_1).toNat)).map cS))) : (0 + (((argv.map cS).drop ((v_1).toNat)).take ((argv.map cS).length - (v_1).toNat)).length) = (([] : (List ByteArray)) ++ (argv.drop ((v_1).toNat))).length)) allN))).trans (congrArg some (by rw [(show ([] ++ (((argv.map cS).drop ((v_1).toNat)).take ((argv.map cS).length - (v_1).toNat))) = ((([] : (List ByteArray)) ++ (argv.drop ((v_1).toNat))).map cS) from (enc_cat (rfl : [] = ([] : (List ByteArray)).map cS) ((enc_drop rfl ((v_1).toNat)) : (((argv.map cS).drop ((v_1).toNat)).take ((argv.map cS).length - (v_1).toNat)) = (argv.drop ((v_1).toNat)).map cS)))] <;> rfl))
          · skip
            obtain ⟨X_2, q13, q2⟩ := bnd_some q2
            obtain ⟨a_2, q14, q15⟩ := loop_iter (f := run1 (k + 1) 12 0 103 ref03Parse_L10x1) (ref03Parse_S10x1 spec argv y_1) (ref03Parse_b10x1 spec argv y_1) (ref03Parse_t10x1 k spec argv y_1) LF ((w64 (v_1 + (1 : Int))), (1 : Int), v_2) _ (stOf (goStop (k + 1) 12 0 103 (adv [([], 3, 2, .eq (pI (argv.length : Int))), ([], 3, 3, .eq (pB true)), ([], 4, 2, .elem [(pS y_1)]), ([], 5, 1, .eq (pB false)), ([], 7, 2, .eq (pB false)), ([], 7, 6, .eq (pB false)), ([], 7, 8, .chr b_1), ([], 7, 10, .eq (pB false))]) 10 (ref03Parse_L3) (ref03Parse_S3 spec argv (v_1, v_2)))) q13 (by kernel_rfl)
            obtain ⟨v_3, v_4, v_5⟩ := a_2
            unfold ref03Parse_b10x1 at q14
            try dsimp only at q14
            rcases bif_some q14 with ⟨q18, q14⟩ | ⟨q18, q14⟩
            · skip
              obtain ⟨b_2, q19, q14⟩ := bnd_some q14
              obtain ⟨⟨r_1, r_2⟩, q20, q14⟩ := bnd_some q14
              try dsimp only at q14
              rcases bif_some q14 with ⟨q21, q14⟩ | ⟨q21, q14⟩
              · skip
                cases q14
                try dsimp only at q2
                have q16 := run_go (k := (k + 1)) (f := 12) (r0 := 0) (nt := 103) (c := ref03Parse_L10x1) (σ := (ref03Parse_S10x1 spec argv y_1 (v_3, v_4, v_5))) (adv [([], 10, 3, .eq (pB true)), ([], 12, 3, .chr b_2), ([], 12, 4, .ret (.tup [(pB r_1), (pB r_2)])), ([], 13, 1, .eq (pB true))]) (ex := .ret) (by kernel_rfl) (by kernel_rfl) (allC (cg q18) (allC q19 (allC (ref03Known_ok k spec (b_2.toNat : Int) _ q20) (allC (cg q21) allN))))
                have q17 := q15 _ _ (by intro e; cases e) q16
                cases q2
                try dsimp only at h
                have q4 := run_go (k := (k + 1)) (f := 12) (r0 := 0) (nt := 103) (c := ref03Parse_L3) (σ := (ref03Parse_S3 spec argv (v_1, v_2))) (adv [([], 3, 2, .eq (pI (argv.length : Int))), ([], 3, 3, .eq (pB true)), ([], 4, 2, .elem [(pS y_1)]), ([], 5, 1, .eq (pB false)), ([], 7, 2, .eq (pB false)), ([], 7, 6, .eq (pB false)), ([], 7, 8, .chr b_1), ([], 7, 10, .eq (pB false))] [([], 10, .ret, (stOf (go (k + 1) 12 0 103 (adv [([], 10, 3, .eq (pB true)), ([], 12, 3, .chr b_2), ([], 12, 4, .ret (.tup [(pB r_1), (pB r_2)])), ([], 13, 1, .eq (pB true))]) ref03Parse_L10x1 (ref03Parse_S10x1 spec argv y_1 (v_3, v_4, v_5)))))]) (ex := .ret) (by kernel_rfl) (by kernel_rfl) (allC (len_ob (rfl : (argv.map cS) = argv.map cS)) (allC (cg q6) (allC (gt_list (c := cS) q7) (allC (cg q8) (allC (cg q9) (allC (cg q10) (allC q11 (allC (cg q12) (allC q17 allN)))))))))
                have q5 := q3 _ _ (by intro e; cases e) q4
                obtain rfl := Option.some.inj h
                exact ret_go (k := (k + 1)) Tryd.func12 Tryd.ntmps12 (by kernel_rfl) (by kernel_rfl) (Nat.le_of_ble_eq_true rfl) (adv [] [([], 3, .ret, (stOf (go (k + 1) 12 0 103 (adv [([], 3, 2, .eq (pI (argv.length : Int))), ([], 3, 3, .eq (pB true)), ([], 4, 2, .elem [(pS y_1)]), ([], 5, 1, .eq (pB false)), ([], 7, 2, .eq (pB false)), ([], 7, 6, .eq (pB false)), ([], 7, 8, .chr b_1), ([], 7, 10, .eq (pB false))] [([], 10, .ret, (stOf (go (k + 1) 12 0 103 (adv [([], 10, 3, .eq (pB true)), ([], 12, 3, .chr b_2), ([], 12, 4, .ret (.tup [(pB r_1), (pB r_2)])), ([], 13, 1, .eq (pB true))]) ref03Parse_L10x1 (ref03Parse_S10x1 spec argv y_1 (v_3, v_4, v_5)))))]) ref03Parse_L3 (ref03Parse_S3 spec argv (v_1, v_2)))))]) (ex := .ret) (r := (.tup [(.list 2 false []), (.list 1 false []), (pI (30 : Int))])) (by kernel_rfl) rfl (by kernel_rfl) (allC q5 allN) (by kernel_rfl) allN
              · skip
                rcases bif_some q14 with ⟨q22, q14⟩ | ⟨q22, q14⟩
                · skip
                  obtain ⟨b_3, q23, q14⟩ := bnd_some q14
                  obtain ⟨q24, q14⟩ := grd_some q14
                  cases q14
                · skip
                  rcases bif_some q14 with ⟨q23, q14⟩ | ⟨q23, q14⟩
                  · skip
                    obtain ⟨b_3, q24, q14⟩ := bnd_some q14
                    obtain ⟨q25, q14⟩ := grd_some q14
                    obtain ⟨q26, q14⟩ := grd_some q14
                    cases q14
                    try dsimp only at q2
                    have q16 := run_go (k := (k + 1)) (f := 12) (r0 := 0) (nt := 103) (c := ref03Parse_L10x1) (σ := (ref03Parse_S10x1 spec argv y_1 (v_3, v_4, v_5))) (adv [([], 10, 3, .eq (pB true)), ([], 12, 3, .chr b_2), ([], 12, 4, .ret (.tup [(pB r_1), (pB r_2)])), ([], 13, 1, .eq (pB false)), ([], 15, 1, .eq (pB false)), ([], 17, 4, .eq (pB true)), ([], 18, 3, .chr b_3), ([], 18, 7, .sub false), ([], 18, 10, .ok)]) (ex := (.exit 2)) (by kernel_rfl) (by kernel_rfl) (allC (cg q18) (allC q19 (allC (ref03Known_ok k spec (b_2.toNat : Int) _ q20) (allC (cg q21) (allC (cg q22) (allC (cg q23) (allC q24 (allC q25 (allC (app_ok (rfl : (v_5.map FlagD.c) = v_5.map FlagD.c) (rfl : v_5.length = v_5.length) q26) allN)))))))))
                    have q17 := q15 _ _ (by intro e; cases e) q16
                    cases q2
                  · skip
                    rcases bif_some q14 with ⟨q24, q14⟩ | ⟨q24, q14⟩
                    · skip
                      cases q14
                      try dsimp only at q2
                      have q16 := run_go (k := (k + 1)) (f := 12) (r0 := 0) (nt := 103) (c := ref03Parse_L10x1) (σ := (ref03Parse_S10x1 spec argv y_1 (v_3, v_4, v_5))) (adv [([], 10, 3, .eq (pB true)), ([], 12, 3, .chr b_2), ([], 12, 4, .ret (.tup [(pB r_1), (pB r_2)])), ([], 13, 1, .eq (pB false)), ([], 15, 1, .eq (pB false)), ([], 17, 4, .eq (pB false)), ([], 19, 2, .eq (pI (argv.length : Int))), ([], 19, 3, .eq (pB true))]) (ex := .ret) (by kernel_rfl) (by kernel_rfl) (allC (cg q18) (allC q19 (allC (ref03Known_ok k spec (b_2.toNat : Int) _ q20) (allC (cg q21) (allC (cg q22) (allC (cg q23) (allC (len_ob (rfl : (argv.map cS) = argv.map cS)) (allC (cg q24) allN))))))))
                      have q17 := q15 _ _ (by intro e; cases e) q16
                      cases q2
                      try dsimp only at h
                      have q4 := run_go (k := (k + 1)) (f := 12) (r0 := 0) (nt := 103) (c := ref03Parse_L3) (σ := (ref03Parse_S3 spec argv (v_1, v_2))) (adv [([], 3, 2, .eq (pI (argv.length : Int))), ([], 3, 3, .eq (pB true)), ([], 4, 2, .elem [(pS y_1)]), ([], 5, 1, .eq (pB false)), ([], 7, 2, .eq (pB false)), ([], 7, 6, .eq (pB false)), ([], 7, 8, .chr b_1), ([], 7, 10, .eq (pB false))] [([], 10, .ret, (stOf (go (k + 1) 12 0 103 (adv [([], 10, 3, .eq (pB true)), ([], 12, 3, .chr b_2), ([], 12, 4, .ret (.tup [(pB r_1), (pB r_2)])), ([], 13, 1, .eq (pB false)), ([], 15, 1, .eq (pB false)), ([], 17, 4, .eq (pB false)), ([], 19, 2, .eq (pI (argv.length : Int))), ([], 19, 3, .eq (pB true))]) ref03Parse_L10x1 (ref03Parse_S10x1 spec argv y_1 (v_3, v_4, v_5)))))]) (ex := .ret) (by kernel_rfl) (by kernel_rfl) (allC (len_ob (rfl : (argv.map cS) = argv.map cS)) (allC (cg q6) (allC (gt_list (c := cS) q7) (allC (cg q8) (allC (cg q9) (allC (cg q10) (allC q11 (allC (cg q12) (allC q17 allN)))))))))
                      have q5 := q3 _ _ (by intro e; cases e) q4
                      obtain rfl := Option.some.inj h
                      exact ret_go (k := (k + 1)) Tryd.func12 Tryd.ntmps12 (by kernel_rfl) (by kernel_rfl) (Nat.le_of_ble_eq_true rfl) (adv [] [([], 3, .ret, (stOf (go (k + 1) 12 0 103 (adv [([], 3, 2, .eq (pI (argv.length : Int))), ([], 3, 3, .eq (pB true)), ([], 4, 2, .elem [(pS y_1)]), ([], 5, 1, .eq (pB false)), ([], 7, 2, .eq (pB false)), ([], 7, 6, .eq (pB false)), ([], 7, 8, .chr b_1), ([], 7, 10, .eq (pB false))] [([], 10, .ret, (stOf (go (k + 1) 12 0 103 (adv [([], 10, 3, .eq (pB true)), ([], 12, 3, .chr b_2), ([], 12, 4, .ret (.tup [(pB r_1), (pB r_2)])), ([], 13, 1, .eq (pB false)), ([], 15, 1, .eq (pB false)), ([], 17, 4, .eq (pB false)), ([], 19, 2, .eq (pI (argv.length : Int))), ([], 19, 3, .eq (pB true))]) ref03Parse_L10x1 (ref03Parse_S10x1 spec argv y_1 (v_3, v_4, v_5)))))]) ref03Parse_L3 (ref03Parse_S3 spec argv (v_1, v_2)))))]) (ex := .ret) (r := (.tup [(.list 2 false []), (.list 1 false []), (pI (31 : Int))])) (by kernel_rfl) rfl (by kernel_rfl) (allC q5 allN) (by kernel_rfl) allN
                    · skip
                      obtain ⟨b_3, q25, q14⟩ := bnd_some q14
                      obtain ⟨y_2, q26, q14⟩ := bnd_some q14
                      obtain ⟨q27, q14⟩ := grd_some q14
                      cases q14
            · skip
              cases q14
              try dsimp only at q2
              have q16 := run_go (k := (k + 1)) (f := 12) (r0 := 0) (nt := 103) (c := ref03Parse_L10x1) (σ := (ref03Parse_S10x1 spec argv y_1 (v_3, v_4, v_5))) (adv [([], 10, 3, .eq (pB false))]) (ex := (.exit 2)) (by kernel_rfl) (by kernel_rfl) (allC (cg q18) allN)
              have q17 := q15 _ _ (by intro e; cases e) q16
              cases q2
  · skip
    cases q2
    try dsimp only at h
    have q4 := run_go (k := (k + 1)) (f := 12) (r0 := 0) (nt := 103) (c := ref03Parse_L3) (σ := (ref03Parse_S3 spec argv (v_1, v_2))) (adv [([], 3, 2, .eq (pI (argv.length : Int))), ([], 3, 3, .eq (pB false))]) (ex := (.exit 0)) (by kernel_rfl) (by kernel_rfl) (allC (len_ob (rfl : (argv.map cS) = argv.map cS)) (allC (cg q6) allN))
    have q5 := q3 _ _ (by intro e; cases e) q4
    obtain ⟨q28, h⟩ := grd_some h
    obtain ⟨q29, h⟩ := grd_some h
    obtain rfl := Option.some.inj h
    exact (ret_go (k := (k + 1)) Tryd.func12 Tryd.ntmps12 (by kernel_rfl) (by kernel_rfl) (Nat.le_of_ble_eq_true rfl) (adv [([], 23, 4, .sub false), ([], 23, 5, .ok)] [([], 3, (.exit 0), (stOf (go (k + 1) 12 0 103 (adv [([], 3, 2, .eq (pI (argv.length : Int))), ([], 3, 3, .eq (pB false))]) ref03Parse_L3 (ref03Parse_S3 spec argv (v_1, v_2)))))]) (ex := .ret) (r := (.tup [(.list 2 false (v_2.map FlagD.c)), (.list 1 false ([] ++ (((argv.map cS).drop ((v_1).toNat)).take ((argv.map cS).length - (v_1).toNat)))), (pI (0 : Int))])) (by kernel_rfl) rfl (by kernel_rfl) (allC q5 (allC (sub_ok1 (c := cS) q28) (allC (app_ok2 (rfl : [] = ([] : (List ByteArray)).map cS) (rfl : 0 = ([] : (List ByteArray)).length) ((enc_drop rfl ((v_1).toNat)) : (((argv.map cS).drop ((v_1).toNat)).take ((argv.map cS).length - (v_1).toNat)) = (argv.drop ((v_1).toNat)).map cS) q29) allN))) (by kernel_rfl) (allC (row_ok (rfl : (v_2.map FlagD.c) = v_2.map FlagD.c) (rfl : v_2.length = v_2.length)) (allC (row_ok ((enc_cat (rfl : [] = ([] : (List ByteArray)).map cS) ((enc_drop rfl ((v_1).toNat)) : (((argv.map cS).drop ((v_1).toNat)).take ((argv.map cS).length - (v_1).toNat)) = (argv.drop ((v_1).toNat)).map cS)) : ([] ++ (((argv.map cS).drop ((v_1).toNat)).take ((argv.map cS).length - (v_1).toNat))) = (([] : (List ByteArray)) ++ (argv.drop ((v_1).toNat))).map cS) ((len_cat (rfl : 0 = ([] : (List ByteArray)).length) ([] : (List ByteArray)) (enc_len ((enc_drop rfl ((v_1).toNat)) : (((argv.map cS).drop ((v_1).toNat)).take ((argv.map cS).length - (v_1).toNat)) = (argv.drop ((v_1).toNat)).map cS))) : (0 + (((argv.map cS).drop ((v_1).toNat)).take ((argv.map cS).length - (v_1).toNat)).length) = (([] : (List ByteArray)) ++ (argv.drop ((v_1).toNat))).length)) allN))).trans (congrArg some (by rw [(show ([] ++ (((argv.map cS).drop ((v_1).toNat)).take ((argv.map cS).length - (v_1).toNat))) = ((([] : (List ByteArray)) ++ (argv.drop ((v_1).toNat))).map cS) from (enc_cat (rfl : [] = ([] : (List ByteArray)).map cS) ((enc_drop rfl ((v_1).toNat)) : (((argv.map cS).drop ((v_1).toNat)).take ((argv.map cS).length - (v_1).toNat)) = (argv.drop ((v_1).toNat)).map cS)))] <;> rfl))


end Go.Proofs.YtbidfkibpjjghaaDoor.Den
