/- Functions, printed by den.py out of the code: plain ones, and that the code answers as they do. -/
import Derived.Test.YtbidfkibpjjghaaDoorDenF7
set_option linter.unusedVariables false
set_option linter.unusedSimpArgs false
namespace Go.Proofs.YtbidfkibpjjghaaDoor.Den
open Go Go.RowKit

/-- flagstone/flagstonelaw03.OptionValues -/
def law03OptionValues (l : (List FlagD)) (letter : Int) : Option Bool :=
  bif (decide ((l.length : Int) > (100 : Int))) then (
    (law03Shown).bind fun r_1 =>
    some r_1
  ) else (
    (law03Shown).bind fun r_1 =>
    bif (!r_1) then (
      (law03Shown).bind fun r_2 =>
      some r_2
    ) else (
      (optionValue l letter).bind fun (r_2, r_3) =>
      (law03Its l).bind fun r_4 =>
      (ref03Value r_4 letter).bind fun (r_5, r_6) =>
      bif (seq r_2 r_5) then (
        bif (r_3 == r_6) then (
          (optionHas l letter).bind fun r_7 =>
          (law03Its l).bind fun r_8 =>
          (ref03Has r_8 letter).bind fun r_9 =>
          some (r_7 == r_9)
        ) else (
          some false
        )
      ) else (
        some false
      )
    )
  )
set_option maxRecDepth 100000 in
theorem law03OptionValues_ok (k : Nat) (l : (List FlagD)) (letter : Int) (r : Bool) (h : law03OptionValues l letter = some r) : run0 (k + 7) 4 [(.list 2 false (l.map FlagD.c)), (.v (.int .u8 letter))] = some (pB r) := by
  unfold law03OptionValues at h
  rcases bif_some h with ⟨q1, h⟩ | ⟨q1, h⟩
  · skip
    obtain ⟨r_1, q2, h⟩ := bnd_some h
    obtain rfl := Option.some.inj h
    exact ret_go (k := (k + 6)) Tryd.func4 Tryd.ntmps4 (by kernel_rfl) (by kernel_rfl) (Nat.le_of_ble_eq_true rfl) (adv [([], 1, 1, .eq (pI (l.length : Int))), ([], 1, 3, .eq (pB true)), ([], 2, 0, .ret (pB r_1))]) (ex := .ret) (r := (pB r_1)) (by kernel_rfl) rfl (by kernel_rfl) (allC (len_ob (rfl : (l.map FlagD.c) = l.map FlagD.c)) (allC (cg q1) (allC (law03Shown_ok k _ q2) allN))) (by kernel_rfl) allN
  · skip
    obtain ⟨r_1, q2, h⟩ := bnd_some h
    rcases bif_some h with ⟨q3, h⟩ | ⟨q3, h⟩
    · skip
      obtain ⟨r_2, q4, h⟩ := bnd_some h
      obtain rfl := Option.some.inj h
      exact ret_go (k := (k + 6)) Tryd.func4 Tryd.ntmps4 (by kernel_rfl) (by kernel_rfl) (Nat.le_of_ble_eq_true rfl) (adv [([], 1, 1, .eq (pI (l.length : Int))), ([], 1, 3, .eq (pB false)), ([], 1, 4, .ret (pB r_1)), ([], 1, 6, .eq (pB true)), ([], 2, 0, .ret (pB r_2))]) (ex := .ret) (r := (pB r_2)) (by kernel_rfl) rfl (by kernel_rfl) (allC (len_ob (rfl : (l.map FlagD.c) = l.map FlagD.c)) (allC (cg q1) (allC (law03Shown_ok k _ q2) (allC (cg q3) (allC (law03Shown_ok k _ q4) allN))))) (by kernel_rfl) allN
    · skip
      obtain ⟨⟨r_2, r_3⟩, q4, h⟩ := bnd_some h
      try dsimp only at h
      obtain ⟨r_4, q5, h⟩ := bnd_some h
      obtain ⟨⟨r_5, r_6⟩, q6, h⟩ := bnd_some h
      try dsimp only at h
      rcases bif_some h with ⟨q7, h⟩ | ⟨q7, h⟩
      · skip
        rcases bif_some h with ⟨q8, h⟩ | ⟨q8, h⟩
        · skip
          obtain ⟨r_7, q9, h⟩ := bnd_some h
          obtain ⟨r_8, q10, h⟩ := bnd_some h
          obtain ⟨r_9, q11, h⟩ := bnd_some h
          obtain rfl := Option.some.inj h
          exact ret_go (k := (k + 6)) Tryd.func4 Tryd.ntmps4 (by kernel_rfl) (by kernel_rfl) (Nat.le_of_ble_eq_true rfl) (adv [([], 1, 1, .eq (pI (l.length : Int))), ([], 1, 3, .eq (pB false)), ([], 1, 4, .ret (pB r_1)), ([], 1, 6, .eq (pB false)), ([], 3, 2, .ret (.tup [(pS r_2), (pB r_3)])), ([], 4, 1, .ret (.list 2 false (r_4.map FlagD.c))), ([], 4, 3, .ret (.tup [(pS r_5), (pB r_6)])), ([], 5, 3, .eq (pB true)), ([], 5, 8, .eq (pB true)), ([], 5, 11, .ret (pB r_7)), ([], 5, 13, .ret (.list 2 false (r_8.map FlagD.c))), ([], 5, 15, .ret (pB r_9))]) (ex := .ret) (r := (pB (r_7 == r_9))) (by kernel_rfl) rfl (by kernel_rfl) (allC (len_ob (rfl : (l.map FlagD.c) = l.map FlagD.c)) (allC (cg q1) (allC (law03Shown_ok k _ q2) (allC (cg q3) (allC (optionValue_ok (k + 5) l letter _ q4) (allC (law03Its_ok (k + 5) l _ q5) (allC (ref03Value_ok (k + 5) r_4 letter _ q6) (allC (cg q7) (allC (cg q8) (allC (optionHas_ok (k + 2) l letter _ q9) (allC (law03Its_ok (k + 5) l _ q10) (allC (ref03Has_ok (k + 4) r_8 letter _ q11) allN)))))))))))) (by kernel_rfl) allN
        · skip
          obtain rfl := Option.some.inj h
          exact ret_go (k := (k + 6)) Tryd.func4 Tryd.ntmps4 (by kernel_rfl) (by kernel_rfl) (Nat.le_of_ble_eq_true rfl) (adv [([], 1, 1, .eq (pI (l.length : Int))), ([], 1, 3, .eq (pB false)), ([], 1, 4, .ret (pB r_1)), ([], 1, 6, .eq (pB false)), ([], 3, 2, .ret (.tup [(pS r_2), (pB r_3)])), ([], 4, 1, .ret (.list 2 false (r_4.map FlagD.c))), ([], 4, 3, .ret (.tup [(pS r_5), (pB r_6)])), ([], 5, 3, .eq (pB true)), ([], 5, 8, .eq (pB false))]) (ex := .ret) (r := (pB false)) (by kernel_rfl) rfl (by kernel_rfl) (allC (len_ob (rfl : (l.map FlagD.c) = l.map FlagD.c)) (allC (cg q1) (allC (law03Shown_ok k _ q2) (allC (cg q3) (allC (optionValue_ok (k + 5) l letter _ q4) (allC (law03Its_ok (k + 5) l _ q5) (allC (ref03Value_ok (k + 5) r_4 letter _ q6) (allC (cg q7) (allC (cg q8) allN))))))))) (by kernel_rfl) allN
      · skip
        obtain rfl := Option.some.inj h
        exact ret_go (k := (k + 6)) Tryd.func4 Tryd.ntmps4 (by kernel_rfl) (by kernel_rfl) (Nat.le_of_ble_eq_true rfl) (adv [([], 1, 1, .eq (pI (l.length : Int))), ([], 1, 3, .eq (pB false)), ([], 1, 4, .ret (pB r_1)), ([], 1, 6, .eq (pB false)), ([], 3, 2, .ret (.tup [(pS r_2), (pB r_3)])), ([], 4, 1, .ret (.list 2 false (r_4.map FlagD.c))), ([], 4, 3, .ret (.tup [(pS r_5), (pB r_6)])), ([], 5, 3, .eq (pB false))]) (ex := .ret) (r := (pB false)) (by kernel_rfl) rfl (by kernel_rfl) (allC (len_ob (rfl : (l.map FlagD.c) = l.map FlagD.c)) (allC (cg q1) (allC (law03Shown_ok k _ q2) (allC (cg q3) (allC (optionValue_ok (k + 5) l letter _ q4) (allC (law03Its_ok (k + 5) l _ q5) (allC (ref03Value_ok (k + 5) r_4 letter _ q6) (allC (cg q7) allN)))))))) (by kernel_rfl) allN

/- flagstone/flagstonelaw03.OptionBack: its loop at region 6 -/
noncomputable def law03OptionBack_L6 : Code := cAt (codeOf Tryd.f5) [true, true, true, true, false, true, false, false]
def law03OptionBack_R6 (x0 : List (List PV)) (x1 : List (List PV)) (x2 : List (List PV)) (x3 : Nat) (x4 : Nat) (x5 : Int) (x6 : List (List PV)) (x7 : List (List PV)) : St := ⟨envL [(0, (.list 1 false x0)), (1, (.list 1 false x1)), (2, (.list 1 false x2)), (7, (.row [0, TAG] 1 0 x3)), (8, (.row [1, TAG] 1 0 x4)), (9, (pI x5))], hsL [some ⟨1, 9, x6, true, true⟩, some ⟨2, 43, x7, true, true⟩] [0, 0]⟩
theorem law03OptionBack_R6_eq {x0 y0 : List (List PV)} {x1 y1 : List (List PV)} {x2 y2 : List (List PV)} {x3 y3 : Nat} {x4 y4 : Nat} {x5 y5 : Int} {x6 y6 : List (List PV)} {x7 y7 : List (List PV)} (h0 : x0 = y0) (h1 : x1 = y1) (h2 : x2 = y2) (h3 : x3 = y3) (h4 : x4 = y4) (h5 : x5 = y5) (h6 : x6 = y6) (h7 : x7 = y7) : law03OptionBack_R6 x0 x1 x2 x3 x4 x5 x6 x7 = law03OptionBack_R6 y0 y1 y2 y3 y4 y5 y6 y7 := by
  subst h0 h1 h2 h3 h4 h5 h6 h7; rfl
def law03OptionBack_S6 (p0 : (List Int)) (p1 : (List ByteArray)) (p2 : (List ByteArray)) : (Int × (List ByteArray) × (List FlagD)) → St
  | (v0, v1, v2) => law03OptionBack_R6 (p0.map (cK .u8)) (p1.map cS) (p2.map cS) v1.length v2.length v0 (v1.map cS) (v2.map FlagD.c)
def law03OptionBack_b6 (p0 : (List Int)) (p1 : (List ByteArray)) (p2 : (List ByteArray)) : (Int × (List ByteArray) × (List FlagD)) → Option ((Int × (List ByteArray) × (List FlagD)) ⊕ (Int × (List ByteArray) × (List FlagD)))
  | (v0, v1, v2) =>
    bif (decide (v0 < (p0.length : Int))) then (
      (gt p0 v0).bind fun y_1 =>
      (gtS (bs [112, 114, 109]) (Int.tmod (IntKind.wrap .i64 y_1) (3 : Int))).bind fun b_1 =>
      grd (¬ ((((bs [45]).size + (ByteArray.mk [UInt8.ofNat ((b_1.toNat : Int)).toNat].toArray).size : Nat) : Int) > IntKind.i64.max)) <|
      grd (room (v1.length + 1) 16) <|
      bif ((b_1.toNat : Int) == (109 : Int)) then (
        (gt p1 v0).bind fun y_2 =>
        (gt p1 v0).bind fun y_3 =>
        grd (room ((v1 ++ [((bs [45]) ++ (ByteArray.mk [UInt8.ofNat ((b_1.toNat : Int)).toNat].toArray))]).length + 1) 16) <|
        grd (room (v2.length + 1) 24) <|
        some (.inl ((w64 (v0 + (1 : Int))), ((v1 ++ [((bs [45]) ++ (ByteArray.mk [UInt8.ofNat ((b_1.toNat : Int)).toNat].toArray))]) ++ [y_3]), (v2 ++ [(FlagD.mk (b_1.toNat : Int) y_2)])))
      ) else (
        grd (room (v2.length + 1) 24) <|
        some (.inl ((w64 (v0 + (1 : Int))), (v1 ++ [((bs [45]) ++ (ByteArray.mk [UInt8.ofNat ((b_1.toNat : Int)).toNat].toArray))]), (v2 ++ [(FlagD.mk (b_1.toNat : Int) (bs []))])))
      )
    ) else (
      some (.inr (v0, v1, v2))
    )
set_option maxRecDepth 100000 in
theorem law03OptionBack_t6 (k : Nat) (p0 : (List Int)) (p1 : (List ByteArray)) (p2 : (List ByteArray)) (a a1 : (Int × (List ByteArray) × (List FlagD))) (h : law03OptionBack_b6 p0 p1 p2 a = some (.inl a1)) : ∃ σ, run1 (k + 6) 5 0 104 law03OptionBack_L6 (law03OptionBack_S6 p0 p1 p2 a) = some (.normal, σ) ∧ canonS 0 [0, 1, 2, 7, 8, 9] σ = some (law03OptionBack_S6 p0 p1 p2 a1) := by
  obtain ⟨v0, v1, v2⟩ := a
  unfold law03OptionBack_b6 at h
  try dsimp only at h
  rcases bif_some h with ⟨q1, h⟩ | ⟨q1, h⟩
  · skip
    obtain ⟨y_1, q2, h⟩ := bnd_some h
    obtain ⟨b_1, q3, h⟩ := bnd_some h
    obtain ⟨q4, h⟩ := grd_some h
    obtain ⟨q5, h⟩ := grd_some h
    rcases bif_some h with ⟨q6, h⟩ | ⟨q6, h⟩
    · skip
      obtain ⟨y_2, q7, h⟩ := bnd_some h
      obtain ⟨y_3, q8, h⟩ := bnd_some h
      obtain ⟨q9, h⟩ := grd_some h
      obtain ⟨q10, h⟩ := grd_some h
      obtain rfl := Sum.inl.inj (Option.some.inj h)
      exact ⟨_, run_go (k := (k + 6)) (f := 5) (r0 := 0) (nt := 104) (c := law03OptionBack_L6) (σ := (law03OptionBack_S6 p0 p1 p2 (v0, v1, v2))) (adv [([], 6, 2, .eq (pI (p0.length : Int))), ([], 6, 3, .eq (pB true)), ([], 8, 2, .elem [(.v (.int .u8 y_1))]), ([], 8, 6, .chr b_1), ([], 10, 4, .cat), ([], 10, 6, .ok), ([], 11, 1, .eq (pB true)), ([], 12, 2, .elem [(pS y_2)]), ([], 13, 3, .elem [(pS y_3)]), ([], 13, 6, .ok), ([], 14, 3, .ok)]) (ex := .normal) (by kernel_rfl) (by kernel_rfl) (allC (len_ob (rfl : (p0.map (cK .u8)) = p0.map (cK .u8))) (allC (cg q1) (allC (gt_list (c := (cK .u8)) q2) (allC q3 (allC q4 (allC (app_ok (rfl : (v1.map cS) = v1.map cS) (rfl : v1.length = v1.length) q5) (allC (cg q6) (allC (gt_list (c := cS) q7) (allC (gt_list (c := cS) q8) (allC (app_ok ((enc_cat (rfl : (v1.map cS) = v1.map cS) (show [[(pS ((bs [45]) ++ (ByteArray.mk [UInt8.ofNat ((b_1.toNat : Int)).toNat].toArray)))]] = ([((bs [45]) ++ (ByteArray.mk [UInt8.ofNat ((b_1.toNat : Int)).toNat].toArray))]).map cS from rfl)) : ((v1.map cS) ++ [[(pS ((bs [45]) ++ (ByteArray.mk [UInt8.ofNat ((b_1.toNat : Int)).toNat].toArray)))]]) = (v1 ++ [((bs [45]) ++ (ByteArray.mk [UInt8.ofNat ((b_1.toNat : Int)).toNat].toArray))]).map cS) ((len_cat (rfl : v1.length = v1.length) v1 (rfl : 1 = ([((bs [45]) ++ (ByteArray.mk [UInt8.ofNat ((b_1.toNat : Int)).toNat].toArray))]).length)) : (v1.length + 1) = (v1 ++ [((bs [45]) ++ (ByteArray.mk [UInt8.ofNat ((b_1.toNat : Int)).toNat].toArray))]).length) q9) (allC (app_ok (rfl : (v2.map FlagD.c) = v2.map FlagD.c) (rfl : v2.length = v2.length) q10) allN))))))))))), (Eq.trans (b := some (law03OptionBack_R6 (p0.map (cK .u8)) (p1.map cS) (p2.map cS) ((v1.length + 1) + 1) (v2.length + 1) (w64 (v0 + (1 : Int))) (((v1.map cS) ++ [[(pS ((bs [45]) ++ (ByteArray.mk [UInt8.ofNat ((b_1.toNat : Int)).toNat].toArray)))]]) ++ [[(pS y_3)]]) ((v2.map FlagD.c) ++ [[(.v (.int .u8 (b_1.toNat : Int))), (pS y_2)]]))) (by kernel_rfl) (congrArg some ((law03OptionBack_R6_eq (rfl : (p0.map (cK .u8)) = (p0.map (cK .u8))) (rfl : (p1.map cS) = (p1.map cS)) (rfl : (p2.map cS) = (p2.map cS)) ((len_cat ((len_cat (rfl : v1.length = v1.length) v1 (rfl : 1 = ([((bs [45]) ++ (ByteArray.mk [UInt8.ofNat ((b_1.toNat : Int)).toNat].toArray))]).length)) : (v1.length + 1) = (v1 ++ [((bs [45]) ++ (ByteArray.mk [UInt8.ofNat ((b_1.toNat : Int)).toNat].toArray))]).length) (v1 ++ [((bs [45]) ++ (ByteArray.mk [UInt8.ofNat ((b_1.toNat : Int)).toNat].toArray))]) (rfl : 1 = [y_3].length)) : ((v1.length + 1) + 1) = (((v1 ++ [((bs [45]) ++ (ByteArray.mk [UInt8.ofNat ((b_1.toNat : Int)).toNat].toArray))]) ++ [y_3]).length)) ((len_cat (rfl : v2.length = v2.length) v2 (rfl : 1 = [(FlagD.mk (b_1.toNat : Int) y_2)].length)) : (v2.length + 1) = ((v2 ++ [(FlagD.mk (b_1.toNat : Int) y_2)]).length)) (rfl : (w64 (v0 + (1 : Int))) = (w64 (v0 + (1 : Int)))) ((enc_cat ((enc_cat (rfl : (v1.map cS) = v1.map cS) (show [[(pS ((bs [45]) ++ (ByteArray.mk [UInt8.ofNat ((b_1.toNat : Int)).toNat].toArray)))]] = ([((bs [45]) ++ (ByteArray.mk [UInt8.ofNat ((b_1.toNat : Int)).toNat].toArray))]).map cS from rfl)) : ((v1.map cS) ++ [[(pS ((bs [45]) ++ (ByteArray.mk [UInt8.ofNat ((b_1.toNat : Int)).toNat].toArray)))]]) = (v1 ++ [((bs [45]) ++ (ByteArray.mk [UInt8.ofNat ((b_1.toNat : Int)).toNat].toArray))]).map cS) (show [[(pS y_3)]] = [y_3].map cS from rfl)) : (((v1.map cS) ++ [[(pS ((bs [45]) ++ (ByteArray.mk [UInt8.ofNat ((b_1.toNat : Int)).toNat].toArray)))]]) ++ [[(pS y_3)]]) = (((v1 ++ [((bs [45]) ++ (ByteArray.mk [UInt8.ofNat ((b_1.toNat : Int)).toNat].toArray))]) ++ [y_3]).map cS)) ((enc_cat (rfl : (v2.map FlagD.c) = v2.map FlagD.c) (show [[(.v (.int .u8 (b_1.toNat : Int))), (pS y_2)]] = [(FlagD.mk (b_1.toNat : Int) y_2)].map FlagD.c from rfl)) : ((v2.map FlagD.c) ++ [[(.v (.int .u8 (b_1.toNat : Int))), (pS y_2)]]) = ((v2 ++ [(FlagD.mk (b_1.toNat : Int) y_2)]).map FlagD.c))).trans (by kernel_rfl : law03OptionBack_R6 (p0.map (cK .u8)) (p1.map cS) (p2.map cS) (((v1 ++ [((bs [45]) ++ (ByteArray.mk [UInt8.ofNat ((b_1.toNat : Int)).toNat].toArray))]) ++ [y_3]).length) ((v2 ++ [(FlagD.mk (b_1.toNat : Int) y_2)]).length) (w64 (v0 + (1 : Int))) (((v1 ++ [((bs [45]) ++ (ByteArray.mk [UInt8.ofNat ((b_1.toNat : Int)).toNat].toArray))]) ++ [y_3]).map cS) ((v2 ++ [(FlagD.mk (b_1.toNat : Int) y_2)]).map FlagD.c) = law03OptionBack_S6 p0 p1 p2 ((w64 (v0 + (1 : Int))), ((v1 ++ [((bs [45]) ++ (ByteArray.mk [UInt8.ofNat ((b_1.toNat : Int)).toNat].toArray))]) ++ [y_3]), (v2 ++ [(FlagD.mk (b_1.toNat : Int) y_2)]))))))⟩
    · skip
      obtain ⟨q7, h⟩ := grd_some h
      obtain rfl := Sum.inl.inj (Option.some.inj h)
      exact ⟨_, run_go (k := (k + 6)) (f := 5) (r0 := 0) (nt := 104) (c := law03OptionBack_L6) (σ := (law03OptionBack_S6 p0 p1 p2 (v0, v1, v2))) (adv [([], 6, 2, .eq (pI (p0.length : Int))), ([], 6, 3, .eq (pB true)), ([], 8, 2, .elem [(.v (.int .u8 y_1))]), ([], 8, 6, .chr b_1), ([], 10, 4, .cat), ([], 10, 6, .ok), ([], 11, 1, .eq (pB false)), ([], 14, 3, .ok)]) (ex := .normal) (by kernel_rfl) (by kernel_rfl) (allC (len_ob (rfl : (p0.map (cK .u8)) = p0.map (cK .u8))) (allC (cg q1) (allC (gt_list (c := (cK .u8)) q2) (allC q3 (allC q4 (allC (app_ok (rfl : (v1.map cS) = v1.map cS) (rfl : v1.length = v1.length) q5) (allC (cg q6) (allC (app_ok (rfl : (v2.map FlagD.c) = v2.map FlagD.c) (rfl : v2.length = v2.length) q7) allN)))))))), (Eq.trans (b := some (law03OptionBack_R6 (p0.map (cK .u8)) (p1.map cS) (p2.map cS) (v1.length + 1) (v2.length + 1) (w64 (v0 + (1 : Int))) ((v1.map cS) ++ [[(pS ((bs [45]) ++ (ByteArray.mk [UInt8.ofNat ((b_1.toNat : Int)).toNat].toArray)))]]) ((v2.map FlagD.c) ++ [[(.v (.int .u8 (b_1.toNat : Int))), (pS (bs []))]]))) (by kernel_rfl) (congrArg some ((law03OptionBack_R6_eq (rfl : (p0.map (cK .u8)) = (p0.map (cK .u8))) (rfl : (p1.map cS) = (p1.map cS)) (rfl : (p2.map cS) = (p2.map cS)) ((len_cat (rfl : v1.length = v1.length) v1 (rfl : 1 = ([((bs [45]) ++ (ByteArray.mk [UInt8.ofNat ((b_1.toNat : Int)).toNat].toArray))]).length)) : (v1.length + 1) = ((v1 ++ [((bs [45]) ++ (ByteArray.mk [UInt8.ofNat ((b_1.toNat : Int)).toNat].toArray))]).length)) ((len_cat (rfl : v2.length = v2.length) v2 (rfl : 1 = ([(FlagD.mk (b_1.toNat : Int) (bs []))]).length)) : (v2.length + 1) = ((v2 ++ [(FlagD.mk (b_1.toNat : Int) (bs []))]).length)) (rfl : (w64 (v0 + (1 : Int))) = (w64 (v0 + (1 : Int)))) ((enc_cat (rfl : (v1.map cS) = v1.map cS) (show [[(pS ((bs [45]) ++ (ByteArray.mk [UInt8.ofNat ((b_1.toNat : Int)).toNat].toArray)))]] = ([((bs [45]) ++ (ByteArray.mk [UInt8.ofNat ((b_1.toNat : Int)).toNat].toArray))]).map cS from rfl)) : ((v1.map cS) ++ [[(pS ((bs [45]) ++ (ByteArray.mk [UInt8.ofNat ((b_1.toNat : Int)).toNat].toArray)))]]) = ((v1 ++ [((bs [45]) ++ (ByteArray.mk [UInt8.ofNat ((b_1.toNat : Int)).toNat].toArray))]).map cS)) ((enc_cat (rfl : (v2.map FlagD.c) = v2.map FlagD.c) (show [[(.v (.int .u8 (b_1.toNat : Int))), (pS (bs []))]] = ([(FlagD.mk (b_1.toNat : Int) (bs []))]).map FlagD.c from rfl)) : ((v2.map FlagD.c) ++ [[(.v (.int .u8 (b_1.toNat : Int))), (pS (bs []))]]) = ((v2 ++ [(FlagD.mk (b_1.toNat : Int) (bs []))]).map FlagD.c))).trans (by kernel_rfl : law03OptionBack_R6 (p0.map (cK .u8)) (p1.map cS) (p2.map cS) ((v1 ++ [((bs [45]) ++ (ByteArray.mk [UInt8.ofNat ((b_1.toNat : Int)).toNat].toArray))]).length) ((v2 ++ [(FlagD.mk (b_1.toNat : Int) (bs []))]).length) (w64 (v0 + (1 : Int))) ((v1 ++ [((bs [45]) ++ (ByteArray.mk [UInt8.ofNat ((b_1.toNat : Int)).toNat].toArray))]).map cS) ((v2 ++ [(FlagD.mk (b_1.toNat : Int) (bs []))]).map FlagD.c) = law03OptionBack_S6 p0 p1 p2 ((w64 (v0 + (1 : Int))), (v1 ++ [((bs [45]) ++ (ByteArray.mk [UInt8.ofNat ((b_1.toNat : Int)).toNat].toArray))]), (v2 ++ [(FlagD.mk (b_1.toNat : Int) (bs []))]))))))⟩
  · skip
    cases h
/-- flagstone/flagstonelaw03.OptionBack -/
def law03OptionBack (which : (List Int)) (values : (List ByteArray)) (operands : (List ByteArray)) : Option Bool :=
  bif (decide ((which.length : Int) > (20 : Int))) then (
    (law03Shown).bind fun r_1 =>
    some r_1
  ) else (
    bif (decide ((values.length : Int) < (which.length : Int))) then (
      (law03Shown).bind fun r_1 =>
      some r_1
    ) else (
      (law03Long values).bind fun r_1 =>
      bif r_1 then (
        (law03Shown).bind fun r_2 =>
        some r_2
      ) else (
        (law03Long operands).bind fun r_2 =>
        bif r_2 then (
          (law03Shown).bind fun r_3 =>
          some r_3
        ) else (
          (law03Shown).bind fun r_3 =>
          bif (!r_3) then (
            (law03Shown).bind fun r_4 =>
            some r_4
          ) else (
            (iterN (law03OptionBack_b6 which values operands) LF ((0 : Int), ([] : (List ByteArray)), ([] : (List FlagD)))).bind fun (v_1, v_2, v_3) =>
            grd (room (v_2.length + 1) 16) <|
            grd (room ((v_2 ++ [(bs [45, 45])]).length + operands.length) 16) <|
            (optionParse (bs [112, 114, 109, 58]) ((v_2 ++ [(bs [45, 45])]) ++ operands)).bind fun (r_4, r_5, r_6) =>
            (law03Its r_4).bind fun r_7 =>
            (ref03Same r_7 v_3).bind fun r_8 =>
            bif r_8 then (
              (ref01Texts r_5 operands).bind fun r_9 =>
              bif r_9 then (
                some (r_6 == (0 : Int))
              ) else (
                some false
              )
            ) else (
              some false
            )
          )
        )
      )
    )
  )
set_option maxRecDepth 100000 in
theorem law03OptionBack_ok (k : Nat) (which : (List Int)) (values : (List ByteArray)) (operands : (List ByteArray)) (r : Bool) (h : law03OptionBack which values operands = some r) : run0 (k + 7) 5 [(.list 1 false (which.map (cK .u8))), (.list 1 false (values.map cS)), (.list 1 false (operands.map cS))] = some (pB r) := by
  unfold law03OptionBack at h
  rcases bif_some h with ⟨q1, h⟩ | ⟨q1, h⟩
  · skip
    obtain ⟨r_1, q2, h⟩ := bnd_some h
    obtain rfl := Option.some.inj h
    exact ret_go (k := (k + 6)) Tryd.func5 Tryd.ntmps5 (by kernel_rfl) (by kernel_rfl) (Nat.le_of_ble_eq_true rfl) (adv [([], 1, 1, .eq (pI (which.length : Int))), ([], 1, 3, .eq (pB true)), ([], 2, 0, .ret (pB r_1))]) (ex := .ret) (r := (pB r_1)) (by kernel_rfl) rfl (by kernel_rfl) (allC (len_ob (rfl : (which.map (cK .u8)) = which.map (cK .u8))) (allC (cg q1) (allC (law03Shown_ok k _ q2) allN))) (by kernel_rfl) allN
  · skip
    rcases bif_some h with ⟨q2, h⟩ | ⟨q2, h⟩
    · skip
      obtain ⟨r_1, q3, h⟩ := bnd_some h
      obtain rfl := Option.some.inj h
      exact ret_go (k := (k + 6)) Tryd.func5 Tryd.ntmps5 (by kernel_rfl) (by kernel_rfl) (Nat.le_of_ble_eq_true rfl) (adv [([], 1, 1, .eq (pI (which.length : Int))), ([], 1, 3, .eq (pB false)), ([], 1, 5, .eq (pI (values.length : Int))), ([], 1, 7, .eq (pI (which.length : Int))), ([], 1, 10, .eq (pB true)), ([], 2, 0, .ret (pB r_1))]) (ex := .ret) (r := (pB r_1)) (by kernel_rfl) rfl (by kernel_rfl) (allC (len_ob (rfl : (which.map (cK .u8)) = which.map (cK .u8))) (allC (cg q1) (allC (len_ob (rfl : (values.map cS) = values.map cS)) (allC (len_ob (rfl : (which.map (cK .u8)) = which.map (cK .u8))) (allC (cg q2) (allC (law03Shown_ok k _ q3) allN)))))) (by kernel_rfl) allN
    · skip
      obtain ⟨r_1, q3, h⟩ := bnd_some h
      rcases bif_some h with ⟨q4, h⟩ | ⟨q4, h⟩
      · skip
        obtain ⟨r_2, q5, h⟩ := bnd_some h
        obtain rfl := Option.some.inj h
        exact ret_go (k := (k + 6)) Tryd.func5 Tryd.ntmps5 (by kernel_rfl) (by kernel_rfl) (Nat.le_of_ble_eq_true rfl) (adv [([], 1, 1, .eq (pI (which.length : Int))), ([], 1, 3, .eq (pB false)), ([], 1, 5, .eq (pI (values.length : Int))), ([], 1, 7, .eq (pI (which.length : Int))), ([], 1, 10, .eq (pB false)), ([], 1, 12, .ret (pB r_1)), ([], 1, 14, .eq (pB true)), ([], 2, 0, .ret (pB r_2))]) (ex := .ret) (r := (pB r_2)) (by kernel_rfl) rfl (by kernel_rfl) (allC (len_ob (rfl : (which.map (cK .u8)) = which.map (cK .u8))) (allC (cg q1) (allC (len_ob (rfl : (values.map cS) = values.map cS)) (allC (len_ob (rfl : (which.map (cK .u8)) = which.map (cK .u8))) (allC (cg q2) (allC (law03Long_ok (k + 5) values _ q3) (allC (cg q4) (allC (law03Shown_ok k _ q5) allN)))))))) (by kernel_rfl) allN
      · skip
        obtain ⟨r_2, q5, h⟩ := bnd_some h
        rcases bif_some h with ⟨q6, h⟩ | ⟨q6, h⟩
        · skip
          obtain ⟨r_3, q7, h⟩ := bnd_some h
          obtain rfl := Option.some.inj h
          exact ret_go (k := (k + 6)) Tryd.func5 Tryd.ntmps5 (by kernel_rfl) (by kernel_rfl) (Nat.le_of_ble_eq_true rfl) (adv [([], 1, 1, .eq (pI (which.length : Int))), ([], 1, 3, .eq (pB false)), ([], 1, 5, .eq (pI (values.length : Int))), ([], 1, 7, .eq (pI (which.length : Int))), ([], 1, 10, .eq (pB false)), ([], 1, 12, .ret (pB r_1)), ([], 1, 14, .eq (pB false)), ([], 1, 16, .ret (pB r_2)), ([], 1, 18, .eq (pB true)), ([], 2, 0, .ret (pB r_3))]) (ex := .ret) (r := (pB r_3)) (by kernel_rfl) rfl (by kernel_rfl) (allC (len_ob (rfl : (which.map (cK .u8)) = which.map (cK .u8))) (allC (cg q1) (allC (len_ob (rfl : (values.map cS) = values.map cS)) (allC (len_ob (rfl : (which.map (cK .u8)) = which.map (cK .u8))) (allC (cg q2) (allC (law03Long_ok (k + 5) values _ q3) (allC (cg q4) (allC (law03Long_ok (k + 5) operands _ q5) (allC (cg q6) (allC (law03Shown_ok k _ q7) allN)))))))))) (by kernel_rfl) allN
        · skip
          obtain ⟨r_3, q7, h⟩ := bnd_some h
          rcases bif_some h with ⟨q8, h⟩ | ⟨q8, h⟩
          · skip
            obtain ⟨r_4, q9, h⟩ := bnd_some h
            obtain rfl := Option.some.inj h
            exact ret_go (k := (k + 6)) Tryd.func5 Tryd.ntmps5 (by kernel_rfl) (by kernel_rfl) (Nat.le_of_ble_eq_true rfl) (adv [([], 1, 1, .eq (pI (which.length : Int))), ([], 1, 3, .eq (pB false)), ([], 1, 5, .eq (pI (values.length : Int))), ([], 1, 7, .eq (pI (which.length : Int))), ([], 1, 10, .eq (pB false)), ([], 1, 12, .ret (pB r_1)), ([], 1, 14, .eq (pB false)), ([], 1, 16, .ret (pB r_2)), ([], 1, 18, .eq (pB false)), ([], 1, 19, .ret (pB r_3)), ([], 1, 21, .eq (pB true)), ([], 2, 0, .ret (pB r_4))]) (ex := .ret) (r := (pB r_4)) (by kernel_rfl) rfl (by kernel_rfl) (allC (len_ob (rfl : (which.map (cK .u8)) = which.map (cK .u8))) (allC (cg q1) (allC (len_ob (rfl : (values.map cS) = values.map cS)) (allC (len_ob (rfl : (which.map (cK .u8)) = which.map (cK .u8))) (allC (cg q2) (allC (law03Long_ok (k + 5) values _ q3) (allC (cg q4) (allC (law03Long_ok (k + 5) operands _ q5) (allC (cg q6) (allC (law03Shown_ok k _ q7) (allC (cg q8) (allC (law03Shown_ok k _ q9) allN)))))))))))) (by kernel_rfl) allN
          · skip
            obtain ⟨X_1, q9, h⟩ := bnd_some h
            obtain ⟨a_1, q10, q11⟩ := loop_iter (f := run1 (k + 6) 5 0 104 law03OptionBack_L6) (law03OptionBack_S6 which values operands) (law03OptionBack_b6 which values operands) (law03OptionBack_t6 k which values operands) LF ((0 : Int), ([] : (List ByteArray)), ([] : (List FlagD))) _ (stOf (goStop (k + 6) 5 0 104 (adv [([], 1, 1, .eq (pI (which.length : Int))), ([], 1, 3, .eq (pB false)), ([], 1, 5, .eq (pI (values.length : Int))), ([], 1, 7, .eq (pI (which.length : Int))), ([], 1, 10, .eq (pB false)), ([], 1, 12, .ret (pB r_1)), ([], 1, 14, .eq (pB false)), ([], 1, 16, .ret (pB r_2)), ([], 1, 18, .eq (pB false)), ([], 1, 19, .ret (pB r_3)), ([], 1, 21, .eq (pB false))]) 6 (codeOf Tryd.f5) (argS 5 [(.list 1 false (which.map (cK .u8))), (.list 1 false (values.map cS)), (.list 1 false (operands.map cS))]))) q9 (Eq.trans (b := some (law03OptionBack_R6 (which.map (cK .u8)) (values.map cS) (operands.map cS) 0 0 (0 : Int) [] [])) (by kernel_rfl) (congrArg some ((law03OptionBack_R6_eq (rfl : (which.map (cK .u8)) = (which.map (cK .u8))) (rfl : (values.map cS) = (values.map cS)) (rfl : (operands.map cS) = (operands.map cS)) (rfl : 0 = (([] : (List ByteArray)).length)) (rfl : 0 = (([] : (List FlagD)).length)) (rfl : (0 : Int) = (0 : Int)) (rfl : [] = (([] : (List ByteArray)).map cS)) (rfl : [] = (([] : (List FlagD)).map FlagD.c))).trans (by kernel_rfl : law03OptionBack_R6 (which.map (cK .u8)) (values.map cS) (operands.map cS) (([] : (List ByteArray)).length) (([] : (List FlagD)).length) (0 : Int) (([] : (List ByteArray)).map cS) (([] : (List FlagD)).map FlagD.c) = law03OptionBack_S6 which values operands ((0 : Int), ([] : (List ByteArray)), ([] : (List FlagD)))))))
            obtain ⟨v_1, v_2, v_3⟩ := a_1
            unfold law03OptionBack_b6 at q10
            try dsimp only at q10
            rcases bif_some q10 with ⟨q14, q10⟩ | ⟨q14, q10⟩
            · skip
              obtain ⟨y_1, q15, q10⟩ := bnd_some q10
              obtain ⟨b_1, q16, q10⟩ := bnd_some q10
              obtain ⟨q17, q10⟩ := grd_some q10
              obtain ⟨q18, q10⟩ := grd_some q10
              rcases bif_some q10 with ⟨q19, q10⟩ | ⟨q19, q10⟩
              · skip
                obtain ⟨y_2, q20, q10⟩ := bnd_some q10
                obtain ⟨y_3, q21, q10⟩ := bnd_some q10
                obtain ⟨q22, q10⟩ := grd_some q10
                obtain ⟨q23, q10⟩ := grd_some q10
                cases q10
              · skip
                obtain ⟨q20, q10⟩ := grd_some q10
                cases q10
            · skip
              cases q10
              try dsimp only at h
              have q12 := run_go (k := (k + 6)) (f := 5) (r0 := 0) (nt := 104) (c := law03OptionBack_L6) (σ := (law03OptionBack_S6 which values operands (v_1, v_2, v_3))) (adv [([], 6, 2, .eq (pI (which.length : Int))), ([], 6, 3, .eq (pB false))]) (ex := (.exit 0)) (by kernel_rfl) (by kernel_rfl) (allC (len_ob (rfl : (which.map (cK .u8)) = which.map (cK .u8))) (allC (cg q14) allN))
              have q13 := q11 _ _ (by intro e; cases e) q12
              obtain ⟨q24, h⟩ := grd_some h
              obtain ⟨q25, h⟩ := grd_some h
              obtain ⟨⟨r_4, r_5, r_6⟩, q26, h⟩ := bnd_some h
              try dsimp only at h
              obtain ⟨r_7, q27, h⟩ := bnd_some h
              obtain ⟨r_8, q28, h⟩ := bnd_some h
              rcases bif_some h with ⟨q29, h⟩ | ⟨q29, h⟩
              · skip
                obtain ⟨r_9, q30, h⟩ := bnd_some h
                rcases bif_some h with ⟨q31, h⟩ | ⟨q31, h⟩
                · skip
                  obtain rfl := Option.some.inj h
                  exact ret_go (k := (k + 6)) Tryd.func5 Tryd.ntmps5 (by kernel_rfl) (by kernel_rfl) (Nat.le_of_ble_eq_true rfl) (adv [([], 1, 1, .eq (pI (which.length : Int))), ([], 1, 3, .eq (pB false)), ([], 1, 5, .eq (pI (values.length : Int))), ([], 1, 7, .eq (pI (which.length : Int))), ([], 1, 10, .eq (pB false)), ([], 1, 12, .ret (pB r_1)), ([], 1, 14, .eq (pB false)), ([], 1, 16, .ret (pB r_2)), ([], 1, 18, .eq (pB false)), ([], 1, 19, .ret (pB r_3)), ([], 1, 21, .eq (pB false)), ([], 15, 2, .ok), ([], 15, 4, .ok), ([], 16, 1, .ret (.tup [(.list 2 false (r_4.map FlagD.c)), (.list 1 false (r_5.map cS)), (pI r_6)])), ([], 17, 1, .ret (.list 2 false (r_7.map FlagD.c))), ([], 17, 3, .ret (pB r_8)), ([], 17, 4, .eq (pB true)), ([], 17, 7, .ret (pB r_9)), ([], 17, 9, .eq (pB true))] [([], 6, (.exit 0), (stOf (go (k + 6) 5 0 104 (adv [([], 6, 2, .eq (pI (which.length : Int))), ([], 6, 3, .eq (pB false))]) law03OptionBack_L6 (law03OptionBack_S6 which values operands (v_1, v_2, v_3)))))]) (ex := .ret) (r := (pB (r_6 == (0 : Int)))) (by kernel_rfl) rfl (by kernel_rfl) (allC (len_ob (rfl : (which.map (cK .u8)) = which.map (cK .u8))) (allC (cg q1) (allC (len_ob (rfl : (values.map cS) = values.map cS)) (allC (len_ob (rfl : (which.map (cK .u8)) = which.map (cK .u8))) (allC (cg q2) (allC (law03Long_ok (k + 5) values _ q3) (allC (cg q4) (allC (law03Long_ok (k + 5) operands _ q5) (allC (cg q6) (allC (law03Shown_ok k _ q7) (allC (cg q8) (allC q13 (allC (app_ok (rfl : (v_2.map cS) = v_2.map cS) (rfl : v_2.length = v_2.length) q24) (allC (app_ok2 ((enc_cat (rfl : (v_2.map cS) = v_2.map cS) (show [[(pS (bs [45, 45]))]] = ([(bs [45, 45])]).map cS from rfl)) : ((v_2.map cS) ++ [[(pS (bs [45, 45]))]]) = (v_2 ++ [(bs [45, 45])]).map cS) ((len_cat (rfl : v_2.length = v_2.length) v_2 (rfl : 1 = ([(bs [45, 45])]).length)) : (v_2.length + 1) = (v_2 ++ [(bs [45, 45])]).length) (rfl : (operands.map cS) = operands.map cS) q25) (allC (row_ok ((enc_cat ((enc_cat (rfl : (v_2.map cS) = v_2.map cS) (show [[(pS (bs [45, 45]))]] = ([(bs [45, 45])]).map cS from rfl)) : ((v_2.map cS) ++ [[(pS (bs [45, 45]))]]) = (v_2 ++ [(bs [45, 45])]).map cS) (rfl : (operands.map cS) = operands.map cS)) : (((v_2.map cS) ++ [[(pS (bs [45, 45]))]]) ++ (operands.map cS)) = ((v_2 ++ [(bs [45, 45])]) ++ operands).map cS) (show ((v_2.length + 1) + (operands.map cS).length) = ((v_2 ++ [(bs [45, 45])]) ++ operands).length from (len_cat ((len_cat (rfl : v_2.length = v_2.length) v_2 (rfl : 1 = ([(bs [45, 45])]).length)) : (v_2.length + 1) = (v_2 ++ [(bs [45, 45])]).length) (v_2 ++ [(bs [45, 45])]) (enc_len (rfl : (operands.map cS) = operands.map cS))))) (allC ((by rw [(show (((v_2.map cS) ++ [[(pS (bs [45, 45]))]]) ++ (operands.map cS)) = (((v_2 ++ [(bs [45, 45])]) ++ operands).map cS) from (enc_cat ((enc_cat (rfl : (v_2.map cS) = v_2.map cS) (show [[(pS (bs [45, 45]))]] = ([(bs [45, 45])]).map cS from rfl)) : ((v_2.map cS) ++ [[(pS (bs [45, 45]))]]) = (v_2 ++ [(bs [45, 45])]).map cS) (rfl : (operands.map cS) = operands.map cS)))]; exact optionParse_ok (k + 1) (bs [112, 114, 109, 58]) ((v_2 ++ [(bs [45, 45])]) ++ operands) _ q26) : run0 ((k + 1) + 5) 11 [(pS (bs [112, 114, 109, 58])), (.list 1 false (((v_2.map cS) ++ [[(pS (bs [45, 45]))]]) ++ (operands.map cS)))] = some (.tup [(.list 2 false (r_4.map FlagD.c)), (.list 1 false (r_5.map cS)), (pI r_6)])) (allC (law03Its_ok (k + 5) r_4 _ q27) (allC (row_ok (rfl : (v_3.map FlagD.c) = v_3.map FlagD.c) (show v_3.length = v_3.length from rfl)) (allC (ref03Same_ok (k + 5) r_7 v_3 _ q28) (allC (cg q29) (allC (ref01Texts_ok (k + 5) r_5 operands _ q30) (allC (cg q31) allN)))))))))))))))))))))) (by kernel_rfl) allN
                · skip
                  obtain rfl := Option.some.inj h
                  exact ret_go (k := (k + 6)) Tryd.func5 Tryd.ntmps5 (by kernel_rfl) (by kernel_rfl) (Nat.le_of_ble_eq_true rfl) (adv [([], 1, 1, .eq (pI (which.length : Int))), ([], 1, 3, .eq (pB false)), ([], 1, 5, .eq (pI (values.length : Int))), ([], 1, 7, .eq (pI (which.length : Int))), ([], 1, 10, .eq (pB false)), ([], 1, 12, .ret (pB r_1)), ([], 1, 14, .eq (pB false)), ([], 1, 16, .ret (pB r_2)), ([], 1, 18, .eq (pB false)), ([], 1, 19, .ret (pB r_3)), ([], 1, 21, .eq (pB false)), ([], 15, 2, .ok), ([], 15, 4, .ok), ([], 16, 1, .ret (.tup [(.list 2 false (r_4.map FlagD.c)), (.list 1 false (r_5.map cS)), (pI r_6)])), ([], 17, 1, .ret (.list 2 false (r_7.map FlagD.c))), ([], 17, 3, .ret (pB r_8)), ([], 17, 4, .eq (pB true)), ([], 17, 7, .ret (pB r_9)), ([], 17, 9, .eq (pB false))] [([], 6, (.exit 0), (stOf (go (k + 6) 5 0 104 (adv [([], 6, 2, .eq (pI (which.length : Int))), ([], 6, 3, .eq (pB false))]) law03OptionBack_L6 (law03OptionBack_S6 which values operands (v_1, v_2, v_3)))))]) (ex := .ret) (r := (pB false)) (by kernel_rfl) rfl (by kernel_rfl) (allC (len_ob (rfl : (which.map (cK .u8)) = which.map (cK .u8))) (allC (cg q1) (allC (len_ob (rfl : (values.map cS) = values.map cS)) (allC (len_ob (rfl : (which.map (cK .u8)) = which.map (cK .u8))) (allC (cg q2) (allC (law03Long_ok (k + 5) values _ q3) (allC (cg q4) (allC (law03Long_ok (k + 5) operands _ q5) (allC (cg q6) (allC (law03Shown_ok k _ q7) (allC (cg q8) (allC q13 (allC (app_ok (rfl : (v_2.map cS) = v_2.map cS) (rfl : v_2.length = v_2.length) q24) (allC (app_ok2 ((enc_cat (rfl : (v_2.map cS) = v_2.map cS) (show [[(pS (bs [45, 45]))]] = ([(bs [45, 45])]).map cS from rfl)) : ((v_2.map cS) ++ [[(pS (bs [45, 45]))]]) = (v_2 ++ [(bs [45, 45])]).map cS) ((len_cat (rfl : v_2.length = v_2.length) v_2 (rfl : 1 = ([(bs [45, 45])]).length)) : (v_2.length + 1) = (v_2 ++ [(bs [45, 45])]).length) (rfl : (operands.map cS) = operands.map cS) q25) (allC (row_ok ((enc_cat ((enc_cat (rfl : (v_2.map cS) = v_2.map cS) (show [[(pS (bs [45, 45]))]] = ([(bs [45, 45])]).map cS from rfl)) : ((v_2.map cS) ++ [[(pS (bs [45, 45]))]]) = (v_2 ++ [(bs [45, 45])]).map cS) (rfl : (operands.map cS) = operands.map cS)) : (((v_2.map cS) ++ [[(pS (bs [45, 45]))]]) ++ (operands.map cS)) = ((v_2 ++ [(bs [45, 45])]) ++ operands).map cS) (show ((v_2.length + 1) + (operands.map cS).length) = ((v_2 ++ [(bs [45, 45])]) ++ operands).length from (len_cat ((len_cat (rfl : v_2.length = v_2.length) v_2 (rfl : 1 = ([(bs [45, 45])]).length)) : (v_2.length + 1) = (v_2 ++ [(bs [45, 45])]).length) (v_2 ++ [(bs [45, 45])]) (enc_len (rfl : (operands.map cS) = operands.map cS))))) (allC ((by rw [(show (((v_2.map cS) ++ [[(pS (bs [45, 45]))]]) ++ (operands.map cS)) = (((v_2 ++ [(bs [45, 45])]) ++ operands).map cS) from (enc_cat ((enc_cat (rfl : (v_2.map cS) = v_2.map cS) (show [[(pS (bs [45, 45]))]] = ([(bs [45, 45])]).map cS from rfl)) : ((v_2.map cS) ++ [[(pS (bs [45, 45]))]]) = (v_2 ++ [(bs [45, 45])]).map cS) (rfl : (operands.map cS) = operands.map cS)))]; exact optionParse_ok (k + 1) (bs [112, 114, 109, 58]) ((v_2 ++ [(bs [45, 45])]) ++ operands) _ q26) : run0 ((k + 1) + 5) 11 [(pS (bs [112, 114, 109, 58])), (.list 1 false (((v_2.map cS) ++ [[(pS (bs [45, 45]))]]) ++ (operands.map cS)))] = some (.tup [(.list 2 false (r_4.map FlagD.c)), (.list 1 false (r_5.map cS)), (pI r_6)])) (allC (law03Its_ok (k + 5) r_4 _ q27) (allC (row_ok (rfl : (v_3.map FlagD.c) = v_3.map FlagD.c) (show v_3.length = v_3.length from rfl)) (allC (ref03Same_ok (k + 5) r_7 v_3 _ q28) (allC (cg q29) (allC (ref01Texts_ok (k + 5) r_5 operands _ q30) (allC (cg q31) allN)))))))))))))))))))))) (by kernel_rfl) allN
              · skip
                obtain rfl := Option.some.inj h
                exact ret_go (k := (k + 6)) Tryd.func5 Tryd.ntmps5 (by kernel_rfl) (by kernel_rfl) (Nat.le_of_ble_eq_true rfl) (adv [([], 1, 1, .eq (pI (which.length : Int))), ([], 1, 3, .eq (pB false)), ([], 1, 5, .eq (pI (values.length : Int))), ([], 1, 7, .eq (pI (which.length : Int))), ([], 1, 10, .eq (pB false)), ([], 1, 12, .ret (pB r_1)), ([], 1, 14, .eq (pB false)), ([], 1, 16, .ret (pB r_2)), ([], 1, 18, .eq (pB false)), ([], 1, 19, .ret (pB r_3)), ([], 1, 21, .eq (pB false)), ([], 15, 2, .ok), ([], 15, 4, .ok), ([], 16, 1, .ret (.tup [(.list 2 false (r_4.map FlagD.c)), (.list 1 false (r_5.map cS)), (pI r_6)])), ([], 17, 1, .ret (.list 2 false (r_7.map FlagD.c))), ([], 17, 3, .ret (pB r_8)), ([], 17, 4, .eq (pB false))] [([], 6, (.exit 0), (stOf (go (k + 6) 5 0 104 (adv [([], 6, 2, .eq (pI (which.length : Int))), ([], 6, 3, .eq (pB false))]) law03OptionBack_L6 (law03OptionBack_S6 which values operands (v_1, v_2, v_3)))))]) (ex := .ret) (r := (pB false)) (by kernel_rfl) rfl (by kernel_rfl) (allC (len_ob (rfl : (which.map (cK .u8)) = which.map (cK .u8))) (allC (cg q1) (allC (len_ob (rfl : (values.map cS) = values.map cS)) (allC (len_ob (rfl : (which.map (cK .u8)) = which.map (cK .u8))) (allC (cg q2) (allC (law03Long_ok (k + 5) values _ q3) (allC (cg q4) (allC (law03Long_ok (k + 5) operands _ q5) (allC (cg q6) (allC (law03Shown_ok k _ q7) (allC (cg q8) (allC q13 (allC (app_ok (rfl : (v_2.map cS) = v_2.map cS) (rfl : v_2.length = v_2.length) q24) (allC (app_ok2 ((enc_cat (rfl : (v_2.map cS) = v_2.map cS) (show [[(pS (bs [45, 45]))]] = ([(bs [45, 45])]).map cS from rfl)) : ((v_2.map cS) ++ [[(pS (bs [45, 45]))]]) = (v_2 ++ [(bs [45, 45])]).map cS) ((len_cat (rfl : v_2.length = v_2.length) v_2 (rfl : 1 = ([(bs [45, 45])]).length)) : (v_2.length + 1) = (v_2 ++ [(bs [45, 45])]).length) (rfl : (operands.map cS) = operands.map cS) q25) (allC (row_ok ((enc_cat ((enc_cat (rfl : (v_2.map cS) = v_2.map cS) (show [[(pS (bs [45, 45]))]] = ([(bs [45, 45])]).map cS from rfl)) : ((v_2.map cS) ++ [[(pS (bs [45, 45]))]]) = (v_2 ++ [(bs [45, 45])]).map cS) (rfl : (operands.map cS) = operands.map cS)) : (((v_2.map cS) ++ [[(pS (bs [45, 45]))]]) ++ (operands.map cS)) = ((v_2 ++ [(bs [45, 45])]) ++ operands).map cS) (show ((v_2.length + 1) + (operands.map cS).length) = ((v_2 ++ [(bs [45, 45])]) ++ operands).length from (len_cat ((len_cat (rfl : v_2.length = v_2.length) v_2 (rfl : 1 = ([(bs [45, 45])]).length)) : (v_2.length + 1) = (v_2 ++ [(bs [45, 45])]).length) (v_2 ++ [(bs [45, 45])]) (enc_len (rfl : (operands.map cS) = operands.map cS))))) (allC ((by rw [(show (((v_2.map cS) ++ [[(pS (bs [45, 45]))]]) ++ (operands.map cS)) = (((v_2 ++ [(bs [45, 45])]) ++ operands).map cS) from (enc_cat ((enc_cat (rfl : (v_2.map cS) = v_2.map cS) (show [[(pS (bs [45, 45]))]] = ([(bs [45, 45])]).map cS from rfl)) : ((v_2.map cS) ++ [[(pS (bs [45, 45]))]]) = (v_2 ++ [(bs [45, 45])]).map cS) (rfl : (operands.map cS) = operands.map cS)))]; exact optionParse_ok (k + 1) (bs [112, 114, 109, 58]) ((v_2 ++ [(bs [45, 45])]) ++ operands) _ q26) : run0 ((k + 1) + 5) 11 [(pS (bs [112, 114, 109, 58])), (.list 1 false (((v_2.map cS) ++ [[(pS (bs [45, 45]))]]) ++ (operands.map cS)))] = some (.tup [(.list 2 false (r_4.map FlagD.c)), (.list 1 false (r_5.map cS)), (pI r_6)])) (allC (law03Its_ok (k + 5) r_4 _ q27) (allC (row_ok (rfl : (v_3.map FlagD.c) = v_3.map FlagD.c) (show v_3.length = v_3.length from rfl)) (allC (ref03Same_ok (k + 5) r_7 v_3 _ q28) (allC (cg q29) allN)))))))))))))))))))) (by kernel_rfl) allN


end Go.Proofs.YtbidfkibpjjghaaDoor.Den
