/- Functions, printed by den.py out of the code: plain ones, and that the code answers as they do. -/
import Derived.Test.YtbidfkibpjjghaaDoorDenF10
set_option linter.unusedVariables false
set_option linter.unusedSimpArgs false
namespace Go.Proofs.YtbidfkibpjjghaaDoor.Den
open Go Go.RowKit

/- flagstone/flagstonelaw03.OptionLast: its loop at region 5 -/
noncomputable def law03OptionLast_L5 : Code := cAt (codeOf Tryd.f8) [true, true, true, false, true, false, false]
def law03OptionLast_R5 (x0 : ByteArray) (x1 : Int) (x2 : Nat) (x3 : Int) (x4 : List (List PV)) : St := ⟨envL [(1, (pS x0)), (2, (.v (.int .u8 x1))), (7, (.row [0, TAG] 1 0 x2)), (8, (pI x3))], hsL [some ⟨1, 9, x4, true, true⟩] [0]⟩
theorem law03OptionLast_R5_eq {x0 y0 : ByteArray} {x1 y1 : Int} {x2 y2 : Nat} {x3 y3 : Int} {x4 y4 : List (List PV)} (h0 : x0 = y0) (h1 : x1 = y1) (h2 : x2 = y2) (h3 : x3 = y3) (h4 : x4 = y4) : law03OptionLast_R5 x0 x1 x2 x3 x4 = law03OptionLast_R5 y0 y1 y2 y3 y4 := by
  subst h0 h1 h2 h3 h4; rfl
def law03OptionLast_S5 (p0 : ByteArray) (p1 : Int) : (Int × (List ByteArray)) → St
  | (v0, v1) => law03OptionLast_R5 p0 p1 v1.length v0 (v1.map cS)
def law03OptionLast_b5 (p0 : ByteArray) (p1 : Int) : (Int × (List ByteArray)) → Option ((Int × (List ByteArray)) ⊕ (Int × (List ByteArray)))
  | (v0, v1) =>
    bif (decide (v0 < (Int.tmod (IntKind.wrap .i64 p1) (4 : Int)))) then (
      grd (room (v1.length + 1) 16) <|
      some (.inl ((w64 (v0 + (1 : Int))), (v1 ++ [(bs [45, 112])])))
    ) else (
      some (.inr (v0, v1))
    )
set_option maxRecDepth 100000 in
theorem law03OptionLast_t5 (k : Nat) (p0 : ByteArray) (p1 : Int) (a a1 : (Int × (List ByteArray))) (h : law03OptionLast_b5 p0 p1 a = some (.inl a1)) : ∃ σ, run1 (k + 6) 8 0 85 law03OptionLast_L5 (law03OptionLast_S5 p0 p1 a) = some (.normal, σ) ∧ canonS 0 [1, 2, 7, 8] σ = some (law03OptionLast_S5 p0 p1 a1) := by
  obtain ⟨v0, v1⟩ := a
  unfold law03OptionLast_b5 at h
  try dsimp only at h
  rcases bif_some h with ⟨q1, h⟩ | ⟨q1, h⟩
  · skip
    obtain ⟨q2, h⟩ := grd_some h
    obtain rfl := Sum.inl.inj (Option.some.inj h)
    exact ⟨_, run_go (k := (k + 6)) (f := 8) (r0 := 0) (nt := 85) (c := law03OptionLast_L5) (σ := (law03OptionLast_S5 p0 p1 (v0, v1))) (adv [([], 5, 4, .eq (pB true)), ([], 7, 2, .ok)]) (ex := .normal) (by kernel_rfl) (by kernel_rfl) (allC (cg q1) (allC (app_ok (rfl : (v1.map cS) = v1.map cS) (rfl : v1.length = v1.length) q2) allN)), (Eq.trans (b := some (law03OptionLast_R5 p0 p1 (v1.length + 1) (w64 (v0 + (1 : Int))) ((v1.map cS) ++ [[(pS (bs [45, 112]))]]))) (by kernel_rfl) (congrArg some ((law03OptionLast_R5_eq (rfl : p0 = p0) (rfl : p1 = p1) ((len_cat (rfl : v1.length = v1.length) v1 (rfl : 1 = ([(bs [45, 112])]).length)) : (v1.length + 1) = ((v1 ++ [(bs [45, 112])]).length)) (rfl : (w64 (v0 + (1 : Int))) = (w64 (v0 + (1 : Int)))) ((enc_cat (rfl : (v1.map cS) = v1.map cS) (show [[(pS (bs [45, 112]))]] = ([(bs [45, 112])]).map cS from rfl)) : ((v1.map cS) ++ [[(pS (bs [45, 112]))]]) = ((v1 ++ [(bs [45, 112])]).map cS))).trans (by kernel_rfl : law03OptionLast_R5 p0 p1 ((v1 ++ [(bs [45, 112])]).length) (w64 (v0 + (1 : Int))) ((v1 ++ [(bs [45, 112])]).map cS) = law03OptionLast_S5 p0 p1 ((w64 (v0 + (1 : Int))), (v1 ++ [(bs [45, 112])]))))))⟩
  · skip
    cases h
/-- flagstone/flagstonelaw03.OptionLast -/
def law03OptionLast (a : ByteArray) (b : ByteArray) (between : Int) : Option Bool :=
  bif (decide ((a.size : Int) > (50 : Int))) then (
    (law03Shown).bind fun r_1 =>
    some r_1
  ) else (
    bif (decide ((b.size : Int) > (50 : Int))) then (
      (law03Shown).bind fun r_1 =>
      some r_1
    ) else (
      (law03Shown).bind fun r_1 =>
      bif (!r_1) then (
        (law03Shown).bind fun r_2 =>
        some r_2
      ) else (
        (iterN (law03OptionLast_b5 b between) LF ((0 : Int), [(bs [45, 109]), a])).bind fun (v_1, v_2) =>
        grd (room (v_2.length + 2) 16) <|
        (optionParse (bs [112, 109, 58]) (v_2 ++ [(bs [45, 109]), b])).bind fun (r_2, r_3, r_4) =>
        (optionValue r_2 (109 : Int)).bind fun (r_5, r_6) =>
        bif (r_4 == (0 : Int)) then (
          bif ((r_3.length : Int) == (0 : Int)) then (
            bif r_6 then (
              bif (seq r_5 b) then (
                bif ((r_2.length : Int) == (w64 ((2 : Int) + (Int.tmod (IntKind.wrap .i64 between) (4 : Int))))) then (
                  (optionHas r_2 (112 : Int)).bind fun r_7 =>
                  some (r_7 == (decide ((Int.tmod between (4 : Int)) > (0 : Int))))
                ) else (
                  some false
                )
              ) else (
                some false
              )
            ) else (
              some false
            )
          ) else (
            some false
          )
        ) else (
          some false
        )
      )
    )
  )
set_option maxRecDepth 100000 in
theorem law03OptionLast_ok (k : Nat) (a : ByteArray) (b : ByteArray) (between : Int) (r : Bool) (h : law03OptionLast a b between = some r) : run0 (k + 7) 8 [(pS a), (pS b), (.v (.int .u8 between))] = some (pB r) := by
  unfold law03OptionLast at h
  rcases bif_some h with ⟨q1, h⟩ | ⟨q1, h⟩
  · skip
    obtain ⟨r_1, q2, h⟩ := bnd_some h
    obtain rfl := Option.some.inj h
    exact ret_go (k := (k + 6)) Tryd.func8 Tryd.ntmps8 (by kernel_rfl) (by kernel_rfl) (Nat.le_of_ble_eq_true rfl) (adv [([], 1, 3, .eq (pB true)), ([], 2, 0, .ret (pB r_1))]) (ex := .ret) (r := (pB r_1)) (by kernel_rfl) rfl (by kernel_rfl) (allC (cg q1) (allC (law03Shown_ok k _ q2) allN)) (by kernel_rfl) allN
  · skip
    rcases bif_some h with ⟨q2, h⟩ | ⟨q2, h⟩
    · skip
      obtain ⟨r_1, q3, h⟩ := bnd_some h
      obtain rfl := Option.some.inj h
      exact ret_go (k := (k + 6)) Tryd.func8 Tryd.ntmps8 (by kernel_rfl) (by kernel_rfl) (Nat.le_of_ble_eq_true rfl) (adv [([], 1, 3, .eq (pB false)), ([], 1, 8, .eq (pB true)), ([], 2, 0, .ret (pB r_1))]) (ex := .ret) (r := (pB r_1)) (by kernel_rfl) rfl (by kernel_rfl) (allC (cg q1) (allC (cg q2) (allC (law03Shown_ok k _ q3) allN))) (by kernel_rfl) allN
    · skip
      obtain ⟨r_1, q3, h⟩ := bnd_some h
      rcases bif_some h with ⟨q4, h⟩ | ⟨q4, h⟩
      · skip
        obtain ⟨r_2, q5, h⟩ := bnd_some h
        obtain rfl := Option.some.inj h
        exact ret_go (k := (k + 6)) Tryd.func8 Tryd.ntmps8 (by kernel_rfl) (by kernel_rfl) (Nat.le_of_ble_eq_true rfl) (adv [([], 1, 3, .eq (pB false)), ([], 1, 8, .eq (pB false)), ([], 1, 9, .ret (pB r_1)), ([], 1, 11, .eq (pB true)), ([], 2, 0, .ret (pB r_2))]) (ex := .ret) (r := (pB r_2)) (by kernel_rfl) rfl (by kernel_rfl) (allC (cg q1) (allC (cg q2) (allC (law03Shown_ok k _ q3) (allC (cg q4) (allC (law03Shown_ok k _ q5) allN))))) (by kernel_rfl) allN
      · skip
        obtain ⟨X_1, q5, h⟩ := bnd_some h
        obtain ⟨a_1, q6, q7⟩ := loop_iter (f := run1 (k + 6) 8 0 85 law03OptionLast_L5) (law03OptionLast_S5 b between) (law03OptionLast_b5 b between) (law03OptionLast_t5 k b between) LF ((0 : Int), [(bs [45, 109]), a]) _ (stOf (goStop (k + 6) 8 0 85 (adv [([], 1, 3, .eq (pB false)), ([], 1, 8, .eq (pB false)), ([], 1, 9, .ret (pB r_1)), ([], 1, 11, .eq (pB false))]) 5 (codeOf Tryd.f8) (argS 8 [(pS a), (pS b), (.v (.int .u8 between))]))) q5 (Eq.trans (b := some (law03OptionLast_R5 b between 2 (0 : Int) ([[(pS (bs [45, 109]))], [(pS a)]]))) (by kernel_rfl) (congrArg some ((law03OptionLast_R5_eq (rfl : b = b) (rfl : between = between) (rfl : 2 = (([(bs [45, 109]), a]).length)) (rfl : (0 : Int) = (0 : Int)) (rfl : ([[(pS (bs [45, 109]))], [(pS a)]]) = (([(bs [45, 109]), a]).map cS))).trans (by kernel_rfl : law03OptionLast_R5 b between (([(bs [45, 109]), a]).length) (0 : Int) (([(bs [45, 109]), a]).map cS) = law03OptionLast_S5 b between ((0 : Int), [(bs [45, 109]), a])))))
        obtain ⟨v_1, v_2⟩ := a_1
        unfold law03OptionLast_b5 at q6
        try dsimp only at q6
        rcases bif_some q6 with ⟨q10, q6⟩ | ⟨q10, q6⟩
        · skip
          obtain ⟨q11, q6⟩ := grd_some q6
          cases q6
        · skip
          cases q6
          try dsimp only at h
          have q8 := run_go (k := (k + 6)) (f := 8) (r0 := 0) (nt := 85) (c := law03OptionLast_L5) (σ := (law03OptionLast_S5 b between (v_1, v_2))) (adv [([], 5, 4, .eq (pB false))]) (ex := (.exit 0)) (by kernel_rfl) (by kernel_rfl) (allC (cg q10) allN)
          have q9 := q7 _ _ (by intro e; cases e) q8
          obtain ⟨q12, h⟩ := grd_some h
          obtain ⟨⟨r_2, r_3, r_4⟩, q13, h⟩ := bnd_some h
          try dsimp only at h
          obtain ⟨⟨r_5, r_6⟩, q14, h⟩ := bnd_some h
          try dsimp only at h
          rcases bif_some h with ⟨q15, h⟩ | ⟨q15, h⟩
          · skip
            rcases bif_some h with ⟨q16, h⟩ | ⟨q16, h⟩
            · skip
              rcases bif_some h with ⟨q17, h⟩ | ⟨q17, h⟩
              · skip
                rcases bif_some h with ⟨q18, h⟩ | ⟨q18, h⟩
                · skip
                  rcases bif_some h with ⟨q19, h⟩ | ⟨q19, h⟩
                  · skip
                    obtain ⟨r_7, q20, h⟩ := bnd_some h
                    obtain rfl := Option.some.inj h
                    exact ret_go (k := (k + 6)) Tryd.func8 Tryd.ntmps8 (by kernel_rfl) (by kernel_rfl) (Nat.le_of_ble_eq_true rfl) (adv [([], 1, 3, .eq (pB false)), ([], 1, 8, .eq (pB false)), ([], 1, 9, .ret (pB r_1)), ([], 1, 11, .eq (pB false)), ([], 8, 3, .ok), ([], 8, 4, .ret (.tup [(.list 2 false (r_2.map FlagD.c)), (.list 1 false (r_3.map cS)), (pI r_4)])), ([], 9, 1, .ret (.tup [(pS r_5), (pB r_6)])), ([], 10, 2, .eq (pB true)), ([], 10, 4, .eq (pI (r_3.length : Int))), ([], 10, 7, .eq (pB true)), ([], 10, 10, .eq (pB true)), ([], 10, 15, .eq (pB true)), ([], 10, 17, .eq (pI (r_2.length : Int))), ([], 10, 24, .eq (pB true)), ([], 10, 26, .ret (pB r_7))] [([], 5, (.exit 0), (stOf (go (k + 6) 8 0 85 (adv [([], 5, 4, .eq (pB false))]) law03OptionLast_L5 (law03OptionLast_S5 b between (v_1, v_2)))))]) (ex := .ret) (r := (pB (r_7 == (decide ((Int.tmod between (4 : Int)) > (0 : Int)))))) (by kernel_rfl) rfl (by kernel_rfl) (allC (cg q1) (allC (cg q2) (allC (law03Shown_ok k _ q3) (allC (cg q4) (allC q9 (allC (app_ok (rfl : (v_2.map cS) = v_2.map cS) (rfl : v_2.length = v_2.length) q12) (allC (row_ok ((enc_cat (rfl : (v_2.map cS) = v_2.map cS) (show [[(pS (bs [45, 109]))], [(pS b)]] = ([(bs [45, 109]), b]).map cS from rfl)) : ((v_2.map cS) ++ [[(pS (bs [45, 109]))], [(pS b)]]) = (v_2 ++ [(bs [45, 109]), b]).map cS) (show (v_2.length + 2) = (v_2 ++ [(bs [45, 109]), b]).length from (len_cat (rfl : v_2.length = v_2.length) v_2 (rfl : 2 = ([(bs [45, 109]), b]).length)))) (allC ((by rw [(show ((v_2.map cS) ++ [[(pS (bs [45, 109]))], [(pS b)]]) = ((v_2 ++ [(bs [45, 109]), b]).map cS) from (enc_cat (rfl : (v_2.map cS) = v_2.map cS) (show [[(pS (bs [45, 109]))], [(pS b)]] = ([(bs [45, 109]), b]).map cS from rfl)))]; exact optionParse_ok (k + 1) (bs [112, 109, 58]) (v_2 ++ [(bs [45, 109]), b]) _ q13) : run0 ((k + 1) + 5) 11 [(pS (bs [112, 109, 58])), (.list 1 false ((v_2.map cS) ++ [[(pS (bs [45, 109]))], [(pS b)]]))] = some (.tup [(.list 2 false (r_2.map FlagD.c)), (.list 1 false (r_3.map cS)), (pI r_4)])) (allC (optionValue_ok (k + 5) r_2 (109 : Int) _ q14) (allC (cg q15) (allC (len_ob (rfl : (r_3.map cS) = r_3.map cS)) (allC (cg q16) (allC (cg q17) (allC (cg q18) (allC (len_ob (rfl : (r_2.map FlagD.c) = r_2.map FlagD.c)) (allC (cg q19) (allC (optionHas_ok (k + 2) r_2 (112 : Int) _ q20) allN))))))))))))))))) (by kernel_rfl) allN
                  · skip
                    obtain rfl := Option.some.inj h
                    exact ret_go (k := (k + 6)) Tryd.func8 Tryd.ntmps8 (by kernel_rfl) (by kernel_rfl) (Nat.le_of_ble_eq_true rfl) (adv [([], 1, 3, .eq (pB false)), ([], 1, 8, .eq (pB false)), ([], 1, 9, .ret (pB r_1)), ([], 1, 11, .eq (pB false)), ([], 8, 3, .ok), ([], 8, 4, .ret (.tup [(.list 2 false (r_2.map FlagD.c)), (.list 1 false (r_3.map cS)), (pI r_4)])), ([], 9, 1, .ret (.tup [(pS r_5), (pB r_6)])), ([], 10, 2, .eq (pB true)), ([], 10, 4, .eq (pI (r_3.length : Int))), ([], 10, 7, .eq (pB true)), ([], 10, 10, .eq (pB true)), ([], 10, 15, .eq (pB true)), ([], 10, 17, .eq (pI (r_2.length : Int))), ([], 10, 24, .eq (pB false))] [([], 5, (.exit 0), (stOf (go (k + 6) 8 0 85 (adv [([], 5, 4, .eq (pB false))]) law03OptionLast_L5 (law03OptionLast_S5 b between (v_1, v_2)))))]) (ex := .ret) (r := (pB false)) (by kernel_rfl) rfl (by kernel_rfl) (allC (cg q1) (allC (cg q2) (allC (law03Shown_ok k _ q3) (allC (cg q4) (allC q9 (allC (app_ok (rfl : (v_2.map cS) = v_2.map cS) (rfl : v_2.length = v_2.length) q12) (allC (row_ok ((enc_cat (rfl : (v_2.map cS) = v_2.map cS) (show [[(pS (bs [45, 109]))], [(pS b)]] = ([(bs [45, 109]), b]).map cS from rfl)) : ((v_2.map cS) ++ [[(pS (bs [45, 109]))], [(pS b)]]) = (v_2 ++ [(bs [45, 109]), b]).map cS) (show (v_2.length + 2) = (v_2 ++ [(bs [45, 109]), b]).length from (len_cat (rfl : v_2.length = v_2.length) v_2 (rfl : 2 = ([(bs [45, 109]), b]).length)))) (allC ((by rw [(show ((v_2.map cS) ++ [[(pS (bs [45, 109]))], [(pS b)]]) = ((v_2 ++ [(bs [45, 109]), b]).map cS) from (enc_cat (rfl : (v_2.map cS) = v_2.map cS) (show [[(pS (bs [45, 109]))], [(pS b)]] = ([(bs [45, 109]), b]).map cS from rfl)))]; exact optionParse_ok (k + 1) (bs [112, 109, 58]) (v_2 ++ [(bs [45, 109]), b]) _ q13) : run0 ((k + 1) + 5) 11 [(pS (bs [112, 109, 58])), (.list 1 false ((v_2.map cS) ++ [[(pS (bs [45, 109]))], [(pS b)]]))] = some (.tup [(.list 2 false (r_2.map FlagD.c)), (.list 1 false (r_3.map cS)), (pI r_4)])) (allC (optionValue_ok (k + 5) r_2 (109 : Int) _ q14) (allC (cg q15) (allC (len_ob (rfl : (r_3.map cS) = r_3.map cS)) (allC (cg q16) (allC (cg q17) (allC (cg q18) (allC (len_ob (rfl : (r_2.map FlagD.c) = r_2.map FlagD.c)) (allC (cg q19) allN)))))))))))))))) (by kernel_rfl) allN
                · skip
                  obtain rfl := Option.some.inj h
                  exact ret_go (k := (k + 6)) Tryd.func8 Tryd.ntmps8 (by kernel_rfl) (by kernel_rfl) (Nat.le_of_ble_eq_true rfl) (adv [([], 1, 3, .eq (pB false)), ([], 1, 8, .eq (pB false)), ([], 1, 9, .ret (pB r_1)), ([], 1, 11, .eq (pB false)), ([], 8, 3, .ok), ([], 8, 4, .ret (.tup [(.list 2 false (r_2.map FlagD.c)), (.list 1 false (r_3.map cS)), (pI r_4)])), ([], 9, 1, .ret (.tup [(pS r_5), (pB r_6)])), ([], 10, 2, .eq (pB true)), ([], 10, 4, .eq (pI (r_3.length : Int))), ([], 10, 7, .eq (pB true)), ([], 10, 10, .eq (pB true)), ([], 10, 15, .eq (pB false))] [([], 5, (.exit 0), (stOf (go (k + 6) 8 0 85 (adv [([], 5, 4, .eq (pB false))]) law03OptionLast_L5 (law03OptionLast_S5 b between (v_1, v_2)))))]) (ex := .ret) (r := (pB false)) (by kernel_rfl) rfl (by kernel_rfl) (allC (cg q1) (allC (cg q2) (allC (law03Shown_ok k _ q3) (allC (cg q4) (allC q9 (allC (app_ok (rfl : (v_2.map cS) = v_2.map cS) (rfl : v_2.length = v_2.length) q12) (allC (row_ok ((enc_cat (rfl : (v_2.map cS) = v_2.map cS) (show [[(pS (bs [45, 109]))], [(pS b)]] = ([(bs [45, 109]), b]).map cS from rfl)) : ((v_2.map cS) ++ [[(pS (bs [45, 109]))], [(pS b)]]) = (v_2 ++ [(bs [45, 109]), b]).map cS) (show (v_2.length + 2) = (v_2 ++ [(bs [45, 109]), b]).length from (len_cat (rfl : v_2.length = v_2.length) v_2 (rfl : 2 = ([(bs [45, 109]), b]).length)))) (allC ((by rw [(show ((v_2.map cS) ++ [[(pS (bs [45, 109]))], [(pS b)]]) = ((v_2 ++ [(bs [45, 109]), b]).map cS) from (enc_cat (rfl : (v_2.map cS) = v_2.map cS) (show [[(pS (bs [45, 109]))], [(pS b)]] = ([(bs [45, 109]), b]).map cS from rfl)))]; exact optionParse_ok (k + 1) (bs [112, 109, 58]) (v_2 ++ [(bs [45, 109]), b]) _ q13) : run0 ((k + 1) + 5) 11 [(pS (bs [112, 109, 58])), (.list 1 false ((v_2.map cS) ++ [[(pS (bs [45, 109]))], [(pS b)]]))] = some (.tup [(.list 2 false (r_2.map FlagD.c)), (.list 1 false (r_3.map cS)), (pI r_4)])) (allC (optionValue_ok (k + 5) r_2 (109 : Int) _ q14) (allC (cg q15) (allC (len_ob (rfl : (r_3.map cS) = r_3.map cS)) (allC (cg q16) (allC (cg q17) (allC (cg q18) allN)))))))))))))) (by kernel_rfl) allN
              · skip
                obtain rfl := Option.some.inj h
                exact ret_go (k := (k + 6)) Tryd.func8 Tryd.ntmps8 (by kernel_rfl) (by kernel_rfl) (Nat.le_of_ble_eq_true rfl) (adv [([], 1, 3, .eq (pB false)), ([], 1, 8, .eq (pB false)), ([], 1, 9, .ret (pB r_1)), ([], 1, 11, .eq (pB false)), ([], 8, 3, .ok), ([], 8, 4, .ret (.tup [(.list 2 false (r_2.map FlagD.c)), (.list 1 false (r_3.map cS)), (pI r_4)])), ([], 9, 1, .ret (.tup [(pS r_5), (pB r_6)])), ([], 10, 2, .eq (pB true)), ([], 10, 4, .eq (pI (r_3.length : Int))), ([], 10, 7, .eq (pB true)), ([], 10, 10, .eq (pB false))] [([], 5, (.exit 0), (stOf (go (k + 6) 8 0 85 (adv [([], 5, 4, .eq (pB false))]) law03OptionLast_L5 (law03OptionLast_S5 b between (v_1, v_2)))))]) (ex := .ret) (r := (pB false)) (by kernel_rfl) rfl (by kernel_rfl) (allC (cg q1) (allC (cg q2) (allC (law03Shown_ok k _ q3) (allC (cg q4) (allC q9 (allC (app_ok (rfl : (v_2.map cS) = v_2.map cS) (rfl : v_2.length = v_2.length) q12) (allC (row_ok ((enc_cat (rfl : (v_2.map cS) = v_2.map cS) (show [[(pS (bs [45, 109]))], [(pS b)]] = ([(bs [45, 109]), b]).map cS from rfl)) : ((v_2.map cS) ++ [[(pS (bs [45, 109]))], [(pS b)]]) = (v_2 ++ [(bs [45, 109]), b]).map cS) (show (v_2.length + 2) = (v_2 ++ [(bs [45, 109]), b]).length from (len_cat (rfl : v_2.length = v_2.length) v_2 (rfl : 2 = ([(bs [45, 109]), b]).length)))) (allC ((by rw [(show ((v_2.map cS) ++ [[(pS (bs [45, 109]))], [(pS b)]]) = ((v_2 ++ [(bs [45, 109]), b]).map cS) from (enc_cat (rfl : (v_2.map cS) = v_2.map cS) (show [[(pS (bs [45, 109]))], [(pS b)]] = ([(bs [45, 109]), b]).map cS from rfl)))]; exact optionParse_ok (k + 1) (bs [112, 109, 58]) (v_2 ++ [(bs [45, 109]), b]) _ q13) : run0 ((k + 1) + 5) 11 [(pS (bs [112, 109, 58])), (.list 1 false ((v_2.map cS) ++ [[(pS (bs [45, 109]))], [(pS b)]]))] = some (.tup [(.list 2 false (r_2.map FlagD.c)), (.list 1 false (r_3.map cS)), (pI r_4)])) (allC (optionValue_ok (k + 5) r_2 (109 : Int) _ q14) (allC (cg q15) (allC (len_ob (rfl : (r_3.map cS) = r_3.map cS)) (allC (cg q16) (allC (cg q17) allN))))))))))))) (by kernel_rfl) allN
            · skip
              obtain rfl := Option.some.inj h
              exact ret_go (k := (k + 6)) Tryd.func8 Tryd.ntmps8 (by kernel_rfl) (by kernel_rfl) (Nat.le_of_ble_eq_true rfl) (adv [([], 1, 3, .eq (pB false)), ([], 1, 8, .eq (pB false)), ([], 1, 9, .ret (pB r_1)), ([], 1, 11, .eq (pB false)), ([], 8, 3, .ok), ([], 8, 4, .ret (.tup [(.list 2 false (r_2.map FlagD.c)), (.list 1 false (r_3.map cS)), (pI r_4)])), ([], 9, 1, .ret (.tup [(pS r_5), (pB r_6)])), ([], 10, 2, .eq (pB true)), ([], 10, 4, .eq (pI (r_3.length : Int))), ([], 10, 7, .eq (pB false))] [([], 5, (.exit 0), (stOf (go (k + 6) 8 0 85 (adv [([], 5, 4, .eq (pB false))]) law03OptionLast_L5 (law03OptionLast_S5 b between (v_1, v_2)))))]) (ex := .ret) (r := (pB false)) (by kernel_rfl) rfl (by kernel_rfl) (allC (cg q1) (allC (cg q2) (allC (law03Shown_ok k _ q3) (allC (cg q4) (allC q9 (allC (app_ok (rfl : (v_2.map cS) = v_2.map cS) (rfl : v_2.length = v_2.length) q12) (allC (row_ok ((enc_cat (rfl : (v_2.map cS) = v_2.map cS) (show [[(pS (bs [45, 109]))], [(pS b)]] = ([(bs [45, 109]), b]).map cS from rfl)) : ((v_2.map cS) ++ [[(pS (bs [45, 109]))], [(pS b)]]) = (v_2 ++ [(bs [45, 109]), b]).map cS) (show (v_2.length + 2) = (v_2 ++ [(bs [45, 109]), b]).length from (len_cat (rfl : v_2.length = v_2.length) v_2 (rfl : 2 = ([(bs [45, 109]), b]).length)))) (allC ((by rw [(show ((v_2.map cS) ++ [[(pS (bs [45, 109]))], [(pS b)]]) = ((v_2 ++ [(bs [45, 109]), b]).map cS) from (enc_cat (rfl : (v_2.map cS) = v_2.map cS) (show [[(pS (bs [45, 109]))], [(pS b)]] = ([(bs [45, 109]), b]).map cS from rfl)))]; exact optionParse_ok (k + 1) (bs [112, 109, 58]) (v_2 ++ [(bs [45, 109]), b]) _ q13) : run0 ((k + 1) + 5) 11 [(pS (bs [112, 109, 58])), (.list 1 false ((v_2.map cS) ++ [[(pS (bs [45, 109]))], [(pS b)]]))] = some (.tup [(.list 2 false (r_2.map FlagD.c)), (.list 1 false (r_3.map cS)), (pI r_4)])) (allC (optionValue_ok (k + 5) r_2 (109 : Int) _ q14) (allC (cg q15) (allC (len_ob (rfl : (r_3.map cS) = r_3.map cS)) (allC (cg q16) allN)))))))))))) (by kernel_rfl) allN
          · skip
            obtain rfl := Option.some.inj h
            exact ret_go (k := (k + 6)) Tryd.func8 Tryd.ntmps8 (by kernel_rfl) (by kernel_rfl) (Nat.le_of_ble_eq_true rfl) (adv [([], 1, 3, .eq (pB false)), ([], 1, 8, .eq (pB false)), ([], 1, 9, .ret (pB r_1)), ([], 1, 11, .eq (pB false)), ([], 8, 3, .ok), ([], 8, 4, .ret (.tup [(.list 2 false (r_2.map FlagD.c)), (.list 1 false (r_3.map cS)), (pI r_4)])), ([], 9, 1, .ret (.tup [(pS r_5), (pB r_6)])), ([], 10, 2, .eq (pB false))] [([], 5, (.exit 0), (stOf (go (k + 6) 8 0 85 (adv [([], 5, 4, .eq (pB false))]) law03OptionLast_L5 (law03OptionLast_S5 b between (v_1, v_2)))))]) (ex := .ret) (r := (pB false)) (by kernel_rfl) rfl (by kernel_rfl) (allC (cg q1) (allC (cg q2) (allC (law03Shown_ok k _ q3) (allC (cg q4) (allC q9 (allC (app_ok (rfl : (v_2.map cS) = v_2.map cS) (rfl : v_2.length = v_2.length) q12) (allC (row_ok ((enc_cat (rfl : (v_2.map cS) = v_2.map cS) (show [[(pS (bs [45, 109]))], [(pS b)]] = ([(bs [45, 109]), b]).map cS from rfl)) : ((v_2.map cS) ++ [[(pS (bs [45, 109]))], [(pS b)]]) = (v_2 ++ [(bs [45, 109]), b]).map cS) (show (v_2.length + 2) = (v_2 ++ [(bs [45, 109]), b]).length from (len_cat (rfl : v_2.length = v_2.length) v_2 (rfl : 2 = ([(bs [45, 109]), b]).length)))) (allC ((by rw [(show ((v_2.map cS) ++ [[(pS (bs [45, 109]))], [(pS b)]]) = ((v_2 ++ [(bs [45, 109]), b]).map cS) from (enc_cat (rfl : (v_2.map cS) = v_2.map cS) (show [[(pS (bs [45, 109]))], [(pS b)]] = ([(bs [45, 109]), b]).map cS from rfl)))]; exact optionParse_ok (k + 1) (bs [112, 109, 58]) (v_2 ++ [(bs [45, 109]), b]) _ q13) : run0 ((k + 1) + 5) 11 [(pS (bs [112, 109, 58])), (.list 1 false ((v_2.map cS) ++ [[(pS (bs [45, 109]))], [(pS b)]]))] = some (.tup [(.list 2 false (r_2.map FlagD.c)), (.list 1 false (r_3.map cS)), (pI r_4)])) (allC (optionValue_ok (k + 5) r_2 (109 : Int) _ q14) (allC (cg q15) allN)))))))))) (by kernel_rfl) allN


end Go.Proofs.YtbidfkibpjjghaaDoor.Den
