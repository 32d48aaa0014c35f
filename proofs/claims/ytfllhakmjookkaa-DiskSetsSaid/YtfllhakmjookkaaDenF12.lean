/- Functions, printed by den.py out of the code: plain ones, and that the code answers as they do. -/
import Derived.Test.YtfllhakmjookkaaDenF11
set_option linter.unusedVariables false
set_option linter.unusedSimpArgs false
namespace Go.Proofs.Ytfllhakmjookkaa.Den
open Go Go.RowKit

/- flagstone/flagstonelaw06.DiskNew: its loop at region 10 -/
noncomputable def law06DiskNew_L10 : Code := cAt (codeOf Try.f5) [true, true, true, true, true, true, true, false, true, false, false]
def law06DiskNew_R10 (x0 : ByteArray) (x1 : Int) (x2 : Int) (x3 : Int) (x4 : Int) (x5 : List (List PV)) (x6 : Int) (x7 : Int) : St := ⟨envL [(2, (pS x0)), (7, (pI x1)), (8, (pI x2)), (9, (.ptr [0, TAG] 1 0 0)), (10, (pI x3)), (11, (pI x4))], hsL [some ⟨3, 24, [[(.list 8 false x5), (pI x6), (pI x7)]], true, false⟩] [0]⟩
theorem law06DiskNew_R10_eq {x0 y0 : ByteArray} {x1 y1 : Int} {x2 y2 : Int} {x3 y3 : Int} {x4 y4 : Int} {x5 y5 : List (List PV)} {x6 y6 : Int} {x7 y7 : Int} (h0 : x0 = y0) (h1 : x1 = y1) (h2 : x2 = y2) (h3 : x3 = y3) (h4 : x4 = y4) (h5 : x5 = y5) (h6 : x6 = y6) (h7 : x7 = y7) : law06DiskNew_R10 x0 x1 x2 x3 x4 x5 x6 x7 = law06DiskNew_R10 y0 y1 y2 y3 y4 y5 y6 y7 := by
  subst h0 h1 h2 h3 h4 h5 h6 h7; rfl
def law06DiskNew_S10 (p0 : ByteArray) (p1 : Int) (p2 : Int) : (Int × Int × (List NodeD) × Int × Int) → St
  | (v0, v1, v2, v3, v4) => law06DiskNew_R10 p0 p1 p2 v0 v1 (v2.map NodeD.c) v3 v4
def law06DiskNew_b10 (p0 : ByteArray) (p1 : Int) (p2 : Int) : (Int × Int × (List NodeD) × Int × Int) → Option ((Int × Int × (List NodeD) × Int × Int) ⊕ ((Int × Int × (List NodeD) × Int × Int × DiskD × Int × Int) ⊕ (Int × Int × (List NodeD) × Int × Int × DiskD × Int × Int) ⊕ (Int × Int × (List NodeD) × Int × Int × DiskD × Int × Int) ⊕ (Int × Int × (List NodeD) × Int × Int × DiskD × Int × Int) ⊕ (Int × Int × (List NodeD) × Int × Int × DiskD × Int × Int × Int) ⊕ (Int × Int × (List NodeD) × Int × Int × DiskD × Int × Int × Int × Int) ⊕ (Int × Int × (List NodeD) × Int × Int × DiskD × Int × Int × Int × Int) ⊕ (Int × Int × (List NodeD) × Int × Int × DiskD × Int × Int × Int × Int) ⊕ (Int × Int × (List NodeD) × Int × Int)))
  | (v0, v1, v2, v3, v4) =>
    bif (decide (v1 < (25 : Int))) then (
      (diskAdd (DiskD.mk v2 v3 v4) (NodeD.mk (1 : Int) (0 : Int) (0 : Int) (0 : Int) (0 : Int) (0 : Int) p0 [])).bind fun (r_1, r_2, r_3) =>
      bif (r_3 != (0 : Int)) then (
        bif (r_3 == (10 : Int)) then (
          bif ((w64 ((1 : Int) + v0)) == p1) then (
            some (.inr (.inl (v0, v1, v2, v3, v4, r_1, r_2, r_3)))
          ) else (
            some (.inr (.inr (.inl (v0, v1, v2, v3, v4, r_1, r_2, r_3))))
          )
        ) else (
          some (.inr (.inr (.inr (.inl (v0, v1, v2, v3, v4, r_1, r_2, r_3)))))
        )
      ) else (
        bif (r_2 != (w64 (v0 + (1 : Int)))) then (
          some (.inr (.inr (.inr (.inr (.inl (v0, v1, v2, v3, v4, r_1, r_2, r_3))))))
        ) else (
          (diskUsed r_1).bind fun r_4 =>
          bif (r_4 != (w64 ((1 : Int) + (w64 (v0 + (1 : Int)))))) then (
            some (.inr (.inr (.inr (.inr (.inr (.inl (v0, v1, v2, v3, v4, r_1, r_2, r_3, r_4)))))))
          ) else (
            (diskBytes r_1).bind fun r_5 =>
            bif (r_5 != (w64 ((w64 (v0 + (1 : Int))) * (p0.size : Int)))) then (
              some (.inr (.inr (.inr (.inr (.inr (.inr (.inl (v0, v1, v2, v3, v4, r_1, r_2, r_3, r_4, r_5))))))))
            ) else (
              bif (decide ((w64 ((1 : Int) + (w64 (v0 + (1 : Int))))) > p1)) then (
                some (.inr (.inr (.inr (.inr (.inr (.inr (.inr (.inl (v0, v1, v2, v3, v4, r_1, r_2, r_3, r_4, r_5)))))))))
              ) else (
                bif (decide ((w64 ((w64 (v0 + (1 : Int))) * (p0.size : Int))) > p2)) then (
                  some (.inr (.inr (.inr (.inr (.inr (.inr (.inr (.inr (.inl (v0, v1, v2, v3, v4, r_1, r_2, r_3, r_4, r_5))))))))))
                ) else (
                  some (.inl ((w64 (v0 + (1 : Int))), (w64 (v1 + (1 : Int))), r_1.nodes, r_1.most, r_1.room))
                )
              )
            )
          )
        )
      )
    ) else (
      some (.inr (.inr (.inr (.inr (.inr (.inr (.inr (.inr (.inr ((v0, v1, v2, v3, v4)))))))))))
    )
set_option maxRecDepth 100000 in
theorem law06DiskNew_t10 (k : Nat) (p0 : ByteArray) (p1 : Int) (p2 : Int) (a a1 : (Int × Int × (List NodeD) × Int × Int)) (h : law06DiskNew_b10 p0 p1 p2 a = some (.inl a1)) : ∃ σ, run1 (k + 12) 5 0 112 law06DiskNew_L10 (law06DiskNew_S10 p0 p1 p2 a) = some (.normal, σ) ∧ canonS 0 [2, 7, 8, 9, 10, 11] σ = some (law06DiskNew_S10 p0 p1 p2 a1) := by
  obtain ⟨v0, v1, v2, v3, v4⟩ := a
  unfold law06DiskNew_b10 at h
  try dsimp only at h
  rcases bif_some h with ⟨q1, h⟩ | ⟨q1, h⟩
  · skip
    obtain ⟨⟨r_1, r_2, r_3⟩, q2, h⟩ := bnd_some h
    try dsimp only at h
    rcases bif_some h with ⟨q3, h⟩ | ⟨q3, h⟩
    · skip
      rcases bif_some h with ⟨q4, h⟩ | ⟨q4, h⟩
      · skip
        rcases bif_some h with ⟨q5, h⟩ | ⟨q5, h⟩
        · skip
          cases h
        · skip
          cases h
      · skip
        cases h
    · skip
      rcases bif_some h with ⟨q4, h⟩ | ⟨q4, h⟩
      · skip
        cases h
      · skip
        obtain ⟨r_4, q5, h⟩ := bnd_some h
        rcases bif_some h with ⟨q6, h⟩ | ⟨q6, h⟩
        · skip
          cases h
        · skip
          obtain ⟨r_5, q7, h⟩ := bnd_some h
          rcases bif_some h with ⟨q8, h⟩ | ⟨q8, h⟩
          · skip
            cases h
          · skip
            rcases bif_some h with ⟨q9, h⟩ | ⟨q9, h⟩
            · skip
              cases h
            · skip
              rcases bif_some h with ⟨q10, h⟩ | ⟨q10, h⟩
              · skip
                cases h
              · skip
                obtain rfl := Sum.inl.inj (Option.some.inj h)
                exact ⟨_, run_go (k := (k + 12)) (f := 5) (r0 := 0) (nt := 112) (c := law06DiskNew_L10) (σ := (law06DiskNew_S10 p0 p1 p2 (v0, v1, v2, v3, v4))) (adv [([], 10, 1, .eq (pB true)), ([], 12, 3, .ret (.tup [(.agg [(.list 8 false (r_1.nodes.map NodeD.c)), (pI r_1.most), (pI r_1.room)]), (pI r_2), (pI r_3)])), ([], 13, 1, .eq (pB false)), ([], 16, 3, .eq (pB false)), ([], 16, 5, .ret (pI r_4)), ([], 16, 10, .eq (pB false)), ([], 16, 12, .ret (pI r_5)), ([], 16, 19, .eq (pB false)), ([], 16, 25, .eq (pB false)), ([], 16, 32, .eq (pB false))]) (ex := .normal) (by kernel_rfl) (by kernel_rfl) (allC (cg q1) (allC (diskAdd_ok (k + 8) (DiskD.mk v2 v3 v4) (NodeD.mk (1 : Int) (0 : Int) (0 : Int) (0 : Int) (0 : Int) (0 : Int) p0 []) _ q2) (allC (cg q3) (allC (cg q4) (allC (diskUsed_ok (k + 9) r_1 _ q5) (allC (cg q6) (allC (diskBytes_ok (k + 9) r_1 _ q7) (allC (cg q8) (allC (cg q9) (allC (cg q10) allN)))))))))), (by kernel_rfl)⟩
  · skip
    cases h
/-- flagstone/flagstonelaw06.DiskNew -/
def law06DiskNew (most : Int) (room : Int) (data : ByteArray) : Option Bool :=
  bif (decide ((data.size : Int) > (40 : Int))) then (
    (shownX).bind fun r_1 =>
    some r_1
  ) else (
    (shownX).bind fun r_1 =>
    bif (!r_1) then (
      (shownX).bind fun r_2 =>
      some r_2
    ) else (
      (diskNew (w64 ((1 : Int) + (Int.tmod (IntKind.wrap .i64 most) (20 : Int)))) (IntKind.wrap .i64 room) (63 : Int)).bind fun r_2 =>
      (diskRight r_2).bind fun r_3 =>
      bif (!r_3) then (
        some false
      ) else (
        (diskUsed r_2).bind fun r_4 =>
        bif (r_4 != (1 : Int)) then (
          some false
        ) else (
          (diskBytes r_2).bind fun r_5 =>
          bif (r_5 != (0 : Int)) then (
            some false
          ) else (
            (iterN (law06DiskNew_b10 data (w64 ((1 : Int) + (Int.tmod (IntKind.wrap .i64 most) (20 : Int)))) (IntKind.wrap .i64 room)) LF ((0 : Int), (0 : Int), r_2.nodes, r_2.most, r_2.room)).bind fun X_1 => match X_1 with
            | .inl (v_1, v_2, v_3, v_4, v_5, r_6, r_7, r_8) => (
              some true
            )
            | .inr (.inl (v_1, v_2, v_3, v_4, v_5, r_6, r_7, r_8)) => (
              some (decide ((w64 ((w64 (v_1 + (1 : Int))) * (data.size : Int))) > (IntKind.wrap .i64 room)))
            )
            | .inr (.inr (.inl (v_1, v_2, v_3, v_4, v_5, r_6, r_7, r_8))) => (
              some false
            )
            | .inr (.inr (.inr (.inl (v_1, v_2, v_3, v_4, v_5, r_6, r_7, r_8)))) => (
              some false
            )
            | .inr (.inr (.inr (.inr (.inl (v_1, v_2, v_3, v_4, v_5, r_6, r_7, r_8, r_9))))) => (
              some false
            )
            | .inr (.inr (.inr (.inr (.inr (.inl (v_1, v_2, v_3, v_4, v_5, r_6, r_7, r_8, r_9, r_10)))))) => (
              some false
            )
            | .inr (.inr (.inr (.inr (.inr (.inr (.inl (v_1, v_2, v_3, v_4, v_5, r_6, r_7, r_8, r_9, r_10))))))) => (
              some false
            )
            | .inr (.inr (.inr (.inr (.inr (.inr (.inr (.inl (v_1, v_2, v_3, v_4, v_5, r_6, r_7, r_8, r_9, r_10)))))))) => (
              some false
            )
            | .inr (.inr (.inr (.inr (.inr (.inr (.inr (.inr ((v_1, v_2, v_3, v_4, v_5))))))))) => (
              some false
            )
          )
        )
      )
    )
  )
set_option maxRecDepth 100000 in
theorem law06DiskNew_ok (k : Nat) (most : Int) (room : Int) (data : ByteArray) (r : Bool) (h : law06DiskNew most room data = some r) : run0 (k + 13) 5 [(.v (.int .u8 most)), (.v (.int .u8 room)), (pS data)] = some (pB r) := by
  unfold law06DiskNew at h
  rcases bif_some h with ⟨q1, h⟩ | ⟨q1, h⟩
  · skip
    obtain ⟨r_1, q2, h⟩ := bnd_some h
    obtain rfl := Option.some.inj h
    exact ret_go (k := (k + 12)) Try.func5 Try.ntmps5 (by kernel_rfl) (by kernel_rfl) (Nat.le_of_ble_eq_true rfl) (adv [([], 3, 3, .eq (pB true)), ([], 4, 0, .ret (pB r_1))]) (ex := .ret) (r := (pB r_1)) (by kernel_rfl) rfl (by kernel_rfl) (allC (cg q1) (allC (shownX_ok k  _ q2) allN)) (by kernel_rfl) allN
  · skip
    obtain ⟨r_1, q2, h⟩ := bnd_some h
    rcases bif_some h with ⟨q3, h⟩ | ⟨q3, h⟩
    · skip
      obtain ⟨r_2, q4, h⟩ := bnd_some h
      obtain rfl := Option.some.inj h
      exact ret_go (k := (k + 12)) Try.func5 Try.ntmps5 (by kernel_rfl) (by kernel_rfl) (Nat.le_of_ble_eq_true rfl) (adv [([], 3, 3, .eq (pB false)), ([], 3, 4, .ret (pB r_1)), ([], 3, 6, .eq (pB true)), ([], 4, 0, .ret (pB r_2))]) (ex := .ret) (r := (pB r_2)) (by kernel_rfl) rfl (by kernel_rfl) (allC (cg q1) (allC (shownX_ok k  _ q2) (allC (cg q3) (allC (shownX_ok k  _ q4) allN)))) (by kernel_rfl) allN
    · skip
      obtain ⟨r_2, q4, h⟩ := bnd_some h
      obtain ⟨r_3, q5, h⟩ := bnd_some h
      rcases bif_some h with ⟨q6, h⟩ | ⟨q6, h⟩
      · skip
        obtain rfl := Option.some.inj h
        exact ret_go (k := (k + 12)) Try.func5 Try.ntmps5 (by kernel_rfl) (by kernel_rfl) (Nat.le_of_ble_eq_true rfl) (adv [([], 3, 3, .eq (pB false)), ([], 3, 4, .ret (pB r_1)), ([], 3, 6, .eq (pB false)), ([], 5, 2, .ret (.agg [(.list 8 false (r_2.nodes.map NodeD.c)), (pI r_2.most), (pI r_2.room)])), ([], 6, 1, .ret (pB r_3)), ([], 6, 3, .eq (pB true))]) (ex := .ret) (r := (pB false)) (by kernel_rfl) rfl (by kernel_rfl) (allC (cg q1) (allC (shownX_ok k  _ q2) (allC (cg q3) (allC (diskNew_ok (k + 10) (w64 ((1 : Int) + (Int.tmod (IntKind.wrap .i64 most) (20 : Int)))) (IntKind.wrap .i64 room) (63 : Int) _ q4) (allC (diskRight_ok (k + 5) r_2 _ q5) (allC (cg q6) allN)))))) (by kernel_rfl) allN
      · skip
        obtain ⟨r_4, q7, h⟩ := bnd_some h
        rcases bif_some h with ⟨q8, h⟩ | ⟨q8, h⟩
        · skip
          obtain rfl := Option.some.inj h
          exact ret_go (k := (k + 12)) Try.func5 Try.ntmps5 (by kernel_rfl) (by kernel_rfl) (Nat.le_of_ble_eq_true rfl) (adv [([], 3, 3, .eq (pB false)), ([], 3, 4, .ret (pB r_1)), ([], 3, 6, .eq (pB false)), ([], 5, 2, .ret (.agg [(.list 8 false (r_2.nodes.map NodeD.c)), (pI r_2.most), (pI r_2.room)])), ([], 6, 1, .ret (pB r_3)), ([], 6, 3, .eq (pB false)), ([], 6, 5, .ret (pI r_4)), ([], 6, 8, .eq (pB true))]) (ex := .ret) (r := (pB false)) (by kernel_rfl) rfl (by kernel_rfl) (allC (cg q1) (allC (shownX_ok k  _ q2) (allC (cg q3) (allC (diskNew_ok (k + 10) (w64 ((1 : Int) + (Int.tmod (IntKind.wrap .i64 most) (20 : Int)))) (IntKind.wrap .i64 room) (63 : Int) _ q4) (allC (diskRight_ok (k + 5) r_2 _ q5) (allC (cg q6) (allC (diskUsed_ok (k + 9) r_2 _ q7) (allC (cg q8) allN)))))))) (by kernel_rfl) allN
        · skip
          obtain ⟨r_5, q9, h⟩ := bnd_some h
          rcases bif_some h with ⟨q10, h⟩ | ⟨q10, h⟩
          · skip
            obtain rfl := Option.some.inj h
            exact ret_go (k := (k + 12)) Try.func5 Try.ntmps5 (by kernel_rfl) (by kernel_rfl) (Nat.le_of_ble_eq_true rfl) (adv [([], 3, 3, .eq (pB false)), ([], 3, 4, .ret (pB r_1)), ([], 3, 6, .eq (pB false)), ([], 5, 2, .ret (.agg [(.list 8 false (r_2.nodes.map NodeD.c)), (pI r_2.most), (pI r_2.room)])), ([], 6, 1, .ret (pB r_3)), ([], 6, 3, .eq (pB false)), ([], 6, 5, .ret (pI r_4)), ([], 6, 8, .eq (pB false)), ([], 6, 10, .ret (pI r_5)), ([], 6, 12, .eq (pB true))]) (ex := .ret) (r := (pB false)) (by kernel_rfl) rfl (by kernel_rfl) (allC (cg q1) (allC (shownX_ok k  _ q2) (allC (cg q3) (allC (diskNew_ok (k + 10) (w64 ((1 : Int) + (Int.tmod (IntKind.wrap .i64 most) (20 : Int)))) (IntKind.wrap .i64 room) (63 : Int) _ q4) (allC (diskRight_ok (k + 5) r_2 _ q5) (allC (cg q6) (allC (diskUsed_ok (k + 9) r_2 _ q7) (allC (cg q8) (allC (diskBytes_ok (k + 9) r_2 _ q9) (allC (cg q10) allN)))))))))) (by kernel_rfl) allN
          · skip
            obtain ⟨X_1, q11, h⟩ := bnd_some h
            obtain ⟨a_1, q12, q13⟩ := loop_iter (f := run1 (k + 12) 5 0 112 law06DiskNew_L10) (law06DiskNew_S10 data (w64 ((1 : Int) + (Int.tmod (IntKind.wrap .i64 most) (20 : Int)))) (IntKind.wrap .i64 room)) (law06DiskNew_b10 data (w64 ((1 : Int) + (Int.tmod (IntKind.wrap .i64 most) (20 : Int)))) (IntKind.wrap .i64 room)) (law06DiskNew_t10 k data (w64 ((1 : Int) + (Int.tmod (IntKind.wrap .i64 most) (20 : Int)))) (IntKind.wrap .i64 room)) LF ((0 : Int), (0 : Int), r_2.nodes, r_2.most, r_2.room) _ (stOf (goStop (k + 12) 5 0 112 (adv [([], 3, 3, .eq (pB false)), ([], 3, 4, .ret (pB r_1)), ([], 3, 6, .eq (pB false)), ([], 5, 2, .ret (.agg [(.list 8 false (r_2.nodes.map NodeD.c)), (pI r_2.most), (pI r_2.room)])), ([], 6, 1, .ret (pB r_3)), ([], 6, 3, .eq (pB false)), ([], 6, 5, .ret (pI r_4)), ([], 6, 8, .eq (pB false)), ([], 6, 10, .ret (pI r_5)), ([], 6, 12, .eq (pB false))]) 10 (codeOf Try.f5) (argS 5 [(.v (.int .u8 most)), (.v (.int .u8 room)), (pS data)]))) q11 (by kernel_rfl)
            obtain ⟨v_1, v_2, v_3, v_4, v_5⟩ := a_1
            unfold law06DiskNew_b10 at q12
            try dsimp only at q12
            rcases bif_some q12 with ⟨q16, q12⟩ | ⟨q16, q12⟩
            · skip
              obtain ⟨⟨r_6, r_7, r_8⟩, q17, q12⟩ := bnd_some q12
              try dsimp only at q12
              rcases bif_some q12 with ⟨q18, q12⟩ | ⟨q18, q12⟩
              · skip
                rcases bif_some q12 with ⟨q19, q12⟩ | ⟨q19, q12⟩
                · skip
                  rcases bif_some q12 with ⟨q20, q12⟩ | ⟨q20, q12⟩
                  · skip
                    cases q12
                    try dsimp only at h
                    have q14 := run_go (k := (k + 12)) (f := 5) (r0 := 0) (nt := 112) (c := law06DiskNew_L10) (σ := (law06DiskNew_S10 data (w64 ((1 : Int) + (Int.tmod (IntKind.wrap .i64 most) (20 : Int)))) (IntKind.wrap .i64 room) (v_1, v_2, v_3, v_4, v_5))) (adv [([], 10, 1, .eq (pB true)), ([], 12, 3, .ret (.tup [(.agg [(.list 8 false (r_6.nodes.map NodeD.c)), (pI r_6.most), (pI r_6.room)]), (pI r_7), (pI r_8)])), ([], 13, 1, .eq (pB true)), ([], 14, 2, .eq (pB true)), ([], 14, 7, .eq (pB true))]) (ex := .ret) (by kernel_rfl) (by kernel_rfl) (allC (cg q16) (allC (diskAdd_ok (k + 8) (DiskD.mk v_3 v_4 v_5) (NodeD.mk (1 : Int) (0 : Int) (0 : Int) (0 : Int) (0 : Int) (0 : Int) data []) _ q17) (allC (cg q18) (allC (cg q19) (allC (cg q20) allN)))))
                    have q15 := q13 _ _ (by intro e; cases e) q14
                    obtain rfl := Option.some.inj h
                    exact ret_go (k := (k + 12)) Try.func5 Try.ntmps5 (by kernel_rfl) (by kernel_rfl) (Nat.le_of_ble_eq_true rfl) (adv [([], 3, 3, .eq (pB false)), ([], 3, 4, .ret (pB r_1)), ([], 3, 6, .eq (pB false)), ([], 5, 2, .ret (.agg [(.list 8 false (r_2.nodes.map NodeD.c)), (pI r_2.most), (pI r_2.room)])), ([], 6, 1, .ret (pB r_3)), ([], 6, 3, .eq (pB false)), ([], 6, 5, .ret (pI r_4)), ([], 6, 8, .eq (pB false)), ([], 6, 10, .ret (pI r_5)), ([], 6, 12, .eq (pB false))] [([], 10, .ret, (stOf (go (k + 12) 5 0 112 (adv [([], 10, 1, .eq (pB true)), ([], 12, 3, .ret (.tup [(.agg [(.list 8 false (r_6.nodes.map NodeD.c)), (pI r_6.most), (pI r_6.room)]), (pI r_7), (pI r_8)])), ([], 13, 1, .eq (pB true)), ([], 14, 2, .eq (pB true)), ([], 14, 7, .eq (pB true))]) law06DiskNew_L10 (law06DiskNew_S10 data (w64 ((1 : Int) + (Int.tmod (IntKind.wrap .i64 most) (20 : Int)))) (IntKind.wrap .i64 room) (v_1, v_2, v_3, v_4, v_5)))))]) (ex := .ret) (r := (pB true)) (by kernel_rfl) rfl (by kernel_rfl) (allC (cg q1) (allC (shownX_ok k  _ q2) (allC (cg q3) (allC (diskNew_ok (k + 10) (w64 ((1 : Int) + (Int.tmod (IntKind.wrap .i64 most) (20 : Int)))) (IntKind.wrap .i64 room) (63 : Int) _ q4) (allC (diskRight_ok (k + 5) r_2 _ q5) (allC (cg q6) (allC (diskUsed_ok (k + 9) r_2 _ q7) (allC (cg q8) (allC (diskBytes_ok (k + 9) r_2 _ q9) (allC (cg q10) (allC q15 allN))))))))))) (by kernel_rfl) allN
                  · skip
                    cases q12
                    try dsimp only at h
                    have q14 := run_go (k := (k + 12)) (f := 5) (r0 := 0) (nt := 112) (c := law06DiskNew_L10) (σ := (law06DiskNew_S10 data (w64 ((1 : Int) + (Int.tmod (IntKind.wrap .i64 most) (20 : Int)))) (IntKind.wrap .i64 room) (v_1, v_2, v_3, v_4, v_5))) (adv [([], 10, 1, .eq (pB true)), ([], 12, 3, .ret (.tup [(.agg [(.list 8 false (r_6.nodes.map NodeD.c)), (pI r_6.most), (pI r_6.room)]), (pI r_7), (pI r_8)])), ([], 13, 1, .eq (pB true)), ([], 14, 2, .eq (pB true)), ([], 14, 7, .eq (pB false))]) (ex := .ret) (by kernel_rfl) (by kernel_rfl) (allC (cg q16) (allC (diskAdd_ok (k + 8) (DiskD.mk v_3 v_4 v_5) (NodeD.mk (1 : Int) (0 : Int) (0 : Int) (0 : Int) (0 : Int) (0 : Int) data []) _ q17) (allC (cg q18) (allC (cg q19) (allC (cg q20) allN)))))
                    have q15 := q13 _ _ (by intro e; cases e) q14
                    obtain rfl := Option.some.inj h
                    exact ret_go (k := (k + 12)) Try.func5 Try.ntmps5 (by kernel_rfl) (by kernel_rfl) (Nat.le_of_ble_eq_true rfl) (adv [([], 3, 3, .eq (pB false)), ([], 3, 4, .ret (pB r_1)), ([], 3, 6, .eq (pB false)), ([], 5, 2, .ret (.agg [(.list 8 false (r_2.nodes.map NodeD.c)), (pI r_2.most), (pI r_2.room)])), ([], 6, 1, .ret (pB r_3)), ([], 6, 3, .eq (pB false)), ([], 6, 5, .ret (pI r_4)), ([], 6, 8, .eq (pB false)), ([], 6, 10, .ret (pI r_5)), ([], 6, 12, .eq (pB false))] [([], 10, .ret, (stOf (go (k + 12) 5 0 112 (adv [([], 10, 1, .eq (pB true)), ([], 12, 3, .ret (.tup [(.agg [(.list 8 false (r_6.nodes.map NodeD.c)), (pI r_6.most), (pI r_6.room)]), (pI r_7), (pI r_8)])), ([], 13, 1, .eq (pB true)), ([], 14, 2, .eq (pB true)), ([], 14, 7, .eq (pB false))]) law06DiskNew_L10 (law06DiskNew_S10 data (w64 ((1 : Int) + (Int.tmod (IntKind.wrap .i64 most) (20 : Int)))) (IntKind.wrap .i64 room) (v_1, v_2, v_3, v_4, v_5)))))]) (ex := .ret) (r := (pB (decide ((w64 ((w64 (v_1 + (1 : Int))) * (data.size : Int))) > (IntKind.wrap .i64 room))))) (by kernel_rfl) rfl (by kernel_rfl) (allC (cg q1) (allC (shownX_ok k  _ q2) (allC (cg q3) (allC (diskNew_ok (k + 10) (w64 ((1 : Int) + (Int.tmod (IntKind.wrap .i64 most) (20 : Int)))) (IntKind.wrap .i64 room) (63 : Int) _ q4) (allC (diskRight_ok (k + 5) r_2 _ q5) (allC (cg q6) (allC (diskUsed_ok (k + 9) r_2 _ q7) (allC (cg q8) (allC (diskBytes_ok (k + 9) r_2 _ q9) (allC (cg q10) (allC q15 allN))))))))))) (by kernel_rfl) allN
                · skip
                  cases q12
                  try dsimp only at h
                  have q14 := run_go (k := (k + 12)) (f := 5) (r0 := 0) (nt := 112) (c := law06DiskNew_L10) (σ := (law06DiskNew_S10 data (w64 ((1 : Int) + (Int.tmod (IntKind.wrap .i64 most) (20 : Int)))) (IntKind.wrap .i64 room) (v_1, v_2, v_3, v_4, v_5))) (adv [([], 10, 1, .eq (pB true)), ([], 12, 3, .ret (.tup [(.agg [(.list 8 false (r_6.nodes.map NodeD.c)), (pI r_6.most), (pI r_6.room)]), (pI r_7), (pI r_8)])), ([], 13, 1, .eq (pB true)), ([], 14, 2, .eq (pB false))]) (ex := .ret) (by kernel_rfl) (by kernel_rfl) (allC (cg q16) (allC (diskAdd_ok (k + 8) (DiskD.mk v_3 v_4 v_5) (NodeD.mk (1 : Int) (0 : Int) (0 : Int) (0 : Int) (0 : Int) (0 : Int) data []) _ q17) (allC (cg q18) (allC (cg q19) allN))))
                  have q15 := q13 _ _ (by intro e; cases e) q14
                  obtain rfl := Option.some.inj h
                  exact ret_go (k := (k + 12)) Try.func5 Try.ntmps5 (by kernel_rfl) (by kernel_rfl) (Nat.le_of_ble_eq_true rfl) (adv [([], 3, 3, .eq (pB false)), ([], 3, 4, .ret (pB r_1)), ([], 3, 6, .eq (pB false)), ([], 5, 2, .ret (.agg [(.list 8 false (r_2.nodes.map NodeD.c)), (pI r_2.most), (pI r_2.room)])), ([], 6, 1, .ret (pB r_3)), ([], 6, 3, .eq (pB false)), ([], 6, 5, .ret (pI r_4)), ([], 6, 8, .eq (pB false)), ([], 6, 10, .ret (pI r_5)), ([], 6, 12, .eq (pB false))] [([], 10, .ret, (stOf (go (k + 12) 5 0 112 (adv [([], 10, 1, .eq (pB true)), ([], 12, 3, .ret (.tup [(.agg [(.list 8 false (r_6.nodes.map NodeD.c)), (pI r_6.most), (pI r_6.room)]), (pI r_7), (pI r_8)])), ([], 13, 1, .eq (pB true)), ([], 14, 2, .eq (pB false))]) law06DiskNew_L10 (law06DiskNew_S10 data (w64 ((1 : Int) + (Int.tmod (IntKind.wrap .i64 most) (20 : Int)))) (IntKind.wrap .i64 room) (v_1, v_2, v_3, v_4, v_5)))))]) (ex := .ret) (r := (pB false)) (by kernel_rfl) rfl (by kernel_rfl) (allC (cg q1) (allC (shownX_ok k  _ q2) (allC (cg q3) (allC (diskNew_ok (k + 10) (w64 ((1 : Int) + (Int.tmod (IntKind.wrap .i64 most) (20 : Int)))) (IntKind.wrap .i64 room) (63 : Int) _ q4) (allC (diskRight_ok (k + 5) r_2 _ q5) (allC (cg q6) (allC (diskUsed_ok (k + 9) r_2 _ q7) (allC (cg q8) (allC (diskBytes_ok (k + 9) r_2 _ q9) (allC (cg q10) (allC q15 allN))))))))))) (by kernel_rfl) allN
              · skip
                rcases bif_some q12 with ⟨q19, q12⟩ | ⟨q19, q12⟩
                · skip
                  cases q12
                  try dsimp only at h
                  have q14 := run_go (k := (k + 12)) (f := 5) (r0 := 0) (nt := 112) (c := law06DiskNew_L10) (σ := (law06DiskNew_S10 data (w64 ((1 : Int) + (Int.tmod (IntKind.wrap .i64 most) (20 : Int)))) (IntKind.wrap .i64 room) (v_1, v_2, v_3, v_4, v_5))) (adv [([], 10, 1, .eq (pB true)), ([], 12, 3, .ret (.tup [(.agg [(.list 8 false (r_6.nodes.map NodeD.c)), (pI r_6.most), (pI r_6.room)]), (pI r_7), (pI r_8)])), ([], 13, 1, .eq (pB false)), ([], 16, 3, .eq (pB true))]) (ex := .ret) (by kernel_rfl) (by kernel_rfl) (allC (cg q16) (allC (diskAdd_ok (k + 8) (DiskD.mk v_3 v_4 v_5) (NodeD.mk (1 : Int) (0 : Int) (0 : Int) (0 : Int) (0 : Int) (0 : Int) data []) _ q17) (allC (cg q18) (allC (cg q19) allN))))
                  have q15 := q13 _ _ (by intro e; cases e) q14
                  obtain rfl := Option.some.inj h
                  exact ret_go (k := (k + 12)) Try.func5 Try.ntmps5 (by kernel_rfl) (by kernel_rfl) (Nat.le_of_ble_eq_true rfl) (adv [([], 3, 3, .eq (pB false)), ([], 3, 4, .ret (pB r_1)), ([], 3, 6, .eq (pB false)), ([], 5, 2, .ret (.agg [(.list 8 false (r_2.nodes.map NodeD.c)), (pI r_2.most), (pI r_2.room)])), ([], 6, 1, .ret (pB r_3)), ([], 6, 3, .eq (pB false)), ([], 6, 5, .ret (pI r_4)), ([], 6, 8, .eq (pB false)), ([], 6, 10, .ret (pI r_5)), ([], 6, 12, .eq (pB false))] [([], 10, .ret, (stOf (go (k + 12) 5 0 112 (adv [([], 10, 1, .eq (pB true)), ([], 12, 3, .ret (.tup [(.agg [(.list 8 false (r_6.nodes.map NodeD.c)), (pI r_6.most), (pI r_6.room)]), (pI r_7), (pI r_8)])), ([], 13, 1, .eq (pB false)), ([], 16, 3, .eq (pB true))]) law06DiskNew_L10 (law06DiskNew_S10 data (w64 ((1 : Int) + (Int.tmod (IntKind.wrap .i64 most) (20 : Int)))) (IntKind.wrap .i64 room) (v_1, v_2, v_3, v_4, v_5)))))]) (ex := .ret) (r := (pB false)) (by kernel_rfl) rfl (by kernel_rfl) (allC (cg q1) (allC (shownX_ok k  _ q2) (allC (cg q3) (allC (diskNew_ok (k + 10) (w64 ((1 : Int) + (Int.tmod (IntKind.wrap .i64 most) (20 : Int)))) (IntKind.wrap .i64 room) (63 : Int) _ q4) (allC (diskRight_ok (k + 5) r_2 _ q5) (allC (cg q6) (allC (diskUsed_ok (k + 9) r_2 _ q7) (allC (cg q8) (allC (diskBytes_ok (k + 9) r_2 _ q9) (allC (cg q10) (allC q15 allN))))))))))) (by kernel_rfl) allN
                · skip
                  obtain ⟨r_9, q20, q12⟩ := bnd_some q12
                  rcases bif_some q12 with ⟨q21, q12⟩ | ⟨q21, q12⟩
                  · skip
                    cases q12
                    try dsimp only at h
                    have q14 := run_go (k := (k + 12)) (f := 5) (r0 := 0) (nt := 112) (c := law06DiskNew_L10) (σ := (law06DiskNew_S10 data (w64 ((1 : Int) + (Int.tmod (IntKind.wrap .i64 most) (20 : Int)))) (IntKind.wrap .i64 room) (v_1, v_2, v_3, v_4, v_5))) (adv [([], 10, 1, .eq (pB true)), ([], 12, 3, .ret (.tup [(.agg [(.list 8 false (r_6.nodes.map NodeD.c)), (pI r_6.most), (pI r_6.room)]), (pI r_7), (pI r_8)])), ([], 13, 1, .eq (pB false)), ([], 16, 3, .eq (pB false)), ([], 16, 5, .ret (pI r_9)), ([], 16, 10, .eq (pB true))]) (ex := .ret) (by kernel_rfl) (by kernel_rfl) (allC (cg q16) (allC (diskAdd_ok (k + 8) (DiskD.mk v_3 v_4 v_5) (NodeD.mk (1 : Int) (0 : Int) (0 : Int) (0 : Int) (0 : Int) (0 : Int) data []) _ q17) (allC (cg q18) (allC (cg q19) (allC (diskUsed_ok (k + 9) r_6 _ q20) (allC (cg q21) allN))))))
                    have q15 := q13 _ _ (by intro e; cases e) q14
                    obtain rfl := Option.some.inj h
                    exact ret_go (k := (k + 12)) Try.func5 Try.ntmps5 (by kernel_rfl) (by kernel_rfl) (Nat.le_of_ble_eq_true rfl) (adv [([], 3, 3, .eq (pB false)), ([], 3, 4, .ret (pB r_1)), ([], 3, 6, .eq (pB false)), ([], 5, 2, .ret (.agg [(.list 8 false (r_2.nodes.map NodeD.c)), (pI r_2.most), (pI r_2.room)])), ([], 6, 1, .ret (pB r_3)), ([], 6, 3, .eq (pB false)), ([], 6, 5, .ret (pI r_4)), ([], 6, 8, .eq (pB false)), ([], 6, 10, .ret (pI r_5)), ([], 6, 12, .eq (pB false))] [([], 10, .ret, (stOf (go (k + 12) 5 0 112 (adv [([], 10, 1, .eq (pB true)), ([], 12, 3, .ret (.tup [(.agg [(.list 8 false (r_6.nodes.map NodeD.c)), (pI r_6.most), (pI r_6.room)]), (pI r_7), (pI r_8)])), ([], 13, 1, .eq (pB false)), ([], 16, 3, .eq (pB false)), ([], 16, 5, .ret (pI r_9)), ([], 16, 10, .eq (pB true))]) law06DiskNew_L10 (law06DiskNew_S10 data (w64 ((1 : Int) + (Int.tmod (IntKind.wrap .i64 most) (20 : Int)))) (IntKind.wrap .i64 room) (v_1, v_2, v_3, v_4, v_5)))))]) (ex := .ret) (r := (pB false)) (by kernel_rfl) rfl (by kernel_rfl) (allC (cg q1) (allC (shownX_ok k  _ q2) (allC (cg q3) (allC (diskNew_ok (k + 10) (w64 ((1 : Int) + (Int.tmod (IntKind.wrap .i64 most) (20 : Int)))) (IntKind.wrap .i64 room) (63 : Int) _ q4) (allC (diskRight_ok (k + 5) r_2 _ q5) (allC (cg q6) (allC (diskUsed_ok (k + 9) r_2 _ q7) (allC (cg q8) (allC (diskBytes_ok (k + 9) r_2 _ q9) (allC (cg q10) (allC q15 allN))))))))))) (by kernel_rfl) allN
                  · skip
                    obtain ⟨r_10, q22, q12⟩ := bnd_some q12
                    rcases bif_some q12 with ⟨q23, q12⟩ | ⟨q23, q12⟩
                    · skip
                      cases q12
                      try dsimp only at h
                      have q14 := run_go (k := (k + 12)) (f := 5) (r0 := 0) (nt := 112) (c := law06DiskNew_L10) (σ := (law06DiskNew_S10 data (w64 ((1 : Int) + (Int.tmod (IntKind.wrap .i64 most) (20 : Int)))) (IntKind.wrap .i64 room) (v_1, v_2, v_3, v_4, v_5))) (adv [([], 10, 1, .eq (pB true)), ([], 12, 3, .ret (.tup [(.agg [(.list 8 false (r_6.nodes.map NodeD.c)), (pI r_6.most), (pI r_6.room)]), (pI r_7), (pI r_8)])), ([], 13, 1, .eq (pB false)), ([], 16, 3, .eq (pB false)), ([], 16, 5, .ret (pI r_9)), ([], 16, 10, .eq (pB false)), ([], 16, 12, .ret (pI r_10)), ([], 16, 19, .eq (pB true))]) (ex := .ret) (by kernel_rfl) (by kernel_rfl) (allC (cg q16) (allC (diskAdd_ok (k + 8) (DiskD.mk v_3 v_4 v_5) (NodeD.mk (1 : Int) (0 : Int) (0 : Int) (0 : Int) (0 : Int) (0 : Int) data []) _ q17) (allC (cg q18) (allC (cg q19) (allC (diskUsed_ok (k + 9) r_6 _ q20) (allC (cg q21) (allC (diskBytes_ok (k + 9) r_6 _ q22) (allC (cg q23) allN))))))))
                      have q15 := q13 _ _ (by intro e; cases e) q14
                      obtain rfl := Option.some.inj h
                      exact ret_go (k := (k + 12)) Try.func5 Try.ntmps5 (by kernel_rfl) (by kernel_rfl) (Nat.le_of_ble_eq_true rfl) (adv [([], 3, 3, .eq (pB false)), ([], 3, 4, .ret (pB r_1)), ([], 3, 6, .eq (pB false)), ([], 5, 2, .ret (.agg [(.list 8 false (r_2.nodes.map NodeD.c)), (pI r_2.most), (pI r_2.room)])), ([], 6, 1, .ret (pB r_3)), ([], 6, 3, .eq (pB false)), ([], 6, 5, .ret (pI r_4)), ([], 6, 8, .eq (pB false)), ([], 6, 10, .ret (pI r_5)), ([], 6, 12, .eq (pB false))] [([], 10, .ret, (stOf (go (k + 12) 5 0 112 (adv [([], 10, 1, .eq (pB true)), ([], 12, 3, .ret (.tup [(.agg [(.list 8 false (r_6.nodes.map NodeD.c)), (pI r_6.most), (pI r_6.room)]), (pI r_7), (pI r_8)])), ([], 13, 1, .eq (pB false)), ([], 16, 3, .eq (pB false)), ([], 16, 5, .ret (pI r_9)), ([], 16, 10, .eq (pB false)), ([], 16, 12, .ret (pI r_10)), ([], 16, 19, .eq (pB true))]) law06DiskNew_L10 (law06DiskNew_S10 data (w64 ((1 : Int) + (Int.tmod (IntKind.wrap .i64 most) (20 : Int)))) (IntKind.wrap .i64 room) (v_1, v_2, v_3, v_4, v_5)))))]) (ex := .ret) (r := (pB false)) (by kernel_rfl) rfl (by kernel_rfl) (allC (cg q1) (allC (shownX_ok k  _ q2) (allC (cg q3) (allC (diskNew_ok (k + 10) (w64 ((1 : Int) + (Int.tmod (IntKind.wrap .i64 most) (20 : Int)))) (IntKind.wrap .i64 room) (63 : Int) _ q4) (allC (diskRight_ok (k + 5) r_2 _ q5) (allC (cg q6) (allC (diskUsed_ok (k + 9) r_2 _ q7) (allC (cg q8) (allC (diskBytes_ok (k + 9) r_2 _ q9) (allC (cg q10) (allC q15 allN))))))))))) (by kernel_rfl) allN
                    · skip
                      rcases bif_some q12 with ⟨q24, q12⟩ | ⟨q24, q12⟩
                      · skip
                        cases q12
                        try dsimp only at h
                        have q14 := run_go (k := (k + 12)) (f := 5) (r0 := 0) (nt := 112) (c := law06DiskNew_L10) (σ := (law06DiskNew_S10 data (w64 ((1 : Int) + (Int.tmod (IntKind.wrap .i64 most) (20 : Int)))) (IntKind.wrap .i64 room) (v_1, v_2, v_3, v_4, v_5))) (adv [([], 10, 1, .eq (pB true)), ([], 12, 3, .ret (.tup [(.agg [(.list 8 false (r_6.nodes.map NodeD.c)), (pI r_6.most), (pI r_6.room)]), (pI r_7), (pI r_8)])), ([], 13, 1, .eq (pB false)), ([], 16, 3, .eq (pB false)), ([], 16, 5, .ret (pI r_9)), ([], 16, 10, .eq (pB false)), ([], 16, 12, .ret (pI r_10)), ([], 16, 19, .eq (pB false)), ([], 16, 25, .eq (pB true))]) (ex := .ret) (by kernel_rfl) (by kernel_rfl) (allC (cg q16) (allC (diskAdd_ok (k + 8) (DiskD.mk v_3 v_4 v_5) (NodeD.mk (1 : Int) (0 : Int) (0 : Int) (0 : Int) (0 : Int) (0 : Int) data []) _ q17) (allC (cg q18) (allC (cg q19) (allC (diskUsed_ok (k + 9) r_6 _ q20) (allC (cg q21) (allC (diskBytes_ok (k + 9) r_6 _ q22) (allC (cg q23) (allC (cg q24) allN)))))))))
                        have q15 := q13 _ _ (by intro e; cases e) q14
                        obtain rfl := Option.some.inj h
                        exact ret_go (k := (k + 12)) Try.func5 Try.ntmps5 (by kernel_rfl) (by kernel_rfl) (Nat.le_of_ble_eq_true rfl) (adv [([], 3, 3, .eq (pB false)), ([], 3, 4, .ret (pB r_1)), ([], 3, 6, .eq (pB false)), ([], 5, 2, .ret (.agg [(.list 8 false (r_2.nodes.map NodeD.c)), (pI r_2.most), (pI r_2.room)])), ([], 6, 1, .ret (pB r_3)), ([], 6, 3, .eq (pB false)), ([], 6, 5, .ret (pI r_4)), ([], 6, 8, .eq (pB false)), ([], 6, 10, .ret (pI r_5)), ([], 6, 12, .eq (pB false))] [([], 10, .ret, (stOf (go (k + 12) 5 0 112 (adv [([], 10, 1, .eq (pB true)), ([], 12, 3, .ret (.tup [(.agg [(.list 8 false (r_6.nodes.map NodeD.c)), (pI r_6.most), (pI r_6.room)]), (pI r_7), (pI r_8)])), ([], 13, 1, .eq (pB false)), ([], 16, 3, .eq (pB false)), ([], 16, 5, .ret (pI r_9)), ([], 16, 10, .eq (pB false)), ([], 16, 12, .ret (pI r_10)), ([], 16, 19, .eq (pB false)), ([], 16, 25, .eq (pB true))]) law06DiskNew_L10 (law06DiskNew_S10 data (w64 ((1 : Int) + (Int.tmod (IntKind.wrap .i64 most) (20 : Int)))) (IntKind.wrap .i64 room) (v_1, v_2, v_3, v_4, v_5)))))]) (ex := .ret) (r := (pB false)) (by kernel_rfl) rfl (by kernel_rfl) (allC (cg q1) (allC (shownX_ok k  _ q2) (allC (cg q3) (allC (diskNew_ok (k + 10) (w64 ((1 : Int) + (Int.tmod (IntKind.wrap .i64 most) (20 : Int)))) (IntKind.wrap .i64 room) (63 : Int) _ q4) (allC (diskRight_ok (k + 5) r_2 _ q5) (allC (cg q6) (allC (diskUsed_ok (k + 9) r_2 _ q7) (allC (cg q8) (allC (diskBytes_ok (k + 9) r_2 _ q9) (allC (cg q10) (allC q15 allN))))))))))) (by kernel_rfl) allN
                      · skip
                        rcases bif_some q12 with ⟨q25, q12⟩ | ⟨q25, q12⟩
                        · skip
                          cases q12
                          try dsimp only at h
                          have q14 := run_go (k := (k + 12)) (f := 5) (r0 := 0) (nt := 112) (c := law06DiskNew_L10) (σ := (law06DiskNew_S10 data (w64 ((1 : Int) + (Int.tmod (IntKind.wrap .i64 most) (20 : Int)))) (IntKind.wrap .i64 room) (v_1, v_2, v_3, v_4, v_5))) (adv [([], 10, 1, .eq (pB true)), ([], 12, 3, .ret (.tup [(.agg [(.list 8 false (r_6.nodes.map NodeD.c)), (pI r_6.most), (pI r_6.room)]), (pI r_7), (pI r_8)])), ([], 13, 1, .eq (pB false)), ([], 16, 3, .eq (pB false)), ([], 16, 5, .ret (pI r_9)), ([], 16, 10, .eq (pB false)), ([], 16, 12, .ret (pI r_10)), ([], 16, 19, .eq (pB false)), ([], 16, 25, .eq (pB false)), ([], 16, 32, .eq (pB true))]) (ex := .ret) (by kernel_rfl) (by kernel_rfl) (allC (cg q16) (allC (diskAdd_ok (k + 8) (DiskD.mk v_3 v_4 v_5) (NodeD.mk (1 : Int) (0 : Int) (0 : Int) (0 : Int) (0 : Int) (0 : Int) data []) _ q17) (allC (cg q18) (allC (cg q19) (allC (diskUsed_ok (k + 9) r_6 _ q20) (allC (cg q21) (allC (diskBytes_ok (k + 9) r_6 _ q22) (allC (cg q23) (allC (cg q24) (allC (cg q25) allN))))))))))
                          have q15 := q13 _ _ (by intro e; cases e) q14
                          obtain rfl := Option.some.inj h
                          exact ret_go (k := (k + 12)) Try.func5 Try.ntmps5 (by kernel_rfl) (by kernel_rfl) (Nat.le_of_ble_eq_true rfl) (adv [([], 3, 3, .eq (pB false)), ([], 3, 4, .ret (pB r_1)), ([], 3, 6, .eq (pB false)), ([], 5, 2, .ret (.agg [(.list 8 false (r_2.nodes.map NodeD.c)), (pI r_2.most), (pI r_2.room)])), ([], 6, 1, .ret (pB r_3)), ([], 6, 3, .eq (pB false)), ([], 6, 5, .ret (pI r_4)), ([], 6, 8, .eq (pB false)), ([], 6, 10, .ret (pI r_5)), ([], 6, 12, .eq (pB false))] [([], 10, .ret, (stOf (go (k + 12) 5 0 112 (adv [([], 10, 1, .eq (pB true)), ([], 12, 3, .ret (.tup [(.agg [(.list 8 false (r_6.nodes.map NodeD.c)), (pI r_6.most), (pI r_6.room)]), (pI r_7), (pI r_8)])), ([], 13, 1, .eq (pB false)), ([], 16, 3, .eq (pB false)), ([], 16, 5, .ret (pI r_9)), ([], 16, 10, .eq (pB false)), ([], 16, 12, .ret (pI r_10)), ([], 16, 19, .eq (pB false)), ([], 16, 25, .eq (pB false)), ([], 16, 32, .eq (pB true))]) law06DiskNew_L10 (law06DiskNew_S10 data (w64 ((1 : Int) + (Int.tmod (IntKind.wrap .i64 most) (20 : Int)))) (IntKind.wrap .i64 room) (v_1, v_2, v_3, v_4, v_5)))))]) (ex := .ret) (r := (pB false)) (by kernel_rfl) rfl (by kernel_rfl) (allC (cg q1) (allC (shownX_ok k  _ q2) (allC (cg q3) (allC (diskNew_ok (k + 10) (w64 ((1 : Int) + (Int.tmod (IntKind.wrap .i64 most) (20 : Int)))) (IntKind.wrap .i64 room) (63 : Int) _ q4) (allC (diskRight_ok (k + 5) r_2 _ q5) (allC (cg q6) (allC (diskUsed_ok (k + 9) r_2 _ q7) (allC (cg q8) (allC (diskBytes_ok (k + 9) r_2 _ q9) (allC (cg q10) (allC q15 allN))))))))))) (by kernel_rfl) allN
                        · skip
                          cases q12
            · skip
              cases q12
              try dsimp only at h
              have q14 := run_go (k := (k + 12)) (f := 5) (r0 := 0) (nt := 112) (c := law06DiskNew_L10) (σ := (law06DiskNew_S10 data (w64 ((1 : Int) + (Int.tmod (IntKind.wrap .i64 most) (20 : Int)))) (IntKind.wrap .i64 room) (v_1, v_2, v_3, v_4, v_5))) (adv [([], 10, 1, .eq (pB false))]) (ex := (.exit 0)) (by kernel_rfl) (by kernel_rfl) (allC (cg q16) allN)
              have q15 := q13 _ _ (by intro e; cases e) q14
              obtain rfl := Option.some.inj h
              exact ret_go (k := (k + 12)) Try.func5 Try.ntmps5 (by kernel_rfl) (by kernel_rfl) (Nat.le_of_ble_eq_true rfl) (adv [([], 3, 3, .eq (pB false)), ([], 3, 4, .ret (pB r_1)), ([], 3, 6, .eq (pB false)), ([], 5, 2, .ret (.agg [(.list 8 false (r_2.nodes.map NodeD.c)), (pI r_2.most), (pI r_2.room)])), ([], 6, 1, .ret (pB r_3)), ([], 6, 3, .eq (pB false)), ([], 6, 5, .ret (pI r_4)), ([], 6, 8, .eq (pB false)), ([], 6, 10, .ret (pI r_5)), ([], 6, 12, .eq (pB false))] [([], 10, (.exit 0), (stOf (go (k + 12) 5 0 112 (adv [([], 10, 1, .eq (pB false))]) law06DiskNew_L10 (law06DiskNew_S10 data (w64 ((1 : Int) + (Int.tmod (IntKind.wrap .i64 most) (20 : Int)))) (IntKind.wrap .i64 room) (v_1, v_2, v_3, v_4, v_5)))))]) (ex := .ret) (r := (pB false)) (by kernel_rfl) rfl (by kernel_rfl) (allC (cg q1) (allC (shownX_ok k  _ q2) (allC (cg q3) (allC (diskNew_ok (k + 10) (w64 ((1 : Int) + (Int.tmod (IntKind.wrap .i64 most) (20 : Int)))) (IntKind.wrap .i64 room) (63 : Int) _ q4) (allC (diskRight_ok (k + 5) r_2 _ q5) (allC (cg q6) (allC (diskUsed_ok (k + 9) r_2 _ q7) (allC (cg q8) (allC (diskBytes_ok (k + 9) r_2 _ q9) (allC (cg q10) (allC q15 allN))))))))))) (by kernel_rfl) allN


end Go.Proofs.Ytfllhakmjookkaa.Den
