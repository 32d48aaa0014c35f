/- Functions, printed by den.py out of the code: plain ones, and that the code answers as they do. -/
import Derived.Test.YtfllhakmjookkaaDenF12
import Derived.Test.YtfllhakmjookkaaDenVR
set_option linter.unusedVariables false
set_option linter.unusedSimpArgs false
namespace Go.Proofs.Ytfllhakmjookkaa.Den
open Go Go.RowKit

/- flagstone/flagstonelaw06.DiskSets: its loop at region 9 -/
noncomputable def law06DiskSets_L9 : Code := cAt (codeOf Try.f6) [true, true, true, true, true, true, false, true, false, false]
def law06DiskSets_R9 (x0 : Int) (x1 : Int) (x2 : List (List PV)) (x3 : Int) (x4 : Int) (x5 : List (List PV)) (x6 : Int) (x7 : Int) : St := ⟨envL [(3, (.ptr [0, TAG] 1 0 0)), (7, (pI x0)), (8, (.ptr [1, TAG] 1 0 0)), (11, (pI x1))], hsL [some ⟨3, 24, [[(.list 8 false x2), (pI x3), (pI x4)]], true, false⟩, some ⟨3, 24, [[(.list 8 false x5), (pI x6), (pI x7)]], true, false⟩] [0, 0]⟩
theorem law06DiskSets_R9_eq {x0 y0 : Int} {x1 y1 : Int} {x2 y2 : List (List PV)} {x3 y3 : Int} {x4 y4 : Int} {x5 y5 : List (List PV)} {x6 y6 : Int} {x7 y7 : Int} (h0 : x0 = y0) (h1 : x1 = y1) (h2 : x2 = y2) (h3 : x3 = y3) (h4 : x4 = y4) (h5 : x5 = y5) (h6 : x6 = y6) (h7 : x7 = y7) : law06DiskSets_R9 x0 x1 x2 x3 x4 x5 x6 x7 = law06DiskSets_R9 y0 y1 y2 y3 y4 y5 y6 y7 := by
  subst h0 h1 h2 h3 h4 h5 h6 h7; rfl
def law06DiskSets_S9 (p0 : Int) (p1 : (List NodeD)) (p2 : Int) (p3 : Int) (p4 : (List NodeD)) (p5 : Int) (p6 : Int) : Int → St
  | v0 => law06DiskSets_R9 p0 v0 (p1.map NodeD.c) p2 p3 (p4.map NodeD.c) p5 p6
def law06DiskSets_b9 (p0 : Int) (p1 : (List NodeD)) (p2 : Int) (p3 : Int) (p4 : (List NodeD)) (p5 : Int) (p6 : Int) : Int → Option (Int ⊕ ((Int × NodeD × NodeD × NodeD × NodeD × Bool) ⊕ Int))
  | v0 =>
    bif (decide (v0 < (p1.length : Int))) then (
      bif (v0 != p0) then (
        (gt p4 v0).bind fun y_1 =>
        (law06Node y_1).bind fun r_1 =>
        (gt p1 v0).bind fun y_2 =>
        (law06Node y_2).bind fun r_2 =>
        (ref06Alike r_1 r_2).bind fun r_3 =>
        bif (!r_3) then (
          some (.inr (.inl (v0, y_1, r_1, y_2, r_2, r_3)))
        ) else (
          some (.inl (w64 (v0 + (1 : Int))))
        )
      ) else (
        some (.inl (w64 (v0 + (1 : Int))))
      )
    ) else (
      some (.inr (.inr (v0)))
    )
set_option maxRecDepth 100000 in
theorem law06DiskSets_t9 (k : Nat) (p0 : Int) (p1 : (List NodeD)) (p2 : Int) (p3 : Int) (p4 : (List NodeD)) (p5 : Int) (p6 : Int) (v0 a1 : Int) (h : law06DiskSets_b9 p0 p1 p2 p3 p4 p5 p6 v0 = some (.inl a1)) : ∃ σ, run1 (k + 12) 6 0 104 law06DiskSets_L9 (law06DiskSets_S9 p0 p1 p2 p3 p4 p5 p6 v0) = some (.normal, σ) ∧ canonS 0 [3, 7, 8, 11] σ = some (law06DiskSets_S9 p0 p1 p2 p3 p4 p5 p6 a1) := by
  unfold law06DiskSets_b9 at h
  try dsimp only at h
  rcases bif_some h with ⟨q1, h⟩ | ⟨q1, h⟩
  · skip
    rcases bif_some h with ⟨q2, h⟩ | ⟨q2, h⟩
    · skip
      obtain ⟨y_1, q3, h⟩ := bnd_some h
      obtain ⟨r_1, q4, h⟩ := bnd_some h
      obtain ⟨y_2, q5, h⟩ := bnd_some h
      obtain ⟨r_2, q6, h⟩ := bnd_some h
      obtain ⟨r_3, q7, h⟩ := bnd_some h
      rcases bif_some h with ⟨q8, h⟩ | ⟨q8, h⟩
      · skip
        cases h
      · skip
        obtain rfl := Sum.inl.inj (Option.some.inj h)
        exact ⟨_, run_go (k := (k + 12)) (f := 6) (r0 := 0) (nt := 104) (c := law06DiskSets_L9) (σ := (law06DiskSets_S9 p0 p1 p2 p3 p4 p5 p6 v0)) (adv [([], 9, 3, .eq (pI (p1.length : Int))), ([], 9, 4, .eq (pB true)), ([], 11, 3, .eq (pB true)), ([], 11, 7, .elem [(pI y_1.kind), (pI y_1.modeF), (pI y_1.owner), (pI y_1.links), (pI y_1.openF), (pI y_1.up), (pS y_1.data), (.list 2 false (y_1.names.map entP))]), ([], 11, 9, .ret (.agg [(pI r_1.kind), (pI r_1.modeF), (pI r_1.owner), (pI r_1.links), (pI r_1.openF), (pI r_1.up), (pS r_1.data), (.list 2 false (r_1.names.map entP))])), ([], 11, 13, .elem [(pI y_2.kind), (pI y_2.modeF), (pI y_2.owner), (pI y_2.links), (pI y_2.openF), (pI y_2.up), (pS y_2.data), (.list 2 false (y_2.names.map entP))]), ([], 11, 15, .ret (.agg [(pI r_2.kind), (pI r_2.modeF), (pI r_2.owner), (pI r_2.links), (pI r_2.openF), (pI r_2.up), (pS r_2.data), (.list 2 false (r_2.names.map entP))])), ([], 11, 16, .ret (pB r_3)), ([], 11, 18, .eq (pB false))]) (ex := .normal) (by kernel_rfl) (by kernel_rfl) (allC (len_ob (rfl : (p1.map NodeD.c) = p1.map NodeD.c)) (allC (cg q1) (allC (cg q2) (allC (gt_list (c := NodeD.c) q3) (allC (law06Node_ok (k + 11) y_1 _ q4) (allC (gt_list (c := NodeD.c) q5) (allC (gt_list (c := NodeD.c) q5) (allC (law06Node_ok (k + 11) y_2 _ q6) (allC (ref06Alike_ok (k + 10) r_1 r_2 _ q7) (allC (cg q8) allN)))))))))), (by kernel_rfl)⟩
    · skip
      obtain rfl := Sum.inl.inj (Option.some.inj h)
      exact ⟨_, run_go (k := (k + 12)) (f := 6) (r0 := 0) (nt := 104) (c := law06DiskSets_L9) (σ := (law06DiskSets_S9 p0 p1 p2 p3 p4 p5 p6 v0)) (adv [([], 9, 3, .eq (pI (p1.length : Int))), ([], 9, 4, .eq (pB true)), ([], 11, 3, .eq (pB false))]) (ex := .normal) (by kernel_rfl) (by kernel_rfl) (allC (len_ob (rfl : (p1.map NodeD.c) = p1.map NodeD.c)) (allC (cg q1) (allC (cg q2) allN))), (by kernel_rfl)⟩
  · skip
    cases h
/-- flagstone/flagstonelaw06.DiskSets -/
def law06DiskSets (d : DiskD) (n : NodeD) (atF : Int) : Option Bool :=
  (law06Big d).bind fun r_1 =>
  bif r_1 then (
    (shownX).bind fun r_2 =>
    some r_2
  ) else (
    bif ((d.nodes.length : Int) == (0 : Int)) then (
      (shownX).bind fun r_2 =>
      some r_2
    ) else (
      bif (decide ((n.data.size : Int) > (300 : Int))) then (
        (shownX).bind fun r_2 =>
        some r_2
      ) else (
        bif (decide ((n.names.length : Int) > (60 : Int))) then (
          (shownX).bind fun r_2 =>
          some r_2
        ) else (
          (shownX).bind fun r_2 =>
          bif (!r_2) then (
            (shownX).bind fun r_3 =>
            some r_3
          ) else (
            grd ((d.nodes.length : Int) ≠ 0) <|
            (diskSet d (Int.tmod (IntKind.wrap .i64 atF) (d.nodes.length : Int)) n).bind fun r_3 =>
            (diskGet r_3 (Int.tmod (IntKind.wrap .i64 atF) (d.nodes.length : Int))).bind fun (r_4, r_5) =>
            bif ((r_3.nodes.length : Int) != (d.nodes.length : Int)) then (
              some false
            ) else (
              bif (!(r_5 == (n.kind != (0 : Int)))) then (
                some false
              ) else (
                bif r_5 then (
                  (law06Node r_4).bind fun r_6 =>
                  (law06Node n).bind fun r_7 =>
                  (ref06Alike r_6 r_7).bind fun r_8 =>
                  bif (!r_8) then (
                    some false
                  ) else (
                    (iterN (law06DiskSets_b9 (Int.tmod (IntKind.wrap .i64 atF) (d.nodes.length : Int)) d.nodes d.most d.room r_3.nodes r_3.most r_3.room) LF (0 : Int)).bind fun X_1 => match X_1 with
                    | .inl (v_1, y_1, r_9, y_2, r_10, r_11) => (
                      some false
                    )
                    | .inr (v_1) => (
                      some true
                    )
                  )
                ) else (
                  (iterN (law06DiskSets_b9 (Int.tmod (IntKind.wrap .i64 atF) (d.nodes.length : Int)) d.nodes d.most d.room r_3.nodes r_3.most r_3.room) LF (0 : Int)).bind fun X_1 => match X_1 with
                  | .inl (v_1, y_1, r_6, y_2, r_7, r_8) => (
                    some false
                  )
                  | .inr (v_1) => (
                    some true
                  )
                )
              )
            )
          )
        )
      )
    )
  )
set_option maxRecDepth 100000 in
theorem law06DiskSets_ok (k : Nat) (d : DiskD) (n : NodeD) (atF : Int) (r : Bool) (h : law06DiskSets d n atF = some r) : run0 (k + 13) 6 [(.agg [(.list 8 false (d.nodes.map NodeD.c)), (pI d.most), (pI d.room)]), (.agg [(pI n.kind), (pI n.modeF), (pI n.owner), (pI n.links), (pI n.openF), (pI n.up), (pS n.data), (.list 2 false (n.names.map entP))]), (.v (.int .u8 atF))] = some (pB r) := by
  unfold law06DiskSets at h
  obtain ⟨r_1, q1, h⟩ := bnd_some h
  rcases bif_some h with ⟨q2, h⟩ | ⟨q2, h⟩
  · skip
    obtain ⟨r_2, q3, h⟩ := bnd_some h
    obtain rfl := Option.some.inj h
    exact ret_go (k := (k + 12)) Try.func6 Try.ntmps6 (by kernel_rfl) (by kernel_rfl) (Nat.le_of_ble_eq_true rfl) (adv [([], 1, 1, .ret (pB r_1)), ([], 1, 2, .eq (pB true)), ([], 2, 0, .ret (pB r_2))]) (ex := .ret) (r := (pB r_2)) (by kernel_rfl) rfl (by kernel_rfl) (allC (law06Big_ok (k + 11) d _ q1) (allC (cg q2) (allC (shownX_ok k  _ q3) allN))) (by kernel_rfl) allN
  · skip
    rcases bif_some h with ⟨q3, h⟩ | ⟨q3, h⟩
    · skip
      obtain ⟨r_2, q4, h⟩ := bnd_some h
      obtain rfl := Option.some.inj h
      exact ret_go (k := (k + 12)) Try.func6 Try.ntmps6 (by kernel_rfl) (by kernel_rfl) (Nat.le_of_ble_eq_true rfl) (adv [([], 1, 1, .ret (pB r_1)), ([], 1, 2, .eq (pB false)), ([], 1, 5, .eq (pI (d.nodes.length : Int))), ([], 1, 8, .eq (pB true)), ([], 2, 0, .ret (pB r_2))]) (ex := .ret) (r := (pB r_2)) (by kernel_rfl) rfl (by kernel_rfl) (allC (law06Big_ok (k + 11) d _ q1) (allC (cg q2) (allC (len_ob (rfl : (d.nodes.map NodeD.c) = d.nodes.map NodeD.c)) (allC (cg q3) (allC (shownX_ok k  _ q4) allN))))) (by kernel_rfl) allN
    · skip
      rcases bif_some h with ⟨q4, h⟩ | ⟨q4, h⟩
      · skip
        obtain ⟨r_2, q5, h⟩ := bnd_some h
        obtain rfl := Option.some.inj h
        exact ret_go (k := (k + 12)) Try.func6 Try.ntmps6 (by kernel_rfl) (by kernel_rfl) (Nat.le_of_ble_eq_true rfl) (adv [([], 1, 1, .ret (pB r_1)), ([], 1, 2, .eq (pB false)), ([], 1, 5, .eq (pI (d.nodes.length : Int))), ([], 1, 8, .eq (pB false)), ([], 1, 14, .eq (pB true)), ([], 2, 0, .ret (pB r_2))]) (ex := .ret) (r := (pB r_2)) (by kernel_rfl) rfl (by kernel_rfl) (allC (law06Big_ok (k + 11) d _ q1) (allC (cg q2) (allC (len_ob (rfl : (d.nodes.map NodeD.c) = d.nodes.map NodeD.c)) (allC (cg q3) (allC (cg q4) (allC (shownX_ok k  _ q5) allN)))))) (by kernel_rfl) allN
      · skip
        rcases bif_some h with ⟨q5, h⟩ | ⟨q5, h⟩
        · skip
          obtain ⟨r_2, q6, h⟩ := bnd_some h
          obtain rfl := Option.some.inj h
          exact ret_go (k := (k + 12)) Try.func6 Try.ntmps6 (by kernel_rfl) (by kernel_rfl) (Nat.le_of_ble_eq_true rfl) (adv [([], 1, 1, .ret (pB r_1)), ([], 1, 2, .eq (pB false)), ([], 1, 5, .eq (pI (d.nodes.length : Int))), ([], 1, 8, .eq (pB false)), ([], 1, 14, .eq (pB false)), ([], 1, 17, .eq (pI (n.names.length : Int))), ([], 1, 20, .eq (pB true)), ([], 2, 0, .ret (pB r_2))]) (ex := .ret) (r := (pB r_2)) (by kernel_rfl) rfl (by kernel_rfl) (allC (law06Big_ok (k + 11) d _ q1) (allC (cg q2) (allC (len_ob (rfl : (d.nodes.map NodeD.c) = d.nodes.map NodeD.c)) (allC (cg q3) (allC (cg q4) (allC (len_ob (rfl : (n.names.map entP) = n.names.map entP)) (allC (cg q5) (allC (shownX_ok k  _ q6) allN)))))))) (by kernel_rfl) allN
        · skip
          obtain ⟨r_2, q6, h⟩ := bnd_some h
          rcases bif_some h with ⟨q7, h⟩ | ⟨q7, h⟩
          · skip
            obtain ⟨r_3, q8, h⟩ := bnd_some h
            obtain rfl := Option.some.inj h
            exact ret_go (k := (k + 12)) Try.func6 Try.ntmps6 (by kernel_rfl) (by kernel_rfl) (Nat.le_of_ble_eq_true rfl) (adv [([], 1, 1, .ret (pB r_1)), ([], 1, 2, .eq (pB false)), ([], 1, 5, .eq (pI (d.nodes.length : Int))), ([], 1, 8, .eq (pB false)), ([], 1, 14, .eq (pB false)), ([], 1, 17, .eq (pI (n.names.length : Int))), ([], 1, 20, .eq (pB false)), ([], 1, 21, .ret (pB r_2)), ([], 1, 23, .eq (pB true)), ([], 2, 0, .ret (pB r_3))]) (ex := .ret) (r := (pB r_3)) (by kernel_rfl) rfl (by kernel_rfl) (allC (law06Big_ok (k + 11) d _ q1) (allC (cg q2) (allC (len_ob (rfl : (d.nodes.map NodeD.c) = d.nodes.map NodeD.c)) (allC (cg q3) (allC (cg q4) (allC (len_ob (rfl : (n.names.map entP) = n.names.map entP)) (allC (cg q5) (allC (shownX_ok k  _ q6) (allC (cg q7) (allC (shownX_ok k  _ q8) allN)))))))))) (by kernel_rfl) allN
          · skip
            obtain ⟨q8, h⟩ := grd_some h
            obtain ⟨r_3, q9, h⟩ := bnd_some h
            obtain ⟨⟨r_4, r_5⟩, q10, h⟩ := bnd_some h
            try dsimp only at h
            rcases bif_some h with ⟨q11, h⟩ | ⟨q11, h⟩
            · skip
              obtain rfl := Option.some.inj h
              exact ret_go (k := (k + 12)) Try.func6 Try.ntmps6 (by kernel_rfl) (by kernel_rfl) (Nat.le_of_ble_eq_true rfl) (adv [([], 1, 1, .ret (pB r_1)), ([], 1, 2, .eq (pB false)), ([], 1, 5, .eq (pI (d.nodes.length : Int))), ([], 1, 8, .eq (pB false)), ([], 1, 14, .eq (pB false)), ([], 1, 17, .eq (pI (n.names.length : Int))), ([], 1, 20, .eq (pB false)), ([], 1, 21, .ret (pB r_2)), ([], 1, 23, .eq (pB false)), ([], 3, 4, .eq (pI (d.nodes.length : Int))), ([], 3, 5, .raw (pI (Int.tmod (IntKind.wrap .i64 atF) (d.nodes.length : Int)))), ([], 4, 3, .ret (.agg [(.list 8 false (r_3.nodes.map NodeD.c)), (pI r_3.most), (pI r_3.room)])), ([], 5, 2, .ret (.tup [(.agg [(pI r_4.kind), (pI r_4.modeF), (pI r_4.owner), (pI r_4.links), (pI r_4.openF), (pI r_4.up), (pS r_4.data), (.list 2 false (r_4.names.map entP))]), (pB r_5)])), ([], 6, 2, .eq (pI (r_3.nodes.length : Int))), ([], 6, 5, .eq (pI (d.nodes.length : Int))), ([], 6, 7, .eq (pB true))]) (ex := .ret) (r := (pB false)) (by kernel_rfl) rfl (by kernel_rfl) (allC (law06Big_ok (k + 11) d _ q1) (allC (cg q2) (allC (len_ob (rfl : (d.nodes.map NodeD.c) = d.nodes.map NodeD.c)) (allC (cg q3) (allC (cg q4) (allC (len_ob (rfl : (n.names.map entP) = n.names.map entP)) (allC (cg q5) (allC (shownX_ok k  _ q6) (allC (cg q7) (allC (len_ob (rfl : (d.nodes.map NodeD.c) = d.nodes.map NodeD.c)) (allC (rem_at (a := (IntKind.wrap .i64 atF)) (b := (d.nodes.length : Int)) (t := 3) (yt := 3) (i := 38) (j := 41) [5, 3] (opAt 3 5 Try.f6) (by kernel_rfl) rfl q8) (allC (diskSet_ok (k + 10) d (Int.tmod (IntKind.wrap .i64 atF) (d.nodes.length : Int)) n _ q9) (allC (diskGet_ok (k + 10) r_3 (Int.tmod (IntKind.wrap .i64 atF) (d.nodes.length : Int)) _ q10) (allC (len_ob (rfl : (r_3.nodes.map NodeD.c) = r_3.nodes.map NodeD.c)) (allC (len_ob (rfl : (d.nodes.map NodeD.c) = d.nodes.map NodeD.c)) (allC (cg q11) allN)))))))))))))))) (by kernel_rfl) allN
            · skip
              rcases bif_some h with ⟨q12, h⟩ | ⟨q12, h⟩
              · skip
                obtain rfl := Option.some.inj h
                exact ret_go (k := (k + 12)) Try.func6 Try.ntmps6 (by kernel_rfl) (by kernel_rfl) (Nat.le_of_ble_eq_true rfl) (adv [([], 1, 1, .ret (pB r_1)), ([], 1, 2, .eq (pB false)), ([], 1, 5, .eq (pI (d.nodes.length : Int))), ([], 1, 8, .eq (pB false)), ([], 1, 14, .eq (pB false)), ([], 1, 17, .eq (pI (n.names.length : Int))), ([], 1, 20, .eq (pB false)), ([], 1, 21, .ret (pB r_2)), ([], 1, 23, .eq (pB false)), ([], 3, 4, .eq (pI (d.nodes.length : Int))), ([], 3, 5, .raw (pI (Int.tmod (IntKind.wrap .i64 atF) (d.nodes.length : Int)))), ([], 4, 3, .ret (.agg [(.list 8 false (r_3.nodes.map NodeD.c)), (pI r_3.most), (pI r_3.room)])), ([], 5, 2, .ret (.tup [(.agg [(pI r_4.kind), (pI r_4.modeF), (pI r_4.owner), (pI r_4.links), (pI r_4.openF), (pI r_4.up), (pS r_4.data), (.list 2 false (r_4.names.map entP))]), (pB r_5)])), ([], 6, 2, .eq (pI (r_3.nodes.length : Int))), ([], 6, 5, .eq (pI (d.nodes.length : Int))), ([], 6, 7, .eq (pB false)), ([], 6, 14, .eq (pB true))]) (ex := .ret) (r := (pB false)) (by kernel_rfl) rfl (by kernel_rfl) (allC (law06Big_ok (k + 11) d _ q1) (allC (cg q2) (allC (len_ob (rfl : (d.nodes.map NodeD.c) = d.nodes.map NodeD.c)) (allC (cg q3) (allC (cg q4) (allC (len_ob (rfl : (n.names.map entP) = n.names.map entP)) (allC (cg q5) (allC (shownX_ok k  _ q6) (allC (cg q7) (allC (len_ob (rfl : (d.nodes.map NodeD.c) = d.nodes.map NodeD.c)) (allC (rem_at (a := (IntKind.wrap .i64 atF)) (b := (d.nodes.length : Int)) (t := 3) (yt := 3) (i := 38) (j := 41) [5, 3] (opAt 3 5 Try.f6) (by kernel_rfl) rfl q8) (allC (diskSet_ok (k + 10) d (Int.tmod (IntKind.wrap .i64 atF) (d.nodes.length : Int)) n _ q9) (allC (diskGet_ok (k + 10) r_3 (Int.tmod (IntKind.wrap .i64 atF) (d.nodes.length : Int)) _ q10) (allC (len_ob (rfl : (r_3.nodes.map NodeD.c) = r_3.nodes.map NodeD.c)) (allC (len_ob (rfl : (d.nodes.map NodeD.c) = d.nodes.map NodeD.c)) (allC (cg q11) (allC (cg q12) allN))))))))))))))))) (by kernel_rfl) allN
              · skip
                rcases bif_some h with ⟨q13, h⟩ | ⟨q13, h⟩
                · skip
                  obtain ⟨r_6, q14, h⟩ := bnd_some h
                  obtain ⟨r_7, q15, h⟩ := bnd_some h
                  obtain ⟨r_8, q16, h⟩ := bnd_some h
                  rcases bif_some h with ⟨q17, h⟩ | ⟨q17, h⟩
                  · skip
                    obtain rfl := Option.some.inj h
                    exact ret_go (k := (k + 12)) Try.func6 Try.ntmps6 (by kernel_rfl) (by kernel_rfl) (Nat.le_of_ble_eq_true rfl) (adv [([], 1, 1, .ret (pB r_1)), ([], 1, 2, .eq (pB false)), ([], 1, 5, .eq (pI (d.nodes.length : Int))), ([], 1, 8, .eq (pB false)), ([], 1, 14, .eq (pB false)), ([], 1, 17, .eq (pI (n.names.length : Int))), ([], 1, 20, .eq (pB false)), ([], 1, 21, .ret (pB r_2)), ([], 1, 23, .eq (pB false)), ([], 3, 4, .eq (pI (d.nodes.length : Int))), ([], 3, 5, .raw (pI (Int.tmod (IntKind.wrap .i64 atF) (d.nodes.length : Int)))), ([], 4, 3, .ret (.agg [(.list 8 false (r_3.nodes.map NodeD.c)), (pI r_3.most), (pI r_3.room)])), ([], 5, 2, .ret (.tup [(.agg [(pI r_4.kind), (pI r_4.modeF), (pI r_4.owner), (pI r_4.links), (pI r_4.openF), (pI r_4.up), (pS r_4.data), (.list 2 false (r_4.names.map entP))]), (pB r_5)])), ([], 6, 2, .eq (pI (r_3.nodes.length : Int))), ([], 6, 5, .eq (pI (d.nodes.length : Int))), ([], 6, 7, .eq (pB false)), ([], 6, 14, .eq (pB false)), ([], 6, 16, .eq (pB true)), ([], 6, 18, .ret (.agg [(pI r_6.kind), (pI r_6.modeF), (pI r_6.owner), (pI r_6.links), (pI r_6.openF), (pI r_6.up), (pS r_6.data), (.list 2 false (r_6.names.map entP))])), ([], 6, 20, .ret (.agg [(pI r_7.kind), (pI r_7.modeF), (pI r_7.owner), (pI r_7.links), (pI r_7.openF), (pI r_7.up), (pS r_7.data), (.list 2 false (r_7.names.map entP))])), ([], 6, 21, .ret (pB r_8)), ([], 6, 24, .eq (pB true))]) (ex := .ret) (r := (pB false)) (by kernel_rfl) rfl (by kernel_rfl) (allC (law06Big_ok (k + 11) d _ q1) (allC (cg q2) (allC (len_ob (rfl : (d.nodes.map NodeD.c) = d.nodes.map NodeD.c)) (allC (cg q3) (allC (cg q4) (allC (len_ob (rfl : (n.names.map entP) = n.names.map entP)) (allC (cg q5) (allC (shownX_ok k  _ q6) (allC (cg q7) (allC (len_ob (rfl : (d.nodes.map NodeD.c) = d.nodes.map NodeD.c)) (allC (rem_at (a := (IntKind.wrap .i64 atF)) (b := (d.nodes.length : Int)) (t := 3) (yt := 3) (i := 38) (j := 41) [5, 3] (opAt 3 5 Try.f6) (by kernel_rfl) rfl q8) (allC (diskSet_ok (k + 10) d (Int.tmod (IntKind.wrap .i64 atF) (d.nodes.length : Int)) n _ q9) (allC (diskGet_ok (k + 10) r_3 (Int.tmod (IntKind.wrap .i64 atF) (d.nodes.length : Int)) _ q10) (allC (len_ob (rfl : (r_3.nodes.map NodeD.c) = r_3.nodes.map NodeD.c)) (allC (len_ob (rfl : (d.nodes.map NodeD.c) = d.nodes.map NodeD.c)) (allC (cg q11) (allC (cg q12) (allC (cg q13) (allC (law06Node_ok (k + 11) r_4 _ q14) (allC (law06Node_ok (k + 11) n _ q15) (allC (ref06Alike_ok (k + 10) r_6 r_7 _ q16) (allC (cg q17) allN)))))))))))))))))))))) (by kernel_rfl) allN
                  · skip
                    obtain ⟨X_1, q18, h⟩ := bnd_some h
                    obtain ⟨v_1, q19, q20⟩ := loop_iter (f := run1 (k + 12) 6 0 104 law06DiskSets_L9) (law06DiskSets_S9 (Int.tmod (IntKind.wrap .i64 atF) (d.nodes.length : Int)) d.nodes d.most d.room r_3.nodes r_3.most r_3.room) (law06DiskSets_b9 (Int.tmod (IntKind.wrap .i64 atF) (d.nodes.length : Int)) d.nodes d.most d.room r_3.nodes r_3.most r_3.room) (law06DiskSets_t9 k (Int.tmod (IntKind.wrap .i64 atF) (d.nodes.length : Int)) d.nodes d.most d.room r_3.nodes r_3.most r_3.room) LF (0 : Int) _ (stOf (goStop (k + 12) 6 0 104 (adv [([], 1, 1, .ret (pB r_1)), ([], 1, 2, .eq (pB false)), ([], 1, 5, .eq (pI (d.nodes.length : Int))), ([], 1, 8, .eq (pB false)), ([], 1, 14, .eq (pB false)), ([], 1, 17, .eq (pI (n.names.length : Int))), ([], 1, 20, .eq (pB false)), ([], 1, 21, .ret (pB r_2)), ([], 1, 23, .eq (pB false)), ([], 3, 4, .eq (pI (d.nodes.length : Int))), ([], 3, 5, .raw (pI (Int.tmod (IntKind.wrap .i64 atF) (d.nodes.length : Int)))), ([], 4, 3, .ret (.agg [(.list 8 false (r_3.nodes.map NodeD.c)), (pI r_3.most), (pI r_3.room)])), ([], 5, 2, .ret (.tup [(.agg [(pI r_4.kind), (pI r_4.modeF), (pI r_4.owner), (pI r_4.links), (pI r_4.openF), (pI r_4.up), (pS r_4.data), (.list 2 false (r_4.names.map entP))]), (pB r_5)])), ([], 6, 2, .eq (pI (r_3.nodes.length : Int))), ([], 6, 5, .eq (pI (d.nodes.length : Int))), ([], 6, 7, .eq (pB false)), ([], 6, 14, .eq (pB false)), ([], 6, 16, .eq (pB true)), ([], 6, 18, .ret (.agg [(pI r_6.kind), (pI r_6.modeF), (pI r_6.owner), (pI r_6.links), (pI r_6.openF), (pI r_6.up), (pS r_6.data), (.list 2 false (r_6.names.map entP))])), ([], 6, 20, .ret (.agg [(pI r_7.kind), (pI r_7.modeF), (pI r_7.owner), (pI r_7.links), (pI r_7.openF), (pI r_7.up), (pS r_7.data), (.list 2 false (r_7.names.map entP))])), ([], 6, 21, .ret (pB r_8)), ([], 6, 24, .eq (pB false))]) 9 (codeOf Try.f6) (argS 6 [(.agg [(.list 8 false (d.nodes.map NodeD.c)), (pI d.most), (pI d.room)]), (.agg [(pI n.kind), (pI n.modeF), (pI n.owner), (pI n.links), (pI n.openF), (pI n.up), (pS n.data), (.list 2 false (n.names.map entP))]), (.v (.int .u8 atF))]))) q18 (by kernel_rfl)
                    unfold law06DiskSets_b9 at q19
                    try dsimp only at q19
                    rcases bif_some q19 with ⟨q23, q19⟩ | ⟨q23, q19⟩
                    · skip
                      rcases bif_some q19 with ⟨q24, q19⟩ | ⟨q24, q19⟩
                      · skip
                        obtain ⟨y_1, q25, q19⟩ := bnd_some q19
                        obtain ⟨r_9, q26, q19⟩ := bnd_some q19
                        obtain ⟨y_2, q27, q19⟩ := bnd_some q19
                        obtain ⟨r_10, q28, q19⟩ := bnd_some q19
                        obtain ⟨r_11, q29, q19⟩ := bnd_some q19
                        rcases bif_some q19 with ⟨q30, q19⟩ | ⟨q30, q19⟩
                        · skip
                          cases q19
                          try dsimp only at h
                          have q21 := run_go (k := (k + 12)) (f := 6) (r0 := 0) (nt := 104) (c := law06DiskSets_L9) (σ := (law06DiskSets_S9 (Int.tmod (IntKind.wrap .i64 atF) (d.nodes.length : Int)) d.nodes d.most d.room r_3.nodes r_3.most r_3.room v_1)) (adv [([], 9, 3, .eq (pI (d.nodes.length : Int))), ([], 9, 4, .eq (pB true)), ([], 11, 3, .eq (pB true)), ([], 11, 7, .elem [(pI y_1.kind), (pI y_1.modeF), (pI y_1.owner), (pI y_1.links), (pI y_1.openF), (pI y_1.up), (pS y_1.data), (.list 2 false (y_1.names.map entP))]), ([], 11, 9, .ret (.agg [(pI r_9.kind), (pI r_9.modeF), (pI r_9.owner), (pI r_9.links), (pI r_9.openF), (pI r_9.up), (pS r_9.data), (.list 2 false (r_9.names.map entP))])), ([], 11, 13, .elem [(pI y_2.kind), (pI y_2.modeF), (pI y_2.owner), (pI y_2.links), (pI y_2.openF), (pI y_2.up), (pS y_2.data), (.list 2 false (y_2.names.map entP))]), ([], 11, 15, .ret (.agg [(pI r_10.kind), (pI r_10.modeF), (pI r_10.owner), (pI r_10.links), (pI r_10.openF), (pI r_10.up), (pS r_10.data), (.list 2 false (r_10.names.map entP))])), ([], 11, 16, .ret (pB r_11)), ([], 11, 18, .eq (pB true))]) (ex := .ret) (by kernel_rfl) (by kernel_rfl) (allC (len_ob (rfl : (d.nodes.map NodeD.c) = d.nodes.map NodeD.c)) (allC (cg q23) (allC (cg q24) (allC (gt_list (c := NodeD.c) q25) (allC (law06Node_ok (k + 11) y_1 _ q26) (allC (gt_list (c := NodeD.c) q27) (allC (gt_list (c := NodeD.c) q27) (allC (law06Node_ok (k + 11) y_2 _ q28) (allC (ref06Alike_ok (k + 10) r_9 r_10 _ q29) (allC (cg q30) allN))))))))))
                          have q22 := q20 _ _ (by intro e; cases e) q21
                          obtain rfl := Option.some.inj h
                          exact ret_go (k := (k + 12)) Try.func6 Try.ntmps6 (by kernel_rfl) (by kernel_rfl) (Nat.le_of_ble_eq_true rfl) (adv [([], 1, 1, .ret (pB r_1)), ([], 1, 2, .eq (pB false)), ([], 1, 5, .eq (pI (d.nodes.length : Int))), ([], 1, 8, .eq (pB false)), ([], 1, 14, .eq (pB false)), ([], 1, 17, .eq (pI (n.names.length : Int))), ([], 1, 20, .eq (pB false)), ([], 1, 21, .ret (pB r_2)), ([], 1, 23, .eq (pB false)), ([], 3, 4, .eq (pI (d.nodes.length : Int))), ([], 3, 5, .raw (pI (Int.tmod (IntKind.wrap .i64 atF) (d.nodes.length : Int)))), ([], 4, 3, .ret (.agg [(.list 8 false (r_3.nodes.map NodeD.c)), (pI r_3.most), (pI r_3.room)])), ([], 5, 2, .ret (.tup [(.agg [(pI r_4.kind), (pI r_4.modeF), (pI r_4.owner), (pI r_4.links), (pI r_4.openF), (pI r_4.up), (pS r_4.data), (.list 2 false (r_4.names.map entP))]), (pB r_5)])), ([], 6, 2, .eq (pI (r_3.nodes.length : Int))), ([], 6, 5, .eq (pI (d.nodes.length : Int))), ([], 6, 7, .eq (pB false)), ([], 6, 14, .eq (pB false)), ([], 6, 16, .eq (pB true)), ([], 6, 18, .ret (.agg [(pI r_6.kind), (pI r_6.modeF), (pI r_6.owner), (pI r_6.links), (pI r_6.openF), (pI r_6.up), (pS r_6.data), (.list 2 false (r_6.names.map entP))])), ([], 6, 20, .ret (.agg [(pI r_7.kind), (pI r_7.modeF), (pI r_7.owner), (pI r_7.links), (pI r_7.openF), (pI r_7.up), (pS r_7.data), (.list 2 false (r_7.names.map entP))])), ([], 6, 21, .ret (pB r_8)), ([], 6, 24, .eq (pB false))] [([], 9, .ret, (stOf (go (k + 12) 6 0 104 (adv [([], 9, 3, .eq (pI (d.nodes.length : Int))), ([], 9, 4, .eq (pB true)), ([], 11, 3, .eq (pB true)), ([], 11, 7, .elem [(pI y_1.kind), (pI y_1.modeF), (pI y_1.owner), (pI y_1.links), (pI y_1.openF), (pI y_1.up), (pS y_1.data), (.list 2 false (y_1.names.map entP))]), ([], 11, 9, .ret (.agg [(pI r_9.kind), (pI r_9.modeF), (pI r_9.owner), (pI r_9.links), (pI r_9.openF), (pI r_9.up), (pS r_9.data), (.list 2 false (r_9.names.map entP))])), ([], 11, 13, .elem [(pI y_2.kind), (pI y_2.modeF), (pI y_2.owner), (pI y_2.links), (pI y_2.openF), (pI y_2.up), (pS y_2.data), (.list 2 false (y_2.names.map entP))]), ([], 11, 15, .ret (.agg [(pI r_10.kind), (pI r_10.modeF), (pI r_10.owner), (pI r_10.links), (pI r_10.openF), (pI r_10.up), (pS r_10.data), (.list 2 false (r_10.names.map entP))])), ([], 11, 16, .ret (pB r_11)), ([], 11, 18, .eq (pB true))]) law06DiskSets_L9 (law06DiskSets_S9 (Int.tmod (IntKind.wrap .i64 atF) (d.nodes.length : Int)) d.nodes d.most d.room r_3.nodes r_3.most r_3.room v_1))))]) (ex := .ret) (r := (pB false)) (by kernel_rfl) rfl (by kernel_rfl) (allC (law06Big_ok (k + 11) d _ q1) (allC (cg q2) (allC (len_ob (rfl : (d.nodes.map NodeD.c) = d.nodes.map NodeD.c)) (allC (cg q3) (allC (cg q4) (allC (len_ob (rfl : (n.names.map entP) = n.names.map entP)) (allC (cg q5) (allC (shownX_ok k  _ q6) (allC (cg q7) (allC (len_ob (rfl : (d.nodes.map NodeD.c) = d.nodes.map NodeD.c)) (allC (rem_at (a := (IntKind.wrap .i64 atF)) (b := (d.nodes.length : Int)) (t := 3) (yt := 3) (i := 38) (j := 41) [5, 3] (opAt 3 5 Try.f6) (by kernel_rfl) rfl q8) (allC (diskSet_ok (k + 10) d (Int.tmod (IntKind.wrap .i64 atF) (d.nodes.length : Int)) n _ q9) (allC (diskGet_ok (k + 10) r_3 (Int.tmod (IntKind.wrap .i64 atF) (d.nodes.length : Int)) _ q10) (allC (len_ob (rfl : (r_3.nodes.map NodeD.c) = r_3.nodes.map NodeD.c)) (allC (len_ob (rfl : (d.nodes.map NodeD.c) = d.nodes.map NodeD.c)) (allC (cg q11) (allC (cg q12) (allC (cg q13) (allC (law06Node_ok (k + 11) r_4 _ q14) (allC (law06Node_ok (k + 11) n _ q15) (allC (ref06Alike_ok (k + 10) r_6 r_7 _ q16) (allC (cg q17) (allC q22 allN))))))))))))))))))))))) (by kernel_rfl) allN
                        · skip
                          cases q19
                      · skip
                        cases q19
                    · skip
                      cases q19
                      try dsimp only at h
                      have q21 := run_go (k := (k + 12)) (f := 6) (r0 := 0) (nt := 104) (c := law06DiskSets_L9) (σ := (law06DiskSets_S9 (Int.tmod (IntKind.wrap .i64 atF) (d.nodes.length : Int)) d.nodes d.most d.room r_3.nodes r_3.most r_3.room v_1)) (adv [([], 9, 3, .eq (pI (d.nodes.length : Int))), ([], 9, 4, .eq (pB false))]) (ex := (.exit 0)) (by kernel_rfl) (by kernel_rfl) (allC (len_ob (rfl : (d.nodes.map NodeD.c) = d.nodes.map NodeD.c)) (allC (cg q23) allN))
                      have q22 := q20 _ _ (by intro e; cases e) q21
                      obtain rfl := Option.some.inj h
                      exact ret_go (k := (k + 12)) Try.func6 Try.ntmps6 (by kernel_rfl) (by kernel_rfl) (Nat.le_of_ble_eq_true rfl) (adv [([], 1, 1, .ret (pB r_1)), ([], 1, 2, .eq (pB false)), ([], 1, 5, .eq (pI (d.nodes.length : Int))), ([], 1, 8, .eq (pB false)), ([], 1, 14, .eq (pB false)), ([], 1, 17, .eq (pI (n.names.length : Int))), ([], 1, 20, .eq (pB false)), ([], 1, 21, .ret (pB r_2)), ([], 1, 23, .eq (pB false)), ([], 3, 4, .eq (pI (d.nodes.length : Int))), ([], 3, 5, .raw (pI (Int.tmod (IntKind.wrap .i64 atF) (d.nodes.length : Int)))), ([], 4, 3, .ret (.agg [(.list 8 false (r_3.nodes.map NodeD.c)), (pI r_3.most), (pI r_3.room)])), ([], 5, 2, .ret (.tup [(.agg [(pI r_4.kind), (pI r_4.modeF), (pI r_4.owner), (pI r_4.links), (pI r_4.openF), (pI r_4.up), (pS r_4.data), (.list 2 false (r_4.names.map entP))]), (pB r_5)])), ([], 6, 2, .eq (pI (r_3.nodes.length : Int))), ([], 6, 5, .eq (pI (d.nodes.length : Int))), ([], 6, 7, .eq (pB false)), ([], 6, 14, .eq (pB false)), ([], 6, 16, .eq (pB true)), ([], 6, 18, .ret (.agg [(pI r_6.kind), (pI r_6.modeF), (pI r_6.owner), (pI r_6.links), (pI r_6.openF), (pI r_6.up), (pS r_6.data), (.list 2 false (r_6.names.map entP))])), ([], 6, 20, .ret (.agg [(pI r_7.kind), (pI r_7.modeF), (pI r_7.owner), (pI r_7.links), (pI r_7.openF), (pI r_7.up), (pS r_7.data), (.list 2 false (r_7.names.map entP))])), ([], 6, 21, .ret (pB r_8)), ([], 6, 24, .eq (pB false))] [([], 9, (.exit 0), (stOf (go (k + 12) 6 0 104 (adv [([], 9, 3, .eq (pI (d.nodes.length : Int))), ([], 9, 4, .eq (pB false))]) law06DiskSets_L9 (law06DiskSets_S9 (Int.tmod (IntKind.wrap .i64 atF) (d.nodes.length : Int)) d.nodes d.most d.room r_3.nodes r_3.most r_3.room v_1))))]) (ex := .ret) (r := (pB true)) (by kernel_rfl) rfl (by kernel_rfl) (allC (law06Big_ok (k + 11) d _ q1) (allC (cg q2) (allC (len_ob (rfl : (d.nodes.map NodeD.c) = d.nodes.map NodeD.c)) (allC (cg q3) (allC (cg q4) (allC (len_ob (rfl : (n.names.map entP) = n.names.map entP)) (allC (cg q5) (allC (shownX_ok k  _ q6) (allC (cg q7) (allC (len_ob (rfl : (d.nodes.map NodeD.c) = d.nodes.map NodeD.c)) (allC (rem_at (a := (IntKind.wrap .i64 atF)) (b := (d.nodes.length : Int)) (t := 3) (yt := 3) (i := 38) (j := 41) [5, 3] (opAt 3 5 Try.f6) (by kernel_rfl) rfl q8) (allC (diskSet_ok (k + 10) d (Int.tmod (IntKind.wrap .i64 atF) (d.nodes.length : Int)) n _ q9) (allC (diskGet_ok (k + 10) r_3 (Int.tmod (IntKind.wrap .i64 atF) (d.nodes.length : Int)) _ q10) (allC (len_ob (rfl : (r_3.nodes.map NodeD.c) = r_3.nodes.map NodeD.c)) (allC (len_ob (rfl : (d.nodes.map NodeD.c) = d.nodes.map NodeD.c)) (allC (cg q11) (allC (cg q12) (allC (cg q13) (allC (law06Node_ok (k + 11) r_4 _ q14) (allC (law06Node_ok (k + 11) n _ q15) (allC (ref06Alike_ok (k + 10) r_6 r_7 _ q16) (allC (cg q17) (allC q22 allN))))))))))))))))))))))) (by kernel_rfl) allN
                · skip
                  obtain ⟨X_1, q14, h⟩ := bnd_some h
                  obtain ⟨v_1, q15, q16⟩ := loop_iter (f := run1 (k + 12) 6 0 104 law06DiskSets_L9) (law06DiskSets_S9 (Int.tmod (IntKind.wrap .i64 atF) (d.nodes.length : Int)) d.nodes d.most d.room r_3.nodes r_3.most r_3.room) (law06DiskSets_b9 (Int.tmod (IntKind.wrap .i64 atF) (d.nodes.length : Int)) d.nodes d.most d.room r_3.nodes r_3.most r_3.room) (law06DiskSets_t9 k (Int.tmod (IntKind.wrap .i64 atF) (d.nodes.length : Int)) d.nodes d.most d.room r_3.nodes r_3.most r_3.room) LF (0 : Int) _ (stOf (goStop (k + 12) 6 0 104 (adv [([], 1, 1, .ret (pB r_1)), ([], 1, 2, .eq (pB false)), ([], 1, 5, .eq (pI (d.nodes.length : Int))), ([], 1, 8, .eq (pB false)), ([], 1, 14, .eq (pB false)), ([], 1, 17, .eq (pI (n.names.length : Int))), ([], 1, 20, .eq (pB false)), ([], 1, 21, .ret (pB r_2)), ([], 1, 23, .eq (pB false)), ([], 3, 4, .eq (pI (d.nodes.length : Int))), ([], 3, 5, .raw (pI (Int.tmod (IntKind.wrap .i64 atF) (d.nodes.length : Int)))), ([], 4, 3, .ret (.agg [(.list 8 false (r_3.nodes.map NodeD.c)), (pI r_3.most), (pI r_3.room)])), ([], 5, 2, .ret (.tup [(.agg [(pI r_4.kind), (pI r_4.modeF), (pI r_4.owner), (pI r_4.links), (pI r_4.openF), (pI r_4.up), (pS r_4.data), (.list 2 false (r_4.names.map entP))]), (pB r_5)])), ([], 6, 2, .eq (pI (r_3.nodes.length : Int))), ([], 6, 5, .eq (pI (d.nodes.length : Int))), ([], 6, 7, .eq (pB false)), ([], 6, 14, .eq (pB false)), ([], 6, 16, .eq (pB false))]) 9 (codeOf Try.f6) (argS 6 [(.agg [(.list 8 false (d.nodes.map NodeD.c)), (pI d.most), (pI d.room)]), (.agg [(pI n.kind), (pI n.modeF), (pI n.owner), (pI n.links), (pI n.openF), (pI n.up), (pS n.data), (.list 2 false (n.names.map entP))]), (.v (.int .u8 atF))]))) q14 (by kernel_rfl)
                  unfold law06DiskSets_b9 at q15
                  try dsimp only at q15
                  rcases bif_some q15 with ⟨q19, q15⟩ | ⟨q19, q15⟩
                  · skip
                    rcases bif_some q15 with ⟨q20, q15⟩ | ⟨q20, q15⟩
                    · skip
                      obtain ⟨y_1, q21, q15⟩ := bnd_some q15
                      obtain ⟨r_6, q22, q15⟩ := bnd_some q15
                      obtain ⟨y_2, q23, q15⟩ := bnd_some q15
                      obtain ⟨r_7, q24, q15⟩ := bnd_some q15
                      obtain ⟨r_8, q25, q15⟩ := bnd_some q15
                      rcases bif_some q15 with ⟨q26, q15⟩ | ⟨q26, q15⟩
                      · skip
                        cases q15
                        try dsimp only at h
                        have q17 := run_go (k := (k + 12)) (f := 6) (r0 := 0) (nt := 104) (c := law06DiskSets_L9) (σ := (law06DiskSets_S9 (Int.tmod (IntKind.wrap .i64 atF) (d.nodes.length : Int)) d.nodes d.most d.room r_3.nodes r_3.most r_3.room v_1)) (adv [([], 9, 3, .eq (pI (d.nodes.length : Int))), ([], 9, 4, .eq (pB true)), ([], 11, 3, .eq (pB true)), ([], 11, 7, .elem [(pI y_1.kind), (pI y_1.modeF), (pI y_1.owner), (pI y_1.links), (pI y_1.openF), (pI y_1.up), (pS y_1.data), (.list 2 false (y_1.names.map entP))]), ([], 11, 9, .ret (.agg [(pI r_6.kind), (pI r_6.modeF), (pI r_6.owner), (pI r_6.links), (pI r_6.openF), (pI r_6.up), (pS r_6.data), (.list 2 false (r_6.names.map entP))])), ([], 11, 13, .elem [(pI y_2.kind), (pI y_2.modeF), (pI y_2.owner), (pI y_2.links), (pI y_2.openF), (pI y_2.up), (pS y_2.data), (.list 2 false (y_2.names.map entP))]), ([], 11, 15, .ret (.agg [(pI r_7.kind), (pI r_7.modeF), (pI r_7.owner), (pI r_7.links), (pI r_7.openF), (pI r_7.up), (pS r_7.data), (.list 2 false (r_7.names.map entP))])), ([], 11, 16, .ret (pB r_8)), ([], 11, 18, .eq (pB true))]) (ex := .ret) (by kernel_rfl) (by kernel_rfl) (allC (len_ob (rfl : (d.nodes.map NodeD.c) = d.nodes.map NodeD.c)) (allC (cg q19) (allC (cg q20) (allC (gt_list (c := NodeD.c) q21) (allC (law06Node_ok (k + 11) y_1 _ q22) (allC (gt_list (c := NodeD.c) q23) (allC (gt_list (c := NodeD.c) q23) (allC (law06Node_ok (k + 11) y_2 _ q24) (allC (ref06Alike_ok (k + 10) r_6 r_7 _ q25) (allC (cg q26) allN))))))))))
                        have q18 := q16 _ _ (by intro e; cases e) q17
                        obtain rfl := Option.some.inj h
                        exact ret_go (k := (k + 12)) Try.func6 Try.ntmps6 (by kernel_rfl) (by kernel_rfl) (Nat.le_of_ble_eq_true rfl) (adv [([], 1, 1, .ret (pB r_1)), ([], 1, 2, .eq (pB false)), ([], 1, 5, .eq (pI (d.nodes.length : Int))), ([], 1, 8, .eq (pB false)), ([], 1, 14, .eq (pB false)), ([], 1, 17, .eq (pI (n.names.length : Int))), ([], 1, 20, .eq (pB false)), ([], 1, 21, .ret (pB r_2)), ([], 1, 23, .eq (pB false)), ([], 3, 4, .eq (pI (d.nodes.length : Int))), ([], 3, 5, .raw (pI (Int.tmod (IntKind.wrap .i64 atF) (d.nodes.length : Int)))), ([], 4, 3, .ret (.agg [(.list 8 false (r_3.nodes.map NodeD.c)), (pI r_3.most), (pI r_3.room)])), ([], 5, 2, .ret (.tup [(.agg [(pI r_4.kind), (pI r_4.modeF), (pI r_4.owner), (pI r_4.links), (pI r_4.openF), (pI r_4.up), (pS r_4.data), (.list 2 false (r_4.names.map entP))]), (pB r_5)])), ([], 6, 2, .eq (pI (r_3.nodes.length : Int))), ([], 6, 5, .eq (pI (d.nodes.length : Int))), ([], 6, 7, .eq (pB false)), ([], 6, 14, .eq (pB false)), ([], 6, 16, .eq (pB false))] [([], 9, .ret, (stOf (go (k + 12) 6 0 104 (adv [([], 9, 3, .eq (pI (d.nodes.length : Int))), ([], 9, 4, .eq (pB true)), ([], 11, 3, .eq (pB true)), ([], 11, 7, .elem [(pI y_1.kind), (pI y_1.modeF), (pI y_1.owner), (pI y_1.links), (pI y_1.openF), (pI y_1.up), (pS y_1.data), (.list 2 false (y_1.names.map entP))]), ([], 11, 9, .ret (.agg [(pI r_6.kind), (pI r_6.modeF), (pI r_6.owner), (pI r_6.links), (pI r_6.openF), (pI r_6.up), (pS r_6.data), (.list 2 false (r_6.names.map entP))])), ([], 11, 13, .elem [(pI y_2.kind), (pI y_2.modeF), (pI y_2.owner), (pI y_2.links), (pI y_2.openF), (pI y_2.up), (pS y_2.data), (.list 2 false (y_2.names.map entP))]), ([], 11, 15, .ret (.agg [(pI r_7.kind), (pI r_7.modeF), (pI r_7.owner), (pI r_7.links), (pI r_7.openF), (pI r_7.up), (pS r_7.data), (.list 2 false (r_7.names.map entP))])), ([], 11, 16, .ret (pB r_8)), ([], 11, 18, .eq (pB true))]) law06DiskSets_L9 (law06DiskSets_S9 (Int.tmod (IntKind.wrap .i64 atF) (d.nodes.length : Int)) d.nodes d.most d.room r_3.nodes r_3.most r_3.room v_1))))]) (ex := .ret) (r := (pB false)) (by kernel_rfl) rfl (by kernel_rfl) (allC (law06Big_ok (k + 11) d _ q1) (allC (cg q2) (allC (len_ob (rfl : (d.nodes.map NodeD.c) = d.nodes.map NodeD.c)) (allC (cg q3) (allC (cg q4) (allC (len_ob (rfl : (n.names.map entP) = n.names.map entP)) (allC (cg q5) (allC (shownX_ok k  _ q6) (allC (cg q7) (allC (len_ob (rfl : (d.nodes.map NodeD.c) = d.nodes.map NodeD.c)) (allC (rem_at (a := (IntKind.wrap .i64 atF)) (b := (d.nodes.length : Int)) (t := 3) (yt := 3) (i := 38) (j := 41) [5, 3] (opAt 3 5 Try.f6) (by kernel_rfl) rfl q8) (allC (diskSet_ok (k + 10) d (Int.tmod (IntKind.wrap .i64 atF) (d.nodes.length : Int)) n _ q9) (allC (diskGet_ok (k + 10) r_3 (Int.tmod (IntKind.wrap .i64 atF) (d.nodes.length : Int)) _ q10) (allC (len_ob (rfl : (r_3.nodes.map NodeD.c) = r_3.nodes.map NodeD.c)) (allC (len_ob (rfl : (d.nodes.map NodeD.c) = d.nodes.map NodeD.c)) (allC (cg q11) (allC (cg q12) (allC (cg q13) (allC q18 allN))))))))))))))))))) (by kernel_rfl) allN
                      · skip
                        cases q15
                    · skip
                      cases q15
                  · skip
                    cases q15
                    try dsimp only at h
                    have q17 := run_go (k := (k + 12)) (f := 6) (r0 := 0) (nt := 104) (c := law06DiskSets_L9) (σ := (law06DiskSets_S9 (Int.tmod (IntKind.wrap .i64 atF) (d.nodes.length : Int)) d.nodes d.most d.room r_3.nodes r_3.most r_3.room v_1)) (adv [([], 9, 3, .eq (pI (d.nodes.length : Int))), ([], 9, 4, .eq (pB false))]) (ex := (.exit 0)) (by kernel_rfl) (by kernel_rfl) (allC (len_ob (rfl : (d.nodes.map NodeD.c) = d.nodes.map NodeD.c)) (allC (cg q19) allN))
                    have q18 := q16 _ _ (by intro e; cases e) q17
                    obtain rfl := Option.some.inj h
                    exact ret_go (k := (k + 12)) Try.func6 Try.ntmps6 (by kernel_rfl) (by kernel_rfl) (Nat.le_of_ble_eq_true rfl) (adv [([], 1, 1, .ret (pB r_1)), ([], 1, 2, .eq (pB false)), ([], 1, 5, .eq (pI (d.nodes.length : Int))), ([], 1, 8, .eq (pB false)), ([], 1, 14, .eq (pB false)), ([], 1, 17, .eq (pI (n.names.length : Int))), ([], 1, 20, .eq (pB false)), ([], 1, 21, .ret (pB r_2)), ([], 1, 23, .eq (pB false)), ([], 3, 4, .eq (pI (d.nodes.length : Int))), ([], 3, 5, .raw (pI (Int.tmod (IntKind.wrap .i64 atF) (d.nodes.length : Int)))), ([], 4, 3, .ret (.agg [(.list 8 false (r_3.nodes.map NodeD.c)), (pI r_3.most), (pI r_3.room)])), ([], 5, 2, .ret (.tup [(.agg [(pI r_4.kind), (pI r_4.modeF), (pI r_4.owner), (pI r_4.links), (pI r_4.openF), (pI r_4.up), (pS r_4.data), (.list 2 false (r_4.names.map entP))]), (pB r_5)])), ([], 6, 2, .eq (pI (r_3.nodes.length : Int))), ([], 6, 5, .eq (pI (d.nodes.length : Int))), ([], 6, 7, .eq (pB false)), ([], 6, 14, .eq (pB false)), ([], 6, 16, .eq (pB false))] [([], 9, (.exit 0), (stOf (go (k + 12) 6 0 104 (adv [([], 9, 3, .eq (pI (d.nodes.length : Int))), ([], 9, 4, .eq (pB false))]) law06DiskSets_L9 (law06DiskSets_S9 (Int.tmod (IntKind.wrap .i64 atF) (d.nodes.length : Int)) d.nodes d.most d.room r_3.nodes r_3.most r_3.room v_1))))]) (ex := .ret) (r := (pB true)) (by kernel_rfl) rfl (by kernel_rfl) (allC (law06Big_ok (k + 11) d _ q1) (allC (cg q2) (allC (len_ob (rfl : (d.nodes.map NodeD.c) = d.nodes.map NodeD.c)) (allC (cg q3) (allC (cg q4) (allC (len_ob (rfl : (n.names.map entP) = n.names.map entP)) (allC (cg q5) (allC (shownX_ok k  _ q6) (allC (cg q7) (allC (len_ob (rfl : (d.nodes.map NodeD.c) = d.nodes.map NodeD.c)) (allC (rem_at (a := (IntKind.wrap .i64 atF)) (b := (d.nodes.length : Int)) (t := 3) (yt := 3) (i := 38) (j := 41) [5, 3] (opAt 3 5 Try.f6) (by kernel_rfl) rfl q8) (allC (diskSet_ok (k + 10) d (Int.tmod (IntKind.wrap .i64 atF) (d.nodes.length : Int)) n _ q9) (allC (diskGet_ok (k + 10) r_3 (Int.tmod (IntKind.wrap .i64 atF) (d.nodes.length : Int)) _ q10) (allC (len_ob (rfl : (r_3.nodes.map NodeD.c) = r_3.nodes.map NodeD.c)) (allC (len_ob (rfl : (d.nodes.map NodeD.c) = d.nodes.map NodeD.c)) (allC (cg q11) (allC (cg q12) (allC (cg q13) (allC q18 allN))))))))))))))))))) (by kernel_rfl) allN


end Go.Proofs.Ytfllhakmjookkaa.Den
