/- Functions, printed by den.py out of the code: plain ones, and that the code answers as they do. -/
import Derived.Test.YtfllhakmjookkaaDenF10
set_option linter.unusedVariables false
set_option linter.unusedSimpArgs false
namespace Go.Proofs.Ytfllhakmjookkaa.Den
open Go Go.RowKit

/- flagstone/flagstonelaw06.DiskAdds: its loop at region 7 -/
noncomputable def law06DiskAdds_L7 : Code := cAt (codeOf Try.f7) [true, true, true, true, false, true, false, false]
def law06DiskAdds_R7 (x0 : Int) (x1 : Int) (x2 : List (List PV)) (x3 : Int) (x4 : Int) (x5 : Int) (x6 : Int) (x7 : Int) (x8 : Int) (x9 : Int) (x10 : Int) (x11 : ByteArray) (x12 : List (List PV)) (x13 : List (List PV)) (x14 : Int) (x15 : Int) : St := ⟨envL [(2, (.ptr [0, TAG] 1 0 0)), (3, (.ptr [1, TAG] 1 0 0)), (5, (.ptr [2, TAG] 1 0 0)), (6, (pI x0)), (8, (pI x1))], hsL [some ⟨3, 24, [[(.list 8 false x2), (pI x3), (pI x4)]], true, false⟩, some ⟨8, 43, [[(pI x5), (pI x6), (pI x7), (pI x8), (pI x9), (pI x10), (pS x11), (.list 2 false x12)]], true, false⟩, some ⟨3, 24, [[(.list 8 false x13), (pI x14), (pI x15)]], true, false⟩] [0, 0, 0]⟩
theorem law06DiskAdds_R7_eq {x0 y0 : Int} {x1 y1 : Int} {x2 y2 : List (List PV)} {x3 y3 : Int} {x4 y4 : Int} {x5 y5 : Int} {x6 y6 : Int} {x7 y7 : Int} {x8 y8 : Int} {x9 y9 : Int} {x10 y10 : Int} {x11 y11 : ByteArray} {x12 y12 : List (List PV)} {x13 y13 : List (List PV)} {x14 y14 : Int} {x15 y15 : Int} (h0 : x0 = y0) (h1 : x1 = y1) (h2 : x2 = y2) (h3 : x3 = y3) (h4 : x4 = y4) (h5 : x5 = y5) (h6 : x6 = y6) (h7 : x7 = y7) (h8 : x8 = y8) (h9 : x9 = y9) (h10 : x10 = y10) (h11 : x11 = y11) (h12 : x12 = y12) (h13 : x13 = y13) (h14 : x14 = y14) (h15 : x15 = y15) : law06DiskAdds_R7 x0 x1 x2 x3 x4 x5 x6 x7 x8 x9 x10 x11 x12 x13 x14 x15 = law06DiskAdds_R7 y0 y1 y2 y3 y4 y5 y6 y7 y8 y9 y10 y11 y12 y13 y14 y15 := by
  subst h0 h1 h2 h3 h4 h5 h6 h7 h8 h9 h10 h11 h12 h13 h14 h15; rfl
def law06DiskAdds_S7 (p0 : Int) (p1 : (List NodeD)) (p2 : Int) (p3 : Int) (p4 : Int) (p5 : Int) (p6 : Int) (p7 : Int) (p8 : Int) (p9 : Int) (p10 : ByteArray) (p11 : (List Ent)) (p12 : (List NodeD)) (p13 : Int) (p14 : Int) : Int → St
  | v0 => law06DiskAdds_R7 p0 v0 (p1.map NodeD.c) p2 p3 p4 p5 p6 p7 p8 p9 p10 (p11.map entP) (p12.map NodeD.c) p13 p14
def law06DiskAdds_b7 (p0 : Int) (p1 : (List NodeD)) (p2 : Int) (p3 : Int) (p4 : Int) (p5 : Int) (p6 : Int) (p7 : Int) (p8 : Int) (p9 : Int) (p10 : ByteArray) (p11 : (List Ent)) (p12 : (List NodeD)) (p13 : Int) (p14 : Int) : Int → Option (Int ⊕ ((Int × NodeD) ⊕ Int ⊕ Int))
  | v0 =>
    bif (decide (v0 < p0)) then (
      bif (decide (v0 < (p1.length : Int))) then (
        (gt p1 v0).bind fun y_1 =>
        bif (y_1.kind == (0 : Int)) then (
          some (.inr (.inl (v0, y_1)))
        ) else (
          some (.inl (w64 (v0 + (1 : Int))))
        )
      ) else (
        some (.inr (.inr (.inl v0)))
      )
    ) else (
      some (.inr (.inr (.inr (v0))))
    )
set_option maxRecDepth 100000 in
theorem law06DiskAdds_t7 (k : Nat) (p0 : Int) (p1 : (List NodeD)) (p2 : Int) (p3 : Int) (p4 : Int) (p5 : Int) (p6 : Int) (p7 : Int) (p8 : Int) (p9 : Int) (p10 : ByteArray) (p11 : (List Ent)) (p12 : (List NodeD)) (p13 : Int) (p14 : Int) (v0 a1 : Int) (h : law06DiskAdds_b7 p0 p1 p2 p3 p4 p5 p6 p7 p8 p9 p10 p11 p12 p13 p14 v0 = some (.inl a1)) : ∃ σ, run1 (k + 12) 7 0 143 law06DiskAdds_L7 (law06DiskAdds_S7 p0 p1 p2 p3 p4 p5 p6 p7 p8 p9 p10 p11 p12 p13 p14 v0) = some (.normal, σ) ∧ canonS 0 [2, 3, 5, 6, 8] σ = some (law06DiskAdds_S7 p0 p1 p2 p3 p4 p5 p6 p7 p8 p9 p10 p11 p12 p13 p14 a1) := by
  unfold law06DiskAdds_b7 at h
  try dsimp only at h
  rcases bif_some h with ⟨q1, h⟩ | ⟨q1, h⟩
  · skip
    rcases bif_some h with ⟨q2, h⟩ | ⟨q2, h⟩
    · skip
      obtain ⟨y_1, q3, h⟩ := bnd_some h
      rcases bif_some h with ⟨q4, h⟩ | ⟨q4, h⟩
      · skip
        cases h
      · skip
        obtain rfl := Sum.inl.inj (Option.some.inj h)
        exact ⟨_, run_go (k := (k + 12)) (f := 7) (r0 := 0) (nt := 143) (c := law06DiskAdds_L7) (σ := (law06DiskAdds_S7 p0 p1 p2 p3 p4 p5 p6 p7 p8 p9 p10 p11 p12 p13 p14 v0)) (adv [([], 7, 3, .eq (pB true)), ([], 7, 7, .eq (pI (p1.length : Int))), ([], 7, 9, .eq (pB true)), ([], 9, 3, .elem [(pI y_1.kind), (pI y_1.modeF), (pI y_1.owner), (pI y_1.links), (pI y_1.openF), (pI y_1.up), (pS y_1.data), (.list 2 false (y_1.names.map entP))]), ([], 9, 6, .eq (pB false))]) (ex := .normal) (by kernel_rfl) (by kernel_rfl) (allC (cg q1) (allC (len_ob (rfl : (p1.map NodeD.c) = p1.map NodeD.c)) (allC (cg q2) (allC (gt_list (c := NodeD.c) q3) (allC (cg q4) allN))))), (by kernel_rfl)⟩
    · skip
      cases h
  · skip
    cases h
/- flagstone/flagstonelaw06.DiskAdds: its loop at region 14 -/
noncomputable def law06DiskAdds_L14 : Code := cAt (codeOf Try.f7) [true, true, true, true, true, true, false, true, false, false]
def law06DiskAdds_R14 (x0 : Int) (x1 : Int) (x2 : List (List PV)) (x3 : Int) (x4 : Int) (x5 : Int) (x6 : Int) (x7 : Int) (x8 : Int) (x9 : Int) (x10 : Int) (x11 : ByteArray) (x12 : List (List PV)) (x13 : List (List PV)) (x14 : Int) (x15 : Int) : St := ⟨envL [(2, (.ptr [0, TAG] 1 0 0)), (3, (.ptr [1, TAG] 1 0 0)), (5, (.ptr [2, TAG] 1 0 0)), (6, (pI x0)), (9, (pI x1))], hsL [some ⟨3, 24, [[(.list 8 false x2), (pI x3), (pI x4)]], true, false⟩, some ⟨8, 43, [[(pI x5), (pI x6), (pI x7), (pI x8), (pI x9), (pI x10), (pS x11), (.list 2 false x12)]], true, false⟩, some ⟨3, 24, [[(.list 8 false x13), (pI x14), (pI x15)]], true, false⟩] [0, 0, 0]⟩
theorem law06DiskAdds_R14_eq {x0 y0 : Int} {x1 y1 : Int} {x2 y2 : List (List PV)} {x3 y3 : Int} {x4 y4 : Int} {x5 y5 : Int} {x6 y6 : Int} {x7 y7 : Int} {x8 y8 : Int} {x9 y9 : Int} {x10 y10 : Int} {x11 y11 : ByteArray} {x12 y12 : List (List PV)} {x13 y13 : List (List PV)} {x14 y14 : Int} {x15 y15 : Int} (h0 : x0 = y0) (h1 : x1 = y1) (h2 : x2 = y2) (h3 : x3 = y3) (h4 : x4 = y4) (h5 : x5 = y5) (h6 : x6 = y6) (h7 : x7 = y7) (h8 : x8 = y8) (h9 : x9 = y9) (h10 : x10 = y10) (h11 : x11 = y11) (h12 : x12 = y12) (h13 : x13 = y13) (h14 : x14 = y14) (h15 : x15 = y15) : law06DiskAdds_R14 x0 x1 x2 x3 x4 x5 x6 x7 x8 x9 x10 x11 x12 x13 x14 x15 = law06DiskAdds_R14 y0 y1 y2 y3 y4 y5 y6 y7 y8 y9 y10 y11 y12 y13 y14 y15 := by
  subst h0 h1 h2 h3 h4 h5 h6 h7 h8 h9 h10 h11 h12 h13 h14 h15; rfl
def law06DiskAdds_S14 (p0 : Int) (p1 : (List NodeD)) (p2 : Int) (p3 : Int) (p4 : Int) (p5 : Int) (p6 : Int) (p7 : Int) (p8 : Int) (p9 : Int) (p10 : ByteArray) (p11 : (List Ent)) (p12 : (List NodeD)) (p13 : Int) (p14 : Int) : Int → St
  | v0 => law06DiskAdds_R14 p0 v0 (p1.map NodeD.c) p2 p3 p4 p5 p6 p7 p8 p9 p10 (p11.map entP) (p12.map NodeD.c) p13 p14
def law06DiskAdds_b14 (p0 : Int) (p1 : (List NodeD)) (p2 : Int) (p3 : Int) (p4 : Int) (p5 : Int) (p6 : Int) (p7 : Int) (p8 : Int) (p9 : Int) (p10 : ByteArray) (p11 : (List Ent)) (p12 : (List NodeD)) (p13 : Int) (p14 : Int) : Int → Option (Int ⊕ ((Int × NodeD × NodeD × NodeD × NodeD × Bool) ⊕ Int))
  | v0 =>
    bif (decide (v0 < (p1.length : Int))) then (
      bif (v0 != p0) then (
        (gt p12 v0).bind fun y_1 =>
        (law06Node y_1).bind fun r_1 =>
        (gt p1 v0).bind fun y_2 =>
        (law06Node y_2).bind fun r_2 =>
        (ref06Alike r_1 r_2).bind fun r_3 =>
        bif (!r_3) then (
          some (.inr (.inl (v0, y_1, r_1, y_2, r_2, r_3)))
        ) else (
          some (.inl (w64 (v0 + (1 : Int))))
        )
      ) else (
        some (.inl (w64 (v0 + (1 : Int))))
      )
    ) else (
      some (.inr (.inr (v0)))
    )
set_option maxRecDepth 100000 in
theorem law06DiskAdds_t14 (k : Nat) (p0 : Int) (p1 : (List NodeD)) (p2 : Int) (p3 : Int) (p4 : Int) (p5 : Int) (p6 : Int) (p7 : Int) (p8 : Int) (p9 : Int) (p10 : ByteArray) (p11 : (List Ent)) (p12 : (List NodeD)) (p13 : Int) (p14 : Int) (v0 a1 : Int) (h : law06DiskAdds_b14 p0 p1 p2 p3 p4 p5 p6 p7 p8 p9 p10 p11 p12 p13 p14 v0 = some (.inl a1)) : ∃ σ, run1 (k + 12) 7 0 143 law06DiskAdds_L14 (law06DiskAdds_S14 p0 p1 p2 p3 p4 p5 p6 p7 p8 p9 p10 p11 p12 p13 p14 v0) = some (.normal, σ) ∧ canonS 0 [2, 3, 5, 6, 9] σ = some (law06DiskAdds_S14 p0 p1 p2 p3 p4 p5 p6 p7 p8 p9 p10 p11 p12 p13 p14 a1) := by
  unfold law06DiskAdds_b14 at h
  try dsimp only at h
  rcases bif_some h with ⟨q1, h⟩ | ⟨q1, h⟩
  · skip
    rcases bif_some h with ⟨q2, h⟩ | ⟨q2, h⟩
    · skip
      obtain ⟨y_1, q3, h⟩ := bnd_some h
      obtain ⟨r_1, q4, h⟩ := bnd_some h
      obtain ⟨y_2, q5, h⟩ := bnd_some h
      obtain ⟨r_2, q6, h⟩ := bnd_some h
      obtain ⟨r_3, q7, h⟩ := bnd_some h
      rcases bif_some h with ⟨q8, h⟩ | ⟨q8, h⟩
      · skip
        cases h
      · skip
        obtain rfl := Sum.inl.inj (Option.some.inj h)
        exact ⟨_, run_go (k := (k + 12)) (f := 7) (r0 := 0) (nt := 143) (c := law06DiskAdds_L14) (σ := (law06DiskAdds_S14 p0 p1 p2 p3 p4 p5 p6 p7 p8 p9 p10 p11 p12 p13 p14 v0)) (adv [([], 14, 3, .eq (pI (p1.length : Int))), ([], 14, 4, .eq (pB true)), ([], 16, 3, .eq (pB true)), ([], 16, 7, .elem [(pI y_1.kind), (pI y_1.modeF), (pI y_1.owner), (pI y_1.links), (pI y_1.openF), (pI y_1.up), (pS y_1.data), (.list 2 false (y_1.names.map entP))]), ([], 16, 9, .ret (.agg [(pI r_1.kind), (pI r_1.modeF), (pI r_1.owner), (pI r_1.links), (pI r_1.openF), (pI r_1.up), (pS r_1.data), (.list 2 false (r_1.names.map entP))])), ([], 16, 13, .elem [(pI y_2.kind), (pI y_2.modeF), (pI y_2.owner), (pI y_2.links), (pI y_2.openF), (pI y_2.up), (pS y_2.data), (.list 2 false (y_2.names.map entP))]), ([], 16, 15, .ret (.agg [(pI r_2.kind), (pI r_2.modeF), (pI r_2.owner), (pI r_2.links), (pI r_2.openF), (pI r_2.up), (pS r_2.data), (.list 2 false (r_2.names.map entP))])), ([], 16, 16, .ret (pB r_3)), ([], 16, 18, .eq (pB false))]) (ex := .normal) (by kernel_rfl) (by kernel_rfl) (allC (len_ob (rfl : (p1.map NodeD.c) = p1.map NodeD.c)) (allC (cg q1) (allC (cg q2) (allC (gt_list (c := NodeD.c) q3) (allC (law06Node_ok (k + 11) y_1 _ q4) (allC (gt_list (c := NodeD.c) q5) (allC (gt_list (c := NodeD.c) q5) (allC (law06Node_ok (k + 11) y_2 _ q6) (allC (ref06Alike_ok (k + 10) r_1 r_2 _ q7) (allC (cg q8) allN)))))))))), (by kernel_rfl)⟩
    · skip
      obtain rfl := Sum.inl.inj (Option.some.inj h)
      exact ⟨_, run_go (k := (k + 12)) (f := 7) (r0 := 0) (nt := 143) (c := law06DiskAdds_L14) (σ := (law06DiskAdds_S14 p0 p1 p2 p3 p4 p5 p6 p7 p8 p9 p10 p11 p12 p13 p14 v0)) (adv [([], 14, 3, .eq (pI (p1.length : Int))), ([], 14, 4, .eq (pB true)), ([], 16, 3, .eq (pB false))]) (ex := .normal) (by kernel_rfl) (by kernel_rfl) (allC (len_ob (rfl : (p1.map NodeD.c) = p1.map NodeD.c)) (allC (cg q1) (allC (cg q2) allN))), (by kernel_rfl)⟩
  · skip
    cases h
/-- flagstone/flagstonelaw06.DiskAdds -/
def law06DiskAdds (d : DiskD) (n : NodeD) : Option Bool :=
  (law06Big d).bind fun r_1 =>
  bif r_1 then (
    (shownX).bind fun r_2 =>
    some r_2
  ) else (
    bif (decide ((n.data.size : Int) > (300 : Int))) then (
      (shownX).bind fun r_2 =>
      some r_2
    ) else (
      bif (decide ((n.names.length : Int) > (60 : Int))) then (
        (shownX).bind fun r_2 =>
        some r_2
      ) else (
        bif (n.kind == (0 : Int)) then (
          (shownX).bind fun r_2 =>
          some r_2
        ) else (
          (shownX).bind fun r_2 =>
          bif (!r_2) then (
            (shownX).bind fun r_3 =>
            some r_3
          ) else (
            (diskAdd d n).bind fun (r_3, r_4, r_5) =>
            bif (r_5 != (0 : Int)) then (
              bif (r_4 == (0 : Int)) then (
                (law06Its r_3).bind fun r_6 =>
                (law06Its d).bind fun r_7 =>
                (ref06Same r_6 r_7).bind fun r_8 =>
                some r_8
              ) else (
                some false
              )
            ) else (
              (iterN (law06DiskAdds_b7 r_4 d.nodes d.most d.room n.kind n.modeF n.owner n.links n.openF n.up n.data n.names r_3.nodes r_3.most r_3.room) LF (0 : Int)).bind fun X_1 => match X_1 with
              | .inl (v_1, y_1) => (
                some false
              )
              | .inr (.inl v_1) => (
                bif (decide (r_4 < (d.nodes.length : Int))) then (
                  (gt d.nodes r_4).bind fun y_2 =>
                  bif (y_2.kind != (0 : Int)) then (
                    some false
                  ) else (
                    bif (decide (r_4 > (d.nodes.length : Int))) then (
                      some false
                    ) else (
                      bif (decide (r_4 ≥ (r_3.nodes.length : Int))) then (
                        some false
                      ) else (
                        (iterN (law06DiskAdds_b14 r_4 d.nodes d.most d.room n.kind n.modeF n.owner n.links n.openF n.up n.data n.names r_3.nodes r_3.most r_3.room) LF (0 : Int)).bind fun X_2 => match X_2 with
                        | .inl (v_2, y_3, r_6, y_4, r_7, r_8) => (
                          some false
                        )
                        | .inr (v_2) => (
                          (gt r_3.nodes r_4).bind fun y_5 =>
                          (law06Node y_5).bind fun r_9 =>
                          (law06Node n).bind fun r_10 =>
                          (ref06Alike r_9 r_10).bind fun r_11 =>
                          bif r_11 then (
                            (diskUsed r_3).bind fun r_12 =>
                            (law06Its d).bind fun r_13 =>
                            (ref06Used r_13).bind fun r_14 =>
                            some (r_12 == (w64 (r_14 + (1 : Int))))
                          ) else (
                            some false
                          )
                        )
                      )
                    )
                  )
                ) else (
                  bif (decide (r_4 > (d.nodes.length : Int))) then (
                    some false
                  ) else (
                    bif (decide (r_4 ≥ (r_3.nodes.length : Int))) then (
                      some false
                    ) else (
                      (iterN (law06DiskAdds_b14 r_4 d.nodes d.most d.room n.kind n.modeF n.owner n.links n.openF n.up n.data n.names r_3.nodes r_3.most r_3.room) LF (0 : Int)).bind fun X_2 => match X_2 with
                      | .inl (v_2, y_2, r_6, y_3, r_7, r_8) => (
                        some false
                      )
                      | .inr (v_2) => (
                        (gt r_3.nodes r_4).bind fun y_4 =>
                        (law06Node y_4).bind fun r_9 =>
                        (law06Node n).bind fun r_10 =>
                        (ref06Alike r_9 r_10).bind fun r_11 =>
                        bif r_11 then (
                          (diskUsed r_3).bind fun r_12 =>
                          (law06Its d).bind fun r_13 =>
                          (ref06Used r_13).bind fun r_14 =>
                          some (r_12 == (w64 (r_14 + (1 : Int))))
                        ) else (
                          some false
                        )
                      )
                    )
                  )
                )
              )
              | .inr (.inr (v_1)) => (
                bif (decide (r_4 < (d.nodes.length : Int))) then (
                  (gt d.nodes r_4).bind fun y_2 =>
                  bif (y_2.kind != (0 : Int)) then (
                    some false
                  ) else (
                    bif (decide (r_4 > (d.nodes.length : Int))) then (
                      some false
                    ) else (
                      bif (decide (r_4 ≥ (r_3.nodes.length : Int))) then (
                        some false
                      ) else (
                        (iterN (law06DiskAdds_b14 r_4 d.nodes d.most d.room n.kind n.modeF n.owner n.links n.openF n.up n.data n.names r_3.nodes r_3.most r_3.room) LF (0 : Int)).bind fun X_2 => match X_2 with
                        | .inl (v_2, y_3, r_6, y_4, r_7, r_8) => (
                          some false
                        )
                        | .inr (v_2) => (
                          (gt r_3.nodes r_4).bind fun y_5 =>
                          (law06Node y_5).bind fun r_9 =>
                          (law06Node n).bind fun r_10 =>
                          (ref06Alike r_9 r_10).bind fun r_11 =>
                          bif r_11 then (
                            (diskUsed r_3).bind fun r_12 =>
                            (law06Its d).bind fun r_13 =>
                            (ref06Used r_13).bind fun r_14 =>
                            some (r_12 == (w64 (r_14 + (1 : Int))))
                          ) else (
                            some false
                          )
                        )
                      )
                    )
                  )
                ) else (
                  bif (decide (r_4 > (d.nodes.length : Int))) then (
                    some false
                  ) else (
                    bif (decide (r_4 ≥ (r_3.nodes.length : Int))) then (
                      some false
                    ) else (
                      (iterN (law06DiskAdds_b14 r_4 d.nodes d.most d.room n.kind n.modeF n.owner n.links n.openF n.up n.data n.names r_3.nodes r_3.most r_3.room) LF (0 : Int)).bind fun X_2 => match X_2 with
                      | .inl (v_2, y_2, r_6, y_3, r_7, r_8) => (
                        some false
                      )
                      | .inr (v_2) => (
                        (gt r_3.nodes r_4).bind fun y_4 =>
                        (law06Node y_4).bind fun r_9 =>
                        (law06Node n).bind fun r_10 =>
                        (ref06Alike r_9 r_10).bind fun r_11 =>
                        bif r_11 then (
                          (diskUsed r_3).bind fun r_12 =>
                          (law06Its d).bind fun r_13 =>
                          (ref06Used r_13).bind fun r_14 =>
                          some (r_12 == (w64 (r_14 + (1 : Int))))
                        ) else (
                          some false
                        )
                      )
                    )
                  )
                )
              )
            )
          )
        )
      )
    )
  )
set_option maxRecDepth 100000 in
theorem law06DiskAdds_ok (k : Nat) (d : DiskD) (n : NodeD) (r : Bool) (h : law06DiskAdds d n = some r) : run0 (k + 13) 7 [(.agg [(.list 8 false (d.nodes.map NodeD.c)), (pI d.most), (pI d.room)]), (.agg [(pI n.kind), (pI n.modeF), (pI n.owner), (pI n.links), (pI n.openF), (pI n.up), (pS n.data), (.list 2 false (n.names.map entP))])] = some (pB r) := by
  unfold law06DiskAdds at h
  obtain ⟨r_1, q1, h⟩ := bnd_some h
  rcases bif_some h with ⟨q2, h⟩ | ⟨q2, h⟩
  · skip
    obtain ⟨r_2, q3, h⟩ := bnd_some h
    obtain rfl := Option.some.inj h
    exact ret_go (k := (k + 12)) Try.func7 Try.ntmps7 (by kernel_rfl) (by kernel_rfl) (Nat.le_of_ble_eq_true rfl) (adv [([], 1, 1, .ret (pB r_1)), ([], 1, 2, .eq (pB true)), ([], 2, 0, .ret (pB r_2))]) (ex := .ret) (r := (pB r_2)) (by kernel_rfl) rfl (by kernel_rfl) (allC (law06Big_ok (k + 11) d _ q1) (allC (cg q2) (allC (shownX_ok k  _ q3) allN))) (by kernel_rfl) allN
  · skip
    rcases bif_some h with ⟨q3, h⟩ | ⟨q3, h⟩
    · skip
      obtain ⟨r_2, q4, h⟩ := bnd_some h
      obtain rfl := Option.some.inj h
      exact ret_go (k := (k + 12)) Try.func7 Try.ntmps7 (by kernel_rfl) (by kernel_rfl) (Nat.le_of_ble_eq_true rfl) (adv [([], 1, 1, .ret (pB r_1)), ([], 1, 2, .eq (pB false)), ([], 1, 8, .eq (pB true)), ([], 2, 0, .ret (pB r_2))]) (ex := .ret) (r := (pB r_2)) (by kernel_rfl) rfl (by kernel_rfl) (allC (law06Big_ok (k + 11) d _ q1) (allC (cg q2) (allC (cg q3) (allC (shownX_ok k  _ q4) allN)))) (by kernel_rfl) allN
    · skip
      rcases bif_some h with ⟨q4, h⟩ | ⟨q4, h⟩
      · skip
        obtain ⟨r_2, q5, h⟩ := bnd_some h
        obtain rfl := Option.some.inj h
        exact ret_go (k := (k + 12)) Try.func7 Try.ntmps7 (by kernel_rfl) (by kernel_rfl) (Nat.le_of_ble_eq_true rfl) (adv [([], 1, 1, .ret (pB r_1)), ([], 1, 2, .eq (pB false)), ([], 1, 8, .eq (pB false)), ([], 1, 11, .eq (pI (n.names.length : Int))), ([], 1, 14, .eq (pB true)), ([], 2, 0, .ret (pB r_2))]) (ex := .ret) (r := (pB r_2)) (by kernel_rfl) rfl (by kernel_rfl) (allC (law06Big_ok (k + 11) d _ q1) (allC (cg q2) (allC (cg q3) (allC (len_ob (rfl : (n.names.map entP) = n.names.map entP)) (allC (cg q4) (allC (shownX_ok k  _ q5) allN)))))) (by kernel_rfl) allN
      · skip
        rcases bif_some h with ⟨q5, h⟩ | ⟨q5, h⟩
        · skip
          obtain ⟨r_2, q6, h⟩ := bnd_some h
          obtain rfl := Option.some.inj h
          exact ret_go (k := (k + 12)) Try.func7 Try.ntmps7 (by kernel_rfl) (by kernel_rfl) (Nat.le_of_ble_eq_true rfl) (adv [([], 1, 1, .ret (pB r_1)), ([], 1, 2, .eq (pB false)), ([], 1, 8, .eq (pB false)), ([], 1, 11, .eq (pI (n.names.length : Int))), ([], 1, 14, .eq (pB false)), ([], 1, 19, .eq (pB true)), ([], 2, 0, .ret (pB r_2))]) (ex := .ret) (r := (pB r_2)) (by kernel_rfl) rfl (by kernel_rfl) (allC (law06Big_ok (k + 11) d _ q1) (allC (cg q2) (allC (cg q3) (allC (len_ob (rfl : (n.names.map entP) = n.names.map entP)) (allC (cg q4) (allC (cg q5) (allC (shownX_ok k  _ q6) allN))))))) (by kernel_rfl) allN
        · skip
          obtain ⟨r_2, q6, h⟩ := bnd_some h
          rcases bif_some h with ⟨q7, h⟩ | ⟨q7, h⟩
          · skip
            obtain ⟨r_3, q8, h⟩ := bnd_some h
            obtain rfl := Option.some.inj h
            exact ret_go (k := (k + 12)) Try.func7 Try.ntmps7 (by kernel_rfl) (by kernel_rfl) (Nat.le_of_ble_eq_true rfl) (adv [([], 1, 1, .ret (pB r_1)), ([], 1, 2, .eq (pB false)), ([], 1, 8, .eq (pB false)), ([], 1, 11, .eq (pI (n.names.length : Int))), ([], 1, 14, .eq (pB false)), ([], 1, 19, .eq (pB false)), ([], 1, 20, .ret (pB r_2)), ([], 1, 22, .eq (pB true)), ([], 2, 0, .ret (pB r_3))]) (ex := .ret) (r := (pB r_3)) (by kernel_rfl) rfl (by kernel_rfl) (allC (law06Big_ok (k + 11) d _ q1) (allC (cg q2) (allC (cg q3) (allC (len_ob (rfl : (n.names.map entP) = n.names.map entP)) (allC (cg q4) (allC (cg q5) (allC (shownX_ok k  _ q6) (allC (cg q7) (allC (shownX_ok k  _ q8) allN))))))))) (by kernel_rfl) allN
          · skip
            obtain ⟨⟨r_3, r_4, r_5⟩, q8, h⟩ := bnd_some h
            try dsimp only at h
            rcases bif_some h with ⟨q9, h⟩ | ⟨q9, h⟩
            · skip
              rcases bif_some h with ⟨q10, h⟩ | ⟨q10, h⟩
              · skip
                obtain ⟨r_6, q11, h⟩ := bnd_some h
                obtain ⟨r_7, q12, h⟩ := bnd_some h
                obtain ⟨r_8, q13, h⟩ := bnd_some h
                obtain rfl := Option.some.inj h
                exact ret_go (k := (k + 12)) Try.func7 Try.ntmps7 (by kernel_rfl) (by kernel_rfl) (Nat.le_of_ble_eq_true rfl) (adv [([], 1, 1, .ret (pB r_1)), ([], 1, 2, .eq (pB false)), ([], 1, 8, .eq (pB false)), ([], 1, 11, .eq (pI (n.names.length : Int))), ([], 1, 14, .eq (pB false)), ([], 1, 19, .eq (pB false)), ([], 1, 20, .ret (pB r_2)), ([], 1, 22, .eq (pB false)), ([], 3, 2, .ret (.tup [(.agg [(.list 8 false (r_3.nodes.map NodeD.c)), (pI r_3.most), (pI r_3.room)]), (pI r_4), (pI r_5)])), ([], 4, 1, .eq (pB true)), ([], 5, 2, .eq (pB true)), ([], 5, 4, .ret (.agg [(.list 8 false (r_6.nodes.map NodeD.c)), (pI r_6.most), (pI r_6.room)])), ([], 5, 6, .ret (.agg [(.list 8 false (r_7.nodes.map NodeD.c)), (pI r_7.most), (pI r_7.room)])), ([], 5, 7, .ret (pB r_8))]) (ex := .ret) (r := (pB r_8)) (by kernel_rfl) rfl (by kernel_rfl) (allC (law06Big_ok (k + 11) d _ q1) (allC (cg q2) (allC (cg q3) (allC (len_ob (rfl : (n.names.map entP) = n.names.map entP)) (allC (cg q4) (allC (cg q5) (allC (shownX_ok k  _ q6) (allC (cg q7) (allC (diskAdd_ok (k + 8) d n _ q8) (allC (cg q9) (allC (cg q10) (allC (law06Its_ok (k + 10) r_3 _ q11) (allC (law06Its_ok (k + 10) d _ q12) (allC (ref06Same_ok (k + 9) r_6 r_7 _ q13) allN)))))))))))))) (by kernel_rfl) allN
              · skip
                obtain rfl := Option.some.inj h
                exact ret_go (k := (k + 12)) Try.func7 Try.ntmps7 (by kernel_rfl) (by kernel_rfl) (Nat.le_of_ble_eq_true rfl) (adv [([], 1, 1, .ret (pB r_1)), ([], 1, 2, .eq (pB false)), ([], 1, 8, .eq (pB false)), ([], 1, 11, .eq (pI (n.names.length : Int))), ([], 1, 14, .eq (pB false)), ([], 1, 19, .eq (pB false)), ([], 1, 20, .ret (pB r_2)), ([], 1, 22, .eq (pB false)), ([], 3, 2, .ret (.tup [(.agg [(.list 8 false (r_3.nodes.map NodeD.c)), (pI r_3.most), (pI r_3.room)]), (pI r_4), (pI r_5)])), ([], 4, 1, .eq (pB true)), ([], 5, 2, .eq (pB false))]) (ex := .ret) (r := (pB false)) (by kernel_rfl) rfl (by kernel_rfl) (allC (law06Big_ok (k + 11) d _ q1) (allC (cg q2) (allC (cg q3) (allC (len_ob (rfl : (n.names.map entP) = n.names.map entP)) (allC (cg q4) (allC (cg q5) (allC (shownX_ok k  _ q6) (allC (cg q7) (allC (diskAdd_ok (k + 8) d n _ q8) (allC (cg q9) (allC (cg q10) allN))))))))))) (by kernel_rfl) allN
            · skip
              obtain ⟨X_1, q10, h⟩ := bnd_some h
              obtain ⟨v_1, q11, q12⟩ := loop_iter (f := run1 (k + 12) 7 0 143 law06DiskAdds_L7) (law06DiskAdds_S7 r_4 d.nodes d.most d.room n.kind n.modeF n.owner n.links n.openF n.up n.data n.names r_3.nodes r_3.most r_3.room) (law06DiskAdds_b7 r_4 d.nodes d.most d.room n.kind n.modeF n.owner n.links n.openF n.up n.data n.names r_3.nodes r_3.most r_3.room) (law06DiskAdds_t7 k r_4 d.nodes d.most d.room n.kind n.modeF n.owner n.links n.openF n.up n.data n.names r_3.nodes r_3.most r_3.room) LF (0 : Int) _ (stOf (goStop (k + 12) 7 0 143 (adv [([], 1, 1, .ret (pB r_1)), ([], 1, 2, .eq (pB false)), ([], 1, 8, .eq (pB false)), ([], 1, 11, .eq (pI (n.names.length : Int))), ([], 1, 14, .eq (pB false)), ([], 1, 19, .eq (pB false)), ([], 1, 20, .ret (pB r_2)), ([], 1, 22, .eq (pB false)), ([], 3, 2, .ret (.tup [(.agg [(.list 8 false (r_3.nodes.map NodeD.c)), (pI r_3.most), (pI r_3.room)]), (pI r_4), (pI r_5)])), ([], 4, 1, .eq (pB false))]) 7 (codeOf Try.f7) (argS 7 [(.agg [(.list 8 false (d.nodes.map NodeD.c)), (pI d.most), (pI d.room)]), (.agg [(pI n.kind), (pI n.modeF), (pI n.owner), (pI n.links), (pI n.openF), (pI n.up), (pS n.data), (.list 2 false (n.names.map entP))])]))) q10 (by kernel_rfl)
              unfold law06DiskAdds_b7 at q11
              try dsimp only at q11
              rcases bif_some q11 with ⟨q15, q11⟩ | ⟨q15, q11⟩
              · skip
                rcases bif_some q11 with ⟨q16, q11⟩ | ⟨q16, q11⟩
                · skip
                  obtain ⟨y_1, q17, q11⟩ := bnd_some q11
                  rcases bif_some q11 with ⟨q18, q11⟩ | ⟨q18, q11⟩
                  · skip
                    cases q11
                    try dsimp only at h
                    have q13 := run_go (k := (k + 12)) (f := 7) (r0 := 0) (nt := 143) (c := law06DiskAdds_L7) (σ := (law06DiskAdds_S7 r_4 d.nodes d.most d.room n.kind n.modeF n.owner n.links n.openF n.up n.data n.names r_3.nodes r_3.most r_3.room v_1)) (adv [([], 7, 3, .eq (pB true)), ([], 7, 7, .eq (pI (d.nodes.length : Int))), ([], 7, 9, .eq (pB true)), ([], 9, 3, .elem [(pI y_1.kind), (pI y_1.modeF), (pI y_1.owner), (pI y_1.links), (pI y_1.openF), (pI y_1.up), (pS y_1.data), (.list 2 false (y_1.names.map entP))]), ([], 9, 6, .eq (pB true))]) (ex := .ret) (by kernel_rfl) (by kernel_rfl) (allC (cg q15) (allC (len_ob (rfl : (d.nodes.map NodeD.c) = d.nodes.map NodeD.c)) (allC (cg q16) (allC (gt_list (c := NodeD.c) q17) (allC (cg q18) allN)))))
                    have q14 := q12 _ _ (by intro e; cases e) q13
                    obtain rfl := Option.some.inj h
                    exact ret_go (k := (k + 12)) Try.func7 Try.ntmps7 (by kernel_rfl) (by kernel_rfl) (Nat.le_of_ble_eq_true rfl) (adv [([], 1, 1, .ret (pB r_1)), ([], 1, 2, .eq (pB false)), ([], 1, 8, .eq (pB false)), ([], 1, 11, .eq (pI (n.names.length : Int))), ([], 1, 14, .eq (pB false)), ([], 1, 19, .eq (pB false)), ([], 1, 20, .ret (pB r_2)), ([], 1, 22, .eq (pB false)), ([], 3, 2, .ret (.tup [(.agg [(.list 8 false (r_3.nodes.map NodeD.c)), (pI r_3.most), (pI r_3.room)]), (pI r_4), (pI r_5)])), ([], 4, 1, .eq (pB false))] [([], 7, .ret, (stOf (go (k + 12) 7 0 143 (adv [([], 7, 3, .eq (pB true)), ([], 7, 7, .eq (pI (d.nodes.length : Int))), ([], 7, 9, .eq (pB true)), ([], 9, 3, .elem [(pI y_1.kind), (pI y_1.modeF), (pI y_1.owner), (pI y_1.links), (pI y_1.openF), (pI y_1.up), (pS y_1.data), (.list 2 false (y_1.names.map entP))]), ([], 9, 6, .eq (pB true))]) law06DiskAdds_L7 (law06DiskAdds_S7 r_4 d.nodes d.most d.room n.kind n.modeF n.owner n.links n.openF n.up n.data n.names r_3.nodes r_3.most r_3.room v_1))))]) (ex := .ret) (r := (pB false)) (by kernel_rfl) rfl (by kernel_rfl) (allC (law06Big_ok (k + 11) d _ q1) (allC (cg q2) (allC (cg q3) (allC (len_ob (rfl : (n.names.map entP) = n.names.map entP)) (allC (cg q4) (allC (cg q5) (allC (shownX_ok k  _ q6) (allC (cg q7) (allC (diskAdd_ok (k + 8) d n _ q8) (allC (cg q9) (allC q14 allN))))))))))) (by kernel_rfl) allN
                  · skip
                    cases q11
                · skip
                  cases q11
                  try dsimp only at h
                  have q13 := run_go (k := (k + 12)) (f := 7) (r0 := 0) (nt := 143) (c := law06DiskAdds_L7) (σ := (law06DiskAdds_S7 r_4 d.nodes d.most d.room n.kind n.modeF n.owner n.links n.openF n.up n.data n.names r_3.nodes r_3.most r_3.room v_1)) (adv [([], 7, 3, .eq (pB true)), ([], 7, 7, .eq (pI (d.nodes.length : Int))), ([], 7, 9, .eq (pB false))]) (ex := (.exit 0)) (by kernel_rfl) (by kernel_rfl) (allC (cg q15) (allC (len_ob (rfl : (d.nodes.map NodeD.c) = d.nodes.map NodeD.c)) (allC (cg q16) allN)))
                  have q14 := q12 _ _ (by intro e; cases e) q13
                  rcases bif_some h with ⟨q19, h⟩ | ⟨q19, h⟩
                  · skip
                    obtain ⟨y_2, q20, h⟩ := bnd_some h
                    rcases bif_some h with ⟨q21, h⟩ | ⟨q21, h⟩
                    · skip
                      obtain rfl := Option.some.inj h
                      exact ret_go (k := (k + 12)) Try.func7 Try.ntmps7 (by kernel_rfl) (by kernel_rfl) (Nat.le_of_ble_eq_true rfl) (adv [([], 1, 1, .ret (pB r_1)), ([], 1, 2, .eq (pB false)), ([], 1, 8, .eq (pB false)), ([], 1, 11, .eq (pI (n.names.length : Int))), ([], 1, 14, .eq (pB false)), ([], 1, 19, .eq (pB false)), ([], 1, 20, .ret (pB r_2)), ([], 1, 22, .eq (pB false)), ([], 3, 2, .ret (.tup [(.agg [(.list 8 false (r_3.nodes.map NodeD.c)), (pI r_3.most), (pI r_3.room)]), (pI r_4), (pI r_5)])), ([], 4, 1, .eq (pB false)), ([], 11, 3, .eq (pI (d.nodes.length : Int))), ([], 11, 5, .eq (pB true)), ([], 11, 9, .elem [(pI y_2.kind), (pI y_2.modeF), (pI y_2.owner), (pI y_2.links), (pI y_2.openF), (pI y_2.up), (pS y_2.data), (.list 2 false (y_2.names.map entP))]), ([], 11, 14, .eq (pB true))] [([], 7, (.exit 0), (stOf (go (k + 12) 7 0 143 (adv [([], 7, 3, .eq (pB true)), ([], 7, 7, .eq (pI (d.nodes.length : Int))), ([], 7, 9, .eq (pB false))]) law06DiskAdds_L7 (law06DiskAdds_S7 r_4 d.nodes d.most d.room n.kind n.modeF n.owner n.links n.openF n.up n.data n.names r_3.nodes r_3.most r_3.room v_1))))]) (ex := .ret) (r := (pB false)) (by kernel_rfl) rfl (by kernel_rfl) (allC (law06Big_ok (k + 11) d _ q1) (allC (cg q2) (allC (cg q3) (allC (len_ob (rfl : (n.names.map entP) = n.names.map entP)) (allC (cg q4) (allC (cg q5) (allC (shownX_ok k  _ q6) (allC (cg q7) (allC (diskAdd_ok (k + 8) d n _ q8) (allC (cg q9) (allC q14 (allC (len_ob (rfl : (d.nodes.map NodeD.c) = d.nodes.map NodeD.c)) (allC (cg q19) (allC (gt_list (c := NodeD.c) q20) (allC (cg q21) allN))))))))))))))) (by kernel_rfl) allN
                    · skip
                      rcases bif_some h with ⟨q22, h⟩ | ⟨q22, h⟩
                      · skip
                        obtain rfl := Option.some.inj h
                        exact ret_go (k := (k + 12)) Try.func7 Try.ntmps7 (by kernel_rfl) (by kernel_rfl) (Nat.le_of_ble_eq_true rfl) (adv [([], 1, 1, .ret (pB r_1)), ([], 1, 2, .eq (pB false)), ([], 1, 8, .eq (pB false)), ([], 1, 11, .eq (pI (n.names.length : Int))), ([], 1, 14, .eq (pB false)), ([], 1, 19, .eq (pB false)), ([], 1, 20, .ret (pB r_2)), ([], 1, 22, .eq (pB false)), ([], 3, 2, .ret (.tup [(.agg [(.list 8 false (r_3.nodes.map NodeD.c)), (pI r_3.most), (pI r_3.room)]), (pI r_4), (pI r_5)])), ([], 4, 1, .eq (pB false)), ([], 11, 3, .eq (pI (d.nodes.length : Int))), ([], 11, 5, .eq (pB true)), ([], 11, 9, .elem [(pI y_2.kind), (pI y_2.modeF), (pI y_2.owner), (pI y_2.links), (pI y_2.openF), (pI y_2.up), (pS y_2.data), (.list 2 false (y_2.names.map entP))]), ([], 11, 14, .eq (pB false)), ([], 11, 18, .eq (pI (d.nodes.length : Int))), ([], 11, 21, .eq (pB true))] [([], 7, (.exit 0), (stOf (go (k + 12) 7 0 143 (adv [([], 7, 3, .eq (pB true)), ([], 7, 7, .eq (pI (d.nodes.length : Int))), ([], 7, 9, .eq (pB false))]) law06DiskAdds_L7 (law06DiskAdds_S7 r_4 d.nodes d.most d.room n.kind n.modeF n.owner n.links n.openF n.up n.data n.names r_3.nodes r_3.most r_3.room v_1))))]) (ex := .ret) (r := (pB false)) (by kernel_rfl) rfl (by kernel_rfl) (allC (law06Big_ok (k + 11) d _ q1) (allC (cg q2) (allC (cg q3) (allC (len_ob (rfl : (n.names.map entP) = n.names.map entP)) (allC (cg q4) (allC (cg q5) (allC (shownX_ok k  _ q6) (allC (cg q7) (allC (diskAdd_ok (k + 8) d n _ q8) (allC (cg q9) (allC q14 (allC (len_ob (rfl : (d.nodes.map NodeD.c) = d.nodes.map NodeD.c)) (allC (cg q19) (allC (gt_list (c := NodeD.c) q20) (allC (cg q21) (allC (len_ob (rfl : (d.nodes.map NodeD.c) = d.nodes.map NodeD.c)) (allC (cg q22) allN))))))))))))))))) (by kernel_rfl) allN
                      · skip
                        rcases bif_some h with ⟨q23, h⟩ | ⟨q23, h⟩
                        · skip
                          obtain rfl := Option.some.inj h
                          exact ret_go (k := (k + 12)) Try.func7 Try.ntmps7 (by kernel_rfl) (by kernel_rfl) (Nat.le_of_ble_eq_true rfl) (adv [([], 1, 1, .ret (pB r_1)), ([], 1, 2, .eq (pB false)), ([], 1, 8, .eq (pB false)), ([], 1, 11, .eq (pI (n.names.length : Int))), ([], 1, 14, .eq (pB false)), ([], 1, 19, .eq (pB false)), ([], 1, 20, .ret (pB r_2)), ([], 1, 22, .eq (pB false)), ([], 3, 2, .ret (.tup [(.agg [(.list 8 false (r_3.nodes.map NodeD.c)), (pI r_3.most), (pI r_3.room)]), (pI r_4), (pI r_5)])), ([], 4, 1, .eq (pB false)), ([], 11, 3, .eq (pI (d.nodes.length : Int))), ([], 11, 5, .eq (pB true)), ([], 11, 9, .elem [(pI y_2.kind), (pI y_2.modeF), (pI y_2.owner), (pI y_2.links), (pI y_2.openF), (pI y_2.up), (pS y_2.data), (.list 2 false (y_2.names.map entP))]), ([], 11, 14, .eq (pB false)), ([], 11, 18, .eq (pI (d.nodes.length : Int))), ([], 11, 21, .eq (pB false)), ([], 11, 25, .eq (pI (r_3.nodes.length : Int))), ([], 11, 27, .eq (pB true))] [([], 7, (.exit 0), (stOf (go (k + 12) 7 0 143 (adv [([], 7, 3, .eq (pB true)), ([], 7, 7, .eq (pI (d.nodes.length : Int))), ([], 7, 9, .eq (pB false))]) law06DiskAdds_L7 (law06DiskAdds_S7 r_4 d.nodes d.most d.room n.kind n.modeF n.owner n.links n.openF n.up n.data n.names r_3.nodes r_3.most r_3.room v_1))))]) (ex := .ret) (r := (pB false)) (by kernel_rfl) rfl (by kernel_rfl) (allC (law06Big_ok (k + 11) d _ q1) (allC (cg q2) (allC (cg q3) (allC (len_ob (rfl : (n.names.map entP) = n.names.map entP)) (allC (cg q4) (allC (cg q5) (allC (shownX_ok k  _ q6) (allC (cg q7) (allC (diskAdd_ok (k + 8) d n _ q8) (allC (cg q9) (allC q14 (allC (len_ob (rfl : (d.nodes.map NodeD.c) = d.nodes.map NodeD.c)) (allC (cg q19) (allC (gt_list (c := NodeD.c) q20) (allC (cg q21) (allC (len_ob (rfl : (d.nodes.map NodeD.c) = d.nodes.map NodeD.c)) (allC (cg q22) (allC (len_ob (rfl : (r_3.nodes.map NodeD.c) = r_3.nodes.map NodeD.c)) (allC (cg q23) allN))))))))))))))))))) (by kernel_rfl) allN
                        · skip
                          obtain ⟨X_2, q24, h⟩ := bnd_some h
                          obtain ⟨v_2, q25, q26⟩ := loop_iter (f := run1 (k + 12) 7 0 143 law06DiskAdds_L14) (law06DiskAdds_S14 r_4 d.nodes d.most d.room n.kind n.modeF n.owner n.links n.openF n.up n.data n.names r_3.nodes r_3.most r_3.room) (law06DiskAdds_b14 r_4 d.nodes d.most d.room n.kind n.modeF n.owner n.links n.openF n.up n.data n.names r_3.nodes r_3.most r_3.room) (law06DiskAdds_t14 k r_4 d.nodes d.most d.room n.kind n.modeF n.owner n.links n.openF n.up n.data n.names r_3.nodes r_3.most r_3.room) LF (0 : Int) _ (stOf (goStop (k + 12) 7 0 143 (adv [([], 1, 1, .ret (pB r_1)), ([], 1, 2, .eq (pB false)), ([], 1, 8, .eq (pB false)), ([], 1, 11, .eq (pI (n.names.length : Int))), ([], 1, 14, .eq (pB false)), ([], 1, 19, .eq (pB false)), ([], 1, 20, .ret (pB r_2)), ([], 1, 22, .eq (pB false)), ([], 3, 2, .ret (.tup [(.agg [(.list 8 false (r_3.nodes.map NodeD.c)), (pI r_3.most), (pI r_3.room)]), (pI r_4), (pI r_5)])), ([], 4, 1, .eq (pB false)), ([], 11, 3, .eq (pI (d.nodes.length : Int))), ([], 11, 5, .eq (pB true)), ([], 11, 9, .elem [(pI y_2.kind), (pI y_2.modeF), (pI y_2.owner), (pI y_2.links), (pI y_2.openF), (pI y_2.up), (pS y_2.data), (.list 2 false (y_2.names.map entP))]), ([], 11, 14, .eq (pB false)), ([], 11, 18, .eq (pI (d.nodes.length : Int))), ([], 11, 21, .eq (pB false)), ([], 11, 25, .eq (pI (r_3.nodes.length : Int))), ([], 11, 27, .eq (pB false))] [([], 7, (.exit 0), (stOf (go (k + 12) 7 0 143 (adv [([], 7, 3, .eq (pB true)), ([], 7, 7, .eq (pI (d.nodes.length : Int))), ([], 7, 9, .eq (pB false))]) law06DiskAdds_L7 (law06DiskAdds_S7 r_4 d.nodes d.most d.room n.kind n.modeF n.owner n.links n.openF n.up n.data n.names r_3.nodes r_3.most r_3.room v_1))))]) 14 (codeOf Try.f7) (argS 7 [(.agg [(.list 8 false (d.nodes.map NodeD.c)), (pI d.most), (pI d.room)]), (.agg [(pI n.kind), (pI n.modeF), (pI n.owner), (pI n.links), (pI n.openF), (pI n.up), (pS n.data), (.list 2 false (n.names.map entP))])]))) q24 (by kernel_rfl)
                          unfold law06DiskAdds_b14 at q25
                          try dsimp only at q25
                          rcases bif_some q25 with ⟨q29, q25⟩ | ⟨q29, q25⟩
                          · skip
                            rcases bif_some q25 with ⟨q30, q25⟩ | ⟨q30, q25⟩
                            · skip
                              obtain ⟨y_3, q31, q25⟩ := bnd_some q25
                              obtain ⟨r_6, q32, q25⟩ := bnd_some q25
                              obtain ⟨y_4, q33, q25⟩ := bnd_some q25
                              obtain ⟨r_7, q34, q25⟩ := bnd_some q25
                              obtain ⟨r_8, q35, q25⟩ := bnd_some q25
                              rcases bif_some q25 with ⟨q36, q25⟩ | ⟨q36, q25⟩
                              · skip
                                cases q25
                                try dsimp only at h
                                have q27 := run_go (k := (k + 12)) (f := 7) (r0 := 0) (nt := 143) (c := law06DiskAdds_L14) (σ := (law06DiskAdds_S14 r_4 d.nodes d.most d.room n.kind n.modeF n.owner n.links n.openF n.up n.data n.names r_3.nodes r_3.most r_3.room v_2)) (adv [([], 14, 3, .eq (pI (d.nodes.length : Int))), ([], 14, 4, .eq (pB true)), ([], 16, 3, .eq (pB true)), ([], 16, 7, .elem [(pI y_3.kind), (pI y_3.modeF), (pI y_3.owner), (pI y_3.links), (pI y_3.openF), (pI y_3.up), (pS y_3.data), (.list 2 false (y_3.names.map entP))]), ([], 16, 9, .ret (.agg [(pI r_6.kind), (pI r_6.modeF), (pI r_6.owner), (pI r_6.links), (pI r_6.openF), (pI r_6.up), (pS r_6.data), (.list 2 false (r_6.names.map entP))])), ([], 16, 13, .elem [(pI y_4.kind), (pI y_4.modeF), (pI y_4.owner), (pI y_4.links), (pI y_4.openF), (pI y_4.up), (pS y_4.data), (.list 2 false (y_4.names.map entP))]), ([], 16, 15, .ret (.agg [(pI r_7.kind), (pI r_7.modeF), (pI r_7.owner), (pI r_7.links), (pI r_7.openF), (pI r_7.up), (pS r_7.data), (.list 2 false (r_7.names.map entP))])), ([], 16, 16, .ret (pB r_8)), ([], 16, 18, .eq (pB true))]) (ex := .ret) (by kernel_rfl) (by kernel_rfl) (allC (len_ob (rfl : (d.nodes.map NodeD.c) = d.nodes.map NodeD.c)) (allC (cg q29) (allC (cg q30) (allC (gt_list (c := NodeD.c) q31) (allC (law06Node_ok (k + 11) y_3 _ q32) (allC (gt_list (c := NodeD.c) q33) (allC (gt_list (c := NodeD.c) q33) (allC (law06Node_ok (k + 11) y_4 _ q34) (allC (ref06Alike_ok (k + 10) r_6 r_7 _ q35) (allC (cg q36) allN))))))))))
                                have q28 := q26 _ _ (by intro e; cases e) q27
                                obtain rfl := Option.some.inj h
                                exact ret_go (k := (k + 12)) Try.func7 Try.ntmps7 (by kernel_rfl) (by kernel_rfl) (Nat.le_of_ble_eq_true rfl) (adv [([], 1, 1, .ret (pB r_1)), ([], 1, 2, .eq (pB false)), ([], 1, 8, .eq (pB false)), ([], 1, 11, .eq (pI (n.names.length : Int))), ([], 1, 14, .eq (pB false)), ([], 1, 19, .eq (pB false)), ([], 1, 20, .ret (pB r_2)), ([], 1, 22, .eq (pB false)), ([], 3, 2, .ret (.tup [(.agg [(.list 8 false (r_3.nodes.map NodeD.c)), (pI r_3.most), (pI r_3.room)]), (pI r_4), (pI r_5)])), ([], 4, 1, .eq (pB false)), ([], 11, 3, .eq (pI (d.nodes.length : Int))), ([], 11, 5, .eq (pB true)), ([], 11, 9, .elem [(pI y_2.kind), (pI y_2.modeF), (pI y_2.owner), (pI y_2.links), (pI y_2.openF), (pI y_2.up), (pS y_2.data), (.list 2 false (y_2.names.map entP))]), ([], 11, 14, .eq (pB false)), ([], 11, 18, .eq (pI (d.nodes.length : Int))), ([], 11, 21, .eq (pB false)), ([], 11, 25, .eq (pI (r_3.nodes.length : Int))), ([], 11, 27, .eq (pB false))] [([], 7, (.exit 0), (stOf (go (k + 12) 7 0 143 (adv [([], 7, 3, .eq (pB true)), ([], 7, 7, .eq (pI (d.nodes.length : Int))), ([], 7, 9, .eq (pB false))]) law06DiskAdds_L7 (law06DiskAdds_S7 r_4 d.nodes d.most d.room n.kind n.modeF n.owner n.links n.openF n.up n.data n.names r_3.nodes r_3.most r_3.room v_1)))), ([], 14, .ret, (stOf (go (k + 12) 7 0 143 (adv [([], 14, 3, .eq (pI (d.nodes.length : Int))), ([], 14, 4, .eq (pB true)), ([], 16, 3, .eq (pB true)), ([], 16, 7, .elem [(pI y_3.kind), (pI y_3.modeF), (pI y_3.owner), (pI y_3.links), (pI y_3.openF), (pI y_3.up), (pS y_3.data), (.list 2 false (y_3.names.map entP))]), ([], 16, 9, .ret (.agg [(pI r_6.kind), (pI r_6.modeF), (pI r_6.owner), (pI r_6.links), (pI r_6.openF), (pI r_6.up), (pS r_6.data), (.list 2 false (r_6.names.map entP))])), ([], 16, 13, .elem [(pI y_4.kind), (pI y_4.modeF), (pI y_4.owner), (pI y_4.links), (pI y_4.openF), (pI y_4.up), (pS y_4.data), (.list 2 false (y_4.names.map entP))]), ([], 16, 15, .ret (.agg [(pI r_7.kind), (pI r_7.modeF), (pI r_7.owner), (pI r_7.links), (pI r_7.openF), (pI r_7.up), (pS r_7.data), (.list 2 false (r_7.names.map entP))])), ([], 16, 16, .ret (pB r_8)), ([], 16, 18, .eq (pB true))]) law06DiskAdds_L14 (law06DiskAdds_S14 r_4 d.nodes d.most d.room n.kind n.modeF n.owner n.links n.openF n.up n.data n.names r_3.nodes r_3.most r_3.room v_2))))]) (ex := .ret) (r := (pB false)) (by kernel_rfl) rfl (by kernel_rfl) (allC (law06Big_ok (k + 11) d _ q1) (allC (cg q2) (allC (cg q3) (allC (len_ob (rfl : (n.names.map entP) = n.names.map entP)) (allC (cg q4) (allC (cg q5) (allC (shownX_ok k  _ q6) (allC (cg q7) (allC (diskAdd_ok (k + 8) d n _ q8) (allC (cg q9) (allC q14 (allC (len_ob (rfl : (d.nodes.map NodeD.c) = d.nodes.map NodeD.c)) (allC (cg q19) (allC (gt_list (c := NodeD.c) q20) (allC (cg q21) (allC (len_ob (rfl : (d.nodes.map NodeD.c) = d.nodes.map NodeD.c)) (allC (cg q22) (allC (len_ob (rfl : (r_3.nodes.map NodeD.c) = r_3.nodes.map NodeD.c)) (allC (cg q23) (allC q28 allN)))))))))))))))))))) (by kernel_rfl) allN
                              · skip
                                cases q25
                            · skip
                              cases q25
                          · skip
                            cases q25
                            try dsimp only at h
                            have q27 := run_go (k := (k + 12)) (f := 7) (r0 := 0) (nt := 143) (c := law06DiskAdds_L14) (σ := (law06DiskAdds_S14 r_4 d.nodes d.most d.room n.kind n.modeF n.owner n.links n.openF n.up n.data n.names r_3.nodes r_3.most r_3.room v_2)) (adv [([], 14, 3, .eq (pI (d.nodes.length : Int))), ([], 14, 4, .eq (pB false))]) (ex := (.exit 2)) (by kernel_rfl) (by kernel_rfl) (allC (len_ob (rfl : (d.nodes.map NodeD.c) = d.nodes.map NodeD.c)) (allC (cg q29) allN))
                            have q28 := q26 _ _ (by intro e; cases e) q27
                            obtain ⟨y_5, q37, h⟩ := bnd_some h
                            obtain ⟨r_9, q38, h⟩ := bnd_some h
                            obtain ⟨r_10, q39, h⟩ := bnd_some h
                            obtain ⟨r_11, q40, h⟩ := bnd_some h
                            rcases bif_some h with ⟨q41, h⟩ | ⟨q41, h⟩
                            · skip
                              obtain ⟨r_12, q42, h⟩ := bnd_some h
                              obtain ⟨r_13, q43, h⟩ := bnd_some h
                              obtain ⟨r_14, q44, h⟩ := bnd_some h
                              obtain rfl := Option.some.inj h
                              exact ret_go (k := (k + 12)) Try.func7 Try.ntmps7 (by kernel_rfl) (by kernel_rfl) (Nat.le_of_ble_eq_true rfl) (adv [([], 1, 1, .ret (pB r_1)), ([], 1, 2, .eq (pB false)), ([], 1, 8, .eq (pB false)), ([], 1, 11, .eq (pI (n.names.length : Int))), ([], 1, 14, .eq (pB false)), ([], 1, 19, .eq (pB false)), ([], 1, 20, .ret (pB r_2)), ([], 1, 22, .eq (pB false)), ([], 3, 2, .ret (.tup [(.agg [(.list 8 false (r_3.nodes.map NodeD.c)), (pI r_3.most), (pI r_3.room)]), (pI r_4), (pI r_5)])), ([], 4, 1, .eq (pB false)), ([], 11, 3, .eq (pI (d.nodes.length : Int))), ([], 11, 5, .eq (pB true)), ([], 11, 9, .elem [(pI y_2.kind), (pI y_2.modeF), (pI y_2.owner), (pI y_2.links), (pI y_2.openF), (pI y_2.up), (pS y_2.data), (.list 2 false (y_2.names.map entP))]), ([], 11, 14, .eq (pB false)), ([], 11, 18, .eq (pI (d.nodes.length : Int))), ([], 11, 21, .eq (pB false)), ([], 11, 25, .eq (pI (r_3.nodes.length : Int))), ([], 11, 27, .eq (pB false)), ([], 18, 3, .elem [(pI y_5.kind), (pI y_5.modeF), (pI y_5.owner), (pI y_5.links), (pI y_5.openF), (pI y_5.up), (pS y_5.data), (.list 2 false (y_5.names.map entP))]), ([], 18, 5, .ret (.agg [(pI r_9.kind), (pI r_9.modeF), (pI r_9.owner), (pI r_9.links), (pI r_9.openF), (pI r_9.up), (pS r_9.data), (.list 2 false (r_9.names.map entP))])), ([], 18, 7, .ret (.agg [(pI r_10.kind), (pI r_10.modeF), (pI r_10.owner), (pI r_10.links), (pI r_10.openF), (pI r_10.up), (pS r_10.data), (.list 2 false (r_10.names.map entP))])), ([], 18, 8, .ret (pB r_11)), ([], 18, 9, .eq (pB true)), ([], 18, 11, .ret (pI r_12)), ([], 18, 13, .ret (.agg [(.list 8 false (r_13.nodes.map NodeD.c)), (pI r_13.most), (pI r_13.room)])), ([], 18, 14, .ret (pI r_14))] [([], 7, (.exit 0), (stOf (go (k + 12) 7 0 143 (adv [([], 7, 3, .eq (pB true)), ([], 7, 7, .eq (pI (d.nodes.length : Int))), ([], 7, 9, .eq (pB false))]) law06DiskAdds_L7 (law06DiskAdds_S7 r_4 d.nodes d.most d.room n.kind n.modeF n.owner n.links n.openF n.up n.data n.names r_3.nodes r_3.most r_3.room v_1)))), ([], 14, (.exit 2), (stOf (go (k + 12) 7 0 143 (adv [([], 14, 3, .eq (pI (d.nodes.length : Int))), ([], 14, 4, .eq (pB false))]) law06DiskAdds_L14 (law06DiskAdds_S14 r_4 d.nodes d.most d.room n.kind n.modeF n.owner n.links n.openF n.up n.data n.names r_3.nodes r_3.most r_3.room v_2))))]) (ex := .ret) (r := (pB (r_12 == (w64 (r_14 + (1 : Int)))))) (by kernel_rfl) rfl (by kernel_rfl) (allC (law06Big_ok (k + 11) d _ q1) (allC (cg q2) (allC (cg q3) (allC (len_ob (rfl : (n.names.map entP) = n.names.map entP)) (allC (cg q4) (allC (cg q5) (allC (shownX_ok k  _ q6) (allC (cg q7) (allC (diskAdd_ok (k + 8) d n _ q8) (allC (cg q9) (allC q14 (allC (len_ob (rfl : (d.nodes.map NodeD.c) = d.nodes.map NodeD.c)) (allC (cg q19) (allC (gt_list (c := NodeD.c) q20) (allC (cg q21) (allC (len_ob (rfl : (d.nodes.map NodeD.c) = d.nodes.map NodeD.c)) (allC (cg q22) (allC (len_ob (rfl : (r_3.nodes.map NodeD.c) = r_3.nodes.map NodeD.c)) (allC (cg q23) (allC q28 (allC (gt_list (c := NodeD.c) q37) (allC (law06Node_ok (k + 11) y_5 _ q38) (allC (law06Node_ok (k + 11) n _ q39) (allC (ref06Alike_ok (k + 10) r_9 r_10 _ q40) (allC (cg q41) (allC (diskUsed_ok (k + 9) r_3 _ q42) (allC (law06Its_ok (k + 10) d _ q43) (allC (ref06Used_ok (k + 11) r_13 _ q44) allN)))))))))))))))))))))))))))) (by kernel_rfl) allN
                            · skip
                              obtain rfl := Option.some.inj h
                              exact ret_go (k := (k + 12)) Try.func7 Try.ntmps7 (by kernel_rfl) (by kernel_rfl) (Nat.le_of_ble_eq_true rfl) (adv [([], 1, 1, .ret (pB r_1)), ([], 1, 2, .eq (pB false)), ([], 1, 8, .eq (pB false)), ([], 1, 11, .eq (pI (n.names.length : Int))), ([], 1, 14, .eq (pB false)), ([], 1, 19, .eq (pB false)), ([], 1, 20, .ret (pB r_2)), ([], 1, 22, .eq (pB false)), ([], 3, 2, .ret (.tup [(.agg [(.list 8 false (r_3.nodes.map NodeD.c)), (pI r_3.most), (pI r_3.room)]), (pI r_4), (pI r_5)])), ([], 4, 1, .eq (pB false)), ([], 11, 3, .eq (pI (d.nodes.length : Int))), ([], 11, 5, .eq (pB true)), ([], 11, 9, .elem [(pI y_2.kind), (pI y_2.modeF), (pI y_2.owner), (pI y_2.links), (pI y_2.openF), (pI y_2.up), (pS y_2.data), (.list 2 false (y_2.names.map entP))]), ([], 11, 14, .eq (pB false)), ([], 11, 18, .eq (pI (d.nodes.length : Int))), ([], 11, 21, .eq (pB false)), ([], 11, 25, .eq (pI (r_3.nodes.length : Int))), ([], 11, 27, .eq (pB false)), ([], 18, 3, .elem [(pI y_5.kind), (pI y_5.modeF), (pI y_5.owner), (pI y_5.links), (pI y_5.openF), (pI y_5.up), (pS y_5.data), (.list 2 false (y_5.names.map entP))]), ([], 18, 5, .ret (.agg [(pI r_9.kind), (pI r_9.modeF), (pI r_9.owner), (pI r_9.links), (pI r_9.openF), (pI r_9.up), (pS r_9.data), (.list 2 false (r_9.names.map entP))])), ([], 18, 7, .ret (.agg [(pI r_10.kind), (pI r_10.modeF), (pI r_10.owner), (pI r_10.links), (pI r_10.openF), (pI r_10.up), (pS r_10.data), (.list 2 false (r_10.names.map entP))])), ([], 18, 8, .ret (pB r_11)), ([], 18, 9, .eq (pB false))] [([], 7, (.exit 0), (stOf (go (k + 12) 7 0 143 (adv [([], 7, 3, .eq (pB true)), ([], 7, 7, .eq (pI (d.nodes.length : Int))), ([], 7, 9, .eq (pB false))]) law06DiskAdds_L7 (law06DiskAdds_S7 r_4 d.nodes d.most d.room n.kind n.modeF n.owner n.links n.openF n.up n.data n.names r_3.nodes r_3.most r_3.room v_1)))), ([], 14, (.exit 2), (stOf (go (k + 12) 7 0 143 (adv [([], 14, 3, .eq (pI (d.nodes.length : Int))), ([], 14, 4, .eq (pB false))]) law06DiskAdds_L14 (law06DiskAdds_S14 r_4 d.nodes d.most d.room n.kind n.modeF n.owner n.links n.openF n.up n.data n.names r_3.nodes r_3.most r_3.room v_2))))]) (ex := .ret) (r := (pB false)) (by kernel_rfl) rfl (by kernel_rfl) (allC (law06Big_ok (k + 11) d _ q1) (allC (cg q2) (allC (cg q3) (allC (len_ob (rfl : (n.names.map entP) = n.names.map entP)) (allC (cg q4) (allC (cg q5) (allC (shownX_ok k  _ q6) (allC (cg q7) (allC (diskAdd_ok (k + 8) d n _ q8) (allC (cg q9) (allC q14 (allC (len_ob (rfl : (d.nodes.map NodeD.c) = d.nodes.map NodeD.c)) (allC (cg q19) (allC (gt_list (c := NodeD.c) q20) (allC (cg q21) (allC (len_ob (rfl : (d.nodes.map NodeD.c) = d.nodes.map NodeD.c)) (allC (cg q22) (allC (len_ob (rfl : (r_3.nodes.map NodeD.c) = r_3.nodes.map NodeD.c)) (allC (cg q23) (allC q28 (allC (gt_list (c := NodeD.c) q37) (allC (law06Node_ok (k + 11) y_5 _ q38) (allC (law06Node_ok (k + 11) n _ q39) (allC (ref06Alike_ok (k + 10) r_9 r_10 _ q40) (allC (cg q41) allN))))))))))))))))))))))))) (by kernel_rfl) allN
                  · skip
                    rcases bif_some h with ⟨q20, h⟩ | ⟨q20, h⟩
                    · skip
                      obtain rfl := Option.some.inj h
                      exact ret_go (k := (k + 12)) Try.func7 Try.ntmps7 (by kernel_rfl) (by kernel_rfl) (Nat.le_of_ble_eq_true rfl) (adv [([], 1, 1, .ret (pB r_1)), ([], 1, 2, .eq (pB false)), ([], 1, 8, .eq (pB false)), ([], 1, 11, .eq (pI (n.names.length : Int))), ([], 1, 14, .eq (pB false)), ([], 1, 19, .eq (pB false)), ([], 1, 20, .ret (pB r_2)), ([], 1, 22, .eq (pB false)), ([], 3, 2, .ret (.tup [(.agg [(.list 8 false (r_3.nodes.map NodeD.c)), (pI r_3.most), (pI r_3.room)]), (pI r_4), (pI r_5)])), ([], 4, 1, .eq (pB false)), ([], 11, 3, .eq (pI (d.nodes.length : Int))), ([], 11, 5, .eq (pB false)), ([], 11, 18, .eq (pI (d.nodes.length : Int))), ([], 11, 21, .eq (pB true))] [([], 7, (.exit 0), (stOf (go (k + 12) 7 0 143 (adv [([], 7, 3, .eq (pB true)), ([], 7, 7, .eq (pI (d.nodes.length : Int))), ([], 7, 9, .eq (pB false))]) law06DiskAdds_L7 (law06DiskAdds_S7 r_4 d.nodes d.most d.room n.kind n.modeF n.owner n.links n.openF n.up n.data n.names r_3.nodes r_3.most r_3.room v_1))))]) (ex := .ret) (r := (pB false)) (by kernel_rfl) rfl (by kernel_rfl) (allC (law06Big_ok (k + 11) d _ q1) (allC (cg q2) (allC (cg q3) (allC (len_ob (rfl : (n.names.map entP) = n.names.map entP)) (allC (cg q4) (allC (cg q5) (allC (shownX_ok k  _ q6) (allC (cg q7) (allC (diskAdd_ok (k + 8) d n _ q8) (allC (cg q9) (allC q14 (allC (len_ob (rfl : (d.nodes.map NodeD.c) = d.nodes.map NodeD.c)) (allC (cg q19) (allC (len_ob (rfl : (d.nodes.map NodeD.c) = d.nodes.map NodeD.c)) (allC (cg q20) allN))))))))))))))) (by kernel_rfl) allN
                    · skip
                      rcases bif_some h with ⟨q21, h⟩ | ⟨q21, h⟩
                      · skip
                        obtain rfl := Option.some.inj h
                        exact ret_go (k := (k + 12)) Try.func7 Try.ntmps7 (by kernel_rfl) (by kernel_rfl) (Nat.le_of_ble_eq_true rfl) (adv [([], 1, 1, .ret (pB r_1)), ([], 1, 2, .eq (pB false)), ([], 1, 8, .eq (pB false)), ([], 1, 11, .eq (pI (n.names.length : Int))), ([], 1, 14, .eq (pB false)), ([], 1, 19, .eq (pB false)), ([], 1, 20, .ret (pB r_2)), ([], 1, 22, .eq (pB false)), ([], 3, 2, .ret (.tup [(.agg [(.list 8 false (r_3.nodes.map NodeD.c)), (pI r_3.most), (pI r_3.room)]), (pI r_4), (pI r_5)])), ([], 4, 1, .eq (pB false)), ([], 11, 3, .eq (pI (d.nodes.length : Int))), ([], 11, 5, .eq (pB false)), ([], 11, 18, .eq (pI (d.nodes.length : Int))), ([], 11, 21, .eq (pB false)), ([], 11, 25, .eq (pI (r_3.nodes.length : Int))), ([], 11, 27, .eq (pB true))] [([], 7, (.exit 0), (stOf (go (k + 12) 7 0 143 (adv [([], 7, 3, .eq (pB true)), ([], 7, 7, .eq (pI (d.nodes.length : Int))), ([], 7, 9, .eq (pB false))]) law06DiskAdds_L7 (law06DiskAdds_S7 r_4 d.nodes d.most d.room n.kind n.modeF n.owner n.links n.openF n.up n.data n.names r_3.nodes r_3.most r_3.room v_1))))]) (ex := .ret) (r := (pB false)) (by kernel_rfl) rfl (by kernel_rfl) (allC (law06Big_ok (k + 11) d _ q1) (allC (cg q2) (allC (cg q3) (allC (len_ob (rfl : (n.names.map entP) = n.names.map entP)) (allC (cg q4) (allC (cg q5) (allC (shownX_ok k  _ q6) (allC (cg q7) (allC (diskAdd_ok (k + 8) d n _ q8) (allC (cg q9) (allC q14 (allC (len_ob (rfl : (d.nodes.map NodeD.c) = d.nodes.map NodeD.c)) (allC (cg q19) (allC (len_ob (rfl : (d.nodes.map NodeD.c) = d.nodes.map NodeD.c)) (allC (cg q20) (allC (len_ob (rfl : (r_3.nodes.map NodeD.c) = r_3.nodes.map NodeD.c)) (allC (cg q21) allN))))))))))))))))) (by kernel_rfl) allN
                      · skip
                        obtain ⟨X_2, q22, h⟩ := bnd_some h
                        obtain ⟨v_2, q23, q24⟩ := loop_iter (f := run1 (k + 12) 7 0 143 law06DiskAdds_L14) (law06DiskAdds_S14 r_4 d.nodes d.most d.room n.kind n.modeF n.owner n.links n.openF n.up n.data n.names r_3.nodes r_3.most r_3.room) (law06DiskAdds_b14 r_4 d.nodes d.most d.room n.kind n.modeF n.owner n.links n.openF n.up n.data n.names r_3.nodes r_3.most r_3.room) (law06DiskAdds_t14 k r_4 d.nodes d.most d.room n.kind n.modeF n.owner n.links n.openF n.up n.data n.names r_3.nodes r_3.most r_3.room) LF (0 : Int) _ (stOf (goStop (k + 12) 7 0 143 (adv [([], 1, 1, .ret (pB r_1)), ([], 1, 2, .eq (pB false)), ([], 1, 8, .eq (pB false)), ([], 1, 11, .eq (pI (n.names.length : Int))), ([], 1, 14, .eq (pB false)), ([], 1, 19, .eq (pB false)), ([], 1, 20, .ret (pB r_2)), ([], 1, 22, .eq (pB false)), ([], 3, 2, .ret (.tup [(.agg [(.list 8 false (r_3.nodes.map NodeD.c)), (pI r_3.most), (pI r_3.room)]), (pI r_4), (pI r_5)])), ([], 4, 1, .eq (pB false)), ([], 11, 3, .eq (pI (d.nodes.length : Int))), ([], 11, 5, .eq (pB false)), ([], 11, 18, .eq (pI (d.nodes.length : Int))), ([], 11, 21, .eq (pB false)), ([], 11, 25, .eq (pI (r_3.nodes.length : Int))), ([], 11, 27, .eq (pB false))] [([], 7, (.exit 0), (stOf (go (k + 12) 7 0 143 (adv [([], 7, 3, .eq (pB true)), ([], 7, 7, .eq (pI (d.nodes.length : Int))), ([], 7, 9, .eq (pB false))]) law06DiskAdds_L7 (law06DiskAdds_S7 r_4 d.nodes d.most d.room n.kind n.modeF n.owner n.links n.openF n.up n.data n.names r_3.nodes r_3.most r_3.room v_1))))]) 14 (codeOf Try.f7) (argS 7 [(.agg [(.list 8 false (d.nodes.map NodeD.c)), (pI d.most), (pI d.room)]), (.agg [(pI n.kind), (pI n.modeF), (pI n.owner), (pI n.links), (pI n.openF), (pI n.up), (pS n.data), (.list 2 false (n.names.map entP))])]))) q22 (by kernel_rfl)
                        unfold law06DiskAdds_b14 at q23
                        try dsimp only at q23
                        rcases bif_some q23 with ⟨q27, q23⟩ | ⟨q27, q23⟩
                        · skip
                          rcases bif_some q23 with ⟨q28, q23⟩ | ⟨q28, q23⟩
                          · skip
                            obtain ⟨y_2, q29, q23⟩ := bnd_some q23
                            obtain ⟨r_6, q30, q23⟩ := bnd_some q23
                            obtain ⟨y_3, q31, q23⟩ := bnd_some q23
                            obtain ⟨r_7, q32, q23⟩ := bnd_some q23
                            obtain ⟨r_8, q33, q23⟩ := bnd_some q23
                            rcases bif_some q23 with ⟨q34, q23⟩ | ⟨q34, q23⟩
                            · skip
                              cases q23
                              try dsimp only at h
                              have q25 := run_go (k := (k + 12)) (f := 7) (r0 := 0) (nt := 143) (c := law06DiskAdds_L14) (σ := (law06DiskAdds_S14 r_4 d.nodes d.most d.room n.kind n.modeF n.owner n.links n.openF n.up n.data n.names r_3.nodes r_3.most r_3.room v_2)) (adv [([], 14, 3, .eq (pI (d.nodes.length : Int))), ([], 14, 4, .eq (pB true)), ([], 16, 3, .eq (pB true)), ([], 16, 7, .elem [(pI y_2.kind), (pI y_2.modeF), (pI y_2.owner), (pI y_2.links), (pI y_2.openF), (pI y_2.up), (pS y_2.data), (.list 2 false (y_2.names.map entP))]), ([], 16, 9, .ret (.agg [(pI r_6.kind), (pI r_6.modeF), (pI r_6.owner), (pI r_6.links), (pI r_6.openF), (pI r_6.up), (pS r_6.data), (.list 2 false (r_6.names.map entP))])), ([], 16, 13, .elem [(pI y_3.kind), (pI y_3.modeF), (pI y_3.owner), (pI y_3.links), (pI y_3.openF), (pI y_3.up), (pS y_3.data), (.list 2 false (y_3.names.map entP))]), ([], 16, 15, .ret (.agg [(pI r_7.kind), (pI r_7.modeF), (pI r_7.owner), (pI r_7.links), (pI r_7.openF), (pI r_7.up), (pS r_7.data), (.list 2 false (r_7.names.map entP))])), ([], 16, 16, .ret (pB r_8)), ([], 16, 18, .eq (pB true))]) (ex := .ret) (by kernel_rfl) (by kernel_rfl) (allC (len_ob (rfl : (d.nodes.map NodeD.c) = d.nodes.map NodeD.c)) (allC (cg q27) (allC (cg q28) (allC (gt_list (c := NodeD.c) q29) (allC (law06Node_ok (k + 11) y_2 _ q30) (allC (gt_list (c := NodeD.c) q31) (allC (gt_list (c := NodeD.c) q31) (allC (law06Node_ok (k + 11) y_3 _ q32) (allC (ref06Alike_ok (k + 10) r_6 r_7 _ q33) (allC (cg q34) allN))))))))))
                              have q26 := q24 _ _ (by intro e; cases e) q25
                              obtain rfl := Option.some.inj h
                              exact ret_go (k := (k + 12)) Try.func7 Try.ntmps7 (by kernel_rfl) (by kernel_rfl) (Nat.le_of_ble_eq_true rfl) (adv [([], 1, 1, .ret (pB r_1)), ([], 1, 2, .eq (pB false)), ([], 1, 8, .eq (pB false)), ([], 1, 11, .eq (pI (n.names.length : Int))), ([], 1, 14, .eq (pB false)), ([], 1, 19, .eq (pB false)), ([], 1, 20, .ret (pB r_2)), ([], 1, 22, .eq (pB false)), ([], 3, 2, .ret (.tup [(.agg [(.list 8 false (r_3.nodes.map NodeD.c)), (pI r_3.most), (pI r_3.room)]), (pI r_4), (pI r_5)])), ([], 4, 1, .eq (pB false)), ([], 11, 3, .eq (pI (d.nodes.length : Int))), ([], 11, 5, .eq (pB false)), ([], 11, 18, .eq (pI (d.nodes.length : Int))), ([], 11, 21, .eq (pB false)), ([], 11, 25, .eq (pI (r_3.nodes.length : Int))), ([], 11, 27, .eq (pB false))] [([], 7, (.exit 0), (stOf (go (k + 12) 7 0 143 (adv [([], 7, 3, .eq (pB true)), ([], 7, 7, .eq (pI (d.nodes.length : Int))), ([], 7, 9, .eq (pB false))]) law06DiskAdds_L7 (law06DiskAdds_S7 r_4 d.nodes d.most d.room n.kind n.modeF n.owner n.links n.openF n.up n.data n.names r_3.nodes r_3.most r_3.room v_1)))), ([], 14, .ret, (stOf (go (k + 12) 7 0 143 (adv [([], 14, 3, .eq (pI (d.nodes.length : Int))), ([], 14, 4, .eq (pB true)), ([], 16, 3, .eq (pB true)), ([], 16, 7, .elem [(pI y_2.kind), (pI y_2.modeF), (pI y_2.owner), (pI y_2.links), (pI y_2.openF), (pI y_2.up), (pS y_2.data), (.list 2 false (y_2.names.map entP))]), ([], 16, 9, .ret (.agg [(pI r_6.kind), (pI r_6.modeF), (pI r_6.owner), (pI r_6.links), (pI r_6.openF), (pI r_6.up), (pS r_6.data), (.list 2 false (r_6.names.map entP))])), ([], 16, 13, .elem [(pI y_3.kind), (pI y_3.modeF), (pI y_3.owner), (pI y_3.links), (pI y_3.openF), (pI y_3.up), (pS y_3.data), (.list 2 false (y_3.names.map entP))]), ([], 16, 15, .ret (.agg [(pI r_7.kind), (pI r_7.modeF), (pI r_7.owner), (pI r_7.links), (pI r_7.openF), (pI r_7.up), (pS r_7.data), (.list 2 false (r_7.names.map entP))])), ([], 16, 16, .ret (pB r_8)), ([], 16, 18, .eq (pB true))]) law06DiskAdds_L14 (law06DiskAdds_S14 r_4 d.nodes d.most d.room n.kind n.modeF n.owner n.links n.openF n.up n.data n.names r_3.nodes r_3.most r_3.room v_2))))]) (ex := .ret) (r := (pB false)) (by kernel_rfl) rfl (by kernel_rfl) (allC (law06Big_ok (k + 11) d _ q1) (allC (cg q2) (allC (cg q3) (allC (len_ob (rfl : (n.names.map entP) = n.names.map entP)) (allC (cg q4) (allC (cg q5) (allC (shownX_ok k  _ q6) (allC (cg q7) (allC (diskAdd_ok (k + 8) d n _ q8) (allC (cg q9) (allC q14 (allC (len_ob (rfl : (d.nodes.map NodeD.c) = d.nodes.map NodeD.c)) (allC (cg q19) (allC (len_ob (rfl : (d.nodes.map NodeD.c) = d.nodes.map NodeD.c)) (allC (cg q20) (allC (len_ob (rfl : (r_3.nodes.map NodeD.c) = r_3.nodes.map NodeD.c)) (allC (cg q21) (allC q26 allN)))))))))))))))))) (by kernel_rfl) allN
                            · skip
                              cases q23
                          · skip
                            cases q23
                        · skip
                          cases q23
                          try dsimp only at h
                          have q25 := run_go (k := (k + 12)) (f := 7) (r0 := 0) (nt := 143) (c := law06DiskAdds_L14) (σ := (law06DiskAdds_S14 r_4 d.nodes d.most d.room n.kind n.modeF n.owner n.links n.openF n.up n.data n.names r_3.nodes r_3.most r_3.room v_2)) (adv [([], 14, 3, .eq (pI (d.nodes.length : Int))), ([], 14, 4, .eq (pB false))]) (ex := (.exit 2)) (by kernel_rfl) (by kernel_rfl) (allC (len_ob (rfl : (d.nodes.map NodeD.c) = d.nodes.map NodeD.c)) (allC (cg q27) allN))
                          have q26 := q24 _ _ (by intro e; cases e) q25
                          obtain ⟨y_4, q35, h⟩ := bnd_some h
                          obtain ⟨r_9, q36, h⟩ := bnd_some h
                          obtain ⟨r_10, q37, h⟩ := bnd_some h
                          obtain ⟨r_11, q38, h⟩ := bnd_some h
                          rcases bif_some h with ⟨q39, h⟩ | ⟨q39, h⟩
                          · skip
                            obtain ⟨r_12, q40, h⟩ := bnd_some h
                            obtain ⟨r_13, q41, h⟩ := bnd_some h
                            obtain ⟨r_14, q42, h⟩ := bnd_some h
                            obtain rfl := Option.some.inj h
                            exact ret_go (k := (k + 12)) Try.func7 Try.ntmps7 (by kernel_rfl) (by kernel_rfl) (Nat.le_of_ble_eq_true rfl) (adv [([], 1, 1, .ret (pB r_1)), ([], 1, 2, .eq (pB false)), ([], 1, 8, .eq (pB false)), ([], 1, 11, .eq (pI (n.names.length : Int))), ([], 1, 14, .eq (pB false)), ([], 1, 19, .eq (pB false)), ([], 1, 20, .ret (pB r_2)), ([], 1, 22, .eq (pB false)), ([], 3, 2, .ret (.tup [(.agg [(.list 8 false (r_3.nodes.map NodeD.c)), (pI r_3.most), (pI r_3.room)]), (pI r_4), (pI r_5)])), ([], 4, 1, .eq (pB false)), ([], 11, 3, .eq (pI (d.nodes.length : Int))), ([], 11, 5, .eq (pB false)), ([], 11, 18, .eq (pI (d.nodes.length : Int))), ([], 11, 21, .eq (pB false)), ([], 11, 25, .eq (pI (r_3.nodes.length : Int))), ([], 11, 27, .eq (pB false)), ([], 18, 3, .elem [(pI y_4.kind), (pI y_4.modeF), (pI y_4.owner), (pI y_4.links), (pI y_4.openF), (pI y_4.up), (pS y_4.data), (.list 2 false (y_4.names.map entP))]), ([], 18, 5, .ret (.agg [(pI r_9.kind), (pI r_9.modeF), (pI r_9.owner), (pI r_9.links), (pI r_9.openF), (pI r_9.up), (pS r_9.data), (.list 2 false (r_9.names.map entP))])), ([], 18, 7, .ret (.agg [(pI r_10.kind), (pI r_10.modeF), (pI r_10.owner), (pI r_10.links), (pI r_10.openF), (pI r_10.up), (pS r_10.data), (.list 2 false (r_10.names.map entP))])), ([], 18, 8, .ret (pB r_11)), ([], 18, 9, .eq (pB true)), ([], 18, 11, .ret (pI r_12)), ([], 18, 13, .ret (.agg [(.list 8 false (r_13.nodes.map NodeD.c)), (pI r_13.most), (pI r_13.room)])), ([], 18, 14, .ret (pI r_14))] [([], 7, (.exit 0), (stOf (go (k + 12) 7 0 143 (adv [([], 7, 3, .eq (pB true)), ([], 7, 7, .eq (pI (d.nodes.length : Int))), ([], 7, 9, .eq (pB false))]) law06DiskAdds_L7 (law06DiskAdds_S7 r_4 d.nodes d.most d.room n.kind n.modeF n.owner n.links n.openF n.up n.data n.names r_3.nodes r_3.most r_3.room v_1)))), ([], 14, (.exit 2), (stOf (go (k + 12) 7 0 143 (adv [([], 14, 3, .eq (pI (d.nodes.length : Int))), ([], 14, 4, .eq (pB false))]) law06DiskAdds_L14 (law06DiskAdds_S14 r_4 d.nodes d.most d.room n.kind n.modeF n.owner n.links n.openF n.up n.data n.names r_3.nodes r_3.most r_3.room v_2))))]) (ex := .ret) (r := (pB (r_12 == (w64 (r_14 + (1 : Int)))))) (by kernel_rfl) rfl (by kernel_rfl) (allC (law06Big_ok (k + 11) d _ q1) (allC (cg q2) (allC (cg q3) (allC (len_ob (rfl : (n.names.map entP) = n.names.map entP)) (allC (cg q4) (allC (cg q5) (allC (shownX_ok k  _ q6) (allC (cg q7) (allC (diskAdd_ok (k + 8) d n _ q8) (allC (cg q9) (allC q14 (allC (len_ob (rfl : (d.nodes.map NodeD.c) = d.nodes.map NodeD.c)) (allC (cg q19) (allC (len_ob (rfl : (d.nodes.map NodeD.c) = d.nodes.map NodeD.c)) (allC (cg q20) (allC (len_ob (rfl : (r_3.nodes.map NodeD.c) = r_3.nodes.map NodeD.c)) (allC (cg q21) (allC q26 (allC (gt_list (c := NodeD.c) q35) (allC (law06Node_ok (k + 11) y_4 _ q36) (allC (law06Node_ok (k + 11) n _ q37) (allC (ref06Alike_ok (k + 10) r_9 r_10 _ q38) (allC (cg q39) (allC (diskUsed_ok (k + 9) r_3 _ q40) (allC (law06Its_ok (k + 10) d _ q41) (allC (ref06Used_ok (k + 11) r_13 _ q42) allN)))))))))))))))))))))))))) (by kernel_rfl) allN
                          · skip
                            obtain rfl := Option.some.inj h
                            exact ret_go (k := (k + 12)) Try.func7 Try.ntmps7 (by kernel_rfl) (by kernel_rfl) (Nat.le_of_ble_eq_true rfl) (adv [([], 1, 1, .ret (pB r_1)), ([], 1, 2, .eq (pB false)), ([], 1, 8, .eq (pB false)), ([], 1, 11, .eq (pI (n.names.length : Int))), ([], 1, 14, .eq (pB false)), ([], 1, 19, .eq (pB false)), ([], 1, 20, .ret (pB r_2)), ([], 1, 22, .eq (pB false)), ([], 3, 2, .ret (.tup [(.agg [(.list 8 false (r_3.nodes.map NodeD.c)), (pI r_3.most), (pI r_3.room)]), (pI r_4), (pI r_5)])), ([], 4, 1, .eq (pB false)), ([], 11, 3, .eq (pI (d.nodes.length : Int))), ([], 11, 5, .eq (pB false)), ([], 11, 18, .eq (pI (d.nodes.length : Int))), ([], 11, 21, .eq (pB false)), ([], 11, 25, .eq (pI (r_3.nodes.length : Int))), ([], 11, 27, .eq (pB false)), ([], 18, 3, .elem [(pI y_4.kind), (pI y_4.modeF), (pI y_4.owner), (pI y_4.links), (pI y_4.openF), (pI y_4.up), (pS y_4.data), (.list 2 false (y_4.names.map entP))]), ([], 18, 5, .ret (.agg [(pI r_9.kind), (pI r_9.modeF), (pI r_9.owner), (pI r_9.links), (pI r_9.openF), (pI r_9.up), (pS r_9.data), (.list 2 false (r_9.names.map entP))])), ([], 18, 7, .ret (.agg [(pI r_10.kind), (pI r_10.modeF), (pI r_10.owner), (pI r_10.links), (pI r_10.openF), (pI r_10.up), (pS r_10.data), (.list 2 false (r_10.names.map entP))])), ([], 18, 8, .ret (pB r_11)), ([], 18, 9, .eq (pB false))] [([], 7, (.exit 0), (stOf (go (k + 12) 7 0 143 (adv [([], 7, 3, .eq (pB true)), ([], 7, 7, .eq (pI (d.nodes.length : Int))), ([], 7, 9, .eq (pB false))]) law06DiskAdds_L7 (law06DiskAdds_S7 r_4 d.nodes d.most d.room n.kind n.modeF n.owner n.links n.openF n.up n.data n.names r_3.nodes r_3.most r_3.room v_1)))), ([], 14, (.exit 2), (stOf (go (k + 12) 7 0 143 (adv [([], 14, 3, .eq (pI (d.nodes.length : Int))), ([], 14, 4, .eq (pB false))]) law06DiskAdds_L14 (law06DiskAdds_S14 r_4 d.nodes d.most d.room n.kind n.modeF n.owner n.links n.openF n.up n.data n.names r_3.nodes r_3.most r_3.room v_2))))]) (ex := .ret) (r := (pB false)) (by kernel_rfl) rfl (by kernel_rfl) (allC (law06Big_ok (k + 11) d _ q1) (allC (cg q2) (allC (cg q3) (allC (len_ob (rfl : (n.names.map entP) = n.names.map entP)) (allC (cg q4) (allC (cg q5) (allC (shownX_ok k  _ q6) (allC (cg q7) (allC (diskAdd_ok (k + 8) d n _ q8) (allC (cg q9) (allC q14 (allC (len_ob (rfl : (d.nodes.map NodeD.c) = d.nodes.map NodeD.c)) (allC (cg q19) (allC (len_ob (rfl : (d.nodes.map NodeD.c) = d.nodes.map NodeD.c)) (allC (cg q20) (allC (len_ob (rfl : (r_3.nodes.map NodeD.c) = r_3.nodes.map NodeD.c)) (allC (cg q21) (allC q26 (allC (gt_list (c := NodeD.c) q35) (allC (law06Node_ok (k + 11) y_4 _ q36) (allC (law06Node_ok (k + 11) n _ q37) (allC (ref06Alike_ok (k + 10) r_9 r_10 _ q38) (allC (cg q39) allN))))))))))))))))))))))) (by kernel_rfl) allN
              · skip
                cases q11
                try dsimp only at h
                have q13 := run_go (k := (k + 12)) (f := 7) (r0 := 0) (nt := 143) (c := law06DiskAdds_L7) (σ := (law06DiskAdds_S7 r_4 d.nodes d.most d.room n.kind n.modeF n.owner n.links n.openF n.up n.data n.names r_3.nodes r_3.most r_3.room v_1)) (adv [([], 7, 3, .eq (pB false))]) (ex := (.exit 0)) (by kernel_rfl) (by kernel_rfl) (allC (cg q15) allN)
                have q14 := q12 _ _ (by intro e; cases e) q13
                rcases bif_some h with ⟨q19, h⟩ | ⟨q19, h⟩
                · skip
                  obtain ⟨y_2, q20, h⟩ := bnd_some h
                  rcases bif_some h with ⟨q21, h⟩ | ⟨q21, h⟩
                  · skip
                    obtain rfl := Option.some.inj h
                    exact ret_go (k := (k + 12)) Try.func7 Try.ntmps7 (by kernel_rfl) (by kernel_rfl) (Nat.le_of_ble_eq_true rfl) (adv [([], 1, 1, .ret (pB r_1)), ([], 1, 2, .eq (pB false)), ([], 1, 8, .eq (pB false)), ([], 1, 11, .eq (pI (n.names.length : Int))), ([], 1, 14, .eq (pB false)), ([], 1, 19, .eq (pB false)), ([], 1, 20, .ret (pB r_2)), ([], 1, 22, .eq (pB false)), ([], 3, 2, .ret (.tup [(.agg [(.list 8 false (r_3.nodes.map NodeD.c)), (pI r_3.most), (pI r_3.room)]), (pI r_4), (pI r_5)])), ([], 4, 1, .eq (pB false)), ([], 11, 3, .eq (pI (d.nodes.length : Int))), ([], 11, 5, .eq (pB true)), ([], 11, 9, .elem [(pI y_2.kind), (pI y_2.modeF), (pI y_2.owner), (pI y_2.links), (pI y_2.openF), (pI y_2.up), (pS y_2.data), (.list 2 false (y_2.names.map entP))]), ([], 11, 14, .eq (pB true))] [([], 7, (.exit 0), (stOf (go (k + 12) 7 0 143 (adv [([], 7, 3, .eq (pB false))]) law06DiskAdds_L7 (law06DiskAdds_S7 r_4 d.nodes d.most d.room n.kind n.modeF n.owner n.links n.openF n.up n.data n.names r_3.nodes r_3.most r_3.room v_1))))]) (ex := .ret) (r := (pB false)) (by kernel_rfl) rfl (by kernel_rfl) (allC (law06Big_ok (k + 11) d _ q1) (allC (cg q2) (allC (cg q3) (allC (len_ob (rfl : (n.names.map entP) = n.names.map entP)) (allC (cg q4) (allC (cg q5) (allC (shownX_ok k  _ q6) (allC (cg q7) (allC (diskAdd_ok (k + 8) d n _ q8) (allC (cg q9) (allC q14 (allC (len_ob (rfl : (d.nodes.map NodeD.c) = d.nodes.map NodeD.c)) (allC (cg q19) (allC (gt_list (c := NodeD.c) q20) (allC (cg q21) allN))))))))))))))) (by kernel_rfl) allN
                  · skip
                    rcases bif_some h with ⟨q22, h⟩ | ⟨q22, h⟩
                    · skip
                      obtain rfl := Option.some.inj h
                      exact ret_go (k := (k + 12)) Try.func7 Try.ntmps7 (by kernel_rfl) (by kernel_rfl) (Nat.le_of_ble_eq_true rfl) (adv [([], 1, 1, .ret (pB r_1)), ([], 1, 2, .eq (pB false)), ([], 1, 8, .eq (pB false)), ([], 1, 11, .eq (pI (n.names.length : Int))), ([], 1, 14, .eq (pB false)), ([], 1, 19, .eq (pB false)), ([], 1, 20, .ret (pB r_2)), ([], 1, 22, .eq (pB false)), ([], 3, 2, .ret (.tup [(.agg [(.list 8 false (r_3.nodes.map NodeD.c)), (pI r_3.most), (pI r_3.room)]), (pI r_4), (pI r_5)])), ([], 4, 1, .eq (pB false)), ([], 11, 3, .eq (pI (d.nodes.length : Int))), ([], 11, 5, .eq (pB true)), ([], 11, 9, .elem [(pI y_2.kind), (pI y_2.modeF), (pI y_2.owner), (pI y_2.links), (pI y_2.openF), (pI y_2.up), (pS y_2.data), (.list 2 false (y_2.names.map entP))]), ([], 11, 14, .eq (pB false)), ([], 11, 18, .eq (pI (d.nodes.length : Int))), ([], 11, 21, .eq (pB true))] [([], 7, (.exit 0), (stOf (go (k + 12) 7 0 143 (adv [([], 7, 3, .eq (pB false))]) law06DiskAdds_L7 (law06DiskAdds_S7 r_4 d.nodes d.most d.room n.kind n.modeF n.owner n.links n.openF n.up n.data n.names r_3.nodes r_3.most r_3.room v_1))))]) (ex := .ret) (r := (pB false)) (by kernel_rfl) rfl (by kernel_rfl) (allC (law06Big_ok (k + 11) d _ q1) (allC (cg q2) (allC (cg q3) (allC (len_ob (rfl : (n.names.map entP) = n.names.map entP)) (allC (cg q4) (allC (cg q5) (allC (shownX_ok k  _ q6) (allC (cg q7) (allC (diskAdd_ok (k + 8) d n _ q8) (allC (cg q9) (allC q14 (allC (len_ob (rfl : (d.nodes.map NodeD.c) = d.nodes.map NodeD.c)) (allC (cg q19) (allC (gt_list (c := NodeD.c) q20) (allC (cg q21) (allC (len_ob (rfl : (d.nodes.map NodeD.c) = d.nodes.map NodeD.c)) (allC (cg q22) allN))))))))))))))))) (by kernel_rfl) allN
                    · skip
                      rcases bif_some h with ⟨q23, h⟩ | ⟨q23, h⟩
                      · skip
                        obtain rfl := Option.some.inj h
                        exact ret_go (k := (k + 12)) Try.func7 Try.ntmps7 (by kernel_rfl) (by kernel_rfl) (Nat.le_of_ble_eq_true rfl) (adv [([], 1, 1, .ret (pB r_1)), ([], 1, 2, .eq (pB false)), ([], 1, 8, .eq (pB false)), ([], 1, 11, .eq (pI (n.names.length : Int))), ([], 1, 14, .eq (pB false)), ([], 1, 19, .eq (pB false)), ([], 1, 20, .ret (pB r_2)), ([], 1, 22, .eq (pB false)), ([], 3, 2, .ret (.tup [(.agg [(.list 8 false (r_3.nodes.map NodeD.c)), (pI r_3.most), (pI r_3.room)]), (pI r_4), (pI r_5)])), ([], 4, 1, .eq (pB false)), ([], 11, 3, .eq (pI (d.nodes.length : Int))), ([], 11, 5, .eq (pB true)), ([], 11, 9, .elem [(pI y_2.kind), (pI y_2.modeF), (pI y_2.owner), (pI y_2.links), (pI y_2.openF), (pI y_2.up), (pS y_2.data), (.list 2 false (y_2.names.map entP))]), ([], 11, 14, .eq (pB false)), ([], 11, 18, .eq (pI (d.nodes.length : Int))), ([], 11, 21, .eq (pB false)), ([], 11, 25, .eq (pI (r_3.nodes.length : Int))), ([], 11, 27, .eq (pB true))] [([], 7, (.exit 0), (stOf (go (k + 12) 7 0 143 (adv [([], 7, 3, .eq (pB false))]) law06DiskAdds_L7 (law06DiskAdds_S7 r_4 d.nodes d.most d.room n.kind n.modeF n.owner n.links n.openF n.up n.data n.names r_3.nodes r_3.most r_3.room v_1))))]) (ex := .ret) (r := (pB false)) (by kernel_rfl) rfl (by kernel_rfl) (allC (law06Big_ok (k + 11) d _ q1) (allC (cg q2) (allC (cg q3) (allC (len_ob (rfl : (n.names.map entP) = n.names.map entP)) (allC (cg q4) (allC (cg q5) (allC (shownX_ok k  _ q6) (allC (cg q7) (allC (diskAdd_ok (k + 8) d n _ q8) (allC (cg q9) (allC q14 (allC (len_ob (rfl : (d.nodes.map NodeD.c) = d.nodes.map NodeD.c)) (allC (cg q19) (allC (gt_list (c := NodeD.c) q20) (allC (cg q21) (allC (len_ob (rfl : (d.nodes.map NodeD.c) = d.nodes.map NodeD.c)) (allC (cg q22) (allC (len_ob (rfl : (r_3.nodes.map NodeD.c) = r_3.nodes.map NodeD.c)) (allC (cg q23) allN))))))))))))))))))) (by kernel_rfl) allN
                      · skip
                        obtain ⟨X_2, q24, h⟩ := bnd_some h
                        obtain ⟨v_2, q25, q26⟩ := loop_iter (f := run1 (k + 12) 7 0 143 law06DiskAdds_L14) (law06DiskAdds_S14 r_4 d.nodes d.most d.room n.kind n.modeF n.owner n.links n.openF n.up n.data n.names r_3.nodes r_3.most r_3.room) (law06DiskAdds_b14 r_4 d.nodes d.most d.room n.kind n.modeF n.owner n.links n.openF n.up n.data n.names r_3.nodes r_3.most r_3.room) (law06DiskAdds_t14 k r_4 d.nodes d.most d.room n.kind n.modeF n.owner n.links n.openF n.up n.data n.names r_3.nodes r_3.most r_3.room) LF (0 : Int) _ (stOf (goStop (k + 12) 7 0 143 (adv [([], 1, 1, .ret (pB r_1)), ([], 1, 2, .eq (pB false)), ([], 1, 8, .eq (pB false)), ([], 1, 11, .eq (pI (n.names.length : Int))), ([], 1, 14, .eq (pB false)), ([], 1, 19, .eq (pB false)), ([], 1, 20, .ret (pB r_2)), ([], 1, 22, .eq (pB false)), ([], 3, 2, .ret (.tup [(.agg [(.list 8 false (r_3.nodes.map NodeD.c)), (pI r_3.most), (pI r_3.room)]), (pI r_4), (pI r_5)])), ([], 4, 1, .eq (pB false)), ([], 11, 3, .eq (pI (d.nodes.length : Int))), ([], 11, 5, .eq (pB true)), ([], 11, 9, .elem [(pI y_2.kind), (pI y_2.modeF), (pI y_2.owner), (pI y_2.links), (pI y_2.openF), (pI y_2.up), (pS y_2.data), (.list 2 false (y_2.names.map entP))]), ([], 11, 14, .eq (pB false)), ([], 11, 18, .eq (pI (d.nodes.length : Int))), ([], 11, 21, .eq (pB false)), ([], 11, 25, .eq (pI (r_3.nodes.length : Int))), ([], 11, 27, .eq (pB false))] [([], 7, (.exit 0), (stOf (go (k + 12) 7 0 143 (adv [([], 7, 3, .eq (pB false))]) law06DiskAdds_L7 (law06DiskAdds_S7 r_4 d.nodes d.most d.room n.kind n.modeF n.owner n.links n.openF n.up n.data n.names r_3.nodes r_3.most r_3.room v_1))))]) 14 (codeOf Try.f7) (argS 7 [(.agg [(.list 8 false (d.nodes.map NodeD.c)), (pI d.most), (pI d.room)]), (.agg [(pI n.kind), (pI n.modeF), (pI n.owner), (pI n.links), (pI n.openF), (pI n.up), (pS n.data), (.list 2 false (n.names.map entP))])]))) q24 (by kernel_rfl)
                        unfold law06DiskAdds_b14 at q25
                        try dsimp only at q25
                        rcases bif_some q25 with ⟨q29, q25⟩ | ⟨q29, q25⟩
                        · skip
                          rcases bif_some q25 with ⟨q30, q25⟩ | ⟨q30, q25⟩
                          · skip
                            obtain ⟨y_3, q31, q25⟩ := bnd_some q25
                            obtain ⟨r_6, q32, q25⟩ := bnd_some q25
                            obtain ⟨y_4, q33, q25⟩ := bnd_some q25
                            obtain ⟨r_7, q34, q25⟩ := bnd_some q25
                            obtain ⟨r_8, q35, q25⟩ := bnd_some q25
                            rcases bif_some q25 with ⟨q36, q25⟩ | ⟨q36, q25⟩
                            · skip
                              cases q25
                              try dsimp only at h
                              have q27 := run_go (k := (k + 12)) (f := 7) (r0 := 0) (nt := 143) (c := law06DiskAdds_L14) (σ := (law06DiskAdds_S14 r_4 d.nodes d.most d.room n.kind n.modeF n.owner n.links n.openF n.up n.data n.names r_3.nodes r_3.most r_3.room v_2)) (adv [([], 14, 3, .eq (pI (d.nodes.length : Int))), ([], 14, 4, .eq (pB true)), ([], 16, 3, .eq (pB true)), ([], 16, 7, .elem [(pI y_3.kind), (pI y_3.modeF), (pI y_3.owner), (pI y_3.links), (pI y_3.openF), (pI y_3.up), (pS y_3.data), (.list 2 false (y_3.names.map entP))]), ([], 16, 9, .ret (.agg [(pI r_6.kind), (pI r_6.modeF), (pI r_6.owner), (pI r_6.links), (pI r_6.openF), (pI r_6.up), (pS r_6.data), (.list 2 false (r_6.names.map entP))])), ([], 16, 13, .elem [(pI y_4.kind), (pI y_4.modeF), (pI y_4.owner), (pI y_4.links), (pI y_4.openF), (pI y_4.up), (pS y_4.data), (.list 2 false (y_4.names.map entP))]), ([], 16, 15, .ret (.agg [(pI r_7.kind), (pI r_7.modeF), (pI r_7.owner), (pI r_7.links), (pI r_7.openF), (pI r_7.up), (pS r_7.data), (.list 2 false (r_7.names.map entP))])), ([], 16, 16, .ret (pB r_8)), ([], 16, 18, .eq (pB true))]) (ex := .ret) (by kernel_rfl) (by kernel_rfl) (allC (len_ob (rfl : (d.nodes.map NodeD.c) = d.nodes.map NodeD.c)) (allC (cg q29) (allC (cg q30) (allC (gt_list (c := NodeD.c) q31) (allC (law06Node_ok (k + 11) y_3 _ q32) (allC (gt_list (c := NodeD.c) q33) (allC (gt_list (c := NodeD.c) q33) (allC (law06Node_ok (k + 11) y_4 _ q34) (allC (ref06Alike_ok (k + 10) r_6 r_7 _ q35) (allC (cg q36) allN))))))))))
                              have q28 := q26 _ _ (by intro e; cases e) q27
                              obtain rfl := Option.some.inj h
                              exact ret_go (k := (k + 12)) Try.func7 Try.ntmps7 (by kernel_rfl) (by kernel_rfl) (Nat.le_of_ble_eq_true rfl) (adv [([], 1, 1, .ret (pB r_1)), ([], 1, 2, .eq (pB false)), ([], 1, 8, .eq (pB false)), ([], 1, 11, .eq (pI (n.names.length : Int))), ([], 1, 14, .eq (pB false)), ([], 1, 19, .eq (pB false)), ([], 1, 20, .ret (pB r_2)), ([], 1, 22, .eq (pB false)), ([], 3, 2, .ret (.tup [(.agg [(.list 8 false (r_3.nodes.map NodeD.c)), (pI r_3.most), (pI r_3.room)]), (pI r_4), (pI r_5)])), ([], 4, 1, .eq (pB false)), ([], 11, 3, .eq (pI (d.nodes.length : Int))), ([], 11, 5, .eq (pB true)), ([], 11, 9, .elem [(pI y_2.kind), (pI y_2.modeF), (pI y_2.owner), (pI y_2.links), (pI y_2.openF), (pI y_2.up), (pS y_2.data), (.list 2 false (y_2.names.map entP))]), ([], 11, 14, .eq (pB false)), ([], 11, 18, .eq (pI (d.nodes.length : Int))), ([], 11, 21, .eq (pB false)), ([], 11, 25, .eq (pI (r_3.nodes.length : Int))), ([], 11, 27, .eq (pB false))] [([], 7, (.exit 0), (stOf (go (k + 12) 7 0 143 (adv [([], 7, 3, .eq (pB false))]) law06DiskAdds_L7 (law06DiskAdds_S7 r_4 d.nodes d.most d.room n.kind n.modeF n.owner n.links n.openF n.up n.data n.names r_3.nodes r_3.most r_3.room v_1)))), ([], 14, .ret, (stOf (go (k + 12) 7 0 143 (adv [([], 14, 3, .eq (pI (d.nodes.length : Int))), ([], 14, 4, .eq (pB true)), ([], 16, 3, .eq (pB true)), ([], 16, 7, .elem [(pI y_3.kind), (pI y_3.modeF), (pI y_3.owner), (pI y_3.links), (pI y_3.openF), (pI y_3.up), (pS y_3.data), (.list 2 false (y_3.names.map entP))]), ([], 16, 9, .ret (.agg [(pI r_6.kind), (pI r_6.modeF), (pI r_6.owner), (pI r_6.links), (pI r_6.openF), (pI r_6.up), (pS r_6.data), (.list 2 false (r_6.names.map entP))])), ([], 16, 13, .elem [(pI y_4.kind), (pI y_4.modeF), (pI y_4.owner), (pI y_4.links), (pI y_4.openF), (pI y_4.up), (pS y_4.data), (.list 2 false (y_4.names.map entP))]), ([], 16, 15, .ret (.agg [(pI r_7.kind), (pI r_7.modeF), (pI r_7.owner), (pI r_7.links), (pI r_7.openF), (pI r_7.up), (pS r_7.data), (.list 2 false (r_7.names.map entP))])), ([], 16, 16, .ret (pB r_8)), ([], 16, 18, .eq (pB true))]) law06DiskAdds_L14 (law06DiskAdds_S14 r_4 d.nodes d.most d.room n.kind n.modeF n.owner n.links n.openF n.up n.data n.names r_3.nodes r_3.most r_3.room v_2))))]) (ex := .ret) (r := (pB false)) (by kernel_rfl) rfl (by kernel_rfl) (allC (law06Big_ok (k + 11) d _ q1) (allC (cg q2) (allC (cg q3) (allC (len_ob (rfl : (n.names.map entP) = n.names.map entP)) (allC (cg q4) (allC (cg q5) (allC (shownX_ok k  _ q6) (allC (cg q7) (allC (diskAdd_ok (k + 8) d n _ q8) (allC (cg q9) (allC q14 (allC (len_ob (rfl : (d.nodes.map NodeD.c) = d.nodes.map NodeD.c)) (allC (cg q19) (allC (gt_list (c := NodeD.c) q20) (allC (cg q21) (allC (len_ob (rfl : (d.nodes.map NodeD.c) = d.nodes.map NodeD.c)) (allC (cg q22) (allC (len_ob (rfl : (r_3.nodes.map NodeD.c) = r_3.nodes.map NodeD.c)) (allC (cg q23) (allC q28 allN)))))))))))))))))))) (by kernel_rfl) allN
                            · skip
                              cases q25
                          · skip
                            cases q25
                        · skip
                          cases q25
                          try dsimp only at h
                          have q27 := run_go (k := (k + 12)) (f := 7) (r0 := 0) (nt := 143) (c := law06DiskAdds_L14) (σ := (law06DiskAdds_S14 r_4 d.nodes d.most d.room n.kind n.modeF n.owner n.links n.openF n.up n.data n.names r_3.nodes r_3.most r_3.room v_2)) (adv [([], 14, 3, .eq (pI (d.nodes.length : Int))), ([], 14, 4, .eq (pB false))]) (ex := (.exit 2)) (by kernel_rfl) (by kernel_rfl) (allC (len_ob (rfl : (d.nodes.map NodeD.c) = d.nodes.map NodeD.c)) (allC (cg q29) allN))
                          have q28 := q26 _ _ (by intro e; cases e) q27
                          obtain ⟨y_5, q37, h⟩ := bnd_some h
                          obtain ⟨r_9, q38, h⟩ := bnd_some h
                          obtain ⟨r_10, q39, h⟩ := bnd_some h
                          obtain ⟨r_11, q40, h⟩ := bnd_some h
                          rcases bif_some h with ⟨q41, h⟩ | ⟨q41, h⟩
                          · skip
                            obtain ⟨r_12, q42, h⟩ := bnd_some h
                            obtain ⟨r_13, q43, h⟩ := bnd_some h
                            obtain ⟨r_14, q44, h⟩ := bnd_some h
                            obtain rfl := Option.some.inj h
                            exact ret_go (k := (k + 12)) Try.func7 Try.ntmps7 (by kernel_rfl) (by kernel_rfl) (Nat.le_of_ble_eq_true rfl) (adv [([], 1, 1, .ret (pB r_1)), ([], 1, 2, .eq (pB false)), ([], 1, 8, .eq (pB false)), ([], 1, 11, .eq (pI (n.names.length : Int))), ([], 1, 14, .eq (pB false)), ([], 1, 19, .eq (pB false)), ([], 1, 20, .ret (pB r_2)), ([], 1, 22, .eq (pB false)), ([], 3, 2, .ret (.tup [(.agg [(.list 8 false (r_3.nodes.map NodeD.c)), (pI r_3.most), (pI r_3.room)]), (pI r_4), (pI r_5)])), ([], 4, 1, .eq (pB false)), ([], 11, 3, .eq (pI (d.nodes.length : Int))), ([], 11, 5, .eq (pB true)), ([], 11, 9, .elem [(pI y_2.kind), (pI y_2.modeF), (pI y_2.owner), (pI y_2.links), (pI y_2.openF), (pI y_2.up), (pS y_2.data), (.list 2 false (y_2.names.map entP))]), ([], 11, 14, .eq (pB false)), ([], 11, 18, .eq (pI (d.nodes.length : Int))), ([], 11, 21, .eq (pB false)), ([], 11, 25, .eq (pI (r_3.nodes.length : Int))), ([], 11, 27, .eq (pB false)), ([], 18, 3, .elem [(pI y_5.kind), (pI y_5.modeF), (pI y_5.owner), (pI y_5.links), (pI y_5.openF), (pI y_5.up), (pS y_5.data), (.list 2 false (y_5.names.map entP))]), ([], 18, 5, .ret (.agg [(pI r_9.kind), (pI r_9.modeF), (pI r_9.owner), (pI r_9.links), (pI r_9.openF), (pI r_9.up), (pS r_9.data), (.list 2 false (r_9.names.map entP))])), ([], 18, 7, .ret (.agg [(pI r_10.kind), (pI r_10.modeF), (pI r_10.owner), (pI r_10.links), (pI r_10.openF), (pI r_10.up), (pS r_10.data), (.list 2 false (r_10.names.map entP))])), ([], 18, 8, .ret (pB r_11)), ([], 18, 9, .eq (pB true)), ([], 18, 11, .ret (pI r_12)), ([], 18, 13, .ret (.agg [(.list 8 false (r_13.nodes.map NodeD.c)), (pI r_13.most), (pI r_13.room)])), ([], 18, 14, .ret (pI r_14))] [([], 7, (.exit 0), (stOf (go (k + 12) 7 0 143 (adv [([], 7, 3, .eq (pB false))]) law06DiskAdds_L7 (law06DiskAdds_S7 r_4 d.nodes d.most d.room n.kind n.modeF n.owner n.links n.openF n.up n.data n.names r_3.nodes r_3.most r_3.room v_1)))), ([], 14, (.exit 2), (stOf (go (k + 12) 7 0 143 (adv [([], 14, 3, .eq (pI (d.nodes.length : Int))), ([], 14, 4, .eq (pB false))]) law06DiskAdds_L14 (law06DiskAdds_S14 r_4 d.nodes d.most d.room n.kind n.modeF n.owner n.links n.openF n.up n.data n.names r_3.nodes r_3.most r_3.room v_2))))]) (ex := .ret) (r := (pB (r_12 == (w64 (r_14 + (1 : Int)))))) (by kernel_rfl) rfl (by kernel_rfl) (allC (law06Big_ok (k + 11) d _ q1) (allC (cg q2) (allC (cg q3) (allC (len_ob (rfl : (n.names.map entP) = n.names.map entP)) (allC (cg q4) (allC (cg q5) (allC (shownX_ok k  _ q6) (allC (cg q7) (allC (diskAdd_ok (k + 8) d n _ q8) (allC (cg q9) (allC q14 (allC (len_ob (rfl : (d.nodes.map NodeD.c) = d.nodes.map NodeD.c)) (allC (cg q19) (allC (gt_list (c := NodeD.c) q20) (allC (cg q21) (allC (len_ob (rfl : (d.nodes.map NodeD.c) = d.nodes.map NodeD.c)) (allC (cg q22) (allC (len_ob (rfl : (r_3.nodes.map NodeD.c) = r_3.nodes.map NodeD.c)) (allC (cg q23) (allC q28 (allC (gt_list (c := NodeD.c) q37) (allC (law06Node_ok (k + 11) y_5 _ q38) (allC (law06Node_ok (k + 11) n _ q39) (allC (ref06Alike_ok (k + 10) r_9 r_10 _ q40) (allC (cg q41) (allC (diskUsed_ok (k + 9) r_3 _ q42) (allC (law06Its_ok (k + 10) d _ q43) (allC (ref06Used_ok (k + 11) r_13 _ q44) allN)))))))))))))))))))))))))))) (by kernel_rfl) allN
                          · skip
                            obtain rfl := Option.some.inj h
                            exact ret_go (k := (k + 12)) Try.func7 Try.ntmps7 (by kernel_rfl) (by kernel_rfl) (Nat.le_of_ble_eq_true rfl) (adv [([], 1, 1, .ret (pB r_1)), ([], 1, 2, .eq (pB false)), ([], 1, 8, .eq (pB false)), ([], 1, 11, .eq (pI (n.names.length : Int))), ([], 1, 14, .eq (pB false)), ([], 1, 19, .eq (pB false)), ([], 1, 20, .ret (pB r_2)), ([], 1, 22, .eq (pB false)), ([], 3, 2, .ret (.tup [(.agg [(.list 8 false (r_3.nodes.map NodeD.c)), (pI r_3.most), (pI r_3.room)]), (pI r_4), (pI r_5)])), ([], 4, 1, .eq (pB false)), ([], 11, 3, .eq (pI (d.nodes.length : Int))), ([], 11, 5, .eq (pB true)), ([], 11, 9, .elem [(pI y_2.kind), (pI y_2.modeF), (pI y_2.owner), (pI y_2.links), (pI y_2.openF), (pI y_2.up), (pS y_2.data), (.list 2 false (y_2.names.map entP))]), ([], 11, 14, .eq (pB false)), ([], 11, 18, .eq (pI (d.nodes.length : Int))), ([], 11, 21, .eq (pB false)), ([], 11, 25, .eq (pI (r_3.nodes.length : Int))), ([], 11, 27, .eq (pB false)), ([], 18, 3, .elem [(pI y_5.kind), (pI y_5.modeF), (pI y_5.owner), (pI y_5.links), (pI y_5.openF), (pI y_5.up), (pS y_5.data), (.list 2 false (y_5.names.map entP))]), ([], 18, 5, .ret (.agg [(pI r_9.kind), (pI r_9.modeF), (pI r_9.owner), (pI r_9.links), (pI r_9.openF), (pI r_9.up), (pS r_9.data), (.list 2 false (r_9.names.map entP))])), ([], 18, 7, .ret (.agg [(pI r_10.kind), (pI r_10.modeF), (pI r_10.owner), (pI r_10.links), (pI r_10.openF), (pI r_10.up), (pS r_10.data), (.list 2 false (r_10.names.map entP))])), ([], 18, 8, .ret (pB r_11)), ([], 18, 9, .eq (pB false))] [([], 7, (.exit 0), (stOf (go (k + 12) 7 0 143 (adv [([], 7, 3, .eq (pB false))]) law06DiskAdds_L7 (law06DiskAdds_S7 r_4 d.nodes d.most d.room n.kind n.modeF n.owner n.links n.openF n.up n.data n.names r_3.nodes r_3.most r_3.room v_1)))), ([], 14, (.exit 2), (stOf (go (k + 12) 7 0 143 (adv [([], 14, 3, .eq (pI (d.nodes.length : Int))), ([], 14, 4, .eq (pB false))]) law06DiskAdds_L14 (law06DiskAdds_S14 r_4 d.nodes d.most d.room n.kind n.modeF n.owner n.links n.openF n.up n.data n.names r_3.nodes r_3.most r_3.room v_2))))]) (ex := .ret) (r := (pB false)) (by kernel_rfl) rfl (by kernel_rfl) (allC (law06Big_ok (k + 11) d _ q1) (allC (cg q2) (allC (cg q3) (allC (len_ob (rfl : (n.names.map entP) = n.names.map entP)) (allC (cg q4) (allC (cg q5) (allC (shownX_ok k  _ q6) (allC (cg q7) (allC (diskAdd_ok (k + 8) d n _ q8) (allC (cg q9) (allC q14 (allC (len_ob (rfl : (d.nodes.map NodeD.c) = d.nodes.map NodeD.c)) (allC (cg q19) (allC (gt_list (c := NodeD.c) q20) (allC (cg q21) (allC (len_ob (rfl : (d.nodes.map NodeD.c) = d.nodes.map NodeD.c)) (allC (cg q22) (allC (len_ob (rfl : (r_3.nodes.map NodeD.c) = r_3.nodes.map NodeD.c)) (allC (cg q23) (allC q28 (allC (gt_list (c := NodeD.c) q37) (allC (law06Node_ok (k + 11) y_5 _ q38) (allC (law06Node_ok (k + 11) n _ q39) (allC (ref06Alike_ok (k + 10) r_9 r_10 _ q40) (allC (cg q41) allN))))))))))))))))))))))))) (by kernel_rfl) allN
                · skip
                  rcases bif_some h with ⟨q20, h⟩ | ⟨q20, h⟩
                  · skip
                    obtain rfl := Option.some.inj h
                    exact ret_go (k := (k + 12)) Try.func7 Try.ntmps7 (by kernel_rfl) (by kernel_rfl) (Nat.le_of_ble_eq_true rfl) (adv [([], 1, 1, .ret (pB r_1)), ([], 1, 2, .eq (pB false)), ([], 1, 8, .eq (pB false)), ([], 1, 11, .eq (pI (n.names.length : Int))), ([], 1, 14, .eq (pB false)), ([], 1, 19, .eq (pB false)), ([], 1, 20, .ret (pB r_2)), ([], 1, 22, .eq (pB false)), ([], 3, 2, .ret (.tup [(.agg [(.list 8 false (r_3.nodes.map NodeD.c)), (pI r_3.most), (pI r_3.room)]), (pI r_4), (pI r_5)])), ([], 4, 1, .eq (pB false)), ([], 11, 3, .eq (pI (d.nodes.length : Int))), ([], 11, 5, .eq (pB false)), ([], 11, 18, .eq (pI (d.nodes.length : Int))), ([], 11, 21, .eq (pB true))] [([], 7, (.exit 0), (stOf (go (k + 12) 7 0 143 (adv [([], 7, 3, .eq (pB false))]) law06DiskAdds_L7 (law06DiskAdds_S7 r_4 d.nodes d.most d.room n.kind n.modeF n.owner n.links n.openF n.up n.data n.names r_3.nodes r_3.most r_3.room v_1))))]) (ex := .ret) (r := (pB false)) (by kernel_rfl) rfl (by kernel_rfl) (allC (law06Big_ok (k + 11) d _ q1) (allC (cg q2) (allC (cg q3) (allC (len_ob (rfl : (n.names.map entP) = n.names.map entP)) (allC (cg q4) (allC (cg q5) (allC (shownX_ok k  _ q6) (allC (cg q7) (allC (diskAdd_ok (k + 8) d n _ q8) (allC (cg q9) (allC q14 (allC (len_ob (rfl : (d.nodes.map NodeD.c) = d.nodes.map NodeD.c)) (allC (cg q19) (allC (len_ob (rfl : (d.nodes.map NodeD.c) = d.nodes.map NodeD.c)) (allC (cg q20) allN))))))))))))))) (by kernel_rfl) allN
                  · skip
                    rcases bif_some h with ⟨q21, h⟩ | ⟨q21, h⟩
                    · skip
                      obtain rfl := Option.some.inj h
                      exact ret_go (k := (k + 12)) Try.func7 Try.ntmps7 (by kernel_rfl) (by kernel_rfl) (Nat.le_of_ble_eq_true rfl) (adv [([], 1, 1, .ret (pB r_1)), ([], 1, 2, .eq (pB false)), ([], 1, 8, .eq (pB false)), ([], 1, 11, .eq (pI (n.names.length : Int))), ([], 1, 14, .eq (pB false)), ([], 1, 19, .eq (pB false)), ([], 1, 20, .ret (pB r_2)), ([], 1, 22, .eq (pB false)), ([], 3, 2, .ret (.tup [(.agg [(.list 8 false (r_3.nodes.map NodeD.c)), (pI r_3.most), (pI r_3.room)]), (pI r_4), (pI r_5)])), ([], 4, 1, .eq (pB false)), ([], 11, 3, .eq (pI (d.nodes.length : Int))), ([], 11, 5, .eq (pB false)), ([], 11, 18, .eq (pI (d.nodes.length : Int))), ([], 11, 21, .eq (pB false)), ([], 11, 25, .eq (pI (r_3.nodes.length : Int))), ([], 11, 27, .eq (pB true))] [([], 7, (.exit 0), (stOf (go (k + 12) 7 0 143 (adv [([], 7, 3, .eq (pB false))]) law06DiskAdds_L7 (law06DiskAdds_S7 r_4 d.nodes d.most d.room n.kind n.modeF n.owner n.links n.openF n.up n.data n.names r_3.nodes r_3.most r_3.room v_1))))]) (ex := .ret) (r := (pB false)) (by kernel_rfl) rfl (by kernel_rfl) (allC (law06Big_ok (k + 11) d _ q1) (allC (cg q2) (allC (cg q3) (allC (len_ob (rfl : (n.names.map entP) = n.names.map entP)) (allC (cg q4) (allC (cg q5) (allC (shownX_ok k  _ q6) (allC (cg q7) (allC (diskAdd_ok (k + 8) d n _ q8) (allC (cg q9) (allC q14 (allC (len_ob (rfl : (d.nodes.map NodeD.c) = d.nodes.map NodeD.c)) (allC (cg q19) (allC (len_ob (rfl : (d.nodes.map NodeD.c) = d.nodes.map NodeD.c)) (allC (cg q20) (allC (len_ob (rfl : (r_3.nodes.map NodeD.c) = r_3.nodes.map NodeD.c)) (allC (cg q21) allN))))))))))))))))) (by kernel_rfl) allN
                    · skip
                      obtain ⟨X_2, q22, h⟩ := bnd_some h
                      obtain ⟨v_2, q23, q24⟩ := loop_iter (f := run1 (k + 12) 7 0 143 law06DiskAdds_L14) (law06DiskAdds_S14 r_4 d.nodes d.most d.room n.kind n.modeF n.owner n.links n.openF n.up n.data n.names r_3.nodes r_3.most r_3.room) (law06DiskAdds_b14 r_4 d.nodes d.most d.room n.kind n.modeF n.owner n.links n.openF n.up n.data n.names r_3.nodes r_3.most r_3.room) (law06DiskAdds_t14 k r_4 d.nodes d.most d.room n.kind n.modeF n.owner n.links n.openF n.up n.data n.names r_3.nodes r_3.most r_3.room) LF (0 : Int) _ (stOf (goStop (k + 12) 7 0 143 (adv [([], 1, 1, .ret (pB r_1)), ([], 1, 2, .eq (pB false)), ([], 1, 8, .eq (pB false)), ([], 1, 11, .eq (pI (n.names.length : Int))), ([], 1, 14, .eq (pB false)), ([], 1, 19, .eq (pB false)), ([], 1, 20, .ret (pB r_2)), ([], 1, 22, .eq (pB false)), ([], 3, 2, .ret (.tup [(.agg [(.list 8 false (r_3.nodes.map NodeD.c)), (pI r_3.most), (pI r_3.room)]), (pI r_4), (pI r_5)])), ([], 4, 1, .eq (pB false)), ([], 11, 3, .eq (pI (d.nodes.length : Int))), ([], 11, 5, .eq (pB false)), ([], 11, 18, .eq (pI (d.nodes.length : Int))), ([], 11, 21, .eq (pB false)), ([], 11, 25, .eq (pI (r_3.nodes.length : Int))), ([], 11, 27, .eq (pB false))] [([], 7, (.exit 0), (stOf (go (k + 12) 7 0 143 (adv [([], 7, 3, .eq (pB false))]) law06DiskAdds_L7 (law06DiskAdds_S7 r_4 d.nodes d.most d.room n.kind n.modeF n.owner n.links n.openF n.up n.data n.names r_3.nodes r_3.most r_3.room v_1))))]) 14 (codeOf Try.f7) (argS 7 [(.agg [(.list 8 false (d.nodes.map NodeD.c)), (pI d.most), (pI d.room)]), (.agg [(pI n.kind), (pI n.modeF), (pI n.owner), (pI n.links), (pI n.openF), (pI n.up), (pS n.data), (.list 2 false (n.names.map entP))])]))) q22 (by kernel_rfl)
                      unfold law06DiskAdds_b14 at q23
                      try dsimp only at q23
                      rcases bif_some q23 with ⟨q27, q23⟩ | ⟨q27, q23⟩
                      · skip
                        rcases bif_some q23 with ⟨q28, q23⟩ | ⟨q28, q23⟩
                        · skip
                          obtain ⟨y_2, q29, q23⟩ := bnd_some q23
                          obtain ⟨r_6, q30, q23⟩ := bnd_some q23
                          obtain ⟨y_3, q31, q23⟩ := bnd_some q23
                          obtain ⟨r_7, q32, q23⟩ := bnd_some q23
                          obtain ⟨r_8, q33, q23⟩ := bnd_some q23
                          rcases bif_some q23 with ⟨q34, q23⟩ | ⟨q34, q23⟩
                          · skip
                            cases q23
                            try dsimp only at h
                            have q25 := run_go (k := (k + 12)) (f := 7) (r0 := 0) (nt := 143) (c := law06DiskAdds_L14) (σ := (law06DiskAdds_S14 r_4 d.nodes d.most d.room n.kind n.modeF n.owner n.links n.openF n.up n.data n.names r_3.nodes r_3.most r_3.room v_2)) (adv [([], 14, 3, .eq (pI (d.nodes.length : Int))), ([], 14, 4, .eq (pB true)), ([], 16, 3, .eq (pB true)), ([], 16, 7, .elem [(pI y_2.kind), (pI y_2.modeF), (pI y_2.owner), (pI y_2.links), (pI y_2.openF), (pI y_2.up), (pS y_2.data), (.list 2 false (y_2.names.map entP))]), ([], 16, 9, .ret (.agg [(pI r_6.kind), (pI r_6.modeF), (pI r_6.owner), (pI r_6.links), (pI r_6.openF), (pI r_6.up), (pS r_6.data), (.list 2 false (r_6.names.map entP))])), ([], 16, 13, .elem [(pI y_3.kind), (pI y_3.modeF), (pI y_3.owner), (pI y_3.links), (pI y_3.openF), (pI y_3.up), (pS y_3.data), (.list 2 false (y_3.names.map entP))]), ([], 16, 15, .ret (.agg [(pI r_7.kind), (pI r_7.modeF), (pI r_7.owner), (pI r_7.links), (pI r_7.openF), (pI r_7.up), (pS r_7.data), (.list 2 false (r_7.names.map entP))])), ([], 16, 16, .ret (pB r_8)), ([], 16, 18, .eq (pB true))]) (ex := .ret) (by kernel_rfl) (by kernel_rfl) (allC (len_ob (rfl : (d.nodes.map NodeD.c) = d.nodes.map NodeD.c)) (allC (cg q27) (allC (cg q28) (allC (gt_list (c := NodeD.c) q29) (allC (law06Node_ok (k + 11) y_2 _ q30) (allC (gt_list (c := NodeD.c) q31) (allC (gt_list (c := NodeD.c) q31) (allC (law06Node_ok (k + 11) y_3 _ q32) (allC (ref06Alike_ok (k + 10) r_6 r_7 _ q33) (allC (cg q34) allN))))))))))
                            have q26 := q24 _ _ (by intro e; cases e) q25
                            obtain rfl := Option.some.inj h
                            exact ret_go (k := (k + 12)) Try.func7 Try.ntmps7 (by kernel_rfl) (by kernel_rfl) (Nat.le_of_ble_eq_true rfl) (adv [([], 1, 1, .ret (pB r_1)), ([], 1, 2, .eq (pB false)), ([], 1, 8, .eq (pB false)), ([], 1, 11, .eq (pI (n.names.length : Int))), ([], 1, 14, .eq (pB false)), ([], 1, 19, .eq (pB false)), ([], 1, 20, .ret (pB r_2)), ([], 1, 22, .eq (pB false)), ([], 3, 2, .ret (.tup [(.agg [(.list 8 false (r_3.nodes.map NodeD.c)), (pI r_3.most), (pI r_3.room)]), (pI r_4), (pI r_5)])), ([], 4, 1, .eq (pB false)), ([], 11, 3, .eq (pI (d.nodes.length : Int))), ([], 11, 5, .eq (pB false)), ([], 11, 18, .eq (pI (d.nodes.length : Int))), ([], 11, 21, .eq (pB false)), ([], 11, 25, .eq (pI (r_3.nodes.length : Int))), ([], 11, 27, .eq (pB false))] [([], 7, (.exit 0), (stOf (go (k + 12) 7 0 143 (adv [([], 7, 3, .eq (pB false))]) law06DiskAdds_L7 (law06DiskAdds_S7 r_4 d.nodes d.most d.room n.kind n.modeF n.owner n.links n.openF n.up n.data n.names r_3.nodes r_3.most r_3.room v_1)))), ([], 14, .ret, (stOf (go (k + 12) 7 0 143 (adv [([], 14, 3, .eq (pI (d.nodes.length : Int))), ([], 14, 4, .eq (pB true)), ([], 16, 3, .eq (pB true)), ([], 16, 7, .elem [(pI y_2.kind), (pI y_2.modeF), (pI y_2.owner), (pI y_2.links), (pI y_2.openF), (pI y_2.up), (pS y_2.data), (.list 2 false (y_2.names.map entP))]), ([], 16, 9, .ret (.agg [(pI r_6.kind), (pI r_6.modeF), (pI r_6.owner), (pI r_6.links), (pI r_6.openF), (pI r_6.up), (pS r_6.data), (.list 2 false (r_6.names.map entP))])), ([], 16, 13, .elem [(pI y_3.kind), (pI y_3.modeF), (pI y_3.owner), (pI y_3.links), (pI y_3.openF), (pI y_3.up), (pS y_3.data), (.list 2 false (y_3.names.map entP))]), ([], 16, 15, .ret (.agg [(pI r_7.kind), (pI r_7.modeF), (pI r_7.owner), (pI r_7.links), (pI r_7.openF), (pI r_7.up), (pS r_7.data), (.list 2 false (r_7.names.map entP))])), ([], 16, 16, .ret (pB r_8)), ([], 16, 18, .eq (pB true))]) law06DiskAdds_L14 (law06DiskAdds_S14 r_4 d.nodes d.most d.room n.kind n.modeF n.owner n.links n.openF n.up n.data n.names r_3.nodes r_3.most r_3.room v_2))))]) (ex := .ret) (r := (pB false)) (by kernel_rfl) rfl (by kernel_rfl) (allC (law06Big_ok (k + 11) d _ q1) (allC (cg q2) (allC (cg q3) (allC (len_ob (rfl : (n.names.map entP) = n.names.map entP)) (allC (cg q4) (allC (cg q5) (allC (shownX_ok k  _ q6) (allC (cg q7) (allC (diskAdd_ok (k + 8) d n _ q8) (allC (cg q9) (allC q14 (allC (len_ob (rfl : (d.nodes.map NodeD.c) = d.nodes.map NodeD.c)) (allC (cg q19) (allC (len_ob (rfl : (d.nodes.map NodeD.c) = d.nodes.map NodeD.c)) (allC (cg q20) (allC (len_ob (rfl : (r_3.nodes.map NodeD.c) = r_3.nodes.map NodeD.c)) (allC (cg q21) (allC q26 allN)))))))))))))))))) (by kernel_rfl) allN
                          · skip
                            cases q23
                        · skip
                          cases q23
                      · skip
                        cases q23
                        try dsimp only at h
                        have q25 := run_go (k := (k + 12)) (f := 7) (r0 := 0) (nt := 143) (c := law06DiskAdds_L14) (σ := (law06DiskAdds_S14 r_4 d.nodes d.most d.room n.kind n.modeF n.owner n.links n.openF n.up n.data n.names r_3.nodes r_3.most r_3.room v_2)) (adv [([], 14, 3, .eq (pI (d.nodes.length : Int))), ([], 14, 4, .eq (pB false))]) (ex := (.exit 2)) (by kernel_rfl) (by kernel_rfl) (allC (len_ob (rfl : (d.nodes.map NodeD.c) = d.nodes.map NodeD.c)) (allC (cg q27) allN))
                        have q26 := q24 _ _ (by intro e; cases e) q25
                        obtain ⟨y_4, q35, h⟩ := bnd_some h
                        obtain ⟨r_9, q36, h⟩ := bnd_some h
                        obtain ⟨r_10, q37, h⟩ := bnd_some h
                        obtain ⟨r_11, q38, h⟩ := bnd_some h
                        rcases bif_some h with ⟨q39, h⟩ | ⟨q39, h⟩
                        · skip
                          obtain ⟨r_12, q40, h⟩ := bnd_some h
                          obtain ⟨r_13, q41, h⟩ := bnd_some h
                          obtain ⟨r_14, q42, h⟩ := bnd_some h
                          obtain rfl := Option.some.inj h
                          exact ret_go (k := (k + 12)) Try.func7 Try.ntmps7 (by kernel_rfl) (by kernel_rfl) (Nat.le_of_ble_eq_true rfl) (adv [([], 1, 1, .ret (pB r_1)), ([], 1, 2, .eq (pB false)), ([], 1, 8, .eq (pB false)), ([], 1, 11, .eq (pI (n.names.length : Int))), ([], 1, 14, .eq (pB false)), ([], 1, 19, .eq (pB false)), ([], 1, 20, .ret (pB r_2)), ([], 1, 22, .eq (pB false)), ([], 3, 2, .ret (.tup [(.agg [(.list 8 false (r_3.nodes.map NodeD.c)), (pI r_3.most), (pI r_3.room)]), (pI r_4), (pI r_5)])), ([], 4, 1, .eq (pB false)), ([], 11, 3, .eq (pI (d.nodes.length : Int))), ([], 11, 5, .eq (pB false)), ([], 11, 18, .eq (pI (d.nodes.length : Int))), ([], 11, 21, .eq (pB false)), ([], 11, 25, .eq (pI (r_3.nodes.length : Int))), ([], 11, 27, .eq (pB false)), ([], 18, 3, .elem [(pI y_4.kind), (pI y_4.modeF), (pI y_4.owner), (pI y_4.links), (pI y_4.openF), (pI y_4.up), (pS y_4.data), (.list 2 false (y_4.names.map entP))]), ([], 18, 5, .ret (.agg [(pI r_9.kind), (pI r_9.modeF), (pI r_9.owner), (pI r_9.links), (pI r_9.openF), (pI r_9.up), (pS r_9.data), (.list 2 false (r_9.names.map entP))])), ([], 18, 7, .ret (.agg [(pI r_10.kind), (pI r_10.modeF), (pI r_10.owner), (pI r_10.links), (pI r_10.openF), (pI r_10.up), (pS r_10.data), (.list 2 false (r_10.names.map entP))])), ([], 18, 8, .ret (pB r_11)), ([], 18, 9, .eq (pB true)), ([], 18, 11, .ret (pI r_12)), ([], 18, 13, .ret (.agg [(.list 8 false (r_13.nodes.map NodeD.c)), (pI r_13.most), (pI r_13.room)])), ([], 18, 14, .ret (pI r_14))] [([], 7, (.exit 0), (stOf (go (k + 12) 7 0 143 (adv [([], 7, 3, .eq (pB false))]) law06DiskAdds_L7 (law06DiskAdds_S7 r_4 d.nodes d.most d.room n.kind n.modeF n.owner n.links n.openF n.up n.data n.names r_3.nodes r_3.most r_3.room v_1)))), ([], 14, (.exit 2), (stOf (go (k + 12) 7 0 143 (adv [([], 14, 3, .eq (pI (d.nodes.length : Int))), ([], 14, 4, .eq (pB false))]) law06DiskAdds_L14 (law06DiskAdds_S14 r_4 d.nodes d.most d.room n.kind n.modeF n.owner n.links n.openF n.up n.data n.names r_3.nodes r_3.most r_3.room v_2))))]) (ex := .ret) (r := (pB (r_12 == (w64 (r_14 + (1 : Int)))))) (by kernel_rfl) rfl (by kernel_rfl) (allC (law06Big_ok (k + 11) d _ q1) (allC (cg q2) (allC (cg q3) (allC (len_ob (rfl : (n.names.map entP) = n.names.map entP)) (allC (cg q4) (allC (cg q5) (allC (shownX_ok k  _ q6) (allC (cg q7) (allC (diskAdd_ok (k + 8) d n _ q8) (allC (cg q9) (allC q14 (allC (len_ob (rfl : (d.nodes.map NodeD.c) = d.nodes.map NodeD.c)) (allC (cg q19) (allC (len_ob (rfl : (d.nodes.map NodeD.c) = d.nodes.map NodeD.c)) (allC (cg q20) (allC (len_ob (rfl : (r_3.nodes.map NodeD.c) = r_3.nodes.map NodeD.c)) (allC (cg q21) (allC q26 (allC (gt_list (c := NodeD.c) q35) (allC (law06Node_ok (k + 11) y_4 _ q36) (allC (law06Node_ok (k + 11) n _ q37) (allC (ref06Alike_ok (k + 10) r_9 r_10 _ q38) (allC (cg q39) (allC (diskUsed_ok (k + 9) r_3 _ q40) (allC (law06Its_ok (k + 10) d _ q41) (allC (ref06Used_ok (k + 11) r_13 _ q42) allN)))))))))))))))))))))))))) (by kernel_rfl) allN
                        · skip
                          obtain rfl := Option.some.inj h
                          exact ret_go (k := (k + 12)) Try.func7 Try.ntmps7 (by kernel_rfl) (by kernel_rfl) (Nat.le_of_ble_eq_true rfl) (adv [([], 1, 1, .ret (pB r_1)), ([], 1, 2, .eq (pB false)), ([], 1, 8, .eq (pB false)), ([], 1, 11, .eq (pI (n.names.length : Int))), ([], 1, 14, .eq (pB false)), ([], 1, 19, .eq (pB false)), ([], 1, 20, .ret (pB r_2)), ([], 1, 22, .eq (pB false)), ([], 3, 2, .ret (.tup [(.agg [(.list 8 false (r_3.nodes.map NodeD.c)), (pI r_3.most), (pI r_3.room)]), (pI r_4), (pI r_5)])), ([], 4, 1, .eq (pB false)), ([], 11, 3, .eq (pI (d.nodes.length : Int))), ([], 11, 5, .eq (pB false)), ([], 11, 18, .eq (pI (d.nodes.length : Int))), ([], 11, 21, .eq (pB false)), ([], 11, 25, .eq (pI (r_3.nodes.length : Int))), ([], 11, 27, .eq (pB false)), ([], 18, 3, .elem [(pI y_4.kind), (pI y_4.modeF), (pI y_4.owner), (pI y_4.links), (pI y_4.openF), (pI y_4.up), (pS y_4.data), (.list 2 false (y_4.names.map entP))]), ([], 18, 5, .ret (.agg [(pI r_9.kind), (pI r_9.modeF), (pI r_9.owner), (pI r_9.links), (pI r_9.openF), (pI r_9.up), (pS r_9.data), (.list 2 false (r_9.names.map entP))])), ([], 18, 7, .ret (.agg [(pI r_10.kind), (pI r_10.modeF), (pI r_10.owner), (pI r_10.links), (pI r_10.openF), (pI r_10.up), (pS r_10.data), (.list 2 false (r_10.names.map entP))])), ([], 18, 8, .ret (pB r_11)), ([], 18, 9, .eq (pB false))] [([], 7, (.exit 0), (stOf (go (k + 12) 7 0 143 (adv [([], 7, 3, .eq (pB false))]) law06DiskAdds_L7 (law06DiskAdds_S7 r_4 d.nodes d.most d.room n.kind n.modeF n.owner n.links n.openF n.up n.data n.names r_3.nodes r_3.most r_3.room v_1)))), ([], 14, (.exit 2), (stOf (go (k + 12) 7 0 143 (adv [([], 14, 3, .eq (pI (d.nodes.length : Int))), ([], 14, 4, .eq (pB false))]) law06DiskAdds_L14 (law06DiskAdds_S14 r_4 d.nodes d.most d.room n.kind n.modeF n.owner n.links n.openF n.up n.data n.names r_3.nodes r_3.most r_3.room v_2))))]) (ex := .ret) (r := (pB false)) (by kernel_rfl) rfl (by kernel_rfl) (allC (law06Big_ok (k + 11) d _ q1) (allC (cg q2) (allC (cg q3) (allC (len_ob (rfl : (n.names.map entP) = n.names.map entP)) (allC (cg q4) (allC (cg q5) (allC (shownX_ok k  _ q6) (allC (cg q7) (allC (diskAdd_ok (k + 8) d n _ q8) (allC (cg q9) (allC q14 (allC (len_ob (rfl : (d.nodes.map NodeD.c) = d.nodes.map NodeD.c)) (allC (cg q19) (allC (len_ob (rfl : (d.nodes.map NodeD.c) = d.nodes.map NodeD.c)) (allC (cg q20) (allC (len_ob (rfl : (r_3.nodes.map NodeD.c) = r_3.nodes.map NodeD.c)) (allC (cg q21) (allC q26 (allC (gt_list (c := NodeD.c) q35) (allC (law06Node_ok (k + 11) y_4 _ q36) (allC (law06Node_ok (k + 11) n _ q37) (allC (ref06Alike_ok (k + 10) r_9 r_10 _ q38) (allC (cg q39) allN))))))))))))))))))))))) (by kernel_rfl) allN


end Go.Proofs.Ytfllhakmjookkaa.Den
