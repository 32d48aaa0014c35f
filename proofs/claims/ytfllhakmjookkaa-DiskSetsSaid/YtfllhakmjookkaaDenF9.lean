/- Functions, printed by den.py out of the code: plain ones, and that the code answers as they do. -/
import Derived.Test.YtfllhakmjookkaaDenF8
set_option linter.unusedVariables false
set_option linter.unusedSimpArgs false
namespace Go.Proofs.Ytfllhakmjookkaa.Den
open Go Go.RowKit

/- flagstone/disk.Right: its loop at region 8 -/
noncomputable def diskRight_L8 : Code := cAt (codeOf Try.f24) [true, true, true, true, true, false, true, false, false]
def diskRight_R8 (x0 : List (List PV)) (x1 : Int) (x2 : Int) (x3 : List (List PV)) (x4 : Int) (x5 : Int) (x6 : Nat) (x7 : Nat) (x8 : List (List PV)) (x9 : List (List PV)) : St := ⟨envL [(7, (.ptr [0, TAG] 1 0 0)), (60, (.list 8 false x0)), (61, (pI x1)), (62, (pI x2))], hsL [some ⟨6, 93, [[(.clo 54 []), (.clo 55 []), (.clo 56 [(.ptr [1, TAG] 1 0 0)]), (.clo 59 [(.ptr [2, TAG] 1 0 0)]), (.clo 60 [(.ptr [2, TAG] 1 0 0)]), (.clo 61 [(.ptr [2, TAG] 1 0 0), (.ptr [3, TAG] 1 0 0), (.ptr [1, TAG] 1 0 0)])]], false, false⟩, some ⟨3, 24, [[(.list 8 false x3), (pI x4), (pI x5)]], true, false⟩, some ⟨1, 86, [[(.row [4, TAG] 1 0 x6)]], false, false⟩, some ⟨1, 86, [[(.row [5, TAG] 1 0 x7)]], false, false⟩, some ⟨1, 3, x8, true, true⟩, some ⟨1, 3, x9, true, true⟩] [0, 0, 0, 0, 0, 0]⟩
theorem diskRight_R8_eq {x0 y0 : List (List PV)} {x1 y1 : Int} {x2 y2 : Int} {x3 y3 : List (List PV)} {x4 y4 : Int} {x5 y5 : Int} {x6 y6 : Nat} {x7 y7 : Nat} {x8 y8 : List (List PV)} {x9 y9 : List (List PV)} (h0 : x0 = y0) (h1 : x1 = y1) (h2 : x2 = y2) (h3 : x3 = y3) (h4 : x4 = y4) (h5 : x5 = y5) (h6 : x6 = y6) (h7 : x7 = y7) (h8 : x8 = y8) (h9 : x9 = y9) : diskRight_R8 x0 x1 x2 x3 x4 x5 x6 x7 x8 x9 = diskRight_R8 y0 y1 y2 y3 y4 y5 y6 y7 y8 y9 := by
  subst h0 h1 h2 h3 h4 h5 h6 h7 h8 h9; rfl
def diskRight_S8 (p0 : (List NodeD)) (p1 : Int) : (Int × (List NodeD) × Int × Int × (List Int) × (List Int)) → St
  | (v0, v1, v2, v3, v4, v5) => diskRight_R8 (p0.map NodeD.c) p1 v0 (v1.map NodeD.c) v2 v3 v4.length v5.length (v4.map cI) (v5.map cI)
def diskRight_b8 (p0 : (List NodeD)) (p1 : Int) : (Int × (List NodeD) × Int × Int × (List Int) × (List Int)) → Option ((Int × (List NodeD) × Int × Int × (List Int) × (List Int)) ⊕ ((Int × (List NodeD) × Int × Int × (List Int) × (List Int) × NodeD × Bool × Bool) ⊕ (Int × (List NodeD) × Int × Int × (List Int) × (List Int) × NodeD × Bool × Bool × Bool) ⊕ (Int × (List NodeD) × Int × Int × (List Int) × (List Int) × NodeD × Bool × Bool × Bool × Bool × (List NodeD) × Int × Int) ⊕ (Int × (List NodeD) × Int × Int × (List Int) × (List Int) × NodeD × Bool × Bool × Bool × Bool × (List NodeD) × Int × Int × Bool × (List Int)) ⊕ (Int × (List NodeD) × Int × Int × (List Int) × (List Int) × NodeD × Bool × Bool × Bool × Bool × (List NodeD) × Int × Int × Bool × (List Int) × Bool × (List Int)) ⊕ (Int × (List NodeD) × Int × Int × (List Int) × (List Int) × NodeD × Bool × Bool × Bool × Bool × (List NodeD) × Int × Int × Bool × (List Int) × Bool × (List Int) × Bool × (List NodeD) × Int × Int × (List Int) × (List Int)) ⊕ (Int × (List NodeD) × Int × Int × (List Int) × (List Int) × NodeD × Bool) ⊕ (Int × (List NodeD) × Int × Int × (List Int) × (List Int) × NodeD × Bool × Bool) ⊕ (Int × (List NodeD) × Int × Int × (List Int) × (List Int) × NodeD × Bool × Bool × Bool × (List NodeD) × Int × Int) ⊕ (Int × (List NodeD) × Int × Int × (List Int) × (List Int) × NodeD × Bool × Bool × Bool × (List NodeD) × Int × Int × Bool × (List Int)) ⊕ (Int × (List NodeD) × Int × Int × (List Int) × (List Int) × NodeD × Bool × Bool × Bool × (List NodeD) × Int × Int × Bool × (List Int) × Bool × (List Int)) ⊕ (Int × (List NodeD) × Int × Int × (List Int) × (List Int) × NodeD × Bool × Bool × Bool × (List NodeD) × Int × Int × Bool × (List Int) × Bool × (List Int) × Bool × (List NodeD) × Int × Int × (List Int) × (List Int)) ⊕ (Int × (List NodeD) × Int × Int × (List Int) × (List Int))))
  | (v0, v1, v2, v3, v4, v5) =>
    bif (decide (v0 < p1)) then (
      (gt p0 v0).bind fun y_1 =>
      bif (y_1.kind == (0 : Int)) then (
        (diskNodeZero y_1).bind fun r_1 =>
        bif r_1 then (
          some (.inl ((w64 (v0 + (1 : Int))), v1, v2, v3, v4, v5))
        ) else (
          (diskRight1 v0 y_1.kind y_1.modeF y_1.owner y_1.links y_1.openF y_1.up y_1.data y_1.names).bind fun r_2 =>
          bif (!r_2) then (
            some (.inr (.inl (v0, v1, v2, v3, v4, v5, y_1, r_1, r_2)))
          ) else (
            (diskRight2 v0 y_1.kind y_1.modeF y_1.owner y_1.links y_1.openF y_1.up y_1.data y_1.names).bind fun r_3 =>
            bif (!r_3) then (
              some (.inr (.inr (.inl (v0, v1, v2, v3, v4, v5, y_1, r_1, r_2, r_3))))
            ) else (
              (diskRight3 v0 y_1.kind y_1.modeF y_1.owner y_1.links y_1.openF y_1.up y_1.data y_1.names v1 v2 v3).bind fun (r_4, r_5, r_6, r_7) =>
              bif (!r_4) then (
                some (.inr (.inr (.inr (.inl (v0, v1, v2, v3, v4, v5, y_1, r_1, r_2, r_3, r_4, r_5, r_6, r_7)))))
              ) else (
                (diskRight4 v0 y_1.kind y_1.modeF y_1.owner y_1.links y_1.openF y_1.up y_1.data y_1.names v4).bind fun (r_8, r_9) =>
                bif (!r_8) then (
                  some (.inr (.inr (.inr (.inr (.inl (v0, v1, v2, v3, v4, v5, y_1, r_1, r_2, r_3, r_4, r_5, r_6, r_7, r_8, r_9))))))
                ) else (
                  (diskRight5 v0 y_1.kind y_1.modeF y_1.owner y_1.links y_1.openF y_1.up y_1.data y_1.names r_9).bind fun (r_10, r_11) =>
                  bif (!r_10) then (
                    some (.inr (.inr (.inr (.inr (.inr (.inl (v0, v1, v2, v3, v4, v5, y_1, r_1, r_2, r_3, r_4, r_5, r_6, r_7, r_8, r_9, r_10, r_11)))))))
                  ) else (
                    (diskRight6 v0 y_1.kind y_1.modeF y_1.owner y_1.links y_1.openF y_1.up y_1.data y_1.names r_5 r_6 r_7 r_11 v5).bind fun (r_12, r_13, r_14, r_15, r_16, r_17) =>
                    bif (!r_12) then (
                      some (.inr (.inr (.inr (.inr (.inr (.inr (.inl (v0, v1, v2, v3, v4, v5, y_1, r_1, r_2, r_3, r_4, r_5, r_6, r_7, r_8, r_9, r_10, r_11, r_12, r_13, r_14, r_15, r_16, r_17))))))))
                    ) else (
                      some (.inl ((w64 (v0 + (1 : Int))), r_13, r_14, r_15, r_16, r_17))
                    )
                  )
                )
              )
            )
          )
        )
      ) else (
        (diskRight1 v0 y_1.kind y_1.modeF y_1.owner y_1.links y_1.openF y_1.up y_1.data y_1.names).bind fun r_1 =>
        bif (!r_1) then (
          some (.inr (.inr (.inr (.inr (.inr (.inr (.inr (.inl (v0, v1, v2, v3, v4, v5, y_1, r_1)))))))))
        ) else (
          (diskRight2 v0 y_1.kind y_1.modeF y_1.owner y_1.links y_1.openF y_1.up y_1.data y_1.names).bind fun r_2 =>
          bif (!r_2) then (
            some (.inr (.inr (.inr (.inr (.inr (.inr (.inr (.inr (.inl (v0, v1, v2, v3, v4, v5, y_1, r_1, r_2))))))))))
          ) else (
            (diskRight3 v0 y_1.kind y_1.modeF y_1.owner y_1.links y_1.openF y_1.up y_1.data y_1.names v1 v2 v3).bind fun (r_3, r_4, r_5, r_6) =>
            bif (!r_3) then (
              some (.inr (.inr (.inr (.inr (.inr (.inr (.inr (.inr (.inr (.inl (v0, v1, v2, v3, v4, v5, y_1, r_1, r_2, r_3, r_4, r_5, r_6)))))))))))
            ) else (
              (diskRight4 v0 y_1.kind y_1.modeF y_1.owner y_1.links y_1.openF y_1.up y_1.data y_1.names v4).bind fun (r_7, r_8) =>
              bif (!r_7) then (
                some (.inr (.inr (.inr (.inr (.inr (.inr (.inr (.inr (.inr (.inr (.inl (v0, v1, v2, v3, v4, v5, y_1, r_1, r_2, r_3, r_4, r_5, r_6, r_7, r_8))))))))))))
              ) else (
                (diskRight5 v0 y_1.kind y_1.modeF y_1.owner y_1.links y_1.openF y_1.up y_1.data y_1.names r_8).bind fun (r_9, r_10) =>
                bif (!r_9) then (
                  some (.inr (.inr (.inr (.inr (.inr (.inr (.inr (.inr (.inr (.inr (.inr (.inl (v0, v1, v2, v3, v4, v5, y_1, r_1, r_2, r_3, r_4, r_5, r_6, r_7, r_8, r_9, r_10)))))))))))))
                ) else (
                  (diskRight6 v0 y_1.kind y_1.modeF y_1.owner y_1.links y_1.openF y_1.up y_1.data y_1.names r_4 r_5 r_6 r_10 v5).bind fun (r_11, r_12, r_13, r_14, r_15, r_16) =>
                  bif (!r_11) then (
                    some (.inr (.inr (.inr (.inr (.inr (.inr (.inr (.inr (.inr (.inr (.inr (.inr (.inl (v0, v1, v2, v3, v4, v5, y_1, r_1, r_2, r_3, r_4, r_5, r_6, r_7, r_8, r_9, r_10, r_11, r_12, r_13, r_14, r_15, r_16))))))))))))))
                  ) else (
                    some (.inl ((w64 (v0 + (1 : Int))), r_12, r_13, r_14, r_15, r_16))
                  )
                )
              )
            )
          )
        )
      )
    ) else (
      some (.inr (.inr (.inr (.inr (.inr (.inr (.inr (.inr (.inr (.inr (.inr (.inr (.inr ((v0, v1, v2, v3, v4, v5)))))))))))))))
    )
set_option maxRecDepth 100000 in
theorem diskRight_t8 (k : Nat) (p0 : (List NodeD)) (p1 : Int) (a a1 : (Int × (List NodeD) × Int × Int × (List Int) × (List Int))) (h : diskRight_b8 p0 p1 a = some (.inl a1)) : ∃ σ, run1 (k + 6) 24 0 85 diskRight_L8 (diskRight_S8 p0 p1 a) = some (.normal, σ) ∧ canonS 0 [7, 60, 61, 62] σ = some (diskRight_S8 p0 p1 a1) := by
  obtain ⟨v0, v1, v2, v3, v4, v5⟩ := a
  unfold diskRight_b8 at h
  try dsimp only at h
  rcases bif_some h with ⟨q1, h⟩ | ⟨q1, h⟩
  · skip
    obtain ⟨y_1, q2, h⟩ := bnd_some h
    rcases bif_some h with ⟨q3, h⟩ | ⟨q3, h⟩
    · skip
      obtain ⟨r_1, q4, h⟩ := bnd_some h
      rcases bif_some h with ⟨q5, h⟩ | ⟨q5, h⟩
      · skip
        obtain rfl := Sum.inl.inj (Option.some.inj h)
        exact ⟨_, run_go (k := (k + 6)) (f := 24) (r0 := 0) (nt := 85) (c := diskRight_L8) (σ := (diskRight_S8 p0 p1 (v0, v1, v2, v3, v4, v5))) (adv [([], 8, 0, .eq (pB true)), ([], 9, 1, .elem [(pI y_1.kind), (pI y_1.modeF), (pI y_1.owner), (pI y_1.links), (pI y_1.openF), (pI y_1.up), (pS y_1.data), (.list 2 false (y_1.names.map entP))]), ([], 10, 3, .eq (pB true)), ([], 10, 5, .ret (pB r_1)), ([], 10, 6, .eq (pB true))]) (ex := .normal) (by kernel_rfl) (by kernel_rfl) (allC (cg q1) (allC (gt_list (c := NodeD.c) q2) (allC (cg q3) (allC (diskNodeZero_ok (k + 5) y_1 _ q4) (allC (cg q5) allN))))), (by kernel_rfl)⟩
      · skip
        obtain ⟨r_2, q6, h⟩ := bnd_some h
        try dsimp only at h
        rcases bif_some h with ⟨q7, h⟩ | ⟨q7, h⟩
        · skip
          cases h
        · skip
          obtain ⟨r_3, q8, h⟩ := bnd_some h
          try dsimp only at h
          rcases bif_some h with ⟨q9, h⟩ | ⟨q9, h⟩
          · skip
            cases h
          · skip
            obtain ⟨X_3, q10, h⟩ := bnd_some h
            rcases X_3 with ⟨r_4, r_5, r_6, r_7⟩
            · try dsimp only at h
              rcases bif_some h with ⟨q11, h⟩ | ⟨q11, h⟩
              · skip
                cases h
              · skip
                obtain ⟨X_4, q12, h⟩ := bnd_some h
                rcases X_4 with ⟨r_8, r_9⟩
                · try dsimp only at h
                  rcases bif_some h with ⟨q13, h⟩ | ⟨q13, h⟩
                  · skip
                    cases h
                  · skip
                    obtain ⟨X_5, q14, h⟩ := bnd_some h
                    rcases X_5 with ⟨r_10, r_11⟩
                    · try dsimp only at h
                      rcases bif_some h with ⟨q15, h⟩ | ⟨q15, h⟩
                      · skip
                        cases h
                      · skip
                        obtain ⟨X_6, q16, h⟩ := bnd_some h
                        rcases X_6 with ⟨r_12, r_13, r_14, r_15, r_16, r_17⟩
                        · try dsimp only at h
                          rcases bif_some h with ⟨q17, h⟩ | ⟨q17, h⟩
                          · skip
                            cases h
                          · skip
                            obtain rfl := Sum.inl.inj (Option.some.inj h)
                            exact ⟨_, run_go (k := (k + 6)) (f := 24) (r0 := 0) (nt := 85) (c := diskRight_L8) (σ := (diskRight_S8 p0 p1 (v0, v1, v2, v3, v4, v5))) (adv [([], 8, 0, .eq (pB true)), ([], 9, 1, .elem [(pI y_1.kind), (pI y_1.modeF), (pI y_1.owner), (pI y_1.links), (pI y_1.openF), (pI y_1.up), (pS y_1.data), (.list 2 false (y_1.names.map entP))]), ([], 10, 3, .eq (pB true)), ([], 10, 5, .ret (pB r_1)), ([], 10, 6, .eq (pB false)), ([0], 14, 3, .retS (pB r_2) [] []), ([0], 14, 4, .eq (pB false)), ([1], 14, 3, .retS (pB r_3) [] []), ([1], 14, 4, .eq (pB false)), ([2], 14, 3, .retS (pB r_4) [some ⟨3, 24, [[(.list 8 false (r_5.map NodeD.c)), (pI r_6), (pI r_7)]], true, false⟩] [0]), ([2], 14, 4, .eq (pB false)), ([3], 14, 3, .retS (pB r_8) [some ⟨1, 86, [[(.row [1, TAG] 1 0 r_9.length)]], false, false⟩, some ⟨1, 3, (r_9.map cI), true, true⟩] [0, 0]), ([3], 14, 4, .eq (pB false)), ([4], 14, 3, .retS (pB r_10) [some ⟨1, 86, [[(.row [1, TAG] 1 0 r_11.length)]], false, false⟩, some ⟨1, 3, (r_11.map cI), true, true⟩] [0, 0]), ([4], 14, 4, .eq (pB false)), ([5], 14, 3, .retS (pB r_12) [some ⟨1, 86, [[(.row [3, TAG] 1 0 r_16.length)]], false, false⟩, some ⟨1, 86, [[(.row [4, TAG] 1 0 r_17.length)]], false, false⟩, some ⟨3, 24, [[(.list 8 false (r_13.map NodeD.c)), (pI r_14), (pI r_15)]], true, false⟩, some ⟨1, 3, (r_16.map cI), true, true⟩, some ⟨1, 3, (r_17.map cI), true, true⟩] [0, 0, 0, 0, 0]), ([5], 14, 4, .eq (pB false))] [] [12]) (ex := .normal) (by kernel_rfl) (by kernel_rfl) (allC (cg q1) (allC (gt_list (c := NodeD.c) q2) (allC (cg q3) (allC (diskNodeZero_ok (k + 5) y_1 _ q4) (allC (cg q5) (allC (diskRight1_ok (k + 4) v0 y_1.kind y_1.modeF y_1.owner y_1.links y_1.openF y_1.up y_1.data y_1.names _ q6) (allC (cg q7) (allC (diskRight2_ok (k + 5) v0 y_1.kind y_1.modeF y_1.owner y_1.links y_1.openF y_1.up y_1.data y_1.names _ q8) (allC (cg q9) (allC (diskRight3_ok k v0 y_1.kind y_1.modeF y_1.owner y_1.links y_1.openF y_1.up y_1.data y_1.names v1 v2 v3 _ q10) (allC (cg q11) (allC (diskRight4_ok (k + 5) v0 y_1.kind y_1.modeF y_1.owner y_1.links y_1.openF y_1.up y_1.data y_1.names v4 _ q12) (allC (cg q13) (allC (diskRight5_ok (k + 5) v0 y_1.kind y_1.modeF y_1.owner y_1.links y_1.openF y_1.up y_1.data y_1.names r_9 _ q14) (allC (cg q15) (allC (diskRight6_ok (k + 2) v0 y_1.kind y_1.modeF y_1.owner y_1.links y_1.openF y_1.up y_1.data y_1.names r_5 r_6 r_7 r_11 v5 _ q16) (allC (cg q17) allN))))))))))))))))), (by kernel_rfl)⟩
    · skip
      obtain ⟨r_1, q4, h⟩ := bnd_some h
      try dsimp only at h
      rcases bif_some h with ⟨q5, h⟩ | ⟨q5, h⟩
      · skip
        cases h
      · skip
        obtain ⟨r_2, q6, h⟩ := bnd_some h
        try dsimp only at h
        rcases bif_some h with ⟨q7, h⟩ | ⟨q7, h⟩
        · skip
          cases h
        · skip
          obtain ⟨X_3, q8, h⟩ := bnd_some h
          rcases X_3 with ⟨r_3, r_4, r_5, r_6⟩
          · try dsimp only at h
            rcases bif_some h with ⟨q9, h⟩ | ⟨q9, h⟩
            · skip
              cases h
            · skip
              obtain ⟨X_4, q10, h⟩ := bnd_some h
              rcases X_4 with ⟨r_7, r_8⟩
              · try dsimp only at h
                rcases bif_some h with ⟨q11, h⟩ | ⟨q11, h⟩
                · skip
                  cases h
                · skip
                  obtain ⟨X_5, q12, h⟩ := bnd_some h
                  rcases X_5 with ⟨r_9, r_10⟩
                  · try dsimp only at h
                    rcases bif_some h with ⟨q13, h⟩ | ⟨q13, h⟩
                    · skip
                      cases h
                    · skip
                      obtain ⟨X_6, q14, h⟩ := bnd_some h
                      rcases X_6 with ⟨r_11, r_12, r_13, r_14, r_15, r_16⟩
                      · try dsimp only at h
                        rcases bif_some h with ⟨q15, h⟩ | ⟨q15, h⟩
                        · skip
                          cases h
                        · skip
                          obtain rfl := Sum.inl.inj (Option.some.inj h)
                          exact ⟨_, run_go (k := (k + 6)) (f := 24) (r0 := 0) (nt := 85) (c := diskRight_L8) (σ := (diskRight_S8 p0 p1 (v0, v1, v2, v3, v4, v5))) (adv [([], 8, 0, .eq (pB true)), ([], 9, 1, .elem [(pI y_1.kind), (pI y_1.modeF), (pI y_1.owner), (pI y_1.links), (pI y_1.openF), (pI y_1.up), (pS y_1.data), (.list 2 false (y_1.names.map entP))]), ([], 10, 3, .eq (pB false)), ([0], 14, 3, .retS (pB r_1) [] []), ([0], 14, 4, .eq (pB false)), ([1], 14, 3, .retS (pB r_2) [] []), ([1], 14, 4, .eq (pB false)), ([2], 14, 3, .retS (pB r_3) [some ⟨3, 24, [[(.list 8 false (r_4.map NodeD.c)), (pI r_5), (pI r_6)]], true, false⟩] [0]), ([2], 14, 4, .eq (pB false)), ([3], 14, 3, .retS (pB r_7) [some ⟨1, 86, [[(.row [1, TAG] 1 0 r_8.length)]], false, false⟩, some ⟨1, 3, (r_8.map cI), true, true⟩] [0, 0]), ([3], 14, 4, .eq (pB false)), ([4], 14, 3, .retS (pB r_9) [some ⟨1, 86, [[(.row [1, TAG] 1 0 r_10.length)]], false, false⟩, some ⟨1, 3, (r_10.map cI), true, true⟩] [0, 0]), ([4], 14, 4, .eq (pB false)), ([5], 14, 3, .retS (pB r_11) [some ⟨1, 86, [[(.row [3, TAG] 1 0 r_15.length)]], false, false⟩, some ⟨1, 86, [[(.row [4, TAG] 1 0 r_16.length)]], false, false⟩, some ⟨3, 24, [[(.list 8 false (r_12.map NodeD.c)), (pI r_13), (pI r_14)]], true, false⟩, some ⟨1, 3, (r_15.map cI), true, true⟩, some ⟨1, 3, (r_16.map cI), true, true⟩] [0, 0, 0, 0, 0]), ([5], 14, 4, .eq (pB false))] [] [12]) (ex := .normal) (by kernel_rfl) (by kernel_rfl) (allC (cg q1) (allC (gt_list (c := NodeD.c) q2) (allC (cg q3) (allC (diskRight1_ok (k + 4) v0 y_1.kind y_1.modeF y_1.owner y_1.links y_1.openF y_1.up y_1.data y_1.names _ q4) (allC (cg q5) (allC (diskRight2_ok (k + 5) v0 y_1.kind y_1.modeF y_1.owner y_1.links y_1.openF y_1.up y_1.data y_1.names _ q6) (allC (cg q7) (allC (diskRight3_ok k v0 y_1.kind y_1.modeF y_1.owner y_1.links y_1.openF y_1.up y_1.data y_1.names v1 v2 v3 _ q8) (allC (cg q9) (allC (diskRight4_ok (k + 5) v0 y_1.kind y_1.modeF y_1.owner y_1.links y_1.openF y_1.up y_1.data y_1.names v4 _ q10) (allC (cg q11) (allC (diskRight5_ok (k + 5) v0 y_1.kind y_1.modeF y_1.owner y_1.links y_1.openF y_1.up y_1.data y_1.names r_8 _ q12) (allC (cg q13) (allC (diskRight6_ok (k + 2) v0 y_1.kind y_1.modeF y_1.owner y_1.links y_1.openF y_1.up y_1.data y_1.names r_4 r_5 r_6 r_10 v5 _ q14) (allC (cg q15) allN))))))))))))))), (by kernel_rfl)⟩
  · skip
    cases h
/-- flagstone/disk.Right -/
def diskRight (d : DiskD) : Option Bool :=
  (diskGet d (0 : Int)).bind fun (r_1, r_2) =>
  bif (!r_2) then (
    some false
  ) else (
    bif (r_1.kind != (2 : Int)) then (
      some false
    ) else (
      bif (r_1.up != (0 : Int)) then (
        some false
      ) else (
        bif (decide ((d.nodes.length : Int) > d.most)) then (
          some false
        ) else (
          (diskBytes d).bind fun r_3 =>
          bif (decide (r_3 > d.room)) then (
            some false
          ) else (
            (diskDiskNamed d.nodes d.most d.room).bind fun (r_4, r_5) =>
            (gt r_4 (0 : Int)).bind fun y_1 =>
            (gt r_4 (0 : Int)).bind fun y_2 =>
            (iterN (diskRight_b8 d.nodes (d.nodes.length : Int)) LF ((0 : Int), d.nodes, d.most, d.room, (r_4.set (((0 : Int)).toNat) (w64 (y_1 + (1 : Int)))), r_5)).bind fun X_2 => match X_2 with
            | .inl (v_1, v_2, v_3, v_4, v_5, v_6, y_3, r_6, r_7) => (
              some false
            )
            | .inr (.inl (v_1, v_2, v_3, v_4, v_5, v_6, y_3, r_6, r_7, r_8)) => (
              some false
            )
            | .inr (.inr (.inl (v_1, v_2, v_3, v_4, v_5, v_6, y_3, r_6, r_7, r_8, r_9, r_10, r_11, r_12))) => (
              some false
            )
            | .inr (.inr (.inr (.inl (v_1, v_2, v_3, v_4, v_5, v_6, y_3, r_6, r_7, r_8, r_9, r_10, r_11, r_12, r_13, r_14)))) => (
              some false
            )
            | .inr (.inr (.inr (.inr (.inl (v_1, v_2, v_3, v_4, v_5, v_6, y_3, r_6, r_7, r_8, r_9, r_10, r_11, r_12, r_13, r_14, r_15, r_16))))) => (
              some false
            )
            | .inr (.inr (.inr (.inr (.inr (.inl (v_1, v_2, v_3, v_4, v_5, v_6, y_3, r_6, r_7, r_8, r_9, r_10, r_11, r_12, r_13, r_14, r_15, r_16, r_17, r_18, r_19, r_20, r_21, r_22)))))) => (
              some false
            )
            | .inr (.inr (.inr (.inr (.inr (.inr (.inl (v_1, v_2, v_3, v_4, v_5, v_6, y_3, r_6))))))) => (
              some false
            )
            | .inr (.inr (.inr (.inr (.inr (.inr (.inr (.inl (v_1, v_2, v_3, v_4, v_5, v_6, y_3, r_6, r_7)))))))) => (
              some false
            )
            | .inr (.inr (.inr (.inr (.inr (.inr (.inr (.inr (.inl (v_1, v_2, v_3, v_4, v_5, v_6, y_3, r_6, r_7, r_8, r_9, r_10, r_11))))))))) => (
              some false
            )
            | .inr (.inr (.inr (.inr (.inr (.inr (.inr (.inr (.inr (.inl (v_1, v_2, v_3, v_4, v_5, v_6, y_3, r_6, r_7, r_8, r_9, r_10, r_11, r_12, r_13)))))))))) => (
              some false
            )
            | .inr (.inr (.inr (.inr (.inr (.inr (.inr (.inr (.inr (.inr (.inl (v_1, v_2, v_3, v_4, v_5, v_6, y_3, r_6, r_7, r_8, r_9, r_10, r_11, r_12, r_13, r_14, r_15))))))))))) => (
              some false
            )
            | .inr (.inr (.inr (.inr (.inr (.inr (.inr (.inr (.inr (.inr (.inr (.inl (v_1, v_2, v_3, v_4, v_5, v_6, y_3, r_6, r_7, r_8, r_9, r_10, r_11, r_12, r_13, r_14, r_15, r_16, r_17, r_18, r_19, r_20, r_21)))))))))))) => (
              some false
            )
            | .inr (.inr (.inr (.inr (.inr (.inr (.inr (.inr (.inr (.inr (.inr (.inr ((v_1, v_2, v_3, v_4, v_5, v_6))))))))))))) => (
              some true
            )
          )
        )
      )
    )
  )
set_option maxRecDepth 100000 in
theorem diskRight_ok (k : Nat) (d : DiskD) (r : Bool) (h : diskRight d = some r) : run0 (k + 7) 24 [(.agg [(.list 8 false (d.nodes.map NodeD.c)), (pI d.most), (pI d.room)])] = some (pB r) := by
  unfold diskRight at h
  obtain ⟨⟨r_1, r_2⟩, q1, h⟩ := bnd_some h
  try dsimp only at h
  rcases bif_some h with ⟨q2, h⟩ | ⟨q2, h⟩
  · skip
    obtain rfl := Option.some.inj h
    exact ret_go (k := (k + 6)) Try.func24 Try.ntmps24 (by kernel_rfl) (by kernel_rfl) (Nat.le_of_ble_eq_true rfl) (adv [([], 1, 1, .ret (.tup [(.agg [(pI r_1.kind), (pI r_1.modeF), (pI r_1.owner), (pI r_1.links), (pI r_1.openF), (pI r_1.up), (pS r_1.data), (.list 2 false (r_1.names.map entP))]), (pB r_2)])), ([], 2, 2, .eq (pB true))]) (ex := .ret) (r := (pB false)) (by kernel_rfl) rfl (by kernel_rfl) (allC (diskGet_ok (k + 4) d (0 : Int) _ q1) (allC (cg q2) allN)) (by kernel_rfl) allN
  · skip
    rcases bif_some h with ⟨q3, h⟩ | ⟨q3, h⟩
    · skip
      obtain rfl := Option.some.inj h
      exact ret_go (k := (k + 6)) Try.func24 Try.ntmps24 (by kernel_rfl) (by kernel_rfl) (Nat.le_of_ble_eq_true rfl) (adv [([], 1, 1, .ret (.tup [(.agg [(pI r_1.kind), (pI r_1.modeF), (pI r_1.owner), (pI r_1.links), (pI r_1.openF), (pI r_1.up), (pS r_1.data), (.list 2 false (r_1.names.map entP))]), (pB r_2)])), ([], 2, 2, .eq (pB false)), ([], 2, 7, .eq (pB true))]) (ex := .ret) (r := (pB false)) (by kernel_rfl) rfl (by kernel_rfl) (allC (diskGet_ok (k + 4) d (0 : Int) _ q1) (allC (cg q2) (allC (cg q3) allN))) (by kernel_rfl) allN
    · skip
      rcases bif_some h with ⟨q4, h⟩ | ⟨q4, h⟩
      · skip
        obtain rfl := Option.some.inj h
        exact ret_go (k := (k + 6)) Try.func24 Try.ntmps24 (by kernel_rfl) (by kernel_rfl) (Nat.le_of_ble_eq_true rfl) (adv [([], 1, 1, .ret (.tup [(.agg [(pI r_1.kind), (pI r_1.modeF), (pI r_1.owner), (pI r_1.links), (pI r_1.openF), (pI r_1.up), (pS r_1.data), (.list 2 false (r_1.names.map entP))]), (pB r_2)])), ([], 2, 2, .eq (pB false)), ([], 2, 7, .eq (pB false)), ([], 2, 12, .eq (pB true))]) (ex := .ret) (r := (pB false)) (by kernel_rfl) rfl (by kernel_rfl) (allC (diskGet_ok (k + 4) d (0 : Int) _ q1) (allC (cg q2) (allC (cg q3) (allC (cg q4) allN)))) (by kernel_rfl) allN
      · skip
        rcases bif_some h with ⟨q5, h⟩ | ⟨q5, h⟩
        · skip
          obtain rfl := Option.some.inj h
          exact ret_go (k := (k + 6)) Try.func24 Try.ntmps24 (by kernel_rfl) (by kernel_rfl) (Nat.le_of_ble_eq_true rfl) (adv [([], 1, 1, .ret (.tup [(.agg [(pI r_1.kind), (pI r_1.modeF), (pI r_1.owner), (pI r_1.links), (pI r_1.openF), (pI r_1.up), (pS r_1.data), (.list 2 false (r_1.names.map entP))]), (pB r_2)])), ([], 2, 2, .eq (pB false)), ([], 2, 7, .eq (pB false)), ([], 2, 12, .eq (pB false)), ([], 2, 15, .eq (pI (d.nodes.length : Int))), ([], 2, 20, .eq (pB true))]) (ex := .ret) (r := (pB false)) (by kernel_rfl) rfl (by kernel_rfl) (allC (diskGet_ok (k + 4) d (0 : Int) _ q1) (allC (cg q2) (allC (cg q3) (allC (cg q4) (allC (len_ob (rfl : (d.nodes.map NodeD.c) = d.nodes.map NodeD.c)) (allC (cg q5) allN)))))) (by kernel_rfl) allN
        · skip
          obtain ⟨r_3, q6, h⟩ := bnd_some h
          rcases bif_some h with ⟨q7, h⟩ | ⟨q7, h⟩
          · skip
            obtain rfl := Option.some.inj h
            exact ret_go (k := (k + 6)) Try.func24 Try.ntmps24 (by kernel_rfl) (by kernel_rfl) (Nat.le_of_ble_eq_true rfl) (adv [([], 1, 1, .ret (.tup [(.agg [(pI r_1.kind), (pI r_1.modeF), (pI r_1.owner), (pI r_1.links), (pI r_1.openF), (pI r_1.up), (pS r_1.data), (.list 2 false (r_1.names.map entP))]), (pB r_2)])), ([], 2, 2, .eq (pB false)), ([], 2, 7, .eq (pB false)), ([], 2, 12, .eq (pB false)), ([], 2, 15, .eq (pI (d.nodes.length : Int))), ([], 2, 20, .eq (pB false)), ([], 2, 22, .ret (pI r_3)), ([], 2, 26, .eq (pB true))]) (ex := .ret) (r := (pB false)) (by kernel_rfl) rfl (by kernel_rfl) (allC (diskGet_ok (k + 4) d (0 : Int) _ q1) (allC (cg q2) (allC (cg q3) (allC (cg q4) (allC (len_ob (rfl : (d.nodes.map NodeD.c) = d.nodes.map NodeD.c)) (allC (cg q5) (allC (diskBytes_ok (k + 3) d _ q6) (allC (cg q7) allN)))))))) (by kernel_rfl) allN
          · skip
            obtain ⟨X_1, q8, h⟩ := bnd_some h
            rcases X_1 with ⟨r_4, r_5⟩
            · try dsimp only at h
              obtain ⟨y_1, q9, h⟩ := bnd_some h
              obtain ⟨y_2, q10, h⟩ := bnd_some h
              obtain ⟨X_2, q11, h⟩ := bnd_some h
              obtain ⟨a_1, q12, q13⟩ := loop_iter (f := run1 (k + 6) 24 0 85 diskRight_L8) (diskRight_S8 d.nodes (d.nodes.length : Int)) (diskRight_b8 d.nodes (d.nodes.length : Int)) (diskRight_t8 k d.nodes (d.nodes.length : Int)) LF ((0 : Int), d.nodes, d.most, d.room, (r_4.set (((0 : Int)).toNat) (w64 (y_1 + (1 : Int)))), r_5) _ (stOf (goStop (k + 6) 24 0 85 (adv [([], 1, 1, .ret (.tup [(.agg [(pI r_1.kind), (pI r_1.modeF), (pI r_1.owner), (pI r_1.links), (pI r_1.openF), (pI r_1.up), (pS r_1.data), (.list 2 false (r_1.names.map entP))]), (pB r_2)])), ([], 2, 2, .eq (pB false)), ([], 2, 7, .eq (pB false)), ([], 2, 12, .eq (pB false)), ([], 2, 15, .eq (pI (d.nodes.length : Int))), ([], 2, 20, .eq (pB false)), ([], 2, 22, .ret (pI r_3)), ([], 2, 26, .eq (pB false)), ([], 4, 1, .retS (.tup [(.row [0, TAG] 1 0 r_4.length), (.row [1, TAG] 1 0 r_5.length)]) [some ⟨1, 3, (r_4.map cI), true, true⟩, some ⟨1, 3, (r_5.map cI), true, true⟩] [0, 0]), ([], 5, 1, .elem []), ([], 5, 2, .elem [(pI y_1)]), ([], 5, 4, .elem []), ([], 5, 5, .elem [(pI y_2)]), ([], 7, 2, .eq (pI (d.nodes.length : Int)))]) 8 (codeOf Try.f24) (argS 24 [(.agg [(.list 8 false (d.nodes.map NodeD.c)), (pI d.most), (pI d.room)])]))) q11 (Eq.trans (b := some (diskRight_R8 (d.nodes.map NodeD.c) (d.nodes.length : Int) (0 : Int) (d.nodes.map NodeD.c) d.most d.room r_4.length r_5.length ((r_4.map cI).set (0 + ((0 : Int)).toNat) [(pI (w64 (y_1 + (1 : Int))))]) (r_5.map cI))) (by kernel_rfl) (congrArg some ((diskRight_R8_eq (rfl : (d.nodes.map NodeD.c) = (d.nodes.map NodeD.c)) (rfl : (d.nodes.length : Int) = (d.nodes.length : Int)) (rfl : (0 : Int) = (0 : Int)) (rfl : (d.nodes.map NodeD.c) = (d.nodes.map NodeD.c)) (rfl : d.most = d.most) (rfl : d.room = d.room) ((len_set (rfl : r_4.length = r_4.length) (((0 : Int)).toNat) (w64 (y_1 + (1 : Int)))) : r_4.length = ((r_4.set (((0 : Int)).toNat) (w64 (y_1 + (1 : Int)))).length)) (rfl : r_5.length = r_5.length) ((enc_set (rfl : (r_4.map cI) = r_4.map cI) (((0 : Int)).toNat) (w64 (y_1 + (1 : Int)))) : ((r_4.map cI).set (0 + ((0 : Int)).toNat) [(pI (w64 (y_1 + (1 : Int))))]) = ((r_4.set (((0 : Int)).toNat) (w64 (y_1 + (1 : Int)))).map cI)) (rfl : (r_5.map cI) = (r_5.map cI))).trans (by kernel_rfl : diskRight_R8 (d.nodes.map NodeD.c) (d.nodes.length : Int) (0 : Int) (d.nodes.map NodeD.c) d.most d.room ((r_4.set (((0 : Int)).toNat) (w64 (y_1 + (1 : Int)))).length) r_5.length ((r_4.set (((0 : Int)).toNat) (w64 (y_1 + (1 : Int)))).map cI) (r_5.map cI) = diskRight_S8 d.nodes (d.nodes.length : Int) ((0 : Int), d.nodes, d.most, d.room, (r_4.set (((0 : Int)).toNat) (w64 (y_1 + (1 : Int)))), r_5)))))
              obtain ⟨v_1, v_2, v_3, v_4, v_5, v_6⟩ := a_1
              unfold diskRight_b8 at q12
              try dsimp only at q12
              rcases bif_some q12 with ⟨q16, q12⟩ | ⟨q16, q12⟩
              · skip
                obtain ⟨y_3, q17, q12⟩ := bnd_some q12
                rcases bif_some q12 with ⟨q18, q12⟩ | ⟨q18, q12⟩
                · skip
                  obtain ⟨r_6, q19, q12⟩ := bnd_some q12
                  rcases bif_some q12 with ⟨q20, q12⟩ | ⟨q20, q12⟩
                  · skip
                    cases q12
                  · skip
                    obtain ⟨r_7, q21, q12⟩ := bnd_some q12
                    try dsimp only at q12
                    rcases bif_some q12 with ⟨q22, q12⟩ | ⟨q22, q12⟩
                    · skip
                      cases q12
                      try dsimp only at h
                      have q14 := run_go (k := (k + 6)) (f := 24) (r0 := 0) (nt := 85) (c := diskRight_L8) (σ := (diskRight_S8 d.nodes (d.nodes.length : Int) (v_1, v_2, v_3, v_4, v_5, v_6))) (adv [([], 8, 0, .eq (pB true)), ([], 9, 1, .elem [(pI y_3.kind), (pI y_3.modeF), (pI y_3.owner), (pI y_3.links), (pI y_3.openF), (pI y_3.up), (pS y_3.data), (.list 2 false (y_3.names.map entP))]), ([], 10, 3, .eq (pB true)), ([], 10, 5, .ret (pB r_6)), ([], 10, 6, .eq (pB false)), ([0], 14, 3, .retS (pB r_7) [] []), ([0], 14, 4, .eq (pB true))] [] [12]) (ex := .ret) (by kernel_rfl) (by kernel_rfl) (allC (cg q16) (allC (gt_list (c := NodeD.c) q17) (allC (cg q18) (allC (diskNodeZero_ok (k + 5) y_3 _ q19) (allC (cg q20) (allC (diskRight1_ok (k + 4) v_1 y_3.kind y_3.modeF y_3.owner y_3.links y_3.openF y_3.up y_3.data y_3.names _ q21) (allC (cg q22) allN)))))))
                      have q15 := q13 _ _ (by intro e; cases e) q14
                      obtain rfl := Option.some.inj h
                      exact ret_go (k := (k + 6)) Try.func24 Try.ntmps24 (by kernel_rfl) (by kernel_rfl) (Nat.le_of_ble_eq_true rfl) (adv [([], 1, 1, .ret (.tup [(.agg [(pI r_1.kind), (pI r_1.modeF), (pI r_1.owner), (pI r_1.links), (pI r_1.openF), (pI r_1.up), (pS r_1.data), (.list 2 false (r_1.names.map entP))]), (pB r_2)])), ([], 2, 2, .eq (pB false)), ([], 2, 7, .eq (pB false)), ([], 2, 12, .eq (pB false)), ([], 2, 15, .eq (pI (d.nodes.length : Int))), ([], 2, 20, .eq (pB false)), ([], 2, 22, .ret (pI r_3)), ([], 2, 26, .eq (pB false)), ([], 4, 1, .retS (.tup [(.row [0, TAG] 1 0 r_4.length), (.row [1, TAG] 1 0 r_5.length)]) [some ⟨1, 3, (r_4.map cI), true, true⟩, some ⟨1, 3, (r_5.map cI), true, true⟩] [0, 0]), ([], 5, 1, .elem []), ([], 5, 2, .elem [(pI y_1)]), ([], 5, 4, .elem []), ([], 5, 5, .elem [(pI y_2)]), ([], 7, 2, .eq (pI (d.nodes.length : Int)))] [([], 8, .ret, (stOf (go (k + 6) 24 0 85 (adv [([], 8, 0, .eq (pB true)), ([], 9, 1, .elem [(pI y_3.kind), (pI y_3.modeF), (pI y_3.owner), (pI y_3.links), (pI y_3.openF), (pI y_3.up), (pS y_3.data), (.list 2 false (y_3.names.map entP))]), ([], 10, 3, .eq (pB true)), ([], 10, 5, .ret (pB r_6)), ([], 10, 6, .eq (pB false)), ([0], 14, 3, .retS (pB r_7) [] []), ([0], 14, 4, .eq (pB true))] [] [12]) diskRight_L8 (diskRight_S8 d.nodes (d.nodes.length : Int) (v_1, v_2, v_3, v_4, v_5, v_6)))))]) (ex := .ret) (r := (pB false)) (by kernel_rfl) rfl (by kernel_rfl) (allC (diskGet_ok (k + 4) d (0 : Int) _ q1) (allC (cg q2) (allC (cg q3) (allC (cg q4) (allC (len_ob (rfl : (d.nodes.map NodeD.c) = d.nodes.map NodeD.c)) (allC (cg q5) (allC (diskBytes_ok (k + 3) d _ q6) (allC (cg q7) (allC (diskDiskNamed_ok (k + 4) d.nodes d.most d.room _ q8) (allC (gt_row q9 (rfl : r_4.length = r_4.length)) (allC (gt_load (c := cI) q9 (rfl : (r_4.map cI) = r_4.map cI)) (allC (gt_row q10 (rfl : r_4.length = r_4.length)) (allC (gt_store (c := cI) q10 (rfl : (r_4.map cI) = r_4.map cI)) (allC (len_ob (rfl : (d.nodes.map NodeD.c) = d.nodes.map NodeD.c)) (allC q15 allN))))))))))))))) (by kernel_rfl) allN
                    · skip
                      obtain ⟨r_8, q23, q12⟩ := bnd_some q12
                      try dsimp only at q12
                      rcases bif_some q12 with ⟨q24, q12⟩ | ⟨q24, q12⟩
                      · skip
                        cases q12
                        try dsimp only at h
                        have q14 := run_go (k := (k + 6)) (f := 24) (r0 := 0) (nt := 85) (c := diskRight_L8) (σ := (diskRight_S8 d.nodes (d.nodes.length : Int) (v_1, v_2, v_3, v_4, v_5, v_6))) (adv [([], 8, 0, .eq (pB true)), ([], 9, 1, .elem [(pI y_3.kind), (pI y_3.modeF), (pI y_3.owner), (pI y_3.links), (pI y_3.openF), (pI y_3.up), (pS y_3.data), (.list 2 false (y_3.names.map entP))]), ([], 10, 3, .eq (pB true)), ([], 10, 5, .ret (pB r_6)), ([], 10, 6, .eq (pB false)), ([0], 14, 3, .retS (pB r_7) [] []), ([0], 14, 4, .eq (pB false)), ([1], 14, 3, .retS (pB r_8) [] []), ([1], 14, 4, .eq (pB true))] [] [12]) (ex := .ret) (by kernel_rfl) (by kernel_rfl) (allC (cg q16) (allC (gt_list (c := NodeD.c) q17) (allC (cg q18) (allC (diskNodeZero_ok (k + 5) y_3 _ q19) (allC (cg q20) (allC (diskRight1_ok (k + 4) v_1 y_3.kind y_3.modeF y_3.owner y_3.links y_3.openF y_3.up y_3.data y_3.names _ q21) (allC (cg q22) (allC (diskRight2_ok (k + 5) v_1 y_3.kind y_3.modeF y_3.owner y_3.links y_3.openF y_3.up y_3.data y_3.names _ q23) (allC (cg q24) allN)))))))))
                        have q15 := q13 _ _ (by intro e; cases e) q14
                        obtain rfl := Option.some.inj h
                        exact ret_go (k := (k + 6)) Try.func24 Try.ntmps24 (by kernel_rfl) (by kernel_rfl) (Nat.le_of_ble_eq_true rfl) (adv [([], 1, 1, .ret (.tup [(.agg [(pI r_1.kind), (pI r_1.modeF), (pI r_1.owner), (pI r_1.links), (pI r_1.openF), (pI r_1.up), (pS r_1.data), (.list 2 false (r_1.names.map entP))]), (pB r_2)])), ([], 2, 2, .eq (pB false)), ([], 2, 7, .eq (pB false)), ([], 2, 12, .eq (pB false)), ([], 2, 15, .eq (pI (d.nodes.length : Int))), ([], 2, 20, .eq (pB false)), ([], 2, 22, .ret (pI r_3)), ([], 2, 26, .eq (pB false)), ([], 4, 1, .retS (.tup [(.row [0, TAG] 1 0 r_4.length), (.row [1, TAG] 1 0 r_5.length)]) [some ⟨1, 3, (r_4.map cI), true, true⟩, some ⟨1, 3, (r_5.map cI), true, true⟩] [0, 0]), ([], 5, 1, .elem []), ([], 5, 2, .elem [(pI y_1)]), ([], 5, 4, .elem []), ([], 5, 5, .elem [(pI y_2)]), ([], 7, 2, .eq (pI (d.nodes.length : Int)))] [([], 8, .ret, (stOf (go (k + 6) 24 0 85 (adv [([], 8, 0, .eq (pB true)), ([], 9, 1, .elem [(pI y_3.kind), (pI y_3.modeF), (pI y_3.owner), (pI y_3.links), (pI y_3.openF), (pI y_3.up), (pS y_3.data), (.list 2 false (y_3.names.map entP))]), ([], 10, 3, .eq (pB true)), ([], 10, 5, .ret (pB r_6)), ([], 10, 6, .eq (pB false)), ([0], 14, 3, .retS (pB r_7) [] []), ([0], 14, 4, .eq (pB false)), ([1], 14, 3, .retS (pB r_8) [] []), ([1], 14, 4, .eq (pB true))] [] [12]) diskRight_L8 (diskRight_S8 d.nodes (d.nodes.length : Int) (v_1, v_2, v_3, v_4, v_5, v_6)))))]) (ex := .ret) (r := (pB false)) (by kernel_rfl) rfl (by kernel_rfl) (allC (diskGet_ok (k + 4) d (0 : Int) _ q1) (allC (cg q2) (allC (cg q3) (allC (cg q4) (allC (len_ob (rfl : (d.nodes.map NodeD.c) = d.nodes.map NodeD.c)) (allC (cg q5) (allC (diskBytes_ok (k + 3) d _ q6) (allC (cg q7) (allC (diskDiskNamed_ok (k + 4) d.nodes d.most d.room _ q8) (allC (gt_row q9 (rfl : r_4.length = r_4.length)) (allC (gt_load (c := cI) q9 (rfl : (r_4.map cI) = r_4.map cI)) (allC (gt_row q10 (rfl : r_4.length = r_4.length)) (allC (gt_store (c := cI) q10 (rfl : (r_4.map cI) = r_4.map cI)) (allC (len_ob (rfl : (d.nodes.map NodeD.c) = d.nodes.map NodeD.c)) (allC q15 allN))))))))))))))) (by kernel_rfl) allN
                      · skip
                        obtain ⟨X_5, q25, q12⟩ := bnd_some q12
                        rcases X_5 with ⟨r_9, r_10, r_11, r_12⟩
                        · try dsimp only at q12
                          rcases bif_some q12 with ⟨q26, q12⟩ | ⟨q26, q12⟩
                          · skip
                            cases q12
                            try dsimp only at h
                            have q14 := run_go (k := (k + 6)) (f := 24) (r0 := 0) (nt := 85) (c := diskRight_L8) (σ := (diskRight_S8 d.nodes (d.nodes.length : Int) (v_1, v_2, v_3, v_4, v_5, v_6))) (adv [([], 8, 0, .eq (pB true)), ([], 9, 1, .elem [(pI y_3.kind), (pI y_3.modeF), (pI y_3.owner), (pI y_3.links), (pI y_3.openF), (pI y_3.up), (pS y_3.data), (.list 2 false (y_3.names.map entP))]), ([], 10, 3, .eq (pB true)), ([], 10, 5, .ret (pB r_6)), ([], 10, 6, .eq (pB false)), ([0], 14, 3, .retS (pB r_7) [] []), ([0], 14, 4, .eq (pB false)), ([1], 14, 3, .retS (pB r_8) [] []), ([1], 14, 4, .eq (pB false)), ([2], 14, 3, .retS (pB r_9) [some ⟨3, 24, [[(.list 8 false (r_10.map NodeD.c)), (pI r_11), (pI r_12)]], true, false⟩] [0]), ([2], 14, 4, .eq (pB true))] [] [12]) (ex := .ret) (by kernel_rfl) (by kernel_rfl) (allC (cg q16) (allC (gt_list (c := NodeD.c) q17) (allC (cg q18) (allC (diskNodeZero_ok (k + 5) y_3 _ q19) (allC (cg q20) (allC (diskRight1_ok (k + 4) v_1 y_3.kind y_3.modeF y_3.owner y_3.links y_3.openF y_3.up y_3.data y_3.names _ q21) (allC (cg q22) (allC (diskRight2_ok (k + 5) v_1 y_3.kind y_3.modeF y_3.owner y_3.links y_3.openF y_3.up y_3.data y_3.names _ q23) (allC (cg q24) (allC (diskRight3_ok k v_1 y_3.kind y_3.modeF y_3.owner y_3.links y_3.openF y_3.up y_3.data y_3.names v_2 v_3 v_4 _ q25) (allC (cg q26) allN)))))))))))
                            have q15 := q13 _ _ (by intro e; cases e) q14
                            obtain rfl := Option.some.inj h
                            exact ret_go (k := (k + 6)) Try.func24 Try.ntmps24 (by kernel_rfl) (by kernel_rfl) (Nat.le_of_ble_eq_true rfl) (adv [([], 1, 1, .ret (.tup [(.agg [(pI r_1.kind), (pI r_1.modeF), (pI r_1.owner), (pI r_1.links), (pI r_1.openF), (pI r_1.up), (pS r_1.data), (.list 2 false (r_1.names.map entP))]), (pB r_2)])), ([], 2, 2, .eq (pB false)), ([], 2, 7, .eq (pB false)), ([], 2, 12, .eq (pB false)), ([], 2, 15, .eq (pI (d.nodes.length : Int))), ([], 2, 20, .eq (pB false)), ([], 2, 22, .ret (pI r_3)), ([], 2, 26, .eq (pB false)), ([], 4, 1, .retS (.tup [(.row [0, TAG] 1 0 r_4.length), (.row [1, TAG] 1 0 r_5.length)]) [some ⟨1, 3, (r_4.map cI), true, true⟩, some ⟨1, 3, (r_5.map cI), true, true⟩] [0, 0]), ([], 5, 1, .elem []), ([], 5, 2, .elem [(pI y_1)]), ([], 5, 4, .elem []), ([], 5, 5, .elem [(pI y_2)]), ([], 7, 2, .eq (pI (d.nodes.length : Int)))] [([], 8, .ret, (stOf (go (k + 6) 24 0 85 (adv [([], 8, 0, .eq (pB true)), ([], 9, 1, .elem [(pI y_3.kind), (pI y_3.modeF), (pI y_3.owner), (pI y_3.links), (pI y_3.openF), (pI y_3.up), (pS y_3.data), (.list 2 false (y_3.names.map entP))]), ([], 10, 3, .eq (pB true)), ([], 10, 5, .ret (pB r_6)), ([], 10, 6, .eq (pB false)), ([0], 14, 3, .retS (pB r_7) [] []), ([0], 14, 4, .eq (pB false)), ([1], 14, 3, .retS (pB r_8) [] []), ([1], 14, 4, .eq (pB false)), ([2], 14, 3, .retS (pB r_9) [some ⟨3, 24, [[(.list 8 false (r_10.map NodeD.c)), (pI r_11), (pI r_12)]], true, false⟩] [0]), ([2], 14, 4, .eq (pB true))] [] [12]) diskRight_L8 (diskRight_S8 d.nodes (d.nodes.length : Int) (v_1, v_2, v_3, v_4, v_5, v_6)))))]) (ex := .ret) (r := (pB false)) (by kernel_rfl) rfl (by kernel_rfl) (allC (diskGet_ok (k + 4) d (0 : Int) _ q1) (allC (cg q2) (allC (cg q3) (allC (cg q4) (allC (len_ob (rfl : (d.nodes.map NodeD.c) = d.nodes.map NodeD.c)) (allC (cg q5) (allC (diskBytes_ok (k + 3) d _ q6) (allC (cg q7) (allC (diskDiskNamed_ok (k + 4) d.nodes d.most d.room _ q8) (allC (gt_row q9 (rfl : r_4.length = r_4.length)) (allC (gt_load (c := cI) q9 (rfl : (r_4.map cI) = r_4.map cI)) (allC (gt_row q10 (rfl : r_4.length = r_4.length)) (allC (gt_store (c := cI) q10 (rfl : (r_4.map cI) = r_4.map cI)) (allC (len_ob (rfl : (d.nodes.map NodeD.c) = d.nodes.map NodeD.c)) (allC q15 allN))))))))))))))) (by kernel_rfl) allN
                          · skip
                            obtain ⟨X_6, q27, q12⟩ := bnd_some q12
                            rcases X_6 with ⟨r_13, r_14⟩
                            · try dsimp only at q12
                              rcases bif_some q12 with ⟨q28, q12⟩ | ⟨q28, q12⟩
                              · skip
                                cases q12
                                try dsimp only at h
                                have q14 := run_go (k := (k + 6)) (f := 24) (r0 := 0) (nt := 85) (c := diskRight_L8) (σ := (diskRight_S8 d.nodes (d.nodes.length : Int) (v_1, v_2, v_3, v_4, v_5, v_6))) (adv [([], 8, 0, .eq (pB true)), ([], 9, 1, .elem [(pI y_3.kind), (pI y_3.modeF), (pI y_3.owner), (pI y_3.links), (pI y_3.openF), (pI y_3.up), (pS y_3.data), (.list 2 false (y_3.names.map entP))]), ([], 10, 3, .eq (pB true)), ([], 10, 5, .ret (pB r_6)), ([], 10, 6, .eq (pB false)), ([0], 14, 3, .retS (pB r_7) [] []), ([0], 14, 4, .eq (pB false)), ([1], 14, 3, .retS (pB r_8) [] []), ([1], 14, 4, .eq (pB false)), ([2], 14, 3, .retS (pB r_9) [some ⟨3, 24, [[(.list 8 false (r_10.map NodeD.c)), (pI r_11), (pI r_12)]], true, false⟩] [0]), ([2], 14, 4, .eq (pB false)), ([3], 14, 3, .retS (pB r_13) [some ⟨1, 86, [[(.row [1, TAG] 1 0 r_14.length)]], false, false⟩, some ⟨1, 3, (r_14.map cI), true, true⟩] [0, 0]), ([3], 14, 4, .eq (pB true))] [] [12]) (ex := .ret) (by kernel_rfl) (by kernel_rfl) (allC (cg q16) (allC (gt_list (c := NodeD.c) q17) (allC (cg q18) (allC (diskNodeZero_ok (k + 5) y_3 _ q19) (allC (cg q20) (allC (diskRight1_ok (k + 4) v_1 y_3.kind y_3.modeF y_3.owner y_3.links y_3.openF y_3.up y_3.data y_3.names _ q21) (allC (cg q22) (allC (diskRight2_ok (k + 5) v_1 y_3.kind y_3.modeF y_3.owner y_3.links y_3.openF y_3.up y_3.data y_3.names _ q23) (allC (cg q24) (allC (diskRight3_ok k v_1 y_3.kind y_3.modeF y_3.owner y_3.links y_3.openF y_3.up y_3.data y_3.names v_2 v_3 v_4 _ q25) (allC (cg q26) (allC (diskRight4_ok (k + 5) v_1 y_3.kind y_3.modeF y_3.owner y_3.links y_3.openF y_3.up y_3.data y_3.names v_5 _ q27) (allC (cg q28) allN)))))))))))))
                                have q15 := q13 _ _ (by intro e; cases e) q14
                                obtain rfl := Option.some.inj h
                                exact ret_go (k := (k + 6)) Try.func24 Try.ntmps24 (by kernel_rfl) (by kernel_rfl) (Nat.le_of_ble_eq_true rfl) (adv [([], 1, 1, .ret (.tup [(.agg [(pI r_1.kind), (pI r_1.modeF), (pI r_1.owner), (pI r_1.links), (pI r_1.openF), (pI r_1.up), (pS r_1.data), (.list 2 false (r_1.names.map entP))]), (pB r_2)])), ([], 2, 2, .eq (pB false)), ([], 2, 7, .eq (pB false)), ([], 2, 12, .eq (pB false)), ([], 2, 15, .eq (pI (d.nodes.length : Int))), ([], 2, 20, .eq (pB false)), ([], 2, 22, .ret (pI r_3)), ([], 2, 26, .eq (pB false)), ([], 4, 1, .retS (.tup [(.row [0, TAG] 1 0 r_4.length), (.row [1, TAG] 1 0 r_5.length)]) [some ⟨1, 3, (r_4.map cI), true, true⟩, some ⟨1, 3, (r_5.map cI), true, true⟩] [0, 0]), ([], 5, 1, .elem []), ([], 5, 2, .elem [(pI y_1)]), ([], 5, 4, .elem []), ([], 5, 5, .elem [(pI y_2)]), ([], 7, 2, .eq (pI (d.nodes.length : Int)))] [([], 8, .ret, (stOf (go (k + 6) 24 0 85 (adv [([], 8, 0, .eq (pB true)), ([], 9, 1, .elem [(pI y_3.kind), (pI y_3.modeF), (pI y_3.owner), (pI y_3.links), (pI y_3.openF), (pI y_3.up), (pS y_3.data), (.list 2 false (y_3.names.map entP))]), ([], 10, 3, .eq (pB true)), ([], 10, 5, .ret (pB r_6)), ([], 10, 6, .eq (pB false)), ([0], 14, 3, .retS (pB r_7) [] []), ([0], 14, 4, .eq (pB false)), ([1], 14, 3, .retS (pB r_8) [] []), ([1], 14, 4, .eq (pB false)), ([2], 14, 3, .retS (pB r_9) [some ⟨3, 24, [[(.list 8 false (r_10.map NodeD.c)), (pI r_11), (pI r_12)]], true, false⟩] [0]), ([2], 14, 4, .eq (pB false)), ([3], 14, 3, .retS (pB r_13) [some ⟨1, 86, [[(.row [1, TAG] 1 0 r_14.length)]], false, false⟩, some ⟨1, 3, (r_14.map cI), true, true⟩] [0, 0]), ([3], 14, 4, .eq (pB true))] [] [12]) diskRight_L8 (diskRight_S8 d.nodes (d.nodes.length : Int) (v_1, v_2, v_3, v_4, v_5, v_6)))))]) (ex := .ret) (r := (pB false)) (by kernel_rfl) rfl (by kernel_rfl) (allC (diskGet_ok (k + 4) d (0 : Int) _ q1) (allC (cg q2) (allC (cg q3) (allC (cg q4) (allC (len_ob (rfl : (d.nodes.map NodeD.c) = d.nodes.map NodeD.c)) (allC (cg q5) (allC (diskBytes_ok (k + 3) d _ q6) (allC (cg q7) (allC (diskDiskNamed_ok (k + 4) d.nodes d.most d.room _ q8) (allC (gt_row q9 (rfl : r_4.length = r_4.length)) (allC (gt_load (c := cI) q9 (rfl : (r_4.map cI) = r_4.map cI)) (allC (gt_row q10 (rfl : r_4.length = r_4.length)) (allC (gt_store (c := cI) q10 (rfl : (r_4.map cI) = r_4.map cI)) (allC (len_ob (rfl : (d.nodes.map NodeD.c) = d.nodes.map NodeD.c)) (allC q15 allN))))))))))))))) (by kernel_rfl) allN
                              · skip
                                obtain ⟨X_7, q29, q12⟩ := bnd_some q12
                                rcases X_7 with ⟨r_15, r_16⟩
                                · try dsimp only at q12
                                  rcases bif_some q12 with ⟨q30, q12⟩ | ⟨q30, q12⟩
                                  · skip
                                    cases q12
                                    try dsimp only at h
                                    have q14 := run_go (k := (k + 6)) (f := 24) (r0 := 0) (nt := 85) (c := diskRight_L8) (σ := (diskRight_S8 d.nodes (d.nodes.length : Int) (v_1, v_2, v_3, v_4, v_5, v_6))) (adv [([], 8, 0, .eq (pB true)), ([], 9, 1, .elem [(pI y_3.kind), (pI y_3.modeF), (pI y_3.owner), (pI y_3.links), (pI y_3.openF), (pI y_3.up), (pS y_3.data), (.list 2 false (y_3.names.map entP))]), ([], 10, 3, .eq (pB true)), ([], 10, 5, .ret (pB r_6)), ([], 10, 6, .eq (pB false)), ([0], 14, 3, .retS (pB r_7) [] []), ([0], 14, 4, .eq (pB false)), ([1], 14, 3, .retS (pB r_8) [] []), ([1], 14, 4, .eq (pB false)), ([2], 14, 3, .retS (pB r_9) [some ⟨3, 24, [[(.list 8 false (r_10.map NodeD.c)), (pI r_11), (pI r_12)]], true, false⟩] [0]), ([2], 14, 4, .eq (pB false)), ([3], 14, 3, .retS (pB r_13) [some ⟨1, 86, [[(.row [1, TAG] 1 0 r_14.length)]], false, false⟩, some ⟨1, 3, (r_14.map cI), true, true⟩] [0, 0]), ([3], 14, 4, .eq (pB false)), ([4], 14, 3, .retS (pB r_15) [some ⟨1, 86, [[(.row [1, TAG] 1 0 r_16.length)]], false, false⟩, some ⟨1, 3, (r_16.map cI), true, true⟩] [0, 0]), ([4], 14, 4, .eq (pB true))] [] [12]) (ex := .ret) (by kernel_rfl) (by kernel_rfl) (allC (cg q16) (allC (gt_list (c := NodeD.c) q17) (allC (cg q18) (allC (diskNodeZero_ok (k + 5) y_3 _ q19) (allC (cg q20) (allC (diskRight1_ok (k + 4) v_1 y_3.kind y_3.modeF y_3.owner y_3.links y_3.openF y_3.up y_3.data y_3.names _ q21) (allC (cg q22) (allC (diskRight2_ok (k + 5) v_1 y_3.kind y_3.modeF y_3.owner y_3.links y_3.openF y_3.up y_3.data y_3.names _ q23) (allC (cg q24) (allC (diskRight3_ok k v_1 y_3.kind y_3.modeF y_3.owner y_3.links y_3.openF y_3.up y_3.data y_3.names v_2 v_3 v_4 _ q25) (allC (cg q26) (allC (diskRight4_ok (k + 5) v_1 y_3.kind y_3.modeF y_3.owner y_3.links y_3.openF y_3.up y_3.data y_3.names v_5 _ q27) (allC (cg q28) (allC (diskRight5_ok (k + 5) v_1 y_3.kind y_3.modeF y_3.owner y_3.links y_3.openF y_3.up y_3.data y_3.names r_14 _ q29) (allC (cg q30) allN)))))))))))))))
                                    have q15 := q13 _ _ (by intro e; cases e) q14
                                    obtain rfl := Option.some.inj h
                                    exact ret_go (k := (k + 6)) Try.func24 Try.ntmps24 (by kernel_rfl) (by kernel_rfl) (Nat.le_of_ble_eq_true rfl) (adv [([], 1, 1, .ret (.tup [(.agg [(pI r_1.kind), (pI r_1.modeF), (pI r_1.owner), (pI r_1.links), (pI r_1.openF), (pI r_1.up), (pS r_1.data), (.list 2 false (r_1.names.map entP))]), (pB r_2)])), ([], 2, 2, .eq (pB false)), ([], 2, 7, .eq (pB false)), ([], 2, 12, .eq (pB false)), ([], 2, 15, .eq (pI (d.nodes.length : Int))), ([], 2, 20, .eq (pB false)), ([], 2, 22, .ret (pI r_3)), ([], 2, 26, .eq (pB false)), ([], 4, 1, .retS (.tup [(.row [0, TAG] 1 0 r_4.length), (.row [1, TAG] 1 0 r_5.length)]) [some ⟨1, 3, (r_4.map cI), true, true⟩, some ⟨1, 3, (r_5.map cI), true, true⟩] [0, 0]), ([], 5, 1, .elem []), ([], 5, 2, .elem [(pI y_1)]), ([], 5, 4, .elem []), ([], 5, 5, .elem [(pI y_2)]), ([], 7, 2, .eq (pI (d.nodes.length : Int)))] [([], 8, .ret, (stOf (go (k + 6) 24 0 85 (adv [([], 8, 0, .eq (pB true)), ([], 9, 1, .elem [(pI y_3.kind), (pI y_3.modeF), (pI y_3.owner), (pI y_3.links), (pI y_3.openF), (pI y_3.up), (pS y_3.data), (.list 2 false (y_3.names.map entP))]), ([], 10, 3, .eq (pB true)), ([], 10, 5, .ret (pB r_6)), ([], 10, 6, .eq (pB false)), ([0], 14, 3, .retS (pB r_7) [] []), ([0], 14, 4, .eq (pB false)), ([1], 14, 3, .retS (pB r_8) [] []), ([1], 14, 4, .eq (pB false)), ([2], 14, 3, .retS (pB r_9) [some ⟨3, 24, [[(.list 8 false (r_10.map NodeD.c)), (pI r_11), (pI r_12)]], true, false⟩] [0]), ([2], 14, 4, .eq (pB false)), ([3], 14, 3, .retS (pB r_13) [some ⟨1, 86, [[(.row [1, TAG] 1 0 r_14.length)]], false, false⟩, some ⟨1, 3, (r_14.map cI), true, true⟩] [0, 0]), ([3], 14, 4, .eq (pB false)), ([4], 14, 3, .retS (pB r_15) [some ⟨1, 86, [[(.row [1, TAG] 1 0 r_16.length)]], false, false⟩, some ⟨1, 3, (r_16.map cI), true, true⟩] [0, 0]), ([4], 14, 4, .eq (pB true))] [] [12]) diskRight_L8 (diskRight_S8 d.nodes (d.nodes.length : Int) (v_1, v_2, v_3, v_4, v_5, v_6)))))]) (ex := .ret) (r := (pB false)) (by kernel_rfl) rfl (by kernel_rfl) (allC (diskGet_ok (k + 4) d (0 : Int) _ q1) (allC (cg q2) (allC (cg q3) (allC (cg q4) (allC (len_ob (rfl : (d.nodes.map NodeD.c) = d.nodes.map NodeD.c)) (allC (cg q5) (allC (diskBytes_ok (k + 3) d _ q6) (allC (cg q7) (allC (diskDiskNamed_ok (k + 4) d.nodes d.most d.room _ q8) (allC (gt_row q9 (rfl : r_4.length = r_4.length)) (allC (gt_load (c := cI) q9 (rfl : (r_4.map cI) = r_4.map cI)) (allC (gt_row q10 (rfl : r_4.length = r_4.length)) (allC (gt_store (c := cI) q10 (rfl : (r_4.map cI) = r_4.map cI)) (allC (len_ob (rfl : (d.nodes.map NodeD.c) = d.nodes.map NodeD.c)) (allC q15 allN))))))))))))))) (by kernel_rfl) allN
                                  · skip
                                    obtain ⟨X_8, q31, q12⟩ := bnd_some q12
                                    rcases X_8 with ⟨r_17, r_18, r_19, r_20, r_21, r_22⟩
                                    · try dsimp only at q12
                                      rcases bif_some q12 with ⟨q32, q12⟩ | ⟨q32, q12⟩
                                      · skip
                                        cases q12
                                        try dsimp only at h
                                        have q14 := run_go (k := (k + 6)) (f := 24) (r0 := 0) (nt := 85) (c := diskRight_L8) (σ := (diskRight_S8 d.nodes (d.nodes.length : Int) (v_1, v_2, v_3, v_4, v_5, v_6))) (adv [([], 8, 0, .eq (pB true)), ([], 9, 1, .elem [(pI y_3.kind), (pI y_3.modeF), (pI y_3.owner), (pI y_3.links), (pI y_3.openF), (pI y_3.up), (pS y_3.data), (.list 2 false (y_3.names.map entP))]), ([], 10, 3, .eq (pB true)), ([], 10, 5, .ret (pB r_6)), ([], 10, 6, .eq (pB false)), ([0], 14, 3, .retS (pB r_7) [] []), ([0], 14, 4, .eq (pB false)), ([1], 14, 3, .retS (pB r_8) [] []), ([1], 14, 4, .eq (pB false)), ([2], 14, 3, .retS (pB r_9) [some ⟨3, 24, [[(.list 8 false (r_10.map NodeD.c)), (pI r_11), (pI r_12)]], true, false⟩] [0]), ([2], 14, 4, .eq (pB false)), ([3], 14, 3, .retS (pB r_13) [some ⟨1, 86, [[(.row [1, TAG] 1 0 r_14.length)]], false, false⟩, some ⟨1, 3, (r_14.map cI), true, true⟩] [0, 0]), ([3], 14, 4, .eq (pB false)), ([4], 14, 3, .retS (pB r_15) [some ⟨1, 86, [[(.row [1, TAG] 1 0 r_16.length)]], false, false⟩, some ⟨1, 3, (r_16.map cI), true, true⟩] [0, 0]), ([4], 14, 4, .eq (pB false)), ([5], 14, 3, .retS (pB r_17) [some ⟨1, 86, [[(.row [3, TAG] 1 0 r_21.length)]], false, false⟩, some ⟨1, 86, [[(.row [4, TAG] 1 0 r_22.length)]], false, false⟩, some ⟨3, 24, [[(.list 8 false (r_18.map NodeD.c)), (pI r_19), (pI r_20)]], true, false⟩, some ⟨1, 3, (r_21.map cI), true, true⟩, some ⟨1, 3, (r_22.map cI), true, true⟩] [0, 0, 0, 0, 0]), ([5], 14, 4, .eq (pB true))] [] [12]) (ex := .ret) (by kernel_rfl) (by kernel_rfl) (allC (cg q16) (allC (gt_list (c := NodeD.c) q17) (allC (cg q18) (allC (diskNodeZero_ok (k + 5) y_3 _ q19) (allC (cg q20) (allC (diskRight1_ok (k + 4) v_1 y_3.kind y_3.modeF y_3.owner y_3.links y_3.openF y_3.up y_3.data y_3.names _ q21) (allC (cg q22) (allC (diskRight2_ok (k + 5) v_1 y_3.kind y_3.modeF y_3.owner y_3.links y_3.openF y_3.up y_3.data y_3.names _ q23) (allC (cg q24) (allC (diskRight3_ok k v_1 y_3.kind y_3.modeF y_3.owner y_3.links y_3.openF y_3.up y_3.data y_3.names v_2 v_3 v_4 _ q25) (allC (cg q26) (allC (diskRight4_ok (k + 5) v_1 y_3.kind y_3.modeF y_3.owner y_3.links y_3.openF y_3.up y_3.data y_3.names v_5 _ q27) (allC (cg q28) (allC (diskRight5_ok (k + 5) v_1 y_3.kind y_3.modeF y_3.owner y_3.links y_3.openF y_3.up y_3.data y_3.names r_14 _ q29) (allC (cg q30) (allC (diskRight6_ok (k + 2) v_1 y_3.kind y_3.modeF y_3.owner y_3.links y_3.openF y_3.up y_3.data y_3.names r_10 r_11 r_12 r_16 v_6 _ q31) (allC (cg q32) allN)))))))))))))))))
                                        have q15 := q13 _ _ (by intro e; cases e) q14
                                        obtain rfl := Option.some.inj h
                                        exact ret_go (k := (k + 6)) Try.func24 Try.ntmps24 (by kernel_rfl) (by kernel_rfl) (Nat.le_of_ble_eq_true rfl) (adv [([], 1, 1, .ret (.tup [(.agg [(pI r_1.kind), (pI r_1.modeF), (pI r_1.owner), (pI r_1.links), (pI r_1.openF), (pI r_1.up), (pS r_1.data), (.list 2 false (r_1.names.map entP))]), (pB r_2)])), ([], 2, 2, .eq (pB false)), ([], 2, 7, .eq (pB false)), ([], 2, 12, .eq (pB false)), ([], 2, 15, .eq (pI (d.nodes.length : Int))), ([], 2, 20, .eq (pB false)), ([], 2, 22, .ret (pI r_3)), ([], 2, 26, .eq (pB false)), ([], 4, 1, .retS (.tup [(.row [0, TAG] 1 0 r_4.length), (.row [1, TAG] 1 0 r_5.length)]) [some ⟨1, 3, (r_4.map cI), true, true⟩, some ⟨1, 3, (r_5.map cI), true, true⟩] [0, 0]), ([], 5, 1, .elem []), ([], 5, 2, .elem [(pI y_1)]), ([], 5, 4, .elem []), ([], 5, 5, .elem [(pI y_2)]), ([], 7, 2, .eq (pI (d.nodes.length : Int)))] [([], 8, .ret, (stOf (go (k + 6) 24 0 85 (adv [([], 8, 0, .eq (pB true)), ([], 9, 1, .elem [(pI y_3.kind), (pI y_3.modeF), (pI y_3.owner), (pI y_3.links), (pI y_3.openF), (pI y_3.up), (pS y_3.data), (.list 2 false (y_3.names.map entP))]), ([], 10, 3, .eq (pB true)), ([], 10, 5, .ret (pB r_6)), ([], 10, 6, .eq (pB false)), ([0], 14, 3, .retS (pB r_7) [] []), ([0], 14, 4, .eq (pB false)), ([1], 14, 3, .retS (pB r_8) [] []), ([1], 14, 4, .eq (pB false)), ([2], 14, 3, .retS (pB r_9) [some ⟨3, 24, [[(.list 8 false (r_10.map NodeD.c)), (pI r_11), (pI r_12)]], true, false⟩] [0]), ([2], 14, 4, .eq (pB false)), ([3], 14, 3, .retS (pB r_13) [some ⟨1, 86, [[(.row [1, TAG] 1 0 r_14.length)]], false, false⟩, some ⟨1, 3, (r_14.map cI), true, true⟩] [0, 0]), ([3], 14, 4, .eq (pB false)), ([4], 14, 3, .retS (pB r_15) [some ⟨1, 86, [[(.row [1, TAG] 1 0 r_16.length)]], false, false⟩, some ⟨1, 3, (r_16.map cI), true, true⟩] [0, 0]), ([4], 14, 4, .eq (pB false)), ([5], 14, 3, .retS (pB r_17) [some ⟨1, 86, [[(.row [3, TAG] 1 0 r_21.length)]], false, false⟩, some ⟨1, 86, [[(.row [4, TAG] 1 0 r_22.length)]], false, false⟩, some ⟨3, 24, [[(.list 8 false (r_18.map NodeD.c)), (pI r_19), (pI r_20)]], true, false⟩, some ⟨1, 3, (r_21.map cI), true, true⟩, some ⟨1, 3, (r_22.map cI), true, true⟩] [0, 0, 0, 0, 0]), ([5], 14, 4, .eq (pB true))] [] [12]) diskRight_L8 (diskRight_S8 d.nodes (d.nodes.length : Int) (v_1, v_2, v_3, v_4, v_5, v_6)))))]) (ex := .ret) (r := (pB false)) (by kernel_rfl) rfl (by kernel_rfl) (allC (diskGet_ok (k + 4) d (0 : Int) _ q1) (allC (cg q2) (allC (cg q3) (allC (cg q4) (allC (len_ob (rfl : (d.nodes.map NodeD.c) = d.nodes.map NodeD.c)) (allC (cg q5) (allC (diskBytes_ok (k + 3) d _ q6) (allC (cg q7) (allC (diskDiskNamed_ok (k + 4) d.nodes d.most d.room _ q8) (allC (gt_row q9 (rfl : r_4.length = r_4.length)) (allC (gt_load (c := cI) q9 (rfl : (r_4.map cI) = r_4.map cI)) (allC (gt_row q10 (rfl : r_4.length = r_4.length)) (allC (gt_store (c := cI) q10 (rfl : (r_4.map cI) = r_4.map cI)) (allC (len_ob (rfl : (d.nodes.map NodeD.c) = d.nodes.map NodeD.c)) (allC q15 allN))))))))))))))) (by kernel_rfl) allN
                                      · skip
                                        cases q12
                · skip
                  obtain ⟨r_6, q19, q12⟩ := bnd_some q12
                  try dsimp only at q12
                  rcases bif_some q12 with ⟨q20, q12⟩ | ⟨q20, q12⟩
                  · skip
                    cases q12
                    try dsimp only at h
                    have q14 := run_go (k := (k + 6)) (f := 24) (r0 := 0) (nt := 85) (c := diskRight_L8) (σ := (diskRight_S8 d.nodes (d.nodes.length : Int) (v_1, v_2, v_3, v_4, v_5, v_6))) (adv [([], 8, 0, .eq (pB true)), ([], 9, 1, .elem [(pI y_3.kind), (pI y_3.modeF), (pI y_3.owner), (pI y_3.links), (pI y_3.openF), (pI y_3.up), (pS y_3.data), (.list 2 false (y_3.names.map entP))]), ([], 10, 3, .eq (pB false)), ([0], 14, 3, .retS (pB r_6) [] []), ([0], 14, 4, .eq (pB true))] [] [12]) (ex := .ret) (by kernel_rfl) (by kernel_rfl) (allC (cg q16) (allC (gt_list (c := NodeD.c) q17) (allC (cg q18) (allC (diskRight1_ok (k + 4) v_1 y_3.kind y_3.modeF y_3.owner y_3.links y_3.openF y_3.up y_3.data y_3.names _ q19) (allC (cg q20) allN)))))
                    have q15 := q13 _ _ (by intro e; cases e) q14
                    obtain rfl := Option.some.inj h
                    exact ret_go (k := (k + 6)) Try.func24 Try.ntmps24 (by kernel_rfl) (by kernel_rfl) (Nat.le_of_ble_eq_true rfl) (adv [([], 1, 1, .ret (.tup [(.agg [(pI r_1.kind), (pI r_1.modeF), (pI r_1.owner), (pI r_1.links), (pI r_1.openF), (pI r_1.up), (pS r_1.data), (.list 2 false (r_1.names.map entP))]), (pB r_2)])), ([], 2, 2, .eq (pB false)), ([], 2, 7, .eq (pB false)), ([], 2, 12, .eq (pB false)), ([], 2, 15, .eq (pI (d.nodes.length : Int))), ([], 2, 20, .eq (pB false)), ([], 2, 22, .ret (pI r_3)), ([], 2, 26, .eq (pB false)), ([], 4, 1, .retS (.tup [(.row [0, TAG] 1 0 r_4.length), (.row [1, TAG] 1 0 r_5.length)]) [some ⟨1, 3, (r_4.map cI), true, true⟩, some ⟨1, 3, (r_5.map cI), true, true⟩] [0, 0]), ([], 5, 1, .elem []), ([], 5, 2, .elem [(pI y_1)]), ([], 5, 4, .elem []), ([], 5, 5, .elem [(pI y_2)]), ([], 7, 2, .eq (pI (d.nodes.length : Int)))] [([], 8, .ret, (stOf (go (k + 6) 24 0 85 (adv [([], 8, 0, .eq (pB true)), ([], 9, 1, .elem [(pI y_3.kind), (pI y_3.modeF), (pI y_3.owner), (pI y_3.links), (pI y_3.openF), (pI y_3.up), (pS y_3.data), (.list 2 false (y_3.names.map entP))]), ([], 10, 3, .eq (pB false)), ([0], 14, 3, .retS (pB r_6) [] []), ([0], 14, 4, .eq (pB true))] [] [12]) diskRight_L8 (diskRight_S8 d.nodes (d.nodes.length : Int) (v_1, v_2, v_3, v_4, v_5, v_6)))))]) (ex := .ret) (r := (pB false)) (by kernel_rfl) rfl (by kernel_rfl) (allC (diskGet_ok (k + 4) d (0 : Int) _ q1) (allC (cg q2) (allC (cg q3) (allC (cg q4) (allC (len_ob (rfl : (d.nodes.map NodeD.c) = d.nodes.map NodeD.c)) (allC (cg q5) (allC (diskBytes_ok (k + 3) d _ q6) (allC (cg q7) (allC (diskDiskNamed_ok (k + 4) d.nodes d.most d.room _ q8) (allC (gt_row q9 (rfl : r_4.length = r_4.length)) (allC (gt_load (c := cI) q9 (rfl : (r_4.map cI) = r_4.map cI)) (allC (gt_row q10 (rfl : r_4.length = r_4.length)) (allC (gt_store (c := cI) q10 (rfl : (r_4.map cI) = r_4.map cI)) (allC (len_ob (rfl : (d.nodes.map NodeD.c) = d.nodes.map NodeD.c)) (allC q15 allN))))))))))))))) (by kernel_rfl) allN
                  · skip
                    obtain ⟨r_7, q21, q12⟩ := bnd_some q12
                    try dsimp only at q12
                    rcases bif_some q12 with ⟨q22, q12⟩ | ⟨q22, q12⟩
                    · skip
                      cases q12
                      try dsimp only at h
                      have q14 := run_go (k := (k + 6)) (f := 24) (r0 := 0) (nt := 85) (c := diskRight_L8) (σ := (diskRight_S8 d.nodes (d.nodes.length : Int) (v_1, v_2, v_3, v_4, v_5, v_6))) (adv [([], 8, 0, .eq (pB true)), ([], 9, 1, .elem [(pI y_3.kind), (pI y_3.modeF), (pI y_3.owner), (pI y_3.links), (pI y_3.openF), (pI y_3.up), (pS y_3.data), (.list 2 false (y_3.names.map entP))]), ([], 10, 3, .eq (pB false)), ([0], 14, 3, .retS (pB r_6) [] []), ([0], 14, 4, .eq (pB false)), ([1], 14, 3, .retS (pB r_7) [] []), ([1], 14, 4, .eq (pB true))] [] [12]) (ex := .ret) (by kernel_rfl) (by kernel_rfl) (allC (cg q16) (allC (gt_list (c := NodeD.c) q17) (allC (cg q18) (allC (diskRight1_ok (k + 4) v_1 y_3.kind y_3.modeF y_3.owner y_3.links y_3.openF y_3.up y_3.data y_3.names _ q19) (allC (cg q20) (allC (diskRight2_ok (k + 5) v_1 y_3.kind y_3.modeF y_3.owner y_3.links y_3.openF y_3.up y_3.data y_3.names _ q21) (allC (cg q22) allN)))))))
                      have q15 := q13 _ _ (by intro e; cases e) q14
                      obtain rfl := Option.some.inj h
                      exact ret_go (k := (k + 6)) Try.func24 Try.ntmps24 (by kernel_rfl) (by kernel_rfl) (Nat.le_of_ble_eq_true rfl) (adv [([], 1, 1, .ret (.tup [(.agg [(pI r_1.kind), (pI r_1.modeF), (pI r_1.owner), (pI r_1.links), (pI r_1.openF), (pI r_1.up), (pS r_1.data), (.list 2 false (r_1.names.map entP))]), (pB r_2)])), ([], 2, 2, .eq (pB false)), ([], 2, 7, .eq (pB false)), ([], 2, 12, .eq (pB false)), ([], 2, 15, .eq (pI (d.nodes.length : Int))), ([], 2, 20, .eq (pB false)), ([], 2, 22, .ret (pI r_3)), ([], 2, 26, .eq (pB false)), ([], 4, 1, .retS (.tup [(.row [0, TAG] 1 0 r_4.length), (.row [1, TAG] 1 0 r_5.length)]) [some ⟨1, 3, (r_4.map cI), true, true⟩, some ⟨1, 3, (r_5.map cI), true, true⟩] [0, 0]), ([], 5, 1, .elem []), ([], 5, 2, .elem [(pI y_1)]), ([], 5, 4, .elem []), ([], 5, 5, .elem [(pI y_2)]), ([], 7, 2, .eq (pI (d.nodes.length : Int)))] [([], 8, .ret, (stOf (go (k + 6) 24 0 85 (adv [([], 8, 0, .eq (pB true)), ([], 9, 1, .elem [(pI y_3.kind), (pI y_3.modeF), (pI y_3.owner), (pI y_3.links), (pI y_3.openF), (pI y_3.up), (pS y_3.data), (.list 2 false (y_3.names.map entP))]), ([], 10, 3, .eq (pB false)), ([0], 14, 3, .retS (pB r_6) [] []), ([0], 14, 4, .eq (pB false)), ([1], 14, 3, .retS (pB r_7) [] []), ([1], 14, 4, .eq (pB true))] [] [12]) diskRight_L8 (diskRight_S8 d.nodes (d.nodes.length : Int) (v_1, v_2, v_3, v_4, v_5, v_6)))))]) (ex := .ret) (r := (pB false)) (by kernel_rfl) rfl (by kernel_rfl) (allC (diskGet_ok (k + 4) d (0 : Int) _ q1) (allC (cg q2) (allC (cg q3) (allC (cg q4) (allC (len_ob (rfl : (d.nodes.map NodeD.c) = d.nodes.map NodeD.c)) (allC (cg q5) (allC (diskBytes_ok (k + 3) d _ q6) (allC (cg q7) (allC (diskDiskNamed_ok (k + 4) d.nodes d.most d.room _ q8) (allC (gt_row q9 (rfl : r_4.length = r_4.length)) (allC (gt_load (c := cI) q9 (rfl : (r_4.map cI) = r_4.map cI)) (allC (gt_row q10 (rfl : r_4.length = r_4.length)) (allC (gt_store (c := cI) q10 (rfl : (r_4.map cI) = r_4.map cI)) (allC (len_ob (rfl : (d.nodes.map NodeD.c) = d.nodes.map NodeD.c)) (allC q15 allN))))))))))))))) (by kernel_rfl) allN
                    · skip
                      obtain ⟨X_5, q23, q12⟩ := bnd_some q12
                      rcases X_5 with ⟨r_8, r_9, r_10, r_11⟩
                      · try dsimp only at q12
                        rcases bif_some q12 with ⟨q24, q12⟩ | ⟨q24, q12⟩
                        · skip
                          cases q12
                          try dsimp only at h
                          have q14 := run_go (k := (k + 6)) (f := 24) (r0 := 0) (nt := 85) (c := diskRight_L8) (σ := (diskRight_S8 d.nodes (d.nodes.length : Int) (v_1, v_2, v_3, v_4, v_5, v_6))) (adv [([], 8, 0, .eq (pB true)), ([], 9, 1, .elem [(pI y_3.kind), (pI y_3.modeF), (pI y_3.owner), (pI y_3.links), (pI y_3.openF), (pI y_3.up), (pS y_3.data), (.list 2 false (y_3.names.map entP))]), ([], 10, 3, .eq (pB false)), ([0], 14, 3, .retS (pB r_6) [] []), ([0], 14, 4, .eq (pB false)), ([1], 14, 3, .retS (pB r_7) [] []), ([1], 14, 4, .eq (pB false)), ([2], 14, 3, .retS (pB r_8) [some ⟨3, 24, [[(.list 8 false (r_9.map NodeD.c)), (pI r_10), (pI r_11)]], true, false⟩] [0]), ([2], 14, 4, .eq (pB true))] [] [12]) (ex := .ret) (by kernel_rfl) (by kernel_rfl) (allC (cg q16) (allC (gt_list (c := NodeD.c) q17) (allC (cg q18) (allC (diskRight1_ok (k + 4) v_1 y_3.kind y_3.modeF y_3.owner y_3.links y_3.openF y_3.up y_3.data y_3.names _ q19) (allC (cg q20) (allC (diskRight2_ok (k + 5) v_1 y_3.kind y_3.modeF y_3.owner y_3.links y_3.openF y_3.up y_3.data y_3.names _ q21) (allC (cg q22) (allC (diskRight3_ok k v_1 y_3.kind y_3.modeF y_3.owner y_3.links y_3.openF y_3.up y_3.data y_3.names v_2 v_3 v_4 _ q23) (allC (cg q24) allN)))))))))
                          have q15 := q13 _ _ (by intro e; cases e) q14
                          obtain rfl := Option.some.inj h
                          exact ret_go (k := (k + 6)) Try.func24 Try.ntmps24 (by kernel_rfl) (by kernel_rfl) (Nat.le_of_ble_eq_true rfl) (adv [([], 1, 1, .ret (.tup [(.agg [(pI r_1.kind), (pI r_1.modeF), (pI r_1.owner), (pI r_1.links), (pI r_1.openF), (pI r_1.up), (pS r_1.data), (.list 2 false (r_1.names.map entP))]), (pB r_2)])), ([], 2, 2, .eq (pB false)), ([], 2, 7, .eq (pB false)), ([], 2, 12, .eq (pB false)), ([], 2, 15, .eq (pI (d.nodes.length : Int))), ([], 2, 20, .eq (pB false)), ([], 2, 22, .ret (pI r_3)), ([], 2, 26, .eq (pB false)), ([], 4, 1, .retS (.tup [(.row [0, TAG] 1 0 r_4.length), (.row [1, TAG] 1 0 r_5.length)]) [some ⟨1, 3, (r_4.map cI), true, true⟩, some ⟨1, 3, (r_5.map cI), true, true⟩] [0, 0]), ([], 5, 1, .elem []), ([], 5, 2, .elem [(pI y_1)]), ([], 5, 4, .elem []), ([], 5, 5, .elem [(pI y_2)]), ([], 7, 2, .eq (pI (d.nodes.length : Int)))] [([], 8, .ret, (stOf (go (k + 6) 24 0 85 (adv [([], 8, 0, .eq (pB true)), ([], 9, 1, .elem [(pI y_3.kind), (pI y_3.modeF), (pI y_3.owner), (pI y_3.links), (pI y_3.openF), (pI y_3.up), (pS y_3.data), (.list 2 false (y_3.names.map entP))]), ([], 10, 3, .eq (pB false)), ([0], 14, 3, .retS (pB r_6) [] []), ([0], 14, 4, .eq (pB false)), ([1], 14, 3, .retS (pB r_7) [] []), ([1], 14, 4, .eq (pB false)), ([2], 14, 3, .retS (pB r_8) [some ⟨3, 24, [[(.list 8 false (r_9.map NodeD.c)), (pI r_10), (pI r_11)]], true, false⟩] [0]), ([2], 14, 4, .eq (pB true))] [] [12]) diskRight_L8 (diskRight_S8 d.nodes (d.nodes.length : Int) (v_1, v_2, v_3, v_4, v_5, v_6)))))]) (ex := .ret) (r := (pB false)) (by kernel_rfl) rfl (by kernel_rfl) (allC (diskGet_ok (k + 4) d (0 : Int) _ q1) (allC (cg q2) (allC (cg q3) (allC (cg q4) (allC (len_ob (rfl : (d.nodes.map NodeD.c) = d.nodes.map NodeD.c)) (allC (cg q5) (allC (diskBytes_ok (k + 3) d _ q6) (allC (cg q7) (allC (diskDiskNamed_ok (k + 4) d.nodes d.most d.room _ q8) (allC (gt_row q9 (rfl : r_4.length = r_4.length)) (allC (gt_load (c := cI) q9 (rfl : (r_4.map cI) = r_4.map cI)) (allC (gt_row q10 (rfl : r_4.length = r_4.length)) (allC (gt_store (c := cI) q10 (rfl : (r_4.map cI) = r_4.map cI)) (allC (len_ob (rfl : (d.nodes.map NodeD.c) = d.nodes.map NodeD.c)) (allC q15 allN))))))))))))))) (by kernel_rfl) allN
                        · skip
                          obtain ⟨X_6, q25, q12⟩ := bnd_some q12
                          rcases X_6 with ⟨r_12, r_13⟩
                          · try dsimp only at q12
                            rcases bif_some q12 with ⟨q26, q12⟩ | ⟨q26, q12⟩
                            · skip
                              cases q12
                              try dsimp only at h
                              have q14 := run_go (k := (k + 6)) (f := 24) (r0 := 0) (nt := 85) (c := diskRight_L8) (σ := (diskRight_S8 d.nodes (d.nodes.length : Int) (v_1, v_2, v_3, v_4, v_5, v_6))) (adv [([], 8, 0, .eq (pB true)), ([], 9, 1, .elem [(pI y_3.kind), (pI y_3.modeF), (pI y_3.owner), (pI y_3.links), (pI y_3.openF), (pI y_3.up), (pS y_3.data), (.list 2 false (y_3.names.map entP))]), ([], 10, 3, .eq (pB false)), ([0], 14, 3, .retS (pB r_6) [] []), ([0], 14, 4, .eq (pB false)), ([1], 14, 3, .retS (pB r_7) [] []), ([1], 14, 4, .eq (pB false)), ([2], 14, 3, .retS (pB r_8) [some ⟨3, 24, [[(.list 8 false (r_9.map NodeD.c)), (pI r_10), (pI r_11)]], true, false⟩] [0]), ([2], 14, 4, .eq (pB false)), ([3], 14, 3, .retS (pB r_12) [some ⟨1, 86, [[(.row [1, TAG] 1 0 r_13.length)]], false, false⟩, some ⟨1, 3, (r_13.map cI), true, true⟩] [0, 0]), ([3], 14, 4, .eq (pB true))] [] [12]) (ex := .ret) (by kernel_rfl) (by kernel_rfl) (allC (cg q16) (allC (gt_list (c := NodeD.c) q17) (allC (cg q18) (allC (diskRight1_ok (k + 4) v_1 y_3.kind y_3.modeF y_3.owner y_3.links y_3.openF y_3.up y_3.data y_3.names _ q19) (allC (cg q20) (allC (diskRight2_ok (k + 5) v_1 y_3.kind y_3.modeF y_3.owner y_3.links y_3.openF y_3.up y_3.data y_3.names _ q21) (allC (cg q22) (allC (diskRight3_ok k v_1 y_3.kind y_3.modeF y_3.owner y_3.links y_3.openF y_3.up y_3.data y_3.names v_2 v_3 v_4 _ q23) (allC (cg q24) (allC (diskRight4_ok (k + 5) v_1 y_3.kind y_3.modeF y_3.owner y_3.links y_3.openF y_3.up y_3.data y_3.names v_5 _ q25) (allC (cg q26) allN)))))))))))
                              have q15 := q13 _ _ (by intro e; cases e) q14
                              obtain rfl := Option.some.inj h
                              exact ret_go (k := (k + 6)) Try.func24 Try.ntmps24 (by kernel_rfl) (by kernel_rfl) (Nat.le_of_ble_eq_true rfl) (adv [([], 1, 1, .ret (.tup [(.agg [(pI r_1.kind), (pI r_1.modeF), (pI r_1.owner), (pI r_1.links), (pI r_1.openF), (pI r_1.up), (pS r_1.data), (.list 2 false (r_1.names.map entP))]), (pB r_2)])), ([], 2, 2, .eq (pB false)), ([], 2, 7, .eq (pB false)), ([], 2, 12, .eq (pB false)), ([], 2, 15, .eq (pI (d.nodes.length : Int))), ([], 2, 20, .eq (pB false)), ([], 2, 22, .ret (pI r_3)), ([], 2, 26, .eq (pB false)), ([], 4, 1, .retS (.tup [(.row [0, TAG] 1 0 r_4.length), (.row [1, TAG] 1 0 r_5.length)]) [some ⟨1, 3, (r_4.map cI), true, true⟩, some ⟨1, 3, (r_5.map cI), true, true⟩] [0, 0]), ([], 5, 1, .elem []), ([], 5, 2, .elem [(pI y_1)]), ([], 5, 4, .elem []), ([], 5, 5, .elem [(pI y_2)]), ([], 7, 2, .eq (pI (d.nodes.length : Int)))] [([], 8, .ret, (stOf (go (k + 6) 24 0 85 (adv [([], 8, 0, .eq (pB true)), ([], 9, 1, .elem [(pI y_3.kind), (pI y_3.modeF), (pI y_3.owner), (pI y_3.links), (pI y_3.openF), (pI y_3.up), (pS y_3.data), (.list 2 false (y_3.names.map entP))]), ([], 10, 3, .eq (pB false)), ([0], 14, 3, .retS (pB r_6) [] []), ([0], 14, 4, .eq (pB false)), ([1], 14, 3, .retS (pB r_7) [] []), ([1], 14, 4, .eq (pB false)), ([2], 14, 3, .retS (pB r_8) [some ⟨3, 24, [[(.list 8 false (r_9.map NodeD.c)), (pI r_10), (pI r_11)]], true, false⟩] [0]), ([2], 14, 4, .eq (pB false)), ([3], 14, 3, .retS (pB r_12) [some ⟨1, 86, [[(.row [1, TAG] 1 0 r_13.length)]], false, false⟩, some ⟨1, 3, (r_13.map cI), true, true⟩] [0, 0]), ([3], 14, 4, .eq (pB true))] [] [12]) diskRight_L8 (diskRight_S8 d.nodes (d.nodes.length : Int) (v_1, v_2, v_3, v_4, v_5, v_6)))))]) (ex := .ret) (r := (pB false)) (by kernel_rfl) rfl (by kernel_rfl) (allC (diskGet_ok (k + 4) d (0 : Int) _ q1) (allC (cg q2) (allC (cg q3) (allC (cg q4) (allC (len_ob (rfl : (d.nodes.map NodeD.c) = d.nodes.map NodeD.c)) (allC (cg q5) (allC (diskBytes_ok (k + 3) d _ q6) (allC (cg q7) (allC (diskDiskNamed_ok (k + 4) d.nodes d.most d.room _ q8) (allC (gt_row q9 (rfl : r_4.length = r_4.length)) (allC (gt_load (c := cI) q9 (rfl : (r_4.map cI) = r_4.map cI)) (allC (gt_row q10 (rfl : r_4.length = r_4.length)) (allC (gt_store (c := cI) q10 (rfl : (r_4.map cI) = r_4.map cI)) (allC (len_ob (rfl : (d.nodes.map NodeD.c) = d.nodes.map NodeD.c)) (allC q15 allN))))))))))))))) (by kernel_rfl) allN
                            · skip
                              obtain ⟨X_7, q27, q12⟩ := bnd_some q12
                              rcases X_7 with ⟨r_14, r_15⟩
                              · try dsimp only at q12
                                rcases bif_some q12 with ⟨q28, q12⟩ | ⟨q28, q12⟩
                                · skip
                                  cases q12
                                  try dsimp only at h
                                  have q14 := run_go (k := (k + 6)) (f := 24) (r0 := 0) (nt := 85) (c := diskRight_L8) (σ := (diskRight_S8 d.nodes (d.nodes.length : Int) (v_1, v_2, v_3, v_4, v_5, v_6))) (adv [([], 8, 0, .eq (pB true)), ([], 9, 1, .elem [(pI y_3.kind), (pI y_3.modeF), (pI y_3.owner), (pI y_3.links), (pI y_3.openF), (pI y_3.up), (pS y_3.data), (.list 2 false (y_3.names.map entP))]), ([], 10, 3, .eq (pB false)), ([0], 14, 3, .retS (pB r_6) [] []), ([0], 14, 4, .eq (pB false)), ([1], 14, 3, .retS (pB r_7) [] []), ([1], 14, 4, .eq (pB false)), ([2], 14, 3, .retS (pB r_8) [some ⟨3, 24, [[(.list 8 false (r_9.map NodeD.c)), (pI r_10), (pI r_11)]], true, false⟩] [0]), ([2], 14, 4, .eq (pB false)), ([3], 14, 3, .retS (pB r_12) [some ⟨1, 86, [[(.row [1, TAG] 1 0 r_13.length)]], false, false⟩, some ⟨1, 3, (r_13.map cI), true, true⟩] [0, 0]), ([3], 14, 4, .eq (pB false)), ([4], 14, 3, .retS (pB r_14) [some ⟨1, 86, [[(.row [1, TAG] 1 0 r_15.length)]], false, false⟩, some ⟨1, 3, (r_15.map cI), true, true⟩] [0, 0]), ([4], 14, 4, .eq (pB true))] [] [12]) (ex := .ret) (by kernel_rfl) (by kernel_rfl) (allC (cg q16) (allC (gt_list (c := NodeD.c) q17) (allC (cg q18) (allC (diskRight1_ok (k + 4) v_1 y_3.kind y_3.modeF y_3.owner y_3.links y_3.openF y_3.up y_3.data y_3.names _ q19) (allC (cg q20) (allC (diskRight2_ok (k + 5) v_1 y_3.kind y_3.modeF y_3.owner y_3.links y_3.openF y_3.up y_3.data y_3.names _ q21) (allC (cg q22) (allC (diskRight3_ok k v_1 y_3.kind y_3.modeF y_3.owner y_3.links y_3.openF y_3.up y_3.data y_3.names v_2 v_3 v_4 _ q23) (allC (cg q24) (allC (diskRight4_ok (k + 5) v_1 y_3.kind y_3.modeF y_3.owner y_3.links y_3.openF y_3.up y_3.data y_3.names v_5 _ q25) (allC (cg q26) (allC (diskRight5_ok (k + 5) v_1 y_3.kind y_3.modeF y_3.owner y_3.links y_3.openF y_3.up y_3.data y_3.names r_13 _ q27) (allC (cg q28) allN)))))))))))))
                                  have q15 := q13 _ _ (by intro e; cases e) q14
                                  obtain rfl := Option.some.inj h
                                  exact ret_go (k := (k + 6)) Try.func24 Try.ntmps24 (by kernel_rfl) (by kernel_rfl) (Nat.le_of_ble_eq_true rfl) (adv [([], 1, 1, .ret (.tup [(.agg [(pI r_1.kind), (pI r_1.modeF), (pI r_1.owner), (pI r_1.links), (pI r_1.openF), (pI r_1.up), (pS r_1.data), (.list 2 false (r_1.names.map entP))]), (pB r_2)])), ([], 2, 2, .eq (pB false)), ([], 2, 7, .eq (pB false)), ([], 2, 12, .eq (pB false)), ([], 2, 15, .eq (pI (d.nodes.length : Int))), ([], 2, 20, .eq (pB false)), ([], 2, 22, .ret (pI r_3)), ([], 2, 26, .eq (pB false)), ([], 4, 1, .retS (.tup [(.row [0, TAG] 1 0 r_4.length), (.row [1, TAG] 1 0 r_5.length)]) [some ⟨1, 3, (r_4.map cI), true, true⟩, some ⟨1, 3, (r_5.map cI), true, true⟩] [0, 0]), ([], 5, 1, .elem []), ([], 5, 2, .elem [(pI y_1)]), ([], 5, 4, .elem []), ([], 5, 5, .elem [(pI y_2)]), ([], 7, 2, .eq (pI (d.nodes.length : Int)))] [([], 8, .ret, (stOf (go (k + 6) 24 0 85 (adv [([], 8, 0, .eq (pB true)), ([], 9, 1, .elem [(pI y_3.kind), (pI y_3.modeF), (pI y_3.owner), (pI y_3.links), (pI y_3.openF), (pI y_3.up), (pS y_3.data), (.list 2 false (y_3.names.map entP))]), ([], 10, 3, .eq (pB false)), ([0], 14, 3, .retS (pB r_6) [] []), ([0], 14, 4, .eq (pB false)), ([1], 14, 3, .retS (pB r_7) [] []), ([1], 14, 4, .eq (pB false)), ([2], 14, 3, .retS (pB r_8) [some ⟨3, 24, [[(.list 8 false (r_9.map NodeD.c)), (pI r_10), (pI r_11)]], true, false⟩] [0]), ([2], 14, 4, .eq (pB false)), ([3], 14, 3, .retS (pB r_12) [some ⟨1, 86, [[(.row [1, TAG] 1 0 r_13.length)]], false, false⟩, some ⟨1, 3, (r_13.map cI), true, true⟩] [0, 0]), ([3], 14, 4, .eq (pB false)), ([4], 14, 3, .retS (pB r_14) [some ⟨1, 86, [[(.row [1, TAG] 1 0 r_15.length)]], false, false⟩, some ⟨1, 3, (r_15.map cI), true, true⟩] [0, 0]), ([4], 14, 4, .eq (pB true))] [] [12]) diskRight_L8 (diskRight_S8 d.nodes (d.nodes.length : Int) (v_1, v_2, v_3, v_4, v_5, v_6)))))]) (ex := .ret) (r := (pB false)) (by kernel_rfl) rfl (by kernel_rfl) (allC (diskGet_ok (k + 4) d (0 : Int) _ q1) (allC (cg q2) (allC (cg q3) (allC (cg q4) (allC (len_ob (rfl : (d.nodes.map NodeD.c) = d.nodes.map NodeD.c)) (allC (cg q5) (allC (diskBytes_ok (k + 3) d _ q6) (allC (cg q7) (allC (diskDiskNamed_ok (k + 4) d.nodes d.most d.room _ q8) (allC (gt_row q9 (rfl : r_4.length = r_4.length)) (allC (gt_load (c := cI) q9 (rfl : (r_4.map cI) = r_4.map cI)) (allC (gt_row q10 (rfl : r_4.length = r_4.length)) (allC (gt_store (c := cI) q10 (rfl : (r_4.map cI) = r_4.map cI)) (allC (len_ob (rfl : (d.nodes.map NodeD.c) = d.nodes.map NodeD.c)) (allC q15 allN))))))))))))))) (by kernel_rfl) allN
                                · skip
                                  obtain ⟨X_8, q29, q12⟩ := bnd_some q12
                                  rcases X_8 with ⟨r_16, r_17, r_18, r_19, r_20, r_21⟩
                                  · try dsimp only at q12
                                    rcases bif_some q12 with ⟨q30, q12⟩ | ⟨q30, q12⟩
                                    · skip
                                      cases q12
                                      try dsimp only at h
                                      have q14 := run_go (k := (k + 6)) (f := 24) (r0 := 0) (nt := 85) (c := diskRight_L8) (σ := (diskRight_S8 d.nodes (d.nodes.length : Int) (v_1, v_2, v_3, v_4, v_5, v_6))) (adv [([], 8, 0, .eq (pB true)), ([], 9, 1, .elem [(pI y_3.kind), (pI y_3.modeF), (pI y_3.owner), (pI y_3.links), (pI y_3.openF), (pI y_3.up), (pS y_3.data), (.list 2 false (y_3.names.map entP))]), ([], 10, 3, .eq (pB false)), ([0], 14, 3, .retS (pB r_6) [] []), ([0], 14, 4, .eq (pB false)), ([1], 14, 3, .retS (pB r_7) [] []), ([1], 14, 4, .eq (pB false)), ([2], 14, 3, .retS (pB r_8) [some ⟨3, 24, [[(.list 8 false (r_9.map NodeD.c)), (pI r_10), (pI r_11)]], true, false⟩] [0]), ([2], 14, 4, .eq (pB false)), ([3], 14, 3, .retS (pB r_12) [some ⟨1, 86, [[(.row [1, TAG] 1 0 r_13.length)]], false, false⟩, some ⟨1, 3, (r_13.map cI), true, true⟩] [0, 0]), ([3], 14, 4, .eq (pB false)), ([4], 14, 3, .retS (pB r_14) [some ⟨1, 86, [[(.row [1, TAG] 1 0 r_15.length)]], false, false⟩, some ⟨1, 3, (r_15.map cI), true, true⟩] [0, 0]), ([4], 14, 4, .eq (pB false)), ([5], 14, 3, .retS (pB r_16) [some ⟨1, 86, [[(.row [3, TAG] 1 0 r_20.length)]], false, false⟩, some ⟨1, 86, [[(.row [4, TAG] 1 0 r_21.length)]], false, false⟩, some ⟨3, 24, [[(.list 8 false (r_17.map NodeD.c)), (pI r_18), (pI r_19)]], true, false⟩, some ⟨1, 3, (r_20.map cI), true, true⟩, some ⟨1, 3, (r_21.map cI), true, true⟩] [0, 0, 0, 0, 0]), ([5], 14, 4, .eq (pB true))] [] [12]) (ex := .ret) (by kernel_rfl) (by kernel_rfl) (allC (cg q16) (allC (gt_list (c := NodeD.c) q17) (allC (cg q18) (allC (diskRight1_ok (k + 4) v_1 y_3.kind y_3.modeF y_3.owner y_3.links y_3.openF y_3.up y_3.data y_3.names _ q19) (allC (cg q20) (allC (diskRight2_ok (k + 5) v_1 y_3.kind y_3.modeF y_3.owner y_3.links y_3.openF y_3.up y_3.data y_3.names _ q21) (allC (cg q22) (allC (diskRight3_ok k v_1 y_3.kind y_3.modeF y_3.owner y_3.links y_3.openF y_3.up y_3.data y_3.names v_2 v_3 v_4 _ q23) (allC (cg q24) (allC (diskRight4_ok (k + 5) v_1 y_3.kind y_3.modeF y_3.owner y_3.links y_3.openF y_3.up y_3.data y_3.names v_5 _ q25) (allC (cg q26) (allC (diskRight5_ok (k + 5) v_1 y_3.kind y_3.modeF y_3.owner y_3.links y_3.openF y_3.up y_3.data y_3.names r_13 _ q27) (allC (cg q28) (allC (diskRight6_ok (k + 2) v_1 y_3.kind y_3.modeF y_3.owner y_3.links y_3.openF y_3.up y_3.data y_3.names r_9 r_10 r_11 r_15 v_6 _ q29) (allC (cg q30) allN)))))))))))))))
                                      have q15 := q13 _ _ (by intro e; cases e) q14
                                      obtain rfl := Option.some.inj h
                                      exact ret_go (k := (k + 6)) Try.func24 Try.ntmps24 (by kernel_rfl) (by kernel_rfl) (Nat.le_of_ble_eq_true rfl) (adv [([], 1, 1, .ret (.tup [(.agg [(pI r_1.kind), (pI r_1.modeF), (pI r_1.owner), (pI r_1.links), (pI r_1.openF), (pI r_1.up), (pS r_1.data), (.list 2 false (r_1.names.map entP))]), (pB r_2)])), ([], 2, 2, .eq (pB false)), ([], 2, 7, .eq (pB false)), ([], 2, 12, .eq (pB false)), ([], 2, 15, .eq (pI (d.nodes.length : Int))), ([], 2, 20, .eq (pB false)), ([], 2, 22, .ret (pI r_3)), ([], 2, 26, .eq (pB false)), ([], 4, 1, .retS (.tup [(.row [0, TAG] 1 0 r_4.length), (.row [1, TAG] 1 0 r_5.length)]) [some ⟨1, 3, (r_4.map cI), true, true⟩, some ⟨1, 3, (r_5.map cI), true, true⟩] [0, 0]), ([], 5, 1, .elem []), ([], 5, 2, .elem [(pI y_1)]), ([], 5, 4, .elem []), ([], 5, 5, .elem [(pI y_2)]), ([], 7, 2, .eq (pI (d.nodes.length : Int)))] [([], 8, .ret, (stOf (go (k + 6) 24 0 85 (adv [([], 8, 0, .eq (pB true)), ([], 9, 1, .elem [(pI y_3.kind), (pI y_3.modeF), (pI y_3.owner), (pI y_3.links), (pI y_3.openF), (pI y_3.up), (pS y_3.data), (.list 2 false (y_3.names.map entP))]), ([], 10, 3, .eq (pB false)), ([0], 14, 3, .retS (pB r_6) [] []), ([0], 14, 4, .eq (pB false)), ([1], 14, 3, .retS (pB r_7) [] []), ([1], 14, 4, .eq (pB false)), ([2], 14, 3, .retS (pB r_8) [some ⟨3, 24, [[(.list 8 false (r_9.map NodeD.c)), (pI r_10), (pI r_11)]], true, false⟩] [0]), ([2], 14, 4, .eq (pB false)), ([3], 14, 3, .retS (pB r_12) [some ⟨1, 86, [[(.row [1, TAG] 1 0 r_13.length)]], false, false⟩, some ⟨1, 3, (r_13.map cI), true, true⟩] [0, 0]), ([3], 14, 4, .eq (pB false)), ([4], 14, 3, .retS (pB r_14) [some ⟨1, 86, [[(.row [1, TAG] 1 0 r_15.length)]], false, false⟩, some ⟨1, 3, (r_15.map cI), true, true⟩] [0, 0]), ([4], 14, 4, .eq (pB false)), ([5], 14, 3, .retS (pB r_16) [some ⟨1, 86, [[(.row [3, TAG] 1 0 r_20.length)]], false, false⟩, some ⟨1, 86, [[(.row [4, TAG] 1 0 r_21.length)]], false, false⟩, some ⟨3, 24, [[(.list 8 false (r_17.map NodeD.c)), (pI r_18), (pI r_19)]], true, false⟩, some ⟨1, 3, (r_20.map cI), true, true⟩, some ⟨1, 3, (r_21.map cI), true, true⟩] [0, 0, 0, 0, 0]), ([5], 14, 4, .eq (pB true))] [] [12]) diskRight_L8 (diskRight_S8 d.nodes (d.nodes.length : Int) (v_1, v_2, v_3, v_4, v_5, v_6)))))]) (ex := .ret) (r := (pB false)) (by kernel_rfl) rfl (by kernel_rfl) (allC (diskGet_ok (k + 4) d (0 : Int) _ q1) (allC (cg q2) (allC (cg q3) (allC (cg q4) (allC (len_ob (rfl : (d.nodes.map NodeD.c) = d.nodes.map NodeD.c)) (allC (cg q5) (allC (diskBytes_ok (k + 3) d _ q6) (allC (cg q7) (allC (diskDiskNamed_ok (k + 4) d.nodes d.most d.room _ q8) (allC (gt_row q9 (rfl : r_4.length = r_4.length)) (allC (gt_load (c := cI) q9 (rfl : (r_4.map cI) = r_4.map cI)) (allC (gt_row q10 (rfl : r_4.length = r_4.length)) (allC (gt_store (c := cI) q10 (rfl : (r_4.map cI) = r_4.map cI)) (allC (len_ob (rfl : (d.nodes.map NodeD.c) = d.nodes.map NodeD.c)) (allC q15 allN))))))))))))))) (by kernel_rfl) allN
                                    · skip
                                      cases q12
              · skip
                cases q12
                try dsimp only at h
                have q14 := run_go (k := (k + 6)) (f := 24) (r0 := 0) (nt := 85) (c := diskRight_L8) (σ := (diskRight_S8 d.nodes (d.nodes.length : Int) (v_1, v_2, v_3, v_4, v_5, v_6))) (adv [([], 8, 0, .eq (pB false))]) (ex := (.exit 0)) (by kernel_rfl) (by kernel_rfl) (allC (cg q16) allN)
                have q15 := q13 _ _ (by intro e; cases e) q14
                obtain rfl := Option.some.inj h
                exact ret_go (k := (k + 6)) Try.func24 Try.ntmps24 (by kernel_rfl) (by kernel_rfl) (Nat.le_of_ble_eq_true rfl) (adv [([], 1, 1, .ret (.tup [(.agg [(pI r_1.kind), (pI r_1.modeF), (pI r_1.owner), (pI r_1.links), (pI r_1.openF), (pI r_1.up), (pS r_1.data), (.list 2 false (r_1.names.map entP))]), (pB r_2)])), ([], 2, 2, .eq (pB false)), ([], 2, 7, .eq (pB false)), ([], 2, 12, .eq (pB false)), ([], 2, 15, .eq (pI (d.nodes.length : Int))), ([], 2, 20, .eq (pB false)), ([], 2, 22, .ret (pI r_3)), ([], 2, 26, .eq (pB false)), ([], 4, 1, .retS (.tup [(.row [0, TAG] 1 0 r_4.length), (.row [1, TAG] 1 0 r_5.length)]) [some ⟨1, 3, (r_4.map cI), true, true⟩, some ⟨1, 3, (r_5.map cI), true, true⟩] [0, 0]), ([], 5, 1, .elem []), ([], 5, 2, .elem [(pI y_1)]), ([], 5, 4, .elem []), ([], 5, 5, .elem [(pI y_2)]), ([], 7, 2, .eq (pI (d.nodes.length : Int)))] [([], 8, (.exit 0), (stOf (go (k + 6) 24 0 85 (adv [([], 8, 0, .eq (pB false))]) diskRight_L8 (diskRight_S8 d.nodes (d.nodes.length : Int) (v_1, v_2, v_3, v_4, v_5, v_6)))))]) (ex := .ret) (r := (pB true)) (by kernel_rfl) rfl (by kernel_rfl) (allC (diskGet_ok (k + 4) d (0 : Int) _ q1) (allC (cg q2) (allC (cg q3) (allC (cg q4) (allC (len_ob (rfl : (d.nodes.map NodeD.c) = d.nodes.map NodeD.c)) (allC (cg q5) (allC (diskBytes_ok (k + 3) d _ q6) (allC (cg q7) (allC (diskDiskNamed_ok (k + 4) d.nodes d.most d.room _ q8) (allC (gt_row q9 (rfl : r_4.length = r_4.length)) (allC (gt_load (c := cI) q9 (rfl : (r_4.map cI) = r_4.map cI)) (allC (gt_row q10 (rfl : r_4.length = r_4.length)) (allC (gt_store (c := cI) q10 (rfl : (r_4.map cI) = r_4.map cI)) (allC (len_ob (rfl : (d.nodes.map NodeD.c) = d.nodes.map NodeD.c)) (allC q15 allN))))))))))))))) (by kernel_rfl) allN


end Go.Proofs.Ytfllhakmjookkaa.Den
