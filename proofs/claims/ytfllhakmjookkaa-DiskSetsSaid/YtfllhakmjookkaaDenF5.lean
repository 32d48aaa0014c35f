/- Functions, printed by den.py out of the code: plain ones, and that the code answers as they do. -/
import Derived.Test.YtfllhakmjookkaaDenF4
set_option linter.unusedVariables false
set_option linter.unusedSimpArgs false
namespace Go.Proofs.Ytfllhakmjookkaa.Den
open Go Go.RowKit

/- flagstone/flagstoneref06.right: its loop at region 9 -/
noncomputable def ref06Right2_L9 : Code := cAt (codeOf Try.f64) [true, true, true, true, true, false, true, false, false]
def ref06Right2_R9 (x0 : Int) (x1 : Int) (x2 : List (List PV)) (x3 : Int) (x4 : Int) (x5 : Int) (x6 : Int) (x7 : Int) (x8 : Int) (x9 : Int) (x10 : Int) (x11 : ByteArray) (x12 : List (List PV)) : St := ⟨envL [(1, (pI x0)), (2, (.ptr [0, TAG] 1 0 0)), (5, (.ptr [1, TAG] 1 0 0)), (6, (pI x1))], hsL [some ⟨3, 30, [[(.list 8 false x2), (pI x3), (pI x4)]], true, false⟩, some ⟨8, 51, [[(pI x5), (pI x6), (pI x7), (pI x8), (pI x9), (pI x10), (pS x11), (.list 2 false x12)]], true, false⟩] [0, 0]⟩
theorem ref06Right2_R9_eq {x0 y0 : Int} {x1 y1 : Int} {x2 y2 : List (List PV)} {x3 y3 : Int} {x4 y4 : Int} {x5 y5 : Int} {x6 y6 : Int} {x7 y7 : Int} {x8 y8 : Int} {x9 y9 : Int} {x10 y10 : Int} {x11 y11 : ByteArray} {x12 y12 : List (List PV)} (h0 : x0 = y0) (h1 : x1 = y1) (h2 : x2 = y2) (h3 : x3 = y3) (h4 : x4 = y4) (h5 : x5 = y5) (h6 : x6 = y6) (h7 : x7 = y7) (h8 : x8 = y8) (h9 : x9 = y9) (h10 : x10 = y10) (h11 : x11 = y11) (h12 : x12 = y12) : ref06Right2_R9 x0 x1 x2 x3 x4 x5 x6 x7 x8 x9 x10 x11 x12 = ref06Right2_R9 y0 y1 y2 y3 y4 y5 y6 y7 y8 y9 y10 y11 y12 := by
  subst h0 h1 h2 h3 h4 h5 h6 h7 h8 h9 h10 h11 h12; rfl
def ref06Right2_S9 (p0 : Int) (p1 : (List NodeD)) (p2 : Int) (p3 : Int) (p4 : Int) (p5 : Int) (p6 : Int) (p7 : Int) (p8 : Int) (p9 : Int) (p10 : ByteArray) (p11 : (List Ent)) : Int → St
  | v0 => ref06Right2_R9 p0 v0 (p1.map NodeD.c) p2 p3 p4 p5 p6 p7 p8 p9 p10 (p11.map entP)
def ref06Right2_b9 (p0 : Int) (p1 : (List NodeD)) (p2 : Int) (p3 : Int) (p4 : Int) (p5 : Int) (p6 : Int) (p7 : Int) (p8 : Int) (p9 : Int) (p10 : ByteArray) (p11 : (List Ent)) : Int → Option (Int ⊕ ((Int × Ent × NodeD × Bool) ⊕ (Int × Ent × NodeD × Bool × Ent) ⊕ Int))
  | v0 =>
    bif (decide (v0 < (p11.length : Int))) then (
      (gt p11 v0).bind fun y_1 =>
      (ref06Get (DiskD.mk p1 p2 p3) y_1.ino).bind fun (r_1, r_2) =>
      bif (!r_2) then (
        some (.inr (.inl (v0, y_1, r_1, r_2)))
      ) else (
        (gt p11 v0).bind fun y_2 =>
        bif (y_2.ino == (0 : Int)) then (
          some (.inr (.inr (.inl (v0, y_1, r_1, r_2, y_2))))
        ) else (
          some (.inl (w64 (v0 + (1 : Int))))
        )
      )
    ) else (
      some (.inr (.inr (.inr (v0))))
    )
set_option maxRecDepth 100000 in
theorem ref06Right2_t9 (k : Nat) (p0 : Int) (p1 : (List NodeD)) (p2 : Int) (p3 : Int) (p4 : Int) (p5 : Int) (p6 : Int) (p7 : Int) (p8 : Int) (p9 : Int) (p10 : ByteArray) (p11 : (List Ent)) (v0 a1 : Int) (h : ref06Right2_b9 p0 p1 p2 p3 p4 p5 p6 p7 p8 p9 p10 p11 v0 = some (.inl a1)) : ∃ σ, run1 (k + 2) 64 0 160 ref06Right2_L9 (ref06Right2_S9 p0 p1 p2 p3 p4 p5 p6 p7 p8 p9 p10 p11 v0) = some (.normal, σ) ∧ canonS 0 [1, 2, 5, 6] σ = some (ref06Right2_S9 p0 p1 p2 p3 p4 p5 p6 p7 p8 p9 p10 p11 a1) := by
  unfold ref06Right2_b9 at h
  try dsimp only at h
  rcases bif_some h with ⟨q1, h⟩ | ⟨q1, h⟩
  · skip
    obtain ⟨y_1, q2, h⟩ := bnd_some h
    obtain ⟨⟨r_1, r_2⟩, q3, h⟩ := bnd_some h
    try dsimp only at h
    rcases bif_some h with ⟨q4, h⟩ | ⟨q4, h⟩
    · skip
      cases h
    · skip
      obtain ⟨y_2, q5, h⟩ := bnd_some h
      rcases bif_some h with ⟨q6, h⟩ | ⟨q6, h⟩
      · skip
        cases h
      · skip
        obtain rfl := Sum.inl.inj (Option.some.inj h)
        exact ⟨_, run_go (k := (k + 2)) (f := 64) (r0 := 0) (nt := 160) (c := ref06Right2_L9) (σ := (ref06Right2_S9 p0 p1 p2 p3 p4 p5 p6 p7 p8 p9 p10 p11 v0)) (adv [([], 9, 3, .eq (pI (p11.length : Int))), ([], 9, 4, .eq (pB true)), ([], 11, 4, .elem [(pS y_1.name), (pI y_1.ino)]), ([], 11, 7, .ret (.tup [(.agg [(pI r_1.kind), (pI r_1.modeF), (pI r_1.owner), (pI r_1.links), (pI r_1.openF), (pI r_1.up), (pS r_1.data), (.list 2 false (r_1.names.map entP))]), (pB r_2)])), ([], 12, 2, .eq (pB false)), ([], 12, 6, .elem [(pS y_2.name), (pI y_2.ino)]), ([], 12, 10, .eq (pB false))]) (ex := .normal) (by kernel_rfl) (by kernel_rfl) (allC (len_ob (rfl : (p11.map entP) = p11.map entP)) (allC (cg q1) (allC (gt_list (c := entP) q2) (allC (gt_list (c := entP) q2) (allC (ref06Get_ok (k + 1) (DiskD.mk p1 p2 p3) y_1.ino _ q3) (allC (ref06Get_ok (k + 1) (DiskD.mk p1 p2 p3) y_1.ino _ q3) (allC (cg q4) (allC (gt_list (c := entP) q5) (allC (cg q6) allN))))))))), (by kernel_rfl)⟩
  · skip
    cases h
/-- flagstone/flagstoneref06.right -/
def ref06Right2 (d : DiskD) (i : Int) : Option Bool :=
  (gt d.nodes i).bind fun y_1 =>
  bif (y_1.kind == (0 : Int)) then (
    (ref06Alike y_1 (NodeD.mk (0 : Int) (0 : Int) (0 : Int) (0 : Int) (0 : Int) (0 : Int) (⟨#[]⟩) [])).bind fun r_1 =>
    some r_1
  ) else (
    bif (decide (y_1.kind < (1 : Int))) then (
      some false
    ) else (
      bif (decide (y_1.kind > (3 : Int))) then (
        some false
      ) else (
        bif (decide (y_1.modeF < (0 : Int))) then (
          some false
        ) else (
          bif (decide (y_1.modeF > (63 : Int))) then (
            some false
          ) else (
            bif (decide (y_1.openF < (0 : Int))) then (
              some false
            ) else (
              bif (y_1.kind != (2 : Int)) then (
                bif (decide ((y_1.names.length : Int) > (0 : Int))) then (
                  some false
                ) else (
                  bif (y_1.kind == (2 : Int)) then (
                    bif (!(seq y_1.data (⟨#[]⟩))) then (
                      some false
                    ) else (
                      (ref05Sorted y_1.names).bind fun r_1 =>
                      bif (!r_1) then (
                        some false
                      ) else (
                        (iterN (ref06Right2_b9 i d.nodes d.most d.room y_1.kind y_1.modeF y_1.owner y_1.links y_1.openF y_1.up y_1.data y_1.names) LF (0 : Int)).bind fun X_1 => match X_1 with
                        | .inl (v_1, y_2, r_2, r_3) => (
                          some false
                        )
                        | .inr (.inl (v_1, y_2, r_2, r_3, y_3)) => (
                          some false
                        )
                        | .inr (.inr (v_1)) => (
                          (ref06Names d i).bind fun (r_4, r_5) =>
                          bif (i == (0 : Int)) then (
                            bif (y_1.kind == (2 : Int)) then (
                              bif (y_1.up == (0 : Int)) then (
                                some (y_1.links == (1 : Int))
                              ) else (
                                some false
                              )
                            ) else (
                              some false
                            )
                          ) else (
                            bif (y_1.links != r_4) then (
                              some false
                            ) else (
                              bif (r_4 == (0 : Int)) then (
                                bif (decide (y_1.openF < (1 : Int))) then (
                                  some false
                                ) else (
                                  bif (y_1.kind != (2 : Int)) then (
                                    some true
                                  ) else (
                                    bif (r_4 == (0 : Int)) then (
                                      bif ((y_1.names.length : Int) == (0 : Int)) then (
                                        some (y_1.up == (0 : Int))
                                      ) else (
                                        some false
                                      )
                                    ) else (
                                      bif (r_4 == (1 : Int)) then (
                                        bif (y_1.up == r_5) then (
                                          (ref06Rooted d i).bind fun r_6 =>
                                          some r_6
                                        ) else (
                                          some false
                                        )
                                      ) else (
                                        some false
                                      )
                                    )
                                  )
                                )
                              ) else (
                                bif (y_1.kind != (2 : Int)) then (
                                  some true
                                ) else (
                                  bif (r_4 == (0 : Int)) then (
                                    bif ((y_1.names.length : Int) == (0 : Int)) then (
                                      some (y_1.up == (0 : Int))
                                    ) else (
                                      some false
                                    )
                                  ) else (
                                    bif (r_4 == (1 : Int)) then (
                                      bif (y_1.up == r_5) then (
                                        (ref06Rooted d i).bind fun r_6 =>
                                        some r_6
                                      ) else (
                                        some false
                                      )
                                    ) else (
                                      some false
                                    )
                                  )
                                )
                              )
                            )
                          )
                        )
                      )
                    )
                  ) else (
                    (ref05Sorted y_1.names).bind fun r_1 =>
                    bif (!r_1) then (
                      some false
                    ) else (
                      (iterN (ref06Right2_b9 i d.nodes d.most d.room y_1.kind y_1.modeF y_1.owner y_1.links y_1.openF y_1.up y_1.data y_1.names) LF (0 : Int)).bind fun X_1 => match X_1 with
                      | .inl (v_1, y_2, r_2, r_3) => (
                        some false
                      )
                      | .inr (.inl (v_1, y_2, r_2, r_3, y_3)) => (
                        some false
                      )
                      | .inr (.inr (v_1)) => (
                        (ref06Names d i).bind fun (r_4, r_5) =>
                        bif (i == (0 : Int)) then (
                          bif (y_1.kind == (2 : Int)) then (
                            bif (y_1.up == (0 : Int)) then (
                              some (y_1.links == (1 : Int))
                            ) else (
                              some false
                            )
                          ) else (
                            some false
                          )
                        ) else (
                          bif (y_1.links != r_4) then (
                            some false
                          ) else (
                            bif (r_4 == (0 : Int)) then (
                              bif (decide (y_1.openF < (1 : Int))) then (
                                some false
                              ) else (
                                bif (y_1.kind != (2 : Int)) then (
                                  some true
                                ) else (
                                  bif (r_4 == (0 : Int)) then (
                                    bif ((y_1.names.length : Int) == (0 : Int)) then (
                                      some (y_1.up == (0 : Int))
                                    ) else (
                                      some false
                                    )
                                  ) else (
                                    bif (r_4 == (1 : Int)) then (
                                      bif (y_1.up == r_5) then (
                                        (ref06Rooted d i).bind fun r_6 =>
                                        some r_6
                                      ) else (
                                        some false
                                      )
                                    ) else (
                                      some false
                                    )
                                  )
                                )
                              )
                            ) else (
                              bif (y_1.kind != (2 : Int)) then (
                                some true
                              ) else (
                                bif (r_4 == (0 : Int)) then (
                                  bif ((y_1.names.length : Int) == (0 : Int)) then (
                                    some (y_1.up == (0 : Int))
                                  ) else (
                                    some false
                                  )
                                ) else (
                                  bif (r_4 == (1 : Int)) then (
                                    bif (y_1.up == r_5) then (
                                      (ref06Rooted d i).bind fun r_6 =>
                                      some r_6
                                    ) else (
                                      some false
                                    )
                                  ) else (
                                    some false
                                  )
                                )
                              )
                            )
                          )
                        )
                      )
                    )
                  )
                )
              ) else (
                bif (y_1.kind == (2 : Int)) then (
                  bif (!(seq y_1.data (⟨#[]⟩))) then (
                    some false
                  ) else (
                    (ref05Sorted y_1.names).bind fun r_1 =>
                    bif (!r_1) then (
                      some false
                    ) else (
                      (iterN (ref06Right2_b9 i d.nodes d.most d.room y_1.kind y_1.modeF y_1.owner y_1.links y_1.openF y_1.up y_1.data y_1.names) LF (0 : Int)).bind fun X_1 => match X_1 with
                      | .inl (v_1, y_2, r_2, r_3) => (
                        some false
                      )
                      | .inr (.inl (v_1, y_2, r_2, r_3, y_3)) => (
                        some false
                      )
                      | .inr (.inr (v_1)) => (
                        (ref06Names d i).bind fun (r_4, r_5) =>
                        bif (i == (0 : Int)) then (
                          bif (y_1.kind == (2 : Int)) then (
                            bif (y_1.up == (0 : Int)) then (
                              some (y_1.links == (1 : Int))
                            ) else (
                              some false
                            )
                          ) else (
                            some false
                          )
                        ) else (
                          bif (y_1.links != r_4) then (
                            some false
                          ) else (
                            bif (r_4 == (0 : Int)) then (
                              bif (decide (y_1.openF < (1 : Int))) then (
                                some false
                              ) else (
                                bif (y_1.kind != (2 : Int)) then (
                                  some true
                                ) else (
                                  bif (r_4 == (0 : Int)) then (
                                    bif ((y_1.names.length : Int) == (0 : Int)) then (
                                      some (y_1.up == (0 : Int))
                                    ) else (
                                      some false
                                    )
                                  ) else (
                                    bif (r_4 == (1 : Int)) then (
                                      bif (y_1.up == r_5) then (
                                        (ref06Rooted d i).bind fun r_6 =>
                                        some r_6
                                      ) else (
                                        some false
                                      )
                                    ) else (
                                      some false
                                    )
                                  )
                                )
                              )
                            ) else (
                              bif (y_1.kind != (2 : Int)) then (
                                some true
                              ) else (
                                bif (r_4 == (0 : Int)) then (
                                  bif ((y_1.names.length : Int) == (0 : Int)) then (
                                    some (y_1.up == (0 : Int))
                                  ) else (
                                    some false
                                  )
                                ) else (
                                  bif (r_4 == (1 : Int)) then (
                                    bif (y_1.up == r_5) then (
                                      (ref06Rooted d i).bind fun r_6 =>
                                      some r_6
                                    ) else (
                                      some false
                                    )
                                  ) else (
                                    some false
                                  )
                                )
                              )
                            )
                          )
                        )
                      )
                    )
                  )
                ) else (
                  (ref05Sorted y_1.names).bind fun r_1 =>
                  bif (!r_1) then (
                    some false
                  ) else (
                    (iterN (ref06Right2_b9 i d.nodes d.most d.room y_1.kind y_1.modeF y_1.owner y_1.links y_1.openF y_1.up y_1.data y_1.names) LF (0 : Int)).bind fun X_1 => match X_1 with
                    | .inl (v_1, y_2, r_2, r_3) => (
                      some false
                    )
                    | .inr (.inl (v_1, y_2, r_2, r_3, y_3)) => (
                      some false
                    )
                    | .inr (.inr (v_1)) => (
                      (ref06Names d i).bind fun (r_4, r_5) =>
                      bif (i == (0 : Int)) then (
                        bif (y_1.kind == (2 : Int)) then (
                          bif (y_1.up == (0 : Int)) then (
                            some (y_1.links == (1 : Int))
                          ) else (
                            some false
                          )
                        ) else (
                          some false
                        )
                      ) else (
                        bif (y_1.links != r_4) then (
                          some false
                        ) else (
                          bif (r_4 == (0 : Int)) then (
                            bif (decide (y_1.openF < (1 : Int))) then (
                              some false
                            ) else (
                              bif (y_1.kind != (2 : Int)) then (
                                some true
                              ) else (
                                bif (r_4 == (0 : Int)) then (
                                  bif ((y_1.names.length : Int) == (0 : Int)) then (
                                    some (y_1.up == (0 : Int))
                                  ) else (
                                    some false
                                  )
                                ) else (
                                  bif (r_4 == (1 : Int)) then (
                                    bif (y_1.up == r_5) then (
                                      (ref06Rooted d i).bind fun r_6 =>
                                      some r_6
                                    ) else (
                                      some false
                                    )
                                  ) else (
                                    some false
                                  )
                                )
                              )
                            )
                          ) else (
                            bif (y_1.kind != (2 : Int)) then (
                              some true
                            ) else (
                              bif (r_4 == (0 : Int)) then (
                                bif ((y_1.names.length : Int) == (0 : Int)) then (
                                  some (y_1.up == (0 : Int))
                                ) else (
                                  some false
                                )
                              ) else (
                                bif (r_4 == (1 : Int)) then (
                                  bif (y_1.up == r_5) then (
                                    (ref06Rooted d i).bind fun r_6 =>
                                    some r_6
                                  ) else (
                                    some false
                                  )
                                ) else (
                                  some false
                                )
                              )
                            )
                          )
                        )
                      )
                    )
                  )
                )
              )
            )
          )
        )
      )
    )
  )
set_option maxRecDepth 100000 in
theorem ref06Right2_ok (k : Nat) (d : DiskD) (i : Int) (r : Bool) (h : ref06Right2 d i = some r) : run0 (k + 3) 64 [(.agg [(.list 8 false (d.nodes.map NodeD.c)), (pI d.most), (pI d.room)]), (pI i)] = some (pB r) := by
  unfold ref06Right2 at h
  obtain ⟨y_1, q1, h⟩ := bnd_some h
  rcases bif_some h with ⟨q2, h⟩ | ⟨q2, h⟩
  · skip
    obtain ⟨r_1, q3, h⟩ := bnd_some h
    obtain rfl := Option.some.inj h
    exact ret_go (k := (k + 2)) Try.func64 Try.ntmps64 (by kernel_rfl) (by kernel_rfl) (Nat.le_of_ble_eq_true rfl) (adv [([], 1, 3, .elem [(pI y_1.kind), (pI y_1.modeF), (pI y_1.owner), (pI y_1.links), (pI y_1.openF), (pI y_1.up), (pS y_1.data), (.list 2 false (y_1.names.map entP))]), ([], 2, 2, .eq (pB true)), ([], 3, 2, .ret (pB r_1))]) (ex := .ret) (r := (pB r_1)) (by kernel_rfl) rfl (by kernel_rfl) (allC (gt_list (c := NodeD.c) q1) (allC (cg q2) (allC (ref06Alike_ok k y_1 (NodeD.mk (0 : Int) (0 : Int) (0 : Int) (0 : Int) (0 : Int) (0 : Int) (⟨#[]⟩) []) _ q3) allN))) (by kernel_rfl) allN
  · skip
    rcases bif_some h with ⟨q3, h⟩ | ⟨q3, h⟩
    · skip
      obtain rfl := Option.some.inj h
      exact ret_go (k := (k + 2)) Try.func64 Try.ntmps64 (by kernel_rfl) (by kernel_rfl) (Nat.le_of_ble_eq_true rfl) (adv [([], 1, 3, .elem [(pI y_1.kind), (pI y_1.modeF), (pI y_1.owner), (pI y_1.links), (pI y_1.openF), (pI y_1.up), (pS y_1.data), (.list 2 false (y_1.names.map entP))]), ([], 2, 2, .eq (pB false)), ([], 4, 3, .eq (pB true))]) (ex := .ret) (r := (pB false)) (by kernel_rfl) rfl (by kernel_rfl) (allC (gt_list (c := NodeD.c) q1) (allC (cg q2) (allC (cg q3) allN))) (by kernel_rfl) allN
    · skip
      rcases bif_some h with ⟨q4, h⟩ | ⟨q4, h⟩
      · skip
        obtain rfl := Option.some.inj h
        exact ret_go (k := (k + 2)) Try.func64 Try.ntmps64 (by kernel_rfl) (by kernel_rfl) (Nat.le_of_ble_eq_true rfl) (adv [([], 1, 3, .elem [(pI y_1.kind), (pI y_1.modeF), (pI y_1.owner), (pI y_1.links), (pI y_1.openF), (pI y_1.up), (pS y_1.data), (.list 2 false (y_1.names.map entP))]), ([], 2, 2, .eq (pB false)), ([], 4, 3, .eq (pB false)), ([], 4, 8, .eq (pB true))]) (ex := .ret) (r := (pB false)) (by kernel_rfl) rfl (by kernel_rfl) (allC (gt_list (c := NodeD.c) q1) (allC (cg q2) (allC (cg q3) (allC (cg q4) allN)))) (by kernel_rfl) allN
      · skip
        rcases bif_some h with ⟨q5, h⟩ | ⟨q5, h⟩
        · skip
          obtain rfl := Option.some.inj h
          exact ret_go (k := (k + 2)) Try.func64 Try.ntmps64 (by kernel_rfl) (by kernel_rfl) (Nat.le_of_ble_eq_true rfl) (adv [([], 1, 3, .elem [(pI y_1.kind), (pI y_1.modeF), (pI y_1.owner), (pI y_1.links), (pI y_1.openF), (pI y_1.up), (pS y_1.data), (.list 2 false (y_1.names.map entP))]), ([], 2, 2, .eq (pB false)), ([], 4, 3, .eq (pB false)), ([], 4, 8, .eq (pB false)), ([], 4, 13, .eq (pB true))]) (ex := .ret) (r := (pB false)) (by kernel_rfl) rfl (by kernel_rfl) (allC (gt_list (c := NodeD.c) q1) (allC (cg q2) (allC (cg q3) (allC (cg q4) (allC (cg q5) allN))))) (by kernel_rfl) allN
        · skip
          rcases bif_some h with ⟨q6, h⟩ | ⟨q6, h⟩
          · skip
            obtain rfl := Option.some.inj h
            exact ret_go (k := (k + 2)) Try.func64 Try.ntmps64 (by kernel_rfl) (by kernel_rfl) (Nat.le_of_ble_eq_true rfl) (adv [([], 1, 3, .elem [(pI y_1.kind), (pI y_1.modeF), (pI y_1.owner), (pI y_1.links), (pI y_1.openF), (pI y_1.up), (pS y_1.data), (.list 2 false (y_1.names.map entP))]), ([], 2, 2, .eq (pB false)), ([], 4, 3, .eq (pB false)), ([], 4, 8, .eq (pB false)), ([], 4, 13, .eq (pB false)), ([], 4, 18, .eq (pB true))]) (ex := .ret) (r := (pB false)) (by kernel_rfl) rfl (by kernel_rfl) (allC (gt_list (c := NodeD.c) q1) (allC (cg q2) (allC (cg q3) (allC (cg q4) (allC (cg q5) (allC (cg q6) allN)))))) (by kernel_rfl) allN
          · skip
            rcases bif_some h with ⟨q7, h⟩ | ⟨q7, h⟩
            · skip
              obtain rfl := Option.some.inj h
              exact ret_go (k := (k + 2)) Try.func64 Try.ntmps64 (by kernel_rfl) (by kernel_rfl) (Nat.le_of_ble_eq_true rfl) (adv [([], 1, 3, .elem [(pI y_1.kind), (pI y_1.modeF), (pI y_1.owner), (pI y_1.links), (pI y_1.openF), (pI y_1.up), (pS y_1.data), (.list 2 false (y_1.names.map entP))]), ([], 2, 2, .eq (pB false)), ([], 4, 3, .eq (pB false)), ([], 4, 8, .eq (pB false)), ([], 4, 13, .eq (pB false)), ([], 4, 18, .eq (pB false)), ([], 4, 22, .eq (pB true))]) (ex := .ret) (r := (pB false)) (by kernel_rfl) rfl (by kernel_rfl) (allC (gt_list (c := NodeD.c) q1) (allC (cg q2) (allC (cg q3) (allC (cg q4) (allC (cg q5) (allC (cg q6) (allC (cg q7) allN))))))) (by kernel_rfl) allN
            · skip
              rcases bif_some h with ⟨q8, h⟩ | ⟨q8, h⟩
              · skip
                rcases bif_some h with ⟨q9, h⟩ | ⟨q9, h⟩
                · skip
                  obtain rfl := Option.some.inj h
                  exact ret_go (k := (k + 2)) Try.func64 Try.ntmps64 (by kernel_rfl) (by kernel_rfl) (Nat.le_of_ble_eq_true rfl) (adv [([], 1, 3, .elem [(pI y_1.kind), (pI y_1.modeF), (pI y_1.owner), (pI y_1.links), (pI y_1.openF), (pI y_1.up), (pS y_1.data), (.list 2 false (y_1.names.map entP))]), ([], 2, 2, .eq (pB false)), ([], 4, 3, .eq (pB false)), ([], 4, 8, .eq (pB false)), ([], 4, 13, .eq (pB false)), ([], 4, 18, .eq (pB false)), ([], 4, 22, .eq (pB false)), ([], 6, 3, .eq (pB true)), ([], 6, 6, .eq (pI (y_1.names.length : Int))), ([], 6, 9, .eq (pB true))]) (ex := .ret) (r := (pB false)) (by kernel_rfl) rfl (by kernel_rfl) (allC (gt_list (c := NodeD.c) q1) (allC (cg q2) (allC (cg q3) (allC (cg q4) (allC (cg q5) (allC (cg q6) (allC (cg q7) (allC (cg q8) (allC (len_ob (rfl : (y_1.names.map entP) = y_1.names.map entP)) (allC (cg q9) allN)))))))))) (by kernel_rfl) allN
                · skip
                  rcases bif_some h with ⟨q10, h⟩ | ⟨q10, h⟩
                  · skip
                    rcases bif_some h with ⟨q11, h⟩ | ⟨q11, h⟩
                    · skip
                      obtain rfl := Option.some.inj h
                      exact ret_go (k := (k + 2)) Try.func64 Try.ntmps64 (by kernel_rfl) (by kernel_rfl) (Nat.le_of_ble_eq_true rfl) (adv [([], 1, 3, .elem [(pI y_1.kind), (pI y_1.modeF), (pI y_1.owner), (pI y_1.links), (pI y_1.openF), (pI y_1.up), (pS y_1.data), (.list 2 false (y_1.names.map entP))]), ([], 2, 2, .eq (pB false)), ([], 4, 3, .eq (pB false)), ([], 4, 8, .eq (pB false)), ([], 4, 13, .eq (pB false)), ([], 4, 18, .eq (pB false)), ([], 4, 22, .eq (pB false)), ([], 6, 3, .eq (pB true)), ([], 6, 6, .eq (pI (y_1.names.length : Int))), ([], 6, 9, .eq (pB false)), ([], 6, 13, .eq (pB true)), ([], 6, 19, .eq (pB true))]) (ex := .ret) (r := (pB false)) (by kernel_rfl) rfl (by kernel_rfl) (allC (gt_list (c := NodeD.c) q1) (allC (cg q2) (allC (cg q3) (allC (cg q4) (allC (cg q5) (allC (cg q6) (allC (cg q7) (allC (cg q8) (allC (len_ob (rfl : (y_1.names.map entP) = y_1.names.map entP)) (allC (cg q9) (allC (cg q10) (allC (cg q11) allN)))))))))))) (by kernel_rfl) allN
                    · skip
                      obtain ⟨r_1, q12, h⟩ := bnd_some h
                      rcases bif_some h with ⟨q13, h⟩ | ⟨q13, h⟩
                      · skip
                        obtain rfl := Option.some.inj h
                        exact ret_go (k := (k + 2)) Try.func64 Try.ntmps64 (by kernel_rfl) (by kernel_rfl) (Nat.le_of_ble_eq_true rfl) (adv [([], 1, 3, .elem [(pI y_1.kind), (pI y_1.modeF), (pI y_1.owner), (pI y_1.links), (pI y_1.openF), (pI y_1.up), (pS y_1.data), (.list 2 false (y_1.names.map entP))]), ([], 2, 2, .eq (pB false)), ([], 4, 3, .eq (pB false)), ([], 4, 8, .eq (pB false)), ([], 4, 13, .eq (pB false)), ([], 4, 18, .eq (pB false)), ([], 4, 22, .eq (pB false)), ([], 6, 3, .eq (pB true)), ([], 6, 6, .eq (pI (y_1.names.length : Int))), ([], 6, 9, .eq (pB false)), ([], 6, 13, .eq (pB true)), ([], 6, 19, .eq (pB false)), ([], 6, 22, .ret (pB r_1)), ([], 6, 24, .eq (pB true))]) (ex := .ret) (r := (pB false)) (by kernel_rfl) rfl (by kernel_rfl) (allC (gt_list (c := NodeD.c) q1) (allC (cg q2) (allC (cg q3) (allC (cg q4) (allC (cg q5) (allC (cg q6) (allC (cg q7) (allC (cg q8) (allC (len_ob (rfl : (y_1.names.map entP) = y_1.names.map entP)) (allC (cg q9) (allC (cg q10) (allC (cg q11) (allC (ref05Sorted_ok (k + 1) y_1.names _ q12) (allC (cg q13) allN)))))))))))))) (by kernel_rfl) allN
                      · skip
                        obtain ⟨X_1, q14, h⟩ := bnd_some h
                        obtain ⟨v_1, q15, q16⟩ := loop_iter (f := run1 (k + 2) 64 0 160 ref06Right2_L9) (ref06Right2_S9 i d.nodes d.most d.room y_1.kind y_1.modeF y_1.owner y_1.links y_1.openF y_1.up y_1.data y_1.names) (ref06Right2_b9 i d.nodes d.most d.room y_1.kind y_1.modeF y_1.owner y_1.links y_1.openF y_1.up y_1.data y_1.names) (ref06Right2_t9 k i d.nodes d.most d.room y_1.kind y_1.modeF y_1.owner y_1.links y_1.openF y_1.up y_1.data y_1.names) LF (0 : Int) _ (stOf (goStop (k + 2) 64 0 160 (adv [([], 1, 3, .elem [(pI y_1.kind), (pI y_1.modeF), (pI y_1.owner), (pI y_1.links), (pI y_1.openF), (pI y_1.up), (pS y_1.data), (.list 2 false (y_1.names.map entP))]), ([], 2, 2, .eq (pB false)), ([], 4, 3, .eq (pB false)), ([], 4, 8, .eq (pB false)), ([], 4, 13, .eq (pB false)), ([], 4, 18, .eq (pB false)), ([], 4, 22, .eq (pB false)), ([], 6, 3, .eq (pB true)), ([], 6, 6, .eq (pI (y_1.names.length : Int))), ([], 6, 9, .eq (pB false)), ([], 6, 13, .eq (pB true)), ([], 6, 19, .eq (pB false)), ([], 6, 22, .ret (pB r_1)), ([], 6, 24, .eq (pB false))]) 9 (codeOf Try.f64) (argS 64 [(.agg [(.list 8 false (d.nodes.map NodeD.c)), (pI d.most), (pI d.room)]), (pI i)]))) q14 (by kernel_rfl)
                        unfold ref06Right2_b9 at q15
                        try dsimp only at q15
                        rcases bif_some q15 with ⟨q19, q15⟩ | ⟨q19, q15⟩
                        · skip
                          obtain ⟨y_2, q20, q15⟩ := bnd_some q15
                          obtain ⟨⟨r_2, r_3⟩, q21, q15⟩ := bnd_some q15
                          try dsimp only at q15
                          rcases bif_some q15 with ⟨q22, q15⟩ | ⟨q22, q15⟩
                          · skip
                            cases q15
                            try dsimp only at h
                            have q17 := run_go (k := (k + 2)) (f := 64) (r0 := 0) (nt := 160) (c := ref06Right2_L9) (σ := (ref06Right2_S9 i d.nodes d.most d.room y_1.kind y_1.modeF y_1.owner y_1.links y_1.openF y_1.up y_1.data y_1.names v_1)) (adv [([], 9, 3, .eq (pI (y_1.names.length : Int))), ([], 9, 4, .eq (pB true)), ([], 11, 4, .elem [(pS y_2.name), (pI y_2.ino)]), ([], 11, 7, .ret (.tup [(.agg [(pI r_2.kind), (pI r_2.modeF), (pI r_2.owner), (pI r_2.links), (pI r_2.openF), (pI r_2.up), (pS r_2.data), (.list 2 false (r_2.names.map entP))]), (pB r_3)])), ([], 12, 2, .eq (pB true))]) (ex := .ret) (by kernel_rfl) (by kernel_rfl) (allC (len_ob (rfl : (y_1.names.map entP) = y_1.names.map entP)) (allC (cg q19) (allC (gt_list (c := entP) q20) (allC (gt_list (c := entP) q20) (allC (ref06Get_ok (k + 1) d y_2.ino _ q21) (allC (ref06Get_ok (k + 1) d y_2.ino _ q21) (allC (cg q22) allN)))))))
                            have q18 := q16 _ _ (by intro e; cases e) q17
                            obtain rfl := Option.some.inj h
                            exact ret_go (k := (k + 2)) Try.func64 Try.ntmps64 (by kernel_rfl) (by kernel_rfl) (Nat.le_of_ble_eq_true rfl) (adv [([], 1, 3, .elem [(pI y_1.kind), (pI y_1.modeF), (pI y_1.owner), (pI y_1.links), (pI y_1.openF), (pI y_1.up), (pS y_1.data), (.list 2 false (y_1.names.map entP))]), ([], 2, 2, .eq (pB false)), ([], 4, 3, .eq (pB false)), ([], 4, 8, .eq (pB false)), ([], 4, 13, .eq (pB false)), ([], 4, 18, .eq (pB false)), ([], 4, 22, .eq (pB false)), ([], 6, 3, .eq (pB true)), ([], 6, 6, .eq (pI (y_1.names.length : Int))), ([], 6, 9, .eq (pB false)), ([], 6, 13, .eq (pB true)), ([], 6, 19, .eq (pB false)), ([], 6, 22, .ret (pB r_1)), ([], 6, 24, .eq (pB false))] [([], 9, .ret, (stOf (go (k + 2) 64 0 160 (adv [([], 9, 3, .eq (pI (y_1.names.length : Int))), ([], 9, 4, .eq (pB true)), ([], 11, 4, .elem [(pS y_2.name), (pI y_2.ino)]), ([], 11, 7, .ret (.tup [(.agg [(pI r_2.kind), (pI r_2.modeF), (pI r_2.owner), (pI r_2.links), (pI r_2.openF), (pI r_2.up), (pS r_2.data), (.list 2 false (r_2.names.map entP))]), (pB r_3)])), ([], 12, 2, .eq (pB true))]) ref06Right2_L9 (ref06Right2_S9 i d.nodes d.most d.room y_1.kind y_1.modeF y_1.owner y_1.links y_1.openF y_1.up y_1.data y_1.names v_1))))]) (ex := .ret) (r := (pB false)) (by kernel_rfl) rfl (by kernel_rfl) (allC (gt_list (c := NodeD.c) q1) (allC (cg q2) (allC (cg q3) (allC (cg q4) (allC (cg q5) (allC (cg q6) (allC (cg q7) (allC (cg q8) (allC (len_ob (rfl : (y_1.names.map entP) = y_1.names.map entP)) (allC (cg q9) (allC (cg q10) (allC (cg q11) (allC (ref05Sorted_ok (k + 1) y_1.names _ q12) (allC (cg q13) (allC q18 allN))))))))))))))) (by kernel_rfl) allN
                          · skip
                            obtain ⟨y_3, q23, q15⟩ := bnd_some q15
                            rcases bif_some q15 with ⟨q24, q15⟩ | ⟨q24, q15⟩
                            · skip
                              cases q15
                              try dsimp only at h
                              have q17 := run_go (k := (k + 2)) (f := 64) (r0 := 0) (nt := 160) (c := ref06Right2_L9) (σ := (ref06Right2_S9 i d.nodes d.most d.room y_1.kind y_1.modeF y_1.owner y_1.links y_1.openF y_1.up y_1.data y_1.names v_1)) (adv [([], 9, 3, .eq (pI (y_1.names.length : Int))), ([], 9, 4, .eq (pB true)), ([], 11, 4, .elem [(pS y_2.name), (pI y_2.ino)]), ([], 11, 7, .ret (.tup [(.agg [(pI r_2.kind), (pI r_2.modeF), (pI r_2.owner), (pI r_2.links), (pI r_2.openF), (pI r_2.up), (pS r_2.data), (.list 2 false (r_2.names.map entP))]), (pB r_3)])), ([], 12, 2, .eq (pB false)), ([], 12, 6, .elem [(pS y_3.name), (pI y_3.ino)]), ([], 12, 10, .eq (pB true))]) (ex := .ret) (by kernel_rfl) (by kernel_rfl) (allC (len_ob (rfl : (y_1.names.map entP) = y_1.names.map entP)) (allC (cg q19) (allC (gt_list (c := entP) q20) (allC (gt_list (c := entP) q20) (allC (ref06Get_ok (k + 1) d y_2.ino _ q21) (allC (ref06Get_ok (k + 1) d y_2.ino _ q21) (allC (cg q22) (allC (gt_list (c := entP) q23) (allC (cg q24) allN)))))))))
                              have q18 := q16 _ _ (by intro e; cases e) q17
                              obtain rfl := Option.some.inj h
                              exact ret_go (k := (k + 2)) Try.func64 Try.ntmps64 (by kernel_rfl) (by kernel_rfl) (Nat.le_of_ble_eq_true rfl) (adv [([], 1, 3, .elem [(pI y_1.kind), (pI y_1.modeF), (pI y_1.owner), (pI y_1.links), (pI y_1.openF), (pI y_1.up), (pS y_1.data), (.list 2 false (y_1.names.map entP))]), ([], 2, 2, .eq (pB false)), ([], 4, 3, .eq (pB false)), ([], 4, 8, .eq (pB false)), ([], 4, 13, .eq (pB false)), ([], 4, 18, .eq (pB false)), ([], 4, 22, .eq (pB false)), ([], 6, 3, .eq (pB true)), ([], 6, 6, .eq (pI (y_1.names.length : Int))), ([], 6, 9, .eq (pB false)), ([], 6, 13, .eq (pB true)), ([], 6, 19, .eq (pB false)), ([], 6, 22, .ret (pB r_1)), ([], 6, 24, .eq (pB false))] [([], 9, .ret, (stOf (go (k + 2) 64 0 160 (adv [([], 9, 3, .eq (pI (y_1.names.length : Int))), ([], 9, 4, .eq (pB true)), ([], 11, 4, .elem [(pS y_2.name), (pI y_2.ino)]), ([], 11, 7, .ret (.tup [(.agg [(pI r_2.kind), (pI r_2.modeF), (pI r_2.owner), (pI r_2.links), (pI r_2.openF), (pI r_2.up), (pS r_2.data), (.list 2 false (r_2.names.map entP))]), (pB r_3)])), ([], 12, 2, .eq (pB false)), ([], 12, 6, .elem [(pS y_3.name), (pI y_3.ino)]), ([], 12, 10, .eq (pB true))]) ref06Right2_L9 (ref06Right2_S9 i d.nodes d.most d.room y_1.kind y_1.modeF y_1.owner y_1.links y_1.openF y_1.up y_1.data y_1.names v_1))))]) (ex := .ret) (r := (pB false)) (by kernel_rfl) rfl (by kernel_rfl) (allC (gt_list (c := NodeD.c) q1) (allC (cg q2) (allC (cg q3) (allC (cg q4) (allC (cg q5) (allC (cg q6) (allC (cg q7) (allC (cg q8) (allC (len_ob (rfl : (y_1.names.map entP) = y_1.names.map entP)) (allC (cg q9) (allC (cg q10) (allC (cg q11) (allC (ref05Sorted_ok (k + 1) y_1.names _ q12) (allC (cg q13) (allC q18 allN))))))))))))))) (by kernel_rfl) allN
                            · skip
                              cases q15
                        · skip
                          cases q15
                          try dsimp only at h
                          have q17 := run_go (k := (k + 2)) (f := 64) (r0 := 0) (nt := 160) (c := ref06Right2_L9) (σ := (ref06Right2_S9 i d.nodes d.most d.room y_1.kind y_1.modeF y_1.owner y_1.links y_1.openF y_1.up y_1.data y_1.names v_1)) (adv [([], 9, 3, .eq (pI (y_1.names.length : Int))), ([], 9, 4, .eq (pB false))]) (ex := (.exit 0)) (by kernel_rfl) (by kernel_rfl) (allC (len_ob (rfl : (y_1.names.map entP) = y_1.names.map entP)) (allC (cg q19) allN))
                          have q18 := q16 _ _ (by intro e; cases e) q17
                          obtain ⟨⟨r_4, r_5⟩, q25, h⟩ := bnd_some h
                          try dsimp only at h
                          rcases bif_some h with ⟨q26, h⟩ | ⟨q26, h⟩
                          · skip
                            rcases bif_some h with ⟨q27, h⟩ | ⟨q27, h⟩
                            · skip
                              rcases bif_some h with ⟨q28, h⟩ | ⟨q28, h⟩
                              · skip
                                obtain rfl := Option.some.inj h
                                exact ret_go (k := (k + 2)) Try.func64 Try.ntmps64 (by kernel_rfl) (by kernel_rfl) (Nat.le_of_ble_eq_true rfl) (adv [([], 1, 3, .elem [(pI y_1.kind), (pI y_1.modeF), (pI y_1.owner), (pI y_1.links), (pI y_1.openF), (pI y_1.up), (pS y_1.data), (.list 2 false (y_1.names.map entP))]), ([], 2, 2, .eq (pB false)), ([], 4, 3, .eq (pB false)), ([], 4, 8, .eq (pB false)), ([], 4, 13, .eq (pB false)), ([], 4, 18, .eq (pB false)), ([], 4, 22, .eq (pB false)), ([], 6, 3, .eq (pB true)), ([], 6, 6, .eq (pI (y_1.names.length : Int))), ([], 6, 9, .eq (pB false)), ([], 6, 13, .eq (pB true)), ([], 6, 19, .eq (pB false)), ([], 6, 22, .ret (pB r_1)), ([], 6, 24, .eq (pB false)), ([], 14, 2, .ret (.tup [(pI r_4), (pI r_5)])), ([], 15, 1, .eq (pB true)), ([], 16, 3, .eq (pB true)), ([], 16, 8, .eq (pB true))] [([], 9, (.exit 0), (stOf (go (k + 2) 64 0 160 (adv [([], 9, 3, .eq (pI (y_1.names.length : Int))), ([], 9, 4, .eq (pB false))]) ref06Right2_L9 (ref06Right2_S9 i d.nodes d.most d.room y_1.kind y_1.modeF y_1.owner y_1.links y_1.openF y_1.up y_1.data y_1.names v_1))))]) (ex := .ret) (r := (pB (y_1.links == (1 : Int)))) (by kernel_rfl) rfl (by kernel_rfl) (allC (gt_list (c := NodeD.c) q1) (allC (cg q2) (allC (cg q3) (allC (cg q4) (allC (cg q5) (allC (cg q6) (allC (cg q7) (allC (cg q8) (allC (len_ob (rfl : (y_1.names.map entP) = y_1.names.map entP)) (allC (cg q9) (allC (cg q10) (allC (cg q11) (allC (ref05Sorted_ok (k + 1) y_1.names _ q12) (allC (cg q13) (allC q18 (allC (ref06Names_ok (k + 1) d i _ q25) (allC (cg q26) (allC (cg q27) (allC (cg q28) allN))))))))))))))))))) (by kernel_rfl) allN
                              · skip
                                obtain rfl := Option.some.inj h
                                exact ret_go (k := (k + 2)) Try.func64 Try.ntmps64 (by kernel_rfl) (by kernel_rfl) (Nat.le_of_ble_eq_true rfl) (adv [([], 1, 3, .elem [(pI y_1.kind), (pI y_1.modeF), (pI y_1.owner), (pI y_1.links), (pI y_1.openF), (pI y_1.up), (pS y_1.data), (.list 2 false (y_1.names.map entP))]), ([], 2, 2, .eq (pB false)), ([], 4, 3, .eq (pB false)), ([], 4, 8, .eq (pB false)), ([], 4, 13, .eq (pB false)), ([], 4, 18, .eq (pB false)), ([], 4, 22, .eq (pB false)), ([], 6, 3, .eq (pB true)), ([], 6, 6, .eq (pI (y_1.names.length : Int))), ([], 6, 9, .eq (pB false)), ([], 6, 13, .eq (pB true)), ([], 6, 19, .eq (pB false)), ([], 6, 22, .ret (pB r_1)), ([], 6, 24, .eq (pB false)), ([], 14, 2, .ret (.tup [(pI r_4), (pI r_5)])), ([], 15, 1, .eq (pB true)), ([], 16, 3, .eq (pB true)), ([], 16, 8, .eq (pB false))] [([], 9, (.exit 0), (stOf (go (k + 2) 64 0 160 (adv [([], 9, 3, .eq (pI (y_1.names.length : Int))), ([], 9, 4, .eq (pB false))]) ref06Right2_L9 (ref06Right2_S9 i d.nodes d.most d.room y_1.kind y_1.modeF y_1.owner y_1.links y_1.openF y_1.up y_1.data y_1.names v_1))))]) (ex := .ret) (r := (pB false)) (by kernel_rfl) rfl (by kernel_rfl) (allC (gt_list (c := NodeD.c) q1) (allC (cg q2) (allC (cg q3) (allC (cg q4) (allC (cg q5) (allC (cg q6) (allC (cg q7) (allC (cg q8) (allC (len_ob (rfl : (y_1.names.map entP) = y_1.names.map entP)) (allC (cg q9) (allC (cg q10) (allC (cg q11) (allC (ref05Sorted_ok (k + 1) y_1.names _ q12) (allC (cg q13) (allC q18 (allC (ref06Names_ok (k + 1) d i _ q25) (allC (cg q26) (allC (cg q27) (allC (cg q28) allN))))))))))))))))))) (by kernel_rfl) allN
                            · skip
                              obtain rfl := Option.some.inj h
                              exact ret_go (k := (k + 2)) Try.func64 Try.ntmps64 (by kernel_rfl) (by kernel_rfl) (Nat.le_of_ble_eq_true rfl) (adv [([], 1, 3, .elem [(pI y_1.kind), (pI y_1.modeF), (pI y_1.owner), (pI y_1.links), (pI y_1.openF), (pI y_1.up), (pS y_1.data), (.list 2 false (y_1.names.map entP))]), ([], 2, 2, .eq (pB false)), ([], 4, 3, .eq (pB false)), ([], 4, 8, .eq (pB false)), ([], 4, 13, .eq (pB false)), ([], 4, 18, .eq (pB false)), ([], 4, 22, .eq (pB false)), ([], 6, 3, .eq (pB true)), ([], 6, 6, .eq (pI (y_1.names.length : Int))), ([], 6, 9, .eq (pB false)), ([], 6, 13, .eq (pB true)), ([], 6, 19, .eq (pB false)), ([], 6, 22, .ret (pB r_1)), ([], 6, 24, .eq (pB false)), ([], 14, 2, .ret (.tup [(pI r_4), (pI r_5)])), ([], 15, 1, .eq (pB true)), ([], 16, 3, .eq (pB false))] [([], 9, (.exit 0), (stOf (go (k + 2) 64 0 160 (adv [([], 9, 3, .eq (pI (y_1.names.length : Int))), ([], 9, 4, .eq (pB false))]) ref06Right2_L9 (ref06Right2_S9 i d.nodes d.most d.room y_1.kind y_1.modeF y_1.owner y_1.links y_1.openF y_1.up y_1.data y_1.names v_1))))]) (ex := .ret) (r := (pB false)) (by kernel_rfl) rfl (by kernel_rfl) (allC (gt_list (c := NodeD.c) q1) (allC (cg q2) (allC (cg q3) (allC (cg q4) (allC (cg q5) (allC (cg q6) (allC (cg q7) (allC (cg q8) (allC (len_ob (rfl : (y_1.names.map entP) = y_1.names.map entP)) (allC (cg q9) (allC (cg q10) (allC (cg q11) (allC (ref05Sorted_ok (k + 1) y_1.names _ q12) (allC (cg q13) (allC q18 (allC (ref06Names_ok (k + 1) d i _ q25) (allC (cg q26) (allC (cg q27) allN)))))))))))))))))) (by kernel_rfl) allN
                          · skip
                            rcases bif_some h with ⟨q27, h⟩ | ⟨q27, h⟩
                            · skip
                              obtain rfl := Option.some.inj h
                              exact ret_go (k := (k + 2)) Try.func64 Try.ntmps64 (by kernel_rfl) (by kernel_rfl) (Nat.le_of_ble_eq_true rfl) (adv [([], 1, 3, .elem [(pI y_1.kind), (pI y_1.modeF), (pI y_1.owner), (pI y_1.links), (pI y_1.openF), (pI y_1.up), (pS y_1.data), (.list 2 false (y_1.names.map entP))]), ([], 2, 2, .eq (pB false)), ([], 4, 3, .eq (pB false)), ([], 4, 8, .eq (pB false)), ([], 4, 13, .eq (pB false)), ([], 4, 18, .eq (pB false)), ([], 4, 22, .eq (pB false)), ([], 6, 3, .eq (pB true)), ([], 6, 6, .eq (pI (y_1.names.length : Int))), ([], 6, 9, .eq (pB false)), ([], 6, 13, .eq (pB true)), ([], 6, 19, .eq (pB false)), ([], 6, 22, .ret (pB r_1)), ([], 6, 24, .eq (pB false)), ([], 14, 2, .ret (.tup [(pI r_4), (pI r_5)])), ([], 15, 1, .eq (pB false)), ([], 17, 4, .eq (pB true))] [([], 9, (.exit 0), (stOf (go (k + 2) 64 0 160 (adv [([], 9, 3, .eq (pI (y_1.names.length : Int))), ([], 9, 4, .eq (pB false))]) ref06Right2_L9 (ref06Right2_S9 i d.nodes d.most d.room y_1.kind y_1.modeF y_1.owner y_1.links y_1.openF y_1.up y_1.data y_1.names v_1))))]) (ex := .ret) (r := (pB false)) (by kernel_rfl) rfl (by kernel_rfl) (allC (gt_list (c := NodeD.c) q1) (allC (cg q2) (allC (cg q3) (allC (cg q4) (allC (cg q5) (allC (cg q6) (allC (cg q7) (allC (cg q8) (allC (len_ob (rfl : (y_1.names.map entP) = y_1.names.map entP)) (allC (cg q9) (allC (cg q10) (allC (cg q11) (allC (ref05Sorted_ok (k + 1) y_1.names _ q12) (allC (cg q13) (allC q18 (allC (ref06Names_ok (k + 1) d i _ q25) (allC (cg q26) (allC (cg q27) allN)))))))))))))))))) (by kernel_rfl) allN
                            · skip
                              rcases bif_some h with ⟨q28, h⟩ | ⟨q28, h⟩
                              · skip
                                rcases bif_some h with ⟨q29, h⟩ | ⟨q29, h⟩
                                · skip
                                  obtain rfl := Option.some.inj h
                                  exact ret_go (k := (k + 2)) Try.func64 Try.ntmps64 (by kernel_rfl) (by kernel_rfl) (Nat.le_of_ble_eq_true rfl) (adv [([], 1, 3, .elem [(pI y_1.kind), (pI y_1.modeF), (pI y_1.owner), (pI y_1.links), (pI y_1.openF), (pI y_1.up), (pS y_1.data), (.list 2 false (y_1.names.map entP))]), ([], 2, 2, .eq (pB false)), ([], 4, 3, .eq (pB false)), ([], 4, 8, .eq (pB false)), ([], 4, 13, .eq (pB false)), ([], 4, 18, .eq (pB false)), ([], 4, 22, .eq (pB false)), ([], 6, 3, .eq (pB true)), ([], 6, 6, .eq (pI (y_1.names.length : Int))), ([], 6, 9, .eq (pB false)), ([], 6, 13, .eq (pB true)), ([], 6, 19, .eq (pB false)), ([], 6, 22, .ret (pB r_1)), ([], 6, 24, .eq (pB false)), ([], 14, 2, .ret (.tup [(pI r_4), (pI r_5)])), ([], 15, 1, .eq (pB false)), ([], 17, 4, .eq (pB false)), ([], 17, 7, .eq (pB true)), ([], 17, 12, .eq (pB true))] [([], 9, (.exit 0), (stOf (go (k + 2) 64 0 160 (adv [([], 9, 3, .eq (pI (y_1.names.length : Int))), ([], 9, 4, .eq (pB false))]) ref06Right2_L9 (ref06Right2_S9 i d.nodes d.most d.room y_1.kind y_1.modeF y_1.owner y_1.links y_1.openF y_1.up y_1.data y_1.names v_1))))]) (ex := .ret) (r := (pB false)) (by kernel_rfl) rfl (by kernel_rfl) (allC (gt_list (c := NodeD.c) q1) (allC (cg q2) (allC (cg q3) (allC (cg q4) (allC (cg q5) (allC (cg q6) (allC (cg q7) (allC (cg q8) (allC (len_ob (rfl : (y_1.names.map entP) = y_1.names.map entP)) (allC (cg q9) (allC (cg q10) (allC (cg q11) (allC (ref05Sorted_ok (k + 1) y_1.names _ q12) (allC (cg q13) (allC q18 (allC (ref06Names_ok (k + 1) d i _ q25) (allC (cg q26) (allC (cg q27) (allC (cg q28) (allC (cg q29) allN)))))))))))))))))))) (by kernel_rfl) allN
                                · skip
                                  rcases bif_some h with ⟨q30, h⟩ | ⟨q30, h⟩
                                  · skip
                                    obtain rfl := Option.some.inj h
                                    exact ret_go (k := (k + 2)) Try.func64 Try.ntmps64 (by kernel_rfl) (by kernel_rfl) (Nat.le_of_ble_eq_true rfl) (adv [([], 1, 3, .elem [(pI y_1.kind), (pI y_1.modeF), (pI y_1.owner), (pI y_1.links), (pI y_1.openF), (pI y_1.up), (pS y_1.data), (.list 2 false (y_1.names.map entP))]), ([], 2, 2, .eq (pB false)), ([], 4, 3, .eq (pB false)), ([], 4, 8, .eq (pB false)), ([], 4, 13, .eq (pB false)), ([], 4, 18, .eq (pB false)), ([], 4, 22, .eq (pB false)), ([], 6, 3, .eq (pB true)), ([], 6, 6, .eq (pI (y_1.names.length : Int))), ([], 6, 9, .eq (pB false)), ([], 6, 13, .eq (pB true)), ([], 6, 19, .eq (pB false)), ([], 6, 22, .ret (pB r_1)), ([], 6, 24, .eq (pB false)), ([], 14, 2, .ret (.tup [(pI r_4), (pI r_5)])), ([], 15, 1, .eq (pB false)), ([], 17, 4, .eq (pB false)), ([], 17, 7, .eq (pB true)), ([], 17, 12, .eq (pB false)), ([], 19, 2, .eq (pB true))] [([], 9, (.exit 0), (stOf (go (k + 2) 64 0 160 (adv [([], 9, 3, .eq (pI (y_1.names.length : Int))), ([], 9, 4, .eq (pB false))]) ref06Right2_L9 (ref06Right2_S9 i d.nodes d.most d.room y_1.kind y_1.modeF y_1.owner y_1.links y_1.openF y_1.up y_1.data y_1.names v_1))))]) (ex := .ret) (r := (pB true)) (by kernel_rfl) rfl (by kernel_rfl) (allC (gt_list (c := NodeD.c) q1) (allC (cg q2) (allC (cg q3) (allC (cg q4) (allC (cg q5) (allC (cg q6) (allC (cg q7) (allC (cg q8) (allC (len_ob (rfl : (y_1.names.map entP) = y_1.names.map entP)) (allC (cg q9) (allC (cg q10) (allC (cg q11) (allC (ref05Sorted_ok (k + 1) y_1.names _ q12) (allC (cg q13) (allC q18 (allC (ref06Names_ok (k + 1) d i _ q25) (allC (cg q26) (allC (cg q27) (allC (cg q28) (allC (cg q29) (allC (cg q30) allN))))))))))))))))))))) (by kernel_rfl) allN
                                  · skip
                                    rcases bif_some h with ⟨q31, h⟩ | ⟨q31, h⟩
                                    · skip
                                      rcases bif_some h with ⟨q32, h⟩ | ⟨q32, h⟩
                                      · skip
                                        obtain rfl := Option.some.inj h
                                        exact ret_go (k := (k + 2)) Try.func64 Try.ntmps64 (by kernel_rfl) (by kernel_rfl) (Nat.le_of_ble_eq_true rfl) (adv [([], 1, 3, .elem [(pI y_1.kind), (pI y_1.modeF), (pI y_1.owner), (pI y_1.links), (pI y_1.openF), (pI y_1.up), (pS y_1.data), (.list 2 false (y_1.names.map entP))]), ([], 2, 2, .eq (pB false)), ([], 4, 3, .eq (pB false)), ([], 4, 8, .eq (pB false)), ([], 4, 13, .eq (pB false)), ([], 4, 18, .eq (pB false)), ([], 4, 22, .eq (pB false)), ([], 6, 3, .eq (pB true)), ([], 6, 6, .eq (pI (y_1.names.length : Int))), ([], 6, 9, .eq (pB false)), ([], 6, 13, .eq (pB true)), ([], 6, 19, .eq (pB false)), ([], 6, 22, .ret (pB r_1)), ([], 6, 24, .eq (pB false)), ([], 14, 2, .ret (.tup [(pI r_4), (pI r_5)])), ([], 15, 1, .eq (pB false)), ([], 17, 4, .eq (pB false)), ([], 17, 7, .eq (pB true)), ([], 17, 12, .eq (pB false)), ([], 19, 2, .eq (pB false)), ([], 21, 1, .eq (pB true)), ([], 22, 2, .eq (pI (y_1.names.length : Int))), ([], 22, 4, .eq (pB true))] [([], 9, (.exit 0), (stOf (go (k + 2) 64 0 160 (adv [([], 9, 3, .eq (pI (y_1.names.length : Int))), ([], 9, 4, .eq (pB false))]) ref06Right2_L9 (ref06Right2_S9 i d.nodes d.most d.room y_1.kind y_1.modeF y_1.owner y_1.links y_1.openF y_1.up y_1.data y_1.names v_1))))]) (ex := .ret) (r := (pB (y_1.up == (0 : Int)))) (by kernel_rfl) rfl (by kernel_rfl) (allC (gt_list (c := NodeD.c) q1) (allC (cg q2) (allC (cg q3) (allC (cg q4) (allC (cg q5) (allC (cg q6) (allC (cg q7) (allC (cg q8) (allC (len_ob (rfl : (y_1.names.map entP) = y_1.names.map entP)) (allC (cg q9) (allC (cg q10) (allC (cg q11) (allC (ref05Sorted_ok (k + 1) y_1.names _ q12) (allC (cg q13) (allC q18 (allC (ref06Names_ok (k + 1) d i _ q25) (allC (cg q26) (allC (cg q27) (allC (cg q28) (allC (cg q29) (allC (cg q30) (allC (cg q31) (allC (len_ob (rfl : (y_1.names.map entP) = y_1.names.map entP)) (allC (cg q32) allN)))))))))))))))))))))))) (by kernel_rfl) allN
                                      · skip
                                        obtain rfl := Option.some.inj h
                                        exact ret_go (k := (k + 2)) Try.func64 Try.ntmps64 (by kernel_rfl) (by kernel_rfl) (Nat.le_of_ble_eq_true rfl) (adv [([], 1, 3, .elem [(pI y_1.kind), (pI y_1.modeF), (pI y_1.owner), (pI y_1.links), (pI y_1.openF), (pI y_1.up), (pS y_1.data), (.list 2 false (y_1.names.map entP))]), ([], 2, 2, .eq (pB false)), ([], 4, 3, .eq (pB false)), ([], 4, 8, .eq (pB false)), ([], 4, 13, .eq (pB false)), ([], 4, 18, .eq (pB false)), ([], 4, 22, .eq (pB false)), ([], 6, 3, .eq (pB true)), ([], 6, 6, .eq (pI (y_1.names.length : Int))), ([], 6, 9, .eq (pB false)), ([], 6, 13, .eq (pB true)), ([], 6, 19, .eq (pB false)), ([], 6, 22, .ret (pB r_1)), ([], 6, 24, .eq (pB false)), ([], 14, 2, .ret (.tup [(pI r_4), (pI r_5)])), ([], 15, 1, .eq (pB false)), ([], 17, 4, .eq (pB false)), ([], 17, 7, .eq (pB true)), ([], 17, 12, .eq (pB false)), ([], 19, 2, .eq (pB false)), ([], 21, 1, .eq (pB true)), ([], 22, 2, .eq (pI (y_1.names.length : Int))), ([], 22, 4, .eq (pB false))] [([], 9, (.exit 0), (stOf (go (k + 2) 64 0 160 (adv [([], 9, 3, .eq (pI (y_1.names.length : Int))), ([], 9, 4, .eq (pB false))]) ref06Right2_L9 (ref06Right2_S9 i d.nodes d.most d.room y_1.kind y_1.modeF y_1.owner y_1.links y_1.openF y_1.up y_1.data y_1.names v_1))))]) (ex := .ret) (r := (pB false)) (by kernel_rfl) rfl (by kernel_rfl) (allC (gt_list (c := NodeD.c) q1) (allC (cg q2) (allC (cg q3) (allC (cg q4) (allC (cg q5) (allC (cg q6) (allC (cg q7) (allC (cg q8) (allC (len_ob (rfl : (y_1.names.map entP) = y_1.names.map entP)) (allC (cg q9) (allC (cg q10) (allC (cg q11) (allC (ref05Sorted_ok (k + 1) y_1.names _ q12) (allC (cg q13) (allC q18 (allC (ref06Names_ok (k + 1) d i _ q25) (allC (cg q26) (allC (cg q27) (allC (cg q28) (allC (cg q29) (allC (cg q30) (allC (cg q31) (allC (len_ob (rfl : (y_1.names.map entP) = y_1.names.map entP)) (allC (cg q32) allN)))))))))))))))))))))))) (by kernel_rfl) allN
                                    · skip
                                      rcases bif_some h with ⟨q32, h⟩ | ⟨q32, h⟩
                                      · skip
                                        rcases bif_some h with ⟨q33, h⟩ | ⟨q33, h⟩
                                        · skip
                                          obtain ⟨r_6, q34, h⟩ := bnd_some h
                                          obtain rfl := Option.some.inj h
                                          exact ret_go (k := (k + 2)) Try.func64 Try.ntmps64 (by kernel_rfl) (by kernel_rfl) (Nat.le_of_ble_eq_true rfl) (adv [([], 1, 3, .elem [(pI y_1.kind), (pI y_1.modeF), (pI y_1.owner), (pI y_1.links), (pI y_1.openF), (pI y_1.up), (pS y_1.data), (.list 2 false (y_1.names.map entP))]), ([], 2, 2, .eq (pB false)), ([], 4, 3, .eq (pB false)), ([], 4, 8, .eq (pB false)), ([], 4, 13, .eq (pB false)), ([], 4, 18, .eq (pB false)), ([], 4, 22, .eq (pB false)), ([], 6, 3, .eq (pB true)), ([], 6, 6, .eq (pI (y_1.names.length : Int))), ([], 6, 9, .eq (pB false)), ([], 6, 13, .eq (pB true)), ([], 6, 19, .eq (pB false)), ([], 6, 22, .ret (pB r_1)), ([], 6, 24, .eq (pB false)), ([], 14, 2, .ret (.tup [(pI r_4), (pI r_5)])), ([], 15, 1, .eq (pB false)), ([], 17, 4, .eq (pB false)), ([], 17, 7, .eq (pB true)), ([], 17, 12, .eq (pB false)), ([], 19, 2, .eq (pB false)), ([], 21, 1, .eq (pB false)), ([], 23, 2, .eq (pB true)), ([], 23, 8, .eq (pB true)), ([], 23, 11, .ret (pB r_6))] [([], 9, (.exit 0), (stOf (go (k + 2) 64 0 160 (adv [([], 9, 3, .eq (pI (y_1.names.length : Int))), ([], 9, 4, .eq (pB false))]) ref06Right2_L9 (ref06Right2_S9 i d.nodes d.most d.room y_1.kind y_1.modeF y_1.owner y_1.links y_1.openF y_1.up y_1.data y_1.names v_1))))]) (ex := .ret) (r := (pB r_6)) (by kernel_rfl) rfl (by kernel_rfl) (allC (gt_list (c := NodeD.c) q1) (allC (cg q2) (allC (cg q3) (allC (cg q4) (allC (cg q5) (allC (cg q6) (allC (cg q7) (allC (cg q8) (allC (len_ob (rfl : (y_1.names.map entP) = y_1.names.map entP)) (allC (cg q9) (allC (cg q10) (allC (cg q11) (allC (ref05Sorted_ok (k + 1) y_1.names _ q12) (allC (cg q13) (allC q18 (allC (ref06Names_ok (k + 1) d i _ q25) (allC (cg q26) (allC (cg q27) (allC (cg q28) (allC (cg q29) (allC (cg q30) (allC (cg q31) (allC (cg q32) (allC (cg q33) (allC (ref06Rooted_ok k d i _ q34) allN))))))))))))))))))))))))) (by kernel_rfl) allN
                                        · skip
                                          obtain rfl := Option.some.inj h
                                          exact ret_go (k := (k + 2)) Try.func64 Try.ntmps64 (by kernel_rfl) (by kernel_rfl) (Nat.le_of_ble_eq_true rfl) (adv [([], 1, 3, .elem [(pI y_1.kind), (pI y_1.modeF), (pI y_1.owner), (pI y_1.links), (pI y_1.openF), (pI y_1.up), (pS y_1.data), (.list 2 false (y_1.names.map entP))]), ([], 2, 2, .eq (pB false)), ([], 4, 3, .eq (pB false)), ([], 4, 8, .eq (pB false)), ([], 4, 13, .eq (pB false)), ([], 4, 18, .eq (pB false)), ([], 4, 22, .eq (pB false)), ([], 6, 3, .eq (pB true)), ([], 6, 6, .eq (pI (y_1.names.length : Int))), ([], 6, 9, .eq (pB false)), ([], 6, 13, .eq (pB true)), ([], 6, 19, .eq (pB false)), ([], 6, 22, .ret (pB r_1)), ([], 6, 24, .eq (pB false)), ([], 14, 2, .ret (.tup [(pI r_4), (pI r_5)])), ([], 15, 1, .eq (pB false)), ([], 17, 4, .eq (pB false)), ([], 17, 7, .eq (pB true)), ([], 17, 12, .eq (pB false)), ([], 19, 2, .eq (pB false)), ([], 21, 1, .eq (pB false)), ([], 23, 2, .eq (pB true)), ([], 23, 8, .eq (pB false))] [([], 9, (.exit 0), (stOf (go (k + 2) 64 0 160 (adv [([], 9, 3, .eq (pI (y_1.names.length : Int))), ([], 9, 4, .eq (pB false))]) ref06Right2_L9 (ref06Right2_S9 i d.nodes d.most d.room y_1.kind y_1.modeF y_1.owner y_1.links y_1.openF y_1.up y_1.data y_1.names v_1))))]) (ex := .ret) (r := (pB false)) (by kernel_rfl) rfl (by kernel_rfl) (allC (gt_list (c := NodeD.c) q1) (allC (cg q2) (allC (cg q3) (allC (cg q4) (allC (cg q5) (allC (cg q6) (allC (cg q7) (allC (cg q8) (allC (len_ob (rfl : (y_1.names.map entP) = y_1.names.map entP)) (allC (cg q9) (allC (cg q10) (allC (cg q11) (allC (ref05Sorted_ok (k + 1) y_1.names _ q12) (allC (cg q13) (allC q18 (allC (ref06Names_ok (k + 1) d i _ q25) (allC (cg q26) (allC (cg q27) (allC (cg q28) (allC (cg q29) (allC (cg q30) (allC (cg q31) (allC (cg q32) (allC (cg q33) allN)))))))))))))))))))))))) (by kernel_rfl) allN
                                      · skip
                                        obtain rfl := Option.some.inj h
                                        exact ret_go (k := (k + 2)) Try.func64 Try.ntmps64 (by kernel_rfl) (by kernel_rfl) (Nat.le_of_ble_eq_true rfl) (adv [([], 1, 3, .elem [(pI y_1.kind), (pI y_1.modeF), (pI y_1.owner), (pI y_1.links), (pI y_1.openF), (pI y_1.up), (pS y_1.data), (.list 2 false (y_1.names.map entP))]), ([], 2, 2, .eq (pB false)), ([], 4, 3, .eq (pB false)), ([], 4, 8, .eq (pB false)), ([], 4, 13, .eq (pB false)), ([], 4, 18, .eq (pB false)), ([], 4, 22, .eq (pB false)), ([], 6, 3, .eq (pB true)), ([], 6, 6, .eq (pI (y_1.names.length : Int))), ([], 6, 9, .eq (pB false)), ([], 6, 13, .eq (pB true)), ([], 6, 19, .eq (pB false)), ([], 6, 22, .ret (pB r_1)), ([], 6, 24, .eq (pB false)), ([], 14, 2, .ret (.tup [(pI r_4), (pI r_5)])), ([], 15, 1, .eq (pB false)), ([], 17, 4, .eq (pB false)), ([], 17, 7, .eq (pB true)), ([], 17, 12, .eq (pB false)), ([], 19, 2, .eq (pB false)), ([], 21, 1, .eq (pB false)), ([], 23, 2, .eq (pB false))] [([], 9, (.exit 0), (stOf (go (k + 2) 64 0 160 (adv [([], 9, 3, .eq (pI (y_1.names.length : Int))), ([], 9, 4, .eq (pB false))]) ref06Right2_L9 (ref06Right2_S9 i d.nodes d.most d.room y_1.kind y_1.modeF y_1.owner y_1.links y_1.openF y_1.up y_1.data y_1.names v_1))))]) (ex := .ret) (r := (pB false)) (by kernel_rfl) rfl (by kernel_rfl) (allC (gt_list (c := NodeD.c) q1) (allC (cg q2) (allC (cg q3) (allC (cg q4) (allC (cg q5) (allC (cg q6) (allC (cg q7) (allC (cg q8) (allC (len_ob (rfl : (y_1.names.map entP) = y_1.names.map entP)) (allC (cg q9) (allC (cg q10) (allC (cg q11) (allC (ref05Sorted_ok (k + 1) y_1.names _ q12) (allC (cg q13) (allC q18 (allC (ref06Names_ok (k + 1) d i _ q25) (allC (cg q26) (allC (cg q27) (allC (cg q28) (allC (cg q29) (allC (cg q30) (allC (cg q31) (allC (cg q32) allN))))))))))))))))))))))) (by kernel_rfl) allN
                              · skip
                                rcases bif_some h with ⟨q29, h⟩ | ⟨q29, h⟩
                                · skip
                                  obtain rfl := Option.some.inj h
                                  exact ret_go (k := (k + 2)) Try.func64 Try.ntmps64 (by kernel_rfl) (by kernel_rfl) (Nat.le_of_ble_eq_true rfl) (adv [([], 1, 3, .elem [(pI y_1.kind), (pI y_1.modeF), (pI y_1.owner), (pI y_1.links), (pI y_1.openF), (pI y_1.up), (pS y_1.data), (.list 2 false (y_1.names.map entP))]), ([], 2, 2, .eq (pB false)), ([], 4, 3, .eq (pB false)), ([], 4, 8, .eq (pB false)), ([], 4, 13, .eq (pB false)), ([], 4, 18, .eq (pB false)), ([], 4, 22, .eq (pB false)), ([], 6, 3, .eq (pB true)), ([], 6, 6, .eq (pI (y_1.names.length : Int))), ([], 6, 9, .eq (pB false)), ([], 6, 13, .eq (pB true)), ([], 6, 19, .eq (pB false)), ([], 6, 22, .ret (pB r_1)), ([], 6, 24, .eq (pB false)), ([], 14, 2, .ret (.tup [(pI r_4), (pI r_5)])), ([], 15, 1, .eq (pB false)), ([], 17, 4, .eq (pB false)), ([], 17, 7, .eq (pB false)), ([], 19, 2, .eq (pB true))] [([], 9, (.exit 0), (stOf (go (k + 2) 64 0 160 (adv [([], 9, 3, .eq (pI (y_1.names.length : Int))), ([], 9, 4, .eq (pB false))]) ref06Right2_L9 (ref06Right2_S9 i d.nodes d.most d.room y_1.kind y_1.modeF y_1.owner y_1.links y_1.openF y_1.up y_1.data y_1.names v_1))))]) (ex := .ret) (r := (pB true)) (by kernel_rfl) rfl (by kernel_rfl) (allC (gt_list (c := NodeD.c) q1) (allC (cg q2) (allC (cg q3) (allC (cg q4) (allC (cg q5) (allC (cg q6) (allC (cg q7) (allC (cg q8) (allC (len_ob (rfl : (y_1.names.map entP) = y_1.names.map entP)) (allC (cg q9) (allC (cg q10) (allC (cg q11) (allC (ref05Sorted_ok (k + 1) y_1.names _ q12) (allC (cg q13) (allC q18 (allC (ref06Names_ok (k + 1) d i _ q25) (allC (cg q26) (allC (cg q27) (allC (cg q28) (allC (cg q29) allN)))))))))))))))))))) (by kernel_rfl) allN
                                · skip
                                  rcases bif_some h with ⟨q30, h⟩ | ⟨q30, h⟩
                                  · skip
                                    rcases bif_some h with ⟨q31, h⟩ | ⟨q31, h⟩
                                    · skip
                                      obtain rfl := Option.some.inj h
                                      exact ret_go (k := (k + 2)) Try.func64 Try.ntmps64 (by kernel_rfl) (by kernel_rfl) (Nat.le_of_ble_eq_true rfl) (adv [([], 1, 3, .elem [(pI y_1.kind), (pI y_1.modeF), (pI y_1.owner), (pI y_1.links), (pI y_1.openF), (pI y_1.up), (pS y_1.data), (.list 2 false (y_1.names.map entP))]), ([], 2, 2, .eq (pB false)), ([], 4, 3, .eq (pB false)), ([], 4, 8, .eq (pB false)), ([], 4, 13, .eq (pB false)), ([], 4, 18, .eq (pB false)), ([], 4, 22, .eq (pB false)), ([], 6, 3, .eq (pB true)), ([], 6, 6, .eq (pI (y_1.names.length : Int))), ([], 6, 9, .eq (pB false)), ([], 6, 13, .eq (pB true)), ([], 6, 19, .eq (pB false)), ([], 6, 22, .ret (pB r_1)), ([], 6, 24, .eq (pB false)), ([], 14, 2, .ret (.tup [(pI r_4), (pI r_5)])), ([], 15, 1, .eq (pB false)), ([], 17, 4, .eq (pB false)), ([], 17, 7, .eq (pB false)), ([], 19, 2, .eq (pB false)), ([], 21, 1, .eq (pB true)), ([], 22, 2, .eq (pI (y_1.names.length : Int))), ([], 22, 4, .eq (pB true))] [([], 9, (.exit 0), (stOf (go (k + 2) 64 0 160 (adv [([], 9, 3, .eq (pI (y_1.names.length : Int))), ([], 9, 4, .eq (pB false))]) ref06Right2_L9 (ref06Right2_S9 i d.nodes d.most d.room y_1.kind y_1.modeF y_1.owner y_1.links y_1.openF y_1.up y_1.data y_1.names v_1))))]) (ex := .ret) (r := (pB (y_1.up == (0 : Int)))) (by kernel_rfl) rfl (by kernel_rfl) (allC (gt_list (c := NodeD.c) q1) (allC (cg q2) (allC (cg q3) (allC (cg q4) (allC (cg q5) (allC (cg q6) (allC (cg q7) (allC (cg q8) (allC (len_ob (rfl : (y_1.names.map entP) = y_1.names.map entP)) (allC (cg q9) (allC (cg q10) (allC (cg q11) (allC (ref05Sorted_ok (k + 1) y_1.names _ q12) (allC (cg q13) (allC q18 (allC (ref06Names_ok (k + 1) d i _ q25) (allC (cg q26) (allC (cg q27) (allC (cg q28) (allC (cg q29) (allC (cg q30) (allC (len_ob (rfl : (y_1.names.map entP) = y_1.names.map entP)) (allC (cg q31) allN))))))))))))))))))))))) (by kernel_rfl) allN
                                    · skip
                                      obtain rfl := Option.some.inj h
                                      exact ret_go (k := (k + 2)) Try.func64 Try.ntmps64 (by kernel_rfl) (by kernel_rfl) (Nat.le_of_ble_eq_true rfl) (adv [([], 1, 3, .elem [(pI y_1.kind), (pI y_1.modeF), (pI y_1.owner), (pI y_1.links), (pI y_1.openF), (pI y_1.up), (pS y_1.data), (.list 2 false (y_1.names.map entP))]), ([], 2, 2, .eq (pB false)), ([], 4, 3, .eq (pB false)), ([], 4, 8, .eq (pB false)), ([], 4, 13, .eq (pB false)), ([], 4, 18, .eq (pB false)), ([], 4, 22, .eq (pB false)), ([], 6, 3, .eq (pB true)), ([], 6, 6, .eq (pI (y_1.names.length : Int))), ([], 6, 9, .eq (pB false)), ([], 6, 13, .eq (pB true)), ([], 6, 19, .eq (pB false)), ([], 6, 22, .ret (pB r_1)), ([], 6, 24, .eq (pB false)), ([], 14, 2, .ret (.tup [(pI r_4), (pI r_5)])), ([], 15, 1, .eq (pB false)), ([], 17, 4, .eq (pB false)), ([], 17, 7, .eq (pB false)), ([], 19, 2, .eq (pB false)), ([], 21, 1, .eq (pB true)), ([], 22, 2, .eq (pI (y_1.names.length : Int))), ([], 22, 4, .eq (pB false))] [([], 9, (.exit 0), (stOf (go (k + 2) 64 0 160 (adv [([], 9, 3, .eq (pI (y_1.names.length : Int))), ([], 9, 4, .eq (pB false))]) ref06Right2_L9 (ref06Right2_S9 i d.nodes d.most d.room y_1.kind y_1.modeF y_1.owner y_1.links y_1.openF y_1.up y_1.data y_1.names v_1))))]) (ex := .ret) (r := (pB false)) (by kernel_rfl) rfl (by kernel_rfl) (allC (gt_list (c := NodeD.c) q1) (allC (cg q2) (allC (cg q3) (allC (cg q4) (allC (cg q5) (allC (cg q6) (allC (cg q7) (allC (cg q8) (allC (len_ob (rfl : (y_1.names.map entP) = y_1.names.map entP)) (allC (cg q9) (allC (cg q10) (allC (cg q11) (allC (ref05Sorted_ok (k + 1) y_1.names _ q12) (allC (cg q13) (allC q18 (allC (ref06Names_ok (k + 1) d i _ q25) (allC (cg q26) (allC (cg q27) (allC (cg q28) (allC (cg q29) (allC (cg q30) (allC (len_ob (rfl : (y_1.names.map entP) = y_1.names.map entP)) (allC (cg q31) allN))))))))))))))))))))))) (by kernel_rfl) allN
                                  · skip
                                    rcases bif_some h with ⟨q31, h⟩ | ⟨q31, h⟩
                                    · skip
                                      rcases bif_some h with ⟨q32, h⟩ | ⟨q32, h⟩
                                      · skip
                                        obtain ⟨r_6, q33, h⟩ := bnd_some h
                                        obtain rfl := Option.some.inj h
                                        exact ret_go (k := (k + 2)) Try.func64 Try.ntmps64 (by kernel_rfl) (by kernel_rfl) (Nat.le_of_ble_eq_true rfl) (adv [([], 1, 3, .elem [(pI y_1.kind), (pI y_1.modeF), (pI y_1.owner), (pI y_1.links), (pI y_1.openF), (pI y_1.up), (pS y_1.data), (.list 2 false (y_1.names.map entP))]), ([], 2, 2, .eq (pB false)), ([], 4, 3, .eq (pB false)), ([], 4, 8, .eq (pB false)), ([], 4, 13, .eq (pB false)), ([], 4, 18, .eq (pB false)), ([], 4, 22, .eq (pB false)), ([], 6, 3, .eq (pB true)), ([], 6, 6, .eq (pI (y_1.names.length : Int))), ([], 6, 9, .eq (pB false)), ([], 6, 13, .eq (pB true)), ([], 6, 19, .eq (pB false)), ([], 6, 22, .ret (pB r_1)), ([], 6, 24, .eq (pB false)), ([], 14, 2, .ret (.tup [(pI r_4), (pI r_5)])), ([], 15, 1, .eq (pB false)), ([], 17, 4, .eq (pB false)), ([], 17, 7, .eq (pB false)), ([], 19, 2, .eq (pB false)), ([], 21, 1, .eq (pB false)), ([], 23, 2, .eq (pB true)), ([], 23, 8, .eq (pB true)), ([], 23, 11, .ret (pB r_6))] [([], 9, (.exit 0), (stOf (go (k + 2) 64 0 160 (adv [([], 9, 3, .eq (pI (y_1.names.length : Int))), ([], 9, 4, .eq (pB false))]) ref06Right2_L9 (ref06Right2_S9 i d.nodes d.most d.room y_1.kind y_1.modeF y_1.owner y_1.links y_1.openF y_1.up y_1.data y_1.names v_1))))]) (ex := .ret) (r := (pB r_6)) (by kernel_rfl) rfl (by kernel_rfl) (allC (gt_list (c := NodeD.c) q1) (allC (cg q2) (allC (cg q3) (allC (cg q4) (allC (cg q5) (allC (cg q6) (allC (cg q7) (allC (cg q8) (allC (len_ob (rfl : (y_1.names.map entP) = y_1.names.map entP)) (allC (cg q9) (allC (cg q10) (allC (cg q11) (allC (ref05Sorted_ok (k + 1) y_1.names _ q12) (allC (cg q13) (allC q18 (allC (ref06Names_ok (k + 1) d i _ q25) (allC (cg q26) (allC (cg q27) (allC (cg q28) (allC (cg q29) (allC (cg q30) (allC (cg q31) (allC (cg q32) (allC (ref06Rooted_ok k d i _ q33) allN)))))))))))))))))))))))) (by kernel_rfl) allN
                                      · skip
                                        obtain rfl := Option.some.inj h
                                        exact ret_go (k := (k + 2)) Try.func64 Try.ntmps64 (by kernel_rfl) (by kernel_rfl) (Nat.le_of_ble_eq_true rfl) (adv [([], 1, 3, .elem [(pI y_1.kind), (pI y_1.modeF), (pI y_1.owner), (pI y_1.links), (pI y_1.openF), (pI y_1.up), (pS y_1.data), (.list 2 false (y_1.names.map entP))]), ([], 2, 2, .eq (pB false)), ([], 4, 3, .eq (pB false)), ([], 4, 8, .eq (pB false)), ([], 4, 13, .eq (pB false)), ([], 4, 18, .eq (pB false)), ([], 4, 22, .eq (pB false)), ([], 6, 3, .eq (pB true)), ([], 6, 6, .eq (pI (y_1.names.length : Int))), ([], 6, 9, .eq (pB false)), ([], 6, 13, .eq (pB true)), ([], 6, 19, .eq (pB false)), ([], 6, 22, .ret (pB r_1)), ([], 6, 24, .eq (pB false)), ([], 14, 2, .ret (.tup [(pI r_4), (pI r_5)])), ([], 15, 1, .eq (pB false)), ([], 17, 4, .eq (pB false)), ([], 17, 7, .eq (pB false)), ([], 19, 2, .eq (pB false)), ([], 21, 1, .eq (pB false)), ([], 23, 2, .eq (pB true)), ([], 23, 8, .eq (pB false))] [([], 9, (.exit 0), (stOf (go (k + 2) 64 0 160 (adv [([], 9, 3, .eq (pI (y_1.names.length : Int))), ([], 9, 4, .eq (pB false))]) ref06Right2_L9 (ref06Right2_S9 i d.nodes d.most d.room y_1.kind y_1.modeF y_1.owner y_1.links y_1.openF y_1.up y_1.data y_1.names v_1))))]) (ex := .ret) (r := (pB false)) (by kernel_rfl) rfl (by kernel_rfl) (allC (gt_list (c := NodeD.c) q1) (allC (cg q2) (allC (cg q3) (allC (cg q4) (allC (cg q5) (allC (cg q6) (allC (cg q7) (allC (cg q8) (allC (len_ob (rfl : (y_1.names.map entP) = y_1.names.map entP)) (allC (cg q9) (allC (cg q10) (allC (cg q11) (allC (ref05Sorted_ok (k + 1) y_1.names _ q12) (allC (cg q13) (allC q18 (allC (ref06Names_ok (k + 1) d i _ q25) (allC (cg q26) (allC (cg q27) (allC (cg q28) (allC (cg q29) (allC (cg q30) (allC (cg q31) (allC (cg q32) allN))))))))))))))))))))))) (by kernel_rfl) allN
                                    · skip
                                      obtain rfl := Option.some.inj h
                                      exact ret_go (k := (k + 2)) Try.func64 Try.ntmps64 (by kernel_rfl) (by kernel_rfl) (Nat.le_of_ble_eq_true rfl) (adv [([], 1, 3, .elem [(pI y_1.kind), (pI y_1.modeF), (pI y_1.owner), (pI y_1.links), (pI y_1.openF), (pI y_1.up), (pS y_1.data), (.list 2 false (y_1.names.map entP))]), ([], 2, 2, .eq (pB false)), ([], 4, 3, .eq (pB false)), ([], 4, 8, .eq (pB false)), ([], 4, 13, .eq (pB false)), ([], 4, 18, .eq (pB false)), ([], 4, 22, .eq (pB false)), ([], 6, 3, .eq (pB true)), ([], 6, 6, .eq (pI (y_1.names.length : Int))), ([], 6, 9, .eq (pB false)), ([], 6, 13, .eq (pB true)), ([], 6, 19, .eq (pB false)), ([], 6, 22, .ret (pB r_1)), ([], 6, 24, .eq (pB false)), ([], 14, 2, .ret (.tup [(pI r_4), (pI r_5)])), ([], 15, 1, .eq (pB false)), ([], 17, 4, .eq (pB false)), ([], 17, 7, .eq (pB false)), ([], 19, 2, .eq (pB false)), ([], 21, 1, .eq (pB false)), ([], 23, 2, .eq (pB false))] [([], 9, (.exit 0), (stOf (go (k + 2) 64 0 160 (adv [([], 9, 3, .eq (pI (y_1.names.length : Int))), ([], 9, 4, .eq (pB false))]) ref06Right2_L9 (ref06Right2_S9 i d.nodes d.most d.room y_1.kind y_1.modeF y_1.owner y_1.links y_1.openF y_1.up y_1.data y_1.names v_1))))]) (ex := .ret) (r := (pB false)) (by kernel_rfl) rfl (by kernel_rfl) (allC (gt_list (c := NodeD.c) q1) (allC (cg q2) (allC (cg q3) (allC (cg q4) (allC (cg q5) (allC (cg q6) (allC (cg q7) (allC (cg q8) (allC (len_ob (rfl : (y_1.names.map entP) = y_1.names.map entP)) (allC (cg q9) (allC (cg q10) (allC (cg q11) (allC (ref05Sorted_ok (k + 1) y_1.names _ q12) (allC (cg q13) (allC q18 (allC (ref06Names_ok (k + 1) d i _ q25) (allC (cg q26) (allC (cg q27) (allC (cg q28) (allC (cg q29) (allC (cg q30) (allC (cg q31) allN)))))))))))))))))))))) (by kernel_rfl) allN
                  · skip
                    obtain ⟨r_1, q11, h⟩ := bnd_some h
                    rcases bif_some h with ⟨q12, h⟩ | ⟨q12, h⟩
                    · skip
                      obtain rfl := Option.some.inj h
                      exact ret_go (k := (k + 2)) Try.func64 Try.ntmps64 (by kernel_rfl) (by kernel_rfl) (Nat.le_of_ble_eq_true rfl) (adv [([], 1, 3, .elem [(pI y_1.kind), (pI y_1.modeF), (pI y_1.owner), (pI y_1.links), (pI y_1.openF), (pI y_1.up), (pS y_1.data), (.list 2 false (y_1.names.map entP))]), ([], 2, 2, .eq (pB false)), ([], 4, 3, .eq (pB false)), ([], 4, 8, .eq (pB false)), ([], 4, 13, .eq (pB false)), ([], 4, 18, .eq (pB false)), ([], 4, 22, .eq (pB false)), ([], 6, 3, .eq (pB true)), ([], 6, 6, .eq (pI (y_1.names.length : Int))), ([], 6, 9, .eq (pB false)), ([], 6, 13, .eq (pB false)), ([], 6, 22, .ret (pB r_1)), ([], 6, 24, .eq (pB true))]) (ex := .ret) (r := (pB false)) (by kernel_rfl) rfl (by kernel_rfl) (allC (gt_list (c := NodeD.c) q1) (allC (cg q2) (allC (cg q3) (allC (cg q4) (allC (cg q5) (allC (cg q6) (allC (cg q7) (allC (cg q8) (allC (len_ob (rfl : (y_1.names.map entP) = y_1.names.map entP)) (allC (cg q9) (allC (cg q10) (allC (ref05Sorted_ok (k + 1) y_1.names _ q11) (allC (cg q12) allN))))))))))))) (by kernel_rfl) allN
                    · skip
                      obtain ⟨X_1, q13, h⟩ := bnd_some h
                      obtain ⟨v_1, q14, q15⟩ := loop_iter (f := run1 (k + 2) 64 0 160 ref06Right2_L9) (ref06Right2_S9 i d.nodes d.most d.room y_1.kind y_1.modeF y_1.owner y_1.links y_1.openF y_1.up y_1.data y_1.names) (ref06Right2_b9 i d.nodes d.most d.room y_1.kind y_1.modeF y_1.owner y_1.links y_1.openF y_1.up y_1.data y_1.names) (ref06Right2_t9 k i d.nodes d.most d.room y_1.kind y_1.modeF y_1.owner y_1.links y_1.openF y_1.up y_1.data y_1.names) LF (0 : Int) _ (stOf (goStop (k + 2) 64 0 160 (adv [([], 1, 3, .elem [(pI y_1.kind), (pI y_1.modeF), (pI y_1.owner), (pI y_1.links), (pI y_1.openF), (pI y_1.up), (pS y_1.data), (.list 2 false (y_1.names.map entP))]), ([], 2, 2, .eq (pB false)), ([], 4, 3, .eq (pB false)), ([], 4, 8, .eq (pB false)), ([], 4, 13, .eq (pB false)), ([], 4, 18, .eq (pB false)), ([], 4, 22, .eq (pB false)), ([], 6, 3, .eq (pB true)), ([], 6, 6, .eq (pI (y_1.names.length : Int))), ([], 6, 9, .eq (pB false)), ([], 6, 13, .eq (pB false)), ([], 6, 22, .ret (pB r_1)), ([], 6, 24, .eq (pB false))]) 9 (codeOf Try.f64) (argS 64 [(.agg [(.list 8 false (d.nodes.map NodeD.c)), (pI d.most), (pI d.room)]), (pI i)]))) q13 (by kernel_rfl)
                      unfold ref06Right2_b9 at q14
                      try dsimp only at q14
                      rcases bif_some q14 with ⟨q18, q14⟩ | ⟨q18, q14⟩
                      · skip
                        obtain ⟨y_2, q19, q14⟩ := bnd_some q14
                        obtain ⟨⟨r_2, r_3⟩, q20, q14⟩ := bnd_some q14
                        try dsimp only at q14
                        rcases bif_some q14 with ⟨q21, q14⟩ | ⟨q21, q14⟩
                        · skip
                          cases q14
                          try dsimp only at h
                          have q16 := run_go (k := (k + 2)) (f := 64) (r0 := 0) (nt := 160) (c := ref06Right2_L9) (σ := (ref06Right2_S9 i d.nodes d.most d.room y_1.kind y_1.modeF y_1.owner y_1.links y_1.openF y_1.up y_1.data y_1.names v_1)) (adv [([], 9, 3, .eq (pI (y_1.names.length : Int))), ([], 9, 4, .eq (pB true)), ([], 11, 4, .elem [(pS y_2.name), (pI y_2.ino)]), ([], 11, 7, .ret (.tup [(.agg [(pI r_2.kind), (pI r_2.modeF), (pI r_2.owner), (pI r_2.links), (pI r_2.openF), (pI r_2.up), (pS r_2.data), (.list 2 false (r_2.names.map entP))]), (pB r_3)])), ([], 12, 2, .eq (pB true))]) (ex := .ret) (by kernel_rfl) (by kernel_rfl) (allC (len_ob (rfl : (y_1.names.map entP) = y_1.names.map entP)) (allC (cg q18) (allC (gt_list (c := entP) q19) (allC (gt_list (c := entP) q19) (allC (ref06Get_ok (k + 1) d y_2.ino _ q20) (allC (ref06Get_ok (k + 1) d y_2.ino _ q20) (allC (cg q21) allN)))))))
                          have q17 := q15 _ _ (by intro e; cases e) q16
                          obtain rfl := Option.some.inj h
                          exact ret_go (k := (k + 2)) Try.func64 Try.ntmps64 (by kernel_rfl) (by kernel_rfl) (Nat.le_of_ble_eq_true rfl) (adv [([], 1, 3, .elem [(pI y_1.kind), (pI y_1.modeF), (pI y_1.owner), (pI y_1.links), (pI y_1.openF), (pI y_1.up), (pS y_1.data), (.list 2 false (y_1.names.map entP))]), ([], 2, 2, .eq (pB false)), ([], 4, 3, .eq (pB false)), ([], 4, 8, .eq (pB false)), ([], 4, 13, .eq (pB false)), ([], 4, 18, .eq (pB false)), ([], 4, 22, .eq (pB false)), ([], 6, 3, .eq (pB true)), ([], 6, 6, .eq (pI (y_1.names.length : Int))), ([], 6, 9, .eq (pB false)), ([], 6, 13, .eq (pB false)), ([], 6, 22, .ret (pB r_1)), ([], 6, 24, .eq (pB false))] [([], 9, .ret, (stOf (go (k + 2) 64 0 160 (adv [([], 9, 3, .eq (pI (y_1.names.length : Int))), ([], 9, 4, .eq (pB true)), ([], 11, 4, .elem [(pS y_2.name), (pI y_2.ino)]), ([], 11, 7, .ret (.tup [(.agg [(pI r_2.kind), (pI r_2.modeF), (pI r_2.owner), (pI r_2.links), (pI r_2.openF), (pI r_2.up), (pS r_2.data), (.list 2 false (r_2.names.map entP))]), (pB r_3)])), ([], 12, 2, .eq (pB true))]) ref06Right2_L9 (ref06Right2_S9 i d.nodes d.most d.room y_1.kind y_1.modeF y_1.owner y_1.links y_1.openF y_1.up y_1.data y_1.names v_1))))]) (ex := .ret) (r := (pB false)) (by kernel_rfl) rfl (by kernel_rfl) (allC (gt_list (c := NodeD.c) q1) (allC (cg q2) (allC (cg q3) (allC (cg q4) (allC (cg q5) (allC (cg q6) (allC (cg q7) (allC (cg q8) (allC (len_ob (rfl : (y_1.names.map entP) = y_1.names.map entP)) (allC (cg q9) (allC (cg q10) (allC (ref05Sorted_ok (k + 1) y_1.names _ q11) (allC (cg q12) (allC q17 allN)))))))))))))) (by kernel_rfl) allN
                        · skip
                          obtain ⟨y_3, q22, q14⟩ := bnd_some q14
                          rcases bif_some q14 with ⟨q23, q14⟩ | ⟨q23, q14⟩
                          · skip
                            cases q14
                            try dsimp only at h
                            have q16 := run_go (k := (k + 2)) (f := 64) (r0 := 0) (nt := 160) (c := ref06Right2_L9) (σ := (ref06Right2_S9 i d.nodes d.most d.room y_1.kind y_1.modeF y_1.owner y_1.links y_1.openF y_1.up y_1.data y_1.names v_1)) (adv [([], 9, 3, .eq (pI (y_1.names.length : Int))), ([], 9, 4, .eq (pB true)), ([], 11, 4, .elem [(pS y_2.name), (pI y_2.ino)]), ([], 11, 7, .ret (.tup [(.agg [(pI r_2.kind), (pI r_2.modeF), (pI r_2.owner), (pI r_2.links), (pI r_2.openF), (pI r_2.up), (pS r_2.data), (.list 2 false (r_2.names.map entP))]), (pB r_3)])), ([], 12, 2, .eq (pB false)), ([], 12, 6, .elem [(pS y_3.name), (pI y_3.ino)]), ([], 12, 10, .eq (pB true))]) (ex := .ret) (by kernel_rfl) (by kernel_rfl) (allC (len_ob (rfl : (y_1.names.map entP) = y_1.names.map entP)) (allC (cg q18) (allC (gt_list (c := entP) q19) (allC (gt_list (c := entP) q19) (allC (ref06Get_ok (k + 1) d y_2.ino _ q20) (allC (ref06Get_ok (k + 1) d y_2.ino _ q20) (allC (cg q21) (allC (gt_list (c := entP) q22) (allC (cg q23) allN)))))))))
                            have q17 := q15 _ _ (by intro e; cases e) q16
                            obtain rfl := Option.some.inj h
                            exact ret_go (k := (k + 2)) Try.func64 Try.ntmps64 (by kernel_rfl) (by kernel_rfl) (Nat.le_of_ble_eq_true rfl) (adv [([], 1, 3, .elem [(pI y_1.kind), (pI y_1.modeF), (pI y_1.owner), (pI y_1.links), (pI y_1.openF), (pI y_1.up), (pS y_1.data), (.list 2 false (y_1.names.map entP))]), ([], 2, 2, .eq (pB false)), ([], 4, 3, .eq (pB false)), ([], 4, 8, .eq (pB false)), ([], 4, 13, .eq (pB false)), ([], 4, 18, .eq (pB false)), ([], 4, 22, .eq (pB false)), ([], 6, 3, .eq (pB true)), ([], 6, 6, .eq (pI (y_1.names.length : Int))), ([], 6, 9, .eq (pB false)), ([], 6, 13, .eq (pB false)), ([], 6, 22, .ret (pB r_1)), ([], 6, 24, .eq (pB false))] [([], 9, .ret, (stOf (go (k + 2) 64 0 160 (adv [([], 9, 3, .eq (pI (y_1.names.length : Int))), ([], 9, 4, .eq (pB true)), ([], 11, 4, .elem [(pS y_2.name), (pI y_2.ino)]), ([], 11, 7, .ret (.tup [(.agg [(pI r_2.kind), (pI r_2.modeF), (pI r_2.owner), (pI r_2.links), (pI r_2.openF), (pI r_2.up), (pS r_2.data), (.list 2 false (r_2.names.map entP))]), (pB r_3)])), ([], 12, 2, .eq (pB false)), ([], 12, 6, .elem [(pS y_3.name), (pI y_3.ino)]), ([], 12, 10, .eq (pB true))]) ref06Right2_L9 (ref06Right2_S9 i d.nodes d.most d.room y_1.kind y_1.modeF y_1.owner y_1.links y_1.openF y_1.up y_1.data y_1.names v_1))))]) (ex := .ret) (r := (pB false)) (by kernel_rfl) rfl (by kernel_rfl) (allC (gt_list (c := NodeD.c) q1) (allC (cg q2) (allC (cg q3) (allC (cg q4) (allC (cg q5) (allC (cg q6) (allC (cg q7) (allC (cg q8) (allC (len_ob (rfl : (y_1.names.map entP) = y_1.names.map entP)) (allC (cg q9) (allC (cg q10) (allC (ref05Sorted_ok (k + 1) y_1.names _ q11) (allC (cg q12) (allC q17 allN)))))))))))))) (by kernel_rfl) allN
                          · skip
                            cases q14
                      · skip
                        cases q14
                        try dsimp only at h
                        have q16 := run_go (k := (k + 2)) (f := 64) (r0 := 0) (nt := 160) (c := ref06Right2_L9) (σ := (ref06Right2_S9 i d.nodes d.most d.room y_1.kind y_1.modeF y_1.owner y_1.links y_1.openF y_1.up y_1.data y_1.names v_1)) (adv [([], 9, 3, .eq (pI (y_1.names.length : Int))), ([], 9, 4, .eq (pB false))]) (ex := (.exit 0)) (by kernel_rfl) (by kernel_rfl) (allC (len_ob (rfl : (y_1.names.map entP) = y_1.names.map entP)) (allC (cg q18) allN))
                        have q17 := q15 _ _ (by intro e; cases e) q16
                        obtain ⟨⟨r_4, r_5⟩, q24, h⟩ := bnd_some h
                        try dsimp only at h
                        rcases bif_some h with ⟨q25, h⟩ | ⟨q25, h⟩
                        · skip
                          rcases bif_some h with ⟨q26, h⟩ | ⟨q26, h⟩
                          · skip
                            rcases bif_some h with ⟨q27, h⟩ | ⟨q27, h⟩
                            · skip
                              obtain rfl := Option.some.inj h
                              exact ret_go (k := (k + 2)) Try.func64 Try.ntmps64 (by kernel_rfl) (by kernel_rfl) (Nat.le_of_ble_eq_true rfl) (adv [([], 1, 3, .elem [(pI y_1.kind), (pI y_1.modeF), (pI y_1.owner), (pI y_1.links), (pI y_1.openF), (pI y_1.up), (pS y_1.data), (.list 2 false (y_1.names.map entP))]), ([], 2, 2, .eq (pB false)), ([], 4, 3, .eq (pB false)), ([], 4, 8, .eq (pB false)), ([], 4, 13, .eq (pB false)), ([], 4, 18, .eq (pB false)), ([], 4, 22, .eq (pB false)), ([], 6, 3, .eq (pB true)), ([], 6, 6, .eq (pI (y_1.names.length : Int))), ([], 6, 9, .eq (pB false)), ([], 6, 13, .eq (pB false)), ([], 6, 22, .ret (pB r_1)), ([], 6, 24, .eq (pB false)), ([], 14, 2, .ret (.tup [(pI r_4), (pI r_5)])), ([], 15, 1, .eq (pB true)), ([], 16, 3, .eq (pB true)), ([], 16, 8, .eq (pB true))] [([], 9, (.exit 0), (stOf (go (k + 2) 64 0 160 (adv [([], 9, 3, .eq (pI (y_1.names.length : Int))), ([], 9, 4, .eq (pB false))]) ref06Right2_L9 (ref06Right2_S9 i d.nodes d.most d.room y_1.kind y_1.modeF y_1.owner y_1.links y_1.openF y_1.up y_1.data y_1.names v_1))))]) (ex := .ret) (r := (pB (y_1.links == (1 : Int)))) (by kernel_rfl) rfl (by kernel_rfl) (allC (gt_list (c := NodeD.c) q1) (allC (cg q2) (allC (cg q3) (allC (cg q4) (allC (cg q5) (allC (cg q6) (allC (cg q7) (allC (cg q8) (allC (len_ob (rfl : (y_1.names.map entP) = y_1.names.map entP)) (allC (cg q9) (allC (cg q10) (allC (ref05Sorted_ok (k + 1) y_1.names _ q11) (allC (cg q12) (allC q17 (allC (ref06Names_ok (k + 1) d i _ q24) (allC (cg q25) (allC (cg q26) (allC (cg q27) allN)))))))))))))))))) (by kernel_rfl) allN
                            · skip
                              obtain rfl := Option.some.inj h
                              exact ret_go (k := (k + 2)) Try.func64 Try.ntmps64 (by kernel_rfl) (by kernel_rfl) (Nat.le_of_ble_eq_true rfl) (adv [([], 1, 3, .elem [(pI y_1.kind), (pI y_1.modeF), (pI y_1.owner), (pI y_1.links), (pI y_1.openF), (pI y_1.up), (pS y_1.data), (.list 2 false (y_1.names.map entP))]), ([], 2, 2, .eq (pB false)), ([], 4, 3, .eq (pB false)), ([], 4, 8, .eq (pB false)), ([], 4, 13, .eq (pB false)), ([], 4, 18, .eq (pB false)), ([], 4, 22, .eq (pB false)), ([], 6, 3, .eq (pB true)), ([], 6, 6, .eq (pI (y_1.names.length : Int))), ([], 6, 9, .eq (pB false)), ([], 6, 13, .eq (pB false)), ([], 6, 22, .ret (pB r_1)), ([], 6, 24, .eq (pB false)), ([], 14, 2, .ret (.tup [(pI r_4), (pI r_5)])), ([], 15, 1, .eq (pB true)), ([], 16, 3, .eq (pB true)), ([], 16, 8, .eq (pB false))] [([], 9, (.exit 0), (stOf (go (k + 2) 64 0 160 (adv [([], 9, 3, .eq (pI (y_1.names.length : Int))), ([], 9, 4, .eq (pB false))]) ref06Right2_L9 (ref06Right2_S9 i d.nodes d.most d.room y_1.kind y_1.modeF y_1.owner y_1.links y_1.openF y_1.up y_1.data y_1.names v_1))))]) (ex := .ret) (r := (pB false)) (by kernel_rfl) rfl (by kernel_rfl) (allC (gt_list (c := NodeD.c) q1) (allC (cg q2) (allC (cg q3) (allC (cg q4) (allC (cg q5) (allC (cg q6) (allC (cg q7) (allC (cg q8) (allC (len_ob (rfl : (y_1.names.map entP) = y_1.names.map entP)) (allC (cg q9) (allC (cg q10) (allC (ref05Sorted_ok (k + 1) y_1.names _ q11) (allC (cg q12) (allC q17 (allC (ref06Names_ok (k + 1) d i _ q24) (allC (cg q25) (allC (cg q26) (allC (cg q27) allN)))))))))))))))))) (by kernel_rfl) allN
                          · skip
                            obtain rfl := Option.some.inj h
                            exact ret_go (k := (k + 2)) Try.func64 Try.ntmps64 (by kernel_rfl) (by kernel_rfl) (Nat.le_of_ble_eq_true rfl) (adv [([], 1, 3, .elem [(pI y_1.kind), (pI y_1.modeF), (pI y_1.owner), (pI y_1.links), (pI y_1.openF), (pI y_1.up), (pS y_1.data), (.list 2 false (y_1.names.map entP))]), ([], 2, 2, .eq (pB false)), ([], 4, 3, .eq (pB false)), ([], 4, 8, .eq (pB false)), ([], 4, 13, .eq (pB false)), ([], 4, 18, .eq (pB false)), ([], 4, 22, .eq (pB false)), ([], 6, 3, .eq (pB true)), ([], 6, 6, .eq (pI (y_1.names.length : Int))), ([], 6, 9, .eq (pB false)), ([], 6, 13, .eq (pB false)), ([], 6, 22, .ret (pB r_1)), ([], 6, 24, .eq (pB false)), ([], 14, 2, .ret (.tup [(pI r_4), (pI r_5)])), ([], 15, 1, .eq (pB true)), ([], 16, 3, .eq (pB false))] [([], 9, (.exit 0), (stOf (go (k + 2) 64 0 160 (adv [([], 9, 3, .eq (pI (y_1.names.length : Int))), ([], 9, 4, .eq (pB false))]) ref06Right2_L9 (ref06Right2_S9 i d.nodes d.most d.room y_1.kind y_1.modeF y_1.owner y_1.links y_1.openF y_1.up y_1.data y_1.names v_1))))]) (ex := .ret) (r := (pB false)) (by kernel_rfl) rfl (by kernel_rfl) (allC (gt_list (c := NodeD.c) q1) (allC (cg q2) (allC (cg q3) (allC (cg q4) (allC (cg q5) (allC (cg q6) (allC (cg q7) (allC (cg q8) (allC (len_ob (rfl : (y_1.names.map entP) = y_1.names.map entP)) (allC (cg q9) (allC (cg q10) (allC (ref05Sorted_ok (k + 1) y_1.names _ q11) (allC (cg q12) (allC q17 (allC (ref06Names_ok (k + 1) d i _ q24) (allC (cg q25) (allC (cg q26) allN))))))))))))))))) (by kernel_rfl) allN
                        · skip
                          rcases bif_some h with ⟨q26, h⟩ | ⟨q26, h⟩
                          · skip
                            obtain rfl := Option.some.inj h
                            exact ret_go (k := (k + 2)) Try.func64 Try.ntmps64 (by kernel_rfl) (by kernel_rfl) (Nat.le_of_ble_eq_true rfl) (adv [([], 1, 3, .elem [(pI y_1.kind), (pI y_1.modeF), (pI y_1.owner), (pI y_1.links), (pI y_1.openF), (pI y_1.up), (pS y_1.data), (.list 2 false (y_1.names.map entP))]), ([], 2, 2, .eq (pB false)), ([], 4, 3, .eq (pB false)), ([], 4, 8, .eq (pB false)), ([], 4, 13, .eq (pB false)), ([], 4, 18, .eq (pB false)), ([], 4, 22, .eq (pB false)), ([], 6, 3, .eq (pB true)), ([], 6, 6, .eq (pI (y_1.names.length : Int))), ([], 6, 9, .eq (pB false)), ([], 6, 13, .eq (pB false)), ([], 6, 22, .ret (pB r_1)), ([], 6, 24, .eq (pB false)), ([], 14, 2, .ret (.tup [(pI r_4), (pI r_5)])), ([], 15, 1, .eq (pB false)), ([], 17, 4, .eq (pB true))] [([], 9, (.exit 0), (stOf (go (k + 2) 64 0 160 (adv [([], 9, 3, .eq (pI (y_1.names.length : Int))), ([], 9, 4, .eq (pB false))]) ref06Right2_L9 (ref06Right2_S9 i d.nodes d.most d.room y_1.kind y_1.modeF y_1.owner y_1.links y_1.openF y_1.up y_1.data y_1.names v_1))))]) (ex := .ret) (r := (pB false)) (by kernel_rfl) rfl (by kernel_rfl) (allC (gt_list (c := NodeD.c) q1) (allC (cg q2) (allC (cg q3) (allC (cg q4) (allC (cg q5) (allC (cg q6) (allC (cg q7) (allC (cg q8) (allC (len_ob (rfl : (y_1.names.map entP) = y_1.names.map entP)) (allC (cg q9) (allC (cg q10) (allC (ref05Sorted_ok (k + 1) y_1.names _ q11) (allC (cg q12) (allC q17 (allC (ref06Names_ok (k + 1) d i _ q24) (allC (cg q25) (allC (cg q26) allN))))))))))))))))) (by kernel_rfl) allN
                          · skip
                            rcases bif_some h with ⟨q27, h⟩ | ⟨q27, h⟩
                            · skip
                              rcases bif_some h with ⟨q28, h⟩ | ⟨q28, h⟩
                              · skip
                                obtain rfl := Option.some.inj h
                                exact ret_go (k := (k + 2)) Try.func64 Try.ntmps64 (by kernel_rfl) (by kernel_rfl) (Nat.le_of_ble_eq_true rfl) (adv [([], 1, 3, .elem [(pI y_1.kind), (pI y_1.modeF), (pI y_1.owner), (pI y_1.links), (pI y_1.openF), (pI y_1.up), (pS y_1.data), (.list 2 false (y_1.names.map entP))]), ([], 2, 2, .eq (pB false)), ([], 4, 3, .eq (pB false)), ([], 4, 8, .eq (pB false)), ([], 4, 13, .eq (pB false)), ([], 4, 18, .eq (pB false)), ([], 4, 22, .eq (pB false)), ([], 6, 3, .eq (pB true)), ([], 6, 6, .eq (pI (y_1.names.length : Int))), ([], 6, 9, .eq (pB false)), ([], 6, 13, .eq (pB false)), ([], 6, 22, .ret (pB r_1)), ([], 6, 24, .eq (pB false)), ([], 14, 2, .ret (.tup [(pI r_4), (pI r_5)])), ([], 15, 1, .eq (pB false)), ([], 17, 4, .eq (pB false)), ([], 17, 7, .eq (pB true)), ([], 17, 12, .eq (pB true))] [([], 9, (.exit 0), (stOf (go (k + 2) 64 0 160 (adv [([], 9, 3, .eq (pI (y_1.names.length : Int))), ([], 9, 4, .eq (pB false))]) ref06Right2_L9 (ref06Right2_S9 i d.nodes d.most d.room y_1.kind y_1.modeF y_1.owner y_1.links y_1.openF y_1.up y_1.data y_1.names v_1))))]) (ex := .ret) (r := (pB false)) (by kernel_rfl) rfl (by kernel_rfl) (allC (gt_list (c := NodeD.c) q1) (allC (cg q2) (allC (cg q3) (allC (cg q4) (allC (cg q5) (allC (cg q6) (allC (cg q7) (allC (cg q8) (allC (len_ob (rfl : (y_1.names.map entP) = y_1.names.map entP)) (allC (cg q9) (allC (cg q10) (allC (ref05Sorted_ok (k + 1) y_1.names _ q11) (allC (cg q12) (allC q17 (allC (ref06Names_ok (k + 1) d i _ q24) (allC (cg q25) (allC (cg q26) (allC (cg q27) (allC (cg q28) allN))))))))))))))))))) (by kernel_rfl) allN
                              · skip
                                rcases bif_some h with ⟨q29, h⟩ | ⟨q29, h⟩
                                · skip
                                  obtain rfl := Option.some.inj h
                                  exact ret_go (k := (k + 2)) Try.func64 Try.ntmps64 (by kernel_rfl) (by kernel_rfl) (Nat.le_of_ble_eq_true rfl) (adv [([], 1, 3, .elem [(pI y_1.kind), (pI y_1.modeF), (pI y_1.owner), (pI y_1.links), (pI y_1.openF), (pI y_1.up), (pS y_1.data), (.list 2 false (y_1.names.map entP))]), ([], 2, 2, .eq (pB false)), ([], 4, 3, .eq (pB false)), ([], 4, 8, .eq (pB false)), ([], 4, 13, .eq (pB false)), ([], 4, 18, .eq (pB false)), ([], 4, 22, .eq (pB false)), ([], 6, 3, .eq (pB true)), ([], 6, 6, .eq (pI (y_1.names.length : Int))), ([], 6, 9, .eq (pB false)), ([], 6, 13, .eq (pB false)), ([], 6, 22, .ret (pB r_1)), ([], 6, 24, .eq (pB false)), ([], 14, 2, .ret (.tup [(pI r_4), (pI r_5)])), ([], 15, 1, .eq (pB false)), ([], 17, 4, .eq (pB false)), ([], 17, 7, .eq (pB true)), ([], 17, 12, .eq (pB false)), ([], 19, 2, .eq (pB true))] [([], 9, (.exit 0), (stOf (go (k + 2) 64 0 160 (adv [([], 9, 3, .eq (pI (y_1.names.length : Int))), ([], 9, 4, .eq (pB false))]) ref06Right2_L9 (ref06Right2_S9 i d.nodes d.most d.room y_1.kind y_1.modeF y_1.owner y_1.links y_1.openF y_1.up y_1.data y_1.names v_1))))]) (ex := .ret) (r := (pB true)) (by kernel_rfl) rfl (by kernel_rfl) (allC (gt_list (c := NodeD.c) q1) (allC (cg q2) (allC (cg q3) (allC (cg q4) (allC (cg q5) (allC (cg q6) (allC (cg q7) (allC (cg q8) (allC (len_ob (rfl : (y_1.names.map entP) = y_1.names.map entP)) (allC (cg q9) (allC (cg q10) (allC (ref05Sorted_ok (k + 1) y_1.names _ q11) (allC (cg q12) (allC q17 (allC (ref06Names_ok (k + 1) d i _ q24) (allC (cg q25) (allC (cg q26) (allC (cg q27) (allC (cg q28) (allC (cg q29) allN)))))))))))))))))))) (by kernel_rfl) allN
                                · skip
                                  rcases bif_some h with ⟨q30, h⟩ | ⟨q30, h⟩
                                  · skip
                                    rcases bif_some h with ⟨q31, h⟩ | ⟨q31, h⟩
                                    · skip
                                      obtain rfl := Option.some.inj h
                                      exact ret_go (k := (k + 2)) Try.func64 Try.ntmps64 (by kernel_rfl) (by kernel_rfl) (Nat.le_of_ble_eq_true rfl) (adv [([], 1, 3, .elem [(pI y_1.kind), (pI y_1.modeF), (pI y_1.owner), (pI y_1.links), (pI y_1.openF), (pI y_1.up), (pS y_1.data), (.list 2 false (y_1.names.map entP))]), ([], 2, 2, .eq (pB false)), ([], 4, 3, .eq (pB false)), ([], 4, 8, .eq (pB false)), ([], 4, 13, .eq (pB false)), ([], 4, 18, .eq (pB false)), ([], 4, 22, .eq (pB false)), ([], 6, 3, .eq (pB true)), ([], 6, 6, .eq (pI (y_1.names.length : Int))), ([], 6, 9, .eq (pB false)), ([], 6, 13, .eq (pB false)), ([], 6, 22, .ret (pB r_1)), ([], 6, 24, .eq (pB false)), ([], 14, 2, .ret (.tup [(pI r_4), (pI r_5)])), ([], 15, 1, .eq (pB false)), ([], 17, 4, .eq (pB false)), ([], 17, 7, .eq (pB true)), ([], 17, 12, .eq (pB false)), ([], 19, 2, .eq (pB false)), ([], 21, 1, .eq (pB true)), ([], 22, 2, .eq (pI (y_1.names.length : Int))), ([], 22, 4, .eq (pB true))] [([], 9, (.exit 0), (stOf (go (k + 2) 64 0 160 (adv [([], 9, 3, .eq (pI (y_1.names.length : Int))), ([], 9, 4, .eq (pB false))]) ref06Right2_L9 (ref06Right2_S9 i d.nodes d.most d.room y_1.kind y_1.modeF y_1.owner y_1.links y_1.openF y_1.up y_1.data y_1.names v_1))))]) (ex := .ret) (r := (pB (y_1.up == (0 : Int)))) (by kernel_rfl) rfl (by kernel_rfl) (allC (gt_list (c := NodeD.c) q1) (allC (cg q2) (allC (cg q3) (allC (cg q4) (allC (cg q5) (allC (cg q6) (allC (cg q7) (allC (cg q8) (allC (len_ob (rfl : (y_1.names.map entP) = y_1.names.map entP)) (allC (cg q9) (allC (cg q10) (allC (ref05Sorted_ok (k + 1) y_1.names _ q11) (allC (cg q12) (allC q17 (allC (ref06Names_ok (k + 1) d i _ q24) (allC (cg q25) (allC (cg q26) (allC (cg q27) (allC (cg q28) (allC (cg q29) (allC (cg q30) (allC (len_ob (rfl : (y_1.names.map entP) = y_1.names.map entP)) (allC (cg q31) allN))))))))))))))))))))))) (by kernel_rfl) allN
                                    · skip
                                      obtain rfl := Option.some.inj h
                                      exact ret_go (k := (k + 2)) Try.func64 Try.ntmps64 (by kernel_rfl) (by kernel_rfl) (Nat.le_of_ble_eq_true rfl) (adv [([], 1, 3, .elem [(pI y_1.kind), (pI y_1.modeF), (pI y_1.owner), (pI y_1.links), (pI y_1.openF), (pI y_1.up), (pS y_1.data), (.list 2 false (y_1.names.map entP))]), ([], 2, 2, .eq (pB false)), ([], 4, 3, .eq (pB false)), ([], 4, 8, .eq (pB false)), ([], 4, 13, .eq (pB false)), ([], 4, 18, .eq (pB false)), ([], 4, 22, .eq (pB false)), ([], 6, 3, .eq (pB true)), ([], 6, 6, .eq (pI (y_1.names.length : Int))), ([], 6, 9, .eq (pB false)), ([], 6, 13, .eq (pB false)), ([], 6, 22, .ret (pB r_1)), ([], 6, 24, .eq (pB false)), ([], 14, 2, .ret (.tup [(pI r_4), (pI r_5)])), ([], 15, 1, .eq (pB false)), ([], 17, 4, .eq (pB false)), ([], 17, 7, .eq (pB true)), ([], 17, 12, .eq (pB false)), ([], 19, 2, .eq (pB false)), ([], 21, 1, .eq (pB true)), ([], 22, 2, .eq (pI (y_1.names.length : Int))), ([], 22, 4, .eq (pB false))] [([], 9, (.exit 0), (stOf (go (k + 2) 64 0 160 (adv [([], 9, 3, .eq (pI (y_1.names.length : Int))), ([], 9, 4, .eq (pB false))]) ref06Right2_L9 (ref06Right2_S9 i d.nodes d.most d.room y_1.kind y_1.modeF y_1.owner y_1.links y_1.openF y_1.up y_1.data y_1.names v_1))))]) (ex := .ret) (r := (pB false)) (by kernel_rfl) rfl (by kernel_rfl) (allC (gt_list (c := NodeD.c) q1) (allC (cg q2) (allC (cg q3) (allC (cg q4) (allC (cg q5) (allC (cg q6) (allC (cg q7) (allC (cg q8) (allC (len_ob (rfl : (y_1.names.map entP) = y_1.names.map entP)) (allC (cg q9) (allC (cg q10) (allC (ref05Sorted_ok (k + 1) y_1.names _ q11) (allC (cg q12) (allC q17 (allC (ref06Names_ok (k + 1) d i _ q24) (allC (cg q25) (allC (cg q26) (allC (cg q27) (allC (cg q28) (allC (cg q29) (allC (cg q30) (allC (len_ob (rfl : (y_1.names.map entP) = y_1.names.map entP)) (allC (cg q31) allN))))))))))))))))))))))) (by kernel_rfl) allN
                                  · skip
                                    rcases bif_some h with ⟨q31, h⟩ | ⟨q31, h⟩
                                    · skip
                                      rcases bif_some h with ⟨q32, h⟩ | ⟨q32, h⟩
                                      · skip
                                        obtain ⟨r_6, q33, h⟩ := bnd_some h
                                        obtain rfl := Option.some.inj h
                                        exact ret_go (k := (k + 2)) Try.func64 Try.ntmps64 (by kernel_rfl) (by kernel_rfl) (Nat.le_of_ble_eq_true rfl) (adv [([], 1, 3, .elem [(pI y_1.kind), (pI y_1.modeF), (pI y_1.owner), (pI y_1.links), (pI y_1.openF), (pI y_1.up), (pS y_1.data), (.list 2 false (y_1.names.map entP))]), ([], 2, 2, .eq (pB false)), ([], 4, 3, .eq (pB false)), ([], 4, 8, .eq (pB false)), ([], 4, 13, .eq (pB false)), ([], 4, 18, .eq (pB false)), ([], 4, 22, .eq (pB false)), ([], 6, 3, .eq (pB true)), ([], 6, 6, .eq (pI (y_1.names.length : Int))), ([], 6, 9, .eq (pB false)), ([], 6, 13, .eq (pB false)), ([], 6, 22, .ret (pB r_1)), ([], 6, 24, .eq (pB false)), ([], 14, 2, .ret (.tup [(pI r_4), (pI r_5)])), ([], 15, 1, .eq (pB false)), ([], 17, 4, .eq (pB false)), ([], 17, 7, .eq (pB true)), ([], 17, 12, .eq (pB false)), ([], 19, 2, .eq (pB false)), ([], 21, 1, .eq (pB false)), ([], 23, 2, .eq (pB true)), ([], 23, 8, .eq (pB true)), ([], 23, 11, .ret (pB r_6))] [([], 9, (.exit 0), (stOf (go (k + 2) 64 0 160 (adv [([], 9, 3, .eq (pI (y_1.names.length : Int))), ([], 9, 4, .eq (pB false))]) ref06Right2_L9 (ref06Right2_S9 i d.nodes d.most d.room y_1.kind y_1.modeF y_1.owner y_1.links y_1.openF y_1.up y_1.data y_1.names v_1))))]) (ex := .ret) (r := (pB r_6)) (by kernel_rfl) rfl (by kernel_rfl) (allC (gt_list (c := NodeD.c) q1) (allC (cg q2) (allC (cg q3) (allC (cg q4) (allC (cg q5) (allC (cg q6) (allC (cg q7) (allC (cg q8) (allC (len_ob (rfl : (y_1.names.map entP) = y_1.names.map entP)) (allC (cg q9) (allC (cg q10) (allC (ref05Sorted_ok (k + 1) y_1.names _ q11) (allC (cg q12) (allC q17 (allC (ref06Names_ok (k + 1) d i _ q24) (allC (cg q25) (allC (cg q26) (allC (cg q27) (allC (cg q28) (allC (cg q29) (allC (cg q30) (allC (cg q31) (allC (cg q32) (allC (ref06Rooted_ok k d i _ q33) allN)))))))))))))))))))))))) (by kernel_rfl) allN
                                      · skip
                                        obtain rfl := Option.some.inj h
                                        exact ret_go (k := (k + 2)) Try.func64 Try.ntmps64 (by kernel_rfl) (by kernel_rfl) (Nat.le_of_ble_eq_true rfl) (adv [([], 1, 3, .elem [(pI y_1.kind), (pI y_1.modeF), (pI y_1.owner), (pI y_1.links), (pI y_1.openF), (pI y_1.up), (pS y_1.data), (.list 2 false (y_1.names.map entP))]), ([], 2, 2, .eq (pB false)), ([], 4, 3, .eq (pB false)), ([], 4, 8, .eq (pB false)), ([], 4, 13, .eq (pB false)), ([], 4, 18, .eq (pB false)), ([], 4, 22, .eq (pB false)), ([], 6, 3, .eq (pB true)), ([], 6, 6, .eq (pI (y_1.names.length : Int))), ([], 6, 9, .eq (pB false)), ([], 6, 13, .eq (pB false)), ([], 6, 22, .ret (pB r_1)), ([], 6, 24, .eq (pB false)), ([], 14, 2, .ret (.tup [(pI r_4), (pI r_5)])), ([], 15, 1, .eq (pB false)), ([], 17, 4, .eq (pB false)), ([], 17, 7, .eq (pB true)), ([], 17, 12, .eq (pB false)), ([], 19, 2, .eq (pB false)), ([], 21, 1, .eq (pB false)), ([], 23, 2, .eq (pB true)), ([], 23, 8, .eq (pB false))] [([], 9, (.exit 0), (stOf (go (k + 2) 64 0 160 (adv [([], 9, 3, .eq (pI (y_1.names.length : Int))), ([], 9, 4, .eq (pB false))]) ref06Right2_L9 (ref06Right2_S9 i d.nodes d.most d.room y_1.kind y_1.modeF y_1.owner y_1.links y_1.openF y_1.up y_1.data y_1.names v_1))))]) (ex := .ret) (r := (pB false)) (by kernel_rfl) rfl (by kernel_rfl) (allC (gt_list (c := NodeD.c) q1) (allC (cg q2) (allC (cg q3) (allC (cg q4) (allC (cg q5) (allC (cg q6) (allC (cg q7) (allC (cg q8) (allC (len_ob (rfl : (y_1.names.map entP) = y_1.names.map entP)) (allC (cg q9) (allC (cg q10) (allC (ref05Sorted_ok (k + 1) y_1.names _ q11) (allC (cg q12) (allC q17 (allC (ref06Names_ok (k + 1) d i _ q24) (allC (cg q25) (allC (cg q26) (allC (cg q27) (allC (cg q28) (allC (cg q29) (allC (cg q30) (allC (cg q31) (allC (cg q32) allN))))))))))))))))))))))) (by kernel_rfl) allN
                                    · skip
                                      obtain rfl := Option.some.inj h
                                      exact ret_go (k := (k + 2)) Try.func64 Try.ntmps64 (by kernel_rfl) (by kernel_rfl) (Nat.le_of_ble_eq_true rfl) (adv [([], 1, 3, .elem [(pI y_1.kind), (pI y_1.modeF), (pI y_1.owner), (pI y_1.links), (pI y_1.openF), (pI y_1.up), (pS y_1.data), (.list 2 false (y_1.names.map entP))]), ([], 2, 2, .eq (pB false)), ([], 4, 3, .eq (pB false)), ([], 4, 8, .eq (pB false)), ([], 4, 13, .eq (pB false)), ([], 4, 18, .eq (pB false)), ([], 4, 22, .eq (pB false)), ([], 6, 3, .eq (pB true)), ([], 6, 6, .eq (pI (y_1.names.length : Int))), ([], 6, 9, .eq (pB false)), ([], 6, 13, .eq (pB false)), ([], 6, 22, .ret (pB r_1)), ([], 6, 24, .eq (pB false)), ([], 14, 2, .ret (.tup [(pI r_4), (pI r_5)])), ([], 15, 1, .eq (pB false)), ([], 17, 4, .eq (pB false)), ([], 17, 7, .eq (pB true)), ([], 17, 12, .eq (pB false)), ([], 19, 2, .eq (pB false)), ([], 21, 1, .eq (pB false)), ([], 23, 2, .eq (pB false))] [([], 9, (.exit 0), (stOf (go (k + 2) 64 0 160 (adv [([], 9, 3, .eq (pI (y_1.names.length : Int))), ([], 9, 4, .eq (pB false))]) ref06Right2_L9 (ref06Right2_S9 i d.nodes d.most d.room y_1.kind y_1.modeF y_1.owner y_1.links y_1.openF y_1.up y_1.data y_1.names v_1))))]) (ex := .ret) (r := (pB false)) (by kernel_rfl) rfl (by kernel_rfl) (allC (gt_list (c := NodeD.c) q1) (allC (cg q2) (allC (cg q3) (allC (cg q4) (allC (cg q5) (allC (cg q6) (allC (cg q7) (allC (cg q8) (allC (len_ob (rfl : (y_1.names.map entP) = y_1.names.map entP)) (allC (cg q9) (allC (cg q10) (allC (ref05Sorted_ok (k + 1) y_1.names _ q11) (allC (cg q12) (allC q17 (allC (ref06Names_ok (k + 1) d i _ q24) (allC (cg q25) (allC (cg q26) (allC (cg q27) (allC (cg q28) (allC (cg q29) (allC (cg q30) (allC (cg q31) allN)))))))))))))))))))))) (by kernel_rfl) allN
                            · skip
                              rcases bif_some h with ⟨q28, h⟩ | ⟨q28, h⟩
                              · skip
                                obtain rfl := Option.some.inj h
                                exact ret_go (k := (k + 2)) Try.func64 Try.ntmps64 (by kernel_rfl) (by kernel_rfl) (Nat.le_of_ble_eq_true rfl) (adv [([], 1, 3, .elem [(pI y_1.kind), (pI y_1.modeF), (pI y_1.owner), (pI y_1.links), (pI y_1.openF), (pI y_1.up), (pS y_1.data), (.list 2 false (y_1.names.map entP))]), ([], 2, 2, .eq (pB false)), ([], 4, 3, .eq (pB false)), ([], 4, 8, .eq (pB false)), ([], 4, 13, .eq (pB false)), ([], 4, 18, .eq (pB false)), ([], 4, 22, .eq (pB false)), ([], 6, 3, .eq (pB true)), ([], 6, 6, .eq (pI (y_1.names.length : Int))), ([], 6, 9, .eq (pB false)), ([], 6, 13, .eq (pB false)), ([], 6, 22, .ret (pB r_1)), ([], 6, 24, .eq (pB false)), ([], 14, 2, .ret (.tup [(pI r_4), (pI r_5)])), ([], 15, 1, .eq (pB false)), ([], 17, 4, .eq (pB false)), ([], 17, 7, .eq (pB false)), ([], 19, 2, .eq (pB true))] [([], 9, (.exit 0), (stOf (go (k + 2) 64 0 160 (adv [([], 9, 3, .eq (pI (y_1.names.length : Int))), ([], 9, 4, .eq (pB false))]) ref06Right2_L9 (ref06Right2_S9 i d.nodes d.most d.room y_1.kind y_1.modeF y_1.owner y_1.links y_1.openF y_1.up y_1.data y_1.names v_1))))]) (ex := .ret) (r := (pB true)) (by kernel_rfl) rfl (by kernel_rfl) (allC (gt_list (c := NodeD.c) q1) (allC (cg q2) (allC (cg q3) (allC (cg q4) (allC (cg q5) (allC (cg q6) (allC (cg q7) (allC (cg q8) (allC (len_ob (rfl : (y_1.names.map entP) = y_1.names.map entP)) (allC (cg q9) (allC (cg q10) (allC (ref05Sorted_ok (k + 1) y_1.names _ q11) (allC (cg q12) (allC q17 (allC (ref06Names_ok (k + 1) d i _ q24) (allC (cg q25) (allC (cg q26) (allC (cg q27) (allC (cg q28) allN))))))))))))))))))) (by kernel_rfl) allN
                              · skip
                                rcases bif_some h with ⟨q29, h⟩ | ⟨q29, h⟩
                                · skip
                                  rcases bif_some h with ⟨q30, h⟩ | ⟨q30, h⟩
                                  · skip
                                    obtain rfl := Option.some.inj h
                                    exact ret_go (k := (k + 2)) Try.func64 Try.ntmps64 (by kernel_rfl) (by kernel_rfl) (Nat.le_of_ble_eq_true rfl) (adv [([], 1, 3, .elem [(pI y_1.kind), (pI y_1.modeF), (pI y_1.owner), (pI y_1.links), (pI y_1.openF), (pI y_1.up), (pS y_1.data), (.list 2 false (y_1.names.map entP))]), ([], 2, 2, .eq (pB false)), ([], 4, 3, .eq (pB false)), ([], 4, 8, .eq (pB false)), ([], 4, 13, .eq (pB false)), ([], 4, 18, .eq (pB false)), ([], 4, 22, .eq (pB false)), ([], 6, 3, .eq (pB true)), ([], 6, 6, .eq (pI (y_1.names.length : Int))), ([], 6, 9, .eq (pB false)), ([], 6, 13, .eq (pB false)), ([], 6, 22, .ret (pB r_1)), ([], 6, 24, .eq (pB false)), ([], 14, 2, .ret (.tup [(pI r_4), (pI r_5)])), ([], 15, 1, .eq (pB false)), ([], 17, 4, .eq (pB false)), ([], 17, 7, .eq (pB false)), ([], 19, 2, .eq (pB false)), ([], 21, 1, .eq (pB true)), ([], 22, 2, .eq (pI (y_1.names.length : Int))), ([], 22, 4, .eq (pB true))] [([], 9, (.exit 0), (stOf (go (k + 2) 64 0 160 (adv [([], 9, 3, .eq (pI (y_1.names.length : Int))), ([], 9, 4, .eq (pB false))]) ref06Right2_L9 (ref06Right2_S9 i d.nodes d.most d.room y_1.kind y_1.modeF y_1.owner y_1.links y_1.openF y_1.up y_1.data y_1.names v_1))))]) (ex := .ret) (r := (pB (y_1.up == (0 : Int)))) (by kernel_rfl) rfl (by kernel_rfl) (allC (gt_list (c := NodeD.c) q1) (allC (cg q2) (allC (cg q3) (allC (cg q4) (allC (cg q5) (allC (cg q6) (allC (cg q7) (allC (cg q8) (allC (len_ob (rfl : (y_1.names.map entP) = y_1.names.map entP)) (allC (cg q9) (allC (cg q10) (allC (ref05Sorted_ok (k + 1) y_1.names _ q11) (allC (cg q12) (allC q17 (allC (ref06Names_ok (k + 1) d i _ q24) (allC (cg q25) (allC (cg q26) (allC (cg q27) (allC (cg q28) (allC (cg q29) (allC (len_ob (rfl : (y_1.names.map entP) = y_1.names.map entP)) (allC (cg q30) allN)))))))))))))))))))))) (by kernel_rfl) allN
                                  · skip
                                    obtain rfl := Option.some.inj h
                                    exact ret_go (k := (k + 2)) Try.func64 Try.ntmps64 (by kernel_rfl) (by kernel_rfl) (Nat.le_of_ble_eq_true rfl) (adv [([], 1, 3, .elem [(pI y_1.kind), (pI y_1.modeF), (pI y_1.owner), (pI y_1.links), (pI y_1.openF), (pI y_1.up), (pS y_1.data), (.list 2 false (y_1.names.map entP))]), ([], 2, 2, .eq (pB false)), ([], 4, 3, .eq (pB false)), ([], 4, 8, .eq (pB false)), ([], 4, 13, .eq (pB false)), ([], 4, 18, .eq (pB false)), ([], 4, 22, .eq (pB false)), ([], 6, 3, .eq (pB true)), ([], 6, 6, .eq (pI (y_1.names.length : Int))), ([], 6, 9, .eq (pB false)), ([], 6, 13, .eq (pB false)), ([], 6, 22, .ret (pB r_1)), ([], 6, 24, .eq (pB false)), ([], 14, 2, .ret (.tup [(pI r_4), (pI r_5)])), ([], 15, 1, .eq (pB false)), ([], 17, 4, .eq (pB false)), ([], 17, 7, .eq (pB false)), ([], 19, 2, .eq (pB false)), ([], 21, 1, .eq (pB true)), ([], 22, 2, .eq (pI (y_1.names.length : Int))), ([], 22, 4, .eq (pB false))] [([], 9, (.exit 0), (stOf (go (k + 2) 64 0 160 (adv [([], 9, 3, .eq (pI (y_1.names.length : Int))), ([], 9, 4, .eq (pB false))]) ref06Right2_L9 (ref06Right2_S9 i d.nodes d.most d.room y_1.kind y_1.modeF y_1.owner y_1.links y_1.openF y_1.up y_1.data y_1.names v_1))))]) (ex := .ret) (r := (pB false)) (by kernel_rfl) rfl (by kernel_rfl) (allC (gt_list (c := NodeD.c) q1) (allC (cg q2) (allC (cg q3) (allC (cg q4) (allC (cg q5) (allC (cg q6) (allC (cg q7) (allC (cg q8) (allC (len_ob (rfl : (y_1.names.map entP) = y_1.names.map entP)) (allC (cg q9) (allC (cg q10) (allC (ref05Sorted_ok (k + 1) y_1.names _ q11) (allC (cg q12) (allC q17 (allC (ref06Names_ok (k + 1) d i _ q24) (allC (cg q25) (allC (cg q26) (allC (cg q27) (allC (cg q28) (allC (cg q29) (allC (len_ob (rfl : (y_1.names.map entP) = y_1.names.map entP)) (allC (cg q30) allN)))))))))))))))))))))) (by kernel_rfl) allN
                                · skip
                                  rcases bif_some h with ⟨q30, h⟩ | ⟨q30, h⟩
                                  · skip
                                    rcases bif_some h with ⟨q31, h⟩ | ⟨q31, h⟩
                                    · skip
                                      obtain ⟨r_6, q32, h⟩ := bnd_some h
                                      obtain rfl := Option.some.inj h
                                      exact ret_go (k := (k + 2)) Try.func64 Try.ntmps64 (by kernel_rfl) (by kernel_rfl) (Nat.le_of_ble_eq_true rfl) (adv [([], 1, 3, .elem [(pI y_1.kind), (pI y_1.modeF), (pI y_1.owner), (pI y_1.links), (pI y_1.openF), (pI y_1.up), (pS y_1.data), (.list 2 false (y_1.names.map entP))]), ([], 2, 2, .eq (pB false)), ([], 4, 3, .eq (pB false)), ([], 4, 8, .eq (pB false)), ([], 4, 13, .eq (pB false)), ([], 4, 18, .eq (pB false)), ([], 4, 22, .eq (pB false)), ([], 6, 3, .eq (pB true)), ([], 6, 6, .eq (pI (y_1.names.length : Int))), ([], 6, 9, .eq (pB false)), ([], 6, 13, .eq (pB false)), ([], 6, 22, .ret (pB r_1)), ([], 6, 24, .eq (pB false)), ([], 14, 2, .ret (.tup [(pI r_4), (pI r_5)])), ([], 15, 1, .eq (pB false)), ([], 17, 4, .eq (pB false)), ([], 17, 7, .eq (pB false)), ([], 19, 2, .eq (pB false)), ([], 21, 1, .eq (pB false)), ([], 23, 2, .eq (pB true)), ([], 23, 8, .eq (pB true)), ([], 23, 11, .ret (pB r_6))] [([], 9, (.exit 0), (stOf (go (k + 2) 64 0 160 (adv [([], 9, 3, .eq (pI (y_1.names.length : Int))), ([], 9, 4, .eq (pB false))]) ref06Right2_L9 (ref06Right2_S9 i d.nodes d.most d.room y_1.kind y_1.modeF y_1.owner y_1.links y_1.openF y_1.up y_1.data y_1.names v_1))))]) (ex := .ret) (r := (pB r_6)) (by kernel_rfl) rfl (by kernel_rfl) (allC (gt_list (c := NodeD.c) q1) (allC (cg q2) (allC (cg q3) (allC (cg q4) (allC (cg q5) (allC (cg q6) (allC (cg q7) (allC (cg q8) (allC (len_ob (rfl : (y_1.names.map entP) = y_1.names.map entP)) (allC (cg q9) (allC (cg q10) (allC (ref05Sorted_ok (k + 1) y_1.names _ q11) (allC (cg q12) (allC q17 (allC (ref06Names_ok (k + 1) d i _ q24) (allC (cg q25) (allC (cg q26) (allC (cg q27) (allC (cg q28) (allC (cg q29) (allC (cg q30) (allC (cg q31) (allC (ref06Rooted_ok k d i _ q32) allN))))))))))))))))))))))) (by kernel_rfl) allN
                                    · skip
                                      obtain rfl := Option.some.inj h
                                      exact ret_go (k := (k + 2)) Try.func64 Try.ntmps64 (by kernel_rfl) (by kernel_rfl) (Nat.le_of_ble_eq_true rfl) (adv [([], 1, 3, .elem [(pI y_1.kind), (pI y_1.modeF), (pI y_1.owner), (pI y_1.links), (pI y_1.openF), (pI y_1.up), (pS y_1.data), (.list 2 false (y_1.names.map entP))]), ([], 2, 2, .eq (pB false)), ([], 4, 3, .eq (pB false)), ([], 4, 8, .eq (pB false)), ([], 4, 13, .eq (pB false)), ([], 4, 18, .eq (pB false)), ([], 4, 22, .eq (pB false)), ([], 6, 3, .eq (pB true)), ([], 6, 6, .eq (pI (y_1.names.length : Int))), ([], 6, 9, .eq (pB false)), ([], 6, 13, .eq (pB false)), ([], 6, 22, .ret (pB r_1)), ([], 6, 24, .eq (pB false)), ([], 14, 2, .ret (.tup [(pI r_4), (pI r_5)])), ([], 15, 1, .eq (pB false)), ([], 17, 4, .eq (pB false)), ([], 17, 7, .eq (pB false)), ([], 19, 2, .eq (pB false)), ([], 21, 1, .eq (pB false)), ([], 23, 2, .eq (pB true)), ([], 23, 8, .eq (pB false))] [([], 9, (.exit 0), (stOf (go (k + 2) 64 0 160 (adv [([], 9, 3, .eq (pI (y_1.names.length : Int))), ([], 9, 4, .eq (pB false))]) ref06Right2_L9 (ref06Right2_S9 i d.nodes d.most d.room y_1.kind y_1.modeF y_1.owner y_1.links y_1.openF y_1.up y_1.data y_1.names v_1))))]) (ex := .ret) (r := (pB false)) (by kernel_rfl) rfl (by kernel_rfl) (allC (gt_list (c := NodeD.c) q1) (allC (cg q2) (allC (cg q3) (allC (cg q4) (allC (cg q5) (allC (cg q6) (allC (cg q7) (allC (cg q8) (allC (len_ob (rfl : (y_1.names.map entP) = y_1.names.map entP)) (allC (cg q9) (allC (cg q10) (allC (ref05Sorted_ok (k + 1) y_1.names _ q11) (allC (cg q12) (allC q17 (allC (ref06Names_ok (k + 1) d i _ q24) (allC (cg q25) (allC (cg q26) (allC (cg q27) (allC (cg q28) (allC (cg q29) (allC (cg q30) (allC (cg q31) allN)))))))))))))))))))))) (by kernel_rfl) allN
                                  · skip
                                    obtain rfl := Option.some.inj h
                                    exact ret_go (k := (k + 2)) Try.func64 Try.ntmps64 (by kernel_rfl) (by kernel_rfl) (Nat.le_of_ble_eq_true rfl) (adv [([], 1, 3, .elem [(pI y_1.kind), (pI y_1.modeF), (pI y_1.owner), (pI y_1.links), (pI y_1.openF), (pI y_1.up), (pS y_1.data), (.list 2 false (y_1.names.map entP))]), ([], 2, 2, .eq (pB false)), ([], 4, 3, .eq (pB false)), ([], 4, 8, .eq (pB false)), ([], 4, 13, .eq (pB false)), ([], 4, 18, .eq (pB false)), ([], 4, 22, .eq (pB false)), ([], 6, 3, .eq (pB true)), ([], 6, 6, .eq (pI (y_1.names.length : Int))), ([], 6, 9, .eq (pB false)), ([], 6, 13, .eq (pB false)), ([], 6, 22, .ret (pB r_1)), ([], 6, 24, .eq (pB false)), ([], 14, 2, .ret (.tup [(pI r_4), (pI r_5)])), ([], 15, 1, .eq (pB false)), ([], 17, 4, .eq (pB false)), ([], 17, 7, .eq (pB false)), ([], 19, 2, .eq (pB false)), ([], 21, 1, .eq (pB false)), ([], 23, 2, .eq (pB false))] [([], 9, (.exit 0), (stOf (go (k + 2) 64 0 160 (adv [([], 9, 3, .eq (pI (y_1.names.length : Int))), ([], 9, 4, .eq (pB false))]) ref06Right2_L9 (ref06Right2_S9 i d.nodes d.most d.room y_1.kind y_1.modeF y_1.owner y_1.links y_1.openF y_1.up y_1.data y_1.names v_1))))]) (ex := .ret) (r := (pB false)) (by kernel_rfl) rfl (by kernel_rfl) (allC (gt_list (c := NodeD.c) q1) (allC (cg q2) (allC (cg q3) (allC (cg q4) (allC (cg q5) (allC (cg q6) (allC (cg q7) (allC (cg q8) (allC (len_ob (rfl : (y_1.names.map entP) = y_1.names.map entP)) (allC (cg q9) (allC (cg q10) (allC (ref05Sorted_ok (k + 1) y_1.names _ q11) (allC (cg q12) (allC q17 (allC (ref06Names_ok (k + 1) d i _ q24) (allC (cg q25) (allC (cg q26) (allC (cg q27) (allC (cg q28) (allC (cg q29) (allC (cg q30) allN))))))))))))))))))))) (by kernel_rfl) allN
              · skip
                rcases bif_some h with ⟨q9, h⟩ | ⟨q9, h⟩
                · skip
                  rcases bif_some h with ⟨q10, h⟩ | ⟨q10, h⟩
                  · skip
                    obtain rfl := Option.some.inj h
                    exact ret_go (k := (k + 2)) Try.func64 Try.ntmps64 (by kernel_rfl) (by kernel_rfl) (Nat.le_of_ble_eq_true rfl) (adv [([], 1, 3, .elem [(pI y_1.kind), (pI y_1.modeF), (pI y_1.owner), (pI y_1.links), (pI y_1.openF), (pI y_1.up), (pS y_1.data), (.list 2 false (y_1.names.map entP))]), ([], 2, 2, .eq (pB false)), ([], 4, 3, .eq (pB false)), ([], 4, 8, .eq (pB false)), ([], 4, 13, .eq (pB false)), ([], 4, 18, .eq (pB false)), ([], 4, 22, .eq (pB false)), ([], 6, 3, .eq (pB false)), ([], 6, 13, .eq (pB true)), ([], 6, 19, .eq (pB true))]) (ex := .ret) (r := (pB false)) (by kernel_rfl) rfl (by kernel_rfl) (allC (gt_list (c := NodeD.c) q1) (allC (cg q2) (allC (cg q3) (allC (cg q4) (allC (cg q5) (allC (cg q6) (allC (cg q7) (allC (cg q8) (allC (cg q9) (allC (cg q10) allN)))))))))) (by kernel_rfl) allN
                  · skip
                    obtain ⟨r_1, q11, h⟩ := bnd_some h
                    rcases bif_some h with ⟨q12, h⟩ | ⟨q12, h⟩
                    · skip
                      obtain rfl := Option.some.inj h
                      exact ret_go (k := (k + 2)) Try.func64 Try.ntmps64 (by kernel_rfl) (by kernel_rfl) (Nat.le_of_ble_eq_true rfl) (adv [([], 1, 3, .elem [(pI y_1.kind), (pI y_1.modeF), (pI y_1.owner), (pI y_1.links), (pI y_1.openF), (pI y_1.up), (pS y_1.data), (.list 2 false (y_1.names.map entP))]), ([], 2, 2, .eq (pB false)), ([], 4, 3, .eq (pB false)), ([], 4, 8, .eq (pB false)), ([], 4, 13, .eq (pB false)), ([], 4, 18, .eq (pB false)), ([], 4, 22, .eq (pB false)), ([], 6, 3, .eq (pB false)), ([], 6, 13, .eq (pB true)), ([], 6, 19, .eq (pB false)), ([], 6, 22, .ret (pB r_1)), ([], 6, 24, .eq (pB true))]) (ex := .ret) (r := (pB false)) (by kernel_rfl) rfl (by kernel_rfl) (allC (gt_list (c := NodeD.c) q1) (allC (cg q2) (allC (cg q3) (allC (cg q4) (allC (cg q5) (allC (cg q6) (allC (cg q7) (allC (cg q8) (allC (cg q9) (allC (cg q10) (allC (ref05Sorted_ok (k + 1) y_1.names _ q11) (allC (cg q12) allN)))))))))))) (by kernel_rfl) allN
                    · skip
                      obtain ⟨X_1, q13, h⟩ := bnd_some h
                      obtain ⟨v_1, q14, q15⟩ := loop_iter (f := run1 (k + 2) 64 0 160 ref06Right2_L9) (ref06Right2_S9 i d.nodes d.most d.room y_1.kind y_1.modeF y_1.owner y_1.links y_1.openF y_1.up y_1.data y_1.names) (ref06Right2_b9 i d.nodes d.most d.room y_1.kind y_1.modeF y_1.owner y_1.links y_1.openF y_1.up y_1.data y_1.names) (ref06Right2_t9 k i d.nodes d.most d.room y_1.kind y_1.modeF y_1.owner y_1.links y_1.openF y_1.up y_1.data y_1.names) LF (0 : Int) _ (stOf (goStop (k + 2) 64 0 160 (adv [([], 1, 3, .elem [(pI y_1.kind), (pI y_1.modeF), (pI y_1.owner), (pI y_1.links), (pI y_1.openF), (pI y_1.up), (pS y_1.data), (.list 2 false (y_1.names.map entP))]), ([], 2, 2, .eq (pB false)), ([], 4, 3, .eq (pB false)), ([], 4, 8, .eq (pB false)), ([], 4, 13, .eq (pB false)), ([], 4, 18, .eq (pB false)), ([], 4, 22, .eq (pB false)), ([], 6, 3, .eq (pB false)), ([], 6, 13, .eq (pB true)), ([], 6, 19, .eq (pB false)), ([], 6, 22, .ret (pB r_1)), ([], 6, 24, .eq (pB false))]) 9 (codeOf Try.f64) (argS 64 [(.agg [(.list 8 false (d.nodes.map NodeD.c)), (pI d.most), (pI d.room)]), (pI i)]))) q13 (by kernel_rfl)
                      unfold ref06Right2_b9 at q14
                      try dsimp only at q14
                      rcases bif_some q14 with ⟨q18, q14⟩ | ⟨q18, q14⟩
                      · skip
                        obtain ⟨y_2, q19, q14⟩ := bnd_some q14
                        obtain ⟨⟨r_2, r_3⟩, q20, q14⟩ := bnd_some q14
                        try dsimp only at q14
                        rcases bif_some q14 with ⟨q21, q14⟩ | ⟨q21, q14⟩
                        · skip
                          cases q14
                          try dsimp only at h
                          have q16 := run_go (k := (k + 2)) (f := 64) (r0 := 0) (nt := 160) (c := ref06Right2_L9) (σ := (ref06Right2_S9 i d.nodes d.most d.room y_1.kind y_1.modeF y_1.owner y_1.links y_1.openF y_1.up y_1.data y_1.names v_1)) (adv [([], 9, 3, .eq (pI (y_1.names.length : Int))), ([], 9, 4, .eq (pB true)), ([], 11, 4, .elem [(pS y_2.name), (pI y_2.ino)]), ([], 11, 7, .ret (.tup [(.agg [(pI r_2.kind), (pI r_2.modeF), (pI r_2.owner), (pI r_2.links), (pI r_2.openF), (pI r_2.up), (pS r_2.data), (.list 2 false (r_2.names.map entP))]), (pB r_3)])), ([], 12, 2, .eq (pB true))]) (ex := .ret) (by kernel_rfl) (by kernel_rfl) (allC (len_ob (rfl : (y_1.names.map entP) = y_1.names.map entP)) (allC (cg q18) (allC (gt_list (c := entP) q19) (allC (gt_list (c := entP) q19) (allC (ref06Get_ok (k + 1) d y_2.ino _ q20) (allC (ref06Get_ok (k + 1) d y_2.ino _ q20) (allC (cg q21) allN)))))))
                          have q17 := q15 _ _ (by intro e; cases e) q16
                          obtain rfl := Option.some.inj h
                          exact ret_go (k := (k + 2)) Try.func64 Try.ntmps64 (by kernel_rfl) (by kernel_rfl) (Nat.le_of_ble_eq_true rfl) (adv [([], 1, 3, .elem [(pI y_1.kind), (pI y_1.modeF), (pI y_1.owner), (pI y_1.links), (pI y_1.openF), (pI y_1.up), (pS y_1.data), (.list 2 false (y_1.names.map entP))]), ([], 2, 2, .eq (pB false)), ([], 4, 3, .eq (pB false)), ([], 4, 8, .eq (pB false)), ([], 4, 13, .eq (pB false)), ([], 4, 18, .eq (pB false)), ([], 4, 22, .eq (pB false)), ([], 6, 3, .eq (pB false)), ([], 6, 13, .eq (pB true)), ([], 6, 19, .eq (pB false)), ([], 6, 22, .ret (pB r_1)), ([], 6, 24, .eq (pB false))] [([], 9, .ret, (stOf (go (k + 2) 64 0 160 (adv [([], 9, 3, .eq (pI (y_1.names.length : Int))), ([], 9, 4, .eq (pB true)), ([], 11, 4, .elem [(pS y_2.name), (pI y_2.ino)]), ([], 11, 7, .ret (.tup [(.agg [(pI r_2.kind), (pI r_2.modeF), (pI r_2.owner), (pI r_2.links), (pI r_2.openF), (pI r_2.up), (pS r_2.data), (.list 2 false (r_2.names.map entP))]), (pB r_3)])), ([], 12, 2, .eq (pB true))]) ref06Right2_L9 (ref06Right2_S9 i d.nodes d.most d.room y_1.kind y_1.modeF y_1.owner y_1.links y_1.openF y_1.up y_1.data y_1.names v_1))))]) (ex := .ret) (r := (pB false)) (by kernel_rfl) rfl (by kernel_rfl) (allC (gt_list (c := NodeD.c) q1) (allC (cg q2) (allC (cg q3) (allC (cg q4) (allC (cg q5) (allC (cg q6) (allC (cg q7) (allC (cg q8) (allC (cg q9) (allC (cg q10) (allC (ref05Sorted_ok (k + 1) y_1.names _ q11) (allC (cg q12) (allC q17 allN))))))))))))) (by kernel_rfl) allN
                        · skip
                          obtain ⟨y_3, q22, q14⟩ := bnd_some q14
                          rcases bif_some q14 with ⟨q23, q14⟩ | ⟨q23, q14⟩
                          · skip
                            cases q14
                            try dsimp only at h
                            have q16 := run_go (k := (k + 2)) (f := 64) (r0 := 0) (nt := 160) (c := ref06Right2_L9) (σ := (ref06Right2_S9 i d.nodes d.most d.room y_1.kind y_1.modeF y_1.owner y_1.links y_1.openF y_1.up y_1.data y_1.names v_1)) (adv [([], 9, 3, .eq (pI (y_1.names.length : Int))), ([], 9, 4, .eq (pB true)), ([], 11, 4, .elem [(pS y_2.name), (pI y_2.ino)]), ([], 11, 7, .ret (.tup [(.agg [(pI r_2.kind), (pI r_2.modeF), (pI r_2.owner), (pI r_2.links), (pI r_2.openF), (pI r_2.up), (pS r_2.data), (.list 2 false (r_2.names.map entP))]), (pB r_3)])), ([], 12, 2, .eq (pB false)), ([], 12, 6, .elem [(pS y_3.name), (pI y_3.ino)]), ([], 12, 10, .eq (pB true))]) (ex := .ret) (by kernel_rfl) (by kernel_rfl) (allC (len_ob (rfl : (y_1.names.map entP) = y_1.names.map entP)) (allC (cg q18) (allC (gt_list (c := entP) q19) (allC (gt_list (c := entP) q19) (allC (ref06Get_ok (k + 1) d y_2.ino _ q20) (allC (ref06Get_ok (k + 1) d y_2.ino _ q20) (allC (cg q21) (allC (gt_list (c := entP) q22) (allC (cg q23) allN)))))))))
                            have q17 := q15 _ _ (by intro e; cases e) q16
                            obtain rfl := Option.some.inj h
                            exact ret_go (k := (k + 2)) Try.func64 Try.ntmps64 (by kernel_rfl) (by kernel_rfl) (Nat.le_of_ble_eq_true rfl) (adv [([], 1, 3, .elem [(pI y_1.kind), (pI y_1.modeF), (pI y_1.owner), (pI y_1.links), (pI y_1.openF), (pI y_1.up), (pS y_1.data), (.list 2 false (y_1.names.map entP))]), ([], 2, 2, .eq (pB false)), ([], 4, 3, .eq (pB false)), ([], 4, 8, .eq (pB false)), ([], 4, 13, .eq (pB false)), ([], 4, 18, .eq (pB false)), ([], 4, 22, .eq (pB false)), ([], 6, 3, .eq (pB false)), ([], 6, 13, .eq (pB true)), ([], 6, 19, .eq (pB false)), ([], 6, 22, .ret (pB r_1)), ([], 6, 24, .eq (pB false))] [([], 9, .ret, (stOf (go (k + 2) 64 0 160 (adv [([], 9, 3, .eq (pI (y_1.names.length : Int))), ([], 9, 4, .eq (pB true)), ([], 11, 4, .elem [(pS y_2.name), (pI y_2.ino)]), ([], 11, 7, .ret (.tup [(.agg [(pI r_2.kind), (pI r_2.modeF), (pI r_2.owner), (pI r_2.links), (pI r_2.openF), (pI r_2.up), (pS r_2.data), (.list 2 false (r_2.names.map entP))]), (pB r_3)])), ([], 12, 2, .eq (pB false)), ([], 12, 6, .elem [(pS y_3.name), (pI y_3.ino)]), ([], 12, 10, .eq (pB true))]) ref06Right2_L9 (ref06Right2_S9 i d.nodes d.most d.room y_1.kind y_1.modeF y_1.owner y_1.links y_1.openF y_1.up y_1.data y_1.names v_1))))]) (ex := .ret) (r := (pB false)) (by kernel_rfl) rfl (by kernel_rfl) (allC (gt_list (c := NodeD.c) q1) (allC (cg q2) (allC (cg q3) (allC (cg q4) (allC (cg q5) (allC (cg q6) (allC (cg q7) (allC (cg q8) (allC (cg q9) (allC (cg q10) (allC (ref05Sorted_ok (k + 1) y_1.names _ q11) (allC (cg q12) (allC q17 allN))))))))))))) (by kernel_rfl) allN
                          · skip
                            cases q14
                      · skip
                        cases q14
                        try dsimp only at h
                        have q16 := run_go (k := (k + 2)) (f := 64) (r0 := 0) (nt := 160) (c := ref06Right2_L9) (σ := (ref06Right2_S9 i d.nodes d.most d.room y_1.kind y_1.modeF y_1.owner y_1.links y_1.openF y_1.up y_1.data y_1.names v_1)) (adv [([], 9, 3, .eq (pI (y_1.names.length : Int))), ([], 9, 4, .eq (pB false))]) (ex := (.exit 0)) (by kernel_rfl) (by kernel_rfl) (allC (len_ob (rfl : (y_1.names.map entP) = y_1.names.map entP)) (allC (cg q18) allN))
                        have q17 := q15 _ _ (by intro e; cases e) q16
                        obtain ⟨⟨r_4, r_5⟩, q24, h⟩ := bnd_some h
                        try dsimp only at h
                        rcases bif_some h with ⟨q25, h⟩ | ⟨q25, h⟩
                        · skip
                          rcases bif_some h with ⟨q26, h⟩ | ⟨q26, h⟩
                          · skip
                            rcases bif_some h with ⟨q27, h⟩ | ⟨q27, h⟩
                            · skip
                              obtain rfl := Option.some.inj h
                              exact ret_go (k := (k + 2)) Try.func64 Try.ntmps64 (by kernel_rfl) (by kernel_rfl) (Nat.le_of_ble_eq_true rfl) (adv [([], 1, 3, .elem [(pI y_1.kind), (pI y_1.modeF), (pI y_1.owner), (pI y_1.links), (pI y_1.openF), (pI y_1.up), (pS y_1.data), (.list 2 false (y_1.names.map entP))]), ([], 2, 2, .eq (pB false)), ([], 4, 3, .eq (pB false)), ([], 4, 8, .eq (pB false)), ([], 4, 13, .eq (pB false)), ([], 4, 18, .eq (pB false)), ([], 4, 22, .eq (pB false)), ([], 6, 3, .eq (pB false)), ([], 6, 13, .eq (pB true)), ([], 6, 19, .eq (pB false)), ([], 6, 22, .ret (pB r_1)), ([], 6, 24, .eq (pB false)), ([], 14, 2, .ret (.tup [(pI r_4), (pI r_5)])), ([], 15, 1, .eq (pB true)), ([], 16, 3, .eq (pB true)), ([], 16, 8, .eq (pB true))] [([], 9, (.exit 0), (stOf (go (k + 2) 64 0 160 (adv [([], 9, 3, .eq (pI (y_1.names.length : Int))), ([], 9, 4, .eq (pB false))]) ref06Right2_L9 (ref06Right2_S9 i d.nodes d.most d.room y_1.kind y_1.modeF y_1.owner y_1.links y_1.openF y_1.up y_1.data y_1.names v_1))))]) (ex := .ret) (r := (pB (y_1.links == (1 : Int)))) (by kernel_rfl) rfl (by kernel_rfl) (allC (gt_list (c := NodeD.c) q1) (allC (cg q2) (allC (cg q3) (allC (cg q4) (allC (cg q5) (allC (cg q6) (allC (cg q7) (allC (cg q8) (allC (cg q9) (allC (cg q10) (allC (ref05Sorted_ok (k + 1) y_1.names _ q11) (allC (cg q12) (allC q17 (allC (ref06Names_ok (k + 1) d i _ q24) (allC (cg q25) (allC (cg q26) (allC (cg q27) allN))))))))))))))))) (by kernel_rfl) allN
                            · skip
                              obtain rfl := Option.some.inj h
                              exact ret_go (k := (k + 2)) Try.func64 Try.ntmps64 (by kernel_rfl) (by kernel_rfl) (Nat.le_of_ble_eq_true rfl) (adv [([], 1, 3, .elem [(pI y_1.kind), (pI y_1.modeF), (pI y_1.owner), (pI y_1.links), (pI y_1.openF), (pI y_1.up), (pS y_1.data), (.list 2 false (y_1.names.map entP))]), ([], 2, 2, .eq (pB false)), ([], 4, 3, .eq (pB false)), ([], 4, 8, .eq (pB false)), ([], 4, 13, .eq (pB false)), ([], 4, 18, .eq (pB false)), ([], 4, 22, .eq (pB false)), ([], 6, 3, .eq (pB false)), ([], 6, 13, .eq (pB true)), ([], 6, 19, .eq (pB false)), ([], 6, 22, .ret (pB r_1)), ([], 6, 24, .eq (pB false)), ([], 14, 2, .ret (.tup [(pI r_4), (pI r_5)])), ([], 15, 1, .eq (pB true)), ([], 16, 3, .eq (pB true)), ([], 16, 8, .eq (pB false))] [([], 9, (.exit 0), (stOf (go (k + 2) 64 0 160 (adv [([], 9, 3, .eq (pI (y_1.names.length : Int))), ([], 9, 4, .eq (pB false))]) ref06Right2_L9 (ref06Right2_S9 i d.nodes d.most d.room y_1.kind y_1.modeF y_1.owner y_1.links y_1.openF y_1.up y_1.data y_1.names v_1))))]) (ex := .ret) (r := (pB false)) (by kernel_rfl) rfl (by kernel_rfl) (allC (gt_list (c := NodeD.c) q1) (allC (cg q2) (allC (cg q3) (allC (cg q4) (allC (cg q5) (allC (cg q6) (allC (cg q7) (allC (cg q8) (allC (cg q9) (allC (cg q10) (allC (ref05Sorted_ok (k + 1) y_1.names _ q11) (allC (cg q12) (allC q17 (allC (ref06Names_ok (k + 1) d i _ q24) (allC (cg q25) (allC (cg q26) (allC (cg q27) allN))))))))))))))))) (by kernel_rfl) allN
                          · skip
                            obtain rfl := Option.some.inj h
                            exact ret_go (k := (k + 2)) Try.func64 Try.ntmps64 (by kernel_rfl) (by kernel_rfl) (Nat.le_of_ble_eq_true rfl) (adv [([], 1, 3, .elem [(pI y_1.kind), (pI y_1.modeF), (pI y_1.owner), (pI y_1.links), (pI y_1.openF), (pI y_1.up), (pS y_1.data), (.list 2 false (y_1.names.map entP))]), ([], 2, 2, .eq (pB false)), ([], 4, 3, .eq (pB false)), ([], 4, 8, .eq (pB false)), ([], 4, 13, .eq (pB false)), ([], 4, 18, .eq (pB false)), ([], 4, 22, .eq (pB false)), ([], 6, 3, .eq (pB false)), ([], 6, 13, .eq (pB true)), ([], 6, 19, .eq (pB false)), ([], 6, 22, .ret (pB r_1)), ([], 6, 24, .eq (pB false)), ([], 14, 2, .ret (.tup [(pI r_4), (pI r_5)])), ([], 15, 1, .eq (pB true)), ([], 16, 3, .eq (pB false))] [([], 9, (.exit 0), (stOf (go (k + 2) 64 0 160 (adv [([], 9, 3, .eq (pI (y_1.names.length : Int))), ([], 9, 4, .eq (pB false))]) ref06Right2_L9 (ref06Right2_S9 i d.nodes d.most d.room y_1.kind y_1.modeF y_1.owner y_1.links y_1.openF y_1.up y_1.data y_1.names v_1))))]) (ex := .ret) (r := (pB false)) (by kernel_rfl) rfl (by kernel_rfl) (allC (gt_list (c := NodeD.c) q1) (allC (cg q2) (allC (cg q3) (allC (cg q4) (allC (cg q5) (allC (cg q6) (allC (cg q7) (allC (cg q8) (allC (cg q9) (allC (cg q10) (allC (ref05Sorted_ok (k + 1) y_1.names _ q11) (allC (cg q12) (allC q17 (allC (ref06Names_ok (k + 1) d i _ q24) (allC (cg q25) (allC (cg q26) allN)))))))))))))))) (by kernel_rfl) allN
                        · skip
                          rcases bif_some h with ⟨q26, h⟩ | ⟨q26, h⟩
                          · skip
                            obtain rfl := Option.some.inj h
                            exact ret_go (k := (k + 2)) Try.func64 Try.ntmps64 (by kernel_rfl) (by kernel_rfl) (Nat.le_of_ble_eq_true rfl) (adv [([], 1, 3, .elem [(pI y_1.kind), (pI y_1.modeF), (pI y_1.owner), (pI y_1.links), (pI y_1.openF), (pI y_1.up), (pS y_1.data), (.list 2 false (y_1.names.map entP))]), ([], 2, 2, .eq (pB false)), ([], 4, 3, .eq (pB false)), ([], 4, 8, .eq (pB false)), ([], 4, 13, .eq (pB false)), ([], 4, 18, .eq (pB false)), ([], 4, 22, .eq (pB false)), ([], 6, 3, .eq (pB false)), ([], 6, 13, .eq (pB true)), ([], 6, 19, .eq (pB false)), ([], 6, 22, .ret (pB r_1)), ([], 6, 24, .eq (pB false)), ([], 14, 2, .ret (.tup [(pI r_4), (pI r_5)])), ([], 15, 1, .eq (pB false)), ([], 17, 4, .eq (pB true))] [([], 9, (.exit 0), (stOf (go (k + 2) 64 0 160 (adv [([], 9, 3, .eq (pI (y_1.names.length : Int))), ([], 9, 4, .eq (pB false))]) ref06Right2_L9 (ref06Right2_S9 i d.nodes d.most d.room y_1.kind y_1.modeF y_1.owner y_1.links y_1.openF y_1.up y_1.data y_1.names v_1))))]) (ex := .ret) (r := (pB false)) (by kernel_rfl) rfl (by kernel_rfl) (allC (gt_list (c := NodeD.c) q1) (allC (cg q2) (allC (cg q3) (allC (cg q4) (allC (cg q5) (allC (cg q6) (allC (cg q7) (allC (cg q8) (allC (cg q9) (allC (cg q10) (allC (ref05Sorted_ok (k + 1) y_1.names _ q11) (allC (cg q12) (allC q17 (allC (ref06Names_ok (k + 1) d i _ q24) (allC (cg q25) (allC (cg q26) allN)))))))))))))))) (by kernel_rfl) allN
                          · skip
                            rcases bif_some h with ⟨q27, h⟩ | ⟨q27, h⟩
                            · skip
                              rcases bif_some h with ⟨q28, h⟩ | ⟨q28, h⟩
                              · skip
                                obtain rfl := Option.some.inj h
                                exact ret_go (k := (k + 2)) Try.func64 Try.ntmps64 (by kernel_rfl) (by kernel_rfl) (Nat.le_of_ble_eq_true rfl) (adv [([], 1, 3, .elem [(pI y_1.kind), (pI y_1.modeF), (pI y_1.owner), (pI y_1.links), (pI y_1.openF), (pI y_1.up), (pS y_1.data), (.list 2 false (y_1.names.map entP))]), ([], 2, 2, .eq (pB false)), ([], 4, 3, .eq (pB false)), ([], 4, 8, .eq (pB false)), ([], 4, 13, .eq (pB false)), ([], 4, 18, .eq (pB false)), ([], 4, 22, .eq (pB false)), ([], 6, 3, .eq (pB false)), ([], 6, 13, .eq (pB true)), ([], 6, 19, .eq (pB false)), ([], 6, 22, .ret (pB r_1)), ([], 6, 24, .eq (pB false)), ([], 14, 2, .ret (.tup [(pI r_4), (pI r_5)])), ([], 15, 1, .eq (pB false)), ([], 17, 4, .eq (pB false)), ([], 17, 7, .eq (pB true)), ([], 17, 12, .eq (pB true))] [([], 9, (.exit 0), (stOf (go (k + 2) 64 0 160 (adv [([], 9, 3, .eq (pI (y_1.names.length : Int))), ([], 9, 4, .eq (pB false))]) ref06Right2_L9 (ref06Right2_S9 i d.nodes d.most d.room y_1.kind y_1.modeF y_1.owner y_1.links y_1.openF y_1.up y_1.data y_1.names v_1))))]) (ex := .ret) (r := (pB false)) (by kernel_rfl) rfl (by kernel_rfl) (allC (gt_list (c := NodeD.c) q1) (allC (cg q2) (allC (cg q3) (allC (cg q4) (allC (cg q5) (allC (cg q6) (allC (cg q7) (allC (cg q8) (allC (cg q9) (allC (cg q10) (allC (ref05Sorted_ok (k + 1) y_1.names _ q11) (allC (cg q12) (allC q17 (allC (ref06Names_ok (k + 1) d i _ q24) (allC (cg q25) (allC (cg q26) (allC (cg q27) (allC (cg q28) allN)))))))))))))))))) (by kernel_rfl) allN
                              · skip
                                rcases bif_some h with ⟨q29, h⟩ | ⟨q29, h⟩
                                · skip
                                  obtain rfl := Option.some.inj h
                                  exact ret_go (k := (k + 2)) Try.func64 Try.ntmps64 (by kernel_rfl) (by kernel_rfl) (Nat.le_of_ble_eq_true rfl) (adv [([], 1, 3, .elem [(pI y_1.kind), (pI y_1.modeF), (pI y_1.owner), (pI y_1.links), (pI y_1.openF), (pI y_1.up), (pS y_1.data), (.list 2 false (y_1.names.map entP))]), ([], 2, 2, .eq (pB false)), ([], 4, 3, .eq (pB false)), ([], 4, 8, .eq (pB false)), ([], 4, 13, .eq (pB false)), ([], 4, 18, .eq (pB false)), ([], 4, 22, .eq (pB false)), ([], 6, 3, .eq (pB false)), ([], 6, 13, .eq (pB true)), ([], 6, 19, .eq (pB false)), ([], 6, 22, .ret (pB r_1)), ([], 6, 24, .eq (pB false)), ([], 14, 2, .ret (.tup [(pI r_4), (pI r_5)])), ([], 15, 1, .eq (pB false)), ([], 17, 4, .eq (pB false)), ([], 17, 7, .eq (pB true)), ([], 17, 12, .eq (pB false)), ([], 19, 2, .eq (pB true))] [([], 9, (.exit 0), (stOf (go (k + 2) 64 0 160 (adv [([], 9, 3, .eq (pI (y_1.names.length : Int))), ([], 9, 4, .eq (pB false))]) ref06Right2_L9 (ref06Right2_S9 i d.nodes d.most d.room y_1.kind y_1.modeF y_1.owner y_1.links y_1.openF y_1.up y_1.data y_1.names v_1))))]) (ex := .ret) (r := (pB true)) (by kernel_rfl) rfl (by kernel_rfl) (allC (gt_list (c := NodeD.c) q1) (allC (cg q2) (allC (cg q3) (allC (cg q4) (allC (cg q5) (allC (cg q6) (allC (cg q7) (allC (cg q8) (allC (cg q9) (allC (cg q10) (allC (ref05Sorted_ok (k + 1) y_1.names _ q11) (allC (cg q12) (allC q17 (allC (ref06Names_ok (k + 1) d i _ q24) (allC (cg q25) (allC (cg q26) (allC (cg q27) (allC (cg q28) (allC (cg q29) allN))))))))))))))))))) (by kernel_rfl) allN
                                · skip
                                  rcases bif_some h with ⟨q30, h⟩ | ⟨q30, h⟩
                                  · skip
                                    rcases bif_some h with ⟨q31, h⟩ | ⟨q31, h⟩
                                    · skip
                                      obtain rfl := Option.some.inj h
                                      exact ret_go (k := (k + 2)) Try.func64 Try.ntmps64 (by kernel_rfl) (by kernel_rfl) (Nat.le_of_ble_eq_true rfl) (adv [([], 1, 3, .elem [(pI y_1.kind), (pI y_1.modeF), (pI y_1.owner), (pI y_1.links), (pI y_1.openF), (pI y_1.up), (pS y_1.data), (.list 2 false (y_1.names.map entP))]), ([], 2, 2, .eq (pB false)), ([], 4, 3, .eq (pB false)), ([], 4, 8, .eq (pB false)), ([], 4, 13, .eq (pB false)), ([], 4, 18, .eq (pB false)), ([], 4, 22, .eq (pB false)), ([], 6, 3, .eq (pB false)), ([], 6, 13, .eq (pB true)), ([], 6, 19, .eq (pB false)), ([], 6, 22, .ret (pB r_1)), ([], 6, 24, .eq (pB false)), ([], 14, 2, .ret (.tup [(pI r_4), (pI r_5)])), ([], 15, 1, .eq (pB false)), ([], 17, 4, .eq (pB false)), ([], 17, 7, .eq (pB true)), ([], 17, 12, .eq (pB false)), ([], 19, 2, .eq (pB false)), ([], 21, 1, .eq (pB true)), ([], 22, 2, .eq (pI (y_1.names.length : Int))), ([], 22, 4, .eq (pB true))] [([], 9, (.exit 0), (stOf (go (k + 2) 64 0 160 (adv [([], 9, 3, .eq (pI (y_1.names.length : Int))), ([], 9, 4, .eq (pB false))]) ref06Right2_L9 (ref06Right2_S9 i d.nodes d.most d.room y_1.kind y_1.modeF y_1.owner y_1.links y_1.openF y_1.up y_1.data y_1.names v_1))))]) (ex := .ret) (r := (pB (y_1.up == (0 : Int)))) (by kernel_rfl) rfl (by kernel_rfl) (allC (gt_list (c := NodeD.c) q1) (allC (cg q2) (allC (cg q3) (allC (cg q4) (allC (cg q5) (allC (cg q6) (allC (cg q7) (allC (cg q8) (allC (cg q9) (allC (cg q10) (allC (ref05Sorted_ok (k + 1) y_1.names _ q11) (allC (cg q12) (allC q17 (allC (ref06Names_ok (k + 1) d i _ q24) (allC (cg q25) (allC (cg q26) (allC (cg q27) (allC (cg q28) (allC (cg q29) (allC (cg q30) (allC (len_ob (rfl : (y_1.names.map entP) = y_1.names.map entP)) (allC (cg q31) allN)))))))))))))))))))))) (by kernel_rfl) allN
                                    · skip
                                      obtain rfl := Option.some.inj h
                                      exact ret_go (k := (k + 2)) Try.func64 Try.ntmps64 (by kernel_rfl) (by kernel_rfl) (Nat.le_of_ble_eq_true rfl) (adv [([], 1, 3, .elem [(pI y_1.kind), (pI y_1.modeF), (pI y_1.owner), (pI y_1.links), (pI y_1.openF), (pI y_1.up), (pS y_1.data), (.list 2 false (y_1.names.map entP))]), ([], 2, 2, .eq (pB false)), ([], 4, 3, .eq (pB false)), ([], 4, 8, .eq (pB false)), ([], 4, 13, .eq (pB false)), ([], 4, 18, .eq (pB false)), ([], 4, 22, .eq (pB false)), ([], 6, 3, .eq (pB false)), ([], 6, 13, .eq (pB true)), ([], 6, 19, .eq (pB false)), ([], 6, 22, .ret (pB r_1)), ([], 6, 24, .eq (pB false)), ([], 14, 2, .ret (.tup [(pI r_4), (pI r_5)])), ([], 15, 1, .eq (pB false)), ([], 17, 4, .eq (pB false)), ([], 17, 7, .eq (pB true)), ([], 17, 12, .eq (pB false)), ([], 19, 2, .eq (pB false)), ([], 21, 1, .eq (pB true)), ([], 22, 2, .eq (pI (y_1.names.length : Int))), ([], 22, 4, .eq (pB false))] [([], 9, (.exit 0), (stOf (go (k + 2) 64 0 160 (adv [([], 9, 3, .eq (pI (y_1.names.length : Int))), ([], 9, 4, .eq (pB false))]) ref06Right2_L9 (ref06Right2_S9 i d.nodes d.most d.room y_1.kind y_1.modeF y_1.owner y_1.links y_1.openF y_1.up y_1.data y_1.names v_1))))]) (ex := .ret) (r := (pB false)) (by kernel_rfl) rfl (by kernel_rfl) (allC (gt_list (c := NodeD.c) q1) (allC (cg q2) (allC (cg q3) (allC (cg q4) (allC (cg q5) (allC (cg q6) (allC (cg q7) (allC (cg q8) (allC (cg q9) (allC (cg q10) (allC (ref05Sorted_ok (k + 1) y_1.names _ q11) (allC (cg q12) (allC q17 (allC (ref06Names_ok (k + 1) d i _ q24) (allC (cg q25) (allC (cg q26) (allC (cg q27) (allC (cg q28) (allC (cg q29) (allC (cg q30) (allC (len_ob (rfl : (y_1.names.map entP) = y_1.names.map entP)) (allC (cg q31) allN)))))))))))))))))))))) (by kernel_rfl) allN
                                  · skip
                                    rcases bif_some h with ⟨q31, h⟩ | ⟨q31, h⟩
                                    · skip
                                      rcases bif_some h with ⟨q32, h⟩ | ⟨q32, h⟩
                                      · skip
                                        obtain ⟨r_6, q33, h⟩ := bnd_some h
                                        obtain rfl := Option.some.inj h
                                        exact ret_go (k := (k + 2)) Try.func64 Try.ntmps64 (by kernel_rfl) (by kernel_rfl) (Nat.le_of_ble_eq_true rfl) (adv [([], 1, 3, .elem [(pI y_1.kind), (pI y_1.modeF), (pI y_1.owner), (pI y_1.links), (pI y_1.openF), (pI y_1.up), (pS y_1.data), (.list 2 false (y_1.names.map entP))]), ([], 2, 2, .eq (pB false)), ([], 4, 3, .eq (pB false)), ([], 4, 8, .eq (pB false)), ([], 4, 13, .eq (pB false)), ([], 4, 18, .eq (pB false)), ([], 4, 22, .eq (pB false)), ([], 6, 3, .eq (pB false)), ([], 6, 13, .eq (pB true)), ([], 6, 19, .eq (pB false)), ([], 6, 22, .ret (pB r_1)), ([], 6, 24, .eq (pB false)), ([], 14, 2, .ret (.tup [(pI r_4), (pI r_5)])), ([], 15, 1, .eq (pB false)), ([], 17, 4, .eq (pB false)), ([], 17, 7, .eq (pB true)), ([], 17, 12, .eq (pB false)), ([], 19, 2, .eq (pB false)), ([], 21, 1, .eq (pB false)), ([], 23, 2, .eq (pB true)), ([], 23, 8, .eq (pB true)), ([], 23, 11, .ret (pB r_6))] [([], 9, (.exit 0), (stOf (go (k + 2) 64 0 160 (adv [([], 9, 3, .eq (pI (y_1.names.length : Int))), ([], 9, 4, .eq (pB false))]) ref06Right2_L9 (ref06Right2_S9 i d.nodes d.most d.room y_1.kind y_1.modeF y_1.owner y_1.links y_1.openF y_1.up y_1.data y_1.names v_1))))]) (ex := .ret) (r := (pB r_6)) (by kernel_rfl) rfl (by kernel_rfl) (allC (gt_list (c := NodeD.c) q1) (allC (cg q2) (allC (cg q3) (allC (cg q4) (allC (cg q5) (allC (cg q6) (allC (cg q7) (allC (cg q8) (allC (cg q9) (allC (cg q10) (allC (ref05Sorted_ok (k + 1) y_1.names _ q11) (allC (cg q12) (allC q17 (allC (ref06Names_ok (k + 1) d i _ q24) (allC (cg q25) (allC (cg q26) (allC (cg q27) (allC (cg q28) (allC (cg q29) (allC (cg q30) (allC (cg q31) (allC (cg q32) (allC (ref06Rooted_ok k d i _ q33) allN))))))))))))))))))))))) (by kernel_rfl) allN
                                      · skip
                                        obtain rfl := Option.some.inj h
                                        exact ret_go (k := (k + 2)) Try.func64 Try.ntmps64 (by kernel_rfl) (by kernel_rfl) (Nat.le_of_ble_eq_true rfl) (adv [([], 1, 3, .elem [(pI y_1.kind), (pI y_1.modeF), (pI y_1.owner), (pI y_1.links), (pI y_1.openF), (pI y_1.up), (pS y_1.data), (.list 2 false (y_1.names.map entP))]), ([], 2, 2, .eq (pB false)), ([], 4, 3, .eq (pB false)), ([], 4, 8, .eq (pB false)), ([], 4, 13, .eq (pB false)), ([], 4, 18, .eq (pB false)), ([], 4, 22, .eq (pB false)), ([], 6, 3, .eq (pB false)), ([], 6, 13, .eq (pB true)), ([], 6, 19, .eq (pB false)), ([], 6, 22, .ret (pB r_1)), ([], 6, 24, .eq (pB false)), ([], 14, 2, .ret (.tup [(pI r_4), (pI r_5)])), ([], 15, 1, .eq (pB false)), ([], 17, 4, .eq (pB false)), ([], 17, 7, .eq (pB true)), ([], 17, 12, .eq (pB false)), ([], 19, 2, .eq (pB false)), ([], 21, 1, .eq (pB false)), ([], 23, 2, .eq (pB true)), ([], 23, 8, .eq (pB false))] [([], 9, (.exit 0), (stOf (go (k + 2) 64 0 160 (adv [([], 9, 3, .eq (pI (y_1.names.length : Int))), ([], 9, 4, .eq (pB false))]) ref06Right2_L9 (ref06Right2_S9 i d.nodes d.most d.room y_1.kind y_1.modeF y_1.owner y_1.links y_1.openF y_1.up y_1.data y_1.names v_1))))]) (ex := .ret) (r := (pB false)) (by kernel_rfl) rfl (by kernel_rfl) (allC (gt_list (c := NodeD.c) q1) (allC (cg q2) (allC (cg q3) (allC (cg q4) (allC (cg q5) (allC (cg q6) (allC (cg q7) (allC (cg q8) (allC (cg q9) (allC (cg q10) (allC (ref05Sorted_ok (k + 1) y_1.names _ q11) (allC (cg q12) (allC q17 (allC (ref06Names_ok (k + 1) d i _ q24) (allC (cg q25) (allC (cg q26) (allC (cg q27) (allC (cg q28) (allC (cg q29) (allC (cg q30) (allC (cg q31) (allC (cg q32) allN)))))))))))))))))))))) (by kernel_rfl) allN
                                    · skip
                                      obtain rfl := Option.some.inj h
                                      exact ret_go (k := (k + 2)) Try.func64 Try.ntmps64 (by kernel_rfl) (by kernel_rfl) (Nat.le_of_ble_eq_true rfl) (adv [([], 1, 3, .elem [(pI y_1.kind), (pI y_1.modeF), (pI y_1.owner), (pI y_1.links), (pI y_1.openF), (pI y_1.up), (pS y_1.data), (.list 2 false (y_1.names.map entP))]), ([], 2, 2, .eq (pB false)), ([], 4, 3, .eq (pB false)), ([], 4, 8, .eq (pB false)), ([], 4, 13, .eq (pB false)), ([], 4, 18, .eq (pB false)), ([], 4, 22, .eq (pB false)), ([], 6, 3, .eq (pB false)), ([], 6, 13, .eq (pB true)), ([], 6, 19, .eq (pB false)), ([], 6, 22, .ret (pB r_1)), ([], 6, 24, .eq (pB false)), ([], 14, 2, .ret (.tup [(pI r_4), (pI r_5)])), ([], 15, 1, .eq (pB false)), ([], 17, 4, .eq (pB false)), ([], 17, 7, .eq (pB true)), ([], 17, 12, .eq (pB false)), ([], 19, 2, .eq (pB false)), ([], 21, 1, .eq (pB false)), ([], 23, 2, .eq (pB false))] [([], 9, (.exit 0), (stOf (go (k + 2) 64 0 160 (adv [([], 9, 3, .eq (pI (y_1.names.length : Int))), ([], 9, 4, .eq (pB false))]) ref06Right2_L9 (ref06Right2_S9 i d.nodes d.most d.room y_1.kind y_1.modeF y_1.owner y_1.links y_1.openF y_1.up y_1.data y_1.names v_1))))]) (ex := .ret) (r := (pB false)) (by kernel_rfl) rfl (by kernel_rfl) (allC (gt_list (c := NodeD.c) q1) (allC (cg q2) (allC (cg q3) (allC (cg q4) (allC (cg q5) (allC (cg q6) (allC (cg q7) (allC (cg q8) (allC (cg q9) (allC (cg q10) (allC (ref05Sorted_ok (k + 1) y_1.names _ q11) (allC (cg q12) (allC q17 (allC (ref06Names_ok (k + 1) d i _ q24) (allC (cg q25) (allC (cg q26) (allC (cg q27) (allC (cg q28) (allC (cg q29) (allC (cg q30) (allC (cg q31) allN))))))))))))))))))))) (by kernel_rfl) allN
                            · skip
                              rcases bif_some h with ⟨q28, h⟩ | ⟨q28, h⟩
                              · skip
                                obtain rfl := Option.some.inj h
                                exact ret_go (k := (k + 2)) Try.func64 Try.ntmps64 (by kernel_rfl) (by kernel_rfl) (Nat.le_of_ble_eq_true rfl) (adv [([], 1, 3, .elem [(pI y_1.kind), (pI y_1.modeF), (pI y_1.owner), (pI y_1.links), (pI y_1.openF), (pI y_1.up), (pS y_1.data), (.list 2 false (y_1.names.map entP))]), ([], 2, 2, .eq (pB false)), ([], 4, 3, .eq (pB false)), ([], 4, 8, .eq (pB false)), ([], 4, 13, .eq (pB false)), ([], 4, 18, .eq (pB false)), ([], 4, 22, .eq (pB false)), ([], 6, 3, .eq (pB false)), ([], 6, 13, .eq (pB true)), ([], 6, 19, .eq (pB false)), ([], 6, 22, .ret (pB r_1)), ([], 6, 24, .eq (pB false)), ([], 14, 2, .ret (.tup [(pI r_4), (pI r_5)])), ([], 15, 1, .eq (pB false)), ([], 17, 4, .eq (pB false)), ([], 17, 7, .eq (pB false)), ([], 19, 2, .eq (pB true))] [([], 9, (.exit 0), (stOf (go (k + 2) 64 0 160 (adv [([], 9, 3, .eq (pI (y_1.names.length : Int))), ([], 9, 4, .eq (pB false))]) ref06Right2_L9 (ref06Right2_S9 i d.nodes d.most d.room y_1.kind y_1.modeF y_1.owner y_1.links y_1.openF y_1.up y_1.data y_1.names v_1))))]) (ex := .ret) (r := (pB true)) (by kernel_rfl) rfl (by kernel_rfl) (allC (gt_list (c := NodeD.c) q1) (allC (cg q2) (allC (cg q3) (allC (cg q4) (allC (cg q5) (allC (cg q6) (allC (cg q7) (allC (cg q8) (allC (cg q9) (allC (cg q10) (allC (ref05Sorted_ok (k + 1) y_1.names _ q11) (allC (cg q12) (allC q17 (allC (ref06Names_ok (k + 1) d i _ q24) (allC (cg q25) (allC (cg q26) (allC (cg q27) (allC (cg q28) allN)))))))))))))))))) (by kernel_rfl) allN
                              · skip
                                rcases bif_some h with ⟨q29, h⟩ | ⟨q29, h⟩
                                · skip
                                  rcases bif_some h with ⟨q30, h⟩ | ⟨q30, h⟩
                                  · skip
                                    obtain rfl := Option.some.inj h
                                    exact ret_go (k := (k + 2)) Try.func64 Try.ntmps64 (by kernel_rfl) (by kernel_rfl) (Nat.le_of_ble_eq_true rfl) (adv [([], 1, 3, .elem [(pI y_1.kind), (pI y_1.modeF), (pI y_1.owner), (pI y_1.links), (pI y_1.openF), (pI y_1.up), (pS y_1.data), (.list 2 false (y_1.names.map entP))]), ([], 2, 2, .eq (pB false)), ([], 4, 3, .eq (pB false)), ([], 4, 8, .eq (pB false)), ([], 4, 13, .eq (pB false)), ([], 4, 18, .eq (pB false)), ([], 4, 22, .eq (pB false)), ([], 6, 3, .eq (pB false)), ([], 6, 13, .eq (pB true)), ([], 6, 19, .eq (pB false)), ([], 6, 22, .ret (pB r_1)), ([], 6, 24, .eq (pB false)), ([], 14, 2, .ret (.tup [(pI r_4), (pI r_5)])), ([], 15, 1, .eq (pB false)), ([], 17, 4, .eq (pB false)), ([], 17, 7, .eq (pB false)), ([], 19, 2, .eq (pB false)), ([], 21, 1, .eq (pB true)), ([], 22, 2, .eq (pI (y_1.names.length : Int))), ([], 22, 4, .eq (pB true))] [([], 9, (.exit 0), (stOf (go (k + 2) 64 0 160 (adv [([], 9, 3, .eq (pI (y_1.names.length : Int))), ([], 9, 4, .eq (pB false))]) ref06Right2_L9 (ref06Right2_S9 i d.nodes d.most d.room y_1.kind y_1.modeF y_1.owner y_1.links y_1.openF y_1.up y_1.data y_1.names v_1))))]) (ex := .ret) (r := (pB (y_1.up == (0 : Int)))) (by kernel_rfl) rfl (by kernel_rfl) (allC (gt_list (c := NodeD.c) q1) (allC (cg q2) (allC (cg q3) (allC (cg q4) (allC (cg q5) (allC (cg q6) (allC (cg q7) (allC (cg q8) (allC (cg q9) (allC (cg q10) (allC (ref05Sorted_ok (k + 1) y_1.names _ q11) (allC (cg q12) (allC q17 (allC (ref06Names_ok (k + 1) d i _ q24) (allC (cg q25) (allC (cg q26) (allC (cg q27) (allC (cg q28) (allC (cg q29) (allC (len_ob (rfl : (y_1.names.map entP) = y_1.names.map entP)) (allC (cg q30) allN))))))))))))))))))))) (by kernel_rfl) allN
                                  · skip
                                    obtain rfl := Option.some.inj h
                                    exact ret_go (k := (k + 2)) Try.func64 Try.ntmps64 (by kernel_rfl) (by kernel_rfl) (Nat.le_of_ble_eq_true rfl) (adv [([], 1, 3, .elem [(pI y_1.kind), (pI y_1.modeF), (pI y_1.owner), (pI y_1.links), (pI y_1.openF), (pI y_1.up), (pS y_1.data), (.list 2 false (y_1.names.map entP))]), ([], 2, 2, .eq (pB false)), ([], 4, 3, .eq (pB false)), ([], 4, 8, .eq (pB false)), ([], 4, 13, .eq (pB false)), ([], 4, 18, .eq (pB false)), ([], 4, 22, .eq (pB false)), ([], 6, 3, .eq (pB false)), ([], 6, 13, .eq (pB true)), ([], 6, 19, .eq (pB false)), ([], 6, 22, .ret (pB r_1)), ([], 6, 24, .eq (pB false)), ([], 14, 2, .ret (.tup [(pI r_4), (pI r_5)])), ([], 15, 1, .eq (pB false)), ([], 17, 4, .eq (pB false)), ([], 17, 7, .eq (pB false)), ([], 19, 2, .eq (pB false)), ([], 21, 1, .eq (pB true)), ([], 22, 2, .eq (pI (y_1.names.length : Int))), ([], 22, 4, .eq (pB false))] [([], 9, (.exit 0), (stOf (go (k + 2) 64 0 160 (adv [([], 9, 3, .eq (pI (y_1.names.length : Int))), ([], 9, 4, .eq (pB false))]) ref06Right2_L9 (ref06Right2_S9 i d.nodes d.most d.room y_1.kind y_1.modeF y_1.owner y_1.links y_1.openF y_1.up y_1.data y_1.names v_1))))]) (ex := .ret) (r := (pB false)) (by kernel_rfl) rfl (by kernel_rfl) (allC (gt_list (c := NodeD.c) q1) (allC (cg q2) (allC (cg q3) (allC (cg q4) (allC (cg q5) (allC (cg q6) (allC (cg q7) (allC (cg q8) (allC (cg q9) (allC (cg q10) (allC (ref05Sorted_ok (k + 1) y_1.names _ q11) (allC (cg q12) (allC q17 (allC (ref06Names_ok (k + 1) d i _ q24) (allC (cg q25) (allC (cg q26) (allC (cg q27) (allC (cg q28) (allC (cg q29) (allC (len_ob (rfl : (y_1.names.map entP) = y_1.names.map entP)) (allC (cg q30) allN))))))))))))))))))))) (by kernel_rfl) allN
                                · skip
                                  rcases bif_some h with ⟨q30, h⟩ | ⟨q30, h⟩
                                  · skip
                                    rcases bif_some h with ⟨q31, h⟩ | ⟨q31, h⟩
                                    · skip
                                      obtain ⟨r_6, q32, h⟩ := bnd_some h
                                      obtain rfl := Option.some.inj h
                                      exact ret_go (k := (k + 2)) Try.func64 Try.ntmps64 (by kernel_rfl) (by kernel_rfl) (Nat.le_of_ble_eq_true rfl) (adv [([], 1, 3, .elem [(pI y_1.kind), (pI y_1.modeF), (pI y_1.owner), (pI y_1.links), (pI y_1.openF), (pI y_1.up), (pS y_1.data), (.list 2 false (y_1.names.map entP))]), ([], 2, 2, .eq (pB false)), ([], 4, 3, .eq (pB false)), ([], 4, 8, .eq (pB false)), ([], 4, 13, .eq (pB false)), ([], 4, 18, .eq (pB false)), ([], 4, 22, .eq (pB false)), ([], 6, 3, .eq (pB false)), ([], 6, 13, .eq (pB true)), ([], 6, 19, .eq (pB false)), ([], 6, 22, .ret (pB r_1)), ([], 6, 24, .eq (pB false)), ([], 14, 2, .ret (.tup [(pI r_4), (pI r_5)])), ([], 15, 1, .eq (pB false)), ([], 17, 4, .eq (pB false)), ([], 17, 7, .eq (pB false)), ([], 19, 2, .eq (pB false)), ([], 21, 1, .eq (pB false)), ([], 23, 2, .eq (pB true)), ([], 23, 8, .eq (pB true)), ([], 23, 11, .ret (pB r_6))] [([], 9, (.exit 0), (stOf (go (k + 2) 64 0 160 (adv [([], 9, 3, .eq (pI (y_1.names.length : Int))), ([], 9, 4, .eq (pB false))]) ref06Right2_L9 (ref06Right2_S9 i d.nodes d.most d.room y_1.kind y_1.modeF y_1.owner y_1.links y_1.openF y_1.up y_1.data y_1.names v_1))))]) (ex := .ret) (r := (pB r_6)) (by kernel_rfl) rfl (by kernel_rfl) (allC (gt_list (c := NodeD.c) q1) (allC (cg q2) (allC (cg q3) (allC (cg q4) (allC (cg q5) (allC (cg q6) (allC (cg q7) (allC (cg q8) (allC (cg q9) (allC (cg q10) (allC (ref05Sorted_ok (k + 1) y_1.names _ q11) (allC (cg q12) (allC q17 (allC (ref06Names_ok (k + 1) d i _ q24) (allC (cg q25) (allC (cg q26) (allC (cg q27) (allC (cg q28) (allC (cg q29) (allC (cg q30) (allC (cg q31) (allC (ref06Rooted_ok k d i _ q32) allN)))))))))))))))))))))) (by kernel_rfl) allN
                                    · skip
                                      obtain rfl := Option.some.inj h
                                      exact ret_go (k := (k + 2)) Try.func64 Try.ntmps64 (by kernel_rfl) (by kernel_rfl) (Nat.le_of_ble_eq_true rfl) (adv [([], 1, 3, .elem [(pI y_1.kind), (pI y_1.modeF), (pI y_1.owner), (pI y_1.links), (pI y_1.openF), (pI y_1.up), (pS y_1.data), (.list 2 false (y_1.names.map entP))]), ([], 2, 2, .eq (pB false)), ([], 4, 3, .eq (pB false)), ([], 4, 8, .eq (pB false)), ([], 4, 13, .eq (pB false)), ([], 4, 18, .eq (pB false)), ([], 4, 22, .eq (pB false)), ([], 6, 3, .eq (pB false)), ([], 6, 13, .eq (pB true)), ([], 6, 19, .eq (pB false)), ([], 6, 22, .ret (pB r_1)), ([], 6, 24, .eq (pB false)), ([], 14, 2, .ret (.tup [(pI r_4), (pI r_5)])), ([], 15, 1, .eq (pB false)), ([], 17, 4, .eq (pB false)), ([], 17, 7, .eq (pB false)), ([], 19, 2, .eq (pB false)), ([], 21, 1, .eq (pB false)), ([], 23, 2, .eq (pB true)), ([], 23, 8, .eq (pB false))] [([], 9, (.exit 0), (stOf (go (k + 2) 64 0 160 (adv [([], 9, 3, .eq (pI (y_1.names.length : Int))), ([], 9, 4, .eq (pB false))]) ref06Right2_L9 (ref06Right2_S9 i d.nodes d.most d.room y_1.kind y_1.modeF y_1.owner y_1.links y_1.openF y_1.up y_1.data y_1.names v_1))))]) (ex := .ret) (r := (pB false)) (by kernel_rfl) rfl (by kernel_rfl) (allC (gt_list (c := NodeD.c) q1) (allC (cg q2) (allC (cg q3) (allC (cg q4) (allC (cg q5) (allC (cg q6) (allC (cg q7) (allC (cg q8) (allC (cg q9) (allC (cg q10) (allC (ref05Sorted_ok (k + 1) y_1.names _ q11) (allC (cg q12) (allC q17 (allC (ref06Names_ok (k + 1) d i _ q24) (allC (cg q25) (allC (cg q26) (allC (cg q27) (allC (cg q28) (allC (cg q29) (allC (cg q30) (allC (cg q31) allN))))))))))))))))))))) (by kernel_rfl) allN
                                  · skip
                                    obtain rfl := Option.some.inj h
                                    exact ret_go (k := (k + 2)) Try.func64 Try.ntmps64 (by kernel_rfl) (by kernel_rfl) (Nat.le_of_ble_eq_true rfl) (adv [([], 1, 3, .elem [(pI y_1.kind), (pI y_1.modeF), (pI y_1.owner), (pI y_1.links), (pI y_1.openF), (pI y_1.up), (pS y_1.data), (.list 2 false (y_1.names.map entP))]), ([], 2, 2, .eq (pB false)), ([], 4, 3, .eq (pB false)), ([], 4, 8, .eq (pB false)), ([], 4, 13, .eq (pB false)), ([], 4, 18, .eq (pB false)), ([], 4, 22, .eq (pB false)), ([], 6, 3, .eq (pB false)), ([], 6, 13, .eq (pB true)), ([], 6, 19, .eq (pB false)), ([], 6, 22, .ret (pB r_1)), ([], 6, 24, .eq (pB false)), ([], 14, 2, .ret (.tup [(pI r_4), (pI r_5)])), ([], 15, 1, .eq (pB false)), ([], 17, 4, .eq (pB false)), ([], 17, 7, .eq (pB false)), ([], 19, 2, .eq (pB false)), ([], 21, 1, .eq (pB false)), ([], 23, 2, .eq (pB false))] [([], 9, (.exit 0), (stOf (go (k + 2) 64 0 160 (adv [([], 9, 3, .eq (pI (y_1.names.length : Int))), ([], 9, 4, .eq (pB false))]) ref06Right2_L9 (ref06Right2_S9 i d.nodes d.most d.room y_1.kind y_1.modeF y_1.owner y_1.links y_1.openF y_1.up y_1.data y_1.names v_1))))]) (ex := .ret) (r := (pB false)) (by kernel_rfl) rfl (by kernel_rfl) (allC (gt_list (c := NodeD.c) q1) (allC (cg q2) (allC (cg q3) (allC (cg q4) (allC (cg q5) (allC (cg q6) (allC (cg q7) (allC (cg q8) (allC (cg q9) (allC (cg q10) (allC (ref05Sorted_ok (k + 1) y_1.names _ q11) (allC (cg q12) (allC q17 (allC (ref06Names_ok (k + 1) d i _ q24) (allC (cg q25) (allC (cg q26) (allC (cg q27) (allC (cg q28) (allC (cg q29) (allC (cg q30) allN)))))))))))))))))))) (by kernel_rfl) allN
                · skip
                  obtain ⟨r_1, q10, h⟩ := bnd_some h
                  rcases bif_some h with ⟨q11, h⟩ | ⟨q11, h⟩
                  · skip
                    obtain rfl := Option.some.inj h
                    exact ret_go (k := (k + 2)) Try.func64 Try.ntmps64 (by kernel_rfl) (by kernel_rfl) (Nat.le_of_ble_eq_true rfl) (adv [([], 1, 3, .elem [(pI y_1.kind), (pI y_1.modeF), (pI y_1.owner), (pI y_1.links), (pI y_1.openF), (pI y_1.up), (pS y_1.data), (.list 2 false (y_1.names.map entP))]), ([], 2, 2, .eq (pB false)), ([], 4, 3, .eq (pB false)), ([], 4, 8, .eq (pB false)), ([], 4, 13, .eq (pB false)), ([], 4, 18, .eq (pB false)), ([], 4, 22, .eq (pB false)), ([], 6, 3, .eq (pB false)), ([], 6, 13, .eq (pB false)), ([], 6, 22, .ret (pB r_1)), ([], 6, 24, .eq (pB true))]) (ex := .ret) (r := (pB false)) (by kernel_rfl) rfl (by kernel_rfl) (allC (gt_list (c := NodeD.c) q1) (allC (cg q2) (allC (cg q3) (allC (cg q4) (allC (cg q5) (allC (cg q6) (allC (cg q7) (allC (cg q8) (allC (cg q9) (allC (ref05Sorted_ok (k + 1) y_1.names _ q10) (allC (cg q11) allN))))))))))) (by kernel_rfl) allN
                  · skip
                    obtain ⟨X_1, q12, h⟩ := bnd_some h
                    obtain ⟨v_1, q13, q14⟩ := loop_iter (f := run1 (k + 2) 64 0 160 ref06Right2_L9) (ref06Right2_S9 i d.nodes d.most d.room y_1.kind y_1.modeF y_1.owner y_1.links y_1.openF y_1.up y_1.data y_1.names) (ref06Right2_b9 i d.nodes d.most d.room y_1.kind y_1.modeF y_1.owner y_1.links y_1.openF y_1.up y_1.data y_1.names) (ref06Right2_t9 k i d.nodes d.most d.room y_1.kind y_1.modeF y_1.owner y_1.links y_1.openF y_1.up y_1.data y_1.names) LF (0 : Int) _ (stOf (goStop (k + 2) 64 0 160 (adv [([], 1, 3, .elem [(pI y_1.kind), (pI y_1.modeF), (pI y_1.owner), (pI y_1.links), (pI y_1.openF), (pI y_1.up), (pS y_1.data), (.list 2 false (y_1.names.map entP))]), ([], 2, 2, .eq (pB false)), ([], 4, 3, .eq (pB false)), ([], 4, 8, .eq (pB false)), ([], 4, 13, .eq (pB false)), ([], 4, 18, .eq (pB false)), ([], 4, 22, .eq (pB false)), ([], 6, 3, .eq (pB false)), ([], 6, 13, .eq (pB false)), ([], 6, 22, .ret (pB r_1)), ([], 6, 24, .eq (pB false))]) 9 (codeOf Try.f64) (argS 64 [(.agg [(.list 8 false (d.nodes.map NodeD.c)), (pI d.most), (pI d.room)]), (pI i)]))) q12 (by kernel_rfl)
                    unfold ref06Right2_b9 at q13
                    try dsimp only at q13
                    rcases bif_some q13 with ⟨q17, q13⟩ | ⟨q17, q13⟩
                    · skip
                      obtain ⟨y_2, q18, q13⟩ := bnd_some q13
                      obtain ⟨⟨r_2, r_3⟩, q19, q13⟩ := bnd_some q13
                      try dsimp only at q13
                      rcases bif_some q13 with ⟨q20, q13⟩ | ⟨q20, q13⟩
                      · skip
                        cases q13
                        try dsimp only at h
                        have q15 := run_go (k := (k + 2)) (f := 64) (r0 := 0) (nt := 160) (c := ref06Right2_L9) (σ := (ref06Right2_S9 i d.nodes d.most d.room y_1.kind y_1.modeF y_1.owner y_1.links y_1.openF y_1.up y_1.data y_1.names v_1)) (adv [([], 9, 3, .eq (pI (y_1.names.length : Int))), ([], 9, 4, .eq (pB true)), ([], 11, 4, .elem [(pS y_2.name), (pI y_2.ino)]), ([], 11, 7, .ret (.tup [(.agg [(pI r_2.kind), (pI r_2.modeF), (pI r_2.owner), (pI r_2.links), (pI r_2.openF), (pI r_2.up), (pS r_2.data), (.list 2 false (r_2.names.map entP))]), (pB r_3)])), ([], 12, 2, .eq (pB true))]) (ex := .ret) (by kernel_rfl) (by kernel_rfl) (allC (len_ob (rfl : (y_1.names.map entP) = y_1.names.map entP)) (allC (cg q17) (allC (gt_list (c := entP) q18) (allC (gt_list (c := entP) q18) (allC (ref06Get_ok (k + 1) d y_2.ino _ q19) (allC (ref06Get_ok (k + 1) d y_2.ino _ q19) (allC (cg q20) allN)))))))
                        have q16 := q14 _ _ (by intro e; cases e) q15
                        obtain rfl := Option.some.inj h
                        exact ret_go (k := (k + 2)) Try.func64 Try.ntmps64 (by kernel_rfl) (by kernel_rfl) (Nat.le_of_ble_eq_true rfl) (adv [([], 1, 3, .elem [(pI y_1.kind), (pI y_1.modeF), (pI y_1.owner), (pI y_1.links), (pI y_1.openF), (pI y_1.up), (pS y_1.data), (.list 2 false (y_1.names.map entP))]), ([], 2, 2, .eq (pB false)), ([], 4, 3, .eq (pB false)), ([], 4, 8, .eq (pB false)), ([], 4, 13, .eq (pB false)), ([], 4, 18, .eq (pB false)), ([], 4, 22, .eq (pB false)), ([], 6, 3, .eq (pB false)), ([], 6, 13, .eq (pB false)), ([], 6, 22, .ret (pB r_1)), ([], 6, 24, .eq (pB false))] [([], 9, .ret, (stOf (go (k + 2) 64 0 160 (adv [([], 9, 3, .eq (pI (y_1.names.length : Int))), ([], 9, 4, .eq (pB true)), ([], 11, 4, .elem [(pS y_2.name), (pI y_2.ino)]), ([], 11, 7, .ret (.tup [(.agg [(pI r_2.kind), (pI r_2.modeF), (pI r_2.owner), (pI r_2.links), (pI r_2.openF), (pI r_2.up), (pS r_2.data), (.list 2 false (r_2.names.map entP))]), (pB r_3)])), ([], 12, 2, .eq (pB true))]) ref06Right2_L9 (ref06Right2_S9 i d.nodes d.most d.room y_1.kind y_1.modeF y_1.owner y_1.links y_1.openF y_1.up y_1.data y_1.names v_1))))]) (ex := .ret) (r := (pB false)) (by kernel_rfl) rfl (by kernel_rfl) (allC (gt_list (c := NodeD.c) q1) (allC (cg q2) (allC (cg q3) (allC (cg q4) (allC (cg q5) (allC (cg q6) (allC (cg q7) (allC (cg q8) (allC (cg q9) (allC (ref05Sorted_ok (k + 1) y_1.names _ q10) (allC (cg q11) (allC q16 allN)))))))))))) (by kernel_rfl) allN
                      · skip
                        obtain ⟨y_3, q21, q13⟩ := bnd_some q13
                        rcases bif_some q13 with ⟨q22, q13⟩ | ⟨q22, q13⟩
                        · skip
                          cases q13
                          try dsimp only at h
                          have q15 := run_go (k := (k + 2)) (f := 64) (r0 := 0) (nt := 160) (c := ref06Right2_L9) (σ := (ref06Right2_S9 i d.nodes d.most d.room y_1.kind y_1.modeF y_1.owner y_1.links y_1.openF y_1.up y_1.data y_1.names v_1)) (adv [([], 9, 3, .eq (pI (y_1.names.length : Int))), ([], 9, 4, .eq (pB true)), ([], 11, 4, .elem [(pS y_2.name), (pI y_2.ino)]), ([], 11, 7, .ret (.tup [(.agg [(pI r_2.kind), (pI r_2.modeF), (pI r_2.owner), (pI r_2.links), (pI r_2.openF), (pI r_2.up), (pS r_2.data), (.list 2 false (r_2.names.map entP))]), (pB r_3)])), ([], 12, 2, .eq (pB false)), ([], 12, 6, .elem [(pS y_3.name), (pI y_3.ino)]), ([], 12, 10, .eq (pB true))]) (ex := .ret) (by kernel_rfl) (by kernel_rfl) (allC (len_ob (rfl : (y_1.names.map entP) = y_1.names.map entP)) (allC (cg q17) (allC (gt_list (c := entP) q18) (allC (gt_list (c := entP) q18) (allC (ref06Get_ok (k + 1) d y_2.ino _ q19) (allC (ref06Get_ok (k + 1) d y_2.ino _ q19) (allC (cg q20) (allC (gt_list (c := entP) q21) (allC (cg q22) allN)))))))))
                          have q16 := q14 _ _ (by intro e; cases e) q15
                          obtain rfl := Option.some.inj h
                          exact ret_go (k := (k + 2)) Try.func64 Try.ntmps64 (by kernel_rfl) (by kernel_rfl) (Nat.le_of_ble_eq_true rfl) (adv [([], 1, 3, .elem [(pI y_1.kind), (pI y_1.modeF), (pI y_1.owner), (pI y_1.links), (pI y_1.openF), (pI y_1.up), (pS y_1.data), (.list 2 false (y_1.names.map entP))]), ([], 2, 2, .eq (pB false)), ([], 4, 3, .eq (pB false)), ([], 4, 8, .eq (pB false)), ([], 4, 13, .eq (pB false)), ([], 4, 18, .eq (pB false)), ([], 4, 22, .eq (pB false)), ([], 6, 3, .eq (pB false)), ([], 6, 13, .eq (pB false)), ([], 6, 22, .ret (pB r_1)), ([], 6, 24, .eq (pB false))] [([], 9, .ret, (stOf (go (k + 2) 64 0 160 (adv [([], 9, 3, .eq (pI (y_1.names.length : Int))), ([], 9, 4, .eq (pB true)), ([], 11, 4, .elem [(pS y_2.name), (pI y_2.ino)]), ([], 11, 7, .ret (.tup [(.agg [(pI r_2.kind), (pI r_2.modeF), (pI r_2.owner), (pI r_2.links), (pI r_2.openF), (pI r_2.up), (pS r_2.data), (.list 2 false (r_2.names.map entP))]), (pB r_3)])), ([], 12, 2, .eq (pB false)), ([], 12, 6, .elem [(pS y_3.name), (pI y_3.ino)]), ([], 12, 10, .eq (pB true))]) ref06Right2_L9 (ref06Right2_S9 i d.nodes d.most d.room y_1.kind y_1.modeF y_1.owner y_1.links y_1.openF y_1.up y_1.data y_1.names v_1))))]) (ex := .ret) (r := (pB false)) (by kernel_rfl) rfl (by kernel_rfl) (allC (gt_list (c := NodeD.c) q1) (allC (cg q2) (allC (cg q3) (allC (cg q4) (allC (cg q5) (allC (cg q6) (allC (cg q7) (allC (cg q8) (allC (cg q9) (allC (ref05Sorted_ok (k + 1) y_1.names _ q10) (allC (cg q11) (allC q16 allN)))))))))))) (by kernel_rfl) allN
                        · skip
                          cases q13
                    · skip
                      cases q13
                      try dsimp only at h
                      have q15 := run_go (k := (k + 2)) (f := 64) (r0 := 0) (nt := 160) (c := ref06Right2_L9) (σ := (ref06Right2_S9 i d.nodes d.most d.room y_1.kind y_1.modeF y_1.owner y_1.links y_1.openF y_1.up y_1.data y_1.names v_1)) (adv [([], 9, 3, .eq (pI (y_1.names.length : Int))), ([], 9, 4, .eq (pB false))]) (ex := (.exit 0)) (by kernel_rfl) (by kernel_rfl) (allC (len_ob (rfl : (y_1.names.map entP) = y_1.names.map entP)) (allC (cg q17) allN))
                      have q16 := q14 _ _ (by intro e; cases e) q15
                      obtain ⟨⟨r_4, r_5⟩, q23, h⟩ := bnd_some h
                      try dsimp only at h
                      rcases bif_some h with ⟨q24, h⟩ | ⟨q24, h⟩
                      · skip
                        rcases bif_some h with ⟨q25, h⟩ | ⟨q25, h⟩
                        · skip
                          rcases bif_some h with ⟨q26, h⟩ | ⟨q26, h⟩
                          · skip
                            obtain rfl := Option.some.inj h
                            exact ret_go (k := (k + 2)) Try.func64 Try.ntmps64 (by kernel_rfl) (by kernel_rfl) (Nat.le_of_ble_eq_true rfl) (adv [([], 1, 3, .elem [(pI y_1.kind), (pI y_1.modeF), (pI y_1.owner), (pI y_1.links), (pI y_1.openF), (pI y_1.up), (pS y_1.data), (.list 2 false (y_1.names.map entP))]), ([], 2, 2, .eq (pB false)), ([], 4, 3, .eq (pB false)), ([], 4, 8, .eq (pB false)), ([], 4, 13, .eq (pB false)), ([], 4, 18, .eq (pB false)), ([], 4, 22, .eq (pB false)), ([], 6, 3, .eq (pB false)), ([], 6, 13, .eq (pB false)), ([], 6, 22, .ret (pB r_1)), ([], 6, 24, .eq (pB false)), ([], 14, 2, .ret (.tup [(pI r_4), (pI r_5)])), ([], 15, 1, .eq (pB true)), ([], 16, 3, .eq (pB true)), ([], 16, 8, .eq (pB true))] [([], 9, (.exit 0), (stOf (go (k + 2) 64 0 160 (adv [([], 9, 3, .eq (pI (y_1.names.length : Int))), ([], 9, 4, .eq (pB false))]) ref06Right2_L9 (ref06Right2_S9 i d.nodes d.most d.room y_1.kind y_1.modeF y_1.owner y_1.links y_1.openF y_1.up y_1.data y_1.names v_1))))]) (ex := .ret) (r := (pB (y_1.links == (1 : Int)))) (by kernel_rfl) rfl (by kernel_rfl) (allC (gt_list (c := NodeD.c) q1) (allC (cg q2) (allC (cg q3) (allC (cg q4) (allC (cg q5) (allC (cg q6) (allC (cg q7) (allC (cg q8) (allC (cg q9) (allC (ref05Sorted_ok (k + 1) y_1.names _ q10) (allC (cg q11) (allC q16 (allC (ref06Names_ok (k + 1) d i _ q23) (allC (cg q24) (allC (cg q25) (allC (cg q26) allN)))))))))))))))) (by kernel_rfl) allN
                          · skip
                            obtain rfl := Option.some.inj h
                            exact ret_go (k := (k + 2)) Try.func64 Try.ntmps64 (by kernel_rfl) (by kernel_rfl) (Nat.le_of_ble_eq_true rfl) (adv [([], 1, 3, .elem [(pI y_1.kind), (pI y_1.modeF), (pI y_1.owner), (pI y_1.links), (pI y_1.openF), (pI y_1.up), (pS y_1.data), (.list 2 false (y_1.names.map entP))]), ([], 2, 2, .eq (pB false)), ([], 4, 3, .eq (pB false)), ([], 4, 8, .eq (pB false)), ([], 4, 13, .eq (pB false)), ([], 4, 18, .eq (pB false)), ([], 4, 22, .eq (pB false)), ([], 6, 3, .eq (pB false)), ([], 6, 13, .eq (pB false)), ([], 6, 22, .ret (pB r_1)), ([], 6, 24, .eq (pB false)), ([], 14, 2, .ret (.tup [(pI r_4), (pI r_5)])), ([], 15, 1, .eq (pB true)), ([], 16, 3, .eq (pB true)), ([], 16, 8, .eq (pB false))] [([], 9, (.exit 0), (stOf (go (k + 2) 64 0 160 (adv [([], 9, 3, .eq (pI (y_1.names.length : Int))), ([], 9, 4, .eq (pB false))]) ref06Right2_L9 (ref06Right2_S9 i d.nodes d.most d.room y_1.kind y_1.modeF y_1.owner y_1.links y_1.openF y_1.up y_1.data y_1.names v_1))))]) (ex := .ret) (r := (pB false)) (by kernel_rfl) rfl (by kernel_rfl) (allC (gt_list (c := NodeD.c) q1) (allC (cg q2) (allC (cg q3) (allC (cg q4) (allC (cg q5) (allC (cg q6) (allC (cg q7) (allC (cg q8) (allC (cg q9) (allC (ref05Sorted_ok (k + 1) y_1.names _ q10) (allC (cg q11) (allC q16 (allC (ref06Names_ok (k + 1) d i _ q23) (allC (cg q24) (allC (cg q25) (allC (cg q26) allN)))))))))))))))) (by kernel_rfl) allN
                        · skip
                          obtain rfl := Option.some.inj h
                          exact ret_go (k := (k + 2)) Try.func64 Try.ntmps64 (by kernel_rfl) (by kernel_rfl) (Nat.le_of_ble_eq_true rfl) (adv [([], 1, 3, .elem [(pI y_1.kind), (pI y_1.modeF), (pI y_1.owner), (pI y_1.links), (pI y_1.openF), (pI y_1.up), (pS y_1.data), (.list 2 false (y_1.names.map entP))]), ([], 2, 2, .eq (pB false)), ([], 4, 3, .eq (pB false)), ([], 4, 8, .eq (pB false)), ([], 4, 13, .eq (pB false)), ([], 4, 18, .eq (pB false)), ([], 4, 22, .eq (pB false)), ([], 6, 3, .eq (pB false)), ([], 6, 13, .eq (pB false)), ([], 6, 22, .ret (pB r_1)), ([], 6, 24, .eq (pB false)), ([], 14, 2, .ret (.tup [(pI r_4), (pI r_5)])), ([], 15, 1, .eq (pB true)), ([], 16, 3, .eq (pB false))] [([], 9, (.exit 0), (stOf (go (k + 2) 64 0 160 (adv [([], 9, 3, .eq (pI (y_1.names.length : Int))), ([], 9, 4, .eq (pB false))]) ref06Right2_L9 (ref06Right2_S9 i d.nodes d.most d.room y_1.kind y_1.modeF y_1.owner y_1.links y_1.openF y_1.up y_1.data y_1.names v_1))))]) (ex := .ret) (r := (pB false)) (by kernel_rfl) rfl (by kernel_rfl) (allC (gt_list (c := NodeD.c) q1) (allC (cg q2) (allC (cg q3) (allC (cg q4) (allC (cg q5) (allC (cg q6) (allC (cg q7) (allC (cg q8) (allC (cg q9) (allC (ref05Sorted_ok (k + 1) y_1.names _ q10) (allC (cg q11) (allC q16 (allC (ref06Names_ok (k + 1) d i _ q23) (allC (cg q24) (allC (cg q25) allN))))))))))))))) (by kernel_rfl) allN
                      · skip
                        rcases bif_some h with ⟨q25, h⟩ | ⟨q25, h⟩
                        · skip
                          obtain rfl := Option.some.inj h
                          exact ret_go (k := (k + 2)) Try.func64 Try.ntmps64 (by kernel_rfl) (by kernel_rfl) (Nat.le_of_ble_eq_true rfl) (adv [([], 1, 3, .elem [(pI y_1.kind), (pI y_1.modeF), (pI y_1.owner), (pI y_1.links), (pI y_1.openF), (pI y_1.up), (pS y_1.data), (.list 2 false (y_1.names.map entP))]), ([], 2, 2, .eq (pB false)), ([], 4, 3, .eq (pB false)), ([], 4, 8, .eq (pB false)), ([], 4, 13, .eq (pB false)), ([], 4, 18, .eq (pB false)), ([], 4, 22, .eq (pB false)), ([], 6, 3, .eq (pB false)), ([], 6, 13, .eq (pB false)), ([], 6, 22, .ret (pB r_1)), ([], 6, 24, .eq (pB false)), ([], 14, 2, .ret (.tup [(pI r_4), (pI r_5)])), ([], 15, 1, .eq (pB false)), ([], 17, 4, .eq (pB true))] [([], 9, (.exit 0), (stOf (go (k + 2) 64 0 160 (adv [([], 9, 3, .eq (pI (y_1.names.length : Int))), ([], 9, 4, .eq (pB false))]) ref06Right2_L9 (ref06Right2_S9 i d.nodes d.most d.room y_1.kind y_1.modeF y_1.owner y_1.links y_1.openF y_1.up y_1.data y_1.names v_1))))]) (ex := .ret) (r := (pB false)) (by kernel_rfl) rfl (by kernel_rfl) (allC (gt_list (c := NodeD.c) q1) (allC (cg q2) (allC (cg q3) (allC (cg q4) (allC (cg q5) (allC (cg q6) (allC (cg q7) (allC (cg q8) (allC (cg q9) (allC (ref05Sorted_ok (k + 1) y_1.names _ q10) (allC (cg q11) (allC q16 (allC (ref06Names_ok (k + 1) d i _ q23) (allC (cg q24) (allC (cg q25) allN))))))))))))))) (by kernel_rfl) allN
                        · skip
                          rcases bif_some h with ⟨q26, h⟩ | ⟨q26, h⟩
                          · skip
                            rcases bif_some h with ⟨q27, h⟩ | ⟨q27, h⟩
                            · skip
                              obtain rfl := Option.some.inj h
                              exact ret_go (k := (k + 2)) Try.func64 Try.ntmps64 (by kernel_rfl) (by kernel_rfl) (Nat.le_of_ble_eq_true rfl) (adv [([], 1, 3, .elem [(pI y_1.kind), (pI y_1.modeF), (pI y_1.owner), (pI y_1.links), (pI y_1.openF), (pI y_1.up), (pS y_1.data), (.list 2 false (y_1.names.map entP))]), ([], 2, 2, .eq (pB false)), ([], 4, 3, .eq (pB false)), ([], 4, 8, .eq (pB false)), ([], 4, 13, .eq (pB false)), ([], 4, 18, .eq (pB false)), ([], 4, 22, .eq (pB false)), ([], 6, 3, .eq (pB false)), ([], 6, 13, .eq (pB false)), ([], 6, 22, .ret (pB r_1)), ([], 6, 24, .eq (pB false)), ([], 14, 2, .ret (.tup [(pI r_4), (pI r_5)])), ([], 15, 1, .eq (pB false)), ([], 17, 4, .eq (pB false)), ([], 17, 7, .eq (pB true)), ([], 17, 12, .eq (pB true))] [([], 9, (.exit 0), (stOf (go (k + 2) 64 0 160 (adv [([], 9, 3, .eq (pI (y_1.names.length : Int))), ([], 9, 4, .eq (pB false))]) ref06Right2_L9 (ref06Right2_S9 i d.nodes d.most d.room y_1.kind y_1.modeF y_1.owner y_1.links y_1.openF y_1.up y_1.data y_1.names v_1))))]) (ex := .ret) (r := (pB false)) (by kernel_rfl) rfl (by kernel_rfl) (allC (gt_list (c := NodeD.c) q1) (allC (cg q2) (allC (cg q3) (allC (cg q4) (allC (cg q5) (allC (cg q6) (allC (cg q7) (allC (cg q8) (allC (cg q9) (allC (ref05Sorted_ok (k + 1) y_1.names _ q10) (allC (cg q11) (allC q16 (allC (ref06Names_ok (k + 1) d i _ q23) (allC (cg q24) (allC (cg q25) (allC (cg q26) (allC (cg q27) allN))))))))))))))))) (by kernel_rfl) allN
                            · skip
                              rcases bif_some h with ⟨q28, h⟩ | ⟨q28, h⟩
                              · skip
                                obtain rfl := Option.some.inj h
                                exact ret_go (k := (k + 2)) Try.func64 Try.ntmps64 (by kernel_rfl) (by kernel_rfl) (Nat.le_of_ble_eq_true rfl) (adv [([], 1, 3, .elem [(pI y_1.kind), (pI y_1.modeF), (pI y_1.owner), (pI y_1.links), (pI y_1.openF), (pI y_1.up), (pS y_1.data), (.list 2 false (y_1.names.map entP))]), ([], 2, 2, .eq (pB false)), ([], 4, 3, .eq (pB false)), ([], 4, 8, .eq (pB false)), ([], 4, 13, .eq (pB false)), ([], 4, 18, .eq (pB false)), ([], 4, 22, .eq (pB false)), ([], 6, 3, .eq (pB false)), ([], 6, 13, .eq (pB false)), ([], 6, 22, .ret (pB r_1)), ([], 6, 24, .eq (pB false)), ([], 14, 2, .ret (.tup [(pI r_4), (pI r_5)])), ([], 15, 1, .eq (pB false)), ([], 17, 4, .eq (pB false)), ([], 17, 7, .eq (pB true)), ([], 17, 12, .eq (pB false)), ([], 19, 2, .eq (pB true))] [([], 9, (.exit 0), (stOf (go (k + 2) 64 0 160 (adv [([], 9, 3, .eq (pI (y_1.names.length : Int))), ([], 9, 4, .eq (pB false))]) ref06Right2_L9 (ref06Right2_S9 i d.nodes d.most d.room y_1.kind y_1.modeF y_1.owner y_1.links y_1.openF y_1.up y_1.data y_1.names v_1))))]) (ex := .ret) (r := (pB true)) (by kernel_rfl) rfl (by kernel_rfl) (allC (gt_list (c := NodeD.c) q1) (allC (cg q2) (allC (cg q3) (allC (cg q4) (allC (cg q5) (allC (cg q6) (allC (cg q7) (allC (cg q8) (allC (cg q9) (allC (ref05Sorted_ok (k + 1) y_1.names _ q10) (allC (cg q11) (allC q16 (allC (ref06Names_ok (k + 1) d i _ q23) (allC (cg q24) (allC (cg q25) (allC (cg q26) (allC (cg q27) (allC (cg q28) allN)))))))))))))))))) (by kernel_rfl) allN
                              · skip
                                rcases bif_some h with ⟨q29, h⟩ | ⟨q29, h⟩
                                · skip
                                  rcases bif_some h with ⟨q30, h⟩ | ⟨q30, h⟩
                                  · skip
                                    obtain rfl := Option.some.inj h
                                    exact ret_go (k := (k + 2)) Try.func64 Try.ntmps64 (by kernel_rfl) (by kernel_rfl) (Nat.le_of_ble_eq_true rfl) (adv [([], 1, 3, .elem [(pI y_1.kind), (pI y_1.modeF), (pI y_1.owner), (pI y_1.links), (pI y_1.openF), (pI y_1.up), (pS y_1.data), (.list 2 false (y_1.names.map entP))]), ([], 2, 2, .eq (pB false)), ([], 4, 3, .eq (pB false)), ([], 4, 8, .eq (pB false)), ([], 4, 13, .eq (pB false)), ([], 4, 18, .eq (pB false)), ([], 4, 22, .eq (pB false)), ([], 6, 3, .eq (pB false)), ([], 6, 13, .eq (pB false)), ([], 6, 22, .ret (pB r_1)), ([], 6, 24, .eq (pB false)), ([], 14, 2, .ret (.tup [(pI r_4), (pI r_5)])), ([], 15, 1, .eq (pB false)), ([], 17, 4, .eq (pB false)), ([], 17, 7, .eq (pB true)), ([], 17, 12, .eq (pB false)), ([], 19, 2, .eq (pB false)), ([], 21, 1, .eq (pB true)), ([], 22, 2, .eq (pI (y_1.names.length : Int))), ([], 22, 4, .eq (pB true))] [([], 9, (.exit 0), (stOf (go (k + 2) 64 0 160 (adv [([], 9, 3, .eq (pI (y_1.names.length : Int))), ([], 9, 4, .eq (pB false))]) ref06Right2_L9 (ref06Right2_S9 i d.nodes d.most d.room y_1.kind y_1.modeF y_1.owner y_1.links y_1.openF y_1.up y_1.data y_1.names v_1))))]) (ex := .ret) (r := (pB (y_1.up == (0 : Int)))) (by kernel_rfl) rfl (by kernel_rfl) (allC (gt_list (c := NodeD.c) q1) (allC (cg q2) (allC (cg q3) (allC (cg q4) (allC (cg q5) (allC (cg q6) (allC (cg q7) (allC (cg q8) (allC (cg q9) (allC (ref05Sorted_ok (k + 1) y_1.names _ q10) (allC (cg q11) (allC q16 (allC (ref06Names_ok (k + 1) d i _ q23) (allC (cg q24) (allC (cg q25) (allC (cg q26) (allC (cg q27) (allC (cg q28) (allC (cg q29) (allC (len_ob (rfl : (y_1.names.map entP) = y_1.names.map entP)) (allC (cg q30) allN))))))))))))))))))))) (by kernel_rfl) allN
                                  · skip
                                    obtain rfl := Option.some.inj h
                                    exact ret_go (k := (k + 2)) Try.func64 Try.ntmps64 (by kernel_rfl) (by kernel_rfl) (Nat.le_of_ble_eq_true rfl) (adv [([], 1, 3, .elem [(pI y_1.kind), (pI y_1.modeF), (pI y_1.owner), (pI y_1.links), (pI y_1.openF), (pI y_1.up), (pS y_1.data), (.list 2 false (y_1.names.map entP))]), ([], 2, 2, .eq (pB false)), ([], 4, 3, .eq (pB false)), ([], 4, 8, .eq (pB false)), ([], 4, 13, .eq (pB false)), ([], 4, 18, .eq (pB false)), ([], 4, 22, .eq (pB false)), ([], 6, 3, .eq (pB false)), ([], 6, 13, .eq (pB false)), ([], 6, 22, .ret (pB r_1)), ([], 6, 24, .eq (pB false)), ([], 14, 2, .ret (.tup [(pI r_4), (pI r_5)])), ([], 15, 1, .eq (pB false)), ([], 17, 4, .eq (pB false)), ([], 17, 7, .eq (pB true)), ([], 17, 12, .eq (pB false)), ([], 19, 2, .eq (pB false)), ([], 21, 1, .eq (pB true)), ([], 22, 2, .eq (pI (y_1.names.length : Int))), ([], 22, 4, .eq (pB false))] [([], 9, (.exit 0), (stOf (go (k + 2) 64 0 160 (adv [([], 9, 3, .eq (pI (y_1.names.length : Int))), ([], 9, 4, .eq (pB false))]) ref06Right2_L9 (ref06Right2_S9 i d.nodes d.most d.room y_1.kind y_1.modeF y_1.owner y_1.links y_1.openF y_1.up y_1.data y_1.names v_1))))]) (ex := .ret) (r := (pB false)) (by kernel_rfl) rfl (by kernel_rfl) (allC (gt_list (c := NodeD.c) q1) (allC (cg q2) (allC (cg q3) (allC (cg q4) (allC (cg q5) (allC (cg q6) (allC (cg q7) (allC (cg q8) (allC (cg q9) (allC (ref05Sorted_ok (k + 1) y_1.names _ q10) (allC (cg q11) (allC q16 (allC (ref06Names_ok (k + 1) d i _ q23) (allC (cg q24) (allC (cg q25) (allC (cg q26) (allC (cg q27) (allC (cg q28) (allC (cg q29) (allC (len_ob (rfl : (y_1.names.map entP) = y_1.names.map entP)) (allC (cg q30) allN))))))))))))))))))))) (by kernel_rfl) allN
                                · skip
                                  rcases bif_some h with ⟨q30, h⟩ | ⟨q30, h⟩
                                  · skip
                                    rcases bif_some h with ⟨q31, h⟩ | ⟨q31, h⟩
                                    · skip
                                      obtain ⟨r_6, q32, h⟩ := bnd_some h
                                      obtain rfl := Option.some.inj h
                                      exact ret_go (k := (k + 2)) Try.func64 Try.ntmps64 (by kernel_rfl) (by kernel_rfl) (Nat.le_of_ble_eq_true rfl) (adv [([], 1, 3, .elem [(pI y_1.kind), (pI y_1.modeF), (pI y_1.owner), (pI y_1.links), (pI y_1.openF), (pI y_1.up), (pS y_1.data), (.list 2 false (y_1.names.map entP))]), ([], 2, 2, .eq (pB false)), ([], 4, 3, .eq (pB false)), ([], 4, 8, .eq (pB false)), ([], 4, 13, .eq (pB false)), ([], 4, 18, .eq (pB false)), ([], 4, 22, .eq (pB false)), ([], 6, 3, .eq (pB false)), ([], 6, 13, .eq (pB false)), ([], 6, 22, .ret (pB r_1)), ([], 6, 24, .eq (pB false)), ([], 14, 2, .ret (.tup [(pI r_4), (pI r_5)])), ([], 15, 1, .eq (pB false)), ([], 17, 4, .eq (pB false)), ([], 17, 7, .eq (pB true)), ([], 17, 12, .eq (pB false)), ([], 19, 2, .eq (pB false)), ([], 21, 1, .eq (pB false)), ([], 23, 2, .eq (pB true)), ([], 23, 8, .eq (pB true)), ([], 23, 11, .ret (pB r_6))] [([], 9, (.exit 0), (stOf (go (k + 2) 64 0 160 (adv [([], 9, 3, .eq (pI (y_1.names.length : Int))), ([], 9, 4, .eq (pB false))]) ref06Right2_L9 (ref06Right2_S9 i d.nodes d.most d.room y_1.kind y_1.modeF y_1.owner y_1.links y_1.openF y_1.up y_1.data y_1.names v_1))))]) (ex := .ret) (r := (pB r_6)) (by kernel_rfl) rfl (by kernel_rfl) (allC (gt_list (c := NodeD.c) q1) (allC (cg q2) (allC (cg q3) (allC (cg q4) (allC (cg q5) (allC (cg q6) (allC (cg q7) (allC (cg q8) (allC (cg q9) (allC (ref05Sorted_ok (k + 1) y_1.names _ q10) (allC (cg q11) (allC q16 (allC (ref06Names_ok (k + 1) d i _ q23) (allC (cg q24) (allC (cg q25) (allC (cg q26) (allC (cg q27) (allC (cg q28) (allC (cg q29) (allC (cg q30) (allC (cg q31) (allC (ref06Rooted_ok k d i _ q32) allN)))))))))))))))))))))) (by kernel_rfl) allN
                                    · skip
                                      obtain rfl := Option.some.inj h
                                      exact ret_go (k := (k + 2)) Try.func64 Try.ntmps64 (by kernel_rfl) (by kernel_rfl) (Nat.le_of_ble_eq_true rfl) (adv [([], 1, 3, .elem [(pI y_1.kind), (pI y_1.modeF), (pI y_1.owner), (pI y_1.links), (pI y_1.openF), (pI y_1.up), (pS y_1.data), (.list 2 false (y_1.names.map entP))]), ([], 2, 2, .eq (pB false)), ([], 4, 3, .eq (pB false)), ([], 4, 8, .eq (pB false)), ([], 4, 13, .eq (pB false)), ([], 4, 18, .eq (pB false)), ([], 4, 22, .eq (pB false)), ([], 6, 3, .eq (pB false)), ([], 6, 13, .eq (pB false)), ([], 6, 22, .ret (pB r_1)), ([], 6, 24, .eq (pB false)), ([], 14, 2, .ret (.tup [(pI r_4), (pI r_5)])), ([], 15, 1, .eq (pB false)), ([], 17, 4, .eq (pB false)), ([], 17, 7, .eq (pB true)), ([], 17, 12, .eq (pB false)), ([], 19, 2, .eq (pB false)), ([], 21, 1, .eq (pB false)), ([], 23, 2, .eq (pB true)), ([], 23, 8, .eq (pB false))] [([], 9, (.exit 0), (stOf (go (k + 2) 64 0 160 (adv [([], 9, 3, .eq (pI (y_1.names.length : Int))), ([], 9, 4, .eq (pB false))]) ref06Right2_L9 (ref06Right2_S9 i d.nodes d.most d.room y_1.kind y_1.modeF y_1.owner y_1.links y_1.openF y_1.up y_1.data y_1.names v_1))))]) (ex := .ret) (r := (pB false)) (by kernel_rfl) rfl (by kernel_rfl) (allC (gt_list (c := NodeD.c) q1) (allC (cg q2) (allC (cg q3) (allC (cg q4) (allC (cg q5) (allC (cg q6) (allC (cg q7) (allC (cg q8) (allC (cg q9) (allC (ref05Sorted_ok (k + 1) y_1.names _ q10) (allC (cg q11) (allC q16 (allC (ref06Names_ok (k + 1) d i _ q23) (allC (cg q24) (allC (cg q25) (allC (cg q26) (allC (cg q27) (allC (cg q28) (allC (cg q29) (allC (cg q30) (allC (cg q31) allN))))))))))))))))))))) (by kernel_rfl) allN
                                  · skip
                                    obtain rfl := Option.some.inj h
                                    exact ret_go (k := (k + 2)) Try.func64 Try.ntmps64 (by kernel_rfl) (by kernel_rfl) (Nat.le_of_ble_eq_true rfl) (adv [([], 1, 3, .elem [(pI y_1.kind), (pI y_1.modeF), (pI y_1.owner), (pI y_1.links), (pI y_1.openF), (pI y_1.up), (pS y_1.data), (.list 2 false (y_1.names.map entP))]), ([], 2, 2, .eq (pB false)), ([], 4, 3, .eq (pB false)), ([], 4, 8, .eq (pB false)), ([], 4, 13, .eq (pB false)), ([], 4, 18, .eq (pB false)), ([], 4, 22, .eq (pB false)), ([], 6, 3, .eq (pB false)), ([], 6, 13, .eq (pB false)), ([], 6, 22, .ret (pB r_1)), ([], 6, 24, .eq (pB false)), ([], 14, 2, .ret (.tup [(pI r_4), (pI r_5)])), ([], 15, 1, .eq (pB false)), ([], 17, 4, .eq (pB false)), ([], 17, 7, .eq (pB true)), ([], 17, 12, .eq (pB false)), ([], 19, 2, .eq (pB false)), ([], 21, 1, .eq (pB false)), ([], 23, 2, .eq (pB false))] [([], 9, (.exit 0), (stOf (go (k + 2) 64 0 160 (adv [([], 9, 3, .eq (pI (y_1.names.length : Int))), ([], 9, 4, .eq (pB false))]) ref06Right2_L9 (ref06Right2_S9 i d.nodes d.most d.room y_1.kind y_1.modeF y_1.owner y_1.links y_1.openF y_1.up y_1.data y_1.names v_1))))]) (ex := .ret) (r := (pB false)) (by kernel_rfl) rfl (by kernel_rfl) (allC (gt_list (c := NodeD.c) q1) (allC (cg q2) (allC (cg q3) (allC (cg q4) (allC (cg q5) (allC (cg q6) (allC (cg q7) (allC (cg q8) (allC (cg q9) (allC (ref05Sorted_ok (k + 1) y_1.names _ q10) (allC (cg q11) (allC q16 (allC (ref06Names_ok (k + 1) d i _ q23) (allC (cg q24) (allC (cg q25) (allC (cg q26) (allC (cg q27) (allC (cg q28) (allC (cg q29) (allC (cg q30) allN)))))))))))))))))))) (by kernel_rfl) allN
                          · skip
                            rcases bif_some h with ⟨q27, h⟩ | ⟨q27, h⟩
                            · skip
                              obtain rfl := Option.some.inj h
                              exact ret_go (k := (k + 2)) Try.func64 Try.ntmps64 (by kernel_rfl) (by kernel_rfl) (Nat.le_of_ble_eq_true rfl) (adv [([], 1, 3, .elem [(pI y_1.kind), (pI y_1.modeF), (pI y_1.owner), (pI y_1.links), (pI y_1.openF), (pI y_1.up), (pS y_1.data), (.list 2 false (y_1.names.map entP))]), ([], 2, 2, .eq (pB false)), ([], 4, 3, .eq (pB false)), ([], 4, 8, .eq (pB false)), ([], 4, 13, .eq (pB false)), ([], 4, 18, .eq (pB false)), ([], 4, 22, .eq (pB false)), ([], 6, 3, .eq (pB false)), ([], 6, 13, .eq (pB false)), ([], 6, 22, .ret (pB r_1)), ([], 6, 24, .eq (pB false)), ([], 14, 2, .ret (.tup [(pI r_4), (pI r_5)])), ([], 15, 1, .eq (pB false)), ([], 17, 4, .eq (pB false)), ([], 17, 7, .eq (pB false)), ([], 19, 2, .eq (pB true))] [([], 9, (.exit 0), (stOf (go (k + 2) 64 0 160 (adv [([], 9, 3, .eq (pI (y_1.names.length : Int))), ([], 9, 4, .eq (pB false))]) ref06Right2_L9 (ref06Right2_S9 i d.nodes d.most d.room y_1.kind y_1.modeF y_1.owner y_1.links y_1.openF y_1.up y_1.data y_1.names v_1))))]) (ex := .ret) (r := (pB true)) (by kernel_rfl) rfl (by kernel_rfl) (allC (gt_list (c := NodeD.c) q1) (allC (cg q2) (allC (cg q3) (allC (cg q4) (allC (cg q5) (allC (cg q6) (allC (cg q7) (allC (cg q8) (allC (cg q9) (allC (ref05Sorted_ok (k + 1) y_1.names _ q10) (allC (cg q11) (allC q16 (allC (ref06Names_ok (k + 1) d i _ q23) (allC (cg q24) (allC (cg q25) (allC (cg q26) (allC (cg q27) allN))))))))))))))))) (by kernel_rfl) allN
                            · skip
                              rcases bif_some h with ⟨q28, h⟩ | ⟨q28, h⟩
                              · skip
                                rcases bif_some h with ⟨q29, h⟩ | ⟨q29, h⟩
                                · skip
                                  obtain rfl := Option.some.inj h
                                  exact ret_go (k := (k + 2)) Try.func64 Try.ntmps64 (by kernel_rfl) (by kernel_rfl) (Nat.le_of_ble_eq_true rfl) (adv [([], 1, 3, .elem [(pI y_1.kind), (pI y_1.modeF), (pI y_1.owner), (pI y_1.links), (pI y_1.openF), (pI y_1.up), (pS y_1.data), (.list 2 false (y_1.names.map entP))]), ([], 2, 2, .eq (pB false)), ([], 4, 3, .eq (pB false)), ([], 4, 8, .eq (pB false)), ([], 4, 13, .eq (pB false)), ([], 4, 18, .eq (pB false)), ([], 4, 22, .eq (pB false)), ([], 6, 3, .eq (pB false)), ([], 6, 13, .eq (pB false)), ([], 6, 22, .ret (pB r_1)), ([], 6, 24, .eq (pB false)), ([], 14, 2, .ret (.tup [(pI r_4), (pI r_5)])), ([], 15, 1, .eq (pB false)), ([], 17, 4, .eq (pB false)), ([], 17, 7, .eq (pB false)), ([], 19, 2, .eq (pB false)), ([], 21, 1, .eq (pB true)), ([], 22, 2, .eq (pI (y_1.names.length : Int))), ([], 22, 4, .eq (pB true))] [([], 9, (.exit 0), (stOf (go (k + 2) 64 0 160 (adv [([], 9, 3, .eq (pI (y_1.names.length : Int))), ([], 9, 4, .eq (pB false))]) ref06Right2_L9 (ref06Right2_S9 i d.nodes d.most d.room y_1.kind y_1.modeF y_1.owner y_1.links y_1.openF y_1.up y_1.data y_1.names v_1))))]) (ex := .ret) (r := (pB (y_1.up == (0 : Int)))) (by kernel_rfl) rfl (by kernel_rfl) (allC (gt_list (c := NodeD.c) q1) (allC (cg q2) (allC (cg q3) (allC (cg q4) (allC (cg q5) (allC (cg q6) (allC (cg q7) (allC (cg q8) (allC (cg q9) (allC (ref05Sorted_ok (k + 1) y_1.names _ q10) (allC (cg q11) (allC q16 (allC (ref06Names_ok (k + 1) d i _ q23) (allC (cg q24) (allC (cg q25) (allC (cg q26) (allC (cg q27) (allC (cg q28) (allC (len_ob (rfl : (y_1.names.map entP) = y_1.names.map entP)) (allC (cg q29) allN)))))))))))))))))))) (by kernel_rfl) allN
                                · skip
                                  obtain rfl := Option.some.inj h
                                  exact ret_go (k := (k + 2)) Try.func64 Try.ntmps64 (by kernel_rfl) (by kernel_rfl) (Nat.le_of_ble_eq_true rfl) (adv [([], 1, 3, .elem [(pI y_1.kind), (pI y_1.modeF), (pI y_1.owner), (pI y_1.links), (pI y_1.openF), (pI y_1.up), (pS y_1.data), (.list 2 false (y_1.names.map entP))]), ([], 2, 2, .eq (pB false)), ([], 4, 3, .eq (pB false)), ([], 4, 8, .eq (pB false)), ([], 4, 13, .eq (pB false)), ([], 4, 18, .eq (pB false)), ([], 4, 22, .eq (pB false)), ([], 6, 3, .eq (pB false)), ([], 6, 13, .eq (pB false)), ([], 6, 22, .ret (pB r_1)), ([], 6, 24, .eq (pB false)), ([], 14, 2, .ret (.tup [(pI r_4), (pI r_5)])), ([], 15, 1, .eq (pB false)), ([], 17, 4, .eq (pB false)), ([], 17, 7, .eq (pB false)), ([], 19, 2, .eq (pB false)), ([], 21, 1, .eq (pB true)), ([], 22, 2, .eq (pI (y_1.names.length : Int))), ([], 22, 4, .eq (pB false))] [([], 9, (.exit 0), (stOf (go (k + 2) 64 0 160 (adv [([], 9, 3, .eq (pI (y_1.names.length : Int))), ([], 9, 4, .eq (pB false))]) ref06Right2_L9 (ref06Right2_S9 i d.nodes d.most d.room y_1.kind y_1.modeF y_1.owner y_1.links y_1.openF y_1.up y_1.data y_1.names v_1))))]) (ex := .ret) (r := (pB false)) (by kernel_rfl) rfl (by kernel_rfl) (allC (gt_list (c := NodeD.c) q1) (allC (cg q2) (allC (cg q3) (allC (cg q4) (allC (cg q5) (allC (cg q6) (allC (cg q7) (allC (cg q8) (allC (cg q9) (allC (ref05Sorted_ok (k + 1) y_1.names _ q10) (allC (cg q11) (allC q16 (allC (ref06Names_ok (k + 1) d i _ q23) (allC (cg q24) (allC (cg q25) (allC (cg q26) (allC (cg q27) (allC (cg q28) (allC (len_ob (rfl : (y_1.names.map entP) = y_1.names.map entP)) (allC (cg q29) allN)))))))))))))))))))) (by kernel_rfl) allN
                              · skip
                                rcases bif_some h with ⟨q29, h⟩ | ⟨q29, h⟩
                                · skip
                                  rcases bif_some h with ⟨q30, h⟩ | ⟨q30, h⟩
                                  · skip
                                    obtain ⟨r_6, q31, h⟩ := bnd_some h
                                    obtain rfl := Option.some.inj h
                                    exact ret_go (k := (k + 2)) Try.func64 Try.ntmps64 (by kernel_rfl) (by kernel_rfl) (Nat.le_of_ble_eq_true rfl) (adv [([], 1, 3, .elem [(pI y_1.kind), (pI y_1.modeF), (pI y_1.owner), (pI y_1.links), (pI y_1.openF), (pI y_1.up), (pS y_1.data), (.list 2 false (y_1.names.map entP))]), ([], 2, 2, .eq (pB false)), ([], 4, 3, .eq (pB false)), ([], 4, 8, .eq (pB false)), ([], 4, 13, .eq (pB false)), ([], 4, 18, .eq (pB false)), ([], 4, 22, .eq (pB false)), ([], 6, 3, .eq (pB false)), ([], 6, 13, .eq (pB false)), ([], 6, 22, .ret (pB r_1)), ([], 6, 24, .eq (pB false)), ([], 14, 2, .ret (.tup [(pI r_4), (pI r_5)])), ([], 15, 1, .eq (pB false)), ([], 17, 4, .eq (pB false)), ([], 17, 7, .eq (pB false)), ([], 19, 2, .eq (pB false)), ([], 21, 1, .eq (pB false)), ([], 23, 2, .eq (pB true)), ([], 23, 8, .eq (pB true)), ([], 23, 11, .ret (pB r_6))] [([], 9, (.exit 0), (stOf (go (k + 2) 64 0 160 (adv [([], 9, 3, .eq (pI (y_1.names.length : Int))), ([], 9, 4, .eq (pB false))]) ref06Right2_L9 (ref06Right2_S9 i d.nodes d.most d.room y_1.kind y_1.modeF y_1.owner y_1.links y_1.openF y_1.up y_1.data y_1.names v_1))))]) (ex := .ret) (r := (pB r_6)) (by kernel_rfl) rfl (by kernel_rfl) (allC (gt_list (c := NodeD.c) q1) (allC (cg q2) (allC (cg q3) (allC (cg q4) (allC (cg q5) (allC (cg q6) (allC (cg q7) (allC (cg q8) (allC (cg q9) (allC (ref05Sorted_ok (k + 1) y_1.names _ q10) (allC (cg q11) (allC q16 (allC (ref06Names_ok (k + 1) d i _ q23) (allC (cg q24) (allC (cg q25) (allC (cg q26) (allC (cg q27) (allC (cg q28) (allC (cg q29) (allC (cg q30) (allC (ref06Rooted_ok k d i _ q31) allN))))))))))))))))))))) (by kernel_rfl) allN
                                  · skip
                                    obtain rfl := Option.some.inj h
                                    exact ret_go (k := (k + 2)) Try.func64 Try.ntmps64 (by kernel_rfl) (by kernel_rfl) (Nat.le_of_ble_eq_true rfl) (adv [([], 1, 3, .elem [(pI y_1.kind), (pI y_1.modeF), (pI y_1.owner), (pI y_1.links), (pI y_1.openF), (pI y_1.up), (pS y_1.data), (.list 2 false (y_1.names.map entP))]), ([], 2, 2, .eq (pB false)), ([], 4, 3, .eq (pB false)), ([], 4, 8, .eq (pB false)), ([], 4, 13, .eq (pB false)), ([], 4, 18, .eq (pB false)), ([], 4, 22, .eq (pB false)), ([], 6, 3, .eq (pB false)), ([], 6, 13, .eq (pB false)), ([], 6, 22, .ret (pB r_1)), ([], 6, 24, .eq (pB false)), ([], 14, 2, .ret (.tup [(pI r_4), (pI r_5)])), ([], 15, 1, .eq (pB false)), ([], 17, 4, .eq (pB false)), ([], 17, 7, .eq (pB false)), ([], 19, 2, .eq (pB false)), ([], 21, 1, .eq (pB false)), ([], 23, 2, .eq (pB true)), ([], 23, 8, .eq (pB false))] [([], 9, (.exit 0), (stOf (go (k + 2) 64 0 160 (adv [([], 9, 3, .eq (pI (y_1.names.length : Int))), ([], 9, 4, .eq (pB false))]) ref06Right2_L9 (ref06Right2_S9 i d.nodes d.most d.room y_1.kind y_1.modeF y_1.owner y_1.links y_1.openF y_1.up y_1.data y_1.names v_1))))]) (ex := .ret) (r := (pB false)) (by kernel_rfl) rfl (by kernel_rfl) (allC (gt_list (c := NodeD.c) q1) (allC (cg q2) (allC (cg q3) (allC (cg q4) (allC (cg q5) (allC (cg q6) (allC (cg q7) (allC (cg q8) (allC (cg q9) (allC (ref05Sorted_ok (k + 1) y_1.names _ q10) (allC (cg q11) (allC q16 (allC (ref06Names_ok (k + 1) d i _ q23) (allC (cg q24) (allC (cg q25) (allC (cg q26) (allC (cg q27) (allC (cg q28) (allC (cg q29) (allC (cg q30) allN)))))))))))))))))))) (by kernel_rfl) allN
                                · skip
                                  obtain rfl := Option.some.inj h
                                  exact ret_go (k := (k + 2)) Try.func64 Try.ntmps64 (by kernel_rfl) (by kernel_rfl) (Nat.le_of_ble_eq_true rfl) (adv [([], 1, 3, .elem [(pI y_1.kind), (pI y_1.modeF), (pI y_1.owner), (pI y_1.links), (pI y_1.openF), (pI y_1.up), (pS y_1.data), (.list 2 false (y_1.names.map entP))]), ([], 2, 2, .eq (pB false)), ([], 4, 3, .eq (pB false)), ([], 4, 8, .eq (pB false)), ([], 4, 13, .eq (pB false)), ([], 4, 18, .eq (pB false)), ([], 4, 22, .eq (pB false)), ([], 6, 3, .eq (pB false)), ([], 6, 13, .eq (pB false)), ([], 6, 22, .ret (pB r_1)), ([], 6, 24, .eq (pB false)), ([], 14, 2, .ret (.tup [(pI r_4), (pI r_5)])), ([], 15, 1, .eq (pB false)), ([], 17, 4, .eq (pB false)), ([], 17, 7, .eq (pB false)), ([], 19, 2, .eq (pB false)), ([], 21, 1, .eq (pB false)), ([], 23, 2, .eq (pB false))] [([], 9, (.exit 0), (stOf (go (k + 2) 64 0 160 (adv [([], 9, 3, .eq (pI (y_1.names.length : Int))), ([], 9, 4, .eq (pB false))]) ref06Right2_L9 (ref06Right2_S9 i d.nodes d.most d.room y_1.kind y_1.modeF y_1.owner y_1.links y_1.openF y_1.up y_1.data y_1.names v_1))))]) (ex := .ret) (r := (pB false)) (by kernel_rfl) rfl (by kernel_rfl) (allC (gt_list (c := NodeD.c) q1) (allC (cg q2) (allC (cg q3) (allC (cg q4) (allC (cg q5) (allC (cg q6) (allC (cg q7) (allC (cg q8) (allC (cg q9) (allC (ref05Sorted_ok (k + 1) y_1.names _ q10) (allC (cg q11) (allC q16 (allC (ref06Names_ok (k + 1) d i _ q23) (allC (cg q24) (allC (cg q25) (allC (cg q26) (allC (cg q27) (allC (cg q28) (allC (cg q29) allN))))))))))))))))))) (by kernel_rfl) allN


end Go.Proofs.Ytfllhakmjookkaa.Den
