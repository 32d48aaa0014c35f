/- Functions, printed by den.py out of the code: plain ones, and that the code answers as they do. -/
import Derived.Test.YtbidfkibpjjghaaDoorDenF2
set_option linter.unusedVariables false
set_option linter.unusedSimpArgs false
namespace Go.Proofs.YtbidfkibpjjghaaDoor.Den
open Go Go.RowKit

/- (*flagstone/option.taker).all: its loop at region 1 -/
noncomputable def optionTakerAll_L1 : Code := cAt (codeOf Tryd.f21) [true, false, false, false]
def optionTakerAll_R1_0 (x0 : ByteArray) (x1 : List (List PV)) : St := ⟨envL [(0, (.ptr [0, TAG] 1 0 0))], hsL [some ⟨3, 51, [[(pS x0), (.list 1 false x1), (.v (.slice none 0 0))]], true, false⟩] [0]⟩
theorem optionTakerAll_R1_0_eq {x0 y0 : ByteArray} {x1 y1 : List (List PV)} (h0 : x0 = y0) (h1 : x1 = y1) : optionTakerAll_R1_0 x0 x1 = optionTakerAll_R1_0 y0 y1 := by
  subst h0 h1; rfl
def optionTakerAll_R1_1 (x0 : ByteArray) (x1 : List (List PV)) (x2 : Nat) (x3 : List (List PV)) : St := ⟨envL [(0, (.ptr [0, TAG] 1 0 0))], hsL [some ⟨3, 51, [[(pS x0), (.list 1 false x1), (.row [1, TAG] 1 0 x2)]], false, false⟩, some ⟨2, 58, x3, true, true⟩] [0, 0]⟩
theorem optionTakerAll_R1_1_eq {x0 y0 : ByteArray} {x1 y1 : List (List PV)} {x2 y2 : Nat} {x3 y3 : List (List PV)} (h0 : x0 = y0) (h1 : x1 = y1) (h2 : x2 = y2) (h3 : x3 = y3) : optionTakerAll_R1_1 x0 x1 x2 x3 = optionTakerAll_R1_1 y0 y1 y2 y3 := by
  subst h0 h1 h2 h3; rfl
def optionTakerAll_S1 : ((ByteArray × (List ByteArray)) ⊕ (ByteArray × (List ByteArray) × (List FlagD))) → St
  | .inl (v0, v1) => optionTakerAll_R1_0 v0 (v1.map cS)
  | .inr ((v0, v1, v2)) => optionTakerAll_R1_1 v0 (v1.map cS) v2.length (v2.map FlagD.c)
def optionTakerAll_b1 : ((ByteArray × (List ByteArray)) ⊕ (ByteArray × (List ByteArray) × (List FlagD))) → Option (((ByteArray × (List ByteArray)) ⊕ (ByteArray × (List ByteArray) × (List FlagD))) ⊕ ((ByteArray × (List ByteArray) × ByteArray × ByteArray × Bool) ⊕ (ByteArray × (List ByteArray) × ByteArray × ByteArray × Bool) ⊕ (ByteArray × (List ByteArray) × ByteArray × ByteArray × Bool × ByteArray × ByteArray × (List ByteArray)) ⊕ (ByteArray × (List ByteArray) × ByteArray × ByteArray × Bool × ByteArray × ByteArray × (List ByteArray) × ByteArray × (List ByteArray)) ⊕ (ByteArray × (List ByteArray) × ByteArray × ByteArray × Bool × ByteArray × ByteArray × (List ByteArray) × ByteArray × (List ByteArray)) ⊕ (ByteArray × (List ByteArray) × ByteArray × ByteArray × Bool × ByteArray × ByteArray × (List ByteArray) × ByteArray × (List ByteArray) × (List FlagD)) ⊕ (ByteArray × (List ByteArray) × ByteArray × ByteArray × Bool × ByteArray × ByteArray × (List ByteArray) × ByteArray × (List ByteArray) × (List FlagD)) ⊕ (ByteArray × (List ByteArray)) ⊕ (ByteArray × (List ByteArray) × (List FlagD) × ByteArray × ByteArray × Bool) ⊕ (ByteArray × (List ByteArray) × (List FlagD) × ByteArray × ByteArray × Bool) ⊕ (ByteArray × (List ByteArray) × (List FlagD) × ByteArray × ByteArray × Bool × ByteArray × ByteArray × (List ByteArray) × (List FlagD)) ⊕ (ByteArray × (List ByteArray) × (List FlagD) × ByteArray × ByteArray × Bool × ByteArray × ByteArray × (List ByteArray) × (List FlagD) × ByteArray × (List ByteArray) × (List FlagD)) ⊕ (ByteArray × (List ByteArray) × (List FlagD) × ByteArray × ByteArray × Bool × ByteArray × ByteArray × (List ByteArray) × (List FlagD) × ByteArray × (List ByteArray) × (List FlagD)) ⊕ (ByteArray × (List ByteArray) × (List FlagD) × ByteArray × ByteArray × Bool × ByteArray × ByteArray × (List ByteArray) × (List FlagD) × ByteArray × (List ByteArray) × (List FlagD)) ⊕ (ByteArray × (List ByteArray) × (List FlagD) × ByteArray × ByteArray × Bool × ByteArray × ByteArray × (List ByteArray) × (List FlagD) × ByteArray × (List ByteArray) × (List FlagD)) ⊕ (ByteArray × (List ByteArray) × (List FlagD))))
  | .inl (v0, v1) =>
    bif (decide ((v1.length : Int) > (0 : Int))) then (
      (gt v1 (0 : Int)).bind fun y_1 =>
      (stringsCutPrefix y_1 (bs [45])).bind fun (r_1, r_2) =>
      bif (!r_2) then (
        some (.inr (.inl (v0, v1, y_1, r_1, r_2)))
      ) else (
        bif (seq r_1 (bs [])) then (
          some (.inr (.inr (.inl (v0, v1, y_1, r_1, r_2))))
        ) else (
          (optionTakerNext v0 v1).bind fun (r_3, r_4, r_5) =>
          bif (seq r_1 (bs [45])) then (
            some (.inr (.inr (.inr (.inl (v0, v1, y_1, r_1, r_2, r_3, r_4, r_5)))))
          ) else (
            (optionTakerGroup r_1 r_4 r_5).bind fun X_2 => match X_2 with
            | .inl (r_6, r_7) => (
              some (.inr (.inr (.inr (.inr (.inl (v0, v1, y_1, r_1, r_2, r_3, r_4, r_5, r_6, r_7))))))
            )
            | .inr (.inl (r_8, r_9)) => (
              some (.inr (.inr (.inr (.inr (.inr (.inl (v0, v1, y_1, r_1, r_2, r_3, r_4, r_5, r_8, r_9)))))))
            )
            | .inr (.inr (.inl (r_10, r_11))) => (
              some (.inl (.inl (r_10, r_11)))
            )
            | .inr (.inr (.inr (.inl (r_12, r_13, r_14)))) => (
              some (.inr (.inr (.inr (.inr (.inr (.inr (.inl (v0, v1, y_1, r_1, r_2, r_3, r_4, r_5, r_12, r_13, r_14))))))))
            )
            | .inr (.inr (.inr (.inr (.inl (r_15, r_16, r_17))))) => (
              some (.inr (.inr (.inr (.inr (.inr (.inr (.inr (.inl (v0, v1, y_1, r_1, r_2, r_3, r_4, r_5, r_15, r_16, r_17)))))))))
            )
            | .inr (.inr (.inr (.inr (.inr ((r_18, r_19, r_20)))))) => (
              some (.inl (.inr ((r_18, r_19, r_20))))
            )
          )
        )
      )
    ) else (
      some (.inr (.inr (.inr (.inr (.inr (.inr (.inr (.inr (.inl (v0, v1))))))))))
    )
  | .inr ((v0, v1, v2)) =>
    bif (decide ((v1.length : Int) > (0 : Int))) then (
      (gt v1 (0 : Int)).bind fun y_1 =>
      (stringsCutPrefix y_1 (bs [45])).bind fun (r_1, r_2) =>
      bif (!r_2) then (
        some (.inr (.inr (.inr (.inr (.inr (.inr (.inr (.inr (.inr (.inl (v0, v1, v2, y_1, r_1, r_2)))))))))))
      ) else (
        bif (seq r_1 (bs [])) then (
          some (.inr (.inr (.inr (.inr (.inr (.inr (.inr (.inr (.inr (.inr (.inl (v0, v1, v2, y_1, r_1, r_2))))))))))))
        ) else (
          (optionTakerNext2 v0 v1 v2).bind fun (r_3, r_4, r_5, r_6) =>
          bif (seq r_1 (bs [45])) then (
            some (.inr (.inr (.inr (.inr (.inr (.inr (.inr (.inr (.inr (.inr (.inr (.inl (v0, v1, v2, y_1, r_1, r_2, r_3, r_4, r_5, r_6)))))))))))))
          ) else (
            (optionTakerGroup2 r_1 r_4 r_5 r_6).bind fun X_2 => match X_2 with
            | .inl (r_7, r_8, r_9) => (
              some (.inr (.inr (.inr (.inr (.inr (.inr (.inr (.inr (.inr (.inr (.inr (.inr (.inl (v0, v1, v2, y_1, r_1, r_2, r_3, r_4, r_5, r_6, r_7, r_8, r_9))))))))))))))
            )
            | .inr (.inl (r_10, r_11, r_12)) => (
              some (.inr (.inr (.inr (.inr (.inr (.inr (.inr (.inr (.inr (.inr (.inr (.inr (.inr (.inl (v0, v1, v2, y_1, r_1, r_2, r_3, r_4, r_5, r_6, r_10, r_11, r_12)))))))))))))))
            )
            | .inr (.inr (.inl (r_13, r_14, r_15))) => (
              some (.inl (.inr ((r_13, r_14, r_15))))
            )
            | .inr (.inr (.inr (.inl (r_16, r_17, r_18)))) => (
              some (.inr (.inr (.inr (.inr (.inr (.inr (.inr (.inr (.inr (.inr (.inr (.inr (.inr (.inr (.inl (v0, v1, v2, y_1, r_1, r_2, r_3, r_4, r_5, r_6, r_16, r_17, r_18))))))))))))))))
            )
            | .inr (.inr (.inr (.inr (.inl (r_19, r_20, r_21))))) => (
              some (.inr (.inr (.inr (.inr (.inr (.inr (.inr (.inr (.inr (.inr (.inr (.inr (.inr (.inr (.inr (.inl (v0, v1, v2, y_1, r_1, r_2, r_3, r_4, r_5, r_6, r_19, r_20, r_21)))))))))))))))))
            )
            | .inr (.inr (.inr (.inr (.inr ((r_22, r_23, r_24)))))) => (
              some (.inl (.inr ((r_22, r_23, r_24))))
            )
          )
        )
      )
    ) else (
      some (.inr (.inr (.inr (.inr (.inr (.inr (.inr (.inr (.inr (.inr (.inr (.inr (.inr (.inr (.inr (.inr ((v0, v1, v2))))))))))))))))))
    )
set_option maxRecDepth 100000 in
theorem optionTakerAll_t1 (k : Nat) (a a1 : ((ByteArray × (List ByteArray)) ⊕ (ByteArray × (List ByteArray) × (List FlagD)))) (h : optionTakerAll_b1 a = some (.inl a1)) : ∃ σ, run1 (k + 3) 21 1 38 optionTakerAll_L1 (optionTakerAll_S1 a) = some (.normal, σ) ∧ canonS 1 [0] σ = some (optionTakerAll_S1 a1) := by
  rcases a with ⟨v0, v1⟩ | ⟨v0, v1, v2⟩
  · unfold optionTakerAll_b1 at h
    try dsimp only at h
    rcases bif_some h with ⟨q1, h⟩ | ⟨q1, h⟩
    · skip
      obtain ⟨y_1, q2, h⟩ := bnd_some h
      obtain ⟨⟨r_1, r_2⟩, q3, h⟩ := bnd_some h
      try dsimp only at h
      rcases bif_some h with ⟨q4, h⟩ | ⟨q4, h⟩
      · skip
        cases h
      · skip
        rcases bif_some h with ⟨q5, h⟩ | ⟨q5, h⟩
        · skip
          cases h
        · skip
          obtain ⟨X_1, q6, h⟩ := bnd_some h
          rcases X_1 with ⟨r_3, r_4, r_5⟩
          · try dsimp only at h
            rcases bif_some h with ⟨q7, h⟩ | ⟨q7, h⟩
            · skip
              cases h
            · skip
              obtain ⟨X_2, q8, h⟩ := bnd_some h
              rcases X_2 with ⟨r_6, r_7⟩ | ⟨r_8, r_9⟩ | ⟨r_10, r_11⟩ | ⟨r_12, r_13, r_14⟩ | ⟨r_15, r_16, r_17⟩ | ⟨r_18, r_19, r_20⟩
              · try dsimp only at h
                cases h
              · try dsimp only at h
                cases h
              · try dsimp only at h
                obtain rfl := Sum.inl.inj (Option.some.inj h)
                exact ⟨_, run_go (k := (k + 3)) (f := 21) (r0 := 1) (nt := 38) (c := optionTakerAll_L1) (σ := (optionTakerAll_S1 (.inl (v0, v1)))) (adv [([], 1, 4, .eq (pI (v1.length : Int))), ([], 1, 5, .eq (pB true)), ([], 2, 4, .elem [(pS y_1)]), ([], 2, 6, .ret (.tup [(pS r_1), (pB r_2)])), ([], 3, 2, .eq (pB false)), ([], 3, 5, .eq (pB false)), ([], 5, 1, .retS (pS r_3) [some ⟨3, 51, [[(pS r_4), (.list 1 false (r_5.map cS)), (.v (.slice none 0 0))]], true, false⟩] [0]), ([], 6, 1, .eq (pB false)), ([], 8, 2, .retS (.v .nilIface) [some ⟨3, 51, [[(pS r_10), (.list 1 false (r_11.map cS)), (.v (.slice none 0 0))]], true, false⟩] [0])]) (ex := .normal) (by kernel_rfl) (by kernel_rfl) (allC (len_ob (rfl : (v1.map cS) = v1.map cS)) (allC (cg q1) (allC (gt_list (c := cS) q2) (allC (stringsCutPrefix_ok k y_1 (bs [45]) _ q3) (allC (cg q4) (allC (cg q5) (allC (optionTakerNext_ok (k + 2) v0 v1 _ q6) (allC (cg q7) (allC (optionTakerGroup_ok (k + 1) r_1 r_4 r_5 _ q8) allN))))))))), (by kernel_rfl)⟩
              · try dsimp only at h
                cases h
              · try dsimp only at h
                cases h
              · try dsimp only at h
                obtain rfl := Sum.inl.inj (Option.some.inj h)
                exact ⟨_, run_go (k := (k + 3)) (f := 21) (r0 := 1) (nt := 38) (c := optionTakerAll_L1) (σ := (optionTakerAll_S1 (.inl (v0, v1)))) (adv [([], 1, 4, .eq (pI (v1.length : Int))), ([], 1, 5, .eq (pB true)), ([], 2, 4, .elem [(pS y_1)]), ([], 2, 6, .ret (.tup [(pS r_1), (pB r_2)])), ([], 3, 2, .eq (pB false)), ([], 3, 5, .eq (pB false)), ([], 5, 1, .retS (pS r_3) [some ⟨3, 51, [[(pS r_4), (.list 1 false (r_5.map cS)), (.v (.slice none 0 0))]], true, false⟩] [0]), ([], 6, 1, .eq (pB false)), ([], 8, 2, .retS (.v .nilIface) [some ⟨3, 51, [[(pS r_18), (.list 1 false (r_19.map cS)), (.row [1, TAG] 1 0 r_20.length)]], false, false⟩, some ⟨2, 58, (r_20.map FlagD.c), true, true⟩] [0, 0])]) (ex := .normal) (by kernel_rfl) (by kernel_rfl) (allC (len_ob (rfl : (v1.map cS) = v1.map cS)) (allC (cg q1) (allC (gt_list (c := cS) q2) (allC (stringsCutPrefix_ok k y_1 (bs [45]) _ q3) (allC (cg q4) (allC (cg q5) (allC (optionTakerNext_ok (k + 2) v0 v1 _ q6) (allC (cg q7) (allC (optionTakerGroup_ok (k + 1) r_1 r_4 r_5 _ q8) allN))))))))), (by kernel_rfl)⟩
    · skip
      cases h
  · unfold optionTakerAll_b1 at h
    try dsimp only at h
    rcases bif_some h with ⟨q1, h⟩ | ⟨q1, h⟩
    · skip
      obtain ⟨y_1, q2, h⟩ := bnd_some h
      obtain ⟨⟨r_1, r_2⟩, q3, h⟩ := bnd_some h
      try dsimp only at h
      rcases bif_some h with ⟨q4, h⟩ | ⟨q4, h⟩
      · skip
        cases h
      · skip
        rcases bif_some h with ⟨q5, h⟩ | ⟨q5, h⟩
        · skip
          cases h
        · skip
          obtain ⟨X_1, q6, h⟩ := bnd_some h
          rcases X_1 with ⟨r_3, r_4, r_5, r_6⟩
          · try dsimp only at h
            rcases bif_some h with ⟨q7, h⟩ | ⟨q7, h⟩
            · skip
              cases h
            · skip
              obtain ⟨X_2, q8, h⟩ := bnd_some h
              rcases X_2 with ⟨r_7, r_8, r_9⟩ | ⟨r_10, r_11, r_12⟩ | ⟨r_13, r_14, r_15⟩ | ⟨r_16, r_17, r_18⟩ | ⟨r_19, r_20, r_21⟩ | ⟨r_22, r_23, r_24⟩
              · try dsimp only at h
                cases h
              · try dsimp only at h
                cases h
              · try dsimp only at h
                obtain rfl := Sum.inl.inj (Option.some.inj h)
                exact ⟨_, run_go (k := (k + 3)) (f := 21) (r0 := 1) (nt := 38) (c := optionTakerAll_L1) (σ := (optionTakerAll_S1 (.inr ((v0, v1, v2))))) (adv [([], 1, 4, .eq (pI (v1.length : Int))), ([], 1, 5, .eq (pB true)), ([], 2, 4, .elem [(pS y_1)]), ([], 2, 6, .ret (.tup [(pS r_1), (pB r_2)])), ([], 3, 2, .eq (pB false)), ([], 3, 5, .eq (pB false)), ([], 5, 1, .retS (pS r_3) [some ⟨3, 51, [[(pS r_4), (.list 1 false (r_5.map cS)), (.row [1, TAG] 1 0 r_6.length)]], false, false⟩, some ⟨2, 58, (r_6.map FlagD.c), true, true⟩] [0, 0]), ([], 6, 1, .eq (pB false)), ([], 8, 2, .retS (.v .nilIface) [some ⟨3, 51, [[(pS r_13), (.list 1 false (r_14.map cS)), (.row [1, TAG] 1 0 r_15.length)]], false, false⟩, some ⟨2, 58, (r_15.map FlagD.c), true, true⟩] [0, 0])]) (ex := .normal) (by kernel_rfl) (by kernel_rfl) (allC (len_ob (rfl : (v1.map cS) = v1.map cS)) (allC (cg q1) (allC (gt_list (c := cS) q2) (allC (stringsCutPrefix_ok k y_1 (bs [45]) _ q3) (allC (cg q4) (allC (cg q5) (allC (optionTakerNext2_ok (k + 2) v0 v1 v2 _ q6) (allC (cg q7) (allC (optionTakerGroup2_ok (k + 1) r_1 r_4 r_5 r_6 _ q8) allN))))))))), (by kernel_rfl)⟩
              · try dsimp only at h
                cases h
              · try dsimp only at h
                cases h
              · try dsimp only at h
                obtain rfl := Sum.inl.inj (Option.some.inj h)
                exact ⟨_, run_go (k := (k + 3)) (f := 21) (r0 := 1) (nt := 38) (c := optionTakerAll_L1) (σ := (optionTakerAll_S1 (.inr ((v0, v1, v2))))) (adv [([], 1, 4, .eq (pI (v1.length : Int))), ([], 1, 5, .eq (pB true)), ([], 2, 4, .elem [(pS y_1)]), ([], 2, 6, .ret (.tup [(pS r_1), (pB r_2)])), ([], 3, 2, .eq (pB false)), ([], 3, 5, .eq (pB false)), ([], 5, 1, .retS (pS r_3) [some ⟨3, 51, [[(pS r_4), (.list 1 false (r_5.map cS)), (.row [1, TAG] 1 0 r_6.length)]], false, false⟩, some ⟨2, 58, (r_6.map FlagD.c), true, true⟩] [0, 0]), ([], 6, 1, .eq (pB false)), ([], 8, 2, .retS (.v .nilIface) [some ⟨3, 51, [[(pS r_22), (.list 1 false (r_23.map cS)), (.row [2, TAG] 1 0 r_24.length)]], false, false⟩, none, some ⟨2, 58, (r_24.map FlagD.c), true, true⟩] [0, 0, 0])]) (ex := .normal) (by kernel_rfl) (by kernel_rfl) (allC (len_ob (rfl : (v1.map cS) = v1.map cS)) (allC (cg q1) (allC (gt_list (c := cS) q2) (allC (stringsCutPrefix_ok k y_1 (bs [45]) _ q3) (allC (cg q4) (allC (cg q5) (allC (optionTakerNext2_ok (k + 2) v0 v1 v2 _ q6) (allC (cg q7) (allC (optionTakerGroup2_ok (k + 1) r_1 r_4 r_5 r_6 _ q8) allN))))))))), (by kernel_rfl)⟩
    · skip
      cases h
/-- (*flagstone/option.taker).all: the answer, and what is left of the variables -/
def optionTakerAll (p0 : ByteArray) (p1 : (List ByteArray)) : Option ((ByteArray × (List ByteArray)) ⊕ (ByteArray × (List ByteArray)) ⊕ (ByteArray × (List ByteArray)) ⊕ (ByteArray × (List ByteArray) × (List FlagD)) ⊕ (ByteArray × (List ByteArray) × (List FlagD)) ⊕ (ByteArray × (List ByteArray) × (List FlagD))) :=
  (iterN (optionTakerAll_b1) LF (.inl (p0, p1))).bind fun X_1 => match X_1 with
  | .inl (v_1, v_2, y_1, r_1, r_2) => (
    some (.inl (v_1, v_2))
  )
  | .inr (.inl (v_1, v_2, y_1, r_1, r_2)) => (
    some (.inl (v_1, v_2))
  )
  | .inr (.inr (.inl (v_1, v_2, y_1, r_1, r_2, r_3, r_4, r_5))) => (
    some (.inl (r_4, r_5))
  )
  | .inr (.inr (.inr (.inl (v_1, v_2, y_1, r_1, r_2, r_3, r_4, r_5, r_6, r_7)))) => (
    some (.inr (.inl (r_6, r_7)))
  )
  | .inr (.inr (.inr (.inr (.inl (v_1, v_2, y_1, r_1, r_2, r_3, r_4, r_5, r_8, r_9))))) => (
    some (.inr (.inr (.inl (r_8, r_9))))
  )
  | .inr (.inr (.inr (.inr (.inr (.inl (v_1, v_2, y_1, r_1, r_2, r_3, r_4, r_5, r_12, r_13, r_14)))))) => (
    some (.inr (.inr (.inr (.inl (r_12, r_13, r_14)))))
  )
  | .inr (.inr (.inr (.inr (.inr (.inr (.inl (v_1, v_2, y_1, r_1, r_2, r_3, r_4, r_5, r_15, r_16, r_17))))))) => (
    some (.inr (.inr (.inr (.inr (.inl (r_15, r_16, r_17))))))
  )
  | .inr (.inr (.inr (.inr (.inr (.inr (.inr (.inl (v_1, v_2)))))))) => (
    some (.inl (v_1, v_2))
  )
  | .inr (.inr (.inr (.inr (.inr (.inr (.inr (.inr (.inl (v_3, v_4, v_5, y_1, r_1, r_2))))))))) => (
    some (.inr (.inr (.inr (.inr (.inr ((v_3, v_4, v_5)))))))
  )
  | .inr (.inr (.inr (.inr (.inr (.inr (.inr (.inr (.inr (.inl (v_3, v_4, v_5, y_1, r_1, r_2)))))))))) => (
    some (.inr (.inr (.inr (.inr (.inr ((v_3, v_4, v_5)))))))
  )
  | .inr (.inr (.inr (.inr (.inr (.inr (.inr (.inr (.inr (.inr (.inl (v_3, v_4, v_5, y_1, r_1, r_2, r_3, r_4, r_5, r_6))))))))))) => (
    some (.inr (.inr (.inr (.inr (.inr ((r_4, r_5, r_6)))))))
  )
  | .inr (.inr (.inr (.inr (.inr (.inr (.inr (.inr (.inr (.inr (.inr (.inl (v_3, v_4, v_5, y_1, r_1, r_2, r_3, r_4, r_5, r_6, r_7, r_8, r_9)))))))))))) => (
    some (.inr (.inr (.inr (.inl (r_7, r_8, r_9)))))
  )
  | .inr (.inr (.inr (.inr (.inr (.inr (.inr (.inr (.inr (.inr (.inr (.inr (.inl (v_3, v_4, v_5, y_1, r_1, r_2, r_3, r_4, r_5, r_6, r_10, r_11, r_12))))))))))))) => (
    some (.inr (.inr (.inr (.inr (.inl (r_10, r_11, r_12))))))
  )
  | .inr (.inr (.inr (.inr (.inr (.inr (.inr (.inr (.inr (.inr (.inr (.inr (.inr (.inl (v_3, v_4, v_5, y_1, r_1, r_2, r_3, r_4, r_5, r_6, r_16, r_17, r_18)))))))))))))) => (
    some (.inr (.inr (.inr (.inl (r_16, r_17, r_18)))))
  )
  | .inr (.inr (.inr (.inr (.inr (.inr (.inr (.inr (.inr (.inr (.inr (.inr (.inr (.inr (.inl (v_3, v_4, v_5, y_1, r_1, r_2, r_3, r_4, r_5, r_6, r_19, r_20, r_21))))))))))))))) => (
    some (.inr (.inr (.inr (.inr (.inl (r_19, r_20, r_21))))))
  )
  | .inr (.inr (.inr (.inr (.inr (.inr (.inr (.inr (.inr (.inr (.inr (.inr (.inr (.inr (.inr ((v_3, v_4, v_5)))))))))))))))) => (
    some (.inr (.inr (.inr (.inr (.inr ((v_3, v_4, v_5)))))))
  )
def optionTakerAll_out : ((ByteArray × (List ByteArray)) ⊕ (ByteArray × (List ByteArray)) ⊕ (ByteArray × (List ByteArray)) ⊕ (ByteArray × (List ByteArray) × (List FlagD)) ⊕ (ByteArray × (List ByteArray) × (List FlagD)) ⊕ (ByteArray × (List ByteArray) × (List FlagD))) → PV × List (Option Blk) × List Nat
  | .inl (r0, r1) => ((.v .nilIface), [some ⟨3, 51, [[(pS r0), (.list 1 false (r1.map cS)), (.v (.slice none 0 0))]], true, false⟩], [0])
  | .inr (.inl (r0, r1)) => ((.ifc 87 (.far 0)), [some ⟨3, 51, [[(pS r0), (.list 1 false (r1.map cS)), (.v (.slice none 0 0))]], true, false⟩], [0])
  | .inr (.inr (.inl (r0, r1))) => ((.ifc 87 (.far 1)), [some ⟨3, 51, [[(pS r0), (.list 1 false (r1.map cS)), (.v (.slice none 0 0))]], true, false⟩], [0])
  | .inr (.inr (.inr (.inl (r0, r1, r2)))) => ((.ifc 87 (.far 0)), [some ⟨3, 51, [[(pS r0), (.list 1 false (r1.map cS)), (.row [1, TAG] 1 0 r2.length)]], false, false⟩, some ⟨2, 58, (r2.map FlagD.c), true, true⟩], [0, 0])
  | .inr (.inr (.inr (.inr (.inl (r0, r1, r2))))) => ((.ifc 87 (.far 1)), [some ⟨3, 51, [[(pS r0), (.list 1 false (r1.map cS)), (.row [1, TAG] 1 0 r2.length)]], false, false⟩, some ⟨2, 58, (r2.map FlagD.c), true, true⟩], [0, 0])
  | .inr (.inr (.inr (.inr (.inr ((r0, r1, r2)))))) => ((.v .nilIface), [some ⟨3, 51, [[(pS r0), (.list 1 false (r1.map cS)), (.row [1, TAG] 1 0 r2.length)]], false, false⟩, some ⟨2, 58, (r2.map FlagD.c), true, true⟩], [0, 0])
set_option maxRecDepth 100000 in
theorem optionTakerAll_ok (k : Nat) (p0 : ByteArray) (p1 : (List ByteArray)) (r : ((ByteArray × (List ByteArray)) ⊕ (ByteArray × (List ByteArray)) ⊕ (ByteArray × (List ByteArray)) ⊕ (ByteArray × (List ByteArray) × (List FlagD)) ⊕ (ByteArray × (List ByteArray) × (List FlagD)) ⊕ (ByteArray × (List ByteArray) × (List FlagD)))) (h : optionTakerAll p0 p1 = some r) : runS0 (k + 4) 21 [(.ptr [0, TAG] 1 0 0)] [some ⟨3, 51, [[(pS p0), (.list 1 false (p1.map cS)), (.v (.slice none 0 0))]], true, false⟩] [0] = some (optionTakerAll_out r) := by
  unfold optionTakerAll at h
  obtain ⟨X_1, q1, h⟩ := bnd_some h
  obtain ⟨a_1, q2, q3⟩ := loop_iter (f := run1 (k + 3) 21 1 38 optionTakerAll_L1) (optionTakerAll_S1) (optionTakerAll_b1) (optionTakerAll_t1 k) LF (.inl (p0, p1)) _ (stOf (goStop (k + 3) 21 1 38 (adv []) 1 (codeOf Tryd.f21) (argB 21 [(.ptr [0, TAG] 1 0 0)] [some ⟨3, 51, [[(pS p0), (.list 1 false (p1.map cS)), (.v (.slice none 0 0))]], true, false⟩] [0]))) q1 (by kernel_rfl)
  rcases a_1 with ⟨v_1, v_2⟩ | ⟨v_3, v_4, v_5⟩
  · unfold optionTakerAll_b1 at q2
    try dsimp only at q2
    rcases bif_some q2 with ⟨q6, q2⟩ | ⟨q6, q2⟩
    · skip
      obtain ⟨y_1, q7, q2⟩ := bnd_some q2
      obtain ⟨⟨r_1, r_2⟩, q8, q2⟩ := bnd_some q2
      try dsimp only at q2
      rcases bif_some q2 with ⟨q9, q2⟩ | ⟨q9, q2⟩
      · skip
        cases q2
        try dsimp only at h
        have q4 := run_go (k := (k + 3)) (f := 21) (r0 := 1) (nt := 38) (c := optionTakerAll_L1) (σ := (optionTakerAll_S1 (.inl (v_1, v_2)))) (adv [([], 1, 4, .eq (pI (v_2.length : Int))), ([], 1, 5, .eq (pB true)), ([], 2, 4, .elem [(pS y_1)]), ([], 2, 6, .ret (.tup [(pS r_1), (pB r_2)])), ([], 3, 2, .eq (pB true))]) (ex := .ret) (by kernel_rfl) (by kernel_rfl) (allC (len_ob (rfl : (v_2.map cS) = v_2.map cS)) (allC (cg q6) (allC (gt_list (c := cS) q7) (allC (stringsCutPrefix_ok k y_1 (bs [45]) _ q8) (allC (cg q9) allN)))))
        have q5 := q3 _ _ (by intro e; cases e) q4
        obtain rfl := Option.some.inj h
        exact retS_go (k := (k + 3)) (n := 1) Tryd.func21 Tryd.ntmps21 rfl (by kernel_rfl) (by kernel_rfl) (Nat.le_of_ble_eq_true rfl) (adv [] [([], 1, .ret, (stOf (go (k + 3) 21 1 38 (adv [([], 1, 4, .eq (pI (v_2.length : Int))), ([], 1, 5, .eq (pB true)), ([], 2, 4, .elem [(pS y_1)]), ([], 2, 6, .ret (.tup [(pS r_1), (pB r_2)])), ([], 3, 2, .eq (pB true))]) optionTakerAll_L1 (optionTakerAll_S1 (.inl (v_1, v_2))))))]) (ex := .ret) (r := ((.v .nilIface), [some ⟨3, 51, [[(pS v_1), (.list 1 false (v_2.map cS)), (.v (.slice none 0 0))]], true, false⟩], [0])) (by kernel_rfl) rfl (by kernel_rfl) (allC q5 allN) (by kernel_rfl)
      · skip
        rcases bif_some q2 with ⟨q10, q2⟩ | ⟨q10, q2⟩
        · skip
          cases q2
          try dsimp only at h
          have q4 := run_go (k := (k + 3)) (f := 21) (r0 := 1) (nt := 38) (c := optionTakerAll_L1) (σ := (optionTakerAll_S1 (.inl (v_1, v_2)))) (adv [([], 1, 4, .eq (pI (v_2.length : Int))), ([], 1, 5, .eq (pB true)), ([], 2, 4, .elem [(pS y_1)]), ([], 2, 6, .ret (.tup [(pS r_1), (pB r_2)])), ([], 3, 2, .eq (pB false)), ([], 3, 5, .eq (pB true))]) (ex := .ret) (by kernel_rfl) (by kernel_rfl) (allC (len_ob (rfl : (v_2.map cS) = v_2.map cS)) (allC (cg q6) (allC (gt_list (c := cS) q7) (allC (stringsCutPrefix_ok k y_1 (bs [45]) _ q8) (allC (cg q9) (allC (cg q10) allN))))))
          have q5 := q3 _ _ (by intro e; cases e) q4
          obtain rfl := Option.some.inj h
          exact retS_go (k := (k + 3)) (n := 1) Tryd.func21 Tryd.ntmps21 rfl (by kernel_rfl) (by kernel_rfl) (Nat.le_of_ble_eq_true rfl) (adv [] [([], 1, .ret, (stOf (go (k + 3) 21 1 38 (adv [([], 1, 4, .eq (pI (v_2.length : Int))), ([], 1, 5, .eq (pB true)), ([], 2, 4, .elem [(pS y_1)]), ([], 2, 6, .ret (.tup [(pS r_1), (pB r_2)])), ([], 3, 2, .eq (pB false)), ([], 3, 5, .eq (pB true))]) optionTakerAll_L1 (optionTakerAll_S1 (.inl (v_1, v_2))))))]) (ex := .ret) (r := ((.v .nilIface), [some ⟨3, 51, [[(pS v_1), (.list 1 false (v_2.map cS)), (.v (.slice none 0 0))]], true, false⟩], [0])) (by kernel_rfl) rfl (by kernel_rfl) (allC q5 allN) (by kernel_rfl)
        · skip
          obtain ⟨X_2, q11, q2⟩ := bnd_some q2
          rcases X_2 with ⟨r_3, r_4, r_5⟩
          · try dsimp only at q2
            rcases bif_some q2 with ⟨q12, q2⟩ | ⟨q12, q2⟩
            · skip
              cases q2
              try dsimp only at h
              have q4 := run_go (k := (k + 3)) (f := 21) (r0 := 1) (nt := 38) (c := optionTakerAll_L1) (σ := (optionTakerAll_S1 (.inl (v_1, v_2)))) (adv [([], 1, 4, .eq (pI (v_2.length : Int))), ([], 1, 5, .eq (pB true)), ([], 2, 4, .elem [(pS y_1)]), ([], 2, 6, .ret (.tup [(pS r_1), (pB r_2)])), ([], 3, 2, .eq (pB false)), ([], 3, 5, .eq (pB false)), ([], 5, 1, .retS (pS r_3) [some ⟨3, 51, [[(pS r_4), (.list 1 false (r_5.map cS)), (.v (.slice none 0 0))]], true, false⟩] [0]), ([], 6, 1, .eq (pB true))]) (ex := .ret) (by kernel_rfl) (by kernel_rfl) (allC (len_ob (rfl : (v_2.map cS) = v_2.map cS)) (allC (cg q6) (allC (gt_list (c := cS) q7) (allC (stringsCutPrefix_ok k y_1 (bs [45]) _ q8) (allC (cg q9) (allC (cg q10) (allC (optionTakerNext_ok (k + 2) v_1 v_2 _ q11) (allC (cg q12) allN))))))))
              have q5 := q3 _ _ (by intro e; cases e) q4
              obtain rfl := Option.some.inj h
              exact retS_go (k := (k + 3)) (n := 1) Tryd.func21 Tryd.ntmps21 rfl (by kernel_rfl) (by kernel_rfl) (Nat.le_of_ble_eq_true rfl) (adv [] [([], 1, .ret, (stOf (go (k + 3) 21 1 38 (adv [([], 1, 4, .eq (pI (v_2.length : Int))), ([], 1, 5, .eq (pB true)), ([], 2, 4, .elem [(pS y_1)]), ([], 2, 6, .ret (.tup [(pS r_1), (pB r_2)])), ([], 3, 2, .eq (pB false)), ([], 3, 5, .eq (pB false)), ([], 5, 1, .retS (pS r_3) [some ⟨3, 51, [[(pS r_4), (.list 1 false (r_5.map cS)), (.v (.slice none 0 0))]], true, false⟩] [0]), ([], 6, 1, .eq (pB true))]) optionTakerAll_L1 (optionTakerAll_S1 (.inl (v_1, v_2))))))]) (ex := .ret) (r := ((.v .nilIface), [some ⟨3, 51, [[(pS r_4), (.list 1 false (r_5.map cS)), (.v (.slice none 0 0))]], true, false⟩], [0])) (by kernel_rfl) rfl (by kernel_rfl) (allC q5 allN) (by kernel_rfl)
            · skip
              obtain ⟨X_3, q13, q2⟩ := bnd_some q2
              rcases X_3 with ⟨r_6, r_7⟩ | ⟨r_8, r_9⟩ | ⟨r_10, r_11⟩ | ⟨r_12, r_13, r_14⟩ | ⟨r_15, r_16, r_17⟩ | ⟨r_18, r_19, r_20⟩
              · try dsimp only at q2
                cases q2
                try dsimp only at h
                have q4 := run_go (k := (k + 3)) (f := 21) (r0 := 1) (nt := 38) (c := optionTakerAll_L1) (σ := (optionTakerAll_S1 (.inl (v_1, v_2)))) (adv [([], 1, 4, .eq (pI (v_2.length : Int))), ([], 1, 5, .eq (pB true)), ([], 2, 4, .elem [(pS y_1)]), ([], 2, 6, .ret (.tup [(pS r_1), (pB r_2)])), ([], 3, 2, .eq (pB false)), ([], 3, 5, .eq (pB false)), ([], 5, 1, .retS (pS r_3) [some ⟨3, 51, [[(pS r_4), (.list 1 false (r_5.map cS)), (.v (.slice none 0 0))]], true, false⟩] [0]), ([], 6, 1, .eq (pB false)), ([], 8, 2, .retS (.ifc 87 (.far 0)) [some ⟨3, 51, [[(pS r_6), (.list 1 false (r_7.map cS)), (.v (.slice none 0 0))]], true, false⟩] [0])]) (ex := .ret) (by kernel_rfl) (by kernel_rfl) (allC (len_ob (rfl : (v_2.map cS) = v_2.map cS)) (allC (cg q6) (allC (gt_list (c := cS) q7) (allC (stringsCutPrefix_ok k y_1 (bs [45]) _ q8) (allC (cg q9) (allC (cg q10) (allC (optionTakerNext_ok (k + 2) v_1 v_2 _ q11) (allC (cg q12) (allC (optionTakerGroup_ok (k + 1) r_1 r_4 r_5 _ q13) allN)))))))))
                have q5 := q3 _ _ (by intro e; cases e) q4
                obtain rfl := Option.some.inj h
                exact retS_go (k := (k + 3)) (n := 1) Tryd.func21 Tryd.ntmps21 rfl (by kernel_rfl) (by kernel_rfl) (Nat.le_of_ble_eq_true rfl) (adv [] [([], 1, .ret, (stOf (go (k + 3) 21 1 38 (adv [([], 1, 4, .eq (pI (v_2.length : Int))), ([], 1, 5, .eq (pB true)), ([], 2, 4, .elem [(pS y_1)]), ([], 2, 6, .ret (.tup [(pS r_1), (pB r_2)])), ([], 3, 2, .eq (pB false)), ([], 3, 5, .eq (pB false)), ([], 5, 1, .retS (pS r_3) [some ⟨3, 51, [[(pS r_4), (.list 1 false (r_5.map cS)), (.v (.slice none 0 0))]], true, false⟩] [0]), ([], 6, 1, .eq (pB false)), ([], 8, 2, .retS (.ifc 87 (.far 0)) [some ⟨3, 51, [[(pS r_6), (.list 1 false (r_7.map cS)), (.v (.slice none 0 0))]], true, false⟩] [0])]) optionTakerAll_L1 (optionTakerAll_S1 (.inl (v_1, v_2))))))]) (ex := .ret) (r := ((.ifc 87 (.far 0)), [some ⟨3, 51, [[(pS r_6), (.list 1 false (r_7.map cS)), (.v (.slice none 0 0))]], true, false⟩], [0])) (by kernel_rfl) rfl (by kernel_rfl) (allC q5 allN) (by kernel_rfl)
              · try dsimp only at q2
                cases q2
                try dsimp only at h
                have q4 := run_go (k := (k + 3)) (f := 21) (r0 := 1) (nt := 38) (c := optionTakerAll_L1) (σ := (optionTakerAll_S1 (.inl (v_1, v_2)))) (adv [([], 1, 4, .eq (pI (v_2.length : Int))), ([], 1, 5, .eq (pB true)), ([], 2, 4, .elem [(pS y_1)]), ([], 2, 6, .ret (.tup [(pS r_1), (pB r_2)])), ([], 3, 2, .eq (pB false)), ([], 3, 5, .eq (pB false)), ([], 5, 1, .retS (pS r_3) [some ⟨3, 51, [[(pS r_4), (.list 1 false (r_5.map cS)), (.v (.slice none 0 0))]], true, false⟩] [0]), ([], 6, 1, .eq (pB false)), ([], 8, 2, .retS (.ifc 87 (.far 1)) [some ⟨3, 51, [[(pS r_8), (.list 1 false (r_9.map cS)), (.v (.slice none 0 0))]], true, false⟩] [0])]) (ex := .ret) (by kernel_rfl) (by kernel_rfl) (allC (len_ob (rfl : (v_2.map cS) = v_2.map cS)) (allC (cg q6) (allC (gt_list (c := cS) q7) (allC (stringsCutPrefix_ok k y_1 (bs [45]) _ q8) (allC (cg q9) (allC (cg q10) (allC (optionTakerNext_ok (k + 2) v_1 v_2 _ q11) (allC (cg q12) (allC (optionTakerGroup_ok (k + 1) r_1 r_4 r_5 _ q13) allN)))))))))
                have q5 := q3 _ _ (by intro e; cases e) q4
                obtain rfl := Option.some.inj h
                exact retS_go (k := (k + 3)) (n := 1) Tryd.func21 Tryd.ntmps21 rfl (by kernel_rfl) (by kernel_rfl) (Nat.le_of_ble_eq_true rfl) (adv [] [([], 1, .ret, (stOf (go (k + 3) 21 1 38 (adv [([], 1, 4, .eq (pI (v_2.length : Int))), ([], 1, 5, .eq (pB true)), ([], 2, 4, .elem [(pS y_1)]), ([], 2, 6, .ret (.tup [(pS r_1), (pB r_2)])), ([], 3, 2, .eq (pB false)), ([], 3, 5, .eq (pB false)), ([], 5, 1, .retS (pS r_3) [some ⟨3, 51, [[(pS r_4), (.list 1 false (r_5.map cS)), (.v (.slice none 0 0))]], true, false⟩] [0]), ([], 6, 1, .eq (pB false)), ([], 8, 2, .retS (.ifc 87 (.far 1)) [some ⟨3, 51, [[(pS r_8), (.list 1 false (r_9.map cS)), (.v (.slice none 0 0))]], true, false⟩] [0])]) optionTakerAll_L1 (optionTakerAll_S1 (.inl (v_1, v_2))))))]) (ex := .ret) (r := ((.ifc 87 (.far 1)), [some ⟨3, 51, [[(pS r_8), (.list 1 false (r_9.map cS)), (.v (.slice none 0 0))]], true, false⟩], [0])) (by kernel_rfl) rfl (by kernel_rfl) (allC q5 allN) (by kernel_rfl)
              · try dsimp only at q2
                cases q2
              · try dsimp only at q2
                cases q2
                try dsimp only at h
                have q4 := run_go (k := (k + 3)) (f := 21) (r0 := 1) (nt := 38) (c := optionTakerAll_L1) (σ := (optionTakerAll_S1 (.inl (v_1, v_2)))) (adv [([], 1, 4, .eq (pI (v_2.length : Int))), ([], 1, 5, .eq (pB true)), ([], 2, 4, .elem [(pS y_1)]), ([], 2, 6, .ret (.tup [(pS r_1), (pB r_2)])), ([], 3, 2, .eq (pB false)), ([], 3, 5, .eq (pB false)), ([], 5, 1, .retS (pS r_3) [some ⟨3, 51, [[(pS r_4), (.list 1 false (r_5.map cS)), (.v (.slice none 0 0))]], true, false⟩] [0]), ([], 6, 1, .eq (pB false)), ([], 8, 2, .retS (.ifc 87 (.far 0)) [some ⟨3, 51, [[(pS r_12), (.list 1 false (r_13.map cS)), (.row [1, TAG] 1 0 r_14.length)]], false, false⟩, some ⟨2, 58, (r_14.map FlagD.c), true, true⟩] [0, 0])]) (ex := .ret) (by kernel_rfl) (by kernel_rfl) (allC (len_ob (rfl : (v_2.map cS) = v_2.map cS)) (allC (cg q6) (allC (gt_list (c := cS) q7) (allC (stringsCutPrefix_ok k y_1 (bs [45]) _ q8) (allC (cg q9) (allC (cg q10) (allC (optionTakerNext_ok (k + 2) v_1 v_2 _ q11) (allC (cg q12) (allC (optionTakerGroup_ok (k + 1) r_1 r_4 r_5 _ q13) allN)))))))))
                have q5 := q3 _ _ (by intro e; cases e) q4
                obtain rfl := Option.some.inj h
                exact retS_go (k := (k + 3)) (n := 1) Tryd.func21 Tryd.ntmps21 rfl (by kernel_rfl) (by kernel_rfl) (Nat.le_of_ble_eq_true rfl) (adv [] [([], 1, .ret, (stOf (go (k + 3) 21 1 38 (adv [([], 1, 4, .eq (pI (v_2.length : Int))), ([], 1, 5, .eq (pB true)), ([], 2, 4, .elem [(pS y_1)]), ([], 2, 6, .ret (.tup [(pS r_1), (pB r_2)])), ([], 3, 2, .eq (pB false)), ([], 3, 5, .eq (pB false)), ([], 5, 1, .retS (pS r_3) [some ⟨3, 51, [[(pS r_4), (.list 1 false (r_5.map cS)), (.v (.slice none 0 0))]], true, false⟩] [0]), ([], 6, 1, .eq (pB false)), ([], 8, 2, .retS (.ifc 87 (.far 0)) [some ⟨3, 51, [[(pS r_12), (.list 1 false (r_13.map cS)), (.row [1, TAG] 1 0 r_14.length)]], false, false⟩, some ⟨2, 58, (r_14.map FlagD.c), true, true⟩] [0, 0])]) optionTakerAll_L1 (optionTakerAll_S1 (.inl (v_1, v_2))))))]) (ex := .ret) (r := ((.ifc 87 (.far 0)), [some ⟨3, 51, [[(pS r_12), (.list 1 false (r_13.map cS)), (.row [1, TAG] 1 0 r_14.length)]], false, false⟩, some ⟨2, 58, (r_14.map FlagD.c), true, true⟩], [0, 0])) (by kernel_rfl) rfl (by kernel_rfl) (allC q5 allN) (by kernel_rfl)
              · try dsimp only at q2
                cases q2
                try dsimp only at h
                have q4 := run_go (k := (k + 3)) (f := 21) (r0 := 1) (nt := 38) (c := optionTakerAll_L1) (σ := (optionTakerAll_S1 (.inl (v_1, v_2)))) (adv [([], 1, 4, .eq (pI (v_2.length : Int))), ([], 1, 5, .eq (pB true)), ([], 2, 4, .elem [(pS y_1)]), ([], 2, 6, .ret (.tup [(pS r_1), (pB r_2)])), ([], 3, 2, .eq (pB false)), ([], 3, 5, .eq (pB false)), ([], 5, 1, .retS (pS r_3) [some ⟨3, 51, [[(pS r_4), (.list 1 false (r_5.map cS)), (.v (.slice none 0 0))]], true, false⟩] [0]), ([], 6, 1, .eq (pB false)), ([], 8, 2, .retS (.ifc 87 (.far 1)) [some ⟨3, 51, [[(pS r_15), (.list 1 false (r_16.map cS)), (.row [1, TAG] 1 0 r_17.length)]], false, false⟩, some ⟨2, 58, (r_17.map FlagD.c), true, true⟩] [0, 0])]) (ex := .ret) (by kernel_rfl) (by kernel_rfl) (allC (len_ob (rfl : (v_2.map cS) = v_2.map cS)) (allC (cg q6) (allC (gt_list (c := cS) q7) (allC (stringsCutPrefix_ok k y_1 (bs [45]) _ q8) (allC (cg q9) (allC (cg q10) (allC (optionTakerNext_ok (k + 2) v_1 v_2 _ q11) (allC (cg q12) (allC (optionTakerGroup_ok (k + 1) r_1 r_4 r_5 _ q13) allN)))))))))
                have q5 := q3 _ _ (by intro e; cases e) q4
                obtain rfl := Option.some.inj h
                exact retS_go (k := (k + 3)) (n := 1) Tryd.func21 Tryd.ntmps21 rfl (by kernel_rfl) (by kernel_rfl) (Nat.le_of_ble_eq_true rfl) (adv [] [([], 1, .ret, (stOf (go (k + 3) 21 1 38 (adv [([], 1, 4, .eq (pI (v_2.length : Int))), ([], 1, 5, .eq (pB true)), ([], 2, 4, .elem [(pS y_1)]), ([], 2, 6, .ret (.tup [(pS r_1), (pB r_2)])), ([], 3, 2, .eq (pB false)), ([], 3, 5, .eq (pB false)), ([], 5, 1, .retS (pS r_3) [some ⟨3, 51, [[(pS r_4), (.list 1 false (r_5.map cS)), (.v (.slice none 0 0))]], true, false⟩] [0]), ([], 6, 1, .eq (pB false)), ([], 8, 2, .retS (.ifc 87 (.far 1)) [some ⟨3, 51, [[(pS r_15), (.list 1 false (r_16.map cS)), (.row [1, TAG] 1 0 r_17.length)]], false, false⟩, some ⟨2, 58, (r_17.map FlagD.c), true, true⟩] [0, 0])]) optionTakerAll_L1 (optionTakerAll_S1 (.inl (v_1, v_2))))))]) (ex := .ret) (r := ((.ifc 87 (.far 1)), [some ⟨3, 51, [[(pS r_15), (.list 1 false (r_16.map cS)), (.row [1, TAG] 1 0 r_17.length)]], false, false⟩, some ⟨2, 58, (r_17.map FlagD.c), true, true⟩], [0, 0])) (by kernel_rfl) rfl (by kernel_rfl) (allC q5 allN) (by kernel_rfl)
              · try dsimp only at q2
                cases q2
    · skip
      cases q2
      try dsimp only at h
      have q4 := run_go (k := (k + 3)) (f := 21) (r0 := 1) (nt := 38) (c := optionTakerAll_L1) (σ := (optionTakerAll_S1 (.inl (v_1, v_2)))) (adv [([], 1, 4, .eq (pI (v_2.length : Int))), ([], 1, 5, .eq (pB false))]) (ex := (.exit 0)) (by kernel_rfl) (by kernel_rfl) (allC (len_ob (rfl : (v_2.map cS) = v_2.map cS)) (allC (cg q6) allN))
      have q5 := q3 _ _ (by intro e; cases e) q4
      obtain rfl := Option.some.inj h
      exact retS_go (k := (k + 3)) (n := 1) Tryd.func21 Tryd.ntmps21 rfl (by kernel_rfl) (by kernel_rfl) (Nat.le_of_ble_eq_true rfl) (adv [] [([], 1, (.exit 0), (stOf (go (k + 3) 21 1 38 (adv [([], 1, 4, .eq (pI (v_2.length : Int))), ([], 1, 5, .eq (pB false))]) optionTakerAll_L1 (optionTakerAll_S1 (.inl (v_1, v_2))))))]) (ex := .ret) (r := ((.v .nilIface), [some ⟨3, 51, [[(pS v_1), (.list 1 false (v_2.map cS)), (.v (.slice none 0 0))]], true, false⟩], [0])) (by kernel_rfl) rfl (by kernel_rfl) (allC q5 allN) (by kernel_rfl)
  · unfold optionTakerAll_b1 at q2
    try dsimp only at q2
    rcases bif_some q2 with ⟨q6, q2⟩ | ⟨q6, q2⟩
    · skip
      obtain ⟨y_1, q7, q2⟩ := bnd_some q2
      obtain ⟨⟨r_1, r_2⟩, q8, q2⟩ := bnd_some q2
      try dsimp only at q2
      rcases bif_some q2 with ⟨q9, q2⟩ | ⟨q9, q2⟩
      · skip
        cases q2
        try dsimp only at h
        have q4 := run_go (k := (k + 3)) (f := 21) (r0 := 1) (nt := 38) (c := optionTakerAll_L1) (σ := (optionTakerAll_S1 (.inr ((v_3, v_4, v_5))))) (adv [([], 1, 4, .eq (pI (v_4.length : Int))), ([], 1, 5, .eq (pB true)), ([], 2, 4, .elem [(pS y_1)]), ([], 2, 6, .ret (.tup [(pS r_1), (pB r_2)])), ([], 3, 2, .eq (pB true))]) (ex := .ret) (by kernel_rfl) (by kernel_rfl) (allC (len_ob (rfl : (v_4.map cS) = v_4.map cS)) (allC (cg q6) (allC (gt_list (c := cS) q7) (allC (stringsCutPrefix_ok k y_1 (bs [45]) _ q8) (allC (cg q9) allN)))))
        have q5 := q3 _ _ (by intro e; cases e) q4
        obtain rfl := Option.some.inj h
        exact retS_go (k := (k + 3)) (n := 1) Tryd.func21 Tryd.ntmps21 rfl (by kernel_rfl) (by kernel_rfl) (Nat.le_of_ble_eq_true rfl) (adv [] [([], 1, .ret, (stOf (go (k + 3) 21 1 38 (adv [([], 1, 4, .eq (pI (v_4.length : Int))), ([], 1, 5, .eq (pB true)), ([], 2, 4, .elem [(pS y_1)]), ([], 2, 6, .ret (.tup [(pS r_1), (pB r_2)])), ([], 3, 2, .eq (pB true))]) optionTakerAll_L1 (optionTakerAll_S1 (.inr ((v_3, v_4, v_5)))))))]) (ex := .ret) (r := ((.v .nilIface), [some ⟨3, 51, [[(pS v_3), (.list 1 false (v_4.map cS)), (.row [1, TAG] 1 0 v_5.length)]], false, false⟩, some ⟨2, 58, (v_5.map FlagD.c), true, true⟩], [0, 0])) (by kernel_rfl) rfl (by kernel_rfl) (allC q5 allN) (by kernel_rfl)
      · skip
        rcases bif_some q2 with ⟨q10, q2⟩ | ⟨q10, q2⟩
        · skip
          cases q2
          try dsimp only at h
          have q4 := run_go (k := (k + 3)) (f := 21) (r0 := 1) (nt := 38) (c := optionTakerAll_L1) (σ := (optionTakerAll_S1 (.inr ((v_3, v_4, v_5))))) (adv [([], 1, 4, .eq (pI (v_4.length : Int))), ([], 1, 5, .eq (pB true)), ([], 2, 4, .elem [(pS y_1)]), ([], 2, 6, .ret (.tup [(pS r_1), (pB r_2)])), ([], 3, 2, .eq (pB false)), ([], 3, 5, .eq (pB true))]) (ex := .ret) (by kernel_rfl) (by kernel_rfl) (allC (len_ob (rfl : (v_4.map cS) = v_4.map cS)) (allC (cg q6) (allC (gt_list (c := cS) q7) (allC (stringsCutPrefix_ok k y_1 (bs [45]) _ q8) (allC (cg q9) (allC (cg q10) allN))))))
          have q5 := q3 _ _ (by intro e; cases e) q4
          obtain rfl := Option.some.inj h
          exact retS_go (k := (k + 3)) (n := 1) Tryd.func21 Tryd.ntmps21 rfl (by kernel_rfl) (by kernel_rfl) (Nat.le_of_ble_eq_true rfl) (adv [] [([], 1, .ret, (stOf (go (k + 3) 21 1 38 (adv [([], 1, 4, .eq (pI (v_4.length : Int))), ([], 1, 5, .eq (pB true)), ([], 2, 4, .elem [(pS y_1)]), ([], 2, 6, .ret (.tup [(pS r_1), (pB r_2)])), ([], 3, 2, .eq (pB false)), ([], 3, 5, .eq (pB true))]) optionTakerAll_L1 (optionTakerAll_S1 (.inr ((v_3, v_4, v_5)))))))]) (ex := .ret) (r := ((.v .nilIface), [some ⟨3, 51, [[(pS v_3), (.list 1 false (v_4.map cS)), (.row [1, TAG] 1 0 v_5.length)]], false, false⟩, some ⟨2, 58, (v_5.map FlagD.c), true, true⟩], [0, 0])) (by kernel_rfl) rfl (by kernel_rfl) (allC q5 allN) (by kernel_rfl)
        · skip
          obtain ⟨X_2, q11, q2⟩ := bnd_some q2
          rcases X_2 with ⟨r_3, r_4, r_5, r_6⟩
          · try dsimp only at q2
            rcases bif_some q2 with ⟨q12, q2⟩ | ⟨q12, q2⟩
            · skip
              cases q2
              try dsimp only at h
              have q4 := run_go (k := (k + 3)) (f := 21) (r0 := 1) (nt := 38) (c := optionTakerAll_L1) (σ := (optionTakerAll_S1 (.inr ((v_3, v_4, v_5))))) (adv [([], 1, 4, .eq (pI (v_4.length : Int))), ([], 1, 5, .eq (pB true)), ([], 2, 4, .elem [(pS y_1)]), ([], 2, 6, .ret (.tup [(pS r_1), (pB r_2)])), ([], 3, 2, .eq (pB false)), ([], 3, 5, .eq (pB false)), ([], 5, 1, .retS (pS r_3) [some ⟨3, 51, [[(pS r_4), (.list 1 false (r_5.map cS)), (.row [1, TAG] 1 0 r_6.length)]], false, false⟩, some ⟨2, 58, (r_6.map FlagD.c), true, true⟩] [0, 0]), ([], 6, 1, .eq (pB true))]) (ex := .ret) (by kernel_rfl) (by kernel_rfl) (allC (len_ob (rfl : (v_4.map cS) = v_4.map cS)) (allC (cg q6) (allC (gt_list (c := cS) q7) (allC (stringsCutPrefix_ok k y_1 (bs [45]) _ q8) (allC (cg q9) (allC (cg q10) (allC (optionTakerNext2_ok (k + 2) v_3 v_4 v_5 _ q11) (allC (cg q12) allN))))))))
              have q5 := q3 _ _ (by intro e; cases e) q4
              obtain rfl := Option.some.inj h
              exact retS_go (k := (k + 3)) (n := 1) Tryd.func21 Tryd.ntmps21 rfl (by kernel_rfl) (by kernel_rfl) (Nat.le_of_ble_eq_true rfl) (adv [] [([], 1, .ret, (stOf (go (k + 3) 21 1 38 (adv [([], 1, 4, .eq (pI (v_4.length : Int))), ([], 1, 5, .eq (pB true)), ([], 2, 4, .elem [(pS y_1)]), ([], 2, 6, .ret (.tup [(pS r_1), (pB r_2)])), ([], 3, 2, .eq (pB false)), ([], 3, 5, .eq (pB false)), ([], 5, 1, .retS (pS r_3) [some ⟨3, 51, [[(pS r_4), (.list 1 false (r_5.map cS)), (.row [1, TAG] 1 0 r_6.length)]], false, false⟩, some ⟨2, 58, (r_6.map FlagD.c), true, true⟩] [0, 0]), ([], 6, 1, .eq (pB true))]) optionTakerAll_L1 (optionTakerAll_S1 (.inr ((v_3, v_4, v_5)))))))]) (ex := .ret) (r := ((.v .nilIface), [some ⟨3, 51, [[(pS r_4), (.list 1 false (r_5.map cS)), (.row [1, TAG] 1 0 r_6.length)]], false, false⟩, some ⟨2, 58, (r_6.map FlagD.c), true, true⟩], [0, 0])) (by kernel_rfl) rfl (by kernel_rfl) (allC q5 allN) (by kernel_rfl)
            · skip
              obtain ⟨X_3, q13, q2⟩ := bnd_some q2
              rcases X_3 with ⟨r_7, r_8, r_9⟩ | ⟨r_10, r_11, r_12⟩ | ⟨r_13, r_14, r_15⟩ | ⟨r_16, r_17, r_18⟩ | ⟨r_19, r_20, r_21⟩ | ⟨r_22, r_23, r_24⟩
              · try dsimp only at q2
                cases q2
                try dsimp only at h
                have q4 := run_go (k := (k + 3)) (f := 21) (r0 := 1) (nt := 38) (c := optionTakerAll_L1) (σ := (optionTakerAll_S1 (.inr ((v_3, v_4, v_5))))) (adv [([], 1, 4, .eq (pI (v_4.length : Int))), ([], 1, 5, .eq (pB true)), ([], 2, 4, .elem [(pS y_1)]), ([], 2, 6, .ret (.tup [(pS r_1), (pB r_2)])), ([], 3, 2, .eq (pB false)), ([], 3, 5, .eq (pB false)), ([], 5, 1, .retS (pS r_3) [some ⟨3, 51, [[(pS r_4), (.list 1 false (r_5.map cS)), (.row [1, TAG] 1 0 r_6.length)]], false, false⟩, some ⟨2, 58, (r_6.map FlagD.c), true, true⟩] [0, 0]), ([], 6, 1, .eq (pB false)), ([], 8, 2, .retS (.ifc 87 (.far 0)) [some ⟨3, 51, [[(pS r_7), (.list 1 false (r_8.map cS)), (.row [1, TAG] 1 0 r_9.length)]], false, false⟩, some ⟨2, 58, (r_9.map FlagD.c), true, true⟩] [0, 0])]) (ex := .ret) (by kernel_rfl) (by kernel_rfl) (allC (len_ob (rfl : (v_4.map cS) = v_4.map cS)) (allC (cg q6) (allC (gt_list (c := cS) q7) (allC (stringsCutPrefix_ok k y_1 (bs [45]) _ q8) (allC (cg q9) (allC (cg q10) (allC (optionTakerNext2_ok (k + 2) v_3 v_4 v_5 _ q11) (allC (cg q12) (allC (optionTakerGroup2_ok (k + 1) r_1 r_4 r_5 r_6 _ q13) allN)))))))))
                have q5 := q3 _ _ (by intro e; cases e) q4
                obtain rfl := Option.some.inj h
                exact retS_go (k := (k + 3)) (n := 1) Tryd.func21 Tryd.ntmps21 rfl (by kernel_rfl) (by kernel_rfl) (Nat.le_of_ble_eq_true rfl) (adv [] [([], 1, .ret, (stOf (go (k + 3) 21 1 38 (adv [([], 1, 4, .eq (pI (v_4.length : Int))), ([], 1, 5, .eq (pB true)), ([], 2, 4, .elem [(pS y_1)]), ([], 2, 6, .ret (.tup [(pS r_1), (pB r_2)])), ([], 3, 2, .eq (pB false)), ([], 3, 5, .eq (pB false)), ([], 5, 1, .retS (pS r_3) [some ⟨3, 51, [[(pS r_4), (.list 1 false (r_5.map cS)), (.row [1, TAG] 1 0 r_6.length)]], false, false⟩, some ⟨2, 58, (r_6.map FlagD.c), true, true⟩] [0, 0]), ([], 6, 1, .eq (pB false)), ([], 8, 2, .retS (.ifc 87 (.far 0)) [some ⟨3, 51, [[(pS r_7), (.list 1 false (r_8.map cS)), (.row [1, TAG] 1 0 r_9.length)]], false, false⟩, some ⟨2, 58, (r_9.map FlagD.c), true, true⟩] [0, 0])]) optionTakerAll_L1 (optionTakerAll_S1 (.inr ((v_3, v_4, v_5)))))))]) (ex := .ret) (r := ((.ifc 87 (.far 0)), [some ⟨3, 51, [[(pS r_7), (.list 1 false (r_8.map cS)), (.row [1, TAG] 1 0 r_9.length)]], false, false⟩, some ⟨2, 58, (r_9.map FlagD.c), true, true⟩], [0, 0])) (by kernel_rfl) rfl (by kernel_rfl) (allC q5 allN) (by kernel_rfl)
              · try dsimp only at q2
                cases q2
                try dsimp only at h
                have q4 := run_go (k := (k + 3)) (f := 21) (r0 := 1) (nt := 38) (c := optionTakerAll_L1) (σ := (optionTakerAll_S1 (.inr ((v_3, v_4, v_5))))) (adv [([], 1, 4, .eq (pI (v_4.length : Int))), ([], 1, 5, .eq (pB true)), ([], 2, 4, .elem [(pS y_1)]), ([], 2, 6, .ret (.tup [(pS r_1), (pB r_2)])), ([], 3, 2, .eq (pB false)), ([], 3, 5, .eq (pB false)), ([], 5, 1, .retS (pS r_3) [some ⟨3, 51, [[(pS r_4), (.list 1 false (r_5.map cS)), (.row [1, TAG] 1 0 r_6.length)]], false, false⟩, some ⟨2, 58, (r_6.map FlagD.c), true, true⟩] [0, 0]), ([], 6, 1, .eq (pB false)), ([], 8, 2, .retS (.ifc 87 (.far 1)) [some ⟨3, 51, [[(pS r_10), (.list 1 false (r_11.map cS)), (.row [1, TAG] 1 0 r_12.length)]], false, false⟩, some ⟨2, 58, (r_12.map FlagD.c), true, true⟩] [0, 0])]) (ex := .ret) (by kernel_rfl) (by kernel_rfl) (allC (len_ob (rfl : (v_4.map cS) = v_4.map cS)) (allC (cg q6) (allC (gt_list (c := cS) q7) (allC (stringsCutPrefix_ok k y_1 (bs [45]) _ q8) (allC (cg q9) (allC (cg q10) (allC (optionTakerNext2_ok (k + 2) v_3 v_4 v_5 _ q11) (allC (cg q12) (allC (optionTakerGroup2_ok (k + 1) r_1 r_4 r_5 r_6 _ q13) allN)))))))))
                have q5 := q3 _ _ (by intro e; cases e) q4
                obtain rfl := Option.some.inj h
                exact retS_go (k := (k + 3)) (n := 1) Tryd.func21 Tryd.ntmps21 rfl (by kernel_rfl) (by kernel_rfl) (Nat.le_of_ble_eq_true rfl) (adv [] [([], 1, .ret, (stOf (go (k + 3) 21 1 38 (adv [([], 1, 4, .eq (pI (v_4.length : Int))), ([], 1, 5, .eq (pB true)), ([], 2, 4, .elem [(pS y_1)]), ([], 2, 6, .ret (.tup [(pS r_1), (pB r_2)])), ([], 3, 2, .eq (pB false)), ([], 3, 5, .eq (pB false)), ([], 5, 1, .retS (pS r_3) [some ⟨3, 51, [[(pS r_4), (.list 1 false (r_5.map cS)), (.row [1, TAG] 1 0 r_6.length)]], false, false⟩, some ⟨2, 58, (r_6.map FlagD.c), true, true⟩] [0, 0]), ([], 6, 1, .eq (pB false)), ([], 8, 2, .retS (.ifc 87 (.far 1)) [some ⟨3, 51, [[(pS r_10), (.list 1 false (r_11.map cS)), (.row [1, TAG] 1 0 r_12.length)]], false, false⟩, some ⟨2, 58, (r_12.map FlagD.c), true, true⟩] [0, 0])]) optionTakerAll_L1 (optionTakerAll_S1 (.inr ((v_3, v_4, v_5)))))))]) (ex := .ret) (r := ((.ifc 87 (.far 1)), [some ⟨3, 51, [[(pS r_10), (.list 1 false (r_11.map cS)), (.row [1, TAG] 1 0 r_12.length)]], false, false⟩, some ⟨2, 58, (r_12.map FlagD.c), true, true⟩], [0, 0])) (by kernel_rfl) rfl (by kernel_rfl) (allC q5 allN) (by kernel_rfl)
              · try dsimp only at q2
                cases q2
              · try dsimp only at q2
                cases q2
                try dsimp only at h
                have q4 := run_go (k := (k + 3)) (f := 21) (r0 := 1) (nt := 38) (c := optionTakerAll_L1) (σ := (optionTakerAll_S1 (.inr ((v_3, v_4, v_5))))) (adv [([], 1, 4, .eq (pI (v_4.length : Int))), ([], 1, 5, .eq (pB true)), ([], 2, 4, .elem [(pS y_1)]), ([], 2, 6, .ret (.tup [(pS r_1), (pB r_2)])), ([], 3, 2, .eq (pB false)), ([], 3, 5, .eq (pB false)), ([], 5, 1, .retS (pS r_3) [some ⟨3, 51, [[(pS r_4), (.list 1 false (r_5.map cS)), (.row [1, TAG] 1 0 r_6.length)]], false, false⟩, some ⟨2, 58, (r_6.map FlagD.c), true, true⟩] [0, 0]), ([], 6, 1, .eq (pB false)), ([], 8, 2, .retS (.ifc 87 (.far 0)) [some ⟨3, 51, [[(pS r_16), (.list 1 false (r_17.map cS)), (.row [2, TAG] 1 0 r_18.length)]], false, false⟩, none, some ⟨2, 58, (r_18.map FlagD.c), true, true⟩] [0, 0, 0])]) (ex := .ret) (by kernel_rfl) (by kernel_rfl) (allC (len_ob (rfl : (v_4.map cS) = v_4.map cS)) (allC (cg q6) (allC (gt_list (c := cS) q7) (allC (stringsCutPrefix_ok k y_1 (bs [45]) _ q8) (allC (cg q9) (allC (cg q10) (allC (optionTakerNext2_ok (k + 2) v_3 v_4 v_5 _ q11) (allC (cg q12) (allC (optionTakerGroup2_ok (k + 1) r_1 r_4 r_5 r_6 _ q13) allN)))))))))
                have q5 := q3 _ _ (by intro e; cases e) q4
                obtain rfl := Option.some.inj h
                exact retS_go (k := (k + 3)) (n := 1) Tryd.func21 Tryd.ntmps21 rfl (by kernel_rfl) (by kernel_rfl) (Nat.le_of_ble_eq_true rfl) (adv [] [([], 1, .ret, (stOf (go (k + 3) 21 1 38 (adv [([], 1, 4, .eq (pI (v_4.length : Int))), ([], 1, 5, .eq (pB true)), ([], 2, 4, .elem [(pS y_1)]), ([], 2, 6, .ret (.tup [(pS r_1), (pB r_2)])), ([], 3, 2, .eq (pB false)), ([], 3, 5, .eq (pB false)), ([], 5, 1, .retS (pS r_3) [some ⟨3, 51, [[(pS r_4), (.list 1 false (r_5.map cS)), (.row [1, TAG] 1 0 r_6.length)]], false, false⟩, some ⟨2, 58, (r_6.map FlagD.c), true, true⟩] [0, 0]), ([], 6, 1, .eq (pB false)), ([], 8, 2, .retS (.ifc 87 (.far 0)) [some ⟨3, 51, [[(pS r_16), (.list 1 false (r_17.map cS)), (.row [2, TAG] 1 0 r_18.length)]], false, false⟩, none, some ⟨2, 58, (r_18.map FlagD.c), true, true⟩] [0, 0, 0])]) optionTakerAll_L1 (optionTakerAll_S1 (.inr ((v_3, v_4, v_5)))))))]) (ex := .ret) (r := ((.ifc 87 (.far 0)), [some ⟨3, 51, [[(pS r_16), (.list 1 false (r_17.map cS)), (.row [1, TAG] 1 0 r_18.length)]], false, false⟩, some ⟨2, 58, (r_18.map FlagD.c), true, true⟩], [0, 0])) (by kernel_rfl) rfl (by kernel_rfl) (allC q5 allN) (by kernel_rfl)
              · try dsimp only at q2
                cases q2
                try dsimp only at h
                have q4 := run_go (k := (k + 3)) (f := 21) (r0 := 1) (nt := 38) (c := optionTakerAll_L1) (σ := (optionTakerAll_S1 (.inr ((v_3, v_4, v_5))))) (adv [([], 1, 4, .eq (pI (v_4.length : Int))), ([], 1, 5, .eq (pB true)), ([], 2, 4, .elem [(pS y_1)]), ([], 2, 6, .ret (.tup [(pS r_1), (pB r_2)])), ([], 3, 2, .eq (pB false)), ([], 3, 5, .eq (pB false)), ([], 5, 1, .retS (pS r_3) [some ⟨3, 51, [[(pS r_4), (.list 1 false (r_5.map cS)), (.row [1, TAG] 1 0 r_6.length)]], false, false⟩, some ⟨2, 58, (r_6.map FlagD.c), true, true⟩] [0, 0]), ([], 6, 1, .eq (pB false)), ([], 8, 2, .retS (.ifc 87 (.far 1)) [some ⟨3, 51, [[(pS r_19), (.list 1 false (r_20.map cS)), (.row [2, TAG] 1 0 r_21.length)]], false, false⟩, none, some ⟨2, 58, (r_21.map FlagD.c), true, true⟩] [0, 0, 0])]) (ex := .ret) (by kernel_rfl) (by kernel_rfl) (allC (len_ob (rfl : (v_4.map cS) = v_4.map cS)) (allC (cg q6) (allC (gt_list (c := cS) q7) (allC (stringsCutPrefix_ok k y_1 (bs [45]) _ q8) (allC (cg q9) (allC (cg q10) (allC (optionTakerNext2_ok (k + 2) v_3 v_4 v_5 _ q11) (allC (cg q12) (allC (optionTakerGroup2_ok (k + 1) r_1 r_4 r_5 r_6 _ q13) allN)))))))))
                have q5 := q3 _ _ (by intro e; cases e) q4
                obtain rfl := Option.some.inj h
                exact retS_go (k := (k + 3)) (n := 1) Tryd.func21 Tryd.ntmps21 rfl (by kernel_rfl) (by kernel_rfl) (Nat.le_of_ble_eq_true rfl) (adv [] [([], 1, .ret, (stOf (go (k + 3) 21 1 38 (adv [([], 1, 4, .eq (pI (v_4.length : Int))), ([], 1, 5, .eq (pB true)), ([], 2, 4, .elem [(pS y_1)]), ([], 2, 6, .ret (.tup [(pS r_1), (pB r_2)])), ([], 3, 2, .eq (pB false)), ([], 3, 5, .eq (pB false)), ([], 5, 1, .retS (pS r_3) [some ⟨3, 51, [[(pS r_4), (.list 1 false (r_5.map cS)), (.row [1, TAG] 1 0 r_6.length)]], false, false⟩, some ⟨2, 58, (r_6.map FlagD.c), true, true⟩] [0, 0]), ([], 6, 1, .eq (pB false)), ([], 8, 2, .retS (.ifc 87 (.far 1)) [some ⟨3, 51, [[(pS r_19), (.list 1 false (r_20.map cS)), (.row [2, TAG] 1 0 r_21.length)]], false, false⟩, none, some ⟨2, 58, (r_21.map FlagD.c), true, true⟩] [0, 0, 0])]) optionTakerAll_L1 (optionTakerAll_S1 (.inr ((v_3, v_4, v_5)))))))]) (ex := .ret) (r := ((.ifc 87 (.far 1)), [some ⟨3, 51, [[(pS r_19), (.list 1 false (r_20.map cS)), (.row [1, TAG] 1 0 r_21.length)]], false, false⟩, some ⟨2, 58, (r_21.map FlagD.c), true, true⟩], [0, 0])) (by kernel_rfl) rfl (by kernel_rfl) (allC q5 allN) (by kernel_rfl)
              · try dsimp only at q2
                cases q2
    · skip
      cases q2
      try dsimp only at h
      have q4 := run_go (k := (k + 3)) (f := 21) (r0 := 1) (nt := 38) (c := optionTakerAll_L1) (σ := (optionTakerAll_S1 (.inr ((v_3, v_4, v_5))))) (adv [([], 1, 4, .eq (pI (v_4.length : Int))), ([], 1, 5, .eq (pB false))]) (ex := (.exit 0)) (by kernel_rfl) (by kernel_rfl) (allC (len_ob (rfl : (v_4.map cS) = v_4.map cS)) (allC (cg q6) allN))
      have q5 := q3 _ _ (by intro e; cases e) q4
      obtain rfl := Option.some.inj h
      exact retS_go (k := (k + 3)) (n := 1) Tryd.func21 Tryd.ntmps21 rfl (by kernel_rfl) (by kernel_rfl) (Nat.le_of_ble_eq_true rfl) (adv [] [([], 1, (.exit 0), (stOf (go (k + 3) 21 1 38 (adv [([], 1, 4, .eq (pI (v_4.length : Int))), ([], 1, 5, .eq (pB false))]) optionTakerAll_L1 (optionTakerAll_S1 (.inr ((v_3, v_4, v_5)))))))]) (ex := .ret) (r := ((.v .nilIface), [some ⟨3, 51, [[(pS v_3), (.list 1 false (v_4.map cS)), (.row [1, TAG] 1 0 v_5.length)]], false, false⟩, some ⟨2, 58, (v_5.map FlagD.c), true, true⟩], [0, 0])) (by kernel_rfl) rfl (by kernel_rfl) (allC q5 allN) (by kernel_rfl)


end Go.Proofs.YtbidfkibpjjghaaDoor.Den
