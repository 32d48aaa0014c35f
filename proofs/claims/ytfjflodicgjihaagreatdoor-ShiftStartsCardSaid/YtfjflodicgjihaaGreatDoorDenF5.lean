/- Functions, printed by den.py out of the code: plain ones, and that the code answers as they do. -/
import Derived.Test.YtfjflodicgjihaaGreatDoorDenF2
set_option linter.unusedVariables false
set_option linter.unusedSimpArgs false
namespace Go.Proofs.YtfjflodicgjihaaGreatDoor.Den
open Go Go.RowKit
/- (*flagstone/option.taker).all: its loop at region 1 -/
noncomputable def optionTakerAll_L1 : Code := cAt (codeOf Tryz.f59) [true, false, false, false]
def optionTakerAll_R1_0 (x0 : ByteArray) (x1 : List (List PV)) : St := ⟨envL [(0, (.ptr [0, TAG] 1 0 0))], hsL [some ⟨3, 139, [[(pS x0), (.list 1 false x1), (.v (.slice none 0 0))]], true, false⟩] [0]⟩
theorem optionTakerAll_R1_0_eq {x0 y0 : ByteArray} {x1 y1 : List (List PV)} (h0 : x0 = y0) (h1 : x1 = y1) : optionTakerAll_R1_0 x0 x1 = optionTakerAll_R1_0 y0 y1 := by
  subst h0 h1; rfl
def optionTakerAll_R1_1 (x0 : ByteArray) (x1 : List (List PV)) (x2 : Nat) (x3 : List (List PV)) : St := ⟨envL [(0, (.ptr [0, TAG] 1 0 0))], hsL [some ⟨3, 139, [[(pS x0), (.list 1 false x1), (.row [1, TAG] 1 0 x2)]], false, false⟩, some ⟨2, 146, x3, true, true⟩] [0, 0]⟩
theorem optionTakerAll_R1_1_eq {x0 y0 : ByteArray} {x1 y1 : List (List PV)} {x2 y2 : Nat} {x3 y3 : List (List PV)} (h0 : x0 = y0) (h1 : x1 = y1) (h2 : x2 = y2) (h3 : x3 = y3) : optionTakerAll_R1_1 x0 x1 x2 x3 = optionTakerAll_R1_1 y0 y1 y2 y3 := by
  subst h0 h1 h2 h3; rfl
def optionTakerAll_S1 : ((ByteArray × (List ByteArray)) ⊕ (ByteArray × (List ByteArray) × (List FlagD))) → St
 | .inl (v0, v1) => optionTakerAll_R1_0 v0 (v1.map cS)
 | .inr ((v0, v1, v2)) => optionTakerAll_R1_1 v0 (v1.map cS) v2.length (v2.map FlagD.c)
def optionTakerAll_b1 : ((ByteArray × (List ByteArray)) ⊕ (ByteArray × (List ByteArray) × (List FlagD))) → Option (((ByteArray × (List ByteArray)) ⊕ (ByteArray × (List ByteArray) × (List FlagD))) ⊕ ((ByteArray × (List ByteArray) × ByteArray × ByteArray × Bool) ⊕ (ByteArray × (List ByteArray) × ByteArray × ByteArray × Bool) ⊕ (ByteArray × (List ByteArray) × ByteArray × ByteArray × Bool × ByteArray × ByteArray × (List ByteArray)) ⊕ (ByteArray × (List ByteArray) × ByteArray × ByteArray × Bool × ByteArray × ByteArray × (List ByteArray) × ByteArray × (List ByteArray)) ⊕ (ByteArray × (List ByteArray) × ByteArray × ByteArray × Bool × ByteArray × ByteArray × (List ByteArray) × ByteArray × (List ByteArray)) ⊕ (ByteArray × (List ByteArray) × ByteArray × ByteArray × Bool × ByteArray × ByteArray × (List ByteArray) × ByteArray × (List ByteArray) × (List FlagD)) ⊕ (ByteArray × (List ByteArray) × ByteArray × ByteArray × Bool × ByteArray × ByteArray × (List ByteArray) × ByteArray × (List ByteArray) × (List FlagD)) ⊕ (ByteArray × (List ByteArray)) ⊕ (ByteArray × (List ByteArray) × (List FlagD) × ByteArray × ByteArray × Bool) ⊕ (ByteArray × (List ByteArray) × (List FlagD) × ByteArray × ByteArray × Bool) ⊕ (ByteArray × (List ByteArray) × (List FlagD) × ByteArray × ByteArray × Bool × ByteArray × ByteArray × (List ByteArray) × (List FlagD)) ⊕ (ByteArray × (List ByteArray) × (List FlagD) × ByteArray × ByteArray × Bool × ByteArray × ByteArray × (List ByteArray) × (List FlagD) × ByteArray × (List ByteArray) × (List FlagD)) ⊕ (ByteArray × (List ByteArray) × (List FlagD) × ByteArray × ByteArray × Bool × ByteArray × ByteArray × (List ByteArray) × (List FlagD) × ByteArray × (List ByteArray) × (List FlagD)) ⊕ (ByteArray × (List ByteArray) × (List FlagD) × ByteArray × ByteArray × Bool × ByteArray × ByteArray × (List ByteArray) × (List FlagD) × ByteArray × (List ByteArray) × (List FlagD)) ⊕ (ByteArray × (List ByteArray) × (List FlagD) × ByteArray × ByteArray × Bool × ByteArray × ByteArray × (List ByteArray) × (List FlagD) × ByteArray × (List ByteArray) × (List FlagD)) ⊕ (ByteArray × (List ByteArray) × (List FlagD))))
 | .inl (v0, v1) =>
 bif (decide ((v1.length : Int) > (0 : Int))) then (
 (gt v1 (0 : Int)).bind fun y_1 =>
 (stringsCutPrefix y_1 (bs [45])).bind fun (r_1, r_2) =>
 bif (!r_2) then (
 some (.inr (.inl (v0, v1, y_1, r_1, r_2)))
 ) else (
 bif (seq r_1 (bs [])) then (
 some (.inr (.inr (.inl (v0, v1, y_1, r_1, r_2))))
 ) else (
 (optionTakerNext v0 v1).bind fun (r_3, r_4, r_5) =>
 bif (seq r_1 (bs [45])) then (
 some (.inr (.inr (.inr (.inl (v0, v1, y_1, r_1, r_2, r_3, r_4, r_5)))))
 ) else (
 (optionTakerGroup r_1 r_4 r_5).bind fun X_2 => match X_2 with
 | .inl (r_6, r_7) => (
 some (.inr (.inr (.inr (.inr (.inl (v0, v1, y_1, r_1, r_2, r_3, r_4, r_5, r_6, r_7))))))
 )
 | .inr (.inl (r_8, r_9)) => (
 some (.inr (.inr (.inr (.inr (.inr (.inl (v0, v1, y_1, r_1, r_2, r_3, r_4, r_5, r_8, r_9)))))))
 )
 | .inr (.inr (.inl (r_10, r_11))) => (
 some (.inl (.inl (r_10, r_11)))
 )
 | .inr (.inr (.inr (.inl (r_12, r_13, r_14)))) => (
 some (.inr (.inr (.inr (.inr (.inr (.inr (.inl (v0, v1, y_1, r_1, r_2, r_3, r_4, r_5, r_12, r_13, r_14))))))))
 )
 | .inr (.inr (.inr (.inr (.inl (r_15, r_16, r_17))))) => (
 some (.inr (.inr (.inr (.inr (.inr (.inr (.inr (.inl (v0, v1, y_1, r_1, r_2, r_3, r_4, r_5, r_15, r_16, r_17)))))))))
 )
 | .inr (.inr (.inr (.inr (.inr ((r_18, r_19, r_20)))))) => (
 some (.inl (.inr ((r_18, r_19, r_20))))
 )
 )
 )
 )
 ) else (
 some (.inr (.inr (.inr (.inr (.inr (.inr (.inr (.inr (.inl (v0, v1))))))))))
 )
 | .inr ((v0, v1, v2)) =>
 bif (decide ((v1.length : Int) > (0 : Int))) then (
 (gt v1 (0 : Int)).bind fun y_1 =>
 (stringsCutPrefix y_1 (bs [45])).bind fun (r_1, r_2) =>
 bif (!r_2) then (
 some (.inr (.inr (.inr (.inr (.inr (.inr (.inr (.inr (.inr (.inl (v0, v1, v2, y_1, r_1, r_2)))))))))))
 ) else (
 bif (seq r_1 (bs [])) then (
 some (.inr (.inr (.inr (.inr (.inr (.inr (.inr (.inr (.inr (.inr (.inl (v0, v1, v2, y_1, r_1, r_2))))))))))))
 ) else (
 (optionTakerNext2 v0 v1 v2).bind fun (r_3, r_4, r_5, r_6) =>
 bif (seq r_1 (bs [45])) then (
 some (.inr (.inr (.inr (.inr (.inr (.inr (.inr (.inr (.inr (.inr (.inr (.inl (v0, v1, v2, y_1, r_1, r_2, r_3, r_4, r_5, r_6)))))))))))))
 ) else (
 (optionTakerGroup2 r_1 r_4 r_5 r_6).bind fun X_2 => match X_2 with
 | .inl (r_7, r_8, r_9) => (
 some (.inr (.inr (.inr (.inr (.inr (.inr (.inr (.inr (.inr (.inr (.inr (.inr (.inl (v0, v1, v2, y_1, r_1, r_2, r_3, r_4, r_5, r_6, r_7, r_8, r_9))))))))))))))
 )
 | .inr (.inl (r_10, r_11, r_12)) => (
 some (.inr (.inr (.inr (.inr (.inr (.inr (.inr (.inr (.inr (.inr (.inr (.inr (.inr (.inl (v0, v1, v2, y_1, r_1, r_2, r_3, r_4, r_5, r_6, r_10, r_11, r_12)))))))))))))))
 )
 | .inr (.inr (.inl (r_13, r_14, r_15))) => (
 some (.inl (.inr ((r_13, r_14, r_15))))
 )
 | .inr (.inr (.inr (.inl (r_16, r_17, r_18)))) => (
 some (.inr (.inr (.inr (.inr (.inr (.inr (.inr (.inr (.inr (.inr (.inr (.inr (.inr (.inr (.inl (v0, v1, v2, y_1, r_1, r_2, r_3, r_4, r_5, r_6, r_16, r_17, r_18))))))))))))))))
 )
 | .inr (.inr (.inr (.inr (.inl (r_19, r_20, r_21))))) => (
 some (.inr (.inr (.inr (.inr (.inr (.inr (.inr (.inr (.inr (.inr (.inr (.inr (.inr (.inr (.inr (.inl (v0, v1, v2, y_1, r_1, r_2, r_3, r_4, r_5, r_6, r_19, r_20, r_21)))))))))))))))))
 )
 | .inr (.inr (.inr (.inr (.inr ((r_22, r_23, r_24)))))) => (
 some (.inl (.inr ((r_22, r_23, r_24))))
 )
 )
 )
 )
 ) else (
 some (.inr (.inr (.inr (.inr (.inr (.inr (.inr (.inr (.inr (.inr (.inr (.inr (.inr (.inr (.inr (.inr ((v0, v1, v2))))))))))))))))))
 )
set_option maxRecDepth 100000 in
theorem optionTakerAll_t1 (k : Nat) (a a1 : ((ByteArray × (List ByteArray)) ⊕ (ByteArray × (List ByteArray) × (List FlagD)))) (h : optionTakerAll_b1 a = some (.inl a1)) : ∃ σ, run1 (k + 3) 59 1 38 optionTakerAll_L1 (optionTakerAll_S1 a) = some (.normal, σ) ∧ canonS 1 [0] σ = some (optionTakerAll_S1 a1) := by
  rcases a with ⟨v0, v1⟩ | ⟨v0, v1, v2⟩
  · unfold optionTakerAll_b1 at h
    try dsimp only at h
    rcases bif_some h with ⟨q1, h⟩ | ⟨q1, h⟩
    · obtain ⟨y_1, q2, h⟩ := bnd_some h
      obtain ⟨⟨r_1, r_2⟩, q3, h⟩ := bnd_some h
      try dsimp only at h
      rcases bif_some h with ⟨q4, h⟩ | ⟨q4, h⟩
      · cases h
      · rcases bif_some h with ⟨q5, h⟩ | ⟨q5, h⟩
        · cases h
        · obtain ⟨X_1, q6, h⟩ := bnd_some h
          rcases X_1 with ⟨r_3, r_4, r_5⟩
          · try dsimp only at h
            rcases bif_some h with ⟨q7, h⟩ | ⟨q7, h⟩
            · cases h
            · obtain ⟨X_2, q8, h⟩ := bnd_some h
              rcases X_2 with ⟨r_6, r_7⟩ | ⟨r_8, r_9⟩ | ⟨r_10, r_11⟩ | ⟨r_12, r_13, r_14⟩ | ⟨r_15, r_16, r_17⟩ | ⟨r_18, r_19, r_20⟩
              · try dsimp only at h
                cases h
              · try dsimp only at h
                cases h
              · try dsimp only at h
                obtain rfl := Sum.inl.inj (Option.some.inj h)
                exact ⟨_, run_go (k := (k + 3)) (f := 59) (r0 := 1) (nt := 38) (c := optionTakerAll_L1) (σ := (optionTakerAll_S1 (.inl (v0, v1)))) (adv [([], 1, 4, .eq (pI (v1.length : Int))), ([], 1, 5, .eq (pB true)), ([], 2, 4, .elem [(pS y_1)]), ([], 2, 6, .ret (.tup [(pS r_1), (pB r_2)])), ([], 3, 2, .eq (pB false)), ([], 3, 5, .eq (pB false)), ([], 5, 1, .retS (pS r_3) [some ⟨3, 139, [[(pS r_4), (.list 1 false (r_5.map cS)), (.v (.slice none 0 0))]], true, false⟩] [0]), ([], 6, 1, .eq (pB false)), ([], 8, 2, .retS (.v .nilIface) [some ⟨3, 139, [[(pS r_10), (.list 1 false (r_11.map cS)), (.v (.slice none 0 0))]], true, false⟩] [0])]) (ex := .normal) (by kernel_rfl) (by kernel_rfl) (allC (len_ob (rfl : (v1.map cS) = v1.map cS)) (allC (cg q1) (allC (gt_list (c := cS) q2) (allC (stringsCutPrefix_ok k y_1 (bs [45]) _ q3) (allC (cg q4) (allC (cg q5) (allC (optionTakerNext_ok (k + 2) v0 v1 _ q6) (allC (cg q7) (allC (optionTakerGroup_ok (k + 1) r_1 r_4 r_5 _ q8) allN))))))))), (by kernel_rfl)⟩
              · try dsimp only at h
                cases h
              · try dsimp only at h
                cases h
              · try dsimp only at h
                obtain rfl := Sum.inl.inj (Option.some.inj h)
                exact ⟨_, run_go (k := (k + 3)) (f := 59) (r0 := 1) (nt := 38) (c := optionTakerAll_L1) (σ := (optionTakerAll_S1 (.inl (v0, v1)))) (adv [([], 1, 4, .eq (pI (v1.length : Int))), ([], 1, 5, .eq (pB true)), ([], 2, 4, .elem [(pS y_1)]), ([], 2, 6, .ret (.tup [(pS r_1), (pB r_2)])), ([], 3, 2, .eq (pB false)), ([], 3, 5, .eq (pB false)), ([], 5, 1, .retS (pS r_3) [some ⟨3, 139, [[(pS r_4), (.list 1 false (r_5.map cS)), (.v (.slice none 0 0))]], true, false⟩] [0]), ([], 6, 1, .eq (pB false)), ([], 8, 2, .retS (.v .nilIface) [some ⟨3, 139, [[(pS r_18), (.list 1 false (r_19.map cS)), (.row [1, TAG] 1 0 r_20.length)]], false, false⟩, some ⟨2, 146, (r_20.map FlagD.c), true, true⟩] [0, 0])]) (ex := .normal) (by kernel_rfl) (by kernel_rfl) (allC (len_ob (rfl : (v1.map cS) = v1.map cS)) (allC (cg q1) (allC (gt_list (c := cS) q2) (allC (stringsCutPrefix_ok k y_1 (bs [45]) _ q3) (allC (cg q4) (allC (cg q5) (allC (optionTakerNext_ok (k + 2) v0 v1 _ q6) (allC (cg q7) (allC (optionTakerGroup_ok (k + 1) r_1 r_4 r_5 _ q8) allN))))))))), (by kernel_rfl)⟩
    · cases h
  · unfold optionTakerAll_b1 at h
    try dsimp only at h
    rcases bif_some h with ⟨q1, h⟩ | ⟨q1, h⟩
    · obtain ⟨y_1, q2, h⟩ := bnd_some h
      obtain ⟨⟨r_1, r_2⟩, q3, h⟩ := bnd_some h
      try dsimp only at h
      rcases bif_some h with ⟨q4, h⟩ | ⟨q4, h⟩
      · cases h
      · rcases bif_some h with ⟨q5, h⟩ | ⟨q5, h⟩
        · cases h
        · obtain ⟨X_1, q6, h⟩ := bnd_some h
          rcases X_1 with ⟨r_3, r_4, r_5, r_6⟩
          · try dsimp only at h
            rcases bif_some h with ⟨q7, h⟩ | ⟨q7, h⟩
            · cases h
            · obtain ⟨X_2, q8, h⟩ := bnd_some h
              rcases X_2 with ⟨r_7, r_8, r_9⟩ | ⟨r_10, r_11, r_12⟩ | ⟨r_13, r_14, r_15⟩ | ⟨r_16, r_17, r_18⟩ | ⟨r_19, r_20, r_21⟩ | ⟨r_22, r_23, r_24⟩
              · try dsimp only at h
                cases h
              · try dsimp only at h
                cases h
              · try dsimp only at h
                obtain rfl := Sum.inl.inj (Option.some.inj h)
                exact ⟨_, run_go (k := (k + 3)) (f := 59) (r0 := 1) (nt := 38) (c := optionTakerAll_L1) (σ := (optionTakerAll_S1 (.inr ((v0, v1, v2))))) (adv [([], 1, 4, .eq (pI (v1.length : Int))), ([], 1, 5, .eq (pB true)), ([], 2, 4, .elem [(pS y_1)]), ([], 2, 6, .ret (.tup [(pS r_1), (pB r_2)])), ([], 3, 2, .eq (pB false)), ([], 3, 5, .eq (pB false)), ([], 5, 1, .retS (pS r_3) [some ⟨3, 139, [[(pS r_4), (.list 1 false (r_5.map cS)), (.row [1, TAG] 1 0 r_6.length)]], false, false⟩, some ⟨2, 146, (r_6.map FlagD.c), true, true⟩] [0, 0]), ([], 6, 1, .eq (pB false)), ([], 8, 2, .retS (.v .nilIface) [some ⟨3, 139, [[(pS r_13), (.list 1 false (r_14.map cS)), (.row [1, TAG] 1 0 r_15.length)]], false, false⟩, some ⟨2, 146, (r_15.map FlagD.c), true, true⟩] [0, 0])]) (ex := .normal) (by kernel_rfl) (by kernel_rfl) (allC (len_ob (rfl : (v1.map cS) = v1.map cS)) (allC (cg q1) (allC (gt_list (c := cS) q2) (allC (stringsCutPrefix_ok k y_1 (bs [45]) _ q3) (allC (cg q4) (allC (cg q5) (allC (optionTakerNext2_ok (k + 2) v0 v1 v2 _ q6) (allC (cg q7) (allC (optionTakerGroup2_ok (k + 1) r_1 r_4 r_5 r_6 _ q8) allN))))))))), (by kernel_rfl)⟩
              · try dsimp only at h
                cases h
              · try dsimp only at h
                cases h
              · try dsimp only at h
                obtain rfl := Sum.inl.inj (Option.some.inj h)
                exact ⟨_, run_go (k := (k + 3)) (f := 59) (r0 := 1) (nt := 38) (c := optionTakerAll_L1) (σ := (optionTakerAll_S1 (.inr ((v0, v1, v2))))) (adv [([], 1, 4, .eq (pI (v1.length : Int))), ([], 1, 5, .eq (pB true)), ([], 2, 4, .elem [(pS y_1)]), ([], 2, 6, .ret (.tup [(pS r_1), (pB r_2)])), ([], 3, 2, .eq (pB false)), ([], 3, 5, .eq (pB false)), ([], 5, 1, .retS (pS r_3) [some ⟨3, 139, [[(pS r_4), (.list 1 false (r_5.map cS)), (.row [1, TAG] 1 0 r_6.length)]], false, false⟩, some ⟨2, 146, (r_6.map FlagD.c), true, true⟩] [0, 0]), ([], 6, 1, .eq (pB false)), ([], 8, 2, .retS (.v .nilIface) [some ⟨3, 139, [[(pS r_22), (.list 1 false (r_23.map cS)), (.row [2, TAG] 1 0 r_24.length)]], false, false⟩, none, some ⟨2, 146, (r_24.map FlagD.c), true, true⟩] [0, 0, 0])]) (ex := .normal) (by kernel_rfl) (by kernel_rfl) (allC (len_ob (rfl : (v1.map cS) = v1.map cS)) (allC (cg q1) (allC (gt_list (c := cS) q2) (allC (stringsCutPrefix_ok k y_1 (bs [45]) _ q3) (allC (cg q4) (allC (cg q5) (allC (optionTakerNext2_ok (k + 2) v0 v1 v2 _ q6) (allC (cg q7) (allC (optionTakerGroup2_ok (k + 1) r_1 r_4 r_5 r_6 _ q8) allN))))))))), (by kernel_rfl)⟩
    · cases h
/-- (*flagstone/option.taker).all: the answer, and what is left of the variables -/
def optionTakerAll (p0 : ByteArray) (p1 : (List ByteArray)) : Option ((ByteArray × (List ByteArray)) ⊕ (ByteArray × (List ByteArray)) ⊕ (ByteArray × (List ByteArray)) ⊕ (ByteArray × (List ByteArray) × (List FlagD)) ⊕ (ByteArray × (List ByteArray) × (List FlagD)) ⊕ (ByteArray × (List ByteArray) × (List FlagD))) :=
 (iterN (optionTakerAll_b1) LF (.inl (p0, p1))).bind fun X_1 => match X_1 with
 | .inl (v_1, v_2, y_1, r_1, r_2) => (
 some (.inl (v_1, v_2))
 )
 | .inr (.inl (v_1, v_2, y_1, r_1, r_2)) => (
 some (.inl (v_1, v_2))
 )
 | .inr (.inr (.inl (v_1, v_2, y_1, r_1, r_2, r_3, r_4, r_5))) => (
 some (.inl (r_4, r_5))
 )
 | .inr (.inr (.inr (.inl (v_1, v_2, y_1, r_1, r_2, r_3, r_4, r_5, r_6, r_7)))) => (
 some (.inr (.inl (r_6, r_7)))
 )
 | .inr (.inr (.inr (.inr (.inl (v_1, v_2, y_1, r_1, r_2, r_3, r_4, r_5, r_8, r_9))))) => (
 some (.inr (.inr (.inl (r_8, r_9))))
 )
 | .inr (.inr (.inr (.inr (.inr (.inl (v_1, v_2, y_1, r_1, r_2, r_3, r_4, r_5, r_12, r_13, r_14)))))) => (
 some (.inr (.inr (.inr (.inl (r_12, r_13, r_14)))))
 )
 | .inr (.inr (.inr (.inr (.inr (.inr (.inl (v_1, v_2, y_1, r_1, r_2, r_3, r_4, r_5, r_15, r_16, r_17))))))) => (
 some (.inr (.inr (.inr (.inr (.inl (r_15, r_16, r_17))))))
 )
 | .inr (.inr (.inr (.inr (.inr (.inr (.inr (.inl (v_1, v_2)))))))) => (
 some (.inl (v_1, v_2))
 )
 | .inr (.inr (.inr (.inr (.inr (.inr (.inr (.inr (.inl (v_3, v_4, v_5, y_1, r_1, r_2))))))))) => (
 some (.inr (.inr (.inr (.inr (.inr ((v_3, v_4, v_5)))))))
 )
 | .inr (.inr (.inr (.inr (.inr (.inr (.inr (.inr (.inr (.inl (v_3, v_4, v_5, y_1, r_1, r_2)))))))))) => (
 some (.inr (.inr (.inr (.inr (.inr ((v_3, v_4, v_5)))))))
 )
 | .inr (.inr (.inr (.inr (.inr (.inr (.inr (.inr (.inr (.inr (.inl (v_3, v_4, v_5, y_1, r_1, r_2, r_3, r_4, r_5, r_6))))))))))) => (
 some (.inr (.inr (.inr (.inr (.inr ((r_4, r_5, r_6)))))))
 )
 | .inr (.inr (.inr (.inr (.inr (.inr (.inr (.inr (.inr (.inr (.inr (.inl (v_3, v_4, v_5, y_1, r_1, r_2, r_3, r_4, r_5, r_6, r_7, r_8, r_9)))))))))))) => (
 some (.inr (.inr (.inr (.inl (r_7, r_8, r_9)))))
 )
 | .inr (.inr (.inr (.inr (.inr (.inr (.inr (.inr (.inr (.inr (.inr (.inr (.inl (v_3, v_4, v_5, y_1, r_1, r_2, r_3, r_4, r_5, r_6, r_10, r_11, r_12))))))))))))) => (
 some (.inr (.inr (.inr (.inr (.inl (r_10, r_11, r_12))))))
 )
 | .inr (.inr (.inr (.inr (.inr (.inr (.inr (.inr (.inr (.inr (.inr (.inr (.inr (.inl (v_3, v_4, v_5, y_1, r_1, r_2, r_3, r_4, r_5, r_6, r_16, r_17, r_18)))))))))))))) => (
 some (.inr (.inr (.inr (.inl (r_16, r_17, r_18)))))
 )
 | .inr (.inr (.inr (.inr (.inr (.inr (.inr (.inr (.inr (.inr (.inr (.inr (.inr (.inr (.inl (v_3, v_4, v_5, y_1, r_1, r_2, r_3, r_4, r_5, r_6, r_19, r_20, r_21))))))))))))))) => (
 some (.inr (.inr (.inr (.inr (.inl (r_19, r_20, r_21))))))
 )
 | .inr (.inr (.inr (.inr (.inr (.inr (.inr (.inr (.inr (.inr (.inr (.inr (.inr (.inr (.inr ((v_3, v_4, v_5)))))))))))))))) => (
 some (.inr (.inr (.inr (.inr (.inr ((v_3, v_4, v_5)))))))
 )
def optionTakerAll_out : ((ByteArray × (List ByteArray)) ⊕ (ByteArray × (List ByteArray)) ⊕ (ByteArray × (List ByteArray)) ⊕ (ByteArray × (List ByteArray) × (List FlagD)) ⊕ (ByteArray × (List ByteArray) × (List FlagD)) ⊕ (ByteArray × (List ByteArray) × (List FlagD))) → PV × List (Option Blk) × List Nat
 | .inl (r0, r1) => ((.v .nilIface), [some ⟨3, 139, [[(pS r0), (.list 1 false (r1.map cS)), (.v (.slice none 0 0))]], true, false⟩], [0])
 | .inr (.inl (r0, r1)) => ((.ifc 401 (.far 0)), [some ⟨3, 139, [[(pS r0), (.list 1 false (r1.map cS)), (.v (.slice none 0 0))]], true, false⟩], [0])
 | .inr (.inr (.inl (r0, r1))) => ((.ifc 401 (.far 1)), [some ⟨3, 139, [[(pS r0), (.list 1 false (r1.map cS)), (.v (.slice none 0 0))]], true, false⟩], [0])
 | .inr (.inr (.inr (.inl (r0, r1, r2)))) => ((.ifc 401 (.far 0)), [some ⟨3, 139, [[(pS r0), (.list 1 false (r1.map cS)), (.row [1, TAG] 1 0 r2.length)]], false, false⟩, some ⟨2, 146, (r2.map FlagD.c), true, true⟩], [0, 0])
 | .inr (.inr (.inr (.inr (.inl (r0, r1, r2))))) => ((.ifc 401 (.far 1)), [some ⟨3, 139, [[(pS r0), (.list 1 false (r1.map cS)), (.row [1, TAG] 1 0 r2.length)]], false, false⟩, some ⟨2, 146, (r2.map FlagD.c), true, true⟩], [0, 0])
 | .inr (.inr (.inr (.inr (.inr ((r0, r1, r2)))))) => ((.v .nilIface), [some ⟨3, 139, [[(pS r0), (.list 1 false (r1.map cS)), (.row [1, TAG] 1 0 r2.length)]], false, false⟩, some ⟨2, 146, (r2.map FlagD.c), true, true⟩], [0, 0])
set_option maxRecDepth 100000 in
theorem optionTakerAll_ok (k : Nat) (p0 : ByteArray) (p1 : (List ByteArray)) (r : ((ByteArray × (List ByteArray)) ⊕ (ByteArray × (List ByteArray)) ⊕ (ByteArray × (List ByteArray)) ⊕ (ByteArray × (List ByteArray) × (List FlagD)) ⊕ (ByteArray × (List ByteArray) × (List FlagD)) ⊕ (ByteArray × (List ByteArray) × (List FlagD)))) (h : optionTakerAll p0 p1 = some r) : runS0 (k + 4) 59 [(.ptr [0, TAG] 1 0 0)] [some ⟨3, 139, [[(pS p0), (.list 1 false (p1.map cS)), (.v (.slice none 0 0))]], true, false⟩] [0] = some (optionTakerAll_out r) := by
  unfold optionTakerAll at h
  obtain ⟨X_1, q1, h⟩ := bnd_some h
  obtain ⟨a_1, q2, q3⟩ := loop_iter (f := run1 (k + 3) 59 1 38 optionTakerAll_L1) (optionTakerAll_S1) (optionTakerAll_b1) (optionTakerAll_t1 k) LF (.inl (p0, p1)) _ (stOf (goStop (k + 3) 59 1 38 (adv []) 1 (codeOf Tryz.f59) (argB 59 [(.ptr [0, TAG] 1 0 0)] [some ⟨3, 139, [[(pS p0), (.list 1 false (p1.map cS)), (.v (.slice none 0 0))]], true, false⟩] [0]))) q1 (by kernel_rfl)
  rcases a_1 with ⟨v_1, v_2⟩ | ⟨v_3, v_4, v_5⟩
  · unfold optionTakerAll_b1 at q2
    try dsimp only at q2
    rcases bif_some q2 with ⟨q6, q2⟩ | ⟨q6, q2⟩
    · obtain ⟨y_1, q7, q2⟩ := bnd_some q2
      obtain ⟨⟨r_1, r_2⟩, q8, q2⟩ := bnd_some q2
      try dsimp only at q2
      rcases bif_some q2 with ⟨q9, q2⟩ | ⟨q9, q2⟩
      · cases q2
        try dsimp only at h
        have q4 := run_go (k := (k + 3)) (f := 59) (r0 := 1) (nt := 38) (c := optionTakerAll_L1) (σ := (optionTakerAll_S1 (.inl (v_1, v_2)))) (adv [([], 1, 4, .eq (pI (v_2.length : Int))), ([], 1, 5, .eq (pB true)), ([], 2, 4, .elem [(pS y_1)]), ([], 2, 6, .ret (.tup [(pS r_1), (pB r_2)])), ([], 3, 2, .eq (pB true))]) (ex := .ret) (by kernel_rfl) (by kernel_rfl) (allC (len_ob (rfl : (v_2.map cS) = v_2.map cS)) (allC (cg q6) (allC (gt_list (c := cS) q7) (allC (stringsCutPrefix_ok k y_1 (bs [45]) _ q8) (allC (cg q9) allN)))))
        have q5 := q3 _ _ (by intro e; cases e) q4
        obtain rfl := Option.some.inj h
        exact retS_go (k := (k + 3)) (n := 1) Tryz.func59 Tryz.ntmps59 rfl (by kernel_rfl) (by kernel_rfl) (lb rfl) (adv [] [([], 1, .ret, (stOf (go (k + 3) 59 1 38 (adv [([], 1, 4, .eq (pI (v_2.length : Int))), ([], 1, 5, .eq (pB true)), ([], 2, 4, .elem [(pS y_1)]), ([], 2, 6, .ret (.tup [(pS r_1), (pB r_2)])), ([], 3, 2, .eq (pB true))]) optionTakerAll_L1 (optionTakerAll_S1 (.inl (v_1, v_2))))))]) (ex := .ret) (r := ((.v .nilIface), [some ⟨3, 139, [[(pS v_1), (.list 1 false (v_2.map cS)), (.v (.slice none 0 0))]], true, false⟩], [0])) (by kernel_rfl) rfl (by kernel_rfl) (allC q5 allN) (by kernel_rfl)
      · rcases bif_some q2 with ⟨q10, q2⟩ | ⟨q10, q2⟩
        · cases q2
          try dsimp only at h
          have q4 := run_go (k := (k + 3)) (f := 59) (r0 := 1) (nt := 38) (c := optionTakerAll_L1) (σ := (optionTakerAll_S1 (.inl (v_1, v_2)))) (adv [([], 1, 4, .eq (pI (v_2.length : Int))), ([], 1, 5, .eq (pB true)), ([], 2, 4, .elem [(pS y_1)]), ([], 2, 6, .ret (.tup [(pS r_1), (pB r_2)])), ([], 3, 2, .eq (pB false)), ([], 3, 5, .eq (pB true))]) (ex := .ret) (by kernel_rfl) (by kernel_rfl) (allC (len_ob (rfl : (v_2.map cS) = v_2.map cS)) (allC (cg q6) (allC (gt_list (c := cS) q7) (allC (stringsCutPrefix_ok k y_1 (bs [45]) _ q8) (allC (cg q9) (allC (cg q10) allN))))))
          have q5 := q3 _ _ (by intro e; cases e) q4
          obtain rfl := Option.some.inj h
          exact retS_go (k := (k + 3)) (n := 1) Tryz.func59 Tryz.ntmps59 rfl (by kernel_rfl) (by kernel_rfl) (lb rfl) (adv [] [([], 1, .ret, (stOf (go (k + 3) 59 1 38 (adv [([], 1, 4, .eq (pI (v_2.length : Int))), ([], 1, 5, .eq (pB true)), ([], 2, 4, .elem [(pS y_1)]), ([], 2, 6, .ret (.tup [(pS r_1), (pB r_2)])), ([], 3, 2, .eq (pB false)), ([], 3, 5, .eq (pB true))]) optionTakerAll_L1 (optionTakerAll_S1 (.inl (v_1, v_2))))))]) (ex := .ret) (r := ((.v .nilIface), [some ⟨3, 139, [[(pS v_1), (.list 1 false (v_2.map cS)), (.v (.slice none 0 0))]], true, false⟩], [0])) (by kernel_rfl) rfl (by kernel_rfl) (allC q5 allN) (by kernel_rfl)
        · obtain ⟨X_2, q11, q2⟩ := bnd_some q2
          rcases X_2 with ⟨r_3, r_4, r_5⟩
          · try dsimp only at q2
            rcases bif_some q2 with ⟨q12, q2⟩ | ⟨q12, q2⟩
            · cases q2
              try dsimp only at h
              have q4 := run_go (k := (k + 3)) (f := 59) (r0 := 1) (nt := 38) (c := optionTakerAll_L1) (σ := (optionTakerAll_S1 (.inl (v_1, v_2)))) (adv [([], 1, 4, .eq (pI (v_2.length : Int))), ([], 1, 5, .eq (pB true)), ([], 2, 4, .elem [(pS y_1)]), ([], 2, 6, .ret (.tup [(pS r_1), (pB r_2)])), ([], 3, 2, .eq (pB false)), ([], 3, 5, .eq (pB false)), ([], 5, 1, .retS (pS r_3) [some ⟨3, 139, [[(pS r_4), (.list 1 false (r_5.map cS)), (.v (.slice none 0 0))]], true, false⟩] [0]), ([], 6, 1, .eq (pB true))]) (ex := .ret) (by kernel_rfl) (by kernel_rfl) (allC (len_ob (rfl : (v_2.map cS) = v_2.map cS)) (allC (cg q6) (allC (gt_list (c := cS) q7) (allC (stringsCutPrefix_ok k y_1 (bs [45]) _ q8) (allC (cg q9) (allC (cg q10) (allC (optionTakerNext_ok (k + 2) v_1 v_2 _ q11) (allC (cg q12) allN))))))))
              have q5 := q3 _ _ (by intro e; cases e) q4
              obtain rfl := Option.some.inj h
              exact retS_go (k := (k + 3)) (n := 1) Tryz.func59 Tryz.ntmps59 rfl (by kernel_rfl) (by kernel_rfl) (lb rfl) (adv [] [([], 1, .ret, (stOf (go (k + 3) 59 1 38 (adv [([], 1, 4, .eq (pI (v_2.length : Int))), ([], 1, 5, .eq (pB true)), ([], 2, 4, .elem [(pS y_1)]), ([], 2, 6, .ret (.tup [(pS r_1), (pB r_2)])), ([], 3, 2, .eq (pB false)), ([], 3, 5, .eq (pB false)), ([], 5, 1, .retS (pS r_3) [some ⟨3, 139, [[(pS r_4), (.list 1 false (r_5.map cS)), (.v (.slice none 0 0))]], true, false⟩] [0]), ([], 6, 1, .eq (pB true))]) optionTakerAll_L1 (optionTakerAll_S1 (.inl (v_1, v_2))))))]) (ex := .ret) (r := ((.v .nilIface), [some ⟨3, 139, [[(pS r_4), (.list 1 false (r_5.map cS)), (.v (.slice none 0 0))]], true, false⟩], [0])) (by kernel_rfl) rfl (by kernel_rfl) (allC q5 allN) (by kernel_rfl)
            · obtain ⟨X_3, q13, q2⟩ := bnd_some q2
              rcases X_3 with ⟨r_6, r_7⟩ | ⟨r_8, r_9⟩ | ⟨r_10, r_11⟩ | ⟨r_12, r_13, r_14⟩ | ⟨r_15, r_16, r_17⟩ | ⟨r_18, r_19, r_20⟩
              · try dsimp only at q2
                cases q2
                try dsimp only at h
                have q4 := run_go (k := (k + 3)) (f := 59) (r0 := 1) (nt := 38) (c := optionTakerAll_L1) (σ := (optionTakerAll_S1 (.inl (v_1, v_2)))) (adv [([], 1, 4, .eq (pI (v_2.length : Int))), ([], 1, 5, .eq (pB true)), ([], 2, 4, .elem [(pS y_1)]), ([], 2, 6, .ret (.tup [(pS r_1), (pB r_2)])), ([], 3, 2, .eq (pB false)), ([], 3, 5, .eq (pB false)), ([], 5, 1, .retS (pS r_3) [some ⟨3, 139, [[(pS r_4), (.list 1 false (r_5.map cS)), (.v (.slice none 0 0))]], true, false⟩] [0]), ([], 6, 1, .eq (pB false)), ([], 8, 2, .retS (.ifc 401 (.far 0)) [some ⟨3, 139, [[(pS r_6), (.list 1 false (r_7.map cS)), (.v (.slice none 0 0))]], true, false⟩] [0])]) (ex := .ret) (by kernel_rfl) (by kernel_rfl) (allC (len_ob (rfl : (v_2.map cS) = v_2.map cS)) (allC (cg q6) (allC (gt_list (c := cS) q7) (allC (stringsCutPrefix_ok k y_1 (bs [45]) _ q8) (allC (cg q9) (allC (cg q10) (allC (optionTakerNext_ok (k + 2) v_1 v_2 _ q11) (allC (cg q12) (allC (optionTakerGroup_ok (k + 1) r_1 r_4 r_5 _ q13) allN)))))))))
                have q5 := q3 _ _ (by intro e; cases e) q4
                obtain rfl := Option.some.inj h
                exact retS_go (k := (k + 3)) (n := 1) Tryz.func59 Tryz.ntmps59 rfl (by kernel_rfl) (by kernel_rfl) (lb rfl) (adv [] [([], 1, .ret, (stOf (go (k + 3) 59 1 38 (adv [([], 1, 4, .eq (pI (v_2.length : Int))), ([], 1, 5, .eq (pB true)), ([], 2, 4, .elem [(pS y_1)]), ([], 2, 6, .ret (.tup [(pS r_1), (pB r_2)])), ([], 3, 2, .eq (pB false)), ([], 3, 5, .eq (pB false)), ([], 5, 1, .retS (pS r_3) [some ⟨3, 139, [[(pS r_4), (.list 1 false (r_5.map cS)), (.v (.slice none 0 0))]], true, false⟩] [0]), ([], 6, 1, .eq (pB false)), ([], 8, 2, .retS (.ifc 401 (.far 0)) [some ⟨3, 139, [[(pS r_6), (.list 1 false (r_7.map cS)), (.v (.slice none 0 0))]], true, false⟩] [0])]) optionTakerAll_L1 (optionTakerAll_S1 (.inl (v_1, v_2))))))]) (ex := .ret) (r := ((.ifc 401 (.far 0)), [some ⟨3, 139, [[(pS r_6), (.list 1 false (r_7.map cS)), (.v (.slice none 0 0))]], true, false⟩], [0])) (by kernel_rfl) rfl (by kernel_rfl) (allC q5 allN) (by kernel_rfl)
              · try dsimp only at q2
                cases q2
                try dsimp only at h
                have q4 := run_go (k := (k + 3)) (f := 59) (r0 := 1) (nt := 38) (c := optionTakerAll_L1) (σ := (optionTakerAll_S1 (.inl (v_1, v_2)))) (adv [([], 1, 4, .eq (pI (v_2.length : Int))), ([], 1, 5, .eq (pB true)), ([], 2, 4, .elem [(pS y_1)]), ([], 2, 6, .ret (.tup [(pS r_1), (pB r_2)])), ([], 3, 2, .eq (pB false)), ([], 3, 5, .eq (pB false)), ([], 5, 1, .retS (pS r_3) [some ⟨3, 139, [[(pS r_4), (.list 1 false (r_5.map cS)), (.v (.slice none 0 0))]], true, false⟩] [0]), ([], 6, 1, .eq (pB false)), ([], 8, 2, .retS (.ifc 401 (.far 1)) [some ⟨3, 139, [[(pS r_8), (.list 1 false (r_9.map cS)), (.v (.slice none 0 0))]], true, false⟩] [0])]) (ex := .ret) (by kernel_rfl) (by kernel_rfl) (allC (len_ob (rfl : (v_2.map cS) = v_2.map cS)) (allC (cg q6) (allC (gt_list (c := cS) q7) (allC (stringsCutPrefix_ok k y_1 (bs [45]) _ q8) (allC (cg q9) (allC (cg q10) (allC (optionTakerNext_ok (k + 2) v_1 v_2 _ q11) (allC (cg q12) (allC (optionTakerGroup_ok (k + 1) r_1 r_4 r_5 _ q13) allN)))))))))
                have q5 := q3 _ _ (by intro e; cases e) q4
                obtain rfl := Option.some.inj h
                exact retS_go (k := (k + 3)) (n := 1) Tryz.func59 Tryz.ntmps59 rfl (by kernel_rfl) (by kernel_rfl) (lb rfl) (adv [] [([], 1, .ret, (stOf (go (k + 3) 59 1 38 (adv [([], 1, 4, .eq (pI (v_2.length : Int))), ([], 1, 5, .eq (pB true)), ([], 2, 4, .elem [(pS y_1)]), ([], 2, 6, .ret (.tup [(pS r_1), (pB r_2)])), ([], 3, 2, .eq (pB false)), ([], 3, 5, .eq (pB false)), ([], 5, 1, .retS (pS r_3) [some ⟨3, 139, [[(pS r_4), (.list 1 false (r_5.map cS)), (.v (.slice none 0 0))]], true, false⟩] [0]), ([], 6, 1, .eq (pB false)), ([], 8, 2, .retS (.ifc 401 (.far 1)) [some ⟨3, 139, [[(pS r_8), (.list 1 false (r_9.map cS)), (.v (.slice none 0 0))]], true, false⟩] [0])]) optionTakerAll_L1 (optionTakerAll_S1 (.inl (v_1, v_2))))))]) (ex := .ret) (r := ((.ifc 401 (.far 1)), [some ⟨3, 139, [[(pS r_8), (.list 1 false (r_9.map cS)), (.v (.slice none 0 0))]], true, false⟩], [0])) (by kernel_rfl) rfl (by kernel_rfl) (allC q5 allN) (by kernel_rfl)
              · try dsimp only at q2
                cases q2
              · try dsimp only at q2
                cases q2
                try dsimp only at h
                have q4 := run_go (k := (k + 3)) (f := 59) (r0 := 1) (nt := 38) (c := optionTakerAll_L1) (σ := (optionTakerAll_S1 (.inl (v_1, v_2)))) (adv [([], 1, 4, .eq (pI (v_2.length : Int))), ([], 1, 5, .eq (pB true)), ([], 2, 4, .elem [(pS y_1)]), ([], 2, 6, .ret (.tup [(pS r_1), (pB r_2)])), ([], 3, 2, .eq (pB false)), ([], 3, 5, .eq (pB false)), ([], 5, 1, .retS (pS r_3) [some ⟨3, 139, [[(pS r_4), (.list 1 false (r_5.map cS)), (.v (.slice none 0 0))]], true, false⟩] [0]), ([], 6, 1, .eq (pB false)), ([], 8, 2, .retS (.ifc 401 (.far 0)) [some ⟨3, 139, [[(pS r_12), (.list 1 false (r_13.map cS)), (.row [1, TAG] 1 0 r_14.length)]], false, false⟩, some ⟨2, 146, (r_14.map FlagD.c), true, true⟩] [0, 0])]) (ex := .ret) (by kernel_rfl) (by kernel_rfl) (allC (len_ob (rfl : (v_2.map cS) = v_2.map cS)) (allC (cg q6) (allC (gt_list (c := cS) q7) (allC (stringsCutPrefix_ok k y_1 (bs [45]) _ q8) (allC (cg q9) (allC (cg q10) (allC (optionTakerNext_ok (k + 2) v_1 v_2 _ q11) (allC (cg q12) (allC (optionTakerGroup_ok (k + 1) r_1 r_4 r_5 _ q13) allN)))))))))
                have q5 := q3 _ _ (by intro e; cases e) q4
                obtain rfl := Option.some.inj h
                exact retS_go (k := (k + 3)) (n := 1) Tryz.func59 Tryz.ntmps59 rfl (by kernel_rfl) (by kernel_rfl) (lb rfl) (adv [] [([], 1, .ret, (stOf (go (k + 3) 59 1 38 (adv [([], 1, 4, .eq (pI (v_2.length : Int))), ([], 1, 5, .eq (pB true)), ([], 2, 4, .elem [(pS y_1)]), ([], 2, 6, .ret (.tup [(pS r_1), (pB r_2)])), ([], 3, 2, .eq (pB false)), ([], 3, 5, .eq (pB false)), ([], 5, 1, .retS (pS r_3) [some ⟨3, 139, [[(pS r_4), (.list 1 false (r_5.map cS)), (.v (.slice none 0 0))]], true, false⟩] [0]), ([], 6, 1, .eq (pB false)), ([], 8, 2, .retS (.ifc 401 (.far 0)) [some ⟨3, 139, [[(pS r_12), (.list 1 false (r_13.map cS)), (.row [1, TAG] 1 0 r_14.length)]], false, false⟩, some ⟨2, 146, (r_14.map FlagD.c), true, true⟩] [0, 0])]) optionTakerAll_L1 (optionTakerAll_S1 (.inl (v_1, v_2))))))]) (ex := .ret) (r := ((.ifc 401 (.far 0)), [some ⟨3, 139, [[(pS r_12), (.list 1 false (r_13.map cS)), (.row [1, TAG] 1 0 r_14.length)]], false, false⟩, some ⟨2, 146, (r_14.map FlagD.c), true, true⟩], [0, 0])) (by kernel_rfl) rfl (by kernel_rfl) (allC q5 allN) (by kernel_rfl)
              · try dsimp only at q2
                cases q2
                try dsimp only at h
                have q4 := run_go (k := (k + 3)) (f := 59) (r0 := 1) (nt := 38) (c := optionTakerAll_L1) (σ := (optionTakerAll_S1 (.inl (v_1, v_2)))) (adv [([], 1, 4, .eq (pI (v_2.length : Int))), ([], 1, 5, .eq (pB true)), ([], 2, 4, .elem [(pS y_1)]), ([], 2, 6, .ret (.tup [(pS r_1), (pB r_2)])), ([], 3, 2, .eq (pB false)), ([], 3, 5, .eq (pB false)), ([], 5, 1, .retS (pS r_3) [some ⟨3, 139, [[(pS r_4), (.list 1 false (r_5.map cS)), (.v (.slice none 0 0))]], true, false⟩] [0]), ([], 6, 1, .eq (pB false)), ([], 8, 2, .retS (.ifc 401 (.far 1)) [some ⟨3, 139, [[(pS r_15), (.list 1 false (r_16.map cS)), (.row [1, TAG] 1 0 r_17.length)]], false, false⟩, some ⟨2, 146, (r_17.map FlagD.c), true, true⟩] [0, 0])]) (ex := .ret) (by kernel_rfl) (by kernel_rfl) (allC (len_ob (rfl : (v_2.map cS) = v_2.map cS)) (allC (cg q6) (allC (gt_list (c := cS) q7) (allC (stringsCutPrefix_ok k y_1 (bs [45]) _ q8) (allC (cg q9) (allC (cg q10) (allC (optionTakerNext_ok (k + 2) v_1 v_2 _ q11) (allC (cg q12) (allC (optionTakerGroup_ok (k + 1) r_1 r_4 r_5 _ q13) allN)))))))))
                have q5 := q3 _ _ (by intro e; cases e) q4
                obtain rfl := Option.some.inj h
                exact retS_go (k := (k + 3)) (n := 1) Tryz.func59 Tryz.ntmps59 rfl (by kernel_rfl) (by kernel_rfl) (lb rfl) (adv [] [([], 1, .ret, (stOf (go (k + 3) 59 1 38 (adv [([], 1, 4, .eq (pI (v_2.length : Int))), ([], 1, 5, .eq (pB true)), ([], 2, 4, .elem [(pS y_1)]), ([], 2, 6, .ret (.tup [(pS r_1), (pB r_2)])), ([], 3, 2, .eq (pB false)), ([], 3, 5, .eq (pB false)), ([], 5, 1, .retS (pS r_3) [some ⟨3, 139, [[(pS r_4), (.list 1 false (r_5.map cS)), (.v (.slice none 0 0))]], true, false⟩] [0]), ([], 6, 1, .eq (pB false)), ([], 8, 2, .retS (.ifc 401 (.far 1)) [some ⟨3, 139, [[(pS r_15), (.list 1 false (r_16.map cS)), (.row [1, TAG] 1 0 r_17.length)]], false, false⟩, some ⟨2, 146, (r_17.map FlagD.c), true, true⟩] [0, 0])]) optionTakerAll_L1 (optionTakerAll_S1 (.inl (v_1, v_2))))))]) (ex := .ret) (r := ((.ifc 401 (.far 1)), [some ⟨3, 139, [[(pS r_15), (.list 1 false (r_16.map cS)), (.row [1, TAG] 1 0 r_17.length)]], false, false⟩, some ⟨2, 146, (r_17.map FlagD.c), true, true⟩], [0, 0])) (by kernel_rfl) rfl (by kernel_rfl) (allC q5 allN) (by kernel_rfl)
              · try dsimp only at q2
                cases q2
    · cases q2
      try dsimp only at h
      have q4 := run_go (k := (k + 3)) (f := 59) (r0 := 1) (nt := 38) (c := optionTakerAll_L1) (σ := (optionTakerAll_S1 (.inl (v_1, v_2)))) (adv [([], 1, 4, .eq (pI (v_2.length : Int))), ([], 1, 5, .eq (pB false))]) (ex := (.exit 0)) (by kernel_rfl) (by kernel_rfl) (allC (len_ob (rfl : (v_2.map cS) = v_2.map cS)) (allC (cg q6) allN))
      have q5 := q3 _ _ (by intro e; cases e) q4
      obtain rfl := Option.some.inj h
      exact retS_go (k := (k + 3)) (n := 1) Tryz.func59 Tryz.ntmps59 rfl (by kernel_rfl) (by kernel_rfl) (lb rfl) (adv [] [([], 1, (.exit 0), (stOf (go (k + 3) 59 1 38 (adv [([], 1, 4, .eq (pI (v_2.length : Int))), ([], 1, 5, .eq (pB false))]) optionTakerAll_L1 (optionTakerAll_S1 (.inl (v_1, v_2))))))]) (ex := .ret) (r := ((.v .nilIface), [some ⟨3, 139, [[(pS v_1), (.list 1 false (v_2.map cS)), (.v (.slice none 0 0))]], true, false⟩], [0])) (by kernel_rfl) rfl (by kernel_rfl) (allC q5 allN) (by kernel_rfl)
  · unfold optionTakerAll_b1 at q2
    try dsimp only at q2
    rcases bif_some q2 with ⟨q6, q2⟩ | ⟨q6, q2⟩
    · obtain ⟨y_1, q7, q2⟩ := bnd_some q2
      obtain ⟨⟨r_1, r_2⟩, q8, q2⟩ := bnd_some q2
      try dsimp only at q2
      rcases bif_some q2 with ⟨q9, q2⟩ | ⟨q9, q2⟩
      · cases q2
        try dsimp only at h
        have q4 := run_go (k := (k + 3)) (f := 59) (r0 := 1) (nt := 38) (c := optionTakerAll_L1) (σ := (optionTakerAll_S1 (.inr ((v_3, v_4, v_5))))) (adv [([], 1, 4, .eq (pI (v_4.length : Int))), ([], 1, 5, .eq (pB true)), ([], 2, 4, .elem [(pS y_1)]), ([], 2, 6, .ret (.tup [(pS r_1), (pB r_2)])), ([], 3, 2, .eq (pB true))]) (ex := .ret) (by kernel_rfl) (by kernel_rfl) (allC (len_ob (rfl : (v_4.map cS) = v_4.map cS)) (allC (cg q6) (allC (gt_list (c := cS) q7) (allC (stringsCutPrefix_ok k y_1 (bs [45]) _ q8) (allC (cg q9) allN)))))
        have q5 := q3 _ _ (by intro e; cases e) q4
        obtain rfl := Option.some.inj h
        exact retS_go (k := (k + 3)) (n := 1) Tryz.func59 Tryz.ntmps59 rfl (by kernel_rfl) (by kernel_rfl) (lb rfl) (adv [] [([], 1, .ret, (stOf (go (k + 3) 59 1 38 (adv [([], 1, 4, .eq (pI (v_4.length : Int))), ([], 1, 5, .eq (pB true)), ([], 2, 4, .elem [(pS y_1)]), ([], 2, 6, .ret (.tup [(pS r_1), (pB r_2)])), ([], 3, 2, .eq (pB true))]) optionTakerAll_L1 (optionTakerAll_S1 (.inr ((v_3, v_4, v_5)))))))]) (ex := .ret) (r := ((.v .nilIface), [some ⟨3, 139, [[(pS v_3), (.list 1 false (v_4.map cS)), (.row [1, TAG] 1 0 v_5.length)]], false, false⟩, some ⟨2, 146, (v_5.map FlagD.c), true, true⟩], [0, 0])) (by kernel_rfl) rfl (by kernel_rfl) (allC q5 allN) (by kernel_rfl)
      · rcases bif_some q2 with ⟨q10, q2⟩ | ⟨q10, q2⟩
        · cases q2
          try dsimp only at h
          have q4 := run_go (k := (k + 3)) (f := 59) (r0 := 1) (nt := 38) (c := optionTakerAll_L1) (σ := (optionTakerAll_S1 (.inr ((v_3, v_4, v_5))))) (adv [([], 1, 4, .eq (pI (v_4.length : Int))), ([], 1, 5, .eq (pB true)), ([], 2, 4, .elem [(pS y_1)]), ([], 2, 6, .ret (.tup [(pS r_1), (pB r_2)])), ([], 3, 2, .eq (pB false)), ([], 3, 5, .eq (pB true))]) (ex := .ret) (by kernel_rfl) (by kernel_rfl) (allC (len_ob (rfl : (v_4.map cS) = v_4.map cS)) (allC (cg q6) (allC (gt_list (c := cS) q7) (allC (stringsCutPrefix_ok k y_1 (bs [45]) _ q8) (allC (cg q9) (allC (cg q10) allN))))))
          have q5 := q3 _ _ (by intro e; cases e) q4
          obtain rfl := Option.some.inj h
          exact retS_go (k := (k + 3)) (n := 1) Tryz.func59 Tryz.ntmps59 rfl (by kernel_rfl) (by kernel_rfl) (lb rfl) (adv [] [([], 1, .ret, (stOf (go (k + 3) 59 1 38 (adv [([], 1, 4, .eq (pI (v_4.length : Int))), ([], 1, 5, .eq (pB true)), ([], 2, 4, .elem [(pS y_1)]), ([], 2, 6, .ret (.tup [(pS r_1), (pB r_2)])), ([], 3, 2, .eq (pB false)), ([], 3, 5, .eq (pB true))]) optionTakerAll_L1 (optionTakerAll_S1 (.inr ((v_3, v_4, v_5)))))))]) (ex := .ret) (r := ((.v .nilIface), [some ⟨3, 139, [[(pS v_3), (.list 1 false (v_4.map cS)), (.row [1, TAG] 1 0 v_5.length)]], false, false⟩, some ⟨2, 146, (v_5.map FlagD.c), true, true⟩], [0, 0])) (by kernel_rfl) rfl (by kernel_rfl) (allC q5 allN) (by kernel_rfl)
        · obtain ⟨X_2, q11, q2⟩ := bnd_some q2
          rcases X_2 with ⟨r_3, r_4, r_5, r_6⟩
          · try dsimp only at q2
            rcases bif_some q2 with ⟨q12, q2⟩ | ⟨q12, q2⟩
            · cases q2
              try dsimp only at h
              have q4 := run_go (k := (k + 3)) (f := 59) (r0 := 1) (nt := 38) (c := optionTakerAll_L1) (σ := (optionTakerAll_S1 (.inr ((v_3, v_4, v_5))))) (adv [([], 1, 4, .eq (pI (v_4.length : Int))), ([], 1, 5, .eq (pB true)), ([], 2, 4, .elem [(pS y_1)]), ([], 2, 6, .ret (.tup [(pS r_1), (pB r_2)])), ([], 3, 2, .eq (pB false)), ([], 3, 5, .eq (pB false)), ([], 5, 1, .retS (pS r_3) [some ⟨3, 139, [[(pS r_4), (.list 1 false (r_5.map cS)), (.row [1, TAG] 1 0 r_6.length)]], false, false⟩, some ⟨2, 146, (r_6.map FlagD.c), true, true⟩] [0, 0]), ([], 6, 1, .eq (pB true))]) (ex := .ret) (by kernel_rfl) (by kernel_rfl) (allC (len_ob (rfl : (v_4.map cS) = v_4.map cS)) (allC (cg q6) (allC (gt_list (c := cS) q7) (allC (stringsCutPrefix_ok k y_1 (bs [45]) _ q8) (allC (cg q9) (allC (cg q10) (allC (optionTakerNext2_ok (k + 2) v_3 v_4 v_5 _ q11) (allC (cg q12) allN))))))))
              have q5 := q3 _ _ (by intro e; cases e) q4
              obtain rfl := Option.some.inj h
              exact retS_go (k := (k + 3)) (n := 1) Tryz.func59 Tryz.ntmps59 rfl (by kernel_rfl) (by kernel_rfl) (lb rfl) (adv [] [([], 1, .ret, (stOf (go (k + 3) 59 1 38 (adv [([], 1, 4, .eq (pI (v_4.length : Int))), ([], 1, 5, .eq (pB true)), ([], 2, 4, .elem [(pS y_1)]), ([], 2, 6, .ret (.tup [(pS r_1), (pB r_2)])), ([], 3, 2, .eq (pB false)), ([], 3, 5, .eq (pB false)), ([], 5, 1, .retS (pS r_3) [some ⟨3, 139, [[(pS r_4), (.list 1 false (r_5.map cS)), (.row [1, TAG] 1 0 r_6.length)]], false, false⟩, some ⟨2, 146, (r_6.map FlagD.c), true, true⟩] [0, 0]), ([], 6, 1, .eq (pB true))]) optionTakerAll_L1 (optionTakerAll_S1 (.inr ((v_3, v_4, v_5)))))))]) (ex := .ret) (r := ((.v .nilIface), [some ⟨3, 139, [[(pS r_4), (.list 1 false (r_5.map cS)), (.row [1, TAG] 1 0 r_6.length)]], false, false⟩, some ⟨2, 146, (r_6.map FlagD.c), true, true⟩], [0, 0])) (by kernel_rfl) rfl (by kernel_rfl) (allC q5 allN) (by kernel_rfl)
            · obtain ⟨X_3, q13, q2⟩ := bnd_some q2
              rcases X_3 with ⟨r_7, r_8, r_9⟩ | ⟨r_10, r_11, r_12⟩ | ⟨r_13, r_14, r_15⟩ | ⟨r_16, r_17, r_18⟩ | ⟨r_19, r_20, r_21⟩ | ⟨r_22, r_23, r_24⟩
              · try dsimp only at q2
                cases q2
                try dsimp only at h
                have q4 := run_go (k := (k + 3)) (f := 59) (r0 := 1) (nt := 38) (c := optionTakerAll_L1) (σ := (optionTakerAll_S1 (.inr ((v_3, v_4, v_5))))) (adv [([], 1, 4, .eq (pI (v_4.length : Int))), ([], 1, 5, .eq (pB true)), ([], 2, 4, .elem [(pS y_1)]), ([], 2, 6, .ret (.tup [(pS r_1), (pB r_2)])), ([], 3, 2, .eq (pB false)), ([], 3, 5, .eq (pB false)), ([], 5, 1, .retS (pS r_3) [some ⟨3, 139, [[(pS r_4), (.list 1 false (r_5.map cS)), (.row [1, TAG] 1 0 r_6.length)]], false, false⟩, some ⟨2, 146, (r_6.map FlagD.c), true, true⟩] [0, 0]), ([], 6, 1, .eq (pB false)), ([], 8, 2, .retS (.ifc 401 (.far 0)) [some ⟨3, 139, [[(pS r_7), (.list 1 false (r_8.map cS)), (.row [1, TAG] 1 0 r_9.length)]], false, false⟩, some ⟨2, 146, (r_9.map FlagD.c), true, true⟩] [0, 0])]) (ex := .ret) (by kernel_rfl) (by kernel_rfl) (allC (len_ob (rfl : (v_4.map cS) = v_4.map cS)) (allC (cg q6) (allC (gt_list (c := cS) q7) (allC (stringsCutPrefix_ok k y_1 (bs [45]) _ q8) (allC (cg q9) (allC (cg q10) (allC (optionTakerNext2_ok (k + 2) v_3 v_4 v_5 _ q11) (allC (cg q12) (allC (optionTakerGroup2_ok (k + 1) r_1 r_4 r_5 r_6 _ q13) allN)))))))))
                have q5 := q3 _ _ (by intro e; cases e) q4
                obtain rfl := Option.some.inj h
                exact retS_go (k := (k + 3)) (n := 1) Tryz.func59 Tryz.ntmps59 rfl (by kernel_rfl) (by kernel_rfl) (lb rfl) (adv [] [([], 1, .ret, (stOf (go (k + 3) 59 1 38 (adv [([], 1, 4, .eq (pI (v_4.length : Int))), ([], 1, 5, .eq (pB true)), ([], 2, 4, .elem [(pS y_1)]), ([], 2, 6, .ret (.tup [(pS r_1), (pB r_2)])), ([], 3, 2, .eq (pB false)), ([], 3, 5, .eq (pB false)), ([], 5, 1, .retS (pS r_3) [some ⟨3, 139, [[(pS r_4), (.list 1 false (r_5.map cS)), (.row [1, TAG] 1 0 r_6.length)]], false, false⟩, some ⟨2, 146, (r_6.map FlagD.c), true, true⟩] [0, 0]), ([], 6, 1, .eq (pB false)), ([], 8, 2, .retS (.ifc 401 (.far 0)) [some ⟨3, 139, [[(pS r_7), (.list 1 false (r_8.map cS)), (.row [1, TAG] 1 0 r_9.length)]], false, false⟩, some ⟨2, 146, (r_9.map FlagD.c), true, true⟩] [0, 0])]) optionTakerAll_L1 (optionTakerAll_S1 (.inr ((v_3, v_4, v_5)))))))]) (ex := .ret) (r := ((.ifc 401 (.far 0)), [some ⟨3, 139, [[(pS r_7), (.list 1 false (r_8.map cS)), (.row [1, TAG] 1 0 r_9.length)]], false, false⟩, some ⟨2, 146, (r_9.map FlagD.c), true, true⟩], [0, 0])) (by kernel_rfl) rfl (by kernel_rfl) (allC q5 allN) (by kernel_rfl)
              · try dsimp only at q2
                cases q2
                try dsimp only at h
                have q4 := run_go (k := (k + 3)) (f := 59) (r0 := 1) (nt := 38) (c := optionTakerAll_L1) (σ := (optionTakerAll_S1 (.inr ((v_3, v_4, v_5))))) (adv [([], 1, 4, .eq (pI (v_4.length : Int))), ([], 1, 5, .eq (pB true)), ([], 2, 4, .elem [(pS y_1)]), ([], 2, 6, .ret (.tup [(pS r_1), (pB r_2)])), ([], 3, 2, .eq (pB false)), ([], 3, 5, .eq (pB false)), ([], 5, 1, .retS (pS r_3) [some ⟨3, 139, [[(pS r_4), (.list 1 false (r_5.map cS)), (.row [1, TAG] 1 0 r_6.length)]], false, false⟩, some ⟨2, 146, (r_6.map FlagD.c), true, true⟩] [0, 0]), ([], 6, 1, .eq (pB false)), ([], 8, 2, .retS (.ifc 401 (.far 1)) [some ⟨3, 139, [[(pS r_10), (.list 1 false (r_11.map cS)), (.row [1, TAG] 1 0 r_12.length)]], false, false⟩, some ⟨2, 146, (r_12.map FlagD.c), true, true⟩] [0, 0])]) (ex := .ret) (by kernel_rfl) (by kernel_rfl) (allC (len_ob (rfl : (v_4.map cS) = v_4.map cS)) (allC (cg q6) (allC (gt_list (c := cS) q7) (allC (stringsCutPrefix_ok k y_1 (bs [45]) _ q8) (allC (cg q9) (allC (cg q10) (allC (optionTakerNext2_ok (k + 2) v_3 v_4 v_5 _ q11) (allC (cg q12) (allC (optionTakerGroup2_ok (k + 1) r_1 r_4 r_5 r_6 _ q13) allN)))))))))
                have q5 := q3 _ _ (by intro e; cases e) q4
                obtain rfl := Option.some.inj h
                exact retS_go (k := (k + 3)) (n := 1) Tryz.func59 Tryz.ntmps59 rfl (by kernel_rfl) (by kernel_rfl) (lb rfl) (adv [] [([], 1, .ret, (stOf (go (k + 3) 59 1 38 (adv [([], 1, 4, .eq (pI (v_4.length : Int))), ([], 1, 5, .eq (pB true)), ([], 2, 4, .elem [(pS y_1)]), ([], 2, 6, .ret (.tup [(pS r_1), (pB r_2)])), ([], 3, 2, .eq (pB false)), ([], 3, 5, .eq (pB false)), ([], 5, 1, .retS (pS r_3) [some ⟨3, 139, [[(pS r_4), (.list 1 false (r_5.map cS)), (.row [1, TAG] 1 0 r_6.length)]], false, false⟩, some ⟨2, 146, (r_6.map FlagD.c), true, true⟩] [0, 0]), ([], 6, 1, .eq (pB false)), ([], 8, 2, .retS (.ifc 401 (.far 1)) [some ⟨3, 139, [[(pS r_10), (.list 1 false (r_11.map cS)), (.row [1, TAG] 1 0 r_12.length)]], false, false⟩, some ⟨2, 146, (r_12.map FlagD.c), true, true⟩] [0, 0])]) optionTakerAll_L1 (optionTakerAll_S1 (.inr ((v_3, v_4, v_5)))))))]) (ex := .ret) (r := ((.ifc 401 (.far 1)), [some ⟨3, 139, [[(pS r_10), (.list 1 false (r_11.map cS)), (.row [1, TAG] 1 0 r_12.length)]], false, false⟩, some ⟨2, 146, (r_12.map FlagD.c), true, true⟩], [0, 0])) (by kernel_rfl) rfl (by kernel_rfl) (allC q5 allN) (by kernel_rfl)
              · try dsimp only at q2
                cases q2
              · try dsimp only at q2
                cases q2
                try dsimp only at h
                have q4 := run_go (k := (k + 3)) (f := 59) (r0 := 1) (nt := 38) (c := optionTakerAll_L1) (σ := (optionTakerAll_S1 (.inr ((v_3, v_4, v_5))))) (adv [([], 1, 4, .eq (pI (v_4.length : Int))), ([], 1, 5, .eq (pB true)), ([], 2, 4, .elem [(pS y_1)]), ([], 2, 6, .ret (.tup [(pS r_1), (pB r_2)])), ([], 3, 2, .eq (pB false)), ([], 3, 5, .eq (pB false)), ([], 5, 1, .retS (pS r_3) [some ⟨3, 139, [[(pS r_4), (.list 1 false (r_5.map cS)), (.row [1, TAG] 1 0 r_6.length)]], false, false⟩, some ⟨2, 146, (r_6.map FlagD.c), true, true⟩] [0, 0]), ([], 6, 1, .eq (pB false)), ([], 8, 2, .retS (.ifc 401 (.far 0)) [some ⟨3, 139, [[(pS r_16), (.list 1 false (r_17.map cS)), (.row [2, TAG] 1 0 r_18.length)]], false, false⟩, none, some ⟨2, 146, (r_18.map FlagD.c), true, true⟩] [0, 0, 0])]) (ex := .ret) (by kernel_rfl) (by kernel_rfl) (allC (len_ob (rfl : (v_4.map cS) = v_4.map cS)) (allC (cg q6) (allC (gt_list (c := cS) q7) (allC (stringsCutPrefix_ok k y_1 (bs [45]) _ q8) (allC (cg q9) (allC (cg q10) (allC (optionTakerNext2_ok (k + 2) v_3 v_4 v_5 _ q11) (allC (cg q12) (allC (optionTakerGroup2_ok (k + 1) r_1 r_4 r_5 r_6 _ q13) allN)))))))))
                have q5 := q3 _ _ (by intro e; cases e) q4
                obtain rfl := Option.some.inj h
                exact retS_go (k := (k + 3)) (n := 1) Tryz.func59 Tryz.ntmps59 rfl (by kernel_rfl) (by kernel_rfl) (lb rfl) (adv [] [([], 1, .ret, (stOf (go (k + 3) 59 1 38 (adv [([], 1, 4, .eq (pI (v_4.length : Int))), ([], 1, 5, .eq (pB true)), ([], 2, 4, .elem [(pS y_1)]), ([], 2, 6, .ret (.tup [(pS r_1), (pB r_2)])), ([], 3, 2, .eq (pB false)), ([], 3, 5, .eq (pB false)), ([], 5, 1, .retS (pS r_3) [some ⟨3, 139, [[(pS r_4), (.list 1 false (r_5.map cS)), (.row [1, TAG] 1 0 r_6.length)]], false, false⟩, some ⟨2, 146, (r_6.map FlagD.c), true, true⟩] [0, 0]), ([], 6, 1, .eq (pB false)), ([], 8, 2, .retS (.ifc 401 (.far 0)) [some ⟨3, 139, [[(pS r_16), (.list 1 false (r_17.map cS)), (.row [2, TAG] 1 0 r_18.length)]], false, false⟩, none, some ⟨2, 146, (r_18.map FlagD.c), true, true⟩] [0, 0, 0])]) optionTakerAll_L1 (optionTakerAll_S1 (.inr ((v_3, v_4, v_5)))))))]) (ex := .ret) (r := ((.ifc 401 (.far 0)), [some ⟨3, 139, [[(pS r_16), (.list 1 false (r_17.map cS)), (.row [1, TAG] 1 0 r_18.length)]], false, false⟩, some ⟨2, 146, (r_18.map FlagD.c), true, true⟩], [0, 0])) (by kernel_rfl) rfl (by kernel_rfl) (allC q5 allN) (by kernel_rfl)
              · try dsimp only at q2
                cases q2
                try dsimp only at h
                have q4 := run_go (k := (k + 3)) (f := 59) (r0 := 1) (nt := 38) (c := optionTakerAll_L1) (σ := (optionTakerAll_S1 (.inr ((v_3, v_4, v_5))))) (adv [([], 1, 4, .eq (pI (v_4.length : Int))), ([], 1, 5, .eq (pB true)), ([], 2, 4, .elem [(pS y_1)]), ([], 2, 6, .ret (.tup [(pS r_1), (pB r_2)])), ([], 3, 2, .eq (pB false)), ([], 3, 5, .eq (pB false)), ([], 5, 1, .retS (pS r_3) [some ⟨3, 139, [[(pS r_4), (.list 1 false (r_5.map cS)), (.row [1, TAG] 1 0 r_6.length)]], false, false⟩, some ⟨2, 146, (r_6.map FlagD.c), true, true⟩] [0, 0]), ([], 6, 1, .eq (pB false)), ([], 8, 2, .retS (.ifc 401 (.far 1)) [some ⟨3, 139, [[(pS r_19), (.list 1 false (r_20.map cS)), (.row [2, TAG] 1 0 r_21.length)]], false, false⟩, none, some ⟨2, 146, (r_21.map FlagD.c), true, true⟩] [0, 0, 0])]) (ex := .ret) (by kernel_rfl) (by kernel_rfl) (allC (len_ob (rfl : (v_4.map cS) = v_4.map cS)) (allC (cg q6) (allC (gt_list (c := cS) q7) (allC (stringsCutPrefix_ok k y_1 (bs [45]) _ q8) (allC (cg q9) (allC (cg q10) (allC (optionTakerNext2_ok (k + 2) v_3 v_4 v_5 _ q11) (allC (cg q12) (allC (optionTakerGroup2_ok (k + 1) r_1 r_4 r_5 r_6 _ q13) allN)))))))))
                have q5 := q3 _ _ (by intro e; cases e) q4
                obtain rfl := Option.some.inj h
                exact retS_go (k := (k + 3)) (n := 1) Tryz.func59 Tryz.ntmps59 rfl (by kernel_rfl) (by kernel_rfl) (lb rfl) (adv [] [([], 1, .ret, (stOf (go (k + 3) 59 1 38 (adv [([], 1, 4, .eq (pI (v_4.length : Int))), ([], 1, 5, .eq (pB true)), ([], 2, 4, .elem [(pS y_1)]), ([], 2, 6, .ret (.tup [(pS r_1), (pB r_2)])), ([], 3, 2, .eq (pB false)), ([], 3, 5, .eq (pB false)), ([], 5, 1, .retS (pS r_3) [some ⟨3, 139, [[(pS r_4), (.list 1 false (r_5.map cS)), (.row [1, TAG] 1 0 r_6.length)]], false, false⟩, some ⟨2, 146, (r_6.map FlagD.c), true, true⟩] [0, 0]), ([], 6, 1, .eq (pB false)), ([], 8, 2, .retS (.ifc 401 (.far 1)) [some ⟨3, 139, [[(pS r_19), (.list 1 false (r_20.map cS)), (.row [2, TAG] 1 0 r_21.length)]], false, false⟩, none, some ⟨2, 146, (r_21.map FlagD.c), true, true⟩] [0, 0, 0])]) optionTakerAll_L1 (optionTakerAll_S1 (.inr ((v_3, v_4, v_5)))))))]) (ex := .ret) (r := ((.ifc 401 (.far 1)), [some ⟨3, 139, [[(pS r_19), (.list 1 false (r_20.map cS)), (.row [1, TAG] 1 0 r_21.length)]], false, false⟩, some ⟨2, 146, (r_21.map FlagD.c), true, true⟩], [0, 0])) (by kernel_rfl) rfl (by kernel_rfl) (allC q5 allN) (by kernel_rfl)
              · try dsimp only at q2
                cases q2
    · cases q2
      try dsimp only at h
      have q4 := run_go (k := (k + 3)) (f := 59) (r0 := 1) (nt := 38) (c := optionTakerAll_L1) (σ := (optionTakerAll_S1 (.inr ((v_3, v_4, v_5))))) (adv [([], 1, 4, .eq (pI (v_4.length : Int))), ([], 1, 5, .eq (pB false))]) (ex := (.exit 0)) (by kernel_rfl) (by kernel_rfl) (allC (len_ob (rfl : (v_4.map cS) = v_4.map cS)) (allC (cg q6) allN))
      have q5 := q3 _ _ (by intro e; cases e) q4
      obtain rfl := Option.some.inj h
      exact retS_go (k := (k + 3)) (n := 1) Tryz.func59 Tryz.ntmps59 rfl (by kernel_rfl) (by kernel_rfl) (lb rfl) (adv [] [([], 1, (.exit 0), (stOf (go (k + 3) 59 1 38 (adv [([], 1, 4, .eq (pI (v_4.length : Int))), ([], 1, 5, .eq (pB false))]) optionTakerAll_L1 (optionTakerAll_S1 (.inr ((v_3, v_4, v_5)))))))]) (ex := .ret) (r := ((.v .nilIface), [some ⟨3, 139, [[(pS v_3), (.list 1 false (v_4.map cS)), (.row [1, TAG] 1 0 v_5.length)]], false, false⟩, some ⟨2, 146, (v_5.map FlagD.c), true, true⟩], [0, 0])) (by kernel_rfl) rfl (by kernel_rfl) (allC q5 allN) (by kernel_rfl)
end Go.Proofs.YtfjflodicgjihaaGreatDoor.Den
namespace Go.Proofs.YtfjflodicgjihaaGreatDoor.Den
open Go Go.RowKit
/-- flagstone/option.Parse -/
def optionParse (spec : ByteArray) (argv : (List ByteArray)) : Option ((List FlagD) × (List ByteArray) × Int) :=
 grd (room (argv.length) 16) <|
 (optionTakerAll spec argv).bind fun X_1 => match X_1 with
 | .inl (r_1, r_2) => (
 some ([], r_2, (0 : Int))
 )
 | .inr (.inl (r_3, r_4)) => (
 some ([], [], (30 : Int))
 )
 | .inr (.inr (.inl (r_5, r_6))) => (
 some ([], [], (31 : Int))
 )
 | .inr (.inr (.inr (.inl (r_7, r_8, r_9)))) => (
 some ([], [], (30 : Int))
 )
 | .inr (.inr (.inr (.inr (.inl (r_10, r_11, r_12))))) => (
 some ([], [], (31 : Int))
 )
 | .inr (.inr (.inr (.inr (.inr ((r_13, r_14, r_15)))))) => (
 some (r_15, r_14, (0 : Int))
 )
set_option maxRecDepth 100000 in
theorem optionParse_ok (k : Nat) (spec : ByteArray) (argv : (List ByteArray)) (r : ((List FlagD) × (List ByteArray) × Int)) (h : optionParse spec argv = some r) : run0 (k + 5) 27 [(pS spec), (.list 1 false (argv.map cS))] = some (.tup [(.list 2 false (r.1.map FlagD.c)), (.list 1 false (r.2.1.map cS)), (pI r.2.2)]) := by
  unfold optionParse at h
  obtain ⟨q1, h⟩ := grd_some h
  obtain ⟨X_1, q2, h⟩ := bnd_some h
  rcases X_1 with ⟨r_1, r_2⟩ | ⟨r_3, r_4⟩ | ⟨r_5, r_6⟩ | ⟨r_7, r_8, r_9⟩ | ⟨r_10, r_11, r_12⟩ | ⟨r_13, r_14, r_15⟩
  · try dsimp only at h
    obtain rfl := Option.some.inj h
    exact ret_go (k := (k + 4)) Tryz.func27 Tryz.ntmps27 (by kernel_rfl) (by kernel_rfl) (lb rfl) (adv [([], 1, 2, .ret (.list 1 false (argv.map cS))), ([], 2, 1, .retS (.v .nilIface) [some ⟨3, 139, [[(pS r_1), (.list 1 false (r_2.map cS)), (.v (.slice none 0 0))]], true, false⟩] [0])]) (ex := .ret) (r := (.tup [(.list 2 false []), (.list 1 false (r_2.map cS)), (pI (0 : Int))])) (by kernel_rfl) rfl (by kernel_rfl) (allC (cloneS_ok (k + 4) (rfl : (argv.map cS) = argv.map cS) q1) (allC (optionTakerAll_ok k spec argv _ q2) allN)) (by kernel_rfl) allN
  · try dsimp only at h
    obtain rfl := Option.some.inj h
    exact ret_go (k := (k + 4)) Tryz.func27 Tryz.ntmps27 (by kernel_rfl) (by kernel_rfl) (lb rfl) (adv [([], 1, 2, .ret (.list 1 false (argv.map cS))), ([], 2, 1, .retS (.ifc 401 (.far 0)) [some ⟨3, 139, [[(pS r_3), (.list 1 false (r_4.map cS)), (.v (.slice none 0 0))]], true, false⟩] [0])]) (ex := .ret) (r := (.tup [(.list 2 false []), (.list 1 false []), (pI (30 : Int))])) (by kernel_rfl) rfl (by kernel_rfl) (allC (cloneS_ok (k + 4) (rfl : (argv.map cS) = argv.map cS) q1) (allC (optionTakerAll_ok k spec argv _ q2) allN)) (by kernel_rfl) allN
  · try dsimp only at h
    obtain rfl := Option.some.inj h
    exact ret_go (k := (k + 4)) Tryz.func27 Tryz.ntmps27 (by kernel_rfl) (by kernel_rfl) (lb rfl) (adv [([], 1, 2, .ret (.list 1 false (argv.map cS))), ([], 2, 1, .retS (.ifc 401 (.far 1)) [some ⟨3, 139, [[(pS r_5), (.list 1 false (r_6.map cS)), (.v (.slice none 0 0))]], true, false⟩] [0])]) (ex := .ret) (r := (.tup [(.list 2 false []), (.list 1 false []), (pI (31 : Int))])) (by kernel_rfl) rfl (by kernel_rfl) (allC (cloneS_ok (k + 4) (rfl : (argv.map cS) = argv.map cS) q1) (allC (optionTakerAll_ok k spec argv _ q2) allN)) (by kernel_rfl) allN
  · try dsimp only at h
    obtain rfl := Option.some.inj h
    exact ret_go (k := (k + 4)) Tryz.func27 Tryz.ntmps27 (by kernel_rfl) (by kernel_rfl) (lb rfl) (adv [([], 1, 2, .ret (.list 1 false (argv.map cS))), ([], 2, 1, .retS (.ifc 401 (.far 0)) [some ⟨3, 139, [[(pS r_7), (.list 1 false (r_8.map cS)), (.row [1, TAG] 1 0 r_9.length)]], false, false⟩, some ⟨2, 146, (r_9.map FlagD.c), true, true⟩] [0, 0])]) (ex := .ret) (r := (.tup [(.list 2 false []), (.list 1 false []), (pI (30 : Int))])) (by kernel_rfl) rfl (by kernel_rfl) (allC (cloneS_ok (k + 4) (rfl : (argv.map cS) = argv.map cS) q1) (allC (optionTakerAll_ok k spec argv _ q2) allN)) (by kernel_rfl) allN
  · try dsimp only at h
    obtain rfl := Option.some.inj h
    exact ret_go (k := (k + 4)) Tryz.func27 Tryz.ntmps27 (by kernel_rfl) (by kernel_rfl) (lb rfl) (adv [([], 1, 2, .ret (.list 1 false (argv.map cS))), ([], 2, 1, .retS (.ifc 401 (.far 1)) [some ⟨3, 139, [[(pS r_10), (.list 1 false (r_11.map cS)), (.row [1, TAG] 1 0 r_12.length)]], false, false⟩, some ⟨2, 146, (r_12.map FlagD.c), true, true⟩] [0, 0])]) (ex := .ret) (r := (.tup [(.list 2 false []), (.list 1 false []), (pI (31 : Int))])) (by kernel_rfl) rfl (by kernel_rfl) (allC (cloneS_ok (k + 4) (rfl : (argv.map cS) = argv.map cS) q1) (allC (optionTakerAll_ok k spec argv _ q2) allN)) (by kernel_rfl) allN
  · try dsimp only at h
    obtain rfl := Option.some.inj h
    exact ret_go (k := (k + 4)) Tryz.func27 Tryz.ntmps27 (by kernel_rfl) (by kernel_rfl) (lb rfl) (adv [([], 1, 2, .ret (.list 1 false (argv.map cS))), ([], 2, 1, .retS (.v .nilIface) [some ⟨3, 139, [[(pS r_13), (.list 1 false (r_14.map cS)), (.row [1, TAG] 1 0 r_15.length)]], false, false⟩, some ⟨2, 146, (r_15.map FlagD.c), true, true⟩] [0, 0])]) (ex := .ret) (r := (.tup [(.list 2 false (r_15.map FlagD.c)), (.list 1 false (r_14.map cS)), (pI (0 : Int))])) (by kernel_rfl) rfl (by kernel_rfl) (allC (cloneS_ok (k + 4) (rfl : (argv.map cS) = argv.map cS) q1) (allC (optionTakerAll_ok k spec argv _ q2) allN)) (by kernel_rfl) (allC (row_ok (rfl : (r_15.map FlagD.c) = r_15.map FlagD.c) (rfl : r_15.length = r_15.length)) allN)
/-- flagstone/job.Fail -/
def jobFail (j : JobD) (path : ByteArray) (e : Int) : Option JobD :=
 grd (¬ (((path.size + (bs [58, 32, 101, 114, 114, 111, 114, 32]).size : Nat) : Int) > IntKind.i64.max)) <|
 (itoaX e).bind fun r_1 =>
 grd (¬ ((((path ++ (bs [58, 32, 101, 114, 114, 111, 114, 32])).size + r_1.size : Nat) : Int) > IntKind.i64.max)) <|
 some (JobD.mk j.kind j.p j.phase j.fd j.nF j.modeF j.tries j.atF j.flags j.path j.path2 j.text j.names j.stack j.draws true (1 : Int) ((path ++ (bs [58, 32, 101, 114, 114, 111, 114, 32])) ++ r_1) e)
set_option maxRecDepth 100000 in
theorem jobFail_ok (k : Nat) (j : JobD) (path : ByteArray) (e : Int) (r : JobD) (h : jobFail j path e = some r) : run0 (k + 1) 26 [(JobD.a j), (pS path), (pI e)] = some (JobD.a r) := by
  unfold jobFail at h
  obtain ⟨q1, h⟩ := grd_some h
  obtain ⟨r_1, q2, h⟩ := bnd_some h
  obtain ⟨q3, h⟩ := grd_some h
  obtain rfl := Option.some.inj h
  exact ret_go (k := k) Tryz.func26 Tryz.ntmps26 (by kernel_rfl) (by kernel_rfl) (lb rfl) (adv [([], 1, 2, .cat), ([], 1, 4, .ret (pS r_1)), ([], 1, 5, .cat)]) (ex := .ret) (r := (.agg [(pI j.kind), (pI j.p), (pI j.phase), (pI j.fd), (pI j.nF), (pI j.modeF), (pI j.tries), (pI j.atF), (pI j.flags), (pS j.path), (pS j.path2), (pS j.text), (.list 1 false (j.names.map cS)), (.list 3 false (j.stack.map FrameD.c)), (.list 1 false (j.draws.map cI)), (pB true), (pI (1 : Int)), (pS ((path ++ (bs [58, 32, 101, 114, 114, 111, 114, 32])) ++ r_1)), (pI e)])) (by kernel_rfl) rfl (by kernel_rfl) (allC q1 (allC (itoaX_ok k e _ q2) (allC q3 allN))) (by kernel_rfl) allN
/-- flagstone/option.Has 1: the answer, and what is left of the variables -/
def optionHas1 (p0 : Int) (p1 : ByteArray) (p2 : Int) : Option (Bool × Int) :=
 some ((p0 == p2), p2)
def optionHas1_out : (Bool × Int) → PV × List (Option Blk) × List Nat
 | (r0, r1) => ((pB r0), [some ⟨1, 5, [[(.v (.int .u8 r1))]], true, false⟩], [0])
set_option maxRecDepth 100000 in
theorem optionHas1_ok (k : Nat) (p0 : Int) (p1 : ByteArray) (p2 : Int) (r : (Bool × Int)) (h : optionHas1 p0 p1 p2 = some r) : runS0 (k + 1) 62 [(.agg [(.v (.int .u8 p0)), (pS p1)]), (.ptr [0, TAG] 1 0 0)] [some ⟨1, 5, [[(.v (.int .u8 p2))]], true, false⟩] [0] = some (optionHas1_out r) := by
  unfold optionHas1 at h
  obtain rfl := Option.some.inj h
  exact retS_go (k := k) (n := 1) Tryz.func62 Tryz.ntmps62 rfl (by kernel_rfl) (by kernel_rfl) (lb rfl) (adv []) (ex := .ret) (r := ((pB (p0 == p2)), [some ⟨1, 5, [[(.v (.int .u8 p2))]], true, false⟩], [0])) (by kernel_rfl) rfl (by kernel_rfl) allN (by kernel_rfl)
/- slices.IndexFunc[[]flagstone/option.Flag,flagstone/option.Flag]: its loop at region 2 -/
noncomputable def slicesIndexFunc_L2 : Code := cAt (codeOf Tryz.f109) [true, false, true, false, false]
def slicesIndexFunc_R2 (x0 : List (List PV)) (x1 : Int) (x2 : Int) (x3 : Int) : St := ⟨envL [(0, (.list 2 false x0)), (1, (.clo 62 [(.ptr [0, TAG] 1 0 0)])), (7, (pI x1)), (8, (pI x2))], hsL [some ⟨1, 5, [[(.v (.int .u8 x3))]], true, false⟩] [0]⟩
theorem slicesIndexFunc_R2_eq {x0 y0 : List (List PV)} {x1 y1 : Int} {x2 y2 : Int} {x3 y3 : Int} (h0 : x0 = y0) (h1 : x1 = y1) (h2 : x2 = y2) (h3 : x3 = y3) : slicesIndexFunc_R2 x0 x1 x2 x3 = slicesIndexFunc_R2 y0 y1 y2 y3 := by
  subst h0 h1 h2 h3; rfl
def slicesIndexFunc_S2 (p0 : (List FlagD)) (p1 : Int) : (Int × Int) → St
 | (v0, v1) => slicesIndexFunc_R2 (p0.map FlagD.c) p1 v0 v1
def slicesIndexFunc_b2 (p0 : (List FlagD)) (p1 : Int) : (Int × Int) → Option ((Int × Int) ⊕ ((Int × Int × FlagD × Bool × Int) ⊕ (Int × Int)))
 | (v0, v1) =>
 bif (decide (v0 < p1)) then (
 (gt p0 v0).bind fun y_1 =>
 (optionHas1 y_1.letter y_1.value v1).bind fun (r_1, r_2) =>
 bif r_1 then (
 some (.inr (.inl (v0, v1, y_1, r_1, r_2)))
 ) else (
 some (.inl ((w64 (v0 + (1 : Int))), r_2))
 )
 ) else (
 some (.inr (.inr ((v0, v1))))
 )
set_option maxRecDepth 100000 in
theorem slicesIndexFunc_t2 (k : Nat) (p0 : (List FlagD)) (p1 : Int) (a a1 : (Int × Int)) (h : slicesIndexFunc_b2 p0 p1 a = some (.inl a1)) : ∃ σ, run1 (k + 1) 109 1 19 slicesIndexFunc_L2 (slicesIndexFunc_S2 p0 p1 a) = some (.normal, σ) ∧ canonS 1 [0, 1, 7, 8] σ = some (slicesIndexFunc_S2 p0 p1 a1) := by
  obtain ⟨v0, v1⟩ := a
  unfold slicesIndexFunc_b2 at h
  try dsimp only at h
  rcases bif_some h with ⟨q1, h⟩ | ⟨q1, h⟩
  · obtain ⟨y_1, q2, h⟩ := bnd_some h
    obtain ⟨X_1, q3, h⟩ := bnd_some h
    rcases X_1 with ⟨r_1, r_2⟩
    · try dsimp only at h
      rcases bif_some h with ⟨q4, h⟩ | ⟨q4, h⟩
      · revert h; subst q4; intro h
        cases h
      · revert h; subst q4; intro h
        obtain rfl := Sum.inl.inj (Option.some.inj h)
        exact ⟨_, run_go (k := (k + 1)) (f := 109) (r0 := 1) (nt := 19) (c := slicesIndexFunc_L2) (σ := (slicesIndexFunc_S2 p0 p1 (v0, v1))) (adv [([], 2, 0, .eq (pB true)), ([], 4, 3, .elem [(.v (.int .u8 y_1.letter)), (pS y_1.value)]), ([], 4, 5, .retS (pB false) [some ⟨1, 5, [[(.v (.int .u8 r_2))]], true, false⟩] [0])]) (ex := .normal) (by kernel_rfl) (by kernel_rfl) (allC (cg q1) (allC (gt_list (c := FlagD.c) q2) (allC (optionHas1_ok k y_1.letter y_1.value v1 _ q3) allN))), (by kernel_rfl)⟩
  · cases h
/-- slices.IndexFunc[[]flagstone/option.Flag,flagstone/option.Flag]: the answer, and what is left of the variables -/
def slicesIndexFunc (p0 : (List FlagD)) (p1 : Int) : Option (Int × Int) :=
 (iterN (slicesIndexFunc_b2 p0 (p0.length : Int)) LF ((0 : Int), p1)).bind fun X_1 => match X_1 with
 | .inl (v_1, v_2, y_1, r_1, r_2) => (
 some (v_1, r_2)
 )
 | .inr ((v_1, v_2)) => (
 some ((-1 : Int), v_2)
 )
def slicesIndexFunc_out : (Int × Int) → PV × List (Option Blk) × List Nat
 | (r0, r1) => ((pI r0), [some ⟨1, 5, [[(.v (.int .u8 r1))]], true, false⟩], [0])
set_option maxRecDepth 100000 in
theorem slicesIndexFunc_ok (k : Nat) (p0 : (List FlagD)) (p1 : Int) (r : (Int × Int)) (h : slicesIndexFunc p0 p1 = some r) : runS0 (k + 2) 109 [(.list 2 false (p0.map FlagD.c)), (.clo 62 [(.ptr [0, TAG] 1 0 0)])] [some ⟨1, 5, [[(.v (.int .u8 p1))]], true, false⟩] [0] = some (slicesIndexFunc_out r) := by
  unfold slicesIndexFunc at h
  obtain ⟨X_1, q1, h⟩ := bnd_some h
  obtain ⟨a_1, q2, q3⟩ := loop_iter (f := run1 (k + 1) 109 1 19 slicesIndexFunc_L2) (slicesIndexFunc_S2 p0 (p0.length : Int)) (slicesIndexFunc_b2 p0 (p0.length : Int)) (slicesIndexFunc_t2 k p0 (p0.length : Int)) LF ((0 : Int), p1) _ (stOf (goStop (k + 1) 109 1 19 (adv [([], 1, 1, .eq (pI (p0.length : Int)))]) 2 (codeOf Tryz.f109) (argB 109 [(.list 2 false (p0.map FlagD.c)), (.clo 62 [(.ptr [0, TAG] 1 0 0)])] [some ⟨1, 5, [[(.v (.int .u8 p1))]], true, false⟩] [0]))) q1 (by kernel_rfl)
  obtain ⟨v_1, v_2⟩ := a_1
  unfold slicesIndexFunc_b2 at q2
  try dsimp only at q2
  rcases bif_some q2 with ⟨q6, q2⟩ | ⟨q6, q2⟩
  · obtain ⟨y_1, q7, q2⟩ := bnd_some q2
    obtain ⟨X_2, q8, q2⟩ := bnd_some q2
    rcases X_2 with ⟨r_1, r_2⟩
    · try dsimp only at q2
      rcases bif_some q2 with ⟨q9, q2⟩ | ⟨q9, q2⟩
      · revert q2; subst q9; intro q2
        cases q2
        try dsimp only at h
        have q4 := run_go (k := (k + 1)) (f := 109) (r0 := 1) (nt := 19) (c := slicesIndexFunc_L2) (σ := (slicesIndexFunc_S2 p0 (p0.length : Int) (v_1, v_2))) (adv [([], 2, 0, .eq (pB true)), ([], 4, 3, .elem [(.v (.int .u8 y_1.letter)), (pS y_1.value)]), ([], 4, 5, .retS (pB true) [some ⟨1, 5, [[(.v (.int .u8 r_2))]], true, false⟩] [0])]) (ex := .ret) (by kernel_rfl) (by kernel_rfl) (allC (cg q6) (allC (gt_list (c := FlagD.c) q7) (allC (optionHas1_ok k y_1.letter y_1.value v_2 _ q8) allN)))
        have q5 := q3 _ _ (by intro e; cases e) q4
        obtain rfl := Option.some.inj h
        exact retS_go (k := (k + 1)) (n := 1) Tryz.func109 Tryz.ntmps109 rfl (by kernel_rfl) (by kernel_rfl) (lb rfl) (adv [([], 1, 1, .eq (pI (p0.length : Int)))] [([], 2, .ret, (stOf (go (k + 1) 109 1 19 (adv [([], 2, 0, .eq (pB true)), ([], 4, 3, .elem [(.v (.int .u8 y_1.letter)), (pS y_1.value)]), ([], 4, 5, .retS (pB true) [some ⟨1, 5, [[(.v (.int .u8 r_2))]], true, false⟩] [0])]) slicesIndexFunc_L2 (slicesIndexFunc_S2 p0 (p0.length : Int) (v_1, v_2)))))]) (ex := .ret) (r := ((pI v_1), [some ⟨1, 5, [[(.v (.int .u8 r_2))]], true, false⟩], [0])) (by kernel_rfl) rfl (by kernel_rfl) (allC (len_ob (rfl : (p0.map FlagD.c) = p0.map FlagD.c)) (allC q5 allN)) (by kernel_rfl)
      · revert q2; subst q9; intro q2
        cases q2
  · cases q2
    try dsimp only at h
    have q4 := run_go (k := (k + 1)) (f := 109) (r0 := 1) (nt := 19) (c := slicesIndexFunc_L2) (σ := (slicesIndexFunc_S2 p0 (p0.length : Int) (v_1, v_2))) (adv [([], 2, 0, .eq (pB false))]) (ex := (.exit 0)) (by kernel_rfl) (by kernel_rfl) (allC (cg q6) allN)
    have q5 := q3 _ _ (by intro e; cases e) q4
    obtain rfl := Option.some.inj h
    exact retS_go (k := (k + 1)) (n := 1) Tryz.func109 Tryz.ntmps109 rfl (by kernel_rfl) (by kernel_rfl) (lb rfl) (adv [([], 1, 1, .eq (pI (p0.length : Int)))] [([], 2, (.exit 0), (stOf (go (k + 1) 109 1 19 (adv [([], 2, 0, .eq (pB false))]) slicesIndexFunc_L2 (slicesIndexFunc_S2 p0 (p0.length : Int) (v_1, v_2)))))]) (ex := .ret) (r := ((pI (-1 : Int)), [some ⟨1, 5, [[(.v (.int .u8 v_2))]], true, false⟩], [0])) (by kernel_rfl) rfl (by kernel_rfl) (allC (len_ob (rfl : (p0.map FlagD.c) = p0.map FlagD.c)) (allC q5 allN)) (by kernel_rfl)
/-- slices.ContainsFunc[[]flagstone/option.Flag,flagstone/option.Flag]: the answer, and what is left of the variables -/
def slicesContainsFunc (p0 : (List FlagD)) (p1 : Int) : Option (Bool × Int) :=
 (slicesIndexFunc p0 p1).bind fun (r_1, r_2) =>
 some ((decide (r_1 ≥ (0 : Int))), r_2)
def slicesContainsFunc_out : (Bool × Int) → PV × List (Option Blk) × List Nat
 | (r0, r1) => ((pB r0), [some ⟨1, 5, [[(.v (.int .u8 r1))]], true, false⟩], [0])
set_option maxRecDepth 100000 in
theorem slicesContainsFunc_ok (k : Nat) (p0 : (List FlagD)) (p1 : Int) (r : (Bool × Int)) (h : slicesContainsFunc p0 p1 = some r) : runS0 (k + 3) 61 [(.list 2 false (p0.map FlagD.c)), (.clo 62 [(.ptr [0, TAG] 1 0 0)])] [some ⟨1, 5, [[(.v (.int .u8 p1))]], true, false⟩] [0] = some (slicesContainsFunc_out r) := by
  unfold slicesContainsFunc at h
  obtain ⟨X_1, q1, h⟩ := bnd_some h
  rcases X_1 with ⟨r_1, r_2⟩
  · try dsimp only at h
    obtain rfl := Option.some.inj h
    exact retS_go (k := (k + 2)) (n := 1) Tryz.func61 Tryz.ntmps61 rfl (by kernel_rfl) (by kernel_rfl) (lb rfl) (adv [([], 1, 2, .retS (pI r_1) [some ⟨1, 5, [[(.v (.int .u8 r_2))]], true, false⟩] [0])]) (ex := .ret) (r := ((pB (decide (r_1 ≥ (0 : Int)))), [some ⟨1, 5, [[(.v (.int .u8 r_2))]], true, false⟩], [0])) (by kernel_rfl) rfl (by kernel_rfl) (allC (slicesIndexFunc_ok k p0 p1 _ q1) allN) (by kernel_rfl)
/-- flagstone/option.Has -/
def optionHas (l : (List FlagD)) (letter : Int) : Option Bool :=
 (slicesContainsFunc l letter).bind fun (r_1, r_2) =>
 some r_1
set_option maxRecDepth 100000 in
theorem optionHas_ok (k : Nat) (l : (List FlagD)) (letter : Int) (r : Bool) (h : optionHas l letter = some r) : run0 (k + 4) 28 [(.list 2 false (l.map FlagD.c)), (.v (.int .u8 letter))] = some (pB r) := by
  unfold optionHas at h
  obtain ⟨X_1, q1, h⟩ := bnd_some h
  rcases X_1 with ⟨r_1, r_2⟩
  · try dsimp only at h
    obtain rfl := Option.some.inj h
    exact ret_go (k := (k + 3)) Tryz.func28 Tryz.ntmps28 (by kernel_rfl) (by kernel_rfl) (lb rfl) (adv [([], 1, 2, .retS (pB r_1) [some ⟨1, 5, [[(.v (.int .u8 r_2))]], true, false⟩] [0])]) (ex := .ret) (r := (pB r_1)) (by kernel_rfl) rfl (by kernel_rfl) (allC (slicesContainsFunc_ok k l letter _ q1) allN) (by kernel_rfl) allN
end Go.Proofs.YtfjflodicgjihaaGreatDoor.Den
namespace Go.Proofs.YtfjflodicgjihaaGreatDoor.Den
open Go Go.RowKit
/-- flagstone/shift.Start -/
def shiftStart (kind : Int) (p : Int) (argv : (List ByteArray)) (draws : (List Int)) : Option JobD :=
 (jobNew kind p draws).bind fun r_1 =>
 (shiftOf kind).bind fun X_1 => match X_1 with
 | .inl (r_2, r_3) => (
 (optionParse r_3 argv).bind fun (r_8, r_9, r_10) =>
 bif (r_10 == (0 : Int)) then (
 bif ((r_9.length : Int) != (2 : Int)) then (
 (jobFail r_1 r_2 (1 : Int)).bind fun r_11 =>
 some r_11
 ) else (
 bif (r_10 != (0 : Int)) then (
 (jobFail r_1 r_2 r_10).bind fun r_11 =>
 some r_11
 ) else (
 (gt r_9 (0 : Int)).bind fun y_1 =>
 (gt r_9 (1 : Int)).bind fun y_2 =>
 (optionHas r_8 (115 : Int)).bind fun r_11 =>
 bif r_11 then (
 some (JobD.mk r_1.kind r_1.p r_1.phase r_1.fd r_1.nF r_1.modeF r_1.tries r_1.atF (1 : Int) y_1 y_2 r_1.text r_1.names r_1.stack r_1.draws r_1.done r_1.exit r_1.out r_1.e)
 ) else (
 some (JobD.mk r_1.kind r_1.p r_1.phase r_1.fd r_1.nF r_1.modeF r_1.tries r_1.atF r_1.flags y_1 y_2 r_1.text r_1.names r_1.stack r_1.draws r_1.done r_1.exit r_1.out r_1.e)
 )
 )
 )
 ) else (
 bif (r_10 != (0 : Int)) then (
 (jobFail r_1 r_2 r_10).bind fun r_11 =>
 some r_11
 ) else (
 (gt r_9 (0 : Int)).bind fun y_1 =>
 (gt r_9 (1 : Int)).bind fun y_2 =>
 (optionHas r_8 (115 : Int)).bind fun r_11 =>
 bif r_11 then (
 some (JobD.mk r_1.kind r_1.p r_1.phase r_1.fd r_1.nF r_1.modeF r_1.tries r_1.atF (1 : Int) y_1 y_2 r_1.text r_1.names r_1.stack r_1.draws r_1.done r_1.exit r_1.out r_1.e)
 ) else (
 some (JobD.mk r_1.kind r_1.p r_1.phase r_1.fd r_1.nF r_1.modeF r_1.tries r_1.atF r_1.flags y_1 y_2 r_1.text r_1.names r_1.stack r_1.draws r_1.done r_1.exit r_1.out r_1.e)
 )
 )
 )
 )
 | .inr (.inl (r_4, r_5)) => (
 (optionParse r_5 argv).bind fun (r_8, r_9, r_10) =>
 bif (r_10 == (0 : Int)) then (
 bif ((r_9.length : Int) != (2 : Int)) then (
 (jobFail r_1 r_4 (1 : Int)).bind fun r_11 =>
 some r_11
 ) else (
 bif (r_10 != (0 : Int)) then (
 (jobFail r_1 r_4 r_10).bind fun r_11 =>
 some r_11
 ) else (
 (gt r_9 (0 : Int)).bind fun y_1 =>
 (gt r_9 (1 : Int)).bind fun y_2 =>
 (optionHas r_8 (115 : Int)).bind fun r_11 =>
 bif r_11 then (
 some (JobD.mk r_1.kind r_1.p r_1.phase r_1.fd r_1.nF r_1.modeF r_1.tries r_1.atF (1 : Int) y_1 y_2 r_1.text r_1.names r_1.stack r_1.draws r_1.done r_1.exit r_1.out r_1.e)
 ) else (
 some (JobD.mk r_1.kind r_1.p r_1.phase r_1.fd r_1.nF r_1.modeF r_1.tries r_1.atF r_1.flags y_1 y_2 r_1.text r_1.names r_1.stack r_1.draws r_1.done r_1.exit r_1.out r_1.e)
 )
 )
 )
 ) else (
 bif (r_10 != (0 : Int)) then (
 (jobFail r_1 r_4 r_10).bind fun r_11 =>
 some r_11
 ) else (
 (gt r_9 (0 : Int)).bind fun y_1 =>
 (gt r_9 (1 : Int)).bind fun y_2 =>
 (optionHas r_8 (115 : Int)).bind fun r_11 =>
 bif r_11 then (
 some (JobD.mk r_1.kind r_1.p r_1.phase r_1.fd r_1.nF r_1.modeF r_1.tries r_1.atF (1 : Int) y_1 y_2 r_1.text r_1.names r_1.stack r_1.draws r_1.done r_1.exit r_1.out r_1.e)
 ) else (
 some (JobD.mk r_1.kind r_1.p r_1.phase r_1.fd r_1.nF r_1.modeF r_1.tries r_1.atF r_1.flags y_1 y_2 r_1.text r_1.names r_1.stack r_1.draws r_1.done r_1.exit r_1.out r_1.e)
 )
 )
 )
 )
 | .inr (.inr ((r_6, r_7))) => (
 (jobFail r_1 (bs []) (1 : Int)).bind fun r_8 =>
 some r_8
 )
set_option maxRecDepth 100000 in
theorem shiftStart_ok (k : Nat) (kind : Int) (p : Int) (argv : (List ByteArray)) (draws : (List Int)) (r : JobD) (h : shiftStart kind p argv draws = some r) : run0 (k + 6) 7 [(pI kind), (pI p), (.list 1 false (argv.map cS)), (.list 1 false (draws.map cI))] = some (JobD.a r) := by
  unfold shiftStart at h
  obtain ⟨r_1, q1, h⟩ := bnd_some h
  obtain ⟨X_1, q2, h⟩ := bnd_some h
  rcases X_1 with ⟨r_2, r_3⟩ | ⟨r_4, r_5⟩ | ⟨r_6, r_7⟩
  · try dsimp only at h
    obtain ⟨⟨r_8, r_9, r_10⟩, q3, h⟩ := bnd_some h
    try dsimp only at h
    rcases bif_some h with ⟨q4, h⟩ | ⟨q4, h⟩
    · rcases bif_some h with ⟨q5, h⟩ | ⟨q5, h⟩
      · obtain ⟨r_11, q6, h⟩ := bnd_some h
        obtain rfl := Option.some.inj h
        exact ret_go (k := (k + 5)) Tryz.func7 Tryz.ntmps7 (by kernel_rfl) (by kernel_rfl) (lb rfl) (adv [([], 1, 3, .ret (JobD.a r_1)), ([], 2, 1, .ret (.tup [(.agg [(pS r_2), (pS r_3), (.clo 55 [])]), (pB true)])), ([], 5, 3, .ret (.tup [(.list 2 false (r_8.map FlagD.c)), (.list 1 false (r_9.map cS)), (pI r_10)])), ([], 6, 2, .eq (pB true)), ([], 6, 4, .eq (pI (r_9.length : Int))), ([], 6, 7, .eq (pB true)), ([], 9, 4, .ret (JobD.a r_11))]) (ex := .ret) (r := (JobD.a r_11)) (by kernel_rfl) rfl (by kernel_rfl) (allC (jobNew_ok (k + 4) kind p draws _ q1) (allC (shiftOf_ok (k + 4) kind _ q2) (allC (optionParse_ok k r_3 argv _ q3) (allC (cg q4) (allC (len_ob (rfl : (r_9.map cS) = r_9.map cS)) (allC (cg q5) (allC (jobFail_ok (k + 4) r_1 r_2 (1 : Int) _ q6) allN))))))) (by kernel_rfl) allN
      · rcases bif_some h with ⟨q6, h⟩ | ⟨q6, h⟩
        · obtain ⟨r_11, q7, h⟩ := bnd_some h
          obtain rfl := Option.some.inj h
          exact ret_go (k := (k + 5)) Tryz.func7 Tryz.ntmps7 (by kernel_rfl) (by kernel_rfl) (lb rfl) (adv [([], 1, 3, .ret (JobD.a r_1)), ([], 2, 1, .ret (.tup [(.agg [(pS r_2), (pS r_3), (.clo 55 [])]), (pB true)])), ([], 5, 3, .ret (.tup [(.list 2 false (r_8.map FlagD.c)), (.list 1 false (r_9.map cS)), (pI r_10)])), ([], 6, 2, .eq (pB true)), ([], 6, 4, .eq (pI (r_9.length : Int))), ([], 6, 7, .eq (pB false)), ([], 7, 2, .eq (pB true)), ([], 9, 4, .ret (JobD.a r_11))]) (ex := .ret) (r := (JobD.a r_11)) (by kernel_rfl) rfl (by kernel_rfl) (allC (jobNew_ok (k + 4) kind p draws _ q1) (allC (shiftOf_ok (k + 4) kind _ q2) (allC (optionParse_ok k r_3 argv _ q3) (allC (cg q4) (allC (len_ob (rfl : (r_9.map cS) = r_9.map cS)) (allC (cg q5) (allC (cg q6) (allC (jobFail_ok (k + 4) r_1 r_2 r_10 _ q7) allN)))))))) (by kernel_rfl) allN
        · obtain ⟨y_1, q7, h⟩ := bnd_some h
          obtain ⟨y_2, q8, h⟩ := bnd_some h
          obtain ⟨r_11, q9, h⟩ := bnd_some h
          rcases bif_some h with ⟨q10, h⟩ | ⟨q10, h⟩
          · revert h; subst q10; intro h
            obtain rfl := Option.some.inj h
            exact ret_go (k := (k + 5)) Tryz.func7 Tryz.ntmps7 (by kernel_rfl) (by kernel_rfl) (lb rfl) (adv [([], 1, 3, .ret (JobD.a r_1)), ([], 2, 1, .ret (.tup [(.agg [(pS r_2), (pS r_3), (.clo 55 [])]), (pB true)])), ([], 5, 3, .ret (.tup [(.list 2 false (r_8.map FlagD.c)), (.list 1 false (r_9.map cS)), (pI r_10)])), ([], 6, 2, .eq (pB true)), ([], 6, 4, .eq (pI (r_9.length : Int))), ([], 6, 7, .eq (pB false)), ([], 7, 2, .eq (pB false)), ([], 10, 1, .elem [(pS y_1)]), ([], 10, 4, .elem [(pS y_2)]), ([], 11, 1, .ret (pB true))]) (ex := .ret) (r := (.agg [(pI r_1.kind), (pI r_1.p), (pI r_1.phase), (pI r_1.fd), (pI r_1.nF), (pI r_1.modeF), (pI r_1.tries), (pI r_1.atF), (pI (1 : Int)), (pS y_1), (pS y_2), (pS r_1.text), (.list 1 false (r_1.names.map cS)), (.list 3 false (r_1.stack.map FrameD.c)), (.list 1 false (r_1.draws.map cI)), (pB r_1.done), (pI r_1.exit), (pS r_1.out), (pI r_1.e)])) (by kernel_rfl) rfl (by kernel_rfl) (allC (jobNew_ok (k + 4) kind p draws _ q1) (allC (shiftOf_ok (k + 4) kind _ q2) (allC (optionParse_ok k r_3 argv _ q3) (allC (cg q4) (allC (len_ob (rfl : (r_9.map cS) = r_9.map cS)) (allC (cg q5) (allC (cg q6) (allC (gt_list (c := cS) q7) (allC (gt_list (c := cS) q8) (allC (gt_list (c := cS) q8) (allC (optionHas_ok (k + 1) r_8 (115 : Int) _ q9) allN))))))))))) (by kernel_rfl) allN
          · revert h; subst q10; intro h
            obtain rfl := Option.some.inj h
            exact ret_go (k := (k + 5)) Tryz.func7 Tryz.ntmps7 (by kernel_rfl) (by kernel_rfl) (lb rfl) (adv [([], 1, 3, .ret (JobD.a r_1)), ([], 2, 1, .ret (.tup [(.agg [(pS r_2), (pS r_3), (.clo 55 [])]), (pB true)])), ([], 5, 3, .ret (.tup [(.list 2 false (r_8.map FlagD.c)), (.list 1 false (r_9.map cS)), (pI r_10)])), ([], 6, 2, .eq (pB true)), ([], 6, 4, .eq (pI (r_9.length : Int))), ([], 6, 7, .eq (pB false)), ([], 7, 2, .eq (pB false)), ([], 10, 1, .elem [(pS y_1)]), ([], 10, 4, .elem [(pS y_2)]), ([], 11, 1, .ret (pB false))]) (ex := .ret) (r := (.agg [(pI r_1.kind), (pI r_1.p), (pI r_1.phase), (pI r_1.fd), (pI r_1.nF), (pI r_1.modeF), (pI r_1.tries), (pI r_1.atF), (pI r_1.flags), (pS y_1), (pS y_2), (pS r_1.text), (.list 1 false (r_1.names.map cS)), (.list 3 false (r_1.stack.map FrameD.c)), (.list 1 false (r_1.draws.map cI)), (pB r_1.done), (pI r_1.exit), (pS r_1.out), (pI r_1.e)])) (by kernel_rfl) rfl (by kernel_rfl) (allC (jobNew_ok (k + 4) kind p draws _ q1) (allC (shiftOf_ok (k + 4) kind _ q2) (allC (optionParse_ok k r_3 argv _ q3) (allC (cg q4) (allC (len_ob (rfl : (r_9.map cS) = r_9.map cS)) (allC (cg q5) (allC (cg q6) (allC (gt_list (c := cS) q7) (allC (gt_list (c := cS) q8) (allC (gt_list (c := cS) q8) (allC (optionHas_ok (k + 1) r_8 (115 : Int) _ q9) allN))))))))))) (by kernel_rfl) allN
    · rcases bif_some h with ⟨q5, h⟩ | ⟨q5, h⟩
      · obtain ⟨r_11, q6, h⟩ := bnd_some h
        obtain rfl := Option.some.inj h
        exact ret_go (k := (k + 5)) Tryz.func7 Tryz.ntmps7 (by kernel_rfl) (by kernel_rfl) (lb rfl) (adv [([], 1, 3, .ret (JobD.a r_1)), ([], 2, 1, .ret (.tup [(.agg [(pS r_2), (pS r_3), (.clo 55 [])]), (pB true)])), ([], 5, 3, .ret (.tup [(.list 2 false (r_8.map FlagD.c)), (.list 1 false (r_9.map cS)), (pI r_10)])), ([], 6, 2, .eq (pB false)), ([], 7, 2, .eq (pB true)), ([], 9, 4, .ret (JobD.a r_11))]) (ex := .ret) (r := (JobD.a r_11)) (by kernel_rfl) rfl (by kernel_rfl) (allC (jobNew_ok (k + 4) kind p draws _ q1) (allC (shiftOf_ok (k + 4) kind _ q2) (allC (optionParse_ok k r_3 argv _ q3) (allC (cg q4) (allC (cg q5) (allC (jobFail_ok (k + 4) r_1 r_2 r_10 _ q6) allN)))))) (by kernel_rfl) allN
      · obtain ⟨y_1, q6, h⟩ := bnd_some h
        obtain ⟨y_2, q7, h⟩ := bnd_some h
        obtain ⟨r_11, q8, h⟩ := bnd_some h
        rcases bif_some h with ⟨q9, h⟩ | ⟨q9, h⟩
        · revert h; subst q9; intro h
          obtain rfl := Option.some.inj h
          exact ret_go (k := (k + 5)) Tryz.func7 Tryz.ntmps7 (by kernel_rfl) (by kernel_rfl) (lb rfl) (adv [([], 1, 3, .ret (JobD.a r_1)), ([], 2, 1, .ret (.tup [(.agg [(pS r_2), (pS r_3), (.clo 55 [])]), (pB true)])), ([], 5, 3, .ret (.tup [(.list 2 false (r_8.map FlagD.c)), (.list 1 false (r_9.map cS)), (pI r_10)])), ([], 6, 2, .eq (pB false)), ([], 7, 2, .eq (pB false)), ([], 10, 1, .elem [(pS y_1)]), ([], 10, 4, .elem [(pS y_2)]), ([], 11, 1, .ret (pB true))]) (ex := .ret) (r := (.agg [(pI r_1.kind), (pI r_1.p), (pI r_1.phase), (pI r_1.fd), (pI r_1.nF), (pI r_1.modeF), (pI r_1.tries), (pI r_1.atF), (pI (1 : Int)), (pS y_1), (pS y_2), (pS r_1.text), (.list 1 false (r_1.names.map cS)), (.list 3 false (r_1.stack.map FrameD.c)), (.list 1 false (r_1.draws.map cI)), (pB r_1.done), (pI r_1.exit), (pS r_1.out), (pI r_1.e)])) (by kernel_rfl) rfl (by kernel_rfl) (allC (jobNew_ok (k + 4) kind p draws _ q1) (allC (shiftOf_ok (k + 4) kind _ q2) (allC (optionParse_ok k r_3 argv _ q3) (allC (cg q4) (allC (cg q5) (allC (gt_list (c := cS) q6) (allC (gt_list (c := cS) q7) (allC (gt_list (c := cS) q7) (allC (optionHas_ok (k + 1) r_8 (115 : Int) _ q8) allN))))))))) (by kernel_rfl) allN
        · revert h; subst q9; intro h
          obtain rfl := Option.some.inj h
          exact ret_go (k := (k + 5)) Tryz.func7 Tryz.ntmps7 (by kernel_rfl) (by kernel_rfl) (lb rfl) (adv [([], 1, 3, .ret (JobD.a r_1)), ([], 2, 1, .ret (.tup [(.agg [(pS r_2), (pS r_3), (.clo 55 [])]), (pB true)])), ([], 5, 3, .ret (.tup [(.list 2 false (r_8.map FlagD.c)), (.list 1 false (r_9.map cS)), (pI r_10)])), ([], 6, 2, .eq (pB false)), ([], 7, 2, .eq (pB false)), ([], 10, 1, .elem [(pS y_1)]), ([], 10, 4, .elem [(pS y_2)]), ([], 11, 1, .ret (pB false))]) (ex := .ret) (r := (.agg [(pI r_1.kind), (pI r_1.p), (pI r_1.phase), (pI r_1.fd), (pI r_1.nF), (pI r_1.modeF), (pI r_1.tries), (pI r_1.atF), (pI r_1.flags), (pS y_1), (pS y_2), (pS r_1.text), (.list 1 false (r_1.names.map cS)), (.list 3 false (r_1.stack.map FrameD.c)), (.list 1 false (r_1.draws.map cI)), (pB r_1.done), (pI r_1.exit), (pS r_1.out), (pI r_1.e)])) (by kernel_rfl) rfl (by kernel_rfl) (allC (jobNew_ok (k + 4) kind p draws _ q1) (allC (shiftOf_ok (k + 4) kind _ q2) (allC (optionParse_ok k r_3 argv _ q3) (allC (cg q4) (allC (cg q5) (allC (gt_list (c := cS) q6) (allC (gt_list (c := cS) q7) (allC (gt_list (c := cS) q7) (allC (optionHas_ok (k + 1) r_8 (115 : Int) _ q8) allN))))))))) (by kernel_rfl) allN
  · try dsimp only at h
    obtain ⟨⟨r_8, r_9, r_10⟩, q3, h⟩ := bnd_some h
    try dsimp only at h
    rcases bif_some h with ⟨q4, h⟩ | ⟨q4, h⟩
    · rcases bif_some h with ⟨q5, h⟩ | ⟨q5, h⟩
      · obtain ⟨r_11, q6, h⟩ := bnd_some h
        obtain rfl := Option.some.inj h
        exact ret_go (k := (k + 5)) Tryz.func7 Tryz.ntmps7 (by kernel_rfl) (by kernel_rfl) (lb rfl) (adv [([], 1, 3, .ret (JobD.a r_1)), ([], 2, 1, .ret (.tup [(.agg [(pS r_4), (pS r_5), (.clo 56 [])]), (pB true)])), ([], 5, 3, .ret (.tup [(.list 2 false (r_8.map FlagD.c)), (.list 1 false (r_9.map cS)), (pI r_10)])), ([], 6, 2, .eq (pB true)), ([], 6, 4, .eq (pI (r_9.length : Int))), ([], 6, 7, .eq (pB true)), ([], 9, 4, .ret (JobD.a r_11))]) (ex := .ret) (r := (JobD.a r_11)) (by kernel_rfl) rfl (by kernel_rfl) (allC (jobNew_ok (k + 4) kind p draws _ q1) (allC (shiftOf_ok (k + 4) kind _ q2) (allC (optionParse_ok k r_5 argv _ q3) (allC (cg q4) (allC (len_ob (rfl : (r_9.map cS) = r_9.map cS)) (allC (cg q5) (allC (jobFail_ok (k + 4) r_1 r_4 (1 : Int) _ q6) allN))))))) (by kernel_rfl) allN
      · rcases bif_some h with ⟨q6, h⟩ | ⟨q6, h⟩
        · obtain ⟨r_11, q7, h⟩ := bnd_some h
          obtain rfl := Option.some.inj h
          exact ret_go (k := (k + 5)) Tryz.func7 Tryz.ntmps7 (by kernel_rfl) (by kernel_rfl) (lb rfl) (adv [([], 1, 3, .ret (JobD.a r_1)), ([], 2, 1, .ret (.tup [(.agg [(pS r_4), (pS r_5), (.clo 56 [])]), (pB true)])), ([], 5, 3, .ret (.tup [(.list 2 false (r_8.map FlagD.c)), (.list 1 false (r_9.map cS)), (pI r_10)])), ([], 6, 2, .eq (pB true)), ([], 6, 4, .eq (pI (r_9.length : Int))), ([], 6, 7, .eq (pB false)), ([], 7, 2, .eq (pB true)), ([], 9, 4, .ret (JobD.a r_11))]) (ex := .ret) (r := (JobD.a r_11)) (by kernel_rfl) rfl (by kernel_rfl) (allC (jobNew_ok (k + 4) kind p draws _ q1) (allC (shiftOf_ok (k + 4) kind _ q2) (allC (optionParse_ok k r_5 argv _ q3) (allC (cg q4) (allC (len_ob (rfl : (r_9.map cS) = r_9.map cS)) (allC (cg q5) (allC (cg q6) (allC (jobFail_ok (k + 4) r_1 r_4 r_10 _ q7) allN)))))))) (by kernel_rfl) allN
        · obtain ⟨y_1, q7, h⟩ := bnd_some h
          obtain ⟨y_2, q8, h⟩ := bnd_some h
          obtain ⟨r_11, q9, h⟩ := bnd_some h
          rcases bif_some h with ⟨q10, h⟩ | ⟨q10, h⟩
          · revert h; subst q10; intro h
            obtain rfl := Option.some.inj h
            exact ret_go (k := (k + 5)) Tryz.func7 Tryz.ntmps7 (by kernel_rfl) (by kernel_rfl) (lb rfl) (adv [([], 1, 3, .ret (JobD.a r_1)), ([], 2, 1, .ret (.tup [(.agg [(pS r_4), (pS r_5), (.clo 56 [])]), (pB true)])), ([], 5, 3, .ret (.tup [(.list 2 false (r_8.map FlagD.c)), (.list 1 false (r_9.map cS)), (pI r_10)])), ([], 6, 2, .eq (pB true)), ([], 6, 4, .eq (pI (r_9.length : Int))), ([], 6, 7, .eq (pB false)), ([], 7, 2, .eq (pB false)), ([], 10, 1, .elem [(pS y_1)]), ([], 10, 4, .elem [(pS y_2)]), ([], 11, 1, .ret (pB true))]) (ex := .ret) (r := (.agg [(pI r_1.kind), (pI r_1.p), (pI r_1.phase), (pI r_1.fd), (pI r_1.nF), (pI r_1.modeF), (pI r_1.tries), (pI r_1.atF), (pI (1 : Int)), (pS y_1), (pS y_2), (pS r_1.text), (.list 1 false (r_1.names.map cS)), (.list 3 false (r_1.stack.map FrameD.c)), (.list 1 false (r_1.draws.map cI)), (pB r_1.done), (pI r_1.exit), (pS r_1.out), (pI r_1.e)])) (by kernel_rfl) rfl (by kernel_rfl) (allC (jobNew_ok (k + 4) kind p draws _ q1) (allC (shiftOf_ok (k + 4) kind _ q2) (allC (optionParse_ok k r_5 argv _ q3) (allC (cg q4) (allC (len_ob (rfl : (r_9.map cS) = r_9.map cS)) (allC (cg q5) (allC (cg q6) (allC (gt_list (c := cS) q7) (allC (gt_list (c := cS) q8) (allC (gt_list (c := cS) q8) (allC (optionHas_ok (k + 1) r_8 (115 : Int) _ q9) allN))))))))))) (by kernel_rfl) allN
          · revert h; subst q10; intro h
            obtain rfl := Option.some.inj h
            exact ret_go (k := (k + 5)) Tryz.func7 Tryz.ntmps7 (by kernel_rfl) (by kernel_rfl) (lb rfl) (adv [([], 1, 3, .ret (JobD.a r_1)), ([], 2, 1, .ret (.tup [(.agg [(pS r_4), (pS r_5), (.clo 56 [])]), (pB true)])), ([], 5, 3, .ret (.tup [(.list 2 false (r_8.map FlagD.c)), (.list 1 false (r_9.map cS)), (pI r_10)])), ([], 6, 2, .eq (pB true)), ([], 6, 4, .eq (pI (r_9.length : Int))), ([], 6, 7, .eq (pB false)), ([], 7, 2, .eq (pB false)), ([], 10, 1, .elem [(pS y_1)]), ([], 10, 4, .elem [(pS y_2)]), ([], 11, 1, .ret (pB false))]) (ex := .ret) (r := (.agg [(pI r_1.kind), (pI r_1.p), (pI r_1.phase), (pI r_1.fd), (pI r_1.nF), (pI r_1.modeF), (pI r_1.tries), (pI r_1.atF), (pI r_1.flags), (pS y_1), (pS y_2), (pS r_1.text), (.list 1 false (r_1.names.map cS)), (.list 3 false (r_1.stack.map FrameD.c)), (.list 1 false (r_1.draws.map cI)), (pB r_1.done), (pI r_1.exit), (pS r_1.out), (pI r_1.e)])) (by kernel_rfl) rfl (by kernel_rfl) (allC (jobNew_ok (k + 4) kind p draws _ q1) (allC (shiftOf_ok (k + 4) kind _ q2) (allC (optionParse_ok k r_5 argv _ q3) (allC (cg q4) (allC (len_ob (rfl : (r_9.map cS) = r_9.map cS)) (allC (cg q5) (allC (cg q6) (allC (gt_list (c := cS) q7) (allC (gt_list (c := cS) q8) (allC (gt_list (c := cS) q8) (allC (optionHas_ok (k + 1) r_8 (115 : Int) _ q9) allN))))))))))) (by kernel_rfl) allN
    · rcases bif_some h with ⟨q5, h⟩ | ⟨q5, h⟩
      · obtain ⟨r_11, q6, h⟩ := bnd_some h
        obtain rfl := Option.some.inj h
        exact ret_go (k := (k + 5)) Tryz.func7 Tryz.ntmps7 (by kernel_rfl) (by kernel_rfl) (lb rfl) (adv [([], 1, 3, .ret (JobD.a r_1)), ([], 2, 1, .ret (.tup [(.agg [(pS r_4), (pS r_5), (.clo 56 [])]), (pB true)])), ([], 5, 3, .ret (.tup [(.list 2 false (r_8.map FlagD.c)), (.list 1 false (r_9.map cS)), (pI r_10)])), ([], 6, 2, .eq (pB false)), ([], 7, 2, .eq (pB true)), ([], 9, 4, .ret (JobD.a r_11))]) (ex := .ret) (r := (JobD.a r_11)) (by kernel_rfl) rfl (by kernel_rfl) (allC (jobNew_ok (k + 4) kind p draws _ q1) (allC (shiftOf_ok (k + 4) kind _ q2) (allC (optionParse_ok k r_5 argv _ q3) (allC (cg q4) (allC (cg q5) (allC (jobFail_ok (k + 4) r_1 r_4 r_10 _ q6) allN)))))) (by kernel_rfl) allN
      · obtain ⟨y_1, q6, h⟩ := bnd_some h
        obtain ⟨y_2, q7, h⟩ := bnd_some h
        obtain ⟨r_11, q8, h⟩ := bnd_some h
        rcases bif_some h with ⟨q9, h⟩ | ⟨q9, h⟩
        · revert h; subst q9; intro h
          obtain rfl := Option.some.inj h
          exact ret_go (k := (k + 5)) Tryz.func7 Tryz.ntmps7 (by kernel_rfl) (by kernel_rfl) (lb rfl) (adv [([], 1, 3, .ret (JobD.a r_1)), ([], 2, 1, .ret (.tup [(.agg [(pS r_4), (pS r_5), (.clo 56 [])]), (pB true)])), ([], 5, 3, .ret (.tup [(.list 2 false (r_8.map FlagD.c)), (.list 1 false (r_9.map cS)), (pI r_10)])), ([], 6, 2, .eq (pB false)), ([], 7, 2, .eq (pB false)), ([], 10, 1, .elem [(pS y_1)]), ([], 10, 4, .elem [(pS y_2)]), ([], 11, 1, .ret (pB true))]) (ex := .ret) (r := (.agg [(pI r_1.kind), (pI r_1.p), (pI r_1.phase), (pI r_1.fd), (pI r_1.nF), (pI r_1.modeF), (pI r_1.tries), (pI r_1.atF), (pI (1 : Int)), (pS y_1), (pS y_2), (pS r_1.text), (.list 1 false (r_1.names.map cS)), (.list 3 false (r_1.stack.map FrameD.c)), (.list 1 false (r_1.draws.map cI)), (pB r_1.done), (pI r_1.exit), (pS r_1.out), (pI r_1.e)])) (by kernel_rfl) rfl (by kernel_rfl) (allC (jobNew_ok (k + 4) kind p draws _ q1) (allC (shiftOf_ok (k + 4) kind _ q2) (allC (optionParse_ok k r_5 argv _ q3) (allC (cg q4) (allC (cg q5) (allC (gt_list (c := cS) q6) (allC (gt_list (c := cS) q7) (allC (gt_list (c := cS) q7) (allC (optionHas_ok (k + 1) r_8 (115 : Int) _ q8) allN))))))))) (by kernel_rfl) allN
        · revert h; subst q9; intro h
          obtain rfl := Option.some.inj h
          exact ret_go (k := (k + 5)) Tryz.func7 Tryz.ntmps7 (by kernel_rfl) (by kernel_rfl) (lb rfl) (adv [([], 1, 3, .ret (JobD.a r_1)), ([], 2, 1, .ret (.tup [(.agg [(pS r_4), (pS r_5), (.clo 56 [])]), (pB true)])), ([], 5, 3, .ret (.tup [(.list 2 false (r_8.map FlagD.c)), (.list 1 false (r_9.map cS)), (pI r_10)])), ([], 6, 2, .eq (pB false)), ([], 7, 2, .eq (pB false)), ([], 10, 1, .elem [(pS y_1)]), ([], 10, 4, .elem [(pS y_2)]), ([], 11, 1, .ret (pB false))]) (ex := .ret) (r := (.agg [(pI r_1.kind), (pI r_1.p), (pI r_1.phase), (pI r_1.fd), (pI r_1.nF), (pI r_1.modeF), (pI r_1.tries), (pI r_1.atF), (pI r_1.flags), (pS y_1), (pS y_2), (pS r_1.text), (.list 1 false (r_1.names.map cS)), (.list 3 false (r_1.stack.map FrameD.c)), (.list 1 false (r_1.draws.map cI)), (pB r_1.done), (pI r_1.exit), (pS r_1.out), (pI r_1.e)])) (by kernel_rfl) rfl (by kernel_rfl) (allC (jobNew_ok (k + 4) kind p draws _ q1) (allC (shiftOf_ok (k + 4) kind _ q2) (allC (optionParse_ok k r_5 argv _ q3) (allC (cg q4) (allC (cg q5) (allC (gt_list (c := cS) q6) (allC (gt_list (c := cS) q7) (allC (gt_list (c := cS) q7) (allC (optionHas_ok (k + 1) r_8 (115 : Int) _ q8) allN))))))))) (by kernel_rfl) allN
  · try dsimp only at h
    obtain ⟨r_8, q3, h⟩ := bnd_some h
    obtain rfl := Option.some.inj h
    exact ret_go (k := (k + 5)) Tryz.func7 Tryz.ntmps7 (by kernel_rfl) (by kernel_rfl) (lb rfl) (adv [([], 1, 3, .ret (JobD.a r_1)), ([], 2, 1, .ret (.tup [(.agg [(pS r_6), (pS r_7), (.v .nilFunc)]), (pB false)])), ([], 4, 1, .ret (JobD.a r_8))]) (ex := .ret) (r := (JobD.a r_8)) (by kernel_rfl) rfl (by kernel_rfl) (allC (jobNew_ok (k + 4) kind p draws _ q1) (allC (shiftOf_ok (k + 4) kind _ q2) (allC (jobFail_ok (k + 4) r_1 (bs []) (1 : Int) _ q3) allN))) (by kernel_rfl) allN
/-- flagstone/flagstoneref15.New -/
def ref15New (kind : Int) (p : Int) (draws : (List Int)) : Option JobD :=
 some (JobD.mk kind p (0 : Int) (-1 : Int) (0 : Int) (0 : Int) (0 : Int) (0 : Int) (0 : Int) (bs []) (bs []) (bs []) [] [] draws false (0 : Int) (bs []) (0 : Int))
set_option maxRecDepth 100000 in
theorem ref15New_ok (k : Nat) (kind : Int) (p : Int) (draws : (List Int)) (r : JobD) (h : ref15New kind p draws = some r) : run0 (k + 1) 32 [(pI kind), (pI p), (.list 1 false (draws.map cI))] = some (JobD.a r) := by
  unfold ref15New at h
  obtain rfl := Option.some.inj h
  exact ret_go (k := k) Tryz.func32 Tryz.ntmps32 (by kernel_rfl) (by kernel_rfl) (lb rfl) (adv []) (ex := .ret) (r := (.agg [(pI kind), (pI p), (pI (0 : Int)), (pI (-1 : Int)), (pI (0 : Int)), (pI (0 : Int)), (pI (0 : Int)), (pI (0 : Int)), (pI (0 : Int)), (pS (bs [])), (pS (bs [])), (pS (bs [])), (.list 1 false []), (.list 3 false []), (.list 1 false (draws.map cI)), (pB false), (pI (0 : Int)), (pS (bs [])), (pI (0 : Int))])) (by kernel_rfl) rfl (by kernel_rfl) allN (by kernel_rfl) allN
/- flagstone/flagstoneref15.natural: its loop at region 2 -/
noncomputable def ref15Natural_L2 : Code := cAt (codeOf Tryz.f110) [true, true, false, false]
def ref15Natural_R2 (x0 : Int) (x1 : ByteArray) : St := ⟨envL [(0, (.v (.int .u64 x0))), (3, (pS x1))], hsL [] []⟩
theorem ref15Natural_R2_eq {x0 y0 : Int} {x1 y1 : ByteArray} (h0 : x0 = y0) (h1 : x1 = y1) : ref15Natural_R2 x0 x1 = ref15Natural_R2 y0 y1 := by
  subst h0 h1; rfl
def ref15Natural_S2 : (Int × ByteArray) → St
 | (v0, v1) => ref15Natural_R2 v0 v1
def ref15Natural_b2 : (Int × ByteArray) → Option ((Int × ByteArray) ⊕ (Int × ByteArray))
 | (v0, v1) =>
 grd (0 ≤ (Int.tmod v0 (10 : Int)) ∧ (Int.tmod v0 (10 : Int)) ≤ (IntKind.wrap .u64 ((Int.tmod v0 (10 : Int)) + (1 : Int))) ∧ (IntKind.wrap .u64 ((Int.tmod v0 (10 : Int)) + (1 : Int))) ≤ ((bs [48, 49, 50, 51, 52, 53, 54, 55, 56, 57]).size : Int)) <|
 grd (¬ (((((bs [48, 49, 50, 51, 52, 53, 54, 55, 56, 57]).extract ((Int.tmod v0 (10 : Int))).toNat ((IntKind.wrap .u64 ((Int.tmod v0 (10 : Int)) + (1 : Int)))).toNat).size + v1.size : Nat) : Int) > IntKind.i64.max)) <|
 bif ((IntKind.wrap .u64 (Int.tdiv v0 (10 : Int))) == (0 : Int)) then (
 some (.inr (v0, v1))
 ) else (
 some (.inl ((IntKind.wrap .u64 (Int.tdiv v0 (10 : Int))), (((bs [48, 49, 50, 51, 52, 53, 54, 55, 56, 57]).extract ((Int.tmod v0 (10 : Int))).toNat ((IntKind.wrap .u64 ((Int.tmod v0 (10 : Int)) + (1 : Int)))).toNat) ++ v1)))
 )
set_option maxRecDepth 100000 in
theorem ref15Natural_t2 (k : Nat) (a a1 : (Int × ByteArray)) (h : ref15Natural_b2 a = some (.inl a1)) : ∃ σ, run1 k 110 0 17 ref15Natural_L2 (ref15Natural_S2 a) = some (.normal, σ) ∧ canonS 0 [0, 3] σ = some (ref15Natural_S2 a1) := by
  obtain ⟨v0, v1⟩ := a
  unfold ref15Natural_b2 at h
  try dsimp only at h
  obtain ⟨q1, h⟩ := grd_some h
  obtain ⟨q2, h⟩ := grd_some h
  rcases bif_some h with ⟨q3, h⟩ | ⟨q3, h⟩
  · cases h
  · obtain rfl := Sum.inl.inj (Option.some.inj h)
    exact ⟨_, run_go (k := k) (f := 110) (r0 := 0) (nt := 17) (c := ref15Natural_L2) (σ := (ref15Natural_S2 (v0, v1))) (adv [([], 2, 5, .sub false), ([], 2, 7, .cat), ([], 4, 1, .eq (pB false))]) (ex := .normal) (by kernel_rfl) (by kernel_rfl) (allC q1 (allC q2 (allC (cg q3) allN))), (by kernel_rfl)⟩
/-- flagstone/flagstoneref15.natural -/
def ref15Natural (n : Int) : Option ByteArray :=
 (iterN (ref15Natural_b2) LF (n, (bs []))).bind fun (v_1, v_2) =>
 some (((bs [48, 49, 50, 51, 52, 53, 54, 55, 56, 57]).extract ((Int.tmod v_1 (10 : Int))).toNat ((IntKind.wrap .u64 ((Int.tmod v_1 (10 : Int)) + (1 : Int)))).toNat) ++ v_2)
set_option maxRecDepth 100000 in
theorem ref15Natural_ok (k : Nat) (n : Int) (r : ByteArray) (h : ref15Natural n = some r) : run0 (k + 1) 110 [(.v (.int .u64 n))] = some (pS r) := by
  unfold ref15Natural at h
  obtain ⟨X_1, q1, h⟩ := bnd_some h
  obtain ⟨a_1, q2, q3⟩ := loop_iter (f := run1 k 110 0 17 ref15Natural_L2) (ref15Natural_S2) (ref15Natural_b2) (ref15Natural_t2 k) LF (n, (bs [])) _ (stOf (goStop k 110 0 17 (adv []) 2 (codeOf Tryz.f110) (argS 110 [(.v (.int .u64 n))]))) q1 (by kernel_rfl)
  obtain ⟨v_1, v_2⟩ := a_1
  unfold ref15Natural_b2 at q2
  try dsimp only at q2
  obtain ⟨q6, q2⟩ := grd_some q2
  obtain ⟨q7, q2⟩ := grd_some q2
  rcases bif_some q2 with ⟨q8, q2⟩ | ⟨q8, q2⟩
  · cases q2
    try dsimp only at h
    have q4 := run_go (k := k) (f := 110) (r0 := 0) (nt := 17) (c := ref15Natural_L2) (σ := (ref15Natural_S2 (v_1, v_2))) (adv [([], 2, 5, .sub false), ([], 2, 7, .cat), ([], 4, 1, .eq (pB true))]) (ex := .ret) (by kernel_rfl) (by kernel_rfl) (allC q6 (allC q7 (allC (cg q8) allN)))
    have q5 := q3 _ _ (by intro e; cases e) q4
    obtain rfl := Option.some.inj h
    exact ret_go (k := k) Tryz.func110 Tryz.ntmps110 (by kernel_rfl) (by kernel_rfl) (lb rfl) (adv [] [([], 2, .ret, (stOf (go k 110 0 17 (adv [([], 2, 5, .sub false), ([], 2, 7, .cat), ([], 4, 1, .eq (pB true))]) ref15Natural_L2 (ref15Natural_S2 (v_1, v_2)))))]) (ex := .ret) (r := (pS (((bs [48, 49, 50, 51, 52, 53, 54, 55, 56, 57]).extract ((Int.tmod v_1 (10 : Int))).toNat ((IntKind.wrap .u64 ((Int.tmod v_1 (10 : Int)) + (1 : Int)))).toNat) ++ v_2))) (by kernel_rfl) rfl (by kernel_rfl) (allC q5 allN) (by kernel_rfl) allN
  · cases q2
end Go.Proofs.YtfjflodicgjihaaGreatDoor.Den
