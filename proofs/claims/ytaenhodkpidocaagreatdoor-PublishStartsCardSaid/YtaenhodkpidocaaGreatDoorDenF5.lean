/- Texts joined by a program of mine (pack.py): DenF3 DenF4 DenF5. -/
import Derived.Test.YtaenhodkpidocaaGreatDoorDenF2
set_option linter.unusedVariables false
set_option linter.unusedSimpArgs false
namespace Go.Proofs.YtaenhodkpidocaaGreatDoor.Den
open Go Go.RowKit
noncomputable def optionTakerAll_L1 : Code := cAt (codeOf Tryz.f59) [true, false, false, false]
def optionTakerAll_R1_0 (x0 : ByteArray) (x1 : List (List PV)) : St := ⟨envL [(0, (.ptr [0, TAG] 1 0 0))], hsL [some ⟨3, 134, [[(pS x0), (.list 1 false x1), (.v (.slice none 0 0))]], true, false⟩] [0]⟩
def optionTakerAll_R1_1 (x0 : ByteArray) (x1 : List (List PV)) (x2 : Nat) (x3 : List (List PV)) : St := ⟨envL [(0, (.ptr [0, TAG] 1 0 0))], hsL [some ⟨3, 134, [[(pS x0), (.list 1 false x1), (.row [1, TAG] 1 0 x2)]], false, false⟩, some ⟨2, 274, x3, true, true⟩] [0, 0]⟩
def optionTakerAll_S1 : ((ByteArray × (List ByteArray)) ⊕ (ByteArray × (List ByteArray) × (List FlagD))) → St
 | .inl (v0, v1) => optionTakerAll_R1_0 v0 (v1.map cS)
 | .inr ((v0, v1, v2)) => optionTakerAll_R1_1 v0 (v1.map cS) v2.length (v2.map FlagD.c)
def optionTakerAll_b1 : ((ByteArray × (List ByteArray)) ⊕ (ByteArray × (List ByteArray) × (List FlagD))) → Option (((ByteArray × (List ByteArray)) ⊕ (ByteArray × (List ByteArray) × (List FlagD))) ⊕ ((ByteArray × (List ByteArray) × ByteArray × ByteArray × Bool) ⊕ (ByteArray × (List ByteArray) × ByteArray × ByteArray × Bool) ⊕ (ByteArray × (List ByteArray) × ByteArray × ByteArray × Bool × ByteArray × ByteArray × (List ByteArray)) ⊕ (ByteArray × (List ByteArray) × ByteArray × ByteArray × Bool × ByteArray × ByteArray × (List ByteArray) × ByteArray × (List ByteArray)) ⊕ (ByteArray × (List ByteArray) × ByteArray × ByteArray × Bool × ByteArray × ByteArray × (List ByteArray) × ByteArray × (List ByteArray)) ⊕ (ByteArray × (List ByteArray) × ByteArray × ByteArray × Bool × ByteArray × ByteArray × (List ByteArray) × ByteArray × (List ByteArray) × (List FlagD)) ⊕ (ByteArray × (List ByteArray) × ByteArray × ByteArray × Bool × ByteArray × ByteArray × (List ByteArray) × ByteArray × (List ByteArray) × (List FlagD)) ⊕ (ByteArray × (List ByteArray)) ⊕ (ByteArray × (List ByteArray) × (List FlagD) × ByteArray × ByteArray × Bool) ⊕ (ByteArray × (List ByteArray) × (List FlagD) × ByteArray × ByteArray × Bool) ⊕ (ByteArray × (List ByteArray) × (List FlagD) × ByteArray × ByteArray × Bool × ByteArray × ByteArray × (List ByteArray) × (List FlagD)) ⊕ (ByteArray × (List ByteArray) × (List FlagD) × ByteArray × ByteArray × Bool × ByteArray × ByteArray × (List ByteArray) × (List FlagD) × ByteArray × (List ByteArray) × (List FlagD)) ⊕ (ByteArray × (List ByteArray) × (List FlagD) × ByteArray × ByteArray × Bool × ByteArray × ByteArray × (List ByteArray) × (List FlagD) × ByteArray × (List ByteArray) × (List FlagD)) ⊕ (ByteArray × (List ByteArray) × (List FlagD) × ByteArray × ByteArray × Bool × ByteArray × ByteArray × (List ByteArray) × (List FlagD) × ByteArray × (List ByteArray) × (List FlagD)) ⊕ (ByteArray × (List ByteArray) × (List FlagD) × ByteArray × ByteArray × Bool × ByteArray × ByteArray × (List ByteArray) × (List FlagD) × ByteArray × (List ByteArray) × (List FlagD)) ⊕ (ByteArray × (List ByteArray) × (List FlagD))))
 | .inl (v0, v1) =>
 bif (decide ((v1.length : Int) > (0 : Int))) then (
 (gt v1 (0 : Int)).bind fun y_1 =>
 (stringsCutPrefix y_1 (bs [45])).bind fun (r_1, r_2) =>
 bif (!r_2) then (
 some (.inr (.inl (v0, v1, y_1, r_1, r_2)))
 ) else (
 bif (seq r_1 (bs [])) then (
 some (.inr (.inr (.inl (v0, v1, y_1, r_1, r_2))))
 ) else (
 (optionTakerNext v0 v1).bind fun (r_3, r_4, r_5) =>
 bif (seq r_1 (bs [45])) then (
 some (.inr (.inr (.inr (.inl (v0, v1, y_1, r_1, r_2, r_3, r_4, r_5)))))
 ) else (
 (optionTakerGroup r_1 r_4 r_5).bind fun X_2 => match X_2 with
 | .inl (r_6, r_7) => (
 some (.inr (.inr (.inr (.inr (.inl (v0, v1, y_1, r_1, r_2, r_3, r_4, r_5, r_6, r_7))))))
 )
 | .inr (.inl (r_8, r_9)) => (
 some (.inr (.inr (.inr (.inr (.inr (.inl (v0, v1, y_1, r_1, r_2, r_3, r_4, r_5, r_8, r_9)))))))
 )
 | .inr (.inr (.inl (r_10, r_11))) => (
 some (.inl (.inl (r_10, r_11)))
 )
 | .inr (.inr (.inr (.inl (r_12, r_13, r_14)))) => (
 some (.inr (.inr (.inr (.inr (.inr (.inr (.inl (v0, v1, y_1, r_1, r_2, r_3, r_4, r_5, r_12, r_13, r_14))))))))
 )
 | .inr (.inr (.inr (.inr (.inl (r_15, r_16, r_17))))) => (
 some (.inr (.inr (.inr (.inr (.inr (.inr (.inr (.inl (v0, v1, y_1, r_1, r_2, r_3, r_4, r_5, r_15, r_16, r_17)))))))))
 )
 | .inr (.inr (.inr (.inr (.inr ((r_18, r_19, r_20)))))) => (
 some (.inl (.inr ((r_18, r_19, r_20))))
 )
 )
 )
 )
 ) else (
 some (.inr (.inr (.inr (.inr (.inr (.inr (.inr (.inr (.inl (v0, v1))))))))))
 )
 | .inr ((v0, v1, v2)) =>
 bif (decide ((v1.length : Int) > (0 : Int))) then (
 (gt v1 (0 : Int)).bind fun y_1 =>
 (stringsCutPrefix y_1 (bs [45])).bind fun (r_1, r_2) =>
 bif (!r_2) then (
 some (.inr (.inr (.inr (.inr (.inr (.inr (.inr (.inr (.inr (.inl (v0, v1, v2, y_1, r_1, r_2)))))))))))
 ) else (
 bif (seq r_1 (bs [])) then (
 some (.inr (.inr (.inr (.inr (.inr (.inr (.inr (.inr (.inr (.inr (.inl (v0, v1, v2, y_1, r_1, r_2))))))))))))
 ) else (
 (optionTakerNext2 v0 v1 v2).bind fun (r_3, r_4, r_5, r_6) =>
 bif (seq r_1 (bs [45])) then (
 some (.inr (.inr (.inr (.inr (.inr (.inr (.inr (.inr (.inr (.inr (.inr (.inl (v0, v1, v2, y_1, r_1, r_2, r_3, r_4, r_5, r_6)))))))))))))
 ) else (
 (optionTakerGroup2 r_1 r_4 r_5 r_6).bind fun X_2 => match X_2 with
 | .inl (r_7, r_8, r_9) => (
 some (.inr (.inr (.inr (.inr (.inr (.inr (.inr (.inr (.inr (.inr (.inr (.inr (.inl (v0, v1, v2, y_1, r_1, r_2, r_3, r_4, r_5, r_6, r_7, r_8, r_9))))))))))))))
 )
 | .inr (.inl (r_10, r_11, r_12)) => (
 some (.inr (.inr (.inr (.inr (.inr (.inr (.inr (.inr (.inr (.inr (.inr (.inr (.inr (.inl (v0, v1, v2, y_1, r_1, r_2, r_3, r_4, r_5, r_6, r_10, r_11, r_12)))))))))))))))
 )
 | .inr (.inr (.inl (r_13, r_14, r_15))) => (
 some (.inl (.inr ((r_13, r_14, r_15))))
 )
 | .inr (.inr (.inr (.inl (r_16, r_17, r_18)))) => (
 some (.inr (.inr (.inr (.inr (.inr (.inr (.inr (.inr (.inr (.inr (.inr (.inr (.inr (.inr (.inl (v0, v1, v2, y_1, r_1, r_2, r_3, r_4, r_5, r_6, r_16, r_17, r_18))))))))))))))))
 )
 | .inr (.inr (.inr (.inr (.inl (r_19, r_20, r_21))))) => (
 some (.inr (.inr (.inr (.inr (.inr (.inr (.inr (.inr (.inr (.inr (.inr (.inr (.inr (.inr (.inr (.inl (v0, v1, v2, y_1, r_1, r_2, r_3, r_4, r_5, r_6, r_19, r_20, r_21)))))))))))))))))
 )
 | .inr (.inr (.inr (.inr (.inr ((r_22, r_23, r_24)))))) => (
 some (.inl (.inr ((r_22, r_23, r_24))))
 )
 )
 )
 )
 ) else (
 some (.inr (.inr (.inr (.inr (.inr (.inr (.inr (.inr (.inr (.inr (.inr (.inr (.inr (.inr (.inr (.inr ((v0, v1, v2))))))))))))))))))
 )
set_option maxRecDepth 100000 in
theorem optionTakerAll_t1 (k : Nat) (a a1 : ((ByteArray × (List ByteArray)) ⊕ (ByteArray × (List ByteArray) × (List FlagD)))) (h : optionTakerAll_b1 a = some (.inl a1)) : ∃ σ, run1 (k + 3) 59 1 38 optionTakerAll_L1 (optionTakerAll_S1 a) = some (.normal, σ) ∧ canonS 1 [0] σ = some (optionTakerAll_S1 a1) := by
  rcases a with ⟨v0, v1⟩ | ⟨v0, v1, v2⟩
  · unfold optionTakerAll_b1 at h
    try dsimp only at h
    rcases bif_some h with ⟨q1, h⟩ | ⟨q1, h⟩
    · obtain ⟨y_1, q2, h⟩ := bnd_some h
      obtain ⟨⟨r_1, r_2⟩, q3, h⟩ := bnd_some h
      try dsimp only at h
      rcases bif_some h with ⟨q4, h⟩ | ⟨q4, h⟩
      · cases h
      · rcases bif_some h with ⟨q5, h⟩ | ⟨q5, h⟩
        · cases h
        · obtain ⟨X_1, q6, h⟩ := bnd_some h
          rcases X_1 with ⟨r_3, r_4, r_5⟩
          · try dsimp only at h
            rcases bif_some h with ⟨q7, h⟩ | ⟨q7, h⟩
            · cases h
            · obtain ⟨X_2, q8, h⟩ := bnd_some h
              rcases X_2 with ⟨r_6, r_7⟩ | ⟨r_8, r_9⟩ | ⟨r_10, r_11⟩ | ⟨r_12, r_13, r_14⟩ | ⟨r_15, r_16, r_17⟩ | ⟨r_18, r_19, r_20⟩
              · try dsimp only at h
                cases h
              · try dsimp only at h
                cases h
              · try dsimp only at h
                obtain rfl := Sum.inl.inj (Option.some.inj h)
                exact ⟨_, run_go (k := (k + 3)) (f := 59) (r0 := 1) (nt := 38) (c := optionTakerAll_L1) (σ := (optionTakerAll_S1 (.inl (v0, v1)))) (adv [([], 1, 4, .eq (pI (v1.length : Int))), ([], 1, 5, .eq (pB true)), ([], 2, 4, .elem [(pS y_1)]), ([], 2, 6, .ret (.tup [(pS r_1), (pB r_2)])), ([], 3, 2, .eq (pB false)), ([], 3, 5, .eq (pB false)), ([], 5, 1, .retS (pS r_3) [some ⟨3, 134, [[(pS r_4), (.list 1 false (r_5.map cS)), (.v (.slice none 0 0))]], true, false⟩] [0]), ([], 6, 1, .eq (pB false)), ([], 8, 2, .retS (.v .nilIface) [some ⟨3, 134, [[(pS r_10), (.list 1 false (r_11.map cS)), (.v (.slice none 0 0))]], true, false⟩] [0])]) (ex := .normal) (by kernel_rfl) (by kernel_rfl) (allC (len_ob (rfl : (v1.map cS) = v1.map cS)) (allC (cg q1) (allC (gt_list (c := cS) q2) (allC (stringsCutPrefix_ok k y_1 (bs [45]) _ q3) (allC (cg q4) (allC (cg q5) (allC (optionTakerNext_ok (k + 2) v0 v1 _ q6) (allC (cg q7) (allC (optionTakerGroup_ok (k + 1) r_1 r_4 r_5 _ q8) allN))))))))), (by kernel_rfl)⟩
              · try dsimp only at h
                cases h
              · try dsimp only at h
                cases h
              · try dsimp only at h
                obtain rfl := Sum.inl.inj (Option.some.inj h)
                exact ⟨_, run_go (k := (k + 3)) (f := 59) (r0 := 1) (nt := 38) (c := optionTakerAll_L1) (σ := (optionTakerAll_S1 (.inl (v0, v1)))) (adv [([], 1, 4, .eq (pI (v1.length : Int))), ([], 1, 5, .eq (pB true)), ([], 2, 4, .elem [(pS y_1)]), ([], 2, 6, .ret (.tup [(pS r_1), (pB r_2)])), ([], 3, 2, .eq (pB false)), ([], 3, 5, .eq (pB false)), ([], 5, 1, .retS (pS r_3) [some ⟨3, 134, [[(pS r_4), (.list 1 false (r_5.map cS)), (.v (.slice none 0 0))]], true, false⟩] [0]), ([], 6, 1, .eq (pB false)), ([], 8, 2, .retS (.v .nilIface) [some ⟨3, 134, [[(pS r_18), (.list 1 false (r_19.map cS)), (.row [1, TAG] 1 0 r_20.length)]], false, false⟩, some ⟨2, 274, (r_20.map FlagD.c), true, true⟩] [0, 0])]) (ex := .normal) (by kernel_rfl) (by kernel_rfl) (allC (len_ob (rfl : (v1.map cS) = v1.map cS)) (allC (cg q1) (allC (gt_list (c := cS) q2) (allC (stringsCutPrefix_ok k y_1 (bs [45]) _ q3) (allC (cg q4) (allC (cg q5) (allC (optionTakerNext_ok (k + 2) v0 v1 _ q6) (allC (cg q7) (allC (optionTakerGroup_ok (k + 1) r_1 r_4 r_5 _ q8) allN))))))))), (by kernel_rfl)⟩
    · cases h
  · unfold optionTakerAll_b1 at h
    try dsimp only at h
    rcases bif_some h with ⟨q1, h⟩ | ⟨q1, h⟩
    · obtain ⟨y_1, q2, h⟩ := bnd_some h
      obtain ⟨⟨r_1, r_2⟩, q3, h⟩ := bnd_some h
      try dsimp only at h
      rcases bif_some h with ⟨q4, h⟩ | ⟨q4, h⟩
      · cases h
      · rcases bif_some h with ⟨q5, h⟩ | ⟨q5, h⟩
        · cases h
        · obtain ⟨X_1, q6, h⟩ := bnd_some h
          rcases X_1 with ⟨r_3, r_4, r_5, r_6⟩
          · try dsimp only at h
            rcases bif_some h with ⟨q7, h⟩ | ⟨q7, h⟩
            · cases h
            · obtain ⟨X_2, q8, h⟩ := bnd_some h
              rcases X_2 with ⟨r_7, r_8, r_9⟩ | ⟨r_10, r_11, r_12⟩ | ⟨r_13, r_14, r_15⟩ | ⟨r_16, r_17, r_18⟩ | ⟨r_19, r_20, r_21⟩ | ⟨r_22, r_23, r_24⟩
              · try dsimp only at h
                cases h
              · try dsimp only at h
                cases h
              · try dsimp only at h
                obtain rfl := Sum.inl.inj (Option.some.inj h)
                exact ⟨_, run_go (k := (k + 3)) (f := 59) (r0 := 1) (nt := 38) (c := optionTakerAll_L1) (σ := (optionTakerAll_S1 (.inr ((v0, v1, v2))))) (adv [([], 1, 4, .eq (pI (v1.length : Int))), ([], 1, 5, .eq (pB true)), ([], 2, 4, .elem [(pS y_1)]), ([], 2, 6, .ret (.tup [(pS r_1), (pB r_2)])), ([], 3, 2, .eq (pB false)), ([], 3, 5, .eq (pB false)), ([], 5, 1, .retS (pS r_3) [some ⟨3, 134, [[(pS r_4), (.list 1 false (r_5.map cS)), (.row [1, TAG] 1 0 r_6.length)]], false, false⟩, some ⟨2, 274, (r_6.map FlagD.c), true, true⟩] [0, 0]), ([], 6, 1, .eq (pB false)), ([], 8, 2, .retS (.v .nilIface) [some ⟨3, 134, [[(pS r_13), (.list 1 false (r_14.map cS)), (.row [1, TAG] 1 0 r_15.length)]], false, false⟩, some ⟨2, 274, (r_15.map FlagD.c), true, true⟩] [0, 0])]) (ex := .normal) (by kernel_rfl) (by kernel_rfl) (allC (len_ob (rfl : (v1.map cS) = v1.map cS)) (allC (cg q1) (allC (gt_list (c := cS) q2) (allC (stringsCutPrefix_ok k y_1 (bs [45]) _ q3) (allC (cg q4) (allC (cg q5) (allC (optionTakerNext2_ok (k + 2) v0 v1 v2 _ q6) (allC (cg q7) (allC (optionTakerGroup2_ok (k + 1) r_1 r_4 r_5 r_6 _ q8) allN))))))))), (by kernel_rfl)⟩
              · try dsimp only at h
                cases h
              · try dsimp only at h
                cases h
              · try dsimp only at h
                obtain rfl := Sum.inl.inj (Option.some.inj h)
                exact ⟨_, run_go (k := (k + 3)) (f := 59) (r0 := 1) (nt := 38) (c := optionTakerAll_L1) (σ := (optionTakerAll_S1 (.inr ((v0, v1, v2))))) (adv [([], 1, 4, .eq (pI (v1.length : Int))), ([], 1, 5, .eq (pB true)), ([], 2, 4, .elem [(pS y_1)]), ([], 2, 6, .ret (.tup [(pS r_1), (pB r_2)])), ([], 3, 2, .eq (pB false)), ([], 3, 5, .eq (pB false)), ([], 5, 1, .retS (pS r_3) [some ⟨3, 134, [[(pS r_4), (.list 1 false (r_5.map cS)), (.row [1, TAG] 1 0 r_6.length)]], false, false⟩, some ⟨2, 274, (r_6.map FlagD.c), true, true⟩] [0, 0]), ([], 6, 1, .eq (pB false)), ([], 8, 2, .retS (.v .nilIface) [some ⟨3, 134, [[(pS r_22), (.list 1 false (r_23.map cS)), (.row [2, TAG] 1 0 r_24.length)]], false, false⟩, none, some ⟨2, 274, (r_24.map FlagD.c), true, true⟩] [0, 0, 0])]) (ex := .normal) (by kernel_rfl) (by kernel_rfl) (allC (len_ob (rfl : (v1.map cS) = v1.map cS)) (allC (cg q1) (allC (gt_list (c := cS) q2) (allC (stringsCutPrefix_ok k y_1 (bs [45]) _ q3) (allC (cg q4) (allC (cg q5) (allC (optionTakerNext2_ok (k + 2) v0 v1 v2 _ q6) (allC (cg q7) (allC (optionTakerGroup2_ok (k + 1) r_1 r_4 r_5 r_6 _ q8) allN))))))))), (by kernel_rfl)⟩
    · cases h
def optionTakerAll (p0 : ByteArray) (p1 : (List ByteArray)) : Option ((ByteArray × (List ByteArray)) ⊕ (ByteArray × (List ByteArray)) ⊕ (ByteArray × (List ByteArray)) ⊕ (ByteArray × (List ByteArray) × (List FlagD)) ⊕ (ByteArray × (List ByteArray) × (List FlagD)) ⊕ (ByteArray × (List ByteArray) × (List FlagD))) :=
 (iterN (optionTakerAll_b1) LF (.inl (p0, p1))).bind fun X_1 => match X_1 with
 | .inl (v_1, v_2, y_1, r_1, r_2) => (
 some (.inl (v_1, v_2))
 )
 | .inr (.inl (v_1, v_2, y_1, r_1, r_2)) => (
 some (.inl (v_1, v_2))
 )
 | .inr (.inr (.inl (v_1, v_2, y_1, r_1, r_2, r_3, r_4, r_5))) => (
 some (.inl (r_4, r_5))
 )
 | .inr (.inr (.inr (.inl (v_1, v_2, y_1, r_1, r_2, r_3, r_4, r_5, r_6, r_7)))) => (
 some (.inr (.inl (r_6, r_7)))
 )
 | .inr (.inr (.inr (.inr (.inl (v_1, v_2, y_1, r_1, r_2, r_3, r_4, r_5, r_8, r_9))))) => (
 some (.inr (.inr (.inl (r_8, r_9))))
 )
 | .inr (.inr (.inr (.inr (.inr (.inl (v_1, v_2, y_1, r_1, r_2, r_3, r_4, r_5, r_12, r_13, r_14)))))) => (
 some (.inr (.inr (.inr (.inl (r_12, r_13, r_14)))))
 )
 | .inr (.inr (.inr (.inr (.inr (.inr (.inl (v_1, v_2, y_1, r_1, r_2, r_3, r_4, r_5, r_15, r_16, r_17))))))) => (
 some (.inr (.inr (.inr (.inr (.inl (r_15, r_16, r_17))))))
 )
 | .inr (.inr (.inr (.inr (.inr (.inr (.inr (.inl (v_1, v_2)))))))) => (
 some (.inl (v_1, v_2))
 )
 | .inr (.inr (.inr (.inr (.inr (.inr (.inr (.inr (.inl (v_3, v_4, v_5, y_1, r_1, r_2))))))))) => (
 some (.inr (.inr (.inr (.inr (.inr ((v_3, v_4, v_5)))))))
 )
 | .inr (.inr (.inr (.inr (.inr (.inr (.inr (.inr (.inr (.inl (v_3, v_4, v_5, y_1, r_1, r_2)))))))))) => (
 some (.inr (.inr (.inr (.inr (.inr ((v_3, v_4, v_5)))))))
 )
 | .inr (.inr (.inr (.inr (.inr (.inr (.inr (.inr (.inr (.inr (.inl (v_3, v_4, v_5, y_1, r_1, r_2, r_3, r_4, r_5, r_6))))))))))) => (
 some (.inr (.inr (.inr (.inr (.inr ((r_4, r_5, r_6)))))))
 )
 | .inr (.inr (.inr (.inr (.inr (.inr (.inr (.inr (.inr (.inr (.inr (.inl (v_3, v_4, v_5, y_1, r_1, r_2, r_3, r_4, r_5, r_6, r_7, r_8, r_9)))))))))))) => (
 some (.inr (.inr (.inr (.inl (r_7, r_8, r_9)))))
 )
 | .inr (.inr (.inr (.inr (.inr (.inr (.inr (.inr (.inr (.inr (.inr (.inr (.inl (v_3, v_4, v_5, y_1, r_1, r_2, r_3, r_4, r_5, r_6, r_10, r_11, r_12))))))))))))) => (
 some (.inr (.inr (.inr (.inr (.inl (r_10, r_11, r_12))))))
 )
 | .inr (.inr (.inr (.inr (.inr (.inr (.inr (.inr (.inr (.inr (.inr (.inr (.inr (.inl (v_3, v_4, v_5, y_1, r_1, r_2, r_3, r_4, r_5, r_6, r_16, r_17, r_18)))))))))))))) => (
 some (.inr (.inr (.inr (.inl (r_16, r_17, r_18)))))
 )
 | .inr (.inr (.inr (.inr (.inr (.inr (.inr (.inr (.inr (.inr (.inr (.inr (.inr (.inr (.inl (v_3, v_4, v_5, y_1, r_1, r_2, r_3, r_4, r_5, r_6, r_19, r_20, r_21))))))))))))))) => (
 some (.inr (.inr (.inr (.inr (.inl (r_19, r_20, r_21))))))
 )
 | .inr (.inr (.inr (.inr (.inr (.inr (.inr (.inr (.inr (.inr (.inr (.inr (.inr (.inr (.inr ((v_3, v_4, v_5)))))))))))))))) => (
 some (.inr (.inr (.inr (.inr (.inr ((v_3, v_4, v_5)))))))
 )
def optionTakerAll_out : ((ByteArray × (List ByteArray)) ⊕ (ByteArray × (List ByteArray)) ⊕ (ByteArray × (List ByteArray)) ⊕ (ByteArray × (List ByteArray) × (List FlagD)) ⊕ (ByteArray × (List ByteArray) × (List FlagD)) ⊕ (ByteArray × (List ByteArray) × (List FlagD))) → PV × List (Option Blk) × List Nat
 | .inl (r0, r1) => ((.v .nilIface), [some ⟨3, 134, [[(pS r0), (.list 1 false (r1.map cS)), (.v (.slice none 0 0))]], true, false⟩], [0])
 | .inr (.inl (r0, r1)) => ((.ifc 412 (.far 0)), [some ⟨3, 134, [[(pS r0), (.list 1 false (r1.map cS)), (.v (.slice none 0 0))]], true, false⟩], [0])
 | .inr (.inr (.inl (r0, r1))) => ((.ifc 412 (.far 1)), [some ⟨3, 134, [[(pS r0), (.list 1 false (r1.map cS)), (.v (.slice none 0 0))]], true, false⟩], [0])
 | .inr (.inr (.inr (.inl (r0, r1, r2)))) => ((.ifc 412 (.far 0)), [some ⟨3, 134, [[(pS r0), (.list 1 false (r1.map cS)), (.row [1, TAG] 1 0 r2.length)]], false, false⟩, some ⟨2, 274, (r2.map FlagD.c), true, true⟩], [0, 0])
 | .inr (.inr (.inr (.inr (.inl (r0, r1, r2))))) => ((.ifc 412 (.far 1)), [some ⟨3, 134, [[(pS r0), (.list 1 false (r1.map cS)), (.row [1, TAG] 1 0 r2.length)]], false, false⟩, some ⟨2, 274, (r2.map FlagD.c), true, true⟩], [0, 0])
 | .inr (.inr (.inr (.inr (.inr ((r0, r1, r2)))))) => ((.v .nilIface), [some ⟨3, 134, [[(pS r0), (.list 1 false (r1.map cS)), (.row [1, TAG] 1 0 r2.length)]], false, false⟩, some ⟨2, 274, (r2.map FlagD.c), true, true⟩], [0, 0])
set_option maxRecDepth 100000 in
theorem optionTakerAll_ok (k : Nat) (p0 : ByteArray) (p1 : (List ByteArray)) (r : ((ByteArray × (List ByteArray)) ⊕ (ByteArray × (List ByteArray)) ⊕ (ByteArray × (List ByteArray)) ⊕ (ByteArray × (List ByteArray) × (List FlagD)) ⊕ (ByteArray × (List ByteArray) × (List FlagD)) ⊕ (ByteArray × (List ByteArray) × (List FlagD)))) (h : optionTakerAll p0 p1 = some r) : runS0 (k + 4) 59 [(.ptr [0, TAG] 1 0 0)] [some ⟨3, 134, [[(pS p0), (.list 1 false (p1.map cS)), (.v (.slice none 0 0))]], true, false⟩] [0] = some (optionTakerAll_out r) := by
  unfold optionTakerAll at h
  obtain ⟨X_1, q1, h⟩ := bnd_some h
  obtain ⟨a_1, q2, q3⟩ := loop_iter (f := run1 (k + 3) 59 1 38 optionTakerAll_L1) (optionTakerAll_S1) (optionTakerAll_b1) (optionTakerAll_t1 k) LF (.inl (p0, p1)) _ (stOf (goStop (k + 3) 59 1 38 (adv []) 1 (codeOf Tryz.f59) (argB 59 [(.ptr [0, TAG] 1 0 0)] [some ⟨3, 134, [[(pS p0), (.list 1 false (p1.map cS)), (.v (.slice none 0 0))]], true, false⟩] [0]))) q1 (by kernel_rfl)
  rcases a_1 with ⟨v_1, v_2⟩ | ⟨v_3, v_4, v_5⟩
  · unfold optionTakerAll_b1 at q2
    try dsimp only at q2
    rcases bif_some q2 with ⟨q6, q2⟩ | ⟨q6, q2⟩
    · obtain ⟨y_1, q7, q2⟩ := bnd_some q2
      obtain ⟨⟨r_1, r_2⟩, q8, q2⟩ := bnd_some q2
      try dsimp only at q2
      rcases bif_some q2 with ⟨q9, q2⟩ | ⟨q9, q2⟩
      · cases q2
        try dsimp only at h
        have q4 := run_go (k := (k + 3)) (f := 59) (r0 := 1) (nt := 38) (c := optionTakerAll_L1) (σ := (optionTakerAll_S1 (.inl (v_1, v_2)))) (adv [([], 1, 4, .eq (pI (v_2.length : Int))), ([], 1, 5, .eq (pB true)), ([], 2, 4, .elem [(pS y_1)]), ([], 2, 6, .ret (.tup [(pS r_1), (pB r_2)])), ([], 3, 2, .eq (pB true))]) (ex := .ret) (by kernel_rfl) (by kernel_rfl) (allC (len_ob (rfl : (v_2.map cS) = v_2.map cS)) (allC (cg q6) (allC (gt_list (c := cS) q7) (allC (stringsCutPrefix_ok k y_1 (bs [45]) _ q8) (allC (cg q9) allN)))))
        have q5 := q3 _ _ (by intro e; cases e) q4
        obtain rfl := Option.some.inj h
        exact retS_go (k := (k + 3)) (n := 1) Tryz.func59 Tryz.ntmps59 rfl (by kernel_rfl) (by kernel_rfl) (lb rfl) (adv [] [([], 1, .ret, (stOf (go (k + 3) 59 1 38 (adv [([], 1, 4, .eq (pI (v_2.length : Int))), ([], 1, 5, .eq (pB true)), ([], 2, 4, .elem [(pS y_1)]), ([], 2, 6, .ret (.tup [(pS r_1), (pB r_2)])), ([], 3, 2, .eq (pB true))]) optionTakerAll_L1 (optionTakerAll_S1 (.inl (v_1, v_2))))))]) (ex := .ret) (r := ((.v .nilIface), [some ⟨3, 134, [[(pS v_1), (.list 1 false (v_2.map cS)), (.v (.slice none 0 0))]], true, false⟩], [0])) (by kernel_rfl) rfl (by kernel_rfl) (allC q5 allN) (by kernel_rfl)
      · rcases bif_some q2 with ⟨q10, q2⟩ | ⟨q10, q2⟩
        · cases q2
          try dsimp only at h
          have q4 := run_go (k := (k + 3)) (f := 59) (r0 := 1) (nt := 38) (c := optionTakerAll_L1) (σ := (optionTakerAll_S1 (.inl (v_1, v_2)))) (adv [([], 1, 4, .eq (pI (v_2.length : Int))), ([], 1, 5, .eq (pB true)), ([], 2, 4, .elem [(pS y_1)]), ([], 2, 6, .ret (.tup [(pS r_1), (pB r_2)])), ([], 3, 2, .eq (pB false)), ([], 3, 5, .eq (pB true))]) (ex := .ret) (by kernel_rfl) (by kernel_rfl) (allC (len_ob (rfl : (v_2.map cS) = v_2.map cS)) (allC (cg q6) (allC (gt_list (c := cS) q7) (allC (stringsCutPrefix_ok k y_1 (bs [45]) _ q8) (allC (cg q9) (allC (cg q10) allN))))))
          have q5 := q3 _ _ (by intro e; cases e) q4
          obtain rfl := Option.some.inj h
          exact retS_go (k := (k + 3)) (n := 1) Tryz.func59 Tryz.ntmps59 rfl (by kernel_rfl) (by kernel_rfl) (lb rfl) (adv [] [([], 1, .ret, (stOf (go (k + 3) 59 1 38 (adv [([], 1, 4, .eq (pI (v_2.length : Int))), ([], 1, 5, .eq (pB true)), ([], 2, 4, .elem [(pS y_1)]), ([], 2, 6, .ret (.tup [(pS r_1), (pB r_2)])), ([], 3, 2, .eq (pB false)), ([], 3, 5, .eq (pB true))]) optionTakerAll_L1 (optionTakerAll_S1 (.inl (v_1, v_2))))))]) (ex := .ret) (r := ((.v .nilIface), [some ⟨3, 134, [[(pS v_1), (.list 1 false (v_2.map cS)), (.v (.slice none 0 0))]], true, false⟩], [0])) (by kernel_rfl) rfl (by kernel_rfl) (allC q5 allN) (by kernel_rfl)
        · obtain ⟨X_2, q11, q2⟩ := bnd_some q2
          rcases X_2 with ⟨r_3, r_4, r_5⟩
          · try dsimp only at q2
            rcases bif_some q2 with ⟨q12, q2⟩ | ⟨q12, q2⟩
            · cases q2
              try dsimp only at h
              have q4 := run_go (k := (k + 3)) (f := 59) (r0 := 1) (nt := 38) (c := optionTakerAll_L1) (σ := (optionTakerAll_S1 (.inl (v_1, v_2)))) (adv [([], 1, 4, .eq (pI (v_2.length : Int))), ([], 1, 5, .eq (pB true)), ([], 2, 4, .elem [(pS y_1)]), ([], 2, 6, .ret (.tup [(pS r_1), (pB r_2)])), ([], 3, 2, .eq (pB false)), ([], 3, 5, .eq (pB false)), ([], 5, 1, .retS (pS r_3) [some ⟨3, 134, [[(pS r_4), (.list 1 false (r_5.map cS)), (.v (.slice none 0 0))]], true, false⟩] [0]), ([], 6, 1, .eq (pB true))]) (ex := .ret) (by kernel_rfl) (by kernel_rfl) (allC (len_ob (rfl : (v_2.map cS) = v_2.map cS)) (allC (cg q6) (allC (gt_list (c := cS) q7) (allC (stringsCutPrefix_ok k y_1 (bs [45]) _ q8) (allC (cg q9) (allC (cg q10) (allC (optionTakerNext_ok (k + 2) v_1 v_2 _ q11) (allC (cg q12) allN))))))))
              have q5 := q3 _ _ (by intro e; cases e) q4
              obtain rfl := Option.some.inj h
              exact retS_go (k := (k + 3)) (n := 1) Tryz.func59 Tryz.ntmps59 rfl (by kernel_rfl) (by kernel_rfl) (lb rfl) (adv [] [([], 1, .ret, (stOf (go (k + 3) 59 1 38 (adv [([], 1, 4, .eq (pI (v_2.length : Int))), ([], 1, 5, .eq (pB true)), ([], 2, 4, .elem [(pS y_1)]), ([], 2, 6, .ret (.tup [(pS r_1), (pB r_2)])), ([], 3, 2, .eq (pB false)), ([], 3, 5, .eq (pB false)), ([], 5, 1, .retS (pS r_3) [some ⟨3, 134, [[(pS r_4), (.list 1 false (r_5.map cS)), (.v (.slice none 0 0))]], true, false⟩] [0]), ([], 6, 1, .eq (pB true))]) optionTakerAll_L1 (optionTakerAll_S1 (.inl (v_1, v_2))))))]) (ex := .ret) (r := ((.v .nilIface), [some ⟨3, 134, [[(pS r_4), (.list 1 false (r_5.map cS)), (.v (.slice none 0 0))]], true, false⟩], [0])) (by kernel_rfl) rfl (by kernel_rfl) (allC q5 allN) (by kernel_rfl)
            · obtain ⟨X_3, q13, q2⟩ := bnd_some q2
              rcases X_3 with ⟨r_6, r_7⟩ | ⟨r_8, r_9⟩ | ⟨r_10, r_11⟩ | ⟨r_12, r_13, r_14⟩ | ⟨r_15, r_16, r_17⟩ | ⟨r_18, r_19, r_20⟩
              · try dsimp only at q2
                cases q2
                try dsimp only at h
                have q4 := run_go (k := (k + 3)) (f := 59) (r0 := 1) (nt := 38) (c := optionTakerAll_L1) (σ := (optionTakerAll_S1 (.inl (v_1, v_2)))) (adv [([], 1, 4, .eq (pI (v_2.length : Int))), ([], 1, 5, .eq (pB true)), ([], 2, 4, .elem [(pS y_1)]), ([], 2, 6, .ret (.tup [(pS r_1), (pB r_2)])), ([], 3, 2, .eq (pB false)), ([], 3, 5, .eq (pB false)), ([], 5, 1, .retS (pS r_3) [some ⟨3, 134, [[(pS r_4), (.list 1 false (r_5.map cS)), (.v (.slice none 0 0))]], true, false⟩] [0]), ([], 6, 1, .eq (pB false)), ([], 8, 2, .retS (.ifc 412 (.far 0)) [some ⟨3, 134, [[(pS r_6), (.list 1 false (r_7.map cS)), (.v (.slice none 0 0))]], true, false⟩] [0])]) (ex := .ret) (by kernel_rfl) (by kernel_rfl) (allC (len_ob (rfl : (v_2.map cS) = v_2.map cS)) (allC (cg q6) (allC (gt_list (c := cS) q7) (allC (stringsCutPrefix_ok k y_1 (bs [45]) _ q8) (allC (cg q9) (allC (cg q10) (allC (optionTakerNext_ok (k + 2) v_1 v_2 _ q11) (allC (cg q12) (allC (optionTakerGroup_ok (k + 1) r_1 r_4 r_5 _ q13) allN)))))))))
                have q5 := q3 _ _ (by intro e; cases e) q4
                obtain rfl := Option.some.inj h
                exact retS_go (k := (k + 3)) (n := 1) Tryz.func59 Tryz.ntmps59 rfl (by kernel_rfl) (by kernel_rfl) (lb rfl) (adv [] [([], 1, .ret, (stOf (go (k + 3) 59 1 38 (adv [([], 1, 4, .eq (pI (v_2.length : Int))), ([], 1, 5, .eq (pB true)), ([], 2, 4, .elem [(pS y_1)]), ([], 2, 6, .ret (.tup [(pS r_1), (pB r_2)])), ([], 3, 2, .eq (pB false)), ([], 3, 5, .eq (pB false)), ([], 5, 1, .retS (pS r_3) [some ⟨3, 134, [[(pS r_4), (.list 1 false (r_5.map cS)), (.v (.slice none 0 0))]], true, false⟩] [0]), ([], 6, 1, .eq (pB false)), ([], 8, 2, .retS (.ifc 412 (.far 0)) [some ⟨3, 134, [[(pS r_6), (.list 1 false (r_7.map cS)), (.v (.slice none 0 0))]], true, false⟩] [0])]) optionTakerAll_L1 (optionTakerAll_S1 (.inl (v_1, v_2))))))]) (ex := .ret) (r := ((.ifc 412 (.far 0)), [some ⟨3, 134, [[(pS r_6), (.list 1 false (r_7.map cS)), (.v (.slice none 0 0))]], true, false⟩], [0])) (by kernel_rfl) rfl (by kernel_rfl) (allC q5 allN) (by kernel_rfl)
              · try dsimp only at q2
                cases q2
                try dsimp only at h
                have q4 := run_go (k := (k + 3)) (f := 59) (r0 := 1) (nt := 38) (c := optionTakerAll_L1) (σ := (optionTakerAll_S1 (.inl (v_1, v_2)))) (adv [([], 1, 4, .eq (pI (v_2.length : Int))), ([], 1, 5, .eq (pB true)), ([], 2, 4, .elem [(pS y_1)]), ([], 2, 6, .ret (.tup [(pS r_1), (pB r_2)])), ([], 3, 2, .eq (pB false)), ([], 3, 5, .eq (pB false)), ([], 5, 1, .retS (pS r_3) [some ⟨3, 134, [[(pS r_4), (.list 1 false (r_5.map cS)), (.v (.slice none 0 0))]], true, false⟩] [0]), ([], 6, 1, .eq (pB false)), ([], 8, 2, .retS (.ifc 412 (.far 1)) [some ⟨3, 134, [[(pS r_8), (.list 1 false (r_9.map cS)), (.v (.slice none 0 0))]], true, false⟩] [0])]) (ex := .ret) (by kernel_rfl) (by kernel_rfl) (allC (len_ob (rfl : (v_2.map cS) = v_2.map cS)) (allC (cg q6) (allC (gt_list (c := cS) q7) (allC (stringsCutPrefix_ok k y_1 (bs [45]) _ q8) (allC (cg q9) (allC (cg q10) (allC (optionTakerNext_ok (k + 2) v_1 v_2 _ q11) (allC (cg q12) (allC (optionTakerGroup_ok (k + 1) r_1 r_4 r_5 _ q13) allN)))))))))
                have q5 := q3 _ _ (by intro e; cases e) q4
                obtain rfl := Option.some.inj h
                exact retS_go (k := (k + 3)) (n := 1) Tryz.func59 Tryz.ntmps59 rfl (by kernel_rfl) (by kernel_rfl) (lb rfl) (adv [] [([], 1, .ret, (stOf (go (k + 3) 59 1 38 (adv [([], 1, 4, .eq (pI (v_2.length : Int))), ([], 1, 5, .eq (pB true)), ([], 2, 4, .elem [(pS y_1)]), ([], 2, 6, .ret (.tup [(pS r_1), (pB r_2)])), ([], 3, 2, .eq (pB false)), ([], 3, 5, .eq (pB false)), ([], 5, 1, .retS (pS r_3) [some ⟨3, 134, [[(pS r_4), (.list 1 false (r_5.map cS)), (.v (.slice none 0 0))]], true, false⟩] [0]), ([], 6, 1, .eq (pB false)), ([], 8, 2, .retS (.ifc 412 (.far 1)) [some ⟨3, 134, [[(pS r_8), (.list 1 false (r_9.map cS)), (.v (.slice none 0 0))]], true, false⟩] [0])]) optionTakerAll_L1 (optionTakerAll_S1 (.inl (v_1, v_2))))))]) (ex := .ret) (r := ((.ifc 412 (.far 1)), [some ⟨3, 134, [[(pS r_8), (.list 1 false (r_9.map cS)), (.v (.slice none 0 0))]], true, false⟩], [0])) (by kernel_rfl) rfl (by kernel_rfl) (allC q5 allN) (by kernel_rfl)
              · try dsimp only at q2
                cases q2
              · try dsimp only at q2
                cases q2
                try dsimp only at h
                have q4 := run_go (k := (k + 3)) (f := 59) (r0 := 1) (nt := 38) (c := optionTakerAll_L1) (σ := (optionTakerAll_S1 (.inl (v_1, v_2)))) (adv [([], 1, 4, .eq (pI (v_2.length : Int))), ([], 1, 5, .eq (pB true)), ([], 2, 4, .elem [(pS y_1)]), ([], 2, 6, .ret (.tup [(pS r_1), (pB r_2)])), ([], 3, 2, .eq (pB false)), ([], 3, 5, .eq (pB false)), ([], 5, 1, .retS (pS r_3) [some ⟨3, 134, [[(pS r_4), (.list 1 false (r_5.map cS)), (.v (.slice none 0 0))]], true, false⟩] [0]), ([], 6, 1, .eq (pB false)), ([], 8, 2, .retS (.ifc 412 (.far 0)) [some ⟨3, 134, [[(pS r_12), (.list 1 false (r_13.map cS)), (.row [1, TAG] 1 0 r_14.length)]], false, false⟩, some ⟨2, 274, (r_14.map FlagD.c), true, true⟩] [0, 0])]) (ex := .ret) (by kernel_rfl) (by kernel_rfl) (allC (len_ob (rfl : (v_2.map cS) = v_2.map cS)) (allC (cg q6) (allC (gt_list (c := cS) q7) (allC (stringsCutPrefix_ok k y_1 (bs [45]) _ q8) (allC (cg q9) (allC (cg q10) (allC (optionTakerNext_ok (k + 2) v_1 v_2 _ q11) (allC (cg q12) (allC (optionTakerGroup_ok (k + 1) r_1 r_4 r_5 _ q13) allN)))))))))
                have q5 := q3 _ _ (by intro e; cases e) q4
                obtain rfl := Option.some.inj h
                exact retS_go (k := (k + 3)) (n := 1) Tryz.func59 Tryz.ntmps59 rfl (by kernel_rfl) (by kernel_rfl) (lb rfl) (adv [] [([], 1, .ret, (stOf (go (k + 3) 59 1 38 (adv [([], 1, 4, .eq (pI (v_2.length : Int))), ([], 1, 5, .eq (pB true)), ([], 2, 4, .elem [(pS y_1)]), ([], 2, 6, .ret (.tup [(pS r_1), (pB r_2)])), ([], 3, 2, .eq (pB false)), ([], 3, 5, .eq (pB false)), ([], 5, 1, .retS (pS r_3) [some ⟨3, 134, [[(pS r_4), (.list 1 false (r_5.map cS)), (.v (.slice none 0 0))]], true, false⟩] [0]), ([], 6, 1, .eq (pB false)), ([], 8, 2, .retS (.ifc 412 (.far 0)) [some ⟨3, 134, [[(pS r_12), (.list 1 false (r_13.map cS)), (.row [1, TAG] 1 0 r_14.length)]], false, false⟩, some ⟨2, 274, (r_14.map FlagD.c), true, true⟩] [0, 0])]) optionTakerAll_L1 (optionTakerAll_S1 (.inl (v_1, v_2))))))]) (ex := .ret) (r := ((.ifc 412 (.far 0)), [some ⟨3, 134, [[(pS r_12), (.list 1 false (r_13.map cS)), (.row [1, TAG] 1 0 r_14.length)]], false, false⟩, some ⟨2, 274, (r_14.map FlagD.c), true, true⟩], [0, 0])) (by kernel_rfl) rfl (by kernel_rfl) (allC q5 allN) (by kernel_rfl)
              · try dsimp only at q2
                cases q2
                try dsimp only at h
                have q4 := run_go (k := (k + 3)) (f := 59) (r0 := 1) (nt := 38) (c := optionTakerAll_L1) (σ := (optionTakerAll_S1 (.inl (v_1, v_2)))) (adv [([], 1, 4, .eq (pI (v_2.length : Int))), ([], 1, 5, .eq (pB true)), ([], 2, 4, .elem [(pS y_1)]), ([], 2, 6, .ret (.tup [(pS r_1), (pB r_2)])), ([], 3, 2, .eq (pB false)), ([], 3, 5, .eq (pB false)), ([], 5, 1, .retS (pS r_3) [some ⟨3, 134, [[(pS r_4), (.list 1 false (r_5.map cS)), (.v (.slice none 0 0))]], true, false⟩] [0]), ([], 6, 1, .eq (pB false)), ([], 8, 2, .retS (.ifc 412 (.far 1)) [some ⟨3, 134, [[(pS r_15), (.list 1 false (r_16.map cS)), (.row [1, TAG] 1 0 r_17.length)]], false, false⟩, some ⟨2, 274, (r_17.map FlagD.c), true, true⟩] [0, 0])]) (ex := .ret) (by kernel_rfl) (by kernel_rfl) (allC (len_ob (rfl : (v_2.map cS) = v_2.map cS)) (allC (cg q6) (allC (gt_list (c := cS) q7) (allC (stringsCutPrefix_ok k y_1 (bs [45]) _ q8) (allC (cg q9) (allC (cg q10) (allC (optionTakerNext_ok (k + 2) v_1 v_2 _ q11) (allC (cg q12) (allC (optionTakerGroup_ok (k + 1) r_1 r_4 r_5 _ q13) allN)))))))))
                have q5 := q3 _ _ (by intro e; cases e) q4
                obtain rfl := Option.some.inj h
                exact retS_go (k := (k + 3)) (n := 1) Tryz.func59 Tryz.ntmps59 rfl (by kernel_rfl) (by kernel_rfl) (lb rfl) (adv [] [([], 1, .ret, (stOf (go (k + 3) 59 1 38 (adv [([], 1, 4, .eq (pI (v_2.length : Int))), ([], 1, 5, .eq (pB true)), ([], 2, 4, .elem [(pS y_1)]), ([], 2, 6, .ret (.tup [(pS r_1), (pB r_2)])), ([], 3, 2, .eq (pB false)), ([], 3, 5, .eq (pB false)), ([], 5, 1, .retS (pS r_3) [some ⟨3, 134, [[(pS r_4), (.list 1 false (r_5.map cS)), (.v (.slice none 0 0))]], true, false⟩] [0]), ([], 6, 1, .eq (pB false)), ([], 8, 2, .retS (.ifc 412 (.far 1)) [some ⟨3, 134, [[(pS r_15), (.list 1 false (r_16.map cS)), (.row [1, TAG] 1 0 r_17.length)]], false, false⟩, some ⟨2, 274, (r_17.map FlagD.c), true, true⟩] [0, 0])]) optionTakerAll_L1 (optionTakerAll_S1 (.inl (v_1, v_2))))))]) (ex := .ret) (r := ((.ifc 412 (.far 1)), [some ⟨3, 134, [[(pS r_15), (.list 1 false (r_16.map cS)), (.row [1, TAG] 1 0 r_17.length)]], false, false⟩, some ⟨2, 274, (r_17.map FlagD.c), true, true⟩], [0, 0])) (by kernel_rfl) rfl (by kernel_rfl) (allC q5 allN) (by kernel_rfl)
              · try dsimp only at q2
                cases q2
    · cases q2
      try dsimp only at h
      have q4 := run_go (k := (k + 3)) (f := 59) (r0 := 1) (nt := 38) (c := optionTakerAll_L1) (σ := (optionTakerAll_S1 (.inl (v_1, v_2)))) (adv [([], 1, 4, .eq (pI (v_2.length : Int))), ([], 1, 5, .eq (pB false))]) (ex := (.exit 0)) (by kernel_rfl) (by kernel_rfl) (allC (len_ob (rfl : (v_2.map cS) = v_2.map cS)) (allC (cg q6) allN))
      have q5 := q3 _ _ (by intro e; cases e) q4
      obtain rfl := Option.some.inj h
      exact retS_go (k := (k + 3)) (n := 1) Tryz.func59 Tryz.ntmps59 rfl (by kernel_rfl) (by kernel_rfl) (lb rfl) (adv [] [([], 1, (.exit 0), (stOf (go (k + 3) 59 1 38 (adv [([], 1, 4, .eq (pI (v_2.length : Int))), ([], 1, 5, .eq (pB false))]) optionTakerAll_L1 (optionTakerAll_S1 (.inl (v_1, v_2))))))]) (ex := .ret) (r := ((.v .nilIface), [some ⟨3, 134, [[(pS v_1), (.list 1 false (v_2.map cS)), (.v (.slice none 0 0))]], true, false⟩], [0])) (by kernel_rfl) rfl (by kernel_rfl) (allC q5 allN) (by kernel_rfl)
  · unfold optionTakerAll_b1 at q2
    try dsimp only at q2
    rcases bif_some q2 with ⟨q6, q2⟩ | ⟨q6, q2⟩
    · obtain ⟨y_1, q7, q2⟩ := bnd_some q2
      obtain ⟨⟨r_1, r_2⟩, q8, q2⟩ := bnd_some q2
      try dsimp only at q2
      rcases bif_some q2 with ⟨q9, q2⟩ | ⟨q9, q2⟩
      · cases q2
        try dsimp only at h
        have q4 := run_go (k := (k + 3)) (f := 59) (r0 := 1) (nt := 38) (c := optionTakerAll_L1) (σ := (optionTakerAll_S1 (.inr ((v_3, v_4, v_5))))) (adv [([], 1, 4, .eq (pI (v_4.length : Int))), ([], 1, 5, .eq (pB true)), ([], 2, 4, .elem [(pS y_1)]), ([], 2, 6, .ret (.tup [(pS r_1), (pB r_2)])), ([], 3, 2, .eq (pB true))]) (ex := .ret) (by kernel_rfl) (by kernel_rfl) (allC (len_ob (rfl : (v_4.map cS) = v_4.map cS)) (allC (cg q6) (allC (gt_list (c := cS) q7) (allC (stringsCutPrefix_ok k y_1 (bs [45]) _ q8) (allC (cg q9) allN)))))
        have q5 := q3 _ _ (by intro e; cases e) q4
        obtain rfl := Option.some.inj h
        exact retS_go (k := (k + 3)) (n := 1) Tryz.func59 Tryz.ntmps59 rfl (by kernel_rfl) (by kernel_rfl) (lb rfl) (adv [] [([], 1, .ret, (stOf (go (k + 3) 59 1 38 (adv [([], 1, 4, .eq (pI (v_4.length : Int))), ([], 1, 5, .eq (pB true)), ([], 2, 4, .elem [(pS y_1)]), ([], 2, 6, .ret (.tup [(pS r_1), (pB r_2)])), ([], 3, 2, .eq (pB true))]) optionTakerAll_L1 (optionTakerAll_S1 (.inr ((v_3, v_4, v_5)))))))]) (ex := .ret) (r := ((.v .nilIface), [some ⟨3, 134, [[(pS v_3), (.list 1 false (v_4.map cS)), (.row [1, TAG] 1 0 v_5.length)]], false, false⟩, some ⟨2, 274, (v_5.map FlagD.c), true, true⟩], [0, 0])) (by kernel_rfl) rfl (by kernel_rfl) (allC q5 allN) (by kernel_rfl)
      · rcases bif_some q2 with ⟨q10, q2⟩ | ⟨q10, q2⟩
        · cases q2
          try dsimp only at h
          have q4 := run_go (k := (k + 3)) (f := 59) (r0 := 1) (nt := 38) (c := optionTakerAll_L1) (σ := (optionTakerAll_S1 (.inr ((v_3, v_4, v_5))))) (adv [([], 1, 4, .eq (pI (v_4.length : Int))), ([], 1, 5, .eq (pB true)), ([], 2, 4, .elem [(pS y_1)]), ([], 2, 6, .ret (.tup [(pS r_1), (pB r_2)])), ([], 3, 2, .eq (pB false)), ([], 3, 5, .eq (pB true))]) (ex := .ret) (by kernel_rfl) (by kernel_rfl) (allC (len_ob (rfl : (v_4.map cS) = v_4.map cS)) (allC (cg q6) (allC (gt_list (c := cS) q7) (allC (stringsCutPrefix_ok k y_1 (bs [45]) _ q8) (allC (cg q9) (allC (cg q10) allN))))))
          have q5 := q3 _ _ (by intro e; cases e) q4
          obtain rfl := Option.some.inj h
          exact retS_go (k := (k + 3)) (n := 1) Tryz.func59 Tryz.ntmps59 rfl (by kernel_rfl) (by kernel_rfl) (lb rfl) (adv [] [([], 1, .ret, (stOf (go (k + 3) 59 1 38 (adv [([], 1, 4, .eq (pI (v_4.length : Int))), ([], 1, 5, .eq (pB true)), ([], 2, 4, .elem [(pS y_1)]), ([], 2, 6, .ret (.tup [(pS r_1), (pB r_2)])), ([], 3, 2, .eq (pB false)), ([], 3, 5, .eq (pB true))]) optionTakerAll_L1 (optionTakerAll_S1 (.inr ((v_3, v_4, v_5)))))))]) (ex := .ret) (r := ((.v .nilIface), [some ⟨3, 134, [[(pS v_3), (.list 1 false (v_4.map cS)), (.row [1, TAG] 1 0 v_5.length)]], false, false⟩, some ⟨2, 274, (v_5.map FlagD.c), true, true⟩], [0, 0])) (by kernel_rfl) rfl (by kernel_rfl) (allC q5 allN) (by kernel_rfl)
        · obtain ⟨X_2, q11, q2⟩ := bnd_some q2
          rcases X_2 with ⟨r_3, r_4, r_5, r_6⟩
          · try dsimp only at q2
            rcases bif_some q2 with ⟨q12, q2⟩ | ⟨q12, q2⟩
            · cases q2
              try dsimp only at h
              have q4 := run_go (k := (k + 3)) (f := 59) (r0 := 1) (nt := 38) (c := optionTakerAll_L1) (σ := (optionTakerAll_S1 (.inr ((v_3, v_4, v_5))))) (adv [([], 1, 4, .eq (pI (v_4.length : Int))), ([], 1, 5, .eq (pB true)), ([], 2, 4, .elem [(pS y_1)]), ([], 2, 6, .ret (.tup [(pS r_1), (pB r_2)])), ([], 3, 2, .eq (pB false)), ([], 3, 5, .eq (pB false)), ([], 5, 1, .retS (pS r_3) [some ⟨3, 134, [[(pS r_4), (.list 1 false (r_5.map cS)), (.row [1, TAG] 1 0 r_6.length)]], false, false⟩, some ⟨2, 274, (r_6.map FlagD.c), true, true⟩] [0, 0]), ([], 6, 1, .eq (pB true))]) (ex := .ret) (by kernel_rfl) (by kernel_rfl) (allC (len_ob (rfl : (v_4.map cS) = v_4.map cS)) (allC (cg q6) (allC (gt_list (c := cS) q7) (allC (stringsCutPrefix_ok k y_1 (bs [45]) _ q8) (allC (cg q9) (allC (cg q10) (allC (optionTakerNext2_ok (k + 2) v_3 v_4 v_5 _ q11) (allC (cg q12) allN))))))))
              have q5 := q3 _ _ (by intro e; cases e) q4
              obtain rfl := Option.some.inj h
              exact retS_go (k := (k + 3)) (n := 1) Tryz.func59 Tryz.ntmps59 rfl (by kernel_rfl) (by kernel_rfl) (lb rfl) (adv [] [([], 1, .ret, (stOf (go (k + 3) 59 1 38 (adv [([], 1, 4, .eq (pI (v_4.length : Int))), ([], 1, 5, .eq (pB true)), ([], 2, 4, .elem [(pS y_1)]), ([], 2, 6, .ret (.tup [(pS r_1), (pB r_2)])), ([], 3, 2, .eq (pB false)), ([], 3, 5, .eq (pB false)), ([], 5, 1, .retS (pS r_3) [some ⟨3, 134, [[(pS r_4), (.list 1 false (r_5.map cS)), (.row [1, TAG] 1 0 r_6.length)]], false, false⟩, some ⟨2, 274, (r_6.map FlagD.c), true, true⟩] [0, 0]), ([], 6, 1, .eq (pB true))]) optionTakerAll_L1 (optionTakerAll_S1 (.inr ((v_3, v_4, v_5)))))))]) (ex := .ret) (r := ((.v .nilIface), [some ⟨3, 134, [[(pS r_4), (.list 1 false (r_5.map cS)), (.row [1, TAG] 1 0 r_6.length)]], false, false⟩, some ⟨2, 274, (r_6.map FlagD.c), true, true⟩], [0, 0])) (by kernel_rfl) rfl (by kernel_rfl) (allC q5 allN) (by kernel_rfl)
            · obtain ⟨X_3, q13, q2⟩ := bnd_some q2
              rcases X_3 with ⟨r_7, r_8, r_9⟩ | ⟨r_10, r_11, r_12⟩ | ⟨r_13, r_14, r_15⟩ | ⟨r_16, r_17, r_18⟩ | ⟨r_19, r_20, r_21⟩ | ⟨r_22, r_23, r_24⟩
              · try dsimp only at q2
                cases q2
                try dsimp only at h
                have q4 := run_go (k := (k + 3)) (f := 59) (r0 := 1) (nt := 38) (c := optionTakerAll_L1) (σ := (optionTakerAll_S1 (.inr ((v_3, v_4, v_5))))) (adv [([], 1, 4, .eq (pI (v_4.length : Int))), ([], 1, 5, .eq (pB true)), ([], 2, 4, .elem [(pS y_1)]), ([], 2, 6, .ret (.tup [(pS r_1), (pB r_2)])), ([], 3, 2, .eq (pB false)), ([], 3, 5, .eq (pB false)), ([], 5, 1, .retS (pS r_3) [some ⟨3, 134, [[(pS r_4), (.list 1 false (r_5.map cS)), (.row [1, TAG] 1 0 r_6.length)]], false, false⟩, some ⟨2, 274, (r_6.map FlagD.c), true, true⟩] [0, 0]), ([], 6, 1, .eq (pB false)), ([], 8, 2, .retS (.ifc 412 (.far 0)) [some ⟨3, 134, [[(pS r_7), (.list 1 false (r_8.map cS)), (.row [1, TAG] 1 0 r_9.length)]], false, false⟩, some ⟨2, 274, (r_9.map FlagD.c), true, true⟩] [0, 0])]) (ex := .ret) (by kernel_rfl) (by kernel_rfl) (allC (len_ob (rfl : (v_4.map cS) = v_4.map cS)) (allC (cg q6) (allC (gt_list (c := cS) q7) (allC (stringsCutPrefix_ok k y_1 (bs [45]) _ q8) (allC (cg q9) (allC (cg q10) (allC (optionTakerNext2_ok (k + 2) v_3 v_4 v_5 _ q11) (allC (cg q12) (allC (optionTakerGroup2_ok (k + 1) r_1 r_4 r_5 r_6 _ q13) allN)))))))))
                have q5 := q3 _ _ (by intro e; cases e) q4
                obtain rfl := Option.some.inj h
                exact retS_go (k := (k + 3)) (n := 1) Tryz.func59 Tryz.ntmps59 rfl (by kernel_rfl) (by kernel_rfl) (lb rfl) (adv [] [([], 1, .ret, (stOf (go (k + 3) 59 1 38 (adv [([], 1, 4, .eq (pI (v_4.length : Int))), ([], 1, 5, .eq (pB true)), ([], 2, 4, .elem [(pS y_1)]), ([], 2, 6, .ret (.tup [(pS r_1), (pB r_2)])), ([], 3, 2, .eq (pB false)), ([], 3, 5, .eq (pB false)), ([], 5, 1, .retS (pS r_3) [some ⟨3, 134, [[(pS r_4), (.list 1 false (r_5.map cS)), (.row [1, TAG] 1 0 r_6.length)]], false, false⟩, some ⟨2, 274, (r_6.map FlagD.c), true, true⟩] [0, 0]), ([], 6, 1, .eq (pB false)), ([], 8, 2, .retS (.ifc 412 (.far 0)) [some ⟨3, 134, [[(pS r_7), (.list 1 false (r_8.map cS)), (.row [1, TAG] 1 0 r_9.length)]], false, false⟩, some ⟨2, 274, (r_9.map FlagD.c), true, true⟩] [0, 0])]) optionTakerAll_L1 (optionTakerAll_S1 (.inr ((v_3, v_4, v_5)))))))]) (ex := .ret) (r := ((.ifc 412 (.far 0)), [some ⟨3, 134, [[(pS r_7), (.list 1 false (r_8.map cS)), (.row [1, TAG] 1 0 r_9.length)]], false, false⟩, some ⟨2, 274, (r_9.map FlagD.c), true, true⟩], [0, 0])) (by kernel_rfl) rfl (by kernel_rfl) (allC q5 allN) (by kernel_rfl)
              · try dsimp only at q2
                cases q2
                try dsimp only at h
                have q4 := run_go (k := (k + 3)) (f := 59) (r0 := 1) (nt := 38) (c := optionTakerAll_L1) (σ := (optionTakerAll_S1 (.inr ((v_3, v_4, v_5))))) (adv [([], 1, 4, .eq (pI (v_4.length : Int))), ([], 1, 5, .eq (pB true)), ([], 2, 4, .elem [(pS y_1)]), ([], 2, 6, .ret (.tup [(pS r_1), (pB r_2)])), ([], 3, 2, .eq (pB false)), ([], 3, 5, .eq (pB false)), ([], 5, 1, .retS (pS r_3) [some ⟨3, 134, [[(pS r_4), (.list 1 false (r_5.map cS)), (.row [1, TAG] 1 0 r_6.length)]], false, false⟩, some ⟨2, 274, (r_6.map FlagD.c), true, true⟩] [0, 0]), ([], 6, 1, .eq (pB false)), ([], 8, 2, .retS (.ifc 412 (.far 1)) [some ⟨3, 134, [[(pS r_10), (.list 1 false (r_11.map cS)), (.row [1, TAG] 1 0 r_12.length)]], false, false⟩, some ⟨2, 274, (r_12.map FlagD.c), true, true⟩] [0, 0])]) (ex := .ret) (by kernel_rfl) (by kernel_rfl) (allC (len_ob (rfl : (v_4.map cS) = v_4.map cS)) (allC (cg q6) (allC (gt_list (c := cS) q7) (allC (stringsCutPrefix_ok k y_1 (bs [45]) _ q8) (allC (cg q9) (allC (cg q10) (allC (optionTakerNext2_ok (k + 2) v_3 v_4 v_5 _ q11) (allC (cg q12) (allC (optionTakerGroup2_ok (k + 1) r_1 r_4 r_5 r_6 _ q13) allN)))))))))
                have q5 := q3 _ _ (by intro e; cases e) q4
                obtain rfl := Option.some.inj h
                exact retS_go (k := (k + 3)) (n := 1) Tryz.func59 Tryz.ntmps59 rfl (by kernel_rfl) (by kernel_rfl) (lb rfl) (adv [] [([], 1, .ret, (stOf (go (k + 3) 59 1 38 (adv [([], 1, 4, .eq (pI (v_4.length : Int))), ([], 1, 5, .eq (pB true)), ([], 2, 4, .elem [(pS y_1)]), ([], 2, 6, .ret (.tup [(pS r_1), (pB r_2)])), ([], 3, 2, .eq (pB false)), ([], 3, 5, .eq (pB false)), ([], 5, 1, .retS (pS r_3) [some ⟨3, 134, [[(pS r_4), (.list 1 false (r_5.map cS)), (.row [1, TAG] 1 0 r_6.length)]], false, false⟩, some ⟨2, 274, (r_6.map FlagD.c), true, true⟩] [0, 0]), ([], 6, 1, .eq (pB false)), ([], 8, 2, .retS (.ifc 412 (.far 1)) [some ⟨3, 134, [[(pS r_10), (.list 1 false (r_11.map cS)), (.row [1, TAG] 1 0 r_12.length)]], false, false⟩, some ⟨2, 274, (r_12.map FlagD.c), true, true⟩] [0, 0])]) optionTakerAll_L1 (optionTakerAll_S1 (.inr ((v_3, v_4, v_5)))))))]) (ex := .ret) (r := ((.ifc 412 (.far 1)), [some ⟨3, 134, [[(pS r_10), (.list 1 false (r_11.map cS)), (.row [1, TAG] 1 0 r_12.length)]], false, false⟩, some ⟨2, 274, (r_12.map FlagD.c), true, true⟩], [0, 0])) (by kernel_rfl) rfl (by kernel_rfl) (allC q5 allN) (by kernel_rfl)
              · try dsimp only at q2
                cases q2
              · try dsimp only at q2
                cases q2
                try dsimp only at h
                have q4 := run_go (k := (k + 3)) (f := 59) (r0 := 1) (nt := 38) (c := optionTakerAll_L1) (σ := (optionTakerAll_S1 (.inr ((v_3, v_4, v_5))))) (adv [([], 1, 4, .eq (pI (v_4.length : Int))), ([], 1, 5, .eq (pB true)), ([], 2, 4, .elem [(pS y_1)]), ([], 2, 6, .ret (.tup [(pS r_1), (pB r_2)])), ([], 3, 2, .eq (pB false)), ([], 3, 5, .eq (pB false)), ([], 5, 1, .retS (pS r_3) [some ⟨3, 134, [[(pS r_4), (.list 1 false (r_5.map cS)), (.row [1, TAG] 1 0 r_6.length)]], false, false⟩, some ⟨2, 274, (r_6.map FlagD.c), true, true⟩] [0, 0]), ([], 6, 1, .eq (pB false)), ([], 8, 2, .retS (.ifc 412 (.far 0)) [some ⟨3, 134, [[(pS r_16), (.list 1 false (r_17.map cS)), (.row [2, TAG] 1 0 r_18.length)]], false, false⟩, none, some ⟨2, 274, (r_18.map FlagD.c), true, true⟩] [0, 0, 0])]) (ex := .ret) (by kernel_rfl) (by kernel_rfl) (allC (len_ob (rfl : (v_4.map cS) = v_4.map cS)) (allC (cg q6) (allC (gt_list (c := cS) q7) (allC (stringsCutPrefix_ok k y_1 (bs [45]) _ q8) (allC (cg q9) (allC (cg q10) (allC (optionTakerNext2_ok (k + 2) v_3 v_4 v_5 _ q11) (allC (cg q12) (allC (optionTakerGroup2_ok (k + 1) r_1 r_4 r_5 r_6 _ q13) allN)))))))))
                have q5 := q3 _ _ (by intro e; cases e) q4
                obtain rfl := Option.some.inj h
                exact retS_go (k := (k + 3)) (n := 1) Tryz.func59 Tryz.ntmps59 rfl (by kernel_rfl) (by kernel_rfl) (lb rfl) (adv [] [([], 1, .ret, (stOf (go (k + 3) 59 1 38 (adv [([], 1, 4, .eq (pI (v_4.length : Int))), ([], 1, 5, .eq (pB true)), ([], 2, 4, .elem [(pS y_1)]), ([], 2, 6, .ret (.tup [(pS r_1), (pB r_2)])), ([], 3, 2, .eq (pB false)), ([], 3, 5, .eq (pB false)), ([], 5, 1, .retS (pS r_3) [some ⟨3, 134, [[(pS r_4), (.list 1 false (r_5.map cS)), (.row [1, TAG] 1 0 r_6.length)]], false, false⟩, some ⟨2, 274, (r_6.map FlagD.c), true, true⟩] [0, 0]), ([], 6, 1, .eq (pB false)), ([], 8, 2, .retS (.ifc 412 (.far 0)) [some ⟨3, 134, [[(pS r_16), (.list 1 false (r_17.map cS)), (.row [2, TAG] 1 0 r_18.length)]], false, false⟩, none, some ⟨2, 274, (r_18.map FlagD.c), true, true⟩] [0, 0, 0])]) optionTakerAll_L1 (optionTakerAll_S1 (.inr ((v_3, v_4, v_5)))))))]) (ex := .ret) (r := ((.ifc 412 (.far 0)), [some ⟨3, 134, [[(pS r_16), (.list 1 false (r_17.map cS)), (.row [1, TAG] 1 0 r_18.length)]], false, false⟩, some ⟨2, 274, (r_18.map FlagD.c), true, true⟩], [0, 0])) (by kernel_rfl) rfl (by kernel_rfl) (allC q5 allN) (by kernel_rfl)
              · try dsimp only at q2
                cases q2
                try dsimp only at h
                have q4 := run_go (k := (k + 3)) (f := 59) (r0 := 1) (nt := 38) (c := optionTakerAll_L1) (σ := (optionTakerAll_S1 (.inr ((v_3, v_4, v_5))))) (adv [([], 1, 4, .eq (pI (v_4.length : Int))), ([], 1, 5, .eq (pB true)), ([], 2, 4, .elem [(pS y_1)]), ([], 2, 6, .ret (.tup [(pS r_1), (pB r_2)])), ([], 3, 2, .eq (pB false)), ([], 3, 5, .eq (pB false)), ([], 5, 1, .retS (pS r_3) [some ⟨3, 134, [[(pS r_4), (.list 1 false (r_5.map cS)), (.row [1, TAG] 1 0 r_6.length)]], false, false⟩, some ⟨2, 274, (r_6.map FlagD.c), true, true⟩] [0, 0]), ([], 6, 1, .eq (pB false)), ([], 8, 2, .retS (.ifc 412 (.far 1)) [some ⟨3, 134, [[(pS r_19), (.list 1 false (r_20.map cS)), (.row [2, TAG] 1 0 r_21.length)]], false, false⟩, none, some ⟨2, 274, (r_21.map FlagD.c), true, true⟩] [0, 0, 0])]) (ex := .ret) (by kernel_rfl) (by kernel_rfl) (allC (len_ob (rfl : (v_4.map cS) = v_4.map cS)) (allC (cg q6) (allC (gt_list (c := cS) q7) (allC (stringsCutPrefix_ok k y_1 (bs [45]) _ q8) (allC (cg q9) (allC (cg q10) (allC (optionTakerNext2_ok (k + 2) v_3 v_4 v_5 _ q11) (allC (cg q12) (allC (optionTakerGroup2_ok (k + 1) r_1 r_4 r_5 r_6 _ q13) allN)))))))))
                have q5 := q3 _ _ (by intro e; cases e) q4
                obtain rfl := Option.some.inj h
                exact retS_go (k := (k + 3)) (n := 1) Tryz.func59 Tryz.ntmps59 rfl (by kernel_rfl) (by kernel_rfl) (lb rfl) (adv [] [([], 1, .ret, (stOf (go (k + 3) 59 1 38 (adv [([], 1, 4, .eq (pI (v_4.length : Int))), ([], 1, 5, .eq (pB true)), ([], 2, 4, .elem [(pS y_1)]), ([], 2, 6, .ret (.tup [(pS r_1), (pB r_2)])), ([], 3, 2, .eq (pB false)), ([], 3, 5, .eq (pB false)), ([], 5, 1, .retS (pS r_3) [some ⟨3, 134, [[(pS r_4), (.list 1 false (r_5.map cS)), (.row [1, TAG] 1 0 r_6.length)]], false, false⟩, some ⟨2, 274, (r_6.map FlagD.c), true, true⟩] [0, 0]), ([], 6, 1, .eq (pB false)), ([], 8, 2, .retS (.ifc 412 (.far 1)) [some ⟨3, 134, [[(pS r_19), (.list 1 false (r_20.map cS)), (.row [2, TAG] 1 0 r_21.length)]], false, false⟩, none, some ⟨2, 274, (r_21.map FlagD.c), true, true⟩] [0, 0, 0])]) optionTakerAll_L1 (optionTakerAll_S1 (.inr ((v_3, v_4, v_5)))))))]) (ex := .ret) (r := ((.ifc 412 (.far 1)), [some ⟨3, 134, [[(pS r_19), (.list 1 false (r_20.map cS)), (.row [1, TAG] 1 0 r_21.length)]], false, false⟩, some ⟨2, 274, (r_21.map FlagD.c), true, true⟩], [0, 0])) (by kernel_rfl) rfl (by kernel_rfl) (allC q5 allN) (by kernel_rfl)
              · try dsimp only at q2
                cases q2
    · cases q2
      try dsimp only at h
      have q4 := run_go (k := (k + 3)) (f := 59) (r0 := 1) (nt := 38) (c := optionTakerAll_L1) (σ := (optionTakerAll_S1 (.inr ((v_3, v_4, v_5))))) (adv [([], 1, 4, .eq (pI (v_4.length : Int))), ([], 1, 5, .eq (pB false))]) (ex := (.exit 0)) (by kernel_rfl) (by kernel_rfl) (allC (len_ob (rfl : (v_4.map cS) = v_4.map cS)) (allC (cg q6) allN))
      have q5 := q3 _ _ (by intro e; cases e) q4
      obtain rfl := Option.some.inj h
      exact retS_go (k := (k + 3)) (n := 1) Tryz.func59 Tryz.ntmps59 rfl (by kernel_rfl) (by kernel_rfl) (lb rfl) (adv [] [([], 1, (.exit 0), (stOf (go (k + 3) 59 1 38 (adv [([], 1, 4, .eq (pI (v_4.length : Int))), ([], 1, 5, .eq (pB false))]) optionTakerAll_L1 (optionTakerAll_S1 (.inr ((v_3, v_4, v_5)))))))]) (ex := .ret) (r := ((.v .nilIface), [some ⟨3, 134, [[(pS v_3), (.list 1 false (v_4.map cS)), (.row [1, TAG] 1 0 v_5.length)]], false, false⟩, some ⟨2, 274, (v_5.map FlagD.c), true, true⟩], [0, 0])) (by kernel_rfl) rfl (by kernel_rfl) (allC q5 allN) (by kernel_rfl)
end Go.Proofs.YtaenhodkpidocaaGreatDoor.Den
namespace Go.Proofs.YtaenhodkpidocaaGreatDoor.Den
open Go Go.RowKit
def optionParse (spec : ByteArray) (argv : (List ByteArray)) : Option ((List FlagD) × (List ByteArray) × Int) :=
 grd (room (argv.length) 16) <|
 (optionTakerAll spec argv).bind fun X_1 => match X_1 with
 | .inl (r_1, r_2) => (
 some ([], r_2, (0 : Int))
 )
 | .inr (.inl (r_3, r_4)) => (
 some ([], [], (30 : Int))
 )
 | .inr (.inr (.inl (r_5, r_6))) => (
 some ([], [], (31 : Int))
 )
 | .inr (.inr (.inr (.inl (r_7, r_8, r_9)))) => (
 some ([], [], (30 : Int))
 )
 | .inr (.inr (.inr (.inr (.inl (r_10, r_11, r_12))))) => (
 some ([], [], (31 : Int))
 )
 | .inr (.inr (.inr (.inr (.inr ((r_13, r_14, r_15)))))) => (
 some (r_15, r_14, (0 : Int))
 )
set_option maxRecDepth 100000 in
theorem optionParse_ok (k : Nat) (spec : ByteArray) (argv : (List ByteArray)) (r : ((List FlagD) × (List ByteArray) × Int)) (h : optionParse spec argv = some r) : run0 (k + 5) 25 [(pS spec), (.list 1 false (argv.map cS))] = some (.tup [(.list 2 false (r.1.map FlagD.c)), (.list 1 false (r.2.1.map cS)), (pI r.2.2)]) := by
  unfold optionParse at h
  obtain ⟨q1, h⟩ := grd_some h
  obtain ⟨X_1, q2, h⟩ := bnd_some h
  rcases X_1 with ⟨r_1, r_2⟩ | ⟨r_3, r_4⟩ | ⟨r_5, r_6⟩ | ⟨r_7, r_8, r_9⟩ | ⟨r_10, r_11, r_12⟩ | ⟨r_13, r_14, r_15⟩
  · try dsimp only at h
    obtain rfl := Option.some.inj h
    exact ret_go (k := (k + 4)) Tryz.func25 Tryz.ntmps25 (by kernel_rfl) (by kernel_rfl) (lb rfl) (adv [([], 1, 2, .ret (.list 1 false (argv.map cS))), ([], 2, 1, .retS (.v .nilIface) [some ⟨3, 134, [[(pS r_1), (.list 1 false (r_2.map cS)), (.v (.slice none 0 0))]], true, false⟩] [0])]) (ex := .ret) (r := (.tup [(.list 2 false []), (.list 1 false (r_2.map cS)), (pI (0 : Int))])) (by kernel_rfl) rfl (by kernel_rfl) (allC (cloneS_ok (k + 4) (rfl : (argv.map cS) = argv.map cS) q1) (allC (optionTakerAll_ok k spec argv _ q2) allN)) (by kernel_rfl) allN
  · try dsimp only at h
    obtain rfl := Option.some.inj h
    exact ret_go (k := (k + 4)) Tryz.func25 Tryz.ntmps25 (by kernel_rfl) (by kernel_rfl) (lb rfl) (adv [([], 1, 2, .ret (.list 1 false (argv.map cS))), ([], 2, 1, .retS (.ifc 412 (.far 0)) [some ⟨3, 134, [[(pS r_3), (.list 1 false (r_4.map cS)), (.v (.slice none 0 0))]], true, false⟩] [0])]) (ex := .ret) (r := (.tup [(.list 2 false []), (.list 1 false []), (pI (30 : Int))])) (by kernel_rfl) rfl (by kernel_rfl) (allC (cloneS_ok (k + 4) (rfl : (argv.map cS) = argv.map cS) q1) (allC (optionTakerAll_ok k spec argv _ q2) allN)) (by kernel_rfl) allN
  · try dsimp only at h
    obtain rfl := Option.some.inj h
    exact ret_go (k := (k + 4)) Tryz.func25 Tryz.ntmps25 (by kernel_rfl) (by kernel_rfl) (lb rfl) (adv [([], 1, 2, .ret (.list 1 false (argv.map cS))), ([], 2, 1, .retS (.ifc 412 (.far 1)) [some ⟨3, 134, [[(pS r_5), (.list 1 false (r_6.map cS)), (.v (.slice none 0 0))]], true, false⟩] [0])]) (ex := .ret) (r := (.tup [(.list 2 false []), (.list 1 false []), (pI (31 : Int))])) (by kernel_rfl) rfl (by kernel_rfl) (allC (cloneS_ok (k + 4) (rfl : (argv.map cS) = argv.map cS) q1) (allC (optionTakerAll_ok k spec argv _ q2) allN)) (by kernel_rfl) allN
  · try dsimp only at h
    obtain rfl := Option.some.inj h
    exact ret_go (k := (k + 4)) Tryz.func25 Tryz.ntmps25 (by kernel_rfl) (by kernel_rfl) (lb rfl) (adv [([], 1, 2, .ret (.list 1 false (argv.map cS))), ([], 2, 1, .retS (.ifc 412 (.far 0)) [some ⟨3, 134, [[(pS r_7), (.list 1 false (r_8.map cS)), (.row [1, TAG] 1 0 r_9.length)]], false, false⟩, some ⟨2, 274, (r_9.map FlagD.c), true, true⟩] [0, 0])]) (ex := .ret) (r := (.tup [(.list 2 false []), (.list 1 false []), (pI (30 : Int))])) (by kernel_rfl) rfl (by kernel_rfl) (allC (cloneS_ok (k + 4) (rfl : (argv.map cS) = argv.map cS) q1) (allC (optionTakerAll_ok k spec argv _ q2) allN)) (by kernel_rfl) allN
  · try dsimp only at h
    obtain rfl := Option.some.inj h
    exact ret_go (k := (k + 4)) Tryz.func25 Tryz.ntmps25 (by kernel_rfl) (by kernel_rfl) (lb rfl) (adv [([], 1, 2, .ret (.list 1 false (argv.map cS))), ([], 2, 1, .retS (.ifc 412 (.far 1)) [some ⟨3, 134, [[(pS r_10), (.list 1 false (r_11.map cS)), (.row [1, TAG] 1 0 r_12.length)]], false, false⟩, some ⟨2, 274, (r_12.map FlagD.c), true, true⟩] [0, 0])]) (ex := .ret) (r := (.tup [(.list 2 false []), (.list 1 false []), (pI (31 : Int))])) (by kernel_rfl) rfl (by kernel_rfl) (allC (cloneS_ok (k + 4) (rfl : (argv.map cS) = argv.map cS) q1) (allC (optionTakerAll_ok k spec argv _ q2) allN)) (by kernel_rfl) allN
  · try dsimp only at h
    obtain rfl := Option.some.inj h
    exact ret_go (k := (k + 4)) Tryz.func25 Tryz.ntmps25 (by kernel_rfl) (by kernel_rfl) (lb rfl) (adv [([], 1, 2, .ret (.list 1 false (argv.map cS))), ([], 2, 1, .retS (.v .nilIface) [some ⟨3, 134, [[(pS r_13), (.list 1 false (r_14.map cS)), (.row [1, TAG] 1 0 r_15.length)]], false, false⟩, some ⟨2, 274, (r_15.map FlagD.c), true, true⟩] [0, 0])]) (ex := .ret) (r := (.tup [(.list 2 false (r_15.map FlagD.c)), (.list 1 false (r_14.map cS)), (pI (0 : Int))])) (by kernel_rfl) rfl (by kernel_rfl) (allC (cloneS_ok (k + 4) (rfl : (argv.map cS) = argv.map cS) q1) (allC (optionTakerAll_ok k spec argv _ q2) allN)) (by kernel_rfl) (allC (row_ok (rfl : (r_15.map FlagD.c) = r_15.map FlagD.c) (rfl : r_15.length = r_15.length)) allN)
def jobFail (j : JobD) (path : ByteArray) (e : Int) : Option JobD :=
 grd (¬ (((path.size + (bs [58, 32, 101, 114, 114, 111, 114, 32]).size : Nat) : Int) > IntKind.i64.max)) <|
 (itoaX e).bind fun r_1 =>
 grd (¬ ((((path ++ (bs [58, 32, 101, 114, 114, 111, 114, 32])).size + r_1.size : Nat) : Int) > IntKind.i64.max)) <|
 some (JobD.mk j.kind j.p j.phase j.fd j.nF j.modeF j.tries j.atF j.flags j.path j.path2 j.text j.names j.stack j.draws true (1 : Int) ((path ++ (bs [58, 32, 101, 114, 114, 111, 114, 32])) ++ r_1) e)
set_option maxRecDepth 100000 in
theorem jobFail_ok (k : Nat) (j : JobD) (path : ByteArray) (e : Int) (r : JobD) (h : jobFail j path e = some r) : run0 (k + 1) 26 [(JobD.a j), (pS path), (pI e)] = some (JobD.a r) := by
  unfold jobFail at h
  obtain ⟨q1, h⟩ := grd_some h
  obtain ⟨r_1, q2, h⟩ := bnd_some h
  obtain ⟨q3, h⟩ := grd_some h
  obtain rfl := Option.some.inj h
  exact ret_go (k := k) Tryz.func26 Tryz.ntmps26 (by kernel_rfl) (by kernel_rfl) (lb rfl) (adv [([], 1, 2, .cat), ([], 1, 4, .ret (pS r_1)), ([], 1, 5, .cat)]) (ex := .ret) (r := (.agg [(pI j.kind), (pI j.p), (pI j.phase), (pI j.fd), (pI j.nF), (pI j.modeF), (pI j.tries), (pI j.atF), (pI j.flags), (pS j.path), (pS j.path2), (pS j.text), (.list 1 false (j.names.map cS)), (.list 3 false (j.stack.map FrameD.c)), (.list 1 false (j.draws.map cI)), (pB true), (pI (1 : Int)), (pS ((path ++ (bs [58, 32, 101, 114, 114, 111, 114, 32])) ++ r_1)), (pI e)])) (by kernel_rfl) rfl (by kernel_rfl) (allC q1 (allC (itoaX_ok k e _ q2) (allC q3 allN))) (by kernel_rfl) allN
def jobDraw (j : JobD) (n : Int) : Option ((List Int) × JobD) :=
 grd (0 ≤ (if (0 : Int) > n then (0 : Int) else n) ∧ (if (0 : Int) > n then (0 : Int) else n) ≤ (if (0 : Int) > n then (0 : Int) else n) ∧ (8 : Int) * (if (0 : Int) > n then (0 : Int) else n) ≤ 281474976710656 ∧ (if (0 : Int) > n then (0 : Int) else n) ≤ 9223372036854775807) <|
 bif (decide (j.atF < (j.draws.length : Int))) then (
 grd (0 ≤ j.atF ∧ j.atF ≤ (j.draws.length : Int) ∧ (j.draws.length : Int) ≤ (j.draws.length : Int)) <|
 some ((copyL (List.replicate (((if (0 : Int) > n then (0 : Int) else n)).toNat) (0 : Int)) (j.draws.drop ((j.atF).toNat))), (JobD.mk j.kind j.p j.phase j.fd j.nF j.modeF j.tries (w64 (j.atF + n)) j.flags j.path j.path2 j.text j.names j.stack j.draws j.done j.exit j.out j.e))
 ) else (
 some ((List.replicate (((if (0 : Int) > n then (0 : Int) else n)).toNat) (0 : Int)), (JobD.mk j.kind j.p j.phase j.fd j.nF j.modeF j.tries (w64 (j.atF + n)) j.flags j.path j.path2 j.text j.names j.stack j.draws j.done j.exit j.out j.e))
 )
set_option maxRecDepth 100000 in
theorem jobDraw_ok (k : Nat) (j : JobD) (n : Int) (r : ((List Int) × JobD)) (h : jobDraw j n = some r) : run0 (k + 1) 64 [(JobD.a j), (pI n)] = some (.tup [(.list 1 false (r.1.map cI)), (JobD.a r.2)]) := by
  unfold jobDraw at h
  obtain ⟨q1, h⟩ := grd_some h
  rcases bif_some h with ⟨q2, h⟩ | ⟨q2, h⟩
  · obtain ⟨q3, h⟩ := grd_some h
    obtain rfl := Option.some.inj h
    exact (ret_go (k := k) Tryz.func64 Tryz.ntmps64 (by kernel_rfl) (by kernel_rfl) (lb rfl) (adv [([], 1, 2, .mk), ([], 2, 4, .eq (pI (j.draws.length : Int))), ([], 2, 5, .eq (pB true)), ([], 3, 5, .sub false), ([], 3, 6, .cp)]) (ex := .ret) (r := (.tup [(.list 1 false ((List.replicate (((if (0 : Int) > n then (0 : Int) else n)).toNat) [(pI (0 : Int))]).take 0 ++ (((j.draws.map cI).drop ((j.atF).toNat)).take ((j.draws.map cI).length - (j.atF).toNat)).take (min (((j.draws.map cI).drop ((j.atF).toNat)).take ((j.draws.map cI).length - (j.atF).toNat)).length (((if (0 : Int) > n then (0 : Int) else n)).toNat)) ++ (List.replicate (((if (0 : Int) > n then (0 : Int) else n)).toNat) [(pI (0 : Int))]).drop (0 + (min (((j.draws.map cI).drop ((j.atF).toNat)).take ((j.draws.map cI).length - (j.atF).toNat)).length (((if (0 : Int) > n then (0 : Int) else n)).toNat))))), (.agg [(pI j.kind), (pI j.p), (pI j.phase), (pI j.fd), (pI j.nF), (pI j.modeF), (pI j.tries), (pI (w64 (j.atF + n))), (pI j.flags), (pS j.path), (pS j.path2), (pS j.text), (.list 1 false (j.names.map cS)), (.list 3 false (j.stack.map FrameD.c)), (.list 1 false (j.draws.map cI)), (pB j.done), (pI j.exit), (pS j.out), (pI j.e)])])) (by kernel_rfl) rfl (by kernel_rfl) (allC q1 (allC (len_ob (rfl : (j.draws.map cI) = j.draws.map cI)) (allC (cg q2) (allC (sub_ok1 (c := cI) q3) (allC (cp_ok ((enc_rep (c := cI) (((if (0 : Int) > n then (0 : Int) else n)).toNat) (0 : Int)) : (List.replicate (((if (0 : Int) > n then (0 : Int) else n)).toNat) [(pI (0 : Int))]) = (List.replicate (((if (0 : Int) > n then (0 : Int) else n)).toNat) (0 : Int)).map cI) (List.length_replicate.symm : ((if (0 : Int) > n then (0 : Int) else n)).toNat = (List.replicate (((if (0 : Int) > n then (0 : Int) else n)).toNat) (0 : Int)).length)) allN))))) (by kernel_rfl) (allC (row_ok ((enc_cp ((enc_rep (c := cI) (((if (0 : Int) > n then (0 : Int) else n)).toNat) (0 : Int)) : (List.replicate (((if (0 : Int) > n then (0 : Int) else n)).toNat) [(pI (0 : Int))]) = (List.replicate (((if (0 : Int) > n then (0 : Int) else n)).toNat) (0 : Int)).map cI) ((enc_drop rfl ((j.atF).toNat)) : (((j.draws.map cI).drop ((j.atF).toNat)).take ((j.draws.map cI).length - (j.atF).toNat)) = (j.draws.drop ((j.atF).toNat)).map cI) (List.length_replicate.symm : ((if (0 : Int) > n then (0 : Int) else n)).toNat = (List.replicate (((if (0 : Int) > n then (0 : Int) else n)).toNat) (0 : Int)).length)) : ((List.replicate (((if (0 : Int) > n then (0 : Int) else n)).toNat) [(pI (0 : Int))]).take 0 ++ (((j.draws.map cI).drop ((j.atF).toNat)).take ((j.draws.map cI).length - (j.atF).toNat)).take (min (((j.draws.map cI).drop ((j.atF).toNat)).take ((j.draws.map cI).length - (j.atF).toNat)).length (((if (0 : Int) > n then (0 : Int) else n)).toNat)) ++ (List.replicate (((if (0 : Int) > n then (0 : Int) else n)).toNat) [(pI (0 : Int))]).drop (0 + (min (((j.draws.map cI).drop ((j.atF).toNat)).take ((j.draws.map cI).length - (j.atF).toNat)).length (((if (0 : Int) > n then (0 : Int) else n)).toNat)))) = (copyL (List.replicate (((if (0 : Int) > n then (0 : Int) else n)).toNat) (0 : Int)) (j.draws.drop ((j.atF).toNat))).map cI) ((len_cp (List.length_replicate.symm : ((if (0 : Int) > n then (0 : Int) else n)).toNat = (List.replicate (((if (0 : Int) > n then (0 : Int) else n)).toNat) (0 : Int)).length) (j.draws.drop ((j.atF).toNat))) : ((if (0 : Int) > n then (0 : Int) else n)).toNat = (copyL (List.replicate (((if (0 : Int) > n then (0 : Int) else n)).toNat) (0 : Int)) (j.draws.drop ((j.atF).toNat))).length)) allN)).trans (congrArg some (by rw [(show ((List.replicate (((if (0 : Int) > n then (0 : Int) else n)).toNat) [(pI (0 : Int))]).take 0 ++ (((j.draws.map cI).drop ((j.atF).toNat)).take ((j.draws.map cI).length - (j.atF).toNat)).take (min (((j.draws.map cI).drop ((j.atF).toNat)).take ((j.draws.map cI).length - (j.atF).toNat)).length (((if (0 : Int) > n then (0 : Int) else n)).toNat)) ++ (List.replicate (((if (0 : Int) > n then (0 : Int) else n)).toNat) [(pI (0 : Int))]).drop (0 + (min (((j.draws.map cI).drop ((j.atF).toNat)).take ((j.draws.map cI).length - (j.atF).toNat)).length (((if (0 : Int) > n then (0 : Int) else n)).toNat)))) = ((copyL (List.replicate (((if (0 : Int) > n then (0 : Int) else n)).toNat) (0 : Int)) (j.draws.drop ((j.atF).toNat))).map cI) from (enc_cp ((enc_rep (c := cI) (((if (0 : Int) > n then (0 : Int) else n)).toNat) (0 : Int)) : (List.replicate (((if (0 : Int) > n then (0 : Int) else n)).toNat) [(pI (0 : Int))]) = (List.replicate (((if (0 : Int) > n then (0 : Int) else n)).toNat) (0 : Int)).map cI) ((enc_drop rfl ((j.atF).toNat)) : (((j.draws.map cI).drop ((j.atF).toNat)).take ((j.draws.map cI).length - (j.atF).toNat)) = (j.draws.drop ((j.atF).toNat)).map cI) (List.length_replicate.symm : ((if (0 : Int) > n then (0 : Int) else n)).toNat = (List.replicate (((if (0 : Int) > n then (0 : Int) else n)).toNat) (0 : Int)).length)))] <;> rfl))
  · obtain rfl := Option.some.inj h
    exact (ret_go (k := k) Tryz.func64 Tryz.ntmps64 (by kernel_rfl) (by kernel_rfl) (lb rfl) (adv [([], 1, 2, .mk), ([], 2, 4, .eq (pI (j.draws.length : Int))), ([], 2, 5, .eq (pB false))]) (ex := .ret) (r := (.tup [(.list 1 false (List.replicate (((if (0 : Int) > n then (0 : Int) else n)).toNat) [(pI (0 : Int))])), (.agg [(pI j.kind), (pI j.p), (pI j.phase), (pI j.fd), (pI j.nF), (pI j.modeF), (pI j.tries), (pI (w64 (j.atF + n))), (pI j.flags), (pS j.path), (pS j.path2), (pS j.text), (.list 1 false (j.names.map cS)), (.list 3 false (j.stack.map FrameD.c)), (.list 1 false (j.draws.map cI)), (pB j.done), (pI j.exit), (pS j.out), (pI j.e)])])) (by kernel_rfl) rfl (by kernel_rfl) (allC q1 (allC (len_ob (rfl : (j.draws.map cI) = j.draws.map cI)) (allC (cg q2) allN))) (by kernel_rfl) (allC (row_ok ((enc_rep (c := cI) (((if (0 : Int) > n then (0 : Int) else n)).toNat) (0 : Int)) : (List.replicate (((if (0 : Int) > n then (0 : Int) else n)).toNat) [(pI (0 : Int))]) = (List.replicate (((if (0 : Int) > n then (0 : Int) else n)).toNat) (0 : Int)).map cI) (List.length_replicate.symm : ((if (0 : Int) > n then (0 : Int) else n)).toNat = (List.replicate (((if (0 : Int) > n then (0 : Int) else n)).toNat) (0 : Int)).length)) allN)).trans (congrArg some (by rw [(show (List.replicate (((if (0 : Int) > n then (0 : Int) else n)).toNat) [(pI (0 : Int))]) = ((List.replicate (((if (0 : Int) > n then (0 : Int) else n)).toNat) (0 : Int)).map cI) from (enc_rep (c := cI) (((if (0 : Int) > n then (0 : Int) else n)).toNat) (0 : Int)))] <;> rfl))
def routeBase (p : ByteArray) : Option ByteArray :=
 (trimRX p (bs [47])).bind fun r_1 =>
 bif (seq r_1 (bs [])) then (
 bif (!(seq p (bs []))) then (
 some (bs [47])
 ) else (
 (lastIxX r_1 (bs [47])).bind fun r_2 =>
 grd (0 ≤ (w64 (r_2 + (1 : Int))) ∧ (w64 (r_2 + (1 : Int))) ≤ (r_1.size : Int) ∧ (r_1.size : Int) ≤ (r_1.size : Int)) <|
 some (r_1.extract ((w64 (r_2 + (1 : Int)))).toNat r_1.size)
 )
 ) else (
 (lastIxX r_1 (bs [47])).bind fun r_2 =>
 grd (0 ≤ (w64 (r_2 + (1 : Int))) ∧ (w64 (r_2 + (1 : Int))) ≤ (r_1.size : Int) ∧ (r_1.size : Int) ≤ (r_1.size : Int)) <|
 some (r_1.extract ((w64 (r_2 + (1 : Int)))).toNat r_1.size)
 )
set_option maxRecDepth 100000 in
theorem routeBase_ok (k : Nat) (p : ByteArray) (r : ByteArray) (h : routeBase p = some r) : run0 (k + 1) 38 [(pS p)] = some (pS r) := by
  unfold routeBase at h
  obtain ⟨r_1, q1, h⟩ := bnd_some h
  rcases bif_some h with ⟨q2, h⟩ | ⟨q2, h⟩
  · rcases bif_some h with ⟨q3, h⟩ | ⟨q3, h⟩
    · obtain rfl := Option.some.inj h
      exact ret_go (k := k) Tryz.func38 Tryz.ntmps38 (by kernel_rfl) (by kernel_rfl) (lb rfl) (adv [([], 1, 1, .ret (pS r_1)), ([], 2, 2, .eq (pB true)), ([], 2, 5, .eq (pB true))]) (ex := .ret) (r := (pS (bs [47]))) (by kernel_rfl) rfl (by kernel_rfl) (allC (trimRX_ok k p (bs [47]) _ q1) (allC (cg q2) (allC (cg q3) allN))) (by kernel_rfl) allN
    · obtain ⟨r_2, q4, h⟩ := bnd_some h
      obtain ⟨q5, h⟩ := grd_some h
      obtain rfl := Option.some.inj h
      exact ret_go (k := k) Tryz.func38 Tryz.ntmps38 (by kernel_rfl) (by kernel_rfl) (lb rfl) (adv [([], 1, 1, .ret (pS r_1)), ([], 2, 2, .eq (pB true)), ([], 2, 5, .eq (pB false)), ([], 4, 2, .ret (pI r_2)), ([], 4, 4, .sub false)]) (ex := .ret) (r := (pS (r_1.extract ((w64 (r_2 + (1 : Int)))).toNat r_1.size))) (by kernel_rfl) rfl (by kernel_rfl) (allC (trimRX_ok k p (bs [47]) _ q1) (allC (cg q2) (allC (cg q3) (allC (lastIxX_ok k r_1 (bs [47]) _ q4) (allC q5 allN))))) (by kernel_rfl) allN
  · obtain ⟨r_2, q3, h⟩ := bnd_some h
    obtain ⟨q4, h⟩ := grd_some h
    obtain rfl := Option.some.inj h
    exact ret_go (k := k) Tryz.func38 Tryz.ntmps38 (by kernel_rfl) (by kernel_rfl) (lb rfl) (adv [([], 1, 1, .ret (pS r_1)), ([], 2, 2, .eq (pB false)), ([], 4, 2, .ret (pI r_2)), ([], 4, 4, .sub false)]) (ex := .ret) (r := (pS (r_1.extract ((w64 (r_2 + (1 : Int)))).toNat r_1.size))) (by kernel_rfl) rfl (by kernel_rfl) (allC (trimRX_ok k p (bs [47]) _ q1) (allC (cg q2) (allC (lastIxX_ok k r_1 (bs [47]) _ q3) (allC q4 allN)))) (by kernel_rfl) allN
def stringsHasPrefix (s : ByteArray) (prefixF : ByteArray) : Option Bool :=
 (stringsliteHasPrefix s prefixF).bind fun r_1 =>
 some r_1
set_option maxRecDepth 100000 in
theorem stringsHasPrefix_ok (k : Nat) (s : ByteArray) (prefixF : ByteArray) (r : Bool) (h : stringsHasPrefix s prefixF = some r) : run0 (k + 2) 37 [(pS s), (pS prefixF)] = some (pB r) := by
  unfold stringsHasPrefix at h
  obtain ⟨r_1, q1, h⟩ := bnd_some h
  obtain rfl := Option.some.inj h
  exact ret_go (k := (k + 1)) Tryz.func37 Tryz.ntmps37 (by kernel_rfl) (by kernel_rfl) (lb rfl) (adv [([], 1, 2, .ret (pB r_1))]) (ex := .ret) (r := (pB r_1)) (by kernel_rfl) rfl (by kernel_rfl) (allC (stringsliteHasPrefix_ok k s prefixF _ q1) allN) (by kernel_rfl) allN
def routeDir1 (p0 : ByteArray) (p1 : ByteArray) : Option (ByteArray × ByteArray) :=
 bif (!(seq p0 (bs []))) then (
 some (p0, p1)
 ) else (
 (stringsHasPrefix p1 (bs [47])).bind fun r_1 =>
 bif r_1 then (
 some ((bs [47]), p1)
 ) else (
 some ((bs [46]), p1)
 )
 )
def routeDir1_out : (ByteArray × ByteArray) → PV × List (Option Blk) × List Nat
 | (r0, r1) => ((pS r0), [some ⟨1, 9, [[(pS r1)]], true, false⟩], [0])
set_option maxRecDepth 100000 in
theorem routeDir1_ok (k : Nat) (p0 : ByteArray) (p1 : ByteArray) (r : (ByteArray × ByteArray)) (h : routeDir1 p0 p1 = some r) : runS0 (k + 3) 75 [(pS p0), (.ptr [0, TAG] 1 0 0)] [some ⟨1, 9, [[(pS p1)]], true, false⟩] [0] = some (routeDir1_out r) := by
  unfold routeDir1 at h
  rcases bif_some h with ⟨q1, h⟩ | ⟨q1, h⟩
  · obtain rfl := Option.some.inj h
    exact retS_go (k := (k + 2)) (n := 1) Tryz.func75 Tryz.ntmps75 rfl (by kernel_rfl) (by kernel_rfl) (lb rfl) (adv [([], 1, 2, .eq (pB true))]) (ex := .ret) (r := ((pS p0), [some ⟨1, 9, [[(pS p1)]], true, false⟩], [0])) (by kernel_rfl) rfl (by kernel_rfl) (allC (cg q1) allN) (by kernel_rfl)
  · obtain ⟨r_1, q2, h⟩ := bnd_some h
    rcases bif_some h with ⟨q3, h⟩ | ⟨q3, h⟩
    · obtain rfl := Option.some.inj h
      exact retS_go (k := (k + 2)) (n := 1) Tryz.func75 Tryz.ntmps75 rfl (by kernel_rfl) (by kernel_rfl) (lb rfl) (adv [([], 1, 2, .eq (pB false)), ([], 3, 1, .ret (pB r_1)), ([], 3, 2, .eq (pB true))]) (ex := .ret) (r := ((pS (bs [47])), [some ⟨1, 9, [[(pS p1)]], true, false⟩], [0])) (by kernel_rfl) rfl (by kernel_rfl) (allC (cg q1) (allC (stringsHasPrefix_ok k p1 (bs [47]) _ q2) (allC (cg q3) allN))) (by kernel_rfl)
    · obtain rfl := Option.some.inj h
      exact retS_go (k := (k + 2)) (n := 1) Tryz.func75 Tryz.ntmps75 rfl (by kernel_rfl) (by kernel_rfl) (lb rfl) (adv [([], 1, 2, .eq (pB false)), ([], 3, 1, .ret (pB r_1)), ([], 3, 2, .eq (pB false))]) (ex := .ret) (r := ((pS (bs [46])), [some ⟨1, 9, [[(pS p1)]], true, false⟩], [0])) (by kernel_rfl) rfl (by kernel_rfl) (allC (cg q1) (allC (stringsHasPrefix_ok k p1 (bs [47]) _ q2) (allC (cg q3) allN))) (by kernel_rfl)
def routeDir (p : ByteArray) : Option ByteArray :=
 (trimRX p (bs [47])).bind fun r_1 =>
 (lastIxX r_1 (bs [47])).bind fun r_2 =>
 grd (0 ≤ (0 : Int) ∧ (0 : Int) ≤ (w64 (r_2 + (1 : Int))) ∧ (w64 (r_2 + (1 : Int))) ≤ (r_1.size : Int)) <|
 (trimRX (r_1.extract 0 ((w64 (r_2 + (1 : Int)))).toNat) (bs [47])).bind fun r_3 =>
 (routeDir1 r_3 p).bind fun (r_4, r_5) =>
 some r_4
set_option maxRecDepth 100000 in
theorem routeDir_ok (k : Nat) (p : ByteArray) (r : ByteArray) (h : routeDir p = some r) : run0 (k + 4) 40 [(pS p)] = some (pS r) := by
  unfold routeDir at h
  obtain ⟨r_1, q1, h⟩ := bnd_some h
  obtain ⟨r_2, q2, h⟩ := bnd_some h
  obtain ⟨q3, h⟩ := grd_some h
  obtain ⟨r_3, q4, h⟩ := bnd_some h
  obtain ⟨X_1, q5, h⟩ := bnd_some h
  rcases X_1 with ⟨r_4, r_5⟩
  · try dsimp only at h
    obtain rfl := Option.some.inj h
    exact ret_go (k := (k + 3)) Tryz.func40 Tryz.ntmps40 (by kernel_rfl) (by kernel_rfl) (lb rfl) (adv [([], 2, 1, .ret (pS r_1)), ([], 3, 3, .ret (pI r_2)), ([], 3, 5, .sub false), ([], 3, 6, .ret (pS r_3)), ([], 3, 7, .retS (pS r_4) [some ⟨1, 9, [[(pS r_5)]], true, false⟩] [0])]) (ex := .ret) (r := (pS r_4)) (by kernel_rfl) rfl (by kernel_rfl) (allC (trimRX_ok (k + 3) p (bs [47]) _ q1) (allC (lastIxX_ok (k + 3) r_1 (bs [47]) _ q2) (allC q3 (allC (trimRX_ok (k + 3) (r_1.extract 0 ((w64 (r_2 + (1 : Int)))).toNat) (bs [47]) _ q4) (allC (routeDir1_ok k r_3 p _ q5) allN))))) (by kernel_rfl) allN
def stringsliteHasSuffix (s : ByteArray) (suffix : ByteArray) : Option Bool :=
 bif (decide ((s.size : Int) ≥ (suffix.size : Int))) then (
 grd (0 ≤ (w64 ((s.size : Int) - (suffix.size : Int))) ∧ (w64 ((s.size : Int) - (suffix.size : Int))) ≤ (s.size : Int) ∧ (s.size : Int) ≤ (s.size : Int)) <|
 some (seq (s.extract ((w64 ((s.size : Int) - (suffix.size : Int)))).toNat s.size) suffix)
 ) else (
 some false
 )
set_option maxRecDepth 100000 in
theorem stringsliteHasSuffix_ok (k : Nat) (s : ByteArray) (suffix : ByteArray) (r : Bool) (h : stringsliteHasSuffix s suffix = some r) : run0 (k + 1) 204 [(pS s), (pS suffix)] = some (pB r) := by
  unfold stringsliteHasSuffix at h
  rcases bif_some h with ⟨q1, h⟩ | ⟨q1, h⟩
  · obtain ⟨q2, h⟩ := grd_some h
    obtain rfl := Option.some.inj h
    exact ret_go (k := k) Tryz.func204 Tryz.ntmps204 (by kernel_rfl) (by kernel_rfl) (lb rfl) (adv [([], 1, 5, .eq (pB true)), ([], 1, 12, .sub false)]) (ex := .ret) (r := (pB (seq (s.extract ((w64 ((s.size : Int) - (suffix.size : Int)))).toNat s.size) suffix))) (by kernel_rfl) rfl (by kernel_rfl) (allC (cg q1) (allC q2 allN)) (by kernel_rfl) allN
  · obtain rfl := Option.some.inj h
    exact ret_go (k := k) Tryz.func204 Tryz.ntmps204 (by kernel_rfl) (by kernel_rfl) (lb rfl) (adv [([], 1, 5, .eq (pB false))]) (ex := .ret) (r := (pB false)) (by kernel_rfl) rfl (by kernel_rfl) (allC (cg q1) allN) (by kernel_rfl) allN
def stringsliteTrimSuffix (s : ByteArray) (suffix : ByteArray) : Option ByteArray :=
 (stringsliteHasSuffix s suffix).bind fun r_1 =>
 bif r_1 then (
 grd (0 ≤ (0 : Int) ∧ (0 : Int) ≤ (w64 ((s.size : Int) - (suffix.size : Int))) ∧ (w64 ((s.size : Int) - (suffix.size : Int))) ≤ (s.size : Int)) <|
 some (s.extract 0 ((w64 ((s.size : Int) - (suffix.size : Int)))).toNat)
 ) else (
 some s
 )
set_option maxRecDepth 100000 in
theorem stringsliteTrimSuffix_ok (k : Nat) (s : ByteArray) (suffix : ByteArray) (r : ByteArray) (h : stringsliteTrimSuffix s suffix = some r) : run0 (k + 2) 139 [(pS s), (pS suffix)] = some (pS r) := by
  unfold stringsliteTrimSuffix at h
  obtain ⟨r_1, q1, h⟩ := bnd_some h
  rcases bif_some h with ⟨q2, h⟩ | ⟨q2, h⟩
  · revert h; subst q2; intro h
    obtain ⟨q3, h⟩ := grd_some h
    obtain rfl := Option.some.inj h
    exact ret_go (k := (k + 1)) Tryz.func139 Tryz.ntmps139 (by kernel_rfl) (by kernel_rfl) (lb rfl) (adv [([], 1, 2, .ret (pB true)), ([], 2, 6, .sub false)]) (ex := .ret) (r := (pS (s.extract 0 ((w64 ((s.size : Int) - (suffix.size : Int)))).toNat))) (by kernel_rfl) rfl (by kernel_rfl) (allC (stringsliteHasSuffix_ok k s suffix _ q1) (allC q3 allN)) (by kernel_rfl) allN
  · revert h; subst q2; intro h
    obtain rfl := Option.some.inj h
    exact ret_go (k := (k + 1)) Tryz.func139 Tryz.ntmps139 (by kernel_rfl) (by kernel_rfl) (lb rfl) (adv [([], 1, 2, .ret (pB false))]) (ex := .ret) (r := (pS s)) (by kernel_rfl) rfl (by kernel_rfl) (allC (stringsliteHasSuffix_ok k s suffix _ q1) allN) (by kernel_rfl) allN
def stringsTrimSuffix (s : ByteArray) (suffix : ByteArray) : Option ByteArray :=
 (stringsliteTrimSuffix s suffix).bind fun r_1 =>
 some r_1
set_option maxRecDepth 100000 in
theorem stringsTrimSuffix_ok (k : Nat) (s : ByteArray) (suffix : ByteArray) (r : ByteArray) (h : stringsTrimSuffix s suffix = some r) : run0 (k + 3) 74 [(pS s), (pS suffix)] = some (pS r) := by
  unfold stringsTrimSuffix at h
  obtain ⟨r_1, q1, h⟩ := bnd_some h
  obtain rfl := Option.some.inj h
  exact ret_go (k := (k + 2)) Tryz.func74 Tryz.ntmps74 (by kernel_rfl) (by kernel_rfl) (lb rfl) (adv [([], 1, 2, .ret (pS r_1))]) (ex := .ret) (r := (pS r_1)) (by kernel_rfl) rfl (by kernel_rfl) (allC (stringsliteTrimSuffix_ok k s suffix _ q1) allN) (by kernel_rfl) allN
def routeJoin (a : ByteArray) (b : ByteArray) : Option ByteArray :=
 bif (seq a (bs [])) then (
 some b
 ) else (
 (stringsHasPrefix b (bs [47])).bind fun r_1 =>
 bif r_1 then (
 some b
 ) else (
 bif (seq b (bs [])) then (
 some a
 ) else (
 (stringsTrimSuffix a (bs [47])).bind fun r_2 =>
 grd (¬ (((r_2.size + (bs [47]).size : Nat) : Int) > IntKind.i64.max)) <|
 grd (¬ ((((r_2 ++ (bs [47])).size + b.size : Nat) : Int) > IntKind.i64.max)) <|
 some ((r_2 ++ (bs [47])) ++ b)
 )
 )
 )
set_option maxRecDepth 100000 in
theorem routeJoin_ok (k : Nat) (a : ByteArray) (b : ByteArray) (r : ByteArray) (h : routeJoin a b = some r) : run0 (k + 4) 39 [(pS a), (pS b)] = some (pS r) := by
  unfold routeJoin at h
  rcases bif_some h with ⟨q1, h⟩ | ⟨q1, h⟩
  · obtain rfl := Option.some.inj h
    exact ret_go (k := (k + 3)) Tryz.func39 Tryz.ntmps39 (by kernel_rfl) (by kernel_rfl) (lb rfl) (adv [([], 1, 2, .eq (pB true))]) (ex := .ret) (r := (pS b)) (by kernel_rfl) rfl (by kernel_rfl) (allC (cg q1) allN) (by kernel_rfl) allN
  · obtain ⟨r_1, q2, h⟩ := bnd_some h
    rcases bif_some h with ⟨q3, h⟩ | ⟨q3, h⟩
    · obtain rfl := Option.some.inj h
      exact ret_go (k := (k + 3)) Tryz.func39 Tryz.ntmps39 (by kernel_rfl) (by kernel_rfl) (lb rfl) (adv [([], 1, 2, .eq (pB false)), ([], 1, 4, .ret (pB r_1)), ([], 1, 6, .eq (pB true))]) (ex := .ret) (r := (pS b)) (by kernel_rfl) rfl (by kernel_rfl) (allC (cg q1) (allC (stringsHasPrefix_ok (k + 1) b (bs [47]) _ q2) (allC (cg q3) allN))) (by kernel_rfl) allN
    · rcases bif_some h with ⟨q4, h⟩ | ⟨q4, h⟩
      · obtain rfl := Option.some.inj h
        exact ret_go (k := (k + 3)) Tryz.func39 Tryz.ntmps39 (by kernel_rfl) (by kernel_rfl) (lb rfl) (adv [([], 1, 2, .eq (pB false)), ([], 1, 4, .ret (pB r_1)), ([], 1, 6, .eq (pB false)), ([], 3, 2, .eq (pB true))]) (ex := .ret) (r := (pS a)) (by kernel_rfl) rfl (by kernel_rfl) (allC (cg q1) (allC (stringsHasPrefix_ok (k + 1) b (bs [47]) _ q2) (allC (cg q3) (allC (cg q4) allN)))) (by kernel_rfl) allN
      · obtain ⟨r_2, q5, h⟩ := bnd_some h
        obtain ⟨q6, h⟩ := grd_some h
        obtain ⟨q7, h⟩ := grd_some h
        obtain rfl := Option.some.inj h
        exact ret_go (k := (k + 3)) Tryz.func39 Tryz.ntmps39 (by kernel_rfl) (by kernel_rfl) (lb rfl) (adv [([], 1, 2, .eq (pB false)), ([], 1, 4, .ret (pB r_1)), ([], 1, 6, .eq (pB false)), ([], 3, 2, .eq (pB false)), ([], 5, 1, .ret (pS r_2)), ([], 5, 2, .cat), ([], 5, 4, .cat)]) (ex := .ret) (r := (pS ((r_2 ++ (bs [47])) ++ b))) (by kernel_rfl) rfl (by kernel_rfl) (allC (cg q1) (allC (stringsHasPrefix_ok (k + 1) b (bs [47]) _ q2) (allC (cg q3) (allC (cg q4) (allC (stringsTrimSuffix_ok k a (bs [47]) _ q5) (allC q6 (allC q7 allN))))))) (by kernel_rfl) allN
def publishStem (path : ByteArray) : Option ByteArray :=
 (routeBase path).bind fun r_1 =>
 (stringsHasPrefix r_1 (bs [116, 109, 112])).bind fun r_2 =>
 bif r_2 then (
 (routeDir path).bind fun r_3 =>
 (routeJoin r_3 (bs [112, 109, 116, 88, 88, 88])).bind fun r_4 =>
 some r_4
 ) else (
 (routeDir path).bind fun r_3 =>
 (routeJoin r_3 (bs [116, 109, 112, 88, 88, 88])).bind fun r_4 =>
 some r_4
 )
set_option maxRecDepth 100000 in
theorem publishStem_ok (k : Nat) (path : ByteArray) (r : ByteArray) (h : publishStem path = some r) : run0 (k + 5) 11 [(pS path)] = some (pS r) := by
  unfold publishStem at h
  obtain ⟨r_1, q1, h⟩ := bnd_some h
  obtain ⟨r_2, q2, h⟩ := bnd_some h
  rcases bif_some h with ⟨q3, h⟩ | ⟨q3, h⟩
  · revert h; subst q3; intro h
    obtain ⟨r_3, q4, h⟩ := bnd_some h
    obtain ⟨r_4, q5, h⟩ := bnd_some h
    obtain rfl := Option.some.inj h
    exact ret_go (k := (k + 4)) Tryz.func11 Tryz.ntmps11 (by kernel_rfl) (by kernel_rfl) (lb rfl) (adv [([], 2, 1, .ret (pS r_1)), ([], 2, 2, .ret (pB true)), ([], 4, 1, .ret (pS r_3)), ([], 4, 3, .ret (pS r_4))]) (ex := .ret) (r := (pS r_4)) (by kernel_rfl) rfl (by kernel_rfl) (allC (routeBase_ok (k + 3) path _ q1) (allC (stringsHasPrefix_ok (k + 2) r_1 (bs [116, 109, 112]) _ q2) (allC (routeDir_ok k path _ q4) (allC (routeJoin_ok k r_3 (bs [112, 109, 116, 88, 88, 88]) _ q5) allN)))) (by kernel_rfl) allN
  · revert h; subst q3; intro h
    obtain ⟨r_3, q4, h⟩ := bnd_some h
    obtain ⟨r_4, q5, h⟩ := bnd_some h
    obtain rfl := Option.some.inj h
    exact ret_go (k := (k + 4)) Tryz.func11 Tryz.ntmps11 (by kernel_rfl) (by kernel_rfl) (lb rfl) (adv [([], 2, 1, .ret (pS r_1)), ([], 2, 2, .ret (pB false)), ([], 4, 1, .ret (pS r_3)), ([], 4, 3, .ret (pS r_4))]) (ex := .ret) (r := (pS r_4)) (by kernel_rfl) rfl (by kernel_rfl) (allC (routeBase_ok (k + 3) path _ q1) (allC (stringsHasPrefix_ok (k + 2) r_1 (bs [116, 109, 112]) _ q2) (allC (routeDir_ok k path _ q4) (allC (routeJoin_ok k r_3 (bs [116, 109, 112, 88, 88, 88]) _ q5) allN)))) (by kernel_rfl) allN
def publishNamed (j : JobD) : Option JobD :=
 (jobDraw j (3 : Int)).bind fun (r_1, r_2) =>
 (publishStem j.path).bind fun r_3 =>
 (makeX r_3 r_1).bind fun r_4 =>
 some (JobD.mk r_2.kind r_2.p r_2.phase r_2.fd r_2.nF r_2.modeF r_2.tries r_2.atF r_2.flags r_2.path r_4 r_2.text r_2.names r_2.stack r_2.draws r_2.done r_2.exit r_2.out r_2.e)
set_option maxRecDepth 100000 in
theorem publishNamed_ok (k : Nat) (j : JobD) (r : JobD) (h : publishNamed j = some r) : run0 (k + 6) 28 [(JobD.a j)] = some (JobD.a r) := by
  unfold publishNamed at h
  obtain ⟨⟨r_1, r_2⟩, q1, h⟩ := bnd_some h
  try dsimp only at h
  obtain ⟨r_3, q2, h⟩ := bnd_some h
  obtain ⟨r_4, q3, h⟩ := bnd_some h
  obtain rfl := Option.some.inj h
  exact ret_go (k := (k + 5)) Tryz.func28 Tryz.ntmps28 (by kernel_rfl) (by kernel_rfl) (lb rfl) (adv [([], 1, 1, .ret (.tup [(.list 1 false (r_1.map cI)), (JobD.a r_2)])), ([], 2, 2, .ret (pS r_3)), ([], 2, 4, .ret (pS r_4))]) (ex := .ret) (r := (.agg [(pI r_2.kind), (pI r_2.p), (pI r_2.phase), (pI r_2.fd), (pI r_2.nF), (pI r_2.modeF), (pI r_2.tries), (pI r_2.atF), (pI r_2.flags), (pS r_2.path), (pS r_4), (pS r_2.text), (.list 1 false (r_2.names.map cS)), (.list 3 false (r_2.stack.map FrameD.c)), (.list 1 false (r_2.draws.map cI)), (pB r_2.done), (pI r_2.exit), (pS r_2.out), (pI r_2.e)])) (by kernel_rfl) rfl (by kernel_rfl) (allC (jobDraw_ok (k + 4) j (3 : Int) _ q1) (allC (publishStem_ok k j.path _ q2) (allC (makeX_ok (k + 5) r_3 r_1 _ q3) allN))) (by kernel_rfl) allN
end Go.Proofs.YtaenhodkpidocaaGreatDoor.Den
namespace Go.Proofs.YtaenhodkpidocaaGreatDoor.Den
open Go Go.RowKit
def publishStart (p : Int) (argv : (List ByteArray)) (draws : (List Int)) : Option JobD :=
 (jobNew (9 : Int) p draws).bind fun r_1 =>
 (optionParse (bs []) argv).bind fun (r_2, r_3, r_4) =>
 bif (r_4 == (0 : Int)) then (
 bif ((r_3.length : Int) != (2 : Int)) then (
 (jobFail r_1 (bs [112, 117, 98, 108, 105, 115, 104]) (1 : Int)).bind fun r_5 =>
 some r_5
 ) else (
 bif (r_4 != (0 : Int)) then (
 (jobFail r_1 (bs [112, 117, 98, 108, 105, 115, 104]) r_4).bind fun r_5 =>
 some r_5
 ) else (
 (gt r_3 (0 : Int)).bind fun y_1 =>
 (checkX y_1).bind fun r_5 =>
 bif (r_5 != (0 : Int)) then (
 (gt r_3 (0 : Int)).bind fun y_2 =>
 (jobFail r_1 y_2 r_5).bind fun r_6 =>
 some r_6
 ) else (
 (gt r_3 (0 : Int)).bind fun y_2 =>
 (gt r_3 (1 : Int)).bind fun y_3 =>
 (publishNamed (JobD.mk r_1.kind r_1.p r_1.phase r_1.fd r_1.nF r_1.modeF r_1.tries r_1.atF r_1.flags y_2 r_1.path2 y_3 r_1.names r_1.stack r_1.draws r_1.done r_1.exit r_1.out r_1.e)).bind fun r_6 =>
 some r_6
 )
 )
 )
 ) else (
 bif (r_4 != (0 : Int)) then (
 (jobFail r_1 (bs [112, 117, 98, 108, 105, 115, 104]) r_4).bind fun r_5 =>
 some r_5
 ) else (
 (gt r_3 (0 : Int)).bind fun y_1 =>
 (checkX y_1).bind fun r_5 =>
 bif (r_5 != (0 : Int)) then (
 (gt r_3 (0 : Int)).bind fun y_2 =>
 (jobFail r_1 y_2 r_5).bind fun r_6 =>
 some r_6
 ) else (
 (gt r_3 (0 : Int)).bind fun y_2 =>
 (gt r_3 (1 : Int)).bind fun y_3 =>
 (publishNamed (JobD.mk r_1.kind r_1.p r_1.phase r_1.fd r_1.nF r_1.modeF r_1.tries r_1.atF r_1.flags y_2 r_1.path2 y_3 r_1.names r_1.stack r_1.draws r_1.done r_1.exit r_1.out r_1.e)).bind fun r_6 =>
 some r_6
 )
 )
 )
set_option maxRecDepth 100000 in
theorem publishStart_ok (k : Nat) (p : Int) (argv : (List ByteArray)) (draws : (List Int)) (r : JobD) (h : publishStart p argv draws = some r) : run0 (k + 7) 7 [(pI p), (.list 1 false (argv.map cS)), (.list 1 false (draws.map cI))] = some (JobD.a r) := by
  unfold publishStart at h
  obtain ⟨r_1, q1, h⟩ := bnd_some h
  obtain ⟨⟨r_2, r_3, r_4⟩, q2, h⟩ := bnd_some h
  try dsimp only at h
  rcases bif_some h with ⟨q3, h⟩ | ⟨q3, h⟩
  · rcases bif_some h with ⟨q4, h⟩ | ⟨q4, h⟩
    · obtain ⟨r_5, q5, h⟩ := bnd_some h
      obtain rfl := Option.some.inj h
      exact ret_go (k := (k + 6)) Tryz.func7 Tryz.ntmps7 (by kernel_rfl) (by kernel_rfl) (lb rfl) (adv [([], 1, 2, .ret (JobD.a r_1)), ([], 2, 1, .ret (.tup [(.list 2 false (r_2.map FlagD.c)), (.list 1 false (r_3.map cS)), (pI r_4)])), ([], 3, 2, .eq (pB true)), ([], 3, 4, .eq (pI (r_3.length : Int))), ([], 3, 6, .eq (pB true)), ([], 6, 2, .ret (JobD.a r_5))]) (ex := .ret) (r := (JobD.a r_5)) (by kernel_rfl) rfl (by kernel_rfl) (allC (jobNew_ok (k + 5) (9 : Int) p draws _ q1) (allC (optionParse_ok (k + 1) (bs []) argv _ q2) (allC (cg q3) (allC (len_ob (rfl : (r_3.map cS) = r_3.map cS)) (allC (cg q4) (allC (jobFail_ok (k + 5) r_1 (bs [112, 117, 98, 108, 105, 115, 104]) (1 : Int) _ q5) allN)))))) (by kernel_rfl) allN
    · rcases bif_some h with ⟨q5, h⟩ | ⟨q5, h⟩
      · obtain ⟨r_5, q6, h⟩ := bnd_some h
        obtain rfl := Option.some.inj h
        exact ret_go (k := (k + 6)) Tryz.func7 Tryz.ntmps7 (by kernel_rfl) (by kernel_rfl) (lb rfl) (adv [([], 1, 2, .ret (JobD.a r_1)), ([], 2, 1, .ret (.tup [(.list 2 false (r_2.map FlagD.c)), (.list 1 false (r_3.map cS)), (pI r_4)])), ([], 3, 2, .eq (pB true)), ([], 3, 4, .eq (pI (r_3.length : Int))), ([], 3, 6, .eq (pB false)), ([], 5, 1, .eq (pB true)), ([], 6, 2, .ret (JobD.a r_5))]) (ex := .ret) (r := (JobD.a r_5)) (by kernel_rfl) rfl (by kernel_rfl) (allC (jobNew_ok (k + 5) (9 : Int) p draws _ q1) (allC (optionParse_ok (k + 1) (bs []) argv _ q2) (allC (cg q3) (allC (len_ob (rfl : (r_3.map cS) = r_3.map cS)) (allC (cg q4) (allC (cg q5) (allC (jobFail_ok (k + 5) r_1 (bs [112, 117, 98, 108, 105, 115, 104]) r_4 _ q6) allN))))))) (by kernel_rfl) allN
      · obtain ⟨y_1, q6, h⟩ := bnd_some h
        obtain ⟨r_5, q7, h⟩ := bnd_some h
        rcases bif_some h with ⟨q8, h⟩ | ⟨q8, h⟩
        · obtain ⟨y_2, q9, h⟩ := bnd_some h
          obtain ⟨r_6, q10, h⟩ := bnd_some h
          obtain rfl := Option.some.inj h
          exact ret_go (k := (k + 6)) Tryz.func7 Tryz.ntmps7 (by kernel_rfl) (by kernel_rfl) (lb rfl) (adv [([], 1, 2, .ret (JobD.a r_1)), ([], 2, 1, .ret (.tup [(.list 2 false (r_2.map FlagD.c)), (.list 1 false (r_3.map cS)), (pI r_4)])), ([], 3, 2, .eq (pB true)), ([], 3, 4, .eq (pI (r_3.length : Int))), ([], 3, 6, .eq (pB false)), ([], 5, 1, .eq (pB false)), ([], 7, 1, .elem [(pS y_1)]), ([], 7, 3, .ret (pI r_5)), ([], 8, 1, .eq (pB true)), ([], 9, 2, .elem [(pS y_2)]), ([], 9, 5, .ret (JobD.a r_6))]) (ex := .ret) (r := (JobD.a r_6)) (by kernel_rfl) rfl (by kernel_rfl) (allC (jobNew_ok (k + 5) (9 : Int) p draws _ q1) (allC (optionParse_ok (k + 1) (bs []) argv _ q2) (allC (cg q3) (allC (len_ob (rfl : (r_3.map cS) = r_3.map cS)) (allC (cg q4) (allC (cg q5) (allC (gt_list (c := cS) q6) (allC (checkX_ok (k + 6) y_1 _ q7) (allC (cg q8) (allC (gt_list (c := cS) q9) (allC (jobFail_ok (k + 5) r_1 y_2 r_5 _ q10) allN))))))))))) (by kernel_rfl) allN
        · obtain ⟨y_2, q9, h⟩ := bnd_some h
          obtain ⟨y_3, q10, h⟩ := bnd_some h
          obtain ⟨r_6, q11, h⟩ := bnd_some h
          obtain rfl := Option.some.inj h
          exact ret_go (k := (k + 6)) Tryz.func7 Tryz.ntmps7 (by kernel_rfl) (by kernel_rfl) (lb rfl) (adv [([], 1, 2, .ret (JobD.a r_1)), ([], 2, 1, .ret (.tup [(.list 2 false (r_2.map FlagD.c)), (.list 1 false (r_3.map cS)), (pI r_4)])), ([], 3, 2, .eq (pB true)), ([], 3, 4, .eq (pI (r_3.length : Int))), ([], 3, 6, .eq (pB false)), ([], 5, 1, .eq (pB false)), ([], 7, 1, .elem [(pS y_1)]), ([], 7, 3, .ret (pI r_5)), ([], 8, 1, .eq (pB false)), ([], 10, 1, .elem [(pS y_2)]), ([], 10, 4, .elem [(pS y_3)]), ([], 11, 1, .ret (JobD.a r_6))]) (ex := .ret) (r := (JobD.a r_6)) (by kernel_rfl) rfl (by kernel_rfl) (allC (jobNew_ok (k + 5) (9 : Int) p draws _ q1) (allC (optionParse_ok (k + 1) (bs []) argv _ q2) (allC (cg q3) (allC (len_ob (rfl : (r_3.map cS) = r_3.map cS)) (allC (cg q4) (allC (cg q5) (allC (gt_list (c := cS) q6) (allC (checkX_ok (k + 6) y_1 _ q7) (allC (cg q8) (allC (gt_list (c := cS) q9) (allC (gt_list (c := cS) q10) (allC (gt_list (c := cS) q10) (allC (publishNamed_ok k (JobD.mk r_1.kind r_1.p r_1.phase r_1.fd r_1.nF r_1.modeF r_1.tries r_1.atF r_1.flags y_2 r_1.path2 y_3 r_1.names r_1.stack r_1.draws r_1.done r_1.exit r_1.out r_1.e) _ q11) allN))))))))))))) (by kernel_rfl) allN
  · rcases bif_some h with ⟨q4, h⟩ | ⟨q4, h⟩
    · obtain ⟨r_5, q5, h⟩ := bnd_some h
      obtain rfl := Option.some.inj h
      exact ret_go (k := (k + 6)) Tryz.func7 Tryz.ntmps7 (by kernel_rfl) (by kernel_rfl) (lb rfl) (adv [([], 1, 2, .ret (JobD.a r_1)), ([], 2, 1, .ret (.tup [(.list 2 false (r_2.map FlagD.c)), (.list 1 false (r_3.map cS)), (pI r_4)])), ([], 3, 2, .eq (pB false)), ([], 5, 1, .eq (pB true)), ([], 6, 2, .ret (JobD.a r_5))]) (ex := .ret) (r := (JobD.a r_5)) (by kernel_rfl) rfl (by kernel_rfl) (allC (jobNew_ok (k + 5) (9 : Int) p draws _ q1) (allC (optionParse_ok (k + 1) (bs []) argv _ q2) (allC (cg q3) (allC (cg q4) (allC (jobFail_ok (k + 5) r_1 (bs [112, 117, 98, 108, 105, 115, 104]) r_4 _ q5) allN))))) (by kernel_rfl) allN
    · obtain ⟨y_1, q5, h⟩ := bnd_some h
      obtain ⟨r_5, q6, h⟩ := bnd_some h
      rcases bif_some h with ⟨q7, h⟩ | ⟨q7, h⟩
      · obtain ⟨y_2, q8, h⟩ := bnd_some h
        obtain ⟨r_6, q9, h⟩ := bnd_some h
        obtain rfl := Option.some.inj h
        exact ret_go (k := (k + 6)) Tryz.func7 Tryz.ntmps7 (by kernel_rfl) (by kernel_rfl) (lb rfl) (adv [([], 1, 2, .ret (JobD.a r_1)), ([], 2, 1, .ret (.tup [(.list 2 false (r_2.map FlagD.c)), (.list 1 false (r_3.map cS)), (pI r_4)])), ([], 3, 2, .eq (pB false)), ([], 5, 1, .eq (pB false)), ([], 7, 1, .elem [(pS y_1)]), ([], 7, 3, .ret (pI r_5)), ([], 8, 1, .eq (pB true)), ([], 9, 2, .elem [(pS y_2)]), ([], 9, 5, .ret (JobD.a r_6))]) (ex := .ret) (r := (JobD.a r_6)) (by kernel_rfl) rfl (by kernel_rfl) (allC (jobNew_ok (k + 5) (9 : Int) p draws _ q1) (allC (optionParse_ok (k + 1) (bs []) argv _ q2) (allC (cg q3) (allC (cg q4) (allC (gt_list (c := cS) q5) (allC (checkX_ok (k + 6) y_1 _ q6) (allC (cg q7) (allC (gt_list (c := cS) q8) (allC (jobFail_ok (k + 5) r_1 y_2 r_5 _ q9) allN))))))))) (by kernel_rfl) allN
      · obtain ⟨y_2, q8, h⟩ := bnd_some h
        obtain ⟨y_3, q9, h⟩ := bnd_some h
        obtain ⟨r_6, q10, h⟩ := bnd_some h
        obtain rfl := Option.some.inj h
        exact ret_go (k := (k + 6)) Tryz.func7 Tryz.ntmps7 (by kernel_rfl) (by kernel_rfl) (lb rfl) (adv [([], 1, 2, .ret (JobD.a r_1)), ([], 2, 1, .ret (.tup [(.list 2 false (r_2.map FlagD.c)), (.list 1 false (r_3.map cS)), (pI r_4)])), ([], 3, 2, .eq (pB false)), ([], 5, 1, .eq (pB false)), ([], 7, 1, .elem [(pS y_1)]), ([], 7, 3, .ret (pI r_5)), ([], 8, 1, .eq (pB false)), ([], 10, 1, .elem [(pS y_2)]), ([], 10, 4, .elem [(pS y_3)]), ([], 11, 1, .ret (JobD.a r_6))]) (ex := .ret) (r := (JobD.a r_6)) (by kernel_rfl) rfl (by kernel_rfl) (allC (jobNew_ok (k + 5) (9 : Int) p draws _ q1) (allC (optionParse_ok (k + 1) (bs []) argv _ q2) (allC (cg q3) (allC (cg q4) (allC (gt_list (c := cS) q5) (allC (checkX_ok (k + 6) y_1 _ q6) (allC (cg q7) (allC (gt_list (c := cS) q8) (allC (gt_list (c := cS) q9) (allC (gt_list (c := cS) q9) (allC (publishNamed_ok k (JobD.mk r_1.kind r_1.p r_1.phase r_1.fd r_1.nF r_1.modeF r_1.tries r_1.atF r_1.flags y_2 r_1.path2 y_3 r_1.names r_1.stack r_1.draws r_1.done r_1.exit r_1.out r_1.e) _ q10) allN))))))))))) (by kernel_rfl) allN
def ref15New (kind : Int) (p : Int) (draws : (List Int)) : Option JobD :=
 some (JobD.mk kind p (0 : Int) (-1 : Int) (0 : Int) (0 : Int) (0 : Int) (0 : Int) (0 : Int) (bs []) (bs []) (bs []) [] [] draws false (0 : Int) (bs []) (0 : Int))
set_option maxRecDepth 100000 in
theorem ref15New_ok (k : Nat) (kind : Int) (p : Int) (draws : (List Int)) (r : JobD) (h : ref15New kind p draws = some r) : run0 (k + 1) 32 [(pI kind), (pI p), (.list 1 false (draws.map cI))] = some (JobD.a r) := by
  unfold ref15New at h
  obtain rfl := Option.some.inj h
  exact ret_go (k := k) Tryz.func32 Tryz.ntmps32 (by kernel_rfl) (by kernel_rfl) (lb rfl) (adv []) (ex := .ret) (r := (.agg [(pI kind), (pI p), (pI (0 : Int)), (pI (-1 : Int)), (pI (0 : Int)), (pI (0 : Int)), (pI (0 : Int)), (pI (0 : Int)), (pI (0 : Int)), (pS (bs [])), (pS (bs [])), (pS (bs [])), (.list 1 false []), (.list 3 false []), (.list 1 false (draws.map cI)), (pB false), (pI (0 : Int)), (pS (bs [])), (pI (0 : Int))])) (by kernel_rfl) rfl (by kernel_rfl) allN (by kernel_rfl) allN
noncomputable def ref03Known_L6 : Code := cAt (codeOf Tryz.f66) [true, true, true, true, false, true, false, false]
def ref03Known_R6 (x0 : ByteArray) (x1 : Int) (x2 : Bool) (x3 : Bool) (x4 : Int) : St := ⟨envL [(0, (pS x0)), (1, (.v (.int .u8 x1))), (6, (pB x2)), (7, (pB x3)), (8, (pI x4))], hsL [] []⟩
def ref03Known_S6 (p0 : ByteArray) (p1 : Int) : (Bool × Bool × Int) → St
 | (v0, v1, v2) => ref03Known_R6 p0 p1 v0 v1 v2
def ref03Known_b6 (p0 : ByteArray) (p1 : Int) : (Bool × Bool × Int) → Option ((Bool × Bool × Int) ⊕ (Bool × Bool × Int))
 | (v0, v1, v2) =>
 bif (decide (v2 < (p0.size : Int))) then (
 (gtS p0 v2).bind fun b_1 =>
 bif ((b_1.toNat : Int) == p1) then (
 bif v1 then (
 some (.inl (true, true, (w64 (v2 + (1 : Int)))))
 ) else (
 bif (decide ((w64 (v2 + (1 : Int))) < (p0.size : Int))) then (
 (gtS p0 (w64 (v2 + (1 : Int)))).bind fun b_2 =>
 some (.inl (true, ((b_2.toNat : Int) == (58 : Int)), (w64 (v2 + (1 : Int)))))
 ) else (
 some (.inl (true, false, (w64 (v2 + (1 : Int)))))
 )
 )
 ) else (
 some (.inl (v0, v1, (w64 (v2 + (1 : Int)))))
 )
 ) else (
 some (.inr (v0, v1, v2))
 )
set_option maxRecDepth 100000 in
theorem ref03Known_t6 (k : Nat) (p0 : ByteArray) (p1 : Int) (a a1 : (Bool × Bool × Int)) (h : ref03Known_b6 p0 p1 a = some (.inl a1)) : ∃ σ, run1 k 66 0 39 ref03Known_L6 (ref03Known_S6 p0 p1 a) = some (.normal, σ) ∧ canonS 0 [0, 1, 6, 7, 8] σ = some (ref03Known_S6 p0 p1 a1) := by
  obtain ⟨v0, v1, v2⟩ := a
  unfold ref03Known_b6 at h
  try dsimp only at h
  rcases bif_some h with ⟨q1, h⟩ | ⟨q1, h⟩
  · obtain ⟨b_1, q2, h⟩ := bnd_some h
    rcases bif_some h with ⟨q3, h⟩ | ⟨q3, h⟩
    · rcases bif_some h with ⟨q4, h⟩ | ⟨q4, h⟩
      · obtain rfl := Sum.inl.inj (Option.some.inj h)
        exact ⟨_, run_go (k := k) (f := 66) (r0 := 0) (nt := 39) (c := ref03Known_L6) (σ := (ref03Known_S6 p0 p1 (v0, v1, v2))) (adv [([], 6, 3, .eq (pB true)), ([], 8, 2, .chr b_1), ([], 8, 4, .eq (pB true)), ([], 10, 1, .eq (pB true))]) (ex := .normal) (by kernel_rfl) (by kernel_rfl) (allC (cg q1) (allC q2 (allC (cg q3) (allC (cg q4) allN)))), (by kernel_rfl)⟩
      · rcases bif_some h with ⟨q5, h⟩ | ⟨q5, h⟩
        · obtain ⟨b_2, q6, h⟩ := bnd_some h
          obtain rfl := Sum.inl.inj (Option.some.inj h)
          exact ⟨_, run_go (k := k) (f := 66) (r0 := 0) (nt := 39) (c := ref03Known_L6) (σ := (ref03Known_S6 p0 p1 (v0, v1, v2))) (adv [([], 6, 3, .eq (pB true)), ([], 8, 2, .chr b_1), ([], 8, 4, .eq (pB true)), ([], 10, 1, .eq (pB false)), ([], 10, 7, .eq (pB true)), ([], 10, 11, .chr b_2)]) (ex := .normal) (by kernel_rfl) (by kernel_rfl) (allC (cg q1) (allC q2 (allC (cg q3) (allC (cg q4) (allC (cg q5) (allC q6 allN)))))), (by kernel_rfl)⟩
        · obtain rfl := Sum.inl.inj (Option.some.inj h)
          exact ⟨_, run_go (k := k) (f := 66) (r0 := 0) (nt := 39) (c := ref03Known_L6) (σ := (ref03Known_S6 p0 p1 (v0, v1, v2))) (adv [([], 6, 3, .eq (pB true)), ([], 8, 2, .chr b_1), ([], 8, 4, .eq (pB true)), ([], 10, 1, .eq (pB false)), ([], 10, 7, .eq (pB false))]) (ex := .normal) (by kernel_rfl) (by kernel_rfl) (allC (cg q1) (allC q2 (allC (cg q3) (allC (cg q4) (allC (cg q5) allN))))), (by kernel_rfl)⟩
    · obtain rfl := Sum.inl.inj (Option.some.inj h)
      exact ⟨_, run_go (k := k) (f := 66) (r0 := 0) (nt := 39) (c := ref03Known_L6) (σ := (ref03Known_S6 p0 p1 (v0, v1, v2))) (adv [([], 6, 3, .eq (pB true)), ([], 8, 2, .chr b_1), ([], 8, 4, .eq (pB false))]) (ex := .normal) (by kernel_rfl) (by kernel_rfl) (allC (cg q1) (allC q2 (allC (cg q3) allN))), (by kernel_rfl)⟩
  · cases h
def ref03Known (spec : ByteArray) (c : Int) : Option (Bool × Bool) :=
 bif (c == (58 : Int)) then (
 some (false, false)
 ) else (
 (iterN (ref03Known_b6 spec c) LF (false, false, (0 : Int))).bind fun (v_1, v_2, v_3) =>
 some (v_1, v_2)
 )
set_option maxRecDepth 100000 in
theorem ref03Known_ok (k : Nat) (spec : ByteArray) (c : Int) (r : (Bool × Bool)) (h : ref03Known spec c = some r) : run0 (k + 1) 66 [(pS spec), (.v (.int .u8 c))] = some (.tup [(pB r.1), (pB r.2)]) := by
  unfold ref03Known at h
  rcases bif_some h with ⟨q1, h⟩ | ⟨q1, h⟩
  · obtain rfl := Option.some.inj h
    exact ret_go (k := k) Tryz.func66 Tryz.ntmps66 (by kernel_rfl) (by kernel_rfl) (lb rfl) (adv [([], 1, 1, .eq (pB true))]) (ex := .ret) (r := (.tup [(pB false), (pB false)])) (by kernel_rfl) rfl (by kernel_rfl) (allC (cg q1) allN) (by kernel_rfl) allN
  · obtain ⟨X_1, q2, h⟩ := bnd_some h
    obtain ⟨a_1, q3, q4⟩ := loop_iter (f := run1 k 66 0 39 ref03Known_L6) (ref03Known_S6 spec c) (ref03Known_b6 spec c) (ref03Known_t6 k spec c) LF (false, false, (0 : Int)) _ (stOf (goStop k 66 0 39 (adv [([], 1, 1, .eq (pB false))]) 6 (codeOf Tryz.f66) (argS 66 [(pS spec), (.v (.int .u8 c))]))) q2 (by kernel_rfl)
    obtain ⟨v_1, v_2, v_3⟩ := a_1
    unfold ref03Known_b6 at q3
    try dsimp only at q3
    rcases bif_some q3 with ⟨q7, q3⟩ | ⟨q7, q3⟩
    · obtain ⟨b_1, q8, q3⟩ := bnd_some q3
      rcases bif_some q3 with ⟨q9, q3⟩ | ⟨q9, q3⟩
      · rcases bif_some q3 with ⟨q10, q3⟩ | ⟨q10, q3⟩
        · cases q3
        · rcases bif_some q3 with ⟨q11, q3⟩ | ⟨q11, q3⟩
          · obtain ⟨b_2, q12, q3⟩ := bnd_some q3
            cases q3
          · cases q3
      · cases q3
    · cases q3
      try dsimp only at h
      have q5 := run_go (k := k) (f := 66) (r0 := 0) (nt := 39) (c := ref03Known_L6) (σ := (ref03Known_S6 spec c (v_1, v_2, v_3))) (adv [([], 6, 3, .eq (pB false))]) (ex := (.exit 0)) (by kernel_rfl) (by kernel_rfl) (allC (cg q7) allN)
      have q6 := q4 _ _ (by intro e; cases e) q5
      obtain rfl := Option.some.inj h
      exact ret_go (k := k) Tryz.func66 Tryz.ntmps66 (by kernel_rfl) (by kernel_rfl) (lb rfl) (adv [([], 1, 1, .eq (pB false))] [([], 6, (.exit 0), (stOf (go k 66 0 39 (adv [([], 6, 3, .eq (pB false))]) ref03Known_L6 (ref03Known_S6 spec c (v_1, v_2, v_3)))))]) (ex := .ret) (r := (.tup [(pB v_1), (pB v_2)])) (by kernel_rfl) rfl (by kernel_rfl) (allC (cg q1) (allC q6 allN)) (by kernel_rfl) allN
end Go.Proofs.YtaenhodkpidocaaGreatDoor.Den
