/- Texts joined by a program of mine (pack.py): LawPublishSteps. -/
import Derived.Test.YtaenhodkpidocaaGreatDoorCards
import Derived.Test.YtaenhodkpidocaaGreatDoorTie
import Derived.Test.YtaenhodkpidocaaGreatDoorKPublishSteps1
import Derived.Test.YtaenhodkpidocaaGreatDoorKPublishSteps2
import Derived.Test.YtaenhodkpidocaaGreatDoorKPublishSteps3
import Derived.Test.YtaenhodkpidocaaGreatDoorKPublishSteps4
import Derived.Test.YtaenhodkpidocaaGreatDoorS19Step
import Derived.Test.YtaenhodkpidocaaGreatDoorPlTell21
import Derived.SevenTiedAt
import Derived.JoinedOf
import Derived.WalkKit
import Derived.ProofKit
import Derived.OpenShut
import Derived.ShutString
set_option linter.unusedVariables false
set_option linter.unusedSimpArgs false
namespace Go.Proofs.YtaenhodkpidocaaGreatDoor.lawPublishSteps
open Go.ChangeShapes Go.WideShapes Go.ChangeAt Go.RowKit
open Go.ChangeMaps (open_string shut_string)
theorem own : ownKnob Tryz.prog.godebug = none := by kernel_rfl
theorem laidOut : laidOutB Tryz.prog = true := by kernel_rfl
set_option maxRecDepth 100000 in
theorem lifted (os : Os) (started : os.Started) (H : Type) (enc : TypeId × Value → H) :
  ReturnsInHanded {} Tryz.checked os 4 .any (fun w args => (Rows.publishStepsSpec.pre enc Tryz.prog Tryz.f4 [] false w args ∧ laidMetH Tryz.prog Den.laidL w) ∧ sizedMet enc Tryz.prog Tryz.f4 (OpenSpec.ofChange Rows.publishStepsSpec) false w args) (Rows.publishStepsSpec.post enc Tryz.prog Tryz.f4 false true false false) := by
 refine Den.wrap_both (C := Tryz.checked) (X := fun w _ => laidMetH Tryz.prog Den.laidL w) (fun _ _ _ hh h => h.of_heap hh) own started (by kernel_rfl) Tryz.func4
  (ChangeSpec.witness_at (enc := enc) (C := Tryz.checked) (os := os) (X := fun w _ => laidMetH Tryz.prog Den.laidL w) false (Den.laidWorld os) #[.agg #[.int .i64 0, .int .i64 0, .int .i64 0, .int .i64 0, .int .i64 0, .int .i64 0, .int .i64 0, .int .i64 0, .int .i64 0, .string ByteArray.empty, .string ByteArray.empty, .string ByteArray.empty, .slice none 0 0, .slice none 0 0, .slice none 0 0, .bool false, .int .i64 0, .string ByteArray.empty, .int .i64 0], .agg #[.int .i64 0, .int .i64 0, .string ByteArray.empty, .slice none 0 0, .int .i64 0, .int .i64 0, .int .i64 0, .int .i64 0, .int .i64 0, .int .i64 0]] 8 rfl (by kernel_rfl) (by kernel_rfl) (by kernel_rfl) (by kernel_rfl) (by kernel_rfl) (Den.laidWorld_met os _)) ?_
 intro W base args ds gs before hval0 hW hcnd hsh hL
 have hval : ∀ (j : Nat) t v, Tryz.f4.params[j]? = some t → args[j]? = some v → Value.okWide Tryz.prog W .any base t v := hval0
 have hW' := hW
 obtain ⟨p, q, hA0, hV, rfl, hfz, hnd⟩ := hW
 have hA : DataW.TrodAll enc Tryz.prog W 0 (fun _ => true) true Tryz.f4.params.toList args.toList ds p := hA0
 rw [Tryz.params4] at hA hval
 obtain ⟨v0, vs0, d0, ds0, p0, q0, hargs, rfl, rfl, h0, r0⟩ := trodAll_cons hA
 obtain ⟨v1, vs1, d1, ds1, p1, q1, rfl, rfl, rfl, h1, r1⟩ := trodAll_cons r0
 obtain ⟨rfl, rfl, rfl⟩ := trodAll_nil r1
 obtain rfl : args = #[v0, v1] := by cases args; simp_all
 obtain ⟨rfl, rfl⟩ := trodVars_none hV
 obtain ⟨a0, w0, k0⟩ := Den.open_jobn (hval 0 29 v0 rfl rfl) h0
 obtain ⟨a1, w1, k1⟩ := Den.open_reply (hval 1 42 v1 rfl rfl) h1
 clear hA0 hval0
 simp only [List.append_nil] at hW'
 refine (Den.law_told (Den.gok_laid hsh hL) (Den.law21PublishSteps_ok 0 a0 a1 true (Den.PublishSteps_true a0 a1 k0 k1)) (Den.ToldL.cons (w0) (Den.ToldL.cons (w1) Den.ToldL.nil))).mono fun e W' ⟨he, hg⟩ => ?_
 subst he
 exact ⟨_, rfl, post_law laidOut hW' rfl rfl Tryz.underlying4 (okTypes_of (by kernel_rfl)) hg rfl⟩
set_option maxRecDepth 100000 in
theorem facts : joinedFacts Tryz.pinned.checked.prog 4 Tryz.f4 Rows.publishStepsSpec Rows.publishStepsRow = true := by
 unfold joinedFacts
 rw [k1, k2, k3, k4]
 kernel_rfl
theorem over : Rows.publishStepsRow.holds Tryz.pinned (OpenSpec.ofChange Rows.publishStepsSpec) :=
 OpenClaim.holds_of_wide 4 Tryz.f4 rfl rfl rfl rfl rfl rfl rfl ⟨rfl, rfl, rfl, rfl, rfl⟩ rfl rfl rfl rfl rfl (by kernel_rfl) Tryz.func4 facts
  (of_decide_eq_true (by kernel_rfl)) (by unfold Func.isWrapper; first | (rw [if_pos (by decide +kernel)]; kernel_rfl) | (rw [if_neg (by decide +kernel)]; exact ⟨rfl, rfl⟩))
  (fun os started H enc _ => lifted os started H enc)
set_option maxRecDepth 100000 in
theorem proved : Rows.PublishStepsCardSaid :=
 Claim7.holds_tied_plain_at .later [] [.data, .data, .data, .data, .handle, .sentinel, .sentinel, .sentinel, .pinned] true (true, "cb029295cc25ddd38306aa339995f586be64a2d6616aced962a06028bbf4aa1a") true
  over (fun _ h => by cases h) (by kernel_rfl) (fun _ h => by cases h) publishSteps_row_tie rfl ⟨rfl, rfl⟩ (by kernel_rfl) rfl
  (fun f fn hf hfn => by
   obtain rfl : f = 4 := Option.some.inj ((show Tryz.prog.funcNamed "flagstone/flagstonelaw21.PublishSteps" = some 4 by kernel_rfl).symm.trans hf) |>.symm
   obtain rfl : fn = Tryz.f4 := (Option.some.inj (Tryz.func4.symm.trans hfn)).symm
   exact ⟨by kernel_rfl, Den.stand_of (by kernel_rfl)⟩)
  (by kernel_rfl)
#print axioms proved
end Go.Proofs.YtaenhodkpidocaaGreatDoor.lawPublishSteps
