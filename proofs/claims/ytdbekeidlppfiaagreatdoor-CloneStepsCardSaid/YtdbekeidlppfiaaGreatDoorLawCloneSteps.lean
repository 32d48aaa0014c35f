/- Texts joined by a program of mine (pack.py): LawCloneSteps. -/
import Derived.Test.YtdbekeidlppfiaaGreatDoorCards
import Derived.Test.YtdbekeidlppfiaaGreatDoorTie
import Derived.Test.YtdbekeidlppfiaaGreatDoorKCloneSteps1
import Derived.Test.YtdbekeidlppfiaaGreatDoorKCloneSteps2
import Derived.Test.YtdbekeidlppfiaaGreatDoorKCloneSteps3
import Derived.Test.YtdbekeidlppfiaaGreatDoorKCloneSteps4
import Derived.Test.YtdbekeidlppfiaaGreatDoorS18Step
import Derived.Test.YtdbekeidlppfiaaGreatDoorPlClone
import Derived.SevenTiedAt
import Derived.JoinedOf
import Derived.WalkKit
import Derived.ProofKit
import Derived.OpenShut
import Derived.ShutString
set_option linter.unusedVariables false
set_option linter.unusedSimpArgs false
namespace Go.Proofs.YtdbekeidlppfiaaGreatDoor.lawCloneSteps
open Go.ChangeShapes Go.WideShapes Go.ChangeAt Go.RowKit
open Go.ChangeMaps (open_string shut_string)
theorem own : ownKnob Tryz.prog.godebug = none := by kernel_rfl
theorem laidOut : laidOutB Tryz.prog = true := by kernel_rfl
set_option maxRecDepth 100000 in
theorem lifted (os : Os) (started : os.Started) (H : Type) (enc : TypeId × Value → H) :
  ReturnsInHanded {} Tryz.checked os 4 .any (fun w args => (Rows.cloneStepsSpec.pre enc Tryz.prog Tryz.f4 [] false w args ∧ laidMetH Tryz.prog Den.laidL w) ∧ sizedMet enc Tryz.prog Tryz.f4 (OpenSpec.ofChange Rows.cloneStepsSpec) false w args) (Rows.cloneStepsSpec.post enc Tryz.prog Tryz.f4 false true false false) := by
 refine Den.wrap_sized (C := Tryz.checked) (X := fun w _ => laidMetH Tryz.prog Den.laidL w) (fun _ _ _ hh h => h.of_heap hh) own started (by kernel_rfl) Tryz.func4
  (ChangeSpec.witness_at (enc := enc) (C := Tryz.checked) (os := os) (X := fun w _ => laidMetH Tryz.prog Den.laidL w) false (Den.laidWorld os) #[.agg #[.int .i64 0, .int .i64 0, .int .i64 0, .int .i64 0, .int .i64 0, .int .i64 0, .int .i64 0, .int .i64 0, .int .i64 0, .string ByteArray.empty, .string ByteArray.empty, .string ByteArray.empty, .slice none 0 0, .slice none 0 0, .slice none 0 0, .bool false, .int .i64 0, .string ByteArray.empty, .int .i64 0], .agg #[.int .i64 0, .int .i64 0, .string ByteArray.empty, .slice none 0 0, .int .i64 0, .int .i64 0, .int .i64 0, .int .i64 0, .int .i64 0, .int .i64 0]] 8 rfl (by kernel_rfl) (by kernel_rfl) (by kernel_rfl) (by kernel_rfl) (by kernel_rfl) (Den.laidWorld_met os _)) ?_
 intro W base args ds gs before hval0 hW hwt0 hsh hL
 have hval : ∀ (j : Nat) t v, Tryz.f4.params[j]? = some t → args[j]? = some v → Value.okWide Tryz.prog W .any base t v := hval0
 have hW' := hW
 obtain ⟨p, q, hA0, hV, rfl, hfz, hnd⟩ := hW
 have hA : DataW.TrodAll enc Tryz.prog W 0 (fun _ => true) true Tryz.f4.params.toList args.toList ds p := hA0
 rw [Tryz.params4] at hA hval
 obtain ⟨v0, vs0, d0, ds0, p0, q0, hargs, rfl, rfl, h0, r0⟩ := trodAll_cons hA
 obtain ⟨v1, vs1, d1, ds1, p1, q1, rfl, rfl, rfl, h1, r1⟩ := trodAll_cons r0
 obtain ⟨rfl, rfl, rfl⟩ := trodAll_nil r1
 obtain rfl : args = #[v0, v1] := by cases args; simp_all
 obtain ⟨rfl, rfl⟩ := trodVars_none hV
 have hwt1 : (DataW.weightsEach Tryz.prog [29, 41] [d0, d1]).all (· ≤ reachBytes) = true := hwt0
 have hwt : ∀ b ∈ DataW.weightsEach Tryz.prog [29, 41] [d0, d1], b ≤ reachBytes := fun b hb => of_decide_eq_true (List.all_eq_true.1 hwt1 b hb)
 obtain ⟨a0, w0⟩ := Den.open_job (hval 0 29 v0 rfl rfl) h0
 have k0 := Den.job_names w0 h0 fun b hb => hwt b (Den.each_mem (i := 0) rfl rfl hb)
 obtain ⟨a1, w1, e1⟩ := Den.open_reply (hval 1 41 v1 rfl rfl) h1
 have k1 := Den.reply_list w1 h1 fun b hb => hwt b (Den.each_mem (i := 1) rfl rfl hb)
 clear hA0 hval0
 simp only [List.append_nil] at hW'
 refine (Den.law_told (Den.gok_laid hsh hL) (Den.law18CloneSteps_ok 0 a0 a1 true (Den.CloneSteps_true a0 a1 k0 ⟨e1, k1⟩)) (Den.ToldL.cons (w0) (Den.ToldL.cons (w1) Den.ToldL.nil))).mono fun e W' ⟨he, hg⟩ => ?_
 subst he
 exact ⟨_, rfl, post_law laidOut hW' rfl rfl Tryz.underlying4 (okTypes_of (by kernel_rfl)) hg rfl⟩
set_option maxRecDepth 100000 in
theorem facts : joinedFacts Tryz.pinned.checked.prog 4 Tryz.f4 Rows.cloneStepsSpec Rows.cloneStepsRow = true := by
 unfold joinedFacts
 rw [k1, k2, k3, k4]
 kernel_rfl
theorem over : Rows.cloneStepsRow.holds Tryz.pinned (OpenSpec.ofChange Rows.cloneStepsSpec) :=
 OpenClaim.holds_of_wide 4 Tryz.f4 rfl rfl rfl rfl rfl rfl rfl ⟨rfl, rfl, rfl, rfl, rfl⟩ rfl rfl rfl rfl rfl (by kernel_rfl) Tryz.func4 facts
  (of_decide_eq_true (by kernel_rfl)) (by unfold Func.isWrapper; first | (rw [if_pos (by decide +kernel)]; kernel_rfl) | (rw [if_neg (by decide +kernel)]; exact ⟨rfl, rfl⟩))
  (fun os started H enc _ => lifted os started H enc)
set_option maxRecDepth 100000 in
theorem proved : Rows.CloneStepsCardSaid :=
 Claim7.holds_tied_plain_at .later [] [.data, .data, .data, .data, .handle, .sentinel, .sentinel, .sentinel, .pinned] true (true, "acdedfe4b776e01a904667e2b4053b184e0ee2927f367696a8724c9bd9118b36") true
  over (fun _ h => by cases h) (by kernel_rfl) (fun _ h => by cases h) cloneSteps_row_tie rfl ⟨rfl, rfl⟩ (by kernel_rfl) rfl
  (fun f fn hf hfn => by
   obtain rfl : f = 4 := Option.some.inj ((show Tryz.prog.funcNamed "flagstone/flagstonelaw18.CloneSteps" = some 4 by kernel_rfl).symm.trans hf) |>.symm
   obtain rfl : fn = Tryz.f4 := (Option.some.inj (Tryz.func4.symm.trans hfn)).symm
   exact ⟨by kernel_rfl, Den.stand_of (by kernel_rfl)⟩)
  (by kernel_rfl)
#print axioms proved
end Go.Proofs.YtdbekeidlppfiaaGreatDoor.lawCloneSteps
