/- Texts joined by a program of mine (pack.py): LawCloneStarts. -/
import Derived.Test.YtdbekeidlppfiaaGreatDoorCards
import Derived.Test.YtdbekeidlppfiaaGreatDoorTie
import Derived.Test.YtdbekeidlppfiaaGreatDoorKCloneStarts1
import Derived.Test.YtdbekeidlppfiaaGreatDoorKCloneStarts2
import Derived.Test.YtdbekeidlppfiaaGreatDoorKCloneStarts3
import Derived.Test.YtdbekeidlppfiaaGreatDoorKCloneStarts4
import Derived.Test.YtdbekeidlppfiaaGreatDoorS19Law
import Derived.Test.YtdbekeidlppfiaaGreatDoorPlStart18
import Derived.SevenTiedAt
import Derived.JoinedOf
import Derived.WalkKit
import Derived.ProofKit
import Derived.OpenShut
import Derived.ShutString
set_option linter.unusedVariables false
set_option linter.unusedSimpArgs false
namespace Go.Proofs.YtdbekeidlppfiaaGreatDoor.lawCloneStarts
open Go.ChangeShapes Go.WideShapes Go.ChangeAt Go.RowKit
open Go.ChangeMaps (open_string shut_string)
theorem own : ownKnob Tryz.prog.godebug = none := by kernel_rfl
theorem laidOut : laidOutB Tryz.prog = true := by kernel_rfl
set_option maxRecDepth 100000 in
theorem lifted (os : Os) (started : os.Started) (H : Type) (enc : TypeId × Value → H) :
  ReturnsInHanded {} Tryz.checked os 3 .any (fun w args => (Rows.cloneStartsSpec.pre enc Tryz.prog Tryz.f3 [] false w args ∧ laidMetH Tryz.prog Den.laidL w) ∧ sizedMet enc Tryz.prog Tryz.f3 (OpenSpec.ofChange Rows.cloneStartsSpec) false w args) (Rows.cloneStartsSpec.post enc Tryz.prog Tryz.f3 false true false false) := by
 refine Den.wrap_both (C := Tryz.checked) (X := fun w _ => laidMetH Tryz.prog Den.laidL w) (fun _ _ _ hh h => h.of_heap hh) own started (by kernel_rfl) Tryz.func3
  (ChangeSpec.witness_at (enc := enc) (C := Tryz.checked) (os := os) (X := fun w _ => laidMetH Tryz.prog Den.laidL w) false (Den.laidWorld os) #[.int .i64 0, .slice none 0 0, .slice none 0 0] 8 rfl (by kernel_rfl) (by kernel_rfl) (by kernel_rfl) (by kernel_rfl) (by kernel_rfl) (Den.laidWorld_met os _)) ?_
 intro W base args ds gs before hval0 hW hcnd hsh hL
 have hval : ∀ (j : Nat) t v, Tryz.f3.params[j]? = some t → args[j]? = some v → Value.okWide Tryz.prog W .any base t v := hval0
 have hW' := hW
 obtain ⟨p, q, hA0, hV, rfl, hfz, hnd⟩ := hW
 have hA : DataW.TrodAll enc Tryz.prog W 0 (fun _ => true) true Tryz.f3.params.toList args.toList ds p := hA0
 rw [Tryz.params3] at hA hval
 obtain ⟨v0, vs0, d0, ds0, p0, q0, hargs, rfl, rfl, h0, r0⟩ := trodAll_cons hA
 obtain ⟨v1, vs1, d1, ds1, p1, q1, rfl, rfl, rfl, h1, r1⟩ := trodAll_cons r0
 obtain ⟨v2, vs2, d2, ds2, p2, q2, rfl, rfl, rfl, h2, r2⟩ := trodAll_cons r1
 obtain ⟨rfl, rfl, rfl⟩ := trodAll_nil r2
 obtain rfl : args = #[v0, v1, v2] := by cases args; simp_all
 obtain ⟨rfl, rfl⟩ := trodVars_none hV
 obtain ⟨a0, rfl, rfl, rfl, w0⟩ := open_int Tryz.underlying3 (hval 0 3 v0 rfl rfl) h0
 obtain ⟨a1, w1⟩ := Den.open_strs (hval 1 22 v1 rfl rfl) h1
 obtain ⟨a2, w2⟩ := Den.open_ints (hval 2 23 v2 rfl rfl) h2
 clear hA0 hval0
 simp only [List.append_nil] at hW'
 refine (Den.law_told (Den.gok_laid hsh hL) (Den.law18CloneStarts_ok 0 a0 a1 a2 true (Den.CloneStarts_true a0 a1 a2)) (Den.ToldL.cons (Den.Told.int _ _ _) (Den.ToldL.cons (w1) (Den.ToldL.cons (w2) Den.ToldL.nil)))).mono fun e W' ⟨he, hg⟩ => ?_
 subst he
 exact ⟨_, rfl, post_law laidOut hW' rfl rfl Tryz.underlying4 (okTypes_of (by kernel_rfl)) hg rfl⟩
set_option maxRecDepth 100000 in
theorem facts : joinedFacts Tryz.pinned.checked.prog 3 Tryz.f3 Rows.cloneStartsSpec Rows.cloneStartsRow = true := by
 unfold joinedFacts
 rw [k1, k2, k3, k4]
 kernel_rfl
theorem over : Rows.cloneStartsRow.holds Tryz.pinned (OpenSpec.ofChange Rows.cloneStartsSpec) :=
 OpenClaim.holds_of_wide 3 Tryz.f3 rfl rfl rfl rfl rfl rfl rfl ⟨rfl, rfl, rfl, rfl, rfl⟩ rfl rfl rfl rfl rfl (by kernel_rfl) Tryz.func3 facts
  (of_decide_eq_true (by kernel_rfl)) (by unfold Func.isWrapper; first | (rw [if_pos (by decide +kernel)]; kernel_rfl) | (rw [if_neg (by decide +kernel)]; exact ⟨rfl, rfl⟩))
  (fun os started H enc _ => lifted os started H enc)
set_option maxRecDepth 100000 in
theorem proved : Rows.CloneStartsCardSaid :=
 Claim7.holds_tied_plain_at .later [] [.data, .data, .data, .data, .handle, .sentinel, .sentinel, .sentinel, .pinned] true (true, "acdedfe4b776e01a904667e2b4053b184e0ee2927f367696a8724c9bd9118b36") true
  over (fun _ h => by cases h) (by kernel_rfl) (fun _ h => by cases h) cloneStarts_row_tie rfl ⟨rfl, rfl⟩ (by kernel_rfl) rfl
  (fun f fn hf hfn => by
   obtain rfl : f = 3 := Option.some.inj ((show Tryz.prog.funcNamed "flagstone/flagstonelaw18.CloneStarts" = some 3 by kernel_rfl).symm.trans hf) |>.symm
   obtain rfl : fn = Tryz.f3 := (Option.some.inj (Tryz.func3.symm.trans hfn)).symm
   exact ⟨by kernel_rfl, Den.stand_of (by kernel_rfl)⟩)
  (by kernel_rfl)
#print axioms proved
end Go.Proofs.YtdbekeidlppfiaaGreatDoor.lawCloneStarts
