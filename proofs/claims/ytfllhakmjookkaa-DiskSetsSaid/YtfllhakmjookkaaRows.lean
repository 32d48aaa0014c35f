/-
  No cell of these rows narrows 'for every input' (looked for: loops, veiled, ifaces, maps, wideKeys, modest, calm, conditions, laid).
  DERIVED. THE GIVEN ROWS OF THIS SEAT. 11 by the template 'for every input the law returns true; each argument reads behind the call as it read before'; 0 by the template 'total and deterministic' (their statements: YtfllhakmjookkaaTotals.lean).
  GIVEN WITH THE SEED: the statements are not yours to turn. If you find one false, say at which input.
  Laid BY PROGRAM, IN A SANDBOX (cutbox-rows.mjs): the forced cells as the released guide's own fill.sh prints them over the translation 79677991e9fca5fa… (all of the seat's roots in one cut). By AI agents, Wed Nov 11 2026. No macro, syntax, notation, axiom, sorry.
-/
import Derived.Test.YtfllhakmjookkaaChecked
import GoSem.Claim
import GoSem.ClaimJoined
import GoSem.ClaimMapViews
import Derived.JoinedTies
import Derived.KernelRfl
namespace Go.Proofs.Ytfllhakmjookkaa
/- THE CELL 'sum', in the pinned program and in every row, IS THE sha256 OF THE DUMP (.gsa) THAT YtfllhakmjookkaaProg.lean LOADS. Nothing in Lean hashes anything: it is a label: what it is worth is what the hold of that sum in a sandbox is worth. -/
noncomputable def Try.pinned : Pinned := { name := "ytfllhakmjookkaa", sum := "79677991e9fca5fa0d6c35526a5457f7cd7216b7becbdc14dbe71f59c66c60c6", checked := Try.checked }
namespace Rows
def none {H : Type} : Left H := { results := [], args := [] }

/-- 'flagstonelaw06.DiskCounts': WHATEVER THE INPUT: true; the input reads as it did. -/
def diskCountsSpec : ChangeSpec := { name := "diskCounts", fn := fun _ => fun
  | [d1, d2, d3, d4] => { results := [.lit (.bool true)], args := [d1, d2, d3, d4] }
  | _ => none }
def diskCountsRow : OpenClaim := { program := "ytfllhakmjookkaa", sum := "79677991e9fca5fa0d6c35526a5457f7cd7216b7becbdc14dbe71f59c66c60c6", func := "flagstone/flagstonelaw06.DiskCounts", spec := "diskCounts", inPlace := ["internal/bytealg.IndexByteString", "internal/bytealg.IndexString"], unfollowed := true, recurses := true, named := ["internal/bytealg.MaxLen"], apart := false }
def DiskCountsSaid : Prop := diskCountsRow.holds Try.pinned (OpenSpec.ofChange diskCountsSpec)

/-- ITS FALSE NEIGHBOUR: 'it returns false'. Refute it at one input. -/
def diskCountsWrong : ChangeSpec := { name := "diskCounts", fn := fun _ => fun
  | [d1, d2, d3, d4] => { results := [.lit (.bool false)], args := [d1, d2, d3, d4] }
  | _ => none }
def DiskCountsWrongFalsely : Prop := diskCountsRow.holds Try.pinned (OpenSpec.ofChange diskCountsWrong)

/-- 'flagstonelaw06.DiskRight': WHATEVER THE INPUT: true; the input reads as it did. -/
def diskRightSpec : ChangeSpec := { name := "diskRight", fn := fun _ => fun
  | [d] => { results := [.lit (.bool true)], args := [d] }
  | _ => none }
def diskRightRow : OpenClaim := { program := "ytfllhakmjookkaa", sum := "79677991e9fca5fa0d6c35526a5457f7cd7216b7becbdc14dbe71f59c66c60c6", func := "flagstone/flagstonelaw06.DiskRight", spec := "diskRight", inPlace := ["internal/bytealg.IndexByteString", "internal/bytealg.IndexString"], unfollowed := true, recurses := true, named := ["internal/bytealg.MaxLen"], apart := false }
def DiskRightSaid : Prop := diskRightRow.holds Try.pinned (OpenSpec.ofChange diskRightSpec)

/-- ITS FALSE NEIGHBOUR: 'it returns false'. Refute it at one input. -/
def diskRightWrong : ChangeSpec := { name := "diskRight", fn := fun _ => fun
  | [d] => { results := [.lit (.bool false)], args := [d] }
  | _ => none }
def DiskRightWrongFalsely : Prop := diskRightRow.holds Try.pinned (OpenSpec.ofChange diskRightWrong)

/-- 'flagstonelaw06.DiskNew': WHATEVER THE INPUT: true; the input reads as it did. -/
def diskNewSpec : ChangeSpec := { name := "diskNew", fn := fun _ => fun
  | [d1, d2, d3] => { results := [.lit (.bool true)], args := [d1, d2, d3] }
  | _ => none }
def diskNewRow : OpenClaim := { program := "ytfllhakmjookkaa", sum := "79677991e9fca5fa0d6c35526a5457f7cd7216b7becbdc14dbe71f59c66c60c6", func := "flagstone/flagstonelaw06.DiskNew", spec := "diskNew", inPlace := ["internal/bytealg.IndexByteString", "internal/bytealg.IndexString"], unfollowed := true, recurses := true, named := ["internal/bytealg.MaxLen"], apart := false }
def DiskNewSaid : Prop := diskNewRow.holds Try.pinned (OpenSpec.ofChange diskNewSpec)

/-- ITS FALSE NEIGHBOUR: 'it returns false'. Refute it at one input. -/
def diskNewWrong : ChangeSpec := { name := "diskNew", fn := fun _ => fun
  | [d1, d2, d3] => { results := [.lit (.bool false)], args := [d1, d2, d3] }
  | _ => none }
def DiskNewWrongFalsely : Prop := diskNewRow.holds Try.pinned (OpenSpec.ofChange diskNewWrong)

/-- 'flagstonelaw06.DiskSets': WHATEVER THE INPUT: true; the input reads as it did. -/
def diskSetsSpec : ChangeSpec := { name := "diskSets", fn := fun _ => fun
  | [d1, d2, d3] => { results := [.lit (.bool true)], args := [d1, d2, d3] }
  | _ => none }
def diskSetsRow : OpenClaim := { program := "ytfllhakmjookkaa", sum := "79677991e9fca5fa0d6c35526a5457f7cd7216b7becbdc14dbe71f59c66c60c6", func := "flagstone/flagstonelaw06.DiskSets", spec := "diskSets", inPlace := ["internal/bytealg.IndexByteString", "internal/bytealg.IndexString"], unfollowed := true, recurses := true, named := ["internal/bytealg.MaxLen"], apart := false }
def DiskSetsSaid : Prop := diskSetsRow.holds Try.pinned (OpenSpec.ofChange diskSetsSpec)

/-- ITS FALSE NEIGHBOUR: 'it returns false'. Refute it at one input. -/
def diskSetsWrong : ChangeSpec := { name := "diskSets", fn := fun _ => fun
  | [d1, d2, d3] => { results := [.lit (.bool false)], args := [d1, d2, d3] }
  | _ => none }
def DiskSetsWrongFalsely : Prop := diskSetsRow.holds Try.pinned (OpenSpec.ofChange diskSetsWrong)

/-- 'flagstonelaw06.DiskAdds': WHATEVER THE INPUT: true; the input reads as it did. -/
def diskAddsSpec : ChangeSpec := { name := "diskAdds", fn := fun _ => fun
  | [d1, d2] => { results := [.lit (.bool true)], args := [d1, d2] }
  | _ => none }
def diskAddsRow : OpenClaim := { program := "ytfllhakmjookkaa", sum := "79677991e9fca5fa0d6c35526a5457f7cd7216b7becbdc14dbe71f59c66c60c6", func := "flagstone/flagstonelaw06.DiskAdds", spec := "diskAdds", inPlace := ["internal/bytealg.IndexByteString", "internal/bytealg.IndexString"], unfollowed := true, recurses := true, named := ["internal/bytealg.MaxLen"], apart := false }
def DiskAddsSaid : Prop := diskAddsRow.holds Try.pinned (OpenSpec.ofChange diskAddsSpec)

/-- ITS FALSE NEIGHBOUR: 'it returns false'. Refute it at one input. -/
def diskAddsWrong : ChangeSpec := { name := "diskAdds", fn := fun _ => fun
  | [d1, d2] => { results := [.lit (.bool false)], args := [d1, d2] }
  | _ => none }
def DiskAddsWrongFalsely : Prop := diskAddsRow.holds Try.pinned (OpenSpec.ofChange diskAddsWrong)

/-- 'flagstonelaw05.EntryLegal': WHATEVER THE INPUT: true; the input reads as it did. -/
def entryLegalSpec : ChangeSpec := { name := "entryLegal", fn := fun _ => fun
  | [d1, d2] => { results := [.lit (.bool true)], args := [d1, d2] }
  | _ => none }
def entryLegalRow : OpenClaim := { program := "ytfllhakmjookkaa", sum := "79677991e9fca5fa0d6c35526a5457f7cd7216b7becbdc14dbe71f59c66c60c6", func := "flagstone/flagstonelaw05.EntryLegal", spec := "entryLegal", inPlace := ["internal/bytealg.abigen_runtime_cmpstring", "slices.overlaps[flagstone/entry.Entry]", "internal/bytealg.IndexByteString", "internal/bytealg.IndexString"], unfollowed := true, recurses := true, named := ["internal/bytealg.MaxLen"], apart := false }
def EntryLegalSaid : Prop := entryLegalRow.holds Try.pinned (OpenSpec.ofChange entryLegalSpec)

/-- ITS FALSE NEIGHBOUR: 'it returns false'. Refute it at one input. -/
def entryLegalWrong : ChangeSpec := { name := "entryLegal", fn := fun _ => fun
  | [d1, d2] => { results := [.lit (.bool false)], args := [d1, d2] }
  | _ => none }
def EntryLegalWrongFalsely : Prop := entryLegalRow.holds Try.pinned (OpenSpec.ofChange entryLegalWrong)

/-- 'flagstonelaw05.EntryActs': WHATEVER THE INPUT: true; the input reads as it did. -/
def entryActsSpec : ChangeSpec := { name := "entryActs", fn := fun _ => fun
  | [d1, d2, d3] => { results := [.lit (.bool true)], args := [d1, d2, d3] }
  | _ => none }
def entryActsRow : OpenClaim := { program := "ytfllhakmjookkaa", sum := "79677991e9fca5fa0d6c35526a5457f7cd7216b7becbdc14dbe71f59c66c60c6", func := "flagstone/flagstonelaw05.EntryActs", spec := "entryActs", inPlace := ["internal/bytealg.abigen_runtime_cmpstring", "slices.overlaps[flagstone/entry.Entry]", "internal/bytealg.IndexByteString", "internal/bytealg.IndexString"], unfollowed := true, recurses := true, named := ["internal/bytealg.MaxLen"], apart := false }
def EntryActsSaid : Prop := entryActsRow.holds Try.pinned (OpenSpec.ofChange entryActsSpec)

/-- ITS FALSE NEIGHBOUR: 'it returns false'. Refute it at one input. -/
def entryActsWrong : ChangeSpec := { name := "entryActs", fn := fun _ => fun
  | [d1, d2, d3] => { results := [.lit (.bool false)], args := [d1, d2, d3] }
  | _ => none }
def EntryActsWrongFalsely : Prop := entryActsRow.holds Try.pinned (OpenSpec.ofChange entryActsWrong)

/-- 'flagstonelaw05.EntryKeeps': WHATEVER THE INPUT: true; the input reads as it did. -/
def entryKeepsSpec : ChangeSpec := { name := "entryKeeps", fn := fun _ => fun
  | [d1, d2, d3, d4] => { results := [.lit (.bool true)], args := [d1, d2, d3, d4] }
  | _ => none }
def entryKeepsRow : OpenClaim := { program := "ytfllhakmjookkaa", sum := "79677991e9fca5fa0d6c35526a5457f7cd7216b7becbdc14dbe71f59c66c60c6", func := "flagstone/flagstonelaw05.EntryKeeps", spec := "entryKeeps", inPlace := ["internal/bytealg.abigen_runtime_cmpstring", "slices.overlaps[flagstone/entry.Entry]", "internal/bytealg.IndexByteString", "internal/bytealg.IndexString"], unfollowed := true, recurses := true, named := ["internal/bytealg.MaxLen"], apart := false }
def EntryKeepsSaid : Prop := entryKeepsRow.holds Try.pinned (OpenSpec.ofChange entryKeepsSpec)

/-- ITS FALSE NEIGHBOUR: 'it returns false'. Refute it at one input. -/
def entryKeepsWrong : ChangeSpec := { name := "entryKeeps", fn := fun _ => fun
  | [d1, d2, d3, d4] => { results := [.lit (.bool false)], args := [d1, d2, d3, d4] }
  | _ => none }
def EntryKeepsWrongFalsely : Prop := entryKeepsRow.holds Try.pinned (OpenSpec.ofChange entryKeepsWrong)

/-- 'flagstonelaw05.EntryTwice': WHATEVER THE INPUT: true; the input reads as it did. -/
def entryTwiceSpec : ChangeSpec := { name := "entryTwice", fn := fun _ => fun
  | [d1, d2, d3, d4, d5] => { results := [.lit (.bool true)], args := [d1, d2, d3, d4, d5] }
  | _ => none }
def entryTwiceRow : OpenClaim := { program := "ytfllhakmjookkaa", sum := "79677991e9fca5fa0d6c35526a5457f7cd7216b7becbdc14dbe71f59c66c60c6", func := "flagstone/flagstonelaw05.EntryTwice", spec := "entryTwice", inPlace := ["internal/bytealg.abigen_runtime_cmpstring", "slices.overlaps[flagstone/entry.Entry]", "internal/bytealg.IndexByteString", "internal/bytealg.IndexString"], unfollowed := true, recurses := true, named := ["internal/bytealg.MaxLen"], apart := false }
def EntryTwiceSaid : Prop := entryTwiceRow.holds Try.pinned (OpenSpec.ofChange entryTwiceSpec)

/-- ITS FALSE NEIGHBOUR: 'it returns false'. Refute it at one input. -/
def entryTwiceWrong : ChangeSpec := { name := "entryTwice", fn := fun _ => fun
  | [d1, d2, d3, d4, d5] => { results := [.lit (.bool false)], args := [d1, d2, d3, d4, d5] }
  | _ => none }
def EntryTwiceWrongFalsely : Prop := entryTwiceRow.holds Try.pinned (OpenSpec.ofChange entryTwiceWrong)

/-- 'flagstonelaw05.EntryCounts': WHATEVER THE INPUT: true; the input reads as it did. -/
def entryCountsSpec : ChangeSpec := { name := "entryCounts", fn := fun _ => fun
  | [d1, d2] => { results := [.lit (.bool true)], args := [d1, d2] }
  | _ => none }
def entryCountsRow : OpenClaim := { program := "ytfllhakmjookkaa", sum := "79677991e9fca5fa0d6c35526a5457f7cd7216b7becbdc14dbe71f59c66c60c6", func := "flagstone/flagstonelaw05.EntryCounts", spec := "entryCounts", inPlace := ["internal/bytealg.abigen_runtime_cmpstring", "slices.overlaps[flagstone/entry.Entry]", "internal/bytealg.IndexByteString", "internal/bytealg.IndexString"], unfollowed := true, recurses := true, named := ["internal/bytealg.MaxLen"], apart := false }
def EntryCountsSaid : Prop := entryCountsRow.holds Try.pinned (OpenSpec.ofChange entryCountsSpec)

/-- ITS FALSE NEIGHBOUR: 'it returns false'. Refute it at one input. -/
def entryCountsWrong : ChangeSpec := { name := "entryCounts", fn := fun _ => fun
  | [d1, d2] => { results := [.lit (.bool false)], args := [d1, d2] }
  | _ => none }
def EntryCountsWrongFalsely : Prop := entryCountsRow.holds Try.pinned (OpenSpec.ofChange entryCountsWrong)

/-- 'flagstonelaw05.EntryFinds': WHATEVER THE INPUT: true; the input reads as it did. -/
def entryFindsSpec : ChangeSpec := { name := "entryFinds", fn := fun _ => fun
  | [d1, d2] => { results := [.lit (.bool true)], args := [d1, d2] }
  | _ => none }
def entryFindsRow : OpenClaim := { program := "ytfllhakmjookkaa", sum := "79677991e9fca5fa0d6c35526a5457f7cd7216b7becbdc14dbe71f59c66c60c6", func := "flagstone/flagstonelaw05.EntryFinds", spec := "entryFinds", inPlace := ["internal/bytealg.abigen_runtime_cmpstring", "slices.overlaps[flagstone/entry.Entry]", "internal/bytealg.IndexByteString", "internal/bytealg.IndexString"], unfollowed := true, recurses := true, named := ["internal/bytealg.MaxLen"], apart := false }
def EntryFindsSaid : Prop := entryFindsRow.holds Try.pinned (OpenSpec.ofChange entryFindsSpec)

/-- ITS FALSE NEIGHBOUR: 'it returns false'. Refute it at one input. -/
def entryFindsWrong : ChangeSpec := { name := "entryFinds", fn := fun _ => fun
  | [d1, d2] => { results := [.lit (.bool false)], args := [d1, d2] }
  | _ => none }
def EntryFindsWrongFalsely : Prop := entryFindsRow.holds Try.pinned (OpenSpec.ofChange entryFindsWrong)

/- THE SECOND FORM. 'bulk': how many values and letters a reading holds, each counted each time it is reached (what is shared counts as often as it is met; a slice's spare places count too). A statement '..UptoSaid' is the law's where the arguments, and the package variables that the reading takes, are together of bulk at most 1048576: NARROWER than '..Said'. Prove '..Said' where nothing that the law and all that it calls make is longer than what came in: it says more and counts as full. Else prove '..UptoSaid'. A law counts once. -/
mutual
def uptoBulk {H : Type} : DataW H → Nat
  | .lit (.string bytes) => bytes.length + 1
  | .lit _ => 1
  | .nil => 1
  | .ptr d => uptoBulk d + 1
  | .slice elems spare => uptoBulkAll elems + uptoBulkAll spare + 1
  | .agg parts => uptoBulkAll parts + 1
  | .iface _ d => uptoBulk d + 1
  | .map entries => uptoBulkEntries entries + 1
  | .held _ => 1
def uptoBulkAll {H : Type} : List (DataW H) → Nat
  | [] => 0
  | d :: r => uptoBulk d + uptoBulkAll r
def uptoBulkEntries {H : Type} : List (Lit × DataW H) → Nat
  | [] => 0
  | x :: r => uptoBulkEntry x + uptoBulkEntries r
def uptoBulkEntry {H : Type} : Lit × DataW H → Nat
  | (.string bytes, d) => bytes.length + uptoBulk d + 1
  | (_, d) => uptoBulk d + 1
 end
def uptoSmall : (H : Type) → List (DataW H) → Bool := fun _ ds => decide (uptoBulkAll ds ≤ 1048576)
def OpenSpec.upto (s : _root_.Go.ChangeSpec) : _root_.Go.OpenSpec := { _root_.Go.OpenSpec.ofChange s with cond := some uptoSmall }

/-- 'flagstonelaw06.DiskCounts', WHERE WHAT IT READS IS OF BULK AT MOST 1048576: true; the input reads as it did. -/
def diskCountsUptoRow : OpenClaim := { program := "ytfllhakmjookkaa", sum := "79677991e9fca5fa0d6c35526a5457f7cd7216b7becbdc14dbe71f59c66c60c6", func := "flagstone/flagstonelaw06.DiskCounts", spec := "diskCounts", inPlace := ["internal/bytealg.IndexByteString", "internal/bytealg.IndexString"], unfollowed := true, recurses := true, named := ["internal/bytealg.MaxLen"], apart := false, narrowed := true }
def DiskCountsUptoSaid : Prop := diskCountsUptoRow.holds Try.pinned (OpenSpec.upto diskCountsSpec)

/-- 'flagstonelaw06.DiskRight', WHERE WHAT IT READS IS OF BULK AT MOST 1048576: true; the input reads as it did. -/
def diskRightUptoRow : OpenClaim := { program := "ytfllhakmjookkaa", sum := "79677991e9fca5fa0d6c35526a5457f7cd7216b7becbdc14dbe71f59c66c60c6", func := "flagstone/flagstonelaw06.DiskRight", spec := "diskRight", inPlace := ["internal/bytealg.IndexByteString", "internal/bytealg.IndexString"], unfollowed := true, recurses := true, named := ["internal/bytealg.MaxLen"], apart := false, narrowed := true }
def DiskRightUptoSaid : Prop := diskRightUptoRow.holds Try.pinned (OpenSpec.upto diskRightSpec)

/-- 'flagstonelaw06.DiskNew', WHERE WHAT IT READS IS OF BULK AT MOST 1048576: true; the input reads as it did. -/
def diskNewUptoRow : OpenClaim := { program := "ytfllhakmjookkaa", sum := "79677991e9fca5fa0d6c35526a5457f7cd7216b7becbdc14dbe71f59c66c60c6", func := "flagstone/flagstonelaw06.DiskNew", spec := "diskNew", inPlace := ["internal/bytealg.IndexByteString", "internal/bytealg.IndexString"], unfollowed := true, recurses := true, named := ["internal/bytealg.MaxLen"], apart := false, narrowed := true }
def DiskNewUptoSaid : Prop := diskNewUptoRow.holds Try.pinned (OpenSpec.upto diskNewSpec)

/-- 'flagstonelaw06.DiskSets', WHERE WHAT IT READS IS OF BULK AT MOST 1048576: true; the input reads as it did. -/
def diskSetsUptoRow : OpenClaim := { program := "ytfllhakmjookkaa", sum := "79677991e9fca5fa0d6c35526a5457f7cd7216b7becbdc14dbe71f59c66c60c6", func := "flagstone/flagstonelaw06.DiskSets", spec := "diskSets", inPlace := ["internal/bytealg.IndexByteString", "internal/bytealg.IndexString"], unfollowed := true, recurses := true, named := ["internal/bytealg.MaxLen"], apart := false, narrowed := true }
def DiskSetsUptoSaid : Prop := diskSetsUptoRow.holds Try.pinned (OpenSpec.upto diskSetsSpec)

/-- 'flagstonelaw06.DiskAdds', WHERE WHAT IT READS IS OF BULK AT MOST 1048576: true; the input reads as it did. -/
def diskAddsUptoRow : OpenClaim := { program := "ytfllhakmjookkaa", sum := "79677991e9fca5fa0d6c35526a5457f7cd7216b7becbdc14dbe71f59c66c60c6", func := "flagstone/flagstonelaw06.DiskAdds", spec := "diskAdds", inPlace := ["internal/bytealg.IndexByteString", "internal/bytealg.IndexString"], unfollowed := true, recurses := true, named := ["internal/bytealg.MaxLen"], apart := false, narrowed := true }
def DiskAddsUptoSaid : Prop := diskAddsUptoRow.holds Try.pinned (OpenSpec.upto diskAddsSpec)

/-- 'flagstonelaw05.EntryLegal', WHERE WHAT IT READS IS OF BULK AT MOST 1048576: true; the input reads as it did. -/
def entryLegalUptoRow : OpenClaim := { program := "ytfllhakmjookkaa", sum := "79677991e9fca5fa0d6c35526a5457f7cd7216b7becbdc14dbe71f59c66c60c6", func := "flagstone/flagstonelaw05.EntryLegal", spec := "entryLegal", inPlace := ["internal/bytealg.abigen_runtime_cmpstring", "slices.overlaps[flagstone/entry.Entry]", "internal/bytealg.IndexByteString", "internal/bytealg.IndexString"], unfollowed := true, recurses := true, named := ["internal/bytealg.MaxLen"], apart := false, narrowed := true }
def EntryLegalUptoSaid : Prop := entryLegalUptoRow.holds Try.pinned (OpenSpec.upto entryLegalSpec)

/-- 'flagstonelaw05.EntryActs', WHERE WHAT IT READS IS OF BULK AT MOST 1048576: true; the input reads as it did. -/
def entryActsUptoRow : OpenClaim := { program := "ytfllhakmjookkaa", sum := "79677991e9fca5fa0d6c35526a5457f7cd7216b7becbdc14dbe71f59c66c60c6", func := "flagstone/flagstonelaw05.EntryActs", spec := "entryActs", inPlace := ["internal/bytealg.abigen_runtime_cmpstring", "slices.overlaps[flagstone/entry.Entry]", "internal/bytealg.IndexByteString", "internal/bytealg.IndexString"], unfollowed := true, recurses := true, named := ["internal/bytealg.MaxLen"], apart := false, narrowed := true }
def EntryActsUptoSaid : Prop := entryActsUptoRow.holds Try.pinned (OpenSpec.upto entryActsSpec)

/-- 'flagstonelaw05.EntryKeeps', WHERE WHAT IT READS IS OF BULK AT MOST 1048576: true; the input reads as it did. -/
def entryKeepsUptoRow : OpenClaim := { program := "ytfllhakmjookkaa", sum := "79677991e9fca5fa0d6c35526a5457f7cd7216b7becbdc14dbe71f59c66c60c6", func := "flagstone/flagstonelaw05.EntryKeeps", spec := "entryKeeps", inPlace := ["internal/bytealg.abigen_runtime_cmpstring", "slices.overlaps[flagstone/entry.Entry]", "internal/bytealg.IndexByteString", "internal/bytealg.IndexString"], unfollowed := true, recurses := true, named := ["internal/bytealg.MaxLen"], apart := false, narrowed := true }
def EntryKeepsUptoSaid : Prop := entryKeepsUptoRow.holds Try.pinned (OpenSpec.upto entryKeepsSpec)

/-- 'flagstonelaw05.EntryTwice', WHERE WHAT IT READS IS OF BULK AT MOST 1048576: true; the input reads as it did. -/
def entryTwiceUptoRow : OpenClaim := { program := "ytfllhakmjookkaa", sum := "79677991e9fca5fa0d6c35526a5457f7cd7216b7becbdc14dbe71f59c66c60c6", func := "flagstone/flagstonelaw05.EntryTwice", spec := "entryTwice", inPlace := ["internal/bytealg.abigen_runtime_cmpstring", "slices.overlaps[flagstone/entry.Entry]", "internal/bytealg.IndexByteString", "internal/bytealg.IndexString"], unfollowed := true, recurses := true, named := ["internal/bytealg.MaxLen"], apart := false, narrowed := true }
def EntryTwiceUptoSaid : Prop := entryTwiceUptoRow.holds Try.pinned (OpenSpec.upto entryTwiceSpec)

/-- 'flagstonelaw05.EntryCounts', WHERE WHAT IT READS IS OF BULK AT MOST 1048576: true; the input reads as it did. -/
def entryCountsUptoRow : OpenClaim := { program := "ytfllhakmjookkaa", sum := "79677991e9fca5fa0d6c35526a5457f7cd7216b7becbdc14dbe71f59c66c60c6", func := "flagstone/flagstonelaw05.EntryCounts", spec := "entryCounts", inPlace := ["internal/bytealg.abigen_runtime_cmpstring", "slices.overlaps[flagstone/entry.Entry]", "internal/bytealg.IndexByteString", "internal/bytealg.IndexString"], unfollowed := true, recurses := true, named := ["internal/bytealg.MaxLen"], apart := false, narrowed := true }
def EntryCountsUptoSaid : Prop := entryCountsUptoRow.holds Try.pinned (OpenSpec.upto entryCountsSpec)

/-- 'flagstonelaw05.EntryFinds', WHERE WHAT IT READS IS OF BULK AT MOST 1048576: true; the input reads as it did. -/
def entryFindsUptoRow : OpenClaim := { program := "ytfllhakmjookkaa", sum := "79677991e9fca5fa0d6c35526a5457f7cd7216b7becbdc14dbe71f59c66c60c6", func := "flagstone/flagstonelaw05.EntryFinds", spec := "entryFinds", inPlace := ["internal/bytealg.abigen_runtime_cmpstring", "slices.overlaps[flagstone/entry.Entry]", "internal/bytealg.IndexByteString", "internal/bytealg.IndexString"], unfollowed := true, recurses := true, named := ["internal/bytealg.MaxLen"], apart := false, narrowed := true }
def EntryFindsUptoSaid : Prop := entryFindsUptoRow.holds Try.pinned (OpenSpec.upto entryFindsSpec)

end Rows
end Go.Proofs.Ytfllhakmjookkaa
