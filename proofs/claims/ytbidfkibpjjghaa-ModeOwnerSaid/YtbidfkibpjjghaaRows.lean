/-
  No cell of these rows narrows 'for every input' (looked for: loops, veiled, ifaces, maps, wideKeys, modest, calm, conditions, laid).
  DERIVED. THE GIVEN ROWS OF THIS SEAT. 5 by the template 'for every input the law returns true; each argument reads behind the call as it read before'; 0 by the template 'total and deterministic' (their statements: YtbidfkibpjjghaaTotals.lean).
  GIVEN WITH THE SEED: the statements are not yours to turn. If you find one false, say at which input.
  Laid BY PROGRAM, IN A SANDBOX (cutbox-rows.mjs): the forced cells as the released guide's own fill.sh prints them over the translation 52c79edfff3665f6… (all of the seat's roots in one cut). By AI agents, Wed Nov 11 2026. No macro, syntax, notation, axiom, sorry.
-/
import Derived.Test.YtbidfkibpjjghaaChecked
import GoSem.Claim
import GoSem.ClaimJoined
import GoSem.ClaimMapViews
import Derived.JoinedTies
import Derived.KernelRfl
namespace Go.Proofs.Ytbidfkibpjjghaa
/- THE CELL 'sum', in the pinned program and in every row, IS THE sha256 OF THE DUMP (.gsa) THAT YtbidfkibpjjghaaProg.lean LOADS. Nothing in Lean hashes anything: it is a label: what it is worth is what the hold of that sum in a sandbox is worth. -/
noncomputable def Try.pinned : Pinned := { name := "ytbidfkibpjjghaa", sum := "52c79edfff3665f6a1cdaeadbb1e8e984d448a9091d281d6fcda9b2fd0ceaa9e", checked := Try.checked }
namespace Rows
def none {H : Type} : Left H := { results := [], args := [] }

/-- 'flagstonelaw04.ModeTells': WHATEVER THE INPUT: true; the input reads as it did. -/
def modeTellsSpec : ChangeSpec := { name := "modeTells", fn := fun _ => fun
  | [d1, d2, d3, d4, d5] => { results := [.lit (.bool true)], args := [d1, d2, d3, d4, d5] }
  | _ => none }
def modeTellsRow : OpenClaim := { program := "ytbidfkibpjjghaa", sum := "52c79edfff3665f6a1cdaeadbb1e8e984d448a9091d281d6fcda9b2fd0ceaa9e", func := "flagstone/flagstonelaw04.ModeTells", spec := "modeTells", inPlace := ["internal/bytealg.IndexByteString"], apart := false }
def ModeTellsSaid : Prop := modeTellsRow.holds Try.pinned (OpenSpec.ofChange modeTellsSpec)

/-- ITS FALSE NEIGHBOUR: 'it returns false'. Refute it at one input. -/
def modeTellsWrong : ChangeSpec := { name := "modeTells", fn := fun _ => fun
  | [d1, d2, d3, d4, d5] => { results := [.lit (.bool false)], args := [d1, d2, d3, d4, d5] }
  | _ => none }
def ModeTellsWrongFalsely : Prop := modeTellsRow.holds Try.pinned (OpenSpec.ofChange modeTellsWrong)

/-- 'flagstonelaw04.ModeParses': WHATEVER THE INPUT: true; the input reads as it did. -/
def modeParsesSpec : ChangeSpec := { name := "modeParses", fn := fun _ => fun
  | [d] => { results := [.lit (.bool true)], args := [d] }
  | _ => none }
def modeParsesRow : OpenClaim := { program := "ytbidfkibpjjghaa", sum := "52c79edfff3665f6a1cdaeadbb1e8e984d448a9091d281d6fcda9b2fd0ceaa9e", func := "flagstone/flagstonelaw04.ModeParses", spec := "modeParses", inPlace := ["internal/bytealg.IndexByteString"], apart := false }
def ModeParsesSaid : Prop := modeParsesRow.holds Try.pinned (OpenSpec.ofChange modeParsesSpec)

/-- ITS FALSE NEIGHBOUR: 'it returns false'. Refute it at one input. -/
def modeParsesWrong : ChangeSpec := { name := "modeParses", fn := fun _ => fun
  | [d] => { results := [.lit (.bool false)], args := [d] }
  | _ => none }
def ModeParsesWrongFalsely : Prop := modeParsesRow.holds Try.pinned (OpenSpec.ofChange modeParsesWrong)

/-- 'flagstonelaw04.ModeBack': WHATEVER THE INPUT: true; the input reads as it did. -/
def modeBackSpec : ChangeSpec := { name := "modeBack", fn := fun _ => fun
  | [d] => { results := [.lit (.bool true)], args := [d] }
  | _ => none }
def modeBackRow : OpenClaim := { program := "ytbidfkibpjjghaa", sum := "52c79edfff3665f6a1cdaeadbb1e8e984d448a9091d281d6fcda9b2fd0ceaa9e", func := "flagstone/flagstonelaw04.ModeBack", spec := "modeBack", inPlace := ["internal/bytealg.IndexByteString"], apart := false }
def ModeBackSaid : Prop := modeBackRow.holds Try.pinned (OpenSpec.ofChange modeBackSpec)

/-- ITS FALSE NEIGHBOUR: 'it returns false'. Refute it at one input. -/
def modeBackWrong : ChangeSpec := { name := "modeBack", fn := fun _ => fun
  | [d] => { results := [.lit (.bool false)], args := [d] }
  | _ => none }
def ModeBackWrongFalsely : Prop := modeBackRow.holds Try.pinned (OpenSpec.ofChange modeBackWrong)

/-- 'flagstonelaw04.ModeMore': WHATEVER THE INPUT: true; the input reads as it did. -/
def modeMoreSpec : ChangeSpec := { name := "modeMore", fn := fun _ => fun
  | [d1, d2, d3, d4, d5, d6] => { results := [.lit (.bool true)], args := [d1, d2, d3, d4, d5, d6] }
  | _ => none }
def modeMoreRow : OpenClaim := { program := "ytbidfkibpjjghaa", sum := "52c79edfff3665f6a1cdaeadbb1e8e984d448a9091d281d6fcda9b2fd0ceaa9e", func := "flagstone/flagstonelaw04.ModeMore", spec := "modeMore", inPlace := ["internal/bytealg.IndexByteString"], apart := false }
def ModeMoreSaid : Prop := modeMoreRow.holds Try.pinned (OpenSpec.ofChange modeMoreSpec)

/-- ITS FALSE NEIGHBOUR: 'it returns false'. Refute it at one input. -/
def modeMoreWrong : ChangeSpec := { name := "modeMore", fn := fun _ => fun
  | [d1, d2, d3, d4, d5, d6] => { results := [.lit (.bool false)], args := [d1, d2, d3, d4, d5, d6] }
  | _ => none }
def ModeMoreWrongFalsely : Prop := modeMoreRow.holds Try.pinned (OpenSpec.ofChange modeMoreWrong)

/-- 'flagstonelaw04.ModeOwner': WHATEVER THE INPUT: true; the input reads as it did. -/
def modeOwnerSpec : ChangeSpec := { name := "modeOwner", fn := fun _ => fun
  | [d1, d2, d3, d4] => { results := [.lit (.bool true)], args := [d1, d2, d3, d4] }
  | _ => none }
def modeOwnerRow : OpenClaim := { program := "ytbidfkibpjjghaa", sum := "52c79edfff3665f6a1cdaeadbb1e8e984d448a9091d281d6fcda9b2fd0ceaa9e", func := "flagstone/flagstonelaw04.ModeOwner", spec := "modeOwner", inPlace := ["internal/bytealg.IndexByteString"], apart := false }
def ModeOwnerSaid : Prop := modeOwnerRow.holds Try.pinned (OpenSpec.ofChange modeOwnerSpec)

/-- ITS FALSE NEIGHBOUR: 'it returns false'. Refute it at one input. -/
def modeOwnerWrong : ChangeSpec := { name := "modeOwner", fn := fun _ => fun
  | [d1, d2, d3, d4] => { results := [.lit (.bool false)], args := [d1, d2, d3, d4] }
  | _ => none }
def ModeOwnerWrongFalsely : Prop := modeOwnerRow.holds Try.pinned (OpenSpec.ofChange modeOwnerWrong)

/- THE SECOND FORM. 'bulk': how many values and letters a reading holds, each counted each time it is reached (what is shared counts as often as it is met; a slice's spare places count too). A statement '..UptoSaid' is the law's where the arguments, and the package variables that the reading takes, are together of bulk at most 1048576: NARROWER than '..Said'. Prove '..Said' where nothing that the law and all that it calls make is longer than what came in: it says more and counts as full. Else prove '..UptoSaid'. A law counts once. -/
mutual
def uptoBulk {H : Type} : DataW H → Nat
  | .lit (.string bytes) => bytes.length + 1
  | .lit _ => 1
  | .nil => 1
  | .ptr d => uptoBulk d + 1
  | .slice elems spare => uptoBulkAll elems + uptoBulkAll spare + 1
  | .agg parts => uptoBulkAll parts + 1
  | .iface _ d => uptoBulk d + 1
  | .map entries => uptoBulkEntries entries + 1
  | .held _ => 1
def uptoBulkAll {H : Type} : List (DataW H) → Nat
  | [] => 0
  | d :: r => uptoBulk d + uptoBulkAll r
def uptoBulkEntries {H : Type} : List (Lit × DataW H) → Nat
  | [] => 0
  | x :: r => uptoBulkEntry x + uptoBulkEntries r
def uptoBulkEntry {H : Type} : Lit × DataW H → Nat
  | (.string bytes, d) => bytes.length + uptoBulk d + 1
  | (_, d) => uptoBulk d + 1
 end
def uptoSmall : (H : Type) → List (DataW H) → Bool := fun _ ds => decide (uptoBulkAll ds ≤ 1048576)
def OpenSpec.upto (s : _root_.Go.ChangeSpec) : _root_.Go.OpenSpec := { _root_.Go.OpenSpec.ofChange s with cond := some uptoSmall }

/-- 'flagstonelaw04.ModeTells', WHERE WHAT IT READS IS OF BULK AT MOST 1048576: true; the input reads as it did. -/
def modeTellsUptoRow : OpenClaim := { program := "ytbidfkibpjjghaa", sum := "52c79edfff3665f6a1cdaeadbb1e8e984d448a9091d281d6fcda9b2fd0ceaa9e", func := "flagstone/flagstonelaw04.ModeTells", spec := "modeTells", inPlace := ["internal/bytealg.IndexByteString"], apart := false, narrowed := true }
def ModeTellsUptoSaid : Prop := modeTellsUptoRow.holds Try.pinned (OpenSpec.upto modeTellsSpec)

/-- 'flagstonelaw04.ModeParses', WHERE WHAT IT READS IS OF BULK AT MOST 1048576: true; the input reads as it did. -/
def modeParsesUptoRow : OpenClaim := { program := "ytbidfkibpjjghaa", sum := "52c79edfff3665f6a1cdaeadbb1e8e984d448a9091d281d6fcda9b2fd0ceaa9e", func := "flagstone/flagstonelaw04.ModeParses", spec := "modeParses", inPlace := ["internal/bytealg.IndexByteString"], apart := false, narrowed := true }
def ModeParsesUptoSaid : Prop := modeParsesUptoRow.holds Try.pinned (OpenSpec.upto modeParsesSpec)

/-- 'flagstonelaw04.ModeBack', WHERE WHAT IT READS IS OF BULK AT MOST 1048576: true; the input reads as it did. -/
def modeBackUptoRow : OpenClaim := { program := "ytbidfkibpjjghaa", sum := "52c79edfff3665f6a1cdaeadbb1e8e984d448a9091d281d6fcda9b2fd0ceaa9e", func := "flagstone/flagstonelaw04.ModeBack", spec := "modeBack", inPlace := ["internal/bytealg.IndexByteString"], apart := false, narrowed := true }
def ModeBackUptoSaid : Prop := modeBackUptoRow.holds Try.pinned (OpenSpec.upto modeBackSpec)

/-- 'flagstonelaw04.ModeMore', WHERE WHAT IT READS IS OF BULK AT MOST 1048576: true; the input reads as it did. -/
def modeMoreUptoRow : OpenClaim := { program := "ytbidfkibpjjghaa", sum := "52c79edfff3665f6a1cdaeadbb1e8e984d448a9091d281d6fcda9b2fd0ceaa9e", func := "flagstone/flagstonelaw04.ModeMore", spec := "modeMore", inPlace := ["internal/bytealg.IndexByteString"], apart := false, narrowed := true }
def ModeMoreUptoSaid : Prop := modeMoreUptoRow.holds Try.pinned (OpenSpec.upto modeMoreSpec)

/-- 'flagstonelaw04.ModeOwner', WHERE WHAT IT READS IS OF BULK AT MOST 1048576: true; the input reads as it did. -/
def modeOwnerUptoRow : OpenClaim := { program := "ytbidfkibpjjghaa", sum := "52c79edfff3665f6a1cdaeadbb1e8e984d448a9091d281d6fcda9b2fd0ceaa9e", func := "flagstone/flagstonelaw04.ModeOwner", spec := "modeOwner", inPlace := ["internal/bytealg.IndexByteString"], apart := false, narrowed := true }
def ModeOwnerUptoSaid : Prop := modeOwnerUptoRow.holds Try.pinned (OpenSpec.upto modeOwnerSpec)

end Rows
end Go.Proofs.Ytbidfkibpjjghaa
