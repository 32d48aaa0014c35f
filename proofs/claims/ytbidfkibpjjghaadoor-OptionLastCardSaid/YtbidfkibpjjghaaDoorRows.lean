/-
  NARROWER THAN 'FOR EVERY INPUT', by the rows' own cells (each row's printed sentence says how): OptionParses: laid · OptionValues: laid · OptionBack: laid · OptionGroups: laid · OptionNone: laid · OptionLast: laid.
  DERIVED. THE GIVEN ROWS OF THIS SEAT. 6 by the template 'for every input the law returns true; each argument reads behind the call as it read before'; 0 by the template 'total and deterministic' (their statements: YtbidfkibpjjghaaDoorTotals.lean).
  GIVEN WITH THE SEED: the statements are not yours to turn. If you find one false, say at which input.
  Laid BY PROGRAM, IN A SANDBOX (cutbox-rows.mjs): the forced cells as the released guide's own fill.sh prints them over the translation 3ddf8d8cccab2893… (all of the seat's roots in one cut). By AI agents, Wed Nov 11 2026. No macro, syntax, notation, axiom, sorry.
-/
import Derived.Test.YtbidfkibpjjghaaDoorChecked
import GoSem.Claim
import GoSem.ClaimJoined
import GoSem.ClaimMapViews
import Derived.JoinedTies
import Derived.KernelRfl
namespace Go.Proofs.YtbidfkibpjjghaaDoor
/- THE CELL 'sum', in the pinned program and in every row, IS THE sha256 OF THE DUMP (.gsa) THAT YtbidfkibpjjghaaDoorProg.lean LOADS. Nothing in Lean hashes anything: it is a label: what it is worth is what the hold of that sum in a sandbox is worth. -/
noncomputable def Tryd.pinned : Pinned := { name := "ytbidfkibpjjghaadoor", sum := "3ddf8d8cccab2893c0775bf193aa4542f0498e03b618c41274e54f1b1f4139d8", checked := Tryd.checked }
namespace Rows
def none {H : Type} : Left H := { results := [], args := [] }

/- WHAT THE LISTED PACKAGE-LEVEL VARIABLES READ AS WHEN THE CALL BEGINS. Each datum BY PROGRAM (the guide's laid-datum.mjs) off the statement by which the dump's own 'gosem.cut.vars' lays the variable. In a bare row this is a premise. The card (YtbidfkibpjjghaaDoorCards.lean) ties it to the program's text. -/
def laid_flagstone_option_errLetter {H : Type} : DataW H := .iface "*errors.errorString" (.ptr (.agg [.lit (.string [110, 111, 32, 115, 117, 99, 104, 32, 108, 101, 116, 116, 101, 114])]))
def laid_flagstone_option_errValue {H : Type} : DataW H := .iface "*errors.errorString" (.ptr (.agg [.lit (.string [97, 32, 118, 97, 108, 117, 101, 32, 108, 97, 99, 107, 115])]))

/-- 'flagstonelaw03.OptionParses': WHATEVER THE INPUT: true; the input reads as it did. -/
def optionParsesSpec : ChangeSpec := { name := "optionParses", fn := fun _ => fun
  | [d1, d2] => { results := [.lit (.bool true)], args := [d1, d2] }
  | _ => none }
def optionParsesRow : OpenClaim := { program := "ytbidfkibpjjghaadoor", sum := "3ddf8d8cccab2893c0775bf193aa4542f0498e03b618c41274e54f1b1f4139d8", func := "flagstone/flagstonelaw03.OptionParses", spec := "optionParses", inPlace := ["internal/bytealg.IndexByteString", "internal/bytealg.IndexString", "internal/reflectlite.TypeOf"], unfollowed := true, recurses := true, named := ["flagstone/option.errLetter", "flagstone/option.errValue", "internal/bytealg.MaxLen"], apart := false, laid := [("flagstone/option.errLetter", laid_flagstone_option_errLetter), ("flagstone/option.errValue", laid_flagstone_option_errValue)] }
def OptionParsesSaid : Prop := optionParsesRow.holds Tryd.pinned (OpenSpec.ofChange optionParsesSpec)

/-- ITS FALSE NEIGHBOUR: 'it returns false'. Refute it at one input. -/
def optionParsesWrong : ChangeSpec := { name := "optionParses", fn := fun _ => fun
  | [d1, d2] => { results := [.lit (.bool false)], args := [d1, d2] }
  | _ => none }
def OptionParsesWrongFalsely : Prop := optionParsesRow.holds Tryd.pinned (OpenSpec.ofChange optionParsesWrong)

/-- 'flagstonelaw03.OptionValues': WHATEVER THE INPUT: true; the input reads as it did. -/
def optionValuesSpec : ChangeSpec := { name := "optionValues", fn := fun _ => fun
  | [d1, d2] => { results := [.lit (.bool true)], args := [d1, d2] }
  | _ => none }
def optionValuesRow : OpenClaim := { program := "ytbidfkibpjjghaadoor", sum := "3ddf8d8cccab2893c0775bf193aa4542f0498e03b618c41274e54f1b1f4139d8", func := "flagstone/flagstonelaw03.OptionValues", spec := "optionValues", inPlace := ["internal/bytealg.IndexByteString", "internal/bytealg.IndexString", "internal/reflectlite.TypeOf"], unfollowed := true, recurses := true, named := ["flagstone/option.errLetter", "flagstone/option.errValue", "internal/bytealg.MaxLen"], apart := false, laid := [("flagstone/option.errLetter", laid_flagstone_option_errLetter), ("flagstone/option.errValue", laid_flagstone_option_errValue)] }
def OptionValuesSaid : Prop := optionValuesRow.holds Tryd.pinned (OpenSpec.ofChange optionValuesSpec)

/-- ITS FALSE NEIGHBOUR: 'it returns false'. Refute it at one input. -/
def optionValuesWrong : ChangeSpec := { name := "optionValues", fn := fun _ => fun
  | [d1, d2] => { results := [.lit (.bool false)], args := [d1, d2] }
  | _ => none }
def OptionValuesWrongFalsely : Prop := optionValuesRow.holds Tryd.pinned (OpenSpec.ofChange optionValuesWrong)

/-- 'flagstonelaw03.OptionBack': WHATEVER THE INPUT: true; the input reads as it did. -/
def optionBackSpec : ChangeSpec := { name := "optionBack", fn := fun _ => fun
  | [d1, d2, d3] => { results := [.lit (.bool true)], args := [d1, d2, d3] }
  | _ => none }
def optionBackRow : OpenClaim := { program := "ytbidfkibpjjghaadoor", sum := "3ddf8d8cccab2893c0775bf193aa4542f0498e03b618c41274e54f1b1f4139d8", func := "flagstone/flagstonelaw03.OptionBack", spec := "optionBack", inPlace := ["internal/bytealg.IndexByteString", "internal/bytealg.IndexString", "internal/reflectlite.TypeOf"], unfollowed := true, recurses := true, named := ["flagstone/option.errLetter", "flagstone/option.errValue", "internal/bytealg.MaxLen"], apart := false, laid := [("flagstone/option.errLetter", laid_flagstone_option_errLetter), ("flagstone/option.errValue", laid_flagstone_option_errValue)] }
def OptionBackSaid : Prop := optionBackRow.holds Tryd.pinned (OpenSpec.ofChange optionBackSpec)

/-- ITS FALSE NEIGHBOUR: 'it returns false'. Refute it at one input. -/
def optionBackWrong : ChangeSpec := { name := "optionBack", fn := fun _ => fun
  | [d1, d2, d3] => { results := [.lit (.bool false)], args := [d1, d2, d3] }
  | _ => none }
def OptionBackWrongFalsely : Prop := optionBackRow.holds Tryd.pinned (OpenSpec.ofChange optionBackWrong)

/-- 'flagstonelaw03.OptionGroups': WHATEVER THE INPUT: true; the input reads as it did. -/
def optionGroupsSpec : ChangeSpec := { name := "optionGroups", fn := fun _ => fun
  | [d1, d2, d3] => { results := [.lit (.bool true)], args := [d1, d2, d3] }
  | _ => none }
def optionGroupsRow : OpenClaim := { program := "ytbidfkibpjjghaadoor", sum := "3ddf8d8cccab2893c0775bf193aa4542f0498e03b618c41274e54f1b1f4139d8", func := "flagstone/flagstonelaw03.OptionGroups", spec := "optionGroups", inPlace := ["internal/bytealg.IndexByteString", "internal/bytealg.IndexString", "internal/reflectlite.TypeOf"], unfollowed := true, recurses := true, named := ["flagstone/option.errLetter", "flagstone/option.errValue", "internal/bytealg.MaxLen"], apart := false, laid := [("flagstone/option.errLetter", laid_flagstone_option_errLetter), ("flagstone/option.errValue", laid_flagstone_option_errValue)] }
def OptionGroupsSaid : Prop := optionGroupsRow.holds Tryd.pinned (OpenSpec.ofChange optionGroupsSpec)

/-- ITS FALSE NEIGHBOUR: 'it returns false'. Refute it at one input. -/
def optionGroupsWrong : ChangeSpec := { name := "optionGroups", fn := fun _ => fun
  | [d1, d2, d3] => { results := [.lit (.bool false)], args := [d1, d2, d3] }
  | _ => none }
def OptionGroupsWrongFalsely : Prop := optionGroupsRow.holds Tryd.pinned (OpenSpec.ofChange optionGroupsWrong)

/-- 'flagstonelaw03.OptionNone': WHATEVER THE INPUT: true; the input reads as it did. -/
def optionNoneSpec : ChangeSpec := { name := "optionNone", fn := fun _ => fun
  | [d1, d2, d3] => { results := [.lit (.bool true)], args := [d1, d2, d3] }
  | _ => none }
def optionNoneRow : OpenClaim := { program := "ytbidfkibpjjghaadoor", sum := "3ddf8d8cccab2893c0775bf193aa4542f0498e03b618c41274e54f1b1f4139d8", func := "flagstone/flagstonelaw03.OptionNone", spec := "optionNone", inPlace := ["internal/bytealg.IndexByteString", "internal/bytealg.IndexString", "internal/reflectlite.TypeOf"], unfollowed := true, recurses := true, named := ["flagstone/option.errLetter", "flagstone/option.errValue", "internal/bytealg.MaxLen"], apart := false, laid := [("flagstone/option.errLetter", laid_flagstone_option_errLetter), ("flagstone/option.errValue", laid_flagstone_option_errValue)] }
def OptionNoneSaid : Prop := optionNoneRow.holds Tryd.pinned (OpenSpec.ofChange optionNoneSpec)

/-- ITS FALSE NEIGHBOUR: 'it returns false'. Refute it at one input. -/
def optionNoneWrong : ChangeSpec := { name := "optionNone", fn := fun _ => fun
  | [d1, d2, d3] => { results := [.lit (.bool false)], args := [d1, d2, d3] }
  | _ => none }
def OptionNoneWrongFalsely : Prop := optionNoneRow.holds Tryd.pinned (OpenSpec.ofChange optionNoneWrong)

/-- 'flagstonelaw03.OptionLast': WHATEVER THE INPUT: true; the input reads as it did. -/
def optionLastSpec : ChangeSpec := { name := "optionLast", fn := fun _ => fun
  | [d1, d2, d3] => { results := [.lit (.bool true)], args := [d1, d2, d3] }
  | _ => none }
def optionLastRow : OpenClaim := { program := "ytbidfkibpjjghaadoor", sum := "3ddf8d8cccab2893c0775bf193aa4542f0498e03b618c41274e54f1b1f4139d8", func := "flagstone/flagstonelaw03.OptionLast", spec := "optionLast", inPlace := ["internal/bytealg.IndexByteString", "internal/bytealg.IndexString", "internal/reflectlite.TypeOf"], unfollowed := true, recurses := true, named := ["flagstone/option.errLetter", "flagstone/option.errValue", "internal/bytealg.MaxLen"], apart := false, laid := [("flagstone/option.errLetter", laid_flagstone_option_errLetter), ("flagstone/option.errValue", laid_flagstone_option_errValue)] }
def OptionLastSaid : Prop := optionLastRow.holds Tryd.pinned (OpenSpec.ofChange optionLastSpec)

/-- ITS FALSE NEIGHBOUR: 'it returns false'. Refute it at one input. -/
def optionLastWrong : ChangeSpec := { name := "optionLast", fn := fun _ => fun
  | [d1, d2, d3] => { results := [.lit (.bool false)], args := [d1, d2, d3] }
  | _ => none }
def OptionLastWrongFalsely : Prop := optionLastRow.holds Tryd.pinned (OpenSpec.ofChange optionLastWrong)

/- THE SECOND FORM. 'bulk': how many values and letters a reading holds, each counted each time it is reached (what is shared counts as often as it is met; a slice's spare places count too). A statement '..UptoSaid' is the law's where the arguments, and the package variables that the reading takes, are together of bulk at most 1048576: NARROWER than '..Said'. Prove '..Said' where nothing that the law and all that it calls make is longer than what came in: it says more and counts as full. Else prove '..UptoSaid'. A law counts once. -/
mutual
def uptoBulk {H : Type} : DataW H → Nat
  | .lit (.string bytes) => bytes.length + 1
  | .lit _ => 1
  | .nil => 1
  | .ptr d => uptoBulk d + 1
  | .slice elems spare => uptoBulkAll elems + uptoBulkAll spare + 1
  | .agg parts => uptoBulkAll parts + 1
  | .iface _ d => uptoBulk d + 1
  | .map entries => uptoBulkEntries entries + 1
  | .held _ => 1
def uptoBulkAll {H : Type} : List (DataW H) → Nat
  | [] => 0
  | d :: r => uptoBulk d + uptoBulkAll r
def uptoBulkEntries {H : Type} : List (Lit × DataW H) → Nat
  | [] => 0
  | x :: r => uptoBulkEntry x + uptoBulkEntries r
def uptoBulkEntry {H : Type} : Lit × DataW H → Nat
  | (.string bytes, d) => bytes.length + uptoBulk d + 1
  | (_, d) => uptoBulk d + 1
 end
def uptoSmall : (H : Type) → List (DataW H) → Bool := fun _ ds => decide (uptoBulkAll ds ≤ 1048576)
def OpenSpec.upto (s : _root_.Go.ChangeSpec) : _root_.Go.OpenSpec := { _root_.Go.OpenSpec.ofChange s with cond := some uptoSmall }

/-- 'flagstonelaw03.OptionParses', WHERE WHAT IT READS IS OF BULK AT MOST 1048576: true; the input reads as it did. -/
def optionParsesUptoRow : OpenClaim := { program := "ytbidfkibpjjghaadoor", sum := "3ddf8d8cccab2893c0775bf193aa4542f0498e03b618c41274e54f1b1f4139d8", func := "flagstone/flagstonelaw03.OptionParses", spec := "optionParses", inPlace := ["internal/bytealg.IndexByteString", "internal/bytealg.IndexString", "internal/reflectlite.TypeOf"], unfollowed := true, recurses := true, named := ["flagstone/option.errLetter", "flagstone/option.errValue", "internal/bytealg.MaxLen"], apart := false, laid := [("flagstone/option.errLetter", laid_flagstone_option_errLetter), ("flagstone/option.errValue", laid_flagstone_option_errValue)], narrowed := true }
def OptionParsesUptoSaid : Prop := optionParsesUptoRow.holds Tryd.pinned (OpenSpec.upto optionParsesSpec)

/-- 'flagstonelaw03.OptionValues', WHERE WHAT IT READS IS OF BULK AT MOST 1048576: true; the input reads as it did. -/
def optionValuesUptoRow : OpenClaim := { program := "ytbidfkibpjjghaadoor", sum := "3ddf8d8cccab2893c0775bf193aa4542f0498e03b618c41274e54f1b1f4139d8", func := "flagstone/flagstonelaw03.OptionValues", spec := "optionValues", inPlace := ["internal/bytealg.IndexByteString", "internal/bytealg.IndexString", "internal/reflectlite.TypeOf"], unfollowed := true, recurses := true, named := ["flagstone/option.errLetter", "flagstone/option.errValue", "internal/bytealg.MaxLen"], apart := false, laid := [("flagstone/option.errLetter", laid_flagstone_option_errLetter), ("flagstone/option.errValue", laid_flagstone_option_errValue)], narrowed := true }
def OptionValuesUptoSaid : Prop := optionValuesUptoRow.holds Tryd.pinned (OpenSpec.upto optionValuesSpec)

/-- 'flagstonelaw03.OptionBack', WHERE WHAT IT READS IS OF BULK AT MOST 1048576: true; the input reads as it did. -/
def optionBackUptoRow : OpenClaim := { program := "ytbidfkibpjjghaadoor", sum := "3ddf8d8cccab2893c0775bf193aa4542f0498e03b618c41274e54f1b1f4139d8", func := "flagstone/flagstonelaw03.OptionBack", spec := "optionBack", inPlace := ["internal/bytealg.IndexByteString", "internal/bytealg.IndexString", "internal/reflectlite.TypeOf"], unfollowed := true, recurses := true, named := ["flagstone/option.errLetter", "flagstone/option.errValue", "internal/bytealg.MaxLen"], apart := false, laid := [("flagstone/option.errLetter", laid_flagstone_option_errLetter), ("flagstone/option.errValue", laid_flagstone_option_errValue)], narrowed := true }
def OptionBackUptoSaid : Prop := optionBackUptoRow.holds Tryd.pinned (OpenSpec.upto optionBackSpec)

/-- 'flagstonelaw03.OptionGroups', WHERE WHAT IT READS IS OF BULK AT MOST 1048576: true; the input reads as it did. -/
def optionGroupsUptoRow : OpenClaim := { program := "ytbidfkibpjjghaadoor", sum := "3ddf8d8cccab2893c0775bf193aa4542f0498e03b618c41274e54f1b1f4139d8", func := "flagstone/flagstonelaw03.OptionGroups", spec := "optionGroups", inPlace := ["internal/bytealg.IndexByteString", "internal/bytealg.IndexString", "internal/reflectlite.TypeOf"], unfollowed := true, recurses := true, named := ["flagstone/option.errLetter", "flagstone/option.errValue", "internal/bytealg.MaxLen"], apart := false, laid := [("flagstone/option.errLetter", laid_flagstone_option_errLetter), ("flagstone/option.errValue", laid_flagstone_option_errValue)], narrowed := true }
def OptionGroupsUptoSaid : Prop := optionGroupsUptoRow.holds Tryd.pinned (OpenSpec.upto optionGroupsSpec)

/-- 'flagstonelaw03.OptionNone', WHERE WHAT IT READS IS OF BULK AT MOST 1048576: true; the input reads as it did. -/
def optionNoneUptoRow : OpenClaim := { program := "ytbidfkibpjjghaadoor", sum := "3ddf8d8cccab2893c0775bf193aa4542f0498e03b618c41274e54f1b1f4139d8", func := "flagstone/flagstonelaw03.OptionNone", spec := "optionNone", inPlace := ["internal/bytealg.IndexByteString", "internal/bytealg.IndexString", "internal/reflectlite.TypeOf"], unfollowed := true, recurses := true, named := ["flagstone/option.errLetter", "flagstone/option.errValue", "internal/bytealg.MaxLen"], apart := false, laid := [("flagstone/option.errLetter", laid_flagstone_option_errLetter), ("flagstone/option.errValue", laid_flagstone_option_errValue)], narrowed := true }
def OptionNoneUptoSaid : Prop := optionNoneUptoRow.holds Tryd.pinned (OpenSpec.upto optionNoneSpec)

/-- 'flagstonelaw03.OptionLast', WHERE WHAT IT READS IS OF BULK AT MOST 1048576: true; the input reads as it did. -/
def optionLastUptoRow : OpenClaim := { program := "ytbidfkibpjjghaadoor", sum := "3ddf8d8cccab2893c0775bf193aa4542f0498e03b618c41274e54f1b1f4139d8", func := "flagstone/flagstonelaw03.OptionLast", spec := "optionLast", inPlace := ["internal/bytealg.IndexByteString", "internal/bytealg.IndexString", "internal/reflectlite.TypeOf"], unfollowed := true, recurses := true, named := ["flagstone/option.errLetter", "flagstone/option.errValue", "internal/bytealg.MaxLen"], apart := false, laid := [("flagstone/option.errLetter", laid_flagstone_option_errLetter), ("flagstone/option.errValue", laid_flagstone_option_errValue)], narrowed := true }
def OptionLastUptoSaid : Prop := optionLastUptoRow.holds Tryd.pinned (OpenSpec.upto optionLastSpec)

end Rows
end Go.Proofs.YtbidfkibpjjghaaDoor
