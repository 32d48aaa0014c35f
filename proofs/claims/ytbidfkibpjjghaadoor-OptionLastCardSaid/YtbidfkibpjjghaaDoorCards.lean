/-
  DERIVED. GIVEN WITH THE SEED: THE CARDS: each row of YtbidfkibpjjghaaDoorRows.lean that lists a variable, with what it lists TIED to the program's text (the seventh form; the later family's looks); each row that meets fmt, with fmt's text TOLD by the authors' own Lean function (tested against real Go, not proved from fmt's source: count such statements apart). THE CARD IS WHAT COUNTS. Prove the row's statement (the work); the ties are given (YtbidfkibpjjghaaDoorTie.lean); close each card by the builder's one call (the guide's Derived/Test/ToyasCard.lean, 'card_holds'). Laid BY PROGRAM, IN A SANDBOX (cutbox-door.mjs). By AI agents, Wed Nov 11 2026. No macro, syntax, notation, axiom, sorry.
-/
import Derived.Test.YtbidfkibpjjghaaDoorRows
import GoSem.ClaimSeven
namespace Go.Proofs.YtbidfkibpjjghaaDoor
namespace Rows

/-- THE TIED CARD OF 'flagstonelaw03.OptionParses'. -/
def optionParsesCard : Claim7 := { stood := { row := optionParsesRow, standIns := [], harness := (true, "3552322db6ab41ea8bfa1cbda92cb98c57f0e51d7b0fa18461a6b4b49a0dcf90"), looks := true }, kinds := [], alts := [], laidByText := true, laidKinds := [.sentinel, .sentinel], laidTests := true, laidLooks := .later }
def OptionParsesCardSaid : Prop := Claim7.holds Tryd.pinned (.plain (OpenSpec.ofChange optionParsesSpec)) optionParsesCard

/-- THE TIED CARD OF 'flagstonelaw03.OptionValues'. -/
def optionValuesCard : Claim7 := { stood := { row := optionValuesRow, standIns := [], harness := (true, "3552322db6ab41ea8bfa1cbda92cb98c57f0e51d7b0fa18461a6b4b49a0dcf90"), looks := true }, kinds := [], alts := [], laidByText := true, laidKinds := [.sentinel, .sentinel], laidTests := true, laidLooks := .later }
def OptionValuesCardSaid : Prop := Claim7.holds Tryd.pinned (.plain (OpenSpec.ofChange optionValuesSpec)) optionValuesCard

/-- THE TIED CARD OF 'flagstonelaw03.OptionBack'. -/
def optionBackCard : Claim7 := { stood := { row := optionBackRow, standIns := [], harness := (true, "3552322db6ab41ea8bfa1cbda92cb98c57f0e51d7b0fa18461a6b4b49a0dcf90"), looks := true }, kinds := [], alts := [], laidByText := true, laidKinds := [.sentinel, .sentinel], laidTests := true, laidLooks := .later }
def OptionBackCardSaid : Prop := Claim7.holds Tryd.pinned (.plain (OpenSpec.ofChange optionBackSpec)) optionBackCard

/-- THE TIED CARD OF 'flagstonelaw03.OptionGroups'. -/
def optionGroupsCard : Claim7 := { stood := { row := optionGroupsRow, standIns := [], harness := (true, "3552322db6ab41ea8bfa1cbda92cb98c57f0e51d7b0fa18461a6b4b49a0dcf90"), looks := true }, kinds := [], alts := [], laidByText := true, laidKinds := [.sentinel, .sentinel], laidTests := true, laidLooks := .later }
def OptionGroupsCardSaid : Prop := Claim7.holds Tryd.pinned (.plain (OpenSpec.ofChange optionGroupsSpec)) optionGroupsCard

/-- THE TIED CARD OF 'flagstonelaw03.OptionNone'. -/
def optionNoneCard : Claim7 := { stood := { row := optionNoneRow, standIns := [], harness := (true, "3552322db6ab41ea8bfa1cbda92cb98c57f0e51d7b0fa18461a6b4b49a0dcf90"), looks := true }, kinds := [], alts := [], laidByText := true, laidKinds := [.sentinel, .sentinel], laidTests := true, laidLooks := .later }
def OptionNoneCardSaid : Prop := Claim7.holds Tryd.pinned (.plain (OpenSpec.ofChange optionNoneSpec)) optionNoneCard

/-- THE TIED CARD OF 'flagstonelaw03.OptionLast'. -/
def optionLastCard : Claim7 := { stood := { row := optionLastRow, standIns := [], harness := (true, "3552322db6ab41ea8bfa1cbda92cb98c57f0e51d7b0fa18461a6b4b49a0dcf90"), looks := true }, kinds := [], alts := [], laidByText := true, laidKinds := [.sentinel, .sentinel], laidTests := true, laidLooks := .later }
def OptionLastCardSaid : Prop := Claim7.holds Tryd.pinned (.plain (OpenSpec.ofChange optionLastSpec)) optionLastCard

/-- THE SECOND FORM's CARD OF 'flagstonelaw03.OptionParses'. -/
def optionParsesUptoCard : Claim7 := { stood := { row := optionParsesUptoRow, standIns := [], harness := (true, "3552322db6ab41ea8bfa1cbda92cb98c57f0e51d7b0fa18461a6b4b49a0dcf90"), looks := true }, kinds := [], alts := [], laidByText := true, laidKinds := [.sentinel, .sentinel], laidTests := true, laidLooks := .later }
def OptionParsesUptoCardSaid : Prop := Claim7.holds Tryd.pinned (.plain (OpenSpec.upto optionParsesSpec)) optionParsesUptoCard

/-- THE SECOND FORM's CARD OF 'flagstonelaw03.OptionValues'. -/
def optionValuesUptoCard : Claim7 := { stood := { row := optionValuesUptoRow, standIns := [], harness := (true, "3552322db6ab41ea8bfa1cbda92cb98c57f0e51d7b0fa18461a6b4b49a0dcf90"), looks := true }, kinds := [], alts := [], laidByText := true, laidKinds := [.sentinel, .sentinel], laidTests := true, laidLooks := .later }
def OptionValuesUptoCardSaid : Prop := Claim7.holds Tryd.pinned (.plain (OpenSpec.upto optionValuesSpec)) optionValuesUptoCard

/-- THE SECOND FORM's CARD OF 'flagstonelaw03.OptionBack'. -/
def optionBackUptoCard : Claim7 := { stood := { row := optionBackUptoRow, standIns := [], harness := (true, "3552322db6ab41ea8bfa1cbda92cb98c57f0e51d7b0fa18461a6b4b49a0dcf90"), looks := true }, kinds := [], alts := [], laidByText := true, laidKinds := [.sentinel, .sentinel], laidTests := true, laidLooks := .later }
def OptionBackUptoCardSaid : Prop := Claim7.holds Tryd.pinned (.plain (OpenSpec.upto optionBackSpec)) optionBackUptoCard

/-- THE SECOND FORM's CARD OF 'flagstonelaw03.OptionGroups'. -/
def optionGroupsUptoCard : Claim7 := { stood := { row := optionGroupsUptoRow, standIns := [], harness := (true, "3552322db6ab41ea8bfa1cbda92cb98c57f0e51d7b0fa18461a6b4b49a0dcf90"), looks := true }, kinds := [], alts := [], laidByText := true, laidKinds := [.sentinel, .sentinel], laidTests := true, laidLooks := .later }
def OptionGroupsUptoCardSaid : Prop := Claim7.holds Tryd.pinned (.plain (OpenSpec.upto optionGroupsSpec)) optionGroupsUptoCard

/-- THE SECOND FORM's CARD OF 'flagstonelaw03.OptionNone'. -/
def optionNoneUptoCard : Claim7 := { stood := { row := optionNoneUptoRow, standIns := [], harness := (true, "3552322db6ab41ea8bfa1cbda92cb98c57f0e51d7b0fa18461a6b4b49a0dcf90"), looks := true }, kinds := [], alts := [], laidByText := true, laidKinds := [.sentinel, .sentinel], laidTests := true, laidLooks := .later }
def OptionNoneUptoCardSaid : Prop := Claim7.holds Tryd.pinned (.plain (OpenSpec.upto optionNoneSpec)) optionNoneUptoCard

/-- THE SECOND FORM's CARD OF 'flagstonelaw03.OptionLast'. -/
def optionLastUptoCard : Claim7 := { stood := { row := optionLastUptoRow, standIns := [], harness := (true, "3552322db6ab41ea8bfa1cbda92cb98c57f0e51d7b0fa18461a6b4b49a0dcf90"), looks := true }, kinds := [], alts := [], laidByText := true, laidKinds := [.sentinel, .sentinel], laidTests := true, laidLooks := .later }
def OptionLastUptoCardSaid : Prop := Claim7.holds Tryd.pinned (.plain (OpenSpec.upto optionLastSpec)) optionLastUptoCard
end Rows
end Go.Proofs.YtbidfkibpjjghaaDoor
