/-
  DERIVED. GIVEN WITH THE SEED: THE CARDS: each row of YtfjflodicgjihaaGreatDoorRows.lean that lists a variable, with what it lists TIED to the program's text (the seventh form; the later family's looks); each row that meets fmt, with fmt's text TOLD by the authors' own Lean function (tested against real Go, not proved from fmt's source: count such statements apart). THE CARD IS WHAT COUNTS. Prove the row's statement (the work); the ties are given (YtfjflodicgjihaaGreatDoorTie.lean); close each card by the builder's one call (the guide's Derived/Test/ToyasCard.lean, 'card_holds'). Laid BY PROGRAM, IN A SANDBOX (cutbox-door.mjs). By AI agents, Wed Nov 11 2026. No macro, syntax, notation, axiom, sorry.
-/
import Derived.Test.YtfjflodicgjihaaGreatDoorRows
import GoSem.ClaimSeven
namespace Go.Proofs.YtfjflodicgjihaaGreatDoor
namespace Rows

/-- THE TIED CARD OF 'flagstonelaw19.ShiftStarts'. -/
def shiftStartsCard : Claim7 := { stood := { row := shiftStartsRow, standIns := [], harness := (true, "0606cf555920a869a36565787adad16a6020040b57488e24616020165c5e1107"), looks := true }, kinds := [], alts := [], laidByText := true, laidKinds := [.data, .data, .data, .data, .handle, .sentinel, .sentinel, .sentinel, .pinned], laidTests := true, laidLooks := .later }
def ShiftStartsCardSaid : Prop := Claim7.holds Tryz.pinned (.plain (OpenSpec.ofChange shiftStartsSpec)) shiftStartsCard

/-- THE TIED CARD OF 'flagstonelaw19.ShiftSteps'. -/
def shiftStepsCard : Claim7 := { stood := { row := shiftStepsRow, standIns := [], harness := (true, "0606cf555920a869a36565787adad16a6020040b57488e24616020165c5e1107"), looks := true }, kinds := [], alts := [], laidByText := true, laidKinds := [.data, .data, .data, .data, .handle, .sentinel, .sentinel, .sentinel, .pinned], laidTests := true, laidLooks := .later }
def ShiftStepsCardSaid : Prop := Claim7.holds Tryz.pinned (.plain (OpenSpec.ofChange shiftStepsSpec)) shiftStepsCard

/-- THE SECOND FORM's CARD OF 'flagstonelaw19.ShiftStarts'. -/
def shiftStartsUptoCard : Claim7 := { stood := { row := shiftStartsUptoRow, standIns := [], harness := (true, "0606cf555920a869a36565787adad16a6020040b57488e24616020165c5e1107"), looks := true }, kinds := [], alts := [], laidByText := true, laidKinds := [.data, .data, .data, .data, .handle, .sentinel, .sentinel, .sentinel, .pinned], laidTests := true, laidLooks := .later }
def ShiftStartsUptoCardSaid : Prop := Claim7.holds Tryz.pinned (.plain (OpenSpec.upto shiftStartsSpec)) shiftStartsUptoCard

/-- THE SECOND FORM's CARD OF 'flagstonelaw19.ShiftSteps'. -/
def shiftStepsUptoCard : Claim7 := { stood := { row := shiftStepsUptoRow, standIns := [], harness := (true, "0606cf555920a869a36565787adad16a6020040b57488e24616020165c5e1107"), looks := true }, kinds := [], alts := [], laidByText := true, laidKinds := [.data, .data, .data, .data, .handle, .sentinel, .sentinel, .sentinel, .pinned], laidTests := true, laidLooks := .later }
def ShiftStepsUptoCardSaid : Prop := Claim7.holds Tryz.pinned (.plain (OpenSpec.upto shiftStepsSpec)) shiftStepsUptoCard
end Rows
end Go.Proofs.YtfjflodicgjihaaGreatDoor
