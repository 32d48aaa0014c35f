/-
  DERIVED. GIVEN WITH THE SEED: THE CARDS: each row of YtdbekeidlppfiaaGreatDoorRows.lean that lists a variable, with what it lists TIED to the program's text (the seventh form; the later family's looks); each row that meets fmt, with fmt's text TOLD by the authors' own Lean function (tested against real Go, not proved from fmt's source: count such statements apart). THE CARD IS WHAT COUNTS. Prove the row's statement (the work); the ties are given (YtdbekeidlppfiaaGreatDoorTie.lean); close each card by the builder's one call (the guide's Derived/Test/ToyasCard.lean, 'card_holds'). Laid BY PROGRAM, IN A SANDBOX (cutbox-door.mjs). By AI agents, Wed Nov 11 2026. No macro, syntax, notation, axiom, sorry.
-/
import Derived.Test.YtdbekeidlppfiaaGreatDoorRows
import GoSem.ClaimSeven
namespace Go.Proofs.YtdbekeidlppfiaaGreatDoor
namespace Rows

/-- THE TIED CARD OF 'flagstonelaw18.CloneStarts'. -/
def cloneStartsCard : Claim7 := { stood := { row := cloneStartsRow, standIns := [], harness := (true, "acdedfe4b776e01a904667e2b4053b184e0ee2927f367696a8724c9bd9118b36"), looks := true }, kinds := [], alts := [], laidByText := true, laidKinds := [.data, .data, .data, .data, .handle, .sentinel, .sentinel, .sentinel, .pinned], laidTests := true, laidLooks := .later }
def CloneStartsCardSaid : Prop := Claim7.holds Tryz.pinned (.plain (OpenSpec.ofChange cloneStartsSpec)) cloneStartsCard

/-- THE TIED CARD OF 'flagstonelaw18.CloneSteps'. -/
def cloneStepsCard : Claim7 := { stood := { row := cloneStepsRow, standIns := [], harness := (true, "acdedfe4b776e01a904667e2b4053b184e0ee2927f367696a8724c9bd9118b36"), looks := true }, kinds := [], alts := [], laidByText := true, laidKinds := [.data, .data, .data, .data, .handle, .sentinel, .sentinel, .sentinel, .pinned], laidTests := true, laidLooks := .later }
def CloneStepsCardSaid : Prop := Claim7.holds Tryz.pinned (.plain (OpenSpec.ofChange cloneStepsSpec)) cloneStepsCard

/-- THE SECOND FORM's CARD OF 'flagstonelaw18.CloneStarts'. -/
def cloneStartsUptoCard : Claim7 := { stood := { row := cloneStartsUptoRow, standIns := [], harness := (true, "acdedfe4b776e01a904667e2b4053b184e0ee2927f367696a8724c9bd9118b36"), looks := true }, kinds := [], alts := [], laidByText := true, laidKinds := [.data, .data, .data, .data, .handle, .sentinel, .sentinel, .sentinel, .pinned], laidTests := true, laidLooks := .later }
def CloneStartsUptoCardSaid : Prop := Claim7.holds Tryz.pinned (.plain (OpenSpec.upto cloneStartsSpec)) cloneStartsUptoCard

/-- THE SECOND FORM's CARD OF 'flagstonelaw18.CloneSteps'. -/
def cloneStepsUptoCard : Claim7 := { stood := { row := cloneStepsUptoRow, standIns := [], harness := (true, "acdedfe4b776e01a904667e2b4053b184e0ee2927f367696a8724c9bd9118b36"), looks := true }, kinds := [], alts := [], laidByText := true, laidKinds := [.data, .data, .data, .data, .handle, .sentinel, .sentinel, .sentinel, .pinned], laidTests := true, laidLooks := .later }
def CloneStepsUptoCardSaid : Prop := Claim7.holds Tryz.pinned (.plain (OpenSpec.upto cloneStepsSpec)) cloneStepsUptoCard
end Rows
end Go.Proofs.YtdbekeidlppfiaaGreatDoor
