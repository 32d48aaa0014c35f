/-
  DERIVED. GIVEN WITH THE SEED: THE CARDS: each row of YtaenhodkpidocaaGreatDoorRows.lean that lists a variable, with what it lists TIED to the program's text (the seventh form; the later family's looks); each row that meets fmt, with fmt's text TOLD by the authors' own Lean function (tested against real Go, not proved from fmt's source: count such statements apart). THE CARD IS WHAT COUNTS. Prove the row's statement (the work); the ties are given (YtaenhodkpidocaaGreatDoorTie.lean); close each card by the builder's one call (the guide's Derived/Test/ToyasCard.lean, 'card_holds'). Laid BY PROGRAM, IN A SANDBOX (cutbox-door.mjs). By AI agents, Wed Nov 11 2026. No macro, syntax, notation, axiom, sorry.
-/
import Derived.Test.YtaenhodkpidocaaGreatDoorRows
import GoSem.ClaimSeven
namespace Go.Proofs.YtaenhodkpidocaaGreatDoor
namespace Rows

/-- THE TIED CARD OF 'flagstonelaw21.PublishStarts'. -/
def publishStartsCard : Claim7 := { stood := { row := publishStartsRow, standIns := [], harness := (true, "cb029295cc25ddd38306aa339995f586be64a2d6616aced962a06028bbf4aa1a"), looks := true }, kinds := [], alts := [], laidByText := true, laidKinds := [.data, .data, .data, .data, .handle, .sentinel, .sentinel, .sentinel, .pinned], laidTests := true, laidLooks := .later }
def PublishStartsCardSaid : Prop := Claim7.holds Tryz.pinned (.plain (OpenSpec.ofChange publishStartsSpec)) publishStartsCard

/-- THE TIED CARD OF 'flagstonelaw21.PublishSteps'. -/
def publishStepsCard : Claim7 := { stood := { row := publishStepsRow, standIns := [], harness := (true, "cb029295cc25ddd38306aa339995f586be64a2d6616aced962a06028bbf4aa1a"), looks := true }, kinds := [], alts := [], laidByText := true, laidKinds := [.data, .data, .data, .data, .handle, .sentinel, .sentinel, .sentinel, .pinned], laidTests := true, laidLooks := .later }
def PublishStepsCardSaid : Prop := Claim7.holds Tryz.pinned (.plain (OpenSpec.ofChange publishStepsSpec)) publishStepsCard

/-- THE SECOND FORM's CARD OF 'flagstonelaw21.PublishStarts'. -/
def publishStartsUptoCard : Claim7 := { stood := { row := publishStartsUptoRow, standIns := [], harness := (true, "cb029295cc25ddd38306aa339995f586be64a2d6616aced962a06028bbf4aa1a"), looks := true }, kinds := [], alts := [], laidByText := true, laidKinds := [.data, .data, .data, .data, .handle, .sentinel, .sentinel, .sentinel, .pinned], laidTests := true, laidLooks := .later }
def PublishStartsUptoCardSaid : Prop := Claim7.holds Tryz.pinned (.plain (OpenSpec.upto publishStartsSpec)) publishStartsUptoCard

/-- THE SECOND FORM's CARD OF 'flagstonelaw21.PublishSteps'. -/
def publishStepsUptoCard : Claim7 := { stood := { row := publishStepsUptoRow, standIns := [], harness := (true, "cb029295cc25ddd38306aa339995f586be64a2d6616aced962a06028bbf4aa1a"), looks := true }, kinds := [], alts := [], laidByText := true, laidKinds := [.data, .data, .data, .data, .handle, .sentinel, .sentinel, .sentinel, .pinned], laidTests := true, laidLooks := .later }
def PublishStepsUptoCardSaid : Prop := Claim7.holds Tryz.pinned (.plain (OpenSpec.upto publishStepsSpec)) publishStepsUptoCard
end Rows
end Go.Proofs.YtaenhodkpidocaaGreatDoor
