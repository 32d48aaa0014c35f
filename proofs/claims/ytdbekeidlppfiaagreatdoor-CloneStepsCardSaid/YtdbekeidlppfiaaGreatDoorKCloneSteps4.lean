/- Texts joined by a program of mine (pack.py): KCloneSteps4. -/
import Derived.Test.YtdbekeidlppfiaaGreatDoorRows
import Derived.JoinedOf
import Derived.ProofKit
set_option linter.unusedVariables false
set_option linter.unusedSimpArgs false
namespace Go.Proofs.YtdbekeidlppfiaaGreatDoor.lawCloneSteps
open Go.ChangeShapes Go.WideShapes Go.ChangeAt Go.RowKit
set_option maxRecDepth 100000 in
theorem k4 : (Rows.cloneStepsRow.named == Tryz.pinned.checked.prog.varsNamed 4) = true := by kernel_rfl
end Go.Proofs.YtdbekeidlppfiaaGreatDoor.lawCloneSteps
