/- Texts joined by a program of mine (pack.py): KCloneSteps3. -/
import Derived.Test.YtdbekeidlppfiaaGreatDoorRows
import Derived.JoinedOf
import Derived.ProofKit
set_option linter.unusedVariables false
set_option linter.unusedSimpArgs false
namespace Go.Proofs.YtdbekeidlppfiaaGreatDoor.lawCloneSteps
open Go.ChangeShapes Go.WideShapes Go.ChangeAt Go.RowKit
set_option maxRecDepth 100000 in
theorem k3 : (Rows.cloneStepsRow.recurses == Tryz.pinned.checked.prog.recurses 4) = true := by kernel_rfl
end Go.Proofs.YtdbekeidlppfiaaGreatDoor.lawCloneSteps
