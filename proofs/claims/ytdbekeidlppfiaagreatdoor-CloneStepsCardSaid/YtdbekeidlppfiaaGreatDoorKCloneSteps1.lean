/- Texts joined by a program of mine (pack.py): KCloneSteps1. -/
import Derived.Test.YtdbekeidlppfiaaGreatDoorRows
import Derived.JoinedOf
import Derived.ProofKit
set_option linter.unusedVariables false
set_option linter.unusedSimpArgs false
namespace Go.Proofs.YtdbekeidlppfiaaGreatDoor.lawCloneSteps
open Go.ChangeShapes Go.WideShapes Go.ChangeAt Go.RowKit
set_option maxRecDepth 100000 in
theorem k1 : (Rows.cloneStepsRow.inPlace == Tryz.pinned.checked.prog.inPlace 4) = true := by kernel_rfl
end Go.Proofs.YtdbekeidlppfiaaGreatDoor.lawCloneSteps
