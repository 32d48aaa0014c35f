/- A computed cell of the row of ShiftSteps. -/
import Derived.Test.YtfjflodicgjihaaGreatDoorRows
import Derived.JoinedOf
import Derived.ProofKit
namespace Go.Proofs.YtfjflodicgjihaaGreatDoor.lawShiftSteps
open Go.ChangeShapes Go.WideShapes Go.ChangeAt Go.RowKit
set_option maxRecDepth 100000 in
theorem k1 : (Rows.shiftStepsRow.inPlace == Tryz.pinned.checked.prog.inPlace 4) = true := by kernel_rfl
end Go.Proofs.YtfjflodicgjihaaGreatDoor.lawShiftSteps
