/- Texts joined by a program of mine (pack.py): KCloneStarts2. -/
import Derived.Test.YtdbekeidlppfiaaGreatDoorRows
import Derived.JoinedOf
import Derived.ProofKit
set_option linter.unusedVariables false
set_option linter.unusedSimpArgs false
namespace Go.Proofs.YtdbekeidlppfiaaGreatDoor.lawCloneStarts
open Go.ChangeShapes Go.WideShapes Go.ChangeAt Go.RowKit
set_option maxRecDepth 100000 in
theorem k2 : (Rows.cloneStartsRow.unfollowed == Tryz.pinned.checked.prog.unfollowed 3) = true := by kernel_rfl
end Go.Proofs.YtdbekeidlppfiaaGreatDoor.lawCloneStarts
