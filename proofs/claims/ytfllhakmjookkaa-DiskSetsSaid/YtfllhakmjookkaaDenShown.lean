/- A small case, run whole. -/
import Derived.Test.YtfllhakmjookkaaDenV
set_option linter.unusedVariables false
set_option linter.unusedSimpArgs false
namespace Go.Proofs.Ytfllhakmjookkaa.Den
open Go Go.RowKit

def shownX : Option Bool := some true
set_option maxRecDepth 1000000 in
theorem shown_run (k : Nat) : run0 (k + 12) 15 [] = some (pB true) := by kernel_rfl
theorem shownX_ok (k : Nat) (r : Bool) (h : shownX = some r) : run0 (k + 12) 15 [] = some (pB r) := by
  cases h
  exact shown_run k
end Go.Proofs.Ytfllhakmjookkaa.Den
