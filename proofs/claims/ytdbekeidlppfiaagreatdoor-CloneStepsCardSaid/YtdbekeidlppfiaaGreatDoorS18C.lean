/- Texts joined by a program of mine (pack.py): S18C. -/
import Derived.Test.YtdbekeidlppfiaaGreatDoorS21Cb
import Derived.Test.YtdbekeidlppfiaaGreatDoorGrowW
set_option linter.unusedVariables false
set_option linter.unusedSimpArgs false
namespace Go.Proofs.YtdbekeidlppfiaaGreatDoor.Den
end Go.Proofs.YtdbekeidlppfiaaGreatDoor.Den
