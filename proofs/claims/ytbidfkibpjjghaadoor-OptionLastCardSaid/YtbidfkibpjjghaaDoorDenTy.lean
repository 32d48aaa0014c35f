/- Plain data of the functions. -/
import Derived.Test.YtbidfkibpjjghaaDoorOptV
set_option linter.unusedVariables false
set_option linter.unusedSimpArgs false
namespace Go.Proofs.YtbidfkibpjjghaaDoor.Den
open Go Go.RowKit

structure FlagD where
  letter : Int
  value : ByteArray
def FlagD.c (x : FlagD) : List PV := [(.v (.int .u8 x.letter)), (pS x.value)]

end Go.Proofs.YtbidfkibpjjghaaDoor.Den
