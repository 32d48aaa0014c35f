/- Plain data of the functions. -/
import Derived.Test.YtfllhakmjookkaaDenShown
set_option linter.unusedVariables false
set_option linter.unusedSimpArgs false
namespace Go.Proofs.Ytfllhakmjookkaa.Den
open Go Go.RowKit

structure NodeD where
  kind : Int
  modeF : Int
  owner : Int
  links : Int
  openF : Int
  up : Int
  data : ByteArray
  names : (List Ent)
def NodeD.c (x : NodeD) : List PV := [(pI x.kind), (pI x.modeF), (pI x.owner), (pI x.links), (pI x.openF), (pI x.up), (pS x.data), (.list 2 false (x.names.map entP))]
structure DiskD where
  nodes : (List NodeD)
  most : Int
  room : Int
def DiskD.c (x : DiskD) : List PV := [(.list 8 false (x.nodes.map NodeD.c)), (pI x.most), (pI x.room)]

end Go.Proofs.Ytfllhakmjookkaa.Den
