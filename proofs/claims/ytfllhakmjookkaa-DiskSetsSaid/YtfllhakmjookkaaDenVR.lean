/- Operations by their place. -/
import Derived.Test.YtfllhakmjookkaaDenV
set_option linter.unusedVariables false
set_option linter.unusedSimpArgs false
namespace Go.Proofs.Ytfllhakmjookkaa.Den
open Go Go.RowKit

def opsIn (r : Nat) : Code → List Oper
  | .region id ops _ => if id = r then ops.toList else []
  | .seq a b => opsIn r a ++ opsIn r b
  | .cond _ a b => opsIn r a ++ opsIn r b
  | .block _ c => opsIn r c
  | _ => []
def opAt (r i : Nat) (f : Func) : Oper := ((opsIn r (codeOf f))[i]?).getD ⟨none, .move (.tmp 0), 0, "", #[], none⟩
theorem rem_at {a b : Int} {t yt : TypeId} {i j : Nat} (nm : Name) (o : Oper) (ho : o.op = .binOp .rem t (.tmp i) (.tmp j) yt) (hij : (i == j) = false) (hb : b ≠ 0) : ∀ s, opD PR [] nm s (eL (vals (eL [(.tmp i, pI a), (.tmp j, pI b)]) o.op.operands.toList)) o = some (pI (Int.tmod a b), s) := by
  intro s
  rw [ho]
  refine rem_raw ho ?_ ?_ hb
  · simp [vals, eL, Op.operands]
  · simp [vals, eL, Op.operands, hij]
end Go.Proofs.Ytfllhakmjookkaa.Den
