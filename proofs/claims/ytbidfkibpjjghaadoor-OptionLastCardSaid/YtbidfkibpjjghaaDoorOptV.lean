/- Contracts at run0: the seat of law 03. -/
import Derived.Test.YtbidfkibpjjghaaDoorDenV
set_option linter.unusedVariables false
set_option linter.unusedSimpArgs false
namespace Go.Proofs.YtbidfkibpjjghaaDoor.Den
open Go Go.RowKit

def ixbX (s : ByteArray) (c : Int) : Option Int := some (ixbV s c)
theorem ixbX_ok (k : Nat) (s : ByteArray) (c r : Int) (h : ixbX s c = some r) : run0 k 35 [pS s, .v (.int .u8 c)] = some (pI r) := by
  have hg : gv0 k 35 = some xIxb := by kernel_rfl
  cases h
  unfold run0
  rw [hg]
  rfl
def conX (s t : ByteArray) : Option Bool := if s.size < 4294967281 then some (conV s t) else none
theorem conX_ok (k : Nat) (s t : ByteArray) (r : Bool) (h : conX s t = some r) : run0 k 36 [pS s, pS t] = some (pB r) := by
  have hg : gv0 k 36 = some xCon := by kernel_rfl
  unfold conX at h
  split at h
  case isFalse => cases h
  rename_i hn
  cases h
  unfold run0
  rw [hg]
  show xCon [.v (.string s), .v (.string t)] = _
  unfold xCon
  simp only
  rw [if_pos hn]
theorem cloneS_ok {l : List ByteArray} {xs : List (List PV)} (k : Nat) (hx : xs = l.map cS) (hr : room l.length 16) : run0 k 20 [.list 1 false xs] = some (.list 1 false xs) := by
  subst hx
  have hg : gv0 k 20 = some (xClone 20 1 false) := by kernel_rfl
  unfold run0
  rw [hg]
  cases l with
  | nil => rfl
  | cons z t =>
    refine xCloneS_cons (cS z) (t.map cS) ?_ (by have := hr.2; simpa using this)
    exact closedLL_iff.2 fun x hx y hy => by
      obtain ⟨v, _, rfl⟩ := List.mem_map.1 (show x ∈ (z :: t).map cS from hx)
      exact closedL_iff.1 (show closedL (cS v) = true from rfl) y hy
end Go.Proofs.YtbidfkibpjjghaaDoor.Den
