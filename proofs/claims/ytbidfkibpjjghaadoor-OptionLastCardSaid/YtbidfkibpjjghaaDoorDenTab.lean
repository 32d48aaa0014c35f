/- This seat's loops, and the functions that are handed variables. -/
import Derived.Test.YtbidfkibpjjghaaDoorOptC
set_option linter.unusedVariables false
set_option linter.unusedSimpArgs false
namespace Go.Proofs.YtbidfkibpjjghaaDoor.Den
open Go Go.RowKit

/-- What loops keep: by function, and by the first region within. -/
def KTL : List (FuncId × Nat × List Nat) := [(5, 6, [0, 1, 2, 7, 8, 9]), (6, 6, [0, 1, 2, 7, 8, 9]), (8, 5, [1, 2, 7, 8]), (9, 2, [0, 3]), (12, 3, [0, 1, 7, 8]), (12, 10, [0, 1, 7, 8, 9, 10]), (13, 4, [0, 1, 5]), (14, 3, [0, 3, 4]), (15, 4, [0, 1, 5]), (16, 2, [1, 4, 5, 8, 9, 10]), (17, 2, [0, 1, 6]), (21, 1, [0]), (23, 6, [0, 1, 6, 7, 8]), (28, 1, [0, 1]), (30, 1, [0, 1, 2]), (30, 17, [1, 2, 43, 44, 45]), (31, 2, [0, 1, 7, 8]), (40, 15, [0, 1, 5, 6, 7, 8, 9, 10]), (43, 5, [0, 1, 5, 6, 7, 8, 9]), (43, 11, [0, 1, 5, 6, 7, 8, 10]), (44, 3, [0, 4, 5]), (44, 8, [4, 6, 7, 8])]
/-- The functions that are handed variables. -/
def SL : List FuncId := [21, 24, 25, 27, 28, 31]
noncomputable def XL : List (FuncId × Ans) := [(22, xIs), (35, xIxb), (36, xCon), (20, xClone 20 1 false)]
theorem XL_ok (x : FuncId × Ans) (h : x ∈ XL) : PlainOk Tryd.prog G0 x.1 x.2 := by
  simp only [XL, List.mem_cons, List.not_mem_nil, or_false] at h
  rcases h with rfl | rfl | rfl | rfl
  · exact xIs_ok
  · exact xIxb_ok G0
  · exact xCon_ok
  · exact plain_any xCloneS_ok G0

end Go.Proofs.YtbidfkibpjjghaaDoor.Den
