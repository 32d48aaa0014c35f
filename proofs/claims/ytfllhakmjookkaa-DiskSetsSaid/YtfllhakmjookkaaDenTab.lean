/- This seat's loops, and the functions that are handed variables. -/
import Derived.Test.YtfllhakmjookkaaDenCl
set_option linter.unusedVariables false
set_option linter.unusedSimpArgs false
namespace Go.Proofs.Ytfllhakmjookkaa.Den
open Go Go.RowKit

/-- What loops keep: by function, and by the first region within. -/
def KTL : List (FuncId × Nat × List Nat) := [(5, 10, [2, 7, 8, 9, 10, 11]), (6, 9, [3, 7, 8, 11]), (7, 7, [2, 3, 5, 6, 8]), (7, 14, [2, 3, 5, 6, 9]), (13, 8, [0, 1, 5, 6, 7]), (14, 2, [1, 3]), (16, 4, [2, 3, 5]), (17, 3, [1, 2, 3, 4]), (18, 2, [0, 1, 2, 6, 15, 16]), (21, 3, [1, 3, 4]), (23, 3, [1, 3, 4]), (24, 8, [7, 60, 61, 62]), (24, 12, [7, 8, 9, 60, 61, 62, 74, 75]), (25, 4, [1, 3]), (30, 3, [1, 2, 3, 4]), (33, 4, [0, 3]), (34, 3, [3, 6, 7, 8]), (35, 2, [0, 3]), (36, 3, [0, 3, 4]), (39, 2, [0, 1, 6]), (40, 4, [0, 1, 5]), (42, 3, [0, 1, 5, 6]), (43, 4, [0, 1, 5]), (44, 2, [2, 5, 6, 7]), (45, 3, [0, 3, 4]), (47, 4, [3, 5, 6, 7]), (47, 10, [3, 5, 6, 8]), (49, 2, [1, 4, 8, 9, 10]), (53, 3, [1, 2, 3, 17, 18, 19]), (53, 6, [1, 2, 3, 4, 17, 18, 19, 25, 26, 27]), (62, 2, [1, 2, 9, 10]), (64, 9, [1, 2, 5, 6]), (65, 2, [0, 1, 7, 8]), (71, 2, [0, 1, 7, 8]), (73, 4, [1, 2, 6, 7, 8]), (73, 7, [1, 2, 6, 7, 8, 9]), (74, 2, [1, 2, 5]), (75, 12, [0, 6, 8]), (75, 18, [1, 45]), (76, 3, [0, 1, 2, 8, 9, 10]), (81, 38, [175]), (83, 2, [0, 2, 4]), (89, 3, [0, 4, 5, 10, 11]), (97, 1, [0, 2, 3])]
/-- The functions that are handed variables. -/
def SL : List FuncId := [53, 54, 55, 56, 57, 58, 59, 60, 61, 71]
def G0 : Glo := fun _ => none
noncomputable def XL : List (FuncId × Ans) := [(33, xLegal), (32, xLegal), (67, xClone 67 8)]
theorem XL_ok (x : FuncId × Ans) (h : x ∈ XL) : PlainOk Try.prog G0 x.1 x.2 := by
  simp only [XL, List.mem_cons, List.not_mem_nil, or_false] at h
  rcases h with rfl | rfl | rfl
  · exact xLegal_ok G0
  · exact xLegalE_ok G0
  · exact xCloneN_ok

end Go.Proofs.Ytfllhakmjookkaa.Den
