/- Functions, printed by den.py out of the code: plain ones, and that the code answers as they do. -/
import Derived.Test.YtfllhakmjookkaaDenF9
set_option linter.unusedVariables false
set_option linter.unusedSimpArgs false
namespace Go.Proofs.Ytfllhakmjookkaa.Den
open Go Go.RowKit

/-- flagstone/flagstonelaw06.DiskRight -/
def law06DiskRight (d : DiskD) : Option Bool :=
  (law06Big d).bind fun r_1 =>
  bif r_1 then (
    (shownX).bind fun r_2 =>
    some r_2
  ) else (
    (shownX).bind fun r_2 =>
    bif (!r_2) then (
      (shownX).bind fun r_3 =>
      some r_3
    ) else (
      (diskRight d).bind fun r_3 =>
      (law06Its d).bind fun r_4 =>
      (ref06Right r_4).bind fun r_5 =>
      some (r_3 == r_5)
    )
  )
set_option maxRecDepth 100000 in
theorem law06DiskRight_ok (k : Nat) (d : DiskD) (r : Bool) (h : law06DiskRight d = some r) : run0 (k + 13) 4 [(.agg [(.list 8 false (d.nodes.map NodeD.c)), (pI d.most), (pI d.room)])] = some (pB r) := by
  unfold law06DiskRight at h
  obtain ⟨r_1, q1, h⟩ := bnd_some h
  rcases bif_some h with ⟨q2, h⟩ | ⟨q2, h⟩
  · skip
    obtain ⟨r_2, q3, h⟩ := bnd_some h
    obtain rfl := Option.some.inj h
    exact ret_go (k := (k + 12)) Try.func4 Try.ntmps4 (by kernel_rfl) (by kernel_rfl) (Nat.le_of_ble_eq_true rfl) (adv [([], 1, 1, .ret (pB r_1)), ([], 1, 2, .eq (pB true)), ([], 2, 0, .ret (pB r_2))]) (ex := .ret) (r := (pB r_2)) (by kernel_rfl) rfl (by kernel_rfl) (allC (law06Big_ok (k + 11) d _ q1) (allC (cg q2) (allC (shownX_ok k  _ q3) allN))) (by kernel_rfl) allN
  · skip
    obtain ⟨r_2, q3, h⟩ := bnd_some h
    rcases bif_some h with ⟨q4, h⟩ | ⟨q4, h⟩
    · skip
      obtain ⟨r_3, q5, h⟩ := bnd_some h
      obtain rfl := Option.some.inj h
      exact ret_go (k := (k + 12)) Try.func4 Try.ntmps4 (by kernel_rfl) (by kernel_rfl) (Nat.le_of_ble_eq_true rfl) (adv [([], 1, 1, .ret (pB r_1)), ([], 1, 2, .eq (pB false)), ([], 1, 3, .ret (pB r_2)), ([], 1, 5, .eq (pB true)), ([], 2, 0, .ret (pB r_3))]) (ex := .ret) (r := (pB r_3)) (by kernel_rfl) rfl (by kernel_rfl) (allC (law06Big_ok (k + 11) d _ q1) (allC (cg q2) (allC (shownX_ok k  _ q3) (allC (cg q4) (allC (shownX_ok k  _ q5) allN))))) (by kernel_rfl) allN
    · skip
      obtain ⟨r_3, q5, h⟩ := bnd_some h
      obtain ⟨r_4, q6, h⟩ := bnd_some h
      obtain ⟨r_5, q7, h⟩ := bnd_some h
      obtain rfl := Option.some.inj h
      exact ret_go (k := (k + 12)) Try.func4 Try.ntmps4 (by kernel_rfl) (by kernel_rfl) (Nat.le_of_ble_eq_true rfl) (adv [([], 1, 1, .ret (pB r_1)), ([], 1, 2, .eq (pB false)), ([], 1, 3, .ret (pB r_2)), ([], 1, 5, .eq (pB false)), ([], 3, 1, .ret (pB r_3)), ([], 3, 3, .ret (.agg [(.list 8 false (r_4.nodes.map NodeD.c)), (pI r_4.most), (pI r_4.room)])), ([], 3, 4, .ret (pB r_5))]) (ex := .ret) (r := (pB (r_3 == r_5))) (by kernel_rfl) rfl (by kernel_rfl) (allC (law06Big_ok (k + 11) d _ q1) (allC (cg q2) (allC (shownX_ok k  _ q3) (allC (cg q4) (allC (diskRight_ok (k + 5) d _ q5) (allC (law06Its_ok (k + 10) d _ q6) (allC (ref06Right_ok (k + 8) r_4 _ q7) allN))))))) (by kernel_rfl) allN


end Go.Proofs.Ytfllhakmjookkaa.Den
