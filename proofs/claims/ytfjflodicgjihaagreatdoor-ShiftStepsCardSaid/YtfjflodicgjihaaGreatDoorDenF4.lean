/- Functions, printed by den.py out of the code: plain ones, and that the code answers as they do. -/
import Derived.Test.YtfjflodicgjihaaGreatDoorDenF2
set_option linter.unusedVariables false
set_option linter.unusedSimpArgs false
namespace Go.Proofs.YtfjflodicgjihaaGreatDoor.Den
open Go Go.RowKit
/-- flagstone/shift.Tell -/
def shiftTell (j : JobD) (rF : ReplyD) : Option JobD :=
 (shiftWorks j).bind fun X_1 => match X_1 with
 | .inl (r_1, r_2) => (
 bif (j.phase == (0 : Int)) then (
 bif (rF.e != (0 : Int)) then (
 bif (!(rF.e == (2 : Int))) then (
 (jobFail j j.path2 rF.e).bind fun r_17 =>
 some r_17
 ) else (
 bif (j.phase == (1 : Int)) then (
 (jobEnd j (bs [])).bind fun r_17 =>
 some r_17
 ) else (
 bif (!(rF.e == (2 : Int))) then (
 bif (rF.i.kind == (2 : Int)) then (
 (routeBase j.path).bind fun r_17 =>
 (routeJoin j.path2 r_17).bind fun r_18 =>
 some (JobD.mk j.kind j.p (1 : Int) j.fd j.nF j.modeF j.tries j.atF j.flags j.path r_18 j.text j.names j.stack j.draws j.done j.exit j.out j.e)
 ) else (
 some (JobD.mk j.kind j.p (1 : Int) j.fd j.nF j.modeF j.tries j.atF j.flags j.path j.path2 j.text j.names j.stack j.draws j.done j.exit j.out j.e)
 )
 ) else (
 some (JobD.mk j.kind j.p (1 : Int) j.fd j.nF j.modeF j.tries j.atF j.flags j.path j.path2 j.text j.names j.stack j.draws j.done j.exit j.out j.e)
 )
 )
 )
 ) else (
 bif (j.phase == (1 : Int)) then (
 (jobEnd j (bs [])).bind fun r_17 =>
 some r_17
 ) else (
 bif (!(rF.e == (2 : Int))) then (
 bif (rF.i.kind == (2 : Int)) then (
 (routeBase j.path).bind fun r_17 =>
 (routeJoin j.path2 r_17).bind fun r_18 =>
 some (JobD.mk j.kind j.p (1 : Int) j.fd j.nF j.modeF j.tries j.atF j.flags j.path r_18 j.text j.names j.stack j.draws j.done j.exit j.out j.e)
 ) else (
 some (JobD.mk j.kind j.p (1 : Int) j.fd j.nF j.modeF j.tries j.atF j.flags j.path j.path2 j.text j.names j.stack j.draws j.done j.exit j.out j.e)
 )
 ) else (
 some (JobD.mk j.kind j.p (1 : Int) j.fd j.nF j.modeF j.tries j.atF j.flags j.path j.path2 j.text j.names j.stack j.draws j.done j.exit j.out j.e)
 )
 )
 )
 ) else (
 bif (rF.e != (0 : Int)) then (
 (jobFail j j.path2 rF.e).bind fun r_17 =>
 some r_17
 ) else (
 bif (j.phase == (1 : Int)) then (
 (jobEnd j (bs [])).bind fun r_17 =>
 some r_17
 ) else (
 bif (rF.i.kind == (2 : Int)) then (
 (routeBase j.path).bind fun r_17 =>
 (routeJoin j.path2 r_17).bind fun r_18 =>
 some (JobD.mk j.kind j.p (1 : Int) j.fd j.nF j.modeF j.tries j.atF j.flags j.path r_18 j.text j.names j.stack j.draws j.done j.exit j.out j.e)
 ) else (
 some (JobD.mk j.kind j.p (1 : Int) j.fd j.nF j.modeF j.tries j.atF j.flags j.path j.path2 j.text j.names j.stack j.draws j.done j.exit j.out j.e)
 )
 )
 )
 )
 )
 | .inr (.inl (r_3, r_4, r_5)) => (
 bif (!r_5) then (
 some j
 ) else (
 bif (j.phase == (0 : Int)) then (
 bif (rF.e != (0 : Int)) then (
 bif (!(rF.e == (2 : Int))) then (
 (jobFail j j.path2 rF.e).bind fun r_17 =>
 some r_17
 ) else (
 bif (j.phase == (1 : Int)) then (
 (jobEnd j (bs [])).bind fun r_17 =>
 some r_17
 ) else (
 bif (!(rF.e == (2 : Int))) then (
 bif (rF.i.kind == (2 : Int)) then (
 (routeBase j.path).bind fun r_17 =>
 (routeJoin j.path2 r_17).bind fun r_18 =>
 some (JobD.mk j.kind j.p (1 : Int) j.fd j.nF j.modeF j.tries j.atF j.flags j.path r_18 j.text j.names j.stack j.draws j.done j.exit j.out j.e)
 ) else (
 some (JobD.mk j.kind j.p (1 : Int) j.fd j.nF j.modeF j.tries j.atF j.flags j.path j.path2 j.text j.names j.stack j.draws j.done j.exit j.out j.e)
 )
 ) else (
 some (JobD.mk j.kind j.p (1 : Int) j.fd j.nF j.modeF j.tries j.atF j.flags j.path j.path2 j.text j.names j.stack j.draws j.done j.exit j.out j.e)
 )
 )
 )
 ) else (
 bif (j.phase == (1 : Int)) then (
 (jobEnd j (bs [])).bind fun r_17 =>
 some r_17
 ) else (
 bif (!(rF.e == (2 : Int))) then (
 bif (rF.i.kind == (2 : Int)) then (
 (routeBase j.path).bind fun r_17 =>
 (routeJoin j.path2 r_17).bind fun r_18 =>
 some (JobD.mk j.kind j.p (1 : Int) j.fd j.nF j.modeF j.tries j.atF j.flags j.path r_18 j.text j.names j.stack j.draws j.done j.exit j.out j.e)
 ) else (
 some (JobD.mk j.kind j.p (1 : Int) j.fd j.nF j.modeF j.tries j.atF j.flags j.path j.path2 j.text j.names j.stack j.draws j.done j.exit j.out j.e)
 )
 ) else (
 some (JobD.mk j.kind j.p (1 : Int) j.fd j.nF j.modeF j.tries j.atF j.flags j.path j.path2 j.text j.names j.stack j.draws j.done j.exit j.out j.e)
 )
 )
 )
 ) else (
 bif (rF.e != (0 : Int)) then (
 (jobFail j j.path2 rF.e).bind fun r_17 =>
 some r_17
 ) else (
 bif (j.phase == (1 : Int)) then (
 (jobEnd j (bs [])).bind fun r_17 =>
 some r_17
 ) else (
 bif (rF.i.kind == (2 : Int)) then (
 (routeBase j.path).bind fun r_17 =>
 (routeJoin j.path2 r_17).bind fun r_18 =>
 some (JobD.mk j.kind j.p (1 : Int) j.fd j.nF j.modeF j.tries j.atF j.flags j.path r_18 j.text j.names j.stack j.draws j.done j.exit j.out j.e)
 ) else (
 some (JobD.mk j.kind j.p (1 : Int) j.fd j.nF j.modeF j.tries j.atF j.flags j.path j.path2 j.text j.names j.stack j.draws j.done j.exit j.out j.e)
 )
 )
 )
 )
 )
 )
 | .inr (.inr (.inl (r_6, r_7))) => (
 some j
 )
 | .inr (.inr (.inr (.inl (r_8, r_9)))) => (
 bif (j.phase == (0 : Int)) then (
 bif (rF.e != (0 : Int)) then (
 bif (!(rF.e == (2 : Int))) then (
 (jobFail j j.path2 rF.e).bind fun r_17 =>
 some r_17
 ) else (
 bif (j.phase == (1 : Int)) then (
 (jobEnd j (bs [])).bind fun r_17 =>
 some r_17
 ) else (
 bif (!(rF.e == (2 : Int))) then (
 bif (rF.i.kind == (2 : Int)) then (
 (routeBase j.path).bind fun r_17 =>
 (routeJoin j.path2 r_17).bind fun r_18 =>
 some (JobD.mk j.kind j.p (1 : Int) j.fd j.nF j.modeF j.tries j.atF j.flags j.path r_18 j.text j.names j.stack j.draws j.done j.exit j.out j.e)
 ) else (
 some (JobD.mk j.kind j.p (1 : Int) j.fd j.nF j.modeF j.tries j.atF j.flags j.path j.path2 j.text j.names j.stack j.draws j.done j.exit j.out j.e)
 )
 ) else (
 some (JobD.mk j.kind j.p (1 : Int) j.fd j.nF j.modeF j.tries j.atF j.flags j.path j.path2 j.text j.names j.stack j.draws j.done j.exit j.out j.e)
 )
 )
 )
 ) else (
 bif (j.phase == (1 : Int)) then (
 (jobEnd j (bs [])).bind fun r_17 =>
 some r_17
 ) else (
 bif (!(rF.e == (2 : Int))) then (
 bif (rF.i.kind == (2 : Int)) then (
 (routeBase j.path).bind fun r_17 =>
 (routeJoin j.path2 r_17).bind fun r_18 =>
 some (JobD.mk j.kind j.p (1 : Int) j.fd j.nF j.modeF j.tries j.atF j.flags j.path r_18 j.text j.names j.stack j.draws j.done j.exit j.out j.e)
 ) else (
 some (JobD.mk j.kind j.p (1 : Int) j.fd j.nF j.modeF j.tries j.atF j.flags j.path j.path2 j.text j.names j.stack j.draws j.done j.exit j.out j.e)
 )
 ) else (
 some (JobD.mk j.kind j.p (1 : Int) j.fd j.nF j.modeF j.tries j.atF j.flags j.path j.path2 j.text j.names j.stack j.draws j.done j.exit j.out j.e)
 )
 )
 )
 ) else (
 bif (rF.e != (0 : Int)) then (
 (jobFail j j.path2 rF.e).bind fun r_17 =>
 some r_17
 ) else (
 bif (j.phase == (1 : Int)) then (
 (jobEnd j (bs [])).bind fun r_17 =>
 some r_17
 ) else (
 bif (rF.i.kind == (2 : Int)) then (
 (routeBase j.path).bind fun r_17 =>
 (routeJoin j.path2 r_17).bind fun r_18 =>
 some (JobD.mk j.kind j.p (1 : Int) j.fd j.nF j.modeF j.tries j.atF j.flags j.path r_18 j.text j.names j.stack j.draws j.done j.exit j.out j.e)
 ) else (
 some (JobD.mk j.kind j.p (1 : Int) j.fd j.nF j.modeF j.tries j.atF j.flags j.path j.path2 j.text j.names j.stack j.draws j.done j.exit j.out j.e)
 )
 )
 )
 )
 )
 | .inr (.inr (.inr (.inr (.inl (r_10, r_11, r_12))))) => (
 bif (!r_12) then (
 some j
 ) else (
 bif (j.phase == (0 : Int)) then (
 bif (rF.e != (0 : Int)) then (
 bif (!(rF.e == (2 : Int))) then (
 (jobFail j j.path2 rF.e).bind fun r_17 =>
 some r_17
 ) else (
 bif (j.phase == (1 : Int)) then (
 (jobEnd j (bs [])).bind fun r_17 =>
 some r_17
 ) else (
 bif (!(rF.e == (2 : Int))) then (
 bif (rF.i.kind == (2 : Int)) then (
 (routeBase j.path).bind fun r_17 =>
 (routeJoin j.path2 r_17).bind fun r_18 =>
 some (JobD.mk j.kind j.p (1 : Int) j.fd j.nF j.modeF j.tries j.atF j.flags j.path r_18 j.text j.names j.stack j.draws j.done j.exit j.out j.e)
 ) else (
 some (JobD.mk j.kind j.p (1 : Int) j.fd j.nF j.modeF j.tries j.atF j.flags j.path j.path2 j.text j.names j.stack j.draws j.done j.exit j.out j.e)
 )
 ) else (
 some (JobD.mk j.kind j.p (1 : Int) j.fd j.nF j.modeF j.tries j.atF j.flags j.path j.path2 j.text j.names j.stack j.draws j.done j.exit j.out j.e)
 )
 )
 )
 ) else (
 bif (j.phase == (1 : Int)) then (
 (jobEnd j (bs [])).bind fun r_17 =>
 some r_17
 ) else (
 bif (!(rF.e == (2 : Int))) then (
 bif (rF.i.kind == (2 : Int)) then (
 (routeBase j.path).bind fun r_17 =>
 (routeJoin j.path2 r_17).bind fun r_18 =>
 some (JobD.mk j.kind j.p (1 : Int) j.fd j.nF j.modeF j.tries j.atF j.flags j.path r_18 j.text j.names j.stack j.draws j.done j.exit j.out j.e)
 ) else (
 some (JobD.mk j.kind j.p (1 : Int) j.fd j.nF j.modeF j.tries j.atF j.flags j.path j.path2 j.text j.names j.stack j.draws j.done j.exit j.out j.e)
 )
 ) else (
 some (JobD.mk j.kind j.p (1 : Int) j.fd j.nF j.modeF j.tries j.atF j.flags j.path j.path2 j.text j.names j.stack j.draws j.done j.exit j.out j.e)
 )
 )
 )
 ) else (
 bif (rF.e != (0 : Int)) then (
 (jobFail j j.path2 rF.e).bind fun r_17 =>
 some r_17
 ) else (
 bif (j.phase == (1 : Int)) then (
 (jobEnd j (bs [])).bind fun r_17 =>
 some r_17
 ) else (
 bif (rF.i.kind == (2 : Int)) then (
 (routeBase j.path).bind fun r_17 =>
 (routeJoin j.path2 r_17).bind fun r_18 =>
 some (JobD.mk j.kind j.p (1 : Int) j.fd j.nF j.modeF j.tries j.atF j.flags j.path r_18 j.text j.names j.stack j.draws j.done j.exit j.out j.e)
 ) else (
 some (JobD.mk j.kind j.p (1 : Int) j.fd j.nF j.modeF j.tries j.atF j.flags j.path j.path2 j.text j.names j.stack j.draws j.done j.exit j.out j.e)
 )
 )
 )
 )
 )
 )
 | .inr (.inr (.inr (.inr (.inr (.inl (r_13, r_14)))))) => (
 some j
 )
 | .inr (.inr (.inr (.inr (.inr (.inr ((r_15, r_16))))))) => (
 some j
 )
set_option maxRecDepth 100000 in
theorem shiftTell_ok (k : Nat) (j : JobD) (rF : ReplyD) (r : JobD) (h : shiftTell j rF = some r) : run0 (k + 5) 14 [(JobD.a j), (.agg [(pI rF.e), (pI rF.nF), (pS rF.s), (.list 1 false (rF.l.map cS)), (pI rF.i.ino), (pI rF.i.kind), (pI rF.i.modeF), (pI rF.i.owner), (pI rF.i.links), (pI rF.i.size)])] = some (JobD.a r) := by
  unfold shiftTell at h
  obtain ⟨X_1, q1, h⟩ := bnd_some h
  rcases X_1 with ⟨r_1, r_2⟩ | ⟨r_3, r_4, r_5⟩ | ⟨r_6, r_7⟩ | ⟨r_8, r_9⟩ | ⟨r_10, r_11, r_12⟩ | ⟨r_13, r_14⟩ | ⟨r_15, r_16⟩
  · try dsimp only at h
    rcases bif_some h with ⟨q2, h⟩ | ⟨q2, h⟩
    · rcases bif_some h with ⟨q3, h⟩ | ⟨q3, h⟩
      · rcases bif_some h with ⟨q4, h⟩ | ⟨q4, h⟩
        · obtain ⟨r_17, q5, h⟩ := bnd_some h
          obtain rfl := Option.some.inj h
          exact ret_go (k := (k + 4)) Tryz.func14 Tryz.ntmps14 (by kernel_rfl) (by kernel_rfl) (lb rfl) (adv [([], 1, 1, .ret (.tup [(.agg [(pS r_1), (pS r_2), (.clo 55 [])]), (pB true)])), ([], 4, 3, .eq (pB true)), ([], 5, 3, .eq (pB true)), ([], 5, 7, .eq (pB true)), ([], 6, 5, .ret (JobD.a r_17))]) (ex := .ret) (r := (JobD.a r_17)) (by kernel_rfl) rfl (by kernel_rfl) (allC (shiftWorks_ok (k + 2) j _ q1) (allC (cg q2) (allC (cg q3) (allC (cg q4) (allC (jobFail_ok (k + 3) j j.path2 rF.e _ q5) allN))))) (by kernel_rfl) allN
        · rcases bif_some h with ⟨q5, h⟩ | ⟨q5, h⟩
          · obtain ⟨r_17, q6, h⟩ := bnd_some h
            obtain rfl := Option.some.inj h
            exact ret_go (k := (k + 4)) Tryz.func14 Tryz.ntmps14 (by kernel_rfl) (by kernel_rfl) (lb rfl) (adv [([], 1, 1, .ret (.tup [(.agg [(pS r_1), (pS r_2), (.clo 55 [])]), (pB true)])), ([], 4, 3, .eq (pB true)), ([], 5, 3, .eq (pB true)), ([], 5, 7, .eq (pB false)), ([], 7, 3, .eq (pB true)), ([], 8, 1, .ret (JobD.a r_17))]) (ex := .ret) (r := (JobD.a r_17)) (by kernel_rfl) rfl (by kernel_rfl) (allC (shiftWorks_ok (k + 2) j _ q1) (allC (cg q2) (allC (cg q3) (allC (cg q4) (allC (cg q5) (allC (jobEnd_ok (k + 3) j (bs []) _ q6) allN)))))) (by kernel_rfl) allN
          · rcases bif_some h with ⟨q6, h⟩ | ⟨q6, h⟩
            · rcases bif_some h with ⟨q7, h⟩ | ⟨q7, h⟩
              · obtain ⟨r_17, q8, h⟩ := bnd_some h
                obtain ⟨r_18, q9, h⟩ := bnd_some h
                obtain rfl := Option.some.inj h
                exact ret_go (k := (k + 4)) Tryz.func14 Tryz.ntmps14 (by kernel_rfl) (by kernel_rfl) (lb rfl) (adv [([], 1, 1, .ret (.tup [(.agg [(pS r_1), (pS r_2), (.clo 55 [])]), (pB true)])), ([], 4, 3, .eq (pB true)), ([], 5, 3, .eq (pB true)), ([], 5, 7, .eq (pB false)), ([], 7, 3, .eq (pB false)), ([], 9, 2, .eq (pB true)), ([], 9, 8, .eq (pB true)), ([], 10, 4, .ret (pS r_17)), ([], 10, 5, .ret (pS r_18))]) (ex := .ret) (r := (.agg [(pI j.kind), (pI j.p), (pI (1 : Int)), (pI j.fd), (pI j.nF), (pI j.modeF), (pI j.tries), (pI j.atF), (pI j.flags), (pS j.path), (pS r_18), (pS j.text), (.list 1 false (j.names.map cS)), (.list 3 false (j.stack.map FrameD.c)), (.list 1 false (j.draws.map cI)), (pB j.done), (pI j.exit), (pS j.out), (pI j.e)])) (by kernel_rfl) rfl (by kernel_rfl) (allC (shiftWorks_ok (k + 2) j _ q1) (allC (cg q2) (allC (cg q3) (allC (cg q4) (allC (cg q5) (allC (cg q6) (allC (cg q7) (allC (routeBase_ok (k + 3) j.path _ q8) (allC (routeJoin_ok k j.path2 r_17 _ q9) allN))))))))) (by kernel_rfl) allN
              · obtain rfl := Option.some.inj h
                exact ret_go (k := (k + 4)) Tryz.func14 Tryz.ntmps14 (by kernel_rfl) (by kernel_rfl) (lb rfl) (adv [([], 1, 1, .ret (.tup [(.agg [(pS r_1), (pS r_2), (.clo 55 [])]), (pB true)])), ([], 4, 3, .eq (pB true)), ([], 5, 3, .eq (pB true)), ([], 5, 7, .eq (pB false)), ([], 7, 3, .eq (pB false)), ([], 9, 2, .eq (pB true)), ([], 9, 8, .eq (pB false))]) (ex := .ret) (r := (.agg [(pI j.kind), (pI j.p), (pI (1 : Int)), (pI j.fd), (pI j.nF), (pI j.modeF), (pI j.tries), (pI j.atF), (pI j.flags), (pS j.path), (pS j.path2), (pS j.text), (.list 1 false (j.names.map cS)), (.list 3 false (j.stack.map FrameD.c)), (.list 1 false (j.draws.map cI)), (pB j.done), (pI j.exit), (pS j.out), (pI j.e)])) (by kernel_rfl) rfl (by kernel_rfl) (allC (shiftWorks_ok (k + 2) j _ q1) (allC (cg q2) (allC (cg q3) (allC (cg q4) (allC (cg q5) (allC (cg q6) (allC (cg q7) allN))))))) (by kernel_rfl) allN
            · obtain rfl := Option.some.inj h
              exact ret_go (k := (k + 4)) Tryz.func14 Tryz.ntmps14 (by kernel_rfl) (by kernel_rfl) (lb rfl) (adv [([], 1, 1, .ret (.tup [(.agg [(pS r_1), (pS r_2), (.clo 55 [])]), (pB true)])), ([], 4, 3, .eq (pB true)), ([], 5, 3, .eq (pB true)), ([], 5, 7, .eq (pB false)), ([], 7, 3, .eq (pB false)), ([], 9, 2, .eq (pB false))]) (ex := .ret) (r := (.agg [(pI j.kind), (pI j.p), (pI (1 : Int)), (pI j.fd), (pI j.nF), (pI j.modeF), (pI j.tries), (pI j.atF), (pI j.flags), (pS j.path), (pS j.path2), (pS j.text), (.list 1 false (j.names.map cS)), (.list 3 false (j.stack.map FrameD.c)), (.list 1 false (j.draws.map cI)), (pB j.done), (pI j.exit), (pS j.out), (pI j.e)])) (by kernel_rfl) rfl (by kernel_rfl) (allC (shiftWorks_ok (k + 2) j _ q1) (allC (cg q2) (allC (cg q3) (allC (cg q4) (allC (cg q5) (allC (cg q6) allN)))))) (by kernel_rfl) allN
      · rcases bif_some h with ⟨q4, h⟩ | ⟨q4, h⟩
        · obtain ⟨r_17, q5, h⟩ := bnd_some h
          obtain rfl := Option.some.inj h
          exact ret_go (k := (k + 4)) Tryz.func14 Tryz.ntmps14 (by kernel_rfl) (by kernel_rfl) (lb rfl) (adv [([], 1, 1, .ret (.tup [(.agg [(pS r_1), (pS r_2), (.clo 55 [])]), (pB true)])), ([], 4, 3, .eq (pB true)), ([], 5, 3, .eq (pB false)), ([], 7, 3, .eq (pB true)), ([], 8, 1, .ret (JobD.a r_17))]) (ex := .ret) (r := (JobD.a r_17)) (by kernel_rfl) rfl (by kernel_rfl) (allC (shiftWorks_ok (k + 2) j _ q1) (allC (cg q2) (allC (cg q3) (allC (cg q4) (allC (jobEnd_ok (k + 3) j (bs []) _ q5) allN))))) (by kernel_rfl) allN
        · rcases bif_some h with ⟨q5, h⟩ | ⟨q5, h⟩
          · rcases bif_some h with ⟨q6, h⟩ | ⟨q6, h⟩
            · obtain ⟨r_17, q7, h⟩ := bnd_some h
              obtain ⟨r_18, q8, h⟩ := bnd_some h
              obtain rfl := Option.some.inj h
              exact ret_go (k := (k + 4)) Tryz.func14 Tryz.ntmps14 (by kernel_rfl) (by kernel_rfl) (lb rfl) (adv [([], 1, 1, .ret (.tup [(.agg [(pS r_1), (pS r_2), (.clo 55 [])]), (pB true)])), ([], 4, 3, .eq (pB true)), ([], 5, 3, .eq (pB false)), ([], 7, 3, .eq (pB false)), ([], 9, 2, .eq (pB true)), ([], 9, 8, .eq (pB true)), ([], 10, 4, .ret (pS r_17)), ([], 10, 5, .ret (pS r_18))]) (ex := .ret) (r := (.agg [(pI j.kind), (pI j.p), (pI (1 : Int)), (pI j.fd), (pI j.nF), (pI j.modeF), (pI j.tries), (pI j.atF), (pI j.flags), (pS j.path), (pS r_18), (pS j.text), (.list 1 false (j.names.map cS)), (.list 3 false (j.stack.map FrameD.c)), (.list 1 false (j.draws.map cI)), (pB j.done), (pI j.exit), (pS j.out), (pI j.e)])) (by kernel_rfl) rfl (by kernel_rfl) (allC (shiftWorks_ok (k + 2) j _ q1) (allC (cg q2) (allC (cg q3) (allC (cg q4) (allC (cg q5) (allC (cg q6) (allC (routeBase_ok (k + 3) j.path _ q7) (allC (routeJoin_ok k j.path2 r_17 _ q8) allN)))))))) (by kernel_rfl) allN
            · obtain rfl := Option.some.inj h
              exact ret_go (k := (k + 4)) Tryz.func14 Tryz.ntmps14 (by kernel_rfl) (by kernel_rfl) (lb rfl) (adv [([], 1, 1, .ret (.tup [(.agg [(pS r_1), (pS r_2), (.clo 55 [])]), (pB true)])), ([], 4, 3, .eq (pB true)), ([], 5, 3, .eq (pB false)), ([], 7, 3, .eq (pB false)), ([], 9, 2, .eq (pB true)), ([], 9, 8, .eq (pB false))]) (ex := .ret) (r := (.agg [(pI j.kind), (pI j.p), (pI (1 : Int)), (pI j.fd), (pI j.nF), (pI j.modeF), (pI j.tries), (pI j.atF), (pI j.flags), (pS j.path), (pS j.path2), (pS j.text), (.list 1 false (j.names.map cS)), (.list 3 false (j.stack.map FrameD.c)), (.list 1 false (j.draws.map cI)), (pB j.done), (pI j.exit), (pS j.out), (pI j.e)])) (by kernel_rfl) rfl (by kernel_rfl) (allC (shiftWorks_ok (k + 2) j _ q1) (allC (cg q2) (allC (cg q3) (allC (cg q4) (allC (cg q5) (allC (cg q6) allN)))))) (by kernel_rfl) allN
          · obtain rfl := Option.some.inj h
            exact ret_go (k := (k + 4)) Tryz.func14 Tryz.ntmps14 (by kernel_rfl) (by kernel_rfl) (lb rfl) (adv [([], 1, 1, .ret (.tup [(.agg [(pS r_1), (pS r_2), (.clo 55 [])]), (pB true)])), ([], 4, 3, .eq (pB true)), ([], 5, 3, .eq (pB false)), ([], 7, 3, .eq (pB false)), ([], 9, 2, .eq (pB false))]) (ex := .ret) (r := (.agg [(pI j.kind), (pI j.p), (pI (1 : Int)), (pI j.fd), (pI j.nF), (pI j.modeF), (pI j.tries), (pI j.atF), (pI j.flags), (pS j.path), (pS j.path2), (pS j.text), (.list 1 false (j.names.map cS)), (.list 3 false (j.stack.map FrameD.c)), (.list 1 false (j.draws.map cI)), (pB j.done), (pI j.exit), (pS j.out), (pI j.e)])) (by kernel_rfl) rfl (by kernel_rfl) (allC (shiftWorks_ok (k + 2) j _ q1) (allC (cg q2) (allC (cg q3) (allC (cg q4) (allC (cg q5) allN))))) (by kernel_rfl) allN
    · rcases bif_some h with ⟨q3, h⟩ | ⟨q3, h⟩
      · obtain ⟨r_17, q4, h⟩ := bnd_some h
        obtain rfl := Option.some.inj h
        exact ret_go (k := (k + 4)) Tryz.func14 Tryz.ntmps14 (by kernel_rfl) (by kernel_rfl) (lb rfl) (adv [([], 1, 1, .ret (.tup [(.agg [(pS r_1), (pS r_2), (.clo 55 [])]), (pB true)])), ([], 4, 3, .eq (pB false)), ([], 5, 3, .eq (pB true)), ([], 6, 5, .ret (JobD.a r_17))]) (ex := .ret) (r := (JobD.a r_17)) (by kernel_rfl) rfl (by kernel_rfl) (allC (shiftWorks_ok (k + 2) j _ q1) (allC (cg q2) (allC (cg q3) (allC (jobFail_ok (k + 3) j j.path2 rF.e _ q4) allN)))) (by kernel_rfl) allN
      · rcases bif_some h with ⟨q4, h⟩ | ⟨q4, h⟩
        · obtain ⟨r_17, q5, h⟩ := bnd_some h
          obtain rfl := Option.some.inj h
          exact ret_go (k := (k + 4)) Tryz.func14 Tryz.ntmps14 (by kernel_rfl) (by kernel_rfl) (lb rfl) (adv [([], 1, 1, .ret (.tup [(.agg [(pS r_1), (pS r_2), (.clo 55 [])]), (pB true)])), ([], 4, 3, .eq (pB false)), ([], 5, 3, .eq (pB false)), ([], 7, 3, .eq (pB true)), ([], 8, 1, .ret (JobD.a r_17))]) (ex := .ret) (r := (JobD.a r_17)) (by kernel_rfl) rfl (by kernel_rfl) (allC (shiftWorks_ok (k + 2) j _ q1) (allC (cg q2) (allC (cg q3) (allC (cg q4) (allC (jobEnd_ok (k + 3) j (bs []) _ q5) allN))))) (by kernel_rfl) allN
        · rcases bif_some h with ⟨q5, h⟩ | ⟨q5, h⟩
          · obtain ⟨r_17, q6, h⟩ := bnd_some h
            obtain ⟨r_18, q7, h⟩ := bnd_some h
            obtain rfl := Option.some.inj h
            exact ret_go (k := (k + 4)) Tryz.func14 Tryz.ntmps14 (by kernel_rfl) (by kernel_rfl) (lb rfl) (adv [([], 1, 1, .ret (.tup [(.agg [(pS r_1), (pS r_2), (.clo 55 [])]), (pB true)])), ([], 4, 3, .eq (pB false)), ([], 5, 3, .eq (pB false)), ([], 7, 3, .eq (pB false)), ([], 9, 8, .eq (pB true)), ([], 10, 4, .ret (pS r_17)), ([], 10, 5, .ret (pS r_18))]) (ex := .ret) (r := (.agg [(pI j.kind), (pI j.p), (pI (1 : Int)), (pI j.fd), (pI j.nF), (pI j.modeF), (pI j.tries), (pI j.atF), (pI j.flags), (pS j.path), (pS r_18), (pS j.text), (.list 1 false (j.names.map cS)), (.list 3 false (j.stack.map FrameD.c)), (.list 1 false (j.draws.map cI)), (pB j.done), (pI j.exit), (pS j.out), (pI j.e)])) (by kernel_rfl) rfl (by kernel_rfl) (allC (shiftWorks_ok (k + 2) j _ q1) (allC (cg q2) (allC (cg q3) (allC (cg q4) (allC (cg q5) (allC (routeBase_ok (k + 3) j.path _ q6) (allC (routeJoin_ok k j.path2 r_17 _ q7) allN))))))) (by kernel_rfl) allN
          · obtain rfl := Option.some.inj h
            exact ret_go (k := (k + 4)) Tryz.func14 Tryz.ntmps14 (by kernel_rfl) (by kernel_rfl) (lb rfl) (adv [([], 1, 1, .ret (.tup [(.agg [(pS r_1), (pS r_2), (.clo 55 [])]), (pB true)])), ([], 4, 3, .eq (pB false)), ([], 5, 3, .eq (pB false)), ([], 7, 3, .eq (pB false)), ([], 9, 8, .eq (pB false))]) (ex := .ret) (r := (.agg [(pI j.kind), (pI j.p), (pI (1 : Int)), (pI j.fd), (pI j.nF), (pI j.modeF), (pI j.tries), (pI j.atF), (pI j.flags), (pS j.path), (pS j.path2), (pS j.text), (.list 1 false (j.names.map cS)), (.list 3 false (j.stack.map FrameD.c)), (.list 1 false (j.draws.map cI)), (pB j.done), (pI j.exit), (pS j.out), (pI j.e)])) (by kernel_rfl) rfl (by kernel_rfl) (allC (shiftWorks_ok (k + 2) j _ q1) (allC (cg q2) (allC (cg q3) (allC (cg q4) (allC (cg q5) allN))))) (by kernel_rfl) allN
  · try dsimp only at h
    rcases bif_some h with ⟨q2, h⟩ | ⟨q2, h⟩
    · obtain rfl := Option.some.inj h
      exact ret_go (k := (k + 4)) Tryz.func14 Tryz.ntmps14 (by kernel_rfl) (by kernel_rfl) (lb rfl) (adv [([], 1, 1, .ret (.tup [(.agg [(pS r_3), (pS r_4), (.clo 55 [])]), (pB r_5)])), ([], 2, 1, .eq (pB true))]) (ex := .ret) (r := (JobD.a j)) (by kernel_rfl) rfl (by kernel_rfl) (allC (shiftWorks_ok (k + 2) j _ q1) (allC (cg q2) allN)) (by kernel_rfl) allN
    · rcases bif_some h with ⟨q3, h⟩ | ⟨q3, h⟩
      · rcases bif_some h with ⟨q4, h⟩ | ⟨q4, h⟩
        · rcases bif_some h with ⟨q5, h⟩ | ⟨q5, h⟩
          · obtain ⟨r_17, q6, h⟩ := bnd_some h
            obtain rfl := Option.some.inj h
            exact ret_go (k := (k + 4)) Tryz.func14 Tryz.ntmps14 (by kernel_rfl) (by kernel_rfl) (lb rfl) (adv [([], 1, 1, .ret (.tup [(.agg [(pS r_3), (pS r_4), (.clo 55 [])]), (pB r_5)])), ([], 2, 1, .eq (pB false)), ([], 4, 3, .eq (pB true)), ([], 5, 3, .eq (pB true)), ([], 5, 7, .eq (pB true)), ([], 6, 5, .ret (JobD.a r_17))]) (ex := .ret) (r := (JobD.a r_17)) (by kernel_rfl) rfl (by kernel_rfl) (allC (shiftWorks_ok (k + 2) j _ q1) (allC (cg q2) (allC (cg q3) (allC (cg q4) (allC (cg q5) (allC (jobFail_ok (k + 3) j j.path2 rF.e _ q6) allN)))))) (by kernel_rfl) allN
          · rcases bif_some h with ⟨q6, h⟩ | ⟨q6, h⟩
            · obtain ⟨r_17, q7, h⟩ := bnd_some h
              obtain rfl := Option.some.inj h
              exact ret_go (k := (k + 4)) Tryz.func14 Tryz.ntmps14 (by kernel_rfl) (by kernel_rfl) (lb rfl) (adv [([], 1, 1, .ret (.tup [(.agg [(pS r_3), (pS r_4), (.clo 55 [])]), (pB r_5)])), ([], 2, 1, .eq (pB false)), ([], 4, 3, .eq (pB true)), ([], 5, 3, .eq (pB true)), ([], 5, 7, .eq (pB false)), ([], 7, 3, .eq (pB true)), ([], 8, 1, .ret (JobD.a r_17))]) (ex := .ret) (r := (JobD.a r_17)) (by kernel_rfl) rfl (by kernel_rfl) (allC (shiftWorks_ok (k + 2) j _ q1) (allC (cg q2) (allC (cg q3) (allC (cg q4) (allC (cg q5) (allC (cg q6) (allC (jobEnd_ok (k + 3) j (bs []) _ q7) allN))))))) (by kernel_rfl) allN
            · rcases bif_some h with ⟨q7, h⟩ | ⟨q7, h⟩
              · rcases bif_some h with ⟨q8, h⟩ | ⟨q8, h⟩
                · obtain ⟨r_17, q9, h⟩ := bnd_some h
                  obtain ⟨r_18, q10, h⟩ := bnd_some h
                  obtain rfl := Option.some.inj h
                  exact ret_go (k := (k + 4)) Tryz.func14 Tryz.ntmps14 (by kernel_rfl) (by kernel_rfl) (lb rfl) (adv [([], 1, 1, .ret (.tup [(.agg [(pS r_3), (pS r_4), (.clo 55 [])]), (pB r_5)])), ([], 2, 1, .eq (pB false)), ([], 4, 3, .eq (pB true)), ([], 5, 3, .eq (pB true)), ([], 5, 7, .eq (pB false)), ([], 7, 3, .eq (pB false)), ([], 9, 2, .eq (pB true)), ([], 9, 8, .eq (pB true)), ([], 10, 4, .ret (pS r_17)), ([], 10, 5, .ret (pS r_18))]) (ex := .ret) (r := (.agg [(pI j.kind), (pI j.p), (pI (1 : Int)), (pI j.fd), (pI j.nF), (pI j.modeF), (pI j.tries), (pI j.atF), (pI j.flags), (pS j.path), (pS r_18), (pS j.text), (.list 1 false (j.names.map cS)), (.list 3 false (j.stack.map FrameD.c)), (.list 1 false (j.draws.map cI)), (pB j.done), (pI j.exit), (pS j.out), (pI j.e)])) (by kernel_rfl) rfl (by kernel_rfl) (allC (shiftWorks_ok (k + 2) j _ q1) (allC (cg q2) (allC (cg q3) (allC (cg q4) (allC (cg q5) (allC (cg q6) (allC (cg q7) (allC (cg q8) (allC (routeBase_ok (k + 3) j.path _ q9) (allC (routeJoin_ok k j.path2 r_17 _ q10) allN)))))))))) (by kernel_rfl) allN
                · obtain rfl := Option.some.inj h
                  exact ret_go (k := (k + 4)) Tryz.func14 Tryz.ntmps14 (by kernel_rfl) (by kernel_rfl) (lb rfl) (adv [([], 1, 1, .ret (.tup [(.agg [(pS r_3), (pS r_4), (.clo 55 [])]), (pB r_5)])), ([], 2, 1, .eq (pB false)), ([], 4, 3, .eq (pB true)), ([], 5, 3, .eq (pB true)), ([], 5, 7, .eq (pB false)), ([], 7, 3, .eq (pB false)), ([], 9, 2, .eq (pB true)), ([], 9, 8, .eq (pB false))]) (ex := .ret) (r := (.agg [(pI j.kind), (pI j.p), (pI (1 : Int)), (pI j.fd), (pI j.nF), (pI j.modeF), (pI j.tries), (pI j.atF), (pI j.flags), (pS j.path), (pS j.path2), (pS j.text), (.list 1 false (j.names.map cS)), (.list 3 false (j.stack.map FrameD.c)), (.list 1 false (j.draws.map cI)), (pB j.done), (pI j.exit), (pS j.out), (pI j.e)])) (by kernel_rfl) rfl (by kernel_rfl) (allC (shiftWorks_ok (k + 2) j _ q1) (allC (cg q2) (allC (cg q3) (allC (cg q4) (allC (cg q5) (allC (cg q6) (allC (cg q7) (allC (cg q8) allN)))))))) (by kernel_rfl) allN
              · obtain rfl := Option.some.inj h
                exact ret_go (k := (k + 4)) Tryz.func14 Tryz.ntmps14 (by kernel_rfl) (by kernel_rfl) (lb rfl) (adv [([], 1, 1, .ret (.tup [(.agg [(pS r_3), (pS r_4), (.clo 55 [])]), (pB r_5)])), ([], 2, 1, .eq (pB false)), ([], 4, 3, .eq (pB true)), ([], 5, 3, .eq (pB true)), ([], 5, 7, .eq (pB false)), ([], 7, 3, .eq (pB false)), ([], 9, 2, .eq (pB false))]) (ex := .ret) (r := (.agg [(pI j.kind), (pI j.p), (pI (1 : Int)), (pI j.fd), (pI j.nF), (pI j.modeF), (pI j.tries), (pI j.atF), (pI j.flags), (pS j.path), (pS j.path2), (pS j.text), (.list 1 false (j.names.map cS)), (.list 3 false (j.stack.map FrameD.c)), (.list 1 false (j.draws.map cI)), (pB j.done), (pI j.exit), (pS j.out), (pI j.e)])) (by kernel_rfl) rfl (by kernel_rfl) (allC (shiftWorks_ok (k + 2) j _ q1) (allC (cg q2) (allC (cg q3) (allC (cg q4) (allC (cg q5) (allC (cg q6) (allC (cg q7) allN))))))) (by kernel_rfl) allN
        · rcases bif_some h with ⟨q5, h⟩ | ⟨q5, h⟩
          · obtain ⟨r_17, q6, h⟩ := bnd_some h
            obtain rfl := Option.some.inj h
            exact ret_go (k := (k + 4)) Tryz.func14 Tryz.ntmps14 (by kernel_rfl) (by kernel_rfl) (lb rfl) (adv [([], 1, 1, .ret (.tup [(.agg [(pS r_3), (pS r_4), (.clo 55 [])]), (pB r_5)])), ([], 2, 1, .eq (pB false)), ([], 4, 3, .eq (pB true)), ([], 5, 3, .eq (pB false)), ([], 7, 3, .eq (pB true)), ([], 8, 1, .ret (JobD.a r_17))]) (ex := .ret) (r := (JobD.a r_17)) (by kernel_rfl) rfl (by kernel_rfl) (allC (shiftWorks_ok (k + 2) j _ q1) (allC (cg q2) (allC (cg q3) (allC (cg q4) (allC (cg q5) (allC (jobEnd_ok (k + 3) j (bs []) _ q6) allN)))))) (by kernel_rfl) allN
          · rcases bif_some h with ⟨q6, h⟩ | ⟨q6, h⟩
            · rcases bif_some h with ⟨q7, h⟩ | ⟨q7, h⟩
              · obtain ⟨r_17, q8, h⟩ := bnd_some h
                obtain ⟨r_18, q9, h⟩ := bnd_some h
                obtain rfl := Option.some.inj h
                exact ret_go (k := (k + 4)) Tryz.func14 Tryz.ntmps14 (by kernel_rfl) (by kernel_rfl) (lb rfl) (adv [([], 1, 1, .ret (.tup [(.agg [(pS r_3), (pS r_4), (.clo 55 [])]), (pB r_5)])), ([], 2, 1, .eq (pB false)), ([], 4, 3, .eq (pB true)), ([], 5, 3, .eq (pB false)), ([], 7, 3, .eq (pB false)), ([], 9, 2, .eq (pB true)), ([], 9, 8, .eq (pB true)), ([], 10, 4, .ret (pS r_17)), ([], 10, 5, .ret (pS r_18))]) (ex := .ret) (r := (.agg [(pI j.kind), (pI j.p), (pI (1 : Int)), (pI j.fd), (pI j.nF), (pI j.modeF), (pI j.tries), (pI j.atF), (pI j.flags), (pS j.path), (pS r_18), (pS j.text), (.list 1 false (j.names.map cS)), (.list 3 false (j.stack.map FrameD.c)), (.list 1 false (j.draws.map cI)), (pB j.done), (pI j.exit), (pS j.out), (pI j.e)])) (by kernel_rfl) rfl (by kernel_rfl) (allC (shiftWorks_ok (k + 2) j _ q1) (allC (cg q2) (allC (cg q3) (allC (cg q4) (allC (cg q5) (allC (cg q6) (allC (cg q7) (allC (routeBase_ok (k + 3) j.path _ q8) (allC (routeJoin_ok k j.path2 r_17 _ q9) allN))))))))) (by kernel_rfl) allN
              · obtain rfl := Option.some.inj h
                exact ret_go (k := (k + 4)) Tryz.func14 Tryz.ntmps14 (by kernel_rfl) (by kernel_rfl) (lb rfl) (adv [([], 1, 1, .ret (.tup [(.agg [(pS r_3), (pS r_4), (.clo 55 [])]), (pB r_5)])), ([], 2, 1, .eq (pB false)), ([], 4, 3, .eq (pB true)), ([], 5, 3, .eq (pB false)), ([], 7, 3, .eq (pB false)), ([], 9, 2, .eq (pB true)), ([], 9, 8, .eq (pB false))]) (ex := .ret) (r := (.agg [(pI j.kind), (pI j.p), (pI (1 : Int)), (pI j.fd), (pI j.nF), (pI j.modeF), (pI j.tries), (pI j.atF), (pI j.flags), (pS j.path), (pS j.path2), (pS j.text), (.list 1 false (j.names.map cS)), (.list 3 false (j.stack.map FrameD.c)), (.list 1 false (j.draws.map cI)), (pB j.done), (pI j.exit), (pS j.out), (pI j.e)])) (by kernel_rfl) rfl (by kernel_rfl) (allC (shiftWorks_ok (k + 2) j _ q1) (allC (cg q2) (allC (cg q3) (allC (cg q4) (allC (cg q5) (allC (cg q6) (allC (cg q7) allN))))))) (by kernel_rfl) allN
            · obtain rfl := Option.some.inj h
              exact ret_go (k := (k + 4)) Tryz.func14 Tryz.ntmps14 (by kernel_rfl) (by kernel_rfl) (lb rfl) (adv [([], 1, 1, .ret (.tup [(.agg [(pS r_3), (pS r_4), (.clo 55 [])]), (pB r_5)])), ([], 2, 1, .eq (pB false)), ([], 4, 3, .eq (pB true)), ([], 5, 3, .eq (pB false)), ([], 7, 3, .eq (pB false)), ([], 9, 2, .eq (pB false))]) (ex := .ret) (r := (.agg [(pI j.kind), (pI j.p), (pI (1 : Int)), (pI j.fd), (pI j.nF), (pI j.modeF), (pI j.tries), (pI j.atF), (pI j.flags), (pS j.path), (pS j.path2), (pS j.text), (.list 1 false (j.names.map cS)), (.list 3 false (j.stack.map FrameD.c)), (.list 1 false (j.draws.map cI)), (pB j.done), (pI j.exit), (pS j.out), (pI j.e)])) (by kernel_rfl) rfl (by kernel_rfl) (allC (shiftWorks_ok (k + 2) j _ q1) (allC (cg q2) (allC (cg q3) (allC (cg q4) (allC (cg q5) (allC (cg q6) allN)))))) (by kernel_rfl) allN
      · rcases bif_some h with ⟨q4, h⟩ | ⟨q4, h⟩
        · obtain ⟨r_17, q5, h⟩ := bnd_some h
          obtain rfl := Option.some.inj h
          exact ret_go (k := (k + 4)) Tryz.func14 Tryz.ntmps14 (by kernel_rfl) (by kernel_rfl) (lb rfl) (adv [([], 1, 1, .ret (.tup [(.agg [(pS r_3), (pS r_4), (.clo 55 [])]), (pB r_5)])), ([], 2, 1, .eq (pB false)), ([], 4, 3, .eq (pB false)), ([], 5, 3, .eq (pB true)), ([], 6, 5, .ret (JobD.a r_17))]) (ex := .ret) (r := (JobD.a r_17)) (by kernel_rfl) rfl (by kernel_rfl) (allC (shiftWorks_ok (k + 2) j _ q1) (allC (cg q2) (allC (cg q3) (allC (cg q4) (allC (jobFail_ok (k + 3) j j.path2 rF.e _ q5) allN))))) (by kernel_rfl) allN
        · rcases bif_some h with ⟨q5, h⟩ | ⟨q5, h⟩
          · obtain ⟨r_17, q6, h⟩ := bnd_some h
            obtain rfl := Option.some.inj h
            exact ret_go (k := (k + 4)) Tryz.func14 Tryz.ntmps14 (by kernel_rfl) (by kernel_rfl) (lb rfl) (adv [([], 1, 1, .ret (.tup [(.agg [(pS r_3), (pS r_4), (.clo 55 [])]), (pB r_5)])), ([], 2, 1, .eq (pB false)), ([], 4, 3, .eq (pB false)), ([], 5, 3, .eq (pB false)), ([], 7, 3, .eq (pB true)), ([], 8, 1, .ret (JobD.a r_17))]) (ex := .ret) (r := (JobD.a r_17)) (by kernel_rfl) rfl (by kernel_rfl) (allC (shiftWorks_ok (k + 2) j _ q1) (allC (cg q2) (allC (cg q3) (allC (cg q4) (allC (cg q5) (allC (jobEnd_ok (k + 3) j (bs []) _ q6) allN)))))) (by kernel_rfl) allN
          · rcases bif_some h with ⟨q6, h⟩ | ⟨q6, h⟩
            · obtain ⟨r_17, q7, h⟩ := bnd_some h
              obtain ⟨r_18, q8, h⟩ := bnd_some h
              obtain rfl := Option.some.inj h
              exact ret_go (k := (k + 4)) Tryz.func14 Tryz.ntmps14 (by kernel_rfl) (by kernel_rfl) (lb rfl) (adv [([], 1, 1, .ret (.tup [(.agg [(pS r_3), (pS r_4), (.clo 55 [])]), (pB r_5)])), ([], 2, 1, .eq (pB false)), ([], 4, 3, .eq (pB false)), ([], 5, 3, .eq (pB false)), ([], 7, 3, .eq (pB false)), ([], 9, 8, .eq (pB true)), ([], 10, 4, .ret (pS r_17)), ([], 10, 5, .ret (pS r_18))]) (ex := .ret) (r := (.agg [(pI j.kind), (pI j.p), (pI (1 : Int)), (pI j.fd), (pI j.nF), (pI j.modeF), (pI j.tries), (pI j.atF), (pI j.flags), (pS j.path), (pS r_18), (pS j.text), (.list 1 false (j.names.map cS)), (.list 3 false (j.stack.map FrameD.c)), (.list 1 false (j.draws.map cI)), (pB j.done), (pI j.exit), (pS j.out), (pI j.e)])) (by kernel_rfl) rfl (by kernel_rfl) (allC (shiftWorks_ok (k + 2) j _ q1) (allC (cg q2) (allC (cg q3) (allC (cg q4) (allC (cg q5) (allC (cg q6) (allC (routeBase_ok (k + 3) j.path _ q7) (allC (routeJoin_ok k j.path2 r_17 _ q8) allN)))))))) (by kernel_rfl) allN
            · obtain rfl := Option.some.inj h
              exact ret_go (k := (k + 4)) Tryz.func14 Tryz.ntmps14 (by kernel_rfl) (by kernel_rfl) (lb rfl) (adv [([], 1, 1, .ret (.tup [(.agg [(pS r_3), (pS r_4), (.clo 55 [])]), (pB r_5)])), ([], 2, 1, .eq (pB false)), ([], 4, 3, .eq (pB false)), ([], 5, 3, .eq (pB false)), ([], 7, 3, .eq (pB false)), ([], 9, 8, .eq (pB false))]) (ex := .ret) (r := (.agg [(pI j.kind), (pI j.p), (pI (1 : Int)), (pI j.fd), (pI j.nF), (pI j.modeF), (pI j.tries), (pI j.atF), (pI j.flags), (pS j.path), (pS j.path2), (pS j.text), (.list 1 false (j.names.map cS)), (.list 3 false (j.stack.map FrameD.c)), (.list 1 false (j.draws.map cI)), (pB j.done), (pI j.exit), (pS j.out), (pI j.e)])) (by kernel_rfl) rfl (by kernel_rfl) (allC (shiftWorks_ok (k + 2) j _ q1) (allC (cg q2) (allC (cg q3) (allC (cg q4) (allC (cg q5) (allC (cg q6) allN)))))) (by kernel_rfl) allN
  · try dsimp only at h
    obtain rfl := Option.some.inj h
    exact ret_go (k := (k + 4)) Tryz.func14 Tryz.ntmps14 (by kernel_rfl) (by kernel_rfl) (lb rfl) (adv [([], 1, 1, .ret (.tup [(.agg [(pS r_6), (pS r_7), (.clo 55 [])]), (pB false)]))]) (ex := .ret) (r := (JobD.a j)) (by kernel_rfl) rfl (by kernel_rfl) (allC (shiftWorks_ok (k + 2) j _ q1) allN) (by kernel_rfl) allN
  · try dsimp only at h
    rcases bif_some h with ⟨q2, h⟩ | ⟨q2, h⟩
    · rcases bif_some h with ⟨q3, h⟩ | ⟨q3, h⟩
      · rcases bif_some h with ⟨q4, h⟩ | ⟨q4, h⟩
        · obtain ⟨r_17, q5, h⟩ := bnd_some h
          obtain rfl := Option.some.inj h
          exact ret_go (k := (k + 4)) Tryz.func14 Tryz.ntmps14 (by kernel_rfl) (by kernel_rfl) (lb rfl) (adv [([], 1, 1, .ret (.tup [(.agg [(pS r_8), (pS r_9), (.clo 56 [])]), (pB true)])), ([], 4, 3, .eq (pB true)), ([], 5, 3, .eq (pB true)), ([], 5, 7, .eq (pB true)), ([], 6, 5, .ret (JobD.a r_17))]) (ex := .ret) (r := (JobD.a r_17)) (by kernel_rfl) rfl (by kernel_rfl) (allC (shiftWorks_ok (k + 2) j _ q1) (allC (cg q2) (allC (cg q3) (allC (cg q4) (allC (jobFail_ok (k + 3) j j.path2 rF.e _ q5) allN))))) (by kernel_rfl) allN
        · rcases bif_some h with ⟨q5, h⟩ | ⟨q5, h⟩
          · obtain ⟨r_17, q6, h⟩ := bnd_some h
            obtain rfl := Option.some.inj h
            exact ret_go (k := (k + 4)) Tryz.func14 Tryz.ntmps14 (by kernel_rfl) (by kernel_rfl) (lb rfl) (adv [([], 1, 1, .ret (.tup [(.agg [(pS r_8), (pS r_9), (.clo 56 [])]), (pB true)])), ([], 4, 3, .eq (pB true)), ([], 5, 3, .eq (pB true)), ([], 5, 7, .eq (pB false)), ([], 7, 3, .eq (pB true)), ([], 8, 1, .ret (JobD.a r_17))]) (ex := .ret) (r := (JobD.a r_17)) (by kernel_rfl) rfl (by kernel_rfl) (allC (shiftWorks_ok (k + 2) j _ q1) (allC (cg q2) (allC (cg q3) (allC (cg q4) (allC (cg q5) (allC (jobEnd_ok (k + 3) j (bs []) _ q6) allN)))))) (by kernel_rfl) allN
          · rcases bif_some h with ⟨q6, h⟩ | ⟨q6, h⟩
            · rcases bif_some h with ⟨q7, h⟩ | ⟨q7, h⟩
              · obtain ⟨r_17, q8, h⟩ := bnd_some h
                obtain ⟨r_18, q9, h⟩ := bnd_some h
                obtain rfl := Option.some.inj h
                exact ret_go (k := (k + 4)) Tryz.func14 Tryz.ntmps14 (by kernel_rfl) (by kernel_rfl) (lb rfl) (adv [([], 1, 1, .ret (.tup [(.agg [(pS r_8), (pS r_9), (.clo 56 [])]), (pB true)])), ([], 4, 3, .eq (pB true)), ([], 5, 3, .eq (pB true)), ([], 5, 7, .eq (pB false)), ([], 7, 3, .eq (pB false)), ([], 9, 2, .eq (pB true)), ([], 9, 8, .eq (pB true)), ([], 10, 4, .ret (pS r_17)), ([], 10, 5, .ret (pS r_18))]) (ex := .ret) (r := (.agg [(pI j.kind), (pI j.p), (pI (1 : Int)), (pI j.fd), (pI j.nF), (pI j.modeF), (pI j.tries), (pI j.atF), (pI j.flags), (pS j.path), (pS r_18), (pS j.text), (.list 1 false (j.names.map cS)), (.list 3 false (j.stack.map FrameD.c)), (.list 1 false (j.draws.map cI)), (pB j.done), (pI j.exit), (pS j.out), (pI j.e)])) (by kernel_rfl) rfl (by kernel_rfl) (allC (shiftWorks_ok (k + 2) j _ q1) (allC (cg q2) (allC (cg q3) (allC (cg q4) (allC (cg q5) (allC (cg q6) (allC (cg q7) (allC (routeBase_ok (k + 3) j.path _ q8) (allC (routeJoin_ok k j.path2 r_17 _ q9) allN))))))))) (by kernel_rfl) allN
              · obtain rfl := Option.some.inj h
                exact ret_go (k := (k + 4)) Tryz.func14 Tryz.ntmps14 (by kernel_rfl) (by kernel_rfl) (lb rfl) (adv [([], 1, 1, .ret (.tup [(.agg [(pS r_8), (pS r_9), (.clo 56 [])]), (pB true)])), ([], 4, 3, .eq (pB true)), ([], 5, 3, .eq (pB true)), ([], 5, 7, .eq (pB false)), ([], 7, 3, .eq (pB false)), ([], 9, 2, .eq (pB true)), ([], 9, 8, .eq (pB false))]) (ex := .ret) (r := (.agg [(pI j.kind), (pI j.p), (pI (1 : Int)), (pI j.fd), (pI j.nF), (pI j.modeF), (pI j.tries), (pI j.atF), (pI j.flags), (pS j.path), (pS j.path2), (pS j.text), (.list 1 false (j.names.map cS)), (.list 3 false (j.stack.map FrameD.c)), (.list 1 false (j.draws.map cI)), (pB j.done), (pI j.exit), (pS j.out), (pI j.e)])) (by kernel_rfl) rfl (by kernel_rfl) (allC (shiftWorks_ok (k + 2) j _ q1) (allC (cg q2) (allC (cg q3) (allC (cg q4) (allC (cg q5) (allC (cg q6) (allC (cg q7) allN))))))) (by kernel_rfl) allN
            · obtain rfl := Option.some.inj h
              exact ret_go (k := (k + 4)) Tryz.func14 Tryz.ntmps14 (by kernel_rfl) (by kernel_rfl) (lb rfl) (adv [([], 1, 1, .ret (.tup [(.agg [(pS r_8), (pS r_9), (.clo 56 [])]), (pB true)])), ([], 4, 3, .eq (pB true)), ([], 5, 3, .eq (pB true)), ([], 5, 7, .eq (pB false)), ([], 7, 3, .eq (pB false)), ([], 9, 2, .eq (pB false))]) (ex := .ret) (r := (.agg [(pI j.kind), (pI j.p), (pI (1 : Int)), (pI j.fd), (pI j.nF), (pI j.modeF), (pI j.tries), (pI j.atF), (pI j.flags), (pS j.path), (pS j.path2), (pS j.text), (.list 1 false (j.names.map cS)), (.list 3 false (j.stack.map FrameD.c)), (.list 1 false (j.draws.map cI)), (pB j.done), (pI j.exit), (pS j.out), (pI j.e)])) (by kernel_rfl) rfl (by kernel_rfl) (allC (shiftWorks_ok (k + 2) j _ q1) (allC (cg q2) (allC (cg q3) (allC (cg q4) (allC (cg q5) (allC (cg q6) allN)))))) (by kernel_rfl) allN
      · rcases bif_some h with ⟨q4, h⟩ | ⟨q4, h⟩
        · obtain ⟨r_17, q5, h⟩ := bnd_some h
          obtain rfl := Option.some.inj h
          exact ret_go (k := (k + 4)) Tryz.func14 Tryz.ntmps14 (by kernel_rfl) (by kernel_rfl) (lb rfl) (adv [([], 1, 1, .ret (.tup [(.agg [(pS r_8), (pS r_9), (.clo 56 [])]), (pB true)])), ([], 4, 3, .eq (pB true)), ([], 5, 3, .eq (pB false)), ([], 7, 3, .eq (pB true)), ([], 8, 1, .ret (JobD.a r_17))]) (ex := .ret) (r := (JobD.a r_17)) (by kernel_rfl) rfl (by kernel_rfl) (allC (shiftWorks_ok (k + 2) j _ q1) (allC (cg q2) (allC (cg q3) (allC (cg q4) (allC (jobEnd_ok (k + 3) j (bs []) _ q5) allN))))) (by kernel_rfl) allN
        · rcases bif_some h with ⟨q5, h⟩ | ⟨q5, h⟩
          · rcases bif_some h with ⟨q6, h⟩ | ⟨q6, h⟩
            · obtain ⟨r_17, q7, h⟩ := bnd_some h
              obtain ⟨r_18, q8, h⟩ := bnd_some h
              obtain rfl := Option.some.inj h
              exact ret_go (k := (k + 4)) Tryz.func14 Tryz.ntmps14 (by kernel_rfl) (by kernel_rfl) (lb rfl) (adv [([], 1, 1, .ret (.tup [(.agg [(pS r_8), (pS r_9), (.clo 56 [])]), (pB true)])), ([], 4, 3, .eq (pB true)), ([], 5, 3, .eq (pB false)), ([], 7, 3, .eq (pB false)), ([], 9, 2, .eq (pB true)), ([], 9, 8, .eq (pB true)), ([], 10, 4, .ret (pS r_17)), ([], 10, 5, .ret (pS r_18))]) (ex := .ret) (r := (.agg [(pI j.kind), (pI j.p), (pI (1 : Int)), (pI j.fd), (pI j.nF), (pI j.modeF), (pI j.tries), (pI j.atF), (pI j.flags), (pS j.path), (pS r_18), (pS j.text), (.list 1 false (j.names.map cS)), (.list 3 false (j.stack.map FrameD.c)), (.list 1 false (j.draws.map cI)), (pB j.done), (pI j.exit), (pS j.out), (pI j.e)])) (by kernel_rfl) rfl (by kernel_rfl) (allC (shiftWorks_ok (k + 2) j _ q1) (allC (cg q2) (allC (cg q3) (allC (cg q4) (allC (cg q5) (allC (cg q6) (allC (routeBase_ok (k + 3) j.path _ q7) (allC (routeJoin_ok k j.path2 r_17 _ q8) allN)))))))) (by kernel_rfl) allN
            · obtain rfl := Option.some.inj h
              exact ret_go (k := (k + 4)) Tryz.func14 Tryz.ntmps14 (by kernel_rfl) (by kernel_rfl) (lb rfl) (adv [([], 1, 1, .ret (.tup [(.agg [(pS r_8), (pS r_9), (.clo 56 [])]), (pB true)])), ([], 4, 3, .eq (pB true)), ([], 5, 3, .eq (pB false)), ([], 7, 3, .eq (pB false)), ([], 9, 2, .eq (pB true)), ([], 9, 8, .eq (pB false))]) (ex := .ret) (r := (.agg [(pI j.kind), (pI j.p), (pI (1 : Int)), (pI j.fd), (pI j.nF), (pI j.modeF), (pI j.tries), (pI j.atF), (pI j.flags), (pS j.path), (pS j.path2), (pS j.text), (.list 1 false (j.names.map cS)), (.list 3 false (j.stack.map FrameD.c)), (.list 1 false (j.draws.map cI)), (pB j.done), (pI j.exit), (pS j.out), (pI j.e)])) (by kernel_rfl) rfl (by kernel_rfl) (allC (shiftWorks_ok (k + 2) j _ q1) (allC (cg q2) (allC (cg q3) (allC (cg q4) (allC (cg q5) (allC (cg q6) allN)))))) (by kernel_rfl) allN
          · obtain rfl := Option.some.inj h
            exact ret_go (k := (k + 4)) Tryz.func14 Tryz.ntmps14 (by kernel_rfl) (by kernel_rfl) (lb rfl) (adv [([], 1, 1, .ret (.tup [(.agg [(pS r_8), (pS r_9), (.clo 56 [])]), (pB true)])), ([], 4, 3, .eq (pB true)), ([], 5, 3, .eq (pB false)), ([], 7, 3, .eq (pB false)), ([], 9, 2, .eq (pB false))]) (ex := .ret) (r := (.agg [(pI j.kind), (pI j.p), (pI (1 : Int)), (pI j.fd), (pI j.nF), (pI j.modeF), (pI j.tries), (pI j.atF), (pI j.flags), (pS j.path), (pS j.path2), (pS j.text), (.list 1 false (j.names.map cS)), (.list 3 false (j.stack.map FrameD.c)), (.list 1 false (j.draws.map cI)), (pB j.done), (pI j.exit), (pS j.out), (pI j.e)])) (by kernel_rfl) rfl (by kernel_rfl) (allC (shiftWorks_ok (k + 2) j _ q1) (allC (cg q2) (allC (cg q3) (allC (cg q4) (allC (cg q5) allN))))) (by kernel_rfl) allN
    · rcases bif_some h with ⟨q3, h⟩ | ⟨q3, h⟩
      · obtain ⟨r_17, q4, h⟩ := bnd_some h
        obtain rfl := Option.some.inj h
        exact ret_go (k := (k + 4)) Tryz.func14 Tryz.ntmps14 (by kernel_rfl) (by kernel_rfl) (lb rfl) (adv [([], 1, 1, .ret (.tup [(.agg [(pS r_8), (pS r_9), (.clo 56 [])]), (pB true)])), ([], 4, 3, .eq (pB false)), ([], 5, 3, .eq (pB true)), ([], 6, 5, .ret (JobD.a r_17))]) (ex := .ret) (r := (JobD.a r_17)) (by kernel_rfl) rfl (by kernel_rfl) (allC (shiftWorks_ok (k + 2) j _ q1) (allC (cg q2) (allC (cg q3) (allC (jobFail_ok (k + 3) j j.path2 rF.e _ q4) allN)))) (by kernel_rfl) allN
      · rcases bif_some h with ⟨q4, h⟩ | ⟨q4, h⟩
        · obtain ⟨r_17, q5, h⟩ := bnd_some h
          obtain rfl := Option.some.inj h
          exact ret_go (k := (k + 4)) Tryz.func14 Tryz.ntmps14 (by kernel_rfl) (by kernel_rfl) (lb rfl) (adv [([], 1, 1, .ret (.tup [(.agg [(pS r_8), (pS r_9), (.clo 56 [])]), (pB true)])), ([], 4, 3, .eq (pB false)), ([], 5, 3, .eq (pB false)), ([], 7, 3, .eq (pB true)), ([], 8, 1, .ret (JobD.a r_17))]) (ex := .ret) (r := (JobD.a r_17)) (by kernel_rfl) rfl (by kernel_rfl) (allC (shiftWorks_ok (k + 2) j _ q1) (allC (cg q2) (allC (cg q3) (allC (cg q4) (allC (jobEnd_ok (k + 3) j (bs []) _ q5) allN))))) (by kernel_rfl) allN
        · rcases bif_some h with ⟨q5, h⟩ | ⟨q5, h⟩
          · obtain ⟨r_17, q6, h⟩ := bnd_some h
            obtain ⟨r_18, q7, h⟩ := bnd_some h
            obtain rfl := Option.some.inj h
            exact ret_go (k := (k + 4)) Tryz.func14 Tryz.ntmps14 (by kernel_rfl) (by kernel_rfl) (lb rfl) (adv [([], 1, 1, .ret (.tup [(.agg [(pS r_8), (pS r_9), (.clo 56 [])]), (pB true)])), ([], 4, 3, .eq (pB false)), ([], 5, 3, .eq (pB false)), ([], 7, 3, .eq (pB false)), ([], 9, 8, .eq (pB true)), ([], 10, 4, .ret (pS r_17)), ([], 10, 5, .ret (pS r_18))]) (ex := .ret) (r := (.agg [(pI j.kind), (pI j.p), (pI (1 : Int)), (pI j.fd), (pI j.nF), (pI j.modeF), (pI j.tries), (pI j.atF), (pI j.flags), (pS j.path), (pS r_18), (pS j.text), (.list 1 false (j.names.map cS)), (.list 3 false (j.stack.map FrameD.c)), (.list 1 false (j.draws.map cI)), (pB j.done), (pI j.exit), (pS j.out), (pI j.e)])) (by kernel_rfl) rfl (by kernel_rfl) (allC (shiftWorks_ok (k + 2) j _ q1) (allC (cg q2) (allC (cg q3) (allC (cg q4) (allC (cg q5) (allC (routeBase_ok (k + 3) j.path _ q6) (allC (routeJoin_ok k j.path2 r_17 _ q7) allN))))))) (by kernel_rfl) allN
          · obtain rfl := Option.some.inj h
            exact ret_go (k := (k + 4)) Tryz.func14 Tryz.ntmps14 (by kernel_rfl) (by kernel_rfl) (lb rfl) (adv [([], 1, 1, .ret (.tup [(.agg [(pS r_8), (pS r_9), (.clo 56 [])]), (pB true)])), ([], 4, 3, .eq (pB false)), ([], 5, 3, .eq (pB false)), ([], 7, 3, .eq (pB false)), ([], 9, 8, .eq (pB false))]) (ex := .ret) (r := (.agg [(pI j.kind), (pI j.p), (pI (1 : Int)), (pI j.fd), (pI j.nF), (pI j.modeF), (pI j.tries), (pI j.atF), (pI j.flags), (pS j.path), (pS j.path2), (pS j.text), (.list 1 false (j.names.map cS)), (.list 3 false (j.stack.map FrameD.c)), (.list 1 false (j.draws.map cI)), (pB j.done), (pI j.exit), (pS j.out), (pI j.e)])) (by kernel_rfl) rfl (by kernel_rfl) (allC (shiftWorks_ok (k + 2) j _ q1) (allC (cg q2) (allC (cg q3) (allC (cg q4) (allC (cg q5) allN))))) (by kernel_rfl) allN
  · try dsimp only at h
    rcases bif_some h with ⟨q2, h⟩ | ⟨q2, h⟩
    · obtain rfl := Option.some.inj h
      exact ret_go (k := (k + 4)) Tryz.func14 Tryz.ntmps14 (by kernel_rfl) (by kernel_rfl) (lb rfl) (adv [([], 1, 1, .ret (.tup [(.agg [(pS r_10), (pS r_11), (.clo 56 [])]), (pB r_12)])), ([], 2, 1, .eq (pB true))]) (ex := .ret) (r := (JobD.a j)) (by kernel_rfl) rfl (by kernel_rfl) (allC (shiftWorks_ok (k + 2) j _ q1) (allC (cg q2) allN)) (by kernel_rfl) allN
    · rcases bif_some h with ⟨q3, h⟩ | ⟨q3, h⟩
      · rcases bif_some h with ⟨q4, h⟩ | ⟨q4, h⟩
        · rcases bif_some h with ⟨q5, h⟩ | ⟨q5, h⟩
          · obtain ⟨r_17, q6, h⟩ := bnd_some h
            obtain rfl := Option.some.inj h
            exact ret_go (k := (k + 4)) Tryz.func14 Tryz.ntmps14 (by kernel_rfl) (by kernel_rfl) (lb rfl) (adv [([], 1, 1, .ret (.tup [(.agg [(pS r_10), (pS r_11), (.clo 56 [])]), (pB r_12)])), ([], 2, 1, .eq (pB false)), ([], 4, 3, .eq (pB true)), ([], 5, 3, .eq (pB true)), ([], 5, 7, .eq (pB true)), ([], 6, 5, .ret (JobD.a r_17))]) (ex := .ret) (r := (JobD.a r_17)) (by kernel_rfl) rfl (by kernel_rfl) (allC (shiftWorks_ok (k + 2) j _ q1) (allC (cg q2) (allC (cg q3) (allC (cg q4) (allC (cg q5) (allC (jobFail_ok (k + 3) j j.path2 rF.e _ q6) allN)))))) (by kernel_rfl) allN
          · rcases bif_some h with ⟨q6, h⟩ | ⟨q6, h⟩
            · obtain ⟨r_17, q7, h⟩ := bnd_some h
              obtain rfl := Option.some.inj h
              exact ret_go (k := (k + 4)) Tryz.func14 Tryz.ntmps14 (by kernel_rfl) (by kernel_rfl) (lb rfl) (adv [([], 1, 1, .ret (.tup [(.agg [(pS r_10), (pS r_11), (.clo 56 [])]), (pB r_12)])), ([], 2, 1, .eq (pB false)), ([], 4, 3, .eq (pB true)), ([], 5, 3, .eq (pB true)), ([], 5, 7, .eq (pB false)), ([], 7, 3, .eq (pB true)), ([], 8, 1, .ret (JobD.a r_17))]) (ex := .ret) (r := (JobD.a r_17)) (by kernel_rfl) rfl (by kernel_rfl) (allC (shiftWorks_ok (k + 2) j _ q1) (allC (cg q2) (allC (cg q3) (allC (cg q4) (allC (cg q5) (allC (cg q6) (allC (jobEnd_ok (k + 3) j (bs []) _ q7) allN))))))) (by kernel_rfl) allN
            · rcases bif_some h with ⟨q7, h⟩ | ⟨q7, h⟩
              · rcases bif_some h with ⟨q8, h⟩ | ⟨q8, h⟩
                · obtain ⟨r_17, q9, h⟩ := bnd_some h
                  obtain ⟨r_18, q10, h⟩ := bnd_some h
                  obtain rfl := Option.some.inj h
                  exact ret_go (k := (k + 4)) Tryz.func14 Tryz.ntmps14 (by kernel_rfl) (by kernel_rfl) (lb rfl) (adv [([], 1, 1, .ret (.tup [(.agg [(pS r_10), (pS r_11), (.clo 56 [])]), (pB r_12)])), ([], 2, 1, .eq (pB false)), ([], 4, 3, .eq (pB true)), ([], 5, 3, .eq (pB true)), ([], 5, 7, .eq (pB false)), ([], 7, 3, .eq (pB false)), ([], 9, 2, .eq (pB true)), ([], 9, 8, .eq (pB true)), ([], 10, 4, .ret (pS r_17)), ([], 10, 5, .ret (pS r_18))]) (ex := .ret) (r := (.agg [(pI j.kind), (pI j.p), (pI (1 : Int)), (pI j.fd), (pI j.nF), (pI j.modeF), (pI j.tries), (pI j.atF), (pI j.flags), (pS j.path), (pS r_18), (pS j.text), (.list 1 false (j.names.map cS)), (.list 3 false (j.stack.map FrameD.c)), (.list 1 false (j.draws.map cI)), (pB j.done), (pI j.exit), (pS j.out), (pI j.e)])) (by kernel_rfl) rfl (by kernel_rfl) (allC (shiftWorks_ok (k + 2) j _ q1) (allC (cg q2) (allC (cg q3) (allC (cg q4) (allC (cg q5) (allC (cg q6) (allC (cg q7) (allC (cg q8) (allC (routeBase_ok (k + 3) j.path _ q9) (allC (routeJoin_ok k j.path2 r_17 _ q10) allN)))))))))) (by kernel_rfl) allN
                · obtain rfl := Option.some.inj h
                  exact ret_go (k := (k + 4)) Tryz.func14 Tryz.ntmps14 (by kernel_rfl) (by kernel_rfl) (lb rfl) (adv [([], 1, 1, .ret (.tup [(.agg [(pS r_10), (pS r_11), (.clo 56 [])]), (pB r_12)])), ([], 2, 1, .eq (pB false)), ([], 4, 3, .eq (pB true)), ([], 5, 3, .eq (pB true)), ([], 5, 7, .eq (pB false)), ([], 7, 3, .eq (pB false)), ([], 9, 2, .eq (pB true)), ([], 9, 8, .eq (pB false))]) (ex := .ret) (r := (.agg [(pI j.kind), (pI j.p), (pI (1 : Int)), (pI j.fd), (pI j.nF), (pI j.modeF), (pI j.tries), (pI j.atF), (pI j.flags), (pS j.path), (pS j.path2), (pS j.text), (.list 1 false (j.names.map cS)), (.list 3 false (j.stack.map FrameD.c)), (.list 1 false (j.draws.map cI)), (pB j.done), (pI j.exit), (pS j.out), (pI j.e)])) (by kernel_rfl) rfl (by kernel_rfl) (allC (shiftWorks_ok (k + 2) j _ q1) (allC (cg q2) (allC (cg q3) (allC (cg q4) (allC (cg q5) (allC (cg q6) (allC (cg q7) (allC (cg q8) allN)))))))) (by kernel_rfl) allN
              · obtain rfl := Option.some.inj h
                exact ret_go (k := (k + 4)) Tryz.func14 Tryz.ntmps14 (by kernel_rfl) (by kernel_rfl) (lb rfl) (adv [([], 1, 1, .ret (.tup [(.agg [(pS r_10), (pS r_11), (.clo 56 [])]), (pB r_12)])), ([], 2, 1, .eq (pB false)), ([], 4, 3, .eq (pB true)), ([], 5, 3, .eq (pB true)), ([], 5, 7, .eq (pB false)), ([], 7, 3, .eq (pB false)), ([], 9, 2, .eq (pB false))]) (ex := .ret) (r := (.agg [(pI j.kind), (pI j.p), (pI (1 : Int)), (pI j.fd), (pI j.nF), (pI j.modeF), (pI j.tries), (pI j.atF), (pI j.flags), (pS j.path), (pS j.path2), (pS j.text), (.list 1 false (j.names.map cS)), (.list 3 false (j.stack.map FrameD.c)), (.list 1 false (j.draws.map cI)), (pB j.done), (pI j.exit), (pS j.out), (pI j.e)])) (by kernel_rfl) rfl (by kernel_rfl) (allC (shiftWorks_ok (k + 2) j _ q1) (allC (cg q2) (allC (cg q3) (allC (cg q4) (allC (cg q5) (allC (cg q6) (allC (cg q7) allN))))))) (by kernel_rfl) allN
        · rcases bif_some h with ⟨q5, h⟩ | ⟨q5, h⟩
          · obtain ⟨r_17, q6, h⟩ := bnd_some h
            obtain rfl := Option.some.inj h
            exact ret_go (k := (k + 4)) Tryz.func14 Tryz.ntmps14 (by kernel_rfl) (by kernel_rfl) (lb rfl) (adv [([], 1, 1, .ret (.tup [(.agg [(pS r_10), (pS r_11), (.clo 56 [])]), (pB r_12)])), ([], 2, 1, .eq (pB false)), ([], 4, 3, .eq (pB true)), ([], 5, 3, .eq (pB false)), ([], 7, 3, .eq (pB true)), ([], 8, 1, .ret (JobD.a r_17))]) (ex := .ret) (r := (JobD.a r_17)) (by kernel_rfl) rfl (by kernel_rfl) (allC (shiftWorks_ok (k + 2) j _ q1) (allC (cg q2) (allC (cg q3) (allC (cg q4) (allC (cg q5) (allC (jobEnd_ok (k + 3) j (bs []) _ q6) allN)))))) (by kernel_rfl) allN
          · rcases bif_some h with ⟨q6, h⟩ | ⟨q6, h⟩
            · rcases bif_some h with ⟨q7, h⟩ | ⟨q7, h⟩
              · obtain ⟨r_17, q8, h⟩ := bnd_some h
                obtain ⟨r_18, q9, h⟩ := bnd_some h
                obtain rfl := Option.some.inj h
                exact ret_go (k := (k + 4)) Tryz.func14 Tryz.ntmps14 (by kernel_rfl) (by kernel_rfl) (lb rfl) (adv [([], 1, 1, .ret (.tup [(.agg [(pS r_10), (pS r_11), (.clo 56 [])]), (pB r_12)])), ([], 2, 1, .eq (pB false)), ([], 4, 3, .eq (pB true)), ([], 5, 3, .eq (pB false)), ([], 7, 3, .eq (pB false)), ([], 9, 2, .eq (pB true)), ([], 9, 8, .eq (pB true)), ([], 10, 4, .ret (pS r_17)), ([], 10, 5, .ret (pS r_18))]) (ex := .ret) (r := (.agg [(pI j.kind), (pI j.p), (pI (1 : Int)), (pI j.fd), (pI j.nF), (pI j.modeF), (pI j.tries), (pI j.atF), (pI j.flags), (pS j.path), (pS r_18), (pS j.text), (.list 1 false (j.names.map cS)), (.list 3 false (j.stack.map FrameD.c)), (.list 1 false (j.draws.map cI)), (pB j.done), (pI j.exit), (pS j.out), (pI j.e)])) (by kernel_rfl) rfl (by kernel_rfl) (allC (shiftWorks_ok (k + 2) j _ q1) (allC (cg q2) (allC (cg q3) (allC (cg q4) (allC (cg q5) (allC (cg q6) (allC (cg q7) (allC (routeBase_ok (k + 3) j.path _ q8) (allC (routeJoin_ok k j.path2 r_17 _ q9) allN))))))))) (by kernel_rfl) allN
              · obtain rfl := Option.some.inj h
                exact ret_go (k := (k + 4)) Tryz.func14 Tryz.ntmps14 (by kernel_rfl) (by kernel_rfl) (lb rfl) (adv [([], 1, 1, .ret (.tup [(.agg [(pS r_10), (pS r_11), (.clo 56 [])]), (pB r_12)])), ([], 2, 1, .eq (pB false)), ([], 4, 3, .eq (pB true)), ([], 5, 3, .eq (pB false)), ([], 7, 3, .eq (pB false)), ([], 9, 2, .eq (pB true)), ([], 9, 8, .eq (pB false))]) (ex := .ret) (r := (.agg [(pI j.kind), (pI j.p), (pI (1 : Int)), (pI j.fd), (pI j.nF), (pI j.modeF), (pI j.tries), (pI j.atF), (pI j.flags), (pS j.path), (pS j.path2), (pS j.text), (.list 1 false (j.names.map cS)), (.list 3 false (j.stack.map FrameD.c)), (.list 1 false (j.draws.map cI)), (pB j.done), (pI j.exit), (pS j.out), (pI j.e)])) (by kernel_rfl) rfl (by kernel_rfl) (allC (shiftWorks_ok (k + 2) j _ q1) (allC (cg q2) (allC (cg q3) (allC (cg q4) (allC (cg q5) (allC (cg q6) (allC (cg q7) allN))))))) (by kernel_rfl) allN
            · obtain rfl := Option.some.inj h
              exact ret_go (k := (k + 4)) Tryz.func14 Tryz.ntmps14 (by kernel_rfl) (by kernel_rfl) (lb rfl) (adv [([], 1, 1, .ret (.tup [(.agg [(pS r_10), (pS r_11), (.clo 56 [])]), (pB r_12)])), ([], 2, 1, .eq (pB false)), ([], 4, 3, .eq (pB true)), ([], 5, 3, .eq (pB false)), ([], 7, 3, .eq (pB false)), ([], 9, 2, .eq (pB false))]) (ex := .ret) (r := (.agg [(pI j.kind), (pI j.p), (pI (1 : Int)), (pI j.fd), (pI j.nF), (pI j.modeF), (pI j.tries), (pI j.atF), (pI j.flags), (pS j.path), (pS j.path2), (pS j.text), (.list 1 false (j.names.map cS)), (.list 3 false (j.stack.map FrameD.c)), (.list 1 false (j.draws.map cI)), (pB j.done), (pI j.exit), (pS j.out), (pI j.e)])) (by kernel_rfl) rfl (by kernel_rfl) (allC (shiftWorks_ok (k + 2) j _ q1) (allC (cg q2) (allC (cg q3) (allC (cg q4) (allC (cg q5) (allC (cg q6) allN)))))) (by kernel_rfl) allN
      · rcases bif_some h with ⟨q4, h⟩ | ⟨q4, h⟩
        · obtain ⟨r_17, q5, h⟩ := bnd_some h
          obtain rfl := Option.some.inj h
          exact ret_go (k := (k + 4)) Tryz.func14 Tryz.ntmps14 (by kernel_rfl) (by kernel_rfl) (lb rfl) (adv [([], 1, 1, .ret (.tup [(.agg [(pS r_10), (pS r_11), (.clo 56 [])]), (pB r_12)])), ([], 2, 1, .eq (pB false)), ([], 4, 3, .eq (pB false)), ([], 5, 3, .eq (pB true)), ([], 6, 5, .ret (JobD.a r_17))]) (ex := .ret) (r := (JobD.a r_17)) (by kernel_rfl) rfl (by kernel_rfl) (allC (shiftWorks_ok (k + 2) j _ q1) (allC (cg q2) (allC (cg q3) (allC (cg q4) (allC (jobFail_ok (k + 3) j j.path2 rF.e _ q5) allN))))) (by kernel_rfl) allN
        · rcases bif_some h with ⟨q5, h⟩ | ⟨q5, h⟩
          · obtain ⟨r_17, q6, h⟩ := bnd_some h
            obtain rfl := Option.some.inj h
            exact ret_go (k := (k + 4)) Tryz.func14 Tryz.ntmps14 (by kernel_rfl) (by kernel_rfl) (lb rfl) (adv [([], 1, 1, .ret (.tup [(.agg [(pS r_10), (pS r_11), (.clo 56 [])]), (pB r_12)])), ([], 2, 1, .eq (pB false)), ([], 4, 3, .eq (pB false)), ([], 5, 3, .eq (pB false)), ([], 7, 3, .eq (pB true)), ([], 8, 1, .ret (JobD.a r_17))]) (ex := .ret) (r := (JobD.a r_17)) (by kernel_rfl) rfl (by kernel_rfl) (allC (shiftWorks_ok (k + 2) j _ q1) (allC (cg q2) (allC (cg q3) (allC (cg q4) (allC (cg q5) (allC (jobEnd_ok (k + 3) j (bs []) _ q6) allN)))))) (by kernel_rfl) allN
          · rcases bif_some h with ⟨q6, h⟩ | ⟨q6, h⟩
            · obtain ⟨r_17, q7, h⟩ := bnd_some h
              obtain ⟨r_18, q8, h⟩ := bnd_some h
              obtain rfl := Option.some.inj h
              exact ret_go (k := (k + 4)) Tryz.func14 Tryz.ntmps14 (by kernel_rfl) (by kernel_rfl) (lb rfl) (adv [([], 1, 1, .ret (.tup [(.agg [(pS r_10), (pS r_11), (.clo 56 [])]), (pB r_12)])), ([], 2, 1, .eq (pB false)), ([], 4, 3, .eq (pB false)), ([], 5, 3, .eq (pB false)), ([], 7, 3, .eq (pB false)), ([], 9, 8, .eq (pB true)), ([], 10, 4, .ret (pS r_17)), ([], 10, 5, .ret (pS r_18))]) (ex := .ret) (r := (.agg [(pI j.kind), (pI j.p), (pI (1 : Int)), (pI j.fd), (pI j.nF), (pI j.modeF), (pI j.tries), (pI j.atF), (pI j.flags), (pS j.path), (pS r_18), (pS j.text), (.list 1 false (j.names.map cS)), (.list 3 false (j.stack.map FrameD.c)), (.list 1 false (j.draws.map cI)), (pB j.done), (pI j.exit), (pS j.out), (pI j.e)])) (by kernel_rfl) rfl (by kernel_rfl) (allC (shiftWorks_ok (k + 2) j _ q1) (allC (cg q2) (allC (cg q3) (allC (cg q4) (allC (cg q5) (allC (cg q6) (allC (routeBase_ok (k + 3) j.path _ q7) (allC (routeJoin_ok k j.path2 r_17 _ q8) allN)))))))) (by kernel_rfl) allN
            · obtain rfl := Option.some.inj h
              exact ret_go (k := (k + 4)) Tryz.func14 Tryz.ntmps14 (by kernel_rfl) (by kernel_rfl) (lb rfl) (adv [([], 1, 1, .ret (.tup [(.agg [(pS r_10), (pS r_11), (.clo 56 [])]), (pB r_12)])), ([], 2, 1, .eq (pB false)), ([], 4, 3, .eq (pB false)), ([], 5, 3, .eq (pB false)), ([], 7, 3, .eq (pB false)), ([], 9, 8, .eq (pB false))]) (ex := .ret) (r := (.agg [(pI j.kind), (pI j.p), (pI (1 : Int)), (pI j.fd), (pI j.nF), (pI j.modeF), (pI j.tries), (pI j.atF), (pI j.flags), (pS j.path), (pS j.path2), (pS j.text), (.list 1 false (j.names.map cS)), (.list 3 false (j.stack.map FrameD.c)), (.list 1 false (j.draws.map cI)), (pB j.done), (pI j.exit), (pS j.out), (pI j.e)])) (by kernel_rfl) rfl (by kernel_rfl) (allC (shiftWorks_ok (k + 2) j _ q1) (allC (cg q2) (allC (cg q3) (allC (cg q4) (allC (cg q5) (allC (cg q6) allN)))))) (by kernel_rfl) allN
  · try dsimp only at h
    obtain rfl := Option.some.inj h
    exact ret_go (k := (k + 4)) Tryz.func14 Tryz.ntmps14 (by kernel_rfl) (by kernel_rfl) (lb rfl) (adv [([], 1, 1, .ret (.tup [(.agg [(pS r_13), (pS r_14), (.clo 56 [])]), (pB false)]))]) (ex := .ret) (r := (JobD.a j)) (by kernel_rfl) rfl (by kernel_rfl) (allC (shiftWorks_ok (k + 2) j _ q1) allN) (by kernel_rfl) allN
  · try dsimp only at h
    obtain rfl := Option.some.inj h
    exact ret_go (k := (k + 4)) Tryz.func14 Tryz.ntmps14 (by kernel_rfl) (by kernel_rfl) (lb rfl) (adv [([], 1, 1, .ret (.tup [(.agg [(pS r_15), (pS r_16), (.v .nilFunc)]), (pB false)]))]) (ex := .ret) (r := (JobD.a j)) (by kernel_rfl) rfl (by kernel_rfl) (allC (shiftWorks_ok (k + 2) j _ q1) allN) (by kernel_rfl) allN
end Go.Proofs.YtfjflodicgjihaaGreatDoor.Den
namespace Go.Proofs.YtfjflodicgjihaaGreatDoor.Den
open Go Go.RowKit
/-- flagstone/flagstoneref19.mine -/
def ref19Mine (j : JobD) : Option Bool :=
 bif (!j.done) then (
 bif (j.kind == (4 : Int)) then (
 bif (j.phase == (0 : Int)) then (
 some true
 ) else (
 some (j.phase == (1 : Int))
 )
 ) else (
 bif (j.kind == (5 : Int)) then (
 bif (j.phase == (0 : Int)) then (
 some true
 ) else (
 some (j.phase == (1 : Int))
 )
 ) else (
 some false
 )
 )
 ) else (
 some false
 )
set_option maxRecDepth 100000 in
theorem ref19Mine_ok (k : Nat) (j : JobD) (r : Bool) (h : ref19Mine j = some r) : run0 (k + 1) 37 [(JobD.a j)] = some (pB r) := by
  unfold ref19Mine at h
  rcases bif_some h with ⟨q1, h⟩ | ⟨q1, h⟩
  · rcases bif_some h with ⟨q2, h⟩ | ⟨q2, h⟩
    · rcases bif_some h with ⟨q3, h⟩ | ⟨q3, h⟩
      · obtain rfl := Option.some.inj h
        exact ret_go (k := k) Tryz.func37 Tryz.ntmps37 (by kernel_rfl) (by kernel_rfl) (lb rfl) (adv [([], 1, 3, .eq (pB true)), ([], 1, 7, .eq (pB true)), ([], 1, 17, .eq (pB true))]) (ex := .ret) (r := (pB true)) (by kernel_rfl) rfl (by kernel_rfl) (allC (cg q1) (allC (cg q2) (allC (cg q3) allN))) (by kernel_rfl) allN
      · obtain rfl := Option.some.inj h
        exact ret_go (k := k) Tryz.func37 Tryz.ntmps37 (by kernel_rfl) (by kernel_rfl) (lb rfl) (adv [([], 1, 3, .eq (pB true)), ([], 1, 7, .eq (pB true)), ([], 1, 17, .eq (pB false))]) (ex := .ret) (r := (pB (j.phase == (1 : Int)))) (by kernel_rfl) rfl (by kernel_rfl) (allC (cg q1) (allC (cg q2) (allC (cg q3) allN))) (by kernel_rfl) allN
    · rcases bif_some h with ⟨q3, h⟩ | ⟨q3, h⟩
      · rcases bif_some h with ⟨q4, h⟩ | ⟨q4, h⟩
        · obtain rfl := Option.some.inj h
          exact ret_go (k := k) Tryz.func37 Tryz.ntmps37 (by kernel_rfl) (by kernel_rfl) (lb rfl) (adv [([], 1, 3, .eq (pB true)), ([], 1, 7, .eq (pB false)), ([], 1, 13, .eq (pB true)), ([], 1, 17, .eq (pB true))]) (ex := .ret) (r := (pB true)) (by kernel_rfl) rfl (by kernel_rfl) (allC (cg q1) (allC (cg q2) (allC (cg q3) (allC (cg q4) allN)))) (by kernel_rfl) allN
        · obtain rfl := Option.some.inj h
          exact ret_go (k := k) Tryz.func37 Tryz.ntmps37 (by kernel_rfl) (by kernel_rfl) (lb rfl) (adv [([], 1, 3, .eq (pB true)), ([], 1, 7, .eq (pB false)), ([], 1, 13, .eq (pB true)), ([], 1, 17, .eq (pB false))]) (ex := .ret) (r := (pB (j.phase == (1 : Int)))) (by kernel_rfl) rfl (by kernel_rfl) (allC (cg q1) (allC (cg q2) (allC (cg q3) (allC (cg q4) allN)))) (by kernel_rfl) allN
      · obtain rfl := Option.some.inj h
        exact ret_go (k := k) Tryz.func37 Tryz.ntmps37 (by kernel_rfl) (by kernel_rfl) (lb rfl) (adv [([], 1, 3, .eq (pB true)), ([], 1, 7, .eq (pB false)), ([], 1, 13, .eq (pB false))]) (ex := .ret) (r := (pB false)) (by kernel_rfl) rfl (by kernel_rfl) (allC (cg q1) (allC (cg q2) (allC (cg q3) allN))) (by kernel_rfl) allN
  · obtain rfl := Option.some.inj h
    exact ret_go (k := k) Tryz.func37 Tryz.ntmps37 (by kernel_rfl) (by kernel_rfl) (lb rfl) (adv [([], 1, 3, .eq (pB false))]) (ex := .ret) (r := (pB false)) (by kernel_rfl) rfl (by kernel_rfl) (allC (cg q1) allN) (by kernel_rfl) allN
/-- flagstone/flagstoneref19.Ask -/
def ref19Ask (j : JobD) : Option CalD :=
 (ref19Mine j).bind fun r_1 =>
 bif (!r_1) then (
 some (CalD.mk (0 : Int) (0 : Int) (0 : Int) (0 : Int) (0 : Int) (0 : Int) (bs []) (bs []) (bs []))
 ) else (
 bif (j.phase == (0 : Int)) then (
 some (CalD.mk (12 : Int) (-1 : Int) (0 : Int) (0 : Int) (0 : Int) (0 : Int) j.path2 (bs []) (bs []))
 ) else (
 bif (j.kind == (4 : Int)) then (
 some (CalD.mk (8 : Int) (-1 : Int) (-1 : Int) (0 : Int) (0 : Int) (0 : Int) j.path j.path2 (bs []))
 ) else (
 bif (j.flags == (1 : Int)) then (
 some (CalD.mk (10 : Int) (-1 : Int) (0 : Int) (0 : Int) (0 : Int) (0 : Int) j.path2 (bs []) j.path)
 ) else (
 some (CalD.mk (9 : Int) (-1 : Int) (0 : Int) (0 : Int) (0 : Int) (0 : Int) j.path j.path2 (bs []))
 )
 )
 )
 )
set_option maxRecDepth 100000 in
theorem ref19Ask_ok (k : Nat) (j : JobD) (r : CalD) (h : ref19Ask j = some r) : run0 (k + 2) 13 [(JobD.a j)] = some (.agg [(pI r.kind), (pI r.fd), (pI r.fd2), (pI r.nF), (pI r.modeF), (pI r.flags), (pS r.path), (pS r.path2), (pS r.data)]) := by
  unfold ref19Ask at h
  obtain ⟨r_1, q1, h⟩ := bnd_some h
  rcases bif_some h with ⟨q2, h⟩ | ⟨q2, h⟩
  · obtain rfl := Option.some.inj h
    exact ret_go (k := (k + 1)) Tryz.func13 Tryz.ntmps13 (by kernel_rfl) (by kernel_rfl) (lb rfl) (adv [([], 1, 1, .ret (pB r_1)), ([], 1, 2, .eq (pB true))]) (ex := .ret) (r := (.agg [(pI (0 : Int)), (pI (0 : Int)), (pI (0 : Int)), (pI (0 : Int)), (pI (0 : Int)), (pI (0 : Int)), (pS (bs [])), (pS (bs [])), (pS (bs []))])) (by kernel_rfl) rfl (by kernel_rfl) (allC (ref19Mine_ok k j _ q1) (allC (cg q2) allN)) (by kernel_rfl) allN
  · rcases bif_some h with ⟨q3, h⟩ | ⟨q3, h⟩
    · obtain rfl := Option.some.inj h
      exact ret_go (k := (k + 1)) Tryz.func13 Tryz.ntmps13 (by kernel_rfl) (by kernel_rfl) (lb rfl) (adv [([], 1, 1, .ret (pB r_1)), ([], 1, 2, .eq (pB false)), ([], 3, 2, .eq (pB true))]) (ex := .ret) (r := (.agg [(pI (12 : Int)), (pI (-1 : Int)), (pI (0 : Int)), (pI (0 : Int)), (pI (0 : Int)), (pI (0 : Int)), (pS j.path2), (pS (bs [])), (pS (bs []))])) (by kernel_rfl) rfl (by kernel_rfl) (allC (ref19Mine_ok k j _ q1) (allC (cg q2) (allC (cg q3) allN))) (by kernel_rfl) allN
    · rcases bif_some h with ⟨q4, h⟩ | ⟨q4, h⟩
      · obtain rfl := Option.some.inj h
        exact ret_go (k := (k + 1)) Tryz.func13 Tryz.ntmps13 (by kernel_rfl) (by kernel_rfl) (lb rfl) (adv [([], 1, 1, .ret (pB r_1)), ([], 1, 2, .eq (pB false)), ([], 3, 2, .eq (pB false)), ([], 5, 2, .eq (pB true))]) (ex := .ret) (r := (.agg [(pI (8 : Int)), (pI (-1 : Int)), (pI (-1 : Int)), (pI (0 : Int)), (pI (0 : Int)), (pI (0 : Int)), (pS j.path), (pS j.path2), (pS (bs []))])) (by kernel_rfl) rfl (by kernel_rfl) (allC (ref19Mine_ok k j _ q1) (allC (cg q2) (allC (cg q3) (allC (cg q4) allN)))) (by kernel_rfl) allN
      · rcases bif_some h with ⟨q5, h⟩ | ⟨q5, h⟩
        · obtain rfl := Option.some.inj h
          exact ret_go (k := (k + 1)) Tryz.func13 Tryz.ntmps13 (by kernel_rfl) (by kernel_rfl) (lb rfl) (adv [([], 1, 1, .ret (pB r_1)), ([], 1, 2, .eq (pB false)), ([], 3, 2, .eq (pB false)), ([], 5, 2, .eq (pB false)), ([], 7, 2, .eq (pB true))]) (ex := .ret) (r := (.agg [(pI (10 : Int)), (pI (-1 : Int)), (pI (0 : Int)), (pI (0 : Int)), (pI (0 : Int)), (pI (0 : Int)), (pS j.path2), (pS (bs [])), (pS j.path)])) (by kernel_rfl) rfl (by kernel_rfl) (allC (ref19Mine_ok k j _ q1) (allC (cg q2) (allC (cg q3) (allC (cg q4) (allC (cg q5) allN))))) (by kernel_rfl) allN
        · obtain rfl := Option.some.inj h
          exact ret_go (k := (k + 1)) Tryz.func13 Tryz.ntmps13 (by kernel_rfl) (by kernel_rfl) (lb rfl) (adv [([], 1, 1, .ret (pB r_1)), ([], 1, 2, .eq (pB false)), ([], 3, 2, .eq (pB false)), ([], 5, 2, .eq (pB false)), ([], 7, 2, .eq (pB false))]) (ex := .ret) (r := (.agg [(pI (9 : Int)), (pI (-1 : Int)), (pI (0 : Int)), (pI (0 : Int)), (pI (0 : Int)), (pI (0 : Int)), (pS j.path), (pS j.path2), (pS (bs []))])) (by kernel_rfl) rfl (by kernel_rfl) (allC (ref19Mine_ok k j _ q1) (allC (cg q2) (allC (cg q3) (allC (cg q4) (allC (cg q5) allN))))) (by kernel_rfl) allN
/-- flagstone/flagstoneref15.End -/
def ref15End (j : JobD) (out : ByteArray) : Option JobD :=
 some (JobD.mk j.kind j.p j.phase j.fd j.nF j.modeF j.tries j.atF j.flags j.path j.path2 j.text j.names j.stack j.draws true (0 : Int) out j.e)
set_option maxRecDepth 100000 in
theorem ref15End_ok (k : Nat) (j : JobD) (out : ByteArray) (r : JobD) (h : ref15End j out = some r) : run0 (k + 1) 41 [(JobD.a j), (pS out)] = some (JobD.a r) := by
  unfold ref15End at h
  obtain rfl := Option.some.inj h
  exact ret_go (k := k) Tryz.func41 Tryz.ntmps41 (by kernel_rfl) (by kernel_rfl) (lb rfl) (adv []) (ex := .ret) (r := (.agg [(pI j.kind), (pI j.p), (pI j.phase), (pI j.fd), (pI j.nF), (pI j.modeF), (pI j.tries), (pI j.atF), (pI j.flags), (pS j.path), (pS j.path2), (pS j.text), (.list 1 false (j.names.map cS)), (.list 3 false (j.stack.map FrameD.c)), (.list 1 false (j.draws.map cI)), (pB true), (pI (0 : Int)), (pS out), (pI j.e)])) (by kernel_rfl) rfl (by kernel_rfl) allN (by kernel_rfl) allN
/- flagstone/flagstoneref15.natural: its loop at region 2 -/
noncomputable def ref15Natural_L2 : Code := cAt (codeOf Tryz.f110) [true, true, false, false]
def ref15Natural_R2 (x0 : Int) (x1 : ByteArray) : St := ⟨envL [(0, (.v (.int .u64 x0))), (3, (pS x1))], hsL [] []⟩
theorem ref15Natural_R2_eq {x0 y0 : Int} {x1 y1 : ByteArray} (h0 : x0 = y0) (h1 : x1 = y1) : ref15Natural_R2 x0 x1 = ref15Natural_R2 y0 y1 := by
  subst h0 h1; rfl
def ref15Natural_S2 : (Int × ByteArray) → St
 | (v0, v1) => ref15Natural_R2 v0 v1
def ref15Natural_b2 : (Int × ByteArray) → Option ((Int × ByteArray) ⊕ (Int × ByteArray))
 | (v0, v1) =>
 grd (0 ≤ (Int.tmod v0 (10 : Int)) ∧ (Int.tmod v0 (10 : Int)) ≤ (IntKind.wrap .u64 ((Int.tmod v0 (10 : Int)) + (1 : Int))) ∧ (IntKind.wrap .u64 ((Int.tmod v0 (10 : Int)) + (1 : Int))) ≤ ((bs [48, 49, 50, 51, 52, 53, 54, 55, 56, 57]).size : Int)) <|
 grd (¬ (((((bs [48, 49, 50, 51, 52, 53, 54, 55, 56, 57]).extract ((Int.tmod v0 (10 : Int))).toNat ((IntKind.wrap .u64 ((Int.tmod v0 (10 : Int)) + (1 : Int)))).toNat).size + v1.size : Nat) : Int) > IntKind.i64.max)) <|
 bif ((IntKind.wrap .u64 (Int.tdiv v0 (10 : Int))) == (0 : Int)) then (
 some (.inr (v0, v1))
 ) else (
 some (.inl ((IntKind.wrap .u64 (Int.tdiv v0 (10 : Int))), (((bs [48, 49, 50, 51, 52, 53, 54, 55, 56, 57]).extract ((Int.tmod v0 (10 : Int))).toNat ((IntKind.wrap .u64 ((Int.tmod v0 (10 : Int)) + (1 : Int)))).toNat) ++ v1)))
 )
set_option maxRecDepth 100000 in
theorem ref15Natural_t2 (k : Nat) (a a1 : (Int × ByteArray)) (h : ref15Natural_b2 a = some (.inl a1)) : ∃ σ, run1 k 110 0 17 ref15Natural_L2 (ref15Natural_S2 a) = some (.normal, σ) ∧ canonS 0 [0, 3] σ = some (ref15Natural_S2 a1) := by
  obtain ⟨v0, v1⟩ := a
  unfold ref15Natural_b2 at h
  try dsimp only at h
  obtain ⟨q1, h⟩ := grd_some h
  obtain ⟨q2, h⟩ := grd_some h
  rcases bif_some h with ⟨q3, h⟩ | ⟨q3, h⟩
  · cases h
  · obtain rfl := Sum.inl.inj (Option.some.inj h)
    exact ⟨_, run_go (k := k) (f := 110) (r0 := 0) (nt := 17) (c := ref15Natural_L2) (σ := (ref15Natural_S2 (v0, v1))) (adv [([], 2, 5, .sub false), ([], 2, 7, .cat), ([], 4, 1, .eq (pB false))]) (ex := .normal) (by kernel_rfl) (by kernel_rfl) (allC q1 (allC q2 (allC (cg q3) allN))), (by kernel_rfl)⟩
/-- flagstone/flagstoneref15.natural -/
def ref15Natural (n : Int) : Option ByteArray :=
 (iterN (ref15Natural_b2) LF (n, (bs []))).bind fun (v_1, v_2) =>
 some (((bs [48, 49, 50, 51, 52, 53, 54, 55, 56, 57]).extract ((Int.tmod v_1 (10 : Int))).toNat ((IntKind.wrap .u64 ((Int.tmod v_1 (10 : Int)) + (1 : Int)))).toNat) ++ v_2)
set_option maxRecDepth 100000 in
theorem ref15Natural_ok (k : Nat) (n : Int) (r : ByteArray) (h : ref15Natural n = some r) : run0 (k + 1) 110 [(.v (.int .u64 n))] = some (pS r) := by
  unfold ref15Natural at h
  obtain ⟨X_1, q1, h⟩ := bnd_some h
  obtain ⟨a_1, q2, q3⟩ := loop_iter (f := run1 k 110 0 17 ref15Natural_L2) (ref15Natural_S2) (ref15Natural_b2) (ref15Natural_t2 k) LF (n, (bs [])) _ (stOf (goStop k 110 0 17 (adv []) 2 (codeOf Tryz.f110) (argS 110 [(.v (.int .u64 n))]))) q1 (by kernel_rfl)
  obtain ⟨v_1, v_2⟩ := a_1
  unfold ref15Natural_b2 at q2
  try dsimp only at q2
  obtain ⟨q6, q2⟩ := grd_some q2
  obtain ⟨q7, q2⟩ := grd_some q2
  rcases bif_some q2 with ⟨q8, q2⟩ | ⟨q8, q2⟩
  · cases q2
    try dsimp only at h
    have q4 := run_go (k := k) (f := 110) (r0 := 0) (nt := 17) (c := ref15Natural_L2) (σ := (ref15Natural_S2 (v_1, v_2))) (adv [([], 2, 5, .sub false), ([], 2, 7, .cat), ([], 4, 1, .eq (pB true))]) (ex := .ret) (by kernel_rfl) (by kernel_rfl) (allC q6 (allC q7 (allC (cg q8) allN)))
    have q5 := q3 _ _ (by intro e; cases e) q4
    obtain rfl := Option.some.inj h
    exact ret_go (k := k) Tryz.func110 Tryz.ntmps110 (by kernel_rfl) (by kernel_rfl) (lb rfl) (adv [] [([], 2, .ret, (stOf (go k 110 0 17 (adv [([], 2, 5, .sub false), ([], 2, 7, .cat), ([], 4, 1, .eq (pB true))]) ref15Natural_L2 (ref15Natural_S2 (v_1, v_2)))))]) (ex := .ret) (r := (pS (((bs [48, 49, 50, 51, 52, 53, 54, 55, 56, 57]).extract ((Int.tmod v_1 (10 : Int))).toNat ((IntKind.wrap .u64 ((Int.tmod v_1 (10 : Int)) + (1 : Int)))).toNat) ++ v_2))) (by kernel_rfl) rfl (by kernel_rfl) (allC q5 allN) (by kernel_rfl) allN
  · cases q2
/-- flagstone/flagstoneref15.Digits -/
def ref15Digits (n : Int) : Option ByteArray :=
 bif (decide (n < (0 : Int))) then (
 (ref15Natural (IntKind.wrap .u64 ((IntKind.wrap .u64 (IntKind.wrap .i64 (0 - (w64 (n + (1 : Int)))))) + (1 : Int)))).bind fun r_1 =>
 grd (¬ ((((bs [45]).size + r_1.size : Nat) : Int) > IntKind.i64.max)) <|
 some ((bs [45]) ++ r_1)
 ) else (
 (ref15Natural (IntKind.wrap .u64 n)).bind fun r_1 =>
 some r_1
 )
set_option maxRecDepth 100000 in
theorem ref15Digits_ok (k : Nat) (n : Int) (r : ByteArray) (h : ref15Digits n = some r) : run0 (k + 2) 63 [(pI n)] = some (pS r) := by
  unfold ref15Digits at h
  rcases bif_some h with ⟨q1, h⟩ | ⟨q1, h⟩
  · obtain ⟨r_1, q2, h⟩ := bnd_some h
    obtain ⟨q3, h⟩ := grd_some h
    obtain rfl := Option.some.inj h
    exact ret_go (k := (k + 1)) Tryz.func63 Tryz.ntmps63 (by kernel_rfl) (by kernel_rfl) (lb rfl) (adv [([], 1, 1, .eq (pB true)), ([], 2, 5, .ret (pS r_1)), ([], 2, 6, .cat)]) (ex := .ret) (r := (pS ((bs [45]) ++ r_1))) (by kernel_rfl) rfl (by kernel_rfl) (allC (cg q1) (allC (ref15Natural_ok k (IntKind.wrap .u64 ((IntKind.wrap .u64 (IntKind.wrap .i64 (0 - (w64 (n + (1 : Int)))))) + (1 : Int))) _ q2) (allC q3 allN))) (by kernel_rfl) allN
  · obtain ⟨r_1, q2, h⟩ := bnd_some h
    obtain rfl := Option.some.inj h
    exact ret_go (k := (k + 1)) Tryz.func63 Tryz.ntmps63 (by kernel_rfl) (by kernel_rfl) (lb rfl) (adv [([], 1, 1, .eq (pB false)), ([], 3, 2, .ret (pS r_1))]) (ex := .ret) (r := (pS r_1)) (by kernel_rfl) rfl (by kernel_rfl) (allC (cg q1) (allC (ref15Natural_ok k (IntKind.wrap .u64 n) _ q2) allN)) (by kernel_rfl) allN
/-- flagstone/flagstoneref15.Fail -/
def ref15Fail (j : JobD) (path : ByteArray) (e : Int) : Option JobD :=
 grd (¬ (((path.size + (bs [58, 32, 101, 114, 114, 111, 114, 32]).size : Nat) : Int) > IntKind.i64.max)) <|
 (ref15Digits e).bind fun r_1 =>
 grd (¬ ((((path ++ (bs [58, 32, 101, 114, 114, 111, 114, 32])).size + r_1.size : Nat) : Int) > IntKind.i64.max)) <|
 some (JobD.mk j.kind j.p j.phase j.fd j.nF j.modeF j.tries j.atF j.flags j.path j.path2 j.text j.names j.stack j.draws true (1 : Int) ((path ++ (bs [58, 32, 101, 114, 114, 111, 114, 32])) ++ r_1) e)
set_option maxRecDepth 100000 in
theorem ref15Fail_ok (k : Nat) (j : JobD) (path : ByteArray) (e : Int) (r : JobD) (h : ref15Fail j path e = some r) : run0 (k + 3) 33 [(JobD.a j), (pS path), (pI e)] = some (JobD.a r) := by
  unfold ref15Fail at h
  obtain ⟨q1, h⟩ := grd_some h
  obtain ⟨r_1, q2, h⟩ := bnd_some h
  obtain ⟨q3, h⟩ := grd_some h
  obtain rfl := Option.some.inj h
  exact ret_go (k := (k + 2)) Tryz.func33 Tryz.ntmps33 (by kernel_rfl) (by kernel_rfl) (lb rfl) (adv [([], 4, 1, .cat), ([], 4, 3, .ret (pS r_1)), ([], 4, 4, .cat)]) (ex := .ret) (r := (.agg [(pI j.kind), (pI j.p), (pI j.phase), (pI j.fd), (pI j.nF), (pI j.modeF), (pI j.tries), (pI j.atF), (pI j.flags), (pS j.path), (pS j.path2), (pS j.text), (.list 1 false (j.names.map cS)), (.list 3 false (j.stack.map FrameD.c)), (.list 1 false (j.draws.map cI)), (pB true), (pI (1 : Int)), (pS ((path ++ (bs [58, 32, 101, 114, 114, 111, 114, 32])) ++ r_1)), (pI e)])) (by kernel_rfl) rfl (by kernel_rfl) (allC q1 (allC (ref15Digits_ok k e _ q2) (allC q3 allN))) (by kernel_rfl) allN
/- flagstone/flagstoneref01.Split: its loop at region 4 -/
noncomputable def ref01Split_L4 : Code := cAt (codeOf Tryz.f70) [true, true, true, false, true, false, false]
def ref01Split_R4 (x0 : ByteArray) (x1 : Nat) (x2 : ByteArray) (x3 : Int) (x4 : List (List PV)) : St := ⟨envL [(0, (pS x0)), (5, (.row [0, TAG] 1 0 x1)), (6, (pS x2)), (7, (pI x3))], hsL [some ⟨1, 9, x4, true, true⟩] [0]⟩
theorem ref01Split_R4_eq {x0 y0 : ByteArray} {x1 y1 : Nat} {x2 y2 : ByteArray} {x3 y3 : Int} {x4 y4 : List (List PV)} (h0 : x0 = y0) (h1 : x1 = y1) (h2 : x2 = y2) (h3 : x3 = y3) (h4 : x4 = y4) : ref01Split_R4 x0 x1 x2 x3 x4 = ref01Split_R4 y0 y1 y2 y3 y4 := by
  subst h0 h1 h2 h3 h4; rfl
def ref01Split_S4 (p0 : ByteArray) : (ByteArray × Int × (List ByteArray)) → St
 | (v0, v1, v2) => ref01Split_R4 p0 v2.length v0 v1 (v2.map cS)
def ref01Split_b4 (p0 : ByteArray) : (ByteArray × Int × (List ByteArray)) → Option ((ByteArray × Int × (List ByteArray)) ⊕ (ByteArray × Int × (List ByteArray)))
 | (v0, v1, v2) =>
 bif (decide (v1 < (p0.size : Int))) then (
 (gtS p0 v1).bind fun b_1 =>
 bif ((b_1.toNat : Int) != (47 : Int)) then (
 grd (0 ≤ v1 ∧ v1 ≤ (w64 (v1 + (1 : Int))) ∧ (w64 (v1 + (1 : Int))) ≤ (p0.size : Int)) <|
 grd (¬ (((v0.size + (p0.extract (v1).toNat ((w64 (v1 + (1 : Int)))).toNat).size : Nat) : Int) > IntKind.i64.max)) <|
 bif (!(seq (v0 ++ (p0.extract (v1).toNat ((w64 (v1 + (1 : Int)))).toNat)) (bs []))) then (
 (gtS p0 v1).bind fun b_2 =>
 bif ((b_2.toNat : Int) == (47 : Int)) then (
 grd (room (v2.length + 1) 16) <|
 some (.inl ((bs []), (w64 (v1 + (1 : Int))), (v2 ++ [(v0 ++ (p0.extract (v1).toNat ((w64 (v1 + (1 : Int)))).toNat))])))
 ) else (
 bif (v1 == (w64 ((p0.size : Int) - (1 : Int)))) then (
 grd (room (v2.length + 1) 16) <|
 some (.inl ((bs []), (w64 (v1 + (1 : Int))), (v2 ++ [(v0 ++ (p0.extract (v1).toNat ((w64 (v1 + (1 : Int)))).toNat))])))
 ) else (
 some (.inl ((v0 ++ (p0.extract (v1).toNat ((w64 (v1 + (1 : Int)))).toNat)), (w64 (v1 + (1 : Int))), v2))
 )
 )
 ) else (
 some (.inl ((v0 ++ (p0.extract (v1).toNat ((w64 (v1 + (1 : Int)))).toNat)), (w64 (v1 + (1 : Int))), v2))
 )
 ) else (
 bif (!(seq v0 (bs []))) then (
 (gtS p0 v1).bind fun b_2 =>
 bif ((b_2.toNat : Int) == (47 : Int)) then (
 grd (room (v2.length + 1) 16) <|
 some (.inl ((bs []), (w64 (v1 + (1 : Int))), (v2 ++ [v0])))
 ) else (
 bif (v1 == (w64 ((p0.size : Int) - (1 : Int)))) then (
 grd (room (v2.length + 1) 16) <|
 some (.inl ((bs []), (w64 (v1 + (1 : Int))), (v2 ++ [v0])))
 ) else (
 some (.inl (v0, (w64 (v1 + (1 : Int))), v2))
 )
 )
 ) else (
 some (.inl (v0, (w64 (v1 + (1 : Int))), v2))
 )
 )
 ) else (
 some (.inr (v0, v1, v2))
 )
set_option maxRecDepth 100000 in
theorem ref01Split_t4 (k : Nat) (p0 : ByteArray) (a a1 : (ByteArray × Int × (List ByteArray))) (h : ref01Split_b4 p0 a = some (.inl a1)) : ∃ σ, run1 k 70 0 63 ref01Split_L4 (ref01Split_S4 p0 a) = some (.normal, σ) ∧ canonS 0 [0, 5, 6, 7] σ = some (ref01Split_S4 p0 a1) := by
  obtain ⟨v0, v1, v2⟩ := a
  unfold ref01Split_b4 at h
  try dsimp only at h
  rcases bif_some h with ⟨q1, h⟩ | ⟨q1, h⟩
  · obtain ⟨b_1, q2, h⟩ := bnd_some h
    rcases bif_some h with ⟨q3, h⟩ | ⟨q3, h⟩
    · obtain ⟨q4, h⟩ := grd_some h
      obtain ⟨q5, h⟩ := grd_some h
      rcases bif_some h with ⟨q6, h⟩ | ⟨q6, h⟩
      · obtain ⟨b_2, q7, h⟩ := bnd_some h
        rcases bif_some h with ⟨q8, h⟩ | ⟨q8, h⟩
        · obtain ⟨q9, h⟩ := grd_some h
          obtain rfl := Sum.inl.inj (Option.some.inj h)
          exact ⟨_, run_go (k := k) (f := 70) (r0 := 0) (nt := 63) (c := ref01Split_L4) (σ := (ref01Split_S4 p0 (v0, v1, v2))) (adv [([], 4, 3, .eq (pB true)), ([], 6, 2, .chr b_1), ([], 6, 3, .eq (pB true)), ([], 7, 5, .sub false), ([], 7, 6, .cat), ([], 8, 2, .eq (pB true)), ([], 8, 5, .chr b_2), ([], 8, 7, .eq (pB true)), ([], 9, 3, .ok)]) (ex := .normal) (by kernel_rfl) (by kernel_rfl) (allC (cg q1) (allC q2 (allC (cg q3) (allC q4 (allC q5 (allC (cg q6) (allC q7 (allC (cg q8) (allC (app_ok (rfl : (v2.map cS) = v2.map cS) (rfl : v2.length = v2.length) q9) allN))))))))), (Eq.trans (b := some (ref01Split_R4 p0 (v2.length + 1) (bs []) (w64 (v1 + (1 : Int))) ((v2.map cS) ++ [[(pS (v0 ++ (p0.extract (v1).toNat ((w64 (v1 + (1 : Int)))).toNat)))]]))) (by kernel_rfl) (congrArg some ((ref01Split_R4_eq (rfl : p0 = p0) ((len_cat (rfl : v2.length = v2.length) v2 (rfl : 1 = [(v0 ++ (p0.extract (v1).toNat ((w64 (v1 + (1 : Int)))).toNat))].length)) : (v2.length + 1) = ((v2 ++ [(v0 ++ (p0.extract (v1).toNat ((w64 (v1 + (1 : Int)))).toNat))]).length)) (rfl : (bs []) = (bs [])) (rfl : (w64 (v1 + (1 : Int))) = (w64 (v1 + (1 : Int)))) ((enc_cat (rfl : (v2.map cS) = v2.map cS) (show [[(pS (v0 ++ (p0.extract (v1).toNat ((w64 (v1 + (1 : Int)))).toNat)))]] = [(v0 ++ (p0.extract (v1).toNat ((w64 (v1 + (1 : Int)))).toNat))].map cS from rfl)) : ((v2.map cS) ++ [[(pS (v0 ++ (p0.extract (v1).toNat ((w64 (v1 + (1 : Int)))).toNat)))]]) = ((v2 ++ [(v0 ++ (p0.extract (v1).toNat ((w64 (v1 + (1 : Int)))).toNat))]).map cS))).trans (by kernel_rfl : ref01Split_R4 p0 ((v2 ++ [(v0 ++ (p0.extract (v1).toNat ((w64 (v1 + (1 : Int)))).toNat))]).length) (bs []) (w64 (v1 + (1 : Int))) ((v2 ++ [(v0 ++ (p0.extract (v1).toNat ((w64 (v1 + (1 : Int)))).toNat))]).map cS) = ref01Split_S4 p0 ((bs []), (w64 (v1 + (1 : Int))), (v2 ++ [(v0 ++ (p0.extract (v1).toNat ((w64 (v1 + (1 : Int)))).toNat))]))))))⟩
        · rcases bif_some h with ⟨q9, h⟩ | ⟨q9, h⟩
          · obtain ⟨q10, h⟩ := grd_some h
            obtain rfl := Sum.inl.inj (Option.some.inj h)
            exact ⟨_, run_go (k := k) (f := 70) (r0 := 0) (nt := 63) (c := ref01Split_L4) (σ := (ref01Split_S4 p0 (v0, v1, v2))) (adv [([], 4, 3, .eq (pB true)), ([], 6, 2, .chr b_1), ([], 6, 3, .eq (pB true)), ([], 7, 5, .sub false), ([], 7, 6, .cat), ([], 8, 2, .eq (pB true)), ([], 8, 5, .chr b_2), ([], 8, 7, .eq (pB false)), ([], 8, 14, .eq (pB true)), ([], 9, 3, .ok)]) (ex := .normal) (by kernel_rfl) (by kernel_rfl) (allC (cg q1) (allC q2 (allC (cg q3) (allC q4 (allC q5 (allC (cg q6) (allC q7 (allC (cg q8) (allC (cg q9) (allC (app_ok (rfl : (v2.map cS) = v2.map cS) (rfl : v2.length = v2.length) q10) allN)))))))))), (Eq.trans (b := some (ref01Split_R4 p0 (v2.length + 1) (bs []) (w64 (v1 + (1 : Int))) ((v2.map cS) ++ [[(pS (v0 ++ (p0.extract (v1).toNat ((w64 (v1 + (1 : Int)))).toNat)))]]))) (by kernel_rfl) (congrArg some ((ref01Split_R4_eq (rfl : p0 = p0) ((len_cat (rfl : v2.length = v2.length) v2 (rfl : 1 = [(v0 ++ (p0.extract (v1).toNat ((w64 (v1 + (1 : Int)))).toNat))].length)) : (v2.length + 1) = ((v2 ++ [(v0 ++ (p0.extract (v1).toNat ((w64 (v1 + (1 : Int)))).toNat))]).length)) (rfl : (bs []) = (bs [])) (rfl : (w64 (v1 + (1 : Int))) = (w64 (v1 + (1 : Int)))) ((enc_cat (rfl : (v2.map cS) = v2.map cS) (show [[(pS (v0 ++ (p0.extract (v1).toNat ((w64 (v1 + (1 : Int)))).toNat)))]] = [(v0 ++ (p0.extract (v1).toNat ((w64 (v1 + (1 : Int)))).toNat))].map cS from rfl)) : ((v2.map cS) ++ [[(pS (v0 ++ (p0.extract (v1).toNat ((w64 (v1 + (1 : Int)))).toNat)))]]) = ((v2 ++ [(v0 ++ (p0.extract (v1).toNat ((w64 (v1 + (1 : Int)))).toNat))]).map cS))).trans (by kernel_rfl : ref01Split_R4 p0 ((v2 ++ [(v0 ++ (p0.extract (v1).toNat ((w64 (v1 + (1 : Int)))).toNat))]).length) (bs []) (w64 (v1 + (1 : Int))) ((v2 ++ [(v0 ++ (p0.extract (v1).toNat ((w64 (v1 + (1 : Int)))).toNat))]).map cS) = ref01Split_S4 p0 ((bs []), (w64 (v1 + (1 : Int))), (v2 ++ [(v0 ++ (p0.extract (v1).toNat ((w64 (v1 + (1 : Int)))).toNat))]))))))⟩
          · obtain rfl := Sum.inl.inj (Option.some.inj h)
            exact ⟨_, run_go (k := k) (f := 70) (r0 := 0) (nt := 63) (c := ref01Split_L4) (σ := (ref01Split_S4 p0 (v0, v1, v2))) (adv [([], 4, 3, .eq (pB true)), ([], 6, 2, .chr b_1), ([], 6, 3, .eq (pB true)), ([], 7, 5, .sub false), ([], 7, 6, .cat), ([], 8, 2, .eq (pB true)), ([], 8, 5, .chr b_2), ([], 8, 7, .eq (pB false)), ([], 8, 14, .eq (pB false))]) (ex := .normal) (by kernel_rfl) (by kernel_rfl) (allC (cg q1) (allC q2 (allC (cg q3) (allC q4 (allC q5 (allC (cg q6) (allC q7 (allC (cg q8) (allC (cg q9) allN))))))))), (by kernel_rfl)⟩
      · obtain rfl := Sum.inl.inj (Option.some.inj h)
        exact ⟨_, run_go (k := k) (f := 70) (r0 := 0) (nt := 63) (c := ref01Split_L4) (σ := (ref01Split_S4 p0 (v0, v1, v2))) (adv [([], 4, 3, .eq (pB true)), ([], 6, 2, .chr b_1), ([], 6, 3, .eq (pB true)), ([], 7, 5, .sub false), ([], 7, 6, .cat), ([], 8, 2, .eq (pB false))]) (ex := .normal) (by kernel_rfl) (by kernel_rfl) (allC (cg q1) (allC q2 (allC (cg q3) (allC q4 (allC q5 (allC (cg q6) allN)))))), (by kernel_rfl)⟩
    · rcases bif_some h with ⟨q4, h⟩ | ⟨q4, h⟩
      · obtain ⟨b_2, q5, h⟩ := bnd_some h
        rcases bif_some h with ⟨q6, h⟩ | ⟨q6, h⟩
        · obtain ⟨q7, h⟩ := grd_some h
          obtain rfl := Sum.inl.inj (Option.some.inj h)
          exact ⟨_, run_go (k := k) (f := 70) (r0 := 0) (nt := 63) (c := ref01Split_L4) (σ := (ref01Split_S4 p0 (v0, v1, v2))) (adv [([], 4, 3, .eq (pB true)), ([], 6, 2, .chr b_1), ([], 6, 3, .eq (pB false)), ([], 8, 2, .eq (pB true)), ([], 8, 5, .chr b_2), ([], 8, 7, .eq (pB true)), ([], 9, 3, .ok)]) (ex := .normal) (by kernel_rfl) (by kernel_rfl) (allC (cg q1) (allC q2 (allC (cg q3) (allC (cg q4) (allC q5 (allC (cg q6) (allC (app_ok (rfl : (v2.map cS) = v2.map cS) (rfl : v2.length = v2.length) q7) allN))))))), (Eq.trans (b := some (ref01Split_R4 p0 (v2.length + 1) (bs []) (w64 (v1 + (1 : Int))) ((v2.map cS) ++ [[(pS v0)]]))) (by kernel_rfl) (congrArg some ((ref01Split_R4_eq (rfl : p0 = p0) ((len_cat (rfl : v2.length = v2.length) v2 (rfl : 1 = [v0].length)) : (v2.length + 1) = ((v2 ++ [v0]).length)) (rfl : (bs []) = (bs [])) (rfl : (w64 (v1 + (1 : Int))) = (w64 (v1 + (1 : Int)))) ((enc_cat (rfl : (v2.map cS) = v2.map cS) (show [[(pS v0)]] = [v0].map cS from rfl)) : ((v2.map cS) ++ [[(pS v0)]]) = ((v2 ++ [v0]).map cS))).trans (by kernel_rfl : ref01Split_R4 p0 ((v2 ++ [v0]).length) (bs []) (w64 (v1 + (1 : Int))) ((v2 ++ [v0]).map cS) = ref01Split_S4 p0 ((bs []), (w64 (v1 + (1 : Int))), (v2 ++ [v0]))))))⟩
        · rcases bif_some h with ⟨q7, h⟩ | ⟨q7, h⟩
          · obtain ⟨q8, h⟩ := grd_some h
            obtain rfl := Sum.inl.inj (Option.some.inj h)
            exact ⟨_, run_go (k := k) (f := 70) (r0 := 0) (nt := 63) (c := ref01Split_L4) (σ := (ref01Split_S4 p0 (v0, v1, v2))) (adv [([], 4, 3, .eq (pB true)), ([], 6, 2, .chr b_1), ([], 6, 3, .eq (pB false)), ([], 8, 2, .eq (pB true)), ([], 8, 5, .chr b_2), ([], 8, 7, .eq (pB false)), ([], 8, 14, .eq (pB true)), ([], 9, 3, .ok)]) (ex := .normal) (by kernel_rfl) (by kernel_rfl) (allC (cg q1) (allC q2 (allC (cg q3) (allC (cg q4) (allC q5 (allC (cg q6) (allC (cg q7) (allC (app_ok (rfl : (v2.map cS) = v2.map cS) (rfl : v2.length = v2.length) q8) allN)))))))), (Eq.trans (b := some (ref01Split_R4 p0 (v2.length + 1) (bs []) (w64 (v1 + (1 : Int))) ((v2.map cS) ++ [[(pS v0)]]))) (by kernel_rfl) (congrArg some ((ref01Split_R4_eq (rfl : p0 = p0) ((len_cat (rfl : v2.length = v2.length) v2 (rfl : 1 = [v0].length)) : (v2.length + 1) = ((v2 ++ [v0]).length)) (rfl : (bs []) = (bs [])) (rfl : (w64 (v1 + (1 : Int))) = (w64 (v1 + (1 : Int)))) ((enc_cat (rfl : (v2.map cS) = v2.map cS) (show [[(pS v0)]] = [v0].map cS from rfl)) : ((v2.map cS) ++ [[(pS v0)]]) = ((v2 ++ [v0]).map cS))).trans (by kernel_rfl : ref01Split_R4 p0 ((v2 ++ [v0]).length) (bs []) (w64 (v1 + (1 : Int))) ((v2 ++ [v0]).map cS) = ref01Split_S4 p0 ((bs []), (w64 (v1 + (1 : Int))), (v2 ++ [v0]))))))⟩
          · obtain rfl := Sum.inl.inj (Option.some.inj h)
            exact ⟨_, run_go (k := k) (f := 70) (r0 := 0) (nt := 63) (c := ref01Split_L4) (σ := (ref01Split_S4 p0 (v0, v1, v2))) (adv [([], 4, 3, .eq (pB true)), ([], 6, 2, .chr b_1), ([], 6, 3, .eq (pB false)), ([], 8, 2, .eq (pB true)), ([], 8, 5, .chr b_2), ([], 8, 7, .eq (pB false)), ([], 8, 14, .eq (pB false))]) (ex := .normal) (by kernel_rfl) (by kernel_rfl) (allC (cg q1) (allC q2 (allC (cg q3) (allC (cg q4) (allC q5 (allC (cg q6) (allC (cg q7) allN))))))), (by kernel_rfl)⟩
      · obtain rfl := Sum.inl.inj (Option.some.inj h)
        exact ⟨_, run_go (k := k) (f := 70) (r0 := 0) (nt := 63) (c := ref01Split_L4) (σ := (ref01Split_S4 p0 (v0, v1, v2))) (adv [([], 4, 3, .eq (pB true)), ([], 6, 2, .chr b_1), ([], 6, 3, .eq (pB false)), ([], 8, 2, .eq (pB false))]) (ex := .normal) (by kernel_rfl) (by kernel_rfl) (allC (cg q1) (allC q2 (allC (cg q3) (allC (cg q4) allN)))), (by kernel_rfl)⟩
  · cases h
/-- flagstone/flagstoneref01.Split -/
def ref01Split (p : ByteArray) : Option ((List ByteArray) × Bool × Bool) :=
 (iterN (ref01Split_b4 p) LF ((bs []), (0 : Int), ([] : (List ByteArray)))).bind fun (v_1, v_2, v_3) =>
 bif (!(seq p (bs []))) then (
 (gtS p (0 : Int)).bind fun b_3 =>
 bif (!(seq p (bs []))) then (
 (gtS p (w64 ((p.size : Int) - (1 : Int)))).bind fun b_4 =>
 some (v_3, ((b_3.toNat : Int) == (47 : Int)), ((b_4.toNat : Int) == (47 : Int)))
 ) else (
 some (v_3, ((b_3.toNat : Int) == (47 : Int)), false)
 )
 ) else (
 bif (!(seq p (bs []))) then (
 (gtS p (w64 ((p.size : Int) - (1 : Int)))).bind fun b_3 =>
 some (v_3, false, ((b_3.toNat : Int) == (47 : Int)))
 ) else (
 some (v_3, false, false)
 )
 )
set_option maxRecDepth 100000 in
theorem ref01Split_ok (k : Nat) (p : ByteArray) (r : ((List ByteArray) × Bool × Bool)) (h : ref01Split p = some r) : run0 (k + 1) 70 [(pS p)] = some (.tup [(.list 1 false (r.1.map cS)), (pB r.2.1), (pB r.2.2)]) := by
  unfold ref01Split at h
  obtain ⟨X_1, q1, h⟩ := bnd_some h
  obtain ⟨a_1, q2, q3⟩ := loop_iter (f := run1 k 70 0 63 ref01Split_L4) (ref01Split_S4 p) (ref01Split_b4 p) (ref01Split_t4 k p) LF ((bs []), (0 : Int), ([] : (List ByteArray))) _ (stOf (goStop k 70 0 63 (adv []) 4 (codeOf Tryz.f70) (argS 70 [(pS p)]))) q1 (Eq.trans (b := some (ref01Split_R4 p 0 (bs []) (0 : Int) [])) (by kernel_rfl) (congrArg some ((ref01Split_R4_eq (rfl : p = p) (rfl : 0 = (([] : (List ByteArray)).length)) (rfl : (bs []) = (bs [])) (rfl : (0 : Int) = (0 : Int)) (rfl : [] = (([] : (List ByteArray)).map cS))).trans (by kernel_rfl : ref01Split_R4 p (([] : (List ByteArray)).length) (bs []) (0 : Int) (([] : (List ByteArray)).map cS) = ref01Split_S4 p ((bs []), (0 : Int), ([] : (List ByteArray)))))))
  obtain ⟨v_1, v_2, v_3⟩ := a_1
  unfold ref01Split_b4 at q2
  try dsimp only at q2
  rcases bif_some q2 with ⟨q6, q2⟩ | ⟨q6, q2⟩
  · obtain ⟨b_1, q7, q2⟩ := bnd_some q2
    rcases bif_some q2 with ⟨q8, q2⟩ | ⟨q8, q2⟩
    · obtain ⟨q9, q2⟩ := grd_some q2
      obtain ⟨q10, q2⟩ := grd_some q2
      rcases bif_some q2 with ⟨q11, q2⟩ | ⟨q11, q2⟩
      · obtain ⟨b_2, q12, q2⟩ := bnd_some q2
        rcases bif_some q2 with ⟨q13, q2⟩ | ⟨q13, q2⟩
        · obtain ⟨q14, q2⟩ := grd_some q2
          cases q2
        · rcases bif_some q2 with ⟨q14, q2⟩ | ⟨q14, q2⟩
          · obtain ⟨q15, q2⟩ := grd_some q2
            cases q2
          · cases q2
      · cases q2
    · rcases bif_some q2 with ⟨q9, q2⟩ | ⟨q9, q2⟩
      · obtain ⟨b_2, q10, q2⟩ := bnd_some q2
        rcases bif_some q2 with ⟨q11, q2⟩ | ⟨q11, q2⟩
        · obtain ⟨q12, q2⟩ := grd_some q2
          cases q2
        · rcases bif_some q2 with ⟨q12, q2⟩ | ⟨q12, q2⟩
          · obtain ⟨q13, q2⟩ := grd_some q2
            cases q2
          · cases q2
      · cases q2
  · cases q2
    try dsimp only at h
    have q4 := run_go (k := k) (f := 70) (r0 := 0) (nt := 63) (c := ref01Split_L4) (σ := (ref01Split_S4 p (v_1, v_2, v_3))) (adv [([], 4, 3, .eq (pB false))]) (ex := (.exit 0)) (by kernel_rfl) (by kernel_rfl) (allC (cg q6) allN)
    have q5 := q3 _ _ (by intro e; cases e) q4
    rcases bif_some h with ⟨q16, h⟩ | ⟨q16, h⟩
    · obtain ⟨b_3, q17, h⟩ := bnd_some h
      rcases bif_some h with ⟨q18, h⟩ | ⟨q18, h⟩
      · obtain ⟨b_4, q19, h⟩ := bnd_some h
        obtain rfl := Option.some.inj h
        exact ret_go (k := k) Tryz.func70 Tryz.ntmps70 (by kernel_rfl) (by kernel_rfl) (lb rfl) (adv [([], 11, 3, .eq (pB true)), ([], 11, 5, .chr b_3), ([], 11, 10, .eq (pB true)), ([], 11, 15, .chr b_4)] [([], 4, (.exit 0), (stOf (go k 70 0 63 (adv [([], 4, 3, .eq (pB false))]) ref01Split_L4 (ref01Split_S4 p (v_1, v_2, v_3)))))]) (ex := .ret) (r := (.tup [(.list 1 false (v_3.map cS)), (pB ((b_3.toNat : Int) == (47 : Int))), (pB ((b_4.toNat : Int) == (47 : Int)))])) (by kernel_rfl) rfl (by kernel_rfl) (allC q5 (allC (cg q16) (allC q17 (allC (cg q18) (allC q19 allN))))) (by kernel_rfl) (allC (row_ok (rfl : (v_3.map cS) = v_3.map cS) (rfl : v_3.length = v_3.length)) allN)
      · obtain rfl := Option.some.inj h
        exact ret_go (k := k) Tryz.func70 Tryz.ntmps70 (by kernel_rfl) (by kernel_rfl) (lb rfl) (adv [([], 11, 3, .eq (pB true)), ([], 11, 5, .chr b_3), ([], 11, 10, .eq (pB false))] [([], 4, (.exit 0), (stOf (go k 70 0 63 (adv [([], 4, 3, .eq (pB false))]) ref01Split_L4 (ref01Split_S4 p (v_1, v_2, v_3)))))]) (ex := .ret) (r := (.tup [(.list 1 false (v_3.map cS)), (pB ((b_3.toNat : Int) == (47 : Int))), (pB false)])) (by kernel_rfl) rfl (by kernel_rfl) (allC q5 (allC (cg q16) (allC q17 (allC (cg q18) allN)))) (by kernel_rfl) (allC (row_ok (rfl : (v_3.map cS) = v_3.map cS) (rfl : v_3.length = v_3.length)) allN)
    · rcases bif_some h with ⟨q17, h⟩ | ⟨q17, h⟩
      · obtain ⟨b_3, q18, h⟩ := bnd_some h
        obtain rfl := Option.some.inj h
        exact ret_go (k := k) Tryz.func70 Tryz.ntmps70 (by kernel_rfl) (by kernel_rfl) (lb rfl) (adv [([], 11, 3, .eq (pB false)), ([], 11, 10, .eq (pB true)), ([], 11, 15, .chr b_3)] [([], 4, (.exit 0), (stOf (go k 70 0 63 (adv [([], 4, 3, .eq (pB false))]) ref01Split_L4 (ref01Split_S4 p (v_1, v_2, v_3)))))]) (ex := .ret) (r := (.tup [(.list 1 false (v_3.map cS)), (pB false), (pB ((b_3.toNat : Int) == (47 : Int)))])) (by kernel_rfl) rfl (by kernel_rfl) (allC q5 (allC (cg q16) (allC (cg q17) (allC q18 allN)))) (by kernel_rfl) (allC (row_ok (rfl : (v_3.map cS) = v_3.map cS) (rfl : v_3.length = v_3.length)) allN)
      · obtain rfl := Option.some.inj h
        exact ret_go (k := k) Tryz.func70 Tryz.ntmps70 (by kernel_rfl) (by kernel_rfl) (lb rfl) (adv [([], 11, 3, .eq (pB false)), ([], 11, 10, .eq (pB false))] [([], 4, (.exit 0), (stOf (go k 70 0 63 (adv [([], 4, 3, .eq (pB false))]) ref01Split_L4 (ref01Split_S4 p (v_1, v_2, v_3)))))]) (ex := .ret) (r := (.tup [(.list 1 false (v_3.map cS)), (pB false), (pB false)])) (by kernel_rfl) rfl (by kernel_rfl) (allC q5 (allC (cg q16) (allC (cg q17) allN))) (by kernel_rfl) (allC (row_ok (rfl : (v_3.map cS) = v_3.map cS) (rfl : v_3.length = v_3.length)) allN)
end Go.Proofs.YtfjflodicgjihaaGreatDoor.Den
