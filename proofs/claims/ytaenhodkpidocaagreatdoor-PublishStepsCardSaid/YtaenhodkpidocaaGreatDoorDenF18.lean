/- Texts joined by a program of mine (pack.py): DenF18. -/
import Derived.Test.YtaenhodkpidocaaGreatDoorDenF17
set_option linter.unusedVariables false
set_option linter.unusedSimpArgs false
namespace Go.Proofs.YtaenhodkpidocaaGreatDoor.Den
open Go Go.RowKit
def law21PublishSteps (j : JobD) (rF : ReplyD) : Option Bool :=
 (law21Plain j).bind fun r_1 =>
 bif (!r_1) then (
 (shownX).bind fun r_2 =>
 some r_2
 ) else (
 bif (decide ((rF.l.length : Int) > (60 : Int))) then (
 (shownX).bind fun r_2 =>
 some r_2
 ) else (
 bif (decide (rF.e < (0 : Int))) then (
 (shownX).bind fun r_2 =>
 some r_2
 ) else (
 bif (decide (j.nF < (0 : Int))) then (
 (shownX).bind fun r_2 =>
 some r_2
 ) else (
 (shownX).bind fun r_2 =>
 bif (!r_2) then (
 (shownX).bind fun r_3 =>
 some r_3
 ) else (
 (publishAsk j).bind fun r_3 =>
 (law21Work j).bind fun r_4 =>
 (ref21Ask r_4).bind fun r_5 =>
 bif ((r_3.kind == r_5.kind) && ((r_3.fd == r_5.fd) && ((r_3.fd2 == r_5.fd2) && ((r_3.nF == r_5.nF) && ((r_3.modeF == r_5.modeF) && ((r_3.flags == r_5.flags) && ((seq r_3.path r_5.path) && ((seq r_3.path2 r_5.path2) && ((seq r_3.data r_5.data) && true))))))))) then (
 (publishTell j rF).bind fun r_6 =>
 (law21Work r_6).bind fun r_7 =>
 (law21Work j).bind fun r_8 =>
 (law21Reply rF).bind fun r_9 =>
 (ref21Tell r_8 r_9).bind fun r_10 =>
 (ref15Same r_7 r_10).bind fun r_11 =>
 some r_11
 ) else (
 some false
 )
 )
 )
 )
 )
 )
set_option maxRecDepth 100000 in
theorem law21PublishSteps_ok (k : Nat) (j : JobD) (rF : ReplyD) (r : Bool) (h : law21PublishSteps j rF = some r) : run0 (k + 9) 4 [(JobD.a j), (.agg [(pI rF.e), (pI rF.nF), (pS rF.s), (.list 1 false (rF.l.map cS)), (pI rF.i.ino), (pI rF.i.kind), (pI rF.i.modeF), (pI rF.i.owner), (pI rF.i.links), (pI rF.i.size)])] = some (pB r) := by
  unfold law21PublishSteps at h
  obtain ⟨r_1, q1, h⟩ := bnd_some h
  rcases bif_some h with ⟨q2, h⟩ | ⟨q2, h⟩
  · obtain ⟨r_2, q3, h⟩ := bnd_some h
    obtain rfl := Option.some.inj h
    exact ret_go (k := (k + 8)) Tryz.func4 Tryz.ntmps4 (by kernel_rfl) (by kernel_rfl) (lb rfl) (adv [([], 1, 1, .ret (pB r_1)), ([], 1, 3, .eq (pB true)), ([], 2, 0, .ret (pB r_2))]) (ex := .ret) (r := (pB r_2)) (by kernel_rfl) rfl (by kernel_rfl) (allC (law21Plain_ok (k + 7) j _ q1) (allC (cg q2) (allC (shownX_ok (k + 8)  _ q3) allN))) (by kernel_rfl) allN
  · rcases bif_some h with ⟨q3, h⟩ | ⟨q3, h⟩
    · obtain ⟨r_2, q4, h⟩ := bnd_some h
      obtain rfl := Option.some.inj h
      exact ret_go (k := (k + 8)) Tryz.func4 Tryz.ntmps4 (by kernel_rfl) (by kernel_rfl) (lb rfl) (adv [([], 1, 1, .ret (pB r_1)), ([], 1, 3, .eq (pB false)), ([], 1, 6, .eq (pI (rF.l.length : Int))), ([], 1, 9, .eq (pB true)), ([], 2, 0, .ret (pB r_2))]) (ex := .ret) (r := (pB r_2)) (by kernel_rfl) rfl (by kernel_rfl) (allC (law21Plain_ok (k + 7) j _ q1) (allC (cg q2) (allC (len_ob (rfl : (rF.l.map cS) = rF.l.map cS)) (allC (cg q3) (allC (shownX_ok (k + 8)  _ q4) allN))))) (by kernel_rfl) allN
    · rcases bif_some h with ⟨q4, h⟩ | ⟨q4, h⟩
      · obtain ⟨r_2, q5, h⟩ := bnd_some h
        obtain rfl := Option.some.inj h
        exact ret_go (k := (k + 8)) Tryz.func4 Tryz.ntmps4 (by kernel_rfl) (by kernel_rfl) (lb rfl) (adv [([], 1, 1, .ret (pB r_1)), ([], 1, 3, .eq (pB false)), ([], 1, 6, .eq (pI (rF.l.length : Int))), ([], 1, 9, .eq (pB false)), ([], 1, 14, .eq (pB true)), ([], 2, 0, .ret (pB r_2))]) (ex := .ret) (r := (pB r_2)) (by kernel_rfl) rfl (by kernel_rfl) (allC (law21Plain_ok (k + 7) j _ q1) (allC (cg q2) (allC (len_ob (rfl : (rF.l.map cS) = rF.l.map cS)) (allC (cg q3) (allC (cg q4) (allC (shownX_ok (k + 8)  _ q5) allN)))))) (by kernel_rfl) allN
      · rcases bif_some h with ⟨q5, h⟩ | ⟨q5, h⟩
        · obtain ⟨r_2, q6, h⟩ := bnd_some h
          obtain rfl := Option.some.inj h
          exact ret_go (k := (k + 8)) Tryz.func4 Tryz.ntmps4 (by kernel_rfl) (by kernel_rfl) (lb rfl) (adv [([], 1, 1, .ret (pB r_1)), ([], 1, 3, .eq (pB false)), ([], 1, 6, .eq (pI (rF.l.length : Int))), ([], 1, 9, .eq (pB false)), ([], 1, 14, .eq (pB false)), ([], 1, 19, .eq (pB true)), ([], 2, 0, .ret (pB r_2))]) (ex := .ret) (r := (pB r_2)) (by kernel_rfl) rfl (by kernel_rfl) (allC (law21Plain_ok (k + 7) j _ q1) (allC (cg q2) (allC (len_ob (rfl : (rF.l.map cS) = rF.l.map cS)) (allC (cg q3) (allC (cg q4) (allC (cg q5) (allC (shownX_ok (k + 8)  _ q6) allN))))))) (by kernel_rfl) allN
        · obtain ⟨r_2, q6, h⟩ := bnd_some h
          rcases bif_some h with ⟨q7, h⟩ | ⟨q7, h⟩
          · obtain ⟨r_3, q8, h⟩ := bnd_some h
            obtain rfl := Option.some.inj h
            exact ret_go (k := (k + 8)) Tryz.func4 Tryz.ntmps4 (by kernel_rfl) (by kernel_rfl) (lb rfl) (adv [([], 1, 1, .ret (pB r_1)), ([], 1, 3, .eq (pB false)), ([], 1, 6, .eq (pI (rF.l.length : Int))), ([], 1, 9, .eq (pB false)), ([], 1, 14, .eq (pB false)), ([], 1, 19, .eq (pB false)), ([], 1, 20, .ret (pB r_2)), ([], 1, 22, .eq (pB true)), ([], 2, 0, .ret (pB r_3))]) (ex := .ret) (r := (pB r_3)) (by kernel_rfl) rfl (by kernel_rfl) (allC (law21Plain_ok (k + 7) j _ q1) (allC (cg q2) (allC (len_ob (rfl : (rF.l.map cS) = rF.l.map cS)) (allC (cg q3) (allC (cg q4) (allC (cg q5) (allC (shownX_ok (k + 8)  _ q6) (allC (cg q7) (allC (shownX_ok (k + 8)  _ q8) allN))))))))) (by kernel_rfl) allN
          · obtain ⟨r_3, q8, h⟩ := bnd_some h
            obtain ⟨r_4, q9, h⟩ := bnd_some h
            obtain ⟨r_5, q10, h⟩ := bnd_some h
            rcases bif_some h with ⟨q11, h⟩ | ⟨q11, h⟩
            · obtain ⟨r_6, q12, h⟩ := bnd_some h
              obtain ⟨r_7, q13, h⟩ := bnd_some h
              obtain ⟨r_8, q14, h⟩ := bnd_some h
              obtain ⟨r_9, q15, h⟩ := bnd_some h
              obtain ⟨r_10, q16, h⟩ := bnd_some h
              obtain ⟨r_11, q17, h⟩ := bnd_some h
              obtain rfl := Option.some.inj h
              exact ret_go (k := (k + 8)) Tryz.func4 Tryz.ntmps4 (by kernel_rfl) (by kernel_rfl) (lb rfl) (adv [([], 1, 1, .ret (pB r_1)), ([], 1, 3, .eq (pB false)), ([], 1, 6, .eq (pI (rF.l.length : Int))), ([], 1, 9, .eq (pB false)), ([], 1, 14, .eq (pB false)), ([], 1, 19, .eq (pB false)), ([], 1, 20, .ret (pB r_2)), ([], 1, 22, .eq (pB false)), ([], 3, 1, .ret (.agg [(pI r_3.kind), (pI r_3.fd), (pI r_3.fd2), (pI r_3.nF), (pI r_3.modeF), (pI r_3.flags), (pS r_3.path), (pS r_3.path2), (pS r_3.data)])), ([], 3, 3, .ret (JobD.a r_4)), ([], 3, 4, .ret (.agg [(pI r_5.kind), (pI r_5.fd), (pI r_5.fd2), (pI r_5.nF), (pI r_5.modeF), (pI r_5.flags), (pS r_5.path), (pS r_5.path2), (pS r_5.data)])), ([], 3, 6, .eq (pB true)), ([], 3, 9, .ret (JobD.a r_6)), ([], 3, 10, .ret (JobD.a r_7)), ([], 3, 12, .ret (JobD.a r_8)), ([], 3, 14, .ret (.agg [(pI r_9.e), (pI r_9.nF), (pS r_9.s), (.list 1 false (r_9.l.map cS)), (pI r_9.i.ino), (pI r_9.i.kind), (pI r_9.i.modeF), (pI r_9.i.owner), (pI r_9.i.links), (pI r_9.i.size)])), ([], 3, 15, .ret (JobD.a r_10)), ([], 3, 16, .ret (pB r_11))]) (ex := .ret) (r := (pB r_11)) (by kernel_rfl) rfl (by kernel_rfl) (allC (law21Plain_ok (k + 7) j _ q1) (allC (cg q2) (allC (len_ob (rfl : (rF.l.map cS) = rF.l.map cS)) (allC (cg q3) (allC (cg q4) (allC (cg q5) (allC (shownX_ok (k + 8)  _ q6) (allC (cg q7) (allC (publishAsk_ok (k + 5) j _ q8) (allC (law21Work_ok (k + 7) j _ q9) (allC (ref21Ask_ok (k + 6) r_4 _ q10) (allC (cg q11) (allC (publishTell_ok k j rF _ q12) (allC (law21Work_ok (k + 7) r_6 _ q13) (allC (law21Work_ok (k + 7) j _ q14) (allC (law21Reply_ok (k + 7) rF _ q15) (allC (ref21Tell_ok (k + 3) r_8 r_9 _ q16) (allC (ref15Same_ok (k + 5) r_7 r_10 _ q17) allN)))))))))))))))))) (by kernel_rfl) allN
            · obtain rfl := Option.some.inj h
              exact ret_go (k := (k + 8)) Tryz.func4 Tryz.ntmps4 (by kernel_rfl) (by kernel_rfl) (lb rfl) (adv [([], 1, 1, .ret (pB r_1)), ([], 1, 3, .eq (pB false)), ([], 1, 6, .eq (pI (rF.l.length : Int))), ([], 1, 9, .eq (pB false)), ([], 1, 14, .eq (pB false)), ([], 1, 19, .eq (pB false)), ([], 1, 20, .ret (pB r_2)), ([], 1, 22, .eq (pB false)), ([], 3, 1, .ret (.agg [(pI r_3.kind), (pI r_3.fd), (pI r_3.fd2), (pI r_3.nF), (pI r_3.modeF), (pI r_3.flags), (pS r_3.path), (pS r_3.path2), (pS r_3.data)])), ([], 3, 3, .ret (JobD.a r_4)), ([], 3, 4, .ret (.agg [(pI r_5.kind), (pI r_5.fd), (pI r_5.fd2), (pI r_5.nF), (pI r_5.modeF), (pI r_5.flags), (pS r_5.path), (pS r_5.path2), (pS r_5.data)])), ([], 3, 6, .eq (pB false))]) (ex := .ret) (r := (pB false)) (by kernel_rfl) rfl (by kernel_rfl) (allC (law21Plain_ok (k + 7) j _ q1) (allC (cg q2) (allC (len_ob (rfl : (rF.l.map cS) = rF.l.map cS)) (allC (cg q3) (allC (cg q4) (allC (cg q5) (allC (shownX_ok (k + 8)  _ q6) (allC (cg q7) (allC (publishAsk_ok (k + 5) j _ q8) (allC (law21Work_ok (k + 7) j _ q9) (allC (ref21Ask_ok (k + 6) r_4 _ q10) (allC (cg q11) allN)))))))))))) (by kernel_rfl) allN
end Go.Proofs.YtaenhodkpidocaaGreatDoor.Den
