/- Texts joined by a program of mine (pack.py): DenF14 DenF15 DenF16 DenF17. -/
import Derived.Test.YtaenhodkpidocaaGreatDoorDenF13
set_option linter.unusedVariables false
set_option linter.unusedSimpArgs false
namespace Go.Proofs.YtaenhodkpidocaaGreatDoor.Den
open Go Go.RowKit
def publishWriterShut (w : WriterD) : Option CalD :=
 some (CalD.mk (2 : Int) w.job.fd (0 : Int) (0 : Int) (0 : Int) (0 : Int) (bs []) (bs []) (bs []))
set_option maxRecDepth 100000 in
theorem publishWriterShut_ok (k : Nat) (w : WriterD) (r : CalD) (h : publishWriterShut w = some r) : run0 (k + 1) 82 [(JobD.a w.job)] = some (.agg [(pI r.kind), (pI r.fd), (pI r.fd2), (pI r.nF), (pI r.modeF), (pI r.flags), (pS r.path), (pS r.path2), (pS r.data)]) := by
  unfold publishWriterShut at h
  obtain rfl := Option.some.inj h
  exact ret_go (k := k) Tryz.func82 Tryz.ntmps82 (by kernel_rfl) (by kernel_rfl) (lb rfl) (adv []) (ex := .ret) (r := (.agg [(pI (2 : Int)), (pI w.job.fd), (pI (0 : Int)), (pI (0 : Int)), (pI (0 : Int)), (pI (0 : Int)), (pS (bs [])), (pS (bs [])), (pS (bs []))])) (by kernel_rfl) rfl (by kernel_rfl) allN (by kernel_rfl) allN
def publishWriterRename (w : WriterD) : Option CalD :=
 some (CalD.mk (8 : Int) (-1 : Int) (-1 : Int) (0 : Int) (0 : Int) (0 : Int) w.job.path2 w.job.path (bs []))
set_option maxRecDepth 100000 in
theorem publishWriterRename_ok (k : Nat) (w : WriterD) (r : CalD) (h : publishWriterRename w = some r) : run0 (k + 1) 84 [(JobD.a w.job)] = some (.agg [(pI r.kind), (pI r.fd), (pI r.fd2), (pI r.nF), (pI r.modeF), (pI r.flags), (pS r.path), (pS r.path2), (pS r.data)]) := by
  unfold publishWriterRename at h
  obtain rfl := Option.some.inj h
  exact ret_go (k := k) Tryz.func84 Tryz.ntmps84 (by kernel_rfl) (by kernel_rfl) (lb rfl) (adv []) (ex := .ret) (r := (.agg [(pI (8 : Int)), (pI (-1 : Int)), (pI (-1 : Int)), (pI (0 : Int)), (pI (0 : Int)), (pI (0 : Int)), (pS w.job.path2), (pS w.job.path), (pS (bs []))])) (by kernel_rfl) rfl (by kernel_rfl) allN (by kernel_rfl) allN
def publishWriterUnlink (w : WriterD) : Option CalD :=
 some (CalD.mk (7 : Int) (-1 : Int) (0 : Int) (0 : Int) (0 : Int) (0 : Int) w.job.path2 (bs []) (bs []))
set_option maxRecDepth 100000 in
theorem publishWriterUnlink_ok (k : Nat) (w : WriterD) (r : CalD) (h : publishWriterUnlink w = some r) : run0 (k + 1) 86 [(JobD.a w.job)] = some (.agg [(pI r.kind), (pI r.fd), (pI r.fd2), (pI r.nF), (pI r.modeF), (pI r.flags), (pS r.path), (pS r.path2), (pS r.data)]) := by
  unfold publishWriterUnlink at h
  obtain rfl := Option.some.inj h
  exact ret_go (k := k) Tryz.func86 Tryz.ntmps86 (by kernel_rfl) (by kernel_rfl) (lb rfl) (adv []) (ex := .ret) (r := (.agg [(pI (7 : Int)), (pI (-1 : Int)), (pI (0 : Int)), (pI (0 : Int)), (pI (0 : Int)), (pI (0 : Int)), (pS w.job.path2), (pS (bs [])), (pS (bs []))])) (by kernel_rfl) rfl (by kernel_rfl) allN (by kernel_rfl) allN
def publishAsk (j : JobD) : Option CalD :=
 (publishOf j.kind j.p j.phase j.fd j.nF j.modeF j.tries j.atF j.flags j.path j.path2 j.text j.names j.stack j.draws j.done j.exit j.out j.e).bind fun X_1 => match X_1 with
 | .inl () => (
 some (CalD.mk (0 : Int) (0 : Int) (0 : Int) (0 : Int) (0 : Int) (0 : Int) (bs []) (bs []) (bs []))
 )
 | .inr (.inl ()) => (
 (publishWriterOpen (WriterD.mk j)).bind fun r_6 =>
 some r_6
 )
 | .inr (.inr (.inl (r_1, r_2))) => (
 (publishWriterHead (WriterD.mk j)).bind fun r_6 =>
 some r_6
 )
 | .inr (.inr (.inr (.inl (r_3, r_4)))) => (
 (publishWriterTail (WriterD.mk j)).bind fun r_6 =>
 some r_6
 )
 | .inr (.inr (.inr (.inr (.inl r_5)))) => (
 (publishWriterShut (WriterD.mk j)).bind fun r_6 =>
 some r_6
 )
 | .inr (.inr (.inr (.inr (.inr (.inl ()))))) => (
 (publishWriterRename (WriterD.mk j)).bind fun r_6 =>
 some r_6
 )
 | .inr (.inr (.inr (.inr (.inr (.inr (())))))) => (
 (publishWriterUnlink (WriterD.mk j)).bind fun r_6 =>
 some r_6
 )
set_option maxRecDepth 100000 in
theorem publishAsk_ok (k : Nat) (j : JobD) (r : CalD) (h : publishAsk j = some r) : run0 (k + 3) 14 [(JobD.a j)] = some (.agg [(pI r.kind), (pI r.fd), (pI r.fd2), (pI r.nF), (pI r.modeF), (pI r.flags), (pS r.path), (pS r.path2), (pS r.data)]) := by
  unfold publishAsk at h
  obtain ⟨X_1, q1, h⟩ := bnd_some h
  rcases X_1 with ⟨⟩ | ⟨⟩ | ⟨r_1, r_2⟩ | ⟨r_3, r_4⟩ | r_5 | ⟨⟩ | ⟨⟩
  · try dsimp only at h
    obtain rfl := Option.some.inj h
    exact ret_go (k := (k + 2)) Tryz.func14 Tryz.ntmps14 (by kernel_rfl) (by kernel_rfl) (lb rfl) (adv [([], 1, 1, .retS (.tup [(.agg [(.v .nilFunc), (.v .nilFunc)]), (pB false)]) [] [])]) (ex := .ret) (r := (.agg [(pI (0 : Int)), (pI (0 : Int)), (pI (0 : Int)), (pI (0 : Int)), (pI (0 : Int)), (pI (0 : Int)), (pS (bs [])), (pS (bs [])), (pS (bs []))])) (by kernel_rfl) rfl (by kernel_rfl) (allC (publishOf_ok k j.kind j.p j.phase j.fd j.nF j.modeF j.tries j.atF j.flags j.path j.path2 j.text j.names j.stack j.draws j.done j.exit j.out j.e _ q1) allN) (by kernel_rfl) allN
  · try dsimp only at h
    obtain ⟨r_6, q2, h⟩ := bnd_some h
    obtain rfl := Option.some.inj h
    exact ret_go (k := (k + 2)) Tryz.func14 Tryz.ntmps14 (by kernel_rfl) (by kernel_rfl) (lb rfl) (adv [([], 1, 1, .retS (.tup [(.agg [(.clo 77 []), (.clo 78 [])]), (pB true)]) [] []), ([], 3, 4, .ret (.agg [(pI r_6.kind), (pI r_6.fd), (pI r_6.fd2), (pI r_6.nF), (pI r_6.modeF), (pI r_6.flags), (pS r_6.path), (pS r_6.path2), (pS r_6.data)]))]) (ex := .ret) (r := (.agg [(pI r_6.kind), (pI r_6.fd), (pI r_6.fd2), (pI r_6.nF), (pI r_6.modeF), (pI r_6.flags), (pS r_6.path), (pS r_6.path2), (pS r_6.data)])) (by kernel_rfl) rfl (by kernel_rfl) (allC (publishOf_ok k j.kind j.p j.phase j.fd j.nF j.modeF j.tries j.atF j.flags j.path j.path2 j.text j.names j.stack j.draws j.done j.exit j.out j.e _ q1) (allC (publishWriterOpen_ok (k + 1) (WriterD.mk j) _ q2) allN)) (by kernel_rfl) allN
  · try dsimp only at h
    obtain ⟨r_6, q2, h⟩ := bnd_some h
    obtain rfl := Option.some.inj h
    exact ret_go (k := (k + 2)) Tryz.func14 Tryz.ntmps14 (by kernel_rfl) (by kernel_rfl) (lb rfl) (adv [([], 1, 1, .retS (.tup [(.agg [(.clo 79 []), (.clo 142 [(.ptr [0, TAG] 1 0 0), (.ptr [1, TAG] 1 0 0)])]), (pB true)]) [some ⟨1, 3, [[(pI r_1)]], true, false⟩, some ⟨1, 3, [[(pI r_2)]], true, false⟩] [0, 0]), ([], 3, 4, .ret (.agg [(pI r_6.kind), (pI r_6.fd), (pI r_6.fd2), (pI r_6.nF), (pI r_6.modeF), (pI r_6.flags), (pS r_6.path), (pS r_6.path2), (pS r_6.data)]))]) (ex := .ret) (r := (.agg [(pI r_6.kind), (pI r_6.fd), (pI r_6.fd2), (pI r_6.nF), (pI r_6.modeF), (pI r_6.flags), (pS r_6.path), (pS r_6.path2), (pS r_6.data)])) (by kernel_rfl) rfl (by kernel_rfl) (allC (publishOf_ok k j.kind j.p j.phase j.fd j.nF j.modeF j.tries j.atF j.flags j.path j.path2 j.text j.names j.stack j.draws j.done j.exit j.out j.e _ q1) (allC (publishWriterHead_ok (k + 1) (WriterD.mk j) _ q2) allN)) (by kernel_rfl) allN
  · try dsimp only at h
    obtain ⟨r_6, q2, h⟩ := bnd_some h
    obtain rfl := Option.some.inj h
    exact ret_go (k := (k + 2)) Tryz.func14 Tryz.ntmps14 (by kernel_rfl) (by kernel_rfl) (lb rfl) (adv [([], 1, 1, .retS (.tup [(.agg [(.clo 81 []), (.clo 142 [(.ptr [0, TAG] 1 0 0), (.ptr [1, TAG] 1 0 0)])]), (pB true)]) [some ⟨1, 3, [[(pI r_3)]], true, false⟩, some ⟨1, 3, [[(pI r_4)]], true, false⟩] [0, 0]), ([], 3, 4, .ret (.agg [(pI r_6.kind), (pI r_6.fd), (pI r_6.fd2), (pI r_6.nF), (pI r_6.modeF), (pI r_6.flags), (pS r_6.path), (pS r_6.path2), (pS r_6.data)]))]) (ex := .ret) (r := (.agg [(pI r_6.kind), (pI r_6.fd), (pI r_6.fd2), (pI r_6.nF), (pI r_6.modeF), (pI r_6.flags), (pS r_6.path), (pS r_6.path2), (pS r_6.data)])) (by kernel_rfl) rfl (by kernel_rfl) (allC (publishOf_ok k j.kind j.p j.phase j.fd j.nF j.modeF j.tries j.atF j.flags j.path j.path2 j.text j.names j.stack j.draws j.done j.exit j.out j.e _ q1) (allC (publishWriterTail_ok (k + 1) (WriterD.mk j) _ q2) allN)) (by kernel_rfl) allN
  · try dsimp only at h
    obtain ⟨r_6, q2, h⟩ := bnd_some h
    obtain rfl := Option.some.inj h
    exact ret_go (k := (k + 2)) Tryz.func14 Tryz.ntmps14 (by kernel_rfl) (by kernel_rfl) (lb rfl) (adv [([], 1, 1, .retS (.tup [(.agg [(.clo 82 []), (.clo 143 [(.ptr [0, TAG] 1 0 0)])]), (pB true)]) [some ⟨1, 3, [[(pI r_5)]], true, false⟩] [0]), ([], 3, 4, .ret (.agg [(pI r_6.kind), (pI r_6.fd), (pI r_6.fd2), (pI r_6.nF), (pI r_6.modeF), (pI r_6.flags), (pS r_6.path), (pS r_6.path2), (pS r_6.data)]))]) (ex := .ret) (r := (.agg [(pI r_6.kind), (pI r_6.fd), (pI r_6.fd2), (pI r_6.nF), (pI r_6.modeF), (pI r_6.flags), (pS r_6.path), (pS r_6.path2), (pS r_6.data)])) (by kernel_rfl) rfl (by kernel_rfl) (allC (publishOf_ok k j.kind j.p j.phase j.fd j.nF j.modeF j.tries j.atF j.flags j.path j.path2 j.text j.names j.stack j.draws j.done j.exit j.out j.e _ q1) (allC (publishWriterShut_ok (k + 1) (WriterD.mk j) _ q2) allN)) (by kernel_rfl) allN
  · try dsimp only at h
    obtain ⟨r_6, q2, h⟩ := bnd_some h
    obtain rfl := Option.some.inj h
    exact ret_go (k := (k + 2)) Tryz.func14 Tryz.ntmps14 (by kernel_rfl) (by kernel_rfl) (lb rfl) (adv [([], 1, 1, .retS (.tup [(.agg [(.clo 84 []), (.clo 85 [])]), (pB true)]) [] []), ([], 3, 4, .ret (.agg [(pI r_6.kind), (pI r_6.fd), (pI r_6.fd2), (pI r_6.nF), (pI r_6.modeF), (pI r_6.flags), (pS r_6.path), (pS r_6.path2), (pS r_6.data)]))]) (ex := .ret) (r := (.agg [(pI r_6.kind), (pI r_6.fd), (pI r_6.fd2), (pI r_6.nF), (pI r_6.modeF), (pI r_6.flags), (pS r_6.path), (pS r_6.path2), (pS r_6.data)])) (by kernel_rfl) rfl (by kernel_rfl) (allC (publishOf_ok k j.kind j.p j.phase j.fd j.nF j.modeF j.tries j.atF j.flags j.path j.path2 j.text j.names j.stack j.draws j.done j.exit j.out j.e _ q1) (allC (publishWriterRename_ok (k + 1) (WriterD.mk j) _ q2) allN)) (by kernel_rfl) allN
  · try dsimp only at h
    obtain ⟨r_6, q2, h⟩ := bnd_some h
    obtain rfl := Option.some.inj h
    exact ret_go (k := (k + 2)) Tryz.func14 Tryz.ntmps14 (by kernel_rfl) (by kernel_rfl) (lb rfl) (adv [([], 1, 1, .retS (.tup [(.agg [(.clo 86 []), (.clo 87 [])]), (pB true)]) [] []), ([], 3, 4, .ret (.agg [(pI r_6.kind), (pI r_6.fd), (pI r_6.fd2), (pI r_6.nF), (pI r_6.modeF), (pI r_6.flags), (pS r_6.path), (pS r_6.path2), (pS r_6.data)]))]) (ex := .ret) (r := (.agg [(pI r_6.kind), (pI r_6.fd), (pI r_6.fd2), (pI r_6.nF), (pI r_6.modeF), (pI r_6.flags), (pS r_6.path), (pS r_6.path2), (pS r_6.data)])) (by kernel_rfl) rfl (by kernel_rfl) (allC (publishOf_ok k j.kind j.p j.phase j.fd j.nF j.modeF j.tries j.atF j.flags j.path j.path2 j.text j.names j.stack j.draws j.done j.exit j.out j.e _ q1) (allC (publishWriterUnlink_ok (k + 1) (WriterD.mk j) _ q2) allN)) (by kernel_rfl) allN
def publishWriterTo (w : WriterD) (phase : Int) : Option JobD :=
 some (JobD.mk w.job.kind w.job.p phase w.job.fd w.job.nF w.job.modeF w.job.tries w.job.atF w.job.flags w.job.path w.job.path2 w.job.text w.job.names w.job.stack w.job.draws w.job.done w.job.exit w.job.out w.job.e)
set_option maxRecDepth 100000 in
theorem publishWriterTo_ok (k : Nat) (w : WriterD) (phase : Int) (r : JobD) (h : publishWriterTo w phase = some r) : run0 (k + 1) 140 [(JobD.a w.job), (pI phase)] = some (JobD.a r) := by
  unfold publishWriterTo at h
  obtain rfl := Option.some.inj h
  exact ret_go (k := k) Tryz.func140 Tryz.ntmps140 (by kernel_rfl) (by kernel_rfl) (lb rfl) (adv []) (ex := .ret) (r := (.agg [(pI w.job.kind), (pI w.job.p), (pI phase), (pI w.job.fd), (pI w.job.nF), (pI w.job.modeF), (pI w.job.tries), (pI w.job.atF), (pI w.job.flags), (pS w.job.path), (pS w.job.path2), (pS w.job.text), (.list 1 false (w.job.names.map cS)), (.list 3 false (w.job.stack.map FrameD.c)), (.list 1 false (w.job.draws.map cI)), (pB w.job.done), (pI w.job.exit), (pS w.job.out), (pI w.job.e)])) (by kernel_rfl) rfl (by kernel_rfl) allN (by kernel_rfl) allN
def jobAgain (j : JobD) (path : ByteArray) : Option (JobD × Bool) :=
 bif (decide (j.tries < (3 : Int))) then (
 some ((JobD.mk j.kind j.p j.phase j.fd j.nF j.modeF (w64 (j.tries + (1 : Int))) j.atF j.flags j.path j.path2 j.text j.names j.stack j.draws j.done j.exit j.out j.e), true)
 ) else (
 (jobFail j path (32 : Int)).bind fun r_1 =>
 some (r_1, false)
 )
set_option maxRecDepth 100000 in
theorem jobAgain_ok (k : Nat) (j : JobD) (path : ByteArray) (r : (JobD × Bool)) (h : jobAgain j path = some r) : run0 (k + 2) 141 [(JobD.a j), (pS path)] = some (.tup [(JobD.a r.1), (pB r.2)]) := by
  unfold jobAgain at h
  rcases bif_some h with ⟨q1, h⟩ | ⟨q1, h⟩
  · obtain rfl := Option.some.inj h
    exact ret_go (k := (k + 1)) Tryz.func141 Tryz.ntmps141 (by kernel_rfl) (by kernel_rfl) (lb rfl) (adv [([], 1, 2, .eq (pB true))]) (ex := .ret) (r := (.tup [(.agg [(pI j.kind), (pI j.p), (pI j.phase), (pI j.fd), (pI j.nF), (pI j.modeF), (pI (w64 (j.tries + (1 : Int)))), (pI j.atF), (pI j.flags), (pS j.path), (pS j.path2), (pS j.text), (.list 1 false (j.names.map cS)), (.list 3 false (j.stack.map FrameD.c)), (.list 1 false (j.draws.map cI)), (pB j.done), (pI j.exit), (pS j.out), (pI j.e)]), (pB true)])) (by kernel_rfl) rfl (by kernel_rfl) (allC (cg q1) allN) (by kernel_rfl) allN
  · obtain ⟨r_1, q2, h⟩ := bnd_some h
    obtain rfl := Option.some.inj h
    exact ret_go (k := (k + 1)) Tryz.func141 Tryz.ntmps141 (by kernel_rfl) (by kernel_rfl) (lb rfl) (adv [([], 1, 2, .eq (pB false)), ([], 4, 2, .ret (JobD.a r_1))]) (ex := .ret) (r := (.tup [(JobD.a r_1), (pB false)])) (by kernel_rfl) rfl (by kernel_rfl) (allC (cg q1) (allC (jobFail_ok k j path (32 : Int) _ q2) allN)) (by kernel_rfl) allN
def publishWriterOpened (w : WriterD) (rF : ReplyD) : Option JobD :=
 bif (rF.e == (0 : Int)) then (
 (publishWriterTo (WriterD.mk (JobD.mk w.job.kind w.job.p w.job.phase rF.nF w.job.nF w.job.modeF w.job.tries w.job.atF w.job.flags w.job.path w.job.path2 w.job.text w.job.names w.job.stack w.job.draws w.job.done w.job.exit w.job.out w.job.e)) (1 : Int)).bind fun r_1 =>
 some r_1
 ) else (
 bif (rF.e == (3 : Int)) then (
 (jobAgain w.job w.job.path).bind fun (r_1, r_2) =>
 bif (!r_2) then (
 some r_1
 ) else (
 (publishNamed r_1).bind fun r_3 =>
 some r_3
 )
 ) else (
 (jobFail w.job w.job.path2 rF.e).bind fun r_1 =>
 some r_1
 )
 )
set_option maxRecDepth 100000 in
theorem publishWriterOpened_ok (k : Nat) (w : WriterD) (rF : ReplyD) (r : JobD) (h : publishWriterOpened w rF = some r) : run0 (k + 7) 78 [(JobD.a w.job), (.agg [(pI rF.e), (pI rF.nF), (pS rF.s), (.list 1 false (rF.l.map cS)), (pI rF.i.ino), (pI rF.i.kind), (pI rF.i.modeF), (pI rF.i.owner), (pI rF.i.links), (pI rF.i.size)])] = some (JobD.a r) := by
  unfold publishWriterOpened at h
  rcases bif_some h with ⟨q1, h⟩ | ⟨q1, h⟩
  · obtain ⟨r_1, q2, h⟩ := bnd_some h
    obtain rfl := Option.some.inj h
    exact ret_go (k := (k + 6)) Tryz.func78 Tryz.ntmps78 (by kernel_rfl) (by kernel_rfl) (lb rfl) (adv [([], 2, 1, .eq (pB true)), ([], 4, 1, .ret (JobD.a r_1))]) (ex := .ret) (r := (JobD.a r_1)) (by kernel_rfl) rfl (by kernel_rfl) (allC (cg q1) (allC (publishWriterTo_ok (k + 5) (WriterD.mk (JobD.mk w.job.kind w.job.p w.job.phase rF.nF w.job.nF w.job.modeF w.job.tries w.job.atF w.job.flags w.job.path w.job.path2 w.job.text w.job.names w.job.stack w.job.draws w.job.done w.job.exit w.job.out w.job.e)) (1 : Int) _ q2) allN)) (by kernel_rfl) allN
  · rcases bif_some h with ⟨q2, h⟩ | ⟨q2, h⟩
    · obtain ⟨⟨r_1, r_2⟩, q3, h⟩ := bnd_some h
      try dsimp only at h
      rcases bif_some h with ⟨q4, h⟩ | ⟨q4, h⟩
      · obtain rfl := Option.some.inj h
        exact ret_go (k := (k + 6)) Tryz.func78 Tryz.ntmps78 (by kernel_rfl) (by kernel_rfl) (lb rfl) (adv [([], 2, 1, .eq (pB false)), ([], 5, 1, .eq (pB true)), ([], 6, 5, .ret (.tup [(JobD.a r_1), (pB r_2)])), ([], 7, 1, .eq (pB true))]) (ex := .ret) (r := (JobD.a r_1)) (by kernel_rfl) rfl (by kernel_rfl) (allC (cg q1) (allC (cg q2) (allC (jobAgain_ok (k + 4) w.job w.job.path _ q3) (allC (cg q4) allN)))) (by kernel_rfl) allN
      · obtain ⟨r_3, q5, h⟩ := bnd_some h
        obtain rfl := Option.some.inj h
        exact ret_go (k := (k + 6)) Tryz.func78 Tryz.ntmps78 (by kernel_rfl) (by kernel_rfl) (lb rfl) (adv [([], 2, 1, .eq (pB false)), ([], 5, 1, .eq (pB true)), ([], 6, 5, .ret (.tup [(JobD.a r_1), (pB r_2)])), ([], 7, 1, .eq (pB false)), ([], 9, 1, .ret (JobD.a r_3))]) (ex := .ret) (r := (JobD.a r_3)) (by kernel_rfl) rfl (by kernel_rfl) (allC (cg q1) (allC (cg q2) (allC (jobAgain_ok (k + 4) w.job w.job.path _ q3) (allC (cg q4) (allC (publishNamed_ok k r_1 _ q5) allN))))) (by kernel_rfl) allN
    · obtain ⟨r_1, q3, h⟩ := bnd_some h
      obtain rfl := Option.some.inj h
      exact ret_go (k := (k + 6)) Tryz.func78 Tryz.ntmps78 (by kernel_rfl) (by kernel_rfl) (lb rfl) (adv [([], 2, 1, .eq (pB false)), ([], 5, 1, .eq (pB false)), ([], 10, 7, .ret (JobD.a r_1))]) (ex := .ret) (r := (JobD.a r_1)) (by kernel_rfl) rfl (by kernel_rfl) (allC (cg q1) (allC (cg q2) (allC (jobFail_ok (k + 5) w.job w.job.path2 rF.e _ q3) allN))) (by kernel_rfl) allN
def publishOr1 (p0 : Int) (p1 : Int) (p2 : Int) (p3 : Int) (p4 : Int) (p5 : Int) (p6 : Int) (p7 : Int) (p8 : Int) (p9 : ByteArray) (p10 : ByteArray) (p11 : ByteArray) (p12 : (List ByteArray)) (p13 : (List FrameD)) (p14 : (List Int)) (p15 : Bool) (p16 : Int) (p17 : ByteArray) (p18 : Int) (p19 : Int) (p20 : Int) (p21 : ByteArray) (p22 : (List ByteArray)) (p23 : Int) (p24 : Int) (p25 : Int) (p26 : Int) (p27 : Int) (p28 : Int) (p29 : Int) (p30 : Int) : Option (Int × Int × Int × Int × Int × Int × Int × Int × Int × ByteArray × ByteArray × ByteArray × (List ByteArray) × (List FrameD) × (List Int) × Bool × Int × ByteArray × Int × Int × Int) :=
 bif (p19 == (0 : Int)) then (
 (publishWriterTo (WriterD.mk (JobD.mk p0 p1 p2 p3 p4 p5 p6 p7 p8 p9 p10 p11 p12 p13 p14 p15 p16 p17 p18)) p29).bind fun r_1 =>
 some (r_1.kind, r_1.p, r_1.phase, r_1.fd, r_1.nF, r_1.modeF, r_1.tries, r_1.atF, r_1.flags, r_1.path, r_1.path2, r_1.text, r_1.names, r_1.stack, r_1.draws, r_1.done, r_1.exit, r_1.out, r_1.e, p29, p30)
 ) else (
 (publishWriterTo (WriterD.mk (JobD.mk p0 p1 p2 p3 p19 p5 p6 p7 p8 p9 p10 p11 p12 p13 p14 p15 p16 p17 p18)) p30).bind fun r_1 =>
 some (r_1.kind, r_1.p, r_1.phase, r_1.fd, r_1.nF, r_1.modeF, r_1.tries, r_1.atF, r_1.flags, r_1.path, r_1.path2, r_1.text, r_1.names, r_1.stack, r_1.draws, r_1.done, r_1.exit, r_1.out, r_1.e, p29, p30)
 )
def publishOr1_out : (Int × Int × Int × Int × Int × Int × Int × Int × Int × ByteArray × ByteArray × ByteArray × (List ByteArray) × (List FrameD) × (List Int) × Bool × Int × ByteArray × Int × Int × Int) → PV × List (Option Blk) × List Nat
 | (r0, r1, r2, r3, r4, r5, r6, r7, r8, r9, r10, r11, r12, r13, r14, r15, r16, r17, r18, r19, r20) => ((.agg [(pI r0), (pI r1), (pI r2), (pI r3), (pI r4), (pI r5), (pI r6), (pI r7), (pI r8), (pS r9), (pS r10), (pS r11), (.list 1 false (r12.map cS)), (.list 3 false (r13.map FrameD.c)), (.list 1 false (r14.map cI)), (pB r15), (pI r16), (pS r17), (pI r18)]), [some ⟨1, 3, [[(pI r19)]], true, false⟩, some ⟨1, 3, [[(pI r20)]], true, false⟩], [0, 0])
set_option maxRecDepth 100000 in
theorem publishOr1_ok (k : Nat) (p0 : Int) (p1 : Int) (p2 : Int) (p3 : Int) (p4 : Int) (p5 : Int) (p6 : Int) (p7 : Int) (p8 : Int) (p9 : ByteArray) (p10 : ByteArray) (p11 : ByteArray) (p12 : (List ByteArray)) (p13 : (List FrameD)) (p14 : (List Int)) (p15 : Bool) (p16 : Int) (p17 : ByteArray) (p18 : Int) (p19 : Int) (p20 : Int) (p21 : ByteArray) (p22 : (List ByteArray)) (p23 : Int) (p24 : Int) (p25 : Int) (p26 : Int) (p27 : Int) (p28 : Int) (p29 : Int) (p30 : Int) (r : (Int × Int × Int × Int × Int × Int × Int × Int × Int × ByteArray × ByteArray × ByteArray × (List ByteArray) × (List FrameD) × (List Int) × Bool × Int × ByteArray × Int × Int × Int)) (h : publishOr1 p0 p1 p2 p3 p4 p5 p6 p7 p8 p9 p10 p11 p12 p13 p14 p15 p16 p17 p18 p19 p20 p21 p22 p23 p24 p25 p26 p27 p28 p29 p30 = some r) : runS0 (k + 2) 142 [(.agg [(pI p0), (pI p1), (pI p2), (pI p3), (pI p4), (pI p5), (pI p6), (pI p7), (pI p8), (pS p9), (pS p10), (pS p11), (.list 1 false (p12.map cS)), (.list 3 false (p13.map FrameD.c)), (.list 1 false (p14.map cI)), (pB p15), (pI p16), (pS p17), (pI p18)]), (.agg [(pI p19), (pI p20), (pS p21), (.list 1 false (p22.map cS)), (pI p23), (pI p24), (pI p25), (pI p26), (pI p27), (pI p28)]), (.ptr [0, TAG] 1 0 0), (.ptr [1, TAG] 1 0 0)] [some ⟨1, 3, [[(pI p29)]], true, false⟩, some ⟨1, 3, [[(pI p30)]], true, false⟩] [0, 0] = some (publishOr1_out r) := by
  unfold publishOr1 at h
  rcases bif_some h with ⟨q1, h⟩ | ⟨q1, h⟩
  · obtain ⟨r_1, q2, h⟩ := bnd_some h
    obtain rfl := Option.some.inj h
    exact retS_go (k := (k + 1)) (n := 2) Tryz.func142 Tryz.ntmps142 rfl (by kernel_rfl) (by kernel_rfl) (lb rfl) (adv [([], 1, 2, .eq (pB true)), ([], 2, 2, .ret (JobD.a r_1))]) (ex := .ret) (r := ((JobD.a r_1), [some ⟨1, 3, [[(pI p29)]], true, false⟩, some ⟨1, 3, [[(pI p30)]], true, false⟩], [0, 0])) (by kernel_rfl) rfl (by kernel_rfl) (allC (cg q1) (allC (publishWriterTo_ok k (WriterD.mk (JobD.mk p0 p1 p2 p3 p4 p5 p6 p7 p8 p9 p10 p11 p12 p13 p14 p15 p16 p17 p18)) p29 _ q2) allN)) (by kernel_rfl)
  · obtain ⟨r_1, q2, h⟩ := bnd_some h
    obtain rfl := Option.some.inj h
    exact retS_go (k := (k + 1)) (n := 2) Tryz.func142 Tryz.ntmps142 rfl (by kernel_rfl) (by kernel_rfl) (lb rfl) (adv [([], 1, 2, .eq (pB false)), ([], 4, 2, .ret (JobD.a r_1))]) (ex := .ret) (r := ((JobD.a r_1), [some ⟨1, 3, [[(pI p29)]], true, false⟩, some ⟨1, 3, [[(pI p30)]], true, false⟩], [0, 0])) (by kernel_rfl) rfl (by kernel_rfl) (allC (cg q1) (allC (publishWriterTo_ok k (WriterD.mk (JobD.mk p0 p1 p2 p3 p19 p5 p6 p7 p8 p9 p10 p11 p12 p13 p14 p15 p16 p17 p18)) p30 _ q2) allN)) (by kernel_rfl)
def publishThen1 (p0 : Int) (p1 : Int) (p2 : Int) (p3 : Int) (p4 : Int) (p5 : Int) (p6 : Int) (p7 : Int) (p8 : Int) (p9 : ByteArray) (p10 : ByteArray) (p11 : ByteArray) (p12 : (List ByteArray)) (p13 : (List FrameD)) (p14 : (List Int)) (p15 : Bool) (p16 : Int) (p17 : ByteArray) (p18 : Int) (p19 : Int) (p20 : Int) (p21 : ByteArray) (p22 : (List ByteArray)) (p23 : Int) (p24 : Int) (p25 : Int) (p26 : Int) (p27 : Int) (p28 : Int) (p29 : Int) : Option (Int × Int × Int × Int × Int × Int × Int × Int × Int × ByteArray × ByteArray × ByteArray × (List ByteArray) × (List FrameD) × (List Int) × Bool × Int × ByteArray × Int × Int) :=
 (publishWriterTo (WriterD.mk (JobD.mk p0 p1 p2 p3 p4 p5 p6 p7 p8 p9 p10 p11 p12 p13 p14 p15 p16 p17 p18)) p29).bind fun r_1 =>
 some (r_1.kind, r_1.p, r_1.phase, r_1.fd, r_1.nF, r_1.modeF, r_1.tries, r_1.atF, r_1.flags, r_1.path, r_1.path2, r_1.text, r_1.names, r_1.stack, r_1.draws, r_1.done, r_1.exit, r_1.out, r_1.e, p29)
def publishThen1_out : (Int × Int × Int × Int × Int × Int × Int × Int × Int × ByteArray × ByteArray × ByteArray × (List ByteArray) × (List FrameD) × (List Int) × Bool × Int × ByteArray × Int × Int) → PV × List (Option Blk) × List Nat
 | (r0, r1, r2, r3, r4, r5, r6, r7, r8, r9, r10, r11, r12, r13, r14, r15, r16, r17, r18, r19) => ((.agg [(pI r0), (pI r1), (pI r2), (pI r3), (pI r4), (pI r5), (pI r6), (pI r7), (pI r8), (pS r9), (pS r10), (pS r11), (.list 1 false (r12.map cS)), (.list 3 false (r13.map FrameD.c)), (.list 1 false (r14.map cI)), (pB r15), (pI r16), (pS r17), (pI r18)]), [some ⟨1, 3, [[(pI r19)]], true, false⟩], [0])
set_option maxRecDepth 100000 in
theorem publishThen1_ok (k : Nat) (p0 : Int) (p1 : Int) (p2 : Int) (p3 : Int) (p4 : Int) (p5 : Int) (p6 : Int) (p7 : Int) (p8 : Int) (p9 : ByteArray) (p10 : ByteArray) (p11 : ByteArray) (p12 : (List ByteArray)) (p13 : (List FrameD)) (p14 : (List Int)) (p15 : Bool) (p16 : Int) (p17 : ByteArray) (p18 : Int) (p19 : Int) (p20 : Int) (p21 : ByteArray) (p22 : (List ByteArray)) (p23 : Int) (p24 : Int) (p25 : Int) (p26 : Int) (p27 : Int) (p28 : Int) (p29 : Int) (r : (Int × Int × Int × Int × Int × Int × Int × Int × Int × ByteArray × ByteArray × ByteArray × (List ByteArray) × (List FrameD) × (List Int) × Bool × Int × ByteArray × Int × Int)) (h : publishThen1 p0 p1 p2 p3 p4 p5 p6 p7 p8 p9 p10 p11 p12 p13 p14 p15 p16 p17 p18 p19 p20 p21 p22 p23 p24 p25 p26 p27 p28 p29 = some r) : runS0 (k + 2) 143 [(.agg [(pI p0), (pI p1), (pI p2), (pI p3), (pI p4), (pI p5), (pI p6), (pI p7), (pI p8), (pS p9), (pS p10), (pS p11), (.list 1 false (p12.map cS)), (.list 3 false (p13.map FrameD.c)), (.list 1 false (p14.map cI)), (pB p15), (pI p16), (pS p17), (pI p18)]), (.agg [(pI p19), (pI p20), (pS p21), (.list 1 false (p22.map cS)), (pI p23), (pI p24), (pI p25), (pI p26), (pI p27), (pI p28)]), (.ptr [0, TAG] 1 0 0)] [some ⟨1, 3, [[(pI p29)]], true, false⟩] [0] = some (publishThen1_out r) := by
  unfold publishThen1 at h
  obtain ⟨r_1, q1, h⟩ := bnd_some h
  obtain rfl := Option.some.inj h
  exact retS_go (k := (k + 1)) (n := 1) Tryz.func143 Tryz.ntmps143 rfl (by kernel_rfl) (by kernel_rfl) (lb rfl) (adv [([], 1, 2, .ret (JobD.a r_1))]) (ex := .ret) (r := ((JobD.a r_1), [some ⟨1, 3, [[(pI p29)]], true, false⟩], [0])) (by kernel_rfl) rfl (by kernel_rfl) (allC (publishWriterTo_ok k (WriterD.mk (JobD.mk p0 p1 p2 p3 p4 p5 p6 p7 p8 p9 p10 p11 p12 p13 p14 p15 p16 p17 p18)) p29 _ q1) allN) (by kernel_rfl)
def jobEnd (j : JobD) (out : ByteArray) : Option JobD :=
 some (JobD.mk j.kind j.p j.phase j.fd j.nF j.modeF j.tries j.atF j.flags j.path j.path2 j.text j.names j.stack j.draws true (0 : Int) out j.e)
set_option maxRecDepth 100000 in
theorem jobEnd_ok (k : Nat) (j : JobD) (out : ByteArray) (r : JobD) (h : jobEnd j out = some r) : run0 (k + 1) 144 [(JobD.a j), (pS out)] = some (JobD.a r) := by
  unfold jobEnd at h
  obtain rfl := Option.some.inj h
  exact ret_go (k := k) Tryz.func144 Tryz.ntmps144 (by kernel_rfl) (by kernel_rfl) (lb rfl) (adv []) (ex := .ret) (r := (.agg [(pI j.kind), (pI j.p), (pI j.phase), (pI j.fd), (pI j.nF), (pI j.modeF), (pI j.tries), (pI j.atF), (pI j.flags), (pS j.path), (pS j.path2), (pS j.text), (.list 1 false (j.names.map cS)), (.list 3 false (j.stack.map FrameD.c)), (.list 1 false (j.draws.map cI)), (pB true), (pI (0 : Int)), (pS out), (pI j.e)])) (by kernel_rfl) rfl (by kernel_rfl) allN (by kernel_rfl) allN
end Go.Proofs.YtaenhodkpidocaaGreatDoor.Den
namespace Go.Proofs.YtaenhodkpidocaaGreatDoor.Den
open Go Go.RowKit
def publishWriterRenamed (w : WriterD) (rF : ReplyD) : Option JobD :=
 bif (rF.e == (0 : Int)) then (
 (jobEnd w.job (bs [])).bind fun r_1 =>
 some r_1
 ) else (
 (publishOr (4 : Int) (6 : Int)).bind fun (r_1, r_2) =>
 (publishOr1 w.job.kind w.job.p w.job.phase w.job.fd w.job.nF w.job.modeF w.job.tries w.job.atF w.job.flags w.job.path w.job.path2 w.job.text w.job.names w.job.stack w.job.draws w.job.done w.job.exit w.job.out w.job.e rF.e rF.nF rF.s rF.l rF.i.ino rF.i.kind rF.i.modeF rF.i.owner rF.i.links rF.i.size r_1 r_2).bind fun (r_3, r_4, r_5, r_6, r_7, r_8, r_9, r_10, r_11, r_12, r_13, r_14, r_15, r_16, r_17, r_18, r_19, r_20, r_21, r_22, r_23) =>
 some (JobD.mk r_3 r_4 r_5 r_6 r_7 r_8 r_9 r_10 r_11 r_12 r_13 r_14 r_15 r_16 r_17 r_18 r_19 r_20 r_21)
 )
set_option maxRecDepth 100000 in
theorem publishWriterRenamed_ok (k : Nat) (w : WriterD) (rF : ReplyD) (r : JobD) (h : publishWriterRenamed w rF = some r) : run0 (k + 3) 85 [(JobD.a w.job), (.agg [(pI rF.e), (pI rF.nF), (pS rF.s), (.list 1 false (rF.l.map cS)), (pI rF.i.ino), (pI rF.i.kind), (pI rF.i.modeF), (pI rF.i.owner), (pI rF.i.links), (pI rF.i.size)])] = some (JobD.a r) := by
  unfold publishWriterRenamed at h
  rcases bif_some h with ⟨q1, h⟩ | ⟨q1, h⟩
  · obtain ⟨r_1, q2, h⟩ := bnd_some h
    obtain rfl := Option.some.inj h
    exact ret_go (k := (k + 2)) Tryz.func85 Tryz.ntmps85 (by kernel_rfl) (by kernel_rfl) (lb rfl) (adv [([], 1, 2, .eq (pB true)), ([], 2, 2, .ret (JobD.a r_1))]) (ex := .ret) (r := (JobD.a r_1)) (by kernel_rfl) rfl (by kernel_rfl) (allC (cg q1) (allC (jobEnd_ok (k + 1) w.job (bs []) _ q2) allN)) (by kernel_rfl) allN
  · obtain ⟨X_1, q2, h⟩ := bnd_some h
    rcases X_1 with ⟨r_1, r_2⟩
    · try dsimp only at h
      obtain ⟨X_2, q3, h⟩ := bnd_some h
      rcases X_2 with ⟨r_3, r_4, r_5, r_6, r_7, r_8, r_9, r_10, r_11, r_12, r_13, r_14, r_15, r_16, r_17, r_18, r_19, r_20, r_21, r_22, r_23⟩
      · try dsimp only at h
        obtain rfl := Option.some.inj h
        exact ret_go (k := (k + 2)) Tryz.func85 Tryz.ntmps85 (by kernel_rfl) (by kernel_rfl) (lb rfl) (adv [([], 1, 2, .eq (pB false)), ([], 3, 0, .retS (.clo 142 [(.ptr [0, TAG] 1 0 0), (.ptr [1, TAG] 1 0 0)]) [some ⟨1, 3, [[(pI r_1)]], true, false⟩, some ⟨1, 3, [[(pI r_2)]], true, false⟩] [0, 0]), ([], 3, 3, .retS (.agg [(pI r_3), (pI r_4), (pI r_5), (pI r_6), (pI r_7), (pI r_8), (pI r_9), (pI r_10), (pI r_11), (pS r_12), (pS r_13), (pS r_14), (.list 1 false (r_15.map cS)), (.list 3 false (r_16.map FrameD.c)), (.list 1 false (r_17.map cI)), (pB r_18), (pI r_19), (pS r_20), (pI r_21)]) [some ⟨1, 3, [[(pI r_22)]], true, false⟩, some ⟨1, 3, [[(pI r_23)]], true, false⟩] [0, 0])]) (ex := .ret) (r := (.agg [(pI r_3), (pI r_4), (pI r_5), (pI r_6), (pI r_7), (pI r_8), (pI r_9), (pI r_10), (pI r_11), (pS r_12), (pS r_13), (pS r_14), (.list 1 false (r_15.map cS)), (.list 3 false (r_16.map FrameD.c)), (.list 1 false (r_17.map cI)), (pB r_18), (pI r_19), (pS r_20), (pI r_21)])) (by kernel_rfl) rfl (by kernel_rfl) (allC (cg q1) (allC (publishOr_ok (k + 1) (4 : Int) (6 : Int) _ q2) (allC (publishOr1_ok k w.job.kind w.job.p w.job.phase w.job.fd w.job.nF w.job.modeF w.job.tries w.job.atF w.job.flags w.job.path w.job.path2 w.job.text w.job.names w.job.stack w.job.draws w.job.done w.job.exit w.job.out w.job.e rF.e rF.nF rF.s rF.l rF.i.ino rF.i.kind rF.i.modeF rF.i.owner rF.i.links rF.i.size r_1 r_2 _ q3) allN))) (by kernel_rfl) allN
def publishWriterFailed (w : WriterD) (a1 : ReplyD) : Option JobD :=
 (jobFail w.job w.job.path w.job.nF).bind fun r_1 =>
 some r_1
set_option maxRecDepth 100000 in
theorem publishWriterFailed_ok (k : Nat) (w : WriterD) (a1 : ReplyD) (r : JobD) (h : publishWriterFailed w a1 = some r) : run0 (k + 2) 87 [(JobD.a w.job), (.agg [(pI a1.e), (pI a1.nF), (pS a1.s), (.list 1 false (a1.l.map cS)), (pI a1.i.ino), (pI a1.i.kind), (pI a1.i.modeF), (pI a1.i.owner), (pI a1.i.links), (pI a1.i.size)])] = some (JobD.a r) := by
  unfold publishWriterFailed at h
  obtain ⟨r_1, q1, h⟩ := bnd_some h
  obtain rfl := Option.some.inj h
  exact ret_go (k := (k + 1)) Tryz.func87 Tryz.ntmps87 (by kernel_rfl) (by kernel_rfl) (lb rfl) (adv [([], 1, 8, .ret (JobD.a r_1))]) (ex := .ret) (r := (JobD.a r_1)) (by kernel_rfl) rfl (by kernel_rfl) (allC (jobFail_ok k w.job w.job.path w.job.nF _ q1) allN) (by kernel_rfl) allN
def publishTell (j : JobD) (rF : ReplyD) : Option JobD :=
 (publishOf j.kind j.p j.phase j.fd j.nF j.modeF j.tries j.atF j.flags j.path j.path2 j.text j.names j.stack j.draws j.done j.exit j.out j.e).bind fun X_1 => match X_1 with
 | .inl () => (
 some j
 )
 | .inr (.inl ()) => (
 (publishWriterOpened (WriterD.mk j) rF).bind fun r_6 =>
 some r_6
 )
 | .inr (.inr (.inl (r_1, r_2))) => (
 (publishOr1 j.kind j.p j.phase j.fd j.nF j.modeF j.tries j.atF j.flags j.path j.path2 j.text j.names j.stack j.draws j.done j.exit j.out j.e rF.e rF.nF rF.s rF.l rF.i.ino rF.i.kind rF.i.modeF rF.i.owner rF.i.links rF.i.size r_1 r_2).bind fun (r_6, r_7, r_8, r_9, r_10, r_11, r_12, r_13, r_14, r_15, r_16, r_17, r_18, r_19, r_20, r_21, r_22, r_23, r_24, r_25, r_26) =>
 some (JobD.mk r_6 r_7 r_8 r_9 r_10 r_11 r_12 r_13 r_14 r_15 r_16 r_17 r_18 r_19 r_20 r_21 r_22 r_23 r_24)
 )
 | .inr (.inr (.inr (.inl (r_3, r_4)))) => (
 (publishOr1 j.kind j.p j.phase j.fd j.nF j.modeF j.tries j.atF j.flags j.path j.path2 j.text j.names j.stack j.draws j.done j.exit j.out j.e rF.e rF.nF rF.s rF.l rF.i.ino rF.i.kind rF.i.modeF rF.i.owner rF.i.links rF.i.size r_3 r_4).bind fun (r_6, r_7, r_8, r_9, r_10, r_11, r_12, r_13, r_14, r_15, r_16, r_17, r_18, r_19, r_20, r_21, r_22, r_23, r_24, r_25, r_26) =>
 some (JobD.mk r_6 r_7 r_8 r_9 r_10 r_11 r_12 r_13 r_14 r_15 r_16 r_17 r_18 r_19 r_20 r_21 r_22 r_23 r_24)
 )
 | .inr (.inr (.inr (.inr (.inl r_5)))) => (
 (publishThen1 j.kind j.p j.phase j.fd j.nF j.modeF j.tries j.atF j.flags j.path j.path2 j.text j.names j.stack j.draws j.done j.exit j.out j.e rF.e rF.nF rF.s rF.l rF.i.ino rF.i.kind rF.i.modeF rF.i.owner rF.i.links rF.i.size r_5).bind fun (r_6, r_7, r_8, r_9, r_10, r_11, r_12, r_13, r_14, r_15, r_16, r_17, r_18, r_19, r_20, r_21, r_22, r_23, r_24, r_25) =>
 some (JobD.mk r_6 r_7 r_8 r_9 r_10 r_11 r_12 r_13 r_14 r_15 r_16 r_17 r_18 r_19 r_20 r_21 r_22 r_23 r_24)
 )
 | .inr (.inr (.inr (.inr (.inr (.inl ()))))) => (
 (publishWriterRenamed (WriterD.mk j) rF).bind fun r_6 =>
 some r_6
 )
 | .inr (.inr (.inr (.inr (.inr (.inr (())))))) => (
 (publishWriterFailed (WriterD.mk j) rF).bind fun r_6 =>
 some r_6
 )
set_option maxRecDepth 100000 in
theorem publishTell_ok (k : Nat) (j : JobD) (rF : ReplyD) (r : JobD) (h : publishTell j rF = some r) : run0 (k + 8) 16 [(JobD.a j), (.agg [(pI rF.e), (pI rF.nF), (pS rF.s), (.list 1 false (rF.l.map cS)), (pI rF.i.ino), (pI rF.i.kind), (pI rF.i.modeF), (pI rF.i.owner), (pI rF.i.links), (pI rF.i.size)])] = some (JobD.a r) := by
  unfold publishTell at h
  obtain ⟨X_1, q1, h⟩ := bnd_some h
  rcases X_1 with ⟨⟩ | ⟨⟩ | ⟨r_1, r_2⟩ | ⟨r_3, r_4⟩ | r_5 | ⟨⟩ | ⟨⟩
  · try dsimp only at h
    obtain rfl := Option.some.inj h
    exact ret_go (k := (k + 7)) Tryz.func16 Tryz.ntmps16 (by kernel_rfl) (by kernel_rfl) (lb rfl) (adv [([], 1, 1, .retS (.tup [(.agg [(.v .nilFunc), (.v .nilFunc)]), (pB false)]) [] [])]) (ex := .ret) (r := (JobD.a j)) (by kernel_rfl) rfl (by kernel_rfl) (allC (publishOf_ok (k + 5) j.kind j.p j.phase j.fd j.nF j.modeF j.tries j.atF j.flags j.path j.path2 j.text j.names j.stack j.draws j.done j.exit j.out j.e _ q1) allN) (by kernel_rfl) allN
  · try dsimp only at h
    obtain ⟨r_6, q2, h⟩ := bnd_some h
    obtain rfl := Option.some.inj h
    exact ret_go (k := (k + 7)) Tryz.func16 Tryz.ntmps16 (by kernel_rfl) (by kernel_rfl) (lb rfl) (adv [([], 1, 1, .retS (.tup [(.agg [(.clo 77 []), (.clo 78 [])]), (pB true)]) [] []), ([], 3, 5, .ret (JobD.a r_6))]) (ex := .ret) (r := (JobD.a r_6)) (by kernel_rfl) rfl (by kernel_rfl) (allC (publishOf_ok (k + 5) j.kind j.p j.phase j.fd j.nF j.modeF j.tries j.atF j.flags j.path j.path2 j.text j.names j.stack j.draws j.done j.exit j.out j.e _ q1) (allC (publishWriterOpened_ok k (WriterD.mk j) rF _ q2) allN)) (by kernel_rfl) allN
  · try dsimp only at h
    obtain ⟨X_2, q2, h⟩ := bnd_some h
    rcases X_2 with ⟨r_6, r_7, r_8, r_9, r_10, r_11, r_12, r_13, r_14, r_15, r_16, r_17, r_18, r_19, r_20, r_21, r_22, r_23, r_24, r_25, r_26⟩
    · try dsimp only at h
      obtain rfl := Option.some.inj h
      exact ret_go (k := (k + 7)) Tryz.func16 Tryz.ntmps16 (by kernel_rfl) (by kernel_rfl) (lb rfl) (adv [([], 1, 1, .retS (.tup [(.agg [(.clo 79 []), (.clo 142 [(.ptr [0, TAG] 1 0 0), (.ptr [1, TAG] 1 0 0)])]), (pB true)]) [some ⟨1, 3, [[(pI r_1)]], true, false⟩, some ⟨1, 3, [[(pI r_2)]], true, false⟩] [0, 0]), ([], 3, 5, .retS (.agg [(pI r_6), (pI r_7), (pI r_8), (pI r_9), (pI r_10), (pI r_11), (pI r_12), (pI r_13), (pI r_14), (pS r_15), (pS r_16), (pS r_17), (.list 1 false (r_18.map cS)), (.list 3 false (r_19.map FrameD.c)), (.list 1 false (r_20.map cI)), (pB r_21), (pI r_22), (pS r_23), (pI r_24)]) [some ⟨1, 3, [[(pI r_25)]], true, false⟩, some ⟨1, 3, [[(pI r_26)]], true, false⟩] [0, 0])]) (ex := .ret) (r := (.agg [(pI r_6), (pI r_7), (pI r_8), (pI r_9), (pI r_10), (pI r_11), (pI r_12), (pI r_13), (pI r_14), (pS r_15), (pS r_16), (pS r_17), (.list 1 false (r_18.map cS)), (.list 3 false (r_19.map FrameD.c)), (.list 1 false (r_20.map cI)), (pB r_21), (pI r_22), (pS r_23), (pI r_24)])) (by kernel_rfl) rfl (by kernel_rfl) (allC (publishOf_ok (k + 5) j.kind j.p j.phase j.fd j.nF j.modeF j.tries j.atF j.flags j.path j.path2 j.text j.names j.stack j.draws j.done j.exit j.out j.e _ q1) (allC (publishOr1_ok (k + 5) j.kind j.p j.phase j.fd j.nF j.modeF j.tries j.atF j.flags j.path j.path2 j.text j.names j.stack j.draws j.done j.exit j.out j.e rF.e rF.nF rF.s rF.l rF.i.ino rF.i.kind rF.i.modeF rF.i.owner rF.i.links rF.i.size r_1 r_2 _ q2) allN)) (by kernel_rfl) allN
  · try dsimp only at h
    obtain ⟨X_2, q2, h⟩ := bnd_some h
    rcases X_2 with ⟨r_6, r_7, r_8, r_9, r_10, r_11, r_12, r_13, r_14, r_15, r_16, r_17, r_18, r_19, r_20, r_21, r_22, r_23, r_24, r_25, r_26⟩
    · try dsimp only at h
      obtain rfl := Option.some.inj h
      exact ret_go (k := (k + 7)) Tryz.func16 Tryz.ntmps16 (by kernel_rfl) (by kernel_rfl) (lb rfl) (adv [([], 1, 1, .retS (.tup [(.agg [(.clo 81 []), (.clo 142 [(.ptr [0, TAG] 1 0 0), (.ptr [1, TAG] 1 0 0)])]), (pB true)]) [some ⟨1, 3, [[(pI r_3)]], true, false⟩, some ⟨1, 3, [[(pI r_4)]], true, false⟩] [0, 0]), ([], 3, 5, .retS (.agg [(pI r_6), (pI r_7), (pI r_8), (pI r_9), (pI r_10), (pI r_11), (pI r_12), (pI r_13), (pI r_14), (pS r_15), (pS r_16), (pS r_17), (.list 1 false (r_18.map cS)), (.list 3 false (r_19.map FrameD.c)), (.list 1 false (r_20.map cI)), (pB r_21), (pI r_22), (pS r_23), (pI r_24)]) [some ⟨1, 3, [[(pI r_25)]], true, false⟩, some ⟨1, 3, [[(pI r_26)]], true, false⟩] [0, 0])]) (ex := .ret) (r := (.agg [(pI r_6), (pI r_7), (pI r_8), (pI r_9), (pI r_10), (pI r_11), (pI r_12), (pI r_13), (pI r_14), (pS r_15), (pS r_16), (pS r_17), (.list 1 false (r_18.map cS)), (.list 3 false (r_19.map FrameD.c)), (.list 1 false (r_20.map cI)), (pB r_21), (pI r_22), (pS r_23), (pI r_24)])) (by kernel_rfl) rfl (by kernel_rfl) (allC (publishOf_ok (k + 5) j.kind j.p j.phase j.fd j.nF j.modeF j.tries j.atF j.flags j.path j.path2 j.text j.names j.stack j.draws j.done j.exit j.out j.e _ q1) (allC (publishOr1_ok (k + 5) j.kind j.p j.phase j.fd j.nF j.modeF j.tries j.atF j.flags j.path j.path2 j.text j.names j.stack j.draws j.done j.exit j.out j.e rF.e rF.nF rF.s rF.l rF.i.ino rF.i.kind rF.i.modeF rF.i.owner rF.i.links rF.i.size r_3 r_4 _ q2) allN)) (by kernel_rfl) allN
  · try dsimp only at h
    obtain ⟨X_2, q2, h⟩ := bnd_some h
    rcases X_2 with ⟨r_6, r_7, r_8, r_9, r_10, r_11, r_12, r_13, r_14, r_15, r_16, r_17, r_18, r_19, r_20, r_21, r_22, r_23, r_24, r_25⟩
    · try dsimp only at h
      obtain rfl := Option.some.inj h
      exact ret_go (k := (k + 7)) Tryz.func16 Tryz.ntmps16 (by kernel_rfl) (by kernel_rfl) (lb rfl) (adv [([], 1, 1, .retS (.tup [(.agg [(.clo 82 []), (.clo 143 [(.ptr [0, TAG] 1 0 0)])]), (pB true)]) [some ⟨1, 3, [[(pI r_5)]], true, false⟩] [0]), ([], 3, 5, .retS (.agg [(pI r_6), (pI r_7), (pI r_8), (pI r_9), (pI r_10), (pI r_11), (pI r_12), (pI r_13), (pI r_14), (pS r_15), (pS r_16), (pS r_17), (.list 1 false (r_18.map cS)), (.list 3 false (r_19.map FrameD.c)), (.list 1 false (r_20.map cI)), (pB r_21), (pI r_22), (pS r_23), (pI r_24)]) [some ⟨1, 3, [[(pI r_25)]], true, false⟩] [0])]) (ex := .ret) (r := (.agg [(pI r_6), (pI r_7), (pI r_8), (pI r_9), (pI r_10), (pI r_11), (pI r_12), (pI r_13), (pI r_14), (pS r_15), (pS r_16), (pS r_17), (.list 1 false (r_18.map cS)), (.list 3 false (r_19.map FrameD.c)), (.list 1 false (r_20.map cI)), (pB r_21), (pI r_22), (pS r_23), (pI r_24)])) (by kernel_rfl) rfl (by kernel_rfl) (allC (publishOf_ok (k + 5) j.kind j.p j.phase j.fd j.nF j.modeF j.tries j.atF j.flags j.path j.path2 j.text j.names j.stack j.draws j.done j.exit j.out j.e _ q1) (allC (publishThen1_ok (k + 5) j.kind j.p j.phase j.fd j.nF j.modeF j.tries j.atF j.flags j.path j.path2 j.text j.names j.stack j.draws j.done j.exit j.out j.e rF.e rF.nF rF.s rF.l rF.i.ino rF.i.kind rF.i.modeF rF.i.owner rF.i.links rF.i.size r_5 _ q2) allN)) (by kernel_rfl) allN
  · try dsimp only at h
    obtain ⟨r_6, q2, h⟩ := bnd_some h
    obtain rfl := Option.some.inj h
    exact ret_go (k := (k + 7)) Tryz.func16 Tryz.ntmps16 (by kernel_rfl) (by kernel_rfl) (lb rfl) (adv [([], 1, 1, .retS (.tup [(.agg [(.clo 84 []), (.clo 85 [])]), (pB true)]) [] []), ([], 3, 5, .ret (JobD.a r_6))]) (ex := .ret) (r := (JobD.a r_6)) (by kernel_rfl) rfl (by kernel_rfl) (allC (publishOf_ok (k + 5) j.kind j.p j.phase j.fd j.nF j.modeF j.tries j.atF j.flags j.path j.path2 j.text j.names j.stack j.draws j.done j.exit j.out j.e _ q1) (allC (publishWriterRenamed_ok (k + 4) (WriterD.mk j) rF _ q2) allN)) (by kernel_rfl) allN
  · try dsimp only at h
    obtain ⟨r_6, q2, h⟩ := bnd_some h
    obtain rfl := Option.some.inj h
    exact ret_go (k := (k + 7)) Tryz.func16 Tryz.ntmps16 (by kernel_rfl) (by kernel_rfl) (lb rfl) (adv [([], 1, 1, .retS (.tup [(.agg [(.clo 86 []), (.clo 87 [])]), (pB true)]) [] []), ([], 3, 5, .ret (JobD.a r_6))]) (ex := .ret) (r := (JobD.a r_6)) (by kernel_rfl) rfl (by kernel_rfl) (allC (publishOf_ok (k + 5) j.kind j.p j.phase j.fd j.nF j.modeF j.tries j.atF j.flags j.path j.path2 j.text j.names j.stack j.draws j.done j.exit j.out j.e _ q1) (allC (publishWriterFailed_ok (k + 5) (WriterD.mk j) rF _ q2) allN)) (by kernel_rfl) allN
def ref21Mine (j : JobD) : Option Bool :=
 bif (!j.done) then (
 bif (j.kind == (9 : Int)) then (
 bif (decide (j.phase ≥ (0 : Int))) then (
 some (decide (j.phase ≤ (6 : Int)))
 ) else (
 some false
 )
 ) else (
 some false
 )
 ) else (
 some false
 )
set_option maxRecDepth 100000 in
theorem ref21Mine_ok (k : Nat) (j : JobD) (r : Bool) (h : ref21Mine j = some r) : run0 (k + 1) 45 [(JobD.a j)] = some (pB r) := by
  unfold ref21Mine at h
  rcases bif_some h with ⟨q1, h⟩ | ⟨q1, h⟩
  · rcases bif_some h with ⟨q2, h⟩ | ⟨q2, h⟩
    · rcases bif_some h with ⟨q3, h⟩ | ⟨q3, h⟩
      · obtain rfl := Option.some.inj h
        exact ret_go (k := k) Tryz.func45 Tryz.ntmps45 (by kernel_rfl) (by kernel_rfl) (lb rfl) (adv [([], 1, 3, .eq (pB true)), ([], 1, 8, .eq (pB true)), ([], 1, 13, .eq (pB true))]) (ex := .ret) (r := (pB (decide (j.phase ≤ (6 : Int))))) (by kernel_rfl) rfl (by kernel_rfl) (allC (cg q1) (allC (cg q2) (allC (cg q3) allN))) (by kernel_rfl) allN
      · obtain rfl := Option.some.inj h
        exact ret_go (k := k) Tryz.func45 Tryz.ntmps45 (by kernel_rfl) (by kernel_rfl) (lb rfl) (adv [([], 1, 3, .eq (pB true)), ([], 1, 8, .eq (pB true)), ([], 1, 13, .eq (pB false))]) (ex := .ret) (r := (pB false)) (by kernel_rfl) rfl (by kernel_rfl) (allC (cg q1) (allC (cg q2) (allC (cg q3) allN))) (by kernel_rfl) allN
    · obtain rfl := Option.some.inj h
      exact ret_go (k := k) Tryz.func45 Tryz.ntmps45 (by kernel_rfl) (by kernel_rfl) (lb rfl) (adv [([], 1, 3, .eq (pB true)), ([], 1, 8, .eq (pB false))]) (ex := .ret) (r := (pB false)) (by kernel_rfl) rfl (by kernel_rfl) (allC (cg q1) (allC (cg q2) allN)) (by kernel_rfl) allN
  · obtain rfl := Option.some.inj h
    exact ret_go (k := k) Tryz.func45 Tryz.ntmps45 (by kernel_rfl) (by kernel_rfl) (lb rfl) (adv [([], 1, 3, .eq (pB false))]) (ex := .ret) (r := (pB false)) (by kernel_rfl) rfl (by kernel_rfl) (allC (cg q1) allN) (by kernel_rfl) allN
def ref21Ask (j : JobD) : Option CalD :=
 (ref21Mine j).bind fun r_1 =>
 bif (!r_1) then (
 some (CalD.mk (0 : Int) (0 : Int) (0 : Int) (0 : Int) (0 : Int) (0 : Int) (bs []) (bs []) (bs []))
 ) else (
 bif (j.phase == (0 : Int)) then (
 some (CalD.mk (1 : Int) (-1 : Int) (0 : Int) (0 : Int) (63 : Int) (14 : Int) j.path2 (bs []) (bs []))
 ) else (
 bif (j.phase == (1 : Int)) then (
 grd (0 ≤ (0 : Int) ∧ (0 : Int) ≤ (IntKind.wrap .i64 (Int.tdiv (j.text.size : Int) (2 : Int))) ∧ (IntKind.wrap .i64 (Int.tdiv (j.text.size : Int) (2 : Int))) ≤ (j.text.size : Int)) <|
 some (CalD.mk (4 : Int) j.fd (0 : Int) (0 : Int) (0 : Int) (0 : Int) (bs []) (bs []) (j.text.extract 0 ((IntKind.wrap .i64 (Int.tdiv (j.text.size : Int) (2 : Int)))).toNat))
 ) else (
 bif (j.phase == (2 : Int)) then (
 grd (0 ≤ (IntKind.wrap .i64 (Int.tdiv (j.text.size : Int) (2 : Int))) ∧ (IntKind.wrap .i64 (Int.tdiv (j.text.size : Int) (2 : Int))) ≤ (j.text.size : Int) ∧ (j.text.size : Int) ≤ (j.text.size : Int)) <|
 some (CalD.mk (4 : Int) j.fd (0 : Int) (0 : Int) (0 : Int) (0 : Int) (bs []) (bs []) (j.text.extract ((IntKind.wrap .i64 (Int.tdiv (j.text.size : Int) (2 : Int)))).toNat j.text.size))
 ) else (
 bif (j.phase == (3 : Int)) then (
 some (CalD.mk (2 : Int) j.fd (0 : Int) (0 : Int) (0 : Int) (0 : Int) (bs []) (bs []) (bs []))
 ) else (
 bif (j.phase == (5 : Int)) then (
 some (CalD.mk (2 : Int) j.fd (0 : Int) (0 : Int) (0 : Int) (0 : Int) (bs []) (bs []) (bs []))
 ) else (
 bif (j.phase == (4 : Int)) then (
 some (CalD.mk (8 : Int) (-1 : Int) (-1 : Int) (0 : Int) (0 : Int) (0 : Int) j.path2 j.path (bs []))
 ) else (
 some (CalD.mk (7 : Int) (-1 : Int) (0 : Int) (0 : Int) (0 : Int) (0 : Int) j.path2 (bs []) (bs []))
 )
 )
 )
 )
 )
 )
 )
set_option maxRecDepth 100000 in
theorem ref21Ask_ok (k : Nat) (j : JobD) (r : CalD) (h : ref21Ask j = some r) : run0 (k + 2) 15 [(JobD.a j)] = some (.agg [(pI r.kind), (pI r.fd), (pI r.fd2), (pI r.nF), (pI r.modeF), (pI r.flags), (pS r.path), (pS r.path2), (pS r.data)]) := by
  unfold ref21Ask at h
  obtain ⟨r_1, q1, h⟩ := bnd_some h
  rcases bif_some h with ⟨q2, h⟩ | ⟨q2, h⟩
  · obtain rfl := Option.some.inj h
    exact ret_go (k := (k + 1)) Tryz.func15 Tryz.ntmps15 (by kernel_rfl) (by kernel_rfl) (lb rfl) (adv [([], 1, 1, .ret (pB r_1)), ([], 1, 2, .eq (pB true))]) (ex := .ret) (r := (.agg [(pI (0 : Int)), (pI (0 : Int)), (pI (0 : Int)), (pI (0 : Int)), (pI (0 : Int)), (pI (0 : Int)), (pS (bs [])), (pS (bs [])), (pS (bs []))])) (by kernel_rfl) rfl (by kernel_rfl) (allC (ref21Mine_ok k j _ q1) (allC (cg q2) allN)) (by kernel_rfl) allN
  · rcases bif_some h with ⟨q3, h⟩ | ⟨q3, h⟩
    · obtain rfl := Option.some.inj h
      exact ret_go (k := (k + 1)) Tryz.func15 Tryz.ntmps15 (by kernel_rfl) (by kernel_rfl) (lb rfl) (adv [([], 1, 1, .ret (pB r_1)), ([], 1, 2, .eq (pB false)), ([], 5, 1, .eq (pB true))]) (ex := .ret) (r := (.agg [(pI (1 : Int)), (pI (-1 : Int)), (pI (0 : Int)), (pI (0 : Int)), (pI (63 : Int)), (pI (14 : Int)), (pS j.path2), (pS (bs [])), (pS (bs []))])) (by kernel_rfl) rfl (by kernel_rfl) (allC (ref21Mine_ok k j _ q1) (allC (cg q2) (allC (cg q3) allN))) (by kernel_rfl) allN
    · rcases bif_some h with ⟨q4, h⟩ | ⟨q4, h⟩
      · obtain ⟨q5, h⟩ := grd_some h
        obtain rfl := Option.some.inj h
        exact ret_go (k := (k + 1)) Tryz.func15 Tryz.ntmps15 (by kernel_rfl) (by kernel_rfl) (lb rfl) (adv [([], 1, 1, .ret (pB r_1)), ([], 1, 2, .eq (pB false)), ([], 5, 1, .eq (pB false)), ([], 7, 1, .eq (pB true)), ([], 8, 5, .sub false)]) (ex := .ret) (r := (.agg [(pI (4 : Int)), (pI j.fd), (pI (0 : Int)), (pI (0 : Int)), (pI (0 : Int)), (pI (0 : Int)), (pS (bs [])), (pS (bs [])), (pS (j.text.extract 0 ((IntKind.wrap .i64 (Int.tdiv (j.text.size : Int) (2 : Int)))).toNat))])) (by kernel_rfl) rfl (by kernel_rfl) (allC (ref21Mine_ok k j _ q1) (allC (cg q2) (allC (cg q3) (allC (cg q4) (allC q5 allN))))) (by kernel_rfl) allN
      · rcases bif_some h with ⟨q5, h⟩ | ⟨q5, h⟩
        · obtain ⟨q6, h⟩ := grd_some h
          obtain rfl := Option.some.inj h
          exact ret_go (k := (k + 1)) Tryz.func15 Tryz.ntmps15 (by kernel_rfl) (by kernel_rfl) (lb rfl) (adv [([], 1, 1, .ret (pB r_1)), ([], 1, 2, .eq (pB false)), ([], 5, 1, .eq (pB false)), ([], 7, 1, .eq (pB false)), ([], 9, 1, .eq (pB true)), ([], 10, 5, .sub false)]) (ex := .ret) (r := (.agg [(pI (4 : Int)), (pI j.fd), (pI (0 : Int)), (pI (0 : Int)), (pI (0 : Int)), (pI (0 : Int)), (pS (bs [])), (pS (bs [])), (pS (j.text.extract ((IntKind.wrap .i64 (Int.tdiv (j.text.size : Int) (2 : Int)))).toNat j.text.size))])) (by kernel_rfl) rfl (by kernel_rfl) (allC (ref21Mine_ok k j _ q1) (allC (cg q2) (allC (cg q3) (allC (cg q4) (allC (cg q5) (allC q6 allN)))))) (by kernel_rfl) allN
        · rcases bif_some h with ⟨q6, h⟩ | ⟨q6, h⟩
          · obtain rfl := Option.some.inj h
            exact ret_go (k := (k + 1)) Tryz.func15 Tryz.ntmps15 (by kernel_rfl) (by kernel_rfl) (lb rfl) (adv [([], 1, 1, .ret (pB r_1)), ([], 1, 2, .eq (pB false)), ([], 5, 1, .eq (pB false)), ([], 7, 1, .eq (pB false)), ([], 9, 1, .eq (pB false)), ([], 11, 1, .eq (pB true))]) (ex := .ret) (r := (.agg [(pI (2 : Int)), (pI j.fd), (pI (0 : Int)), (pI (0 : Int)), (pI (0 : Int)), (pI (0 : Int)), (pS (bs [])), (pS (bs [])), (pS (bs []))])) (by kernel_rfl) rfl (by kernel_rfl) (allC (ref21Mine_ok k j _ q1) (allC (cg q2) (allC (cg q3) (allC (cg q4) (allC (cg q5) (allC (cg q6) allN)))))) (by kernel_rfl) allN
          · rcases bif_some h with ⟨q7, h⟩ | ⟨q7, h⟩
            · obtain rfl := Option.some.inj h
              exact ret_go (k := (k + 1)) Tryz.func15 Tryz.ntmps15 (by kernel_rfl) (by kernel_rfl) (lb rfl) (adv [([], 1, 1, .ret (pB r_1)), ([], 1, 2, .eq (pB false)), ([], 5, 1, .eq (pB false)), ([], 7, 1, .eq (pB false)), ([], 9, 1, .eq (pB false)), ([], 11, 1, .eq (pB false)), ([], 12, 1, .eq (pB true))]) (ex := .ret) (r := (.agg [(pI (2 : Int)), (pI j.fd), (pI (0 : Int)), (pI (0 : Int)), (pI (0 : Int)), (pI (0 : Int)), (pS (bs [])), (pS (bs [])), (pS (bs []))])) (by kernel_rfl) rfl (by kernel_rfl) (allC (ref21Mine_ok k j _ q1) (allC (cg q2) (allC (cg q3) (allC (cg q4) (allC (cg q5) (allC (cg q6) (allC (cg q7) allN))))))) (by kernel_rfl) allN
            · rcases bif_some h with ⟨q8, h⟩ | ⟨q8, h⟩
              · obtain rfl := Option.some.inj h
                exact ret_go (k := (k + 1)) Tryz.func15 Tryz.ntmps15 (by kernel_rfl) (by kernel_rfl) (lb rfl) (adv [([], 1, 1, .ret (pB r_1)), ([], 1, 2, .eq (pB false)), ([], 5, 1, .eq (pB false)), ([], 7, 1, .eq (pB false)), ([], 9, 1, .eq (pB false)), ([], 11, 1, .eq (pB false)), ([], 12, 1, .eq (pB false)), ([], 14, 1, .eq (pB true))]) (ex := .ret) (r := (.agg [(pI (8 : Int)), (pI (-1 : Int)), (pI (-1 : Int)), (pI (0 : Int)), (pI (0 : Int)), (pI (0 : Int)), (pS j.path2), (pS j.path), (pS (bs []))])) (by kernel_rfl) rfl (by kernel_rfl) (allC (ref21Mine_ok k j _ q1) (allC (cg q2) (allC (cg q3) (allC (cg q4) (allC (cg q5) (allC (cg q6) (allC (cg q7) (allC (cg q8) allN)))))))) (by kernel_rfl) allN
              · obtain rfl := Option.some.inj h
                exact ret_go (k := (k + 1)) Tryz.func15 Tryz.ntmps15 (by kernel_rfl) (by kernel_rfl) (lb rfl) (adv [([], 1, 1, .ret (pB r_1)), ([], 1, 2, .eq (pB false)), ([], 5, 1, .eq (pB false)), ([], 7, 1, .eq (pB false)), ([], 9, 1, .eq (pB false)), ([], 11, 1, .eq (pB false)), ([], 12, 1, .eq (pB false)), ([], 14, 1, .eq (pB false))]) (ex := .ret) (r := (.agg [(pI (7 : Int)), (pI (-1 : Int)), (pI (0 : Int)), (pI (0 : Int)), (pI (0 : Int)), (pI (0 : Int)), (pS j.path2), (pS (bs [])), (pS (bs []))])) (by kernel_rfl) rfl (by kernel_rfl) (allC (ref21Mine_ok k j _ q1) (allC (cg q2) (allC (cg q3) (allC (cg q4) (allC (cg q5) (allC (cg q6) (allC (cg q7) (allC (cg q8) allN)))))))) (by kernel_rfl) allN
def ref15Again (j : JobD) (path : ByteArray) : Option (JobD × Bool) :=
 bif (decide (j.tries ≥ (3 : Int))) then (
 (ref15Fail j path (32 : Int)).bind fun r_1 =>
 some (r_1, false)
 ) else (
 some ((JobD.mk j.kind j.p j.phase j.fd j.nF j.modeF (w64 (j.tries + (1 : Int))) j.atF j.flags j.path j.path2 j.text j.names j.stack j.draws j.done j.exit j.out j.e), true)
 )
set_option maxRecDepth 100000 in
theorem ref15Again_ok (k : Nat) (j : JobD) (path : ByteArray) (r : (JobD × Bool)) (h : ref15Again j path = some r) : run0 (k + 4) 46 [(JobD.a j), (pS path)] = some (.tup [(JobD.a r.1), (pB r.2)]) := by
  unfold ref15Again at h
  rcases bif_some h with ⟨q1, h⟩ | ⟨q1, h⟩
  · obtain ⟨r_1, q2, h⟩ := bnd_some h
    obtain rfl := Option.some.inj h
    exact ret_go (k := (k + 3)) Tryz.func46 Tryz.ntmps46 (by kernel_rfl) (by kernel_rfl) (lb rfl) (adv [([], 1, 2, .eq (pB true)), ([], 2, 2, .ret (JobD.a r_1))]) (ex := .ret) (r := (.tup [(JobD.a r_1), (pB false)])) (by kernel_rfl) rfl (by kernel_rfl) (allC (cg q1) (allC (ref15Fail_ok k j path (32 : Int) _ q2) allN)) (by kernel_rfl) allN
  · obtain rfl := Option.some.inj h
    exact ret_go (k := (k + 3)) Tryz.func46 Tryz.ntmps46 (by kernel_rfl) (by kernel_rfl) (lb rfl) (adv [([], 1, 2, .eq (pB false))]) (ex := .ret) (r := (.tup [(.agg [(pI j.kind), (pI j.p), (pI j.phase), (pI j.fd), (pI j.nF), (pI j.modeF), (pI (w64 (j.tries + (1 : Int)))), (pI j.atF), (pI j.flags), (pS j.path), (pS j.path2), (pS j.text), (.list 1 false (j.names.map cS)), (.list 3 false (j.stack.map FrameD.c)), (.list 1 false (j.draws.map cI)), (pB j.done), (pI j.exit), (pS j.out), (pI j.e)]), (pB true)])) (by kernel_rfl) rfl (by kernel_rfl) (allC (cg q1) allN) (by kernel_rfl) allN
def ref15End (j : JobD) (out : ByteArray) : Option JobD :=
 some (JobD.mk j.kind j.p j.phase j.fd j.nF j.modeF j.tries j.atF j.flags j.path j.path2 j.text j.names j.stack j.draws true (0 : Int) out j.e)
set_option maxRecDepth 100000 in
theorem ref15End_ok (k : Nat) (j : JobD) (out : ByteArray) (r : JobD) (h : ref15End j out = some r) : run0 (k + 1) 47 [(JobD.a j), (pS out)] = some (JobD.a r) := by
  unfold ref15End at h
  obtain rfl := Option.some.inj h
  exact ret_go (k := k) Tryz.func47 Tryz.ntmps47 (by kernel_rfl) (by kernel_rfl) (lb rfl) (adv []) (ex := .ret) (r := (.agg [(pI j.kind), (pI j.p), (pI j.phase), (pI j.fd), (pI j.nF), (pI j.modeF), (pI j.tries), (pI j.atF), (pI j.flags), (pS j.path), (pS j.path2), (pS j.text), (.list 1 false (j.names.map cS)), (.list 3 false (j.stack.map FrameD.c)), (.list 1 false (j.draws.map cI)), (pB true), (pI (0 : Int)), (pS out), (pI j.e)])) (by kernel_rfl) rfl (by kernel_rfl) allN (by kernel_rfl) allN
end Go.Proofs.YtaenhodkpidocaaGreatDoor.Den
namespace Go.Proofs.YtaenhodkpidocaaGreatDoor.Den
open Go Go.RowKit
def ref21Tell (j : JobD) (rF : ReplyD) : Option JobD :=
 (ref21Mine j).bind fun r_1 =>
 bif (!r_1) then (
 some j
 ) else (
 bif (j.phase == (0 : Int)) then (
 bif (rF.e == (0 : Int)) then (
 some (JobD.mk j.kind j.p (1 : Int) rF.nF j.nF j.modeF j.tries j.atF j.flags j.path j.path2 j.text j.names j.stack j.draws j.done j.exit j.out j.e)
 ) else (
 bif (rF.e != (3 : Int)) then (
 (ref15Fail j j.path2 rF.e).bind fun r_2 =>
 some r_2
 ) else (
 (ref15Again j j.path).bind fun (r_2, r_3) =>
 bif r_3 then (
 (ref21Named r_2).bind fun r_4 =>
 some r_4
 ) else (
 some r_2
 )
 )
 )
 ) else (
 bif (j.phase == (1 : Int)) then (
 bif (rF.e == (0 : Int)) then (
 bif (j.phase == (4 : Int)) then (
 (ref15End j (bs [])).bind fun r_2 =>
 some r_2
 ) else (
 bif (rF.e == (0 : Int)) then (
 some (JobD.mk j.kind j.p (w64 (j.phase + (1 : Int))) j.fd j.nF j.modeF j.tries j.atF j.flags j.path j.path2 j.text j.names j.stack j.draws j.done j.exit j.out j.e)
 ) else (
 bif (j.phase == (4 : Int)) then (
 some (JobD.mk j.kind j.p (6 : Int) j.fd rF.e j.modeF j.tries j.atF j.flags j.path j.path2 j.text j.names j.stack j.draws j.done j.exit j.out j.e)
 ) else (
 some (JobD.mk j.kind j.p (5 : Int) j.fd rF.e j.modeF j.tries j.atF j.flags j.path j.path2 j.text j.names j.stack j.draws j.done j.exit j.out j.e)
 )
 )
 )
 ) else (
 bif (rF.e == (0 : Int)) then (
 some (JobD.mk j.kind j.p (w64 (j.phase + (1 : Int))) j.fd j.nF j.modeF j.tries j.atF j.flags j.path j.path2 j.text j.names j.stack j.draws j.done j.exit j.out j.e)
 ) else (
 bif (j.phase == (4 : Int)) then (
 some (JobD.mk j.kind j.p (6 : Int) j.fd rF.e j.modeF j.tries j.atF j.flags j.path j.path2 j.text j.names j.stack j.draws j.done j.exit j.out j.e)
 ) else (
 some (JobD.mk j.kind j.p (5 : Int) j.fd rF.e j.modeF j.tries j.atF j.flags j.path j.path2 j.text j.names j.stack j.draws j.done j.exit j.out j.e)
 )
 )
 )
 ) else (
 bif (j.phase == (2 : Int)) then (
 bif (rF.e == (0 : Int)) then (
 bif (j.phase == (4 : Int)) then (
 (ref15End j (bs [])).bind fun r_2 =>
 some r_2
 ) else (
 bif (rF.e == (0 : Int)) then (
 some (JobD.mk j.kind j.p (w64 (j.phase + (1 : Int))) j.fd j.nF j.modeF j.tries j.atF j.flags j.path j.path2 j.text j.names j.stack j.draws j.done j.exit j.out j.e)
 ) else (
 bif (j.phase == (4 : Int)) then (
 some (JobD.mk j.kind j.p (6 : Int) j.fd rF.e j.modeF j.tries j.atF j.flags j.path j.path2 j.text j.names j.stack j.draws j.done j.exit j.out j.e)
 ) else (
 some (JobD.mk j.kind j.p (5 : Int) j.fd rF.e j.modeF j.tries j.atF j.flags j.path j.path2 j.text j.names j.stack j.draws j.done j.exit j.out j.e)
 )
 )
 )
 ) else (
 bif (rF.e == (0 : Int)) then (
 some (JobD.mk j.kind j.p (w64 (j.phase + (1 : Int))) j.fd j.nF j.modeF j.tries j.atF j.flags j.path j.path2 j.text j.names j.stack j.draws j.done j.exit j.out j.e)
 ) else (
 bif (j.phase == (4 : Int)) then (
 some (JobD.mk j.kind j.p (6 : Int) j.fd rF.e j.modeF j.tries j.atF j.flags j.path j.path2 j.text j.names j.stack j.draws j.done j.exit j.out j.e)
 ) else (
 some (JobD.mk j.kind j.p (5 : Int) j.fd rF.e j.modeF j.tries j.atF j.flags j.path j.path2 j.text j.names j.stack j.draws j.done j.exit j.out j.e)
 )
 )
 )
 ) else (
 bif (j.phase == (4 : Int)) then (
 bif (rF.e == (0 : Int)) then (
 bif (j.phase == (4 : Int)) then (
 (ref15End j (bs [])).bind fun r_2 =>
 some r_2
 ) else (
 bif (rF.e == (0 : Int)) then (
 some (JobD.mk j.kind j.p (w64 (j.phase + (1 : Int))) j.fd j.nF j.modeF j.tries j.atF j.flags j.path j.path2 j.text j.names j.stack j.draws j.done j.exit j.out j.e)
 ) else (
 bif (j.phase == (4 : Int)) then (
 some (JobD.mk j.kind j.p (6 : Int) j.fd rF.e j.modeF j.tries j.atF j.flags j.path j.path2 j.text j.names j.stack j.draws j.done j.exit j.out j.e)
 ) else (
 some (JobD.mk j.kind j.p (5 : Int) j.fd rF.e j.modeF j.tries j.atF j.flags j.path j.path2 j.text j.names j.stack j.draws j.done j.exit j.out j.e)
 )
 )
 )
 ) else (
 bif (rF.e == (0 : Int)) then (
 some (JobD.mk j.kind j.p (w64 (j.phase + (1 : Int))) j.fd j.nF j.modeF j.tries j.atF j.flags j.path j.path2 j.text j.names j.stack j.draws j.done j.exit j.out j.e)
 ) else (
 bif (j.phase == (4 : Int)) then (
 some (JobD.mk j.kind j.p (6 : Int) j.fd rF.e j.modeF j.tries j.atF j.flags j.path j.path2 j.text j.names j.stack j.draws j.done j.exit j.out j.e)
 ) else (
 some (JobD.mk j.kind j.p (5 : Int) j.fd rF.e j.modeF j.tries j.atF j.flags j.path j.path2 j.text j.names j.stack j.draws j.done j.exit j.out j.e)
 )
 )
 )
 ) else (
 bif (j.phase == (3 : Int)) then (
 some (JobD.mk j.kind j.p (w64 (j.phase + (1 : Int))) j.fd j.nF j.modeF j.tries j.atF j.flags j.path j.path2 j.text j.names j.stack j.draws j.done j.exit j.out j.e)
 ) else (
 bif (j.phase == (5 : Int)) then (
 some (JobD.mk j.kind j.p (w64 (j.phase + (1 : Int))) j.fd j.nF j.modeF j.tries j.atF j.flags j.path j.path2 j.text j.names j.stack j.draws j.done j.exit j.out j.e)
 ) else (
 (ref15Fail j j.path j.nF).bind fun r_2 =>
 some r_2
 )
 )
 )
 )
 )
 )
 )
set_option maxRecDepth 100000 in
theorem ref21Tell_ok (k : Nat) (j : JobD) (rF : ReplyD) (r : JobD) (h : ref21Tell j rF = some r) : run0 (k + 5) 17 [(JobD.a j), (.agg [(pI rF.e), (pI rF.nF), (pS rF.s), (.list 1 false (rF.l.map cS)), (pI rF.i.ino), (pI rF.i.kind), (pI rF.i.modeF), (pI rF.i.owner), (pI rF.i.links), (pI rF.i.size)])] = some (JobD.a r) := by
  unfold ref21Tell at h
  obtain ⟨r_1, q1, h⟩ := bnd_some h
  rcases bif_some h with ⟨q2, h⟩ | ⟨q2, h⟩
  · obtain rfl := Option.some.inj h
    exact ret_go (k := (k + 4)) Tryz.func17 Tryz.ntmps17 (by kernel_rfl) (by kernel_rfl) (lb rfl) (adv [([], 1, 1, .ret (pB r_1)), ([], 1, 2, .eq (pB true))]) (ex := .ret) (r := (JobD.a j)) (by kernel_rfl) rfl (by kernel_rfl) (allC (ref21Mine_ok (k + 3) j _ q1) (allC (cg q2) allN)) (by kernel_rfl) allN
  · rcases bif_some h with ⟨q3, h⟩ | ⟨q3, h⟩
    · rcases bif_some h with ⟨q4, h⟩ | ⟨q4, h⟩
      · obtain rfl := Option.some.inj h
        exact ret_go (k := (k + 4)) Tryz.func17 Tryz.ntmps17 (by kernel_rfl) (by kernel_rfl) (lb rfl) (adv [([], 1, 1, .ret (pB r_1)), ([], 1, 2, .eq (pB false)), ([], 4, 1, .eq (pB true)), ([], 5, 2, .eq (pB true))]) (ex := .ret) (r := (.agg [(pI j.kind), (pI j.p), (pI (1 : Int)), (pI rF.nF), (pI j.nF), (pI j.modeF), (pI j.tries), (pI j.atF), (pI j.flags), (pS j.path), (pS j.path2), (pS j.text), (.list 1 false (j.names.map cS)), (.list 3 false (j.stack.map FrameD.c)), (.list 1 false (j.draws.map cI)), (pB j.done), (pI j.exit), (pS j.out), (pI j.e)])) (by kernel_rfl) rfl (by kernel_rfl) (allC (ref21Mine_ok (k + 3) j _ q1) (allC (cg q2) (allC (cg q3) (allC (cg q4) allN)))) (by kernel_rfl) allN
      · rcases bif_some h with ⟨q5, h⟩ | ⟨q5, h⟩
        · obtain ⟨r_2, q6, h⟩ := bnd_some h
          obtain rfl := Option.some.inj h
          exact ret_go (k := (k + 4)) Tryz.func17 Tryz.ntmps17 (by kernel_rfl) (by kernel_rfl) (lb rfl) (adv [([], 1, 1, .ret (pB r_1)), ([], 1, 2, .eq (pB false)), ([], 4, 1, .eq (pB true)), ([], 5, 2, .eq (pB false)), ([], 9, 2, .eq (pB true)), ([], 10, 5, .ret (JobD.a r_2))]) (ex := .ret) (r := (JobD.a r_2)) (by kernel_rfl) rfl (by kernel_rfl) (allC (ref21Mine_ok (k + 3) j _ q1) (allC (cg q2) (allC (cg q3) (allC (cg q4) (allC (cg q5) (allC (ref15Fail_ok (k + 1) j j.path2 rF.e _ q6) allN)))))) (by kernel_rfl) allN
        · obtain ⟨⟨r_2, r_3⟩, q6, h⟩ := bnd_some h
          try dsimp only at h
          rcases bif_some h with ⟨q7, h⟩ | ⟨q7, h⟩
          · obtain ⟨r_4, q8, h⟩ := bnd_some h
            obtain rfl := Option.some.inj h
            exact ret_go (k := (k + 4)) Tryz.func17 Tryz.ntmps17 (by kernel_rfl) (by kernel_rfl) (lb rfl) (adv [([], 1, 1, .ret (pB r_1)), ([], 1, 2, .eq (pB false)), ([], 4, 1, .eq (pB true)), ([], 5, 2, .eq (pB false)), ([], 9, 2, .eq (pB false)), ([], 11, 3, .ret (.tup [(JobD.a r_2), (pB r_3)])), ([], 12, 0, .eq (pB true)), ([], 13, 1, .ret (JobD.a r_4))]) (ex := .ret) (r := (JobD.a r_4)) (by kernel_rfl) rfl (by kernel_rfl) (allC (ref21Mine_ok (k + 3) j _ q1) (allC (cg q2) (allC (cg q3) (allC (cg q4) (allC (cg q5) (allC (ref15Again_ok k j j.path _ q6) (allC (cg q7) (allC (ref21Named_ok k r_2 _ q8) allN)))))))) (by kernel_rfl) allN
          · obtain rfl := Option.some.inj h
            exact ret_go (k := (k + 4)) Tryz.func17 Tryz.ntmps17 (by kernel_rfl) (by kernel_rfl) (lb rfl) (adv [([], 1, 1, .ret (pB r_1)), ([], 1, 2, .eq (pB false)), ([], 4, 1, .eq (pB true)), ([], 5, 2, .eq (pB false)), ([], 9, 2, .eq (pB false)), ([], 11, 3, .ret (.tup [(JobD.a r_2), (pB r_3)])), ([], 12, 0, .eq (pB false))]) (ex := .ret) (r := (JobD.a r_2)) (by kernel_rfl) rfl (by kernel_rfl) (allC (ref21Mine_ok (k + 3) j _ q1) (allC (cg q2) (allC (cg q3) (allC (cg q4) (allC (cg q5) (allC (ref15Again_ok k j j.path _ q6) (allC (cg q7) allN))))))) (by kernel_rfl) allN
    · rcases bif_some h with ⟨q4, h⟩ | ⟨q4, h⟩
      · rcases bif_some h with ⟨q5, h⟩ | ⟨q5, h⟩
        · rcases bif_some h with ⟨q6, h⟩ | ⟨q6, h⟩
          · obtain ⟨r_2, q7, h⟩ := bnd_some h
            obtain rfl := Option.some.inj h
            exact ret_go (k := (k + 4)) Tryz.func17 Tryz.ntmps17 (by kernel_rfl) (by kernel_rfl) (lb rfl) (adv [([], 1, 1, .ret (pB r_1)), ([], 1, 2, .eq (pB false)), ([], 4, 1, .eq (pB false)), ([], 15, 1, .eq (pB true)), ([], 18, 3, .eq (pB true)), ([], 18, 7, .eq (pB true)), ([], 19, 1, .ret (JobD.a r_2))]) (ex := .ret) (r := (JobD.a r_2)) (by kernel_rfl) rfl (by kernel_rfl) (allC (ref21Mine_ok (k + 3) j _ q1) (allC (cg q2) (allC (cg q3) (allC (cg q4) (allC (cg q5) (allC (cg q6) (allC (ref15End_ok (k + 3) j (bs []) _ q7) allN))))))) (by kernel_rfl) allN
          · rcases bif_some h with ⟨q7, h⟩ | ⟨q7, h⟩
            · obtain rfl := Option.some.inj h
              exact ret_go (k := (k + 4)) Tryz.func17 Tryz.ntmps17 (by kernel_rfl) (by kernel_rfl) (lb rfl) (adv [([], 1, 1, .ret (pB r_1)), ([], 1, 2, .eq (pB false)), ([], 4, 1, .eq (pB false)), ([], 15, 1, .eq (pB true)), ([], 18, 3, .eq (pB true)), ([], 18, 7, .eq (pB false)), ([], 20, 2, .eq (pB true))]) (ex := .ret) (r := (.agg [(pI j.kind), (pI j.p), (pI (w64 (j.phase + (1 : Int)))), (pI j.fd), (pI j.nF), (pI j.modeF), (pI j.tries), (pI j.atF), (pI j.flags), (pS j.path), (pS j.path2), (pS j.text), (.list 1 false (j.names.map cS)), (.list 3 false (j.stack.map FrameD.c)), (.list 1 false (j.draws.map cI)), (pB j.done), (pI j.exit), (pS j.out), (pI j.e)])) (by kernel_rfl) rfl (by kernel_rfl) (allC (ref21Mine_ok (k + 3) j _ q1) (allC (cg q2) (allC (cg q3) (allC (cg q4) (allC (cg q5) (allC (cg q6) (allC (cg q7) allN))))))) (by kernel_rfl) allN
            · rcases bif_some h with ⟨q8, h⟩ | ⟨q8, h⟩
              · obtain rfl := Option.some.inj h
                exact ret_go (k := (k + 4)) Tryz.func17 Tryz.ntmps17 (by kernel_rfl) (by kernel_rfl) (lb rfl) (adv [([], 1, 1, .ret (pB r_1)), ([], 1, 2, .eq (pB false)), ([], 4, 1, .eq (pB false)), ([], 15, 1, .eq (pB true)), ([], 18, 3, .eq (pB true)), ([], 18, 7, .eq (pB false)), ([], 20, 2, .eq (pB false)), ([], 24, 2, .eq (pB true))]) (ex := .ret) (r := (.agg [(pI j.kind), (pI j.p), (pI (6 : Int)), (pI j.fd), (pI rF.e), (pI j.modeF), (pI j.tries), (pI j.atF), (pI j.flags), (pS j.path), (pS j.path2), (pS j.text), (.list 1 false (j.names.map cS)), (.list 3 false (j.stack.map FrameD.c)), (.list 1 false (j.draws.map cI)), (pB j.done), (pI j.exit), (pS j.out), (pI j.e)])) (by kernel_rfl) rfl (by kernel_rfl) (allC (ref21Mine_ok (k + 3) j _ q1) (allC (cg q2) (allC (cg q3) (allC (cg q4) (allC (cg q5) (allC (cg q6) (allC (cg q7) (allC (cg q8) allN)))))))) (by kernel_rfl) allN
              · obtain rfl := Option.some.inj h
                exact ret_go (k := (k + 4)) Tryz.func17 Tryz.ntmps17 (by kernel_rfl) (by kernel_rfl) (lb rfl) (adv [([], 1, 1, .ret (pB r_1)), ([], 1, 2, .eq (pB false)), ([], 4, 1, .eq (pB false)), ([], 15, 1, .eq (pB true)), ([], 18, 3, .eq (pB true)), ([], 18, 7, .eq (pB false)), ([], 20, 2, .eq (pB false)), ([], 24, 2, .eq (pB false))]) (ex := .ret) (r := (.agg [(pI j.kind), (pI j.p), (pI (5 : Int)), (pI j.fd), (pI rF.e), (pI j.modeF), (pI j.tries), (pI j.atF), (pI j.flags), (pS j.path), (pS j.path2), (pS j.text), (.list 1 false (j.names.map cS)), (.list 3 false (j.stack.map FrameD.c)), (.list 1 false (j.draws.map cI)), (pB j.done), (pI j.exit), (pS j.out), (pI j.e)])) (by kernel_rfl) rfl (by kernel_rfl) (allC (ref21Mine_ok (k + 3) j _ q1) (allC (cg q2) (allC (cg q3) (allC (cg q4) (allC (cg q5) (allC (cg q6) (allC (cg q7) (allC (cg q8) allN)))))))) (by kernel_rfl) allN
        · rcases bif_some h with ⟨q6, h⟩ | ⟨q6, h⟩
          · obtain rfl := Option.some.inj h
            exact ret_go (k := (k + 4)) Tryz.func17 Tryz.ntmps17 (by kernel_rfl) (by kernel_rfl) (lb rfl) (adv [([], 1, 1, .ret (pB r_1)), ([], 1, 2, .eq (pB false)), ([], 4, 1, .eq (pB false)), ([], 15, 1, .eq (pB true)), ([], 18, 3, .eq (pB false)), ([], 20, 2, .eq (pB true))]) (ex := .ret) (r := (.agg [(pI j.kind), (pI j.p), (pI (w64 (j.phase + (1 : Int)))), (pI j.fd), (pI j.nF), (pI j.modeF), (pI j.tries), (pI j.atF), (pI j.flags), (pS j.path), (pS j.path2), (pS j.text), (.list 1 false (j.names.map cS)), (.list 3 false (j.stack.map FrameD.c)), (.list 1 false (j.draws.map cI)), (pB j.done), (pI j.exit), (pS j.out), (pI j.e)])) (by kernel_rfl) rfl (by kernel_rfl) (allC (ref21Mine_ok (k + 3) j _ q1) (allC (cg q2) (allC (cg q3) (allC (cg q4) (allC (cg q5) (allC (cg q6) allN)))))) (by kernel_rfl) allN
          · rcases bif_some h with ⟨q7, h⟩ | ⟨q7, h⟩
            · obtain rfl := Option.some.inj h
              exact ret_go (k := (k + 4)) Tryz.func17 Tryz.ntmps17 (by kernel_rfl) (by kernel_rfl) (lb rfl) (adv [([], 1, 1, .ret (pB r_1)), ([], 1, 2, .eq (pB false)), ([], 4, 1, .eq (pB false)), ([], 15, 1, .eq (pB true)), ([], 18, 3, .eq (pB false)), ([], 20, 2, .eq (pB false)), ([], 24, 2, .eq (pB true))]) (ex := .ret) (r := (.agg [(pI j.kind), (pI j.p), (pI (6 : Int)), (pI j.fd), (pI rF.e), (pI j.modeF), (pI j.tries), (pI j.atF), (pI j.flags), (pS j.path), (pS j.path2), (pS j.text), (.list 1 false (j.names.map cS)), (.list 3 false (j.stack.map FrameD.c)), (.list 1 false (j.draws.map cI)), (pB j.done), (pI j.exit), (pS j.out), (pI j.e)])) (by kernel_rfl) rfl (by kernel_rfl) (allC (ref21Mine_ok (k + 3) j _ q1) (allC (cg q2) (allC (cg q3) (allC (cg q4) (allC (cg q5) (allC (cg q6) (allC (cg q7) allN))))))) (by kernel_rfl) allN
            · obtain rfl := Option.some.inj h
              exact ret_go (k := (k + 4)) Tryz.func17 Tryz.ntmps17 (by kernel_rfl) (by kernel_rfl) (lb rfl) (adv [([], 1, 1, .ret (pB r_1)), ([], 1, 2, .eq (pB false)), ([], 4, 1, .eq (pB false)), ([], 15, 1, .eq (pB true)), ([], 18, 3, .eq (pB false)), ([], 20, 2, .eq (pB false)), ([], 24, 2, .eq (pB false))]) (ex := .ret) (r := (.agg [(pI j.kind), (pI j.p), (pI (5 : Int)), (pI j.fd), (pI rF.e), (pI j.modeF), (pI j.tries), (pI j.atF), (pI j.flags), (pS j.path), (pS j.path2), (pS j.text), (.list 1 false (j.names.map cS)), (.list 3 false (j.stack.map FrameD.c)), (.list 1 false (j.draws.map cI)), (pB j.done), (pI j.exit), (pS j.out), (pI j.e)])) (by kernel_rfl) rfl (by kernel_rfl) (allC (ref21Mine_ok (k + 3) j _ q1) (allC (cg q2) (allC (cg q3) (allC (cg q4) (allC (cg q5) (allC (cg q6) (allC (cg q7) allN))))))) (by kernel_rfl) allN
      · rcases bif_some h with ⟨q5, h⟩ | ⟨q5, h⟩
        · rcases bif_some h with ⟨q6, h⟩ | ⟨q6, h⟩
          · rcases bif_some h with ⟨q7, h⟩ | ⟨q7, h⟩
            · obtain ⟨r_2, q8, h⟩ := bnd_some h
              obtain rfl := Option.some.inj h
              exact ret_go (k := (k + 4)) Tryz.func17 Tryz.ntmps17 (by kernel_rfl) (by kernel_rfl) (lb rfl) (adv [([], 1, 1, .ret (pB r_1)), ([], 1, 2, .eq (pB false)), ([], 4, 1, .eq (pB false)), ([], 15, 1, .eq (pB false)), ([], 16, 1, .eq (pB true)), ([], 18, 3, .eq (pB true)), ([], 18, 7, .eq (pB true)), ([], 19, 1, .ret (JobD.a r_2))]) (ex := .ret) (r := (JobD.a r_2)) (by kernel_rfl) rfl (by kernel_rfl) (allC (ref21Mine_ok (k + 3) j _ q1) (allC (cg q2) (allC (cg q3) (allC (cg q4) (allC (cg q5) (allC (cg q6) (allC (cg q7) (allC (ref15End_ok (k + 3) j (bs []) _ q8) allN)))))))) (by kernel_rfl) allN
            · rcases bif_some h with ⟨q8, h⟩ | ⟨q8, h⟩
              · obtain rfl := Option.some.inj h
                exact ret_go (k := (k + 4)) Tryz.func17 Tryz.ntmps17 (by kernel_rfl) (by kernel_rfl) (lb rfl) (adv [([], 1, 1, .ret (pB r_1)), ([], 1, 2, .eq (pB false)), ([], 4, 1, .eq (pB false)), ([], 15, 1, .eq (pB false)), ([], 16, 1, .eq (pB true)), ([], 18, 3, .eq (pB true)), ([], 18, 7, .eq (pB false)), ([], 20, 2, .eq (pB true))]) (ex := .ret) (r := (.agg [(pI j.kind), (pI j.p), (pI (w64 (j.phase + (1 : Int)))), (pI j.fd), (pI j.nF), (pI j.modeF), (pI j.tries), (pI j.atF), (pI j.flags), (pS j.path), (pS j.path2), (pS j.text), (.list 1 false (j.names.map cS)), (.list 3 false (j.stack.map FrameD.c)), (.list 1 false (j.draws.map cI)), (pB j.done), (pI j.exit), (pS j.out), (pI j.e)])) (by kernel_rfl) rfl (by kernel_rfl) (allC (ref21Mine_ok (k + 3) j _ q1) (allC (cg q2) (allC (cg q3) (allC (cg q4) (allC (cg q5) (allC (cg q6) (allC (cg q7) (allC (cg q8) allN)))))))) (by kernel_rfl) allN
              · rcases bif_some h with ⟨q9, h⟩ | ⟨q9, h⟩
                · obtain rfl := Option.some.inj h
                  exact ret_go (k := (k + 4)) Tryz.func17 Tryz.ntmps17 (by kernel_rfl) (by kernel_rfl) (lb rfl) (adv [([], 1, 1, .ret (pB r_1)), ([], 1, 2, .eq (pB false)), ([], 4, 1, .eq (pB false)), ([], 15, 1, .eq (pB false)), ([], 16, 1, .eq (pB true)), ([], 18, 3, .eq (pB true)), ([], 18, 7, .eq (pB false)), ([], 20, 2, .eq (pB false)), ([], 24, 2, .eq (pB true))]) (ex := .ret) (r := (.agg [(pI j.kind), (pI j.p), (pI (6 : Int)), (pI j.fd), (pI rF.e), (pI j.modeF), (pI j.tries), (pI j.atF), (pI j.flags), (pS j.path), (pS j.path2), (pS j.text), (.list 1 false (j.names.map cS)), (.list 3 false (j.stack.map FrameD.c)), (.list 1 false (j.draws.map cI)), (pB j.done), (pI j.exit), (pS j.out), (pI j.e)])) (by kernel_rfl) rfl (by kernel_rfl) (allC (ref21Mine_ok (k + 3) j _ q1) (allC (cg q2) (allC (cg q3) (allC (cg q4) (allC (cg q5) (allC (cg q6) (allC (cg q7) (allC (cg q8) (allC (cg q9) allN))))))))) (by kernel_rfl) allN
                · obtain rfl := Option.some.inj h
                  exact ret_go (k := (k + 4)) Tryz.func17 Tryz.ntmps17 (by kernel_rfl) (by kernel_rfl) (lb rfl) (adv [([], 1, 1, .ret (pB r_1)), ([], 1, 2, .eq (pB false)), ([], 4, 1, .eq (pB false)), ([], 15, 1, .eq (pB false)), ([], 16, 1, .eq (pB true)), ([], 18, 3, .eq (pB true)), ([], 18, 7, .eq (pB false)), ([], 20, 2, .eq (pB false)), ([], 24, 2, .eq (pB false))]) (ex := .ret) (r := (.agg [(pI j.kind), (pI j.p), (pI (5 : Int)), (pI j.fd), (pI rF.e), (pI j.modeF), (pI j.tries), (pI j.atF), (pI j.flags), (pS j.path), (pS j.path2), (pS j.text), (.list 1 false (j.names.map cS)), (.list 3 false (j.stack.map FrameD.c)), (.list 1 false (j.draws.map cI)), (pB j.done), (pI j.exit), (pS j.out), (pI j.e)])) (by kernel_rfl) rfl (by kernel_rfl) (allC (ref21Mine_ok (k + 3) j _ q1) (allC (cg q2) (allC (cg q3) (allC (cg q4) (allC (cg q5) (allC (cg q6) (allC (cg q7) (allC (cg q8) (allC (cg q9) allN))))))))) (by kernel_rfl) allN
          · rcases bif_some h with ⟨q7, h⟩ | ⟨q7, h⟩
            · obtain rfl := Option.some.inj h
              exact ret_go (k := (k + 4)) Tryz.func17 Tryz.ntmps17 (by kernel_rfl) (by kernel_rfl) (lb rfl) (adv [([], 1, 1, .ret (pB r_1)), ([], 1, 2, .eq (pB false)), ([], 4, 1, .eq (pB false)), ([], 15, 1, .eq (pB false)), ([], 16, 1, .eq (pB true)), ([], 18, 3, .eq (pB false)), ([], 20, 2, .eq (pB true))]) (ex := .ret) (r := (.agg [(pI j.kind), (pI j.p), (pI (w64 (j.phase + (1 : Int)))), (pI j.fd), (pI j.nF), (pI j.modeF), (pI j.tries), (pI j.atF), (pI j.flags), (pS j.path), (pS j.path2), (pS j.text), (.list 1 false (j.names.map cS)), (.list 3 false (j.stack.map FrameD.c)), (.list 1 false (j.draws.map cI)), (pB j.done), (pI j.exit), (pS j.out), (pI j.e)])) (by kernel_rfl) rfl (by kernel_rfl) (allC (ref21Mine_ok (k + 3) j _ q1) (allC (cg q2) (allC (cg q3) (allC (cg q4) (allC (cg q5) (allC (cg q6) (allC (cg q7) allN))))))) (by kernel_rfl) allN
            · rcases bif_some h with ⟨q8, h⟩ | ⟨q8, h⟩
              · obtain rfl := Option.some.inj h
                exact ret_go (k := (k + 4)) Tryz.func17 Tryz.ntmps17 (by kernel_rfl) (by kernel_rfl) (lb rfl) (adv [([], 1, 1, .ret (pB r_1)), ([], 1, 2, .eq (pB false)), ([], 4, 1, .eq (pB false)), ([], 15, 1, .eq (pB false)), ([], 16, 1, .eq (pB true)), ([], 18, 3, .eq (pB false)), ([], 20, 2, .eq (pB false)), ([], 24, 2, .eq (pB true))]) (ex := .ret) (r := (.agg [(pI j.kind), (pI j.p), (pI (6 : Int)), (pI j.fd), (pI rF.e), (pI j.modeF), (pI j.tries), (pI j.atF), (pI j.flags), (pS j.path), (pS j.path2), (pS j.text), (.list 1 false (j.names.map cS)), (.list 3 false (j.stack.map FrameD.c)), (.list 1 false (j.draws.map cI)), (pB j.done), (pI j.exit), (pS j.out), (pI j.e)])) (by kernel_rfl) rfl (by kernel_rfl) (allC (ref21Mine_ok (k + 3) j _ q1) (allC (cg q2) (allC (cg q3) (allC (cg q4) (allC (cg q5) (allC (cg q6) (allC (cg q7) (allC (cg q8) allN)))))))) (by kernel_rfl) allN
              · obtain rfl := Option.some.inj h
                exact ret_go (k := (k + 4)) Tryz.func17 Tryz.ntmps17 (by kernel_rfl) (by kernel_rfl) (lb rfl) (adv [([], 1, 1, .ret (pB r_1)), ([], 1, 2, .eq (pB false)), ([], 4, 1, .eq (pB false)), ([], 15, 1, .eq (pB false)), ([], 16, 1, .eq (pB true)), ([], 18, 3, .eq (pB false)), ([], 20, 2, .eq (pB false)), ([], 24, 2, .eq (pB false))]) (ex := .ret) (r := (.agg [(pI j.kind), (pI j.p), (pI (5 : Int)), (pI j.fd), (pI rF.e), (pI j.modeF), (pI j.tries), (pI j.atF), (pI j.flags), (pS j.path), (pS j.path2), (pS j.text), (.list 1 false (j.names.map cS)), (.list 3 false (j.stack.map FrameD.c)), (.list 1 false (j.draws.map cI)), (pB j.done), (pI j.exit), (pS j.out), (pI j.e)])) (by kernel_rfl) rfl (by kernel_rfl) (allC (ref21Mine_ok (k + 3) j _ q1) (allC (cg q2) (allC (cg q3) (allC (cg q4) (allC (cg q5) (allC (cg q6) (allC (cg q7) (allC (cg q8) allN)))))))) (by kernel_rfl) allN
        · rcases bif_some h with ⟨q6, h⟩ | ⟨q6, h⟩
          · rcases bif_some h with ⟨q7, h⟩ | ⟨q7, h⟩
            · rcases bif_some h with ⟨q8, h⟩ | ⟨q8, h⟩
              · obtain ⟨r_2, q9, h⟩ := bnd_some h
                obtain rfl := Option.some.inj h
                exact ret_go (k := (k + 4)) Tryz.func17 Tryz.ntmps17 (by kernel_rfl) (by kernel_rfl) (lb rfl) (adv [([], 1, 1, .ret (pB r_1)), ([], 1, 2, .eq (pB false)), ([], 4, 1, .eq (pB false)), ([], 15, 1, .eq (pB false)), ([], 16, 1, .eq (pB false)), ([], 17, 1, .eq (pB true)), ([], 18, 3, .eq (pB true)), ([], 18, 7, .eq (pB true)), ([], 19, 1, .ret (JobD.a r_2))]) (ex := .ret) (r := (JobD.a r_2)) (by kernel_rfl) rfl (by kernel_rfl) (allC (ref21Mine_ok (k + 3) j _ q1) (allC (cg q2) (allC (cg q3) (allC (cg q4) (allC (cg q5) (allC (cg q6) (allC (cg q7) (allC (cg q8) (allC (ref15End_ok (k + 3) j (bs []) _ q9) allN))))))))) (by kernel_rfl) allN
              · rcases bif_some h with ⟨q9, h⟩ | ⟨q9, h⟩
                · obtain rfl := Option.some.inj h
                  exact ret_go (k := (k + 4)) Tryz.func17 Tryz.ntmps17 (by kernel_rfl) (by kernel_rfl) (lb rfl) (adv [([], 1, 1, .ret (pB r_1)), ([], 1, 2, .eq (pB false)), ([], 4, 1, .eq (pB false)), ([], 15, 1, .eq (pB false)), ([], 16, 1, .eq (pB false)), ([], 17, 1, .eq (pB true)), ([], 18, 3, .eq (pB true)), ([], 18, 7, .eq (pB false)), ([], 20, 2, .eq (pB true))]) (ex := .ret) (r := (.agg [(pI j.kind), (pI j.p), (pI (w64 (j.phase + (1 : Int)))), (pI j.fd), (pI j.nF), (pI j.modeF), (pI j.tries), (pI j.atF), (pI j.flags), (pS j.path), (pS j.path2), (pS j.text), (.list 1 false (j.names.map cS)), (.list 3 false (j.stack.map FrameD.c)), (.list 1 false (j.draws.map cI)), (pB j.done), (pI j.exit), (pS j.out), (pI j.e)])) (by kernel_rfl) rfl (by kernel_rfl) (allC (ref21Mine_ok (k + 3) j _ q1) (allC (cg q2) (allC (cg q3) (allC (cg q4) (allC (cg q5) (allC (cg q6) (allC (cg q7) (allC (cg q8) (allC (cg q9) allN))))))))) (by kernel_rfl) allN
                · rcases bif_some h with ⟨q10, h⟩ | ⟨q10, h⟩
                  · obtain rfl := Option.some.inj h
                    exact ret_go (k := (k + 4)) Tryz.func17 Tryz.ntmps17 (by kernel_rfl) (by kernel_rfl) (lb rfl) (adv [([], 1, 1, .ret (pB r_1)), ([], 1, 2, .eq (pB false)), ([], 4, 1, .eq (pB false)), ([], 15, 1, .eq (pB false)), ([], 16, 1, .eq (pB false)), ([], 17, 1, .eq (pB true)), ([], 18, 3, .eq (pB true)), ([], 18, 7, .eq (pB false)), ([], 20, 2, .eq (pB false)), ([], 24, 2, .eq (pB true))]) (ex := .ret) (r := (.agg [(pI j.kind), (pI j.p), (pI (6 : Int)), (pI j.fd), (pI rF.e), (pI j.modeF), (pI j.tries), (pI j.atF), (pI j.flags), (pS j.path), (pS j.path2), (pS j.text), (.list 1 false (j.names.map cS)), (.list 3 false (j.stack.map FrameD.c)), (.list 1 false (j.draws.map cI)), (pB j.done), (pI j.exit), (pS j.out), (pI j.e)])) (by kernel_rfl) rfl (by kernel_rfl) (allC (ref21Mine_ok (k + 3) j _ q1) (allC (cg q2) (allC (cg q3) (allC (cg q4) (allC (cg q5) (allC (cg q6) (allC (cg q7) (allC (cg q8) (allC (cg q9) (allC (cg q10) allN)))))))))) (by kernel_rfl) allN
                  · obtain rfl := Option.some.inj h
                    exact ret_go (k := (k + 4)) Tryz.func17 Tryz.ntmps17 (by kernel_rfl) (by kernel_rfl) (lb rfl) (adv [([], 1, 1, .ret (pB r_1)), ([], 1, 2, .eq (pB false)), ([], 4, 1, .eq (pB false)), ([], 15, 1, .eq (pB false)), ([], 16, 1, .eq (pB false)), ([], 17, 1, .eq (pB true)), ([], 18, 3, .eq (pB true)), ([], 18, 7, .eq (pB false)), ([], 20, 2, .eq (pB false)), ([], 24, 2, .eq (pB false))]) (ex := .ret) (r := (.agg [(pI j.kind), (pI j.p), (pI (5 : Int)), (pI j.fd), (pI rF.e), (pI j.modeF), (pI j.tries), (pI j.atF), (pI j.flags), (pS j.path), (pS j.path2), (pS j.text), (.list 1 false (j.names.map cS)), (.list 3 false (j.stack.map FrameD.c)), (.list 1 false (j.draws.map cI)), (pB j.done), (pI j.exit), (pS j.out), (pI j.e)])) (by kernel_rfl) rfl (by kernel_rfl) (allC (ref21Mine_ok (k + 3) j _ q1) (allC (cg q2) (allC (cg q3) (allC (cg q4) (allC (cg q5) (allC (cg q6) (allC (cg q7) (allC (cg q8) (allC (cg q9) (allC (cg q10) allN)))))))))) (by kernel_rfl) allN
            · rcases bif_some h with ⟨q8, h⟩ | ⟨q8, h⟩
              · obtain rfl := Option.some.inj h
                exact ret_go (k := (k + 4)) Tryz.func17 Tryz.ntmps17 (by kernel_rfl) (by kernel_rfl) (lb rfl) (adv [([], 1, 1, .ret (pB r_1)), ([], 1, 2, .eq (pB false)), ([], 4, 1, .eq (pB false)), ([], 15, 1, .eq (pB false)), ([], 16, 1, .eq (pB false)), ([], 17, 1, .eq (pB true)), ([], 18, 3, .eq (pB false)), ([], 20, 2, .eq (pB true))]) (ex := .ret) (r := (.agg [(pI j.kind), (pI j.p), (pI (w64 (j.phase + (1 : Int)))), (pI j.fd), (pI j.nF), (pI j.modeF), (pI j.tries), (pI j.atF), (pI j.flags), (pS j.path), (pS j.path2), (pS j.text), (.list 1 false (j.names.map cS)), (.list 3 false (j.stack.map FrameD.c)), (.list 1 false (j.draws.map cI)), (pB j.done), (pI j.exit), (pS j.out), (pI j.e)])) (by kernel_rfl) rfl (by kernel_rfl) (allC (ref21Mine_ok (k + 3) j _ q1) (allC (cg q2) (allC (cg q3) (allC (cg q4) (allC (cg q5) (allC (cg q6) (allC (cg q7) (allC (cg q8) allN)))))))) (by kernel_rfl) allN
              · rcases bif_some h with ⟨q9, h⟩ | ⟨q9, h⟩
                · obtain rfl := Option.some.inj h
                  exact ret_go (k := (k + 4)) Tryz.func17 Tryz.ntmps17 (by kernel_rfl) (by kernel_rfl) (lb rfl) (adv [([], 1, 1, .ret (pB r_1)), ([], 1, 2, .eq (pB false)), ([], 4, 1, .eq (pB false)), ([], 15, 1, .eq (pB false)), ([], 16, 1, .eq (pB false)), ([], 17, 1, .eq (pB true)), ([], 18, 3, .eq (pB false)), ([], 20, 2, .eq (pB false)), ([], 24, 2, .eq (pB true))]) (ex := .ret) (r := (.agg [(pI j.kind), (pI j.p), (pI (6 : Int)), (pI j.fd), (pI rF.e), (pI j.modeF), (pI j.tries), (pI j.atF), (pI j.flags), (pS j.path), (pS j.path2), (pS j.text), (.list 1 false (j.names.map cS)), (.list 3 false (j.stack.map FrameD.c)), (.list 1 false (j.draws.map cI)), (pB j.done), (pI j.exit), (pS j.out), (pI j.e)])) (by kernel_rfl) rfl (by kernel_rfl) (allC (ref21Mine_ok (k + 3) j _ q1) (allC (cg q2) (allC (cg q3) (allC (cg q4) (allC (cg q5) (allC (cg q6) (allC (cg q7) (allC (cg q8) (allC (cg q9) allN))))))))) (by kernel_rfl) allN
                · obtain rfl := Option.some.inj h
                  exact ret_go (k := (k + 4)) Tryz.func17 Tryz.ntmps17 (by kernel_rfl) (by kernel_rfl) (lb rfl) (adv [([], 1, 1, .ret (pB r_1)), ([], 1, 2, .eq (pB false)), ([], 4, 1, .eq (pB false)), ([], 15, 1, .eq (pB false)), ([], 16, 1, .eq (pB false)), ([], 17, 1, .eq (pB true)), ([], 18, 3, .eq (pB false)), ([], 20, 2, .eq (pB false)), ([], 24, 2, .eq (pB false))]) (ex := .ret) (r := (.agg [(pI j.kind), (pI j.p), (pI (5 : Int)), (pI j.fd), (pI rF.e), (pI j.modeF), (pI j.tries), (pI j.atF), (pI j.flags), (pS j.path), (pS j.path2), (pS j.text), (.list 1 false (j.names.map cS)), (.list 3 false (j.stack.map FrameD.c)), (.list 1 false (j.draws.map cI)), (pB j.done), (pI j.exit), (pS j.out), (pI j.e)])) (by kernel_rfl) rfl (by kernel_rfl) (allC (ref21Mine_ok (k + 3) j _ q1) (allC (cg q2) (allC (cg q3) (allC (cg q4) (allC (cg q5) (allC (cg q6) (allC (cg q7) (allC (cg q8) (allC (cg q9) allN))))))))) (by kernel_rfl) allN
          · rcases bif_some h with ⟨q7, h⟩ | ⟨q7, h⟩
            · obtain rfl := Option.some.inj h
              exact ret_go (k := (k + 4)) Tryz.func17 Tryz.ntmps17 (by kernel_rfl) (by kernel_rfl) (lb rfl) (adv [([], 1, 1, .ret (pB r_1)), ([], 1, 2, .eq (pB false)), ([], 4, 1, .eq (pB false)), ([], 15, 1, .eq (pB false)), ([], 16, 1, .eq (pB false)), ([], 17, 1, .eq (pB false)), ([], 28, 1, .eq (pB true))]) (ex := .ret) (r := (.agg [(pI j.kind), (pI j.p), (pI (w64 (j.phase + (1 : Int)))), (pI j.fd), (pI j.nF), (pI j.modeF), (pI j.tries), (pI j.atF), (pI j.flags), (pS j.path), (pS j.path2), (pS j.text), (.list 1 false (j.names.map cS)), (.list 3 false (j.stack.map FrameD.c)), (.list 1 false (j.draws.map cI)), (pB j.done), (pI j.exit), (pS j.out), (pI j.e)])) (by kernel_rfl) rfl (by kernel_rfl) (allC (ref21Mine_ok (k + 3) j _ q1) (allC (cg q2) (allC (cg q3) (allC (cg q4) (allC (cg q5) (allC (cg q6) (allC (cg q7) allN))))))) (by kernel_rfl) allN
            · rcases bif_some h with ⟨q8, h⟩ | ⟨q8, h⟩
              · obtain rfl := Option.some.inj h
                exact ret_go (k := (k + 4)) Tryz.func17 Tryz.ntmps17 (by kernel_rfl) (by kernel_rfl) (lb rfl) (adv [([], 1, 1, .ret (pB r_1)), ([], 1, 2, .eq (pB false)), ([], 4, 1, .eq (pB false)), ([], 15, 1, .eq (pB false)), ([], 16, 1, .eq (pB false)), ([], 17, 1, .eq (pB false)), ([], 28, 1, .eq (pB false)), ([], 29, 1, .eq (pB true))]) (ex := .ret) (r := (.agg [(pI j.kind), (pI j.p), (pI (w64 (j.phase + (1 : Int)))), (pI j.fd), (pI j.nF), (pI j.modeF), (pI j.tries), (pI j.atF), (pI j.flags), (pS j.path), (pS j.path2), (pS j.text), (.list 1 false (j.names.map cS)), (.list 3 false (j.stack.map FrameD.c)), (.list 1 false (j.draws.map cI)), (pB j.done), (pI j.exit), (pS j.out), (pI j.e)])) (by kernel_rfl) rfl (by kernel_rfl) (allC (ref21Mine_ok (k + 3) j _ q1) (allC (cg q2) (allC (cg q3) (allC (cg q4) (allC (cg q5) (allC (cg q6) (allC (cg q7) (allC (cg q8) allN)))))))) (by kernel_rfl) allN
              · obtain ⟨r_2, q9, h⟩ := bnd_some h
                obtain rfl := Option.some.inj h
                exact ret_go (k := (k + 4)) Tryz.func17 Tryz.ntmps17 (by kernel_rfl) (by kernel_rfl) (lb rfl) (adv [([], 1, 1, .ret (pB r_1)), ([], 1, 2, .eq (pB false)), ([], 4, 1, .eq (pB false)), ([], 15, 1, .eq (pB false)), ([], 16, 1, .eq (pB false)), ([], 17, 1, .eq (pB false)), ([], 28, 1, .eq (pB false)), ([], 29, 1, .eq (pB false)), ([], 32, 5, .ret (JobD.a r_2))]) (ex := .ret) (r := (JobD.a r_2)) (by kernel_rfl) rfl (by kernel_rfl) (allC (ref21Mine_ok (k + 3) j _ q1) (allC (cg q2) (allC (cg q3) (allC (cg q4) (allC (cg q5) (allC (cg q6) (allC (cg q7) (allC (cg q8) (allC (ref15Fail_ok (k + 1) j j.path j.nF _ q9) allN))))))))) (by kernel_rfl) allN
end Go.Proofs.YtaenhodkpidocaaGreatDoor.Den
namespace Go.Proofs.YtaenhodkpidocaaGreatDoor.Den
open Go Go.RowKit
noncomputable def law21Plain_L2 : Code := cAt (codeOf Tryz.f13) [true, false, true, false, false]
def law21Plain_R2 (x0 : Int) (x1 : Int) (x2 : Int) (x3 : Int) (x4 : Int) (x5 : Int) (x6 : Int) (x7 : Int) (x8 : Int) (x9 : Int) (x10 : ByteArray) (x11 : ByteArray) (x12 : ByteArray) (x13 : List (List PV)) (x14 : List (List PV)) (x15 : List (List PV)) (x16 : Bool) (x17 : Int) (x18 : ByteArray) (x19 : Int) : St := ⟨envL [(1, (.ptr [0, TAG] 1 0 0)), (3, (pI x0))], hsL [some ⟨19, 29, [[(pI x1), (pI x2), (pI x3), (pI x4), (pI x5), (pI x6), (pI x7), (pI x8), (pI x9), (pS x10), (pS x11), (pS x12), (.list 1 false x13), (.list 3 false x14), (.list 1 false x15), (pB x16), (pI x17), (pS x18), (pI x19)]], true, false⟩] [0]⟩
def law21Plain_S2 (p0 : Int) (p1 : Int) (p2 : Int) (p3 : Int) (p4 : Int) (p5 : Int) (p6 : Int) (p7 : Int) (p8 : Int) (p9 : ByteArray) (p10 : ByteArray) (p11 : ByteArray) (p12 : (List ByteArray)) (p13 : (List FrameD)) (p14 : (List Int)) (p15 : Bool) (p16 : Int) (p17 : ByteArray) (p18 : Int) : Int → St
 | v0 => law21Plain_R2 v0 p0 p1 p2 p3 p4 p5 p6 p7 p8 p9 p10 p11 (p12.map cS) (p13.map FrameD.c) (p14.map cI) p15 p16 p17 p18
def law21Plain_b2 (p0 : Int) (p1 : Int) (p2 : Int) (p3 : Int) (p4 : Int) (p5 : Int) (p6 : Int) (p7 : Int) (p8 : Int) (p9 : ByteArray) (p10 : ByteArray) (p11 : ByteArray) (p12 : (List ByteArray)) (p13 : (List FrameD)) (p14 : (List Int)) (p15 : Bool) (p16 : Int) (p17 : ByteArray) (p18 : Int) : Int → Option (Int ⊕ ((Int × FrameD) ⊕ Int ⊕ Int))
 | v0 =>
 bif (decide (v0 < (p13.length : Int))) then (
 bif (decide (v0 < (30 : Int))) then (
 (gt p13 v0).bind fun y_1 =>
 bif (decide ((y_1.names.length : Int) > (60 : Int))) then (
 some (.inr (.inl (v0, y_1)))
 ) else (
 some (.inl (w64 (v0 + (1 : Int))))
 )
 ) else (
 some (.inr (.inr (.inl v0)))
 )
 ) else (
 some (.inr (.inr (.inr (v0))))
 )
set_option maxRecDepth 100000 in
theorem law21Plain_t2 (k : Nat) (p0 : Int) (p1 : Int) (p2 : Int) (p3 : Int) (p4 : Int) (p5 : Int) (p6 : Int) (p7 : Int) (p8 : Int) (p9 : ByteArray) (p10 : ByteArray) (p11 : ByteArray) (p12 : (List ByteArray)) (p13 : (List FrameD)) (p14 : (List Int)) (p15 : Bool) (p16 : Int) (p17 : ByteArray) (p18 : Int) (v0 a1 : Int) (h : law21Plain_b2 p0 p1 p2 p3 p4 p5 p6 p7 p8 p9 p10 p11 p12 p13 p14 p15 p16 p17 p18 v0 = some (.inl a1)) : ∃ σ, run1 k 13 0 67 law21Plain_L2 (law21Plain_S2 p0 p1 p2 p3 p4 p5 p6 p7 p8 p9 p10 p11 p12 p13 p14 p15 p16 p17 p18 v0) = some (.normal, σ) ∧ canonS 0 [1, 3] σ = some (law21Plain_S2 p0 p1 p2 p3 p4 p5 p6 p7 p8 p9 p10 p11 p12 p13 p14 p15 p16 p17 p18 a1) := by
  unfold law21Plain_b2 at h
  try dsimp only at h
  rcases bif_some h with ⟨q1, h⟩ | ⟨q1, h⟩
  · rcases bif_some h with ⟨q2, h⟩ | ⟨q2, h⟩
    · obtain ⟨y_1, q3, h⟩ := bnd_some h
      rcases bif_some h with ⟨q4, h⟩ | ⟨q4, h⟩
      · cases h
      · obtain rfl := Sum.inl.inj (Option.some.inj h)
        exact ⟨_, run_go (k := k) (f := 13) (r0 := 0) (nt := 67) (c := law21Plain_L2) (σ := (law21Plain_S2 p0 p1 p2 p3 p4 p5 p6 p7 p8 p9 p10 p11 p12 p13 p14 p15 p16 p17 p18 v0)) (adv [([], 2, 3, .eq (pI (p13.length : Int))), ([], 2, 5, .eq (pB true)), ([], 2, 8, .eq (pB true)), ([], 4, 3, .elem [(pI y_1.fd), (pS y_1.name), (.list 1 false (y_1.names.map cS))]), ([], 4, 6, .eq (pI (y_1.names.length : Int))), ([], 4, 7, .eq (pB false))]) (ex := .normal) (by kernel_rfl) (by kernel_rfl) (allC (len_ob (rfl : (p13.map FrameD.c) = p13.map FrameD.c)) (allC (cg q1) (allC (cg q2) (allC (gt_list (c := FrameD.c) q3) (allC (len_ob (rfl : (y_1.names.map cS) = y_1.names.map cS)) (allC (cg q4) allN)))))), (by kernel_rfl)⟩
    · cases h
  · cases h
def law21Plain (j : JobD) : Option Bool :=
 (iterN (law21Plain_b2 j.kind j.p j.phase j.fd j.nF j.modeF j.tries j.atF j.flags j.path j.path2 j.text j.names j.stack j.draws j.done j.exit j.out j.e) LF (0 : Int)).bind fun X_1 => match X_1 with
 | .inl (v_1, y_1) => (
 some false
 )
 | .inr (.inl v_1) => (
 bif (decide ((j.stack.length : Int) ≤ (20 : Int))) then (
 bif (decide ((j.names.length : Int) ≤ (120 : Int))) then (
 bif (decide ((j.draws.length : Int) ≤ (200 : Int))) then (
 bif (decide ((j.path.size : Int) ≤ (400 : Int))) then (
 bif (decide ((j.path2.size : Int) ≤ (400 : Int))) then (
 bif (decide ((j.text.size : Int) ≤ (400 : Int))) then (
 bif (decide (j.atF ≥ (0 : Int))) then (
 some (decide (j.atF ≤ (1000000 : Int)))
 ) else (
 some false
 )
 ) else (
 some false
 )
 ) else (
 some false
 )
 ) else (
 some false
 )
 ) else (
 some false
 )
 ) else (
 some false
 )
 ) else (
 some false
 )
 )
 | .inr (.inr (v_1)) => (
 bif (decide ((j.stack.length : Int) ≤ (20 : Int))) then (
 bif (decide ((j.names.length : Int) ≤ (120 : Int))) then (
 bif (decide ((j.draws.length : Int) ≤ (200 : Int))) then (
 bif (decide ((j.path.size : Int) ≤ (400 : Int))) then (
 bif (decide ((j.path2.size : Int) ≤ (400 : Int))) then (
 bif (decide ((j.text.size : Int) ≤ (400 : Int))) then (
 bif (decide (j.atF ≥ (0 : Int))) then (
 some (decide (j.atF ≤ (1000000 : Int)))
 ) else (
 some false
 )
 ) else (
 some false
 )
 ) else (
 some false
 )
 ) else (
 some false
 )
 ) else (
 some false
 )
 ) else (
 some false
 )
 ) else (
 some false
 )
 )
set_option maxRecDepth 100000 in
theorem law21Plain_ok (k : Nat) (j : JobD) (r : Bool) (h : law21Plain j = some r) : run0 (k + 1) 13 [(JobD.a j)] = some (pB r) := by
  unfold law21Plain at h
  obtain ⟨X_1, q1, h⟩ := bnd_some h
  obtain ⟨v_1, q2, q3⟩ := loop_iter (f := run1 k 13 0 67 law21Plain_L2) (law21Plain_S2 j.kind j.p j.phase j.fd j.nF j.modeF j.tries j.atF j.flags j.path j.path2 j.text j.names j.stack j.draws j.done j.exit j.out j.e) (law21Plain_b2 j.kind j.p j.phase j.fd j.nF j.modeF j.tries j.atF j.flags j.path j.path2 j.text j.names j.stack j.draws j.done j.exit j.out j.e) (law21Plain_t2 k j.kind j.p j.phase j.fd j.nF j.modeF j.tries j.atF j.flags j.path j.path2 j.text j.names j.stack j.draws j.done j.exit j.out j.e) LF (0 : Int) _ (stOf (goStop k 13 0 67 (adv []) 2 (codeOf Tryz.f13) (argS 13 [(JobD.a j)]))) q1 (by kernel_rfl)
  unfold law21Plain_b2 at q2
  try dsimp only at q2
  rcases bif_some q2 with ⟨q6, q2⟩ | ⟨q6, q2⟩
  · rcases bif_some q2 with ⟨q7, q2⟩ | ⟨q7, q2⟩
    · obtain ⟨y_1, q8, q2⟩ := bnd_some q2
      rcases bif_some q2 with ⟨q9, q2⟩ | ⟨q9, q2⟩
      · cases q2
        try dsimp only at h
        have q4 := run_go (k := k) (f := 13) (r0 := 0) (nt := 67) (c := law21Plain_L2) (σ := (law21Plain_S2 j.kind j.p j.phase j.fd j.nF j.modeF j.tries j.atF j.flags j.path j.path2 j.text j.names j.stack j.draws j.done j.exit j.out j.e v_1)) (adv [([], 2, 3, .eq (pI (j.stack.length : Int))), ([], 2, 5, .eq (pB true)), ([], 2, 8, .eq (pB true)), ([], 4, 3, .elem [(pI y_1.fd), (pS y_1.name), (.list 1 false (y_1.names.map cS))]), ([], 4, 6, .eq (pI (y_1.names.length : Int))), ([], 4, 7, .eq (pB true))]) (ex := .ret) (by kernel_rfl) (by kernel_rfl) (allC (len_ob (rfl : (j.stack.map FrameD.c) = j.stack.map FrameD.c)) (allC (cg q6) (allC (cg q7) (allC (gt_list (c := FrameD.c) q8) (allC (len_ob (rfl : (y_1.names.map cS) = y_1.names.map cS)) (allC (cg q9) allN))))))
        have q5 := q3 _ _ (by intro e; cases e) q4
        obtain rfl := Option.some.inj h
        exact ret_go (k := k) Tryz.func13 Tryz.ntmps13 (by kernel_rfl) (by kernel_rfl) (lb rfl) (adv [] [([], 2, .ret, (stOf (go k 13 0 67 (adv [([], 2, 3, .eq (pI (j.stack.length : Int))), ([], 2, 5, .eq (pB true)), ([], 2, 8, .eq (pB true)), ([], 4, 3, .elem [(pI y_1.fd), (pS y_1.name), (.list 1 false (y_1.names.map cS))]), ([], 4, 6, .eq (pI (y_1.names.length : Int))), ([], 4, 7, .eq (pB true))]) law21Plain_L2 (law21Plain_S2 j.kind j.p j.phase j.fd j.nF j.modeF j.tries j.atF j.flags j.path j.path2 j.text j.names j.stack j.draws j.done j.exit j.out j.e v_1))))]) (ex := .ret) (r := (pB false)) (by kernel_rfl) rfl (by kernel_rfl) (allC q5 allN) (by kernel_rfl) allN
      · cases q2
    · cases q2
      try dsimp only at h
      have q4 := run_go (k := k) (f := 13) (r0 := 0) (nt := 67) (c := law21Plain_L2) (σ := (law21Plain_S2 j.kind j.p j.phase j.fd j.nF j.modeF j.tries j.atF j.flags j.path j.path2 j.text j.names j.stack j.draws j.done j.exit j.out j.e v_1)) (adv [([], 2, 3, .eq (pI (j.stack.length : Int))), ([], 2, 5, .eq (pB true)), ([], 2, 8, .eq (pB false))]) (ex := (.exit 0)) (by kernel_rfl) (by kernel_rfl) (allC (len_ob (rfl : (j.stack.map FrameD.c) = j.stack.map FrameD.c)) (allC (cg q6) (allC (cg q7) allN)))
      have q5 := q3 _ _ (by intro e; cases e) q4
      rcases bif_some h with ⟨q10, h⟩ | ⟨q10, h⟩
      · rcases bif_some h with ⟨q11, h⟩ | ⟨q11, h⟩
        · rcases bif_some h with ⟨q12, h⟩ | ⟨q12, h⟩
          · rcases bif_some h with ⟨q13, h⟩ | ⟨q13, h⟩
            · rcases bif_some h with ⟨q14, h⟩ | ⟨q14, h⟩
              · rcases bif_some h with ⟨q15, h⟩ | ⟨q15, h⟩
                · rcases bif_some h with ⟨q16, h⟩ | ⟨q16, h⟩
                  · obtain rfl := Option.some.inj h
                    exact ret_go (k := k) Tryz.func13 Tryz.ntmps13 (by kernel_rfl) (by kernel_rfl) (lb rfl) (adv [([], 6, 2, .eq (pI (j.stack.length : Int))), ([], 6, 4, .eq (pB true)), ([], 6, 7, .eq (pI (j.names.length : Int))), ([], 6, 10, .eq (pB true)), ([], 6, 13, .eq (pI (j.draws.length : Int))), ([], 6, 16, .eq (pB true)), ([], 6, 22, .eq (pB true)), ([], 6, 28, .eq (pB true)), ([], 6, 34, .eq (pB true)), ([], 6, 39, .eq (pB true))] [([], 2, (.exit 0), (stOf (go k 13 0 67 (adv [([], 2, 3, .eq (pI (j.stack.length : Int))), ([], 2, 5, .eq (pB true)), ([], 2, 8, .eq (pB false))]) law21Plain_L2 (law21Plain_S2 j.kind j.p j.phase j.fd j.nF j.modeF j.tries j.atF j.flags j.path j.path2 j.text j.names j.stack j.draws j.done j.exit j.out j.e v_1))))]) (ex := .ret) (r := (pB (decide (j.atF ≤ (1000000 : Int))))) (by kernel_rfl) rfl (by kernel_rfl) (allC q5 (allC (len_ob (rfl : (j.stack.map FrameD.c) = j.stack.map FrameD.c)) (allC (cg q10) (allC (len_ob (rfl : (j.names.map cS) = j.names.map cS)) (allC (cg q11) (allC (len_ob (rfl : (j.draws.map cI) = j.draws.map cI)) (allC (cg q12) (allC (cg q13) (allC (cg q14) (allC (cg q15) (allC (cg q16) allN))))))))))) (by kernel_rfl) allN
                  · obtain rfl := Option.some.inj h
                    exact ret_go (k := k) Tryz.func13 Tryz.ntmps13 (by kernel_rfl) (by kernel_rfl) (lb rfl) (adv [([], 6, 2, .eq (pI (j.stack.length : Int))), ([], 6, 4, .eq (pB true)), ([], 6, 7, .eq (pI (j.names.length : Int))), ([], 6, 10, .eq (pB true)), ([], 6, 13, .eq (pI (j.draws.length : Int))), ([], 6, 16, .eq (pB true)), ([], 6, 22, .eq (pB true)), ([], 6, 28, .eq (pB true)), ([], 6, 34, .eq (pB true)), ([], 6, 39, .eq (pB false))] [([], 2, (.exit 0), (stOf (go k 13 0 67 (adv [([], 2, 3, .eq (pI (j.stack.length : Int))), ([], 2, 5, .eq (pB true)), ([], 2, 8, .eq (pB false))]) law21Plain_L2 (law21Plain_S2 j.kind j.p j.phase j.fd j.nF j.modeF j.tries j.atF j.flags j.path j.path2 j.text j.names j.stack j.draws j.done j.exit j.out j.e v_1))))]) (ex := .ret) (r := (pB false)) (by kernel_rfl) rfl (by kernel_rfl) (allC q5 (allC (len_ob (rfl : (j.stack.map FrameD.c) = j.stack.map FrameD.c)) (allC (cg q10) (allC (len_ob (rfl : (j.names.map cS) = j.names.map cS)) (allC (cg q11) (allC (len_ob (rfl : (j.draws.map cI) = j.draws.map cI)) (allC (cg q12) (allC (cg q13) (allC (cg q14) (allC (cg q15) (allC (cg q16) allN))))))))))) (by kernel_rfl) allN
                · obtain rfl := Option.some.inj h
                  exact ret_go (k := k) Tryz.func13 Tryz.ntmps13 (by kernel_rfl) (by kernel_rfl) (lb rfl) (adv [([], 6, 2, .eq (pI (j.stack.length : Int))), ([], 6, 4, .eq (pB true)), ([], 6, 7, .eq (pI (j.names.length : Int))), ([], 6, 10, .eq (pB true)), ([], 6, 13, .eq (pI (j.draws.length : Int))), ([], 6, 16, .eq (pB true)), ([], 6, 22, .eq (pB true)), ([], 6, 28, .eq (pB true)), ([], 6, 34, .eq (pB false))] [([], 2, (.exit 0), (stOf (go k 13 0 67 (adv [([], 2, 3, .eq (pI (j.stack.length : Int))), ([], 2, 5, .eq (pB true)), ([], 2, 8, .eq (pB false))]) law21Plain_L2 (law21Plain_S2 j.kind j.p j.phase j.fd j.nF j.modeF j.tries j.atF j.flags j.path j.path2 j.text j.names j.stack j.draws j.done j.exit j.out j.e v_1))))]) (ex := .ret) (r := (pB false)) (by kernel_rfl) rfl (by kernel_rfl) (allC q5 (allC (len_ob (rfl : (j.stack.map FrameD.c) = j.stack.map FrameD.c)) (allC (cg q10) (allC (len_ob (rfl : (j.names.map cS) = j.names.map cS)) (allC (cg q11) (allC (len_ob (rfl : (j.draws.map cI) = j.draws.map cI)) (allC (cg q12) (allC (cg q13) (allC (cg q14) (allC (cg q15) allN)))))))))) (by kernel_rfl) allN
              · obtain rfl := Option.some.inj h
                exact ret_go (k := k) Tryz.func13 Tryz.ntmps13 (by kernel_rfl) (by kernel_rfl) (lb rfl) (adv [([], 6, 2, .eq (pI (j.stack.length : Int))), ([], 6, 4, .eq (pB true)), ([], 6, 7, .eq (pI (j.names.length : Int))), ([], 6, 10, .eq (pB true)), ([], 6, 13, .eq (pI (j.draws.length : Int))), ([], 6, 16, .eq (pB true)), ([], 6, 22, .eq (pB true)), ([], 6, 28, .eq (pB false))] [([], 2, (.exit 0), (stOf (go k 13 0 67 (adv [([], 2, 3, .eq (pI (j.stack.length : Int))), ([], 2, 5, .eq (pB true)), ([], 2, 8, .eq (pB false))]) law21Plain_L2 (law21Plain_S2 j.kind j.p j.phase j.fd j.nF j.modeF j.tries j.atF j.flags j.path j.path2 j.text j.names j.stack j.draws j.done j.exit j.out j.e v_1))))]) (ex := .ret) (r := (pB false)) (by kernel_rfl) rfl (by kernel_rfl) (allC q5 (allC (len_ob (rfl : (j.stack.map FrameD.c) = j.stack.map FrameD.c)) (allC (cg q10) (allC (len_ob (rfl : (j.names.map cS) = j.names.map cS)) (allC (cg q11) (allC (len_ob (rfl : (j.draws.map cI) = j.draws.map cI)) (allC (cg q12) (allC (cg q13) (allC (cg q14) allN))))))))) (by kernel_rfl) allN
            · obtain rfl := Option.some.inj h
              exact ret_go (k := k) Tryz.func13 Tryz.ntmps13 (by kernel_rfl) (by kernel_rfl) (lb rfl) (adv [([], 6, 2, .eq (pI (j.stack.length : Int))), ([], 6, 4, .eq (pB true)), ([], 6, 7, .eq (pI (j.names.length : Int))), ([], 6, 10, .eq (pB true)), ([], 6, 13, .eq (pI (j.draws.length : Int))), ([], 6, 16, .eq (pB true)), ([], 6, 22, .eq (pB false))] [([], 2, (.exit 0), (stOf (go k 13 0 67 (adv [([], 2, 3, .eq (pI (j.stack.length : Int))), ([], 2, 5, .eq (pB true)), ([], 2, 8, .eq (pB false))]) law21Plain_L2 (law21Plain_S2 j.kind j.p j.phase j.fd j.nF j.modeF j.tries j.atF j.flags j.path j.path2 j.text j.names j.stack j.draws j.done j.exit j.out j.e v_1))))]) (ex := .ret) (r := (pB false)) (by kernel_rfl) rfl (by kernel_rfl) (allC q5 (allC (len_ob (rfl : (j.stack.map FrameD.c) = j.stack.map FrameD.c)) (allC (cg q10) (allC (len_ob (rfl : (j.names.map cS) = j.names.map cS)) (allC (cg q11) (allC (len_ob (rfl : (j.draws.map cI) = j.draws.map cI)) (allC (cg q12) (allC (cg q13) allN)))))))) (by kernel_rfl) allN
          · obtain rfl := Option.some.inj h
            exact ret_go (k := k) Tryz.func13 Tryz.ntmps13 (by kernel_rfl) (by kernel_rfl) (lb rfl) (adv [([], 6, 2, .eq (pI (j.stack.length : Int))), ([], 6, 4, .eq (pB true)), ([], 6, 7, .eq (pI (j.names.length : Int))), ([], 6, 10, .eq (pB true)), ([], 6, 13, .eq (pI (j.draws.length : Int))), ([], 6, 16, .eq (pB false))] [([], 2, (.exit 0), (stOf (go k 13 0 67 (adv [([], 2, 3, .eq (pI (j.stack.length : Int))), ([], 2, 5, .eq (pB true)), ([], 2, 8, .eq (pB false))]) law21Plain_L2 (law21Plain_S2 j.kind j.p j.phase j.fd j.nF j.modeF j.tries j.atF j.flags j.path j.path2 j.text j.names j.stack j.draws j.done j.exit j.out j.e v_1))))]) (ex := .ret) (r := (pB false)) (by kernel_rfl) rfl (by kernel_rfl) (allC q5 (allC (len_ob (rfl : (j.stack.map FrameD.c) = j.stack.map FrameD.c)) (allC (cg q10) (allC (len_ob (rfl : (j.names.map cS) = j.names.map cS)) (allC (cg q11) (allC (len_ob (rfl : (j.draws.map cI) = j.draws.map cI)) (allC (cg q12) allN))))))) (by kernel_rfl) allN
        · obtain rfl := Option.some.inj h
          exact ret_go (k := k) Tryz.func13 Tryz.ntmps13 (by kernel_rfl) (by kernel_rfl) (lb rfl) (adv [([], 6, 2, .eq (pI (j.stack.length : Int))), ([], 6, 4, .eq (pB true)), ([], 6, 7, .eq (pI (j.names.length : Int))), ([], 6, 10, .eq (pB false))] [([], 2, (.exit 0), (stOf (go k 13 0 67 (adv [([], 2, 3, .eq (pI (j.stack.length : Int))), ([], 2, 5, .eq (pB true)), ([], 2, 8, .eq (pB false))]) law21Plain_L2 (law21Plain_S2 j.kind j.p j.phase j.fd j.nF j.modeF j.tries j.atF j.flags j.path j.path2 j.text j.names j.stack j.draws j.done j.exit j.out j.e v_1))))]) (ex := .ret) (r := (pB false)) (by kernel_rfl) rfl (by kernel_rfl) (allC q5 (allC (len_ob (rfl : (j.stack.map FrameD.c) = j.stack.map FrameD.c)) (allC (cg q10) (allC (len_ob (rfl : (j.names.map cS) = j.names.map cS)) (allC (cg q11) allN))))) (by kernel_rfl) allN
      · obtain rfl := Option.some.inj h
        exact ret_go (k := k) Tryz.func13 Tryz.ntmps13 (by kernel_rfl) (by kernel_rfl) (lb rfl) (adv [([], 6, 2, .eq (pI (j.stack.length : Int))), ([], 6, 4, .eq (pB false))] [([], 2, (.exit 0), (stOf (go k 13 0 67 (adv [([], 2, 3, .eq (pI (j.stack.length : Int))), ([], 2, 5, .eq (pB true)), ([], 2, 8, .eq (pB false))]) law21Plain_L2 (law21Plain_S2 j.kind j.p j.phase j.fd j.nF j.modeF j.tries j.atF j.flags j.path j.path2 j.text j.names j.stack j.draws j.done j.exit j.out j.e v_1))))]) (ex := .ret) (r := (pB false)) (by kernel_rfl) rfl (by kernel_rfl) (allC q5 (allC (len_ob (rfl : (j.stack.map FrameD.c) = j.stack.map FrameD.c)) (allC (cg q10) allN))) (by kernel_rfl) allN
  · cases q2
    try dsimp only at h
    have q4 := run_go (k := k) (f := 13) (r0 := 0) (nt := 67) (c := law21Plain_L2) (σ := (law21Plain_S2 j.kind j.p j.phase j.fd j.nF j.modeF j.tries j.atF j.flags j.path j.path2 j.text j.names j.stack j.draws j.done j.exit j.out j.e v_1)) (adv [([], 2, 3, .eq (pI (j.stack.length : Int))), ([], 2, 5, .eq (pB false))]) (ex := (.exit 0)) (by kernel_rfl) (by kernel_rfl) (allC (len_ob (rfl : (j.stack.map FrameD.c) = j.stack.map FrameD.c)) (allC (cg q6) allN))
    have q5 := q3 _ _ (by intro e; cases e) q4
    rcases bif_some h with ⟨q10, h⟩ | ⟨q10, h⟩
    · rcases bif_some h with ⟨q11, h⟩ | ⟨q11, h⟩
      · rcases bif_some h with ⟨q12, h⟩ | ⟨q12, h⟩
        · rcases bif_some h with ⟨q13, h⟩ | ⟨q13, h⟩
          · rcases bif_some h with ⟨q14, h⟩ | ⟨q14, h⟩
            · rcases bif_some h with ⟨q15, h⟩ | ⟨q15, h⟩
              · rcases bif_some h with ⟨q16, h⟩ | ⟨q16, h⟩
                · obtain rfl := Option.some.inj h
                  exact ret_go (k := k) Tryz.func13 Tryz.ntmps13 (by kernel_rfl) (by kernel_rfl) (lb rfl) (adv [([], 6, 2, .eq (pI (j.stack.length : Int))), ([], 6, 4, .eq (pB true)), ([], 6, 7, .eq (pI (j.names.length : Int))), ([], 6, 10, .eq (pB true)), ([], 6, 13, .eq (pI (j.draws.length : Int))), ([], 6, 16, .eq (pB true)), ([], 6, 22, .eq (pB true)), ([], 6, 28, .eq (pB true)), ([], 6, 34, .eq (pB true)), ([], 6, 39, .eq (pB true))] [([], 2, (.exit 0), (stOf (go k 13 0 67 (adv [([], 2, 3, .eq (pI (j.stack.length : Int))), ([], 2, 5, .eq (pB false))]) law21Plain_L2 (law21Plain_S2 j.kind j.p j.phase j.fd j.nF j.modeF j.tries j.atF j.flags j.path j.path2 j.text j.names j.stack j.draws j.done j.exit j.out j.e v_1))))]) (ex := .ret) (r := (pB (decide (j.atF ≤ (1000000 : Int))))) (by kernel_rfl) rfl (by kernel_rfl) (allC q5 (allC (len_ob (rfl : (j.stack.map FrameD.c) = j.stack.map FrameD.c)) (allC (cg q10) (allC (len_ob (rfl : (j.names.map cS) = j.names.map cS)) (allC (cg q11) (allC (len_ob (rfl : (j.draws.map cI) = j.draws.map cI)) (allC (cg q12) (allC (cg q13) (allC (cg q14) (allC (cg q15) (allC (cg q16) allN))))))))))) (by kernel_rfl) allN
                · obtain rfl := Option.some.inj h
                  exact ret_go (k := k) Tryz.func13 Tryz.ntmps13 (by kernel_rfl) (by kernel_rfl) (lb rfl) (adv [([], 6, 2, .eq (pI (j.stack.length : Int))), ([], 6, 4, .eq (pB true)), ([], 6, 7, .eq (pI (j.names.length : Int))), ([], 6, 10, .eq (pB true)), ([], 6, 13, .eq (pI (j.draws.length : Int))), ([], 6, 16, .eq (pB true)), ([], 6, 22, .eq (pB true)), ([], 6, 28, .eq (pB true)), ([], 6, 34, .eq (pB true)), ([], 6, 39, .eq (pB false))] [([], 2, (.exit 0), (stOf (go k 13 0 67 (adv [([], 2, 3, .eq (pI (j.stack.length : Int))), ([], 2, 5, .eq (pB false))]) law21Plain_L2 (law21Plain_S2 j.kind j.p j.phase j.fd j.nF j.modeF j.tries j.atF j.flags j.path j.path2 j.text j.names j.stack j.draws j.done j.exit j.out j.e v_1))))]) (ex := .ret) (r := (pB false)) (by kernel_rfl) rfl (by kernel_rfl) (allC q5 (allC (len_ob (rfl : (j.stack.map FrameD.c) = j.stack.map FrameD.c)) (allC (cg q10) (allC (len_ob (rfl : (j.names.map cS) = j.names.map cS)) (allC (cg q11) (allC (len_ob (rfl : (j.draws.map cI) = j.draws.map cI)) (allC (cg q12) (allC (cg q13) (allC (cg q14) (allC (cg q15) (allC (cg q16) allN))))))))))) (by kernel_rfl) allN
              · obtain rfl := Option.some.inj h
                exact ret_go (k := k) Tryz.func13 Tryz.ntmps13 (by kernel_rfl) (by kernel_rfl) (lb rfl) (adv [([], 6, 2, .eq (pI (j.stack.length : Int))), ([], 6, 4, .eq (pB true)), ([], 6, 7, .eq (pI (j.names.length : Int))), ([], 6, 10, .eq (pB true)), ([], 6, 13, .eq (pI (j.draws.length : Int))), ([], 6, 16, .eq (pB true)), ([], 6, 22, .eq (pB true)), ([], 6, 28, .eq (pB true)), ([], 6, 34, .eq (pB false))] [([], 2, (.exit 0), (stOf (go k 13 0 67 (adv [([], 2, 3, .eq (pI (j.stack.length : Int))), ([], 2, 5, .eq (pB false))]) law21Plain_L2 (law21Plain_S2 j.kind j.p j.phase j.fd j.nF j.modeF j.tries j.atF j.flags j.path j.path2 j.text j.names j.stack j.draws j.done j.exit j.out j.e v_1))))]) (ex := .ret) (r := (pB false)) (by kernel_rfl) rfl (by kernel_rfl) (allC q5 (allC (len_ob (rfl : (j.stack.map FrameD.c) = j.stack.map FrameD.c)) (allC (cg q10) (allC (len_ob (rfl : (j.names.map cS) = j.names.map cS)) (allC (cg q11) (allC (len_ob (rfl : (j.draws.map cI) = j.draws.map cI)) (allC (cg q12) (allC (cg q13) (allC (cg q14) (allC (cg q15) allN)))))))))) (by kernel_rfl) allN
            · obtain rfl := Option.some.inj h
              exact ret_go (k := k) Tryz.func13 Tryz.ntmps13 (by kernel_rfl) (by kernel_rfl) (lb rfl) (adv [([], 6, 2, .eq (pI (j.stack.length : Int))), ([], 6, 4, .eq (pB true)), ([], 6, 7, .eq (pI (j.names.length : Int))), ([], 6, 10, .eq (pB true)), ([], 6, 13, .eq (pI (j.draws.length : Int))), ([], 6, 16, .eq (pB true)), ([], 6, 22, .eq (pB true)), ([], 6, 28, .eq (pB false))] [([], 2, (.exit 0), (stOf (go k 13 0 67 (adv [([], 2, 3, .eq (pI (j.stack.length : Int))), ([], 2, 5, .eq (pB false))]) law21Plain_L2 (law21Plain_S2 j.kind j.p j.phase j.fd j.nF j.modeF j.tries j.atF j.flags j.path j.path2 j.text j.names j.stack j.draws j.done j.exit j.out j.e v_1))))]) (ex := .ret) (r := (pB false)) (by kernel_rfl) rfl (by kernel_rfl) (allC q5 (allC (len_ob (rfl : (j.stack.map FrameD.c) = j.stack.map FrameD.c)) (allC (cg q10) (allC (len_ob (rfl : (j.names.map cS) = j.names.map cS)) (allC (cg q11) (allC (len_ob (rfl : (j.draws.map cI) = j.draws.map cI)) (allC (cg q12) (allC (cg q13) (allC (cg q14) allN))))))))) (by kernel_rfl) allN
          · obtain rfl := Option.some.inj h
            exact ret_go (k := k) Tryz.func13 Tryz.ntmps13 (by kernel_rfl) (by kernel_rfl) (lb rfl) (adv [([], 6, 2, .eq (pI (j.stack.length : Int))), ([], 6, 4, .eq (pB true)), ([], 6, 7, .eq (pI (j.names.length : Int))), ([], 6, 10, .eq (pB true)), ([], 6, 13, .eq (pI (j.draws.length : Int))), ([], 6, 16, .eq (pB true)), ([], 6, 22, .eq (pB false))] [([], 2, (.exit 0), (stOf (go k 13 0 67 (adv [([], 2, 3, .eq (pI (j.stack.length : Int))), ([], 2, 5, .eq (pB false))]) law21Plain_L2 (law21Plain_S2 j.kind j.p j.phase j.fd j.nF j.modeF j.tries j.atF j.flags j.path j.path2 j.text j.names j.stack j.draws j.done j.exit j.out j.e v_1))))]) (ex := .ret) (r := (pB false)) (by kernel_rfl) rfl (by kernel_rfl) (allC q5 (allC (len_ob (rfl : (j.stack.map FrameD.c) = j.stack.map FrameD.c)) (allC (cg q10) (allC (len_ob (rfl : (j.names.map cS) = j.names.map cS)) (allC (cg q11) (allC (len_ob (rfl : (j.draws.map cI) = j.draws.map cI)) (allC (cg q12) (allC (cg q13) allN)))))))) (by kernel_rfl) allN
        · obtain rfl := Option.some.inj h
          exact ret_go (k := k) Tryz.func13 Tryz.ntmps13 (by kernel_rfl) (by kernel_rfl) (lb rfl) (adv [([], 6, 2, .eq (pI (j.stack.length : Int))), ([], 6, 4, .eq (pB true)), ([], 6, 7, .eq (pI (j.names.length : Int))), ([], 6, 10, .eq (pB true)), ([], 6, 13, .eq (pI (j.draws.length : Int))), ([], 6, 16, .eq (pB false))] [([], 2, (.exit 0), (stOf (go k 13 0 67 (adv [([], 2, 3, .eq (pI (j.stack.length : Int))), ([], 2, 5, .eq (pB false))]) law21Plain_L2 (law21Plain_S2 j.kind j.p j.phase j.fd j.nF j.modeF j.tries j.atF j.flags j.path j.path2 j.text j.names j.stack j.draws j.done j.exit j.out j.e v_1))))]) (ex := .ret) (r := (pB false)) (by kernel_rfl) rfl (by kernel_rfl) (allC q5 (allC (len_ob (rfl : (j.stack.map FrameD.c) = j.stack.map FrameD.c)) (allC (cg q10) (allC (len_ob (rfl : (j.names.map cS) = j.names.map cS)) (allC (cg q11) (allC (len_ob (rfl : (j.draws.map cI) = j.draws.map cI)) (allC (cg q12) allN))))))) (by kernel_rfl) allN
      · obtain rfl := Option.some.inj h
        exact ret_go (k := k) Tryz.func13 Tryz.ntmps13 (by kernel_rfl) (by kernel_rfl) (lb rfl) (adv [([], 6, 2, .eq (pI (j.stack.length : Int))), ([], 6, 4, .eq (pB true)), ([], 6, 7, .eq (pI (j.names.length : Int))), ([], 6, 10, .eq (pB false))] [([], 2, (.exit 0), (stOf (go k 13 0 67 (adv [([], 2, 3, .eq (pI (j.stack.length : Int))), ([], 2, 5, .eq (pB false))]) law21Plain_L2 (law21Plain_S2 j.kind j.p j.phase j.fd j.nF j.modeF j.tries j.atF j.flags j.path j.path2 j.text j.names j.stack j.draws j.done j.exit j.out j.e v_1))))]) (ex := .ret) (r := (pB false)) (by kernel_rfl) rfl (by kernel_rfl) (allC q5 (allC (len_ob (rfl : (j.stack.map FrameD.c) = j.stack.map FrameD.c)) (allC (cg q10) (allC (len_ob (rfl : (j.names.map cS) = j.names.map cS)) (allC (cg q11) allN))))) (by kernel_rfl) allN
    · obtain rfl := Option.some.inj h
      exact ret_go (k := k) Tryz.func13 Tryz.ntmps13 (by kernel_rfl) (by kernel_rfl) (lb rfl) (adv [([], 6, 2, .eq (pI (j.stack.length : Int))), ([], 6, 4, .eq (pB false))] [([], 2, (.exit 0), (stOf (go k 13 0 67 (adv [([], 2, 3, .eq (pI (j.stack.length : Int))), ([], 2, 5, .eq (pB false))]) law21Plain_L2 (law21Plain_S2 j.kind j.p j.phase j.fd j.nF j.modeF j.tries j.atF j.flags j.path j.path2 j.text j.names j.stack j.draws j.done j.exit j.out j.e v_1))))]) (ex := .ret) (r := (pB false)) (by kernel_rfl) rfl (by kernel_rfl) (allC q5 (allC (len_ob (rfl : (j.stack.map FrameD.c) = j.stack.map FrameD.c)) (allC (cg q10) allN))) (by kernel_rfl) allN
def law21Reply (rF : ReplyD) : Option ReplyD :=
 some rF
set_option maxRecDepth 100000 in
theorem law21Reply_ok (k : Nat) (rF : ReplyD) (r : ReplyD) (h : law21Reply rF = some r) : run0 (k + 1) 18 [(.agg [(pI rF.e), (pI rF.nF), (pS rF.s), (.list 1 false (rF.l.map cS)), (pI rF.i.ino), (pI rF.i.kind), (pI rF.i.modeF), (pI rF.i.owner), (pI rF.i.links), (pI rF.i.size)])] = some (.agg [(pI r.e), (pI r.nF), (pS r.s), (.list 1 false (r.l.map cS)), (pI r.i.ino), (pI r.i.kind), (pI r.i.modeF), (pI r.i.owner), (pI r.i.links), (pI r.i.size)]) := by
  unfold law21Reply at h
  obtain rfl := Option.some.inj h
  exact ret_go (k := k) Tryz.func18 Tryz.ntmps18 (by kernel_rfl) (by kernel_rfl) (lb rfl) (adv []) (ex := .ret) (r := (.agg [(pI rF.e), (pI rF.nF), (pS rF.s), (.list 1 false (rF.l.map cS)), (pI rF.i.ino), (pI rF.i.kind), (pI rF.i.modeF), (pI rF.i.owner), (pI rF.i.links), (pI rF.i.size)])) (by kernel_rfl) rfl (by kernel_rfl) allN (by kernel_rfl) allN
end Go.Proofs.YtaenhodkpidocaaGreatDoor.Den
