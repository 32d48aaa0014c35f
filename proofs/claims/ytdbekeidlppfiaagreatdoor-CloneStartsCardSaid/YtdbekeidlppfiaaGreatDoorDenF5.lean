/- Texts joined by a program of mine (pack.py): DenF0 DenF1 DenF2 DenF3 DenF4 DenF5. -/
import Derived.Test.YtdbekeidlppfiaaGreatDoorDenTy
set_option linter.unusedVariables false
set_option linter.unusedSimpArgs false
namespace Go.Proofs.YtdbekeidlppfiaaGreatDoor.Den
open Go Go.RowKit
def jobNew (kind : Int) (p : Int) (draws : (List Int)) : Option JobD :=
 some (JobD.mk kind p (0 : Int) (-1 : Int) (0 : Int) (0 : Int) (0 : Int) (0 : Int) (0 : Int) (bs []) (bs []) (bs []) [] [] draws false (0 : Int) (bs []) (0 : Int))
set_option maxRecDepth 100000 in
theorem jobNew_ok (k : Nat) (kind : Int) (p : Int) (draws : (List Int)) (r : JobD) (h : jobNew kind p draws = some r) : run0 (k + 1) 24 [(pI kind), (pI p), (.list 1 false (draws.map cI))] = some (JobD.a r) := by
  unfold jobNew at h
  obtain rfl := Option.some.inj h
  exact ret_go (k := k) Tryz.func24 Tryz.ntmps24 (by kernel_rfl) (by kernel_rfl) (lb rfl) (adv []) (ex := .ret) (r := (.agg [(pI kind), (pI p), (pI (0 : Int)), (pI (-1 : Int)), (pI (0 : Int)), (pI (0 : Int)), (pI (0 : Int)), (pI (0 : Int)), (pI (0 : Int)), (pS (bs [])), (pS (bs [])), (pS (bs [])), (.list 1 false []), (.list 3 false []), (.list 1 false (draws.map cI)), (pB false), (pI (0 : Int)), (pS (bs [])), (pI (0 : Int))])) (by kernel_rfl) rfl (by kernel_rfl) allN (by kernel_rfl) allN
def stringsliteHasPrefix (s : ByteArray) (prefixF : ByteArray) : Option Bool :=
 bif (decide ((s.size : Int) ≥ (prefixF.size : Int))) then (
 grd (0 ≤ (0 : Int) ∧ (0 : Int) ≤ (prefixF.size : Int) ∧ (prefixF.size : Int) ≤ (s.size : Int)) <|
 some (seq (s.extract 0 ((prefixF.size : Int)).toNat) prefixF)
 ) else (
 some false
 )
set_option maxRecDepth 100000 in
theorem stringsliteHasPrefix_ok (k : Nat) (s : ByteArray) (prefixF : ByteArray) (r : Bool) (h : stringsliteHasPrefix s prefixF = some r) : run0 (k + 1) 126 [(pS s), (pS prefixF)] = some (pB r) := by
  unfold stringsliteHasPrefix at h
  rcases bif_some h with ⟨q1, h⟩ | ⟨q1, h⟩
  · obtain ⟨q2, h⟩ := grd_some h
    obtain rfl := Option.some.inj h
    exact ret_go (k := k) Tryz.func126 Tryz.ntmps126 (by kernel_rfl) (by kernel_rfl) (lb rfl) (adv [([], 1, 5, .eq (pB true)), ([], 1, 9, .sub false)]) (ex := .ret) (r := (pB (seq (s.extract 0 ((prefixF.size : Int)).toNat) prefixF))) (by kernel_rfl) rfl (by kernel_rfl) (allC (cg q1) (allC q2 allN)) (by kernel_rfl) allN
  · obtain rfl := Option.some.inj h
    exact ret_go (k := k) Tryz.func126 Tryz.ntmps126 (by kernel_rfl) (by kernel_rfl) (lb rfl) (adv [([], 1, 5, .eq (pB false))]) (ex := .ret) (r := (pB false)) (by kernel_rfl) rfl (by kernel_rfl) (allC (cg q1) allN) (by kernel_rfl) allN
def stringsliteCutPrefix (s : ByteArray) (prefixF : ByteArray) : Option (ByteArray × Bool) :=
 (stringsliteHasPrefix s prefixF).bind fun r_1 =>
 bif (!r_1) then (
 some (s, false)
 ) else (
 grd (0 ≤ (prefixF.size : Int) ∧ (prefixF.size : Int) ≤ (s.size : Int) ∧ (s.size : Int) ≤ (s.size : Int)) <|
 some ((s.extract ((prefixF.size : Int)).toNat s.size), true)
 )
set_option maxRecDepth 100000 in
theorem stringsliteCutPrefix_ok (k : Nat) (s : ByteArray) (prefixF : ByteArray) (r : (ByteArray × Bool)) (h : stringsliteCutPrefix s prefixF = some r) : run0 (k + 2) 177 [(pS s), (pS prefixF)] = some (.tup [(pS r.1), (pB r.2)]) := by
  unfold stringsliteCutPrefix at h
  obtain ⟨r_1, q1, h⟩ := bnd_some h
  rcases bif_some h with ⟨q2, h⟩ | ⟨q2, h⟩
  · obtain rfl := Option.some.inj h
    exact ret_go (k := (k + 1)) Tryz.func177 Tryz.ntmps177 (by kernel_rfl) (by kernel_rfl) (lb rfl) (adv [([], 1, 2, .ret (pB r_1)), ([], 1, 3, .eq (pB true))]) (ex := .ret) (r := (.tup [(pS s), (pB false)])) (by kernel_rfl) rfl (by kernel_rfl) (allC (stringsliteHasPrefix_ok k s prefixF _ q1) (allC (cg q2) allN)) (by kernel_rfl) allN
  · obtain ⟨q3, h⟩ := grd_some h
    obtain rfl := Option.some.inj h
    exact ret_go (k := (k + 1)) Tryz.func177 Tryz.ntmps177 (by kernel_rfl) (by kernel_rfl) (lb rfl) (adv [([], 1, 2, .ret (pB r_1)), ([], 1, 3, .eq (pB false)), ([], 3, 3, .sub false)]) (ex := .ret) (r := (.tup [(pS (s.extract ((prefixF.size : Int)).toNat s.size)), (pB true)])) (by kernel_rfl) rfl (by kernel_rfl) (allC (stringsliteHasPrefix_ok k s prefixF _ q1) (allC (cg q2) (allC q3 allN))) (by kernel_rfl) allN
def stringsCutPrefix (s : ByteArray) (prefixF : ByteArray) : Option (ByteArray × Bool) :=
 (stringsliteCutPrefix s prefixF).bind fun (r_1, r_2) =>
 some (r_1, r_2)
set_option maxRecDepth 100000 in
theorem stringsCutPrefix_ok (k : Nat) (s : ByteArray) (prefixF : ByteArray) (r : (ByteArray × Bool)) (h : stringsCutPrefix s prefixF = some r) : run0 (k + 3) 113 [(pS s), (pS prefixF)] = some (.tup [(pS r.1), (pB r.2)]) := by
  unfold stringsCutPrefix at h
  obtain ⟨⟨r_1, r_2⟩, q1, h⟩ := bnd_some h
  try dsimp only at h
  obtain rfl := Option.some.inj h
  exact ret_go (k := (k + 2)) Tryz.func113 Tryz.ntmps113 (by kernel_rfl) (by kernel_rfl) (lb rfl) (adv [([], 1, 2, .ret (.tup [(pS r_1), (pB r_2)]))]) (ex := .ret) (r := (.tup [(pS r_1), (pB r_2)])) (by kernel_rfl) rfl (by kernel_rfl) (allC (stringsliteCutPrefix_ok k s prefixF _ q1) allN) (by kernel_rfl) allN
def optionTakerNext (p0 : ByteArray) (p1 : (List ByteArray)) : Option (ByteArray × ByteArray × (List ByteArray)) :=
 (gt p1 (0 : Int)).bind fun y_1 =>
 grd (0 ≤ (1 : Int) ∧ (1 : Int) ≤ (p1.length : Int) ∧ (p1.length : Int) ≤ (p1.length : Int)) <|
 some (y_1, p0, (p1.drop (((1 : Int)).toNat)))
def optionTakerNext_out : (ByteArray × ByteArray × (List ByteArray)) → PV × List (Option Blk) × List Nat
 | (r0, r1, r2) => ((pS r0), [some ⟨3, 143, [[(pS r1), (.list 1 false (r2.map cS)), (.v (.slice none 0 0))]], true, false⟩], [0])
set_option maxRecDepth 100000 in
theorem optionTakerNext_ok (k : Nat) (p0 : ByteArray) (p1 : (List ByteArray)) (r : (ByteArray × ByteArray × (List ByteArray))) (h : optionTakerNext p0 p1 = some r) : runS0 (k + 1) 114 [(.ptr [0, TAG] 1 0 0)] [some ⟨3, 143, [[(pS p0), (.list 1 false (p1.map cS)), (.v (.slice none 0 0))]], true, false⟩] [0] = some (optionTakerNext_out r) := by
  unfold optionTakerNext at h
  obtain ⟨y_1, q1, h⟩ := bnd_some h
  obtain ⟨q2, h⟩ := grd_some h
  obtain rfl := Option.some.inj h
  exact (retS_go (k := k) (n := 1) Tryz.func114 Tryz.ntmps114 rfl (by kernel_rfl) (by kernel_rfl) (lb rfl) (adv [([], 1, 4, .elem [(pS y_1)]), ([], 2, 5, .sub false)]) (ex := .ret) (r := ((pS y_1), [some ⟨3, 143, [[(pS p0), (.list 1 false (((p1.map cS).drop (((1 : Int)).toNat)).take ((p1.map cS).length - ((1 : Int)).toNat))), (.v (.slice none 0 0))]], true, false⟩], [0])) (by kernel_rfl) rfl (by kernel_rfl) (allC (gt_list (c := cS) q1) (allC (sub_ok1 (c := cS) q2) allN)) (by kernel_rfl)).trans (congrArg some (by rw [(show (((p1.map cS).drop (((1 : Int)).toNat)).take ((p1.map cS).length - ((1 : Int)).toNat)) = ((p1.drop (((1 : Int)).toNat)).map cS) from (enc_drop rfl (((1 : Int)).toNat)))] <;> rfl))
def optionKind (spec : ByteArray) (c : Int) : Option Int :=
 bif (c == (58 : Int)) then (
 some (0 : Int)
 ) else (
 (ixbX spec c).bind fun r_1 =>
 bif (decide (r_1 < (0 : Int))) then (
 some (0 : Int)
 ) else (
 (conX spec (ByteArray.mk [UInt8.ofNat (c).toNat, UInt8.ofNat ((58 : Int)).toNat].toArray)).bind fun r_2 =>
 bif r_2 then (
 some (2 : Int)
 ) else (
 some (1 : Int)
 )
 )
 )
set_option maxRecDepth 100000 in
theorem optionKind_ok (k : Nat) (spec : ByteArray) (c : Int) (r : Int) (h : optionKind spec c = some r) : run0 (k + 1) 178 [(pS spec), (.v (.int .u8 c))] = some (pI r) := by
  unfold optionKind at h
  rcases bif_some h with ⟨q1, h⟩ | ⟨q1, h⟩
  · obtain rfl := Option.some.inj h
    exact ret_go (k := k) Tryz.func178 Tryz.ntmps178 (by kernel_rfl) (by kernel_rfl) (lb rfl) (adv [([], 1, 2, .eq (pB true))]) (ex := .ret) (r := (pI (0 : Int))) (by kernel_rfl) rfl (by kernel_rfl) (allC (cg q1) allN) (by kernel_rfl) allN
  · obtain ⟨r_1, q2, h⟩ := bnd_some h
    rcases bif_some h with ⟨q3, h⟩ | ⟨q3, h⟩
    · obtain rfl := Option.some.inj h
      exact ret_go (k := k) Tryz.func178 Tryz.ntmps178 (by kernel_rfl) (by kernel_rfl) (lb rfl) (adv [([], 1, 2, .eq (pB false)), ([], 1, 5, .ret (pI r_1)), ([], 1, 7, .eq (pB true))]) (ex := .ret) (r := (pI (0 : Int))) (by kernel_rfl) rfl (by kernel_rfl) (allC (cg q1) (allC (ixbX_ok k spec c _ q2) (allC (cg q3) allN))) (by kernel_rfl) allN
    · obtain ⟨r_2, q4, h⟩ := bnd_some h
      rcases bif_some h with ⟨q5, h⟩ | ⟨q5, h⟩
      · revert h; subst q5; intro h
        obtain rfl := Option.some.inj h
        exact ret_go (k := k) Tryz.func178 Tryz.ntmps178 (by kernel_rfl) (by kernel_rfl) (lb rfl) (adv [([], 1, 2, .eq (pB false)), ([], 1, 5, .ret (pI r_1)), ([], 1, 7, .eq (pB false)), ([], 3, 4, .ret (pB true))]) (ex := .ret) (r := (pI (2 : Int))) (by kernel_rfl) rfl (by kernel_rfl) (allC (cg q1) (allC (ixbX_ok k spec c _ q2) (allC (cg q3) (allC (conX_ok k spec (ByteArray.mk [UInt8.ofNat (c).toNat, UInt8.ofNat ((58 : Int)).toNat].toArray) _ q4) allN)))) (by kernel_rfl) allN
      · revert h; subst q5; intro h
        obtain rfl := Option.some.inj h
        exact ret_go (k := k) Tryz.func178 Tryz.ntmps178 (by kernel_rfl) (by kernel_rfl) (lb rfl) (adv [([], 1, 2, .eq (pB false)), ([], 1, 5, .ret (pI r_1)), ([], 1, 7, .eq (pB false)), ([], 3, 4, .ret (pB false))]) (ex := .ret) (r := (pI (1 : Int))) (by kernel_rfl) rfl (by kernel_rfl) (allC (cg q1) (allC (ixbX_ok k spec c _ q2) (allC (cg q3) (allC (conX_ok k spec (ByteArray.mk [UInt8.ofNat (c).toNat, UInt8.ofNat ((58 : Int)).toNat].toArray) _ q4) allN)))) (by kernel_rfl) allN
def optionTakerNext2 (p0 : ByteArray) (p1 : (List ByteArray)) (p2 : (List FlagD)) : Option (ByteArray × ByteArray × (List ByteArray) × (List FlagD)) :=
 (gt p1 (0 : Int)).bind fun y_1 =>
 grd (0 ≤ (1 : Int) ∧ (1 : Int) ≤ (p1.length : Int) ∧ (p1.length : Int) ≤ (p1.length : Int)) <|
 some (y_1, p0, (p1.drop (((1 : Int)).toNat)), p2)
def optionTakerNext2_out : (ByteArray × ByteArray × (List ByteArray) × (List FlagD)) → PV × List (Option Blk) × List Nat
 | (r0, r1, r2, r3) => ((pS r0), [some ⟨3, 143, [[(pS r1), (.list 1 false (r2.map cS)), (.row [1, TAG] 1 0 r3.length)]], false, false⟩, some ⟨2, 154, (r3.map FlagD.c), true, true⟩], [0, 0])
set_option maxRecDepth 100000 in
theorem optionTakerNext2_ok (k : Nat) (p0 : ByteArray) (p1 : (List ByteArray)) (p2 : (List FlagD)) (r : (ByteArray × ByteArray × (List ByteArray) × (List FlagD))) (h : optionTakerNext2 p0 p1 p2 = some r) : runS0 (k + 1) 114 [(.ptr [0, TAG] 1 0 0)] [some ⟨3, 143, [[(pS p0), (.list 1 false (p1.map cS)), (.row [1, TAG] 1 0 p2.length)]], false, false⟩, some ⟨2, 154, (p2.map FlagD.c), true, true⟩] [0, 0] = some (optionTakerNext2_out r) := by
  unfold optionTakerNext2 at h
  obtain ⟨y_1, q1, h⟩ := bnd_some h
  obtain ⟨q2, h⟩ := grd_some h
  obtain rfl := Option.some.inj h
  exact (retS_go (k := k) (n := 2) Tryz.func114 Tryz.ntmps114 rfl (by kernel_rfl) (by kernel_rfl) (lb rfl) (adv [([], 1, 4, .elem [(pS y_1)]), ([], 2, 5, .sub false)]) (ex := .ret) (r := ((pS y_1), [some ⟨3, 143, [[(pS p0), (.list 1 false (((p1.map cS).drop (((1 : Int)).toNat)).take ((p1.map cS).length - ((1 : Int)).toNat))), (.row [1, TAG] 1 0 p2.length)]], false, false⟩, some ⟨2, 154, (p2.map FlagD.c), true, true⟩], [0, 0])) (by kernel_rfl) rfl (by kernel_rfl) (allC (gt_list (c := cS) q1) (allC (sub_ok1 (c := cS) q2) allN)) (by kernel_rfl)).trans (congrArg some (by rw [(show (((p1.map cS).drop (((1 : Int)).toNat)).take ((p1.map cS).length - ((1 : Int)).toNat)) = ((p1.drop (((1 : Int)).toNat)).map cS) from (enc_drop rfl (((1 : Int)).toNat)))] <;> rfl))
end Go.Proofs.YtdbekeidlppfiaaGreatDoor.Den
namespace Go.Proofs.YtdbekeidlppfiaaGreatDoor.Den
open Go Go.RowKit
noncomputable def optionTakerGroup_L1 : Code := cAt (codeOf Tryz.f115) [true, false, false, false]
def optionTakerGroup_R1_0 (x0 : ByteArray) (x1 : ByteArray) (x2 : List (List PV)) : St := ⟨envL [(0, (.ptr [0, TAG] 1 0 0)), (1, (pS x0))], hsL [some ⟨3, 143, [[(pS x1), (.list 1 false x2), (.v (.slice none 0 0))]], true, false⟩] [0]⟩
def optionTakerGroup_R1_1 (x0 : ByteArray) (x1 : ByteArray) (x2 : List (List PV)) (x3 : Nat) (x4 : List (List PV)) : St := ⟨envL [(0, (.ptr [0, TAG] 1 0 0)), (1, (pS x0))], hsL [some ⟨3, 143, [[(pS x1), (.list 1 false x2), (.row [1, TAG] 1 0 x3)]], false, false⟩, some ⟨2, 154, x4, true, true⟩] [0, 0]⟩
theorem optionTakerGroup_R1_1_eq {x0 y0 : ByteArray} {x1 y1 : ByteArray} {x2 y2 : List (List PV)} {x3 y3 : Nat} {x4 y4 : List (List PV)} (h0 : x0 = y0) (h1 : x1 = y1) (h2 : x2 = y2) (h3 : x3 = y3) (h4 : x4 = y4) : optionTakerGroup_R1_1 x0 x1 x2 x3 x4 = optionTakerGroup_R1_1 y0 y1 y2 y3 y4 := by
  subst h0 h1 h2 h3 h4; rfl
def optionTakerGroup_S1 : ((ByteArray × ByteArray × (List ByteArray)) ⊕ (ByteArray × ByteArray × (List ByteArray) × (List FlagD))) → St
 | .inl (v0, v1, v2) => optionTakerGroup_R1_0 v0 v1 (v2.map cS)
 | .inr ((v0, v1, v2, v3)) => optionTakerGroup_R1_1 v0 v1 (v2.map cS) v3.length (v3.map FlagD.c)
def optionTakerGroup_b1 : ((ByteArray × ByteArray × (List ByteArray)) ⊕ (ByteArray × ByteArray × (List ByteArray) × (List FlagD))) → Option (((ByteArray × ByteArray × (List ByteArray)) ⊕ (ByteArray × ByteArray × (List ByteArray) × (List FlagD))) ⊕ ((ByteArray × ByteArray × (List ByteArray) × UInt8 × UInt8 × Int) ⊕ (ByteArray × ByteArray × (List ByteArray) × UInt8 × UInt8 × Int) ⊕ (ByteArray × ByteArray × (List ByteArray)) ⊕ (ByteArray × ByteArray × (List ByteArray) × (List FlagD) × UInt8 × UInt8 × Int) ⊕ (ByteArray × ByteArray × (List ByteArray) × (List FlagD) × UInt8 × UInt8 × Int) ⊕ (ByteArray × ByteArray × (List ByteArray) × (List FlagD))))
 | .inl (v0, v1, v2) =>
 bif (!(seq v0 (bs []))) then (
 (gtS v0 (0 : Int)).bind fun b_1 =>
 (gtS v0 (0 : Int)).bind fun b_2 =>
 (optionKind v1 (b_2.toNat : Int)).bind fun r_1 =>
 bif (r_1 == (0 : Int)) then (
 some (.inr (.inl (v0, v1, v2, b_1, b_2, r_1)))
 ) else (
 bif (r_1 == (2 : Int)) then (
 grd (0 ≤ (1 : Int) ∧ (1 : Int) ≤ (v0.size : Int) ∧ (v0.size : Int) ≤ (v0.size : Int)) <|
 grd (0 ≤ (0 : Int) ∧ (0 : Int) ≤ (1 : Int) ∧ (1 : Int) ≤ (v0.size : Int)) <|
 bif (seq (v0.extract ((1 : Int)).toNat v0.size) (bs [])) then (
 bif ((v2.length : Int) == (0 : Int)) then (
 some (.inr (.inr (.inl (v0, v1, v2, b_1, b_2, r_1))))
 ) else (
 (optionTakerNext v1 v2).bind fun (r_2, r_3, r_4) =>
 grd (0 ≤ (1 : Int) ∧ (1 : Int) ≤ ((v0.extract 0 ((1 : Int)).toNat).size : Int) ∧ ((v0.extract 0 ((1 : Int)).toNat).size : Int) ≤ ((v0.extract 0 ((1 : Int)).toNat).size : Int)) <|
 some (.inl (.inr ((((v0.extract 0 ((1 : Int)).toNat).extract ((1 : Int)).toNat (v0.extract 0 ((1 : Int)).toNat).size), r_3, r_4, [(FlagD.mk (b_1.toNat : Int) r_2)]))))
 )
 ) else (
 grd (0 ≤ (1 : Int) ∧ (1 : Int) ≤ ((v0.extract 0 ((1 : Int)).toNat).size : Int) ∧ ((v0.extract 0 ((1 : Int)).toNat).size : Int) ≤ ((v0.extract 0 ((1 : Int)).toNat).size : Int)) <|
 some (.inl (.inr ((((v0.extract 0 ((1 : Int)).toNat).extract ((1 : Int)).toNat (v0.extract 0 ((1 : Int)).toNat).size), v1, v2, [(FlagD.mk (b_1.toNat : Int) (v0.extract ((1 : Int)).toNat v0.size))]))))
 )
 ) else (
 bif (r_1 == (1 : Int)) then (
 grd (0 ≤ (1 : Int) ∧ (1 : Int) ≤ (v0.size : Int) ∧ (v0.size : Int) ≤ (v0.size : Int)) <|
 some (.inl (.inr (((v0.extract ((1 : Int)).toNat v0.size), v1, v2, [(FlagD.mk (b_1.toNat : Int) (bs []))]))))
 ) else (
 grd (0 ≤ (1 : Int) ∧ (1 : Int) ≤ (v0.size : Int) ∧ (v0.size : Int) ≤ (v0.size : Int)) <|
 some (.inl (.inl ((v0.extract ((1 : Int)).toNat v0.size), v1, v2)))
 )
 )
 )
 ) else (
 some (.inr (.inr (.inr (.inl (v0, v1, v2)))))
 )
 | .inr ((v0, v1, v2, v3)) =>
 bif (!(seq v0 (bs []))) then (
 (gtS v0 (0 : Int)).bind fun b_1 =>
 (gtS v0 (0 : Int)).bind fun b_2 =>
 (optionKind v1 (b_2.toNat : Int)).bind fun r_1 =>
 bif (r_1 == (0 : Int)) then (
 some (.inr (.inr (.inr (.inr (.inl (v0, v1, v2, v3, b_1, b_2, r_1))))))
 ) else (
 bif (r_1 == (2 : Int)) then (
 grd (0 ≤ (1 : Int) ∧ (1 : Int) ≤ (v0.size : Int) ∧ (v0.size : Int) ≤ (v0.size : Int)) <|
 grd (0 ≤ (0 : Int) ∧ (0 : Int) ≤ (1 : Int) ∧ (1 : Int) ≤ (v0.size : Int)) <|
 bif (seq (v0.extract ((1 : Int)).toNat v0.size) (bs [])) then (
 bif ((v2.length : Int) == (0 : Int)) then (
 some (.inr (.inr (.inr (.inr (.inr (.inl (v0, v1, v2, v3, b_1, b_2, r_1)))))))
 ) else (
 (optionTakerNext2 v1 v2 v3).bind fun (r_2, r_3, r_4, r_5) =>
 grd (room (r_5.length + 1) 24) <|
 grd (0 ≤ (1 : Int) ∧ (1 : Int) ≤ ((v0.extract 0 ((1 : Int)).toNat).size : Int) ∧ ((v0.extract 0 ((1 : Int)).toNat).size : Int) ≤ ((v0.extract 0 ((1 : Int)).toNat).size : Int)) <|
 some (.inl (.inr ((((v0.extract 0 ((1 : Int)).toNat).extract ((1 : Int)).toNat (v0.extract 0 ((1 : Int)).toNat).size), r_3, r_4, (r_5 ++ [(FlagD.mk (b_1.toNat : Int) r_2)])))))
 )
 ) else (
 grd (room (v3.length + 1) 24) <|
 grd (0 ≤ (1 : Int) ∧ (1 : Int) ≤ ((v0.extract 0 ((1 : Int)).toNat).size : Int) ∧ ((v0.extract 0 ((1 : Int)).toNat).size : Int) ≤ ((v0.extract 0 ((1 : Int)).toNat).size : Int)) <|
 some (.inl (.inr ((((v0.extract 0 ((1 : Int)).toNat).extract ((1 : Int)).toNat (v0.extract 0 ((1 : Int)).toNat).size), v1, v2, (v3 ++ [(FlagD.mk (b_1.toNat : Int) (v0.extract ((1 : Int)).toNat v0.size))])))))
 )
 ) else (
 bif (r_1 == (1 : Int)) then (
 grd (room (v3.length + 1) 24) <|
 grd (0 ≤ (1 : Int) ∧ (1 : Int) ≤ (v0.size : Int) ∧ (v0.size : Int) ≤ (v0.size : Int)) <|
 some (.inl (.inr (((v0.extract ((1 : Int)).toNat v0.size), v1, v2, (v3 ++ [(FlagD.mk (b_1.toNat : Int) (bs []))])))))
 ) else (
 grd (0 ≤ (1 : Int) ∧ (1 : Int) ≤ (v0.size : Int) ∧ (v0.size : Int) ≤ (v0.size : Int)) <|
 some (.inl (.inr (((v0.extract ((1 : Int)).toNat v0.size), v1, v2, v3))))
 )
 )
 )
 ) else (
 some (.inr (.inr (.inr (.inr (.inr (.inr ((v0, v1, v2, v3))))))))
 )
set_option maxRecDepth 100000 in
theorem optionTakerGroup_t1 (k : Nat) (a a1 : ((ByteArray × ByteArray × (List ByteArray)) ⊕ (ByteArray × ByteArray × (List ByteArray) × (List FlagD)))) (h : optionTakerGroup_b1 a = some (.inl a1)) : ∃ σ, run1 (k + 1) 115 1 55 optionTakerGroup_L1 (optionTakerGroup_S1 a) = some (.normal, σ) ∧ canonS 1 [0, 1] σ = some (optionTakerGroup_S1 a1) := by
  rcases a with ⟨v0, v1, v2⟩ | ⟨v0, v1, v2, v3⟩
  · unfold optionTakerGroup_b1 at h
    try dsimp only at h
    rcases bif_some h with ⟨q1, h⟩ | ⟨q1, h⟩
    · obtain ⟨b_1, q2, h⟩ := bnd_some h
      obtain ⟨b_2, q3, h⟩ := bnd_some h
      obtain ⟨r_1, q4, h⟩ := bnd_some h
      rcases bif_some h with ⟨q5, h⟩ | ⟨q5, h⟩
      · cases h
      · rcases bif_some h with ⟨q6, h⟩ | ⟨q6, h⟩
        · obtain ⟨q7, h⟩ := grd_some h
          obtain ⟨q8, h⟩ := grd_some h
          rcases bif_some h with ⟨q9, h⟩ | ⟨q9, h⟩
          · rcases bif_some h with ⟨q10, h⟩ | ⟨q10, h⟩
            · cases h
            · obtain ⟨X_1, q11, h⟩ := bnd_some h
              rcases X_1 with ⟨r_2, r_3, r_4⟩
              · try dsimp only at h
                obtain ⟨q12, h⟩ := grd_some h
                obtain rfl := Sum.inl.inj (Option.some.inj h)
                exact ⟨_, run_go (k := (k + 1)) (f := 115) (r0 := 1) (nt := 55) (c := optionTakerGroup_L1) (σ := (optionTakerGroup_S1 (.inl (v0, v1, v2)))) (adv [([], 1, 1, .eq (pB true)), ([], 3, 1, .chr b_1), ([], 4, 5, .chr b_2), ([], 4, 6, .ret (pI r_1)), ([], 5, 1, .eq (pB false)), ([], 6, 1, .eq (pB true)), ([], 9, 1, .sub false), ([], 9, 3, .sub false), ([], 10, 2, .eq (pB true)), ([], 11, 4, .eq (pI (v2.length : Int))), ([], 11, 5, .eq (pB false)), ([], 13, 1, .retS (pS r_2) [some ⟨3, 143, [[(pS r_3), (.list 1 false (r_4.map cS)), (.v (.slice none 0 0))]], true, false⟩] [0]), ([], 14, 7, .ok), ([], 2, 1, .sub false)]) (ex := .normal) (by kernel_rfl) (by kernel_rfl) (allC (cg q1) (allC q2 (allC q3 (allC (optionKind_ok k v1 (b_2.toNat : Int) _ q4) (allC (cg q5) (allC (cg q6) (allC q7 (allC q8 (allC (cg q9) (allC (len_ob (rfl : (v2.map cS) = v2.map cS)) (allC (cg q10) (allC (optionTakerNext_ok k v1 v2 _ q11) (allC (by decide : 1 ≤ 140737488355328 ∧ (1) * 24 ≤ 140737488355328) (allC q12 allN)))))))))))))), (Eq.trans (b := some (optionTakerGroup_R1_1 ((v0.extract 0 ((1 : Int)).toNat).extract ((1 : Int)).toNat (v0.extract 0 ((1 : Int)).toNat).size) r_3 (r_4.map cS) 1 ([[(.v (.int .u8 (b_1.toNat : Int))), (pS r_2)]]))) (by kernel_rfl) (congrArg some ((optionTakerGroup_R1_1_eq (rfl : ((v0.extract 0 ((1 : Int)).toNat).extract ((1 : Int)).toNat (v0.extract 0 ((1 : Int)).toNat).size) = ((v0.extract 0 ((1 : Int)).toNat).extract ((1 : Int)).toNat (v0.extract 0 ((1 : Int)).toNat).size)) (rfl : r_3 = r_3) (rfl : (r_4.map cS) = (r_4.map cS)) ((rfl : 1 = _) : 1 = ([(FlagD.mk (b_1.toNat : Int) r_2)].length)) (rfl : ([[(.v (.int .u8 (b_1.toNat : Int))), (pS r_2)]]) = ([(FlagD.mk (b_1.toNat : Int) r_2)].map FlagD.c))).trans (by kernel_rfl : optionTakerGroup_R1_1 ((v0.extract 0 ((1 : Int)).toNat).extract ((1 : Int)).toNat (v0.extract 0 ((1 : Int)).toNat).size) r_3 (r_4.map cS) ([(FlagD.mk (b_1.toNat : Int) r_2)].length) ([(FlagD.mk (b_1.toNat : Int) r_2)].map FlagD.c) = optionTakerGroup_S1 (.inr ((((v0.extract 0 ((1 : Int)).toNat).extract ((1 : Int)).toNat (v0.extract 0 ((1 : Int)).toNat).size), r_3, r_4, [(FlagD.mk (b_1.toNat : Int) r_2)])))))))⟩
          · obtain ⟨q10, h⟩ := grd_some h
            obtain rfl := Sum.inl.inj (Option.some.inj h)
            exact ⟨_, run_go (k := (k + 1)) (f := 115) (r0 := 1) (nt := 55) (c := optionTakerGroup_L1) (σ := (optionTakerGroup_S1 (.inl (v0, v1, v2)))) (adv [([], 1, 1, .eq (pB true)), ([], 3, 1, .chr b_1), ([], 4, 5, .chr b_2), ([], 4, 6, .ret (pI r_1)), ([], 5, 1, .eq (pB false)), ([], 6, 1, .eq (pB true)), ([], 9, 1, .sub false), ([], 9, 3, .sub false), ([], 10, 2, .eq (pB false)), ([], 14, 7, .ok), ([], 2, 1, .sub false)]) (ex := .normal) (by kernel_rfl) (by kernel_rfl) (allC (cg q1) (allC q2 (allC q3 (allC (optionKind_ok k v1 (b_2.toNat : Int) _ q4) (allC (cg q5) (allC (cg q6) (allC q7 (allC q8 (allC (cg q9) (allC (by decide : 1 ≤ 140737488355328 ∧ (1) * 24 ≤ 140737488355328) (allC q10 allN))))))))))), (Eq.trans (b := some (optionTakerGroup_R1_1 ((v0.extract 0 ((1 : Int)).toNat).extract ((1 : Int)).toNat (v0.extract 0 ((1 : Int)).toNat).size) v1 (v2.map cS) 1 ([[(.v (.int .u8 (b_1.toNat : Int))), (pS (v0.extract ((1 : Int)).toNat v0.size))]]))) (by kernel_rfl) (congrArg some ((optionTakerGroup_R1_1_eq (rfl : ((v0.extract 0 ((1 : Int)).toNat).extract ((1 : Int)).toNat (v0.extract 0 ((1 : Int)).toNat).size) = ((v0.extract 0 ((1 : Int)).toNat).extract ((1 : Int)).toNat (v0.extract 0 ((1 : Int)).toNat).size)) (rfl : v1 = v1) (rfl : (v2.map cS) = (v2.map cS)) ((rfl : 1 = _) : 1 = ([(FlagD.mk (b_1.toNat : Int) (v0.extract ((1 : Int)).toNat v0.size))].length)) (rfl : ([[(.v (.int .u8 (b_1.toNat : Int))), (pS (v0.extract ((1 : Int)).toNat v0.size))]]) = ([(FlagD.mk (b_1.toNat : Int) (v0.extract ((1 : Int)).toNat v0.size))].map FlagD.c))).trans (by kernel_rfl : optionTakerGroup_R1_1 ((v0.extract 0 ((1 : Int)).toNat).extract ((1 : Int)).toNat (v0.extract 0 ((1 : Int)).toNat).size) v1 (v2.map cS) ([(FlagD.mk (b_1.toNat : Int) (v0.extract ((1 : Int)).toNat v0.size))].length) ([(FlagD.mk (b_1.toNat : Int) (v0.extract ((1 : Int)).toNat v0.size))].map FlagD.c) = optionTakerGroup_S1 (.inr ((((v0.extract 0 ((1 : Int)).toNat).extract ((1 : Int)).toNat (v0.extract 0 ((1 : Int)).toNat).size), v1, v2, [(FlagD.mk (b_1.toNat : Int) (v0.extract ((1 : Int)).toNat v0.size))])))))))⟩
        · rcases bif_some h with ⟨q7, h⟩ | ⟨q7, h⟩
          · obtain ⟨q8, h⟩ := grd_some h
            obtain rfl := Sum.inl.inj (Option.some.inj h)
            exact ⟨_, run_go (k := (k + 1)) (f := 115) (r0 := 1) (nt := 55) (c := optionTakerGroup_L1) (σ := (optionTakerGroup_S1 (.inl (v0, v1, v2)))) (adv [([], 1, 1, .eq (pB true)), ([], 3, 1, .chr b_1), ([], 4, 5, .chr b_2), ([], 4, 6, .ret (pI r_1)), ([], 5, 1, .eq (pB false)), ([], 6, 1, .eq (pB false)), ([], 7, 1, .eq (pB true)), ([], 14, 7, .ok), ([], 2, 1, .sub false)]) (ex := .normal) (by kernel_rfl) (by kernel_rfl) (allC (cg q1) (allC q2 (allC q3 (allC (optionKind_ok k v1 (b_2.toNat : Int) _ q4) (allC (cg q5) (allC (cg q6) (allC (cg q7) (allC (by decide : 1 ≤ 140737488355328 ∧ (1) * 24 ≤ 140737488355328) (allC q8 allN))))))))), (Eq.trans (b := some (optionTakerGroup_R1_1 (v0.extract ((1 : Int)).toNat v0.size) v1 (v2.map cS) 1 ([[(.v (.int .u8 (b_1.toNat : Int))), (pS (bs []))]]))) (by kernel_rfl) (congrArg some ((optionTakerGroup_R1_1_eq (rfl : (v0.extract ((1 : Int)).toNat v0.size) = (v0.extract ((1 : Int)).toNat v0.size)) (rfl : v1 = v1) (rfl : (v2.map cS) = (v2.map cS)) ((rfl : 1 = _) : 1 = (([(FlagD.mk (b_1.toNat : Int) (bs []))]).length)) (rfl : ([[(.v (.int .u8 (b_1.toNat : Int))), (pS (bs []))]]) = (([(FlagD.mk (b_1.toNat : Int) (bs []))]).map FlagD.c))).trans (by kernel_rfl : optionTakerGroup_R1_1 (v0.extract ((1 : Int)).toNat v0.size) v1 (v2.map cS) (([(FlagD.mk (b_1.toNat : Int) (bs []))]).length) (([(FlagD.mk (b_1.toNat : Int) (bs []))]).map FlagD.c) = optionTakerGroup_S1 (.inr (((v0.extract ((1 : Int)).toNat v0.size), v1, v2, [(FlagD.mk (b_1.toNat : Int) (bs []))])))))))⟩
          · obtain ⟨q8, h⟩ := grd_some h
            obtain rfl := Sum.inl.inj (Option.some.inj h)
            exact ⟨_, run_go (k := (k + 1)) (f := 115) (r0 := 1) (nt := 55) (c := optionTakerGroup_L1) (σ := (optionTakerGroup_S1 (.inl (v0, v1, v2)))) (adv [([], 1, 1, .eq (pB true)), ([], 3, 1, .chr b_1), ([], 4, 5, .chr b_2), ([], 4, 6, .ret (pI r_1)), ([], 5, 1, .eq (pB false)), ([], 6, 1, .eq (pB false)), ([], 7, 1, .eq (pB false)), ([], 2, 1, .sub false)]) (ex := .normal) (by kernel_rfl) (by kernel_rfl) (allC (cg q1) (allC q2 (allC q3 (allC (optionKind_ok k v1 (b_2.toNat : Int) _ q4) (allC (cg q5) (allC (cg q6) (allC (cg q7) (allC q8 allN)))))))), (by kernel_rfl)⟩
    · cases h
  · unfold optionTakerGroup_b1 at h
    try dsimp only at h
    rcases bif_some h with ⟨q1, h⟩ | ⟨q1, h⟩
    · obtain ⟨b_1, q2, h⟩ := bnd_some h
      obtain ⟨b_2, q3, h⟩ := bnd_some h
      obtain ⟨r_1, q4, h⟩ := bnd_some h
      rcases bif_some h with ⟨q5, h⟩ | ⟨q5, h⟩
      · cases h
      · rcases bif_some h with ⟨q6, h⟩ | ⟨q6, h⟩
        · obtain ⟨q7, h⟩ := grd_some h
          obtain ⟨q8, h⟩ := grd_some h
          rcases bif_some h with ⟨q9, h⟩ | ⟨q9, h⟩
          · rcases bif_some h with ⟨q10, h⟩ | ⟨q10, h⟩
            · cases h
            · obtain ⟨X_1, q11, h⟩ := bnd_some h
              rcases X_1 with ⟨r_2, r_3, r_4, r_5⟩
              · try dsimp only at h
                obtain ⟨q12, h⟩ := grd_some h
                obtain ⟨q13, h⟩ := grd_some h
                obtain rfl := Sum.inl.inj (Option.some.inj h)
                exact ⟨_, run_go (k := (k + 1)) (f := 115) (r0 := 1) (nt := 55) (c := optionTakerGroup_L1) (σ := (optionTakerGroup_S1 (.inr ((v0, v1, v2, v3))))) (adv [([], 1, 1, .eq (pB true)), ([], 3, 1, .chr b_1), ([], 4, 5, .chr b_2), ([], 4, 6, .ret (pI r_1)), ([], 5, 1, .eq (pB false)), ([], 6, 1, .eq (pB true)), ([], 9, 1, .sub false), ([], 9, 3, .sub false), ([], 10, 2, .eq (pB true)), ([], 11, 4, .eq (pI (v2.length : Int))), ([], 11, 5, .eq (pB false)), ([], 13, 1, .retS (pS r_2) [some ⟨3, 143, [[(pS r_3), (.list 1 false (r_4.map cS)), (.row [1, TAG] 1 0 r_5.length)]], false, false⟩, some ⟨2, 154, (r_5.map FlagD.c), true, true⟩] [0, 0]), ([], 14, 7, .ok), ([], 2, 1, .sub false)]) (ex := .normal) (by kernel_rfl) (by kernel_rfl) (allC (cg q1) (allC q2 (allC q3 (allC (optionKind_ok k v1 (b_2.toNat : Int) _ q4) (allC (cg q5) (allC (cg q6) (allC q7 (allC q8 (allC (cg q9) (allC (len_ob (rfl : (v2.map cS) = v2.map cS)) (allC (cg q10) (allC (optionTakerNext2_ok k v1 v2 v3 _ q11) (allC (app_ok (rfl : (r_5.map FlagD.c) = r_5.map FlagD.c) (rfl : r_5.length = r_5.length) q12) (allC q13 allN)))))))))))))), (Eq.trans (b := some (optionTakerGroup_R1_1 ((v0.extract 0 ((1 : Int)).toNat).extract ((1 : Int)).toNat (v0.extract 0 ((1 : Int)).toNat).size) r_3 (r_4.map cS) (r_5.length + 1) ((r_5.map FlagD.c) ++ [[(.v (.int .u8 (b_1.toNat : Int))), (pS r_2)]]))) (by kernel_rfl) (congrArg some ((optionTakerGroup_R1_1_eq (rfl : ((v0.extract 0 ((1 : Int)).toNat).extract ((1 : Int)).toNat (v0.extract 0 ((1 : Int)).toNat).size) = ((v0.extract 0 ((1 : Int)).toNat).extract ((1 : Int)).toNat (v0.extract 0 ((1 : Int)).toNat).size)) (rfl : r_3 = r_3) (rfl : (r_4.map cS) = (r_4.map cS)) ((len_cat (rfl : r_5.length = r_5.length) r_5 (rfl : 1 = [(FlagD.mk (b_1.toNat : Int) r_2)].length)) : (r_5.length + 1) = ((r_5 ++ [(FlagD.mk (b_1.toNat : Int) r_2)]).length)) ((enc_cat (rfl : (r_5.map FlagD.c) = r_5.map FlagD.c) (show [[(.v (.int .u8 (b_1.toNat : Int))), (pS r_2)]] = [(FlagD.mk (b_1.toNat : Int) r_2)].map FlagD.c from rfl)) : ((r_5.map FlagD.c) ++ [[(.v (.int .u8 (b_1.toNat : Int))), (pS r_2)]]) = ((r_5 ++ [(FlagD.mk (b_1.toNat : Int) r_2)]).map FlagD.c))).trans (by kernel_rfl : optionTakerGroup_R1_1 ((v0.extract 0 ((1 : Int)).toNat).extract ((1 : Int)).toNat (v0.extract 0 ((1 : Int)).toNat).size) r_3 (r_4.map cS) ((r_5 ++ [(FlagD.mk (b_1.toNat : Int) r_2)]).length) ((r_5 ++ [(FlagD.mk (b_1.toNat : Int) r_2)]).map FlagD.c) = optionTakerGroup_S1 (.inr ((((v0.extract 0 ((1 : Int)).toNat).extract ((1 : Int)).toNat (v0.extract 0 ((1 : Int)).toNat).size), r_3, r_4, (r_5 ++ [(FlagD.mk (b_1.toNat : Int) r_2)]))))))))⟩
          · obtain ⟨q10, h⟩ := grd_some h
            obtain ⟨q11, h⟩ := grd_some h
            obtain rfl := Sum.inl.inj (Option.some.inj h)
            exact ⟨_, run_go (k := (k + 1)) (f := 115) (r0 := 1) (nt := 55) (c := optionTakerGroup_L1) (σ := (optionTakerGroup_S1 (.inr ((v0, v1, v2, v3))))) (adv [([], 1, 1, .eq (pB true)), ([], 3, 1, .chr b_1), ([], 4, 5, .chr b_2), ([], 4, 6, .ret (pI r_1)), ([], 5, 1, .eq (pB false)), ([], 6, 1, .eq (pB true)), ([], 9, 1, .sub false), ([], 9, 3, .sub false), ([], 10, 2, .eq (pB false)), ([], 14, 7, .ok), ([], 2, 1, .sub false)]) (ex := .normal) (by kernel_rfl) (by kernel_rfl) (allC (cg q1) (allC q2 (allC q3 (allC (optionKind_ok k v1 (b_2.toNat : Int) _ q4) (allC (cg q5) (allC (cg q6) (allC q7 (allC q8 (allC (cg q9) (allC (app_ok (rfl : (v3.map FlagD.c) = v3.map FlagD.c) (rfl : v3.length = v3.length) q10) (allC q11 allN))))))))))), (Eq.trans (b := some (optionTakerGroup_R1_1 ((v0.extract 0 ((1 : Int)).toNat).extract ((1 : Int)).toNat (v0.extract 0 ((1 : Int)).toNat).size) v1 (v2.map cS) (v3.length + 1) ((v3.map FlagD.c) ++ [[(.v (.int .u8 (b_1.toNat : Int))), (pS (v0.extract ((1 : Int)).toNat v0.size))]]))) (by kernel_rfl) (congrArg some ((optionTakerGroup_R1_1_eq (rfl : ((v0.extract 0 ((1 : Int)).toNat).extract ((1 : Int)).toNat (v0.extract 0 ((1 : Int)).toNat).size) = ((v0.extract 0 ((1 : Int)).toNat).extract ((1 : Int)).toNat (v0.extract 0 ((1 : Int)).toNat).size)) (rfl : v1 = v1) (rfl : (v2.map cS) = (v2.map cS)) ((len_cat (rfl : v3.length = v3.length) v3 (rfl : 1 = [(FlagD.mk (b_1.toNat : Int) (v0.extract ((1 : Int)).toNat v0.size))].length)) : (v3.length + 1) = ((v3 ++ [(FlagD.mk (b_1.toNat : Int) (v0.extract ((1 : Int)).toNat v0.size))]).length)) ((enc_cat (rfl : (v3.map FlagD.c) = v3.map FlagD.c) (show [[(.v (.int .u8 (b_1.toNat : Int))), (pS (v0.extract ((1 : Int)).toNat v0.size))]] = [(FlagD.mk (b_1.toNat : Int) (v0.extract ((1 : Int)).toNat v0.size))].map FlagD.c from rfl)) : ((v3.map FlagD.c) ++ [[(.v (.int .u8 (b_1.toNat : Int))), (pS (v0.extract ((1 : Int)).toNat v0.size))]]) = ((v3 ++ [(FlagD.mk (b_1.toNat : Int) (v0.extract ((1 : Int)).toNat v0.size))]).map FlagD.c))).trans (by kernel_rfl : optionTakerGroup_R1_1 ((v0.extract 0 ((1 : Int)).toNat).extract ((1 : Int)).toNat (v0.extract 0 ((1 : Int)).toNat).size) v1 (v2.map cS) ((v3 ++ [(FlagD.mk (b_1.toNat : Int) (v0.extract ((1 : Int)).toNat v0.size))]).length) ((v3 ++ [(FlagD.mk (b_1.toNat : Int) (v0.extract ((1 : Int)).toNat v0.size))]).map FlagD.c) = optionTakerGroup_S1 (.inr ((((v0.extract 0 ((1 : Int)).toNat).extract ((1 : Int)).toNat (v0.extract 0 ((1 : Int)).toNat).size), v1, v2, (v3 ++ [(FlagD.mk (b_1.toNat : Int) (v0.extract ((1 : Int)).toNat v0.size))]))))))))⟩
        · rcases bif_some h with ⟨q7, h⟩ | ⟨q7, h⟩
          · obtain ⟨q8, h⟩ := grd_some h
            obtain ⟨q9, h⟩ := grd_some h
            obtain rfl := Sum.inl.inj (Option.some.inj h)
            exact ⟨_, run_go (k := (k + 1)) (f := 115) (r0 := 1) (nt := 55) (c := optionTakerGroup_L1) (σ := (optionTakerGroup_S1 (.inr ((v0, v1, v2, v3))))) (adv [([], 1, 1, .eq (pB true)), ([], 3, 1, .chr b_1), ([], 4, 5, .chr b_2), ([], 4, 6, .ret (pI r_1)), ([], 5, 1, .eq (pB false)), ([], 6, 1, .eq (pB false)), ([], 7, 1, .eq (pB true)), ([], 14, 7, .ok), ([], 2, 1, .sub false)]) (ex := .normal) (by kernel_rfl) (by kernel_rfl) (allC (cg q1) (allC q2 (allC q3 (allC (optionKind_ok k v1 (b_2.toNat : Int) _ q4) (allC (cg q5) (allC (cg q6) (allC (cg q7) (allC (app_ok (rfl : (v3.map FlagD.c) = v3.map FlagD.c) (rfl : v3.length = v3.length) q8) (allC q9 allN))))))))), (Eq.trans (b := some (optionTakerGroup_R1_1 (v0.extract ((1 : Int)).toNat v0.size) v1 (v2.map cS) (v3.length + 1) ((v3.map FlagD.c) ++ [[(.v (.int .u8 (b_1.toNat : Int))), (pS (bs []))]]))) (by kernel_rfl) (congrArg some ((optionTakerGroup_R1_1_eq (rfl : (v0.extract ((1 : Int)).toNat v0.size) = (v0.extract ((1 : Int)).toNat v0.size)) (rfl : v1 = v1) (rfl : (v2.map cS) = (v2.map cS)) ((len_cat (rfl : v3.length = v3.length) v3 (rfl : 1 = ([(FlagD.mk (b_1.toNat : Int) (bs []))]).length)) : (v3.length + 1) = ((v3 ++ [(FlagD.mk (b_1.toNat : Int) (bs []))]).length)) ((enc_cat (rfl : (v3.map FlagD.c) = v3.map FlagD.c) (show [[(.v (.int .u8 (b_1.toNat : Int))), (pS (bs []))]] = ([(FlagD.mk (b_1.toNat : Int) (bs []))]).map FlagD.c from rfl)) : ((v3.map FlagD.c) ++ [[(.v (.int .u8 (b_1.toNat : Int))), (pS (bs []))]]) = ((v3 ++ [(FlagD.mk (b_1.toNat : Int) (bs []))]).map FlagD.c))).trans (by kernel_rfl : optionTakerGroup_R1_1 (v0.extract ((1 : Int)).toNat v0.size) v1 (v2.map cS) ((v3 ++ [(FlagD.mk (b_1.toNat : Int) (bs []))]).length) ((v3 ++ [(FlagD.mk (b_1.toNat : Int) (bs []))]).map FlagD.c) = optionTakerGroup_S1 (.inr (((v0.extract ((1 : Int)).toNat v0.size), v1, v2, (v3 ++ [(FlagD.mk (b_1.toNat : Int) (bs []))]))))))))⟩
          · obtain ⟨q8, h⟩ := grd_some h
            obtain rfl := Sum.inl.inj (Option.some.inj h)
            exact ⟨_, run_go (k := (k + 1)) (f := 115) (r0 := 1) (nt := 55) (c := optionTakerGroup_L1) (σ := (optionTakerGroup_S1 (.inr ((v0, v1, v2, v3))))) (adv [([], 1, 1, .eq (pB true)), ([], 3, 1, .chr b_1), ([], 4, 5, .chr b_2), ([], 4, 6, .ret (pI r_1)), ([], 5, 1, .eq (pB false)), ([], 6, 1, .eq (pB false)), ([], 7, 1, .eq (pB false)), ([], 2, 1, .sub false)]) (ex := .normal) (by kernel_rfl) (by kernel_rfl) (allC (cg q1) (allC q2 (allC q3 (allC (optionKind_ok k v1 (b_2.toNat : Int) _ q4) (allC (cg q5) (allC (cg q6) (allC (cg q7) (allC q8 allN)))))))), (by kernel_rfl)⟩
    · cases h
def optionTakerGroup (p0 : ByteArray) (p1 : ByteArray) (p2 : (List ByteArray)) : Option ((ByteArray × (List ByteArray)) ⊕ (ByteArray × (List ByteArray)) ⊕ (ByteArray × (List ByteArray)) ⊕ (ByteArray × (List ByteArray) × (List FlagD)) ⊕ (ByteArray × (List ByteArray) × (List FlagD)) ⊕ (ByteArray × (List ByteArray) × (List FlagD))) :=
 (iterN (optionTakerGroup_b1) LF (.inl (p0, p1, p2))).bind fun X_1 => match X_1 with
 | .inl (v_1, v_2, v_3, b_1, b_2, r_1) => (
 some (.inl (v_2, v_3))
 )
 | .inr (.inl (v_1, v_2, v_3, b_1, b_2, r_1)) => (
 some (.inr (.inl (v_2, v_3)))
 )
 | .inr (.inr (.inl (v_1, v_2, v_3))) => (
 some (.inr (.inr (.inl (v_2, v_3))))
 )
 | .inr (.inr (.inr (.inl (v_4, v_5, v_6, v_7, b_1, b_2, r_1)))) => (
 some (.inr (.inr (.inr (.inl (v_5, v_6, v_7)))))
 )
 | .inr (.inr (.inr (.inr (.inl (v_4, v_5, v_6, v_7, b_1, b_2, r_1))))) => (
 some (.inr (.inr (.inr (.inr (.inl (v_5, v_6, v_7))))))
 )
 | .inr (.inr (.inr (.inr (.inr ((v_4, v_5, v_6, v_7)))))) => (
 some (.inr (.inr (.inr (.inr (.inr ((v_5, v_6, v_7)))))))
 )
def optionTakerGroup_out : ((ByteArray × (List ByteArray)) ⊕ (ByteArray × (List ByteArray)) ⊕ (ByteArray × (List ByteArray)) ⊕ (ByteArray × (List ByteArray) × (List FlagD)) ⊕ (ByteArray × (List ByteArray) × (List FlagD)) ⊕ (ByteArray × (List ByteArray) × (List FlagD))) → PV × List (Option Blk) × List Nat
 | .inl (r0, r1) => ((.ifc 403 (.far 0)), [some ⟨3, 143, [[(pS r0), (.list 1 false (r1.map cS)), (.v (.slice none 0 0))]], true, false⟩], [0])
 | .inr (.inl (r0, r1)) => ((.ifc 403 (.far 1)), [some ⟨3, 143, [[(pS r0), (.list 1 false (r1.map cS)), (.v (.slice none 0 0))]], true, false⟩], [0])
 | .inr (.inr (.inl (r0, r1))) => ((.v .nilIface), [some ⟨3, 143, [[(pS r0), (.list 1 false (r1.map cS)), (.v (.slice none 0 0))]], true, false⟩], [0])
 | .inr (.inr (.inr (.inl (r0, r1, r2)))) => ((.ifc 403 (.far 0)), [some ⟨3, 143, [[(pS r0), (.list 1 false (r1.map cS)), (.row [1, TAG] 1 0 r2.length)]], false, false⟩, some ⟨2, 154, (r2.map FlagD.c), true, true⟩], [0, 0])
 | .inr (.inr (.inr (.inr (.inl (r0, r1, r2))))) => ((.ifc 403 (.far 1)), [some ⟨3, 143, [[(pS r0), (.list 1 false (r1.map cS)), (.row [1, TAG] 1 0 r2.length)]], false, false⟩, some ⟨2, 154, (r2.map FlagD.c), true, true⟩], [0, 0])
 | .inr (.inr (.inr (.inr (.inr ((r0, r1, r2)))))) => ((.v .nilIface), [some ⟨3, 143, [[(pS r0), (.list 1 false (r1.map cS)), (.row [1, TAG] 1 0 r2.length)]], false, false⟩, some ⟨2, 154, (r2.map FlagD.c), true, true⟩], [0, 0])
set_option maxRecDepth 100000 in
theorem optionTakerGroup_ok (k : Nat) (p0 : ByteArray) (p1 : ByteArray) (p2 : (List ByteArray)) (r : ((ByteArray × (List ByteArray)) ⊕ (ByteArray × (List ByteArray)) ⊕ (ByteArray × (List ByteArray)) ⊕ (ByteArray × (List ByteArray) × (List FlagD)) ⊕ (ByteArray × (List ByteArray) × (List FlagD)) ⊕ (ByteArray × (List ByteArray) × (List FlagD)))) (h : optionTakerGroup p0 p1 p2 = some r) : runS0 (k + 2) 115 [(.ptr [0, TAG] 1 0 0), (pS p0)] [some ⟨3, 143, [[(pS p1), (.list 1 false (p2.map cS)), (.v (.slice none 0 0))]], true, false⟩] [0] = some (optionTakerGroup_out r) := by
  unfold optionTakerGroup at h
  obtain ⟨X_1, q1, h⟩ := bnd_some h
  obtain ⟨a_1, q2, q3⟩ := loop_iter (f := run1 (k + 1) 115 1 55 optionTakerGroup_L1) (optionTakerGroup_S1) (optionTakerGroup_b1) (optionTakerGroup_t1 k) LF (.inl (p0, p1, p2)) _ (stOf (goStop (k + 1) 115 1 55 (adv []) 1 (codeOf Tryz.f115) (argB 115 [(.ptr [0, TAG] 1 0 0), (pS p0)] [some ⟨3, 143, [[(pS p1), (.list 1 false (p2.map cS)), (.v (.slice none 0 0))]], true, false⟩] [0]))) q1 (by kernel_rfl)
  rcases a_1 with ⟨v_1, v_2, v_3⟩ | ⟨v_4, v_5, v_6, v_7⟩
  · unfold optionTakerGroup_b1 at q2
    try dsimp only at q2
    rcases bif_some q2 with ⟨q6, q2⟩ | ⟨q6, q2⟩
    · obtain ⟨b_1, q7, q2⟩ := bnd_some q2
      obtain ⟨b_2, q8, q2⟩ := bnd_some q2
      obtain ⟨r_1, q9, q2⟩ := bnd_some q2
      rcases bif_some q2 with ⟨q10, q2⟩ | ⟨q10, q2⟩
      · cases q2
        try dsimp only at h
        have q4 := run_go (k := (k + 1)) (f := 115) (r0 := 1) (nt := 55) (c := optionTakerGroup_L1) (σ := (optionTakerGroup_S1 (.inl (v_1, v_2, v_3)))) (adv [([], 1, 1, .eq (pB true)), ([], 3, 1, .chr b_1), ([], 4, 5, .chr b_2), ([], 4, 6, .ret (pI r_1)), ([], 5, 1, .eq (pB true))]) (ex := .ret) (by kernel_rfl) (by kernel_rfl) (allC (cg q6) (allC q7 (allC q8 (allC (optionKind_ok k v_2 (b_2.toNat : Int) _ q9) (allC (cg q10) allN)))))
        have q5 := q3 _ _ (by intro e; cases e) q4
        obtain rfl := Option.some.inj h
        exact retS_go (k := (k + 1)) (n := 1) Tryz.func115 Tryz.ntmps115 rfl (by kernel_rfl) (by kernel_rfl) (lb rfl) (adv [] [([], 1, .ret, (stOf (go (k + 1) 115 1 55 (adv [([], 1, 1, .eq (pB true)), ([], 3, 1, .chr b_1), ([], 4, 5, .chr b_2), ([], 4, 6, .ret (pI r_1)), ([], 5, 1, .eq (pB true))]) optionTakerGroup_L1 (optionTakerGroup_S1 (.inl (v_1, v_2, v_3))))))]) (ex := .ret) (r := ((.ifc 403 (.far 0)), [some ⟨3, 143, [[(pS v_2), (.list 1 false (v_3.map cS)), (.v (.slice none 0 0))]], true, false⟩], [0])) (by kernel_rfl) rfl (by kernel_rfl) (allC q5 allN) (by kernel_rfl)
      · rcases bif_some q2 with ⟨q11, q2⟩ | ⟨q11, q2⟩
        · obtain ⟨q12, q2⟩ := grd_some q2
          obtain ⟨q13, q2⟩ := grd_some q2
          rcases bif_some q2 with ⟨q14, q2⟩ | ⟨q14, q2⟩
          · rcases bif_some q2 with ⟨q15, q2⟩ | ⟨q15, q2⟩
            · cases q2
              try dsimp only at h
              have q4 := run_go (k := (k + 1)) (f := 115) (r0 := 1) (nt := 55) (c := optionTakerGroup_L1) (σ := (optionTakerGroup_S1 (.inl (v_1, v_2, v_3)))) (adv [([], 1, 1, .eq (pB true)), ([], 3, 1, .chr b_1), ([], 4, 5, .chr b_2), ([], 4, 6, .ret (pI r_1)), ([], 5, 1, .eq (pB false)), ([], 6, 1, .eq (pB true)), ([], 9, 1, .sub false), ([], 9, 3, .sub false), ([], 10, 2, .eq (pB true)), ([], 11, 4, .eq (pI (v_3.length : Int))), ([], 11, 5, .eq (pB true))]) (ex := .ret) (by kernel_rfl) (by kernel_rfl) (allC (cg q6) (allC q7 (allC q8 (allC (optionKind_ok k v_2 (b_2.toNat : Int) _ q9) (allC (cg q10) (allC (cg q11) (allC q12 (allC q13 (allC (cg q14) (allC (len_ob (rfl : (v_3.map cS) = v_3.map cS)) (allC (cg q15) allN)))))))))))
              have q5 := q3 _ _ (by intro e; cases e) q4
              obtain rfl := Option.some.inj h
              exact retS_go (k := (k + 1)) (n := 1) Tryz.func115 Tryz.ntmps115 rfl (by kernel_rfl) (by kernel_rfl) (lb rfl) (adv [] [([], 1, .ret, (stOf (go (k + 1) 115 1 55 (adv [([], 1, 1, .eq (pB true)), ([], 3, 1, .chr b_1), ([], 4, 5, .chr b_2), ([], 4, 6, .ret (pI r_1)), ([], 5, 1, .eq (pB false)), ([], 6, 1, .eq (pB true)), ([], 9, 1, .sub false), ([], 9, 3, .sub false), ([], 10, 2, .eq (pB true)), ([], 11, 4, .eq (pI (v_3.length : Int))), ([], 11, 5, .eq (pB true))]) optionTakerGroup_L1 (optionTakerGroup_S1 (.inl (v_1, v_2, v_3))))))]) (ex := .ret) (r := ((.ifc 403 (.far 1)), [some ⟨3, 143, [[(pS v_2), (.list 1 false (v_3.map cS)), (.v (.slice none 0 0))]], true, false⟩], [0])) (by kernel_rfl) rfl (by kernel_rfl) (allC q5 allN) (by kernel_rfl)
            · obtain ⟨X_2, q16, q2⟩ := bnd_some q2
              rcases X_2 with ⟨r_2, r_3, r_4⟩
              · try dsimp only at q2
                obtain ⟨q17, q2⟩ := grd_some q2
                cases q2
          · obtain ⟨q15, q2⟩ := grd_some q2
            cases q2
        · rcases bif_some q2 with ⟨q12, q2⟩ | ⟨q12, q2⟩
          · obtain ⟨q13, q2⟩ := grd_some q2
            cases q2
          · obtain ⟨q13, q2⟩ := grd_some q2
            cases q2
    · cases q2
      try dsimp only at h
      have q4 := run_go (k := (k + 1)) (f := 115) (r0 := 1) (nt := 55) (c := optionTakerGroup_L1) (σ := (optionTakerGroup_S1 (.inl (v_1, v_2, v_3)))) (adv [([], 1, 1, .eq (pB false))]) (ex := (.exit 0)) (by kernel_rfl) (by kernel_rfl) (allC (cg q6) allN)
      have q5 := q3 _ _ (by intro e; cases e) q4
      obtain rfl := Option.some.inj h
      exact retS_go (k := (k + 1)) (n := 1) Tryz.func115 Tryz.ntmps115 rfl (by kernel_rfl) (by kernel_rfl) (lb rfl) (adv [] [([], 1, (.exit 0), (stOf (go (k + 1) 115 1 55 (adv [([], 1, 1, .eq (pB false))]) optionTakerGroup_L1 (optionTakerGroup_S1 (.inl (v_1, v_2, v_3))))))]) (ex := .ret) (r := ((.v .nilIface), [some ⟨3, 143, [[(pS v_2), (.list 1 false (v_3.map cS)), (.v (.slice none 0 0))]], true, false⟩], [0])) (by kernel_rfl) rfl (by kernel_rfl) (allC q5 allN) (by kernel_rfl)
  · unfold optionTakerGroup_b1 at q2
    try dsimp only at q2
    rcases bif_some q2 with ⟨q6, q2⟩ | ⟨q6, q2⟩
    · obtain ⟨b_1, q7, q2⟩ := bnd_some q2
      obtain ⟨b_2, q8, q2⟩ := bnd_some q2
      obtain ⟨r_1, q9, q2⟩ := bnd_some q2
      rcases bif_some q2 with ⟨q10, q2⟩ | ⟨q10, q2⟩
      · cases q2
        try dsimp only at h
        have q4 := run_go (k := (k + 1)) (f := 115) (r0 := 1) (nt := 55) (c := optionTakerGroup_L1) (σ := (optionTakerGroup_S1 (.inr ((v_4, v_5, v_6, v_7))))) (adv [([], 1, 1, .eq (pB true)), ([], 3, 1, .chr b_1), ([], 4, 5, .chr b_2), ([], 4, 6, .ret (pI r_1)), ([], 5, 1, .eq (pB true))]) (ex := .ret) (by kernel_rfl) (by kernel_rfl) (allC (cg q6) (allC q7 (allC q8 (allC (optionKind_ok k v_5 (b_2.toNat : Int) _ q9) (allC (cg q10) allN)))))
        have q5 := q3 _ _ (by intro e; cases e) q4
        obtain rfl := Option.some.inj h
        exact retS_go (k := (k + 1)) (n := 1) Tryz.func115 Tryz.ntmps115 rfl (by kernel_rfl) (by kernel_rfl) (lb rfl) (adv [] [([], 1, .ret, (stOf (go (k + 1) 115 1 55 (adv [([], 1, 1, .eq (pB true)), ([], 3, 1, .chr b_1), ([], 4, 5, .chr b_2), ([], 4, 6, .ret (pI r_1)), ([], 5, 1, .eq (pB true))]) optionTakerGroup_L1 (optionTakerGroup_S1 (.inr ((v_4, v_5, v_6, v_7)))))))]) (ex := .ret) (r := ((.ifc 403 (.far 0)), [some ⟨3, 143, [[(pS v_5), (.list 1 false (v_6.map cS)), (.row [1, TAG] 1 0 v_7.length)]], false, false⟩, some ⟨2, 154, (v_7.map FlagD.c), true, true⟩], [0, 0])) (by kernel_rfl) rfl (by kernel_rfl) (allC q5 allN) (by kernel_rfl)
      · rcases bif_some q2 with ⟨q11, q2⟩ | ⟨q11, q2⟩
        · obtain ⟨q12, q2⟩ := grd_some q2
          obtain ⟨q13, q2⟩ := grd_some q2
          rcases bif_some q2 with ⟨q14, q2⟩ | ⟨q14, q2⟩
          · rcases bif_some q2 with ⟨q15, q2⟩ | ⟨q15, q2⟩
            · cases q2
              try dsimp only at h
              have q4 := run_go (k := (k + 1)) (f := 115) (r0 := 1) (nt := 55) (c := optionTakerGroup_L1) (σ := (optionTakerGroup_S1 (.inr ((v_4, v_5, v_6, v_7))))) (adv [([], 1, 1, .eq (pB true)), ([], 3, 1, .chr b_1), ([], 4, 5, .chr b_2), ([], 4, 6, .ret (pI r_1)), ([], 5, 1, .eq (pB false)), ([], 6, 1, .eq (pB true)), ([], 9, 1, .sub false), ([], 9, 3, .sub false), ([], 10, 2, .eq (pB true)), ([], 11, 4, .eq (pI (v_6.length : Int))), ([], 11, 5, .eq (pB true))]) (ex := .ret) (by kernel_rfl) (by kernel_rfl) (allC (cg q6) (allC q7 (allC q8 (allC (optionKind_ok k v_5 (b_2.toNat : Int) _ q9) (allC (cg q10) (allC (cg q11) (allC q12 (allC q13 (allC (cg q14) (allC (len_ob (rfl : (v_6.map cS) = v_6.map cS)) (allC (cg q15) allN)))))))))))
              have q5 := q3 _ _ (by intro e; cases e) q4
              obtain rfl := Option.some.inj h
              exact retS_go (k := (k + 1)) (n := 1) Tryz.func115 Tryz.ntmps115 rfl (by kernel_rfl) (by kernel_rfl) (lb rfl) (adv [] [([], 1, .ret, (stOf (go (k + 1) 115 1 55 (adv [([], 1, 1, .eq (pB true)), ([], 3, 1, .chr b_1), ([], 4, 5, .chr b_2), ([], 4, 6, .ret (pI r_1)), ([], 5, 1, .eq (pB false)), ([], 6, 1, .eq (pB true)), ([], 9, 1, .sub false), ([], 9, 3, .sub false), ([], 10, 2, .eq (pB true)), ([], 11, 4, .eq (pI (v_6.length : Int))), ([], 11, 5, .eq (pB true))]) optionTakerGroup_L1 (optionTakerGroup_S1 (.inr ((v_4, v_5, v_6, v_7)))))))]) (ex := .ret) (r := ((.ifc 403 (.far 1)), [some ⟨3, 143, [[(pS v_5), (.list 1 false (v_6.map cS)), (.row [1, TAG] 1 0 v_7.length)]], false, false⟩, some ⟨2, 154, (v_7.map FlagD.c), true, true⟩], [0, 0])) (by kernel_rfl) rfl (by kernel_rfl) (allC q5 allN) (by kernel_rfl)
            · obtain ⟨X_2, q16, q2⟩ := bnd_some q2
              rcases X_2 with ⟨r_2, r_3, r_4, r_5⟩
              · try dsimp only at q2
                obtain ⟨q17, q2⟩ := grd_some q2
                obtain ⟨q18, q2⟩ := grd_some q2
                cases q2
          · obtain ⟨q15, q2⟩ := grd_some q2
            obtain ⟨q16, q2⟩ := grd_some q2
            cases q2
        · rcases bif_some q2 with ⟨q12, q2⟩ | ⟨q12, q2⟩
          · obtain ⟨q13, q2⟩ := grd_some q2
            obtain ⟨q14, q2⟩ := grd_some q2
            cases q2
          · obtain ⟨q13, q2⟩ := grd_some q2
            cases q2
    · cases q2
      try dsimp only at h
      have q4 := run_go (k := (k + 1)) (f := 115) (r0 := 1) (nt := 55) (c := optionTakerGroup_L1) (σ := (optionTakerGroup_S1 (.inr ((v_4, v_5, v_6, v_7))))) (adv [([], 1, 1, .eq (pB false))]) (ex := (.exit 0)) (by kernel_rfl) (by kernel_rfl) (allC (cg q6) allN)
      have q5 := q3 _ _ (by intro e; cases e) q4
      obtain rfl := Option.some.inj h
      exact retS_go (k := (k + 1)) (n := 1) Tryz.func115 Tryz.ntmps115 rfl (by kernel_rfl) (by kernel_rfl) (lb rfl) (adv [] [([], 1, (.exit 0), (stOf (go (k + 1) 115 1 55 (adv [([], 1, 1, .eq (pB false))]) optionTakerGroup_L1 (optionTakerGroup_S1 (.inr ((v_4, v_5, v_6, v_7)))))))]) (ex := .ret) (r := ((.v .nilIface), [some ⟨3, 143, [[(pS v_5), (.list 1 false (v_6.map cS)), (.row [1, TAG] 1 0 v_7.length)]], false, false⟩, some ⟨2, 154, (v_7.map FlagD.c), true, true⟩], [0, 0])) (by kernel_rfl) rfl (by kernel_rfl) (allC q5 allN) (by kernel_rfl)
end Go.Proofs.YtdbekeidlppfiaaGreatDoor.Den
namespace Go.Proofs.YtdbekeidlppfiaaGreatDoor.Den
open Go Go.RowKit
noncomputable def optionTakerGroup2_L1 : Code := cAt (codeOf Tryz.f115) [true, false, false, false]
def optionTakerGroup2_R1_0 (x0 : ByteArray) (x1 : ByteArray) (x2 : List (List PV)) (x3 : Nat) (x4 : List (List PV)) : St := ⟨envL [(0, (.ptr [0, TAG] 1 0 0)), (1, (pS x0))], hsL [some ⟨3, 143, [[(pS x1), (.list 1 false x2), (.row [1, TAG] 1 0 x3)]], false, false⟩, some ⟨2, 154, x4, true, true⟩] [0, 0]⟩
def optionTakerGroup2_R1_1 (x0 : ByteArray) (x1 : ByteArray) (x2 : List (List PV)) (x3 : Nat) (x4 : List (List PV)) : St := ⟨envL [(0, (.ptr [0, TAG] 1 0 0)), (1, (pS x0))], hsL [some ⟨3, 143, [[(pS x1), (.list 1 false x2), (.row [2, TAG] 1 0 x3)]], false, false⟩, none, some ⟨2, 154, x4, true, true⟩] [0, 0, 0]⟩
theorem optionTakerGroup2_R1_1_eq {x0 y0 : ByteArray} {x1 y1 : ByteArray} {x2 y2 : List (List PV)} {x3 y3 : Nat} {x4 y4 : List (List PV)} (h0 : x0 = y0) (h1 : x1 = y1) (h2 : x2 = y2) (h3 : x3 = y3) (h4 : x4 = y4) : optionTakerGroup2_R1_1 x0 x1 x2 x3 x4 = optionTakerGroup2_R1_1 y0 y1 y2 y3 y4 := by
  subst h0 h1 h2 h3 h4; rfl
def optionTakerGroup2_S1 : ((ByteArray × ByteArray × (List ByteArray) × (List FlagD)) ⊕ (ByteArray × ByteArray × (List ByteArray) × (List FlagD))) → St
 | .inl (v0, v1, v2, v3) => optionTakerGroup2_R1_0 v0 v1 (v2.map cS) v3.length (v3.map FlagD.c)
 | .inr ((v0, v1, v2, v3)) => optionTakerGroup2_R1_1 v0 v1 (v2.map cS) v3.length (v3.map FlagD.c)
def optionTakerGroup2_b1 : ((ByteArray × ByteArray × (List ByteArray) × (List FlagD)) ⊕ (ByteArray × ByteArray × (List ByteArray) × (List FlagD))) → Option (((ByteArray × ByteArray × (List ByteArray) × (List FlagD)) ⊕ (ByteArray × ByteArray × (List ByteArray) × (List FlagD))) ⊕ ((ByteArray × ByteArray × (List ByteArray) × (List FlagD) × UInt8 × UInt8 × Int) ⊕ (ByteArray × ByteArray × (List ByteArray) × (List FlagD) × UInt8 × UInt8 × Int) ⊕ (ByteArray × ByteArray × (List ByteArray) × (List FlagD)) ⊕ (ByteArray × ByteArray × (List ByteArray) × (List FlagD) × UInt8 × UInt8 × Int) ⊕ (ByteArray × ByteArray × (List ByteArray) × (List FlagD) × UInt8 × UInt8 × Int) ⊕ (ByteArray × ByteArray × (List ByteArray) × (List FlagD))))
 | .inl (v0, v1, v2, v3) =>
 bif (!(seq v0 (bs []))) then (
 (gtS v0 (0 : Int)).bind fun b_1 =>
 (gtS v0 (0 : Int)).bind fun b_2 =>
 (optionKind v1 (b_2.toNat : Int)).bind fun r_1 =>
 bif (r_1 == (0 : Int)) then (
 some (.inr (.inl (v0, v1, v2, v3, b_1, b_2, r_1)))
 ) else (
 bif (r_1 == (2 : Int)) then (
 grd (0 ≤ (1 : Int) ∧ (1 : Int) ≤ (v0.size : Int) ∧ (v0.size : Int) ≤ (v0.size : Int)) <|
 grd (0 ≤ (0 : Int) ∧ (0 : Int) ≤ (1 : Int) ∧ (1 : Int) ≤ (v0.size : Int)) <|
 bif (seq (v0.extract ((1 : Int)).toNat v0.size) (bs [])) then (
 bif ((v2.length : Int) == (0 : Int)) then (
 some (.inr (.inr (.inl (v0, v1, v2, v3, b_1, b_2, r_1))))
 ) else (
 (optionTakerNext2 v1 v2 v3).bind fun (r_2, r_3, r_4, r_5) =>
 grd (room (r_5.length + 1) 24) <|
 grd (0 ≤ (1 : Int) ∧ (1 : Int) ≤ ((v0.extract 0 ((1 : Int)).toNat).size : Int) ∧ ((v0.extract 0 ((1 : Int)).toNat).size : Int) ≤ ((v0.extract 0 ((1 : Int)).toNat).size : Int)) <|
 some (.inl (.inr ((((v0.extract 0 ((1 : Int)).toNat).extract ((1 : Int)).toNat (v0.extract 0 ((1 : Int)).toNat).size), r_3, r_4, (r_5 ++ [(FlagD.mk (b_1.toNat : Int) r_2)])))))
 )
 ) else (
 grd (room (v3.length + 1) 24) <|
 grd (0 ≤ (1 : Int) ∧ (1 : Int) ≤ ((v0.extract 0 ((1 : Int)).toNat).size : Int) ∧ ((v0.extract 0 ((1 : Int)).toNat).size : Int) ≤ ((v0.extract 0 ((1 : Int)).toNat).size : Int)) <|
 some (.inl (.inr ((((v0.extract 0 ((1 : Int)).toNat).extract ((1 : Int)).toNat (v0.extract 0 ((1 : Int)).toNat).size), v1, v2, (v3 ++ [(FlagD.mk (b_1.toNat : Int) (v0.extract ((1 : Int)).toNat v0.size))])))))
 )
 ) else (
 bif (r_1 == (1 : Int)) then (
 grd (room (v3.length + 1) 24) <|
 grd (0 ≤ (1 : Int) ∧ (1 : Int) ≤ (v0.size : Int) ∧ (v0.size : Int) ≤ (v0.size : Int)) <|
 some (.inl (.inr (((v0.extract ((1 : Int)).toNat v0.size), v1, v2, (v3 ++ [(FlagD.mk (b_1.toNat : Int) (bs []))])))))
 ) else (
 grd (0 ≤ (1 : Int) ∧ (1 : Int) ≤ (v0.size : Int) ∧ (v0.size : Int) ≤ (v0.size : Int)) <|
 some (.inl (.inl ((v0.extract ((1 : Int)).toNat v0.size), v1, v2, v3)))
 )
 )
 )
 ) else (
 some (.inr (.inr (.inr (.inl (v0, v1, v2, v3)))))
 )
 | .inr ((v0, v1, v2, v3)) =>
 bif (!(seq v0 (bs []))) then (
 (gtS v0 (0 : Int)).bind fun b_1 =>
 (gtS v0 (0 : Int)).bind fun b_2 =>
 (optionKind v1 (b_2.toNat : Int)).bind fun r_1 =>
 bif (r_1 == (0 : Int)) then (
 some (.inr (.inr (.inr (.inr (.inl (v0, v1, v2, v3, b_1, b_2, r_1))))))
 ) else (
 bif (r_1 == (2 : Int)) then (
 grd (0 ≤ (1 : Int) ∧ (1 : Int) ≤ (v0.size : Int) ∧ (v0.size : Int) ≤ (v0.size : Int)) <|
 grd (0 ≤ (0 : Int) ∧ (0 : Int) ≤ (1 : Int) ∧ (1 : Int) ≤ (v0.size : Int)) <|
 bif (seq (v0.extract ((1 : Int)).toNat v0.size) (bs [])) then (
 bif ((v2.length : Int) == (0 : Int)) then (
 some (.inr (.inr (.inr (.inr (.inr (.inl (v0, v1, v2, v3, b_1, b_2, r_1)))))))
 ) else (
 (optionTakerNext2 v1 v2 v3).bind fun (r_2, r_3, r_4, r_5) =>
 grd (room (r_5.length + 1) 24) <|
 grd (0 ≤ (1 : Int) ∧ (1 : Int) ≤ ((v0.extract 0 ((1 : Int)).toNat).size : Int) ∧ ((v0.extract 0 ((1 : Int)).toNat).size : Int) ≤ ((v0.extract 0 ((1 : Int)).toNat).size : Int)) <|
 some (.inl (.inr ((((v0.extract 0 ((1 : Int)).toNat).extract ((1 : Int)).toNat (v0.extract 0 ((1 : Int)).toNat).size), r_3, r_4, (r_5 ++ [(FlagD.mk (b_1.toNat : Int) r_2)])))))
 )
 ) else (
 grd (room (v3.length + 1) 24) <|
 grd (0 ≤ (1 : Int) ∧ (1 : Int) ≤ ((v0.extract 0 ((1 : Int)).toNat).size : Int) ∧ ((v0.extract 0 ((1 : Int)).toNat).size : Int) ≤ ((v0.extract 0 ((1 : Int)).toNat).size : Int)) <|
 some (.inl (.inr ((((v0.extract 0 ((1 : Int)).toNat).extract ((1 : Int)).toNat (v0.extract 0 ((1 : Int)).toNat).size), v1, v2, (v3 ++ [(FlagD.mk (b_1.toNat : Int) (v0.extract ((1 : Int)).toNat v0.size))])))))
 )
 ) else (
 bif (r_1 == (1 : Int)) then (
 grd (room (v3.length + 1) 24) <|
 grd (0 ≤ (1 : Int) ∧ (1 : Int) ≤ (v0.size : Int) ∧ (v0.size : Int) ≤ (v0.size : Int)) <|
 some (.inl (.inr (((v0.extract ((1 : Int)).toNat v0.size), v1, v2, (v3 ++ [(FlagD.mk (b_1.toNat : Int) (bs []))])))))
 ) else (
 grd (0 ≤ (1 : Int) ∧ (1 : Int) ≤ (v0.size : Int) ∧ (v0.size : Int) ≤ (v0.size : Int)) <|
 some (.inl (.inr (((v0.extract ((1 : Int)).toNat v0.size), v1, v2, v3))))
 )
 )
 )
 ) else (
 some (.inr (.inr (.inr (.inr (.inr (.inr ((v0, v1, v2, v3))))))))
 )
set_option maxRecDepth 100000 in
theorem optionTakerGroup2_t1 (k : Nat) (a a1 : ((ByteArray × ByteArray × (List ByteArray) × (List FlagD)) ⊕ (ByteArray × ByteArray × (List ByteArray) × (List FlagD)))) (h : optionTakerGroup2_b1 a = some (.inl a1)) : ∃ σ, run1 (k + 1) 115 2 55 optionTakerGroup2_L1 (optionTakerGroup2_S1 a) = some (.normal, σ) ∧ canonS 2 [0, 1] σ = some (optionTakerGroup2_S1 a1) := by
  rcases a with ⟨v0, v1, v2, v3⟩ | ⟨v0, v1, v2, v3⟩
  · unfold optionTakerGroup2_b1 at h
    try dsimp only at h
    rcases bif_some h with ⟨q1, h⟩ | ⟨q1, h⟩
    · obtain ⟨b_1, q2, h⟩ := bnd_some h
      obtain ⟨b_2, q3, h⟩ := bnd_some h
      obtain ⟨r_1, q4, h⟩ := bnd_some h
      rcases bif_some h with ⟨q5, h⟩ | ⟨q5, h⟩
      · cases h
      · rcases bif_some h with ⟨q6, h⟩ | ⟨q6, h⟩
        · obtain ⟨q7, h⟩ := grd_some h
          obtain ⟨q8, h⟩ := grd_some h
          rcases bif_some h with ⟨q9, h⟩ | ⟨q9, h⟩
          · rcases bif_some h with ⟨q10, h⟩ | ⟨q10, h⟩
            · cases h
            · obtain ⟨X_1, q11, h⟩ := bnd_some h
              rcases X_1 with ⟨r_2, r_3, r_4, r_5⟩
              · try dsimp only at h
                obtain ⟨q12, h⟩ := grd_some h
                obtain ⟨q13, h⟩ := grd_some h
                obtain rfl := Sum.inl.inj (Option.some.inj h)
                exact ⟨_, run_go (k := (k + 1)) (f := 115) (r0 := 2) (nt := 55) (c := optionTakerGroup2_L1) (σ := (optionTakerGroup2_S1 (.inl (v0, v1, v2, v3)))) (adv [([], 1, 1, .eq (pB true)), ([], 3, 1, .chr b_1), ([], 4, 5, .chr b_2), ([], 4, 6, .ret (pI r_1)), ([], 5, 1, .eq (pB false)), ([], 6, 1, .eq (pB true)), ([], 9, 1, .sub false), ([], 9, 3, .sub false), ([], 10, 2, .eq (pB true)), ([], 11, 4, .eq (pI (v2.length : Int))), ([], 11, 5, .eq (pB false)), ([], 13, 1, .retS (pS r_2) [some ⟨3, 143, [[(pS r_3), (.list 1 false (r_4.map cS)), (.row [1, TAG] 1 0 r_5.length)]], false, false⟩, some ⟨2, 154, (r_5.map FlagD.c), true, true⟩] [0, 0]), ([], 14, 7, .ok), ([], 2, 1, .sub false)]) (ex := .normal) (by kernel_rfl) (by kernel_rfl) (allC (cg q1) (allC q2 (allC q3 (allC (optionKind_ok k v1 (b_2.toNat : Int) _ q4) (allC (cg q5) (allC (cg q6) (allC q7 (allC q8 (allC (cg q9) (allC (len_ob (rfl : (v2.map cS) = v2.map cS)) (allC (cg q10) (allC (optionTakerNext2_ok k v1 v2 v3 _ q11) (allC (app_ok (rfl : (r_5.map FlagD.c) = r_5.map FlagD.c) (rfl : r_5.length = r_5.length) q12) (allC q13 allN)))))))))))))), (Eq.trans (b := some (optionTakerGroup2_R1_1 ((v0.extract 0 ((1 : Int)).toNat).extract ((1 : Int)).toNat (v0.extract 0 ((1 : Int)).toNat).size) r_3 (r_4.map cS) (r_5.length + 1) ((r_5.map FlagD.c) ++ [[(.v (.int .u8 (b_1.toNat : Int))), (pS r_2)]]))) (by kernel_rfl) (congrArg some ((optionTakerGroup2_R1_1_eq (rfl : ((v0.extract 0 ((1 : Int)).toNat).extract ((1 : Int)).toNat (v0.extract 0 ((1 : Int)).toNat).size) = ((v0.extract 0 ((1 : Int)).toNat).extract ((1 : Int)).toNat (v0.extract 0 ((1 : Int)).toNat).size)) (rfl : r_3 = r_3) (rfl : (r_4.map cS) = (r_4.map cS)) ((len_cat (rfl : r_5.length = r_5.length) r_5 (rfl : 1 = [(FlagD.mk (b_1.toNat : Int) r_2)].length)) : (r_5.length + 1) = ((r_5 ++ [(FlagD.mk (b_1.toNat : Int) r_2)]).length)) ((enc_cat (rfl : (r_5.map FlagD.c) = r_5.map FlagD.c) (show [[(.v (.int .u8 (b_1.toNat : Int))), (pS r_2)]] = [(FlagD.mk (b_1.toNat : Int) r_2)].map FlagD.c from rfl)) : ((r_5.map FlagD.c) ++ [[(.v (.int .u8 (b_1.toNat : Int))), (pS r_2)]]) = ((r_5 ++ [(FlagD.mk (b_1.toNat : Int) r_2)]).map FlagD.c))).trans (by kernel_rfl : optionTakerGroup2_R1_1 ((v0.extract 0 ((1 : Int)).toNat).extract ((1 : Int)).toNat (v0.extract 0 ((1 : Int)).toNat).size) r_3 (r_4.map cS) ((r_5 ++ [(FlagD.mk (b_1.toNat : Int) r_2)]).length) ((r_5 ++ [(FlagD.mk (b_1.toNat : Int) r_2)]).map FlagD.c) = optionTakerGroup2_S1 (.inr ((((v0.extract 0 ((1 : Int)).toNat).extract ((1 : Int)).toNat (v0.extract 0 ((1 : Int)).toNat).size), r_3, r_4, (r_5 ++ [(FlagD.mk (b_1.toNat : Int) r_2)]))))))))⟩
          · obtain ⟨q10, h⟩ := grd_some h
            obtain ⟨q11, h⟩ := grd_some h
            obtain rfl := Sum.inl.inj (Option.some.inj h)
            exact ⟨_, run_go (k := (k + 1)) (f := 115) (r0 := 2) (nt := 55) (c := optionTakerGroup2_L1) (σ := (optionTakerGroup2_S1 (.inl (v0, v1, v2, v3)))) (adv [([], 1, 1, .eq (pB true)), ([], 3, 1, .chr b_1), ([], 4, 5, .chr b_2), ([], 4, 6, .ret (pI r_1)), ([], 5, 1, .eq (pB false)), ([], 6, 1, .eq (pB true)), ([], 9, 1, .sub false), ([], 9, 3, .sub false), ([], 10, 2, .eq (pB false)), ([], 14, 7, .ok), ([], 2, 1, .sub false)]) (ex := .normal) (by kernel_rfl) (by kernel_rfl) (allC (cg q1) (allC q2 (allC q3 (allC (optionKind_ok k v1 (b_2.toNat : Int) _ q4) (allC (cg q5) (allC (cg q6) (allC q7 (allC q8 (allC (cg q9) (allC (app_ok (rfl : (v3.map FlagD.c) = v3.map FlagD.c) (rfl : v3.length = v3.length) q10) (allC q11 allN))))))))))), (Eq.trans (b := some (optionTakerGroup2_R1_1 ((v0.extract 0 ((1 : Int)).toNat).extract ((1 : Int)).toNat (v0.extract 0 ((1 : Int)).toNat).size) v1 (v2.map cS) (v3.length + 1) ((v3.map FlagD.c) ++ [[(.v (.int .u8 (b_1.toNat : Int))), (pS (v0.extract ((1 : Int)).toNat v0.size))]]))) (by kernel_rfl) (congrArg some ((optionTakerGroup2_R1_1_eq (rfl : ((v0.extract 0 ((1 : Int)).toNat).extract ((1 : Int)).toNat (v0.extract 0 ((1 : Int)).toNat).size) = ((v0.extract 0 ((1 : Int)).toNat).extract ((1 : Int)).toNat (v0.extract 0 ((1 : Int)).toNat).size)) (rfl : v1 = v1) (rfl : (v2.map cS) = (v2.map cS)) ((len_cat (rfl : v3.length = v3.length) v3 (rfl : 1 = [(FlagD.mk (b_1.toNat : Int) (v0.extract ((1 : Int)).toNat v0.size))].length)) : (v3.length + 1) = ((v3 ++ [(FlagD.mk (b_1.toNat : Int) (v0.extract ((1 : Int)).toNat v0.size))]).length)) ((enc_cat (rfl : (v3.map FlagD.c) = v3.map FlagD.c) (show [[(.v (.int .u8 (b_1.toNat : Int))), (pS (v0.extract ((1 : Int)).toNat v0.size))]] = [(FlagD.mk (b_1.toNat : Int) (v0.extract ((1 : Int)).toNat v0.size))].map FlagD.c from rfl)) : ((v3.map FlagD.c) ++ [[(.v (.int .u8 (b_1.toNat : Int))), (pS (v0.extract ((1 : Int)).toNat v0.size))]]) = ((v3 ++ [(FlagD.mk (b_1.toNat : Int) (v0.extract ((1 : Int)).toNat v0.size))]).map FlagD.c))).trans (by kernel_rfl : optionTakerGroup2_R1_1 ((v0.extract 0 ((1 : Int)).toNat).extract ((1 : Int)).toNat (v0.extract 0 ((1 : Int)).toNat).size) v1 (v2.map cS) ((v3 ++ [(FlagD.mk (b_1.toNat : Int) (v0.extract ((1 : Int)).toNat v0.size))]).length) ((v3 ++ [(FlagD.mk (b_1.toNat : Int) (v0.extract ((1 : Int)).toNat v0.size))]).map FlagD.c) = optionTakerGroup2_S1 (.inr ((((v0.extract 0 ((1 : Int)).toNat).extract ((1 : Int)).toNat (v0.extract 0 ((1 : Int)).toNat).size), v1, v2, (v3 ++ [(FlagD.mk (b_1.toNat : Int) (v0.extract ((1 : Int)).toNat v0.size))]))))))))⟩
        · rcases bif_some h with ⟨q7, h⟩ | ⟨q7, h⟩
          · obtain ⟨q8, h⟩ := grd_some h
            obtain ⟨q9, h⟩ := grd_some h
            obtain rfl := Sum.inl.inj (Option.some.inj h)
            exact ⟨_, run_go (k := (k + 1)) (f := 115) (r0 := 2) (nt := 55) (c := optionTakerGroup2_L1) (σ := (optionTakerGroup2_S1 (.inl (v0, v1, v2, v3)))) (adv [([], 1, 1, .eq (pB true)), ([], 3, 1, .chr b_1), ([], 4, 5, .chr b_2), ([], 4, 6, .ret (pI r_1)), ([], 5, 1, .eq (pB false)), ([], 6, 1, .eq (pB false)), ([], 7, 1, .eq (pB true)), ([], 14, 7, .ok), ([], 2, 1, .sub false)]) (ex := .normal) (by kernel_rfl) (by kernel_rfl) (allC (cg q1) (allC q2 (allC q3 (allC (optionKind_ok k v1 (b_2.toNat : Int) _ q4) (allC (cg q5) (allC (cg q6) (allC (cg q7) (allC (app_ok (rfl : (v3.map FlagD.c) = v3.map FlagD.c) (rfl : v3.length = v3.length) q8) (allC q9 allN))))))))), (Eq.trans (b := some (optionTakerGroup2_R1_1 (v0.extract ((1 : Int)).toNat v0.size) v1 (v2.map cS) (v3.length + 1) ((v3.map FlagD.c) ++ [[(.v (.int .u8 (b_1.toNat : Int))), (pS (bs []))]]))) (by kernel_rfl) (congrArg some ((optionTakerGroup2_R1_1_eq (rfl : (v0.extract ((1 : Int)).toNat v0.size) = (v0.extract ((1 : Int)).toNat v0.size)) (rfl : v1 = v1) (rfl : (v2.map cS) = (v2.map cS)) ((len_cat (rfl : v3.length = v3.length) v3 (rfl : 1 = ([(FlagD.mk (b_1.toNat : Int) (bs []))]).length)) : (v3.length + 1) = ((v3 ++ [(FlagD.mk (b_1.toNat : Int) (bs []))]).length)) ((enc_cat (rfl : (v3.map FlagD.c) = v3.map FlagD.c) (show [[(.v (.int .u8 (b_1.toNat : Int))), (pS (bs []))]] = ([(FlagD.mk (b_1.toNat : Int) (bs []))]).map FlagD.c from rfl)) : ((v3.map FlagD.c) ++ [[(.v (.int .u8 (b_1.toNat : Int))), (pS (bs []))]]) = ((v3 ++ [(FlagD.mk (b_1.toNat : Int) (bs []))]).map FlagD.c))).trans (by kernel_rfl : optionTakerGroup2_R1_1 (v0.extract ((1 : Int)).toNat v0.size) v1 (v2.map cS) ((v3 ++ [(FlagD.mk (b_1.toNat : Int) (bs []))]).length) ((v3 ++ [(FlagD.mk (b_1.toNat : Int) (bs []))]).map FlagD.c) = optionTakerGroup2_S1 (.inr (((v0.extract ((1 : Int)).toNat v0.size), v1, v2, (v3 ++ [(FlagD.mk (b_1.toNat : Int) (bs []))]))))))))⟩
          · obtain ⟨q8, h⟩ := grd_some h
            obtain rfl := Sum.inl.inj (Option.some.inj h)
            exact ⟨_, run_go (k := (k + 1)) (f := 115) (r0 := 2) (nt := 55) (c := optionTakerGroup2_L1) (σ := (optionTakerGroup2_S1 (.inl (v0, v1, v2, v3)))) (adv [([], 1, 1, .eq (pB true)), ([], 3, 1, .chr b_1), ([], 4, 5, .chr b_2), ([], 4, 6, .ret (pI r_1)), ([], 5, 1, .eq (pB false)), ([], 6, 1, .eq (pB false)), ([], 7, 1, .eq (pB false)), ([], 2, 1, .sub false)]) (ex := .normal) (by kernel_rfl) (by kernel_rfl) (allC (cg q1) (allC q2 (allC q3 (allC (optionKind_ok k v1 (b_2.toNat : Int) _ q4) (allC (cg q5) (allC (cg q6) (allC (cg q7) (allC q8 allN)))))))), (by kernel_rfl)⟩
    · cases h
  · unfold optionTakerGroup2_b1 at h
    try dsimp only at h
    rcases bif_some h with ⟨q1, h⟩ | ⟨q1, h⟩
    · obtain ⟨b_1, q2, h⟩ := bnd_some h
      obtain ⟨b_2, q3, h⟩ := bnd_some h
      obtain ⟨r_1, q4, h⟩ := bnd_some h
      rcases bif_some h with ⟨q5, h⟩ | ⟨q5, h⟩
      · cases h
      · rcases bif_some h with ⟨q6, h⟩ | ⟨q6, h⟩
        · obtain ⟨q7, h⟩ := grd_some h
          obtain ⟨q8, h⟩ := grd_some h
          rcases bif_some h with ⟨q9, h⟩ | ⟨q9, h⟩
          · rcases bif_some h with ⟨q10, h⟩ | ⟨q10, h⟩
            · cases h
            · obtain ⟨X_1, q11, h⟩ := bnd_some h
              rcases X_1 with ⟨r_2, r_3, r_4, r_5⟩
              · try dsimp only at h
                obtain ⟨q12, h⟩ := grd_some h
                obtain ⟨q13, h⟩ := grd_some h
                obtain rfl := Sum.inl.inj (Option.some.inj h)
                exact ⟨_, run_go (k := (k + 1)) (f := 115) (r0 := 2) (nt := 55) (c := optionTakerGroup2_L1) (σ := (optionTakerGroup2_S1 (.inr ((v0, v1, v2, v3))))) (adv [([], 1, 1, .eq (pB true)), ([], 3, 1, .chr b_1), ([], 4, 5, .chr b_2), ([], 4, 6, .ret (pI r_1)), ([], 5, 1, .eq (pB false)), ([], 6, 1, .eq (pB true)), ([], 9, 1, .sub false), ([], 9, 3, .sub false), ([], 10, 2, .eq (pB true)), ([], 11, 4, .eq (pI (v2.length : Int))), ([], 11, 5, .eq (pB false)), ([], 13, 1, .retS (pS r_2) [some ⟨3, 143, [[(pS r_3), (.list 1 false (r_4.map cS)), (.row [1, TAG] 1 0 r_5.length)]], false, false⟩, some ⟨2, 154, (r_5.map FlagD.c), true, true⟩] [0, 0]), ([], 14, 7, .ok), ([], 2, 1, .sub false)]) (ex := .normal) (by kernel_rfl) (by kernel_rfl) (allC (cg q1) (allC q2 (allC q3 (allC (optionKind_ok k v1 (b_2.toNat : Int) _ q4) (allC (cg q5) (allC (cg q6) (allC q7 (allC q8 (allC (cg q9) (allC (len_ob (rfl : (v2.map cS) = v2.map cS)) (allC (cg q10) (allC (optionTakerNext2_ok k v1 v2 v3 _ q11) (allC (app_ok (rfl : (r_5.map FlagD.c) = r_5.map FlagD.c) (rfl : r_5.length = r_5.length) q12) (allC q13 allN)))))))))))))), (Eq.trans (b := some (optionTakerGroup2_R1_1 ((v0.extract 0 ((1 : Int)).toNat).extract ((1 : Int)).toNat (v0.extract 0 ((1 : Int)).toNat).size) r_3 (r_4.map cS) (r_5.length + 1) ((r_5.map FlagD.c) ++ [[(.v (.int .u8 (b_1.toNat : Int))), (pS r_2)]]))) (by kernel_rfl) (congrArg some ((optionTakerGroup2_R1_1_eq (rfl : ((v0.extract 0 ((1 : Int)).toNat).extract ((1 : Int)).toNat (v0.extract 0 ((1 : Int)).toNat).size) = ((v0.extract 0 ((1 : Int)).toNat).extract ((1 : Int)).toNat (v0.extract 0 ((1 : Int)).toNat).size)) (rfl : r_3 = r_3) (rfl : (r_4.map cS) = (r_4.map cS)) ((len_cat (rfl : r_5.length = r_5.length) r_5 (rfl : 1 = [(FlagD.mk (b_1.toNat : Int) r_2)].length)) : (r_5.length + 1) = ((r_5 ++ [(FlagD.mk (b_1.toNat : Int) r_2)]).length)) ((enc_cat (rfl : (r_5.map FlagD.c) = r_5.map FlagD.c) (show [[(.v (.int .u8 (b_1.toNat : Int))), (pS r_2)]] = [(FlagD.mk (b_1.toNat : Int) r_2)].map FlagD.c from rfl)) : ((r_5.map FlagD.c) ++ [[(.v (.int .u8 (b_1.toNat : Int))), (pS r_2)]]) = ((r_5 ++ [(FlagD.mk (b_1.toNat : Int) r_2)]).map FlagD.c))).trans (by kernel_rfl : optionTakerGroup2_R1_1 ((v0.extract 0 ((1 : Int)).toNat).extract ((1 : Int)).toNat (v0.extract 0 ((1 : Int)).toNat).size) r_3 (r_4.map cS) ((r_5 ++ [(FlagD.mk (b_1.toNat : Int) r_2)]).length) ((r_5 ++ [(FlagD.mk (b_1.toNat : Int) r_2)]).map FlagD.c) = optionTakerGroup2_S1 (.inr ((((v0.extract 0 ((1 : Int)).toNat).extract ((1 : Int)).toNat (v0.extract 0 ((1 : Int)).toNat).size), r_3, r_4, (r_5 ++ [(FlagD.mk (b_1.toNat : Int) r_2)]))))))))⟩
          · obtain ⟨q10, h⟩ := grd_some h
            obtain ⟨q11, h⟩ := grd_some h
            obtain rfl := Sum.inl.inj (Option.some.inj h)
            exact ⟨_, run_go (k := (k + 1)) (f := 115) (r0 := 2) (nt := 55) (c := optionTakerGroup2_L1) (σ := (optionTakerGroup2_S1 (.inr ((v0, v1, v2, v3))))) (adv [([], 1, 1, .eq (pB true)), ([], 3, 1, .chr b_1), ([], 4, 5, .chr b_2), ([], 4, 6, .ret (pI r_1)), ([], 5, 1, .eq (pB false)), ([], 6, 1, .eq (pB true)), ([], 9, 1, .sub false), ([], 9, 3, .sub false), ([], 10, 2, .eq (pB false)), ([], 14, 7, .ok), ([], 2, 1, .sub false)]) (ex := .normal) (by kernel_rfl) (by kernel_rfl) (allC (cg q1) (allC q2 (allC q3 (allC (optionKind_ok k v1 (b_2.toNat : Int) _ q4) (allC (cg q5) (allC (cg q6) (allC q7 (allC q8 (allC (cg q9) (allC (app_ok (rfl : (v3.map FlagD.c) = v3.map FlagD.c) (rfl : v3.length = v3.length) q10) (allC q11 allN))))))))))), (Eq.trans (b := some (optionTakerGroup2_R1_1 ((v0.extract 0 ((1 : Int)).toNat).extract ((1 : Int)).toNat (v0.extract 0 ((1 : Int)).toNat).size) v1 (v2.map cS) (v3.length + 1) ((v3.map FlagD.c) ++ [[(.v (.int .u8 (b_1.toNat : Int))), (pS (v0.extract ((1 : Int)).toNat v0.size))]]))) (by kernel_rfl) (congrArg some ((optionTakerGroup2_R1_1_eq (rfl : ((v0.extract 0 ((1 : Int)).toNat).extract ((1 : Int)).toNat (v0.extract 0 ((1 : Int)).toNat).size) = ((v0.extract 0 ((1 : Int)).toNat).extract ((1 : Int)).toNat (v0.extract 0 ((1 : Int)).toNat).size)) (rfl : v1 = v1) (rfl : (v2.map cS) = (v2.map cS)) ((len_cat (rfl : v3.length = v3.length) v3 (rfl : 1 = [(FlagD.mk (b_1.toNat : Int) (v0.extract ((1 : Int)).toNat v0.size))].length)) : (v3.length + 1) = ((v3 ++ [(FlagD.mk (b_1.toNat : Int) (v0.extract ((1 : Int)).toNat v0.size))]).length)) ((enc_cat (rfl : (v3.map FlagD.c) = v3.map FlagD.c) (show [[(.v (.int .u8 (b_1.toNat : Int))), (pS (v0.extract ((1 : Int)).toNat v0.size))]] = [(FlagD.mk (b_1.toNat : Int) (v0.extract ((1 : Int)).toNat v0.size))].map FlagD.c from rfl)) : ((v3.map FlagD.c) ++ [[(.v (.int .u8 (b_1.toNat : Int))), (pS (v0.extract ((1 : Int)).toNat v0.size))]]) = ((v3 ++ [(FlagD.mk (b_1.toNat : Int) (v0.extract ((1 : Int)).toNat v0.size))]).map FlagD.c))).trans (by kernel_rfl : optionTakerGroup2_R1_1 ((v0.extract 0 ((1 : Int)).toNat).extract ((1 : Int)).toNat (v0.extract 0 ((1 : Int)).toNat).size) v1 (v2.map cS) ((v3 ++ [(FlagD.mk (b_1.toNat : Int) (v0.extract ((1 : Int)).toNat v0.size))]).length) ((v3 ++ [(FlagD.mk (b_1.toNat : Int) (v0.extract ((1 : Int)).toNat v0.size))]).map FlagD.c) = optionTakerGroup2_S1 (.inr ((((v0.extract 0 ((1 : Int)).toNat).extract ((1 : Int)).toNat (v0.extract 0 ((1 : Int)).toNat).size), v1, v2, (v3 ++ [(FlagD.mk (b_1.toNat : Int) (v0.extract ((1 : Int)).toNat v0.size))]))))))))⟩
        · rcases bif_some h with ⟨q7, h⟩ | ⟨q7, h⟩
          · obtain ⟨q8, h⟩ := grd_some h
            obtain ⟨q9, h⟩ := grd_some h
            obtain rfl := Sum.inl.inj (Option.some.inj h)
            exact ⟨_, run_go (k := (k + 1)) (f := 115) (r0 := 2) (nt := 55) (c := optionTakerGroup2_L1) (σ := (optionTakerGroup2_S1 (.inr ((v0, v1, v2, v3))))) (adv [([], 1, 1, .eq (pB true)), ([], 3, 1, .chr b_1), ([], 4, 5, .chr b_2), ([], 4, 6, .ret (pI r_1)), ([], 5, 1, .eq (pB false)), ([], 6, 1, .eq (pB false)), ([], 7, 1, .eq (pB true)), ([], 14, 7, .ok), ([], 2, 1, .sub false)]) (ex := .normal) (by kernel_rfl) (by kernel_rfl) (allC (cg q1) (allC q2 (allC q3 (allC (optionKind_ok k v1 (b_2.toNat : Int) _ q4) (allC (cg q5) (allC (cg q6) (allC (cg q7) (allC (app_ok (rfl : (v3.map FlagD.c) = v3.map FlagD.c) (rfl : v3.length = v3.length) q8) (allC q9 allN))))))))), (Eq.trans (b := some (optionTakerGroup2_R1_1 (v0.extract ((1 : Int)).toNat v0.size) v1 (v2.map cS) (v3.length + 1) ((v3.map FlagD.c) ++ [[(.v (.int .u8 (b_1.toNat : Int))), (pS (bs []))]]))) (by kernel_rfl) (congrArg some ((optionTakerGroup2_R1_1_eq (rfl : (v0.extract ((1 : Int)).toNat v0.size) = (v0.extract ((1 : Int)).toNat v0.size)) (rfl : v1 = v1) (rfl : (v2.map cS) = (v2.map cS)) ((len_cat (rfl : v3.length = v3.length) v3 (rfl : 1 = ([(FlagD.mk (b_1.toNat : Int) (bs []))]).length)) : (v3.length + 1) = ((v3 ++ [(FlagD.mk (b_1.toNat : Int) (bs []))]).length)) ((enc_cat (rfl : (v3.map FlagD.c) = v3.map FlagD.c) (show [[(.v (.int .u8 (b_1.toNat : Int))), (pS (bs []))]] = ([(FlagD.mk (b_1.toNat : Int) (bs []))]).map FlagD.c from rfl)) : ((v3.map FlagD.c) ++ [[(.v (.int .u8 (b_1.toNat : Int))), (pS (bs []))]]) = ((v3 ++ [(FlagD.mk (b_1.toNat : Int) (bs []))]).map FlagD.c))).trans (by kernel_rfl : optionTakerGroup2_R1_1 (v0.extract ((1 : Int)).toNat v0.size) v1 (v2.map cS) ((v3 ++ [(FlagD.mk (b_1.toNat : Int) (bs []))]).length) ((v3 ++ [(FlagD.mk (b_1.toNat : Int) (bs []))]).map FlagD.c) = optionTakerGroup2_S1 (.inr (((v0.extract ((1 : Int)).toNat v0.size), v1, v2, (v3 ++ [(FlagD.mk (b_1.toNat : Int) (bs []))]))))))))⟩
          · obtain ⟨q8, h⟩ := grd_some h
            obtain rfl := Sum.inl.inj (Option.some.inj h)
            exact ⟨_, run_go (k := (k + 1)) (f := 115) (r0 := 2) (nt := 55) (c := optionTakerGroup2_L1) (σ := (optionTakerGroup2_S1 (.inr ((v0, v1, v2, v3))))) (adv [([], 1, 1, .eq (pB true)), ([], 3, 1, .chr b_1), ([], 4, 5, .chr b_2), ([], 4, 6, .ret (pI r_1)), ([], 5, 1, .eq (pB false)), ([], 6, 1, .eq (pB false)), ([], 7, 1, .eq (pB false)), ([], 2, 1, .sub false)]) (ex := .normal) (by kernel_rfl) (by kernel_rfl) (allC (cg q1) (allC q2 (allC q3 (allC (optionKind_ok k v1 (b_2.toNat : Int) _ q4) (allC (cg q5) (allC (cg q6) (allC (cg q7) (allC q8 allN)))))))), (by kernel_rfl)⟩
    · cases h
def optionTakerGroup2 (p0 : ByteArray) (p1 : ByteArray) (p2 : (List ByteArray)) (p3 : (List FlagD)) : Option ((ByteArray × (List ByteArray) × (List FlagD)) ⊕ (ByteArray × (List ByteArray) × (List FlagD)) ⊕ (ByteArray × (List ByteArray) × (List FlagD)) ⊕ (ByteArray × (List ByteArray) × (List FlagD)) ⊕ (ByteArray × (List ByteArray) × (List FlagD)) ⊕ (ByteArray × (List ByteArray) × (List FlagD))) :=
 (iterN (optionTakerGroup2_b1) LF (.inl (p0, p1, p2, p3))).bind fun X_1 => match X_1 with
 | .inl (v_1, v_2, v_3, v_4, b_1, b_2, r_1) => (
 some (.inl (v_2, v_3, v_4))
 )
 | .inr (.inl (v_1, v_2, v_3, v_4, b_1, b_2, r_1)) => (
 some (.inr (.inl (v_2, v_3, v_4)))
 )
 | .inr (.inr (.inl (v_1, v_2, v_3, v_4))) => (
 some (.inr (.inr (.inl (v_2, v_3, v_4))))
 )
 | .inr (.inr (.inr (.inl (v_5, v_6, v_7, v_8, b_1, b_2, r_1)))) => (
 some (.inr (.inr (.inr (.inl (v_6, v_7, v_8)))))
 )
 | .inr (.inr (.inr (.inr (.inl (v_5, v_6, v_7, v_8, b_1, b_2, r_1))))) => (
 some (.inr (.inr (.inr (.inr (.inl (v_6, v_7, v_8))))))
 )
 | .inr (.inr (.inr (.inr (.inr ((v_5, v_6, v_7, v_8)))))) => (
 some (.inr (.inr (.inr (.inr (.inr ((v_6, v_7, v_8)))))))
 )
def optionTakerGroup2_out : ((ByteArray × (List ByteArray) × (List FlagD)) ⊕ (ByteArray × (List ByteArray) × (List FlagD)) ⊕ (ByteArray × (List ByteArray) × (List FlagD)) ⊕ (ByteArray × (List ByteArray) × (List FlagD)) ⊕ (ByteArray × (List ByteArray) × (List FlagD)) ⊕ (ByteArray × (List ByteArray) × (List FlagD))) → PV × List (Option Blk) × List Nat
 | .inl (r0, r1, r2) => ((.ifc 403 (.far 0)), [some ⟨3, 143, [[(pS r0), (.list 1 false (r1.map cS)), (.row [1, TAG] 1 0 r2.length)]], false, false⟩, some ⟨2, 154, (r2.map FlagD.c), true, true⟩], [0, 0])
 | .inr (.inl (r0, r1, r2)) => ((.ifc 403 (.far 1)), [some ⟨3, 143, [[(pS r0), (.list 1 false (r1.map cS)), (.row [1, TAG] 1 0 r2.length)]], false, false⟩, some ⟨2, 154, (r2.map FlagD.c), true, true⟩], [0, 0])
 | .inr (.inr (.inl (r0, r1, r2))) => ((.v .nilIface), [some ⟨3, 143, [[(pS r0), (.list 1 false (r1.map cS)), (.row [1, TAG] 1 0 r2.length)]], false, false⟩, some ⟨2, 154, (r2.map FlagD.c), true, true⟩], [0, 0])
 | .inr (.inr (.inr (.inl (r0, r1, r2)))) => ((.ifc 403 (.far 0)), [some ⟨3, 143, [[(pS r0), (.list 1 false (r1.map cS)), (.row [2, TAG] 1 0 r2.length)]], false, false⟩, none, some ⟨2, 154, (r2.map FlagD.c), true, true⟩], [0, 0, 0])
 | .inr (.inr (.inr (.inr (.inl (r0, r1, r2))))) => ((.ifc 403 (.far 1)), [some ⟨3, 143, [[(pS r0), (.list 1 false (r1.map cS)), (.row [2, TAG] 1 0 r2.length)]], false, false⟩, none, some ⟨2, 154, (r2.map FlagD.c), true, true⟩], [0, 0, 0])
 | .inr (.inr (.inr (.inr (.inr ((r0, r1, r2)))))) => ((.v .nilIface), [some ⟨3, 143, [[(pS r0), (.list 1 false (r1.map cS)), (.row [2, TAG] 1 0 r2.length)]], false, false⟩, none, some ⟨2, 154, (r2.map FlagD.c), true, true⟩], [0, 0, 0])
set_option maxRecDepth 100000 in
theorem optionTakerGroup2_ok (k : Nat) (p0 : ByteArray) (p1 : ByteArray) (p2 : (List ByteArray)) (p3 : (List FlagD)) (r : ((ByteArray × (List ByteArray) × (List FlagD)) ⊕ (ByteArray × (List ByteArray) × (List FlagD)) ⊕ (ByteArray × (List ByteArray) × (List FlagD)) ⊕ (ByteArray × (List ByteArray) × (List FlagD)) ⊕ (ByteArray × (List ByteArray) × (List FlagD)) ⊕ (ByteArray × (List ByteArray) × (List FlagD)))) (h : optionTakerGroup2 p0 p1 p2 p3 = some r) : runS0 (k + 2) 115 [(.ptr [0, TAG] 1 0 0), (pS p0)] [some ⟨3, 143, [[(pS p1), (.list 1 false (p2.map cS)), (.row [1, TAG] 1 0 p3.length)]], false, false⟩, some ⟨2, 154, (p3.map FlagD.c), true, true⟩] [0, 0] = some (optionTakerGroup2_out r) := by
  unfold optionTakerGroup2 at h
  obtain ⟨X_1, q1, h⟩ := bnd_some h
  obtain ⟨a_1, q2, q3⟩ := loop_iter (f := run1 (k + 1) 115 2 55 optionTakerGroup2_L1) (optionTakerGroup2_S1) (optionTakerGroup2_b1) (optionTakerGroup2_t1 k) LF (.inl (p0, p1, p2, p3)) _ (stOf (goStop (k + 1) 115 2 55 (adv []) 1 (codeOf Tryz.f115) (argB 115 [(.ptr [0, TAG] 1 0 0), (pS p0)] [some ⟨3, 143, [[(pS p1), (.list 1 false (p2.map cS)), (.row [1, TAG] 1 0 p3.length)]], false, false⟩, some ⟨2, 154, (p3.map FlagD.c), true, true⟩] [0, 0]))) q1 (by kernel_rfl)
  rcases a_1 with ⟨v_1, v_2, v_3, v_4⟩ | ⟨v_5, v_6, v_7, v_8⟩
  · unfold optionTakerGroup2_b1 at q2
    try dsimp only at q2
    rcases bif_some q2 with ⟨q6, q2⟩ | ⟨q6, q2⟩
    · obtain ⟨b_1, q7, q2⟩ := bnd_some q2
      obtain ⟨b_2, q8, q2⟩ := bnd_some q2
      obtain ⟨r_1, q9, q2⟩ := bnd_some q2
      rcases bif_some q2 with ⟨q10, q2⟩ | ⟨q10, q2⟩
      · cases q2
        try dsimp only at h
        have q4 := run_go (k := (k + 1)) (f := 115) (r0 := 2) (nt := 55) (c := optionTakerGroup2_L1) (σ := (optionTakerGroup2_S1 (.inl (v_1, v_2, v_3, v_4)))) (adv [([], 1, 1, .eq (pB true)), ([], 3, 1, .chr b_1), ([], 4, 5, .chr b_2), ([], 4, 6, .ret (pI r_1)), ([], 5, 1, .eq (pB true))]) (ex := .ret) (by kernel_rfl) (by kernel_rfl) (allC (cg q6) (allC q7 (allC q8 (allC (optionKind_ok k v_2 (b_2.toNat : Int) _ q9) (allC (cg q10) allN)))))
        have q5 := q3 _ _ (by intro e; cases e) q4
        obtain rfl := Option.some.inj h
        exact retS_go (k := (k + 1)) (n := 2) Tryz.func115 Tryz.ntmps115 rfl (by kernel_rfl) (by kernel_rfl) (lb rfl) (adv [] [([], 1, .ret, (stOf (go (k + 1) 115 2 55 (adv [([], 1, 1, .eq (pB true)), ([], 3, 1, .chr b_1), ([], 4, 5, .chr b_2), ([], 4, 6, .ret (pI r_1)), ([], 5, 1, .eq (pB true))]) optionTakerGroup2_L1 (optionTakerGroup2_S1 (.inl (v_1, v_2, v_3, v_4))))))]) (ex := .ret) (r := ((.ifc 403 (.far 0)), [some ⟨3, 143, [[(pS v_2), (.list 1 false (v_3.map cS)), (.row [1, TAG] 1 0 v_4.length)]], false, false⟩, some ⟨2, 154, (v_4.map FlagD.c), true, true⟩], [0, 0])) (by kernel_rfl) rfl (by kernel_rfl) (allC q5 allN) (by kernel_rfl)
      · rcases bif_some q2 with ⟨q11, q2⟩ | ⟨q11, q2⟩
        · obtain ⟨q12, q2⟩ := grd_some q2
          obtain ⟨q13, q2⟩ := grd_some q2
          rcases bif_some q2 with ⟨q14, q2⟩ | ⟨q14, q2⟩
          · rcases bif_some q2 with ⟨q15, q2⟩ | ⟨q15, q2⟩
            · cases q2
              try dsimp only at h
              have q4 := run_go (k := (k + 1)) (f := 115) (r0 := 2) (nt := 55) (c := optionTakerGroup2_L1) (σ := (optionTakerGroup2_S1 (.inl (v_1, v_2, v_3, v_4)))) (adv [([], 1, 1, .eq (pB true)), ([], 3, 1, .chr b_1), ([], 4, 5, .chr b_2), ([], 4, 6, .ret (pI r_1)), ([], 5, 1, .eq (pB false)), ([], 6, 1, .eq (pB true)), ([], 9, 1, .sub false), ([], 9, 3, .sub false), ([], 10, 2, .eq (pB true)), ([], 11, 4, .eq (pI (v_3.length : Int))), ([], 11, 5, .eq (pB true))]) (ex := .ret) (by kernel_rfl) (by kernel_rfl) (allC (cg q6) (allC q7 (allC q8 (allC (optionKind_ok k v_2 (b_2.toNat : Int) _ q9) (allC (cg q10) (allC (cg q11) (allC q12 (allC q13 (allC (cg q14) (allC (len_ob (rfl : (v_3.map cS) = v_3.map cS)) (allC (cg q15) allN)))))))))))
              have q5 := q3 _ _ (by intro e; cases e) q4
              obtain rfl := Option.some.inj h
              exact retS_go (k := (k + 1)) (n := 2) Tryz.func115 Tryz.ntmps115 rfl (by kernel_rfl) (by kernel_rfl) (lb rfl) (adv [] [([], 1, .ret, (stOf (go (k + 1) 115 2 55 (adv [([], 1, 1, .eq (pB true)), ([], 3, 1, .chr b_1), ([], 4, 5, .chr b_2), ([], 4, 6, .ret (pI r_1)), ([], 5, 1, .eq (pB false)), ([], 6, 1, .eq (pB true)), ([], 9, 1, .sub false), ([], 9, 3, .sub false), ([], 10, 2, .eq (pB true)), ([], 11, 4, .eq (pI (v_3.length : Int))), ([], 11, 5, .eq (pB true))]) optionTakerGroup2_L1 (optionTakerGroup2_S1 (.inl (v_1, v_2, v_3, v_4))))))]) (ex := .ret) (r := ((.ifc 403 (.far 1)), [some ⟨3, 143, [[(pS v_2), (.list 1 false (v_3.map cS)), (.row [1, TAG] 1 0 v_4.length)]], false, false⟩, some ⟨2, 154, (v_4.map FlagD.c), true, true⟩], [0, 0])) (by kernel_rfl) rfl (by kernel_rfl) (allC q5 allN) (by kernel_rfl)
            · obtain ⟨X_2, q16, q2⟩ := bnd_some q2
              rcases X_2 with ⟨r_2, r_3, r_4, r_5⟩
              · try dsimp only at q2
                obtain ⟨q17, q2⟩ := grd_some q2
                obtain ⟨q18, q2⟩ := grd_some q2
                cases q2
          · obtain ⟨q15, q2⟩ := grd_some q2
            obtain ⟨q16, q2⟩ := grd_some q2
            cases q2
        · rcases bif_some q2 with ⟨q12, q2⟩ | ⟨q12, q2⟩
          · obtain ⟨q13, q2⟩ := grd_some q2
            obtain ⟨q14, q2⟩ := grd_some q2
            cases q2
          · obtain ⟨q13, q2⟩ := grd_some q2
            cases q2
    · cases q2
      try dsimp only at h
      have q4 := run_go (k := (k + 1)) (f := 115) (r0 := 2) (nt := 55) (c := optionTakerGroup2_L1) (σ := (optionTakerGroup2_S1 (.inl (v_1, v_2, v_3, v_4)))) (adv [([], 1, 1, .eq (pB false))]) (ex := (.exit 0)) (by kernel_rfl) (by kernel_rfl) (allC (cg q6) allN)
      have q5 := q3 _ _ (by intro e; cases e) q4
      obtain rfl := Option.some.inj h
      exact retS_go (k := (k + 1)) (n := 2) Tryz.func115 Tryz.ntmps115 rfl (by kernel_rfl) (by kernel_rfl) (lb rfl) (adv [] [([], 1, (.exit 0), (stOf (go (k + 1) 115 2 55 (adv [([], 1, 1, .eq (pB false))]) optionTakerGroup2_L1 (optionTakerGroup2_S1 (.inl (v_1, v_2, v_3, v_4))))))]) (ex := .ret) (r := ((.v .nilIface), [some ⟨3, 143, [[(pS v_2), (.list 1 false (v_3.map cS)), (.row [1, TAG] 1 0 v_4.length)]], false, false⟩, some ⟨2, 154, (v_4.map FlagD.c), true, true⟩], [0, 0])) (by kernel_rfl) rfl (by kernel_rfl) (allC q5 allN) (by kernel_rfl)
  · unfold optionTakerGroup2_b1 at q2
    try dsimp only at q2
    rcases bif_some q2 with ⟨q6, q2⟩ | ⟨q6, q2⟩
    · obtain ⟨b_1, q7, q2⟩ := bnd_some q2
      obtain ⟨b_2, q8, q2⟩ := bnd_some q2
      obtain ⟨r_1, q9, q2⟩ := bnd_some q2
      rcases bif_some q2 with ⟨q10, q2⟩ | ⟨q10, q2⟩
      · cases q2
        try dsimp only at h
        have q4 := run_go (k := (k + 1)) (f := 115) (r0 := 2) (nt := 55) (c := optionTakerGroup2_L1) (σ := (optionTakerGroup2_S1 (.inr ((v_5, v_6, v_7, v_8))))) (adv [([], 1, 1, .eq (pB true)), ([], 3, 1, .chr b_1), ([], 4, 5, .chr b_2), ([], 4, 6, .ret (pI r_1)), ([], 5, 1, .eq (pB true))]) (ex := .ret) (by kernel_rfl) (by kernel_rfl) (allC (cg q6) (allC q7 (allC q8 (allC (optionKind_ok k v_6 (b_2.toNat : Int) _ q9) (allC (cg q10) allN)))))
        have q5 := q3 _ _ (by intro e; cases e) q4
        obtain rfl := Option.some.inj h
        exact retS_go (k := (k + 1)) (n := 2) Tryz.func115 Tryz.ntmps115 rfl (by kernel_rfl) (by kernel_rfl) (lb rfl) (adv [] [([], 1, .ret, (stOf (go (k + 1) 115 2 55 (adv [([], 1, 1, .eq (pB true)), ([], 3, 1, .chr b_1), ([], 4, 5, .chr b_2), ([], 4, 6, .ret (pI r_1)), ([], 5, 1, .eq (pB true))]) optionTakerGroup2_L1 (optionTakerGroup2_S1 (.inr ((v_5, v_6, v_7, v_8)))))))]) (ex := .ret) (r := ((.ifc 403 (.far 0)), [some ⟨3, 143, [[(pS v_6), (.list 1 false (v_7.map cS)), (.row [2, TAG] 1 0 v_8.length)]], false, false⟩, none, some ⟨2, 154, (v_8.map FlagD.c), true, true⟩], [0, 0, 0])) (by kernel_rfl) rfl (by kernel_rfl) (allC q5 allN) (by kernel_rfl)
      · rcases bif_some q2 with ⟨q11, q2⟩ | ⟨q11, q2⟩
        · obtain ⟨q12, q2⟩ := grd_some q2
          obtain ⟨q13, q2⟩ := grd_some q2
          rcases bif_some q2 with ⟨q14, q2⟩ | ⟨q14, q2⟩
          · rcases bif_some q2 with ⟨q15, q2⟩ | ⟨q15, q2⟩
            · cases q2
              try dsimp only at h
              have q4 := run_go (k := (k + 1)) (f := 115) (r0 := 2) (nt := 55) (c := optionTakerGroup2_L1) (σ := (optionTakerGroup2_S1 (.inr ((v_5, v_6, v_7, v_8))))) (adv [([], 1, 1, .eq (pB true)), ([], 3, 1, .chr b_1), ([], 4, 5, .chr b_2), ([], 4, 6, .ret (pI r_1)), ([], 5, 1, .eq (pB false)), ([], 6, 1, .eq (pB true)), ([], 9, 1, .sub false), ([], 9, 3, .sub false), ([], 10, 2, .eq (pB true)), ([], 11, 4, .eq (pI (v_7.length : Int))), ([], 11, 5, .eq (pB true))]) (ex := .ret) (by kernel_rfl) (by kernel_rfl) (allC (cg q6) (allC q7 (allC q8 (allC (optionKind_ok k v_6 (b_2.toNat : Int) _ q9) (allC (cg q10) (allC (cg q11) (allC q12 (allC q13 (allC (cg q14) (allC (len_ob (rfl : (v_7.map cS) = v_7.map cS)) (allC (cg q15) allN)))))))))))
              have q5 := q3 _ _ (by intro e; cases e) q4
              obtain rfl := Option.some.inj h
              exact retS_go (k := (k + 1)) (n := 2) Tryz.func115 Tryz.ntmps115 rfl (by kernel_rfl) (by kernel_rfl) (lb rfl) (adv [] [([], 1, .ret, (stOf (go (k + 1) 115 2 55 (adv [([], 1, 1, .eq (pB true)), ([], 3, 1, .chr b_1), ([], 4, 5, .chr b_2), ([], 4, 6, .ret (pI r_1)), ([], 5, 1, .eq (pB false)), ([], 6, 1, .eq (pB true)), ([], 9, 1, .sub false), ([], 9, 3, .sub false), ([], 10, 2, .eq (pB true)), ([], 11, 4, .eq (pI (v_7.length : Int))), ([], 11, 5, .eq (pB true))]) optionTakerGroup2_L1 (optionTakerGroup2_S1 (.inr ((v_5, v_6, v_7, v_8)))))))]) (ex := .ret) (r := ((.ifc 403 (.far 1)), [some ⟨3, 143, [[(pS v_6), (.list 1 false (v_7.map cS)), (.row [2, TAG] 1 0 v_8.length)]], false, false⟩, none, some ⟨2, 154, (v_8.map FlagD.c), true, true⟩], [0, 0, 0])) (by kernel_rfl) rfl (by kernel_rfl) (allC q5 allN) (by kernel_rfl)
            · obtain ⟨X_2, q16, q2⟩ := bnd_some q2
              rcases X_2 with ⟨r_2, r_3, r_4, r_5⟩
              · try dsimp only at q2
                obtain ⟨q17, q2⟩ := grd_some q2
                obtain ⟨q18, q2⟩ := grd_some q2
                cases q2
          · obtain ⟨q15, q2⟩ := grd_some q2
            obtain ⟨q16, q2⟩ := grd_some q2
            cases q2
        · rcases bif_some q2 with ⟨q12, q2⟩ | ⟨q12, q2⟩
          · obtain ⟨q13, q2⟩ := grd_some q2
            obtain ⟨q14, q2⟩ := grd_some q2
            cases q2
          · obtain ⟨q13, q2⟩ := grd_some q2
            cases q2
    · cases q2
      try dsimp only at h
      have q4 := run_go (k := (k + 1)) (f := 115) (r0 := 2) (nt := 55) (c := optionTakerGroup2_L1) (σ := (optionTakerGroup2_S1 (.inr ((v_5, v_6, v_7, v_8))))) (adv [([], 1, 1, .eq (pB false))]) (ex := (.exit 0)) (by kernel_rfl) (by kernel_rfl) (allC (cg q6) allN)
      have q5 := q3 _ _ (by intro e; cases e) q4
      obtain rfl := Option.some.inj h
      exact retS_go (k := (k + 1)) (n := 2) Tryz.func115 Tryz.ntmps115 rfl (by kernel_rfl) (by kernel_rfl) (lb rfl) (adv [] [([], 1, (.exit 0), (stOf (go (k + 1) 115 2 55 (adv [([], 1, 1, .eq (pB false))]) optionTakerGroup2_L1 (optionTakerGroup2_S1 (.inr ((v_5, v_6, v_7, v_8)))))))]) (ex := .ret) (r := ((.v .nilIface), [some ⟨3, 143, [[(pS v_6), (.list 1 false (v_7.map cS)), (.row [2, TAG] 1 0 v_8.length)]], false, false⟩, none, some ⟨2, 154, (v_8.map FlagD.c), true, true⟩], [0, 0, 0])) (by kernel_rfl) rfl (by kernel_rfl) (allC q5 allN) (by kernel_rfl)
end Go.Proofs.YtdbekeidlppfiaaGreatDoor.Den
namespace Go.Proofs.YtdbekeidlppfiaaGreatDoor.Den
open Go Go.RowKit
noncomputable def optionTakerAll_L1 : Code := cAt (codeOf Tryz.f67) [true, false, false, false]
def optionTakerAll_R1_0 (x0 : ByteArray) (x1 : List (List PV)) : St := ⟨envL [(0, (.ptr [0, TAG] 1 0 0))], hsL [some ⟨3, 143, [[(pS x0), (.list 1 false x1), (.v (.slice none 0 0))]], true, false⟩] [0]⟩
def optionTakerAll_R1_1 (x0 : ByteArray) (x1 : List (List PV)) (x2 : Nat) (x3 : List (List PV)) : St := ⟨envL [(0, (.ptr [0, TAG] 1 0 0))], hsL [some ⟨3, 143, [[(pS x0), (.list 1 false x1), (.row [1, TAG] 1 0 x2)]], false, false⟩, some ⟨2, 154, x3, true, true⟩] [0, 0]⟩
def optionTakerAll_S1 : ((ByteArray × (List ByteArray)) ⊕ (ByteArray × (List ByteArray) × (List FlagD))) → St
 | .inl (v0, v1) => optionTakerAll_R1_0 v0 (v1.map cS)
 | .inr ((v0, v1, v2)) => optionTakerAll_R1_1 v0 (v1.map cS) v2.length (v2.map FlagD.c)
def optionTakerAll_b1 : ((ByteArray × (List ByteArray)) ⊕ (ByteArray × (List ByteArray) × (List FlagD))) → Option (((ByteArray × (List ByteArray)) ⊕ (ByteArray × (List ByteArray) × (List FlagD))) ⊕ ((ByteArray × (List ByteArray) × ByteArray × ByteArray × Bool) ⊕ (ByteArray × (List ByteArray) × ByteArray × ByteArray × Bool) ⊕ (ByteArray × (List ByteArray) × ByteArray × ByteArray × Bool × ByteArray × ByteArray × (List ByteArray)) ⊕ (ByteArray × (List ByteArray) × ByteArray × ByteArray × Bool × ByteArray × ByteArray × (List ByteArray) × ByteArray × (List ByteArray)) ⊕ (ByteArray × (List ByteArray) × ByteArray × ByteArray × Bool × ByteArray × ByteArray × (List ByteArray) × ByteArray × (List ByteArray)) ⊕ (ByteArray × (List ByteArray) × ByteArray × ByteArray × Bool × ByteArray × ByteArray × (List ByteArray) × ByteArray × (List ByteArray) × (List FlagD)) ⊕ (ByteArray × (List ByteArray) × ByteArray × ByteArray × Bool × ByteArray × ByteArray × (List ByteArray) × ByteArray × (List ByteArray) × (List FlagD)) ⊕ (ByteArray × (List ByteArray)) ⊕ (ByteArray × (List ByteArray) × (List FlagD) × ByteArray × ByteArray × Bool) ⊕ (ByteArray × (List ByteArray) × (List FlagD) × ByteArray × ByteArray × Bool) ⊕ (ByteArray × (List ByteArray) × (List FlagD) × ByteArray × ByteArray × Bool × ByteArray × ByteArray × (List ByteArray) × (List FlagD)) ⊕ (ByteArray × (List ByteArray) × (List FlagD) × ByteArray × ByteArray × Bool × ByteArray × ByteArray × (List ByteArray) × (List FlagD) × ByteArray × (List ByteArray) × (List FlagD)) ⊕ (ByteArray × (List ByteArray) × (List FlagD) × ByteArray × ByteArray × Bool × ByteArray × ByteArray × (List ByteArray) × (List FlagD) × ByteArray × (List ByteArray) × (List FlagD)) ⊕ (ByteArray × (List ByteArray) × (List FlagD) × ByteArray × ByteArray × Bool × ByteArray × ByteArray × (List ByteArray) × (List FlagD) × ByteArray × (List ByteArray) × (List FlagD)) ⊕ (ByteArray × (List ByteArray) × (List FlagD) × ByteArray × ByteArray × Bool × ByteArray × ByteArray × (List ByteArray) × (List FlagD) × ByteArray × (List ByteArray) × (List FlagD)) ⊕ (ByteArray × (List ByteArray) × (List FlagD))))
 | .inl (v0, v1) =>
 bif (decide ((v1.length : Int) > (0 : Int))) then (
 (gt v1 (0 : Int)).bind fun y_1 =>
 (stringsCutPrefix y_1 (bs [45])).bind fun (r_1, r_2) =>
 bif (!r_2) then (
 some (.inr (.inl (v0, v1, y_1, r_1, r_2)))
 ) else (
 bif (seq r_1 (bs [])) then (
 some (.inr (.inr (.inl (v0, v1, y_1, r_1, r_2))))
 ) else (
 (optionTakerNext v0 v1).bind fun (r_3, r_4, r_5) =>
 bif (seq r_1 (bs [45])) then (
 some (.inr (.inr (.inr (.inl (v0, v1, y_1, r_1, r_2, r_3, r_4, r_5)))))
 ) else (
 (optionTakerGroup r_1 r_4 r_5).bind fun X_2 => match X_2 with
 | .inl (r_6, r_7) => (
 some (.inr (.inr (.inr (.inr (.inl (v0, v1, y_1, r_1, r_2, r_3, r_4, r_5, r_6, r_7))))))
 )
 | .inr (.inl (r_8, r_9)) => (
 some (.inr (.inr (.inr (.inr (.inr (.inl (v0, v1, y_1, r_1, r_2, r_3, r_4, r_5, r_8, r_9)))))))
 )
 | .inr (.inr (.inl (r_10, r_11))) => (
 some (.inl (.inl (r_10, r_11)))
 )
 | .inr (.inr (.inr (.inl (r_12, r_13, r_14)))) => (
 some (.inr (.inr (.inr (.inr (.inr (.inr (.inl (v0, v1, y_1, r_1, r_2, r_3, r_4, r_5, r_12, r_13, r_14))))))))
 )
 | .inr (.inr (.inr (.inr (.inl (r_15, r_16, r_17))))) => (
 some (.inr (.inr (.inr (.inr (.inr (.inr (.inr (.inl (v0, v1, y_1, r_1, r_2, r_3, r_4, r_5, r_15, r_16, r_17)))))))))
 )
 | .inr (.inr (.inr (.inr (.inr ((r_18, r_19, r_20)))))) => (
 some (.inl (.inr ((r_18, r_19, r_20))))
 )
 )
 )
 )
 ) else (
 some (.inr (.inr (.inr (.inr (.inr (.inr (.inr (.inr (.inl (v0, v1))))))))))
 )
 | .inr ((v0, v1, v2)) =>
 bif (decide ((v1.length : Int) > (0 : Int))) then (
 (gt v1 (0 : Int)).bind fun y_1 =>
 (stringsCutPrefix y_1 (bs [45])).bind fun (r_1, r_2) =>
 bif (!r_2) then (
 some (.inr (.inr (.inr (.inr (.inr (.inr (.inr (.inr (.inr (.inl (v0, v1, v2, y_1, r_1, r_2)))))))))))
 ) else (
 bif (seq r_1 (bs [])) then (
 some (.inr (.inr (.inr (.inr (.inr (.inr (.inr (.inr (.inr (.inr (.inl (v0, v1, v2, y_1, r_1, r_2))))))))))))
 ) else (
 (optionTakerNext2 v0 v1 v2).bind fun (r_3, r_4, r_5, r_6) =>
 bif (seq r_1 (bs [45])) then (
 some (.inr (.inr (.inr (.inr (.inr (.inr (.inr (.inr (.inr (.inr (.inr (.inl (v0, v1, v2, y_1, r_1, r_2, r_3, r_4, r_5, r_6)))))))))))))
 ) else (
 (optionTakerGroup2 r_1 r_4 r_5 r_6).bind fun X_2 => match X_2 with
 | .inl (r_7, r_8, r_9) => (
 some (.inr (.inr (.inr (.inr (.inr (.inr (.inr (.inr (.inr (.inr (.inr (.inr (.inl (v0, v1, v2, y_1, r_1, r_2, r_3, r_4, r_5, r_6, r_7, r_8, r_9))))))))))))))
 )
 | .inr (.inl (r_10, r_11, r_12)) => (
 some (.inr (.inr (.inr (.inr (.inr (.inr (.inr (.inr (.inr (.inr (.inr (.inr (.inr (.inl (v0, v1, v2, y_1, r_1, r_2, r_3, r_4, r_5, r_6, r_10, r_11, r_12)))))))))))))))
 )
 | .inr (.inr (.inl (r_13, r_14, r_15))) => (
 some (.inl (.inr ((r_13, r_14, r_15))))
 )
 | .inr (.inr (.inr (.inl (r_16, r_17, r_18)))) => (
 some (.inr (.inr (.inr (.inr (.inr (.inr (.inr (.inr (.inr (.inr (.inr (.inr (.inr (.inr (.inl (v0, v1, v2, y_1, r_1, r_2, r_3, r_4, r_5, r_6, r_16, r_17, r_18))))))))))))))))
 )
 | .inr (.inr (.inr (.inr (.inl (r_19, r_20, r_21))))) => (
 some (.inr (.inr (.inr (.inr (.inr (.inr (.inr (.inr (.inr (.inr (.inr (.inr (.inr (.inr (.inr (.inl (v0, v1, v2, y_1, r_1, r_2, r_3, r_4, r_5, r_6, r_19, r_20, r_21)))))))))))))))))
 )
 | .inr (.inr (.inr (.inr (.inr ((r_22, r_23, r_24)))))) => (
 some (.inl (.inr ((r_22, r_23, r_24))))
 )
 )
 )
 )
 ) else (
 some (.inr (.inr (.inr (.inr (.inr (.inr (.inr (.inr (.inr (.inr (.inr (.inr (.inr (.inr (.inr (.inr ((v0, v1, v2))))))))))))))))))
 )
set_option maxRecDepth 100000 in
theorem optionTakerAll_t1 (k : Nat) (a a1 : ((ByteArray × (List ByteArray)) ⊕ (ByteArray × (List ByteArray) × (List FlagD)))) (h : optionTakerAll_b1 a = some (.inl a1)) : ∃ σ, run1 (k + 3) 67 1 38 optionTakerAll_L1 (optionTakerAll_S1 a) = some (.normal, σ) ∧ canonS 1 [0] σ = some (optionTakerAll_S1 a1) := by
  rcases a with ⟨v0, v1⟩ | ⟨v0, v1, v2⟩
  · unfold optionTakerAll_b1 at h
    try dsimp only at h
    rcases bif_some h with ⟨q1, h⟩ | ⟨q1, h⟩
    · obtain ⟨y_1, q2, h⟩ := bnd_some h
      obtain ⟨⟨r_1, r_2⟩, q3, h⟩ := bnd_some h
      try dsimp only at h
      rcases bif_some h with ⟨q4, h⟩ | ⟨q4, h⟩
      · cases h
      · rcases bif_some h with ⟨q5, h⟩ | ⟨q5, h⟩
        · cases h
        · obtain ⟨X_1, q6, h⟩ := bnd_some h
          rcases X_1 with ⟨r_3, r_4, r_5⟩
          · try dsimp only at h
            rcases bif_some h with ⟨q7, h⟩ | ⟨q7, h⟩
            · cases h
            · obtain ⟨X_2, q8, h⟩ := bnd_some h
              rcases X_2 with ⟨r_6, r_7⟩ | ⟨r_8, r_9⟩ | ⟨r_10, r_11⟩ | ⟨r_12, r_13, r_14⟩ | ⟨r_15, r_16, r_17⟩ | ⟨r_18, r_19, r_20⟩
              · try dsimp only at h
                cases h
              · try dsimp only at h
                cases h
              · try dsimp only at h
                obtain rfl := Sum.inl.inj (Option.some.inj h)
                exact ⟨_, run_go (k := (k + 3)) (f := 67) (r0 := 1) (nt := 38) (c := optionTakerAll_L1) (σ := (optionTakerAll_S1 (.inl (v0, v1)))) (adv [([], 1, 4, .eq (pI (v1.length : Int))), ([], 1, 5, .eq (pB true)), ([], 2, 4, .elem [(pS y_1)]), ([], 2, 6, .ret (.tup [(pS r_1), (pB r_2)])), ([], 3, 2, .eq (pB false)), ([], 3, 5, .eq (pB false)), ([], 5, 1, .retS (pS r_3) [some ⟨3, 143, [[(pS r_4), (.list 1 false (r_5.map cS)), (.v (.slice none 0 0))]], true, false⟩] [0]), ([], 6, 1, .eq (pB false)), ([], 8, 2, .retS (.v .nilIface) [some ⟨3, 143, [[(pS r_10), (.list 1 false (r_11.map cS)), (.v (.slice none 0 0))]], true, false⟩] [0])]) (ex := .normal) (by kernel_rfl) (by kernel_rfl) (allC (len_ob (rfl : (v1.map cS) = v1.map cS)) (allC (cg q1) (allC (gt_list (c := cS) q2) (allC (stringsCutPrefix_ok k y_1 (bs [45]) _ q3) (allC (cg q4) (allC (cg q5) (allC (optionTakerNext_ok (k + 2) v0 v1 _ q6) (allC (cg q7) (allC (optionTakerGroup_ok (k + 1) r_1 r_4 r_5 _ q8) allN))))))))), (by kernel_rfl)⟩
              · try dsimp only at h
                cases h
              · try dsimp only at h
                cases h
              · try dsimp only at h
                obtain rfl := Sum.inl.inj (Option.some.inj h)
                exact ⟨_, run_go (k := (k + 3)) (f := 67) (r0 := 1) (nt := 38) (c := optionTakerAll_L1) (σ := (optionTakerAll_S1 (.inl (v0, v1)))) (adv [([], 1, 4, .eq (pI (v1.length : Int))), ([], 1, 5, .eq (pB true)), ([], 2, 4, .elem [(pS y_1)]), ([], 2, 6, .ret (.tup [(pS r_1), (pB r_2)])), ([], 3, 2, .eq (pB false)), ([], 3, 5, .eq (pB false)), ([], 5, 1, .retS (pS r_3) [some ⟨3, 143, [[(pS r_4), (.list 1 false (r_5.map cS)), (.v (.slice none 0 0))]], true, false⟩] [0]), ([], 6, 1, .eq (pB false)), ([], 8, 2, .retS (.v .nilIface) [some ⟨3, 143, [[(pS r_18), (.list 1 false (r_19.map cS)), (.row [1, TAG] 1 0 r_20.length)]], false, false⟩, some ⟨2, 154, (r_20.map FlagD.c), true, true⟩] [0, 0])]) (ex := .normal) (by kernel_rfl) (by kernel_rfl) (allC (len_ob (rfl : (v1.map cS) = v1.map cS)) (allC (cg q1) (allC (gt_list (c := cS) q2) (allC (stringsCutPrefix_ok k y_1 (bs [45]) _ q3) (allC (cg q4) (allC (cg q5) (allC (optionTakerNext_ok (k + 2) v0 v1 _ q6) (allC (cg q7) (allC (optionTakerGroup_ok (k + 1) r_1 r_4 r_5 _ q8) allN))))))))), (by kernel_rfl)⟩
    · cases h
  · unfold optionTakerAll_b1 at h
    try dsimp only at h
    rcases bif_some h with ⟨q1, h⟩ | ⟨q1, h⟩
    · obtain ⟨y_1, q2, h⟩ := bnd_some h
      obtain ⟨⟨r_1, r_2⟩, q3, h⟩ := bnd_some h
      try dsimp only at h
      rcases bif_some h with ⟨q4, h⟩ | ⟨q4, h⟩
      · cases h
      · rcases bif_some h with ⟨q5, h⟩ | ⟨q5, h⟩
        · cases h
        · obtain ⟨X_1, q6, h⟩ := bnd_some h
          rcases X_1 with ⟨r_3, r_4, r_5, r_6⟩
          · try dsimp only at h
            rcases bif_some h with ⟨q7, h⟩ | ⟨q7, h⟩
            · cases h
            · obtain ⟨X_2, q8, h⟩ := bnd_some h
              rcases X_2 with ⟨r_7, r_8, r_9⟩ | ⟨r_10, r_11, r_12⟩ | ⟨r_13, r_14, r_15⟩ | ⟨r_16, r_17, r_18⟩ | ⟨r_19, r_20, r_21⟩ | ⟨r_22, r_23, r_24⟩
              · try dsimp only at h
                cases h
              · try dsimp only at h
                cases h
              · try dsimp only at h
                obtain rfl := Sum.inl.inj (Option.some.inj h)
                exact ⟨_, run_go (k := (k + 3)) (f := 67) (r0 := 1) (nt := 38) (c := optionTakerAll_L1) (σ := (optionTakerAll_S1 (.inr ((v0, v1, v2))))) (adv [([], 1, 4, .eq (pI (v1.length : Int))), ([], 1, 5, .eq (pB true)), ([], 2, 4, .elem [(pS y_1)]), ([], 2, 6, .ret (.tup [(pS r_1), (pB r_2)])), ([], 3, 2, .eq (pB false)), ([], 3, 5, .eq (pB false)), ([], 5, 1, .retS (pS r_3) [some ⟨3, 143, [[(pS r_4), (.list 1 false (r_5.map cS)), (.row [1, TAG] 1 0 r_6.length)]], false, false⟩, some ⟨2, 154, (r_6.map FlagD.c), true, true⟩] [0, 0]), ([], 6, 1, .eq (pB false)), ([], 8, 2, .retS (.v .nilIface) [some ⟨3, 143, [[(pS r_13), (.list 1 false (r_14.map cS)), (.row [1, TAG] 1 0 r_15.length)]], false, false⟩, some ⟨2, 154, (r_15.map FlagD.c), true, true⟩] [0, 0])]) (ex := .normal) (by kernel_rfl) (by kernel_rfl) (allC (len_ob (rfl : (v1.map cS) = v1.map cS)) (allC (cg q1) (allC (gt_list (c := cS) q2) (allC (stringsCutPrefix_ok k y_1 (bs [45]) _ q3) (allC (cg q4) (allC (cg q5) (allC (optionTakerNext2_ok (k + 2) v0 v1 v2 _ q6) (allC (cg q7) (allC (optionTakerGroup2_ok (k + 1) r_1 r_4 r_5 r_6 _ q8) allN))))))))), (by kernel_rfl)⟩
              · try dsimp only at h
                cases h
              · try dsimp only at h
                cases h
              · try dsimp only at h
                obtain rfl := Sum.inl.inj (Option.some.inj h)
                exact ⟨_, run_go (k := (k + 3)) (f := 67) (r0 := 1) (nt := 38) (c := optionTakerAll_L1) (σ := (optionTakerAll_S1 (.inr ((v0, v1, v2))))) (adv [([], 1, 4, .eq (pI (v1.length : Int))), ([], 1, 5, .eq (pB true)), ([], 2, 4, .elem [(pS y_1)]), ([], 2, 6, .ret (.tup [(pS r_1), (pB r_2)])), ([], 3, 2, .eq (pB false)), ([], 3, 5, .eq (pB false)), ([], 5, 1, .retS (pS r_3) [some ⟨3, 143, [[(pS r_4), (.list 1 false (r_5.map cS)), (.row [1, TAG] 1 0 r_6.length)]], false, false⟩, some ⟨2, 154, (r_6.map FlagD.c), true, true⟩] [0, 0]), ([], 6, 1, .eq (pB false)), ([], 8, 2, .retS (.v .nilIface) [some ⟨3, 143, [[(pS r_22), (.list 1 false (r_23.map cS)), (.row [2, TAG] 1 0 r_24.length)]], false, false⟩, none, some ⟨2, 154, (r_24.map FlagD.c), true, true⟩] [0, 0, 0])]) (ex := .normal) (by kernel_rfl) (by kernel_rfl) (allC (len_ob (rfl : (v1.map cS) = v1.map cS)) (allC (cg q1) (allC (gt_list (c := cS) q2) (allC (stringsCutPrefix_ok k y_1 (bs [45]) _ q3) (allC (cg q4) (allC (cg q5) (allC (optionTakerNext2_ok (k + 2) v0 v1 v2 _ q6) (allC (cg q7) (allC (optionTakerGroup2_ok (k + 1) r_1 r_4 r_5 r_6 _ q8) allN))))))))), (by kernel_rfl)⟩
    · cases h
def optionTakerAll (p0 : ByteArray) (p1 : (List ByteArray)) : Option ((ByteArray × (List ByteArray)) ⊕ (ByteArray × (List ByteArray)) ⊕ (ByteArray × (List ByteArray)) ⊕ (ByteArray × (List ByteArray) × (List FlagD)) ⊕ (ByteArray × (List ByteArray) × (List FlagD)) ⊕ (ByteArray × (List ByteArray) × (List FlagD))) :=
 (iterN (optionTakerAll_b1) LF (.inl (p0, p1))).bind fun X_1 => match X_1 with
 | .inl (v_1, v_2, y_1, r_1, r_2) => (
 some (.inl (v_1, v_2))
 )
 | .inr (.inl (v_1, v_2, y_1, r_1, r_2)) => (
 some (.inl (v_1, v_2))
 )
 | .inr (.inr (.inl (v_1, v_2, y_1, r_1, r_2, r_3, r_4, r_5))) => (
 some (.inl (r_4, r_5))
 )
 | .inr (.inr (.inr (.inl (v_1, v_2, y_1, r_1, r_2, r_3, r_4, r_5, r_6, r_7)))) => (
 some (.inr (.inl (r_6, r_7)))
 )
 | .inr (.inr (.inr (.inr (.inl (v_1, v_2, y_1, r_1, r_2, r_3, r_4, r_5, r_8, r_9))))) => (
 some (.inr (.inr (.inl (r_8, r_9))))
 )
 | .inr (.inr (.inr (.inr (.inr (.inl (v_1, v_2, y_1, r_1, r_2, r_3, r_4, r_5, r_12, r_13, r_14)))))) => (
 some (.inr (.inr (.inr (.inl (r_12, r_13, r_14)))))
 )
 | .inr (.inr (.inr (.inr (.inr (.inr (.inl (v_1, v_2, y_1, r_1, r_2, r_3, r_4, r_5, r_15, r_16, r_17))))))) => (
 some (.inr (.inr (.inr (.inr (.inl (r_15, r_16, r_17))))))
 )
 | .inr (.inr (.inr (.inr (.inr (.inr (.inr (.inl (v_1, v_2)))))))) => (
 some (.inl (v_1, v_2))
 )
 | .inr (.inr (.inr (.inr (.inr (.inr (.inr (.inr (.inl (v_3, v_4, v_5, y_1, r_1, r_2))))))))) => (
 some (.inr (.inr (.inr (.inr (.inr ((v_3, v_4, v_5)))))))
 )
 | .inr (.inr (.inr (.inr (.inr (.inr (.inr (.inr (.inr (.inl (v_3, v_4, v_5, y_1, r_1, r_2)))))))))) => (
 some (.inr (.inr (.inr (.inr (.inr ((v_3, v_4, v_5)))))))
 )
 | .inr (.inr (.inr (.inr (.inr (.inr (.inr (.inr (.inr (.inr (.inl (v_3, v_4, v_5, y_1, r_1, r_2, r_3, r_4, r_5, r_6))))))))))) => (
 some (.inr (.inr (.inr (.inr (.inr ((r_4, r_5, r_6)))))))
 )
 | .inr (.inr (.inr (.inr (.inr (.inr (.inr (.inr (.inr (.inr (.inr (.inl (v_3, v_4, v_5, y_1, r_1, r_2, r_3, r_4, r_5, r_6, r_7, r_8, r_9)))))))))))) => (
 some (.inr (.inr (.inr (.inl (r_7, r_8, r_9)))))
 )
 | .inr (.inr (.inr (.inr (.inr (.inr (.inr (.inr (.inr (.inr (.inr (.inr (.inl (v_3, v_4, v_5, y_1, r_1, r_2, r_3, r_4, r_5, r_6, r_10, r_11, r_12))))))))))))) => (
 some (.inr (.inr (.inr (.inr (.inl (r_10, r_11, r_12))))))
 )
 | .inr (.inr (.inr (.inr (.inr (.inr (.inr (.inr (.inr (.inr (.inr (.inr (.inr (.inl (v_3, v_4, v_5, y_1, r_1, r_2, r_3, r_4, r_5, r_6, r_16, r_17, r_18)))))))))))))) => (
 some (.inr (.inr (.inr (.inl (r_16, r_17, r_18)))))
 )
 | .inr (.inr (.inr (.inr (.inr (.inr (.inr (.inr (.inr (.inr (.inr (.inr (.inr (.inr (.inl (v_3, v_4, v_5, y_1, r_1, r_2, r_3, r_4, r_5, r_6, r_19, r_20, r_21))))))))))))))) => (
 some (.inr (.inr (.inr (.inr (.inl (r_19, r_20, r_21))))))
 )
 | .inr (.inr (.inr (.inr (.inr (.inr (.inr (.inr (.inr (.inr (.inr (.inr (.inr (.inr (.inr ((v_3, v_4, v_5)))))))))))))))) => (
 some (.inr (.inr (.inr (.inr (.inr ((v_3, v_4, v_5)))))))
 )
def optionTakerAll_out : ((ByteArray × (List ByteArray)) ⊕ (ByteArray × (List ByteArray)) ⊕ (ByteArray × (List ByteArray)) ⊕ (ByteArray × (List ByteArray) × (List FlagD)) ⊕ (ByteArray × (List ByteArray) × (List FlagD)) ⊕ (ByteArray × (List ByteArray) × (List FlagD))) → PV × List (Option Blk) × List Nat
 | .inl (r0, r1) => ((.v .nilIface), [some ⟨3, 143, [[(pS r0), (.list 1 false (r1.map cS)), (.v (.slice none 0 0))]], true, false⟩], [0])
 | .inr (.inl (r0, r1)) => ((.ifc 403 (.far 0)), [some ⟨3, 143, [[(pS r0), (.list 1 false (r1.map cS)), (.v (.slice none 0 0))]], true, false⟩], [0])
 | .inr (.inr (.inl (r0, r1))) => ((.ifc 403 (.far 1)), [some ⟨3, 143, [[(pS r0), (.list 1 false (r1.map cS)), (.v (.slice none 0 0))]], true, false⟩], [0])
 | .inr (.inr (.inr (.inl (r0, r1, r2)))) => ((.ifc 403 (.far 0)), [some ⟨3, 143, [[(pS r0), (.list 1 false (r1.map cS)), (.row [1, TAG] 1 0 r2.length)]], false, false⟩, some ⟨2, 154, (r2.map FlagD.c), true, true⟩], [0, 0])
 | .inr (.inr (.inr (.inr (.inl (r0, r1, r2))))) => ((.ifc 403 (.far 1)), [some ⟨3, 143, [[(pS r0), (.list 1 false (r1.map cS)), (.row [1, TAG] 1 0 r2.length)]], false, false⟩, some ⟨2, 154, (r2.map FlagD.c), true, true⟩], [0, 0])
 | .inr (.inr (.inr (.inr (.inr ((r0, r1, r2)))))) => ((.v .nilIface), [some ⟨3, 143, [[(pS r0), (.list 1 false (r1.map cS)), (.row [1, TAG] 1 0 r2.length)]], false, false⟩, some ⟨2, 154, (r2.map FlagD.c), true, true⟩], [0, 0])
set_option maxRecDepth 100000 in
theorem optionTakerAll_ok (k : Nat) (p0 : ByteArray) (p1 : (List ByteArray)) (r : ((ByteArray × (List ByteArray)) ⊕ (ByteArray × (List ByteArray)) ⊕ (ByteArray × (List ByteArray)) ⊕ (ByteArray × (List ByteArray) × (List FlagD)) ⊕ (ByteArray × (List ByteArray) × (List FlagD)) ⊕ (ByteArray × (List ByteArray) × (List FlagD)))) (h : optionTakerAll p0 p1 = some r) : runS0 (k + 4) 67 [(.ptr [0, TAG] 1 0 0)] [some ⟨3, 143, [[(pS p0), (.list 1 false (p1.map cS)), (.v (.slice none 0 0))]], true, false⟩] [0] = some (optionTakerAll_out r) := by
  unfold optionTakerAll at h
  obtain ⟨X_1, q1, h⟩ := bnd_some h
  obtain ⟨a_1, q2, q3⟩ := loop_iter (f := run1 (k + 3) 67 1 38 optionTakerAll_L1) (optionTakerAll_S1) (optionTakerAll_b1) (optionTakerAll_t1 k) LF (.inl (p0, p1)) _ (stOf (goStop (k + 3) 67 1 38 (adv []) 1 (codeOf Tryz.f67) (argB 67 [(.ptr [0, TAG] 1 0 0)] [some ⟨3, 143, [[(pS p0), (.list 1 false (p1.map cS)), (.v (.slice none 0 0))]], true, false⟩] [0]))) q1 (by kernel_rfl)
  rcases a_1 with ⟨v_1, v_2⟩ | ⟨v_3, v_4, v_5⟩
  · unfold optionTakerAll_b1 at q2
    try dsimp only at q2
    rcases bif_some q2 with ⟨q6, q2⟩ | ⟨q6, q2⟩
    · obtain ⟨y_1, q7, q2⟩ := bnd_some q2
      obtain ⟨⟨r_1, r_2⟩, q8, q2⟩ := bnd_some q2
      try dsimp only at q2
      rcases bif_some q2 with ⟨q9, q2⟩ | ⟨q9, q2⟩
      · cases q2
        try dsimp only at h
        have q4 := run_go (k := (k + 3)) (f := 67) (r0 := 1) (nt := 38) (c := optionTakerAll_L1) (σ := (optionTakerAll_S1 (.inl (v_1, v_2)))) (adv [([], 1, 4, .eq (pI (v_2.length : Int))), ([], 1, 5, .eq (pB true)), ([], 2, 4, .elem [(pS y_1)]), ([], 2, 6, .ret (.tup [(pS r_1), (pB r_2)])), ([], 3, 2, .eq (pB true))]) (ex := .ret) (by kernel_rfl) (by kernel_rfl) (allC (len_ob (rfl : (v_2.map cS) = v_2.map cS)) (allC (cg q6) (allC (gt_list (c := cS) q7) (allC (stringsCutPrefix_ok k y_1 (bs [45]) _ q8) (allC (cg q9) allN)))))
        have q5 := q3 _ _ (by intro e; cases e) q4
        obtain rfl := Option.some.inj h
        exact retS_go (k := (k + 3)) (n := 1) Tryz.func67 Tryz.ntmps67 rfl (by kernel_rfl) (by kernel_rfl) (lb rfl) (adv [] [([], 1, .ret, (stOf (go (k + 3) 67 1 38 (adv [([], 1, 4, .eq (pI (v_2.length : Int))), ([], 1, 5, .eq (pB true)), ([], 2, 4, .elem [(pS y_1)]), ([], 2, 6, .ret (.tup [(pS r_1), (pB r_2)])), ([], 3, 2, .eq (pB true))]) optionTakerAll_L1 (optionTakerAll_S1 (.inl (v_1, v_2))))))]) (ex := .ret) (r := ((.v .nilIface), [some ⟨3, 143, [[(pS v_1), (.list 1 false (v_2.map cS)), (.v (.slice none 0 0))]], true, false⟩], [0])) (by kernel_rfl) rfl (by kernel_rfl) (allC q5 allN) (by kernel_rfl)
      · rcases bif_some q2 with ⟨q10, q2⟩ | ⟨q10, q2⟩
        · cases q2
          try dsimp only at h
          have q4 := run_go (k := (k + 3)) (f := 67) (r0 := 1) (nt := 38) (c := optionTakerAll_L1) (σ := (optionTakerAll_S1 (.inl (v_1, v_2)))) (adv [([], 1, 4, .eq (pI (v_2.length : Int))), ([], 1, 5, .eq (pB true)), ([], 2, 4, .elem [(pS y_1)]), ([], 2, 6, .ret (.tup [(pS r_1), (pB r_2)])), ([], 3, 2, .eq (pB false)), ([], 3, 5, .eq (pB true))]) (ex := .ret) (by kernel_rfl) (by kernel_rfl) (allC (len_ob (rfl : (v_2.map cS) = v_2.map cS)) (allC (cg q6) (allC (gt_list (c := cS) q7) (allC (stringsCutPrefix_ok k y_1 (bs [45]) _ q8) (allC (cg q9) (allC (cg q10) allN))))))
          have q5 := q3 _ _ (by intro e; cases e) q4
          obtain rfl := Option.some.inj h
          exact retS_go (k := (k + 3)) (n := 1) Tryz.func67 Tryz.ntmps67 rfl (by kernel_rfl) (by kernel_rfl) (lb rfl) (adv [] [([], 1, .ret, (stOf (go (k + 3) 67 1 38 (adv [([], 1, 4, .eq (pI (v_2.length : Int))), ([], 1, 5, .eq (pB true)), ([], 2, 4, .elem [(pS y_1)]), ([], 2, 6, .ret (.tup [(pS r_1), (pB r_2)])), ([], 3, 2, .eq (pB false)), ([], 3, 5, .eq (pB true))]) optionTakerAll_L1 (optionTakerAll_S1 (.inl (v_1, v_2))))))]) (ex := .ret) (r := ((.v .nilIface), [some ⟨3, 143, [[(pS v_1), (.list 1 false (v_2.map cS)), (.v (.slice none 0 0))]], true, false⟩], [0])) (by kernel_rfl) rfl (by kernel_rfl) (allC q5 allN) (by kernel_rfl)
        · obtain ⟨X_2, q11, q2⟩ := bnd_some q2
          rcases X_2 with ⟨r_3, r_4, r_5⟩
          · try dsimp only at q2
            rcases bif_some q2 with ⟨q12, q2⟩ | ⟨q12, q2⟩
            · cases q2
              try dsimp only at h
              have q4 := run_go (k := (k + 3)) (f := 67) (r0 := 1) (nt := 38) (c := optionTakerAll_L1) (σ := (optionTakerAll_S1 (.inl (v_1, v_2)))) (adv [([], 1, 4, .eq (pI (v_2.length : Int))), ([], 1, 5, .eq (pB true)), ([], 2, 4, .elem [(pS y_1)]), ([], 2, 6, .ret (.tup [(pS r_1), (pB r_2)])), ([], 3, 2, .eq (pB false)), ([], 3, 5, .eq (pB false)), ([], 5, 1, .retS (pS r_3) [some ⟨3, 143, [[(pS r_4), (.list 1 false (r_5.map cS)), (.v (.slice none 0 0))]], true, false⟩] [0]), ([], 6, 1, .eq (pB true))]) (ex := .ret) (by kernel_rfl) (by kernel_rfl) (allC (len_ob (rfl : (v_2.map cS) = v_2.map cS)) (allC (cg q6) (allC (gt_list (c := cS) q7) (allC (stringsCutPrefix_ok k y_1 (bs [45]) _ q8) (allC (cg q9) (allC (cg q10) (allC (optionTakerNext_ok (k + 2) v_1 v_2 _ q11) (allC (cg q12) allN))))))))
              have q5 := q3 _ _ (by intro e; cases e) q4
              obtain rfl := Option.some.inj h
              exact retS_go (k := (k + 3)) (n := 1) Tryz.func67 Tryz.ntmps67 rfl (by kernel_rfl) (by kernel_rfl) (lb rfl) (adv [] [([], 1, .ret, (stOf (go (k + 3) 67 1 38 (adv [([], 1, 4, .eq (pI (v_2.length : Int))), ([], 1, 5, .eq (pB true)), ([], 2, 4, .elem [(pS y_1)]), ([], 2, 6, .ret (.tup [(pS r_1), (pB r_2)])), ([], 3, 2, .eq (pB false)), ([], 3, 5, .eq (pB false)), ([], 5, 1, .retS (pS r_3) [some ⟨3, 143, [[(pS r_4), (.list 1 false (r_5.map cS)), (.v (.slice none 0 0))]], true, false⟩] [0]), ([], 6, 1, .eq (pB true))]) optionTakerAll_L1 (optionTakerAll_S1 (.inl (v_1, v_2))))))]) (ex := .ret) (r := ((.v .nilIface), [some ⟨3, 143, [[(pS r_4), (.list 1 false (r_5.map cS)), (.v (.slice none 0 0))]], true, false⟩], [0])) (by kernel_rfl) rfl (by kernel_rfl) (allC q5 allN) (by kernel_rfl)
            · obtain ⟨X_3, q13, q2⟩ := bnd_some q2
              rcases X_3 with ⟨r_6, r_7⟩ | ⟨r_8, r_9⟩ | ⟨r_10, r_11⟩ | ⟨r_12, r_13, r_14⟩ | ⟨r_15, r_16, r_17⟩ | ⟨r_18, r_19, r_20⟩
              · try dsimp only at q2
                cases q2
                try dsimp only at h
                have q4 := run_go (k := (k + 3)) (f := 67) (r0 := 1) (nt := 38) (c := optionTakerAll_L1) (σ := (optionTakerAll_S1 (.inl (v_1, v_2)))) (adv [([], 1, 4, .eq (pI (v_2.length : Int))), ([], 1, 5, .eq (pB true)), ([], 2, 4, .elem [(pS y_1)]), ([], 2, 6, .ret (.tup [(pS r_1), (pB r_2)])), ([], 3, 2, .eq (pB false)), ([], 3, 5, .eq (pB false)), ([], 5, 1, .retS (pS r_3) [some ⟨3, 143, [[(pS r_4), (.list 1 false (r_5.map cS)), (.v (.slice none 0 0))]], true, false⟩] [0]), ([], 6, 1, .eq (pB false)), ([], 8, 2, .retS (.ifc 403 (.far 0)) [some ⟨3, 143, [[(pS r_6), (.list 1 false (r_7.map cS)), (.v (.slice none 0 0))]], true, false⟩] [0])]) (ex := .ret) (by kernel_rfl) (by kernel_rfl) (allC (len_ob (rfl : (v_2.map cS) = v_2.map cS)) (allC (cg q6) (allC (gt_list (c := cS) q7) (allC (stringsCutPrefix_ok k y_1 (bs [45]) _ q8) (allC (cg q9) (allC (cg q10) (allC (optionTakerNext_ok (k + 2) v_1 v_2 _ q11) (allC (cg q12) (allC (optionTakerGroup_ok (k + 1) r_1 r_4 r_5 _ q13) allN)))))))))
                have q5 := q3 _ _ (by intro e; cases e) q4
                obtain rfl := Option.some.inj h
                exact retS_go (k := (k + 3)) (n := 1) Tryz.func67 Tryz.ntmps67 rfl (by kernel_rfl) (by kernel_rfl) (lb rfl) (adv [] [([], 1, .ret, (stOf (go (k + 3) 67 1 38 (adv [([], 1, 4, .eq (pI (v_2.length : Int))), ([], 1, 5, .eq (pB true)), ([], 2, 4, .elem [(pS y_1)]), ([], 2, 6, .ret (.tup [(pS r_1), (pB r_2)])), ([], 3, 2, .eq (pB false)), ([], 3, 5, .eq (pB false)), ([], 5, 1, .retS (pS r_3) [some ⟨3, 143, [[(pS r_4), (.list 1 false (r_5.map cS)), (.v (.slice none 0 0))]], true, false⟩] [0]), ([], 6, 1, .eq (pB false)), ([], 8, 2, .retS (.ifc 403 (.far 0)) [some ⟨3, 143, [[(pS r_6), (.list 1 false (r_7.map cS)), (.v (.slice none 0 0))]], true, false⟩] [0])]) optionTakerAll_L1 (optionTakerAll_S1 (.inl (v_1, v_2))))))]) (ex := .ret) (r := ((.ifc 403 (.far 0)), [some ⟨3, 143, [[(pS r_6), (.list 1 false (r_7.map cS)), (.v (.slice none 0 0))]], true, false⟩], [0])) (by kernel_rfl) rfl (by kernel_rfl) (allC q5 allN) (by kernel_rfl)
              · try dsimp only at q2
                cases q2
                try dsimp only at h
                have q4 := run_go (k := (k + 3)) (f := 67) (r0 := 1) (nt := 38) (c := optionTakerAll_L1) (σ := (optionTakerAll_S1 (.inl (v_1, v_2)))) (adv [([], 1, 4, .eq (pI (v_2.length : Int))), ([], 1, 5, .eq (pB true)), ([], 2, 4, .elem [(pS y_1)]), ([], 2, 6, .ret (.tup [(pS r_1), (pB r_2)])), ([], 3, 2, .eq (pB false)), ([], 3, 5, .eq (pB false)), ([], 5, 1, .retS (pS r_3) [some ⟨3, 143, [[(pS r_4), (.list 1 false (r_5.map cS)), (.v (.slice none 0 0))]], true, false⟩] [0]), ([], 6, 1, .eq (pB false)), ([], 8, 2, .retS (.ifc 403 (.far 1)) [some ⟨3, 143, [[(pS r_8), (.list 1 false (r_9.map cS)), (.v (.slice none 0 0))]], true, false⟩] [0])]) (ex := .ret) (by kernel_rfl) (by kernel_rfl) (allC (len_ob (rfl : (v_2.map cS) = v_2.map cS)) (allC (cg q6) (allC (gt_list (c := cS) q7) (allC (stringsCutPrefix_ok k y_1 (bs [45]) _ q8) (allC (cg q9) (allC (cg q10) (allC (optionTakerNext_ok (k + 2) v_1 v_2 _ q11) (allC (cg q12) (allC (optionTakerGroup_ok (k + 1) r_1 r_4 r_5 _ q13) allN)))))))))
                have q5 := q3 _ _ (by intro e; cases e) q4
                obtain rfl := Option.some.inj h
                exact retS_go (k := (k + 3)) (n := 1) Tryz.func67 Tryz.ntmps67 rfl (by kernel_rfl) (by kernel_rfl) (lb rfl) (adv [] [([], 1, .ret, (stOf (go (k + 3) 67 1 38 (adv [([], 1, 4, .eq (pI (v_2.length : Int))), ([], 1, 5, .eq (pB true)), ([], 2, 4, .elem [(pS y_1)]), ([], 2, 6, .ret (.tup [(pS r_1), (pB r_2)])), ([], 3, 2, .eq (pB false)), ([], 3, 5, .eq (pB false)), ([], 5, 1, .retS (pS r_3) [some ⟨3, 143, [[(pS r_4), (.list 1 false (r_5.map cS)), (.v (.slice none 0 0))]], true, false⟩] [0]), ([], 6, 1, .eq (pB false)), ([], 8, 2, .retS (.ifc 403 (.far 1)) [some ⟨3, 143, [[(pS r_8), (.list 1 false (r_9.map cS)), (.v (.slice none 0 0))]], true, false⟩] [0])]) optionTakerAll_L1 (optionTakerAll_S1 (.inl (v_1, v_2))))))]) (ex := .ret) (r := ((.ifc 403 (.far 1)), [some ⟨3, 143, [[(pS r_8), (.list 1 false (r_9.map cS)), (.v (.slice none 0 0))]], true, false⟩], [0])) (by kernel_rfl) rfl (by kernel_rfl) (allC q5 allN) (by kernel_rfl)
              · try dsimp only at q2
                cases q2
              · try dsimp only at q2
                cases q2
                try dsimp only at h
                have q4 := run_go (k := (k + 3)) (f := 67) (r0 := 1) (nt := 38) (c := optionTakerAll_L1) (σ := (optionTakerAll_S1 (.inl (v_1, v_2)))) (adv [([], 1, 4, .eq (pI (v_2.length : Int))), ([], 1, 5, .eq (pB true)), ([], 2, 4, .elem [(pS y_1)]), ([], 2, 6, .ret (.tup [(pS r_1), (pB r_2)])), ([], 3, 2, .eq (pB false)), ([], 3, 5, .eq (pB false)), ([], 5, 1, .retS (pS r_3) [some ⟨3, 143, [[(pS r_4), (.list 1 false (r_5.map cS)), (.v (.slice none 0 0))]], true, false⟩] [0]), ([], 6, 1, .eq (pB false)), ([], 8, 2, .retS (.ifc 403 (.far 0)) [some ⟨3, 143, [[(pS r_12), (.list 1 false (r_13.map cS)), (.row [1, TAG] 1 0 r_14.length)]], false, false⟩, some ⟨2, 154, (r_14.map FlagD.c), true, true⟩] [0, 0])]) (ex := .ret) (by kernel_rfl) (by kernel_rfl) (allC (len_ob (rfl : (v_2.map cS) = v_2.map cS)) (allC (cg q6) (allC (gt_list (c := cS) q7) (allC (stringsCutPrefix_ok k y_1 (bs [45]) _ q8) (allC (cg q9) (allC (cg q10) (allC (optionTakerNext_ok (k + 2) v_1 v_2 _ q11) (allC (cg q12) (allC (optionTakerGroup_ok (k + 1) r_1 r_4 r_5 _ q13) allN)))))))))
                have q5 := q3 _ _ (by intro e; cases e) q4
                obtain rfl := Option.some.inj h
                exact retS_go (k := (k + 3)) (n := 1) Tryz.func67 Tryz.ntmps67 rfl (by kernel_rfl) (by kernel_rfl) (lb rfl) (adv [] [([], 1, .ret, (stOf (go (k + 3) 67 1 38 (adv [([], 1, 4, .eq (pI (v_2.length : Int))), ([], 1, 5, .eq (pB true)), ([], 2, 4, .elem [(pS y_1)]), ([], 2, 6, .ret (.tup [(pS r_1), (pB r_2)])), ([], 3, 2, .eq (pB false)), ([], 3, 5, .eq (pB false)), ([], 5, 1, .retS (pS r_3) [some ⟨3, 143, [[(pS r_4), (.list 1 false (r_5.map cS)), (.v (.slice none 0 0))]], true, false⟩] [0]), ([], 6, 1, .eq (pB false)), ([], 8, 2, .retS (.ifc 403 (.far 0)) [some ⟨3, 143, [[(pS r_12), (.list 1 false (r_13.map cS)), (.row [1, TAG] 1 0 r_14.length)]], false, false⟩, some ⟨2, 154, (r_14.map FlagD.c), true, true⟩] [0, 0])]) optionTakerAll_L1 (optionTakerAll_S1 (.inl (v_1, v_2))))))]) (ex := .ret) (r := ((.ifc 403 (.far 0)), [some ⟨3, 143, [[(pS r_12), (.list 1 false (r_13.map cS)), (.row [1, TAG] 1 0 r_14.length)]], false, false⟩, some ⟨2, 154, (r_14.map FlagD.c), true, true⟩], [0, 0])) (by kernel_rfl) rfl (by kernel_rfl) (allC q5 allN) (by kernel_rfl)
              · try dsimp only at q2
                cases q2
                try dsimp only at h
                have q4 := run_go (k := (k + 3)) (f := 67) (r0 := 1) (nt := 38) (c := optionTakerAll_L1) (σ := (optionTakerAll_S1 (.inl (v_1, v_2)))) (adv [([], 1, 4, .eq (pI (v_2.length : Int))), ([], 1, 5, .eq (pB true)), ([], 2, 4, .elem [(pS y_1)]), ([], 2, 6, .ret (.tup [(pS r_1), (pB r_2)])), ([], 3, 2, .eq (pB false)), ([], 3, 5, .eq (pB false)), ([], 5, 1, .retS (pS r_3) [some ⟨3, 143, [[(pS r_4), (.list 1 false (r_5.map cS)), (.v (.slice none 0 0))]], true, false⟩] [0]), ([], 6, 1, .eq (pB false)), ([], 8, 2, .retS (.ifc 403 (.far 1)) [some ⟨3, 143, [[(pS r_15), (.list 1 false (r_16.map cS)), (.row [1, TAG] 1 0 r_17.length)]], false, false⟩, some ⟨2, 154, (r_17.map FlagD.c), true, true⟩] [0, 0])]) (ex := .ret) (by kernel_rfl) (by kernel_rfl) (allC (len_ob (rfl : (v_2.map cS) = v_2.map cS)) (allC (cg q6) (allC (gt_list (c := cS) q7) (allC (stringsCutPrefix_ok k y_1 (bs [45]) _ q8) (allC (cg q9) (allC (cg q10) (allC (optionTakerNext_ok (k + 2) v_1 v_2 _ q11) (allC (cg q12) (allC (optionTakerGroup_ok (k + 1) r_1 r_4 r_5 _ q13) allN)))))))))
                have q5 := q3 _ _ (by intro e; cases e) q4
                obtain rfl := Option.some.inj h
                exact retS_go (k := (k + 3)) (n := 1) Tryz.func67 Tryz.ntmps67 rfl (by kernel_rfl) (by kernel_rfl) (lb rfl) (adv [] [([], 1, .ret, (stOf (go (k + 3) 67 1 38 (adv [([], 1, 4, .eq (pI (v_2.length : Int))), ([], 1, 5, .eq (pB true)), ([], 2, 4, .elem [(pS y_1)]), ([], 2, 6, .ret (.tup [(pS r_1), (pB r_2)])), ([], 3, 2, .eq (pB false)), ([], 3, 5, .eq (pB false)), ([], 5, 1, .retS (pS r_3) [some ⟨3, 143, [[(pS r_4), (.list 1 false (r_5.map cS)), (.v (.slice none 0 0))]], true, false⟩] [0]), ([], 6, 1, .eq (pB false)), ([], 8, 2, .retS (.ifc 403 (.far 1)) [some ⟨3, 143, [[(pS r_15), (.list 1 false (r_16.map cS)), (.row [1, TAG] 1 0 r_17.length)]], false, false⟩, some ⟨2, 154, (r_17.map FlagD.c), true, true⟩] [0, 0])]) optionTakerAll_L1 (optionTakerAll_S1 (.inl (v_1, v_2))))))]) (ex := .ret) (r := ((.ifc 403 (.far 1)), [some ⟨3, 143, [[(pS r_15), (.list 1 false (r_16.map cS)), (.row [1, TAG] 1 0 r_17.length)]], false, false⟩, some ⟨2, 154, (r_17.map FlagD.c), true, true⟩], [0, 0])) (by kernel_rfl) rfl (by kernel_rfl) (allC q5 allN) (by kernel_rfl)
              · try dsimp only at q2
                cases q2
    · cases q2
      try dsimp only at h
      have q4 := run_go (k := (k + 3)) (f := 67) (r0 := 1) (nt := 38) (c := optionTakerAll_L1) (σ := (optionTakerAll_S1 (.inl (v_1, v_2)))) (adv [([], 1, 4, .eq (pI (v_2.length : Int))), ([], 1, 5, .eq (pB false))]) (ex := (.exit 0)) (by kernel_rfl) (by kernel_rfl) (allC (len_ob (rfl : (v_2.map cS) = v_2.map cS)) (allC (cg q6) allN))
      have q5 := q3 _ _ (by intro e; cases e) q4
      obtain rfl := Option.some.inj h
      exact retS_go (k := (k + 3)) (n := 1) Tryz.func67 Tryz.ntmps67 rfl (by kernel_rfl) (by kernel_rfl) (lb rfl) (adv [] [([], 1, (.exit 0), (stOf (go (k + 3) 67 1 38 (adv [([], 1, 4, .eq (pI (v_2.length : Int))), ([], 1, 5, .eq (pB false))]) optionTakerAll_L1 (optionTakerAll_S1 (.inl (v_1, v_2))))))]) (ex := .ret) (r := ((.v .nilIface), [some ⟨3, 143, [[(pS v_1), (.list 1 false (v_2.map cS)), (.v (.slice none 0 0))]], true, false⟩], [0])) (by kernel_rfl) rfl (by kernel_rfl) (allC q5 allN) (by kernel_rfl)
  · unfold optionTakerAll_b1 at q2
    try dsimp only at q2
    rcases bif_some q2 with ⟨q6, q2⟩ | ⟨q6, q2⟩
    · obtain ⟨y_1, q7, q2⟩ := bnd_some q2
      obtain ⟨⟨r_1, r_2⟩, q8, q2⟩ := bnd_some q2
      try dsimp only at q2
      rcases bif_some q2 with ⟨q9, q2⟩ | ⟨q9, q2⟩
      · cases q2
        try dsimp only at h
        have q4 := run_go (k := (k + 3)) (f := 67) (r0 := 1) (nt := 38) (c := optionTakerAll_L1) (σ := (optionTakerAll_S1 (.inr ((v_3, v_4, v_5))))) (adv [([], 1, 4, .eq (pI (v_4.length : Int))), ([], 1, 5, .eq (pB true)), ([], 2, 4, .elem [(pS y_1)]), ([], 2, 6, .ret (.tup [(pS r_1), (pB r_2)])), ([], 3, 2, .eq (pB true))]) (ex := .ret) (by kernel_rfl) (by kernel_rfl) (allC (len_ob (rfl : (v_4.map cS) = v_4.map cS)) (allC (cg q6) (allC (gt_list (c := cS) q7) (allC (stringsCutPrefix_ok k y_1 (bs [45]) _ q8) (allC (cg q9) allN)))))
        have q5 := q3 _ _ (by intro e; cases e) q4
        obtain rfl := Option.some.inj h
        exact retS_go (k := (k + 3)) (n := 1) Tryz.func67 Tryz.ntmps67 rfl (by kernel_rfl) (by kernel_rfl) (lb rfl) (adv [] [([], 1, .ret, (stOf (go (k + 3) 67 1 38 (adv [([], 1, 4, .eq (pI (v_4.length : Int))), ([], 1, 5, .eq (pB true)), ([], 2, 4, .elem [(pS y_1)]), ([], 2, 6, .ret (.tup [(pS r_1), (pB r_2)])), ([], 3, 2, .eq (pB true))]) optionTakerAll_L1 (optionTakerAll_S1 (.inr ((v_3, v_4, v_5)))))))]) (ex := .ret) (r := ((.v .nilIface), [some ⟨3, 143, [[(pS v_3), (.list 1 false (v_4.map cS)), (.row [1, TAG] 1 0 v_5.length)]], false, false⟩, some ⟨2, 154, (v_5.map FlagD.c), true, true⟩], [0, 0])) (by kernel_rfl) rfl (by kernel_rfl) (allC q5 allN) (by kernel_rfl)
      · rcases bif_some q2 with ⟨q10, q2⟩ | ⟨q10, q2⟩
        · cases q2
          try dsimp only at h
          have q4 := run_go (k := (k + 3)) (f := 67) (r0 := 1) (nt := 38) (c := optionTakerAll_L1) (σ := (optionTakerAll_S1 (.inr ((v_3, v_4, v_5))))) (adv [([], 1, 4, .eq (pI (v_4.length : Int))), ([], 1, 5, .eq (pB true)), ([], 2, 4, .elem [(pS y_1)]), ([], 2, 6, .ret (.tup [(pS r_1), (pB r_2)])), ([], 3, 2, .eq (pB false)), ([], 3, 5, .eq (pB true))]) (ex := .ret) (by kernel_rfl) (by kernel_rfl) (allC (len_ob (rfl : (v_4.map cS) = v_4.map cS)) (allC (cg q6) (allC (gt_list (c := cS) q7) (allC (stringsCutPrefix_ok k y_1 (bs [45]) _ q8) (allC (cg q9) (allC (cg q10) allN))))))
          have q5 := q3 _ _ (by intro e; cases e) q4
          obtain rfl := Option.some.inj h
          exact retS_go (k := (k + 3)) (n := 1) Tryz.func67 Tryz.ntmps67 rfl (by kernel_rfl) (by kernel_rfl) (lb rfl) (adv [] [([], 1, .ret, (stOf (go (k + 3) 67 1 38 (adv [([], 1, 4, .eq (pI (v_4.length : Int))), ([], 1, 5, .eq (pB true)), ([], 2, 4, .elem [(pS y_1)]), ([], 2, 6, .ret (.tup [(pS r_1), (pB r_2)])), ([], 3, 2, .eq (pB false)), ([], 3, 5, .eq (pB true))]) optionTakerAll_L1 (optionTakerAll_S1 (.inr ((v_3, v_4, v_5)))))))]) (ex := .ret) (r := ((.v .nilIface), [some ⟨3, 143, [[(pS v_3), (.list 1 false (v_4.map cS)), (.row [1, TAG] 1 0 v_5.length)]], false, false⟩, some ⟨2, 154, (v_5.map FlagD.c), true, true⟩], [0, 0])) (by kernel_rfl) rfl (by kernel_rfl) (allC q5 allN) (by kernel_rfl)
        · obtain ⟨X_2, q11, q2⟩ := bnd_some q2
          rcases X_2 with ⟨r_3, r_4, r_5, r_6⟩
          · try dsimp only at q2
            rcases bif_some q2 with ⟨q12, q2⟩ | ⟨q12, q2⟩
            · cases q2
              try dsimp only at h
              have q4 := run_go (k := (k + 3)) (f := 67) (r0 := 1) (nt := 38) (c := optionTakerAll_L1) (σ := (optionTakerAll_S1 (.inr ((v_3, v_4, v_5))))) (adv [([], 1, 4, .eq (pI (v_4.length : Int))), ([], 1, 5, .eq (pB true)), ([], 2, 4, .elem [(pS y_1)]), ([], 2, 6, .ret (.tup [(pS r_1), (pB r_2)])), ([], 3, 2, .eq (pB false)), ([], 3, 5, .eq (pB false)), ([], 5, 1, .retS (pS r_3) [some ⟨3, 143, [[(pS r_4), (.list 1 false (r_5.map cS)), (.row [1, TAG] 1 0 r_6.length)]], false, false⟩, some ⟨2, 154, (r_6.map FlagD.c), true, true⟩] [0, 0]), ([], 6, 1, .eq (pB true))]) (ex := .ret) (by kernel_rfl) (by kernel_rfl) (allC (len_ob (rfl : (v_4.map cS) = v_4.map cS)) (allC (cg q6) (allC (gt_list (c := cS) q7) (allC (stringsCutPrefix_ok k y_1 (bs [45]) _ q8) (allC (cg q9) (allC (cg q10) (allC (optionTakerNext2_ok (k + 2) v_3 v_4 v_5 _ q11) (allC (cg q12) allN))))))))
              have q5 := q3 _ _ (by intro e; cases e) q4
              obtain rfl := Option.some.inj h
              exact retS_go (k := (k + 3)) (n := 1) Tryz.func67 Tryz.ntmps67 rfl (by kernel_rfl) (by kernel_rfl) (lb rfl) (adv [] [([], 1, .ret, (stOf (go (k + 3) 67 1 38 (adv [([], 1, 4, .eq (pI (v_4.length : Int))), ([], 1, 5, .eq (pB true)), ([], 2, 4, .elem [(pS y_1)]), ([], 2, 6, .ret (.tup [(pS r_1), (pB r_2)])), ([], 3, 2, .eq (pB false)), ([], 3, 5, .eq (pB false)), ([], 5, 1, .retS (pS r_3) [some ⟨3, 143, [[(pS r_4), (.list 1 false (r_5.map cS)), (.row [1, TAG] 1 0 r_6.length)]], false, false⟩, some ⟨2, 154, (r_6.map FlagD.c), true, true⟩] [0, 0]), ([], 6, 1, .eq (pB true))]) optionTakerAll_L1 (optionTakerAll_S1 (.inr ((v_3, v_4, v_5)))))))]) (ex := .ret) (r := ((.v .nilIface), [some ⟨3, 143, [[(pS r_4), (.list 1 false (r_5.map cS)), (.row [1, TAG] 1 0 r_6.length)]], false, false⟩, some ⟨2, 154, (r_6.map FlagD.c), true, true⟩], [0, 0])) (by kernel_rfl) rfl (by kernel_rfl) (allC q5 allN) (by kernel_rfl)
            · obtain ⟨X_3, q13, q2⟩ := bnd_some q2
              rcases X_3 with ⟨r_7, r_8, r_9⟩ | ⟨r_10, r_11, r_12⟩ | ⟨r_13, r_14, r_15⟩ | ⟨r_16, r_17, r_18⟩ | ⟨r_19, r_20, r_21⟩ | ⟨r_22, r_23, r_24⟩
              · try dsimp only at q2
                cases q2
                try dsimp only at h
                have q4 := run_go (k := (k + 3)) (f := 67) (r0 := 1) (nt := 38) (c := optionTakerAll_L1) (σ := (optionTakerAll_S1 (.inr ((v_3, v_4, v_5))))) (adv [([], 1, 4, .eq (pI (v_4.length : Int))), ([], 1, 5, .eq (pB true)), ([], 2, 4, .elem [(pS y_1)]), ([], 2, 6, .ret (.tup [(pS r_1), (pB r_2)])), ([], 3, 2, .eq (pB false)), ([], 3, 5, .eq (pB false)), ([], 5, 1, .retS (pS r_3) [some ⟨3, 143, [[(pS r_4), (.list 1 false (r_5.map cS)), (.row [1, TAG] 1 0 r_6.length)]], false, false⟩, some ⟨2, 154, (r_6.map FlagD.c), true, true⟩] [0, 0]), ([], 6, 1, .eq (pB false)), ([], 8, 2, .retS (.ifc 403 (.far 0)) [some ⟨3, 143, [[(pS r_7), (.list 1 false (r_8.map cS)), (.row [1, TAG] 1 0 r_9.length)]], false, false⟩, some ⟨2, 154, (r_9.map FlagD.c), true, true⟩] [0, 0])]) (ex := .ret) (by kernel_rfl) (by kernel_rfl) (allC (len_ob (rfl : (v_4.map cS) = v_4.map cS)) (allC (cg q6) (allC (gt_list (c := cS) q7) (allC (stringsCutPrefix_ok k y_1 (bs [45]) _ q8) (allC (cg q9) (allC (cg q10) (allC (optionTakerNext2_ok (k + 2) v_3 v_4 v_5 _ q11) (allC (cg q12) (allC (optionTakerGroup2_ok (k + 1) r_1 r_4 r_5 r_6 _ q13) allN)))))))))
                have q5 := q3 _ _ (by intro e; cases e) q4
                obtain rfl := Option.some.inj h
                exact retS_go (k := (k + 3)) (n := 1) Tryz.func67 Tryz.ntmps67 rfl (by kernel_rfl) (by kernel_rfl) (lb rfl) (adv [] [([], 1, .ret, (stOf (go (k + 3) 67 1 38 (adv [([], 1, 4, .eq (pI (v_4.length : Int))), ([], 1, 5, .eq (pB true)), ([], 2, 4, .elem [(pS y_1)]), ([], 2, 6, .ret (.tup [(pS r_1), (pB r_2)])), ([], 3, 2, .eq (pB false)), ([], 3, 5, .eq (pB false)), ([], 5, 1, .retS (pS r_3) [some ⟨3, 143, [[(pS r_4), (.list 1 false (r_5.map cS)), (.row [1, TAG] 1 0 r_6.length)]], false, false⟩, some ⟨2, 154, (r_6.map FlagD.c), true, true⟩] [0, 0]), ([], 6, 1, .eq (pB false)), ([], 8, 2, .retS (.ifc 403 (.far 0)) [some ⟨3, 143, [[(pS r_7), (.list 1 false (r_8.map cS)), (.row [1, TAG] 1 0 r_9.length)]], false, false⟩, some ⟨2, 154, (r_9.map FlagD.c), true, true⟩] [0, 0])]) optionTakerAll_L1 (optionTakerAll_S1 (.inr ((v_3, v_4, v_5)))))))]) (ex := .ret) (r := ((.ifc 403 (.far 0)), [some ⟨3, 143, [[(pS r_7), (.list 1 false (r_8.map cS)), (.row [1, TAG] 1 0 r_9.length)]], false, false⟩, some ⟨2, 154, (r_9.map FlagD.c), true, true⟩], [0, 0])) (by kernel_rfl) rfl (by kernel_rfl) (allC q5 allN) (by kernel_rfl)
              · try dsimp only at q2
                cases q2
                try dsimp only at h
                have q4 := run_go (k := (k + 3)) (f := 67) (r0 := 1) (nt := 38) (c := optionTakerAll_L1) (σ := (optionTakerAll_S1 (.inr ((v_3, v_4, v_5))))) (adv [([], 1, 4, .eq (pI (v_4.length : Int))), ([], 1, 5, .eq (pB true)), ([], 2, 4, .elem [(pS y_1)]), ([], 2, 6, .ret (.tup [(pS r_1), (pB r_2)])), ([], 3, 2, .eq (pB false)), ([], 3, 5, .eq (pB false)), ([], 5, 1, .retS (pS r_3) [some ⟨3, 143, [[(pS r_4), (.list 1 false (r_5.map cS)), (.row [1, TAG] 1 0 r_6.length)]], false, false⟩, some ⟨2, 154, (r_6.map FlagD.c), true, true⟩] [0, 0]), ([], 6, 1, .eq (pB false)), ([], 8, 2, .retS (.ifc 403 (.far 1)) [some ⟨3, 143, [[(pS r_10), (.list 1 false (r_11.map cS)), (.row [1, TAG] 1 0 r_12.length)]], false, false⟩, some ⟨2, 154, (r_12.map FlagD.c), true, true⟩] [0, 0])]) (ex := .ret) (by kernel_rfl) (by kernel_rfl) (allC (len_ob (rfl : (v_4.map cS) = v_4.map cS)) (allC (cg q6) (allC (gt_list (c := cS) q7) (allC (stringsCutPrefix_ok k y_1 (bs [45]) _ q8) (allC (cg q9) (allC (cg q10) (allC (optionTakerNext2_ok (k + 2) v_3 v_4 v_5 _ q11) (allC (cg q12) (allC (optionTakerGroup2_ok (k + 1) r_1 r_4 r_5 r_6 _ q13) allN)))))))))
                have q5 := q3 _ _ (by intro e; cases e) q4
                obtain rfl := Option.some.inj h
                exact retS_go (k := (k + 3)) (n := 1) Tryz.func67 Tryz.ntmps67 rfl (by kernel_rfl) (by kernel_rfl) (lb rfl) (adv [] [([], 1, .ret, (stOf (go (k + 3) 67 1 38 (adv [([], 1, 4, .eq (pI (v_4.length : Int))), ([], 1, 5, .eq (pB true)), ([], 2, 4, .elem [(pS y_1)]), ([], 2, 6, .ret (.tup [(pS r_1), (pB r_2)])), ([], 3, 2, .eq (pB false)), ([], 3, 5, .eq (pB false)), ([], 5, 1, .retS (pS r_3) [some ⟨3, 143, [[(pS r_4), (.list 1 false (r_5.map cS)), (.row [1, TAG] 1 0 r_6.length)]], false, false⟩, some ⟨2, 154, (r_6.map FlagD.c), true, true⟩] [0, 0]), ([], 6, 1, .eq (pB false)), ([], 8, 2, .retS (.ifc 403 (.far 1)) [some ⟨3, 143, [[(pS r_10), (.list 1 false (r_11.map cS)), (.row [1, TAG] 1 0 r_12.length)]], false, false⟩, some ⟨2, 154, (r_12.map FlagD.c), true, true⟩] [0, 0])]) optionTakerAll_L1 (optionTakerAll_S1 (.inr ((v_3, v_4, v_5)))))))]) (ex := .ret) (r := ((.ifc 403 (.far 1)), [some ⟨3, 143, [[(pS r_10), (.list 1 false (r_11.map cS)), (.row [1, TAG] 1 0 r_12.length)]], false, false⟩, some ⟨2, 154, (r_12.map FlagD.c), true, true⟩], [0, 0])) (by kernel_rfl) rfl (by kernel_rfl) (allC q5 allN) (by kernel_rfl)
              · try dsimp only at q2
                cases q2
              · try dsimp only at q2
                cases q2
                try dsimp only at h
                have q4 := run_go (k := (k + 3)) (f := 67) (r0 := 1) (nt := 38) (c := optionTakerAll_L1) (σ := (optionTakerAll_S1 (.inr ((v_3, v_4, v_5))))) (adv [([], 1, 4, .eq (pI (v_4.length : Int))), ([], 1, 5, .eq (pB true)), ([], 2, 4, .elem [(pS y_1)]), ([], 2, 6, .ret (.tup [(pS r_1), (pB r_2)])), ([], 3, 2, .eq (pB false)), ([], 3, 5, .eq (pB false)), ([], 5, 1, .retS (pS r_3) [some ⟨3, 143, [[(pS r_4), (.list 1 false (r_5.map cS)), (.row [1, TAG] 1 0 r_6.length)]], false, false⟩, some ⟨2, 154, (r_6.map FlagD.c), true, true⟩] [0, 0]), ([], 6, 1, .eq (pB false)), ([], 8, 2, .retS (.ifc 403 (.far 0)) [some ⟨3, 143, [[(pS r_16), (.list 1 false (r_17.map cS)), (.row [2, TAG] 1 0 r_18.length)]], false, false⟩, none, some ⟨2, 154, (r_18.map FlagD.c), true, true⟩] [0, 0, 0])]) (ex := .ret) (by kernel_rfl) (by kernel_rfl) (allC (len_ob (rfl : (v_4.map cS) = v_4.map cS)) (allC (cg q6) (allC (gt_list (c := cS) q7) (allC (stringsCutPrefix_ok k y_1 (bs [45]) _ q8) (allC (cg q9) (allC (cg q10) (allC (optionTakerNext2_ok (k + 2) v_3 v_4 v_5 _ q11) (allC (cg q12) (allC (optionTakerGroup2_ok (k + 1) r_1 r_4 r_5 r_6 _ q13) allN)))))))))
                have q5 := q3 _ _ (by intro e; cases e) q4
                obtain rfl := Option.some.inj h
                exact retS_go (k := (k + 3)) (n := 1) Tryz.func67 Tryz.ntmps67 rfl (by kernel_rfl) (by kernel_rfl) (lb rfl) (adv [] [([], 1, .ret, (stOf (go (k + 3) 67 1 38 (adv [([], 1, 4, .eq (pI (v_4.length : Int))), ([], 1, 5, .eq (pB true)), ([], 2, 4, .elem [(pS y_1)]), ([], 2, 6, .ret (.tup [(pS r_1), (pB r_2)])), ([], 3, 2, .eq (pB false)), ([], 3, 5, .eq (pB false)), ([], 5, 1, .retS (pS r_3) [some ⟨3, 143, [[(pS r_4), (.list 1 false (r_5.map cS)), (.row [1, TAG] 1 0 r_6.length)]], false, false⟩, some ⟨2, 154, (r_6.map FlagD.c), true, true⟩] [0, 0]), ([], 6, 1, .eq (pB false)), ([], 8, 2, .retS (.ifc 403 (.far 0)) [some ⟨3, 143, [[(pS r_16), (.list 1 false (r_17.map cS)), (.row [2, TAG] 1 0 r_18.length)]], false, false⟩, none, some ⟨2, 154, (r_18.map FlagD.c), true, true⟩] [0, 0, 0])]) optionTakerAll_L1 (optionTakerAll_S1 (.inr ((v_3, v_4, v_5)))))))]) (ex := .ret) (r := ((.ifc 403 (.far 0)), [some ⟨3, 143, [[(pS r_16), (.list 1 false (r_17.map cS)), (.row [1, TAG] 1 0 r_18.length)]], false, false⟩, some ⟨2, 154, (r_18.map FlagD.c), true, true⟩], [0, 0])) (by kernel_rfl) rfl (by kernel_rfl) (allC q5 allN) (by kernel_rfl)
              · try dsimp only at q2
                cases q2
                try dsimp only at h
                have q4 := run_go (k := (k + 3)) (f := 67) (r0 := 1) (nt := 38) (c := optionTakerAll_L1) (σ := (optionTakerAll_S1 (.inr ((v_3, v_4, v_5))))) (adv [([], 1, 4, .eq (pI (v_4.length : Int))), ([], 1, 5, .eq (pB true)), ([], 2, 4, .elem [(pS y_1)]), ([], 2, 6, .ret (.tup [(pS r_1), (pB r_2)])), ([], 3, 2, .eq (pB false)), ([], 3, 5, .eq (pB false)), ([], 5, 1, .retS (pS r_3) [some ⟨3, 143, [[(pS r_4), (.list 1 false (r_5.map cS)), (.row [1, TAG] 1 0 r_6.length)]], false, false⟩, some ⟨2, 154, (r_6.map FlagD.c), true, true⟩] [0, 0]), ([], 6, 1, .eq (pB false)), ([], 8, 2, .retS (.ifc 403 (.far 1)) [some ⟨3, 143, [[(pS r_19), (.list 1 false (r_20.map cS)), (.row [2, TAG] 1 0 r_21.length)]], false, false⟩, none, some ⟨2, 154, (r_21.map FlagD.c), true, true⟩] [0, 0, 0])]) (ex := .ret) (by kernel_rfl) (by kernel_rfl) (allC (len_ob (rfl : (v_4.map cS) = v_4.map cS)) (allC (cg q6) (allC (gt_list (c := cS) q7) (allC (stringsCutPrefix_ok k y_1 (bs [45]) _ q8) (allC (cg q9) (allC (cg q10) (allC (optionTakerNext2_ok (k + 2) v_3 v_4 v_5 _ q11) (allC (cg q12) (allC (optionTakerGroup2_ok (k + 1) r_1 r_4 r_5 r_6 _ q13) allN)))))))))
                have q5 := q3 _ _ (by intro e; cases e) q4
                obtain rfl := Option.some.inj h
                exact retS_go (k := (k + 3)) (n := 1) Tryz.func67 Tryz.ntmps67 rfl (by kernel_rfl) (by kernel_rfl) (lb rfl) (adv [] [([], 1, .ret, (stOf (go (k + 3) 67 1 38 (adv [([], 1, 4, .eq (pI (v_4.length : Int))), ([], 1, 5, .eq (pB true)), ([], 2, 4, .elem [(pS y_1)]), ([], 2, 6, .ret (.tup [(pS r_1), (pB r_2)])), ([], 3, 2, .eq (pB false)), ([], 3, 5, .eq (pB false)), ([], 5, 1, .retS (pS r_3) [some ⟨3, 143, [[(pS r_4), (.list 1 false (r_5.map cS)), (.row [1, TAG] 1 0 r_6.length)]], false, false⟩, some ⟨2, 154, (r_6.map FlagD.c), true, true⟩] [0, 0]), ([], 6, 1, .eq (pB false)), ([], 8, 2, .retS (.ifc 403 (.far 1)) [some ⟨3, 143, [[(pS r_19), (.list 1 false (r_20.map cS)), (.row [2, TAG] 1 0 r_21.length)]], false, false⟩, none, some ⟨2, 154, (r_21.map FlagD.c), true, true⟩] [0, 0, 0])]) optionTakerAll_L1 (optionTakerAll_S1 (.inr ((v_3, v_4, v_5)))))))]) (ex := .ret) (r := ((.ifc 403 (.far 1)), [some ⟨3, 143, [[(pS r_19), (.list 1 false (r_20.map cS)), (.row [1, TAG] 1 0 r_21.length)]], false, false⟩, some ⟨2, 154, (r_21.map FlagD.c), true, true⟩], [0, 0])) (by kernel_rfl) rfl (by kernel_rfl) (allC q5 allN) (by kernel_rfl)
              · try dsimp only at q2
                cases q2
    · cases q2
      try dsimp only at h
      have q4 := run_go (k := (k + 3)) (f := 67) (r0 := 1) (nt := 38) (c := optionTakerAll_L1) (σ := (optionTakerAll_S1 (.inr ((v_3, v_4, v_5))))) (adv [([], 1, 4, .eq (pI (v_4.length : Int))), ([], 1, 5, .eq (pB false))]) (ex := (.exit 0)) (by kernel_rfl) (by kernel_rfl) (allC (len_ob (rfl : (v_4.map cS) = v_4.map cS)) (allC (cg q6) allN))
      have q5 := q3 _ _ (by intro e; cases e) q4
      obtain rfl := Option.some.inj h
      exact retS_go (k := (k + 3)) (n := 1) Tryz.func67 Tryz.ntmps67 rfl (by kernel_rfl) (by kernel_rfl) (lb rfl) (adv [] [([], 1, (.exit 0), (stOf (go (k + 3) 67 1 38 (adv [([], 1, 4, .eq (pI (v_4.length : Int))), ([], 1, 5, .eq (pB false))]) optionTakerAll_L1 (optionTakerAll_S1 (.inr ((v_3, v_4, v_5)))))))]) (ex := .ret) (r := ((.v .nilIface), [some ⟨3, 143, [[(pS v_3), (.list 1 false (v_4.map cS)), (.row [1, TAG] 1 0 v_5.length)]], false, false⟩, some ⟨2, 154, (v_5.map FlagD.c), true, true⟩], [0, 0])) (by kernel_rfl) rfl (by kernel_rfl) (allC q5 allN) (by kernel_rfl)
end Go.Proofs.YtdbekeidlppfiaaGreatDoor.Den
namespace Go.Proofs.YtdbekeidlppfiaaGreatDoor.Den
open Go Go.RowKit
def optionParse (spec : ByteArray) (argv : (List ByteArray)) : Option ((List FlagD) × (List ByteArray) × Int) :=
 grd (room (argv.length) 16) <|
 (optionTakerAll spec argv).bind fun X_1 => match X_1 with
 | .inl (r_1, r_2) => (
 some ([], r_2, (0 : Int))
 )
 | .inr (.inl (r_3, r_4)) => (
 some ([], [], (30 : Int))
 )
 | .inr (.inr (.inl (r_5, r_6))) => (
 some ([], [], (31 : Int))
 )
 | .inr (.inr (.inr (.inl (r_7, r_8, r_9)))) => (
 some ([], [], (30 : Int))
 )
 | .inr (.inr (.inr (.inr (.inl (r_10, r_11, r_12))))) => (
 some ([], [], (31 : Int))
 )
 | .inr (.inr (.inr (.inr (.inr ((r_13, r_14, r_15)))))) => (
 some (r_15, r_14, (0 : Int))
 )
set_option maxRecDepth 100000 in
theorem optionParse_ok (k : Nat) (spec : ByteArray) (argv : (List ByteArray)) (r : ((List FlagD) × (List ByteArray) × Int)) (h : optionParse spec argv = some r) : run0 (k + 5) 25 [(pS spec), (.list 1 false (argv.map cS))] = some (.tup [(.list 2 false (r.1.map FlagD.c)), (.list 1 false (r.2.1.map cS)), (pI r.2.2)]) := by
  unfold optionParse at h
  obtain ⟨q1, h⟩ := grd_some h
  obtain ⟨X_1, q2, h⟩ := bnd_some h
  rcases X_1 with ⟨r_1, r_2⟩ | ⟨r_3, r_4⟩ | ⟨r_5, r_6⟩ | ⟨r_7, r_8, r_9⟩ | ⟨r_10, r_11, r_12⟩ | ⟨r_13, r_14, r_15⟩
  · try dsimp only at h
    obtain rfl := Option.some.inj h
    exact ret_go (k := (k + 4)) Tryz.func25 Tryz.ntmps25 (by kernel_rfl) (by kernel_rfl) (lb rfl) (adv [([], 1, 2, .ret (.list 1 false (argv.map cS))), ([], 2, 1, .retS (.v .nilIface) [some ⟨3, 143, [[(pS r_1), (.list 1 false (r_2.map cS)), (.v (.slice none 0 0))]], true, false⟩] [0])]) (ex := .ret) (r := (.tup [(.list 2 false []), (.list 1 false (r_2.map cS)), (pI (0 : Int))])) (by kernel_rfl) rfl (by kernel_rfl) (allC (cloneS_ok (k + 4) (rfl : (argv.map cS) = argv.map cS) q1) (allC (optionTakerAll_ok k spec argv _ q2) allN)) (by kernel_rfl) allN
  · try dsimp only at h
    obtain rfl := Option.some.inj h
    exact ret_go (k := (k + 4)) Tryz.func25 Tryz.ntmps25 (by kernel_rfl) (by kernel_rfl) (lb rfl) (adv [([], 1, 2, .ret (.list 1 false (argv.map cS))), ([], 2, 1, .retS (.ifc 403 (.far 0)) [some ⟨3, 143, [[(pS r_3), (.list 1 false (r_4.map cS)), (.v (.slice none 0 0))]], true, false⟩] [0])]) (ex := .ret) (r := (.tup [(.list 2 false []), (.list 1 false []), (pI (30 : Int))])) (by kernel_rfl) rfl (by kernel_rfl) (allC (cloneS_ok (k + 4) (rfl : (argv.map cS) = argv.map cS) q1) (allC (optionTakerAll_ok k spec argv _ q2) allN)) (by kernel_rfl) allN
  · try dsimp only at h
    obtain rfl := Option.some.inj h
    exact ret_go (k := (k + 4)) Tryz.func25 Tryz.ntmps25 (by kernel_rfl) (by kernel_rfl) (lb rfl) (adv [([], 1, 2, .ret (.list 1 false (argv.map cS))), ([], 2, 1, .retS (.ifc 403 (.far 1)) [some ⟨3, 143, [[(pS r_5), (.list 1 false (r_6.map cS)), (.v (.slice none 0 0))]], true, false⟩] [0])]) (ex := .ret) (r := (.tup [(.list 2 false []), (.list 1 false []), (pI (31 : Int))])) (by kernel_rfl) rfl (by kernel_rfl) (allC (cloneS_ok (k + 4) (rfl : (argv.map cS) = argv.map cS) q1) (allC (optionTakerAll_ok k spec argv _ q2) allN)) (by kernel_rfl) allN
  · try dsimp only at h
    obtain rfl := Option.some.inj h
    exact ret_go (k := (k + 4)) Tryz.func25 Tryz.ntmps25 (by kernel_rfl) (by kernel_rfl) (lb rfl) (adv [([], 1, 2, .ret (.list 1 false (argv.map cS))), ([], 2, 1, .retS (.ifc 403 (.far 0)) [some ⟨3, 143, [[(pS r_7), (.list 1 false (r_8.map cS)), (.row [1, TAG] 1 0 r_9.length)]], false, false⟩, some ⟨2, 154, (r_9.map FlagD.c), true, true⟩] [0, 0])]) (ex := .ret) (r := (.tup [(.list 2 false []), (.list 1 false []), (pI (30 : Int))])) (by kernel_rfl) rfl (by kernel_rfl) (allC (cloneS_ok (k + 4) (rfl : (argv.map cS) = argv.map cS) q1) (allC (optionTakerAll_ok k spec argv _ q2) allN)) (by kernel_rfl) allN
  · try dsimp only at h
    obtain rfl := Option.some.inj h
    exact ret_go (k := (k + 4)) Tryz.func25 Tryz.ntmps25 (by kernel_rfl) (by kernel_rfl) (lb rfl) (adv [([], 1, 2, .ret (.list 1 false (argv.map cS))), ([], 2, 1, .retS (.ifc 403 (.far 1)) [some ⟨3, 143, [[(pS r_10), (.list 1 false (r_11.map cS)), (.row [1, TAG] 1 0 r_12.length)]], false, false⟩, some ⟨2, 154, (r_12.map FlagD.c), true, true⟩] [0, 0])]) (ex := .ret) (r := (.tup [(.list 2 false []), (.list 1 false []), (pI (31 : Int))])) (by kernel_rfl) rfl (by kernel_rfl) (allC (cloneS_ok (k + 4) (rfl : (argv.map cS) = argv.map cS) q1) (allC (optionTakerAll_ok k spec argv _ q2) allN)) (by kernel_rfl) allN
  · try dsimp only at h
    obtain rfl := Option.some.inj h
    exact ret_go (k := (k + 4)) Tryz.func25 Tryz.ntmps25 (by kernel_rfl) (by kernel_rfl) (lb rfl) (adv [([], 1, 2, .ret (.list 1 false (argv.map cS))), ([], 2, 1, .retS (.v .nilIface) [some ⟨3, 143, [[(pS r_13), (.list 1 false (r_14.map cS)), (.row [1, TAG] 1 0 r_15.length)]], false, false⟩, some ⟨2, 154, (r_15.map FlagD.c), true, true⟩] [0, 0])]) (ex := .ret) (r := (.tup [(.list 2 false (r_15.map FlagD.c)), (.list 1 false (r_14.map cS)), (pI (0 : Int))])) (by kernel_rfl) rfl (by kernel_rfl) (allC (cloneS_ok (k + 4) (rfl : (argv.map cS) = argv.map cS) q1) (allC (optionTakerAll_ok k spec argv _ q2) allN)) (by kernel_rfl) (allC (row_ok (rfl : (r_15.map FlagD.c) = r_15.map FlagD.c) (rfl : r_15.length = r_15.length)) allN)
def jobFail (j : JobD) (path : ByteArray) (e : Int) : Option JobD :=
 grd (¬ (((path.size + (bs [58, 32, 101, 114, 114, 111, 114, 32]).size : Nat) : Int) > IntKind.i64.max)) <|
 (itoaX e).bind fun r_1 =>
 grd (¬ ((((path ++ (bs [58, 32, 101, 114, 114, 111, 114, 32])).size + r_1.size : Nat) : Int) > IntKind.i64.max)) <|
 some (JobD.mk j.kind j.p j.phase j.fd j.nF j.modeF j.tries j.atF j.flags j.path j.path2 j.text j.names j.stack j.draws true (1 : Int) ((path ++ (bs [58, 32, 101, 114, 114, 111, 114, 32])) ++ r_1) e)
set_option maxRecDepth 100000 in
theorem jobFail_ok (k : Nat) (j : JobD) (path : ByteArray) (e : Int) (r : JobD) (h : jobFail j path e = some r) : run0 (k + 1) 26 [(JobD.a j), (pS path), (pI e)] = some (JobD.a r) := by
  unfold jobFail at h
  obtain ⟨q1, h⟩ := grd_some h
  obtain ⟨r_1, q2, h⟩ := bnd_some h
  obtain ⟨q3, h⟩ := grd_some h
  obtain rfl := Option.some.inj h
  exact ret_go (k := k) Tryz.func26 Tryz.ntmps26 (by kernel_rfl) (by kernel_rfl) (lb rfl) (adv [([], 1, 2, .cat), ([], 1, 4, .ret (pS r_1)), ([], 1, 5, .cat)]) (ex := .ret) (r := (.agg [(pI j.kind), (pI j.p), (pI j.phase), (pI j.fd), (pI j.nF), (pI j.modeF), (pI j.tries), (pI j.atF), (pI j.flags), (pS j.path), (pS j.path2), (pS j.text), (.list 1 false (j.names.map cS)), (.list 3 false (j.stack.map FrameD.c)), (.list 1 false (j.draws.map cI)), (pB true), (pI (1 : Int)), (pS ((path ++ (bs [58, 32, 101, 114, 114, 111, 114, 32])) ++ r_1)), (pI e)])) (by kernel_rfl) rfl (by kernel_rfl) (allC q1 (allC (itoaX_ok k e _ q2) (allC q3 allN))) (by kernel_rfl) allN
def optionHas1 (p0 : Int) (p1 : ByteArray) (p2 : Int) : Option (Bool × Int) :=
 some ((p0 == p2), p2)
def optionHas1_out : (Bool × Int) → PV × List (Option Blk) × List Nat
 | (r0, r1) => ((pB r0), [some ⟨1, 5, [[(.v (.int .u8 r1))]], true, false⟩], [0])
set_option maxRecDepth 100000 in
theorem optionHas1_ok (k : Nat) (p0 : Int) (p1 : ByteArray) (p2 : Int) (r : (Bool × Int)) (h : optionHas1 p0 p1 p2 = some r) : runS0 (k + 1) 73 [(.agg [(.v (.int .u8 p0)), (pS p1)]), (.ptr [0, TAG] 1 0 0)] [some ⟨1, 5, [[(.v (.int .u8 p2))]], true, false⟩] [0] = some (optionHas1_out r) := by
  unfold optionHas1 at h
  obtain rfl := Option.some.inj h
  exact retS_go (k := k) (n := 1) Tryz.func73 Tryz.ntmps73 rfl (by kernel_rfl) (by kernel_rfl) (lb rfl) (adv []) (ex := .ret) (r := ((pB (p0 == p2)), [some ⟨1, 5, [[(.v (.int .u8 p2))]], true, false⟩], [0])) (by kernel_rfl) rfl (by kernel_rfl) allN (by kernel_rfl)
noncomputable def slicesIndexFunc_L2 : Code := cAt (codeOf Tryz.f122) [true, false, true, false, false]
def slicesIndexFunc_R2 (x0 : List (List PV)) (x1 : Int) (x2 : Int) (x3 : Int) : St := ⟨envL [(0, (.list 2 false x0)), (1, (.clo 73 [(.ptr [0, TAG] 1 0 0)])), (7, (pI x1)), (8, (pI x2))], hsL [some ⟨1, 5, [[(.v (.int .u8 x3))]], true, false⟩] [0]⟩
def slicesIndexFunc_S2 (p0 : (List FlagD)) (p1 : Int) : (Int × Int) → St
 | (v0, v1) => slicesIndexFunc_R2 (p0.map FlagD.c) p1 v0 v1
def slicesIndexFunc_b2 (p0 : (List FlagD)) (p1 : Int) : (Int × Int) → Option ((Int × Int) ⊕ ((Int × Int × FlagD × Bool × Int) ⊕ (Int × Int)))
 | (v0, v1) =>
 bif (decide (v0 < p1)) then (
 (gt p0 v0).bind fun y_1 =>
 (optionHas1 y_1.letter y_1.value v1).bind fun (r_1, r_2) =>
 bif r_1 then (
 some (.inr (.inl (v0, v1, y_1, r_1, r_2)))
 ) else (
 some (.inl ((w64 (v0 + (1 : Int))), r_2))
 )
 ) else (
 some (.inr (.inr ((v0, v1))))
 )
set_option maxRecDepth 100000 in
theorem slicesIndexFunc_t2 (k : Nat) (p0 : (List FlagD)) (p1 : Int) (a a1 : (Int × Int)) (h : slicesIndexFunc_b2 p0 p1 a = some (.inl a1)) : ∃ σ, run1 (k + 1) 122 1 19 slicesIndexFunc_L2 (slicesIndexFunc_S2 p0 p1 a) = some (.normal, σ) ∧ canonS 1 [0, 1, 7, 8] σ = some (slicesIndexFunc_S2 p0 p1 a1) := by
  obtain ⟨v0, v1⟩ := a
  unfold slicesIndexFunc_b2 at h
  try dsimp only at h
  rcases bif_some h with ⟨q1, h⟩ | ⟨q1, h⟩
  · obtain ⟨y_1, q2, h⟩ := bnd_some h
    obtain ⟨X_1, q3, h⟩ := bnd_some h
    rcases X_1 with ⟨r_1, r_2⟩
    · try dsimp only at h
      rcases bif_some h with ⟨q4, h⟩ | ⟨q4, h⟩
      · revert h; subst q4; intro h
        cases h
      · revert h; subst q4; intro h
        obtain rfl := Sum.inl.inj (Option.some.inj h)
        exact ⟨_, run_go (k := (k + 1)) (f := 122) (r0 := 1) (nt := 19) (c := slicesIndexFunc_L2) (σ := (slicesIndexFunc_S2 p0 p1 (v0, v1))) (adv [([], 2, 0, .eq (pB true)), ([], 4, 3, .elem [(.v (.int .u8 y_1.letter)), (pS y_1.value)]), ([], 4, 5, .retS (pB false) [some ⟨1, 5, [[(.v (.int .u8 r_2))]], true, false⟩] [0])]) (ex := .normal) (by kernel_rfl) (by kernel_rfl) (allC (cg q1) (allC (gt_list (c := FlagD.c) q2) (allC (optionHas1_ok k y_1.letter y_1.value v1 _ q3) allN))), (by kernel_rfl)⟩
  · cases h
def slicesIndexFunc (p0 : (List FlagD)) (p1 : Int) : Option (Int × Int) :=
 (iterN (slicesIndexFunc_b2 p0 (p0.length : Int)) LF ((0 : Int), p1)).bind fun X_1 => match X_1 with
 | .inl (v_1, v_2, y_1, r_1, r_2) => (
 some (v_1, r_2)
 )
 | .inr ((v_1, v_2)) => (
 some ((-1 : Int), v_2)
 )
def slicesIndexFunc_out : (Int × Int) → PV × List (Option Blk) × List Nat
 | (r0, r1) => ((pI r0), [some ⟨1, 5, [[(.v (.int .u8 r1))]], true, false⟩], [0])
set_option maxRecDepth 100000 in
theorem slicesIndexFunc_ok (k : Nat) (p0 : (List FlagD)) (p1 : Int) (r : (Int × Int)) (h : slicesIndexFunc p0 p1 = some r) : runS0 (k + 2) 122 [(.list 2 false (p0.map FlagD.c)), (.clo 73 [(.ptr [0, TAG] 1 0 0)])] [some ⟨1, 5, [[(.v (.int .u8 p1))]], true, false⟩] [0] = some (slicesIndexFunc_out r) := by
  unfold slicesIndexFunc at h
  obtain ⟨X_1, q1, h⟩ := bnd_some h
  obtain ⟨a_1, q2, q3⟩ := loop_iter (f := run1 (k + 1) 122 1 19 slicesIndexFunc_L2) (slicesIndexFunc_S2 p0 (p0.length : Int)) (slicesIndexFunc_b2 p0 (p0.length : Int)) (slicesIndexFunc_t2 k p0 (p0.length : Int)) LF ((0 : Int), p1) _ (stOf (goStop (k + 1) 122 1 19 (adv [([], 1, 1, .eq (pI (p0.length : Int)))]) 2 (codeOf Tryz.f122) (argB 122 [(.list 2 false (p0.map FlagD.c)), (.clo 73 [(.ptr [0, TAG] 1 0 0)])] [some ⟨1, 5, [[(.v (.int .u8 p1))]], true, false⟩] [0]))) q1 (by kernel_rfl)
  obtain ⟨v_1, v_2⟩ := a_1
  unfold slicesIndexFunc_b2 at q2
  try dsimp only at q2
  rcases bif_some q2 with ⟨q6, q2⟩ | ⟨q6, q2⟩
  · obtain ⟨y_1, q7, q2⟩ := bnd_some q2
    obtain ⟨X_2, q8, q2⟩ := bnd_some q2
    rcases X_2 with ⟨r_1, r_2⟩
    · try dsimp only at q2
      rcases bif_some q2 with ⟨q9, q2⟩ | ⟨q9, q2⟩
      · revert q2; subst q9; intro q2
        cases q2
        try dsimp only at h
        have q4 := run_go (k := (k + 1)) (f := 122) (r0 := 1) (nt := 19) (c := slicesIndexFunc_L2) (σ := (slicesIndexFunc_S2 p0 (p0.length : Int) (v_1, v_2))) (adv [([], 2, 0, .eq (pB true)), ([], 4, 3, .elem [(.v (.int .u8 y_1.letter)), (pS y_1.value)]), ([], 4, 5, .retS (pB true) [some ⟨1, 5, [[(.v (.int .u8 r_2))]], true, false⟩] [0])]) (ex := .ret) (by kernel_rfl) (by kernel_rfl) (allC (cg q6) (allC (gt_list (c := FlagD.c) q7) (allC (optionHas1_ok k y_1.letter y_1.value v_2 _ q8) allN)))
        have q5 := q3 _ _ (by intro e; cases e) q4
        obtain rfl := Option.some.inj h
        exact retS_go (k := (k + 1)) (n := 1) Tryz.func122 Tryz.ntmps122 rfl (by kernel_rfl) (by kernel_rfl) (lb rfl) (adv [([], 1, 1, .eq (pI (p0.length : Int)))] [([], 2, .ret, (stOf (go (k + 1) 122 1 19 (adv [([], 2, 0, .eq (pB true)), ([], 4, 3, .elem [(.v (.int .u8 y_1.letter)), (pS y_1.value)]), ([], 4, 5, .retS (pB true) [some ⟨1, 5, [[(.v (.int .u8 r_2))]], true, false⟩] [0])]) slicesIndexFunc_L2 (slicesIndexFunc_S2 p0 (p0.length : Int) (v_1, v_2)))))]) (ex := .ret) (r := ((pI v_1), [some ⟨1, 5, [[(.v (.int .u8 r_2))]], true, false⟩], [0])) (by kernel_rfl) rfl (by kernel_rfl) (allC (len_ob (rfl : (p0.map FlagD.c) = p0.map FlagD.c)) (allC q5 allN)) (by kernel_rfl)
      · revert q2; subst q9; intro q2
        cases q2
  · cases q2
    try dsimp only at h
    have q4 := run_go (k := (k + 1)) (f := 122) (r0 := 1) (nt := 19) (c := slicesIndexFunc_L2) (σ := (slicesIndexFunc_S2 p0 (p0.length : Int) (v_1, v_2))) (adv [([], 2, 0, .eq (pB false))]) (ex := (.exit 0)) (by kernel_rfl) (by kernel_rfl) (allC (cg q6) allN)
    have q5 := q3 _ _ (by intro e; cases e) q4
    obtain rfl := Option.some.inj h
    exact retS_go (k := (k + 1)) (n := 1) Tryz.func122 Tryz.ntmps122 rfl (by kernel_rfl) (by kernel_rfl) (lb rfl) (adv [([], 1, 1, .eq (pI (p0.length : Int)))] [([], 2, (.exit 0), (stOf (go (k + 1) 122 1 19 (adv [([], 2, 0, .eq (pB false))]) slicesIndexFunc_L2 (slicesIndexFunc_S2 p0 (p0.length : Int) (v_1, v_2)))))]) (ex := .ret) (r := ((pI (-1 : Int)), [some ⟨1, 5, [[(.v (.int .u8 v_2))]], true, false⟩], [0])) (by kernel_rfl) rfl (by kernel_rfl) (allC (len_ob (rfl : (p0.map FlagD.c) = p0.map FlagD.c)) (allC q5 allN)) (by kernel_rfl)
def slicesContainsFunc (p0 : (List FlagD)) (p1 : Int) : Option (Bool × Int) :=
 (slicesIndexFunc p0 p1).bind fun (r_1, r_2) =>
 some ((decide (r_1 ≥ (0 : Int))), r_2)
def slicesContainsFunc_out : (Bool × Int) → PV × List (Option Blk) × List Nat
 | (r0, r1) => ((pB r0), [some ⟨1, 5, [[(.v (.int .u8 r1))]], true, false⟩], [0])
set_option maxRecDepth 100000 in
theorem slicesContainsFunc_ok (k : Nat) (p0 : (List FlagD)) (p1 : Int) (r : (Bool × Int)) (h : slicesContainsFunc p0 p1 = some r) : runS0 (k + 3) 72 [(.list 2 false (p0.map FlagD.c)), (.clo 73 [(.ptr [0, TAG] 1 0 0)])] [some ⟨1, 5, [[(.v (.int .u8 p1))]], true, false⟩] [0] = some (slicesContainsFunc_out r) := by
  unfold slicesContainsFunc at h
  obtain ⟨X_1, q1, h⟩ := bnd_some h
  rcases X_1 with ⟨r_1, r_2⟩
  · try dsimp only at h
    obtain rfl := Option.some.inj h
    exact retS_go (k := (k + 2)) (n := 1) Tryz.func72 Tryz.ntmps72 rfl (by kernel_rfl) (by kernel_rfl) (lb rfl) (adv [([], 1, 2, .retS (pI r_1) [some ⟨1, 5, [[(.v (.int .u8 r_2))]], true, false⟩] [0])]) (ex := .ret) (r := ((pB (decide (r_1 ≥ (0 : Int)))), [some ⟨1, 5, [[(.v (.int .u8 r_2))]], true, false⟩], [0])) (by kernel_rfl) rfl (by kernel_rfl) (allC (slicesIndexFunc_ok k p0 p1 _ q1) allN) (by kernel_rfl)
def optionHas (l : (List FlagD)) (letter : Int) : Option Bool :=
 (slicesContainsFunc l letter).bind fun (r_1, r_2) =>
 some r_1
set_option maxRecDepth 100000 in
theorem optionHas_ok (k : Nat) (l : (List FlagD)) (letter : Int) (r : Bool) (h : optionHas l letter = some r) : run0 (k + 4) 28 [(.list 2 false (l.map FlagD.c)), (.v (.int .u8 letter))] = some (pB r) := by
  unfold optionHas at h
  obtain ⟨X_1, q1, h⟩ := bnd_some h
  rcases X_1 with ⟨r_1, r_2⟩
  · try dsimp only at h
    obtain rfl := Option.some.inj h
    exact ret_go (k := (k + 3)) Tryz.func28 Tryz.ntmps28 (by kernel_rfl) (by kernel_rfl) (lb rfl) (adv [([], 1, 2, .retS (pB r_1) [some ⟨1, 5, [[(.v (.int .u8 r_2))]], true, false⟩] [0])]) (ex := .ret) (r := (pB r_1)) (by kernel_rfl) rfl (by kernel_rfl) (allC (slicesContainsFunc_ok k l letter _ q1) allN) (by kernel_rfl) allN
end Go.Proofs.YtdbekeidlppfiaaGreatDoor.Den
namespace Go.Proofs.YtdbekeidlppfiaaGreatDoor.Den
open Go Go.RowKit
noncomputable def cloneStart_L8 : Code := cAt (codeOf Tryz.f7) [true, true, true, true, true, false, true, false, false]
def cloneStart_R8 (x0 : List (List PV)) (x1 : List (List PV)) (x2 : List (List PV)) (x3 : Int) (x4 : Int) (x5 : Int) (x6 : Int) (x7 : Int) (x8 : Int) (x9 : Int) (x10 : Int) (x11 : Int) (x12 : Int) (x13 : Int) (x14 : ByteArray) (x15 : ByteArray) (x16 : ByteArray) (x17 : List (List PV)) (x18 : List (List PV)) (x19 : List (List PV)) (x20 : Bool) (x21 : Int) (x22 : ByteArray) (x23 : Int) : St := ⟨envL [(6, (.ptr [0, TAG] 1 0 0)), (7, (.ptr [1, TAG] 1 0 0)), (8, (.list 2 false x0)), (9, (.list 1 false x1)), (35, (.list 1 false x2)), (36, (pI x3)), (37, (pI x4))], hsL [some ⟨19, 29, [[(pI (0 : Int)), (pI (0 : Int)), (pI (0 : Int)), (pI (0 : Int)), (pI (0 : Int)), (pI (0 : Int)), (pI (0 : Int)), (pI (0 : Int)), (pI (0 : Int)), (pS (bs [])), (pS (bs [])), (pS (bs [])), (.v (.slice none 0 0)), (.v (.slice none 0 0)), (.v (.slice none 0 0)), (pB false), (pI (0 : Int)), (pS (bs [])), (pI (0 : Int))]], true, false⟩, some ⟨19, 29, [[(pI x5), (pI x6), (pI x7), (pI x8), (pI x9), (pI x10), (pI x11), (pI x12), (pI x13), (pS x14), (pS x15), (pS x16), (.list 1 false x17), (.list 3 false x18), (.list 1 false x19), (pB x20), (pI x21), (pS x22), (pI x23)]], true, false⟩] [0, 0]⟩
def cloneStart_S8 (p0 : (List FlagD)) (p1 : (List ByteArray)) (p2 : (List ByteArray)) (p3 : Int) (p4 : Int) (p5 : Int) (p6 : Int) (p7 : Int) (p8 : Int) (p9 : Int) (p10 : Int) (p11 : Int) (p12 : Int) (p13 : ByteArray) (p14 : ByteArray) (p15 : ByteArray) (p16 : (List ByteArray)) (p17 : (List FrameD)) (p18 : (List Int)) (p19 : Bool) (p20 : Int) (p21 : ByteArray) (p22 : Int) : Int → St
 | v0 => cloneStart_R8 (p0.map FlagD.c) (p1.map cS) (p2.map cS) p3 v0 p4 p5 p6 p7 p8 p9 p10 p11 p12 p13 p14 p15 (p16.map cS) (p17.map FrameD.c) (p18.map cI) p19 p20 p21 p22
def cloneStart_b8 (p0 : (List FlagD)) (p1 : (List ByteArray)) (p2 : (List ByteArray)) (p3 : Int) (p4 : Int) (p5 : Int) (p6 : Int) (p7 : Int) (p8 : Int) (p9 : Int) (p10 : Int) (p11 : Int) (p12 : Int) (p13 : ByteArray) (p14 : ByteArray) (p15 : ByteArray) (p16 : (List ByteArray)) (p17 : (List FrameD)) (p18 : (List Int)) (p19 : Bool) (p20 : Int) (p21 : ByteArray) (p22 : Int) : Int → Option (Int ⊕ ((Int × ByteArray × Int × JobD) ⊕ Int))
 | v0 =>
 bif (decide (v0 < p3)) then (
 (gt p2 v0).bind fun y_1 =>
 (checkX y_1).bind fun r_1 =>
 bif (r_1 != (0 : Int)) then (
 (jobFail (JobD.mk p4 p5 p6 p7 p8 p9 p10 p11 p12 p13 p14 p15 p16 p17 p18 p19 p20 p21 p22) y_1 r_1).bind fun r_2 =>
 some (.inr (.inl (v0, y_1, r_1, r_2)))
 ) else (
 some (.inl (w64 (v0 + (1 : Int))))
 )
 ) else (
 some (.inr (.inr (v0)))
 )
set_option maxRecDepth 100000 in
theorem cloneStart_t8 (k : Nat) (p0 : (List FlagD)) (p1 : (List ByteArray)) (p2 : (List ByteArray)) (p3 : Int) (p4 : Int) (p5 : Int) (p6 : Int) (p7 : Int) (p8 : Int) (p9 : Int) (p10 : Int) (p11 : Int) (p12 : Int) (p13 : ByteArray) (p14 : ByteArray) (p15 : ByteArray) (p16 : (List ByteArray)) (p17 : (List FrameD)) (p18 : (List Int)) (p19 : Bool) (p20 : Int) (p21 : ByteArray) (p22 : Int) (v0 a1 : Int) (h : cloneStart_b8 p0 p1 p2 p3 p4 p5 p6 p7 p8 p9 p10 p11 p12 p13 p14 p15 p16 p17 p18 p19 p20 p21 p22 v0 = some (.inl a1)) : ∃ σ, run1 (k + 5) 7 0 62 cloneStart_L8 (cloneStart_S8 p0 p1 p2 p3 p4 p5 p6 p7 p8 p9 p10 p11 p12 p13 p14 p15 p16 p17 p18 p19 p20 p21 p22 v0) = some (.normal, σ) ∧ canonS 0 [6, 7, 8, 9, 35, 36, 37] σ = some (cloneStart_S8 p0 p1 p2 p3 p4 p5 p6 p7 p8 p9 p10 p11 p12 p13 p14 p15 p16 p17 p18 p19 p20 p21 p22 a1) := by
  unfold cloneStart_b8 at h
  try dsimp only at h
  rcases bif_some h with ⟨q1, h⟩ | ⟨q1, h⟩
  · obtain ⟨y_1, q2, h⟩ := bnd_some h
    obtain ⟨r_1, q3, h⟩ := bnd_some h
    rcases bif_some h with ⟨q4, h⟩ | ⟨q4, h⟩
    · obtain ⟨r_2, q5, h⟩ := bnd_some h
      cases h
    · obtain rfl := Sum.inl.inj (Option.some.inj h)
      exact ⟨_, run_go (k := (k + 5)) (f := 7) (r0 := 0) (nt := 62) (c := cloneStart_L8) (σ := (cloneStart_S8 p0 p1 p2 p3 p4 p5 p6 p7 p8 p9 p10 p11 p12 p13 p14 p15 p16 p17 p18 p19 p20 p21 p22 v0)) (adv [([], 8, 0, .eq (pB true)), ([], 9, 0, .elem [(pS y_1)]), ([], 10, 1, .ret (pI r_1)), ([], 11, 1, .eq (pB false))]) (ex := .normal) (by kernel_rfl) (by kernel_rfl) (allC (cg q1) (allC (gt_list (c := cS) q2) (allC (checkX_ok (k + 5) y_1 _ q3) (allC (cg q4) allN)))), (by kernel_rfl)⟩
  · cases h
def cloneStart (p : Int) (argv : (List ByteArray)) (draws : (List Int)) : Option JobD :=
 (jobNew (3 : Int) p draws).bind fun r_1 =>
 (optionParse (bs [82]) argv).bind fun (r_2, r_3, r_4) =>
 bif (r_4 == (0 : Int)) then (
 bif ((r_3.length : Int) != (2 : Int)) then (
 (jobFail r_1 (bs [99, 112]) (1 : Int)).bind fun r_5 =>
 some r_5
 ) else (
 bif (r_4 != (0 : Int)) then (
 (jobFail r_1 (bs [99, 112]) r_4).bind fun r_5 =>
 some r_5
 ) else (
 (iterN (cloneStart_b8 r_2 r_3 r_3 (r_3.length : Int) r_1.kind r_1.p r_1.phase r_1.fd r_1.nF r_1.modeF r_1.tries r_1.atF r_1.flags r_1.path r_1.path2 r_1.text r_1.names r_1.stack r_1.draws r_1.done r_1.exit r_1.out r_1.e) LF (0 : Int)).bind fun X_1 => match X_1 with
 | .inl (v_1, y_1, r_5, r_6) => (
 some r_6
 )
 | .inr (v_1) => (
 (gt r_3 (0 : Int)).bind fun y_2 =>
 (gt r_3 (1 : Int)).bind fun y_3 =>
 (optionHas r_2 (82 : Int)).bind fun r_7 =>
 bif r_7 then (
 some (JobD.mk r_1.kind r_1.p r_1.phase r_1.fd r_1.nF r_1.modeF r_1.tries r_1.atF (1 : Int) y_2 y_3 r_1.text r_1.names r_1.stack r_1.draws r_1.done r_1.exit r_1.out r_1.e)
 ) else (
 some (JobD.mk r_1.kind r_1.p r_1.phase r_1.fd r_1.nF r_1.modeF r_1.tries r_1.atF r_1.flags y_2 y_3 r_1.text r_1.names r_1.stack r_1.draws r_1.done r_1.exit r_1.out r_1.e)
 )
 )
 )
 )
 ) else (
 bif (r_4 != (0 : Int)) then (
 (jobFail r_1 (bs [99, 112]) r_4).bind fun r_5 =>
 some r_5
 ) else (
 (iterN (cloneStart_b8 r_2 r_3 r_3 (r_3.length : Int) r_1.kind r_1.p r_1.phase r_1.fd r_1.nF r_1.modeF r_1.tries r_1.atF r_1.flags r_1.path r_1.path2 r_1.text r_1.names r_1.stack r_1.draws r_1.done r_1.exit r_1.out r_1.e) LF (0 : Int)).bind fun X_1 => match X_1 with
 | .inl (v_1, y_1, r_5, r_6) => (
 some r_6
 )
 | .inr (v_1) => (
 (gt r_3 (0 : Int)).bind fun y_2 =>
 (gt r_3 (1 : Int)).bind fun y_3 =>
 (optionHas r_2 (82 : Int)).bind fun r_7 =>
 bif r_7 then (
 some (JobD.mk r_1.kind r_1.p r_1.phase r_1.fd r_1.nF r_1.modeF r_1.tries r_1.atF (1 : Int) y_2 y_3 r_1.text r_1.names r_1.stack r_1.draws r_1.done r_1.exit r_1.out r_1.e)
 ) else (
 some (JobD.mk r_1.kind r_1.p r_1.phase r_1.fd r_1.nF r_1.modeF r_1.tries r_1.atF r_1.flags y_2 y_3 r_1.text r_1.names r_1.stack r_1.draws r_1.done r_1.exit r_1.out r_1.e)
 )
 )
 )
 )
set_option maxRecDepth 100000 in
theorem cloneStart_ok (k : Nat) (p : Int) (argv : (List ByteArray)) (draws : (List Int)) (r : JobD) (h : cloneStart p argv draws = some r) : run0 (k + 6) 7 [(pI p), (.list 1 false (argv.map cS)), (.list 1 false (draws.map cI))] = some (JobD.a r) := by
  unfold cloneStart at h
  obtain ⟨r_1, q1, h⟩ := bnd_some h
  obtain ⟨⟨r_2, r_3, r_4⟩, q2, h⟩ := bnd_some h
  try dsimp only at h
  rcases bif_some h with ⟨q3, h⟩ | ⟨q3, h⟩
  · rcases bif_some h with ⟨q4, h⟩ | ⟨q4, h⟩
    · obtain ⟨r_5, q5, h⟩ := bnd_some h
      obtain rfl := Option.some.inj h
      exact ret_go (k := (k + 5)) Tryz.func7 Tryz.ntmps7 (by kernel_rfl) (by kernel_rfl) (lb rfl) (adv [([], 1, 2, .ret (JobD.a r_1)), ([], 2, 1, .ret (.tup [(.list 2 false (r_2.map FlagD.c)), (.list 1 false (r_3.map cS)), (pI r_4)])), ([], 3, 2, .eq (pB true)), ([], 3, 4, .eq (pI (r_3.length : Int))), ([], 3, 6, .eq (pB true)), ([], 6, 2, .ret (JobD.a r_5))]) (ex := .ret) (r := (JobD.a r_5)) (by kernel_rfl) rfl (by kernel_rfl) (allC (jobNew_ok (k + 4) (3 : Int) p draws _ q1) (allC (optionParse_ok k (bs [82]) argv _ q2) (allC (cg q3) (allC (len_ob (rfl : (r_3.map cS) = r_3.map cS)) (allC (cg q4) (allC (jobFail_ok (k + 4) r_1 (bs [99, 112]) (1 : Int) _ q5) allN)))))) (by kernel_rfl) allN
    · rcases bif_some h with ⟨q5, h⟩ | ⟨q5, h⟩
      · obtain ⟨r_5, q6, h⟩ := bnd_some h
        obtain rfl := Option.some.inj h
        exact ret_go (k := (k + 5)) Tryz.func7 Tryz.ntmps7 (by kernel_rfl) (by kernel_rfl) (lb rfl) (adv [([], 1, 2, .ret (JobD.a r_1)), ([], 2, 1, .ret (.tup [(.list 2 false (r_2.map FlagD.c)), (.list 1 false (r_3.map cS)), (pI r_4)])), ([], 3, 2, .eq (pB true)), ([], 3, 4, .eq (pI (r_3.length : Int))), ([], 3, 6, .eq (pB false)), ([], 5, 1, .eq (pB true)), ([], 6, 2, .ret (JobD.a r_5))]) (ex := .ret) (r := (JobD.a r_5)) (by kernel_rfl) rfl (by kernel_rfl) (allC (jobNew_ok (k + 4) (3 : Int) p draws _ q1) (allC (optionParse_ok k (bs [82]) argv _ q2) (allC (cg q3) (allC (len_ob (rfl : (r_3.map cS) = r_3.map cS)) (allC (cg q4) (allC (cg q5) (allC (jobFail_ok (k + 4) r_1 (bs [99, 112]) r_4 _ q6) allN))))))) (by kernel_rfl) allN
      · obtain ⟨X_1, q6, h⟩ := bnd_some h
        obtain ⟨v_1, q7, q8⟩ := loop_iter (f := run1 (k + 5) 7 0 62 cloneStart_L8) (cloneStart_S8 r_2 r_3 r_3 (r_3.length : Int) r_1.kind r_1.p r_1.phase r_1.fd r_1.nF r_1.modeF r_1.tries r_1.atF r_1.flags r_1.path r_1.path2 r_1.text r_1.names r_1.stack r_1.draws r_1.done r_1.exit r_1.out r_1.e) (cloneStart_b8 r_2 r_3 r_3 (r_3.length : Int) r_1.kind r_1.p r_1.phase r_1.fd r_1.nF r_1.modeF r_1.tries r_1.atF r_1.flags r_1.path r_1.path2 r_1.text r_1.names r_1.stack r_1.draws r_1.done r_1.exit r_1.out r_1.e) (cloneStart_t8 k r_2 r_3 r_3 (r_3.length : Int) r_1.kind r_1.p r_1.phase r_1.fd r_1.nF r_1.modeF r_1.tries r_1.atF r_1.flags r_1.path r_1.path2 r_1.text r_1.names r_1.stack r_1.draws r_1.done r_1.exit r_1.out r_1.e) LF (0 : Int) _ (stOf (goStop (k + 5) 7 0 62 (adv [([], 1, 2, .ret (JobD.a r_1)), ([], 2, 1, .ret (.tup [(.list 2 false (r_2.map FlagD.c)), (.list 1 false (r_3.map cS)), (pI r_4)])), ([], 3, 2, .eq (pB true)), ([], 3, 4, .eq (pI (r_3.length : Int))), ([], 3, 6, .eq (pB false)), ([], 5, 1, .eq (pB false)), ([], 7, 1, .eq (pI (r_3.length : Int)))]) 8 (codeOf Tryz.f7) (argS 7 [(pI p), (.list 1 false (argv.map cS)), (.list 1 false (draws.map cI))]))) q6 (by kernel_rfl)
        unfold cloneStart_b8 at q7
        try dsimp only at q7
        rcases bif_some q7 with ⟨q11, q7⟩ | ⟨q11, q7⟩
        · obtain ⟨y_1, q12, q7⟩ := bnd_some q7
          obtain ⟨r_5, q13, q7⟩ := bnd_some q7
          rcases bif_some q7 with ⟨q14, q7⟩ | ⟨q14, q7⟩
          · obtain ⟨r_6, q15, q7⟩ := bnd_some q7
            cases q7
            try dsimp only at h
            have q9 := run_go (k := (k + 5)) (f := 7) (r0 := 0) (nt := 62) (c := cloneStart_L8) (σ := (cloneStart_S8 r_2 r_3 r_3 (r_3.length : Int) r_1.kind r_1.p r_1.phase r_1.fd r_1.nF r_1.modeF r_1.tries r_1.atF r_1.flags r_1.path r_1.path2 r_1.text r_1.names r_1.stack r_1.draws r_1.done r_1.exit r_1.out r_1.e v_1)) (adv [([], 8, 0, .eq (pB true)), ([], 9, 0, .elem [(pS y_1)]), ([], 10, 1, .ret (pI r_5)), ([], 11, 1, .eq (pB true)), ([], 12, 3, .ret (JobD.a r_6))]) (ex := .ret) (by kernel_rfl) (by kernel_rfl) (allC (cg q11) (allC (gt_list (c := cS) q12) (allC (checkX_ok (k + 5) y_1 _ q13) (allC (cg q14) (allC (jobFail_ok (k + 4) r_1 y_1 r_5 _ q15) allN)))))
            have q10 := q8 _ _ (by intro e; cases e) q9
            obtain rfl := Option.some.inj h
            exact ret_go (k := (k + 5)) Tryz.func7 Tryz.ntmps7 (by kernel_rfl) (by kernel_rfl) (lb rfl) (adv [([], 1, 2, .ret (JobD.a r_1)), ([], 2, 1, .ret (.tup [(.list 2 false (r_2.map FlagD.c)), (.list 1 false (r_3.map cS)), (pI r_4)])), ([], 3, 2, .eq (pB true)), ([], 3, 4, .eq (pI (r_3.length : Int))), ([], 3, 6, .eq (pB false)), ([], 5, 1, .eq (pB false)), ([], 7, 1, .eq (pI (r_3.length : Int)))] [([], 8, .ret, (stOf (go (k + 5) 7 0 62 (adv [([], 8, 0, .eq (pB true)), ([], 9, 0, .elem [(pS y_1)]), ([], 10, 1, .ret (pI r_5)), ([], 11, 1, .eq (pB true)), ([], 12, 3, .ret (JobD.a r_6))]) cloneStart_L8 (cloneStart_S8 r_2 r_3 r_3 (r_3.length : Int) r_1.kind r_1.p r_1.phase r_1.fd r_1.nF r_1.modeF r_1.tries r_1.atF r_1.flags r_1.path r_1.path2 r_1.text r_1.names r_1.stack r_1.draws r_1.done r_1.exit r_1.out r_1.e v_1))))]) (ex := .ret) (r := (JobD.a r_6)) (by kernel_rfl) rfl (by kernel_rfl) (allC (jobNew_ok (k + 4) (3 : Int) p draws _ q1) (allC (optionParse_ok k (bs [82]) argv _ q2) (allC (cg q3) (allC (len_ob (rfl : (r_3.map cS) = r_3.map cS)) (allC (cg q4) (allC (cg q5) (allC (len_ob (rfl : (r_3.map cS) = r_3.map cS)) (allC q10 allN)))))))) (by kernel_rfl) allN
          · cases q7
        · cases q7
          try dsimp only at h
          have q9 := run_go (k := (k + 5)) (f := 7) (r0 := 0) (nt := 62) (c := cloneStart_L8) (σ := (cloneStart_S8 r_2 r_3 r_3 (r_3.length : Int) r_1.kind r_1.p r_1.phase r_1.fd r_1.nF r_1.modeF r_1.tries r_1.atF r_1.flags r_1.path r_1.path2 r_1.text r_1.names r_1.stack r_1.draws r_1.done r_1.exit r_1.out r_1.e v_1)) (adv [([], 8, 0, .eq (pB false))]) (ex := (.exit 0)) (by kernel_rfl) (by kernel_rfl) (allC (cg q11) allN)
          have q10 := q8 _ _ (by intro e; cases e) q9
          obtain ⟨y_2, q16, h⟩ := bnd_some h
          obtain ⟨y_3, q17, h⟩ := bnd_some h
          obtain ⟨r_7, q18, h⟩ := bnd_some h
          rcases bif_some h with ⟨q19, h⟩ | ⟨q19, h⟩
          · revert h; subst q19; intro h
            obtain rfl := Option.some.inj h
            exact ret_go (k := (k + 5)) Tryz.func7 Tryz.ntmps7 (by kernel_rfl) (by kernel_rfl) (lb rfl) (adv [([], 1, 2, .ret (JobD.a r_1)), ([], 2, 1, .ret (.tup [(.list 2 false (r_2.map FlagD.c)), (.list 1 false (r_3.map cS)), (pI r_4)])), ([], 3, 2, .eq (pB true)), ([], 3, 4, .eq (pI (r_3.length : Int))), ([], 3, 6, .eq (pB false)), ([], 5, 1, .eq (pB false)), ([], 7, 1, .eq (pI (r_3.length : Int))), ([], 14, 1, .elem [(pS y_2)]), ([], 14, 4, .elem [(pS y_3)]), ([], 15, 1, .ret (pB true))] [([], 8, (.exit 0), (stOf (go (k + 5) 7 0 62 (adv [([], 8, 0, .eq (pB false))]) cloneStart_L8 (cloneStart_S8 r_2 r_3 r_3 (r_3.length : Int) r_1.kind r_1.p r_1.phase r_1.fd r_1.nF r_1.modeF r_1.tries r_1.atF r_1.flags r_1.path r_1.path2 r_1.text r_1.names r_1.stack r_1.draws r_1.done r_1.exit r_1.out r_1.e v_1))))]) (ex := .ret) (r := (.agg [(pI r_1.kind), (pI r_1.p), (pI r_1.phase), (pI r_1.fd), (pI r_1.nF), (pI r_1.modeF), (pI r_1.tries), (pI r_1.atF), (pI (1 : Int)), (pS y_2), (pS y_3), (pS r_1.text), (.list 1 false (r_1.names.map cS)), (.list 3 false (r_1.stack.map FrameD.c)), (.list 1 false (r_1.draws.map cI)), (pB r_1.done), (pI r_1.exit), (pS r_1.out), (pI r_1.e)])) (by kernel_rfl) rfl (by kernel_rfl) (allC (jobNew_ok (k + 4) (3 : Int) p draws _ q1) (allC (optionParse_ok k (bs [82]) argv _ q2) (allC (cg q3) (allC (len_ob (rfl : (r_3.map cS) = r_3.map cS)) (allC (cg q4) (allC (cg q5) (allC (len_ob (rfl : (r_3.map cS) = r_3.map cS)) (allC q10 (allC (gt_list (c := cS) q16) (allC (gt_list (c := cS) q17) (allC (gt_list (c := cS) q17) (allC (optionHas_ok (k + 1) r_2 (82 : Int) _ q18) allN)))))))))))) (by kernel_rfl) allN
          · revert h; subst q19; intro h
            obtain rfl := Option.some.inj h
            exact ret_go (k := (k + 5)) Tryz.func7 Tryz.ntmps7 (by kernel_rfl) (by kernel_rfl) (lb rfl) (adv [([], 1, 2, .ret (JobD.a r_1)), ([], 2, 1, .ret (.tup [(.list 2 false (r_2.map FlagD.c)), (.list 1 false (r_3.map cS)), (pI r_4)])), ([], 3, 2, .eq (pB true)), ([], 3, 4, .eq (pI (r_3.length : Int))), ([], 3, 6, .eq (pB false)), ([], 5, 1, .eq (pB false)), ([], 7, 1, .eq (pI (r_3.length : Int))), ([], 14, 1, .elem [(pS y_2)]), ([], 14, 4, .elem [(pS y_3)]), ([], 15, 1, .ret (pB false))] [([], 8, (.exit 0), (stOf (go (k + 5) 7 0 62 (adv [([], 8, 0, .eq (pB false))]) cloneStart_L8 (cloneStart_S8 r_2 r_3 r_3 (r_3.length : Int) r_1.kind r_1.p r_1.phase r_1.fd r_1.nF r_1.modeF r_1.tries r_1.atF r_1.flags r_1.path r_1.path2 r_1.text r_1.names r_1.stack r_1.draws r_1.done r_1.exit r_1.out r_1.e v_1))))]) (ex := .ret) (r := (.agg [(pI r_1.kind), (pI r_1.p), (pI r_1.phase), (pI r_1.fd), (pI r_1.nF), (pI r_1.modeF), (pI r_1.tries), (pI r_1.atF), (pI r_1.flags), (pS y_2), (pS y_3), (pS r_1.text), (.list 1 false (r_1.names.map cS)), (.list 3 false (r_1.stack.map FrameD.c)), (.list 1 false (r_1.draws.map cI)), (pB r_1.done), (pI r_1.exit), (pS r_1.out), (pI r_1.e)])) (by kernel_rfl) rfl (by kernel_rfl) (allC (jobNew_ok (k + 4) (3 : Int) p draws _ q1) (allC (optionParse_ok k (bs [82]) argv _ q2) (allC (cg q3) (allC (len_ob (rfl : (r_3.map cS) = r_3.map cS)) (allC (cg q4) (allC (cg q5) (allC (len_ob (rfl : (r_3.map cS) = r_3.map cS)) (allC q10 (allC (gt_list (c := cS) q16) (allC (gt_list (c := cS) q17) (allC (gt_list (c := cS) q17) (allC (optionHas_ok (k + 1) r_2 (82 : Int) _ q18) allN)))))))))))) (by kernel_rfl) allN
  · rcases bif_some h with ⟨q4, h⟩ | ⟨q4, h⟩
    · obtain ⟨r_5, q5, h⟩ := bnd_some h
      obtain rfl := Option.some.inj h
      exact ret_go (k := (k + 5)) Tryz.func7 Tryz.ntmps7 (by kernel_rfl) (by kernel_rfl) (lb rfl) (adv [([], 1, 2, .ret (JobD.a r_1)), ([], 2, 1, .ret (.tup [(.list 2 false (r_2.map FlagD.c)), (.list 1 false (r_3.map cS)), (pI r_4)])), ([], 3, 2, .eq (pB false)), ([], 5, 1, .eq (pB true)), ([], 6, 2, .ret (JobD.a r_5))]) (ex := .ret) (r := (JobD.a r_5)) (by kernel_rfl) rfl (by kernel_rfl) (allC (jobNew_ok (k + 4) (3 : Int) p draws _ q1) (allC (optionParse_ok k (bs [82]) argv _ q2) (allC (cg q3) (allC (cg q4) (allC (jobFail_ok (k + 4) r_1 (bs [99, 112]) r_4 _ q5) allN))))) (by kernel_rfl) allN
    · obtain ⟨X_1, q5, h⟩ := bnd_some h
      obtain ⟨v_1, q6, q7⟩ := loop_iter (f := run1 (k + 5) 7 0 62 cloneStart_L8) (cloneStart_S8 r_2 r_3 r_3 (r_3.length : Int) r_1.kind r_1.p r_1.phase r_1.fd r_1.nF r_1.modeF r_1.tries r_1.atF r_1.flags r_1.path r_1.path2 r_1.text r_1.names r_1.stack r_1.draws r_1.done r_1.exit r_1.out r_1.e) (cloneStart_b8 r_2 r_3 r_3 (r_3.length : Int) r_1.kind r_1.p r_1.phase r_1.fd r_1.nF r_1.modeF r_1.tries r_1.atF r_1.flags r_1.path r_1.path2 r_1.text r_1.names r_1.stack r_1.draws r_1.done r_1.exit r_1.out r_1.e) (cloneStart_t8 k r_2 r_3 r_3 (r_3.length : Int) r_1.kind r_1.p r_1.phase r_1.fd r_1.nF r_1.modeF r_1.tries r_1.atF r_1.flags r_1.path r_1.path2 r_1.text r_1.names r_1.stack r_1.draws r_1.done r_1.exit r_1.out r_1.e) LF (0 : Int) _ (stOf (goStop (k + 5) 7 0 62 (adv [([], 1, 2, .ret (JobD.a r_1)), ([], 2, 1, .ret (.tup [(.list 2 false (r_2.map FlagD.c)), (.list 1 false (r_3.map cS)), (pI r_4)])), ([], 3, 2, .eq (pB false)), ([], 5, 1, .eq (pB false)), ([], 7, 1, .eq (pI (r_3.length : Int)))]) 8 (codeOf Tryz.f7) (argS 7 [(pI p), (.list 1 false (argv.map cS)), (.list 1 false (draws.map cI))]))) q5 (by kernel_rfl)
      unfold cloneStart_b8 at q6
      try dsimp only at q6
      rcases bif_some q6 with ⟨q10, q6⟩ | ⟨q10, q6⟩
      · obtain ⟨y_1, q11, q6⟩ := bnd_some q6
        obtain ⟨r_5, q12, q6⟩ := bnd_some q6
        rcases bif_some q6 with ⟨q13, q6⟩ | ⟨q13, q6⟩
        · obtain ⟨r_6, q14, q6⟩ := bnd_some q6
          cases q6
          try dsimp only at h
          have q8 := run_go (k := (k + 5)) (f := 7) (r0 := 0) (nt := 62) (c := cloneStart_L8) (σ := (cloneStart_S8 r_2 r_3 r_3 (r_3.length : Int) r_1.kind r_1.p r_1.phase r_1.fd r_1.nF r_1.modeF r_1.tries r_1.atF r_1.flags r_1.path r_1.path2 r_1.text r_1.names r_1.stack r_1.draws r_1.done r_1.exit r_1.out r_1.e v_1)) (adv [([], 8, 0, .eq (pB true)), ([], 9, 0, .elem [(pS y_1)]), ([], 10, 1, .ret (pI r_5)), ([], 11, 1, .eq (pB true)), ([], 12, 3, .ret (JobD.a r_6))]) (ex := .ret) (by kernel_rfl) (by kernel_rfl) (allC (cg q10) (allC (gt_list (c := cS) q11) (allC (checkX_ok (k + 5) y_1 _ q12) (allC (cg q13) (allC (jobFail_ok (k + 4) r_1 y_1 r_5 _ q14) allN)))))
          have q9 := q7 _ _ (by intro e; cases e) q8
          obtain rfl := Option.some.inj h
          exact ret_go (k := (k + 5)) Tryz.func7 Tryz.ntmps7 (by kernel_rfl) (by kernel_rfl) (lb rfl) (adv [([], 1, 2, .ret (JobD.a r_1)), ([], 2, 1, .ret (.tup [(.list 2 false (r_2.map FlagD.c)), (.list 1 false (r_3.map cS)), (pI r_4)])), ([], 3, 2, .eq (pB false)), ([], 5, 1, .eq (pB false)), ([], 7, 1, .eq (pI (r_3.length : Int)))] [([], 8, .ret, (stOf (go (k + 5) 7 0 62 (adv [([], 8, 0, .eq (pB true)), ([], 9, 0, .elem [(pS y_1)]), ([], 10, 1, .ret (pI r_5)), ([], 11, 1, .eq (pB true)), ([], 12, 3, .ret (JobD.a r_6))]) cloneStart_L8 (cloneStart_S8 r_2 r_3 r_3 (r_3.length : Int) r_1.kind r_1.p r_1.phase r_1.fd r_1.nF r_1.modeF r_1.tries r_1.atF r_1.flags r_1.path r_1.path2 r_1.text r_1.names r_1.stack r_1.draws r_1.done r_1.exit r_1.out r_1.e v_1))))]) (ex := .ret) (r := (JobD.a r_6)) (by kernel_rfl) rfl (by kernel_rfl) (allC (jobNew_ok (k + 4) (3 : Int) p draws _ q1) (allC (optionParse_ok k (bs [82]) argv _ q2) (allC (cg q3) (allC (cg q4) (allC (len_ob (rfl : (r_3.map cS) = r_3.map cS)) (allC q9 allN)))))) (by kernel_rfl) allN
        · cases q6
      · cases q6
        try dsimp only at h
        have q8 := run_go (k := (k + 5)) (f := 7) (r0 := 0) (nt := 62) (c := cloneStart_L8) (σ := (cloneStart_S8 r_2 r_3 r_3 (r_3.length : Int) r_1.kind r_1.p r_1.phase r_1.fd r_1.nF r_1.modeF r_1.tries r_1.atF r_1.flags r_1.path r_1.path2 r_1.text r_1.names r_1.stack r_1.draws r_1.done r_1.exit r_1.out r_1.e v_1)) (adv [([], 8, 0, .eq (pB false))]) (ex := (.exit 0)) (by kernel_rfl) (by kernel_rfl) (allC (cg q10) allN)
        have q9 := q7 _ _ (by intro e; cases e) q8
        obtain ⟨y_2, q15, h⟩ := bnd_some h
        obtain ⟨y_3, q16, h⟩ := bnd_some h
        obtain ⟨r_7, q17, h⟩ := bnd_some h
        rcases bif_some h with ⟨q18, h⟩ | ⟨q18, h⟩
        · revert h; subst q18; intro h
          obtain rfl := Option.some.inj h
          exact ret_go (k := (k + 5)) Tryz.func7 Tryz.ntmps7 (by kernel_rfl) (by kernel_rfl) (lb rfl) (adv [([], 1, 2, .ret (JobD.a r_1)), ([], 2, 1, .ret (.tup [(.list 2 false (r_2.map FlagD.c)), (.list 1 false (r_3.map cS)), (pI r_4)])), ([], 3, 2, .eq (pB false)), ([], 5, 1, .eq (pB false)), ([], 7, 1, .eq (pI (r_3.length : Int))), ([], 14, 1, .elem [(pS y_2)]), ([], 14, 4, .elem [(pS y_3)]), ([], 15, 1, .ret (pB true))] [([], 8, (.exit 0), (stOf (go (k + 5) 7 0 62 (adv [([], 8, 0, .eq (pB false))]) cloneStart_L8 (cloneStart_S8 r_2 r_3 r_3 (r_3.length : Int) r_1.kind r_1.p r_1.phase r_1.fd r_1.nF r_1.modeF r_1.tries r_1.atF r_1.flags r_1.path r_1.path2 r_1.text r_1.names r_1.stack r_1.draws r_1.done r_1.exit r_1.out r_1.e v_1))))]) (ex := .ret) (r := (.agg [(pI r_1.kind), (pI r_1.p), (pI r_1.phase), (pI r_1.fd), (pI r_1.nF), (pI r_1.modeF), (pI r_1.tries), (pI r_1.atF), (pI (1 : Int)), (pS y_2), (pS y_3), (pS r_1.text), (.list 1 false (r_1.names.map cS)), (.list 3 false (r_1.stack.map FrameD.c)), (.list 1 false (r_1.draws.map cI)), (pB r_1.done), (pI r_1.exit), (pS r_1.out), (pI r_1.e)])) (by kernel_rfl) rfl (by kernel_rfl) (allC (jobNew_ok (k + 4) (3 : Int) p draws _ q1) (allC (optionParse_ok k (bs [82]) argv _ q2) (allC (cg q3) (allC (cg q4) (allC (len_ob (rfl : (r_3.map cS) = r_3.map cS)) (allC q9 (allC (gt_list (c := cS) q15) (allC (gt_list (c := cS) q16) (allC (gt_list (c := cS) q16) (allC (optionHas_ok (k + 1) r_2 (82 : Int) _ q17) allN)))))))))) (by kernel_rfl) allN
        · revert h; subst q18; intro h
          obtain rfl := Option.some.inj h
          exact ret_go (k := (k + 5)) Tryz.func7 Tryz.ntmps7 (by kernel_rfl) (by kernel_rfl) (lb rfl) (adv [([], 1, 2, .ret (JobD.a r_1)), ([], 2, 1, .ret (.tup [(.list 2 false (r_2.map FlagD.c)), (.list 1 false (r_3.map cS)), (pI r_4)])), ([], 3, 2, .eq (pB false)), ([], 5, 1, .eq (pB false)), ([], 7, 1, .eq (pI (r_3.length : Int))), ([], 14, 1, .elem [(pS y_2)]), ([], 14, 4, .elem [(pS y_3)]), ([], 15, 1, .ret (pB false))] [([], 8, (.exit 0), (stOf (go (k + 5) 7 0 62 (adv [([], 8, 0, .eq (pB false))]) cloneStart_L8 (cloneStart_S8 r_2 r_3 r_3 (r_3.length : Int) r_1.kind r_1.p r_1.phase r_1.fd r_1.nF r_1.modeF r_1.tries r_1.atF r_1.flags r_1.path r_1.path2 r_1.text r_1.names r_1.stack r_1.draws r_1.done r_1.exit r_1.out r_1.e v_1))))]) (ex := .ret) (r := (.agg [(pI r_1.kind), (pI r_1.p), (pI r_1.phase), (pI r_1.fd), (pI r_1.nF), (pI r_1.modeF), (pI r_1.tries), (pI r_1.atF), (pI r_1.flags), (pS y_2), (pS y_3), (pS r_1.text), (.list 1 false (r_1.names.map cS)), (.list 3 false (r_1.stack.map FrameD.c)), (.list 1 false (r_1.draws.map cI)), (pB r_1.done), (pI r_1.exit), (pS r_1.out), (pI r_1.e)])) (by kernel_rfl) rfl (by kernel_rfl) (allC (jobNew_ok (k + 4) (3 : Int) p draws _ q1) (allC (optionParse_ok k (bs [82]) argv _ q2) (allC (cg q3) (allC (cg q4) (allC (len_ob (rfl : (r_3.map cS) = r_3.map cS)) (allC q9 (allC (gt_list (c := cS) q15) (allC (gt_list (c := cS) q16) (allC (gt_list (c := cS) q16) (allC (optionHas_ok (k + 1) r_2 (82 : Int) _ q17) allN)))))))))) (by kernel_rfl) allN
def ref15New (kind : Int) (p : Int) (draws : (List Int)) : Option JobD :=
 some (JobD.mk kind p (0 : Int) (-1 : Int) (0 : Int) (0 : Int) (0 : Int) (0 : Int) (0 : Int) (bs []) (bs []) (bs []) [] [] draws false (0 : Int) (bs []) (0 : Int))
set_option maxRecDepth 100000 in
theorem ref15New_ok (k : Nat) (kind : Int) (p : Int) (draws : (List Int)) (r : JobD) (h : ref15New kind p draws = some r) : run0 (k + 1) 32 [(pI kind), (pI p), (.list 1 false (draws.map cI))] = some (JobD.a r) := by
  unfold ref15New at h
  obtain rfl := Option.some.inj h
  exact ret_go (k := k) Tryz.func32 Tryz.ntmps32 (by kernel_rfl) (by kernel_rfl) (lb rfl) (adv []) (ex := .ret) (r := (.agg [(pI kind), (pI p), (pI (0 : Int)), (pI (-1 : Int)), (pI (0 : Int)), (pI (0 : Int)), (pI (0 : Int)), (pI (0 : Int)), (pI (0 : Int)), (pS (bs [])), (pS (bs [])), (pS (bs [])), (.list 1 false []), (.list 3 false []), (.list 1 false (draws.map cI)), (pB false), (pI (0 : Int)), (pS (bs [])), (pI (0 : Int))])) (by kernel_rfl) rfl (by kernel_rfl) allN (by kernel_rfl) allN
end Go.Proofs.YtdbekeidlppfiaaGreatDoor.Den
