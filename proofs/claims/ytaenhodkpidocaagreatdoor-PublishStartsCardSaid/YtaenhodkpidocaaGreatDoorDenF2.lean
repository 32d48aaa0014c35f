/- Texts joined by a program of mine (pack.py): DenF0 DenF1 DenF2. -/
import Derived.Test.YtaenhodkpidocaaGreatDoorDenTy
set_option linter.unusedVariables false
set_option linter.unusedSimpArgs false
namespace Go.Proofs.YtaenhodkpidocaaGreatDoor.Den
open Go Go.RowKit
def jobNew (kind : Int) (p : Int) (draws : (List Int)) : Option JobD :=
 some (JobD.mk kind p (0 : Int) (-1 : Int) (0 : Int) (0 : Int) (0 : Int) (0 : Int) (0 : Int) (bs []) (bs []) (bs []) [] [] draws false (0 : Int) (bs []) (0 : Int))
set_option maxRecDepth 100000 in
theorem jobNew_ok (k : Nat) (kind : Int) (p : Int) (draws : (List Int)) (r : JobD) (h : jobNew kind p draws = some r) : run0 (k + 1) 24 [(pI kind), (pI p), (.list 1 false (draws.map cI))] = some (JobD.a r) := by
  unfold jobNew at h
  obtain rfl := Option.some.inj h
  exact ret_go (k := k) Tryz.func24 Tryz.ntmps24 (by kernel_rfl) (by kernel_rfl) (lb rfl) (adv []) (ex := .ret) (r := (.agg [(pI kind), (pI p), (pI (0 : Int)), (pI (-1 : Int)), (pI (0 : Int)), (pI (0 : Int)), (pI (0 : Int)), (pI (0 : Int)), (pI (0 : Int)), (pS (bs [])), (pS (bs [])), (pS (bs [])), (.list 1 false []), (.list 3 false []), (.list 1 false (draws.map cI)), (pB false), (pI (0 : Int)), (pS (bs [])), (pI (0 : Int))])) (by kernel_rfl) rfl (by kernel_rfl) allN (by kernel_rfl) allN
def stringsliteHasPrefix (s : ByteArray) (prefixF : ByteArray) : Option Bool :=
 bif (decide ((s.size : Int) ≥ (prefixF.size : Int))) then (
 grd (0 ≤ (0 : Int) ∧ (0 : Int) ≤ (prefixF.size : Int) ∧ (prefixF.size : Int) ≤ (s.size : Int)) <|
 some (seq (s.extract 0 ((prefixF.size : Int)).toNat) prefixF)
 ) else (
 some false
 )
set_option maxRecDepth 100000 in
theorem stringsliteHasPrefix_ok (k : Nat) (s : ByteArray) (prefixF : ByteArray) (r : Bool) (h : stringsliteHasPrefix s prefixF = some r) : run0 (k + 1) 71 [(pS s), (pS prefixF)] = some (pB r) := by
  unfold stringsliteHasPrefix at h
  rcases bif_some h with ⟨q1, h⟩ | ⟨q1, h⟩
  · obtain ⟨q2, h⟩ := grd_some h
    obtain rfl := Option.some.inj h
    exact ret_go (k := k) Tryz.func71 Tryz.ntmps71 (by kernel_rfl) (by kernel_rfl) (lb rfl) (adv [([], 1, 5, .eq (pB true)), ([], 1, 9, .sub false)]) (ex := .ret) (r := (pB (seq (s.extract 0 ((prefixF.size : Int)).toNat) prefixF))) (by kernel_rfl) rfl (by kernel_rfl) (allC (cg q1) (allC q2 allN)) (by kernel_rfl) allN
  · obtain rfl := Option.some.inj h
    exact ret_go (k := k) Tryz.func71 Tryz.ntmps71 (by kernel_rfl) (by kernel_rfl) (lb rfl) (adv [([], 1, 5, .eq (pB false))]) (ex := .ret) (r := (pB false)) (by kernel_rfl) rfl (by kernel_rfl) (allC (cg q1) allN) (by kernel_rfl) allN
def stringsliteCutPrefix (s : ByteArray) (prefixF : ByteArray) : Option (ByteArray × Bool) :=
 (stringsliteHasPrefix s prefixF).bind fun r_1 =>
 bif (!r_1) then (
 some (s, false)
 ) else (
 grd (0 ≤ (prefixF.size : Int) ∧ (prefixF.size : Int) ≤ (s.size : Int) ∧ (s.size : Int) ≤ (s.size : Int)) <|
 some ((s.extract ((prefixF.size : Int)).toNat s.size), true)
 )
set_option maxRecDepth 100000 in
theorem stringsliteCutPrefix_ok (k : Nat) (s : ByteArray) (prefixF : ByteArray) (r : (ByteArray × Bool)) (h : stringsliteCutPrefix s prefixF = some r) : run0 (k + 2) 193 [(pS s), (pS prefixF)] = some (.tup [(pS r.1), (pB r.2)]) := by
  unfold stringsliteCutPrefix at h
  obtain ⟨r_1, q1, h⟩ := bnd_some h
  rcases bif_some h with ⟨q2, h⟩ | ⟨q2, h⟩
  · obtain rfl := Option.some.inj h
    exact ret_go (k := (k + 1)) Tryz.func193 Tryz.ntmps193 (by kernel_rfl) (by kernel_rfl) (lb rfl) (adv [([], 1, 2, .ret (pB r_1)), ([], 1, 3, .eq (pB true))]) (ex := .ret) (r := (.tup [(pS s), (pB false)])) (by kernel_rfl) rfl (by kernel_rfl) (allC (stringsliteHasPrefix_ok k s prefixF _ q1) (allC (cg q2) allN)) (by kernel_rfl) allN
  · obtain ⟨q3, h⟩ := grd_some h
    obtain rfl := Option.some.inj h
    exact ret_go (k := (k + 1)) Tryz.func193 Tryz.ntmps193 (by kernel_rfl) (by kernel_rfl) (lb rfl) (adv [([], 1, 2, .ret (pB r_1)), ([], 1, 3, .eq (pB false)), ([], 3, 3, .sub false)]) (ex := .ret) (r := (.tup [(pS (s.extract ((prefixF.size : Int)).toNat s.size)), (pB true)])) (by kernel_rfl) rfl (by kernel_rfl) (allC (stringsliteHasPrefix_ok k s prefixF _ q1) (allC (cg q2) (allC q3 allN))) (by kernel_rfl) allN
def stringsCutPrefix (s : ByteArray) (prefixF : ByteArray) : Option (ByteArray × Bool) :=
 (stringsliteCutPrefix s prefixF).bind fun (r_1, r_2) =>
 some (r_1, r_2)
set_option maxRecDepth 100000 in
theorem stringsCutPrefix_ok (k : Nat) (s : ByteArray) (prefixF : ByteArray) (r : (ByteArray × Bool)) (h : stringsCutPrefix s prefixF = some r) : run0 (k + 3) 116 [(pS s), (pS prefixF)] = some (.tup [(pS r.1), (pB r.2)]) := by
  unfold stringsCutPrefix at h
  obtain ⟨⟨r_1, r_2⟩, q1, h⟩ := bnd_some h
  try dsimp only at h
  obtain rfl := Option.some.inj h
  exact ret_go (k := (k + 2)) Tryz.func116 Tryz.ntmps116 (by kernel_rfl) (by kernel_rfl) (lb rfl) (adv [([], 1, 2, .ret (.tup [(pS r_1), (pB r_2)]))]) (ex := .ret) (r := (.tup [(pS r_1), (pB r_2)])) (by kernel_rfl) rfl (by kernel_rfl) (allC (stringsliteCutPrefix_ok k s prefixF _ q1) allN) (by kernel_rfl) allN
def optionTakerNext (p0 : ByteArray) (p1 : (List ByteArray)) : Option (ByteArray × ByteArray × (List ByteArray)) :=
 (gt p1 (0 : Int)).bind fun y_1 =>
 grd (0 ≤ (1 : Int) ∧ (1 : Int) ≤ (p1.length : Int) ∧ (p1.length : Int) ≤ (p1.length : Int)) <|
 some (y_1, p0, (p1.drop (((1 : Int)).toNat)))
def optionTakerNext_out : (ByteArray × ByteArray × (List ByteArray)) → PV × List (Option Blk) × List Nat
 | (r0, r1, r2) => ((pS r0), [some ⟨3, 134, [[(pS r1), (.list 1 false (r2.map cS)), (.v (.slice none 0 0))]], true, false⟩], [0])
set_option maxRecDepth 100000 in
theorem optionTakerNext_ok (k : Nat) (p0 : ByteArray) (p1 : (List ByteArray)) (r : (ByteArray × ByteArray × (List ByteArray))) (h : optionTakerNext p0 p1 = some r) : runS0 (k + 1) 117 [(.ptr [0, TAG] 1 0 0)] [some ⟨3, 134, [[(pS p0), (.list 1 false (p1.map cS)), (.v (.slice none 0 0))]], true, false⟩] [0] = some (optionTakerNext_out r) := by
  unfold optionTakerNext at h
  obtain ⟨y_1, q1, h⟩ := bnd_some h
  obtain ⟨q2, h⟩ := grd_some h
  obtain rfl := Option.some.inj h
  exact (retS_go (k := k) (n := 1) Tryz.func117 Tryz.ntmps117 rfl (by kernel_rfl) (by kernel_rfl) (lb rfl) (adv [([], 1, 4, .elem [(pS y_1)]), ([], 2, 5, .sub false)]) (ex := .ret) (r := ((pS y_1), [some ⟨3, 134, [[(pS p0), (.list 1 false (((p1.map cS).drop (((1 : Int)).toNat)).take ((p1.map cS).length - ((1 : Int)).toNat))), (.v (.slice none 0 0))]], true, false⟩], [0])) (by kernel_rfl) rfl (by kernel_rfl) (allC (gt_list (c := cS) q1) (allC (sub_ok1 (c := cS) q2) allN)) (by kernel_rfl)).trans (congrArg some (by rw [(show (((p1.map cS).drop (((1 : Int)).toNat)).take ((p1.map cS).length - ((1 : Int)).toNat)) = ((p1.drop (((1 : Int)).toNat)).map cS) from (enc_drop rfl (((1 : Int)).toNat)))] <;> rfl))
def optionKind (spec : ByteArray) (c : Int) : Option Int :=
 bif (c == (58 : Int)) then (
 some (0 : Int)
 ) else (
 (ixbX spec c).bind fun r_1 =>
 bif (decide (r_1 < (0 : Int))) then (
 some (0 : Int)
 ) else (
 (conX spec (ByteArray.mk [UInt8.ofNat (c).toNat, UInt8.ofNat ((58 : Int)).toNat].toArray)).bind fun r_2 =>
 bif r_2 then (
 some (2 : Int)
 ) else (
 some (1 : Int)
 )
 )
 )
set_option maxRecDepth 100000 in
theorem optionKind_ok (k : Nat) (spec : ByteArray) (c : Int) (r : Int) (h : optionKind spec c = some r) : run0 (k + 1) 194 [(pS spec), (.v (.int .u8 c))] = some (pI r) := by
  unfold optionKind at h
  rcases bif_some h with ⟨q1, h⟩ | ⟨q1, h⟩
  · obtain rfl := Option.some.inj h
    exact ret_go (k := k) Tryz.func194 Tryz.ntmps194 (by kernel_rfl) (by kernel_rfl) (lb rfl) (adv [([], 1, 2, .eq (pB true))]) (ex := .ret) (r := (pI (0 : Int))) (by kernel_rfl) rfl (by kernel_rfl) (allC (cg q1) allN) (by kernel_rfl) allN
  · obtain ⟨r_1, q2, h⟩ := bnd_some h
    rcases bif_some h with ⟨q3, h⟩ | ⟨q3, h⟩
    · obtain rfl := Option.some.inj h
      exact ret_go (k := k) Tryz.func194 Tryz.ntmps194 (by kernel_rfl) (by kernel_rfl) (lb rfl) (adv [([], 1, 2, .eq (pB false)), ([], 1, 5, .ret (pI r_1)), ([], 1, 7, .eq (pB true))]) (ex := .ret) (r := (pI (0 : Int))) (by kernel_rfl) rfl (by kernel_rfl) (allC (cg q1) (allC (ixbX_ok k spec c _ q2) (allC (cg q3) allN))) (by kernel_rfl) allN
    · obtain ⟨r_2, q4, h⟩ := bnd_some h
      rcases bif_some h with ⟨q5, h⟩ | ⟨q5, h⟩
      · revert h; subst q5; intro h
        obtain rfl := Option.some.inj h
        exact ret_go (k := k) Tryz.func194 Tryz.ntmps194 (by kernel_rfl) (by kernel_rfl) (lb rfl) (adv [([], 1, 2, .eq (pB false)), ([], 1, 5, .ret (pI r_1)), ([], 1, 7, .eq (pB false)), ([], 3, 4, .ret (pB true))]) (ex := .ret) (r := (pI (2 : Int))) (by kernel_rfl) rfl (by kernel_rfl) (allC (cg q1) (allC (ixbX_ok k spec c _ q2) (allC (cg q3) (allC (conX_ok k spec (ByteArray.mk [UInt8.ofNat (c).toNat, UInt8.ofNat ((58 : Int)).toNat].toArray) _ q4) allN)))) (by kernel_rfl) allN
      · revert h; subst q5; intro h
        obtain rfl := Option.some.inj h
        exact ret_go (k := k) Tryz.func194 Tryz.ntmps194 (by kernel_rfl) (by kernel_rfl) (lb rfl) (adv [([], 1, 2, .eq (pB false)), ([], 1, 5, .ret (pI r_1)), ([], 1, 7, .eq (pB false)), ([], 3, 4, .ret (pB false))]) (ex := .ret) (r := (pI (1 : Int))) (by kernel_rfl) rfl (by kernel_rfl) (allC (cg q1) (allC (ixbX_ok k spec c _ q2) (allC (cg q3) (allC (conX_ok k spec (ByteArray.mk [UInt8.ofNat (c).toNat, UInt8.ofNat ((58 : Int)).toNat].toArray) _ q4) allN)))) (by kernel_rfl) allN
def optionTakerNext2 (p0 : ByteArray) (p1 : (List ByteArray)) (p2 : (List FlagD)) : Option (ByteArray × ByteArray × (List ByteArray) × (List FlagD)) :=
 (gt p1 (0 : Int)).bind fun y_1 =>
 grd (0 ≤ (1 : Int) ∧ (1 : Int) ≤ (p1.length : Int) ∧ (p1.length : Int) ≤ (p1.length : Int)) <|
 some (y_1, p0, (p1.drop (((1 : Int)).toNat)), p2)
def optionTakerNext2_out : (ByteArray × ByteArray × (List ByteArray) × (List FlagD)) → PV × List (Option Blk) × List Nat
 | (r0, r1, r2, r3) => ((pS r0), [some ⟨3, 134, [[(pS r1), (.list 1 false (r2.map cS)), (.row [1, TAG] 1 0 r3.length)]], false, false⟩, some ⟨2, 274, (r3.map FlagD.c), true, true⟩], [0, 0])
set_option maxRecDepth 100000 in
theorem optionTakerNext2_ok (k : Nat) (p0 : ByteArray) (p1 : (List ByteArray)) (p2 : (List FlagD)) (r : (ByteArray × ByteArray × (List ByteArray) × (List FlagD))) (h : optionTakerNext2 p0 p1 p2 = some r) : runS0 (k + 1) 117 [(.ptr [0, TAG] 1 0 0)] [some ⟨3, 134, [[(pS p0), (.list 1 false (p1.map cS)), (.row [1, TAG] 1 0 p2.length)]], false, false⟩, some ⟨2, 274, (p2.map FlagD.c), true, true⟩] [0, 0] = some (optionTakerNext2_out r) := by
  unfold optionTakerNext2 at h
  obtain ⟨y_1, q1, h⟩ := bnd_some h
  obtain ⟨q2, h⟩ := grd_some h
  obtain rfl := Option.some.inj h
  exact (retS_go (k := k) (n := 2) Tryz.func117 Tryz.ntmps117 rfl (by kernel_rfl) (by kernel_rfl) (lb rfl) (adv [([], 1, 4, .elem [(pS y_1)]), ([], 2, 5, .sub false)]) (ex := .ret) (r := ((pS y_1), [some ⟨3, 134, [[(pS p0), (.list 1 false (((p1.map cS).drop (((1 : Int)).toNat)).take ((p1.map cS).length - ((1 : Int)).toNat))), (.row [1, TAG] 1 0 p2.length)]], false, false⟩, some ⟨2, 274, (p2.map FlagD.c), true, true⟩], [0, 0])) (by kernel_rfl) rfl (by kernel_rfl) (allC (gt_list (c := cS) q1) (allC (sub_ok1 (c := cS) q2) allN)) (by kernel_rfl)).trans (congrArg some (by rw [(show (((p1.map cS).drop (((1 : Int)).toNat)).take ((p1.map cS).length - ((1 : Int)).toNat)) = ((p1.drop (((1 : Int)).toNat)).map cS) from (enc_drop rfl (((1 : Int)).toNat)))] <;> rfl))
end Go.Proofs.YtaenhodkpidocaaGreatDoor.Den
namespace Go.Proofs.YtaenhodkpidocaaGreatDoor.Den
open Go Go.RowKit
noncomputable def optionTakerGroup_L1 : Code := cAt (codeOf Tryz.f118) [true, false, false, false]
def optionTakerGroup_R1_0 (x0 : ByteArray) (x1 : ByteArray) (x2 : List (List PV)) : St := ⟨envL [(0, (.ptr [0, TAG] 1 0 0)), (1, (pS x0))], hsL [some ⟨3, 134, [[(pS x1), (.list 1 false x2), (.v (.slice none 0 0))]], true, false⟩] [0]⟩
def optionTakerGroup_R1_1 (x0 : ByteArray) (x1 : ByteArray) (x2 : List (List PV)) (x3 : Nat) (x4 : List (List PV)) : St := ⟨envL [(0, (.ptr [0, TAG] 1 0 0)), (1, (pS x0))], hsL [some ⟨3, 134, [[(pS x1), (.list 1 false x2), (.row [1, TAG] 1 0 x3)]], false, false⟩, some ⟨2, 274, x4, true, true⟩] [0, 0]⟩
theorem optionTakerGroup_R1_1_eq {x0 y0 : ByteArray} {x1 y1 : ByteArray} {x2 y2 : List (List PV)} {x3 y3 : Nat} {x4 y4 : List (List PV)} (h0 : x0 = y0) (h1 : x1 = y1) (h2 : x2 = y2) (h3 : x3 = y3) (h4 : x4 = y4) : optionTakerGroup_R1_1 x0 x1 x2 x3 x4 = optionTakerGroup_R1_1 y0 y1 y2 y3 y4 := by
  subst h0 h1 h2 h3 h4; rfl
def optionTakerGroup_S1 : ((ByteArray × ByteArray × (List ByteArray)) ⊕ (ByteArray × ByteArray × (List ByteArray) × (List FlagD))) → St
 | .inl (v0, v1, v2) => optionTakerGroup_R1_0 v0 v1 (v2.map cS)
 | .inr ((v0, v1, v2, v3)) => optionTakerGroup_R1_1 v0 v1 (v2.map cS) v3.length (v3.map FlagD.c)
def optionTakerGroup_b1 : ((ByteArray × ByteArray × (List ByteArray)) ⊕ (ByteArray × ByteArray × (List ByteArray) × (List FlagD))) → Option (((ByteArray × ByteArray × (List ByteArray)) ⊕ (ByteArray × ByteArray × (List ByteArray) × (List FlagD))) ⊕ ((ByteArray × ByteArray × (List ByteArray) × UInt8 × UInt8 × Int) ⊕ (ByteArray × ByteArray × (List ByteArray) × UInt8 × UInt8 × Int) ⊕ (ByteArray × ByteArray × (List ByteArray)) ⊕ (ByteArray × ByteArray × (List ByteArray) × (List FlagD) × UInt8 × UInt8 × Int) ⊕ (ByteArray × ByteArray × (List ByteArray) × (List FlagD) × UInt8 × UInt8 × Int) ⊕ (ByteArray × ByteArray × (List ByteArray) × (List FlagD))))
 | .inl (v0, v1, v2) =>
 bif (!(seq v0 (bs []))) then (
 (gtS v0 (0 : Int)).bind fun b_1 =>
 (gtS v0 (0 : Int)).bind fun b_2 =>
 (optionKind v1 (b_2.toNat : Int)).bind fun r_1 =>
 bif (r_1 == (0 : Int)) then (
 some (.inr (.inl (v0, v1, v2, b_1, b_2, r_1)))
 ) else (
 bif (r_1 == (2 : Int)) then (
 grd (0 ≤ (1 : Int) ∧ (1 : Int) ≤ (v0.size : Int) ∧ (v0.size : Int) ≤ (v0.size : Int)) <|
 grd (0 ≤ (0 : Int) ∧ (0 : Int) ≤ (1 : Int) ∧ (1 : Int) ≤ (v0.size : Int)) <|
 bif (seq (v0.extract ((1 : Int)).toNat v0.size) (bs [])) then (
 bif ((v2.length : Int) == (0 : Int)) then (
 some (.inr (.inr (.inl (v0, v1, v2, b_1, b_2, r_1))))
 ) else (
 (optionTakerNext v1 v2).bind fun (r_2, r_3, r_4) =>
 grd (0 ≤ (1 : Int) ∧ (1 : Int) ≤ ((v0.extract 0 ((1 : Int)).toNat).size : Int) ∧ ((v0.extract 0 ((1 : Int)).toNat).size : Int) ≤ ((v0.extract 0 ((1 : Int)).toNat).size : Int)) <|
 some (.inl (.inr ((((v0.extract 0 ((1 : Int)).toNat).extract ((1 : Int)).toNat (v0.extract 0 ((1 : Int)).toNat).size), r_3, r_4, [(FlagD.mk (b_1.toNat : Int) r_2)]))))
 )
 ) else (
 grd (0 ≤ (1 : Int) ∧ (1 : Int) ≤ ((v0.extract 0 ((1 : Int)).toNat).size : Int) ∧ ((v0.extract 0 ((1 : Int)).toNat).size : Int) ≤ ((v0.extract 0 ((1 : Int)).toNat).size : Int)) <|
 some (.inl (.inr ((((v0.extract 0 ((1 : Int)).toNat).extract ((1 : Int)).toNat (v0.extract 0 ((1 : Int)).toNat).size), v1, v2, [(FlagD.mk (b_1.toNat : Int) (v0.extract ((1 : Int)).toNat v0.size))]))))
 )
 ) else (
 bif (r_1 == (1 : Int)) then (
 grd (0 ≤ (1 : Int) ∧ (1 : Int) ≤ (v0.size : Int) ∧ (v0.size : Int) ≤ (v0.size : Int)) <|
 some (.inl (.inr (((v0.extract ((1 : Int)).toNat v0.size), v1, v2, [(FlagD.mk (b_1.toNat : Int) (bs []))]))))
 ) else (
 grd (0 ≤ (1 : Int) ∧ (1 : Int) ≤ (v0.size : Int) ∧ (v0.size : Int) ≤ (v0.size : Int)) <|
 some (.inl (.inl ((v0.extract ((1 : Int)).toNat v0.size), v1, v2)))
 )
 )
 )
 ) else (
 some (.inr (.inr (.inr (.inl (v0, v1, v2)))))
 )
 | .inr ((v0, v1, v2, v3)) =>
 bif (!(seq v0 (bs []))) then (
 (gtS v0 (0 : Int)).bind fun b_1 =>
 (gtS v0 (0 : Int)).bind fun b_2 =>
 (optionKind v1 (b_2.toNat : Int)).bind fun r_1 =>
 bif (r_1 == (0 : Int)) then (
 some (.inr (.inr (.inr (.inr (.inl (v0, v1, v2, v3, b_1, b_2, r_1))))))
 ) else (
 bif (r_1 == (2 : Int)) then (
 grd (0 ≤ (1 : Int) ∧ (1 : Int) ≤ (v0.size : Int) ∧ (v0.size : Int) ≤ (v0.size : Int)) <|
 grd (0 ≤ (0 : Int) ∧ (0 : Int) ≤ (1 : Int) ∧ (1 : Int) ≤ (v0.size : Int)) <|
 bif (seq (v0.extract ((1 : Int)).toNat v0.size) (bs [])) then (
 bif ((v2.length : Int) == (0 : Int)) then (
 some (.inr (.inr (.inr (.inr (.inr (.inl (v0, v1, v2, v3, b_1, b_2, r_1)))))))
 ) else (
 (optionTakerNext2 v1 v2 v3).bind fun (r_2, r_3, r_4, r_5) =>
 grd (room (r_5.length + 1) 24) <|
 grd (0 ≤ (1 : Int) ∧ (1 : Int) ≤ ((v0.extract 0 ((1 : Int)).toNat).size : Int) ∧ ((v0.extract 0 ((1 : Int)).toNat).size : Int) ≤ ((v0.extract 0 ((1 : Int)).toNat).size : Int)) <|
 some (.inl (.inr ((((v0.extract 0 ((1 : Int)).toNat).extract ((1 : Int)).toNat (v0.extract 0 ((1 : Int)).toNat).size), r_3, r_4, (r_5 ++ [(FlagD.mk (b_1.toNat : Int) r_2)])))))
 )
 ) else (
 grd (room (v3.length + 1) 24) <|
 grd (0 ≤ (1 : Int) ∧ (1 : Int) ≤ ((v0.extract 0 ((1 : Int)).toNat).size : Int) ∧ ((v0.extract 0 ((1 : Int)).toNat).size : Int) ≤ ((v0.extract 0 ((1 : Int)).toNat).size : Int)) <|
 some (.inl (.inr ((((v0.extract 0 ((1 : Int)).toNat).extract ((1 : Int)).toNat (v0.extract 0 ((1 : Int)).toNat).size), v1, v2, (v3 ++ [(FlagD.mk (b_1.toNat : Int) (v0.extract ((1 : Int)).toNat v0.size))])))))
 )
 ) else (
 bif (r_1 == (1 : Int)) then (
 grd (room (v3.length + 1) 24) <|
 grd (0 ≤ (1 : Int) ∧ (1 : Int) ≤ (v0.size : Int) ∧ (v0.size : Int) ≤ (v0.size : Int)) <|
 some (.inl (.inr (((v0.extract ((1 : Int)).toNat v0.size), v1, v2, (v3 ++ [(FlagD.mk (b_1.toNat : Int) (bs []))])))))
 ) else (
 grd (0 ≤ (1 : Int) ∧ (1 : Int) ≤ (v0.size : Int) ∧ (v0.size : Int) ≤ (v0.size : Int)) <|
 some (.inl (.inr (((v0.extract ((1 : Int)).toNat v0.size), v1, v2, v3))))
 )
 )
 )
 ) else (
 some (.inr (.inr (.inr (.inr (.inr (.inr ((v0, v1, v2, v3))))))))
 )
set_option maxRecDepth 100000 in
theorem optionTakerGroup_t1 (k : Nat) (a a1 : ((ByteArray × ByteArray × (List ByteArray)) ⊕ (ByteArray × ByteArray × (List ByteArray) × (List FlagD)))) (h : optionTakerGroup_b1 a = some (.inl a1)) : ∃ σ, run1 (k + 1) 118 1 55 optionTakerGroup_L1 (optionTakerGroup_S1 a) = some (.normal, σ) ∧ canonS 1 [0, 1] σ = some (optionTakerGroup_S1 a1) := by
  rcases a with ⟨v0, v1, v2⟩ | ⟨v0, v1, v2, v3⟩
  · unfold optionTakerGroup_b1 at h
    try dsimp only at h
    rcases bif_some h with ⟨q1, h⟩ | ⟨q1, h⟩
    · obtain ⟨b_1, q2, h⟩ := bnd_some h
      obtain ⟨b_2, q3, h⟩ := bnd_some h
      obtain ⟨r_1, q4, h⟩ := bnd_some h
      rcases bif_some h with ⟨q5, h⟩ | ⟨q5, h⟩
      · cases h
      · rcases bif_some h with ⟨q6, h⟩ | ⟨q6, h⟩
        · obtain ⟨q7, h⟩ := grd_some h
          obtain ⟨q8, h⟩ := grd_some h
          rcases bif_some h with ⟨q9, h⟩ | ⟨q9, h⟩
          · rcases bif_some h with ⟨q10, h⟩ | ⟨q10, h⟩
            · cases h
            · obtain ⟨X_1, q11, h⟩ := bnd_some h
              rcases X_1 with ⟨r_2, r_3, r_4⟩
              · try dsimp only at h
                obtain ⟨q12, h⟩ := grd_some h
                obtain rfl := Sum.inl.inj (Option.some.inj h)
                exact ⟨_, run_go (k := (k + 1)) (f := 118) (r0 := 1) (nt := 55) (c := optionTakerGroup_L1) (σ := (optionTakerGroup_S1 (.inl (v0, v1, v2)))) (adv [([], 1, 1, .eq (pB true)), ([], 3, 1, .chr b_1), ([], 4, 5, .chr b_2), ([], 4, 6, .ret (pI r_1)), ([], 5, 1, .eq (pB false)), ([], 6, 1, .eq (pB true)), ([], 9, 1, .sub false), ([], 9, 3, .sub false), ([], 10, 2, .eq (pB true)), ([], 11, 4, .eq (pI (v2.length : Int))), ([], 11, 5, .eq (pB false)), ([], 13, 1, .retS (pS r_2) [some ⟨3, 134, [[(pS r_3), (.list 1 false (r_4.map cS)), (.v (.slice none 0 0))]], true, false⟩] [0]), ([], 14, 7, .ok), ([], 2, 1, .sub false)]) (ex := .normal) (by kernel_rfl) (by kernel_rfl) (allC (cg q1) (allC q2 (allC q3 (allC (optionKind_ok k v1 (b_2.toNat : Int) _ q4) (allC (cg q5) (allC (cg q6) (allC q7 (allC q8 (allC (cg q9) (allC (len_ob (rfl : (v2.map cS) = v2.map cS)) (allC (cg q10) (allC (optionTakerNext_ok k v1 v2 _ q11) (allC (by decide : 1 ≤ 140737488355328 ∧ (1) * 24 ≤ 140737488355328) (allC q12 allN)))))))))))))), (Eq.trans (b := some (optionTakerGroup_R1_1 ((v0.extract 0 ((1 : Int)).toNat).extract ((1 : Int)).toNat (v0.extract 0 ((1 : Int)).toNat).size) r_3 (r_4.map cS) 1 ([[(.v (.int .u8 (b_1.toNat : Int))), (pS r_2)]]))) (by kernel_rfl) (congrArg some ((optionTakerGroup_R1_1_eq (rfl : ((v0.extract 0 ((1 : Int)).toNat).extract ((1 : Int)).toNat (v0.extract 0 ((1 : Int)).toNat).size) = ((v0.extract 0 ((1 : Int)).toNat).extract ((1 : Int)).toNat (v0.extract 0 ((1 : Int)).toNat).size)) (rfl : r_3 = r_3) (rfl : (r_4.map cS) = (r_4.map cS)) ((rfl : 1 = _) : 1 = ([(FlagD.mk (b_1.toNat : Int) r_2)].length)) (rfl : ([[(.v (.int .u8 (b_1.toNat : Int))), (pS r_2)]]) = ([(FlagD.mk (b_1.toNat : Int) r_2)].map FlagD.c))).trans (by kernel_rfl : optionTakerGroup_R1_1 ((v0.extract 0 ((1 : Int)).toNat).extract ((1 : Int)).toNat (v0.extract 0 ((1 : Int)).toNat).size) r_3 (r_4.map cS) ([(FlagD.mk (b_1.toNat : Int) r_2)].length) ([(FlagD.mk (b_1.toNat : Int) r_2)].map FlagD.c) = optionTakerGroup_S1 (.inr ((((v0.extract 0 ((1 : Int)).toNat).extract ((1 : Int)).toNat (v0.extract 0 ((1 : Int)).toNat).size), r_3, r_4, [(FlagD.mk (b_1.toNat : Int) r_2)])))))))⟩
          · obtain ⟨q10, h⟩ := grd_some h
            obtain rfl := Sum.inl.inj (Option.some.inj h)
            exact ⟨_, run_go (k := (k + 1)) (f := 118) (r0 := 1) (nt := 55) (c := optionTakerGroup_L1) (σ := (optionTakerGroup_S1 (.inl (v0, v1, v2)))) (adv [([], 1, 1, .eq (pB true)), ([], 3, 1, .chr b_1), ([], 4, 5, .chr b_2), ([], 4, 6, .ret (pI r_1)), ([], 5, 1, .eq (pB false)), ([], 6, 1, .eq (pB true)), ([], 9, 1, .sub false), ([], 9, 3, .sub false), ([], 10, 2, .eq (pB false)), ([], 14, 7, .ok), ([], 2, 1, .sub false)]) (ex := .normal) (by kernel_rfl) (by kernel_rfl) (allC (cg q1) (allC q2 (allC q3 (allC (optionKind_ok k v1 (b_2.toNat : Int) _ q4) (allC (cg q5) (allC (cg q6) (allC q7 (allC q8 (allC (cg q9) (allC (by decide : 1 ≤ 140737488355328 ∧ (1) * 24 ≤ 140737488355328) (allC q10 allN))))))))))), (Eq.trans (b := some (optionTakerGroup_R1_1 ((v0.extract 0 ((1 : Int)).toNat).extract ((1 : Int)).toNat (v0.extract 0 ((1 : Int)).toNat).size) v1 (v2.map cS) 1 ([[(.v (.int .u8 (b_1.toNat : Int))), (pS (v0.extract ((1 : Int)).toNat v0.size))]]))) (by kernel_rfl) (congrArg some ((optionTakerGroup_R1_1_eq (rfl : ((v0.extract 0 ((1 : Int)).toNat).extract ((1 : Int)).toNat (v0.extract 0 ((1 : Int)).toNat).size) = ((v0.extract 0 ((1 : Int)).toNat).extract ((1 : Int)).toNat (v0.extract 0 ((1 : Int)).toNat).size)) (rfl : v1 = v1) (rfl : (v2.map cS) = (v2.map cS)) ((rfl : 1 = _) : 1 = ([(FlagD.mk (b_1.toNat : Int) (v0.extract ((1 : Int)).toNat v0.size))].length)) (rfl : ([[(.v (.int .u8 (b_1.toNat : Int))), (pS (v0.extract ((1 : Int)).toNat v0.size))]]) = ([(FlagD.mk (b_1.toNat : Int) (v0.extract ((1 : Int)).toNat v0.size))].map FlagD.c))).trans (by kernel_rfl : optionTakerGroup_R1_1 ((v0.extract 0 ((1 : Int)).toNat).extract ((1 : Int)).toNat (v0.extract 0 ((1 : Int)).toNat).size) v1 (v2.map cS) ([(FlagD.mk (b_1.toNat : Int) (v0.extract ((1 : Int)).toNat v0.size))].length) ([(FlagD.mk (b_1.toNat : Int) (v0.extract ((1 : Int)).toNat v0.size))].map FlagD.c) = optionTakerGroup_S1 (.inr ((((v0.extract 0 ((1 : Int)).toNat).extract ((1 : Int)).toNat (v0.extract 0 ((1 : Int)).toNat).size), v1, v2, [(FlagD.mk (b_1.toNat : Int) (v0.extract ((1 : Int)).toNat v0.size))])))))))⟩
        · rcases bif_some h with ⟨q7, h⟩ | ⟨q7, h⟩
          · obtain ⟨q8, h⟩ := grd_some h
            obtain rfl := Sum.inl.inj (Option.some.inj h)
            exact ⟨_, run_go (k := (k + 1)) (f := 118) (r0 := 1) (nt := 55) (c := optionTakerGroup_L1) (σ := (optionTakerGroup_S1 (.inl (v0, v1, v2)))) (adv [([], 1, 1, .eq (pB true)), ([], 3, 1, .chr b_1), ([], 4, 5, .chr b_2), ([], 4, 6, .ret (pI r_1)), ([], 5, 1, .eq (pB false)), ([], 6, 1, .eq (pB false)), ([], 7, 1, .eq (pB true)), ([], 14, 7, .ok), ([], 2, 1, .sub false)]) (ex := .normal) (by kernel_rfl) (by kernel_rfl) (allC (cg q1) (allC q2 (allC q3 (allC (optionKind_ok k v1 (b_2.toNat : Int) _ q4) (allC (cg q5) (allC (cg q6) (allC (cg q7) (allC (by decide : 1 ≤ 140737488355328 ∧ (1) * 24 ≤ 140737488355328) (allC q8 allN))))))))), (Eq.trans (b := some (optionTakerGroup_R1_1 (v0.extract ((1 : Int)).toNat v0.size) v1 (v2.map cS) 1 ([[(.v (.int .u8 (b_1.toNat : Int))), (pS (bs []))]]))) (by kernel_rfl) (congrArg some ((optionTakerGroup_R1_1_eq (rfl : (v0.extract ((1 : Int)).toNat v0.size) = (v0.extract ((1 : Int)).toNat v0.size)) (rfl : v1 = v1) (rfl : (v2.map cS) = (v2.map cS)) ((rfl : 1 = _) : 1 = (([(FlagD.mk (b_1.toNat : Int) (bs []))]).length)) (rfl : ([[(.v (.int .u8 (b_1.toNat : Int))), (pS (bs []))]]) = (([(FlagD.mk (b_1.toNat : Int) (bs []))]).map FlagD.c))).trans (by kernel_rfl : optionTakerGroup_R1_1 (v0.extract ((1 : Int)).toNat v0.size) v1 (v2.map cS) (([(FlagD.mk (b_1.toNat : Int) (bs []))]).length) (([(FlagD.mk (b_1.toNat : Int) (bs []))]).map FlagD.c) = optionTakerGroup_S1 (.inr (((v0.extract ((1 : Int)).toNat v0.size), v1, v2, [(FlagD.mk (b_1.toNat : Int) (bs []))])))))))⟩
          · obtain ⟨q8, h⟩ := grd_some h
            obtain rfl := Sum.inl.inj (Option.some.inj h)
            exact ⟨_, run_go (k := (k + 1)) (f := 118) (r0 := 1) (nt := 55) (c := optionTakerGroup_L1) (σ := (optionTakerGroup_S1 (.inl (v0, v1, v2)))) (adv [([], 1, 1, .eq (pB true)), ([], 3, 1, .chr b_1), ([], 4, 5, .chr b_2), ([], 4, 6, .ret (pI r_1)), ([], 5, 1, .eq (pB false)), ([], 6, 1, .eq (pB false)), ([], 7, 1, .eq (pB false)), ([], 2, 1, .sub false)]) (ex := .normal) (by kernel_rfl) (by kernel_rfl) (allC (cg q1) (allC q2 (allC q3 (allC (optionKind_ok k v1 (b_2.toNat : Int) _ q4) (allC (cg q5) (allC (cg q6) (allC (cg q7) (allC q8 allN)))))))), (by kernel_rfl)⟩
    · cases h
  · unfold optionTakerGroup_b1 at h
    try dsimp only at h
    rcases bif_some h with ⟨q1, h⟩ | ⟨q1, h⟩
    · obtain ⟨b_1, q2, h⟩ := bnd_some h
      obtain ⟨b_2, q3, h⟩ := bnd_some h
      obtain ⟨r_1, q4, h⟩ := bnd_some h
      rcases bif_some h with ⟨q5, h⟩ | ⟨q5, h⟩
      · cases h
      · rcases bif_some h with ⟨q6, h⟩ | ⟨q6, h⟩
        · obtain ⟨q7, h⟩ := grd_some h
          obtain ⟨q8, h⟩ := grd_some h
          rcases bif_some h with ⟨q9, h⟩ | ⟨q9, h⟩
          · rcases bif_some h with ⟨q10, h⟩ | ⟨q10, h⟩
            · cases h
            · obtain ⟨X_1, q11, h⟩ := bnd_some h
              rcases X_1 with ⟨r_2, r_3, r_4, r_5⟩
              · try dsimp only at h
                obtain ⟨q12, h⟩ := grd_some h
                obtain ⟨q13, h⟩ := grd_some h
                obtain rfl := Sum.inl.inj (Option.some.inj h)
                exact ⟨_, run_go (k := (k + 1)) (f := 118) (r0 := 1) (nt := 55) (c := optionTakerGroup_L1) (σ := (optionTakerGroup_S1 (.inr ((v0, v1, v2, v3))))) (adv [([], 1, 1, .eq (pB true)), ([], 3, 1, .chr b_1), ([], 4, 5, .chr b_2), ([], 4, 6, .ret (pI r_1)), ([], 5, 1, .eq (pB false)), ([], 6, 1, .eq (pB true)), ([], 9, 1, .sub false), ([], 9, 3, .sub false), ([], 10, 2, .eq (pB true)), ([], 11, 4, .eq (pI (v2.length : Int))), ([], 11, 5, .eq (pB false)), ([], 13, 1, .retS (pS r_2) [some ⟨3, 134, [[(pS r_3), (.list 1 false (r_4.map cS)), (.row [1, TAG] 1 0 r_5.length)]], false, false⟩, some ⟨2, 274, (r_5.map FlagD.c), true, true⟩] [0, 0]), ([], 14, 7, .ok), ([], 2, 1, .sub false)]) (ex := .normal) (by kernel_rfl) (by kernel_rfl) (allC (cg q1) (allC q2 (allC q3 (allC (optionKind_ok k v1 (b_2.toNat : Int) _ q4) (allC (cg q5) (allC (cg q6) (allC q7 (allC q8 (allC (cg q9) (allC (len_ob (rfl : (v2.map cS) = v2.map cS)) (allC (cg q10) (allC (optionTakerNext2_ok k v1 v2 v3 _ q11) (allC (app_ok (rfl : (r_5.map FlagD.c) = r_5.map FlagD.c) (rfl : r_5.length = r_5.length) q12) (allC q13 allN)))))))))))))), (Eq.trans (b := some (optionTakerGroup_R1_1 ((v0.extract 0 ((1 : Int)).toNat).extract ((1 : Int)).toNat (v0.extract 0 ((1 : Int)).toNat).size) r_3 (r_4.map cS) (r_5.length + 1) ((r_5.map FlagD.c) ++ [[(.v (.int .u8 (b_1.toNat : Int))), (pS r_2)]]))) (by kernel_rfl) (congrArg some ((optionTakerGroup_R1_1_eq (rfl : ((v0.extract 0 ((1 : Int)).toNat).extract ((1 : Int)).toNat (v0.extract 0 ((1 : Int)).toNat).size) = ((v0.extract 0 ((1 : Int)).toNat).extract ((1 : Int)).toNat (v0.extract 0 ((1 : Int)).toNat).size)) (rfl : r_3 = r_3) (rfl : (r_4.map cS) = (r_4.map cS)) ((len_cat (rfl : r_5.length = r_5.length) r_5 (rfl : 1 = [(FlagD.mk (b_1.toNat : Int) r_2)].length)) : (r_5.length + 1) = ((r_5 ++ [(FlagD.mk (b_1.toNat : Int) r_2)]).length)) ((enc_cat (rfl : (r_5.map FlagD.c) = r_5.map FlagD.c) (show [[(.v (.int .u8 (b_1.toNat : Int))), (pS r_2)]] = [(FlagD.mk (b_1.toNat : Int) r_2)].map FlagD.c from rfl)) : ((r_5.map FlagD.c) ++ [[(.v (.int .u8 (b_1.toNat : Int))), (pS r_2)]]) = ((r_5 ++ [(FlagD.mk (b_1.toNat : Int) r_2)]).map FlagD.c))).trans (by kernel_rfl : optionTakerGroup_R1_1 ((v0.extract 0 ((1 : Int)).toNat).extract ((1 : Int)).toNat (v0.extract 0 ((1 : Int)).toNat).size) r_3 (r_4.map cS) ((r_5 ++ [(FlagD.mk (b_1.toNat : Int) r_2)]).length) ((r_5 ++ [(FlagD.mk (b_1.toNat : Int) r_2)]).map FlagD.c) = optionTakerGroup_S1 (.inr ((((v0.extract 0 ((1 : Int)).toNat).extract ((1 : Int)).toNat (v0.extract 0 ((1 : Int)).toNat).size), r_3, r_4, (r_5 ++ [(FlagD.mk (b_1.toNat : Int) r_2)]))))))))⟩
          · obtain ⟨q10, h⟩ := grd_some h
            obtain ⟨q11, h⟩ := grd_some h
            obtain rfl := Sum.inl.inj (Option.some.inj h)
            exact ⟨_, run_go (k := (k + 1)) (f := 118) (r0 := 1) (nt := 55) (c := optionTakerGroup_L1) (σ := (optionTakerGroup_S1 (.inr ((v0, v1, v2, v3))))) (adv [([], 1, 1, .eq (pB true)), ([], 3, 1, .chr b_1), ([], 4, 5, .chr b_2), ([], 4, 6, .ret (pI r_1)), ([], 5, 1, .eq (pB false)), ([], 6, 1, .eq (pB true)), ([], 9, 1, .sub false), ([], 9, 3, .sub false), ([], 10, 2, .eq (pB false)), ([], 14, 7, .ok), ([], 2, 1, .sub false)]) (ex := .normal) (by kernel_rfl) (by kernel_rfl) (allC (cg q1) (allC q2 (allC q3 (allC (optionKind_ok k v1 (b_2.toNat : Int) _ q4) (allC (cg q5) (allC (cg q6) (allC q7 (allC q8 (allC (cg q9) (allC (app_ok (rfl : (v3.map FlagD.c) = v3.map FlagD.c) (rfl : v3.length = v3.length) q10) (allC q11 allN))))))))))), (Eq.trans (b := some (optionTakerGroup_R1_1 ((v0.extract 0 ((1 : Int)).toNat).extract ((1 : Int)).toNat (v0.extract 0 ((1 : Int)).toNat).size) v1 (v2.map cS) (v3.length + 1) ((v3.map FlagD.c) ++ [[(.v (.int .u8 (b_1.toNat : Int))), (pS (v0.extract ((1 : Int)).toNat v0.size))]]))) (by kernel_rfl) (congrArg some ((optionTakerGroup_R1_1_eq (rfl : ((v0.extract 0 ((1 : Int)).toNat).extract ((1 : Int)).toNat (v0.extract 0 ((1 : Int)).toNat).size) = ((v0.extract 0 ((1 : Int)).toNat).extract ((1 : Int)).toNat (v0.extract 0 ((1 : Int)).toNat).size)) (rfl : v1 = v1) (rfl : (v2.map cS) = (v2.map cS)) ((len_cat (rfl : v3.length = v3.length) v3 (rfl : 1 = [(FlagD.mk (b_1.toNat : Int) (v0.extract ((1 : Int)).toNat v0.size))].length)) : (v3.length + 1) = ((v3 ++ [(FlagD.mk (b_1.toNat : Int) (v0.extract ((1 : Int)).toNat v0.size))]).length)) ((enc_cat (rfl : (v3.map FlagD.c) = v3.map FlagD.c) (show [[(.v (.int .u8 (b_1.toNat : Int))), (pS (v0.extract ((1 : Int)).toNat v0.size))]] = [(FlagD.mk (b_1.toNat : Int) (v0.extract ((1 : Int)).toNat v0.size))].map FlagD.c from rfl)) : ((v3.map FlagD.c) ++ [[(.v (.int .u8 (b_1.toNat : Int))), (pS (v0.extract ((1 : Int)).toNat v0.size))]]) = ((v3 ++ [(FlagD.mk (b_1.toNat : Int) (v0.extract ((1 : Int)).toNat v0.size))]).map FlagD.c))).trans (by kernel_rfl : optionTakerGroup_R1_1 ((v0.extract 0 ((1 : Int)).toNat).extract ((1 : Int)).toNat (v0.extract 0 ((1 : Int)).toNat).size) v1 (v2.map cS) ((v3 ++ [(FlagD.mk (b_1.toNat : Int) (v0.extract ((1 : Int)).toNat v0.size))]).length) ((v3 ++ [(FlagD.mk (b_1.toNat : Int) (v0.extract ((1 : Int)).toNat v0.size))]).map FlagD.c) = optionTakerGroup_S1 (.inr ((((v0.extract 0 ((1 : Int)).toNat).extract ((1 : Int)).toNat (v0.extract 0 ((1 : Int)).toNat).size), v1, v2, (v3 ++ [(FlagD.mk (b_1.toNat : Int) (v0.extract ((1 : Int)).toNat v0.size))]))))))))⟩
        · rcases bif_some h with ⟨q7, h⟩ | ⟨q7, h⟩
          · obtain ⟨q8, h⟩ := grd_some h
            obtain ⟨q9, h⟩ := grd_some h
            obtain rfl := Sum.inl.inj (Option.some.inj h)
            exact ⟨_, run_go (k := (k + 1)) (f := 118) (r0 := 1) (nt := 55) (c := optionTakerGroup_L1) (σ := (optionTakerGroup_S1 (.inr ((v0, v1, v2, v3))))) (adv [([], 1, 1, .eq (pB true)), ([], 3, 1, .chr b_1), ([], 4, 5, .chr b_2), ([], 4, 6, .ret (pI r_1)), ([], 5, 1, .eq (pB false)), ([], 6, 1, .eq (pB false)), ([], 7, 1, .eq (pB true)), ([], 14, 7, .ok), ([], 2, 1, .sub false)]) (ex := .normal) (by kernel_rfl) (by kernel_rfl) (allC (cg q1) (allC q2 (allC q3 (allC (optionKind_ok k v1 (b_2.toNat : Int) _ q4) (allC (cg q5) (allC (cg q6) (allC (cg q7) (allC (app_ok (rfl : (v3.map FlagD.c) = v3.map FlagD.c) (rfl : v3.length = v3.length) q8) (allC q9 allN))))))))), (Eq.trans (b := some (optionTakerGroup_R1_1 (v0.extract ((1 : Int)).toNat v0.size) v1 (v2.map cS) (v3.length + 1) ((v3.map FlagD.c) ++ [[(.v (.int .u8 (b_1.toNat : Int))), (pS (bs []))]]))) (by kernel_rfl) (congrArg some ((optionTakerGroup_R1_1_eq (rfl : (v0.extract ((1 : Int)).toNat v0.size) = (v0.extract ((1 : Int)).toNat v0.size)) (rfl : v1 = v1) (rfl : (v2.map cS) = (v2.map cS)) ((len_cat (rfl : v3.length = v3.length) v3 (rfl : 1 = ([(FlagD.mk (b_1.toNat : Int) (bs []))]).length)) : (v3.length + 1) = ((v3 ++ [(FlagD.mk (b_1.toNat : Int) (bs []))]).length)) ((enc_cat (rfl : (v3.map FlagD.c) = v3.map FlagD.c) (show [[(.v (.int .u8 (b_1.toNat : Int))), (pS (bs []))]] = ([(FlagD.mk (b_1.toNat : Int) (bs []))]).map FlagD.c from rfl)) : ((v3.map FlagD.c) ++ [[(.v (.int .u8 (b_1.toNat : Int))), (pS (bs []))]]) = ((v3 ++ [(FlagD.mk (b_1.toNat : Int) (bs []))]).map FlagD.c))).trans (by kernel_rfl : optionTakerGroup_R1_1 (v0.extract ((1 : Int)).toNat v0.size) v1 (v2.map cS) ((v3 ++ [(FlagD.mk (b_1.toNat : Int) (bs []))]).length) ((v3 ++ [(FlagD.mk (b_1.toNat : Int) (bs []))]).map FlagD.c) = optionTakerGroup_S1 (.inr (((v0.extract ((1 : Int)).toNat v0.size), v1, v2, (v3 ++ [(FlagD.mk (b_1.toNat : Int) (bs []))]))))))))⟩
          · obtain ⟨q8, h⟩ := grd_some h
            obtain rfl := Sum.inl.inj (Option.some.inj h)
            exact ⟨_, run_go (k := (k + 1)) (f := 118) (r0 := 1) (nt := 55) (c := optionTakerGroup_L1) (σ := (optionTakerGroup_S1 (.inr ((v0, v1, v2, v3))))) (adv [([], 1, 1, .eq (pB true)), ([], 3, 1, .chr b_1), ([], 4, 5, .chr b_2), ([], 4, 6, .ret (pI r_1)), ([], 5, 1, .eq (pB false)), ([], 6, 1, .eq (pB false)), ([], 7, 1, .eq (pB false)), ([], 2, 1, .sub false)]) (ex := .normal) (by kernel_rfl) (by kernel_rfl) (allC (cg q1) (allC q2 (allC q3 (allC (optionKind_ok k v1 (b_2.toNat : Int) _ q4) (allC (cg q5) (allC (cg q6) (allC (cg q7) (allC q8 allN)))))))), (by kernel_rfl)⟩
    · cases h
def optionTakerGroup (p0 : ByteArray) (p1 : ByteArray) (p2 : (List ByteArray)) : Option ((ByteArray × (List ByteArray)) ⊕ (ByteArray × (List ByteArray)) ⊕ (ByteArray × (List ByteArray)) ⊕ (ByteArray × (List ByteArray) × (List FlagD)) ⊕ (ByteArray × (List ByteArray) × (List FlagD)) ⊕ (ByteArray × (List ByteArray) × (List FlagD))) :=
 (iterN (optionTakerGroup_b1) LF (.inl (p0, p1, p2))).bind fun X_1 => match X_1 with
 | .inl (v_1, v_2, v_3, b_1, b_2, r_1) => (
 some (.inl (v_2, v_3))
 )
 | .inr (.inl (v_1, v_2, v_3, b_1, b_2, r_1)) => (
 some (.inr (.inl (v_2, v_3)))
 )
 | .inr (.inr (.inl (v_1, v_2, v_3))) => (
 some (.inr (.inr (.inl (v_2, v_3))))
 )
 | .inr (.inr (.inr (.inl (v_4, v_5, v_6, v_7, b_1, b_2, r_1)))) => (
 some (.inr (.inr (.inr (.inl (v_5, v_6, v_7)))))
 )
 | .inr (.inr (.inr (.inr (.inl (v_4, v_5, v_6, v_7, b_1, b_2, r_1))))) => (
 some (.inr (.inr (.inr (.inr (.inl (v_5, v_6, v_7))))))
 )
 | .inr (.inr (.inr (.inr (.inr ((v_4, v_5, v_6, v_7)))))) => (
 some (.inr (.inr (.inr (.inr (.inr ((v_5, v_6, v_7)))))))
 )
def optionTakerGroup_out : ((ByteArray × (List ByteArray)) ⊕ (ByteArray × (List ByteArray)) ⊕ (ByteArray × (List ByteArray)) ⊕ (ByteArray × (List ByteArray) × (List FlagD)) ⊕ (ByteArray × (List ByteArray) × (List FlagD)) ⊕ (ByteArray × (List ByteArray) × (List FlagD))) → PV × List (Option Blk) × List Nat
 | .inl (r0, r1) => ((.ifc 412 (.far 0)), [some ⟨3, 134, [[(pS r0), (.list 1 false (r1.map cS)), (.v (.slice none 0 0))]], true, false⟩], [0])
 | .inr (.inl (r0, r1)) => ((.ifc 412 (.far 1)), [some ⟨3, 134, [[(pS r0), (.list 1 false (r1.map cS)), (.v (.slice none 0 0))]], true, false⟩], [0])
 | .inr (.inr (.inl (r0, r1))) => ((.v .nilIface), [some ⟨3, 134, [[(pS r0), (.list 1 false (r1.map cS)), (.v (.slice none 0 0))]], true, false⟩], [0])
 | .inr (.inr (.inr (.inl (r0, r1, r2)))) => ((.ifc 412 (.far 0)), [some ⟨3, 134, [[(pS r0), (.list 1 false (r1.map cS)), (.row [1, TAG] 1 0 r2.length)]], false, false⟩, some ⟨2, 274, (r2.map FlagD.c), true, true⟩], [0, 0])
 | .inr (.inr (.inr (.inr (.inl (r0, r1, r2))))) => ((.ifc 412 (.far 1)), [some ⟨3, 134, [[(pS r0), (.list 1 false (r1.map cS)), (.row [1, TAG] 1 0 r2.length)]], false, false⟩, some ⟨2, 274, (r2.map FlagD.c), true, true⟩], [0, 0])
 | .inr (.inr (.inr (.inr (.inr ((r0, r1, r2)))))) => ((.v .nilIface), [some ⟨3, 134, [[(pS r0), (.list 1 false (r1.map cS)), (.row [1, TAG] 1 0 r2.length)]], false, false⟩, some ⟨2, 274, (r2.map FlagD.c), true, true⟩], [0, 0])
set_option maxRecDepth 100000 in
theorem optionTakerGroup_ok (k : Nat) (p0 : ByteArray) (p1 : ByteArray) (p2 : (List ByteArray)) (r : ((ByteArray × (List ByteArray)) ⊕ (ByteArray × (List ByteArray)) ⊕ (ByteArray × (List ByteArray)) ⊕ (ByteArray × (List ByteArray) × (List FlagD)) ⊕ (ByteArray × (List ByteArray) × (List FlagD)) ⊕ (ByteArray × (List ByteArray) × (List FlagD)))) (h : optionTakerGroup p0 p1 p2 = some r) : runS0 (k + 2) 118 [(.ptr [0, TAG] 1 0 0), (pS p0)] [some ⟨3, 134, [[(pS p1), (.list 1 false (p2.map cS)), (.v (.slice none 0 0))]], true, false⟩] [0] = some (optionTakerGroup_out r) := by
  unfold optionTakerGroup at h
  obtain ⟨X_1, q1, h⟩ := bnd_some h
  obtain ⟨a_1, q2, q3⟩ := loop_iter (f := run1 (k + 1) 118 1 55 optionTakerGroup_L1) (optionTakerGroup_S1) (optionTakerGroup_b1) (optionTakerGroup_t1 k) LF (.inl (p0, p1, p2)) _ (stOf (goStop (k + 1) 118 1 55 (adv []) 1 (codeOf Tryz.f118) (argB 118 [(.ptr [0, TAG] 1 0 0), (pS p0)] [some ⟨3, 134, [[(pS p1), (.list 1 false (p2.map cS)), (.v (.slice none 0 0))]], true, false⟩] [0]))) q1 (by kernel_rfl)
  rcases a_1 with ⟨v_1, v_2, v_3⟩ | ⟨v_4, v_5, v_6, v_7⟩
  · unfold optionTakerGroup_b1 at q2
    try dsimp only at q2
    rcases bif_some q2 with ⟨q6, q2⟩ | ⟨q6, q2⟩
    · obtain ⟨b_1, q7, q2⟩ := bnd_some q2
      obtain ⟨b_2, q8, q2⟩ := bnd_some q2
      obtain ⟨r_1, q9, q2⟩ := bnd_some q2
      rcases bif_some q2 with ⟨q10, q2⟩ | ⟨q10, q2⟩
      · cases q2
        try dsimp only at h
        have q4 := run_go (k := (k + 1)) (f := 118) (r0 := 1) (nt := 55) (c := optionTakerGroup_L1) (σ := (optionTakerGroup_S1 (.inl (v_1, v_2, v_3)))) (adv [([], 1, 1, .eq (pB true)), ([], 3, 1, .chr b_1), ([], 4, 5, .chr b_2), ([], 4, 6, .ret (pI r_1)), ([], 5, 1, .eq (pB true))]) (ex := .ret) (by kernel_rfl) (by kernel_rfl) (allC (cg q6) (allC q7 (allC q8 (allC (optionKind_ok k v_2 (b_2.toNat : Int) _ q9) (allC (cg q10) allN)))))
        have q5 := q3 _ _ (by intro e; cases e) q4
        obtain rfl := Option.some.inj h
        exact retS_go (k := (k + 1)) (n := 1) Tryz.func118 Tryz.ntmps118 rfl (by kernel_rfl) (by kernel_rfl) (lb rfl) (adv [] [([], 1, .ret, (stOf (go (k + 1) 118 1 55 (adv [([], 1, 1, .eq (pB true)), ([], 3, 1, .chr b_1), ([], 4, 5, .chr b_2), ([], 4, 6, .ret (pI r_1)), ([], 5, 1, .eq (pB true))]) optionTakerGroup_L1 (optionTakerGroup_S1 (.inl (v_1, v_2, v_3))))))]) (ex := .ret) (r := ((.ifc 412 (.far 0)), [some ⟨3, 134, [[(pS v_2), (.list 1 false (v_3.map cS)), (.v (.slice none 0 0))]], true, false⟩], [0])) (by kernel_rfl) rfl (by kernel_rfl) (allC q5 allN) (by kernel_rfl)
      · rcases bif_some q2 with ⟨q11, q2⟩ | ⟨q11, q2⟩
        · obtain ⟨q12, q2⟩ := grd_some q2
          obtain ⟨q13, q2⟩ := grd_some q2
          rcases bif_some q2 with ⟨q14, q2⟩ | ⟨q14, q2⟩
          · rcases bif_some q2 with ⟨q15, q2⟩ | ⟨q15, q2⟩
            · cases q2
              try dsimp only at h
              have q4 := run_go (k := (k + 1)) (f := 118) (r0 := 1) (nt := 55) (c := optionTakerGroup_L1) (σ := (optionTakerGroup_S1 (.inl (v_1, v_2, v_3)))) (adv [([], 1, 1, .eq (pB true)), ([], 3, 1, .chr b_1), ([], 4, 5, .chr b_2), ([], 4, 6, .ret (pI r_1)), ([], 5, 1, .eq (pB false)), ([], 6, 1, .eq (pB true)), ([], 9, 1, .sub false), ([], 9, 3, .sub false), ([], 10, 2, .eq (pB true)), ([], 11, 4, .eq (pI (v_3.length : Int))), ([], 11, 5, .eq (pB true))]) (ex := .ret) (by kernel_rfl) (by kernel_rfl) (allC (cg q6) (allC q7 (allC q8 (allC (optionKind_ok k v_2 (b_2.toNat : Int) _ q9) (allC (cg q10) (allC (cg q11) (allC q12 (allC q13 (allC (cg q14) (allC (len_ob (rfl : (v_3.map cS) = v_3.map cS)) (allC (cg q15) allN)))))))))))
              have q5 := q3 _ _ (by intro e; cases e) q4
              obtain rfl := Option.some.inj h
              exact retS_go (k := (k + 1)) (n := 1) Tryz.func118 Tryz.ntmps118 rfl (by kernel_rfl) (by kernel_rfl) (lb rfl) (adv [] [([], 1, .ret, (stOf (go (k + 1) 118 1 55 (adv [([], 1, 1, .eq (pB true)), ([], 3, 1, .chr b_1), ([], 4, 5, .chr b_2), ([], 4, 6, .ret (pI r_1)), ([], 5, 1, .eq (pB false)), ([], 6, 1, .eq (pB true)), ([], 9, 1, .sub false), ([], 9, 3, .sub false), ([], 10, 2, .eq (pB true)), ([], 11, 4, .eq (pI (v_3.length : Int))), ([], 11, 5, .eq (pB true))]) optionTakerGroup_L1 (optionTakerGroup_S1 (.inl (v_1, v_2, v_3))))))]) (ex := .ret) (r := ((.ifc 412 (.far 1)), [some ⟨3, 134, [[(pS v_2), (.list 1 false (v_3.map cS)), (.v (.slice none 0 0))]], true, false⟩], [0])) (by kernel_rfl) rfl (by kernel_rfl) (allC q5 allN) (by kernel_rfl)
            · obtain ⟨X_2, q16, q2⟩ := bnd_some q2
              rcases X_2 with ⟨r_2, r_3, r_4⟩
              · try dsimp only at q2
                obtain ⟨q17, q2⟩ := grd_some q2
                cases q2
          · obtain ⟨q15, q2⟩ := grd_some q2
            cases q2
        · rcases bif_some q2 with ⟨q12, q2⟩ | ⟨q12, q2⟩
          · obtain ⟨q13, q2⟩ := grd_some q2
            cases q2
          · obtain ⟨q13, q2⟩ := grd_some q2
            cases q2
    · cases q2
      try dsimp only at h
      have q4 := run_go (k := (k + 1)) (f := 118) (r0 := 1) (nt := 55) (c := optionTakerGroup_L1) (σ := (optionTakerGroup_S1 (.inl (v_1, v_2, v_3)))) (adv [([], 1, 1, .eq (pB false))]) (ex := (.exit 0)) (by kernel_rfl) (by kernel_rfl) (allC (cg q6) allN)
      have q5 := q3 _ _ (by intro e; cases e) q4
      obtain rfl := Option.some.inj h
      exact retS_go (k := (k + 1)) (n := 1) Tryz.func118 Tryz.ntmps118 rfl (by kernel_rfl) (by kernel_rfl) (lb rfl) (adv [] [([], 1, (.exit 0), (stOf (go (k + 1) 118 1 55 (adv [([], 1, 1, .eq (pB false))]) optionTakerGroup_L1 (optionTakerGroup_S1 (.inl (v_1, v_2, v_3))))))]) (ex := .ret) (r := ((.v .nilIface), [some ⟨3, 134, [[(pS v_2), (.list 1 false (v_3.map cS)), (.v (.slice none 0 0))]], true, false⟩], [0])) (by kernel_rfl) rfl (by kernel_rfl) (allC q5 allN) (by kernel_rfl)
  · unfold optionTakerGroup_b1 at q2
    try dsimp only at q2
    rcases bif_some q2 with ⟨q6, q2⟩ | ⟨q6, q2⟩
    · obtain ⟨b_1, q7, q2⟩ := bnd_some q2
      obtain ⟨b_2, q8, q2⟩ := bnd_some q2
      obtain ⟨r_1, q9, q2⟩ := bnd_some q2
      rcases bif_some q2 with ⟨q10, q2⟩ | ⟨q10, q2⟩
      · cases q2
        try dsimp only at h
        have q4 := run_go (k := (k + 1)) (f := 118) (r0 := 1) (nt := 55) (c := optionTakerGroup_L1) (σ := (optionTakerGroup_S1 (.inr ((v_4, v_5, v_6, v_7))))) (adv [([], 1, 1, .eq (pB true)), ([], 3, 1, .chr b_1), ([], 4, 5, .chr b_2), ([], 4, 6, .ret (pI r_1)), ([], 5, 1, .eq (pB true))]) (ex := .ret) (by kernel_rfl) (by kernel_rfl) (allC (cg q6) (allC q7 (allC q8 (allC (optionKind_ok k v_5 (b_2.toNat : Int) _ q9) (allC (cg q10) allN)))))
        have q5 := q3 _ _ (by intro e; cases e) q4
        obtain rfl := Option.some.inj h
        exact retS_go (k := (k + 1)) (n := 1) Tryz.func118 Tryz.ntmps118 rfl (by kernel_rfl) (by kernel_rfl) (lb rfl) (adv [] [([], 1, .ret, (stOf (go (k + 1) 118 1 55 (adv [([], 1, 1, .eq (pB true)), ([], 3, 1, .chr b_1), ([], 4, 5, .chr b_2), ([], 4, 6, .ret (pI r_1)), ([], 5, 1, .eq (pB true))]) optionTakerGroup_L1 (optionTakerGroup_S1 (.inr ((v_4, v_5, v_6, v_7)))))))]) (ex := .ret) (r := ((.ifc 412 (.far 0)), [some ⟨3, 134, [[(pS v_5), (.list 1 false (v_6.map cS)), (.row [1, TAG] 1 0 v_7.length)]], false, false⟩, some ⟨2, 274, (v_7.map FlagD.c), true, true⟩], [0, 0])) (by kernel_rfl) rfl (by kernel_rfl) (allC q5 allN) (by kernel_rfl)
      · rcases bif_some q2 with ⟨q11, q2⟩ | ⟨q11, q2⟩
        · obtain ⟨q12, q2⟩ := grd_some q2
          obtain ⟨q13, q2⟩ := grd_some q2
          rcases bif_some q2 with ⟨q14, q2⟩ | ⟨q14, q2⟩
          · rcases bif_some q2 with ⟨q15, q2⟩ | ⟨q15, q2⟩
            · cases q2
              try dsimp only at h
              have q4 := run_go (k := (k + 1)) (f := 118) (r0 := 1) (nt := 55) (c := optionTakerGroup_L1) (σ := (optionTakerGroup_S1 (.inr ((v_4, v_5, v_6, v_7))))) (adv [([], 1, 1, .eq (pB true)), ([], 3, 1, .chr b_1), ([], 4, 5, .chr b_2), ([], 4, 6, .ret (pI r_1)), ([], 5, 1, .eq (pB false)), ([], 6, 1, .eq (pB true)), ([], 9, 1, .sub false), ([], 9, 3, .sub false), ([], 10, 2, .eq (pB true)), ([], 11, 4, .eq (pI (v_6.length : Int))), ([], 11, 5, .eq (pB true))]) (ex := .ret) (by kernel_rfl) (by kernel_rfl) (allC (cg q6) (allC q7 (allC q8 (allC (optionKind_ok k v_5 (b_2.toNat : Int) _ q9) (allC (cg q10) (allC (cg q11) (allC q12 (allC q13 (allC (cg q14) (allC (len_ob (rfl : (v_6.map cS) = v_6.map cS)) (allC (cg q15) allN)))))))))))
              have q5 := q3 _ _ (by intro e; cases e) q4
              obtain rfl := Option.some.inj h
              exact retS_go (k := (k + 1)) (n := 1) Tryz.func118 Tryz.ntmps118 rfl (by kernel_rfl) (by kernel_rfl) (lb rfl) (adv [] [([], 1, .ret, (stOf (go (k + 1) 118 1 55 (adv [([], 1, 1, .eq (pB true)), ([], 3, 1, .chr b_1), ([], 4, 5, .chr b_2), ([], 4, 6, .ret (pI r_1)), ([], 5, 1, .eq (pB false)), ([], 6, 1, .eq (pB true)), ([], 9, 1, .sub false), ([], 9, 3, .sub false), ([], 10, 2, .eq (pB true)), ([], 11, 4, .eq (pI (v_6.length : Int))), ([], 11, 5, .eq (pB true))]) optionTakerGroup_L1 (optionTakerGroup_S1 (.inr ((v_4, v_5, v_6, v_7)))))))]) (ex := .ret) (r := ((.ifc 412 (.far 1)), [some ⟨3, 134, [[(pS v_5), (.list 1 false (v_6.map cS)), (.row [1, TAG] 1 0 v_7.length)]], false, false⟩, some ⟨2, 274, (v_7.map FlagD.c), true, true⟩], [0, 0])) (by kernel_rfl) rfl (by kernel_rfl) (allC q5 allN) (by kernel_rfl)
            · obtain ⟨X_2, q16, q2⟩ := bnd_some q2
              rcases X_2 with ⟨r_2, r_3, r_4, r_5⟩
              · try dsimp only at q2
                obtain ⟨q17, q2⟩ := grd_some q2
                obtain ⟨q18, q2⟩ := grd_some q2
                cases q2
          · obtain ⟨q15, q2⟩ := grd_some q2
            obtain ⟨q16, q2⟩ := grd_some q2
            cases q2
        · rcases bif_some q2 with ⟨q12, q2⟩ | ⟨q12, q2⟩
          · obtain ⟨q13, q2⟩ := grd_some q2
            obtain ⟨q14, q2⟩ := grd_some q2
            cases q2
          · obtain ⟨q13, q2⟩ := grd_some q2
            cases q2
    · cases q2
      try dsimp only at h
      have q4 := run_go (k := (k + 1)) (f := 118) (r0 := 1) (nt := 55) (c := optionTakerGroup_L1) (σ := (optionTakerGroup_S1 (.inr ((v_4, v_5, v_6, v_7))))) (adv [([], 1, 1, .eq (pB false))]) (ex := (.exit 0)) (by kernel_rfl) (by kernel_rfl) (allC (cg q6) allN)
      have q5 := q3 _ _ (by intro e; cases e) q4
      obtain rfl := Option.some.inj h
      exact retS_go (k := (k + 1)) (n := 1) Tryz.func118 Tryz.ntmps118 rfl (by kernel_rfl) (by kernel_rfl) (lb rfl) (adv [] [([], 1, (.exit 0), (stOf (go (k + 1) 118 1 55 (adv [([], 1, 1, .eq (pB false))]) optionTakerGroup_L1 (optionTakerGroup_S1 (.inr ((v_4, v_5, v_6, v_7)))))))]) (ex := .ret) (r := ((.v .nilIface), [some ⟨3, 134, [[(pS v_5), (.list 1 false (v_6.map cS)), (.row [1, TAG] 1 0 v_7.length)]], false, false⟩, some ⟨2, 274, (v_7.map FlagD.c), true, true⟩], [0, 0])) (by kernel_rfl) rfl (by kernel_rfl) (allC q5 allN) (by kernel_rfl)
end Go.Proofs.YtaenhodkpidocaaGreatDoor.Den
namespace Go.Proofs.YtaenhodkpidocaaGreatDoor.Den
open Go Go.RowKit
noncomputable def optionTakerGroup2_L1 : Code := cAt (codeOf Tryz.f118) [true, false, false, false]
def optionTakerGroup2_R1_0 (x0 : ByteArray) (x1 : ByteArray) (x2 : List (List PV)) (x3 : Nat) (x4 : List (List PV)) : St := ⟨envL [(0, (.ptr [0, TAG] 1 0 0)), (1, (pS x0))], hsL [some ⟨3, 134, [[(pS x1), (.list 1 false x2), (.row [1, TAG] 1 0 x3)]], false, false⟩, some ⟨2, 274, x4, true, true⟩] [0, 0]⟩
def optionTakerGroup2_R1_1 (x0 : ByteArray) (x1 : ByteArray) (x2 : List (List PV)) (x3 : Nat) (x4 : List (List PV)) : St := ⟨envL [(0, (.ptr [0, TAG] 1 0 0)), (1, (pS x0))], hsL [some ⟨3, 134, [[(pS x1), (.list 1 false x2), (.row [2, TAG] 1 0 x3)]], false, false⟩, none, some ⟨2, 274, x4, true, true⟩] [0, 0, 0]⟩
theorem optionTakerGroup2_R1_1_eq {x0 y0 : ByteArray} {x1 y1 : ByteArray} {x2 y2 : List (List PV)} {x3 y3 : Nat} {x4 y4 : List (List PV)} (h0 : x0 = y0) (h1 : x1 = y1) (h2 : x2 = y2) (h3 : x3 = y3) (h4 : x4 = y4) : optionTakerGroup2_R1_1 x0 x1 x2 x3 x4 = optionTakerGroup2_R1_1 y0 y1 y2 y3 y4 := by
  subst h0 h1 h2 h3 h4; rfl
def optionTakerGroup2_S1 : ((ByteArray × ByteArray × (List ByteArray) × (List FlagD)) ⊕ (ByteArray × ByteArray × (List ByteArray) × (List FlagD))) → St
 | .inl (v0, v1, v2, v3) => optionTakerGroup2_R1_0 v0 v1 (v2.map cS) v3.length (v3.map FlagD.c)
 | .inr ((v0, v1, v2, v3)) => optionTakerGroup2_R1_1 v0 v1 (v2.map cS) v3.length (v3.map FlagD.c)
def optionTakerGroup2_b1 : ((ByteArray × ByteArray × (List ByteArray) × (List FlagD)) ⊕ (ByteArray × ByteArray × (List ByteArray) × (List FlagD))) → Option (((ByteArray × ByteArray × (List ByteArray) × (List FlagD)) ⊕ (ByteArray × ByteArray × (List ByteArray) × (List FlagD))) ⊕ ((ByteArray × ByteArray × (List ByteArray) × (List FlagD) × UInt8 × UInt8 × Int) ⊕ (ByteArray × ByteArray × (List ByteArray) × (List FlagD) × UInt8 × UInt8 × Int) ⊕ (ByteArray × ByteArray × (List ByteArray) × (List FlagD)) ⊕ (ByteArray × ByteArray × (List ByteArray) × (List FlagD) × UInt8 × UInt8 × Int) ⊕ (ByteArray × ByteArray × (List ByteArray) × (List FlagD) × UInt8 × UInt8 × Int) ⊕ (ByteArray × ByteArray × (List ByteArray) × (List FlagD))))
 | .inl (v0, v1, v2, v3) =>
 bif (!(seq v0 (bs []))) then (
 (gtS v0 (0 : Int)).bind fun b_1 =>
 (gtS v0 (0 : Int)).bind fun b_2 =>
 (optionKind v1 (b_2.toNat : Int)).bind fun r_1 =>
 bif (r_1 == (0 : Int)) then (
 some (.inr (.inl (v0, v1, v2, v3, b_1, b_2, r_1)))
 ) else (
 bif (r_1 == (2 : Int)) then (
 grd (0 ≤ (1 : Int) ∧ (1 : Int) ≤ (v0.size : Int) ∧ (v0.size : Int) ≤ (v0.size : Int)) <|
 grd (0 ≤ (0 : Int) ∧ (0 : Int) ≤ (1 : Int) ∧ (1 : Int) ≤ (v0.size : Int)) <|
 bif (seq (v0.extract ((1 : Int)).toNat v0.size) (bs [])) then (
 bif ((v2.length : Int) == (0 : Int)) then (
 some (.inr (.inr (.inl (v0, v1, v2, v3, b_1, b_2, r_1))))
 ) else (
 (optionTakerNext2 v1 v2 v3).bind fun (r_2, r_3, r_4, r_5) =>
 grd (room (r_5.length + 1) 24) <|
 grd (0 ≤ (1 : Int) ∧ (1 : Int) ≤ ((v0.extract 0 ((1 : Int)).toNat).size : Int) ∧ ((v0.extract 0 ((1 : Int)).toNat).size : Int) ≤ ((v0.extract 0 ((1 : Int)).toNat).size : Int)) <|
 some (.inl (.inr ((((v0.extract 0 ((1 : Int)).toNat).extract ((1 : Int)).toNat (v0.extract 0 ((1 : Int)).toNat).size), r_3, r_4, (r_5 ++ [(FlagD.mk (b_1.toNat : Int) r_2)])))))
 )
 ) else (
 grd (room (v3.length + 1) 24) <|
 grd (0 ≤ (1 : Int) ∧ (1 : Int) ≤ ((v0.extract 0 ((1 : Int)).toNat).size : Int) ∧ ((v0.extract 0 ((1 : Int)).toNat).size : Int) ≤ ((v0.extract 0 ((1 : Int)).toNat).size : Int)) <|
 some (.inl (.inr ((((v0.extract 0 ((1 : Int)).toNat).extract ((1 : Int)).toNat (v0.extract 0 ((1 : Int)).toNat).size), v1, v2, (v3 ++ [(FlagD.mk (b_1.toNat : Int) (v0.extract ((1 : Int)).toNat v0.size))])))))
 )
 ) else (
 bif (r_1 == (1 : Int)) then (
 grd (room (v3.length + 1) 24) <|
 grd (0 ≤ (1 : Int) ∧ (1 : Int) ≤ (v0.size : Int) ∧ (v0.size : Int) ≤ (v0.size : Int)) <|
 some (.inl (.inr (((v0.extract ((1 : Int)).toNat v0.size), v1, v2, (v3 ++ [(FlagD.mk (b_1.toNat : Int) (bs []))])))))
 ) else (
 grd (0 ≤ (1 : Int) ∧ (1 : Int) ≤ (v0.size : Int) ∧ (v0.size : Int) ≤ (v0.size : Int)) <|
 some (.inl (.inl ((v0.extract ((1 : Int)).toNat v0.size), v1, v2, v3)))
 )
 )
 )
 ) else (
 some (.inr (.inr (.inr (.inl (v0, v1, v2, v3)))))
 )
 | .inr ((v0, v1, v2, v3)) =>
 bif (!(seq v0 (bs []))) then (
 (gtS v0 (0 : Int)).bind fun b_1 =>
 (gtS v0 (0 : Int)).bind fun b_2 =>
 (optionKind v1 (b_2.toNat : Int)).bind fun r_1 =>
 bif (r_1 == (0 : Int)) then (
 some (.inr (.inr (.inr (.inr (.inl (v0, v1, v2, v3, b_1, b_2, r_1))))))
 ) else (
 bif (r_1 == (2 : Int)) then (
 grd (0 ≤ (1 : Int) ∧ (1 : Int) ≤ (v0.size : Int) ∧ (v0.size : Int) ≤ (v0.size : Int)) <|
 grd (0 ≤ (0 : Int) ∧ (0 : Int) ≤ (1 : Int) ∧ (1 : Int) ≤ (v0.size : Int)) <|
 bif (seq (v0.extract ((1 : Int)).toNat v0.size) (bs [])) then (
 bif ((v2.length : Int) == (0 : Int)) then (
 some (.inr (.inr (.inr (.inr (.inr (.inl (v0, v1, v2, v3, b_1, b_2, r_1)))))))
 ) else (
 (optionTakerNext2 v1 v2 v3).bind fun (r_2, r_3, r_4, r_5) =>
 grd (room (r_5.length + 1) 24) <|
 grd (0 ≤ (1 : Int) ∧ (1 : Int) ≤ ((v0.extract 0 ((1 : Int)).toNat).size : Int) ∧ ((v0.extract 0 ((1 : Int)).toNat).size : Int) ≤ ((v0.extract 0 ((1 : Int)).toNat).size : Int)) <|
 some (.inl (.inr ((((v0.extract 0 ((1 : Int)).toNat).extract ((1 : Int)).toNat (v0.extract 0 ((1 : Int)).toNat).size), r_3, r_4, (r_5 ++ [(FlagD.mk (b_1.toNat : Int) r_2)])))))
 )
 ) else (
 grd (room (v3.length + 1) 24) <|
 grd (0 ≤ (1 : Int) ∧ (1 : Int) ≤ ((v0.extract 0 ((1 : Int)).toNat).size : Int) ∧ ((v0.extract 0 ((1 : Int)).toNat).size : Int) ≤ ((v0.extract 0 ((1 : Int)).toNat).size : Int)) <|
 some (.inl (.inr ((((v0.extract 0 ((1 : Int)).toNat).extract ((1 : Int)).toNat (v0.extract 0 ((1 : Int)).toNat).size), v1, v2, (v3 ++ [(FlagD.mk (b_1.toNat : Int) (v0.extract ((1 : Int)).toNat v0.size))])))))
 )
 ) else (
 bif (r_1 == (1 : Int)) then (
 grd (room (v3.length + 1) 24) <|
 grd (0 ≤ (1 : Int) ∧ (1 : Int) ≤ (v0.size : Int) ∧ (v0.size : Int) ≤ (v0.size : Int)) <|
 some (.inl (.inr (((v0.extract ((1 : Int)).toNat v0.size), v1, v2, (v3 ++ [(FlagD.mk (b_1.toNat : Int) (bs []))])))))
 ) else (
 grd (0 ≤ (1 : Int) ∧ (1 : Int) ≤ (v0.size : Int) ∧ (v0.size : Int) ≤ (v0.size : Int)) <|
 some (.inl (.inr (((v0.extract ((1 : Int)).toNat v0.size), v1, v2, v3))))
 )
 )
 )
 ) else (
 some (.inr (.inr (.inr (.inr (.inr (.inr ((v0, v1, v2, v3))))))))
 )
set_option maxRecDepth 100000 in
theorem optionTakerGroup2_t1 (k : Nat) (a a1 : ((ByteArray × ByteArray × (List ByteArray) × (List FlagD)) ⊕ (ByteArray × ByteArray × (List ByteArray) × (List FlagD)))) (h : optionTakerGroup2_b1 a = some (.inl a1)) : ∃ σ, run1 (k + 1) 118 2 55 optionTakerGroup2_L1 (optionTakerGroup2_S1 a) = some (.normal, σ) ∧ canonS 2 [0, 1] σ = some (optionTakerGroup2_S1 a1) := by
  rcases a with ⟨v0, v1, v2, v3⟩ | ⟨v0, v1, v2, v3⟩
  · unfold optionTakerGroup2_b1 at h
    try dsimp only at h
    rcases bif_some h with ⟨q1, h⟩ | ⟨q1, h⟩
    · obtain ⟨b_1, q2, h⟩ := bnd_some h
      obtain ⟨b_2, q3, h⟩ := bnd_some h
      obtain ⟨r_1, q4, h⟩ := bnd_some h
      rcases bif_some h with ⟨q5, h⟩ | ⟨q5, h⟩
      · cases h
      · rcases bif_some h with ⟨q6, h⟩ | ⟨q6, h⟩
        · obtain ⟨q7, h⟩ := grd_some h
          obtain ⟨q8, h⟩ := grd_some h
          rcases bif_some h with ⟨q9, h⟩ | ⟨q9, h⟩
          · rcases bif_some h with ⟨q10, h⟩ | ⟨q10, h⟩
            · cases h
            · obtain ⟨X_1, q11, h⟩ := bnd_some h
              rcases X_1 with ⟨r_2, r_3, r_4, r_5⟩
              · try dsimp only at h
                obtain ⟨q12, h⟩ := grd_some h
                obtain ⟨q13, h⟩ := grd_some h
                obtain rfl := Sum.inl.inj (Option.some.inj h)
                exact ⟨_, run_go (k := (k + 1)) (f := 118) (r0 := 2) (nt := 55) (c := optionTakerGroup2_L1) (σ := (optionTakerGroup2_S1 (.inl (v0, v1, v2, v3)))) (adv [([], 1, 1, .eq (pB true)), ([], 3, 1, .chr b_1), ([], 4, 5, .chr b_2), ([], 4, 6, .ret (pI r_1)), ([], 5, 1, .eq (pB false)), ([], 6, 1, .eq (pB true)), ([], 9, 1, .sub false), ([], 9, 3, .sub false), ([], 10, 2, .eq (pB true)), ([], 11, 4, .eq (pI (v2.length : Int))), ([], 11, 5, .eq (pB false)), ([], 13, 1, .retS (pS r_2) [some ⟨3, 134, [[(pS r_3), (.list 1 false (r_4.map cS)), (.row [1, TAG] 1 0 r_5.length)]], false, false⟩, some ⟨2, 274, (r_5.map FlagD.c), true, true⟩] [0, 0]), ([], 14, 7, .ok), ([], 2, 1, .sub false)]) (ex := .normal) (by kernel_rfl) (by kernel_rfl) (allC (cg q1) (allC q2 (allC q3 (allC (optionKind_ok k v1 (b_2.toNat : Int) _ q4) (allC (cg q5) (allC (cg q6) (allC q7 (allC q8 (allC (cg q9) (allC (len_ob (rfl : (v2.map cS) = v2.map cS)) (allC (cg q10) (allC (optionTakerNext2_ok k v1 v2 v3 _ q11) (allC (app_ok (rfl : (r_5.map FlagD.c) = r_5.map FlagD.c) (rfl : r_5.length = r_5.length) q12) (allC q13 allN)))))))))))))), (Eq.trans (b := some (optionTakerGroup2_R1_1 ((v0.extract 0 ((1 : Int)).toNat).extract ((1 : Int)).toNat (v0.extract 0 ((1 : Int)).toNat).size) r_3 (r_4.map cS) (r_5.length + 1) ((r_5.map FlagD.c) ++ [[(.v (.int .u8 (b_1.toNat : Int))), (pS r_2)]]))) (by kernel_rfl) (congrArg some ((optionTakerGroup2_R1_1_eq (rfl : ((v0.extract 0 ((1 : Int)).toNat).extract ((1 : Int)).toNat (v0.extract 0 ((1 : Int)).toNat).size) = ((v0.extract 0 ((1 : Int)).toNat).extract ((1 : Int)).toNat (v0.extract 0 ((1 : Int)).toNat).size)) (rfl : r_3 = r_3) (rfl : (r_4.map cS) = (r_4.map cS)) ((len_cat (rfl : r_5.length = r_5.length) r_5 (rfl : 1 = [(FlagD.mk (b_1.toNat : Int) r_2)].length)) : (r_5.length + 1) = ((r_5 ++ [(FlagD.mk (b_1.toNat : Int) r_2)]).length)) ((enc_cat (rfl : (r_5.map FlagD.c) = r_5.map FlagD.c) (show [[(.v (.int .u8 (b_1.toNat : Int))), (pS r_2)]] = [(FlagD.mk (b_1.toNat : Int) r_2)].map FlagD.c from rfl)) : ((r_5.map FlagD.c) ++ [[(.v (.int .u8 (b_1.toNat : Int))), (pS r_2)]]) = ((r_5 ++ [(FlagD.mk (b_1.toNat : Int) r_2)]).map FlagD.c))).trans (by kernel_rfl : optionTakerGroup2_R1_1 ((v0.extract 0 ((1 : Int)).toNat).extract ((1 : Int)).toNat (v0.extract 0 ((1 : Int)).toNat).size) r_3 (r_4.map cS) ((r_5 ++ [(FlagD.mk (b_1.toNat : Int) r_2)]).length) ((r_5 ++ [(FlagD.mk (b_1.toNat : Int) r_2)]).map FlagD.c) = optionTakerGroup2_S1 (.inr ((((v0.extract 0 ((1 : Int)).toNat).extract ((1 : Int)).toNat (v0.extract 0 ((1 : Int)).toNat).size), r_3, r_4, (r_5 ++ [(FlagD.mk (b_1.toNat : Int) r_2)]))))))))⟩
          · obtain ⟨q10, h⟩ := grd_some h
            obtain ⟨q11, h⟩ := grd_some h
            obtain rfl := Sum.inl.inj (Option.some.inj h)
            exact ⟨_, run_go (k := (k + 1)) (f := 118) (r0 := 2) (nt := 55) (c := optionTakerGroup2_L1) (σ := (optionTakerGroup2_S1 (.inl (v0, v1, v2, v3)))) (adv [([], 1, 1, .eq (pB true)), ([], 3, 1, .chr b_1), ([], 4, 5, .chr b_2), ([], 4, 6, .ret (pI r_1)), ([], 5, 1, .eq (pB false)), ([], 6, 1, .eq (pB true)), ([], 9, 1, .sub false), ([], 9, 3, .sub false), ([], 10, 2, .eq (pB false)), ([], 14, 7, .ok), ([], 2, 1, .sub false)]) (ex := .normal) (by kernel_rfl) (by kernel_rfl) (allC (cg q1) (allC q2 (allC q3 (allC (optionKind_ok k v1 (b_2.toNat : Int) _ q4) (allC (cg q5) (allC (cg q6) (allC q7 (allC q8 (allC (cg q9) (allC (app_ok (rfl : (v3.map FlagD.c) = v3.map FlagD.c) (rfl : v3.length = v3.length) q10) (allC q11 allN))))))))))), (Eq.trans (b := some (optionTakerGroup2_R1_1 ((v0.extract 0 ((1 : Int)).toNat).extract ((1 : Int)).toNat (v0.extract 0 ((1 : Int)).toNat).size) v1 (v2.map cS) (v3.length + 1) ((v3.map FlagD.c) ++ [[(.v (.int .u8 (b_1.toNat : Int))), (pS (v0.extract ((1 : Int)).toNat v0.size))]]))) (by kernel_rfl) (congrArg some ((optionTakerGroup2_R1_1_eq (rfl : ((v0.extract 0 ((1 : Int)).toNat).extract ((1 : Int)).toNat (v0.extract 0 ((1 : Int)).toNat).size) = ((v0.extract 0 ((1 : Int)).toNat).extract ((1 : Int)).toNat (v0.extract 0 ((1 : Int)).toNat).size)) (rfl : v1 = v1) (rfl : (v2.map cS) = (v2.map cS)) ((len_cat (rfl : v3.length = v3.length) v3 (rfl : 1 = [(FlagD.mk (b_1.toNat : Int) (v0.extract ((1 : Int)).toNat v0.size))].length)) : (v3.length + 1) = ((v3 ++ [(FlagD.mk (b_1.toNat : Int) (v0.extract ((1 : Int)).toNat v0.size))]).length)) ((enc_cat (rfl : (v3.map FlagD.c) = v3.map FlagD.c) (show [[(.v (.int .u8 (b_1.toNat : Int))), (pS (v0.extract ((1 : Int)).toNat v0.size))]] = [(FlagD.mk (b_1.toNat : Int) (v0.extract ((1 : Int)).toNat v0.size))].map FlagD.c from rfl)) : ((v3.map FlagD.c) ++ [[(.v (.int .u8 (b_1.toNat : Int))), (pS (v0.extract ((1 : Int)).toNat v0.size))]]) = ((v3 ++ [(FlagD.mk (b_1.toNat : Int) (v0.extract ((1 : Int)).toNat v0.size))]).map FlagD.c))).trans (by kernel_rfl : optionTakerGroup2_R1_1 ((v0.extract 0 ((1 : Int)).toNat).extract ((1 : Int)).toNat (v0.extract 0 ((1 : Int)).toNat).size) v1 (v2.map cS) ((v3 ++ [(FlagD.mk (b_1.toNat : Int) (v0.extract ((1 : Int)).toNat v0.size))]).length) ((v3 ++ [(FlagD.mk (b_1.toNat : Int) (v0.extract ((1 : Int)).toNat v0.size))]).map FlagD.c) = optionTakerGroup2_S1 (.inr ((((v0.extract 0 ((1 : Int)).toNat).extract ((1 : Int)).toNat (v0.extract 0 ((1 : Int)).toNat).size), v1, v2, (v3 ++ [(FlagD.mk (b_1.toNat : Int) (v0.extract ((1 : Int)).toNat v0.size))]))))))))⟩
        · rcases bif_some h with ⟨q7, h⟩ | ⟨q7, h⟩
          · obtain ⟨q8, h⟩ := grd_some h
            obtain ⟨q9, h⟩ := grd_some h
            obtain rfl := Sum.inl.inj (Option.some.inj h)
            exact ⟨_, run_go (k := (k + 1)) (f := 118) (r0 := 2) (nt := 55) (c := optionTakerGroup2_L1) (σ := (optionTakerGroup2_S1 (.inl (v0, v1, v2, v3)))) (adv [([], 1, 1, .eq (pB true)), ([], 3, 1, .chr b_1), ([], 4, 5, .chr b_2), ([], 4, 6, .ret (pI r_1)), ([], 5, 1, .eq (pB false)), ([], 6, 1, .eq (pB false)), ([], 7, 1, .eq (pB true)), ([], 14, 7, .ok), ([], 2, 1, .sub false)]) (ex := .normal) (by kernel_rfl) (by kernel_rfl) (allC (cg q1) (allC q2 (allC q3 (allC (optionKind_ok k v1 (b_2.toNat : Int) _ q4) (allC (cg q5) (allC (cg q6) (allC (cg q7) (allC (app_ok (rfl : (v3.map FlagD.c) = v3.map FlagD.c) (rfl : v3.length = v3.length) q8) (allC q9 allN))))))))), (Eq.trans (b := some (optionTakerGroup2_R1_1 (v0.extract ((1 : Int)).toNat v0.size) v1 (v2.map cS) (v3.length + 1) ((v3.map FlagD.c) ++ [[(.v (.int .u8 (b_1.toNat : Int))), (pS (bs []))]]))) (by kernel_rfl) (congrArg some ((optionTakerGroup2_R1_1_eq (rfl : (v0.extract ((1 : Int)).toNat v0.size) = (v0.extract ((1 : Int)).toNat v0.size)) (rfl : v1 = v1) (rfl : (v2.map cS) = (v2.map cS)) ((len_cat (rfl : v3.length = v3.length) v3 (rfl : 1 = ([(FlagD.mk (b_1.toNat : Int) (bs []))]).length)) : (v3.length + 1) = ((v3 ++ [(FlagD.mk (b_1.toNat : Int) (bs []))]).length)) ((enc_cat (rfl : (v3.map FlagD.c) = v3.map FlagD.c) (show [[(.v (.int .u8 (b_1.toNat : Int))), (pS (bs []))]] = ([(FlagD.mk (b_1.toNat : Int) (bs []))]).map FlagD.c from rfl)) : ((v3.map FlagD.c) ++ [[(.v (.int .u8 (b_1.toNat : Int))), (pS (bs []))]]) = ((v3 ++ [(FlagD.mk (b_1.toNat : Int) (bs []))]).map FlagD.c))).trans (by kernel_rfl : optionTakerGroup2_R1_1 (v0.extract ((1 : Int)).toNat v0.size) v1 (v2.map cS) ((v3 ++ [(FlagD.mk (b_1.toNat : Int) (bs []))]).length) ((v3 ++ [(FlagD.mk (b_1.toNat : Int) (bs []))]).map FlagD.c) = optionTakerGroup2_S1 (.inr (((v0.extract ((1 : Int)).toNat v0.size), v1, v2, (v3 ++ [(FlagD.mk (b_1.toNat : Int) (bs []))]))))))))⟩
          · obtain ⟨q8, h⟩ := grd_some h
            obtain rfl := Sum.inl.inj (Option.some.inj h)
            exact ⟨_, run_go (k := (k + 1)) (f := 118) (r0 := 2) (nt := 55) (c := optionTakerGroup2_L1) (σ := (optionTakerGroup2_S1 (.inl (v0, v1, v2, v3)))) (adv [([], 1, 1, .eq (pB true)), ([], 3, 1, .chr b_1), ([], 4, 5, .chr b_2), ([], 4, 6, .ret (pI r_1)), ([], 5, 1, .eq (pB false)), ([], 6, 1, .eq (pB false)), ([], 7, 1, .eq (pB false)), ([], 2, 1, .sub false)]) (ex := .normal) (by kernel_rfl) (by kernel_rfl) (allC (cg q1) (allC q2 (allC q3 (allC (optionKind_ok k v1 (b_2.toNat : Int) _ q4) (allC (cg q5) (allC (cg q6) (allC (cg q7) (allC q8 allN)))))))), (by kernel_rfl)⟩
    · cases h
  · unfold optionTakerGroup2_b1 at h
    try dsimp only at h
    rcases bif_some h with ⟨q1, h⟩ | ⟨q1, h⟩
    · obtain ⟨b_1, q2, h⟩ := bnd_some h
      obtain ⟨b_2, q3, h⟩ := bnd_some h
      obtain ⟨r_1, q4, h⟩ := bnd_some h
      rcases bif_some h with ⟨q5, h⟩ | ⟨q5, h⟩
      · cases h
      · rcases bif_some h with ⟨q6, h⟩ | ⟨q6, h⟩
        · obtain ⟨q7, h⟩ := grd_some h
          obtain ⟨q8, h⟩ := grd_some h
          rcases bif_some h with ⟨q9, h⟩ | ⟨q9, h⟩
          · rcases bif_some h with ⟨q10, h⟩ | ⟨q10, h⟩
            · cases h
            · obtain ⟨X_1, q11, h⟩ := bnd_some h
              rcases X_1 with ⟨r_2, r_3, r_4, r_5⟩
              · try dsimp only at h
                obtain ⟨q12, h⟩ := grd_some h
                obtain ⟨q13, h⟩ := grd_some h
                obtain rfl := Sum.inl.inj (Option.some.inj h)
                exact ⟨_, run_go (k := (k + 1)) (f := 118) (r0 := 2) (nt := 55) (c := optionTakerGroup2_L1) (σ := (optionTakerGroup2_S1 (.inr ((v0, v1, v2, v3))))) (adv [([], 1, 1, .eq (pB true)), ([], 3, 1, .chr b_1), ([], 4, 5, .chr b_2), ([], 4, 6, .ret (pI r_1)), ([], 5, 1, .eq (pB false)), ([], 6, 1, .eq (pB true)), ([], 9, 1, .sub false), ([], 9, 3, .sub false), ([], 10, 2, .eq (pB true)), ([], 11, 4, .eq (pI (v2.length : Int))), ([], 11, 5, .eq (pB false)), ([], 13, 1, .retS (pS r_2) [some ⟨3, 134, [[(pS r_3), (.list 1 false (r_4.map cS)), (.row [1, TAG] 1 0 r_5.length)]], false, false⟩, some ⟨2, 274, (r_5.map FlagD.c), true, true⟩] [0, 0]), ([], 14, 7, .ok), ([], 2, 1, .sub false)]) (ex := .normal) (by kernel_rfl) (by kernel_rfl) (allC (cg q1) (allC q2 (allC q3 (allC (optionKind_ok k v1 (b_2.toNat : Int) _ q4) (allC (cg q5) (allC (cg q6) (allC q7 (allC q8 (allC (cg q9) (allC (len_ob (rfl : (v2.map cS) = v2.map cS)) (allC (cg q10) (allC (optionTakerNext2_ok k v1 v2 v3 _ q11) (allC (app_ok (rfl : (r_5.map FlagD.c) = r_5.map FlagD.c) (rfl : r_5.length = r_5.length) q12) (allC q13 allN)))))))))))))), (Eq.trans (b := some (optionTakerGroup2_R1_1 ((v0.extract 0 ((1 : Int)).toNat).extract ((1 : Int)).toNat (v0.extract 0 ((1 : Int)).toNat).size) r_3 (r_4.map cS) (r_5.length + 1) ((r_5.map FlagD.c) ++ [[(.v (.int .u8 (b_1.toNat : Int))), (pS r_2)]]))) (by kernel_rfl) (congrArg some ((optionTakerGroup2_R1_1_eq (rfl : ((v0.extract 0 ((1 : Int)).toNat).extract ((1 : Int)).toNat (v0.extract 0 ((1 : Int)).toNat).size) = ((v0.extract 0 ((1 : Int)).toNat).extract ((1 : Int)).toNat (v0.extract 0 ((1 : Int)).toNat).size)) (rfl : r_3 = r_3) (rfl : (r_4.map cS) = (r_4.map cS)) ((len_cat (rfl : r_5.length = r_5.length) r_5 (rfl : 1 = [(FlagD.mk (b_1.toNat : Int) r_2)].length)) : (r_5.length + 1) = ((r_5 ++ [(FlagD.mk (b_1.toNat : Int) r_2)]).length)) ((enc_cat (rfl : (r_5.map FlagD.c) = r_5.map FlagD.c) (show [[(.v (.int .u8 (b_1.toNat : Int))), (pS r_2)]] = [(FlagD.mk (b_1.toNat : Int) r_2)].map FlagD.c from rfl)) : ((r_5.map FlagD.c) ++ [[(.v (.int .u8 (b_1.toNat : Int))), (pS r_2)]]) = ((r_5 ++ [(FlagD.mk (b_1.toNat : Int) r_2)]).map FlagD.c))).trans (by kernel_rfl : optionTakerGroup2_R1_1 ((v0.extract 0 ((1 : Int)).toNat).extract ((1 : Int)).toNat (v0.extract 0 ((1 : Int)).toNat).size) r_3 (r_4.map cS) ((r_5 ++ [(FlagD.mk (b_1.toNat : Int) r_2)]).length) ((r_5 ++ [(FlagD.mk (b_1.toNat : Int) r_2)]).map FlagD.c) = optionTakerGroup2_S1 (.inr ((((v0.extract 0 ((1 : Int)).toNat).extract ((1 : Int)).toNat (v0.extract 0 ((1 : Int)).toNat).size), r_3, r_4, (r_5 ++ [(FlagD.mk (b_1.toNat : Int) r_2)]))))))))⟩
          · obtain ⟨q10, h⟩ := grd_some h
            obtain ⟨q11, h⟩ := grd_some h
            obtain rfl := Sum.inl.inj (Option.some.inj h)
            exact ⟨_, run_go (k := (k + 1)) (f := 118) (r0 := 2) (nt := 55) (c := optionTakerGroup2_L1) (σ := (optionTakerGroup2_S1 (.inr ((v0, v1, v2, v3))))) (adv [([], 1, 1, .eq (pB true)), ([], 3, 1, .chr b_1), ([], 4, 5, .chr b_2), ([], 4, 6, .ret (pI r_1)), ([], 5, 1, .eq (pB false)), ([], 6, 1, .eq (pB true)), ([], 9, 1, .sub false), ([], 9, 3, .sub false), ([], 10, 2, .eq (pB false)), ([], 14, 7, .ok), ([], 2, 1, .sub false)]) (ex := .normal) (by kernel_rfl) (by kernel_rfl) (allC (cg q1) (allC q2 (allC q3 (allC (optionKind_ok k v1 (b_2.toNat : Int) _ q4) (allC (cg q5) (allC (cg q6) (allC q7 (allC q8 (allC (cg q9) (allC (app_ok (rfl : (v3.map FlagD.c) = v3.map FlagD.c) (rfl : v3.length = v3.length) q10) (allC q11 allN))))))))))), (Eq.trans (b := some (optionTakerGroup2_R1_1 ((v0.extract 0 ((1 : Int)).toNat).extract ((1 : Int)).toNat (v0.extract 0 ((1 : Int)).toNat).size) v1 (v2.map cS) (v3.length + 1) ((v3.map FlagD.c) ++ [[(.v (.int .u8 (b_1.toNat : Int))), (pS (v0.extract ((1 : Int)).toNat v0.size))]]))) (by kernel_rfl) (congrArg some ((optionTakerGroup2_R1_1_eq (rfl : ((v0.extract 0 ((1 : Int)).toNat).extract ((1 : Int)).toNat (v0.extract 0 ((1 : Int)).toNat).size) = ((v0.extract 0 ((1 : Int)).toNat).extract ((1 : Int)).toNat (v0.extract 0 ((1 : Int)).toNat).size)) (rfl : v1 = v1) (rfl : (v2.map cS) = (v2.map cS)) ((len_cat (rfl : v3.length = v3.length) v3 (rfl : 1 = [(FlagD.mk (b_1.toNat : Int) (v0.extract ((1 : Int)).toNat v0.size))].length)) : (v3.length + 1) = ((v3 ++ [(FlagD.mk (b_1.toNat : Int) (v0.extract ((1 : Int)).toNat v0.size))]).length)) ((enc_cat (rfl : (v3.map FlagD.c) = v3.map FlagD.c) (show [[(.v (.int .u8 (b_1.toNat : Int))), (pS (v0.extract ((1 : Int)).toNat v0.size))]] = [(FlagD.mk (b_1.toNat : Int) (v0.extract ((1 : Int)).toNat v0.size))].map FlagD.c from rfl)) : ((v3.map FlagD.c) ++ [[(.v (.int .u8 (b_1.toNat : Int))), (pS (v0.extract ((1 : Int)).toNat v0.size))]]) = ((v3 ++ [(FlagD.mk (b_1.toNat : Int) (v0.extract ((1 : Int)).toNat v0.size))]).map FlagD.c))).trans (by kernel_rfl : optionTakerGroup2_R1_1 ((v0.extract 0 ((1 : Int)).toNat).extract ((1 : Int)).toNat (v0.extract 0 ((1 : Int)).toNat).size) v1 (v2.map cS) ((v3 ++ [(FlagD.mk (b_1.toNat : Int) (v0.extract ((1 : Int)).toNat v0.size))]).length) ((v3 ++ [(FlagD.mk (b_1.toNat : Int) (v0.extract ((1 : Int)).toNat v0.size))]).map FlagD.c) = optionTakerGroup2_S1 (.inr ((((v0.extract 0 ((1 : Int)).toNat).extract ((1 : Int)).toNat (v0.extract 0 ((1 : Int)).toNat).size), v1, v2, (v3 ++ [(FlagD.mk (b_1.toNat : Int) (v0.extract ((1 : Int)).toNat v0.size))]))))))))⟩
        · rcases bif_some h with ⟨q7, h⟩ | ⟨q7, h⟩
          · obtain ⟨q8, h⟩ := grd_some h
            obtain ⟨q9, h⟩ := grd_some h
            obtain rfl := Sum.inl.inj (Option.some.inj h)
            exact ⟨_, run_go (k := (k + 1)) (f := 118) (r0 := 2) (nt := 55) (c := optionTakerGroup2_L1) (σ := (optionTakerGroup2_S1 (.inr ((v0, v1, v2, v3))))) (adv [([], 1, 1, .eq (pB true)), ([], 3, 1, .chr b_1), ([], 4, 5, .chr b_2), ([], 4, 6, .ret (pI r_1)), ([], 5, 1, .eq (pB false)), ([], 6, 1, .eq (pB false)), ([], 7, 1, .eq (pB true)), ([], 14, 7, .ok), ([], 2, 1, .sub false)]) (ex := .normal) (by kernel_rfl) (by kernel_rfl) (allC (cg q1) (allC q2 (allC q3 (allC (optionKind_ok k v1 (b_2.toNat : Int) _ q4) (allC (cg q5) (allC (cg q6) (allC (cg q7) (allC (app_ok (rfl : (v3.map FlagD.c) = v3.map FlagD.c) (rfl : v3.length = v3.length) q8) (allC q9 allN))))))))), (Eq.trans (b := some (optionTakerGroup2_R1_1 (v0.extract ((1 : Int)).toNat v0.size) v1 (v2.map cS) (v3.length + 1) ((v3.map FlagD.c) ++ [[(.v (.int .u8 (b_1.toNat : Int))), (pS (bs []))]]))) (by kernel_rfl) (congrArg some ((optionTakerGroup2_R1_1_eq (rfl : (v0.extract ((1 : Int)).toNat v0.size) = (v0.extract ((1 : Int)).toNat v0.size)) (rfl : v1 = v1) (rfl : (v2.map cS) = (v2.map cS)) ((len_cat (rfl : v3.length = v3.length) v3 (rfl : 1 = ([(FlagD.mk (b_1.toNat : Int) (bs []))]).length)) : (v3.length + 1) = ((v3 ++ [(FlagD.mk (b_1.toNat : Int) (bs []))]).length)) ((enc_cat (rfl : (v3.map FlagD.c) = v3.map FlagD.c) (show [[(.v (.int .u8 (b_1.toNat : Int))), (pS (bs []))]] = ([(FlagD.mk (b_1.toNat : Int) (bs []))]).map FlagD.c from rfl)) : ((v3.map FlagD.c) ++ [[(.v (.int .u8 (b_1.toNat : Int))), (pS (bs []))]]) = ((v3 ++ [(FlagD.mk (b_1.toNat : Int) (bs []))]).map FlagD.c))).trans (by kernel_rfl : optionTakerGroup2_R1_1 (v0.extract ((1 : Int)).toNat v0.size) v1 (v2.map cS) ((v3 ++ [(FlagD.mk (b_1.toNat : Int) (bs []))]).length) ((v3 ++ [(FlagD.mk (b_1.toNat : Int) (bs []))]).map FlagD.c) = optionTakerGroup2_S1 (.inr (((v0.extract ((1 : Int)).toNat v0.size), v1, v2, (v3 ++ [(FlagD.mk (b_1.toNat : Int) (bs []))]))))))))⟩
          · obtain ⟨q8, h⟩ := grd_some h
            obtain rfl := Sum.inl.inj (Option.some.inj h)
            exact ⟨_, run_go (k := (k + 1)) (f := 118) (r0 := 2) (nt := 55) (c := optionTakerGroup2_L1) (σ := (optionTakerGroup2_S1 (.inr ((v0, v1, v2, v3))))) (adv [([], 1, 1, .eq (pB true)), ([], 3, 1, .chr b_1), ([], 4, 5, .chr b_2), ([], 4, 6, .ret (pI r_1)), ([], 5, 1, .eq (pB false)), ([], 6, 1, .eq (pB false)), ([], 7, 1, .eq (pB false)), ([], 2, 1, .sub false)]) (ex := .normal) (by kernel_rfl) (by kernel_rfl) (allC (cg q1) (allC q2 (allC q3 (allC (optionKind_ok k v1 (b_2.toNat : Int) _ q4) (allC (cg q5) (allC (cg q6) (allC (cg q7) (allC q8 allN)))))))), (by kernel_rfl)⟩
    · cases h
def optionTakerGroup2 (p0 : ByteArray) (p1 : ByteArray) (p2 : (List ByteArray)) (p3 : (List FlagD)) : Option ((ByteArray × (List ByteArray) × (List FlagD)) ⊕ (ByteArray × (List ByteArray) × (List FlagD)) ⊕ (ByteArray × (List ByteArray) × (List FlagD)) ⊕ (ByteArray × (List ByteArray) × (List FlagD)) ⊕ (ByteArray × (List ByteArray) × (List FlagD)) ⊕ (ByteArray × (List ByteArray) × (List FlagD))) :=
 (iterN (optionTakerGroup2_b1) LF (.inl (p0, p1, p2, p3))).bind fun X_1 => match X_1 with
 | .inl (v_1, v_2, v_3, v_4, b_1, b_2, r_1) => (
 some (.inl (v_2, v_3, v_4))
 )
 | .inr (.inl (v_1, v_2, v_3, v_4, b_1, b_2, r_1)) => (
 some (.inr (.inl (v_2, v_3, v_4)))
 )
 | .inr (.inr (.inl (v_1, v_2, v_3, v_4))) => (
 some (.inr (.inr (.inl (v_2, v_3, v_4))))
 )
 | .inr (.inr (.inr (.inl (v_5, v_6, v_7, v_8, b_1, b_2, r_1)))) => (
 some (.inr (.inr (.inr (.inl (v_6, v_7, v_8)))))
 )
 | .inr (.inr (.inr (.inr (.inl (v_5, v_6, v_7, v_8, b_1, b_2, r_1))))) => (
 some (.inr (.inr (.inr (.inr (.inl (v_6, v_7, v_8))))))
 )
 | .inr (.inr (.inr (.inr (.inr ((v_5, v_6, v_7, v_8)))))) => (
 some (.inr (.inr (.inr (.inr (.inr ((v_6, v_7, v_8)))))))
 )
def optionTakerGroup2_out : ((ByteArray × (List ByteArray) × (List FlagD)) ⊕ (ByteArray × (List ByteArray) × (List FlagD)) ⊕ (ByteArray × (List ByteArray) × (List FlagD)) ⊕ (ByteArray × (List ByteArray) × (List FlagD)) ⊕ (ByteArray × (List ByteArray) × (List FlagD)) ⊕ (ByteArray × (List ByteArray) × (List FlagD))) → PV × List (Option Blk) × List Nat
 | .inl (r0, r1, r2) => ((.ifc 412 (.far 0)), [some ⟨3, 134, [[(pS r0), (.list 1 false (r1.map cS)), (.row [1, TAG] 1 0 r2.length)]], false, false⟩, some ⟨2, 274, (r2.map FlagD.c), true, true⟩], [0, 0])
 | .inr (.inl (r0, r1, r2)) => ((.ifc 412 (.far 1)), [some ⟨3, 134, [[(pS r0), (.list 1 false (r1.map cS)), (.row [1, TAG] 1 0 r2.length)]], false, false⟩, some ⟨2, 274, (r2.map FlagD.c), true, true⟩], [0, 0])
 | .inr (.inr (.inl (r0, r1, r2))) => ((.v .nilIface), [some ⟨3, 134, [[(pS r0), (.list 1 false (r1.map cS)), (.row [1, TAG] 1 0 r2.length)]], false, false⟩, some ⟨2, 274, (r2.map FlagD.c), true, true⟩], [0, 0])
 | .inr (.inr (.inr (.inl (r0, r1, r2)))) => ((.ifc 412 (.far 0)), [some ⟨3, 134, [[(pS r0), (.list 1 false (r1.map cS)), (.row [2, TAG] 1 0 r2.length)]], false, false⟩, none, some ⟨2, 274, (r2.map FlagD.c), true, true⟩], [0, 0, 0])
 | .inr (.inr (.inr (.inr (.inl (r0, r1, r2))))) => ((.ifc 412 (.far 1)), [some ⟨3, 134, [[(pS r0), (.list 1 false (r1.map cS)), (.row [2, TAG] 1 0 r2.length)]], false, false⟩, none, some ⟨2, 274, (r2.map FlagD.c), true, true⟩], [0, 0, 0])
 | .inr (.inr (.inr (.inr (.inr ((r0, r1, r2)))))) => ((.v .nilIface), [some ⟨3, 134, [[(pS r0), (.list 1 false (r1.map cS)), (.row [2, TAG] 1 0 r2.length)]], false, false⟩, none, some ⟨2, 274, (r2.map FlagD.c), true, true⟩], [0, 0, 0])
set_option maxRecDepth 100000 in
theorem optionTakerGroup2_ok (k : Nat) (p0 : ByteArray) (p1 : ByteArray) (p2 : (List ByteArray)) (p3 : (List FlagD)) (r : ((ByteArray × (List ByteArray) × (List FlagD)) ⊕ (ByteArray × (List ByteArray) × (List FlagD)) ⊕ (ByteArray × (List ByteArray) × (List FlagD)) ⊕ (ByteArray × (List ByteArray) × (List FlagD)) ⊕ (ByteArray × (List ByteArray) × (List FlagD)) ⊕ (ByteArray × (List ByteArray) × (List FlagD)))) (h : optionTakerGroup2 p0 p1 p2 p3 = some r) : runS0 (k + 2) 118 [(.ptr [0, TAG] 1 0 0), (pS p0)] [some ⟨3, 134, [[(pS p1), (.list 1 false (p2.map cS)), (.row [1, TAG] 1 0 p3.length)]], false, false⟩, some ⟨2, 274, (p3.map FlagD.c), true, true⟩] [0, 0] = some (optionTakerGroup2_out r) := by
  unfold optionTakerGroup2 at h
  obtain ⟨X_1, q1, h⟩ := bnd_some h
  obtain ⟨a_1, q2, q3⟩ := loop_iter (f := run1 (k + 1) 118 2 55 optionTakerGroup2_L1) (optionTakerGroup2_S1) (optionTakerGroup2_b1) (optionTakerGroup2_t1 k) LF (.inl (p0, p1, p2, p3)) _ (stOf (goStop (k + 1) 118 2 55 (adv []) 1 (codeOf Tryz.f118) (argB 118 [(.ptr [0, TAG] 1 0 0), (pS p0)] [some ⟨3, 134, [[(pS p1), (.list 1 false (p2.map cS)), (.row [1, TAG] 1 0 p3.length)]], false, false⟩, some ⟨2, 274, (p3.map FlagD.c), true, true⟩] [0, 0]))) q1 (by kernel_rfl)
  rcases a_1 with ⟨v_1, v_2, v_3, v_4⟩ | ⟨v_5, v_6, v_7, v_8⟩
  · unfold optionTakerGroup2_b1 at q2
    try dsimp only at q2
    rcases bif_some q2 with ⟨q6, q2⟩ | ⟨q6, q2⟩
    · obtain ⟨b_1, q7, q2⟩ := bnd_some q2
      obtain ⟨b_2, q8, q2⟩ := bnd_some q2
      obtain ⟨r_1, q9, q2⟩ := bnd_some q2
      rcases bif_some q2 with ⟨q10, q2⟩ | ⟨q10, q2⟩
      · cases q2
        try dsimp only at h
        have q4 := run_go (k := (k + 1)) (f := 118) (r0 := 2) (nt := 55) (c := optionTakerGroup2_L1) (σ := (optionTakerGroup2_S1 (.inl (v_1, v_2, v_3, v_4)))) (adv [([], 1, 1, .eq (pB true)), ([], 3, 1, .chr b_1), ([], 4, 5, .chr b_2), ([], 4, 6, .ret (pI r_1)), ([], 5, 1, .eq (pB true))]) (ex := .ret) (by kernel_rfl) (by kernel_rfl) (allC (cg q6) (allC q7 (allC q8 (allC (optionKind_ok k v_2 (b_2.toNat : Int) _ q9) (allC (cg q10) allN)))))
        have q5 := q3 _ _ (by intro e; cases e) q4
        obtain rfl := Option.some.inj h
        exact retS_go (k := (k + 1)) (n := 2) Tryz.func118 Tryz.ntmps118 rfl (by kernel_rfl) (by kernel_rfl) (lb rfl) (adv [] [([], 1, .ret, (stOf (go (k + 1) 118 2 55 (adv [([], 1, 1, .eq (pB true)), ([], 3, 1, .chr b_1), ([], 4, 5, .chr b_2), ([], 4, 6, .ret (pI r_1)), ([], 5, 1, .eq (pB true))]) optionTakerGroup2_L1 (optionTakerGroup2_S1 (.inl (v_1, v_2, v_3, v_4))))))]) (ex := .ret) (r := ((.ifc 412 (.far 0)), [some ⟨3, 134, [[(pS v_2), (.list 1 false (v_3.map cS)), (.row [1, TAG] 1 0 v_4.length)]], false, false⟩, some ⟨2, 274, (v_4.map FlagD.c), true, true⟩], [0, 0])) (by kernel_rfl) rfl (by kernel_rfl) (allC q5 allN) (by kernel_rfl)
      · rcases bif_some q2 with ⟨q11, q2⟩ | ⟨q11, q2⟩
        · obtain ⟨q12, q2⟩ := grd_some q2
          obtain ⟨q13, q2⟩ := grd_some q2
          rcases bif_some q2 with ⟨q14, q2⟩ | ⟨q14, q2⟩
          · rcases bif_some q2 with ⟨q15, q2⟩ | ⟨q15, q2⟩
            · cases q2
              try dsimp only at h
              have q4 := run_go (k := (k + 1)) (f := 118) (r0 := 2) (nt := 55) (c := optionTakerGroup2_L1) (σ := (optionTakerGroup2_S1 (.inl (v_1, v_2, v_3, v_4)))) (adv [([], 1, 1, .eq (pB true)), ([], 3, 1, .chr b_1), ([], 4, 5, .chr b_2), ([], 4, 6, .ret (pI r_1)), ([], 5, 1, .eq (pB false)), ([], 6, 1, .eq (pB true)), ([], 9, 1, .sub false), ([], 9, 3, .sub false), ([], 10, 2, .eq (pB true)), ([], 11, 4, .eq (pI (v_3.length : Int))), ([], 11, 5, .eq (pB true))]) (ex := .ret) (by kernel_rfl) (by kernel_rfl) (allC (cg q6) (allC q7 (allC q8 (allC (optionKind_ok k v_2 (b_2.toNat : Int) _ q9) (allC (cg q10) (allC (cg q11) (allC q12 (allC q13 (allC (cg q14) (allC (len_ob (rfl : (v_3.map cS) = v_3.map cS)) (allC (cg q15) allN)))))))))))
              have q5 := q3 _ _ (by intro e; cases e) q4
              obtain rfl := Option.some.inj h
              exact retS_go (k := (k + 1)) (n := 2) Tryz.func118 Tryz.ntmps118 rfl (by kernel_rfl) (by kernel_rfl) (lb rfl) (adv [] [([], 1, .ret, (stOf (go (k + 1) 118 2 55 (adv [([], 1, 1, .eq (pB true)), ([], 3, 1, .chr b_1), ([], 4, 5, .chr b_2), ([], 4, 6, .ret (pI r_1)), ([], 5, 1, .eq (pB false)), ([], 6, 1, .eq (pB true)), ([], 9, 1, .sub false), ([], 9, 3, .sub false), ([], 10, 2, .eq (pB true)), ([], 11, 4, .eq (pI (v_3.length : Int))), ([], 11, 5, .eq (pB true))]) optionTakerGroup2_L1 (optionTakerGroup2_S1 (.inl (v_1, v_2, v_3, v_4))))))]) (ex := .ret) (r := ((.ifc 412 (.far 1)), [some ⟨3, 134, [[(pS v_2), (.list 1 false (v_3.map cS)), (.row [1, TAG] 1 0 v_4.length)]], false, false⟩, some ⟨2, 274, (v_4.map FlagD.c), true, true⟩], [0, 0])) (by kernel_rfl) rfl (by kernel_rfl) (allC q5 allN) (by kernel_rfl)
            · obtain ⟨X_2, q16, q2⟩ := bnd_some q2
              rcases X_2 with ⟨r_2, r_3, r_4, r_5⟩
              · try dsimp only at q2
                obtain ⟨q17, q2⟩ := grd_some q2
                obtain ⟨q18, q2⟩ := grd_some q2
                cases q2
          · obtain ⟨q15, q2⟩ := grd_some q2
            obtain ⟨q16, q2⟩ := grd_some q2
            cases q2
        · rcases bif_some q2 with ⟨q12, q2⟩ | ⟨q12, q2⟩
          · obtain ⟨q13, q2⟩ := grd_some q2
            obtain ⟨q14, q2⟩ := grd_some q2
            cases q2
          · obtain ⟨q13, q2⟩ := grd_some q2
            cases q2
    · cases q2
      try dsimp only at h
      have q4 := run_go (k := (k + 1)) (f := 118) (r0 := 2) (nt := 55) (c := optionTakerGroup2_L1) (σ := (optionTakerGroup2_S1 (.inl (v_1, v_2, v_3, v_4)))) (adv [([], 1, 1, .eq (pB false))]) (ex := (.exit 0)) (by kernel_rfl) (by kernel_rfl) (allC (cg q6) allN)
      have q5 := q3 _ _ (by intro e; cases e) q4
      obtain rfl := Option.some.inj h
      exact retS_go (k := (k + 1)) (n := 2) Tryz.func118 Tryz.ntmps118 rfl (by kernel_rfl) (by kernel_rfl) (lb rfl) (adv [] [([], 1, (.exit 0), (stOf (go (k + 1) 118 2 55 (adv [([], 1, 1, .eq (pB false))]) optionTakerGroup2_L1 (optionTakerGroup2_S1 (.inl (v_1, v_2, v_3, v_4))))))]) (ex := .ret) (r := ((.v .nilIface), [some ⟨3, 134, [[(pS v_2), (.list 1 false (v_3.map cS)), (.row [1, TAG] 1 0 v_4.length)]], false, false⟩, some ⟨2, 274, (v_4.map FlagD.c), true, true⟩], [0, 0])) (by kernel_rfl) rfl (by kernel_rfl) (allC q5 allN) (by kernel_rfl)
  · unfold optionTakerGroup2_b1 at q2
    try dsimp only at q2
    rcases bif_some q2 with ⟨q6, q2⟩ | ⟨q6, q2⟩
    · obtain ⟨b_1, q7, q2⟩ := bnd_some q2
      obtain ⟨b_2, q8, q2⟩ := bnd_some q2
      obtain ⟨r_1, q9, q2⟩ := bnd_some q2
      rcases bif_some q2 with ⟨q10, q2⟩ | ⟨q10, q2⟩
      · cases q2
        try dsimp only at h
        have q4 := run_go (k := (k + 1)) (f := 118) (r0 := 2) (nt := 55) (c := optionTakerGroup2_L1) (σ := (optionTakerGroup2_S1 (.inr ((v_5, v_6, v_7, v_8))))) (adv [([], 1, 1, .eq (pB true)), ([], 3, 1, .chr b_1), ([], 4, 5, .chr b_2), ([], 4, 6, .ret (pI r_1)), ([], 5, 1, .eq (pB true))]) (ex := .ret) (by kernel_rfl) (by kernel_rfl) (allC (cg q6) (allC q7 (allC q8 (allC (optionKind_ok k v_6 (b_2.toNat : Int) _ q9) (allC (cg q10) allN)))))
        have q5 := q3 _ _ (by intro e; cases e) q4
        obtain rfl := Option.some.inj h
        exact retS_go (k := (k + 1)) (n := 2) Tryz.func118 Tryz.ntmps118 rfl (by kernel_rfl) (by kernel_rfl) (lb rfl) (adv [] [([], 1, .ret, (stOf (go (k + 1) 118 2 55 (adv [([], 1, 1, .eq (pB true)), ([], 3, 1, .chr b_1), ([], 4, 5, .chr b_2), ([], 4, 6, .ret (pI r_1)), ([], 5, 1, .eq (pB true))]) optionTakerGroup2_L1 (optionTakerGroup2_S1 (.inr ((v_5, v_6, v_7, v_8)))))))]) (ex := .ret) (r := ((.ifc 412 (.far 0)), [some ⟨3, 134, [[(pS v_6), (.list 1 false (v_7.map cS)), (.row [2, TAG] 1 0 v_8.length)]], false, false⟩, none, some ⟨2, 274, (v_8.map FlagD.c), true, true⟩], [0, 0, 0])) (by kernel_rfl) rfl (by kernel_rfl) (allC q5 allN) (by kernel_rfl)
      · rcases bif_some q2 with ⟨q11, q2⟩ | ⟨q11, q2⟩
        · obtain ⟨q12, q2⟩ := grd_some q2
          obtain ⟨q13, q2⟩ := grd_some q2
          rcases bif_some q2 with ⟨q14, q2⟩ | ⟨q14, q2⟩
          · rcases bif_some q2 with ⟨q15, q2⟩ | ⟨q15, q2⟩
            · cases q2
              try dsimp only at h
              have q4 := run_go (k := (k + 1)) (f := 118) (r0 := 2) (nt := 55) (c := optionTakerGroup2_L1) (σ := (optionTakerGroup2_S1 (.inr ((v_5, v_6, v_7, v_8))))) (adv [([], 1, 1, .eq (pB true)), ([], 3, 1, .chr b_1), ([], 4, 5, .chr b_2), ([], 4, 6, .ret (pI r_1)), ([], 5, 1, .eq (pB false)), ([], 6, 1, .eq (pB true)), ([], 9, 1, .sub false), ([], 9, 3, .sub false), ([], 10, 2, .eq (pB true)), ([], 11, 4, .eq (pI (v_7.length : Int))), ([], 11, 5, .eq (pB true))]) (ex := .ret) (by kernel_rfl) (by kernel_rfl) (allC (cg q6) (allC q7 (allC q8 (allC (optionKind_ok k v_6 (b_2.toNat : Int) _ q9) (allC (cg q10) (allC (cg q11) (allC q12 (allC q13 (allC (cg q14) (allC (len_ob (rfl : (v_7.map cS) = v_7.map cS)) (allC (cg q15) allN)))))))))))
              have q5 := q3 _ _ (by intro e; cases e) q4
              obtain rfl := Option.some.inj h
              exact retS_go (k := (k + 1)) (n := 2) Tryz.func118 Tryz.ntmps118 rfl (by kernel_rfl) (by kernel_rfl) (lb rfl) (adv [] [([], 1, .ret, (stOf (go (k + 1) 118 2 55 (adv [([], 1, 1, .eq (pB true)), ([], 3, 1, .chr b_1), ([], 4, 5, .chr b_2), ([], 4, 6, .ret (pI r_1)), ([], 5, 1, .eq (pB false)), ([], 6, 1, .eq (pB true)), ([], 9, 1, .sub false), ([], 9, 3, .sub false), ([], 10, 2, .eq (pB true)), ([], 11, 4, .eq (pI (v_7.length : Int))), ([], 11, 5, .eq (pB true))]) optionTakerGroup2_L1 (optionTakerGroup2_S1 (.inr ((v_5, v_6, v_7, v_8)))))))]) (ex := .ret) (r := ((.ifc 412 (.far 1)), [some ⟨3, 134, [[(pS v_6), (.list 1 false (v_7.map cS)), (.row [2, TAG] 1 0 v_8.length)]], false, false⟩, none, some ⟨2, 274, (v_8.map FlagD.c), true, true⟩], [0, 0, 0])) (by kernel_rfl) rfl (by kernel_rfl) (allC q5 allN) (by kernel_rfl)
            · obtain ⟨X_2, q16, q2⟩ := bnd_some q2
              rcases X_2 with ⟨r_2, r_3, r_4, r_5⟩
              · try dsimp only at q2
                obtain ⟨q17, q2⟩ := grd_some q2
                obtain ⟨q18, q2⟩ := grd_some q2
                cases q2
          · obtain ⟨q15, q2⟩ := grd_some q2
            obtain ⟨q16, q2⟩ := grd_some q2
            cases q2
        · rcases bif_some q2 with ⟨q12, q2⟩ | ⟨q12, q2⟩
          · obtain ⟨q13, q2⟩ := grd_some q2
            obtain ⟨q14, q2⟩ := grd_some q2
            cases q2
          · obtain ⟨q13, q2⟩ := grd_some q2
            cases q2
    · cases q2
      try dsimp only at h
      have q4 := run_go (k := (k + 1)) (f := 118) (r0 := 2) (nt := 55) (c := optionTakerGroup2_L1) (σ := (optionTakerGroup2_S1 (.inr ((v_5, v_6, v_7, v_8))))) (adv [([], 1, 1, .eq (pB false))]) (ex := (.exit 0)) (by kernel_rfl) (by kernel_rfl) (allC (cg q6) allN)
      have q5 := q3 _ _ (by intro e; cases e) q4
      obtain rfl := Option.some.inj h
      exact retS_go (k := (k + 1)) (n := 2) Tryz.func118 Tryz.ntmps118 rfl (by kernel_rfl) (by kernel_rfl) (lb rfl) (adv [] [([], 1, (.exit 0), (stOf (go (k + 1) 118 2 55 (adv [([], 1, 1, .eq (pB false))]) optionTakerGroup2_L1 (optionTakerGroup2_S1 (.inr ((v_5, v_6, v_7, v_8)))))))]) (ex := .ret) (r := ((.v .nilIface), [some ⟨3, 134, [[(pS v_6), (.list 1 false (v_7.map cS)), (.row [2, TAG] 1 0 v_8.length)]], false, false⟩, none, some ⟨2, 274, (v_8.map FlagD.c), true, true⟩], [0, 0, 0])) (by kernel_rfl) rfl (by kernel_rfl) (allC q5 allN) (by kernel_rfl)
end Go.Proofs.YtaenhodkpidocaaGreatDoor.Den
