/- Texts joined by a program of mine (pack.py): DenF0 DenF1 DenF2 DenF3 DenF4 DenF7 DenF8. -/
import Derived.Test.YtaenhodkpidocaaGreatDoorDenTy
set_option linter.unusedVariables false
set_option linter.unusedSimpArgs false
namespace Go.Proofs.YtaenhodkpidocaaGreatDoor.Den
open Go Go.RowKit
def stringsliteHasPrefix (s : ByteArray) (prefixF : ByteArray) : Option Bool :=
 bif (decide ((s.size : Int) ≥ (prefixF.size : Int))) then (
 grd (0 ≤ (0 : Int) ∧ (0 : Int) ≤ (prefixF.size : Int) ∧ (prefixF.size : Int) ≤ (s.size : Int)) <|
 some (seq (s.extract 0 ((prefixF.size : Int)).toNat) prefixF)
 ) else (
 some false
 )
set_option maxRecDepth 100000 in
theorem stringsliteHasPrefix_ok (k : Nat) (s : ByteArray) (prefixF : ByteArray) (r : Bool) (h : stringsliteHasPrefix s prefixF = some r) : run0 (k + 1) 71 [(pS s), (pS prefixF)] = some (pB r) := by
  unfold stringsliteHasPrefix at h
  rcases bif_some h with ⟨q1, h⟩ | ⟨q1, h⟩
  · obtain ⟨q2, h⟩ := grd_some h
    obtain rfl := Option.some.inj h
    exact ret_go (k := k) Tryz.func71 Tryz.ntmps71 (by kernel_rfl) (by kernel_rfl) (lb rfl) (adv [([], 1, 5, .eq (pB true)), ([], 1, 9, .sub false)]) (ex := .ret) (r := (pB (seq (s.extract 0 ((prefixF.size : Int)).toNat) prefixF))) (by kernel_rfl) rfl (by kernel_rfl) (allC (cg q1) (allC q2 allN)) (by kernel_rfl) allN
  · obtain rfl := Option.some.inj h
    exact ret_go (k := k) Tryz.func71 Tryz.ntmps71 (by kernel_rfl) (by kernel_rfl) (lb rfl) (adv [([], 1, 5, .eq (pB false))]) (ex := .ret) (r := (pB false)) (by kernel_rfl) rfl (by kernel_rfl) (allC (cg q1) allN) (by kernel_rfl) allN
def stringsliteCutPrefix (s : ByteArray) (prefixF : ByteArray) : Option (ByteArray × Bool) :=
 (stringsliteHasPrefix s prefixF).bind fun r_1 =>
 bif (!r_1) then (
 some (s, false)
 ) else (
 grd (0 ≤ (prefixF.size : Int) ∧ (prefixF.size : Int) ≤ (s.size : Int) ∧ (s.size : Int) ≤ (s.size : Int)) <|
 some ((s.extract ((prefixF.size : Int)).toNat s.size), true)
 )
def stringsCutPrefix (s : ByteArray) (prefixF : ByteArray) : Option (ByteArray × Bool) :=
 (stringsliteCutPrefix s prefixF).bind fun (r_1, r_2) =>
 some (r_1, r_2)
def optionTakerNext (p0 : ByteArray) (p1 : (List ByteArray)) : Option (ByteArray × ByteArray × (List ByteArray)) :=
 (gt p1 (0 : Int)).bind fun y_1 =>
 grd (0 ≤ (1 : Int) ∧ (1 : Int) ≤ (p1.length : Int) ∧ (p1.length : Int) ≤ (p1.length : Int)) <|
 some (y_1, p0, (p1.drop (((1 : Int)).toNat)))
def optionKind (spec : ByteArray) (c : Int) : Option Int :=
 bif (c == (58 : Int)) then (
 some (0 : Int)
 ) else (
 (ixbX spec c).bind fun r_1 =>
 bif (decide (r_1 < (0 : Int))) then (
 some (0 : Int)
 ) else (
 (conX spec (ByteArray.mk [UInt8.ofNat (c).toNat, UInt8.ofNat ((58 : Int)).toNat].toArray)).bind fun r_2 =>
 bif r_2 then (
 some (2 : Int)
 ) else (
 some (1 : Int)
 )
 )
 )
def optionTakerNext2 (p0 : ByteArray) (p1 : (List ByteArray)) (p2 : (List FlagD)) : Option (ByteArray × ByteArray × (List ByteArray) × (List FlagD)) :=
 (gt p1 (0 : Int)).bind fun y_1 =>
 grd (0 ≤ (1 : Int) ∧ (1 : Int) ≤ (p1.length : Int) ∧ (p1.length : Int) ≤ (p1.length : Int)) <|
 some (y_1, p0, (p1.drop (((1 : Int)).toNat)), p2)
end Go.Proofs.YtaenhodkpidocaaGreatDoor.Den
namespace Go.Proofs.YtaenhodkpidocaaGreatDoor.Den
open Go Go.RowKit
def optionTakerGroup_b1 : ((ByteArray × ByteArray × (List ByteArray)) ⊕ (ByteArray × ByteArray × (List ByteArray) × (List FlagD))) → Option (((ByteArray × ByteArray × (List ByteArray)) ⊕ (ByteArray × ByteArray × (List ByteArray) × (List FlagD))) ⊕ ((ByteArray × ByteArray × (List ByteArray) × UInt8 × UInt8 × Int) ⊕ (ByteArray × ByteArray × (List ByteArray) × UInt8 × UInt8 × Int) ⊕ (ByteArray × ByteArray × (List ByteArray)) ⊕ (ByteArray × ByteArray × (List ByteArray) × (List FlagD) × UInt8 × UInt8 × Int) ⊕ (ByteArray × ByteArray × (List ByteArray) × (List FlagD) × UInt8 × UInt8 × Int) ⊕ (ByteArray × ByteArray × (List ByteArray) × (List FlagD))))
 | .inl (v0, v1, v2) =>
 bif (!(seq v0 (bs []))) then (
 (gtS v0 (0 : Int)).bind fun b_1 =>
 (gtS v0 (0 : Int)).bind fun b_2 =>
 (optionKind v1 (b_2.toNat : Int)).bind fun r_1 =>
 bif (r_1 == (0 : Int)) then (
 some (.inr (.inl (v0, v1, v2, b_1, b_2, r_1)))
 ) else (
 bif (r_1 == (2 : Int)) then (
 grd (0 ≤ (1 : Int) ∧ (1 : Int) ≤ (v0.size : Int) ∧ (v0.size : Int) ≤ (v0.size : Int)) <|
 grd (0 ≤ (0 : Int) ∧ (0 : Int) ≤ (1 : Int) ∧ (1 : Int) ≤ (v0.size : Int)) <|
 bif (seq (v0.extract ((1 : Int)).toNat v0.size) (bs [])) then (
 bif ((v2.length : Int) == (0 : Int)) then (
 some (.inr (.inr (.inl (v0, v1, v2, b_1, b_2, r_1))))
 ) else (
 (optionTakerNext v1 v2).bind fun (r_2, r_3, r_4) =>
 grd (0 ≤ (1 : Int) ∧ (1 : Int) ≤ ((v0.extract 0 ((1 : Int)).toNat).size : Int) ∧ ((v0.extract 0 ((1 : Int)).toNat).size : Int) ≤ ((v0.extract 0 ((1 : Int)).toNat).size : Int)) <|
 some (.inl (.inr ((((v0.extract 0 ((1 : Int)).toNat).extract ((1 : Int)).toNat (v0.extract 0 ((1 : Int)).toNat).size), r_3, r_4, [(FlagD.mk (b_1.toNat : Int) r_2)]))))
 )
 ) else (
 grd (0 ≤ (1 : Int) ∧ (1 : Int) ≤ ((v0.extract 0 ((1 : Int)).toNat).size : Int) ∧ ((v0.extract 0 ((1 : Int)).toNat).size : Int) ≤ ((v0.extract 0 ((1 : Int)).toNat).size : Int)) <|
 some (.inl (.inr ((((v0.extract 0 ((1 : Int)).toNat).extract ((1 : Int)).toNat (v0.extract 0 ((1 : Int)).toNat).size), v1, v2, [(FlagD.mk (b_1.toNat : Int) (v0.extract ((1 : Int)).toNat v0.size))]))))
 )
 ) else (
 bif (r_1 == (1 : Int)) then (
 grd (0 ≤ (1 : Int) ∧ (1 : Int) ≤ (v0.size : Int) ∧ (v0.size : Int) ≤ (v0.size : Int)) <|
 some (.inl (.inr (((v0.extract ((1 : Int)).toNat v0.size), v1, v2, [(FlagD.mk (b_1.toNat : Int) (bs []))]))))
 ) else (
 grd (0 ≤ (1 : Int) ∧ (1 : Int) ≤ (v0.size : Int) ∧ (v0.size : Int) ≤ (v0.size : Int)) <|
 some (.inl (.inl ((v0.extract ((1 : Int)).toNat v0.size), v1, v2)))
 )
 )
 )
 ) else (
 some (.inr (.inr (.inr (.inl (v0, v1, v2)))))
 )
 | .inr ((v0, v1, v2, v3)) =>
 bif (!(seq v0 (bs []))) then (
 (gtS v0 (0 : Int)).bind fun b_1 =>
 (gtS v0 (0 : Int)).bind fun b_2 =>
 (optionKind v1 (b_2.toNat : Int)).bind fun r_1 =>
 bif (r_1 == (0 : Int)) then (
 some (.inr (.inr (.inr (.inr (.inl (v0, v1, v2, v3, b_1, b_2, r_1))))))
 ) else (
 bif (r_1 == (2 : Int)) then (
 grd (0 ≤ (1 : Int) ∧ (1 : Int) ≤ (v0.size : Int) ∧ (v0.size : Int) ≤ (v0.size : Int)) <|
 grd (0 ≤ (0 : Int) ∧ (0 : Int) ≤ (1 : Int) ∧ (1 : Int) ≤ (v0.size : Int)) <|
 bif (seq (v0.extract ((1 : Int)).toNat v0.size) (bs [])) then (
 bif ((v2.length : Int) == (0 : Int)) then (
 some (.inr (.inr (.inr (.inr (.inr (.inl (v0, v1, v2, v3, b_1, b_2, r_1)))))))
 ) else (
 (optionTakerNext2 v1 v2 v3).bind fun (r_2, r_3, r_4, r_5) =>
 grd (room (r_5.length + 1) 24) <|
 grd (0 ≤ (1 : Int) ∧ (1 : Int) ≤ ((v0.extract 0 ((1 : Int)).toNat).size : Int) ∧ ((v0.extract 0 ((1 : Int)).toNat).size : Int) ≤ ((v0.extract 0 ((1 : Int)).toNat).size : Int)) <|
 some (.inl (.inr ((((v0.extract 0 ((1 : Int)).toNat).extract ((1 : Int)).toNat (v0.extract 0 ((1 : Int)).toNat).size), r_3, r_4, (r_5 ++ [(FlagD.mk (b_1.toNat : Int) r_2)])))))
 )
 ) else (
 grd (room (v3.length + 1) 24) <|
 grd (0 ≤ (1 : Int) ∧ (1 : Int) ≤ ((v0.extract 0 ((1 : Int)).toNat).size : Int) ∧ ((v0.extract 0 ((1 : Int)).toNat).size : Int) ≤ ((v0.extract 0 ((1 : Int)).toNat).size : Int)) <|
 some (.inl (.inr ((((v0.extract 0 ((1 : Int)).toNat).extract ((1 : Int)).toNat (v0.extract 0 ((1 : Int)).toNat).size), v1, v2, (v3 ++ [(FlagD.mk (b_1.toNat : Int) (v0.extract ((1 : Int)).toNat v0.size))])))))
 )
 ) else (
 bif (r_1 == (1 : Int)) then (
 grd (room (v3.length + 1) 24) <|
 grd (0 ≤ (1 : Int) ∧ (1 : Int) ≤ (v0.size : Int) ∧ (v0.size : Int) ≤ (v0.size : Int)) <|
 some (.inl (.inr (((v0.extract ((1 : Int)).toNat v0.size), v1, v2, (v3 ++ [(FlagD.mk (b_1.toNat : Int) (bs []))])))))
 ) else (
 grd (0 ≤ (1 : Int) ∧ (1 : Int) ≤ (v0.size : Int) ∧ (v0.size : Int) ≤ (v0.size : Int)) <|
 some (.inl (.inr (((v0.extract ((1 : Int)).toNat v0.size), v1, v2, v3))))
 )
 )
 )
 ) else (
 some (.inr (.inr (.inr (.inr (.inr (.inr ((v0, v1, v2, v3))))))))
 )
def optionTakerGroup (p0 : ByteArray) (p1 : ByteArray) (p2 : (List ByteArray)) : Option ((ByteArray × (List ByteArray)) ⊕ (ByteArray × (List ByteArray)) ⊕ (ByteArray × (List ByteArray)) ⊕ (ByteArray × (List ByteArray) × (List FlagD)) ⊕ (ByteArray × (List ByteArray) × (List FlagD)) ⊕ (ByteArray × (List ByteArray) × (List FlagD))) :=
 (iterN (optionTakerGroup_b1) LF (.inl (p0, p1, p2))).bind fun X_1 => match X_1 with
 | .inl (v_1, v_2, v_3, b_1, b_2, r_1) => (
 some (.inl (v_2, v_3))
 )
 | .inr (.inl (v_1, v_2, v_3, b_1, b_2, r_1)) => (
 some (.inr (.inl (v_2, v_3)))
 )
 | .inr (.inr (.inl (v_1, v_2, v_3))) => (
 some (.inr (.inr (.inl (v_2, v_3))))
 )
 | .inr (.inr (.inr (.inl (v_4, v_5, v_6, v_7, b_1, b_2, r_1)))) => (
 some (.inr (.inr (.inr (.inl (v_5, v_6, v_7)))))
 )
 | .inr (.inr (.inr (.inr (.inl (v_4, v_5, v_6, v_7, b_1, b_2, r_1))))) => (
 some (.inr (.inr (.inr (.inr (.inl (v_5, v_6, v_7))))))
 )
 | .inr (.inr (.inr (.inr (.inr ((v_4, v_5, v_6, v_7)))))) => (
 some (.inr (.inr (.inr (.inr (.inr ((v_5, v_6, v_7)))))))
 )
end Go.Proofs.YtaenhodkpidocaaGreatDoor.Den
namespace Go.Proofs.YtaenhodkpidocaaGreatDoor.Den
open Go Go.RowKit
def optionTakerGroup2_b1 : ((ByteArray × ByteArray × (List ByteArray) × (List FlagD)) ⊕ (ByteArray × ByteArray × (List ByteArray) × (List FlagD))) → Option (((ByteArray × ByteArray × (List ByteArray) × (List FlagD)) ⊕ (ByteArray × ByteArray × (List ByteArray) × (List FlagD))) ⊕ ((ByteArray × ByteArray × (List ByteArray) × (List FlagD) × UInt8 × UInt8 × Int) ⊕ (ByteArray × ByteArray × (List ByteArray) × (List FlagD) × UInt8 × UInt8 × Int) ⊕ (ByteArray × ByteArray × (List ByteArray) × (List FlagD)) ⊕ (ByteArray × ByteArray × (List ByteArray) × (List FlagD) × UInt8 × UInt8 × Int) ⊕ (ByteArray × ByteArray × (List ByteArray) × (List FlagD) × UInt8 × UInt8 × Int) ⊕ (ByteArray × ByteArray × (List ByteArray) × (List FlagD))))
 | .inl (v0, v1, v2, v3) =>
 bif (!(seq v0 (bs []))) then (
 (gtS v0 (0 : Int)).bind fun b_1 =>
 (gtS v0 (0 : Int)).bind fun b_2 =>
 (optionKind v1 (b_2.toNat : Int)).bind fun r_1 =>
 bif (r_1 == (0 : Int)) then (
 some (.inr (.inl (v0, v1, v2, v3, b_1, b_2, r_1)))
 ) else (
 bif (r_1 == (2 : Int)) then (
 grd (0 ≤ (1 : Int) ∧ (1 : Int) ≤ (v0.size : Int) ∧ (v0.size : Int) ≤ (v0.size : Int)) <|
 grd (0 ≤ (0 : Int) ∧ (0 : Int) ≤ (1 : Int) ∧ (1 : Int) ≤ (v0.size : Int)) <|
 bif (seq (v0.extract ((1 : Int)).toNat v0.size) (bs [])) then (
 bif ((v2.length : Int) == (0 : Int)) then (
 some (.inr (.inr (.inl (v0, v1, v2, v3, b_1, b_2, r_1))))
 ) else (
 (optionTakerNext2 v1 v2 v3).bind fun (r_2, r_3, r_4, r_5) =>
 grd (room (r_5.length + 1) 24) <|
 grd (0 ≤ (1 : Int) ∧ (1 : Int) ≤ ((v0.extract 0 ((1 : Int)).toNat).size : Int) ∧ ((v0.extract 0 ((1 : Int)).toNat).size : Int) ≤ ((v0.extract 0 ((1 : Int)).toNat).size : Int)) <|
 some (.inl (.inr ((((v0.extract 0 ((1 : Int)).toNat).extract ((1 : Int)).toNat (v0.extract 0 ((1 : Int)).toNat).size), r_3, r_4, (r_5 ++ [(FlagD.mk (b_1.toNat : Int) r_2)])))))
 )
 ) else (
 grd (room (v3.length + 1) 24) <|
 grd (0 ≤ (1 : Int) ∧ (1 : Int) ≤ ((v0.extract 0 ((1 : Int)).toNat).size : Int) ∧ ((v0.extract 0 ((1 : Int)).toNat).size : Int) ≤ ((v0.extract 0 ((1 : Int)).toNat).size : Int)) <|
 some (.inl (.inr ((((v0.extract 0 ((1 : Int)).toNat).extract ((1 : Int)).toNat (v0.extract 0 ((1 : Int)).toNat).size), v1, v2, (v3 ++ [(FlagD.mk (b_1.toNat : Int) (v0.extract ((1 : Int)).toNat v0.size))])))))
 )
 ) else (
 bif (r_1 == (1 : Int)) then (
 grd (room (v3.length + 1) 24) <|
 grd (0 ≤ (1 : Int) ∧ (1 : Int) ≤ (v0.size : Int) ∧ (v0.size : Int) ≤ (v0.size : Int)) <|
 some (.inl (.inr (((v0.extract ((1 : Int)).toNat v0.size), v1, v2, (v3 ++ [(FlagD.mk (b_1.toNat : Int) (bs []))])))))
 ) else (
 grd (0 ≤ (1 : Int) ∧ (1 : Int) ≤ (v0.size : Int) ∧ (v0.size : Int) ≤ (v0.size : Int)) <|
 some (.inl (.inl ((v0.extract ((1 : Int)).toNat v0.size), v1, v2, v3)))
 )
 )
 )
 ) else (
 some (.inr (.inr (.inr (.inl (v0, v1, v2, v3)))))
 )
 | .inr ((v0, v1, v2, v3)) =>
 bif (!(seq v0 (bs []))) then (
 (gtS v0 (0 : Int)).bind fun b_1 =>
 (gtS v0 (0 : Int)).bind fun b_2 =>
 (optionKind v1 (b_2.toNat : Int)).bind fun r_1 =>
 bif (r_1 == (0 : Int)) then (
 some (.inr (.inr (.inr (.inr (.inl (v0, v1, v2, v3, b_1, b_2, r_1))))))
 ) else (
 bif (r_1 == (2 : Int)) then (
 grd (0 ≤ (1 : Int) ∧ (1 : Int) ≤ (v0.size : Int) ∧ (v0.size : Int) ≤ (v0.size : Int)) <|
 grd (0 ≤ (0 : Int) ∧ (0 : Int) ≤ (1 : Int) ∧ (1 : Int) ≤ (v0.size : Int)) <|
 bif (seq (v0.extract ((1 : Int)).toNat v0.size) (bs [])) then (
 bif ((v2.length : Int) == (0 : Int)) then (
 some (.inr (.inr (.inr (.inr (.inr (.inl (v0, v1, v2, v3, b_1, b_2, r_1)))))))
 ) else (
 (optionTakerNext2 v1 v2 v3).bind fun (r_2, r_3, r_4, r_5) =>
 grd (room (r_5.length + 1) 24) <|
 grd (0 ≤ (1 : Int) ∧ (1 : Int) ≤ ((v0.extract 0 ((1 : Int)).toNat).size : Int) ∧ ((v0.extract 0 ((1 : Int)).toNat).size : Int) ≤ ((v0.extract 0 ((1 : Int)).toNat).size : Int)) <|
 some (.inl (.inr ((((v0.extract 0 ((1 : Int)).toNat).extract ((1 : Int)).toNat (v0.extract 0 ((1 : Int)).toNat).size), r_3, r_4, (r_5 ++ [(FlagD.mk (b_1.toNat : Int) r_2)])))))
 )
 ) else (
 grd (room (v3.length + 1) 24) <|
 grd (0 ≤ (1 : Int) ∧ (1 : Int) ≤ ((v0.extract 0 ((1 : Int)).toNat).size : Int) ∧ ((v0.extract 0 ((1 : Int)).toNat).size : Int) ≤ ((v0.extract 0 ((1 : Int)).toNat).size : Int)) <|
 some (.inl (.inr ((((v0.extract 0 ((1 : Int)).toNat).extract ((1 : Int)).toNat (v0.extract 0 ((1 : Int)).toNat).size), v1, v2, (v3 ++ [(FlagD.mk (b_1.toNat : Int) (v0.extract ((1 : Int)).toNat v0.size))])))))
 )
 ) else (
 bif (r_1 == (1 : Int)) then (
 grd (room (v3.length + 1) 24) <|
 grd (0 ≤ (1 : Int) ∧ (1 : Int) ≤ (v0.size : Int) ∧ (v0.size : Int) ≤ (v0.size : Int)) <|
 some (.inl (.inr (((v0.extract ((1 : Int)).toNat v0.size), v1, v2, (v3 ++ [(FlagD.mk (b_1.toNat : Int) (bs []))])))))
 ) else (
 grd (0 ≤ (1 : Int) ∧ (1 : Int) ≤ (v0.size : Int) ∧ (v0.size : Int) ≤ (v0.size : Int)) <|
 some (.inl (.inr (((v0.extract ((1 : Int)).toNat v0.size), v1, v2, v3))))
 )
 )
 )
 ) else (
 some (.inr (.inr (.inr (.inr (.inr (.inr ((v0, v1, v2, v3))))))))
 )
def optionTakerGroup2 (p0 : ByteArray) (p1 : ByteArray) (p2 : (List ByteArray)) (p3 : (List FlagD)) : Option ((ByteArray × (List ByteArray) × (List FlagD)) ⊕ (ByteArray × (List ByteArray) × (List FlagD)) ⊕ (ByteArray × (List ByteArray) × (List FlagD)) ⊕ (ByteArray × (List ByteArray) × (List FlagD)) ⊕ (ByteArray × (List ByteArray) × (List FlagD)) ⊕ (ByteArray × (List ByteArray) × (List FlagD))) :=
 (iterN (optionTakerGroup2_b1) LF (.inl (p0, p1, p2, p3))).bind fun X_1 => match X_1 with
 | .inl (v_1, v_2, v_3, v_4, b_1, b_2, r_1) => (
 some (.inl (v_2, v_3, v_4))
 )
 | .inr (.inl (v_1, v_2, v_3, v_4, b_1, b_2, r_1)) => (
 some (.inr (.inl (v_2, v_3, v_4)))
 )
 | .inr (.inr (.inl (v_1, v_2, v_3, v_4))) => (
 some (.inr (.inr (.inl (v_2, v_3, v_4))))
 )
 | .inr (.inr (.inr (.inl (v_5, v_6, v_7, v_8, b_1, b_2, r_1)))) => (
 some (.inr (.inr (.inr (.inl (v_6, v_7, v_8)))))
 )
 | .inr (.inr (.inr (.inr (.inl (v_5, v_6, v_7, v_8, b_1, b_2, r_1))))) => (
 some (.inr (.inr (.inr (.inr (.inl (v_6, v_7, v_8))))))
 )
 | .inr (.inr (.inr (.inr (.inr ((v_5, v_6, v_7, v_8)))))) => (
 some (.inr (.inr (.inr (.inr (.inr ((v_6, v_7, v_8)))))))
 )
end Go.Proofs.YtaenhodkpidocaaGreatDoor.Den
namespace Go.Proofs.YtaenhodkpidocaaGreatDoor.Den
open Go Go.RowKit
def optionTakerAll_b1 : ((ByteArray × (List ByteArray)) ⊕ (ByteArray × (List ByteArray) × (List FlagD))) → Option (((ByteArray × (List ByteArray)) ⊕ (ByteArray × (List ByteArray) × (List FlagD))) ⊕ ((ByteArray × (List ByteArray) × ByteArray × ByteArray × Bool) ⊕ (ByteArray × (List ByteArray) × ByteArray × ByteArray × Bool) ⊕ (ByteArray × (List ByteArray) × ByteArray × ByteArray × Bool × ByteArray × ByteArray × (List ByteArray)) ⊕ (ByteArray × (List ByteArray) × ByteArray × ByteArray × Bool × ByteArray × ByteArray × (List ByteArray) × ByteArray × (List ByteArray)) ⊕ (ByteArray × (List ByteArray) × ByteArray × ByteArray × Bool × ByteArray × ByteArray × (List ByteArray) × ByteArray × (List ByteArray)) ⊕ (ByteArray × (List ByteArray) × ByteArray × ByteArray × Bool × ByteArray × ByteArray × (List ByteArray) × ByteArray × (List ByteArray) × (List FlagD)) ⊕ (ByteArray × (List ByteArray) × ByteArray × ByteArray × Bool × ByteArray × ByteArray × (List ByteArray) × ByteArray × (List ByteArray) × (List FlagD)) ⊕ (ByteArray × (List ByteArray)) ⊕ (ByteArray × (List ByteArray) × (List FlagD) × ByteArray × ByteArray × Bool) ⊕ (ByteArray × (List ByteArray) × (List FlagD) × ByteArray × ByteArray × Bool) ⊕ (ByteArray × (List ByteArray) × (List FlagD) × ByteArray × ByteArray × Bool × ByteArray × ByteArray × (List ByteArray) × (List FlagD)) ⊕ (ByteArray × (List ByteArray) × (List FlagD) × ByteArray × ByteArray × Bool × ByteArray × ByteArray × (List ByteArray) × (List FlagD) × ByteArray × (List ByteArray) × (List FlagD)) ⊕ (ByteArray × (List ByteArray) × (List FlagD) × ByteArray × ByteArray × Bool × ByteArray × ByteArray × (List ByteArray) × (List FlagD) × ByteArray × (List ByteArray) × (List FlagD)) ⊕ (ByteArray × (List ByteArray) × (List FlagD) × ByteArray × ByteArray × Bool × ByteArray × ByteArray × (List ByteArray) × (List FlagD) × ByteArray × (List ByteArray) × (List FlagD)) ⊕ (ByteArray × (List ByteArray) × (List FlagD) × ByteArray × ByteArray × Bool × ByteArray × ByteArray × (List ByteArray) × (List FlagD) × ByteArray × (List ByteArray) × (List FlagD)) ⊕ (ByteArray × (List ByteArray) × (List FlagD))))
 | .inl (v0, v1) =>
 bif (decide ((v1.length : Int) > (0 : Int))) then (
 (gt v1 (0 : Int)).bind fun y_1 =>
 (stringsCutPrefix y_1 (bs [45])).bind fun (r_1, r_2) =>
 bif (!r_2) then (
 some (.inr (.inl (v0, v1, y_1, r_1, r_2)))
 ) else (
 bif (seq r_1 (bs [])) then (
 some (.inr (.inr (.inl (v0, v1, y_1, r_1, r_2))))
 ) else (
 (optionTakerNext v0 v1).bind fun (r_3, r_4, r_5) =>
 bif (seq r_1 (bs [45])) then (
 some (.inr (.inr (.inr (.inl (v0, v1, y_1, r_1, r_2, r_3, r_4, r_5)))))
 ) else (
 (optionTakerGroup r_1 r_4 r_5).bind fun X_2 => match X_2 with
 | .inl (r_6, r_7) => (
 some (.inr (.inr (.inr (.inr (.inl (v0, v1, y_1, r_1, r_2, r_3, r_4, r_5, r_6, r_7))))))
 )
 | .inr (.inl (r_8, r_9)) => (
 some (.inr (.inr (.inr (.inr (.inr (.inl (v0, v1, y_1, r_1, r_2, r_3, r_4, r_5, r_8, r_9)))))))
 )
 | .inr (.inr (.inl (r_10, r_11))) => (
 some (.inl (.inl (r_10, r_11)))
 )
 | .inr (.inr (.inr (.inl (r_12, r_13, r_14)))) => (
 some (.inr (.inr (.inr (.inr (.inr (.inr (.inl (v0, v1, y_1, r_1, r_2, r_3, r_4, r_5, r_12, r_13, r_14))))))))
 )
 | .inr (.inr (.inr (.inr (.inl (r_15, r_16, r_17))))) => (
 some (.inr (.inr (.inr (.inr (.inr (.inr (.inr (.inl (v0, v1, y_1, r_1, r_2, r_3, r_4, r_5, r_15, r_16, r_17)))))))))
 )
 | .inr (.inr (.inr (.inr (.inr ((r_18, r_19, r_20)))))) => (
 some (.inl (.inr ((r_18, r_19, r_20))))
 )
 )
 )
 )
 ) else (
 some (.inr (.inr (.inr (.inr (.inr (.inr (.inr (.inr (.inl (v0, v1))))))))))
 )
 | .inr ((v0, v1, v2)) =>
 bif (decide ((v1.length : Int) > (0 : Int))) then (
 (gt v1 (0 : Int)).bind fun y_1 =>
 (stringsCutPrefix y_1 (bs [45])).bind fun (r_1, r_2) =>
 bif (!r_2) then (
 some (.inr (.inr (.inr (.inr (.inr (.inr (.inr (.inr (.inr (.inl (v0, v1, v2, y_1, r_1, r_2)))))))))))
 ) else (
 bif (seq r_1 (bs [])) then (
 some (.inr (.inr (.inr (.inr (.inr (.inr (.inr (.inr (.inr (.inr (.inl (v0, v1, v2, y_1, r_1, r_2))))))))))))
 ) else (
 (optionTakerNext2 v0 v1 v2).bind fun (r_3, r_4, r_5, r_6) =>
 bif (seq r_1 (bs [45])) then (
 some (.inr (.inr (.inr (.inr (.inr (.inr (.inr (.inr (.inr (.inr (.inr (.inl (v0, v1, v2, y_1, r_1, r_2, r_3, r_4, r_5, r_6)))))))))))))
 ) else (
 (optionTakerGroup2 r_1 r_4 r_5 r_6).bind fun X_2 => match X_2 with
 | .inl (r_7, r_8, r_9) => (
 some (.inr (.inr (.inr (.inr (.inr (.inr (.inr (.inr (.inr (.inr (.inr (.inr (.inl (v0, v1, v2, y_1, r_1, r_2, r_3, r_4, r_5, r_6, r_7, r_8, r_9))))))))))))))
 )
 | .inr (.inl (r_10, r_11, r_12)) => (
 some (.inr (.inr (.inr (.inr (.inr (.inr (.inr (.inr (.inr (.inr (.inr (.inr (.inr (.inl (v0, v1, v2, y_1, r_1, r_2, r_3, r_4, r_5, r_6, r_10, r_11, r_12)))))))))))))))
 )
 | .inr (.inr (.inl (r_13, r_14, r_15))) => (
 some (.inl (.inr ((r_13, r_14, r_15))))
 )
 | .inr (.inr (.inr (.inl (r_16, r_17, r_18)))) => (
 some (.inr (.inr (.inr (.inr (.inr (.inr (.inr (.inr (.inr (.inr (.inr (.inr (.inr (.inr (.inl (v0, v1, v2, y_1, r_1, r_2, r_3, r_4, r_5, r_6, r_16, r_17, r_18))))))))))))))))
 )
 | .inr (.inr (.inr (.inr (.inl (r_19, r_20, r_21))))) => (
 some (.inr (.inr (.inr (.inr (.inr (.inr (.inr (.inr (.inr (.inr (.inr (.inr (.inr (.inr (.inr (.inl (v0, v1, v2, y_1, r_1, r_2, r_3, r_4, r_5, r_6, r_19, r_20, r_21)))))))))))))))))
 )
 | .inr (.inr (.inr (.inr (.inr ((r_22, r_23, r_24)))))) => (
 some (.inl (.inr ((r_22, r_23, r_24))))
 )
 )
 )
 )
 ) else (
 some (.inr (.inr (.inr (.inr (.inr (.inr (.inr (.inr (.inr (.inr (.inr (.inr (.inr (.inr (.inr (.inr ((v0, v1, v2))))))))))))))))))
 )
end Go.Proofs.YtaenhodkpidocaaGreatDoor.Den
namespace Go.Proofs.YtaenhodkpidocaaGreatDoor.Den
open Go Go.RowKit
def jobFail (j : JobD) (path : ByteArray) (e : Int) : Option JobD :=
 grd (¬ (((path.size + (bs [58, 32, 101, 114, 114, 111, 114, 32]).size : Nat) : Int) > IntKind.i64.max)) <|
 (itoaX e).bind fun r_1 =>
 grd (¬ ((((path ++ (bs [58, 32, 101, 114, 114, 111, 114, 32])).size + r_1.size : Nat) : Int) > IntKind.i64.max)) <|
 some (JobD.mk j.kind j.p j.phase j.fd j.nF j.modeF j.tries j.atF j.flags j.path j.path2 j.text j.names j.stack j.draws true (1 : Int) ((path ++ (bs [58, 32, 101, 114, 114, 111, 114, 32])) ++ r_1) e)
set_option maxRecDepth 100000 in
theorem jobFail_ok (k : Nat) (j : JobD) (path : ByteArray) (e : Int) (r : JobD) (h : jobFail j path e = some r) : run0 (k + 1) 26 [(JobD.a j), (pS path), (pI e)] = some (JobD.a r) := by
  unfold jobFail at h
  obtain ⟨q1, h⟩ := grd_some h
  obtain ⟨r_1, q2, h⟩ := bnd_some h
  obtain ⟨q3, h⟩ := grd_some h
  obtain rfl := Option.some.inj h
  exact ret_go (k := k) Tryz.func26 Tryz.ntmps26 (by kernel_rfl) (by kernel_rfl) (lb rfl) (adv [([], 1, 2, .cat), ([], 1, 4, .ret (pS r_1)), ([], 1, 5, .cat)]) (ex := .ret) (r := (.agg [(pI j.kind), (pI j.p), (pI j.phase), (pI j.fd), (pI j.nF), (pI j.modeF), (pI j.tries), (pI j.atF), (pI j.flags), (pS j.path), (pS j.path2), (pS j.text), (.list 1 false (j.names.map cS)), (.list 3 false (j.stack.map FrameD.c)), (.list 1 false (j.draws.map cI)), (pB true), (pI (1 : Int)), (pS ((path ++ (bs [58, 32, 101, 114, 114, 111, 114, 32])) ++ r_1)), (pI e)])) (by kernel_rfl) rfl (by kernel_rfl) (allC q1 (allC (itoaX_ok k e _ q2) (allC q3 allN))) (by kernel_rfl) allN
def jobDraw (j : JobD) (n : Int) : Option ((List Int) × JobD) :=
 grd (0 ≤ (if (0 : Int) > n then (0 : Int) else n) ∧ (if (0 : Int) > n then (0 : Int) else n) ≤ (if (0 : Int) > n then (0 : Int) else n) ∧ (8 : Int) * (if (0 : Int) > n then (0 : Int) else n) ≤ 281474976710656 ∧ (if (0 : Int) > n then (0 : Int) else n) ≤ 9223372036854775807) <|
 bif (decide (j.atF < (j.draws.length : Int))) then (
 grd (0 ≤ j.atF ∧ j.atF ≤ (j.draws.length : Int) ∧ (j.draws.length : Int) ≤ (j.draws.length : Int)) <|
 some ((copyL (List.replicate (((if (0 : Int) > n then (0 : Int) else n)).toNat) (0 : Int)) (j.draws.drop ((j.atF).toNat))), (JobD.mk j.kind j.p j.phase j.fd j.nF j.modeF j.tries (w64 (j.atF + n)) j.flags j.path j.path2 j.text j.names j.stack j.draws j.done j.exit j.out j.e))
 ) else (
 some ((List.replicate (((if (0 : Int) > n then (0 : Int) else n)).toNat) (0 : Int)), (JobD.mk j.kind j.p j.phase j.fd j.nF j.modeF j.tries (w64 (j.atF + n)) j.flags j.path j.path2 j.text j.names j.stack j.draws j.done j.exit j.out j.e))
 )
set_option maxRecDepth 100000 in
theorem jobDraw_ok (k : Nat) (j : JobD) (n : Int) (r : ((List Int) × JobD)) (h : jobDraw j n = some r) : run0 (k + 1) 64 [(JobD.a j), (pI n)] = some (.tup [(.list 1 false (r.1.map cI)), (JobD.a r.2)]) := by
  unfold jobDraw at h
  obtain ⟨q1, h⟩ := grd_some h
  rcases bif_some h with ⟨q2, h⟩ | ⟨q2, h⟩
  · obtain ⟨q3, h⟩ := grd_some h
    obtain rfl := Option.some.inj h
    exact (ret_go (k := k) Tryz.func64 Tryz.ntmps64 (by kernel_rfl) (by kernel_rfl) (lb rfl) (adv [([], 1, 2, .mk), ([], 2, 4, .eq (pI (j.draws.length : Int))), ([], 2, 5, .eq (pB true)), ([], 3, 5, .sub false), ([], 3, 6, .cp)]) (ex := .ret) (r := (.tup [(.list 1 false ((List.replicate (((if (0 : Int) > n then (0 : Int) else n)).toNat) [(pI (0 : Int))]).take 0 ++ (((j.draws.map cI).drop ((j.atF).toNat)).take ((j.draws.map cI).length - (j.atF).toNat)).take (min (((j.draws.map cI).drop ((j.atF).toNat)).take ((j.draws.map cI).length - (j.atF).toNat)).length (((if (0 : Int) > n then (0 : Int) else n)).toNat)) ++ (List.replicate (((if (0 : Int) > n then (0 : Int) else n)).toNat) [(pI (0 : Int))]).drop (0 + (min (((j.draws.map cI).drop ((j.atF).toNat)).take ((j.draws.map cI).length - (j.atF).toNat)).length (((if (0 : Int) > n then (0 : Int) else n)).toNat))))), (.agg [(pI j.kind), (pI j.p), (pI j.phase), (pI j.fd), (pI j.nF), (pI j.modeF), (pI j.tries), (pI (w64 (j.atF + n))), (pI j.flags), (pS j.path), (pS j.path2), (pS j.text), (.list 1 false (j.names.map cS)), (.list 3 false (j.stack.map FrameD.c)), (.list 1 false (j.draws.map cI)), (pB j.done), (pI j.exit), (pS j.out), (pI j.e)])])) (by kernel_rfl) rfl (by kernel_rfl) (allC q1 (allC (len_ob (rfl : (j.draws.map cI) = j.draws.map cI)) (allC (cg q2) (allC (sub_ok1 (c := cI) q3) (allC (cp_ok ((enc_rep (c := cI) (((if (0 : Int) > n then (0 : Int) else n)).toNat) (0 : Int)) : (List.replicate (((if (0 : Int) > n then (0 : Int) else n)).toNat) [(pI (0 : Int))]) = (List.replicate (((if (0 : Int) > n then (0 : Int) else n)).toNat) (0 : Int)).map cI) (List.length_replicate.symm : ((if (0 : Int) > n then (0 : Int) else n)).toNat = (List.replicate (((if (0 : Int) > n then (0 : Int) else n)).toNat) (0 : Int)).length)) allN))))) (by kernel_rfl) (allC (row_ok ((enc_cp ((enc_rep (c := cI) (((if (0 : Int) > n then (0 : Int) else n)).toNat) (0 : Int)) : (List.replicate (((if (0 : Int) > n then (0 : Int) else n)).toNat) [(pI (0 : Int))]) = (List.replicate (((if (0 : Int) > n then (0 : Int) else n)).toNat) (0 : Int)).map cI) ((enc_drop rfl ((j.atF).toNat)) : (((j.draws.map cI).drop ((j.atF).toNat)).take ((j.draws.map cI).length - (j.atF).toNat)) = (j.draws.drop ((j.atF).toNat)).map cI) (List.length_replicate.symm : ((if (0 : Int) > n then (0 : Int) else n)).toNat = (List.replicate (((if (0 : Int) > n then (0 : Int) else n)).toNat) (0 : Int)).length)) : ((List.replicate (((if (0 : Int) > n then (0 : Int) else n)).toNat) [(pI (0 : Int))]).take 0 ++ (((j.draws.map cI).drop ((j.atF).toNat)).take ((j.draws.map cI).length - (j.atF).toNat)).take (min (((j.draws.map cI).drop ((j.atF).toNat)).take ((j.draws.map cI).length - (j.atF).toNat)).length (((if (0 : Int) > n then (0 : Int) else n)).toNat)) ++ (List.replicate (((if (0 : Int) > n then (0 : Int) else n)).toNat) [(pI (0 : Int))]).drop (0 + (min (((j.draws.map cI).drop ((j.atF).toNat)).take ((j.draws.map cI).length - (j.atF).toNat)).length (((if (0 : Int) > n then (0 : Int) else n)).toNat)))) = (copyL (List.replicate (((if (0 : Int) > n then (0 : Int) else n)).toNat) (0 : Int)) (j.draws.drop ((j.atF).toNat))).map cI) ((len_cp (List.length_replicate.symm : ((if (0 : Int) > n then (0 : Int) else n)).toNat = (List.replicate (((if (0 : Int) > n then (0 : Int) else n)).toNat) (0 : Int)).length) (j.draws.drop ((j.atF).toNat))) : ((if (0 : Int) > n then (0 : Int) else n)).toNat = (copyL (List.replicate (((if (0 : Int) > n then (0 : Int) else n)).toNat) (0 : Int)) (j.draws.drop ((j.atF).toNat))).length)) allN)).trans (congrArg some (by rw [(show ((List.replicate (((if (0 : Int) > n then (0 : Int) else n)).toNat) [(pI (0 : Int))]).take 0 ++ (((j.draws.map cI).drop ((j.atF).toNat)).take ((j.draws.map cI).length - (j.atF).toNat)).take (min (((j.draws.map cI).drop ((j.atF).toNat)).take ((j.draws.map cI).length - (j.atF).toNat)).length (((if (0 : Int) > n then (0 : Int) else n)).toNat)) ++ (List.replicate (((if (0 : Int) > n then (0 : Int) else n)).toNat) [(pI (0 : Int))]).drop (0 + (min (((j.draws.map cI).drop ((j.atF).toNat)).take ((j.draws.map cI).length - (j.atF).toNat)).length (((if (0 : Int) > n then (0 : Int) else n)).toNat)))) = ((copyL (List.replicate (((if (0 : Int) > n then (0 : Int) else n)).toNat) (0 : Int)) (j.draws.drop ((j.atF).toNat))).map cI) from (enc_cp ((enc_rep (c := cI) (((if (0 : Int) > n then (0 : Int) else n)).toNat) (0 : Int)) : (List.replicate (((if (0 : Int) > n then (0 : Int) else n)).toNat) [(pI (0 : Int))]) = (List.replicate (((if (0 : Int) > n then (0 : Int) else n)).toNat) (0 : Int)).map cI) ((enc_drop rfl ((j.atF).toNat)) : (((j.draws.map cI).drop ((j.atF).toNat)).take ((j.draws.map cI).length - (j.atF).toNat)) = (j.draws.drop ((j.atF).toNat)).map cI) (List.length_replicate.symm : ((if (0 : Int) > n then (0 : Int) else n)).toNat = (List.replicate (((if (0 : Int) > n then (0 : Int) else n)).toNat) (0 : Int)).length)))] <;> rfl))
  · obtain rfl := Option.some.inj h
    exact (ret_go (k := k) Tryz.func64 Tryz.ntmps64 (by kernel_rfl) (by kernel_rfl) (lb rfl) (adv [([], 1, 2, .mk), ([], 2, 4, .eq (pI (j.draws.length : Int))), ([], 2, 5, .eq (pB false))]) (ex := .ret) (r := (.tup [(.list 1 false (List.replicate (((if (0 : Int) > n then (0 : Int) else n)).toNat) [(pI (0 : Int))])), (.agg [(pI j.kind), (pI j.p), (pI j.phase), (pI j.fd), (pI j.nF), (pI j.modeF), (pI j.tries), (pI (w64 (j.atF + n))), (pI j.flags), (pS j.path), (pS j.path2), (pS j.text), (.list 1 false (j.names.map cS)), (.list 3 false (j.stack.map FrameD.c)), (.list 1 false (j.draws.map cI)), (pB j.done), (pI j.exit), (pS j.out), (pI j.e)])])) (by kernel_rfl) rfl (by kernel_rfl) (allC q1 (allC (len_ob (rfl : (j.draws.map cI) = j.draws.map cI)) (allC (cg q2) allN))) (by kernel_rfl) (allC (row_ok ((enc_rep (c := cI) (((if (0 : Int) > n then (0 : Int) else n)).toNat) (0 : Int)) : (List.replicate (((if (0 : Int) > n then (0 : Int) else n)).toNat) [(pI (0 : Int))]) = (List.replicate (((if (0 : Int) > n then (0 : Int) else n)).toNat) (0 : Int)).map cI) (List.length_replicate.symm : ((if (0 : Int) > n then (0 : Int) else n)).toNat = (List.replicate (((if (0 : Int) > n then (0 : Int) else n)).toNat) (0 : Int)).length)) allN)).trans (congrArg some (by rw [(show (List.replicate (((if (0 : Int) > n then (0 : Int) else n)).toNat) [(pI (0 : Int))]) = ((List.replicate (((if (0 : Int) > n then (0 : Int) else n)).toNat) (0 : Int)).map cI) from (enc_rep (c := cI) (((if (0 : Int) > n then (0 : Int) else n)).toNat) (0 : Int)))] <;> rfl))
def routeBase (p : ByteArray) : Option ByteArray :=
 (trimRX p (bs [47])).bind fun r_1 =>
 bif (seq r_1 (bs [])) then (
 bif (!(seq p (bs []))) then (
 some (bs [47])
 ) else (
 (lastIxX r_1 (bs [47])).bind fun r_2 =>
 grd (0 ≤ (w64 (r_2 + (1 : Int))) ∧ (w64 (r_2 + (1 : Int))) ≤ (r_1.size : Int) ∧ (r_1.size : Int) ≤ (r_1.size : Int)) <|
 some (r_1.extract ((w64 (r_2 + (1 : Int)))).toNat r_1.size)
 )
 ) else (
 (lastIxX r_1 (bs [47])).bind fun r_2 =>
 grd (0 ≤ (w64 (r_2 + (1 : Int))) ∧ (w64 (r_2 + (1 : Int))) ≤ (r_1.size : Int) ∧ (r_1.size : Int) ≤ (r_1.size : Int)) <|
 some (r_1.extract ((w64 (r_2 + (1 : Int)))).toNat r_1.size)
 )
set_option maxRecDepth 100000 in
theorem routeBase_ok (k : Nat) (p : ByteArray) (r : ByteArray) (h : routeBase p = some r) : run0 (k + 1) 38 [(pS p)] = some (pS r) := by
  unfold routeBase at h
  obtain ⟨r_1, q1, h⟩ := bnd_some h
  rcases bif_some h with ⟨q2, h⟩ | ⟨q2, h⟩
  · rcases bif_some h with ⟨q3, h⟩ | ⟨q3, h⟩
    · obtain rfl := Option.some.inj h
      exact ret_go (k := k) Tryz.func38 Tryz.ntmps38 (by kernel_rfl) (by kernel_rfl) (lb rfl) (adv [([], 1, 1, .ret (pS r_1)), ([], 2, 2, .eq (pB true)), ([], 2, 5, .eq (pB true))]) (ex := .ret) (r := (pS (bs [47]))) (by kernel_rfl) rfl (by kernel_rfl) (allC (trimRX_ok k p (bs [47]) _ q1) (allC (cg q2) (allC (cg q3) allN))) (by kernel_rfl) allN
    · obtain ⟨r_2, q4, h⟩ := bnd_some h
      obtain ⟨q5, h⟩ := grd_some h
      obtain rfl := Option.some.inj h
      exact ret_go (k := k) Tryz.func38 Tryz.ntmps38 (by kernel_rfl) (by kernel_rfl) (lb rfl) (adv [([], 1, 1, .ret (pS r_1)), ([], 2, 2, .eq (pB true)), ([], 2, 5, .eq (pB false)), ([], 4, 2, .ret (pI r_2)), ([], 4, 4, .sub false)]) (ex := .ret) (r := (pS (r_1.extract ((w64 (r_2 + (1 : Int)))).toNat r_1.size))) (by kernel_rfl) rfl (by kernel_rfl) (allC (trimRX_ok k p (bs [47]) _ q1) (allC (cg q2) (allC (cg q3) (allC (lastIxX_ok k r_1 (bs [47]) _ q4) (allC q5 allN))))) (by kernel_rfl) allN
  · obtain ⟨r_2, q3, h⟩ := bnd_some h
    obtain ⟨q4, h⟩ := grd_some h
    obtain rfl := Option.some.inj h
    exact ret_go (k := k) Tryz.func38 Tryz.ntmps38 (by kernel_rfl) (by kernel_rfl) (lb rfl) (adv [([], 1, 1, .ret (pS r_1)), ([], 2, 2, .eq (pB false)), ([], 4, 2, .ret (pI r_2)), ([], 4, 4, .sub false)]) (ex := .ret) (r := (pS (r_1.extract ((w64 (r_2 + (1 : Int)))).toNat r_1.size))) (by kernel_rfl) rfl (by kernel_rfl) (allC (trimRX_ok k p (bs [47]) _ q1) (allC (cg q2) (allC (lastIxX_ok k r_1 (bs [47]) _ q3) (allC q4 allN)))) (by kernel_rfl) allN
def stringsHasPrefix (s : ByteArray) (prefixF : ByteArray) : Option Bool :=
 (stringsliteHasPrefix s prefixF).bind fun r_1 =>
 some r_1
set_option maxRecDepth 100000 in
theorem stringsHasPrefix_ok (k : Nat) (s : ByteArray) (prefixF : ByteArray) (r : Bool) (h : stringsHasPrefix s prefixF = some r) : run0 (k + 2) 37 [(pS s), (pS prefixF)] = some (pB r) := by
  unfold stringsHasPrefix at h
  obtain ⟨r_1, q1, h⟩ := bnd_some h
  obtain rfl := Option.some.inj h
  exact ret_go (k := (k + 1)) Tryz.func37 Tryz.ntmps37 (by kernel_rfl) (by kernel_rfl) (lb rfl) (adv [([], 1, 2, .ret (pB r_1))]) (ex := .ret) (r := (pB r_1)) (by kernel_rfl) rfl (by kernel_rfl) (allC (stringsliteHasPrefix_ok k s prefixF _ q1) allN) (by kernel_rfl) allN
def routeDir1 (p0 : ByteArray) (p1 : ByteArray) : Option (ByteArray × ByteArray) :=
 bif (!(seq p0 (bs []))) then (
 some (p0, p1)
 ) else (
 (stringsHasPrefix p1 (bs [47])).bind fun r_1 =>
 bif r_1 then (
 some ((bs [47]), p1)
 ) else (
 some ((bs [46]), p1)
 )
 )
def routeDir1_out : (ByteArray × ByteArray) → PV × List (Option Blk) × List Nat
 | (r0, r1) => ((pS r0), [some ⟨1, 9, [[(pS r1)]], true, false⟩], [0])
set_option maxRecDepth 100000 in
theorem routeDir1_ok (k : Nat) (p0 : ByteArray) (p1 : ByteArray) (r : (ByteArray × ByteArray)) (h : routeDir1 p0 p1 = some r) : runS0 (k + 3) 75 [(pS p0), (.ptr [0, TAG] 1 0 0)] [some ⟨1, 9, [[(pS p1)]], true, false⟩] [0] = some (routeDir1_out r) := by
  unfold routeDir1 at h
  rcases bif_some h with ⟨q1, h⟩ | ⟨q1, h⟩
  · obtain rfl := Option.some.inj h
    exact retS_go (k := (k + 2)) (n := 1) Tryz.func75 Tryz.ntmps75 rfl (by kernel_rfl) (by kernel_rfl) (lb rfl) (adv [([], 1, 2, .eq (pB true))]) (ex := .ret) (r := ((pS p0), [some ⟨1, 9, [[(pS p1)]], true, false⟩], [0])) (by kernel_rfl) rfl (by kernel_rfl) (allC (cg q1) allN) (by kernel_rfl)
  · obtain ⟨r_1, q2, h⟩ := bnd_some h
    rcases bif_some h with ⟨q3, h⟩ | ⟨q3, h⟩
    · obtain rfl := Option.some.inj h
      exact retS_go (k := (k + 2)) (n := 1) Tryz.func75 Tryz.ntmps75 rfl (by kernel_rfl) (by kernel_rfl) (lb rfl) (adv [([], 1, 2, .eq (pB false)), ([], 3, 1, .ret (pB r_1)), ([], 3, 2, .eq (pB true))]) (ex := .ret) (r := ((pS (bs [47])), [some ⟨1, 9, [[(pS p1)]], true, false⟩], [0])) (by kernel_rfl) rfl (by kernel_rfl) (allC (cg q1) (allC (stringsHasPrefix_ok k p1 (bs [47]) _ q2) (allC (cg q3) allN))) (by kernel_rfl)
    · obtain rfl := Option.some.inj h
      exact retS_go (k := (k + 2)) (n := 1) Tryz.func75 Tryz.ntmps75 rfl (by kernel_rfl) (by kernel_rfl) (lb rfl) (adv [([], 1, 2, .eq (pB false)), ([], 3, 1, .ret (pB r_1)), ([], 3, 2, .eq (pB false))]) (ex := .ret) (r := ((pS (bs [46])), [some ⟨1, 9, [[(pS p1)]], true, false⟩], [0])) (by kernel_rfl) rfl (by kernel_rfl) (allC (cg q1) (allC (stringsHasPrefix_ok k p1 (bs [47]) _ q2) (allC (cg q3) allN))) (by kernel_rfl)
def routeDir (p : ByteArray) : Option ByteArray :=
 (trimRX p (bs [47])).bind fun r_1 =>
 (lastIxX r_1 (bs [47])).bind fun r_2 =>
 grd (0 ≤ (0 : Int) ∧ (0 : Int) ≤ (w64 (r_2 + (1 : Int))) ∧ (w64 (r_2 + (1 : Int))) ≤ (r_1.size : Int)) <|
 (trimRX (r_1.extract 0 ((w64 (r_2 + (1 : Int)))).toNat) (bs [47])).bind fun r_3 =>
 (routeDir1 r_3 p).bind fun (r_4, r_5) =>
 some r_4
set_option maxRecDepth 100000 in
theorem routeDir_ok (k : Nat) (p : ByteArray) (r : ByteArray) (h : routeDir p = some r) : run0 (k + 4) 40 [(pS p)] = some (pS r) := by
  unfold routeDir at h
  obtain ⟨r_1, q1, h⟩ := bnd_some h
  obtain ⟨r_2, q2, h⟩ := bnd_some h
  obtain ⟨q3, h⟩ := grd_some h
  obtain ⟨r_3, q4, h⟩ := bnd_some h
  obtain ⟨X_1, q5, h⟩ := bnd_some h
  rcases X_1 with ⟨r_4, r_5⟩
  · try dsimp only at h
    obtain rfl := Option.some.inj h
    exact ret_go (k := (k + 3)) Tryz.func40 Tryz.ntmps40 (by kernel_rfl) (by kernel_rfl) (lb rfl) (adv [([], 2, 1, .ret (pS r_1)), ([], 3, 3, .ret (pI r_2)), ([], 3, 5, .sub false), ([], 3, 6, .ret (pS r_3)), ([], 3, 7, .retS (pS r_4) [some ⟨1, 9, [[(pS r_5)]], true, false⟩] [0])]) (ex := .ret) (r := (pS r_4)) (by kernel_rfl) rfl (by kernel_rfl) (allC (trimRX_ok (k + 3) p (bs [47]) _ q1) (allC (lastIxX_ok (k + 3) r_1 (bs [47]) _ q2) (allC q3 (allC (trimRX_ok (k + 3) (r_1.extract 0 ((w64 (r_2 + (1 : Int)))).toNat) (bs [47]) _ q4) (allC (routeDir1_ok k r_3 p _ q5) allN))))) (by kernel_rfl) allN
def stringsliteHasSuffix (s : ByteArray) (suffix : ByteArray) : Option Bool :=
 bif (decide ((s.size : Int) ≥ (suffix.size : Int))) then (
 grd (0 ≤ (w64 ((s.size : Int) - (suffix.size : Int))) ∧ (w64 ((s.size : Int) - (suffix.size : Int))) ≤ (s.size : Int) ∧ (s.size : Int) ≤ (s.size : Int)) <|
 some (seq (s.extract ((w64 ((s.size : Int) - (suffix.size : Int)))).toNat s.size) suffix)
 ) else (
 some false
 )
set_option maxRecDepth 100000 in
theorem stringsliteHasSuffix_ok (k : Nat) (s : ByteArray) (suffix : ByteArray) (r : Bool) (h : stringsliteHasSuffix s suffix = some r) : run0 (k + 1) 204 [(pS s), (pS suffix)] = some (pB r) := by
  unfold stringsliteHasSuffix at h
  rcases bif_some h with ⟨q1, h⟩ | ⟨q1, h⟩
  · obtain ⟨q2, h⟩ := grd_some h
    obtain rfl := Option.some.inj h
    exact ret_go (k := k) Tryz.func204 Tryz.ntmps204 (by kernel_rfl) (by kernel_rfl) (lb rfl) (adv [([], 1, 5, .eq (pB true)), ([], 1, 12, .sub false)]) (ex := .ret) (r := (pB (seq (s.extract ((w64 ((s.size : Int) - (suffix.size : Int)))).toNat s.size) suffix))) (by kernel_rfl) rfl (by kernel_rfl) (allC (cg q1) (allC q2 allN)) (by kernel_rfl) allN
  · obtain rfl := Option.some.inj h
    exact ret_go (k := k) Tryz.func204 Tryz.ntmps204 (by kernel_rfl) (by kernel_rfl) (lb rfl) (adv [([], 1, 5, .eq (pB false))]) (ex := .ret) (r := (pB false)) (by kernel_rfl) rfl (by kernel_rfl) (allC (cg q1) allN) (by kernel_rfl) allN
def stringsliteTrimSuffix (s : ByteArray) (suffix : ByteArray) : Option ByteArray :=
 (stringsliteHasSuffix s suffix).bind fun r_1 =>
 bif r_1 then (
 grd (0 ≤ (0 : Int) ∧ (0 : Int) ≤ (w64 ((s.size : Int) - (suffix.size : Int))) ∧ (w64 ((s.size : Int) - (suffix.size : Int))) ≤ (s.size : Int)) <|
 some (s.extract 0 ((w64 ((s.size : Int) - (suffix.size : Int)))).toNat)
 ) else (
 some s
 )
set_option maxRecDepth 100000 in
theorem stringsliteTrimSuffix_ok (k : Nat) (s : ByteArray) (suffix : ByteArray) (r : ByteArray) (h : stringsliteTrimSuffix s suffix = some r) : run0 (k + 2) 139 [(pS s), (pS suffix)] = some (pS r) := by
  unfold stringsliteTrimSuffix at h
  obtain ⟨r_1, q1, h⟩ := bnd_some h
  rcases bif_some h with ⟨q2, h⟩ | ⟨q2, h⟩
  · revert h; subst q2; intro h
    obtain ⟨q3, h⟩ := grd_some h
    obtain rfl := Option.some.inj h
    exact ret_go (k := (k + 1)) Tryz.func139 Tryz.ntmps139 (by kernel_rfl) (by kernel_rfl) (lb rfl) (adv [([], 1, 2, .ret (pB true)), ([], 2, 6, .sub false)]) (ex := .ret) (r := (pS (s.extract 0 ((w64 ((s.size : Int) - (suffix.size : Int)))).toNat))) (by kernel_rfl) rfl (by kernel_rfl) (allC (stringsliteHasSuffix_ok k s suffix _ q1) (allC q3 allN)) (by kernel_rfl) allN
  · revert h; subst q2; intro h
    obtain rfl := Option.some.inj h
    exact ret_go (k := (k + 1)) Tryz.func139 Tryz.ntmps139 (by kernel_rfl) (by kernel_rfl) (lb rfl) (adv [([], 1, 2, .ret (pB false))]) (ex := .ret) (r := (pS s)) (by kernel_rfl) rfl (by kernel_rfl) (allC (stringsliteHasSuffix_ok k s suffix _ q1) allN) (by kernel_rfl) allN
def stringsTrimSuffix (s : ByteArray) (suffix : ByteArray) : Option ByteArray :=
 (stringsliteTrimSuffix s suffix).bind fun r_1 =>
 some r_1
set_option maxRecDepth 100000 in
theorem stringsTrimSuffix_ok (k : Nat) (s : ByteArray) (suffix : ByteArray) (r : ByteArray) (h : stringsTrimSuffix s suffix = some r) : run0 (k + 3) 74 [(pS s), (pS suffix)] = some (pS r) := by
  unfold stringsTrimSuffix at h
  obtain ⟨r_1, q1, h⟩ := bnd_some h
  obtain rfl := Option.some.inj h
  exact ret_go (k := (k + 2)) Tryz.func74 Tryz.ntmps74 (by kernel_rfl) (by kernel_rfl) (lb rfl) (adv [([], 1, 2, .ret (pS r_1))]) (ex := .ret) (r := (pS r_1)) (by kernel_rfl) rfl (by kernel_rfl) (allC (stringsliteTrimSuffix_ok k s suffix _ q1) allN) (by kernel_rfl) allN
def routeJoin (a : ByteArray) (b : ByteArray) : Option ByteArray :=
 bif (seq a (bs [])) then (
 some b
 ) else (
 (stringsHasPrefix b (bs [47])).bind fun r_1 =>
 bif r_1 then (
 some b
 ) else (
 bif (seq b (bs [])) then (
 some a
 ) else (
 (stringsTrimSuffix a (bs [47])).bind fun r_2 =>
 grd (¬ (((r_2.size + (bs [47]).size : Nat) : Int) > IntKind.i64.max)) <|
 grd (¬ ((((r_2 ++ (bs [47])).size + b.size : Nat) : Int) > IntKind.i64.max)) <|
 some ((r_2 ++ (bs [47])) ++ b)
 )
 )
 )
set_option maxRecDepth 100000 in
theorem routeJoin_ok (k : Nat) (a : ByteArray) (b : ByteArray) (r : ByteArray) (h : routeJoin a b = some r) : run0 (k + 4) 39 [(pS a), (pS b)] = some (pS r) := by
  unfold routeJoin at h
  rcases bif_some h with ⟨q1, h⟩ | ⟨q1, h⟩
  · obtain rfl := Option.some.inj h
    exact ret_go (k := (k + 3)) Tryz.func39 Tryz.ntmps39 (by kernel_rfl) (by kernel_rfl) (lb rfl) (adv [([], 1, 2, .eq (pB true))]) (ex := .ret) (r := (pS b)) (by kernel_rfl) rfl (by kernel_rfl) (allC (cg q1) allN) (by kernel_rfl) allN
  · obtain ⟨r_1, q2, h⟩ := bnd_some h
    rcases bif_some h with ⟨q3, h⟩ | ⟨q3, h⟩
    · obtain rfl := Option.some.inj h
      exact ret_go (k := (k + 3)) Tryz.func39 Tryz.ntmps39 (by kernel_rfl) (by kernel_rfl) (lb rfl) (adv [([], 1, 2, .eq (pB false)), ([], 1, 4, .ret (pB r_1)), ([], 1, 6, .eq (pB true))]) (ex := .ret) (r := (pS b)) (by kernel_rfl) rfl (by kernel_rfl) (allC (cg q1) (allC (stringsHasPrefix_ok (k + 1) b (bs [47]) _ q2) (allC (cg q3) allN))) (by kernel_rfl) allN
    · rcases bif_some h with ⟨q4, h⟩ | ⟨q4, h⟩
      · obtain rfl := Option.some.inj h
        exact ret_go (k := (k + 3)) Tryz.func39 Tryz.ntmps39 (by kernel_rfl) (by kernel_rfl) (lb rfl) (adv [([], 1, 2, .eq (pB false)), ([], 1, 4, .ret (pB r_1)), ([], 1, 6, .eq (pB false)), ([], 3, 2, .eq (pB true))]) (ex := .ret) (r := (pS a)) (by kernel_rfl) rfl (by kernel_rfl) (allC (cg q1) (allC (stringsHasPrefix_ok (k + 1) b (bs [47]) _ q2) (allC (cg q3) (allC (cg q4) allN)))) (by kernel_rfl) allN
      · obtain ⟨r_2, q5, h⟩ := bnd_some h
        obtain ⟨q6, h⟩ := grd_some h
        obtain ⟨q7, h⟩ := grd_some h
        obtain rfl := Option.some.inj h
        exact ret_go (k := (k + 3)) Tryz.func39 Tryz.ntmps39 (by kernel_rfl) (by kernel_rfl) (lb rfl) (adv [([], 1, 2, .eq (pB false)), ([], 1, 4, .ret (pB r_1)), ([], 1, 6, .eq (pB false)), ([], 3, 2, .eq (pB false)), ([], 5, 1, .ret (pS r_2)), ([], 5, 2, .cat), ([], 5, 4, .cat)]) (ex := .ret) (r := (pS ((r_2 ++ (bs [47])) ++ b))) (by kernel_rfl) rfl (by kernel_rfl) (allC (cg q1) (allC (stringsHasPrefix_ok (k + 1) b (bs [47]) _ q2) (allC (cg q3) (allC (cg q4) (allC (stringsTrimSuffix_ok k a (bs [47]) _ q5) (allC q6 (allC q7 allN))))))) (by kernel_rfl) allN
def publishStem (path : ByteArray) : Option ByteArray :=
 (routeBase path).bind fun r_1 =>
 (stringsHasPrefix r_1 (bs [116, 109, 112])).bind fun r_2 =>
 bif r_2 then (
 (routeDir path).bind fun r_3 =>
 (routeJoin r_3 (bs [112, 109, 116, 88, 88, 88])).bind fun r_4 =>
 some r_4
 ) else (
 (routeDir path).bind fun r_3 =>
 (routeJoin r_3 (bs [116, 109, 112, 88, 88, 88])).bind fun r_4 =>
 some r_4
 )
set_option maxRecDepth 100000 in
theorem publishStem_ok (k : Nat) (path : ByteArray) (r : ByteArray) (h : publishStem path = some r) : run0 (k + 5) 11 [(pS path)] = some (pS r) := by
  unfold publishStem at h
  obtain ⟨r_1, q1, h⟩ := bnd_some h
  obtain ⟨r_2, q2, h⟩ := bnd_some h
  rcases bif_some h with ⟨q3, h⟩ | ⟨q3, h⟩
  · revert h; subst q3; intro h
    obtain ⟨r_3, q4, h⟩ := bnd_some h
    obtain ⟨r_4, q5, h⟩ := bnd_some h
    obtain rfl := Option.some.inj h
    exact ret_go (k := (k + 4)) Tryz.func11 Tryz.ntmps11 (by kernel_rfl) (by kernel_rfl) (lb rfl) (adv [([], 2, 1, .ret (pS r_1)), ([], 2, 2, .ret (pB true)), ([], 4, 1, .ret (pS r_3)), ([], 4, 3, .ret (pS r_4))]) (ex := .ret) (r := (pS r_4)) (by kernel_rfl) rfl (by kernel_rfl) (allC (routeBase_ok (k + 3) path _ q1) (allC (stringsHasPrefix_ok (k + 2) r_1 (bs [116, 109, 112]) _ q2) (allC (routeDir_ok k path _ q4) (allC (routeJoin_ok k r_3 (bs [112, 109, 116, 88, 88, 88]) _ q5) allN)))) (by kernel_rfl) allN
  · revert h; subst q3; intro h
    obtain ⟨r_3, q4, h⟩ := bnd_some h
    obtain ⟨r_4, q5, h⟩ := bnd_some h
    obtain rfl := Option.some.inj h
    exact ret_go (k := (k + 4)) Tryz.func11 Tryz.ntmps11 (by kernel_rfl) (by kernel_rfl) (lb rfl) (adv [([], 2, 1, .ret (pS r_1)), ([], 2, 2, .ret (pB false)), ([], 4, 1, .ret (pS r_3)), ([], 4, 3, .ret (pS r_4))]) (ex := .ret) (r := (pS r_4)) (by kernel_rfl) rfl (by kernel_rfl) (allC (routeBase_ok (k + 3) path _ q1) (allC (stringsHasPrefix_ok (k + 2) r_1 (bs [116, 109, 112]) _ q2) (allC (routeDir_ok k path _ q4) (allC (routeJoin_ok k r_3 (bs [116, 109, 112, 88, 88, 88]) _ q5) allN)))) (by kernel_rfl) allN
def publishNamed (j : JobD) : Option JobD :=
 (jobDraw j (3 : Int)).bind fun (r_1, r_2) =>
 (publishStem j.path).bind fun r_3 =>
 (makeX r_3 r_1).bind fun r_4 =>
 some (JobD.mk r_2.kind r_2.p r_2.phase r_2.fd r_2.nF r_2.modeF r_2.tries r_2.atF r_2.flags r_2.path r_4 r_2.text r_2.names r_2.stack r_2.draws r_2.done r_2.exit r_2.out r_2.e)
set_option maxRecDepth 100000 in
theorem publishNamed_ok (k : Nat) (j : JobD) (r : JobD) (h : publishNamed j = some r) : run0 (k + 6) 28 [(JobD.a j)] = some (JobD.a r) := by
  unfold publishNamed at h
  obtain ⟨⟨r_1, r_2⟩, q1, h⟩ := bnd_some h
  try dsimp only at h
  obtain ⟨r_3, q2, h⟩ := bnd_some h
  obtain ⟨r_4, q3, h⟩ := bnd_some h
  obtain rfl := Option.some.inj h
  exact ret_go (k := (k + 5)) Tryz.func28 Tryz.ntmps28 (by kernel_rfl) (by kernel_rfl) (lb rfl) (adv [([], 1, 1, .ret (.tup [(.list 1 false (r_1.map cI)), (JobD.a r_2)])), ([], 2, 2, .ret (pS r_3)), ([], 2, 4, .ret (pS r_4))]) (ex := .ret) (r := (.agg [(pI r_2.kind), (pI r_2.p), (pI r_2.phase), (pI r_2.fd), (pI r_2.nF), (pI r_2.modeF), (pI r_2.tries), (pI r_2.atF), (pI r_2.flags), (pS r_2.path), (pS r_4), (pS r_2.text), (.list 1 false (r_2.names.map cS)), (.list 3 false (r_2.stack.map FrameD.c)), (.list 1 false (r_2.draws.map cI)), (pB r_2.done), (pI r_2.exit), (pS r_2.out), (pI r_2.e)])) (by kernel_rfl) rfl (by kernel_rfl) (allC (jobDraw_ok (k + 4) j (3 : Int) _ q1) (allC (publishStem_ok k j.path _ q2) (allC (makeX_ok (k + 5) r_3 r_1 _ q3) allN))) (by kernel_rfl) allN
end Go.Proofs.YtaenhodkpidocaaGreatDoor.Den
namespace Go.Proofs.YtaenhodkpidocaaGreatDoor.Den
open Go Go.RowKit
noncomputable def ref15Natural_L2 : Code := cAt (codeOf Tryz.f130) [true, true, false, false]
def ref15Natural_R2 (x0 : Int) (x1 : ByteArray) : St := ⟨envL [(0, (.v (.int .u64 x0))), (3, (pS x1))], hsL [] []⟩
def ref15Natural_S2 : (Int × ByteArray) → St
 | (v0, v1) => ref15Natural_R2 v0 v1
def ref15Natural_b2 : (Int × ByteArray) → Option ((Int × ByteArray) ⊕ (Int × ByteArray))
 | (v0, v1) =>
 grd (0 ≤ (Int.tmod v0 (10 : Int)) ∧ (Int.tmod v0 (10 : Int)) ≤ (IntKind.wrap .u64 ((Int.tmod v0 (10 : Int)) + (1 : Int))) ∧ (IntKind.wrap .u64 ((Int.tmod v0 (10 : Int)) + (1 : Int))) ≤ ((bs [48, 49, 50, 51, 52, 53, 54, 55, 56, 57]).size : Int)) <|
 grd (¬ (((((bs [48, 49, 50, 51, 52, 53, 54, 55, 56, 57]).extract ((Int.tmod v0 (10 : Int))).toNat ((IntKind.wrap .u64 ((Int.tmod v0 (10 : Int)) + (1 : Int)))).toNat).size + v1.size : Nat) : Int) > IntKind.i64.max)) <|
 bif ((IntKind.wrap .u64 (Int.tdiv v0 (10 : Int))) == (0 : Int)) then (
 some (.inr (v0, v1))
 ) else (
 some (.inl ((IntKind.wrap .u64 (Int.tdiv v0 (10 : Int))), (((bs [48, 49, 50, 51, 52, 53, 54, 55, 56, 57]).extract ((Int.tmod v0 (10 : Int))).toNat ((IntKind.wrap .u64 ((Int.tmod v0 (10 : Int)) + (1 : Int)))).toNat) ++ v1)))
 )
set_option maxRecDepth 100000 in
theorem ref15Natural_t2 (k : Nat) (a a1 : (Int × ByteArray)) (h : ref15Natural_b2 a = some (.inl a1)) : ∃ σ, run1 k 130 0 17 ref15Natural_L2 (ref15Natural_S2 a) = some (.normal, σ) ∧ canonS 0 [0, 3] σ = some (ref15Natural_S2 a1) := by
  obtain ⟨v0, v1⟩ := a
  unfold ref15Natural_b2 at h
  try dsimp only at h
  obtain ⟨q1, h⟩ := grd_some h
  obtain ⟨q2, h⟩ := grd_some h
  rcases bif_some h with ⟨q3, h⟩ | ⟨q3, h⟩
  · cases h
  · obtain rfl := Sum.inl.inj (Option.some.inj h)
    exact ⟨_, run_go (k := k) (f := 130) (r0 := 0) (nt := 17) (c := ref15Natural_L2) (σ := (ref15Natural_S2 (v0, v1))) (adv [([], 2, 5, .sub false), ([], 2, 7, .cat), ([], 4, 1, .eq (pB false))]) (ex := .normal) (by kernel_rfl) (by kernel_rfl) (allC q1 (allC q2 (allC (cg q3) allN))), (by kernel_rfl)⟩
def ref15Natural (n : Int) : Option ByteArray :=
 (iterN (ref15Natural_b2) LF (n, (bs []))).bind fun (v_1, v_2) =>
 some (((bs [48, 49, 50, 51, 52, 53, 54, 55, 56, 57]).extract ((Int.tmod v_1 (10 : Int))).toNat ((IntKind.wrap .u64 ((Int.tmod v_1 (10 : Int)) + (1 : Int)))).toNat) ++ v_2)
set_option maxRecDepth 100000 in
theorem ref15Natural_ok (k : Nat) (n : Int) (r : ByteArray) (h : ref15Natural n = some r) : run0 (k + 1) 130 [(.v (.int .u64 n))] = some (pS r) := by
  unfold ref15Natural at h
  obtain ⟨X_1, q1, h⟩ := bnd_some h
  obtain ⟨a_1, q2, q3⟩ := loop_iter (f := run1 k 130 0 17 ref15Natural_L2) (ref15Natural_S2) (ref15Natural_b2) (ref15Natural_t2 k) LF (n, (bs [])) _ (stOf (goStop k 130 0 17 (adv []) 2 (codeOf Tryz.f130) (argS 130 [(.v (.int .u64 n))]))) q1 (by kernel_rfl)
  obtain ⟨v_1, v_2⟩ := a_1
  unfold ref15Natural_b2 at q2
  try dsimp only at q2
  obtain ⟨q6, q2⟩ := grd_some q2
  obtain ⟨q7, q2⟩ := grd_some q2
  rcases bif_some q2 with ⟨q8, q2⟩ | ⟨q8, q2⟩
  · cases q2
    try dsimp only at h
    have q4 := run_go (k := k) (f := 130) (r0 := 0) (nt := 17) (c := ref15Natural_L2) (σ := (ref15Natural_S2 (v_1, v_2))) (adv [([], 2, 5, .sub false), ([], 2, 7, .cat), ([], 4, 1, .eq (pB true))]) (ex := .ret) (by kernel_rfl) (by kernel_rfl) (allC q6 (allC q7 (allC (cg q8) allN)))
    have q5 := q3 _ _ (by intro e; cases e) q4
    obtain rfl := Option.some.inj h
    exact ret_go (k := k) Tryz.func130 Tryz.ntmps130 (by kernel_rfl) (by kernel_rfl) (lb rfl) (adv [] [([], 2, .ret, (stOf (go k 130 0 17 (adv [([], 2, 5, .sub false), ([], 2, 7, .cat), ([], 4, 1, .eq (pB true))]) ref15Natural_L2 (ref15Natural_S2 (v_1, v_2)))))]) (ex := .ret) (r := (pS (((bs [48, 49, 50, 51, 52, 53, 54, 55, 56, 57]).extract ((Int.tmod v_1 (10 : Int))).toNat ((IntKind.wrap .u64 ((Int.tmod v_1 (10 : Int)) + (1 : Int)))).toNat) ++ v_2))) (by kernel_rfl) rfl (by kernel_rfl) (allC q5 allN) (by kernel_rfl) allN
  · cases q2
def ref15Digits (n : Int) : Option ByteArray :=
 bif (decide (n < (0 : Int))) then (
 (ref15Natural (IntKind.wrap .u64 ((IntKind.wrap .u64 (IntKind.wrap .i64 (0 - (w64 (n + (1 : Int)))))) + (1 : Int)))).bind fun r_1 =>
 grd (¬ ((((bs [45]).size + r_1.size : Nat) : Int) > IntKind.i64.max)) <|
 some ((bs [45]) ++ r_1)
 ) else (
 (ref15Natural (IntKind.wrap .u64 n)).bind fun r_1 =>
 some r_1
 )
set_option maxRecDepth 100000 in
theorem ref15Digits_ok (k : Nat) (n : Int) (r : ByteArray) (h : ref15Digits n = some r) : run0 (k + 2) 67 [(pI n)] = some (pS r) := by
  unfold ref15Digits at h
  rcases bif_some h with ⟨q1, h⟩ | ⟨q1, h⟩
  · obtain ⟨r_1, q2, h⟩ := bnd_some h
    obtain ⟨q3, h⟩ := grd_some h
    obtain rfl := Option.some.inj h
    exact ret_go (k := (k + 1)) Tryz.func67 Tryz.ntmps67 (by kernel_rfl) (by kernel_rfl) (lb rfl) (adv [([], 1, 1, .eq (pB true)), ([], 2, 5, .ret (pS r_1)), ([], 2, 6, .cat)]) (ex := .ret) (r := (pS ((bs [45]) ++ r_1))) (by kernel_rfl) rfl (by kernel_rfl) (allC (cg q1) (allC (ref15Natural_ok k (IntKind.wrap .u64 ((IntKind.wrap .u64 (IntKind.wrap .i64 (0 - (w64 (n + (1 : Int)))))) + (1 : Int))) _ q2) (allC q3 allN))) (by kernel_rfl) allN
  · obtain ⟨r_1, q2, h⟩ := bnd_some h
    obtain rfl := Option.some.inj h
    exact ret_go (k := (k + 1)) Tryz.func67 Tryz.ntmps67 (by kernel_rfl) (by kernel_rfl) (lb rfl) (adv [([], 1, 1, .eq (pB false)), ([], 3, 2, .ret (pS r_1))]) (ex := .ret) (r := (pS r_1)) (by kernel_rfl) rfl (by kernel_rfl) (allC (cg q1) (allC (ref15Natural_ok k (IntKind.wrap .u64 n) _ q2) allN)) (by kernel_rfl) allN
def ref15Fail (j : JobD) (path : ByteArray) (e : Int) : Option JobD :=
 grd (¬ (((path.size + (bs [58, 32, 101, 114, 114, 111, 114, 32]).size : Nat) : Int) > IntKind.i64.max)) <|
 (ref15Digits e).bind fun r_1 =>
 grd (¬ ((((path ++ (bs [58, 32, 101, 114, 114, 111, 114, 32])).size + r_1.size : Nat) : Int) > IntKind.i64.max)) <|
 some (JobD.mk j.kind j.p j.phase j.fd j.nF j.modeF j.tries j.atF j.flags j.path j.path2 j.text j.names j.stack j.draws true (1 : Int) ((path ++ (bs [58, 32, 101, 114, 114, 111, 114, 32])) ++ r_1) e)
set_option maxRecDepth 100000 in
theorem ref15Fail_ok (k : Nat) (j : JobD) (path : ByteArray) (e : Int) (r : JobD) (h : ref15Fail j path e = some r) : run0 (k + 3) 34 [(JobD.a j), (pS path), (pI e)] = some (JobD.a r) := by
  unfold ref15Fail at h
  obtain ⟨q1, h⟩ := grd_some h
  obtain ⟨r_1, q2, h⟩ := bnd_some h
  obtain ⟨q3, h⟩ := grd_some h
  obtain rfl := Option.some.inj h
  exact ret_go (k := (k + 2)) Tryz.func34 Tryz.ntmps34 (by kernel_rfl) (by kernel_rfl) (lb rfl) (adv [([], 4, 1, .cat), ([], 4, 3, .ret (pS r_1)), ([], 4, 4, .cat)]) (ex := .ret) (r := (.agg [(pI j.kind), (pI j.p), (pI j.phase), (pI j.fd), (pI j.nF), (pI j.modeF), (pI j.tries), (pI j.atF), (pI j.flags), (pS j.path), (pS j.path2), (pS j.text), (.list 1 false (j.names.map cS)), (.list 3 false (j.stack.map FrameD.c)), (.list 1 false (j.draws.map cI)), (pB true), (pI (1 : Int)), (pS ((path ++ (bs [58, 32, 101, 114, 114, 111, 114, 32])) ++ r_1)), (pI e)])) (by kernel_rfl) rfl (by kernel_rfl) (allC q1 (allC (ref15Digits_ok k e _ q2) (allC q3 allN))) (by kernel_rfl) allN
noncomputable def ref01Split_L4 : Code := cAt (codeOf Tryz.f68) [true, true, true, false, true, false, false]
def ref01Split_R4 (x0 : ByteArray) (x1 : Nat) (x2 : ByteArray) (x3 : Int) (x4 : List (List PV)) : St := ⟨envL [(0, (pS x0)), (5, (.row [0, TAG] 1 0 x1)), (6, (pS x2)), (7, (pI x3))], hsL [some ⟨1, 9, x4, true, true⟩] [0]⟩
theorem ref01Split_R4_eq {x0 y0 : ByteArray} {x1 y1 : Nat} {x2 y2 : ByteArray} {x3 y3 : Int} {x4 y4 : List (List PV)} (h0 : x0 = y0) (h1 : x1 = y1) (h2 : x2 = y2) (h3 : x3 = y3) (h4 : x4 = y4) : ref01Split_R4 x0 x1 x2 x3 x4 = ref01Split_R4 y0 y1 y2 y3 y4 := by
  subst h0 h1 h2 h3 h4; rfl
def ref01Split_S4 (p0 : ByteArray) : (ByteArray × Int × (List ByteArray)) → St
 | (v0, v1, v2) => ref01Split_R4 p0 v2.length v0 v1 (v2.map cS)
def ref01Split_b4 (p0 : ByteArray) : (ByteArray × Int × (List ByteArray)) → Option ((ByteArray × Int × (List ByteArray)) ⊕ (ByteArray × Int × (List ByteArray)))
 | (v0, v1, v2) =>
 bif (decide (v1 < (p0.size : Int))) then (
 (gtS p0 v1).bind fun b_1 =>
 bif ((b_1.toNat : Int) != (47 : Int)) then (
 grd (0 ≤ v1 ∧ v1 ≤ (w64 (v1 + (1 : Int))) ∧ (w64 (v1 + (1 : Int))) ≤ (p0.size : Int)) <|
 grd (¬ (((v0.size + (p0.extract (v1).toNat ((w64 (v1 + (1 : Int)))).toNat).size : Nat) : Int) > IntKind.i64.max)) <|
 bif (!(seq (v0 ++ (p0.extract (v1).toNat ((w64 (v1 + (1 : Int)))).toNat)) (bs []))) then (
 (gtS p0 v1).bind fun b_2 =>
 bif ((b_2.toNat : Int) == (47 : Int)) then (
 grd (room (v2.length + 1) 16) <|
 some (.inl ((bs []), (w64 (v1 + (1 : Int))), (v2 ++ [(v0 ++ (p0.extract (v1).toNat ((w64 (v1 + (1 : Int)))).toNat))])))
 ) else (
 bif (v1 == (w64 ((p0.size : Int) - (1 : Int)))) then (
 grd (room (v2.length + 1) 16) <|
 some (.inl ((bs []), (w64 (v1 + (1 : Int))), (v2 ++ [(v0 ++ (p0.extract (v1).toNat ((w64 (v1 + (1 : Int)))).toNat))])))
 ) else (
 some (.inl ((v0 ++ (p0.extract (v1).toNat ((w64 (v1 + (1 : Int)))).toNat)), (w64 (v1 + (1 : Int))), v2))
 )
 )
 ) else (
 some (.inl ((v0 ++ (p0.extract (v1).toNat ((w64 (v1 + (1 : Int)))).toNat)), (w64 (v1 + (1 : Int))), v2))
 )
 ) else (
 bif (!(seq v0 (bs []))) then (
 (gtS p0 v1).bind fun b_2 =>
 bif ((b_2.toNat : Int) == (47 : Int)) then (
 grd (room (v2.length + 1) 16) <|
 some (.inl ((bs []), (w64 (v1 + (1 : Int))), (v2 ++ [v0])))
 ) else (
 bif (v1 == (w64 ((p0.size : Int) - (1 : Int)))) then (
 grd (room (v2.length + 1) 16) <|
 some (.inl ((bs []), (w64 (v1 + (1 : Int))), (v2 ++ [v0])))
 ) else (
 some (.inl (v0, (w64 (v1 + (1 : Int))), v2))
 )
 )
 ) else (
 some (.inl (v0, (w64 (v1 + (1 : Int))), v2))
 )
 )
 ) else (
 some (.inr (v0, v1, v2))
 )
set_option maxRecDepth 100000 in
theorem ref01Split_t4 (k : Nat) (p0 : ByteArray) (a a1 : (ByteArray × Int × (List ByteArray))) (h : ref01Split_b4 p0 a = some (.inl a1)) : ∃ σ, run1 k 68 0 63 ref01Split_L4 (ref01Split_S4 p0 a) = some (.normal, σ) ∧ canonS 0 [0, 5, 6, 7] σ = some (ref01Split_S4 p0 a1) := by
  obtain ⟨v0, v1, v2⟩ := a
  unfold ref01Split_b4 at h
  try dsimp only at h
  rcases bif_some h with ⟨q1, h⟩ | ⟨q1, h⟩
  · obtain ⟨b_1, q2, h⟩ := bnd_some h
    rcases bif_some h with ⟨q3, h⟩ | ⟨q3, h⟩
    · obtain ⟨q4, h⟩ := grd_some h
      obtain ⟨q5, h⟩ := grd_some h
      rcases bif_some h with ⟨q6, h⟩ | ⟨q6, h⟩
      · obtain ⟨b_2, q7, h⟩ := bnd_some h
        rcases bif_some h with ⟨q8, h⟩ | ⟨q8, h⟩
        · obtain ⟨q9, h⟩ := grd_some h
          obtain rfl := Sum.inl.inj (Option.some.inj h)
          exact ⟨_, run_go (k := k) (f := 68) (r0 := 0) (nt := 63) (c := ref01Split_L4) (σ := (ref01Split_S4 p0 (v0, v1, v2))) (adv [([], 4, 3, .eq (pB true)), ([], 6, 2, .chr b_1), ([], 6, 3, .eq (pB true)), ([], 7, 5, .sub false), ([], 7, 6, .cat), ([], 8, 2, .eq (pB true)), ([], 8, 5, .chr b_2), ([], 8, 7, .eq (pB true)), ([], 9, 3, .ok)]) (ex := .normal) (by kernel_rfl) (by kernel_rfl) (allC (cg q1) (allC q2 (allC (cg q3) (allC q4 (allC q5 (allC (cg q6) (allC q7 (allC (cg q8) (allC (app_ok (rfl : (v2.map cS) = v2.map cS) (rfl : v2.length = v2.length) q9) allN))))))))), (Eq.trans (b := some (ref01Split_R4 p0 (v2.length + 1) (bs []) (w64 (v1 + (1 : Int))) ((v2.map cS) ++ [[(pS (v0 ++ (p0.extract (v1).toNat ((w64 (v1 + (1 : Int)))).toNat)))]]))) (by kernel_rfl) (congrArg some ((ref01Split_R4_eq (rfl : p0 = p0) ((len_cat (rfl : v2.length = v2.length) v2 (rfl : 1 = [(v0 ++ (p0.extract (v1).toNat ((w64 (v1 + (1 : Int)))).toNat))].length)) : (v2.length + 1) = ((v2 ++ [(v0 ++ (p0.extract (v1).toNat ((w64 (v1 + (1 : Int)))).toNat))]).length)) (rfl : (bs []) = (bs [])) (rfl : (w64 (v1 + (1 : Int))) = (w64 (v1 + (1 : Int)))) ((enc_cat (rfl : (v2.map cS) = v2.map cS) (show [[(pS (v0 ++ (p0.extract (v1).toNat ((w64 (v1 + (1 : Int)))).toNat)))]] = [(v0 ++ (p0.extract (v1).toNat ((w64 (v1 + (1 : Int)))).toNat))].map cS from rfl)) : ((v2.map cS) ++ [[(pS (v0 ++ (p0.extract (v1).toNat ((w64 (v1 + (1 : Int)))).toNat)))]]) = ((v2 ++ [(v0 ++ (p0.extract (v1).toNat ((w64 (v1 + (1 : Int)))).toNat))]).map cS))).trans (by kernel_rfl : ref01Split_R4 p0 ((v2 ++ [(v0 ++ (p0.extract (v1).toNat ((w64 (v1 + (1 : Int)))).toNat))]).length) (bs []) (w64 (v1 + (1 : Int))) ((v2 ++ [(v0 ++ (p0.extract (v1).toNat ((w64 (v1 + (1 : Int)))).toNat))]).map cS) = ref01Split_S4 p0 ((bs []), (w64 (v1 + (1 : Int))), (v2 ++ [(v0 ++ (p0.extract (v1).toNat ((w64 (v1 + (1 : Int)))).toNat))]))))))⟩
        · rcases bif_some h with ⟨q9, h⟩ | ⟨q9, h⟩
          · obtain ⟨q10, h⟩ := grd_some h
            obtain rfl := Sum.inl.inj (Option.some.inj h)
            exact ⟨_, run_go (k := k) (f := 68) (r0 := 0) (nt := 63) (c := ref01Split_L4) (σ := (ref01Split_S4 p0 (v0, v1, v2))) (adv [([], 4, 3, .eq (pB true)), ([], 6, 2, .chr b_1), ([], 6, 3, .eq (pB true)), ([], 7, 5, .sub false), ([], 7, 6, .cat), ([], 8, 2, .eq (pB true)), ([], 8, 5, .chr b_2), ([], 8, 7, .eq (pB false)), ([], 8, 14, .eq (pB true)), ([], 9, 3, .ok)]) (ex := .normal) (by kernel_rfl) (by kernel_rfl) (allC (cg q1) (allC q2 (allC (cg q3) (allC q4 (allC q5 (allC (cg q6) (allC q7 (allC (cg q8) (allC (cg q9) (allC (app_ok (rfl : (v2.map cS) = v2.map cS) (rfl : v2.length = v2.length) q10) allN)))))))))), (Eq.trans (b := some (ref01Split_R4 p0 (v2.length + 1) (bs []) (w64 (v1 + (1 : Int))) ((v2.map cS) ++ [[(pS (v0 ++ (p0.extract (v1).toNat ((w64 (v1 + (1 : Int)))).toNat)))]]))) (by kernel_rfl) (congrArg some ((ref01Split_R4_eq (rfl : p0 = p0) ((len_cat (rfl : v2.length = v2.length) v2 (rfl : 1 = [(v0 ++ (p0.extract (v1).toNat ((w64 (v1 + (1 : Int)))).toNat))].length)) : (v2.length + 1) = ((v2 ++ [(v0 ++ (p0.extract (v1).toNat ((w64 (v1 + (1 : Int)))).toNat))]).length)) (rfl : (bs []) = (bs [])) (rfl : (w64 (v1 + (1 : Int))) = (w64 (v1 + (1 : Int)))) ((enc_cat (rfl : (v2.map cS) = v2.map cS) (show [[(pS (v0 ++ (p0.extract (v1).toNat ((w64 (v1 + (1 : Int)))).toNat)))]] = [(v0 ++ (p0.extract (v1).toNat ((w64 (v1 + (1 : Int)))).toNat))].map cS from rfl)) : ((v2.map cS) ++ [[(pS (v0 ++ (p0.extract (v1).toNat ((w64 (v1 + (1 : Int)))).toNat)))]]) = ((v2 ++ [(v0 ++ (p0.extract (v1).toNat ((w64 (v1 + (1 : Int)))).toNat))]).map cS))).trans (by kernel_rfl : ref01Split_R4 p0 ((v2 ++ [(v0 ++ (p0.extract (v1).toNat ((w64 (v1 + (1 : Int)))).toNat))]).length) (bs []) (w64 (v1 + (1 : Int))) ((v2 ++ [(v0 ++ (p0.extract (v1).toNat ((w64 (v1 + (1 : Int)))).toNat))]).map cS) = ref01Split_S4 p0 ((bs []), (w64 (v1 + (1 : Int))), (v2 ++ [(v0 ++ (p0.extract (v1).toNat ((w64 (v1 + (1 : Int)))).toNat))]))))))⟩
          · obtain rfl := Sum.inl.inj (Option.some.inj h)
            exact ⟨_, run_go (k := k) (f := 68) (r0 := 0) (nt := 63) (c := ref01Split_L4) (σ := (ref01Split_S4 p0 (v0, v1, v2))) (adv [([], 4, 3, .eq (pB true)), ([], 6, 2, .chr b_1), ([], 6, 3, .eq (pB true)), ([], 7, 5, .sub false), ([], 7, 6, .cat), ([], 8, 2, .eq (pB true)), ([], 8, 5, .chr b_2), ([], 8, 7, .eq (pB false)), ([], 8, 14, .eq (pB false))]) (ex := .normal) (by kernel_rfl) (by kernel_rfl) (allC (cg q1) (allC q2 (allC (cg q3) (allC q4 (allC q5 (allC (cg q6) (allC q7 (allC (cg q8) (allC (cg q9) allN))))))))), (by kernel_rfl)⟩
      · obtain rfl := Sum.inl.inj (Option.some.inj h)
        exact ⟨_, run_go (k := k) (f := 68) (r0 := 0) (nt := 63) (c := ref01Split_L4) (σ := (ref01Split_S4 p0 (v0, v1, v2))) (adv [([], 4, 3, .eq (pB true)), ([], 6, 2, .chr b_1), ([], 6, 3, .eq (pB true)), ([], 7, 5, .sub false), ([], 7, 6, .cat), ([], 8, 2, .eq (pB false))]) (ex := .normal) (by kernel_rfl) (by kernel_rfl) (allC (cg q1) (allC q2 (allC (cg q3) (allC q4 (allC q5 (allC (cg q6) allN)))))), (by kernel_rfl)⟩
    · rcases bif_some h with ⟨q4, h⟩ | ⟨q4, h⟩
      · obtain ⟨b_2, q5, h⟩ := bnd_some h
        rcases bif_some h with ⟨q6, h⟩ | ⟨q6, h⟩
        · obtain ⟨q7, h⟩ := grd_some h
          obtain rfl := Sum.inl.inj (Option.some.inj h)
          exact ⟨_, run_go (k := k) (f := 68) (r0 := 0) (nt := 63) (c := ref01Split_L4) (σ := (ref01Split_S4 p0 (v0, v1, v2))) (adv [([], 4, 3, .eq (pB true)), ([], 6, 2, .chr b_1), ([], 6, 3, .eq (pB false)), ([], 8, 2, .eq (pB true)), ([], 8, 5, .chr b_2), ([], 8, 7, .eq (pB true)), ([], 9, 3, .ok)]) (ex := .normal) (by kernel_rfl) (by kernel_rfl) (allC (cg q1) (allC q2 (allC (cg q3) (allC (cg q4) (allC q5 (allC (cg q6) (allC (app_ok (rfl : (v2.map cS) = v2.map cS) (rfl : v2.length = v2.length) q7) allN))))))), (Eq.trans (b := some (ref01Split_R4 p0 (v2.length + 1) (bs []) (w64 (v1 + (1 : Int))) ((v2.map cS) ++ [[(pS v0)]]))) (by kernel_rfl) (congrArg some ((ref01Split_R4_eq (rfl : p0 = p0) ((len_cat (rfl : v2.length = v2.length) v2 (rfl : 1 = [v0].length)) : (v2.length + 1) = ((v2 ++ [v0]).length)) (rfl : (bs []) = (bs [])) (rfl : (w64 (v1 + (1 : Int))) = (w64 (v1 + (1 : Int)))) ((enc_cat (rfl : (v2.map cS) = v2.map cS) (show [[(pS v0)]] = [v0].map cS from rfl)) : ((v2.map cS) ++ [[(pS v0)]]) = ((v2 ++ [v0]).map cS))).trans (by kernel_rfl : ref01Split_R4 p0 ((v2 ++ [v0]).length) (bs []) (w64 (v1 + (1 : Int))) ((v2 ++ [v0]).map cS) = ref01Split_S4 p0 ((bs []), (w64 (v1 + (1 : Int))), (v2 ++ [v0]))))))⟩
        · rcases bif_some h with ⟨q7, h⟩ | ⟨q7, h⟩
          · obtain ⟨q8, h⟩ := grd_some h
            obtain rfl := Sum.inl.inj (Option.some.inj h)
            exact ⟨_, run_go (k := k) (f := 68) (r0 := 0) (nt := 63) (c := ref01Split_L4) (σ := (ref01Split_S4 p0 (v0, v1, v2))) (adv [([], 4, 3, .eq (pB true)), ([], 6, 2, .chr b_1), ([], 6, 3, .eq (pB false)), ([], 8, 2, .eq (pB true)), ([], 8, 5, .chr b_2), ([], 8, 7, .eq (pB false)), ([], 8, 14, .eq (pB true)), ([], 9, 3, .ok)]) (ex := .normal) (by kernel_rfl) (by kernel_rfl) (allC (cg q1) (allC q2 (allC (cg q3) (allC (cg q4) (allC q5 (allC (cg q6) (allC (cg q7) (allC (app_ok (rfl : (v2.map cS) = v2.map cS) (rfl : v2.length = v2.length) q8) allN)))))))), (Eq.trans (b := some (ref01Split_R4 p0 (v2.length + 1) (bs []) (w64 (v1 + (1 : Int))) ((v2.map cS) ++ [[(pS v0)]]))) (by kernel_rfl) (congrArg some ((ref01Split_R4_eq (rfl : p0 = p0) ((len_cat (rfl : v2.length = v2.length) v2 (rfl : 1 = [v0].length)) : (v2.length + 1) = ((v2 ++ [v0]).length)) (rfl : (bs []) = (bs [])) (rfl : (w64 (v1 + (1 : Int))) = (w64 (v1 + (1 : Int)))) ((enc_cat (rfl : (v2.map cS) = v2.map cS) (show [[(pS v0)]] = [v0].map cS from rfl)) : ((v2.map cS) ++ [[(pS v0)]]) = ((v2 ++ [v0]).map cS))).trans (by kernel_rfl : ref01Split_R4 p0 ((v2 ++ [v0]).length) (bs []) (w64 (v1 + (1 : Int))) ((v2 ++ [v0]).map cS) = ref01Split_S4 p0 ((bs []), (w64 (v1 + (1 : Int))), (v2 ++ [v0]))))))⟩
          · obtain rfl := Sum.inl.inj (Option.some.inj h)
            exact ⟨_, run_go (k := k) (f := 68) (r0 := 0) (nt := 63) (c := ref01Split_L4) (σ := (ref01Split_S4 p0 (v0, v1, v2))) (adv [([], 4, 3, .eq (pB true)), ([], 6, 2, .chr b_1), ([], 6, 3, .eq (pB false)), ([], 8, 2, .eq (pB true)), ([], 8, 5, .chr b_2), ([], 8, 7, .eq (pB false)), ([], 8, 14, .eq (pB false))]) (ex := .normal) (by kernel_rfl) (by kernel_rfl) (allC (cg q1) (allC q2 (allC (cg q3) (allC (cg q4) (allC q5 (allC (cg q6) (allC (cg q7) allN))))))), (by kernel_rfl)⟩
      · obtain rfl := Sum.inl.inj (Option.some.inj h)
        exact ⟨_, run_go (k := k) (f := 68) (r0 := 0) (nt := 63) (c := ref01Split_L4) (σ := (ref01Split_S4 p0 (v0, v1, v2))) (adv [([], 4, 3, .eq (pB true)), ([], 6, 2, .chr b_1), ([], 6, 3, .eq (pB false)), ([], 8, 2, .eq (pB false))]) (ex := .normal) (by kernel_rfl) (by kernel_rfl) (allC (cg q1) (allC q2 (allC (cg q3) (allC (cg q4) allN)))), (by kernel_rfl)⟩
  · cases h
def ref01Split (p : ByteArray) : Option ((List ByteArray) × Bool × Bool) :=
 (iterN (ref01Split_b4 p) LF ((bs []), (0 : Int), ([] : (List ByteArray)))).bind fun (v_1, v_2, v_3) =>
 bif (!(seq p (bs []))) then (
 (gtS p (0 : Int)).bind fun b_3 =>
 bif (!(seq p (bs []))) then (
 (gtS p (w64 ((p.size : Int) - (1 : Int)))).bind fun b_4 =>
 some (v_3, ((b_3.toNat : Int) == (47 : Int)), ((b_4.toNat : Int) == (47 : Int)))
 ) else (
 some (v_3, ((b_3.toNat : Int) == (47 : Int)), false)
 )
 ) else (
 bif (!(seq p (bs []))) then (
 (gtS p (w64 ((p.size : Int) - (1 : Int)))).bind fun b_3 =>
 some (v_3, false, ((b_3.toNat : Int) == (47 : Int)))
 ) else (
 some (v_3, false, false)
 )
 )
set_option maxRecDepth 100000 in
theorem ref01Split_ok (k : Nat) (p : ByteArray) (r : ((List ByteArray) × Bool × Bool)) (h : ref01Split p = some r) : run0 (k + 1) 68 [(pS p)] = some (.tup [(.list 1 false (r.1.map cS)), (pB r.2.1), (pB r.2.2)]) := by
  unfold ref01Split at h
  obtain ⟨X_1, q1, h⟩ := bnd_some h
  obtain ⟨a_1, q2, q3⟩ := loop_iter (f := run1 k 68 0 63 ref01Split_L4) (ref01Split_S4 p) (ref01Split_b4 p) (ref01Split_t4 k p) LF ((bs []), (0 : Int), ([] : (List ByteArray))) _ (stOf (goStop k 68 0 63 (adv []) 4 (codeOf Tryz.f68) (argS 68 [(pS p)]))) q1 (Eq.trans (b := some (ref01Split_R4 p 0 (bs []) (0 : Int) [])) (by kernel_rfl) (congrArg some ((ref01Split_R4_eq (rfl : p = p) (rfl : 0 = (([] : (List ByteArray)).length)) (rfl : (bs []) = (bs [])) (rfl : (0 : Int) = (0 : Int)) (rfl : [] = (([] : (List ByteArray)).map cS))).trans (by kernel_rfl : ref01Split_R4 p (([] : (List ByteArray)).length) (bs []) (0 : Int) (([] : (List ByteArray)).map cS) = ref01Split_S4 p ((bs []), (0 : Int), ([] : (List ByteArray)))))))
  obtain ⟨v_1, v_2, v_3⟩ := a_1
  unfold ref01Split_b4 at q2
  try dsimp only at q2
  rcases bif_some q2 with ⟨q6, q2⟩ | ⟨q6, q2⟩
  · obtain ⟨b_1, q7, q2⟩ := bnd_some q2
    rcases bif_some q2 with ⟨q8, q2⟩ | ⟨q8, q2⟩
    · obtain ⟨q9, q2⟩ := grd_some q2
      obtain ⟨q10, q2⟩ := grd_some q2
      rcases bif_some q2 with ⟨q11, q2⟩ | ⟨q11, q2⟩
      · obtain ⟨b_2, q12, q2⟩ := bnd_some q2
        rcases bif_some q2 with ⟨q13, q2⟩ | ⟨q13, q2⟩
        · obtain ⟨q14, q2⟩ := grd_some q2
          cases q2
        · rcases bif_some q2 with ⟨q14, q2⟩ | ⟨q14, q2⟩
          · obtain ⟨q15, q2⟩ := grd_some q2
            cases q2
          · cases q2
      · cases q2
    · rcases bif_some q2 with ⟨q9, q2⟩ | ⟨q9, q2⟩
      · obtain ⟨b_2, q10, q2⟩ := bnd_some q2
        rcases bif_some q2 with ⟨q11, q2⟩ | ⟨q11, q2⟩
        · obtain ⟨q12, q2⟩ := grd_some q2
          cases q2
        · rcases bif_some q2 with ⟨q12, q2⟩ | ⟨q12, q2⟩
          · obtain ⟨q13, q2⟩ := grd_some q2
            cases q2
          · cases q2
      · cases q2
  · cases q2
    try dsimp only at h
    have q4 := run_go (k := k) (f := 68) (r0 := 0) (nt := 63) (c := ref01Split_L4) (σ := (ref01Split_S4 p (v_1, v_2, v_3))) (adv [([], 4, 3, .eq (pB false))]) (ex := (.exit 0)) (by kernel_rfl) (by kernel_rfl) (allC (cg q6) allN)
    have q5 := q3 _ _ (by intro e; cases e) q4
    rcases bif_some h with ⟨q16, h⟩ | ⟨q16, h⟩
    · obtain ⟨b_3, q17, h⟩ := bnd_some h
      rcases bif_some h with ⟨q18, h⟩ | ⟨q18, h⟩
      · obtain ⟨b_4, q19, h⟩ := bnd_some h
        obtain rfl := Option.some.inj h
        exact ret_go (k := k) Tryz.func68 Tryz.ntmps68 (by kernel_rfl) (by kernel_rfl) (lb rfl) (adv [([], 11, 3, .eq (pB true)), ([], 11, 5, .chr b_3), ([], 11, 10, .eq (pB true)), ([], 11, 15, .chr b_4)] [([], 4, (.exit 0), (stOf (go k 68 0 63 (adv [([], 4, 3, .eq (pB false))]) ref01Split_L4 (ref01Split_S4 p (v_1, v_2, v_3)))))]) (ex := .ret) (r := (.tup [(.list 1 false (v_3.map cS)), (pB ((b_3.toNat : Int) == (47 : Int))), (pB ((b_4.toNat : Int) == (47 : Int)))])) (by kernel_rfl) rfl (by kernel_rfl) (allC q5 (allC (cg q16) (allC q17 (allC (cg q18) (allC q19 allN))))) (by kernel_rfl) (allC (row_ok (rfl : (v_3.map cS) = v_3.map cS) (rfl : v_3.length = v_3.length)) allN)
      · obtain rfl := Option.some.inj h
        exact ret_go (k := k) Tryz.func68 Tryz.ntmps68 (by kernel_rfl) (by kernel_rfl) (lb rfl) (adv [([], 11, 3, .eq (pB true)), ([], 11, 5, .chr b_3), ([], 11, 10, .eq (pB false))] [([], 4, (.exit 0), (stOf (go k 68 0 63 (adv [([], 4, 3, .eq (pB false))]) ref01Split_L4 (ref01Split_S4 p (v_1, v_2, v_3)))))]) (ex := .ret) (r := (.tup [(.list 1 false (v_3.map cS)), (pB ((b_3.toNat : Int) == (47 : Int))), (pB false)])) (by kernel_rfl) rfl (by kernel_rfl) (allC q5 (allC (cg q16) (allC q17 (allC (cg q18) allN)))) (by kernel_rfl) (allC (row_ok (rfl : (v_3.map cS) = v_3.map cS) (rfl : v_3.length = v_3.length)) allN)
    · rcases bif_some h with ⟨q17, h⟩ | ⟨q17, h⟩
      · obtain ⟨b_3, q18, h⟩ := bnd_some h
        obtain rfl := Option.some.inj h
        exact ret_go (k := k) Tryz.func68 Tryz.ntmps68 (by kernel_rfl) (by kernel_rfl) (lb rfl) (adv [([], 11, 3, .eq (pB false)), ([], 11, 10, .eq (pB true)), ([], 11, 15, .chr b_3)] [([], 4, (.exit 0), (stOf (go k 68 0 63 (adv [([], 4, 3, .eq (pB false))]) ref01Split_L4 (ref01Split_S4 p (v_1, v_2, v_3)))))]) (ex := .ret) (r := (.tup [(.list 1 false (v_3.map cS)), (pB false), (pB ((b_3.toNat : Int) == (47 : Int)))])) (by kernel_rfl) rfl (by kernel_rfl) (allC q5 (allC (cg q16) (allC (cg q17) (allC q18 allN)))) (by kernel_rfl) (allC (row_ok (rfl : (v_3.map cS) = v_3.map cS) (rfl : v_3.length = v_3.length)) allN)
      · obtain rfl := Option.some.inj h
        exact ret_go (k := k) Tryz.func68 Tryz.ntmps68 (by kernel_rfl) (by kernel_rfl) (lb rfl) (adv [([], 11, 3, .eq (pB false)), ([], 11, 10, .eq (pB false))] [([], 4, (.exit 0), (stOf (go k 68 0 63 (adv [([], 4, 3, .eq (pB false))]) ref01Split_L4 (ref01Split_S4 p (v_1, v_2, v_3)))))]) (ex := .ret) (r := (.tup [(.list 1 false (v_3.map cS)), (pB false), (pB false)])) (by kernel_rfl) rfl (by kernel_rfl) (allC q5 (allC (cg q16) (allC (cg q17) allN))) (by kernel_rfl) (allC (row_ok (rfl : (v_3.map cS) = v_3.map cS) (rfl : v_3.length = v_3.length)) allN)
end Go.Proofs.YtaenhodkpidocaaGreatDoor.Den
namespace Go.Proofs.YtaenhodkpidocaaGreatDoor.Den
open Go Go.RowKit
noncomputable def ref15Draw_L3 : Code := cAt (codeOf Tryz.f69) [true, true, false, true, false, false]
def ref15Draw_R3 (x0 : Int) (x1 : Nat) (x2 : Int) (x3 : Int) (x4 : Int) (x5 : Int) (x6 : Int) (x7 : Int) (x8 : Int) (x9 : Int) (x10 : Int) (x11 : Int) (x12 : ByteArray) (x13 : ByteArray) (x14 : ByteArray) (x15 : List (List PV)) (x16 : List (List PV)) (x17 : List (List PV)) (x18 : Bool) (x19 : Int) (x20 : ByteArray) (x21 : Int) (x22 : List (List PV)) : St := ⟨envL [(1, (pI x0)), (2, (.ptr [0, TAG] 1 0 0)), (5, (.ptr [1, TAG] 1 0 0)), (6, (.row [2, TAG] 1 0 x1)), (7, (pI x2))], hsL [some ⟨19, 34, [[(pI x3), (pI x4), (pI x5), (pI x6), (pI x7), (pI x8), (pI x9), (pI x10), (pI x11), (pS x12), (pS x13), (pS x14), (.list 1 false x15), (.list 3 false x16), (.list 1 false x17), (pB x18), (pI x19), (pS x20), (pI x21)]], true, false⟩, some ⟨19, 34, [[(pI (0 : Int)), (pI (0 : Int)), (pI (0 : Int)), (pI (0 : Int)), (pI (0 : Int)), (pI (0 : Int)), (pI (0 : Int)), (pI (0 : Int)), (pI (0 : Int)), (pS (bs [])), (pS (bs [])), (pS (bs [])), (.v (.slice none 0 0)), (.v (.slice none 0 0)), (.v (.slice none 0 0)), (pB false), (pI (0 : Int)), (pS (bs [])), (pI (0 : Int))]], true, false⟩, some ⟨1, 3, x22, true, true⟩] [0, 0, 0]⟩
theorem ref15Draw_R3_eq {x0 y0 : Int} {x1 y1 : Nat} {x2 y2 : Int} {x3 y3 : Int} {x4 y4 : Int} {x5 y5 : Int} {x6 y6 : Int} {x7 y7 : Int} {x8 y8 : Int} {x9 y9 : Int} {x10 y10 : Int} {x11 y11 : Int} {x12 y12 : ByteArray} {x13 y13 : ByteArray} {x14 y14 : ByteArray} {x15 y15 : List (List PV)} {x16 y16 : List (List PV)} {x17 y17 : List (List PV)} {x18 y18 : Bool} {x19 y19 : Int} {x20 y20 : ByteArray} {x21 y21 : Int} {x22 y22 : List (List PV)} (h0 : x0 = y0) (h1 : x1 = y1) (h2 : x2 = y2) (h3 : x3 = y3) (h4 : x4 = y4) (h5 : x5 = y5) (h6 : x6 = y6) (h7 : x7 = y7) (h8 : x8 = y8) (h9 : x9 = y9) (h10 : x10 = y10) (h11 : x11 = y11) (h12 : x12 = y12) (h13 : x13 = y13) (h14 : x14 = y14) (h15 : x15 = y15) (h16 : x16 = y16) (h17 : x17 = y17) (h18 : x18 = y18) (h19 : x19 = y19) (h20 : x20 = y20) (h21 : x21 = y21) (h22 : x22 = y22) : ref15Draw_R3 x0 x1 x2 x3 x4 x5 x6 x7 x8 x9 x10 x11 x12 x13 x14 x15 x16 x17 x18 x19 x20 x21 x22 = ref15Draw_R3 y0 y1 y2 y3 y4 y5 y6 y7 y8 y9 y10 y11 y12 y13 y14 y15 y16 y17 y18 y19 y20 y21 y22 := by
  subst h0 h1 h2 h3 h4 h5 h6 h7 h8 h9 h10 h11 h12 h13 h14 h15 h16 h17 h18 h19 h20 h21 h22; rfl
def ref15Draw_S3 (p0 : Int) (p1 : Int) (p2 : Int) (p3 : Int) (p4 : Int) (p5 : Int) (p6 : Int) (p7 : Int) (p8 : Int) (p9 : Int) (p10 : ByteArray) (p11 : ByteArray) (p12 : ByteArray) (p13 : (List ByteArray)) (p14 : (List FrameD)) (p15 : (List Int)) (p16 : Bool) (p17 : Int) (p18 : ByteArray) (p19 : Int) : (Int × (List Int)) → St
 | (v0, v1) => ref15Draw_R3 p0 v1.length v0 p1 p2 p3 p4 p5 p6 p7 p8 p9 p10 p11 p12 (p13.map cS) (p14.map FrameD.c) (p15.map cI) p16 p17 p18 p19 (v1.map cI)
def ref15Draw_b3 (p0 : Int) (p1 : Int) (p2 : Int) (p3 : Int) (p4 : Int) (p5 : Int) (p6 : Int) (p7 : Int) (p8 : Int) (p9 : Int) (p10 : ByteArray) (p11 : ByteArray) (p12 : ByteArray) (p13 : (List ByteArray)) (p14 : (List FrameD)) (p15 : (List Int)) (p16 : Bool) (p17 : Int) (p18 : ByteArray) (p19 : Int) : (Int × (List Int)) → Option ((Int × (List Int)) ⊕ (Int × (List Int)))
 | (v0, v1) =>
 bif (decide (v0 < (w64 (p8 + p0)))) then (
 bif (decide (v0 < (p15.length : Int))) then (
 (gt p15 v0).bind fun y_1 =>
 grd (room (v1.length + 1) 8) <|
 some (.inl ((w64 (v0 + (1 : Int))), (v1 ++ [y_1])))
 ) else (
 grd (room (v1.length + 1) 8) <|
 some (.inl ((w64 (v0 + (1 : Int))), (v1 ++ [(0 : Int)])))
 )
 ) else (
 some (.inr (v0, v1))
 )
set_option maxRecDepth 100000 in
theorem ref15Draw_t3 (k : Nat) (p0 : Int) (p1 : Int) (p2 : Int) (p3 : Int) (p4 : Int) (p5 : Int) (p6 : Int) (p7 : Int) (p8 : Int) (p9 : Int) (p10 : ByteArray) (p11 : ByteArray) (p12 : ByteArray) (p13 : (List ByteArray)) (p14 : (List FrameD)) (p15 : (List Int)) (p16 : Bool) (p17 : Int) (p18 : ByteArray) (p19 : Int) (a a1 : (Int × (List Int))) (h : ref15Draw_b3 p0 p1 p2 p3 p4 p5 p6 p7 p8 p9 p10 p11 p12 p13 p14 p15 p16 p17 p18 p19 a = some (.inl a1)) : ∃ σ, run1 k 69 0 42 ref15Draw_L3 (ref15Draw_S3 p0 p1 p2 p3 p4 p5 p6 p7 p8 p9 p10 p11 p12 p13 p14 p15 p16 p17 p18 p19 a) = some (.normal, σ) ∧ canonS 0 [1, 2, 5, 6, 7] σ = some (ref15Draw_S3 p0 p1 p2 p3 p4 p5 p6 p7 p8 p9 p10 p11 p12 p13 p14 p15 p16 p17 p18 p19 a1) := by
  obtain ⟨v0, v1⟩ := a
  unfold ref15Draw_b3 at h
  try dsimp only at h
  rcases bif_some h with ⟨q1, h⟩ | ⟨q1, h⟩
  · rcases bif_some h with ⟨q2, h⟩ | ⟨q2, h⟩
    · obtain ⟨y_1, q3, h⟩ := bnd_some h
      obtain ⟨q4, h⟩ := grd_some h
      obtain rfl := Sum.inl.inj (Option.some.inj h)
      exact ⟨_, run_go (k := k) (f := 69) (r0 := 0) (nt := 42) (c := ref15Draw_L3) (σ := (ref15Draw_S3 p0 p1 p2 p3 p4 p5 p6 p7 p8 p9 p10 p11 p12 p13 p14 p15 p16 p17 p18 p19 (v0, v1))) (adv [([], 3, 5, .eq (pB true)), ([], 5, 3, .eq (pI (p15.length : Int))), ([], 5, 4, .eq (pB true)), ([], 6, 4, .elem [(pI y_1)]), ([], 6, 7, .ok)]) (ex := .normal) (by kernel_rfl) (by kernel_rfl) (allC (cg q1) (allC (len_ob (rfl : (p15.map cI) = p15.map cI)) (allC (cg q2) (allC (gt_list (c := cI) q3) (allC (app_ok (rfl : (v1.map cI) = v1.map cI) (rfl : v1.length = v1.length) q4) allN))))), (Eq.trans (b := some (ref15Draw_R3 p0 (v1.length + 1) (w64 (v0 + (1 : Int))) p1 p2 p3 p4 p5 p6 p7 p8 p9 p10 p11 p12 (p13.map cS) (p14.map FrameD.c) (p15.map cI) p16 p17 p18 p19 ((v1.map cI) ++ [[(pI y_1)]]))) (by kernel_rfl) (congrArg some ((ref15Draw_R3_eq (rfl : p0 = p0) ((len_cat (rfl : v1.length = v1.length) v1 (rfl : 1 = [y_1].length)) : (v1.length + 1) = ((v1 ++ [y_1]).length)) (rfl : (w64 (v0 + (1 : Int))) = (w64 (v0 + (1 : Int)))) (rfl : p1 = p1) (rfl : p2 = p2) (rfl : p3 = p3) (rfl : p4 = p4) (rfl : p5 = p5) (rfl : p6 = p6) (rfl : p7 = p7) (rfl : p8 = p8) (rfl : p9 = p9) (rfl : p10 = p10) (rfl : p11 = p11) (rfl : p12 = p12) (rfl : (p13.map cS) = (p13.map cS)) (rfl : (p14.map FrameD.c) = (p14.map FrameD.c)) (rfl : (p15.map cI) = (p15.map cI)) (rfl : p16 = p16) (rfl : p17 = p17) (rfl : p18 = p18) (rfl : p19 = p19) ((enc_cat (rfl : (v1.map cI) = v1.map cI) (show [[(pI y_1)]] = [y_1].map cI from rfl)) : ((v1.map cI) ++ [[(pI y_1)]]) = ((v1 ++ [y_1]).map cI))).trans (by kernel_rfl : ref15Draw_R3 p0 ((v1 ++ [y_1]).length) (w64 (v0 + (1 : Int))) p1 p2 p3 p4 p5 p6 p7 p8 p9 p10 p11 p12 (p13.map cS) (p14.map FrameD.c) (p15.map cI) p16 p17 p18 p19 ((v1 ++ [y_1]).map cI) = ref15Draw_S3 p0 p1 p2 p3 p4 p5 p6 p7 p8 p9 p10 p11 p12 p13 p14 p15 p16 p17 p18 p19 ((w64 (v0 + (1 : Int))), (v1 ++ [y_1]))))))⟩
    · obtain ⟨q3, h⟩ := grd_some h
      obtain rfl := Sum.inl.inj (Option.some.inj h)
      exact ⟨_, run_go (k := k) (f := 69) (r0 := 0) (nt := 42) (c := ref15Draw_L3) (σ := (ref15Draw_S3 p0 p1 p2 p3 p4 p5 p6 p7 p8 p9 p10 p11 p12 p13 p14 p15 p16 p17 p18 p19 (v0, v1))) (adv [([], 3, 5, .eq (pB true)), ([], 5, 3, .eq (pI (p15.length : Int))), ([], 5, 4, .eq (pB false)), ([], 7, 2, .ok)]) (ex := .normal) (by kernel_rfl) (by kernel_rfl) (allC (cg q1) (allC (len_ob (rfl : (p15.map cI) = p15.map cI)) (allC (cg q2) (allC (app_ok (rfl : (v1.map cI) = v1.map cI) (rfl : v1.length = v1.length) q3) allN)))), (Eq.trans (b := some (ref15Draw_R3 p0 (v1.length + 1) (w64 (v0 + (1 : Int))) p1 p2 p3 p4 p5 p6 p7 p8 p9 p10 p11 p12 (p13.map cS) (p14.map FrameD.c) (p15.map cI) p16 p17 p18 p19 ((v1.map cI) ++ [[(pI (0 : Int))]]))) (by kernel_rfl) (congrArg some ((ref15Draw_R3_eq (rfl : p0 = p0) ((len_cat (rfl : v1.length = v1.length) v1 (rfl : 1 = [(0 : Int)].length)) : (v1.length + 1) = ((v1 ++ [(0 : Int)]).length)) (rfl : (w64 (v0 + (1 : Int))) = (w64 (v0 + (1 : Int)))) (rfl : p1 = p1) (rfl : p2 = p2) (rfl : p3 = p3) (rfl : p4 = p4) (rfl : p5 = p5) (rfl : p6 = p6) (rfl : p7 = p7) (rfl : p8 = p8) (rfl : p9 = p9) (rfl : p10 = p10) (rfl : p11 = p11) (rfl : p12 = p12) (rfl : (p13.map cS) = (p13.map cS)) (rfl : (p14.map FrameD.c) = (p14.map FrameD.c)) (rfl : (p15.map cI) = (p15.map cI)) (rfl : p16 = p16) (rfl : p17 = p17) (rfl : p18 = p18) (rfl : p19 = p19) ((enc_cat (rfl : (v1.map cI) = v1.map cI) (show [[(pI (0 : Int))]] = [(0 : Int)].map cI from rfl)) : ((v1.map cI) ++ [[(pI (0 : Int))]]) = ((v1 ++ [(0 : Int)]).map cI))).trans (by kernel_rfl : ref15Draw_R3 p0 ((v1 ++ [(0 : Int)]).length) (w64 (v0 + (1 : Int))) p1 p2 p3 p4 p5 p6 p7 p8 p9 p10 p11 p12 (p13.map cS) (p14.map FrameD.c) (p15.map cI) p16 p17 p18 p19 ((v1 ++ [(0 : Int)]).map cI) = ref15Draw_S3 p0 p1 p2 p3 p4 p5 p6 p7 p8 p9 p10 p11 p12 p13 p14 p15 p16 p17 p18 p19 ((w64 (v0 + (1 : Int))), (v1 ++ [(0 : Int)]))))))⟩
  · cases h
def ref15Draw (j : JobD) (n : Int) : Option ((List Int) × JobD) :=
 (iterN (ref15Draw_b3 n j.kind j.p j.phase j.fd j.nF j.modeF j.tries j.atF j.flags j.path j.path2 j.text j.names j.stack j.draws j.done j.exit j.out j.e) LF (j.atF, ([] : (List Int)))).bind fun (v_1, v_2) =>
 some (v_2, (JobD.mk j.kind j.p j.phase j.fd j.nF j.modeF j.tries (w64 (j.atF + n)) j.flags j.path j.path2 j.text j.names j.stack j.draws j.done j.exit j.out j.e))
set_option maxRecDepth 100000 in
theorem ref15Draw_ok (k : Nat) (j : JobD) (n : Int) (r : ((List Int) × JobD)) (h : ref15Draw j n = some r) : run0 (k + 1) 69 [(JobD.a j), (pI n)] = some (.tup [(.list 1 false (r.1.map cI)), (JobD.a r.2)]) := by
  unfold ref15Draw at h
  obtain ⟨X_1, q1, h⟩ := bnd_some h
  obtain ⟨a_1, q2, q3⟩ := loop_iter (f := run1 k 69 0 42 ref15Draw_L3) (ref15Draw_S3 n j.kind j.p j.phase j.fd j.nF j.modeF j.tries j.atF j.flags j.path j.path2 j.text j.names j.stack j.draws j.done j.exit j.out j.e) (ref15Draw_b3 n j.kind j.p j.phase j.fd j.nF j.modeF j.tries j.atF j.flags j.path j.path2 j.text j.names j.stack j.draws j.done j.exit j.out j.e) (ref15Draw_t3 k n j.kind j.p j.phase j.fd j.nF j.modeF j.tries j.atF j.flags j.path j.path2 j.text j.names j.stack j.draws j.done j.exit j.out j.e) LF (j.atF, ([] : (List Int))) _ (stOf (goStop k 69 0 42 (adv []) 3 (codeOf Tryz.f69) (argS 69 [(JobD.a j), (pI n)]))) q1 (Eq.trans (b := some (ref15Draw_R3 n 0 j.atF j.kind j.p j.phase j.fd j.nF j.modeF j.tries j.atF j.flags j.path j.path2 j.text (j.names.map cS) (j.stack.map FrameD.c) (j.draws.map cI) j.done j.exit j.out j.e [])) (by kernel_rfl) (congrArg some ((ref15Draw_R3_eq (rfl : n = n) (rfl : 0 = (([] : (List Int)).length)) (rfl : j.atF = j.atF) (rfl : j.kind = j.kind) (rfl : j.p = j.p) (rfl : j.phase = j.phase) (rfl : j.fd = j.fd) (rfl : j.nF = j.nF) (rfl : j.modeF = j.modeF) (rfl : j.tries = j.tries) (rfl : j.atF = j.atF) (rfl : j.flags = j.flags) (rfl : j.path = j.path) (rfl : j.path2 = j.path2) (rfl : j.text = j.text) (rfl : (j.names.map cS) = (j.names.map cS)) (rfl : (j.stack.map FrameD.c) = (j.stack.map FrameD.c)) (rfl : (j.draws.map cI) = (j.draws.map cI)) (rfl : j.done = j.done) (rfl : j.exit = j.exit) (rfl : j.out = j.out) (rfl : j.e = j.e) (rfl : [] = (([] : (List Int)).map cI))).trans (by kernel_rfl : ref15Draw_R3 n (([] : (List Int)).length) j.atF j.kind j.p j.phase j.fd j.nF j.modeF j.tries j.atF j.flags j.path j.path2 j.text (j.names.map cS) (j.stack.map FrameD.c) (j.draws.map cI) j.done j.exit j.out j.e (([] : (List Int)).map cI) = ref15Draw_S3 n j.kind j.p j.phase j.fd j.nF j.modeF j.tries j.atF j.flags j.path j.path2 j.text j.names j.stack j.draws j.done j.exit j.out j.e (j.atF, ([] : (List Int)))))))
  obtain ⟨v_1, v_2⟩ := a_1
  unfold ref15Draw_b3 at q2
  try dsimp only at q2
  rcases bif_some q2 with ⟨q6, q2⟩ | ⟨q6, q2⟩
  · rcases bif_some q2 with ⟨q7, q2⟩ | ⟨q7, q2⟩
    · obtain ⟨y_1, q8, q2⟩ := bnd_some q2
      obtain ⟨q9, q2⟩ := grd_some q2
      cases q2
    · obtain ⟨q8, q2⟩ := grd_some q2
      cases q2
  · cases q2
    try dsimp only at h
    have q4 := run_go (k := k) (f := 69) (r0 := 0) (nt := 42) (c := ref15Draw_L3) (σ := (ref15Draw_S3 n j.kind j.p j.phase j.fd j.nF j.modeF j.tries j.atF j.flags j.path j.path2 j.text j.names j.stack j.draws j.done j.exit j.out j.e (v_1, v_2))) (adv [([], 3, 5, .eq (pB false))]) (ex := (.exit 0)) (by kernel_rfl) (by kernel_rfl) (allC (cg q6) allN)
    have q5 := q3 _ _ (by intro e; cases e) q4
    obtain rfl := Option.some.inj h
    exact ret_go (k := k) Tryz.func69 Tryz.ntmps69 (by kernel_rfl) (by kernel_rfl) (lb rfl) (adv [] [([], 3, (.exit 0), (stOf (go k 69 0 42 (adv [([], 3, 5, .eq (pB false))]) ref15Draw_L3 (ref15Draw_S3 n j.kind j.p j.phase j.fd j.nF j.modeF j.tries j.atF j.flags j.path j.path2 j.text j.names j.stack j.draws j.done j.exit j.out j.e (v_1, v_2)))))]) (ex := .ret) (r := (.tup [(.list 1 false (v_2.map cI)), (.agg [(pI j.kind), (pI j.p), (pI j.phase), (pI j.fd), (pI j.nF), (pI j.modeF), (pI j.tries), (pI (w64 (j.atF + n))), (pI j.flags), (pS j.path), (pS j.path2), (pS j.text), (.list 1 false (j.names.map cS)), (.list 3 false (j.stack.map FrameD.c)), (.list 1 false (j.draws.map cI)), (pB j.done), (pI j.exit), (pS j.out), (pI j.e)])])) (by kernel_rfl) rfl (by kernel_rfl) (allC q5 allN) (by kernel_rfl) (allC (row_ok (rfl : (v_2.map cI) = v_2.map cI) (rfl : v_2.length = v_2.length)) allN)
def ref01Base (p : ByteArray) : Option ByteArray :=
 (ref01Split p).bind fun (r_1, r_2, r_3) =>
 bif (seq p (bs [])) then (
 some (bs [])
 ) else (
 bif ((r_1.length : Int) == (0 : Int)) then (
 some (bs [47])
 ) else (
 (gt r_1 (w64 ((r_1.length : Int) - (1 : Int)))).bind fun y_1 =>
 some y_1
 )
 )
set_option maxRecDepth 100000 in
theorem ref01Base_ok (k : Nat) (p : ByteArray) (r : ByteArray) (h : ref01Base p = some r) : run0 (k + 2) 41 [(pS p)] = some (pS r) := by
  unfold ref01Base at h
  obtain ⟨⟨r_1, r_2, r_3⟩, q1, h⟩ := bnd_some h
  try dsimp only at h
  rcases bif_some h with ⟨q2, h⟩ | ⟨q2, h⟩
  · obtain rfl := Option.some.inj h
    exact ret_go (k := (k + 1)) Tryz.func41 Tryz.ntmps41 (by kernel_rfl) (by kernel_rfl) (lb rfl) (adv [([], 1, 1, .ret (.tup [(.list 1 false (r_1.map cS)), (pB r_2), (pB r_3)])), ([], 2, 1, .eq (pB true))]) (ex := .ret) (r := (pS (bs []))) (by kernel_rfl) rfl (by kernel_rfl) (allC (ref01Split_ok k p _ q1) (allC (cg q2) allN)) (by kernel_rfl) allN
  · rcases bif_some h with ⟨q3, h⟩ | ⟨q3, h⟩
    · obtain rfl := Option.some.inj h
      exact ret_go (k := (k + 1)) Tryz.func41 Tryz.ntmps41 (by kernel_rfl) (by kernel_rfl) (lb rfl) (adv [([], 1, 1, .ret (.tup [(.list 1 false (r_1.map cS)), (pB r_2), (pB r_3)])), ([], 2, 1, .eq (pB false)), ([], 4, 1, .eq (pI (r_1.length : Int))), ([], 4, 2, .eq (pB true))]) (ex := .ret) (r := (pS (bs [47]))) (by kernel_rfl) rfl (by kernel_rfl) (allC (ref01Split_ok k p _ q1) (allC (cg q2) (allC (len_ob (rfl : (r_1.map cS) = r_1.map cS)) (allC (cg q3) allN)))) (by kernel_rfl) allN
    · obtain ⟨y_1, q4, h⟩ := bnd_some h
      obtain rfl := Option.some.inj h
      exact ret_go (k := (k + 1)) Tryz.func41 Tryz.ntmps41 (by kernel_rfl) (by kernel_rfl) (lb rfl) (adv [([], 1, 1, .ret (.tup [(.list 1 false (r_1.map cS)), (pB r_2), (pB r_3)])), ([], 2, 1, .eq (pB false)), ([], 4, 1, .eq (pI (r_1.length : Int))), ([], 4, 2, .eq (pB false)), ([], 6, 2, .eq (pI (r_1.length : Int))), ([], 6, 4, .elem [(pS y_1)])]) (ex := .ret) (r := (pS y_1)) (by kernel_rfl) rfl (by kernel_rfl) (allC (ref01Split_ok k p _ q1) (allC (cg q2) (allC (len_ob (rfl : (r_1.map cS) = r_1.map cS)) (allC (cg q3) (allC (len_ob (rfl : (r_1.map cS) = r_1.map cS)) (allC (gt_list (c := cS) q4) allN)))))) (by kernel_rfl) allN
noncomputable def ref01Bare_L1 : Code := cAt (codeOf Tryz.f76) [true, false, false, false]
def ref01Bare_R1 (x0 : ByteArray) : St := ⟨envL [(0, (pS x0))], hsL [] []⟩
def ref01Bare_S1 : ByteArray → St
 | v0 => ref01Bare_R1 v0
def ref01Bare_b1 : ByteArray → Option (ByteArray ⊕ ((ByteArray × UInt8) ⊕ ByteArray))
 | v0 =>
 bif (!(seq v0 (bs []))) then (
 (gtS v0 (w64 ((v0.size : Int) - (1 : Int)))).bind fun b_1 =>
 bif ((b_1.toNat : Int) == (47 : Int)) then (
 grd (0 ≤ (0 : Int) ∧ (0 : Int) ≤ (w64 ((v0.size : Int) - (1 : Int))) ∧ (w64 ((v0.size : Int) - (1 : Int))) ≤ (v0.size : Int)) <|
 some (.inl (v0.extract 0 ((w64 ((v0.size : Int) - (1 : Int)))).toNat))
 ) else (
 some (.inr (.inl (v0, b_1)))
 )
 ) else (
 some (.inr (.inr (v0)))
 )
set_option maxRecDepth 100000 in
theorem ref01Bare_t1 (k : Nat) (v0 a1 : ByteArray) (h : ref01Bare_b1 v0 = some (.inl a1)) : ∃ σ, run1 k 76 0 19 ref01Bare_L1 (ref01Bare_S1 v0) = some (.normal, σ) ∧ canonS 0 [0] σ = some (ref01Bare_S1 a1) := by
  unfold ref01Bare_b1 at h
  try dsimp only at h
  rcases bif_some h with ⟨q1, h⟩ | ⟨q1, h⟩
  · obtain ⟨b_1, q2, h⟩ := bnd_some h
    rcases bif_some h with ⟨q3, h⟩ | ⟨q3, h⟩
    · obtain ⟨q4, h⟩ := grd_some h
      obtain rfl := Sum.inl.inj (Option.some.inj h)
      exact ⟨_, run_go (k := k) (f := 76) (r0 := 0) (nt := 19) (c := ref01Bare_L1) (σ := (ref01Bare_S1 v0)) (adv [([], 1, 2, .eq (pB true)), ([], 1, 7, .chr b_1), ([], 1, 9, .eq (pB true)), ([], 2, 4, .sub false)]) (ex := .normal) (by kernel_rfl) (by kernel_rfl) (allC (cg q1) (allC q2 (allC (cg q3) (allC q4 allN)))), (by kernel_rfl)⟩
    · cases h
  · cases h
def ref01Bare (p : ByteArray) : Option ByteArray :=
 (iterN (ref01Bare_b1) LF p).bind fun X_1 => match X_1 with
 | .inl (v_1, b_1) => (
 some v_1
 )
 | .inr (v_1) => (
 some v_1
 )
set_option maxRecDepth 100000 in
theorem ref01Bare_ok (k : Nat) (p : ByteArray) (r : ByteArray) (h : ref01Bare p = some r) : run0 (k + 1) 76 [(pS p)] = some (pS r) := by
  unfold ref01Bare at h
  obtain ⟨X_1, q1, h⟩ := bnd_some h
  obtain ⟨v_1, q2, q3⟩ := loop_iter (f := run1 k 76 0 19 ref01Bare_L1) (ref01Bare_S1) (ref01Bare_b1) (ref01Bare_t1 k) LF p _ (stOf (goStop k 76 0 19 (adv []) 1 (codeOf Tryz.f76) (argS 76 [(pS p)]))) q1 (by kernel_rfl)
  unfold ref01Bare_b1 at q2
  try dsimp only at q2
  rcases bif_some q2 with ⟨q6, q2⟩ | ⟨q6, q2⟩
  · obtain ⟨b_1, q7, q2⟩ := bnd_some q2
    rcases bif_some q2 with ⟨q8, q2⟩ | ⟨q8, q2⟩
    · obtain ⟨q9, q2⟩ := grd_some q2
      cases q2
    · cases q2
      try dsimp only at h
      have q4 := run_go (k := k) (f := 76) (r0 := 0) (nt := 19) (c := ref01Bare_L1) (σ := (ref01Bare_S1 v_1)) (adv [([], 1, 2, .eq (pB true)), ([], 1, 7, .chr b_1), ([], 1, 9, .eq (pB false))]) (ex := (.exit 0)) (by kernel_rfl) (by kernel_rfl) (allC (cg q6) (allC q7 (allC (cg q8) allN)))
      have q5 := q3 _ _ (by intro e; cases e) q4
      obtain rfl := Option.some.inj h
      exact ret_go (k := k) Tryz.func76 Tryz.ntmps76 (by kernel_rfl) (by kernel_rfl) (lb rfl) (adv [] [([], 1, (.exit 0), (stOf (go k 76 0 19 (adv [([], 1, 2, .eq (pB true)), ([], 1, 7, .chr b_1), ([], 1, 9, .eq (pB false))]) ref01Bare_L1 (ref01Bare_S1 v_1))))]) (ex := .ret) (r := (pS v_1)) (by kernel_rfl) rfl (by kernel_rfl) (allC q5 allN) (by kernel_rfl) allN
  · cases q2
    try dsimp only at h
    have q4 := run_go (k := k) (f := 76) (r0 := 0) (nt := 19) (c := ref01Bare_L1) (σ := (ref01Bare_S1 v_1)) (adv [([], 1, 2, .eq (pB false))]) (ex := (.exit 0)) (by kernel_rfl) (by kernel_rfl) (allC (cg q6) allN)
    have q5 := q3 _ _ (by intro e; cases e) q4
    obtain rfl := Option.some.inj h
    exact ret_go (k := k) Tryz.func76 Tryz.ntmps76 (by kernel_rfl) (by kernel_rfl) (lb rfl) (adv [] [([], 1, (.exit 0), (stOf (go k 76 0 19 (adv [([], 1, 2, .eq (pB false))]) ref01Bare_L1 (ref01Bare_S1 v_1))))]) (ex := .ret) (r := (pS v_1)) (by kernel_rfl) rfl (by kernel_rfl) (allC q5 allN) (by kernel_rfl) allN
noncomputable def ref01Dir_L6 : Code := cAt (codeOf Tryz.f43) [true, true, true, true, false, false, false]
def ref01Dir_R6 (x0 : ByteArray) (x1 : ByteArray) : St := ⟨envL [(0, (pS x0)), (3, (pS x1))], hsL [] []⟩
def ref01Dir_S6 (p0 : ByteArray) : ByteArray → St
 | v0 => ref01Dir_R6 p0 v0
def ref01Dir_b6 (p0 : ByteArray) : ByteArray → Option (ByteArray ⊕ ((ByteArray × UInt8) ⊕ ByteArray))
 | v0 =>
 bif (!(seq v0 (bs []))) then (
 (gtS v0 (w64 ((v0.size : Int) - (1 : Int)))).bind fun b_1 =>
 bif ((b_1.toNat : Int) != (47 : Int)) then (
 grd (0 ≤ (0 : Int) ∧ (0 : Int) ≤ (w64 ((v0.size : Int) - (1 : Int))) ∧ (w64 ((v0.size : Int) - (1 : Int))) ≤ (v0.size : Int)) <|
 some (.inl (v0.extract 0 ((w64 ((v0.size : Int) - (1 : Int)))).toNat))
 ) else (
 some (.inr (.inl (v0, b_1)))
 )
 ) else (
 some (.inr (.inr (v0)))
 )
set_option maxRecDepth 100000 in
theorem ref01Dir_t6 (k : Nat) (p0 : ByteArray) (v0 a1 : ByteArray) (h : ref01Dir_b6 p0 v0 = some (.inl a1)) : ∃ σ, run1 (k + 1) 43 0 37 ref01Dir_L6 (ref01Dir_S6 p0 v0) = some (.normal, σ) ∧ canonS 0 [0, 3] σ = some (ref01Dir_S6 p0 a1) := by
  unfold ref01Dir_b6 at h
  try dsimp only at h
  rcases bif_some h with ⟨q1, h⟩ | ⟨q1, h⟩
  · obtain ⟨b_1, q2, h⟩ := bnd_some h
    rcases bif_some h with ⟨q3, h⟩ | ⟨q3, h⟩
    · obtain ⟨q4, h⟩ := grd_some h
      obtain rfl := Sum.inl.inj (Option.some.inj h)
      exact ⟨_, run_go (k := (k + 1)) (f := 43) (r0 := 0) (nt := 37) (c := ref01Dir_L6) (σ := (ref01Dir_S6 p0 v0)) (adv [([], 6, 2, .eq (pB true)), ([], 6, 7, .chr b_1), ([], 6, 9, .eq (pB true)), ([], 7, 4, .sub false)]) (ex := .normal) (by kernel_rfl) (by kernel_rfl) (allC (cg q1) (allC q2 (allC (cg q3) (allC q4 allN)))), (by kernel_rfl)⟩
    · cases h
  · cases h
def ref01Dir (p : ByteArray) : Option ByteArray :=
 bif (seq p (bs [])) then (
 some (bs [46])
 ) else (
 (ref01Bare p).bind fun r_1 =>
 bif (seq r_1 (bs [])) then (
 some (bs [47])
 ) else (
 (iterN (ref01Dir_b6 p) LF r_1).bind fun X_1 => match X_1 with
 | .inl (v_1, b_1) => (
 (ref01Bare v_1).bind fun r_2 =>
 bif (seq r_2 (bs [])) then (
 (gtS p (0 : Int)).bind fun b_2 =>
 bif ((b_2.toNat : Int) == (47 : Int)) then (
 some (bs [47])
 ) else (
 bif (seq r_2 (bs [])) then (
 some (bs [46])
 ) else (
 some r_2
 )
 )
 ) else (
 bif (seq r_2 (bs [])) then (
 some (bs [46])
 ) else (
 some r_2
 )
 )
 )
 | .inr (v_1) => (
 (ref01Bare v_1).bind fun r_2 =>
 bif (seq r_2 (bs [])) then (
 (gtS p (0 : Int)).bind fun b_2 =>
 bif ((b_2.toNat : Int) == (47 : Int)) then (
 some (bs [47])
 ) else (
 bif (seq r_2 (bs [])) then (
 some (bs [46])
 ) else (
 some r_2
 )
 )
 ) else (
 bif (seq r_2 (bs [])) then (
 some (bs [46])
 ) else (
 some r_2
 )
 )
 )
 )
 )
set_option maxRecDepth 100000 in
theorem ref01Dir_ok (k : Nat) (p : ByteArray) (r : ByteArray) (h : ref01Dir p = some r) : run0 (k + 2) 43 [(pS p)] = some (pS r) := by
  unfold ref01Dir at h
  rcases bif_some h with ⟨q1, h⟩ | ⟨q1, h⟩
  · obtain rfl := Option.some.inj h
    exact ret_go (k := (k + 1)) Tryz.func43 Tryz.ntmps43 (by kernel_rfl) (by kernel_rfl) (lb rfl) (adv [([], 1, 1, .eq (pB true))]) (ex := .ret) (r := (pS (bs [46]))) (by kernel_rfl) rfl (by kernel_rfl) (allC (cg q1) allN) (by kernel_rfl) allN
  · obtain ⟨r_1, q2, h⟩ := bnd_some h
    rcases bif_some h with ⟨q3, h⟩ | ⟨q3, h⟩
    · obtain rfl := Option.some.inj h
      exact ret_go (k := (k + 1)) Tryz.func43 Tryz.ntmps43 (by kernel_rfl) (by kernel_rfl) (lb rfl) (adv [([], 1, 1, .eq (pB false)), ([], 3, 1, .ret (pS r_1)), ([], 4, 1, .eq (pB true))]) (ex := .ret) (r := (pS (bs [47]))) (by kernel_rfl) rfl (by kernel_rfl) (allC (cg q1) (allC (ref01Bare_ok k p _ q2) (allC (cg q3) allN))) (by kernel_rfl) allN
    · obtain ⟨X_1, q4, h⟩ := bnd_some h
      obtain ⟨v_1, q5, q6⟩ := loop_iter (f := run1 (k + 1) 43 0 37 ref01Dir_L6) (ref01Dir_S6 p) (ref01Dir_b6 p) (ref01Dir_t6 k p) LF r_1 _ (stOf (goStop (k + 1) 43 0 37 (adv [([], 1, 1, .eq (pB false)), ([], 3, 1, .ret (pS r_1)), ([], 4, 1, .eq (pB false))]) 6 (codeOf Tryz.f43) (argS 43 [(pS p)]))) q4 (by kernel_rfl)
      unfold ref01Dir_b6 at q5
      try dsimp only at q5
      rcases bif_some q5 with ⟨q9, q5⟩ | ⟨q9, q5⟩
      · obtain ⟨b_1, q10, q5⟩ := bnd_some q5
        rcases bif_some q5 with ⟨q11, q5⟩ | ⟨q11, q5⟩
        · obtain ⟨q12, q5⟩ := grd_some q5
          cases q5
        · cases q5
          try dsimp only at h
          have q7 := run_go (k := (k + 1)) (f := 43) (r0 := 0) (nt := 37) (c := ref01Dir_L6) (σ := (ref01Dir_S6 p v_1)) (adv [([], 6, 2, .eq (pB true)), ([], 6, 7, .chr b_1), ([], 6, 9, .eq (pB false))]) (ex := (.exit 0)) (by kernel_rfl) (by kernel_rfl) (allC (cg q9) (allC q10 (allC (cg q11) allN)))
          have q8 := q6 _ _ (by intro e; cases e) q7
          obtain ⟨r_2, q13, h⟩ := bnd_some h
          rcases bif_some h with ⟨q14, h⟩ | ⟨q14, h⟩
          · obtain ⟨b_2, q15, h⟩ := bnd_some h
            rcases bif_some h with ⟨q16, h⟩ | ⟨q16, h⟩
            · obtain rfl := Option.some.inj h
              exact ret_go (k := (k + 1)) Tryz.func43 Tryz.ntmps43 (by kernel_rfl) (by kernel_rfl) (lb rfl) (adv [([], 1, 1, .eq (pB false)), ([], 3, 1, .ret (pS r_1)), ([], 4, 1, .eq (pB false)), ([], 8, 1, .ret (pS r_2)), ([], 9, 2, .eq (pB true)), ([], 9, 4, .chr b_2), ([], 9, 6, .eq (pB true))] [([], 6, (.exit 0), (stOf (go (k + 1) 43 0 37 (adv [([], 6, 2, .eq (pB true)), ([], 6, 7, .chr b_1), ([], 6, 9, .eq (pB false))]) ref01Dir_L6 (ref01Dir_S6 p v_1))))]) (ex := .ret) (r := (pS (bs [47]))) (by kernel_rfl) rfl (by kernel_rfl) (allC (cg q1) (allC (ref01Bare_ok k p _ q2) (allC (cg q3) (allC q8 (allC (ref01Bare_ok k v_1 _ q13) (allC (cg q14) (allC q15 (allC (cg q16) allN)))))))) (by kernel_rfl) allN
            · rcases bif_some h with ⟨q17, h⟩ | ⟨q17, h⟩
              · obtain rfl := Option.some.inj h
                exact ret_go (k := (k + 1)) Tryz.func43 Tryz.ntmps43 (by kernel_rfl) (by kernel_rfl) (lb rfl) (adv [([], 1, 1, .eq (pB false)), ([], 3, 1, .ret (pS r_1)), ([], 4, 1, .eq (pB false)), ([], 8, 1, .ret (pS r_2)), ([], 9, 2, .eq (pB true)), ([], 9, 4, .chr b_2), ([], 9, 6, .eq (pB false)), ([], 11, 1, .eq (pB true))] [([], 6, (.exit 0), (stOf (go (k + 1) 43 0 37 (adv [([], 6, 2, .eq (pB true)), ([], 6, 7, .chr b_1), ([], 6, 9, .eq (pB false))]) ref01Dir_L6 (ref01Dir_S6 p v_1))))]) (ex := .ret) (r := (pS (bs [46]))) (by kernel_rfl) rfl (by kernel_rfl) (allC (cg q1) (allC (ref01Bare_ok k p _ q2) (allC (cg q3) (allC q8 (allC (ref01Bare_ok k v_1 _ q13) (allC (cg q14) (allC q15 (allC (cg q16) (allC (cg q17) allN))))))))) (by kernel_rfl) allN
              · obtain rfl := Option.some.inj h
                exact ret_go (k := (k + 1)) Tryz.func43 Tryz.ntmps43 (by kernel_rfl) (by kernel_rfl) (lb rfl) (adv [([], 1, 1, .eq (pB false)), ([], 3, 1, .ret (pS r_1)), ([], 4, 1, .eq (pB false)), ([], 8, 1, .ret (pS r_2)), ([], 9, 2, .eq (pB true)), ([], 9, 4, .chr b_2), ([], 9, 6, .eq (pB false)), ([], 11, 1, .eq (pB false))] [([], 6, (.exit 0), (stOf (go (k + 1) 43 0 37 (adv [([], 6, 2, .eq (pB true)), ([], 6, 7, .chr b_1), ([], 6, 9, .eq (pB false))]) ref01Dir_L6 (ref01Dir_S6 p v_1))))]) (ex := .ret) (r := (pS r_2)) (by kernel_rfl) rfl (by kernel_rfl) (allC (cg q1) (allC (ref01Bare_ok k p _ q2) (allC (cg q3) (allC q8 (allC (ref01Bare_ok k v_1 _ q13) (allC (cg q14) (allC q15 (allC (cg q16) (allC (cg q17) allN))))))))) (by kernel_rfl) allN
          · rcases bif_some h with ⟨q15, h⟩ | ⟨q15, h⟩
            · obtain rfl := Option.some.inj h
              exact ret_go (k := (k + 1)) Tryz.func43 Tryz.ntmps43 (by kernel_rfl) (by kernel_rfl) (lb rfl) (adv [([], 1, 1, .eq (pB false)), ([], 3, 1, .ret (pS r_1)), ([], 4, 1, .eq (pB false)), ([], 8, 1, .ret (pS r_2)), ([], 9, 2, .eq (pB false)), ([], 11, 1, .eq (pB true))] [([], 6, (.exit 0), (stOf (go (k + 1) 43 0 37 (adv [([], 6, 2, .eq (pB true)), ([], 6, 7, .chr b_1), ([], 6, 9, .eq (pB false))]) ref01Dir_L6 (ref01Dir_S6 p v_1))))]) (ex := .ret) (r := (pS (bs [46]))) (by kernel_rfl) rfl (by kernel_rfl) (allC (cg q1) (allC (ref01Bare_ok k p _ q2) (allC (cg q3) (allC q8 (allC (ref01Bare_ok k v_1 _ q13) (allC (cg q14) (allC (cg q15) allN))))))) (by kernel_rfl) allN
            · obtain rfl := Option.some.inj h
              exact ret_go (k := (k + 1)) Tryz.func43 Tryz.ntmps43 (by kernel_rfl) (by kernel_rfl) (lb rfl) (adv [([], 1, 1, .eq (pB false)), ([], 3, 1, .ret (pS r_1)), ([], 4, 1, .eq (pB false)), ([], 8, 1, .ret (pS r_2)), ([], 9, 2, .eq (pB false)), ([], 11, 1, .eq (pB false))] [([], 6, (.exit 0), (stOf (go (k + 1) 43 0 37 (adv [([], 6, 2, .eq (pB true)), ([], 6, 7, .chr b_1), ([], 6, 9, .eq (pB false))]) ref01Dir_L6 (ref01Dir_S6 p v_1))))]) (ex := .ret) (r := (pS r_2)) (by kernel_rfl) rfl (by kernel_rfl) (allC (cg q1) (allC (ref01Bare_ok k p _ q2) (allC (cg q3) (allC q8 (allC (ref01Bare_ok k v_1 _ q13) (allC (cg q14) (allC (cg q15) allN))))))) (by kernel_rfl) allN
      · cases q5
        try dsimp only at h
        have q7 := run_go (k := (k + 1)) (f := 43) (r0 := 0) (nt := 37) (c := ref01Dir_L6) (σ := (ref01Dir_S6 p v_1)) (adv [([], 6, 2, .eq (pB false))]) (ex := (.exit 0)) (by kernel_rfl) (by kernel_rfl) (allC (cg q9) allN)
        have q8 := q6 _ _ (by intro e; cases e) q7
        obtain ⟨r_2, q13, h⟩ := bnd_some h
        rcases bif_some h with ⟨q14, h⟩ | ⟨q14, h⟩
        · obtain ⟨b_2, q15, h⟩ := bnd_some h
          rcases bif_some h with ⟨q16, h⟩ | ⟨q16, h⟩
          · obtain rfl := Option.some.inj h
            exact ret_go (k := (k + 1)) Tryz.func43 Tryz.ntmps43 (by kernel_rfl) (by kernel_rfl) (lb rfl) (adv [([], 1, 1, .eq (pB false)), ([], 3, 1, .ret (pS r_1)), ([], 4, 1, .eq (pB false)), ([], 8, 1, .ret (pS r_2)), ([], 9, 2, .eq (pB true)), ([], 9, 4, .chr b_2), ([], 9, 6, .eq (pB true))] [([], 6, (.exit 0), (stOf (go (k + 1) 43 0 37 (adv [([], 6, 2, .eq (pB false))]) ref01Dir_L6 (ref01Dir_S6 p v_1))))]) (ex := .ret) (r := (pS (bs [47]))) (by kernel_rfl) rfl (by kernel_rfl) (allC (cg q1) (allC (ref01Bare_ok k p _ q2) (allC (cg q3) (allC q8 (allC (ref01Bare_ok k v_1 _ q13) (allC (cg q14) (allC q15 (allC (cg q16) allN)))))))) (by kernel_rfl) allN
          · rcases bif_some h with ⟨q17, h⟩ | ⟨q17, h⟩
            · obtain rfl := Option.some.inj h
              exact ret_go (k := (k + 1)) Tryz.func43 Tryz.ntmps43 (by kernel_rfl) (by kernel_rfl) (lb rfl) (adv [([], 1, 1, .eq (pB false)), ([], 3, 1, .ret (pS r_1)), ([], 4, 1, .eq (pB false)), ([], 8, 1, .ret (pS r_2)), ([], 9, 2, .eq (pB true)), ([], 9, 4, .chr b_2), ([], 9, 6, .eq (pB false)), ([], 11, 1, .eq (pB true))] [([], 6, (.exit 0), (stOf (go (k + 1) 43 0 37 (adv [([], 6, 2, .eq (pB false))]) ref01Dir_L6 (ref01Dir_S6 p v_1))))]) (ex := .ret) (r := (pS (bs [46]))) (by kernel_rfl) rfl (by kernel_rfl) (allC (cg q1) (allC (ref01Bare_ok k p _ q2) (allC (cg q3) (allC q8 (allC (ref01Bare_ok k v_1 _ q13) (allC (cg q14) (allC q15 (allC (cg q16) (allC (cg q17) allN))))))))) (by kernel_rfl) allN
            · obtain rfl := Option.some.inj h
              exact ret_go (k := (k + 1)) Tryz.func43 Tryz.ntmps43 (by kernel_rfl) (by kernel_rfl) (lb rfl) (adv [([], 1, 1, .eq (pB false)), ([], 3, 1, .ret (pS r_1)), ([], 4, 1, .eq (pB false)), ([], 8, 1, .ret (pS r_2)), ([], 9, 2, .eq (pB true)), ([], 9, 4, .chr b_2), ([], 9, 6, .eq (pB false)), ([], 11, 1, .eq (pB false))] [([], 6, (.exit 0), (stOf (go (k + 1) 43 0 37 (adv [([], 6, 2, .eq (pB false))]) ref01Dir_L6 (ref01Dir_S6 p v_1))))]) (ex := .ret) (r := (pS r_2)) (by kernel_rfl) rfl (by kernel_rfl) (allC (cg q1) (allC (ref01Bare_ok k p _ q2) (allC (cg q3) (allC q8 (allC (ref01Bare_ok k v_1 _ q13) (allC (cg q14) (allC q15 (allC (cg q16) (allC (cg q17) allN))))))))) (by kernel_rfl) allN
        · rcases bif_some h with ⟨q15, h⟩ | ⟨q15, h⟩
          · obtain rfl := Option.some.inj h
            exact ret_go (k := (k + 1)) Tryz.func43 Tryz.ntmps43 (by kernel_rfl) (by kernel_rfl) (lb rfl) (adv [([], 1, 1, .eq (pB false)), ([], 3, 1, .ret (pS r_1)), ([], 4, 1, .eq (pB false)), ([], 8, 1, .ret (pS r_2)), ([], 9, 2, .eq (pB false)), ([], 11, 1, .eq (pB true))] [([], 6, (.exit 0), (stOf (go (k + 1) 43 0 37 (adv [([], 6, 2, .eq (pB false))]) ref01Dir_L6 (ref01Dir_S6 p v_1))))]) (ex := .ret) (r := (pS (bs [46]))) (by kernel_rfl) rfl (by kernel_rfl) (allC (cg q1) (allC (ref01Bare_ok k p _ q2) (allC (cg q3) (allC q8 (allC (ref01Bare_ok k v_1 _ q13) (allC (cg q14) (allC (cg q15) allN))))))) (by kernel_rfl) allN
          · obtain rfl := Option.some.inj h
            exact ret_go (k := (k + 1)) Tryz.func43 Tryz.ntmps43 (by kernel_rfl) (by kernel_rfl) (lb rfl) (adv [([], 1, 1, .eq (pB false)), ([], 3, 1, .ret (pS r_1)), ([], 4, 1, .eq (pB false)), ([], 8, 1, .ret (pS r_2)), ([], 9, 2, .eq (pB false)), ([], 11, 1, .eq (pB false))] [([], 6, (.exit 0), (stOf (go (k + 1) 43 0 37 (adv [([], 6, 2, .eq (pB false))]) ref01Dir_L6 (ref01Dir_S6 p v_1))))]) (ex := .ret) (r := (pS r_2)) (by kernel_rfl) rfl (by kernel_rfl) (allC (cg q1) (allC (ref01Bare_ok k p _ q2) (allC (cg q3) (allC q8 (allC (ref01Bare_ok k v_1 _ q13) (allC (cg q14) (allC (cg q15) allN))))))) (by kernel_rfl) allN
end Go.Proofs.YtaenhodkpidocaaGreatDoor.Den
