/- Texts joined by a program of mine (pack.py): DenF0 DenF1 DenF2 DenF3 DenF4 DenF8 DenF9 DenF10 DenF11 DenF12 DenF13 DenF14 DenF15. -/
import Derived.Test.YtdbekeidlppfiaaGreatDoorDenTy
set_option linter.unusedVariables false
set_option linter.unusedSimpArgs false
namespace Go.Proofs.YtdbekeidlppfiaaGreatDoor.Den
open Go Go.RowKit
def stringsliteHasPrefix (s : ByteArray) (prefixF : ByteArray) : Option Bool :=
 bif (decide ((s.size : Int) ≥ (prefixF.size : Int))) then (
 grd (0 ≤ (0 : Int) ∧ (0 : Int) ≤ (prefixF.size : Int) ∧ (prefixF.size : Int) ≤ (s.size : Int)) <|
 some (seq (s.extract 0 ((prefixF.size : Int)).toNat) prefixF)
 ) else (
 some false
 )
set_option maxRecDepth 100000 in
theorem stringsliteHasPrefix_ok (k : Nat) (s : ByteArray) (prefixF : ByteArray) (r : Bool) (h : stringsliteHasPrefix s prefixF = some r) : run0 (k + 1) 126 [(pS s), (pS prefixF)] = some (pB r) := by
  unfold stringsliteHasPrefix at h
  rcases bif_some h with ⟨q1, h⟩ | ⟨q1, h⟩
  · obtain ⟨q2, h⟩ := grd_some h
    obtain rfl := Option.some.inj h
    exact ret_go (k := k) Tryz.func126 Tryz.ntmps126 (by kernel_rfl) (by kernel_rfl) (lb rfl) (adv [([], 1, 5, .eq (pB true)), ([], 1, 9, .sub false)]) (ex := .ret) (r := (pB (seq (s.extract 0 ((prefixF.size : Int)).toNat) prefixF))) (by kernel_rfl) rfl (by kernel_rfl) (allC (cg q1) (allC q2 allN)) (by kernel_rfl) allN
  · obtain rfl := Option.some.inj h
    exact ret_go (k := k) Tryz.func126 Tryz.ntmps126 (by kernel_rfl) (by kernel_rfl) (lb rfl) (adv [([], 1, 5, .eq (pB false))]) (ex := .ret) (r := (pB false)) (by kernel_rfl) rfl (by kernel_rfl) (allC (cg q1) allN) (by kernel_rfl) allN
def stringsliteCutPrefix (s : ByteArray) (prefixF : ByteArray) : Option (ByteArray × Bool) :=
 (stringsliteHasPrefix s prefixF).bind fun r_1 =>
 bif (!r_1) then (
 some (s, false)
 ) else (
 grd (0 ≤ (prefixF.size : Int) ∧ (prefixF.size : Int) ≤ (s.size : Int) ∧ (s.size : Int) ≤ (s.size : Int)) <|
 some ((s.extract ((prefixF.size : Int)).toNat s.size), true)
 )
def stringsCutPrefix (s : ByteArray) (prefixF : ByteArray) : Option (ByteArray × Bool) :=
 (stringsliteCutPrefix s prefixF).bind fun (r_1, r_2) =>
 some (r_1, r_2)
def optionTakerNext (p0 : ByteArray) (p1 : (List ByteArray)) : Option (ByteArray × ByteArray × (List ByteArray)) :=
 (gt p1 (0 : Int)).bind fun y_1 =>
 grd (0 ≤ (1 : Int) ∧ (1 : Int) ≤ (p1.length : Int) ∧ (p1.length : Int) ≤ (p1.length : Int)) <|
 some (y_1, p0, (p1.drop (((1 : Int)).toNat)))
def optionKind (spec : ByteArray) (c : Int) : Option Int :=
 bif (c == (58 : Int)) then (
 some (0 : Int)
 ) else (
 (ixbX spec c).bind fun r_1 =>
 bif (decide (r_1 < (0 : Int))) then (
 some (0 : Int)
 ) else (
 (conX spec (ByteArray.mk [UInt8.ofNat (c).toNat, UInt8.ofNat ((58 : Int)).toNat].toArray)).bind fun r_2 =>
 bif r_2 then (
 some (2 : Int)
 ) else (
 some (1 : Int)
 )
 )
 )
def optionTakerNext2 (p0 : ByteArray) (p1 : (List ByteArray)) (p2 : (List FlagD)) : Option (ByteArray × ByteArray × (List ByteArray) × (List FlagD)) :=
 (gt p1 (0 : Int)).bind fun y_1 =>
 grd (0 ≤ (1 : Int) ∧ (1 : Int) ≤ (p1.length : Int) ∧ (p1.length : Int) ≤ (p1.length : Int)) <|
 some (y_1, p0, (p1.drop (((1 : Int)).toNat)), p2)
end Go.Proofs.YtdbekeidlppfiaaGreatDoor.Den
namespace Go.Proofs.YtdbekeidlppfiaaGreatDoor.Den
open Go Go.RowKit
def optionTakerGroup_b1 : ((ByteArray × ByteArray × (List ByteArray)) ⊕ (ByteArray × ByteArray × (List ByteArray) × (List FlagD))) → Option (((ByteArray × ByteArray × (List ByteArray)) ⊕ (ByteArray × ByteArray × (List ByteArray) × (List FlagD))) ⊕ ((ByteArray × ByteArray × (List ByteArray) × UInt8 × UInt8 × Int) ⊕ (ByteArray × ByteArray × (List ByteArray) × UInt8 × UInt8 × Int) ⊕ (ByteArray × ByteArray × (List ByteArray)) ⊕ (ByteArray × ByteArray × (List ByteArray) × (List FlagD) × UInt8 × UInt8 × Int) ⊕ (ByteArray × ByteArray × (List ByteArray) × (List FlagD) × UInt8 × UInt8 × Int) ⊕ (ByteArray × ByteArray × (List ByteArray) × (List FlagD))))
 | .inl (v0, v1, v2) =>
 bif (!(seq v0 (bs []))) then (
 (gtS v0 (0 : Int)).bind fun b_1 =>
 (gtS v0 (0 : Int)).bind fun b_2 =>
 (optionKind v1 (b_2.toNat : Int)).bind fun r_1 =>
 bif (r_1 == (0 : Int)) then (
 some (.inr (.inl (v0, v1, v2, b_1, b_2, r_1)))
 ) else (
 bif (r_1 == (2 : Int)) then (
 grd (0 ≤ (1 : Int) ∧ (1 : Int) ≤ (v0.size : Int) ∧ (v0.size : Int) ≤ (v0.size : Int)) <|
 grd (0 ≤ (0 : Int) ∧ (0 : Int) ≤ (1 : Int) ∧ (1 : Int) ≤ (v0.size : Int)) <|
 bif (seq (v0.extract ((1 : Int)).toNat v0.size) (bs [])) then (
 bif ((v2.length : Int) == (0 : Int)) then (
 some (.inr (.inr (.inl (v0, v1, v2, b_1, b_2, r_1))))
 ) else (
 (optionTakerNext v1 v2).bind fun (r_2, r_3, r_4) =>
 grd (0 ≤ (1 : Int) ∧ (1 : Int) ≤ ((v0.extract 0 ((1 : Int)).toNat).size : Int) ∧ ((v0.extract 0 ((1 : Int)).toNat).size : Int) ≤ ((v0.extract 0 ((1 : Int)).toNat).size : Int)) <|
 some (.inl (.inr ((((v0.extract 0 ((1 : Int)).toNat).extract ((1 : Int)).toNat (v0.extract 0 ((1 : Int)).toNat).size), r_3, r_4, [(FlagD.mk (b_1.toNat : Int) r_2)]))))
 )
 ) else (
 grd (0 ≤ (1 : Int) ∧ (1 : Int) ≤ ((v0.extract 0 ((1 : Int)).toNat).size : Int) ∧ ((v0.extract 0 ((1 : Int)).toNat).size : Int) ≤ ((v0.extract 0 ((1 : Int)).toNat).size : Int)) <|
 some (.inl (.inr ((((v0.extract 0 ((1 : Int)).toNat).extract ((1 : Int)).toNat (v0.extract 0 ((1 : Int)).toNat).size), v1, v2, [(FlagD.mk (b_1.toNat : Int) (v0.extract ((1 : Int)).toNat v0.size))]))))
 )
 ) else (
 bif (r_1 == (1 : Int)) then (
 grd (0 ≤ (1 : Int) ∧ (1 : Int) ≤ (v0.size : Int) ∧ (v0.size : Int) ≤ (v0.size : Int)) <|
 some (.inl (.inr (((v0.extract ((1 : Int)).toNat v0.size), v1, v2, [(FlagD.mk (b_1.toNat : Int) (bs []))]))))
 ) else (
 grd (0 ≤ (1 : Int) ∧ (1 : Int) ≤ (v0.size : Int) ∧ (v0.size : Int) ≤ (v0.size : Int)) <|
 some (.inl (.inl ((v0.extract ((1 : Int)).toNat v0.size), v1, v2)))
 )
 )
 )
 ) else (
 some (.inr (.inr (.inr (.inl (v0, v1, v2)))))
 )
 | .inr ((v0, v1, v2, v3)) =>
 bif (!(seq v0 (bs []))) then (
 (gtS v0 (0 : Int)).bind fun b_1 =>
 (gtS v0 (0 : Int)).bind fun b_2 =>
 (optionKind v1 (b_2.toNat : Int)).bind fun r_1 =>
 bif (r_1 == (0 : Int)) then (
 some (.inr (.inr (.inr (.inr (.inl (v0, v1, v2, v3, b_1, b_2, r_1))))))
 ) else (
 bif (r_1 == (2 : Int)) then (
 grd (0 ≤ (1 : Int) ∧ (1 : Int) ≤ (v0.size : Int) ∧ (v0.size : Int) ≤ (v0.size : Int)) <|
 grd (0 ≤ (0 : Int) ∧ (0 : Int) ≤ (1 : Int) ∧ (1 : Int) ≤ (v0.size : Int)) <|
 bif (seq (v0.extract ((1 : Int)).toNat v0.size) (bs [])) then (
 bif ((v2.length : Int) == (0 : Int)) then (
 some (.inr (.inr (.inr (.inr (.inr (.inl (v0, v1, v2, v3, b_1, b_2, r_1)))))))
 ) else (
 (optionTakerNext2 v1 v2 v3).bind fun (r_2, r_3, r_4, r_5) =>
 grd (room (r_5.length + 1) 24) <|
 grd (0 ≤ (1 : Int) ∧ (1 : Int) ≤ ((v0.extract 0 ((1 : Int)).toNat).size : Int) ∧ ((v0.extract 0 ((1 : Int)).toNat).size : Int) ≤ ((v0.extract 0 ((1 : Int)).toNat).size : Int)) <|
 some (.inl (.inr ((((v0.extract 0 ((1 : Int)).toNat).extract ((1 : Int)).toNat (v0.extract 0 ((1 : Int)).toNat).size), r_3, r_4, (r_5 ++ [(FlagD.mk (b_1.toNat : Int) r_2)])))))
 )
 ) else (
 grd (room (v3.length + 1) 24) <|
 grd (0 ≤ (1 : Int) ∧ (1 : Int) ≤ ((v0.extract 0 ((1 : Int)).toNat).size : Int) ∧ ((v0.extract 0 ((1 : Int)).toNat).size : Int) ≤ ((v0.extract 0 ((1 : Int)).toNat).size : Int)) <|
 some (.inl (.inr ((((v0.extract 0 ((1 : Int)).toNat).extract ((1 : Int)).toNat (v0.extract 0 ((1 : Int)).toNat).size), v1, v2, (v3 ++ [(FlagD.mk (b_1.toNat : Int) (v0.extract ((1 : Int)).toNat v0.size))])))))
 )
 ) else (
 bif (r_1 == (1 : Int)) then (
 grd (room (v3.length + 1) 24) <|
 grd (0 ≤ (1 : Int) ∧ (1 : Int) ≤ (v0.size : Int) ∧ (v0.size : Int) ≤ (v0.size : Int)) <|
 some (.inl (.inr (((v0.extract ((1 : Int)).toNat v0.size), v1, v2, (v3 ++ [(FlagD.mk (b_1.toNat : Int) (bs []))])))))
 ) else (
 grd (0 ≤ (1 : Int) ∧ (1 : Int) ≤ (v0.size : Int) ∧ (v0.size : Int) ≤ (v0.size : Int)) <|
 some (.inl (.inr (((v0.extract ((1 : Int)).toNat v0.size), v1, v2, v3))))
 )
 )
 )
 ) else (
 some (.inr (.inr (.inr (.inr (.inr (.inr ((v0, v1, v2, v3))))))))
 )
def optionTakerGroup (p0 : ByteArray) (p1 : ByteArray) (p2 : (List ByteArray)) : Option ((ByteArray × (List ByteArray)) ⊕ (ByteArray × (List ByteArray)) ⊕ (ByteArray × (List ByteArray)) ⊕ (ByteArray × (List ByteArray) × (List FlagD)) ⊕ (ByteArray × (List ByteArray) × (List FlagD)) ⊕ (ByteArray × (List ByteArray) × (List FlagD))) :=
 (iterN (optionTakerGroup_b1) LF (.inl (p0, p1, p2))).bind fun X_1 => match X_1 with
 | .inl (v_1, v_2, v_3, b_1, b_2, r_1) => (
 some (.inl (v_2, v_3))
 )
 | .inr (.inl (v_1, v_2, v_3, b_1, b_2, r_1)) => (
 some (.inr (.inl (v_2, v_3)))
 )
 | .inr (.inr (.inl (v_1, v_2, v_3))) => (
 some (.inr (.inr (.inl (v_2, v_3))))
 )
 | .inr (.inr (.inr (.inl (v_4, v_5, v_6, v_7, b_1, b_2, r_1)))) => (
 some (.inr (.inr (.inr (.inl (v_5, v_6, v_7)))))
 )
 | .inr (.inr (.inr (.inr (.inl (v_4, v_5, v_6, v_7, b_1, b_2, r_1))))) => (
 some (.inr (.inr (.inr (.inr (.inl (v_5, v_6, v_7))))))
 )
 | .inr (.inr (.inr (.inr (.inr ((v_4, v_5, v_6, v_7)))))) => (
 some (.inr (.inr (.inr (.inr (.inr ((v_5, v_6, v_7)))))))
 )
end Go.Proofs.YtdbekeidlppfiaaGreatDoor.Den
namespace Go.Proofs.YtdbekeidlppfiaaGreatDoor.Den
open Go Go.RowKit
def optionTakerGroup2_b1 : ((ByteArray × ByteArray × (List ByteArray) × (List FlagD)) ⊕ (ByteArray × ByteArray × (List ByteArray) × (List FlagD))) → Option (((ByteArray × ByteArray × (List ByteArray) × (List FlagD)) ⊕ (ByteArray × ByteArray × (List ByteArray) × (List FlagD))) ⊕ ((ByteArray × ByteArray × (List ByteArray) × (List FlagD) × UInt8 × UInt8 × Int) ⊕ (ByteArray × ByteArray × (List ByteArray) × (List FlagD) × UInt8 × UInt8 × Int) ⊕ (ByteArray × ByteArray × (List ByteArray) × (List FlagD)) ⊕ (ByteArray × ByteArray × (List ByteArray) × (List FlagD) × UInt8 × UInt8 × Int) ⊕ (ByteArray × ByteArray × (List ByteArray) × (List FlagD) × UInt8 × UInt8 × Int) ⊕ (ByteArray × ByteArray × (List ByteArray) × (List FlagD))))
 | .inl (v0, v1, v2, v3) =>
 bif (!(seq v0 (bs []))) then (
 (gtS v0 (0 : Int)).bind fun b_1 =>
 (gtS v0 (0 : Int)).bind fun b_2 =>
 (optionKind v1 (b_2.toNat : Int)).bind fun r_1 =>
 bif (r_1 == (0 : Int)) then (
 some (.inr (.inl (v0, v1, v2, v3, b_1, b_2, r_1)))
 ) else (
 bif (r_1 == (2 : Int)) then (
 grd (0 ≤ (1 : Int) ∧ (1 : Int) ≤ (v0.size : Int) ∧ (v0.size : Int) ≤ (v0.size : Int)) <|
 grd (0 ≤ (0 : Int) ∧ (0 : Int) ≤ (1 : Int) ∧ (1 : Int) ≤ (v0.size : Int)) <|
 bif (seq (v0.extract ((1 : Int)).toNat v0.size) (bs [])) then (
 bif ((v2.length : Int) == (0 : Int)) then (
 some (.inr (.inr (.inl (v0, v1, v2, v3, b_1, b_2, r_1))))
 ) else (
 (optionTakerNext2 v1 v2 v3).bind fun (r_2, r_3, r_4, r_5) =>
 grd (room (r_5.length + 1) 24) <|
 grd (0 ≤ (1 : Int) ∧ (1 : Int) ≤ ((v0.extract 0 ((1 : Int)).toNat).size : Int) ∧ ((v0.extract 0 ((1 : Int)).toNat).size : Int) ≤ ((v0.extract 0 ((1 : Int)).toNat).size : Int)) <|
 some (.inl (.inr ((((v0.extract 0 ((1 : Int)).toNat).extract ((1 : Int)).toNat (v0.extract 0 ((1 : Int)).toNat).size), r_3, r_4, (r_5 ++ [(FlagD.mk (b_1.toNat : Int) r_2)])))))
 )
 ) else (
 grd (room (v3.length + 1) 24) <|
 grd (0 ≤ (1 : Int) ∧ (1 : Int) ≤ ((v0.extract 0 ((1 : Int)).toNat).size : Int) ∧ ((v0.extract 0 ((1 : Int)).toNat).size : Int) ≤ ((v0.extract 0 ((1 : Int)).toNat).size : Int)) <|
 some (.inl (.inr ((((v0.extract 0 ((1 : Int)).toNat).extract ((1 : Int)).toNat (v0.extract 0 ((1 : Int)).toNat).size), v1, v2, (v3 ++ [(FlagD.mk (b_1.toNat : Int) (v0.extract ((1 : Int)).toNat v0.size))])))))
 )
 ) else (
 bif (r_1 == (1 : Int)) then (
 grd (room (v3.length + 1) 24) <|
 grd (0 ≤ (1 : Int) ∧ (1 : Int) ≤ (v0.size : Int) ∧ (v0.size : Int) ≤ (v0.size : Int)) <|
 some (.inl (.inr (((v0.extract ((1 : Int)).toNat v0.size), v1, v2, (v3 ++ [(FlagD.mk (b_1.toNat : Int) (bs []))])))))
 ) else (
 grd (0 ≤ (1 : Int) ∧ (1 : Int) ≤ (v0.size : Int) ∧ (v0.size : Int) ≤ (v0.size : Int)) <|
 some (.inl (.inl ((v0.extract ((1 : Int)).toNat v0.size), v1, v2, v3)))
 )
 )
 )
 ) else (
 some (.inr (.inr (.inr (.inl (v0, v1, v2, v3)))))
 )
 | .inr ((v0, v1, v2, v3)) =>
 bif (!(seq v0 (bs []))) then (
 (gtS v0 (0 : Int)).bind fun b_1 =>
 (gtS v0 (0 : Int)).bind fun b_2 =>
 (optionKind v1 (b_2.toNat : Int)).bind fun r_1 =>
 bif (r_1 == (0 : Int)) then (
 some (.inr (.inr (.inr (.inr (.inl (v0, v1, v2, v3, b_1, b_2, r_1))))))
 ) else (
 bif (r_1 == (2 : Int)) then (
 grd (0 ≤ (1 : Int) ∧ (1 : Int) ≤ (v0.size : Int) ∧ (v0.size : Int) ≤ (v0.size : Int)) <|
 grd (0 ≤ (0 : Int) ∧ (0 : Int) ≤ (1 : Int) ∧ (1 : Int) ≤ (v0.size : Int)) <|
 bif (seq (v0.extract ((1 : Int)).toNat v0.size) (bs [])) then (
 bif ((v2.length : Int) == (0 : Int)) then (
 some (.inr (.inr (.inr (.inr (.inr (.inl (v0, v1, v2, v3, b_1, b_2, r_1)))))))
 ) else (
 (optionTakerNext2 v1 v2 v3).bind fun (r_2, r_3, r_4, r_5) =>
 grd (room (r_5.length + 1) 24) <|
 grd (0 ≤ (1 : Int) ∧ (1 : Int) ≤ ((v0.extract 0 ((1 : Int)).toNat).size : Int) ∧ ((v0.extract 0 ((1 : Int)).toNat).size : Int) ≤ ((v0.extract 0 ((1 : Int)).toNat).size : Int)) <|
 some (.inl (.inr ((((v0.extract 0 ((1 : Int)).toNat).extract ((1 : Int)).toNat (v0.extract 0 ((1 : Int)).toNat).size), r_3, r_4, (r_5 ++ [(FlagD.mk (b_1.toNat : Int) r_2)])))))
 )
 ) else (
 grd (room (v3.length + 1) 24) <|
 grd (0 ≤ (1 : Int) ∧ (1 : Int) ≤ ((v0.extract 0 ((1 : Int)).toNat).size : Int) ∧ ((v0.extract 0 ((1 : Int)).toNat).size : Int) ≤ ((v0.extract 0 ((1 : Int)).toNat).size : Int)) <|
 some (.inl (.inr ((((v0.extract 0 ((1 : Int)).toNat).extract ((1 : Int)).toNat (v0.extract 0 ((1 : Int)).toNat).size), v1, v2, (v3 ++ [(FlagD.mk (b_1.toNat : Int) (v0.extract ((1 : Int)).toNat v0.size))])))))
 )
 ) else (
 bif (r_1 == (1 : Int)) then (
 grd (room (v3.length + 1) 24) <|
 grd (0 ≤ (1 : Int) ∧ (1 : Int) ≤ (v0.size : Int) ∧ (v0.size : Int) ≤ (v0.size : Int)) <|
 some (.inl (.inr (((v0.extract ((1 : Int)).toNat v0.size), v1, v2, (v3 ++ [(FlagD.mk (b_1.toNat : Int) (bs []))])))))
 ) else (
 grd (0 ≤ (1 : Int) ∧ (1 : Int) ≤ (v0.size : Int) ∧ (v0.size : Int) ≤ (v0.size : Int)) <|
 some (.inl (.inr (((v0.extract ((1 : Int)).toNat v0.size), v1, v2, v3))))
 )
 )
 )
 ) else (
 some (.inr (.inr (.inr (.inr (.inr (.inr ((v0, v1, v2, v3))))))))
 )
def optionTakerGroup2 (p0 : ByteArray) (p1 : ByteArray) (p2 : (List ByteArray)) (p3 : (List FlagD)) : Option ((ByteArray × (List ByteArray) × (List FlagD)) ⊕ (ByteArray × (List ByteArray) × (List FlagD)) ⊕ (ByteArray × (List ByteArray) × (List FlagD)) ⊕ (ByteArray × (List ByteArray) × (List FlagD)) ⊕ (ByteArray × (List ByteArray) × (List FlagD)) ⊕ (ByteArray × (List ByteArray) × (List FlagD))) :=
 (iterN (optionTakerGroup2_b1) LF (.inl (p0, p1, p2, p3))).bind fun X_1 => match X_1 with
 | .inl (v_1, v_2, v_3, v_4, b_1, b_2, r_1) => (
 some (.inl (v_2, v_3, v_4))
 )
 | .inr (.inl (v_1, v_2, v_3, v_4, b_1, b_2, r_1)) => (
 some (.inr (.inl (v_2, v_3, v_4)))
 )
 | .inr (.inr (.inl (v_1, v_2, v_3, v_4))) => (
 some (.inr (.inr (.inl (v_2, v_3, v_4))))
 )
 | .inr (.inr (.inr (.inl (v_5, v_6, v_7, v_8, b_1, b_2, r_1)))) => (
 some (.inr (.inr (.inr (.inl (v_6, v_7, v_8)))))
 )
 | .inr (.inr (.inr (.inr (.inl (v_5, v_6, v_7, v_8, b_1, b_2, r_1))))) => (
 some (.inr (.inr (.inr (.inr (.inl (v_6, v_7, v_8))))))
 )
 | .inr (.inr (.inr (.inr (.inr ((v_5, v_6, v_7, v_8)))))) => (
 some (.inr (.inr (.inr (.inr (.inr ((v_6, v_7, v_8)))))))
 )
end Go.Proofs.YtdbekeidlppfiaaGreatDoor.Den
namespace Go.Proofs.YtdbekeidlppfiaaGreatDoor.Den
open Go Go.RowKit
def optionTakerAll_b1 : ((ByteArray × (List ByteArray)) ⊕ (ByteArray × (List ByteArray) × (List FlagD))) → Option (((ByteArray × (List ByteArray)) ⊕ (ByteArray × (List ByteArray) × (List FlagD))) ⊕ ((ByteArray × (List ByteArray) × ByteArray × ByteArray × Bool) ⊕ (ByteArray × (List ByteArray) × ByteArray × ByteArray × Bool) ⊕ (ByteArray × (List ByteArray) × ByteArray × ByteArray × Bool × ByteArray × ByteArray × (List ByteArray)) ⊕ (ByteArray × (List ByteArray) × ByteArray × ByteArray × Bool × ByteArray × ByteArray × (List ByteArray) × ByteArray × (List ByteArray)) ⊕ (ByteArray × (List ByteArray) × ByteArray × ByteArray × Bool × ByteArray × ByteArray × (List ByteArray) × ByteArray × (List ByteArray)) ⊕ (ByteArray × (List ByteArray) × ByteArray × ByteArray × Bool × ByteArray × ByteArray × (List ByteArray) × ByteArray × (List ByteArray) × (List FlagD)) ⊕ (ByteArray × (List ByteArray) × ByteArray × ByteArray × Bool × ByteArray × ByteArray × (List ByteArray) × ByteArray × (List ByteArray) × (List FlagD)) ⊕ (ByteArray × (List ByteArray)) ⊕ (ByteArray × (List ByteArray) × (List FlagD) × ByteArray × ByteArray × Bool) ⊕ (ByteArray × (List ByteArray) × (List FlagD) × ByteArray × ByteArray × Bool) ⊕ (ByteArray × (List ByteArray) × (List FlagD) × ByteArray × ByteArray × Bool × ByteArray × ByteArray × (List ByteArray) × (List FlagD)) ⊕ (ByteArray × (List ByteArray) × (List FlagD) × ByteArray × ByteArray × Bool × ByteArray × ByteArray × (List ByteArray) × (List FlagD) × ByteArray × (List ByteArray) × (List FlagD)) ⊕ (ByteArray × (List ByteArray) × (List FlagD) × ByteArray × ByteArray × Bool × ByteArray × ByteArray × (List ByteArray) × (List FlagD) × ByteArray × (List ByteArray) × (List FlagD)) ⊕ (ByteArray × (List ByteArray) × (List FlagD) × ByteArray × ByteArray × Bool × ByteArray × ByteArray × (List ByteArray) × (List FlagD) × ByteArray × (List ByteArray) × (List FlagD)) ⊕ (ByteArray × (List ByteArray) × (List FlagD) × ByteArray × ByteArray × Bool × ByteArray × ByteArray × (List ByteArray) × (List FlagD) × ByteArray × (List ByteArray) × (List FlagD)) ⊕ (ByteArray × (List ByteArray) × (List FlagD))))
 | .inl (v0, v1) =>
 bif (decide ((v1.length : Int) > (0 : Int))) then (
 (gt v1 (0 : Int)).bind fun y_1 =>
 (stringsCutPrefix y_1 (bs [45])).bind fun (r_1, r_2) =>
 bif (!r_2) then (
 some (.inr (.inl (v0, v1, y_1, r_1, r_2)))
 ) else (
 bif (seq r_1 (bs [])) then (
 some (.inr (.inr (.inl (v0, v1, y_1, r_1, r_2))))
 ) else (
 (optionTakerNext v0 v1).bind fun (r_3, r_4, r_5) =>
 bif (seq r_1 (bs [45])) then (
 some (.inr (.inr (.inr (.inl (v0, v1, y_1, r_1, r_2, r_3, r_4, r_5)))))
 ) else (
 (optionTakerGroup r_1 r_4 r_5).bind fun X_2 => match X_2 with
 | .inl (r_6, r_7) => (
 some (.inr (.inr (.inr (.inr (.inl (v0, v1, y_1, r_1, r_2, r_3, r_4, r_5, r_6, r_7))))))
 )
 | .inr (.inl (r_8, r_9)) => (
 some (.inr (.inr (.inr (.inr (.inr (.inl (v0, v1, y_1, r_1, r_2, r_3, r_4, r_5, r_8, r_9)))))))
 )
 | .inr (.inr (.inl (r_10, r_11))) => (
 some (.inl (.inl (r_10, r_11)))
 )
 | .inr (.inr (.inr (.inl (r_12, r_13, r_14)))) => (
 some (.inr (.inr (.inr (.inr (.inr (.inr (.inl (v0, v1, y_1, r_1, r_2, r_3, r_4, r_5, r_12, r_13, r_14))))))))
 )
 | .inr (.inr (.inr (.inr (.inl (r_15, r_16, r_17))))) => (
 some (.inr (.inr (.inr (.inr (.inr (.inr (.inr (.inl (v0, v1, y_1, r_1, r_2, r_3, r_4, r_5, r_15, r_16, r_17)))))))))
 )
 | .inr (.inr (.inr (.inr (.inr ((r_18, r_19, r_20)))))) => (
 some (.inl (.inr ((r_18, r_19, r_20))))
 )
 )
 )
 )
 ) else (
 some (.inr (.inr (.inr (.inr (.inr (.inr (.inr (.inr (.inl (v0, v1))))))))))
 )
 | .inr ((v0, v1, v2)) =>
 bif (decide ((v1.length : Int) > (0 : Int))) then (
 (gt v1 (0 : Int)).bind fun y_1 =>
 (stringsCutPrefix y_1 (bs [45])).bind fun (r_1, r_2) =>
 bif (!r_2) then (
 some (.inr (.inr (.inr (.inr (.inr (.inr (.inr (.inr (.inr (.inl (v0, v1, v2, y_1, r_1, r_2)))))))))))
 ) else (
 bif (seq r_1 (bs [])) then (
 some (.inr (.inr (.inr (.inr (.inr (.inr (.inr (.inr (.inr (.inr (.inl (v0, v1, v2, y_1, r_1, r_2))))))))))))
 ) else (
 (optionTakerNext2 v0 v1 v2).bind fun (r_3, r_4, r_5, r_6) =>
 bif (seq r_1 (bs [45])) then (
 some (.inr (.inr (.inr (.inr (.inr (.inr (.inr (.inr (.inr (.inr (.inr (.inl (v0, v1, v2, y_1, r_1, r_2, r_3, r_4, r_5, r_6)))))))))))))
 ) else (
 (optionTakerGroup2 r_1 r_4 r_5 r_6).bind fun X_2 => match X_2 with
 | .inl (r_7, r_8, r_9) => (
 some (.inr (.inr (.inr (.inr (.inr (.inr (.inr (.inr (.inr (.inr (.inr (.inr (.inl (v0, v1, v2, y_1, r_1, r_2, r_3, r_4, r_5, r_6, r_7, r_8, r_9))))))))))))))
 )
 | .inr (.inl (r_10, r_11, r_12)) => (
 some (.inr (.inr (.inr (.inr (.inr (.inr (.inr (.inr (.inr (.inr (.inr (.inr (.inr (.inl (v0, v1, v2, y_1, r_1, r_2, r_3, r_4, r_5, r_6, r_10, r_11, r_12)))))))))))))))
 )
 | .inr (.inr (.inl (r_13, r_14, r_15))) => (
 some (.inl (.inr ((r_13, r_14, r_15))))
 )
 | .inr (.inr (.inr (.inl (r_16, r_17, r_18)))) => (
 some (.inr (.inr (.inr (.inr (.inr (.inr (.inr (.inr (.inr (.inr (.inr (.inr (.inr (.inr (.inl (v0, v1, v2, y_1, r_1, r_2, r_3, r_4, r_5, r_6, r_16, r_17, r_18))))))))))))))))
 )
 | .inr (.inr (.inr (.inr (.inl (r_19, r_20, r_21))))) => (
 some (.inr (.inr (.inr (.inr (.inr (.inr (.inr (.inr (.inr (.inr (.inr (.inr (.inr (.inr (.inr (.inl (v0, v1, v2, y_1, r_1, r_2, r_3, r_4, r_5, r_6, r_19, r_20, r_21)))))))))))))))))
 )
 | .inr (.inr (.inr (.inr (.inr ((r_22, r_23, r_24)))))) => (
 some (.inl (.inr ((r_22, r_23, r_24))))
 )
 )
 )
 )
 ) else (
 some (.inr (.inr (.inr (.inr (.inr (.inr (.inr (.inr (.inr (.inr (.inr (.inr (.inr (.inr (.inr (.inr ((v0, v1, v2))))))))))))))))))
 )
end Go.Proofs.YtdbekeidlppfiaaGreatDoor.Den
namespace Go.Proofs.YtdbekeidlppfiaaGreatDoor.Den
open Go Go.RowKit
def jobFail (j : JobD) (path : ByteArray) (e : Int) : Option JobD :=
 grd (¬ (((path.size + (bs [58, 32, 101, 114, 114, 111, 114, 32]).size : Nat) : Int) > IntKind.i64.max)) <|
 (itoaX e).bind fun r_1 =>
 grd (¬ ((((path ++ (bs [58, 32, 101, 114, 114, 111, 114, 32])).size + r_1.size : Nat) : Int) > IntKind.i64.max)) <|
 some (JobD.mk j.kind j.p j.phase j.fd j.nF j.modeF j.tries j.atF j.flags j.path j.path2 j.text j.names j.stack j.draws true (1 : Int) ((path ++ (bs [58, 32, 101, 114, 114, 111, 114, 32])) ++ r_1) e)
set_option maxRecDepth 100000 in
theorem jobFail_ok (k : Nat) (j : JobD) (path : ByteArray) (e : Int) (r : JobD) (h : jobFail j path e = some r) : run0 (k + 1) 26 [(JobD.a j), (pS path), (pI e)] = some (JobD.a r) := by
  unfold jobFail at h
  obtain ⟨q1, h⟩ := grd_some h
  obtain ⟨r_1, q2, h⟩ := bnd_some h
  obtain ⟨q3, h⟩ := grd_some h
  obtain rfl := Option.some.inj h
  exact ret_go (k := k) Tryz.func26 Tryz.ntmps26 (by kernel_rfl) (by kernel_rfl) (lb rfl) (adv [([], 1, 2, .cat), ([], 1, 4, .ret (pS r_1)), ([], 1, 5, .cat)]) (ex := .ret) (r := (.agg [(pI j.kind), (pI j.p), (pI j.phase), (pI j.fd), (pI j.nF), (pI j.modeF), (pI j.tries), (pI j.atF), (pI j.flags), (pS j.path), (pS j.path2), (pS j.text), (.list 1 false (j.names.map cS)), (.list 3 false (j.stack.map FrameD.c)), (.list 1 false (j.draws.map cI)), (pB true), (pI (1 : Int)), (pS ((path ++ (bs [58, 32, 101, 114, 114, 111, 114, 32])) ++ r_1)), (pI e)])) (by kernel_rfl) rfl (by kernel_rfl) (allC q1 (allC (itoaX_ok k e _ q2) (allC q3 allN))) (by kernel_rfl) allN
end Go.Proofs.YtdbekeidlppfiaaGreatDoor.Den
namespace Go.Proofs.YtdbekeidlppfiaaGreatDoor.Den
open Go Go.RowKit
noncomputable def ref15Natural_L2 : Code := cAt (codeOf Tryz.f123) [true, true, false, false]
def ref15Natural_R2 (x0 : Int) (x1 : ByteArray) : St := ⟨envL [(0, (.v (.int .u64 x0))), (3, (pS x1))], hsL [] []⟩
def ref15Natural_S2 : (Int × ByteArray) → St
 | (v0, v1) => ref15Natural_R2 v0 v1
def ref15Natural_b2 : (Int × ByteArray) → Option ((Int × ByteArray) ⊕ (Int × ByteArray))
 | (v0, v1) =>
 grd (0 ≤ (Int.tmod v0 (10 : Int)) ∧ (Int.tmod v0 (10 : Int)) ≤ (IntKind.wrap .u64 ((Int.tmod v0 (10 : Int)) + (1 : Int))) ∧ (IntKind.wrap .u64 ((Int.tmod v0 (10 : Int)) + (1 : Int))) ≤ ((bs [48, 49, 50, 51, 52, 53, 54, 55, 56, 57]).size : Int)) <|
 grd (¬ (((((bs [48, 49, 50, 51, 52, 53, 54, 55, 56, 57]).extract ((Int.tmod v0 (10 : Int))).toNat ((IntKind.wrap .u64 ((Int.tmod v0 (10 : Int)) + (1 : Int)))).toNat).size + v1.size : Nat) : Int) > IntKind.i64.max)) <|
 bif ((IntKind.wrap .u64 (Int.tdiv v0 (10 : Int))) == (0 : Int)) then (
 some (.inr (v0, v1))
 ) else (
 some (.inl ((IntKind.wrap .u64 (Int.tdiv v0 (10 : Int))), (((bs [48, 49, 50, 51, 52, 53, 54, 55, 56, 57]).extract ((Int.tmod v0 (10 : Int))).toNat ((IntKind.wrap .u64 ((Int.tmod v0 (10 : Int)) + (1 : Int)))).toNat) ++ v1)))
 )
set_option maxRecDepth 100000 in
theorem ref15Natural_t2 (k : Nat) (a a1 : (Int × ByteArray)) (h : ref15Natural_b2 a = some (.inl a1)) : ∃ σ, run1 k 123 0 17 ref15Natural_L2 (ref15Natural_S2 a) = some (.normal, σ) ∧ canonS 0 [0, 3] σ = some (ref15Natural_S2 a1) := by
  obtain ⟨v0, v1⟩ := a
  unfold ref15Natural_b2 at h
  try dsimp only at h
  obtain ⟨q1, h⟩ := grd_some h
  obtain ⟨q2, h⟩ := grd_some h
  rcases bif_some h with ⟨q3, h⟩ | ⟨q3, h⟩
  · cases h
  · obtain rfl := Sum.inl.inj (Option.some.inj h)
    exact ⟨_, run_go (k := k) (f := 123) (r0 := 0) (nt := 17) (c := ref15Natural_L2) (σ := (ref15Natural_S2 (v0, v1))) (adv [([], 2, 5, .sub false), ([], 2, 7, .cat), ([], 4, 1, .eq (pB false))]) (ex := .normal) (by kernel_rfl) (by kernel_rfl) (allC q1 (allC q2 (allC (cg q3) allN))), (by kernel_rfl)⟩
def ref15Natural (n : Int) : Option ByteArray :=
 (iterN (ref15Natural_b2) LF (n, (bs []))).bind fun (v_1, v_2) =>
 some (((bs [48, 49, 50, 51, 52, 53, 54, 55, 56, 57]).extract ((Int.tmod v_1 (10 : Int))).toNat ((IntKind.wrap .u64 ((Int.tmod v_1 (10 : Int)) + (1 : Int)))).toNat) ++ v_2)
set_option maxRecDepth 100000 in
theorem ref15Natural_ok (k : Nat) (n : Int) (r : ByteArray) (h : ref15Natural n = some r) : run0 (k + 1) 123 [(.v (.int .u64 n))] = some (pS r) := by
  unfold ref15Natural at h
  obtain ⟨X_1, q1, h⟩ := bnd_some h
  obtain ⟨a_1, q2, q3⟩ := loop_iter (f := run1 k 123 0 17 ref15Natural_L2) (ref15Natural_S2) (ref15Natural_b2) (ref15Natural_t2 k) LF (n, (bs [])) _ (stOf (goStop k 123 0 17 (adv []) 2 (codeOf Tryz.f123) (argS 123 [(.v (.int .u64 n))]))) q1 (by kernel_rfl)
  obtain ⟨v_1, v_2⟩ := a_1
  unfold ref15Natural_b2 at q2
  try dsimp only at q2
  obtain ⟨q6, q2⟩ := grd_some q2
  obtain ⟨q7, q2⟩ := grd_some q2
  rcases bif_some q2 with ⟨q8, q2⟩ | ⟨q8, q2⟩
  · cases q2
    try dsimp only at h
    have q4 := run_go (k := k) (f := 123) (r0 := 0) (nt := 17) (c := ref15Natural_L2) (σ := (ref15Natural_S2 (v_1, v_2))) (adv [([], 2, 5, .sub false), ([], 2, 7, .cat), ([], 4, 1, .eq (pB true))]) (ex := .ret) (by kernel_rfl) (by kernel_rfl) (allC q6 (allC q7 (allC (cg q8) allN)))
    have q5 := q3 _ _ (by intro e; cases e) q4
    obtain rfl := Option.some.inj h
    exact ret_go (k := k) Tryz.func123 Tryz.ntmps123 (by kernel_rfl) (by kernel_rfl) (lb rfl) (adv [] [([], 2, .ret, (stOf (go k 123 0 17 (adv [([], 2, 5, .sub false), ([], 2, 7, .cat), ([], 4, 1, .eq (pB true))]) ref15Natural_L2 (ref15Natural_S2 (v_1, v_2)))))]) (ex := .ret) (r := (pS (((bs [48, 49, 50, 51, 52, 53, 54, 55, 56, 57]).extract ((Int.tmod v_1 (10 : Int))).toNat ((IntKind.wrap .u64 ((Int.tmod v_1 (10 : Int)) + (1 : Int)))).toNat) ++ v_2))) (by kernel_rfl) rfl (by kernel_rfl) (allC q5 allN) (by kernel_rfl) allN
  · cases q2
def ref15Digits (n : Int) : Option ByteArray :=
 bif (decide (n < (0 : Int))) then (
 (ref15Natural (IntKind.wrap .u64 ((IntKind.wrap .u64 (IntKind.wrap .i64 (0 - (w64 (n + (1 : Int)))))) + (1 : Int)))).bind fun r_1 =>
 grd (¬ ((((bs [45]).size + r_1.size : Nat) : Int) > IntKind.i64.max)) <|
 some ((bs [45]) ++ r_1)
 ) else (
 (ref15Natural (IntKind.wrap .u64 n)).bind fun r_1 =>
 some r_1
 )
set_option maxRecDepth 100000 in
theorem ref15Digits_ok (k : Nat) (n : Int) (r : ByteArray) (h : ref15Digits n = some r) : run0 (k + 2) 75 [(pI n)] = some (pS r) := by
  unfold ref15Digits at h
  rcases bif_some h with ⟨q1, h⟩ | ⟨q1, h⟩
  · obtain ⟨r_1, q2, h⟩ := bnd_some h
    obtain ⟨q3, h⟩ := grd_some h
    obtain rfl := Option.some.inj h
    exact ret_go (k := (k + 1)) Tryz.func75 Tryz.ntmps75 (by kernel_rfl) (by kernel_rfl) (lb rfl) (adv [([], 1, 1, .eq (pB true)), ([], 2, 5, .ret (pS r_1)), ([], 2, 6, .cat)]) (ex := .ret) (r := (pS ((bs [45]) ++ r_1))) (by kernel_rfl) rfl (by kernel_rfl) (allC (cg q1) (allC (ref15Natural_ok k (IntKind.wrap .u64 ((IntKind.wrap .u64 (IntKind.wrap .i64 (0 - (w64 (n + (1 : Int)))))) + (1 : Int))) _ q2) (allC q3 allN))) (by kernel_rfl) allN
  · obtain ⟨r_1, q2, h⟩ := bnd_some h
    obtain rfl := Option.some.inj h
    exact ret_go (k := (k + 1)) Tryz.func75 Tryz.ntmps75 (by kernel_rfl) (by kernel_rfl) (lb rfl) (adv [([], 1, 1, .eq (pB false)), ([], 3, 2, .ret (pS r_1))]) (ex := .ret) (r := (pS r_1)) (by kernel_rfl) rfl (by kernel_rfl) (allC (cg q1) (allC (ref15Natural_ok k (IntKind.wrap .u64 n) _ q2) allN)) (by kernel_rfl) allN
def ref15Fail (j : JobD) (path : ByteArray) (e : Int) : Option JobD :=
 grd (¬ (((path.size + (bs [58, 32, 101, 114, 114, 111, 114, 32]).size : Nat) : Int) > IntKind.i64.max)) <|
 (ref15Digits e).bind fun r_1 =>
 grd (¬ ((((path ++ (bs [58, 32, 101, 114, 114, 111, 114, 32])).size + r_1.size : Nat) : Int) > IntKind.i64.max)) <|
 some (JobD.mk j.kind j.p j.phase j.fd j.nF j.modeF j.tries j.atF j.flags j.path j.path2 j.text j.names j.stack j.draws true (1 : Int) ((path ++ (bs [58, 32, 101, 114, 114, 111, 114, 32])) ++ r_1) e)
set_option maxRecDepth 100000 in
theorem ref15Fail_ok (k : Nat) (j : JobD) (path : ByteArray) (e : Int) (r : JobD) (h : ref15Fail j path e = some r) : run0 (k + 3) 34 [(JobD.a j), (pS path), (pI e)] = some (JobD.a r) := by
  unfold ref15Fail at h
  obtain ⟨q1, h⟩ := grd_some h
  obtain ⟨r_1, q2, h⟩ := bnd_some h
  obtain ⟨q3, h⟩ := grd_some h
  obtain rfl := Option.some.inj h
  exact ret_go (k := (k + 2)) Tryz.func34 Tryz.ntmps34 (by kernel_rfl) (by kernel_rfl) (lb rfl) (adv [([], 4, 1, .cat), ([], 4, 3, .ret (pS r_1)), ([], 4, 4, .cat)]) (ex := .ret) (r := (.agg [(pI j.kind), (pI j.p), (pI j.phase), (pI j.fd), (pI j.nF), (pI j.modeF), (pI j.tries), (pI j.atF), (pI j.flags), (pS j.path), (pS j.path2), (pS j.text), (.list 1 false (j.names.map cS)), (.list 3 false (j.stack.map FrameD.c)), (.list 1 false (j.draws.map cI)), (pB true), (pI (1 : Int)), (pS ((path ++ (bs [58, 32, 101, 114, 114, 111, 114, 32])) ++ r_1)), (pI e)])) (by kernel_rfl) rfl (by kernel_rfl) (allC q1 (allC (ref15Digits_ok k e _ q2) (allC q3 allN))) (by kernel_rfl) allN
noncomputable def ref01Split_L4 : Code := cAt (codeOf Tryz.f76) [true, true, true, false, true, false, false]
def ref01Split_R4 (x0 : ByteArray) (x1 : Nat) (x2 : ByteArray) (x3 : Int) (x4 : List (List PV)) : St := ⟨envL [(0, (pS x0)), (5, (.row [0, TAG] 1 0 x1)), (6, (pS x2)), (7, (pI x3))], hsL [some ⟨1, 9, x4, true, true⟩] [0]⟩
theorem ref01Split_R4_eq {x0 y0 : ByteArray} {x1 y1 : Nat} {x2 y2 : ByteArray} {x3 y3 : Int} {x4 y4 : List (List PV)} (h0 : x0 = y0) (h1 : x1 = y1) (h2 : x2 = y2) (h3 : x3 = y3) (h4 : x4 = y4) : ref01Split_R4 x0 x1 x2 x3 x4 = ref01Split_R4 y0 y1 y2 y3 y4 := by
  subst h0 h1 h2 h3 h4; rfl
def ref01Split_S4 (p0 : ByteArray) : (ByteArray × Int × (List ByteArray)) → St
 | (v0, v1, v2) => ref01Split_R4 p0 v2.length v0 v1 (v2.map cS)
def ref01Split_b4 (p0 : ByteArray) : (ByteArray × Int × (List ByteArray)) → Option ((ByteArray × Int × (List ByteArray)) ⊕ (ByteArray × Int × (List ByteArray)))
 | (v0, v1, v2) =>
 bif (decide (v1 < (p0.size : Int))) then (
 (gtS p0 v1).bind fun b_1 =>
 bif ((b_1.toNat : Int) != (47 : Int)) then (
 grd (0 ≤ v1 ∧ v1 ≤ (w64 (v1 + (1 : Int))) ∧ (w64 (v1 + (1 : Int))) ≤ (p0.size : Int)) <|
 grd (¬ (((v0.size + (p0.extract (v1).toNat ((w64 (v1 + (1 : Int)))).toNat).size : Nat) : Int) > IntKind.i64.max)) <|
 bif (!(seq (v0 ++ (p0.extract (v1).toNat ((w64 (v1 + (1 : Int)))).toNat)) (bs []))) then (
 (gtS p0 v1).bind fun b_2 =>
 bif ((b_2.toNat : Int) == (47 : Int)) then (
 grd (room (v2.length + 1) 16) <|
 some (.inl ((bs []), (w64 (v1 + (1 : Int))), (v2 ++ [(v0 ++ (p0.extract (v1).toNat ((w64 (v1 + (1 : Int)))).toNat))])))
 ) else (
 bif (v1 == (w64 ((p0.size : Int) - (1 : Int)))) then (
 grd (room (v2.length + 1) 16) <|
 some (.inl ((bs []), (w64 (v1 + (1 : Int))), (v2 ++ [(v0 ++ (p0.extract (v1).toNat ((w64 (v1 + (1 : Int)))).toNat))])))
 ) else (
 some (.inl ((v0 ++ (p0.extract (v1).toNat ((w64 (v1 + (1 : Int)))).toNat)), (w64 (v1 + (1 : Int))), v2))
 )
 )
 ) else (
 some (.inl ((v0 ++ (p0.extract (v1).toNat ((w64 (v1 + (1 : Int)))).toNat)), (w64 (v1 + (1 : Int))), v2))
 )
 ) else (
 bif (!(seq v0 (bs []))) then (
 (gtS p0 v1).bind fun b_2 =>
 bif ((b_2.toNat : Int) == (47 : Int)) then (
 grd (room (v2.length + 1) 16) <|
 some (.inl ((bs []), (w64 (v1 + (1 : Int))), (v2 ++ [v0])))
 ) else (
 bif (v1 == (w64 ((p0.size : Int) - (1 : Int)))) then (
 grd (room (v2.length + 1) 16) <|
 some (.inl ((bs []), (w64 (v1 + (1 : Int))), (v2 ++ [v0])))
 ) else (
 some (.inl (v0, (w64 (v1 + (1 : Int))), v2))
 )
 )
 ) else (
 some (.inl (v0, (w64 (v1 + (1 : Int))), v2))
 )
 )
 ) else (
 some (.inr (v0, v1, v2))
 )
set_option maxRecDepth 100000 in
theorem ref01Split_t4 (k : Nat) (p0 : ByteArray) (a a1 : (ByteArray × Int × (List ByteArray))) (h : ref01Split_b4 p0 a = some (.inl a1)) : ∃ σ, run1 k 76 0 63 ref01Split_L4 (ref01Split_S4 p0 a) = some (.normal, σ) ∧ canonS 0 [0, 5, 6, 7] σ = some (ref01Split_S4 p0 a1) := by
  obtain ⟨v0, v1, v2⟩ := a
  unfold ref01Split_b4 at h
  try dsimp only at h
  rcases bif_some h with ⟨q1, h⟩ | ⟨q1, h⟩
  · obtain ⟨b_1, q2, h⟩ := bnd_some h
    rcases bif_some h with ⟨q3, h⟩ | ⟨q3, h⟩
    · obtain ⟨q4, h⟩ := grd_some h
      obtain ⟨q5, h⟩ := grd_some h
      rcases bif_some h with ⟨q6, h⟩ | ⟨q6, h⟩
      · obtain ⟨b_2, q7, h⟩ := bnd_some h
        rcases bif_some h with ⟨q8, h⟩ | ⟨q8, h⟩
        · obtain ⟨q9, h⟩ := grd_some h
          obtain rfl := Sum.inl.inj (Option.some.inj h)
          exact ⟨_, run_go (k := k) (f := 76) (r0 := 0) (nt := 63) (c := ref01Split_L4) (σ := (ref01Split_S4 p0 (v0, v1, v2))) (adv [([], 4, 3, .eq (pB true)), ([], 6, 2, .chr b_1), ([], 6, 3, .eq (pB true)), ([], 7, 5, .sub false), ([], 7, 6, .cat), ([], 8, 2, .eq (pB true)), ([], 8, 5, .chr b_2), ([], 8, 7, .eq (pB true)), ([], 9, 3, .ok)]) (ex := .normal) (by kernel_rfl) (by kernel_rfl) (allC (cg q1) (allC q2 (allC (cg q3) (allC q4 (allC q5 (allC (cg q6) (allC q7 (allC (cg q8) (allC (app_ok (rfl : (v2.map cS) = v2.map cS) (rfl : v2.length = v2.length) q9) allN))))))))), (Eq.trans (b := some (ref01Split_R4 p0 (v2.length + 1) (bs []) (w64 (v1 + (1 : Int))) ((v2.map cS) ++ [[(pS (v0 ++ (p0.extract (v1).toNat ((w64 (v1 + (1 : Int)))).toNat)))]]))) (by kernel_rfl) (congrArg some ((ref01Split_R4_eq (rfl : p0 = p0) ((len_cat (rfl : v2.length = v2.length) v2 (rfl : 1 = [(v0 ++ (p0.extract (v1).toNat ((w64 (v1 + (1 : Int)))).toNat))].length)) : (v2.length + 1) = ((v2 ++ [(v0 ++ (p0.extract (v1).toNat ((w64 (v1 + (1 : Int)))).toNat))]).length)) (rfl : (bs []) = (bs [])) (rfl : (w64 (v1 + (1 : Int))) = (w64 (v1 + (1 : Int)))) ((enc_cat (rfl : (v2.map cS) = v2.map cS) (show [[(pS (v0 ++ (p0.extract (v1).toNat ((w64 (v1 + (1 : Int)))).toNat)))]] = [(v0 ++ (p0.extract (v1).toNat ((w64 (v1 + (1 : Int)))).toNat))].map cS from rfl)) : ((v2.map cS) ++ [[(pS (v0 ++ (p0.extract (v1).toNat ((w64 (v1 + (1 : Int)))).toNat)))]]) = ((v2 ++ [(v0 ++ (p0.extract (v1).toNat ((w64 (v1 + (1 : Int)))).toNat))]).map cS))).trans (by kernel_rfl : ref01Split_R4 p0 ((v2 ++ [(v0 ++ (p0.extract (v1).toNat ((w64 (v1 + (1 : Int)))).toNat))]).length) (bs []) (w64 (v1 + (1 : Int))) ((v2 ++ [(v0 ++ (p0.extract (v1).toNat ((w64 (v1 + (1 : Int)))).toNat))]).map cS) = ref01Split_S4 p0 ((bs []), (w64 (v1 + (1 : Int))), (v2 ++ [(v0 ++ (p0.extract (v1).toNat ((w64 (v1 + (1 : Int)))).toNat))]))))))⟩
        · rcases bif_some h with ⟨q9, h⟩ | ⟨q9, h⟩
          · obtain ⟨q10, h⟩ := grd_some h
            obtain rfl := Sum.inl.inj (Option.some.inj h)
            exact ⟨_, run_go (k := k) (f := 76) (r0 := 0) (nt := 63) (c := ref01Split_L4) (σ := (ref01Split_S4 p0 (v0, v1, v2))) (adv [([], 4, 3, .eq (pB true)), ([], 6, 2, .chr b_1), ([], 6, 3, .eq (pB true)), ([], 7, 5, .sub false), ([], 7, 6, .cat), ([], 8, 2, .eq (pB true)), ([], 8, 5, .chr b_2), ([], 8, 7, .eq (pB false)), ([], 8, 14, .eq (pB true)), ([], 9, 3, .ok)]) (ex := .normal) (by kernel_rfl) (by kernel_rfl) (allC (cg q1) (allC q2 (allC (cg q3) (allC q4 (allC q5 (allC (cg q6) (allC q7 (allC (cg q8) (allC (cg q9) (allC (app_ok (rfl : (v2.map cS) = v2.map cS) (rfl : v2.length = v2.length) q10) allN)))))))))), (Eq.trans (b := some (ref01Split_R4 p0 (v2.length + 1) (bs []) (w64 (v1 + (1 : Int))) ((v2.map cS) ++ [[(pS (v0 ++ (p0.extract (v1).toNat ((w64 (v1 + (1 : Int)))).toNat)))]]))) (by kernel_rfl) (congrArg some ((ref01Split_R4_eq (rfl : p0 = p0) ((len_cat (rfl : v2.length = v2.length) v2 (rfl : 1 = [(v0 ++ (p0.extract (v1).toNat ((w64 (v1 + (1 : Int)))).toNat))].length)) : (v2.length + 1) = ((v2 ++ [(v0 ++ (p0.extract (v1).toNat ((w64 (v1 + (1 : Int)))).toNat))]).length)) (rfl : (bs []) = (bs [])) (rfl : (w64 (v1 + (1 : Int))) = (w64 (v1 + (1 : Int)))) ((enc_cat (rfl : (v2.map cS) = v2.map cS) (show [[(pS (v0 ++ (p0.extract (v1).toNat ((w64 (v1 + (1 : Int)))).toNat)))]] = [(v0 ++ (p0.extract (v1).toNat ((w64 (v1 + (1 : Int)))).toNat))].map cS from rfl)) : ((v2.map cS) ++ [[(pS (v0 ++ (p0.extract (v1).toNat ((w64 (v1 + (1 : Int)))).toNat)))]]) = ((v2 ++ [(v0 ++ (p0.extract (v1).toNat ((w64 (v1 + (1 : Int)))).toNat))]).map cS))).trans (by kernel_rfl : ref01Split_R4 p0 ((v2 ++ [(v0 ++ (p0.extract (v1).toNat ((w64 (v1 + (1 : Int)))).toNat))]).length) (bs []) (w64 (v1 + (1 : Int))) ((v2 ++ [(v0 ++ (p0.extract (v1).toNat ((w64 (v1 + (1 : Int)))).toNat))]).map cS) = ref01Split_S4 p0 ((bs []), (w64 (v1 + (1 : Int))), (v2 ++ [(v0 ++ (p0.extract (v1).toNat ((w64 (v1 + (1 : Int)))).toNat))]))))))⟩
          · obtain rfl := Sum.inl.inj (Option.some.inj h)
            exact ⟨_, run_go (k := k) (f := 76) (r0 := 0) (nt := 63) (c := ref01Split_L4) (σ := (ref01Split_S4 p0 (v0, v1, v2))) (adv [([], 4, 3, .eq (pB true)), ([], 6, 2, .chr b_1), ([], 6, 3, .eq (pB true)), ([], 7, 5, .sub false), ([], 7, 6, .cat), ([], 8, 2, .eq (pB true)), ([], 8, 5, .chr b_2), ([], 8, 7, .eq (pB false)), ([], 8, 14, .eq (pB false))]) (ex := .normal) (by kernel_rfl) (by kernel_rfl) (allC (cg q1) (allC q2 (allC (cg q3) (allC q4 (allC q5 (allC (cg q6) (allC q7 (allC (cg q8) (allC (cg q9) allN))))))))), (by kernel_rfl)⟩
      · obtain rfl := Sum.inl.inj (Option.some.inj h)
        exact ⟨_, run_go (k := k) (f := 76) (r0 := 0) (nt := 63) (c := ref01Split_L4) (σ := (ref01Split_S4 p0 (v0, v1, v2))) (adv [([], 4, 3, .eq (pB true)), ([], 6, 2, .chr b_1), ([], 6, 3, .eq (pB true)), ([], 7, 5, .sub false), ([], 7, 6, .cat), ([], 8, 2, .eq (pB false))]) (ex := .normal) (by kernel_rfl) (by kernel_rfl) (allC (cg q1) (allC q2 (allC (cg q3) (allC q4 (allC q5 (allC (cg q6) allN)))))), (by kernel_rfl)⟩
    · rcases bif_some h with ⟨q4, h⟩ | ⟨q4, h⟩
      · obtain ⟨b_2, q5, h⟩ := bnd_some h
        rcases bif_some h with ⟨q6, h⟩ | ⟨q6, h⟩
        · obtain ⟨q7, h⟩ := grd_some h
          obtain rfl := Sum.inl.inj (Option.some.inj h)
          exact ⟨_, run_go (k := k) (f := 76) (r0 := 0) (nt := 63) (c := ref01Split_L4) (σ := (ref01Split_S4 p0 (v0, v1, v2))) (adv [([], 4, 3, .eq (pB true)), ([], 6, 2, .chr b_1), ([], 6, 3, .eq (pB false)), ([], 8, 2, .eq (pB true)), ([], 8, 5, .chr b_2), ([], 8, 7, .eq (pB true)), ([], 9, 3, .ok)]) (ex := .normal) (by kernel_rfl) (by kernel_rfl) (allC (cg q1) (allC q2 (allC (cg q3) (allC (cg q4) (allC q5 (allC (cg q6) (allC (app_ok (rfl : (v2.map cS) = v2.map cS) (rfl : v2.length = v2.length) q7) allN))))))), (Eq.trans (b := some (ref01Split_R4 p0 (v2.length + 1) (bs []) (w64 (v1 + (1 : Int))) ((v2.map cS) ++ [[(pS v0)]]))) (by kernel_rfl) (congrArg some ((ref01Split_R4_eq (rfl : p0 = p0) ((len_cat (rfl : v2.length = v2.length) v2 (rfl : 1 = [v0].length)) : (v2.length + 1) = ((v2 ++ [v0]).length)) (rfl : (bs []) = (bs [])) (rfl : (w64 (v1 + (1 : Int))) = (w64 (v1 + (1 : Int)))) ((enc_cat (rfl : (v2.map cS) = v2.map cS) (show [[(pS v0)]] = [v0].map cS from rfl)) : ((v2.map cS) ++ [[(pS v0)]]) = ((v2 ++ [v0]).map cS))).trans (by kernel_rfl : ref01Split_R4 p0 ((v2 ++ [v0]).length) (bs []) (w64 (v1 + (1 : Int))) ((v2 ++ [v0]).map cS) = ref01Split_S4 p0 ((bs []), (w64 (v1 + (1 : Int))), (v2 ++ [v0]))))))⟩
        · rcases bif_some h with ⟨q7, h⟩ | ⟨q7, h⟩
          · obtain ⟨q8, h⟩ := grd_some h
            obtain rfl := Sum.inl.inj (Option.some.inj h)
            exact ⟨_, run_go (k := k) (f := 76) (r0 := 0) (nt := 63) (c := ref01Split_L4) (σ := (ref01Split_S4 p0 (v0, v1, v2))) (adv [([], 4, 3, .eq (pB true)), ([], 6, 2, .chr b_1), ([], 6, 3, .eq (pB false)), ([], 8, 2, .eq (pB true)), ([], 8, 5, .chr b_2), ([], 8, 7, .eq (pB false)), ([], 8, 14, .eq (pB true)), ([], 9, 3, .ok)]) (ex := .normal) (by kernel_rfl) (by kernel_rfl) (allC (cg q1) (allC q2 (allC (cg q3) (allC (cg q4) (allC q5 (allC (cg q6) (allC (cg q7) (allC (app_ok (rfl : (v2.map cS) = v2.map cS) (rfl : v2.length = v2.length) q8) allN)))))))), (Eq.trans (b := some (ref01Split_R4 p0 (v2.length + 1) (bs []) (w64 (v1 + (1 : Int))) ((v2.map cS) ++ [[(pS v0)]]))) (by kernel_rfl) (congrArg some ((ref01Split_R4_eq (rfl : p0 = p0) ((len_cat (rfl : v2.length = v2.length) v2 (rfl : 1 = [v0].length)) : (v2.length + 1) = ((v2 ++ [v0]).length)) (rfl : (bs []) = (bs [])) (rfl : (w64 (v1 + (1 : Int))) = (w64 (v1 + (1 : Int)))) ((enc_cat (rfl : (v2.map cS) = v2.map cS) (show [[(pS v0)]] = [v0].map cS from rfl)) : ((v2.map cS) ++ [[(pS v0)]]) = ((v2 ++ [v0]).map cS))).trans (by kernel_rfl : ref01Split_R4 p0 ((v2 ++ [v0]).length) (bs []) (w64 (v1 + (1 : Int))) ((v2 ++ [v0]).map cS) = ref01Split_S4 p0 ((bs []), (w64 (v1 + (1 : Int))), (v2 ++ [v0]))))))⟩
          · obtain rfl := Sum.inl.inj (Option.some.inj h)
            exact ⟨_, run_go (k := k) (f := 76) (r0 := 0) (nt := 63) (c := ref01Split_L4) (σ := (ref01Split_S4 p0 (v0, v1, v2))) (adv [([], 4, 3, .eq (pB true)), ([], 6, 2, .chr b_1), ([], 6, 3, .eq (pB false)), ([], 8, 2, .eq (pB true)), ([], 8, 5, .chr b_2), ([], 8, 7, .eq (pB false)), ([], 8, 14, .eq (pB false))]) (ex := .normal) (by kernel_rfl) (by kernel_rfl) (allC (cg q1) (allC q2 (allC (cg q3) (allC (cg q4) (allC q5 (allC (cg q6) (allC (cg q7) allN))))))), (by kernel_rfl)⟩
      · obtain rfl := Sum.inl.inj (Option.some.inj h)
        exact ⟨_, run_go (k := k) (f := 76) (r0 := 0) (nt := 63) (c := ref01Split_L4) (σ := (ref01Split_S4 p0 (v0, v1, v2))) (adv [([], 4, 3, .eq (pB true)), ([], 6, 2, .chr b_1), ([], 6, 3, .eq (pB false)), ([], 8, 2, .eq (pB false))]) (ex := .normal) (by kernel_rfl) (by kernel_rfl) (allC (cg q1) (allC q2 (allC (cg q3) (allC (cg q4) allN)))), (by kernel_rfl)⟩
  · cases h
def ref01Split (p : ByteArray) : Option ((List ByteArray) × Bool × Bool) :=
 (iterN (ref01Split_b4 p) LF ((bs []), (0 : Int), ([] : (List ByteArray)))).bind fun (v_1, v_2, v_3) =>
 bif (!(seq p (bs []))) then (
 (gtS p (0 : Int)).bind fun b_3 =>
 bif (!(seq p (bs []))) then (
 (gtS p (w64 ((p.size : Int) - (1 : Int)))).bind fun b_4 =>
 some (v_3, ((b_3.toNat : Int) == (47 : Int)), ((b_4.toNat : Int) == (47 : Int)))
 ) else (
 some (v_3, ((b_3.toNat : Int) == (47 : Int)), false)
 )
 ) else (
 bif (!(seq p (bs []))) then (
 (gtS p (w64 ((p.size : Int) - (1 : Int)))).bind fun b_3 =>
 some (v_3, false, ((b_3.toNat : Int) == (47 : Int)))
 ) else (
 some (v_3, false, false)
 )
 )
set_option maxRecDepth 100000 in
theorem ref01Split_ok (k : Nat) (p : ByteArray) (r : ((List ByteArray) × Bool × Bool)) (h : ref01Split p = some r) : run0 (k + 1) 76 [(pS p)] = some (.tup [(.list 1 false (r.1.map cS)), (pB r.2.1), (pB r.2.2)]) := by
  unfold ref01Split at h
  obtain ⟨X_1, q1, h⟩ := bnd_some h
  obtain ⟨a_1, q2, q3⟩ := loop_iter (f := run1 k 76 0 63 ref01Split_L4) (ref01Split_S4 p) (ref01Split_b4 p) (ref01Split_t4 k p) LF ((bs []), (0 : Int), ([] : (List ByteArray))) _ (stOf (goStop k 76 0 63 (adv []) 4 (codeOf Tryz.f76) (argS 76 [(pS p)]))) q1 (Eq.trans (b := some (ref01Split_R4 p 0 (bs []) (0 : Int) [])) (by kernel_rfl) (congrArg some ((ref01Split_R4_eq (rfl : p = p) (rfl : 0 = (([] : (List ByteArray)).length)) (rfl : (bs []) = (bs [])) (rfl : (0 : Int) = (0 : Int)) (rfl : [] = (([] : (List ByteArray)).map cS))).trans (by kernel_rfl : ref01Split_R4 p (([] : (List ByteArray)).length) (bs []) (0 : Int) (([] : (List ByteArray)).map cS) = ref01Split_S4 p ((bs []), (0 : Int), ([] : (List ByteArray)))))))
  obtain ⟨v_1, v_2, v_3⟩ := a_1
  unfold ref01Split_b4 at q2
  try dsimp only at q2
  rcases bif_some q2 with ⟨q6, q2⟩ | ⟨q6, q2⟩
  · obtain ⟨b_1, q7, q2⟩ := bnd_some q2
    rcases bif_some q2 with ⟨q8, q2⟩ | ⟨q8, q2⟩
    · obtain ⟨q9, q2⟩ := grd_some q2
      obtain ⟨q10, q2⟩ := grd_some q2
      rcases bif_some q2 with ⟨q11, q2⟩ | ⟨q11, q2⟩
      · obtain ⟨b_2, q12, q2⟩ := bnd_some q2
        rcases bif_some q2 with ⟨q13, q2⟩ | ⟨q13, q2⟩
        · obtain ⟨q14, q2⟩ := grd_some q2
          cases q2
        · rcases bif_some q2 with ⟨q14, q2⟩ | ⟨q14, q2⟩
          · obtain ⟨q15, q2⟩ := grd_some q2
            cases q2
          · cases q2
      · cases q2
    · rcases bif_some q2 with ⟨q9, q2⟩ | ⟨q9, q2⟩
      · obtain ⟨b_2, q10, q2⟩ := bnd_some q2
        rcases bif_some q2 with ⟨q11, q2⟩ | ⟨q11, q2⟩
        · obtain ⟨q12, q2⟩ := grd_some q2
          cases q2
        · rcases bif_some q2 with ⟨q12, q2⟩ | ⟨q12, q2⟩
          · obtain ⟨q13, q2⟩ := grd_some q2
            cases q2
          · cases q2
      · cases q2
  · cases q2
    try dsimp only at h
    have q4 := run_go (k := k) (f := 76) (r0 := 0) (nt := 63) (c := ref01Split_L4) (σ := (ref01Split_S4 p (v_1, v_2, v_3))) (adv [([], 4, 3, .eq (pB false))]) (ex := (.exit 0)) (by kernel_rfl) (by kernel_rfl) (allC (cg q6) allN)
    have q5 := q3 _ _ (by intro e; cases e) q4
    rcases bif_some h with ⟨q16, h⟩ | ⟨q16, h⟩
    · obtain ⟨b_3, q17, h⟩ := bnd_some h
      rcases bif_some h with ⟨q18, h⟩ | ⟨q18, h⟩
      · obtain ⟨b_4, q19, h⟩ := bnd_some h
        obtain rfl := Option.some.inj h
        exact ret_go (k := k) Tryz.func76 Tryz.ntmps76 (by kernel_rfl) (by kernel_rfl) (lb rfl) (adv [([], 11, 3, .eq (pB true)), ([], 11, 5, .chr b_3), ([], 11, 10, .eq (pB true)), ([], 11, 15, .chr b_4)] [([], 4, (.exit 0), (stOf (go k 76 0 63 (adv [([], 4, 3, .eq (pB false))]) ref01Split_L4 (ref01Split_S4 p (v_1, v_2, v_3)))))]) (ex := .ret) (r := (.tup [(.list 1 false (v_3.map cS)), (pB ((b_3.toNat : Int) == (47 : Int))), (pB ((b_4.toNat : Int) == (47 : Int)))])) (by kernel_rfl) rfl (by kernel_rfl) (allC q5 (allC (cg q16) (allC q17 (allC (cg q18) (allC q19 allN))))) (by kernel_rfl) (allC (row_ok (rfl : (v_3.map cS) = v_3.map cS) (rfl : v_3.length = v_3.length)) allN)
      · obtain rfl := Option.some.inj h
        exact ret_go (k := k) Tryz.func76 Tryz.ntmps76 (by kernel_rfl) (by kernel_rfl) (lb rfl) (adv [([], 11, 3, .eq (pB true)), ([], 11, 5, .chr b_3), ([], 11, 10, .eq (pB false))] [([], 4, (.exit 0), (stOf (go k 76 0 63 (adv [([], 4, 3, .eq (pB false))]) ref01Split_L4 (ref01Split_S4 p (v_1, v_2, v_3)))))]) (ex := .ret) (r := (.tup [(.list 1 false (v_3.map cS)), (pB ((b_3.toNat : Int) == (47 : Int))), (pB false)])) (by kernel_rfl) rfl (by kernel_rfl) (allC q5 (allC (cg q16) (allC q17 (allC (cg q18) allN)))) (by kernel_rfl) (allC (row_ok (rfl : (v_3.map cS) = v_3.map cS) (rfl : v_3.length = v_3.length)) allN)
    · rcases bif_some h with ⟨q17, h⟩ | ⟨q17, h⟩
      · obtain ⟨b_3, q18, h⟩ := bnd_some h
        obtain rfl := Option.some.inj h
        exact ret_go (k := k) Tryz.func76 Tryz.ntmps76 (by kernel_rfl) (by kernel_rfl) (lb rfl) (adv [([], 11, 3, .eq (pB false)), ([], 11, 10, .eq (pB true)), ([], 11, 15, .chr b_3)] [([], 4, (.exit 0), (stOf (go k 76 0 63 (adv [([], 4, 3, .eq (pB false))]) ref01Split_L4 (ref01Split_S4 p (v_1, v_2, v_3)))))]) (ex := .ret) (r := (.tup [(.list 1 false (v_3.map cS)), (pB false), (pB ((b_3.toNat : Int) == (47 : Int)))])) (by kernel_rfl) rfl (by kernel_rfl) (allC q5 (allC (cg q16) (allC (cg q17) (allC q18 allN)))) (by kernel_rfl) (allC (row_ok (rfl : (v_3.map cS) = v_3.map cS) (rfl : v_3.length = v_3.length)) allN)
      · obtain rfl := Option.some.inj h
        exact ret_go (k := k) Tryz.func76 Tryz.ntmps76 (by kernel_rfl) (by kernel_rfl) (lb rfl) (adv [([], 11, 3, .eq (pB false)), ([], 11, 10, .eq (pB false))] [([], 4, (.exit 0), (stOf (go k 76 0 63 (adv [([], 4, 3, .eq (pB false))]) ref01Split_L4 (ref01Split_S4 p (v_1, v_2, v_3)))))]) (ex := .ret) (r := (.tup [(.list 1 false (v_3.map cS)), (pB false), (pB false)])) (by kernel_rfl) rfl (by kernel_rfl) (allC q5 (allC (cg q16) (allC (cg q17) allN))) (by kernel_rfl) (allC (row_ok (rfl : (v_3.map cS) = v_3.map cS) (rfl : v_3.length = v_3.length)) allN)
end Go.Proofs.YtdbekeidlppfiaaGreatDoor.Den
namespace Go.Proofs.YtdbekeidlppfiaaGreatDoor.Den
open Go Go.RowKit
noncomputable def ref01Texts_L4 : Code := cAt (codeOf Tryz.f29) [true, true, false, true, false, false]
def ref01Texts_R4 (x0 : List (List PV)) (x1 : List (List PV)) (x2 : Int) : St := ⟨envL [(0, (.list 1 false x0)), (1, (.list 1 false x1)), (5, (pI x2))], hsL [] []⟩
def ref01Texts_S4 (p0 : (List ByteArray)) (p1 : (List ByteArray)) : Int → St
 | v0 => ref01Texts_R4 (p0.map cS) (p1.map cS) v0
def ref01Texts_b4 (p0 : (List ByteArray)) (p1 : (List ByteArray)) : Int → Option (Int ⊕ ((Int × ByteArray × ByteArray) ⊕ Int))
 | v0 =>
 bif (decide (v0 < (p0.length : Int))) then (
 (gt p0 v0).bind fun y_1 =>
 (gt p1 v0).bind fun y_2 =>
 bif (!(seq y_1 y_2)) then (
 some (.inr (.inl (v0, y_1, y_2)))
 ) else (
 some (.inl (w64 (v0 + (1 : Int))))
 )
 ) else (
 some (.inr (.inr (v0)))
 )
set_option maxRecDepth 100000 in
theorem ref01Texts_t4 (k : Nat) (p0 : (List ByteArray)) (p1 : (List ByteArray)) (v0 a1 : Int) (h : ref01Texts_b4 p0 p1 v0 = some (.inl a1)) : ∃ σ, run1 k 29 0 26 ref01Texts_L4 (ref01Texts_S4 p0 p1 v0) = some (.normal, σ) ∧ canonS 0 [0, 1, 5] σ = some (ref01Texts_S4 p0 p1 a1) := by
  unfold ref01Texts_b4 at h
  try dsimp only at h
  rcases bif_some h with ⟨q1, h⟩ | ⟨q1, h⟩
  · obtain ⟨y_1, q2, h⟩ := bnd_some h
    obtain ⟨y_2, q3, h⟩ := bnd_some h
    rcases bif_some h with ⟨q4, h⟩ | ⟨q4, h⟩
    · cases h
    · obtain rfl := Sum.inl.inj (Option.some.inj h)
      exact ⟨_, run_go (k := k) (f := 29) (r0 := 0) (nt := 26) (c := ref01Texts_L4) (σ := (ref01Texts_S4 p0 p1 v0)) (adv [([], 4, 2, .eq (pI (p0.length : Int))), ([], 4, 3, .eq (pB true)), ([], 6, 2, .elem [(pS y_1)]), ([], 6, 6, .elem [(pS y_2)]), ([], 6, 8, .eq (pB false))]) (ex := .normal) (by kernel_rfl) (by kernel_rfl) (allC (len_ob (rfl : (p0.map cS) = p0.map cS)) (allC (cg q1) (allC (gt_list (c := cS) q2) (allC (gt_list (c := cS) q3) (allC (cg q4) allN))))), (by kernel_rfl)⟩
  · cases h
def ref01Texts (a : (List ByteArray)) (b : (List ByteArray)) : Option Bool :=
 bif ((a.length : Int) != (b.length : Int)) then (
 some false
 ) else (
 (iterN (ref01Texts_b4 a b) LF (0 : Int)).bind fun X_1 => match X_1 with
 | .inl (v_1, y_1, y_2) => (
 some false
 )
 | .inr (v_1) => (
 some true
 )
 )
set_option maxRecDepth 100000 in
theorem ref01Texts_ok (k : Nat) (a : (List ByteArray)) (b : (List ByteArray)) (r : Bool) (h : ref01Texts a b = some r) : run0 (k + 1) 29 [(.list 1 false (a.map cS)), (.list 1 false (b.map cS))] = some (pB r) := by
  unfold ref01Texts at h
  rcases bif_some h with ⟨q1, h⟩ | ⟨q1, h⟩
  · obtain rfl := Option.some.inj h
    exact ret_go (k := k) Tryz.func29 Tryz.ntmps29 (by kernel_rfl) (by kernel_rfl) (lb rfl) (adv [([], 1, 1, .eq (pI (a.length : Int))), ([], 1, 3, .eq (pI (b.length : Int))), ([], 1, 4, .eq (pB true))]) (ex := .ret) (r := (pB false)) (by kernel_rfl) rfl (by kernel_rfl) (allC (len_ob (rfl : (a.map cS) = a.map cS)) (allC (len_ob (rfl : (b.map cS) = b.map cS)) (allC (cg q1) allN))) (by kernel_rfl) allN
  · obtain ⟨X_1, q2, h⟩ := bnd_some h
    obtain ⟨v_1, q3, q4⟩ := loop_iter (f := run1 k 29 0 26 ref01Texts_L4) (ref01Texts_S4 a b) (ref01Texts_b4 a b) (ref01Texts_t4 k a b) LF (0 : Int) _ (stOf (goStop k 29 0 26 (adv [([], 1, 1, .eq (pI (a.length : Int))), ([], 1, 3, .eq (pI (b.length : Int))), ([], 1, 4, .eq (pB false))]) 4 (codeOf Tryz.f29) (argS 29 [(.list 1 false (a.map cS)), (.list 1 false (b.map cS))]))) q2 (by kernel_rfl)
    unfold ref01Texts_b4 at q3
    try dsimp only at q3
    rcases bif_some q3 with ⟨q7, q3⟩ | ⟨q7, q3⟩
    · obtain ⟨y_1, q8, q3⟩ := bnd_some q3
      obtain ⟨y_2, q9, q3⟩ := bnd_some q3
      rcases bif_some q3 with ⟨q10, q3⟩ | ⟨q10, q3⟩
      · cases q3
        try dsimp only at h
        have q5 := run_go (k := k) (f := 29) (r0 := 0) (nt := 26) (c := ref01Texts_L4) (σ := (ref01Texts_S4 a b v_1)) (adv [([], 4, 2, .eq (pI (a.length : Int))), ([], 4, 3, .eq (pB true)), ([], 6, 2, .elem [(pS y_1)]), ([], 6, 6, .elem [(pS y_2)]), ([], 6, 8, .eq (pB true))]) (ex := .ret) (by kernel_rfl) (by kernel_rfl) (allC (len_ob (rfl : (a.map cS) = a.map cS)) (allC (cg q7) (allC (gt_list (c := cS) q8) (allC (gt_list (c := cS) q9) (allC (cg q10) allN)))))
        have q6 := q4 _ _ (by intro e; cases e) q5
        obtain rfl := Option.some.inj h
        exact ret_go (k := k) Tryz.func29 Tryz.ntmps29 (by kernel_rfl) (by kernel_rfl) (lb rfl) (adv [([], 1, 1, .eq (pI (a.length : Int))), ([], 1, 3, .eq (pI (b.length : Int))), ([], 1, 4, .eq (pB false))] [([], 4, .ret, (stOf (go k 29 0 26 (adv [([], 4, 2, .eq (pI (a.length : Int))), ([], 4, 3, .eq (pB true)), ([], 6, 2, .elem [(pS y_1)]), ([], 6, 6, .elem [(pS y_2)]), ([], 6, 8, .eq (pB true))]) ref01Texts_L4 (ref01Texts_S4 a b v_1))))]) (ex := .ret) (r := (pB false)) (by kernel_rfl) rfl (by kernel_rfl) (allC (len_ob (rfl : (a.map cS) = a.map cS)) (allC (len_ob (rfl : (b.map cS) = b.map cS)) (allC (cg q1) (allC q6 allN)))) (by kernel_rfl) allN
      · cases q3
    · cases q3
      try dsimp only at h
      have q5 := run_go (k := k) (f := 29) (r0 := 0) (nt := 26) (c := ref01Texts_L4) (σ := (ref01Texts_S4 a b v_1)) (adv [([], 4, 2, .eq (pI (a.length : Int))), ([], 4, 3, .eq (pB false))]) (ex := (.exit 0)) (by kernel_rfl) (by kernel_rfl) (allC (len_ob (rfl : (a.map cS) = a.map cS)) (allC (cg q7) allN))
      have q6 := q4 _ _ (by intro e; cases e) q5
      obtain rfl := Option.some.inj h
      exact ret_go (k := k) Tryz.func29 Tryz.ntmps29 (by kernel_rfl) (by kernel_rfl) (lb rfl) (adv [([], 1, 1, .eq (pI (a.length : Int))), ([], 1, 3, .eq (pI (b.length : Int))), ([], 1, 4, .eq (pB false))] [([], 4, (.exit 0), (stOf (go k 29 0 26 (adv [([], 4, 2, .eq (pI (a.length : Int))), ([], 4, 3, .eq (pB false))]) ref01Texts_L4 (ref01Texts_S4 a b v_1))))]) (ex := .ret) (r := (pB true)) (by kernel_rfl) rfl (by kernel_rfl) (allC (len_ob (rfl : (a.map cS) = a.map cS)) (allC (len_ob (rfl : (b.map cS) = b.map cS)) (allC (cg q1) (allC q6 allN)))) (by kernel_rfl) allN
end Go.Proofs.YtdbekeidlppfiaaGreatDoor.Den
namespace Go.Proofs.YtdbekeidlppfiaaGreatDoor.Den
open Go Go.RowKit
noncomputable def ref15Frames_L4 : Code := cAt (codeOf Tryz.f30) [true, true, false, true, false, false]
def ref15Frames_R4 (x0 : List (List PV)) (x1 : List (List PV)) (x2 : Int) : St := ⟨envL [(0, (.list 3 false x0)), (1, (.list 3 false x1)), (5, (pI x2))], hsL [] []⟩
def ref15Frames_S4 (p0 : (List FrameD)) (p1 : (List FrameD)) : Int → St
 | v0 => ref15Frames_R4 (p0.map FrameD.c) (p1.map FrameD.c) v0
def ref15Frames_b4 (p0 : (List FrameD)) (p1 : (List FrameD)) : Int → Option (Int ⊕ ((Int × FrameD × FrameD) ⊕ (Int × FrameD × FrameD × FrameD × FrameD) ⊕ (Int × FrameD × FrameD × FrameD × FrameD × FrameD × FrameD × Bool) ⊕ Int))
 | v0 =>
 bif (decide (v0 < (p0.length : Int))) then (
 (gt p0 v0).bind fun y_1 =>
 (gt p1 v0).bind fun y_2 =>
 bif (y_1.fd != y_2.fd) then (
 some (.inr (.inl (v0, y_1, y_2)))
 ) else (
 (gt p0 v0).bind fun y_3 =>
 (gt p1 v0).bind fun y_4 =>
 bif (!(seq y_3.name y_4.name)) then (
 some (.inr (.inr (.inl (v0, y_1, y_2, y_3, y_4))))
 ) else (
 (gt p0 v0).bind fun y_5 =>
 (gt p1 v0).bind fun y_6 =>
 (ref01Texts y_5.names y_6.names).bind fun r_1 =>
 bif (!r_1) then (
 some (.inr (.inr (.inr (.inl (v0, y_1, y_2, y_3, y_4, y_5, y_6, r_1)))))
 ) else (
 some (.inl (w64 (v0 + (1 : Int))))
 )
 )
 )
 ) else (
 some (.inr (.inr (.inr (.inr (v0)))))
 )
set_option maxRecDepth 100000 in
theorem ref15Frames_t4 (k : Nat) (p0 : (List FrameD)) (p1 : (List FrameD)) (v0 a1 : Int) (h : ref15Frames_b4 p0 p1 v0 = some (.inl a1)) : ∃ σ, run1 (k + 1) 30 0 55 ref15Frames_L4 (ref15Frames_S4 p0 p1 v0) = some (.normal, σ) ∧ canonS 0 [0, 1, 5] σ = some (ref15Frames_S4 p0 p1 a1) := by
  unfold ref15Frames_b4 at h
  try dsimp only at h
  rcases bif_some h with ⟨q1, h⟩ | ⟨q1, h⟩
  · obtain ⟨y_1, q2, h⟩ := bnd_some h
    obtain ⟨y_2, q3, h⟩ := bnd_some h
    rcases bif_some h with ⟨q4, h⟩ | ⟨q4, h⟩
    · cases h
    · obtain ⟨y_3, q5, h⟩ := bnd_some h
      obtain ⟨y_4, q6, h⟩ := bnd_some h
      rcases bif_some h with ⟨q7, h⟩ | ⟨q7, h⟩
      · cases h
      · obtain ⟨y_5, q8, h⟩ := bnd_some h
        obtain ⟨y_6, q9, h⟩ := bnd_some h
        obtain ⟨r_1, q10, h⟩ := bnd_some h
        rcases bif_some h with ⟨q11, h⟩ | ⟨q11, h⟩
        · cases h
        · obtain rfl := Sum.inl.inj (Option.some.inj h)
          exact ⟨_, run_go (k := (k + 1)) (f := 30) (r0 := 0) (nt := 55) (c := ref15Frames_L4) (σ := (ref15Frames_S4 p0 p1 v0)) (adv [([], 4, 2, .eq (pI (p0.length : Int))), ([], 4, 3, .eq (pB true)), ([], 6, 2, .elem [(pI y_1.fd), (pS y_1.name), (.list 1 false (y_1.names.map cS))]), ([], 6, 7, .elem [(pI y_2.fd), (pS y_2.name), (.list 1 false (y_2.names.map cS))]), ([], 6, 11, .eq (pB false)), ([], 6, 14, .elem [(pI y_3.fd), (pS y_3.name), (.list 1 false (y_3.names.map cS))]), ([], 6, 19, .elem [(pI y_4.fd), (pS y_4.name), (.list 1 false (y_4.names.map cS))]), ([], 6, 24, .eq (pB false)), ([], 6, 27, .elem [(pI y_5.fd), (pS y_5.name), (.list 1 false (y_5.names.map cS))]), ([], 6, 32, .elem [(pI y_6.fd), (pS y_6.name), (.list 1 false (y_6.names.map cS))]), ([], 6, 35, .ret (pB r_1)), ([], 6, 37, .eq (pB false))]) (ex := .normal) (by kernel_rfl) (by kernel_rfl) (allC (len_ob (rfl : (p0.map FrameD.c) = p0.map FrameD.c)) (allC (cg q1) (allC (gt_list (c := FrameD.c) q2) (allC (gt_list (c := FrameD.c) q3) (allC (cg q4) (allC (gt_list (c := FrameD.c) q5) (allC (gt_list (c := FrameD.c) q6) (allC (cg q7) (allC (gt_list (c := FrameD.c) q8) (allC (gt_list (c := FrameD.c) q9) (allC (ref01Texts_ok k y_5.names y_6.names _ q10) (allC (cg q11) allN)))))))))))), (by kernel_rfl)⟩
  · cases h
def ref15Frames (a : (List FrameD)) (b : (List FrameD)) : Option Bool :=
 bif ((a.length : Int) != (b.length : Int)) then (
 some false
 ) else (
 (iterN (ref15Frames_b4 a b) LF (0 : Int)).bind fun X_1 => match X_1 with
 | .inl (v_1, y_1, y_2) => (
 some false
 )
 | .inr (.inl (v_1, y_1, y_2, y_3, y_4)) => (
 some false
 )
 | .inr (.inr (.inl (v_1, y_1, y_2, y_3, y_4, y_5, y_6, r_1))) => (
 some false
 )
 | .inr (.inr (.inr (v_1))) => (
 some true
 )
 )
set_option maxRecDepth 100000 in
theorem ref15Frames_ok (k : Nat) (a : (List FrameD)) (b : (List FrameD)) (r : Bool) (h : ref15Frames a b = some r) : run0 (k + 2) 30 [(.list 3 false (a.map FrameD.c)), (.list 3 false (b.map FrameD.c))] = some (pB r) := by
  unfold ref15Frames at h
  rcases bif_some h with ⟨q1, h⟩ | ⟨q1, h⟩
  · obtain rfl := Option.some.inj h
    exact ret_go (k := (k + 1)) Tryz.func30 Tryz.ntmps30 (by kernel_rfl) (by kernel_rfl) (lb rfl) (adv [([], 1, 1, .eq (pI (a.length : Int))), ([], 1, 3, .eq (pI (b.length : Int))), ([], 1, 4, .eq (pB true))]) (ex := .ret) (r := (pB false)) (by kernel_rfl) rfl (by kernel_rfl) (allC (len_ob (rfl : (a.map FrameD.c) = a.map FrameD.c)) (allC (len_ob (rfl : (b.map FrameD.c) = b.map FrameD.c)) (allC (cg q1) allN))) (by kernel_rfl) allN
  · obtain ⟨X_1, q2, h⟩ := bnd_some h
    obtain ⟨v_1, q3, q4⟩ := loop_iter (f := run1 (k + 1) 30 0 55 ref15Frames_L4) (ref15Frames_S4 a b) (ref15Frames_b4 a b) (ref15Frames_t4 k a b) LF (0 : Int) _ (stOf (goStop (k + 1) 30 0 55 (adv [([], 1, 1, .eq (pI (a.length : Int))), ([], 1, 3, .eq (pI (b.length : Int))), ([], 1, 4, .eq (pB false))]) 4 (codeOf Tryz.f30) (argS 30 [(.list 3 false (a.map FrameD.c)), (.list 3 false (b.map FrameD.c))]))) q2 (by kernel_rfl)
    unfold ref15Frames_b4 at q3
    try dsimp only at q3
    rcases bif_some q3 with ⟨q7, q3⟩ | ⟨q7, q3⟩
    · obtain ⟨y_1, q8, q3⟩ := bnd_some q3
      obtain ⟨y_2, q9, q3⟩ := bnd_some q3
      rcases bif_some q3 with ⟨q10, q3⟩ | ⟨q10, q3⟩
      · cases q3
        try dsimp only at h
        have q5 := run_go (k := (k + 1)) (f := 30) (r0 := 0) (nt := 55) (c := ref15Frames_L4) (σ := (ref15Frames_S4 a b v_1)) (adv [([], 4, 2, .eq (pI (a.length : Int))), ([], 4, 3, .eq (pB true)), ([], 6, 2, .elem [(pI y_1.fd), (pS y_1.name), (.list 1 false (y_1.names.map cS))]), ([], 6, 7, .elem [(pI y_2.fd), (pS y_2.name), (.list 1 false (y_2.names.map cS))]), ([], 6, 11, .eq (pB true))]) (ex := .ret) (by kernel_rfl) (by kernel_rfl) (allC (len_ob (rfl : (a.map FrameD.c) = a.map FrameD.c)) (allC (cg q7) (allC (gt_list (c := FrameD.c) q8) (allC (gt_list (c := FrameD.c) q9) (allC (cg q10) allN)))))
        have q6 := q4 _ _ (by intro e; cases e) q5
        obtain rfl := Option.some.inj h
        exact ret_go (k := (k + 1)) Tryz.func30 Tryz.ntmps30 (by kernel_rfl) (by kernel_rfl) (lb rfl) (adv [([], 1, 1, .eq (pI (a.length : Int))), ([], 1, 3, .eq (pI (b.length : Int))), ([], 1, 4, .eq (pB false))] [([], 4, .ret, (stOf (go (k + 1) 30 0 55 (adv [([], 4, 2, .eq (pI (a.length : Int))), ([], 4, 3, .eq (pB true)), ([], 6, 2, .elem [(pI y_1.fd), (pS y_1.name), (.list 1 false (y_1.names.map cS))]), ([], 6, 7, .elem [(pI y_2.fd), (pS y_2.name), (.list 1 false (y_2.names.map cS))]), ([], 6, 11, .eq (pB true))]) ref15Frames_L4 (ref15Frames_S4 a b v_1))))]) (ex := .ret) (r := (pB false)) (by kernel_rfl) rfl (by kernel_rfl) (allC (len_ob (rfl : (a.map FrameD.c) = a.map FrameD.c)) (allC (len_ob (rfl : (b.map FrameD.c) = b.map FrameD.c)) (allC (cg q1) (allC q6 allN)))) (by kernel_rfl) allN
      · obtain ⟨y_3, q11, q3⟩ := bnd_some q3
        obtain ⟨y_4, q12, q3⟩ := bnd_some q3
        rcases bif_some q3 with ⟨q13, q3⟩ | ⟨q13, q3⟩
        · cases q3
          try dsimp only at h
          have q5 := run_go (k := (k + 1)) (f := 30) (r0 := 0) (nt := 55) (c := ref15Frames_L4) (σ := (ref15Frames_S4 a b v_1)) (adv [([], 4, 2, .eq (pI (a.length : Int))), ([], 4, 3, .eq (pB true)), ([], 6, 2, .elem [(pI y_1.fd), (pS y_1.name), (.list 1 false (y_1.names.map cS))]), ([], 6, 7, .elem [(pI y_2.fd), (pS y_2.name), (.list 1 false (y_2.names.map cS))]), ([], 6, 11, .eq (pB false)), ([], 6, 14, .elem [(pI y_3.fd), (pS y_3.name), (.list 1 false (y_3.names.map cS))]), ([], 6, 19, .elem [(pI y_4.fd), (pS y_4.name), (.list 1 false (y_4.names.map cS))]), ([], 6, 24, .eq (pB true))]) (ex := .ret) (by kernel_rfl) (by kernel_rfl) (allC (len_ob (rfl : (a.map FrameD.c) = a.map FrameD.c)) (allC (cg q7) (allC (gt_list (c := FrameD.c) q8) (allC (gt_list (c := FrameD.c) q9) (allC (cg q10) (allC (gt_list (c := FrameD.c) q11) (allC (gt_list (c := FrameD.c) q12) (allC (cg q13) allN))))))))
          have q6 := q4 _ _ (by intro e; cases e) q5
          obtain rfl := Option.some.inj h
          exact ret_go (k := (k + 1)) Tryz.func30 Tryz.ntmps30 (by kernel_rfl) (by kernel_rfl) (lb rfl) (adv [([], 1, 1, .eq (pI (a.length : Int))), ([], 1, 3, .eq (pI (b.length : Int))), ([], 1, 4, .eq (pB false))] [([], 4, .ret, (stOf (go (k + 1) 30 0 55 (adv [([], 4, 2, .eq (pI (a.length : Int))), ([], 4, 3, .eq (pB true)), ([], 6, 2, .elem [(pI y_1.fd), (pS y_1.name), (.list 1 false (y_1.names.map cS))]), ([], 6, 7, .elem [(pI y_2.fd), (pS y_2.name), (.list 1 false (y_2.names.map cS))]), ([], 6, 11, .eq (pB false)), ([], 6, 14, .elem [(pI y_3.fd), (pS y_3.name), (.list 1 false (y_3.names.map cS))]), ([], 6, 19, .elem [(pI y_4.fd), (pS y_4.name), (.list 1 false (y_4.names.map cS))]), ([], 6, 24, .eq (pB true))]) ref15Frames_L4 (ref15Frames_S4 a b v_1))))]) (ex := .ret) (r := (pB false)) (by kernel_rfl) rfl (by kernel_rfl) (allC (len_ob (rfl : (a.map FrameD.c) = a.map FrameD.c)) (allC (len_ob (rfl : (b.map FrameD.c) = b.map FrameD.c)) (allC (cg q1) (allC q6 allN)))) (by kernel_rfl) allN
        · obtain ⟨y_5, q14, q3⟩ := bnd_some q3
          obtain ⟨y_6, q15, q3⟩ := bnd_some q3
          obtain ⟨r_1, q16, q3⟩ := bnd_some q3
          rcases bif_some q3 with ⟨q17, q3⟩ | ⟨q17, q3⟩
          · cases q3
            try dsimp only at h
            have q5 := run_go (k := (k + 1)) (f := 30) (r0 := 0) (nt := 55) (c := ref15Frames_L4) (σ := (ref15Frames_S4 a b v_1)) (adv [([], 4, 2, .eq (pI (a.length : Int))), ([], 4, 3, .eq (pB true)), ([], 6, 2, .elem [(pI y_1.fd), (pS y_1.name), (.list 1 false (y_1.names.map cS))]), ([], 6, 7, .elem [(pI y_2.fd), (pS y_2.name), (.list 1 false (y_2.names.map cS))]), ([], 6, 11, .eq (pB false)), ([], 6, 14, .elem [(pI y_3.fd), (pS y_3.name), (.list 1 false (y_3.names.map cS))]), ([], 6, 19, .elem [(pI y_4.fd), (pS y_4.name), (.list 1 false (y_4.names.map cS))]), ([], 6, 24, .eq (pB false)), ([], 6, 27, .elem [(pI y_5.fd), (pS y_5.name), (.list 1 false (y_5.names.map cS))]), ([], 6, 32, .elem [(pI y_6.fd), (pS y_6.name), (.list 1 false (y_6.names.map cS))]), ([], 6, 35, .ret (pB r_1)), ([], 6, 37, .eq (pB true))]) (ex := .ret) (by kernel_rfl) (by kernel_rfl) (allC (len_ob (rfl : (a.map FrameD.c) = a.map FrameD.c)) (allC (cg q7) (allC (gt_list (c := FrameD.c) q8) (allC (gt_list (c := FrameD.c) q9) (allC (cg q10) (allC (gt_list (c := FrameD.c) q11) (allC (gt_list (c := FrameD.c) q12) (allC (cg q13) (allC (gt_list (c := FrameD.c) q14) (allC (gt_list (c := FrameD.c) q15) (allC (ref01Texts_ok k y_5.names y_6.names _ q16) (allC (cg q17) allN))))))))))))
            have q6 := q4 _ _ (by intro e; cases e) q5
            obtain rfl := Option.some.inj h
            exact ret_go (k := (k + 1)) Tryz.func30 Tryz.ntmps30 (by kernel_rfl) (by kernel_rfl) (lb rfl) (adv [([], 1, 1, .eq (pI (a.length : Int))), ([], 1, 3, .eq (pI (b.length : Int))), ([], 1, 4, .eq (pB false))] [([], 4, .ret, (stOf (go (k + 1) 30 0 55 (adv [([], 4, 2, .eq (pI (a.length : Int))), ([], 4, 3, .eq (pB true)), ([], 6, 2, .elem [(pI y_1.fd), (pS y_1.name), (.list 1 false (y_1.names.map cS))]), ([], 6, 7, .elem [(pI y_2.fd), (pS y_2.name), (.list 1 false (y_2.names.map cS))]), ([], 6, 11, .eq (pB false)), ([], 6, 14, .elem [(pI y_3.fd), (pS y_3.name), (.list 1 false (y_3.names.map cS))]), ([], 6, 19, .elem [(pI y_4.fd), (pS y_4.name), (.list 1 false (y_4.names.map cS))]), ([], 6, 24, .eq (pB false)), ([], 6, 27, .elem [(pI y_5.fd), (pS y_5.name), (.list 1 false (y_5.names.map cS))]), ([], 6, 32, .elem [(pI y_6.fd), (pS y_6.name), (.list 1 false (y_6.names.map cS))]), ([], 6, 35, .ret (pB r_1)), ([], 6, 37, .eq (pB true))]) ref15Frames_L4 (ref15Frames_S4 a b v_1))))]) (ex := .ret) (r := (pB false)) (by kernel_rfl) rfl (by kernel_rfl) (allC (len_ob (rfl : (a.map FrameD.c) = a.map FrameD.c)) (allC (len_ob (rfl : (b.map FrameD.c) = b.map FrameD.c)) (allC (cg q1) (allC q6 allN)))) (by kernel_rfl) allN
          · cases q3
    · cases q3
      try dsimp only at h
      have q5 := run_go (k := (k + 1)) (f := 30) (r0 := 0) (nt := 55) (c := ref15Frames_L4) (σ := (ref15Frames_S4 a b v_1)) (adv [([], 4, 2, .eq (pI (a.length : Int))), ([], 4, 3, .eq (pB false))]) (ex := (.exit 0)) (by kernel_rfl) (by kernel_rfl) (allC (len_ob (rfl : (a.map FrameD.c) = a.map FrameD.c)) (allC (cg q7) allN))
      have q6 := q4 _ _ (by intro e; cases e) q5
      obtain rfl := Option.some.inj h
      exact ret_go (k := (k + 1)) Tryz.func30 Tryz.ntmps30 (by kernel_rfl) (by kernel_rfl) (lb rfl) (adv [([], 1, 1, .eq (pI (a.length : Int))), ([], 1, 3, .eq (pI (b.length : Int))), ([], 1, 4, .eq (pB false))] [([], 4, (.exit 0), (stOf (go (k + 1) 30 0 55 (adv [([], 4, 2, .eq (pI (a.length : Int))), ([], 4, 3, .eq (pB false))]) ref15Frames_L4 (ref15Frames_S4 a b v_1))))]) (ex := .ret) (r := (pB true)) (by kernel_rfl) rfl (by kernel_rfl) (allC (len_ob (rfl : (a.map FrameD.c) = a.map FrameD.c)) (allC (len_ob (rfl : (b.map FrameD.c) = b.map FrameD.c)) (allC (cg q1) (allC q6 allN)))) (by kernel_rfl) allN
noncomputable def ref15Ints_L4 : Code := cAt (codeOf Tryz.f31) [true, true, false, true, false, false]
def ref15Ints_R4 (x0 : List (List PV)) (x1 : List (List PV)) (x2 : Int) : St := ⟨envL [(0, (.list 1 false x0)), (1, (.list 1 false x1)), (5, (pI x2))], hsL [] []⟩
def ref15Ints_S4 (p0 : (List Int)) (p1 : (List Int)) : Int → St
 | v0 => ref15Ints_R4 (p0.map cI) (p1.map cI) v0
def ref15Ints_b4 (p0 : (List Int)) (p1 : (List Int)) : Int → Option (Int ⊕ ((Int × Int × Int) ⊕ Int))
 | v0 =>
 bif (decide (v0 < (p0.length : Int))) then (
 (gt p0 v0).bind fun y_1 =>
 (gt p1 v0).bind fun y_2 =>
 bif (y_1 != y_2) then (
 some (.inr (.inl (v0, y_1, y_2)))
 ) else (
 some (.inl (w64 (v0 + (1 : Int))))
 )
 ) else (
 some (.inr (.inr (v0)))
 )
set_option maxRecDepth 100000 in
theorem ref15Ints_t4 (k : Nat) (p0 : (List Int)) (p1 : (List Int)) (v0 a1 : Int) (h : ref15Ints_b4 p0 p1 v0 = some (.inl a1)) : ∃ σ, run1 k 31 0 26 ref15Ints_L4 (ref15Ints_S4 p0 p1 v0) = some (.normal, σ) ∧ canonS 0 [0, 1, 5] σ = some (ref15Ints_S4 p0 p1 a1) := by
  unfold ref15Ints_b4 at h
  try dsimp only at h
  rcases bif_some h with ⟨q1, h⟩ | ⟨q1, h⟩
  · obtain ⟨y_1, q2, h⟩ := bnd_some h
    obtain ⟨y_2, q3, h⟩ := bnd_some h
    rcases bif_some h with ⟨q4, h⟩ | ⟨q4, h⟩
    · cases h
    · obtain rfl := Sum.inl.inj (Option.some.inj h)
      exact ⟨_, run_go (k := k) (f := 31) (r0 := 0) (nt := 26) (c := ref15Ints_L4) (σ := (ref15Ints_S4 p0 p1 v0)) (adv [([], 4, 2, .eq (pI (p0.length : Int))), ([], 4, 3, .eq (pB true)), ([], 6, 2, .elem [(pI y_1)]), ([], 6, 6, .elem [(pI y_2)]), ([], 6, 8, .eq (pB false))]) (ex := .normal) (by kernel_rfl) (by kernel_rfl) (allC (len_ob (rfl : (p0.map cI) = p0.map cI)) (allC (cg q1) (allC (gt_list (c := cI) q2) (allC (gt_list (c := cI) q3) (allC (cg q4) allN))))), (by kernel_rfl)⟩
  · cases h
def ref15Ints (a : (List Int)) (b : (List Int)) : Option Bool :=
 bif ((a.length : Int) != (b.length : Int)) then (
 some false
 ) else (
 (iterN (ref15Ints_b4 a b) LF (0 : Int)).bind fun X_1 => match X_1 with
 | .inl (v_1, y_1, y_2) => (
 some false
 )
 | .inr (v_1) => (
 some true
 )
 )
set_option maxRecDepth 100000 in
theorem ref15Ints_ok (k : Nat) (a : (List Int)) (b : (List Int)) (r : Bool) (h : ref15Ints a b = some r) : run0 (k + 1) 31 [(.list 1 false (a.map cI)), (.list 1 false (b.map cI))] = some (pB r) := by
  unfold ref15Ints at h
  rcases bif_some h with ⟨q1, h⟩ | ⟨q1, h⟩
  · obtain rfl := Option.some.inj h
    exact ret_go (k := k) Tryz.func31 Tryz.ntmps31 (by kernel_rfl) (by kernel_rfl) (lb rfl) (adv [([], 1, 1, .eq (pI (a.length : Int))), ([], 1, 3, .eq (pI (b.length : Int))), ([], 1, 4, .eq (pB true))]) (ex := .ret) (r := (pB false)) (by kernel_rfl) rfl (by kernel_rfl) (allC (len_ob (rfl : (a.map cI) = a.map cI)) (allC (len_ob (rfl : (b.map cI) = b.map cI)) (allC (cg q1) allN))) (by kernel_rfl) allN
  · obtain ⟨X_1, q2, h⟩ := bnd_some h
    obtain ⟨v_1, q3, q4⟩ := loop_iter (f := run1 k 31 0 26 ref15Ints_L4) (ref15Ints_S4 a b) (ref15Ints_b4 a b) (ref15Ints_t4 k a b) LF (0 : Int) _ (stOf (goStop k 31 0 26 (adv [([], 1, 1, .eq (pI (a.length : Int))), ([], 1, 3, .eq (pI (b.length : Int))), ([], 1, 4, .eq (pB false))]) 4 (codeOf Tryz.f31) (argS 31 [(.list 1 false (a.map cI)), (.list 1 false (b.map cI))]))) q2 (by kernel_rfl)
    unfold ref15Ints_b4 at q3
    try dsimp only at q3
    rcases bif_some q3 with ⟨q7, q3⟩ | ⟨q7, q3⟩
    · obtain ⟨y_1, q8, q3⟩ := bnd_some q3
      obtain ⟨y_2, q9, q3⟩ := bnd_some q3
      rcases bif_some q3 with ⟨q10, q3⟩ | ⟨q10, q3⟩
      · cases q3
        try dsimp only at h
        have q5 := run_go (k := k) (f := 31) (r0 := 0) (nt := 26) (c := ref15Ints_L4) (σ := (ref15Ints_S4 a b v_1)) (adv [([], 4, 2, .eq (pI (a.length : Int))), ([], 4, 3, .eq (pB true)), ([], 6, 2, .elem [(pI y_1)]), ([], 6, 6, .elem [(pI y_2)]), ([], 6, 8, .eq (pB true))]) (ex := .ret) (by kernel_rfl) (by kernel_rfl) (allC (len_ob (rfl : (a.map cI) = a.map cI)) (allC (cg q7) (allC (gt_list (c := cI) q8) (allC (gt_list (c := cI) q9) (allC (cg q10) allN)))))
        have q6 := q4 _ _ (by intro e; cases e) q5
        obtain rfl := Option.some.inj h
        exact ret_go (k := k) Tryz.func31 Tryz.ntmps31 (by kernel_rfl) (by kernel_rfl) (lb rfl) (adv [([], 1, 1, .eq (pI (a.length : Int))), ([], 1, 3, .eq (pI (b.length : Int))), ([], 1, 4, .eq (pB false))] [([], 4, .ret, (stOf (go k 31 0 26 (adv [([], 4, 2, .eq (pI (a.length : Int))), ([], 4, 3, .eq (pB true)), ([], 6, 2, .elem [(pI y_1)]), ([], 6, 6, .elem [(pI y_2)]), ([], 6, 8, .eq (pB true))]) ref15Ints_L4 (ref15Ints_S4 a b v_1))))]) (ex := .ret) (r := (pB false)) (by kernel_rfl) rfl (by kernel_rfl) (allC (len_ob (rfl : (a.map cI) = a.map cI)) (allC (len_ob (rfl : (b.map cI) = b.map cI)) (allC (cg q1) (allC q6 allN)))) (by kernel_rfl) allN
      · cases q3
    · cases q3
      try dsimp only at h
      have q5 := run_go (k := k) (f := 31) (r0 := 0) (nt := 26) (c := ref15Ints_L4) (σ := (ref15Ints_S4 a b v_1)) (adv [([], 4, 2, .eq (pI (a.length : Int))), ([], 4, 3, .eq (pB false))]) (ex := (.exit 0)) (by kernel_rfl) (by kernel_rfl) (allC (len_ob (rfl : (a.map cI) = a.map cI)) (allC (cg q7) allN))
      have q6 := q4 _ _ (by intro e; cases e) q5
      obtain rfl := Option.some.inj h
      exact ret_go (k := k) Tryz.func31 Tryz.ntmps31 (by kernel_rfl) (by kernel_rfl) (lb rfl) (adv [([], 1, 1, .eq (pI (a.length : Int))), ([], 1, 3, .eq (pI (b.length : Int))), ([], 1, 4, .eq (pB false))] [([], 4, (.exit 0), (stOf (go k 31 0 26 (adv [([], 4, 2, .eq (pI (a.length : Int))), ([], 4, 3, .eq (pB false))]) ref15Ints_L4 (ref15Ints_S4 a b v_1))))]) (ex := .ret) (r := (pB true)) (by kernel_rfl) rfl (by kernel_rfl) (allC (len_ob (rfl : (a.map cI) = a.map cI)) (allC (len_ob (rfl : (b.map cI) = b.map cI)) (allC (cg q1) (allC q6 allN)))) (by kernel_rfl) allN
end Go.Proofs.YtdbekeidlppfiaaGreatDoor.Den
namespace Go.Proofs.YtdbekeidlppfiaaGreatDoor.Den
open Go Go.RowKit
def ref15Same (a : JobD) (b : JobD) : Option Bool :=
 (ref01Texts a.names b.names).bind fun r_1 =>
 bif (!r_1) then (
 some false
 ) else (
 (ref15Frames a.stack b.stack).bind fun r_2 =>
 bif (!r_2) then (
 some false
 ) else (
 (ref15Ints a.draws b.draws).bind fun r_3 =>
 bif (!r_3) then (
 some false
 ) else (
 bif (a.kind == b.kind) then (
 bif (a.p == b.p) then (
 bif (a.phase == b.phase) then (
 bif (a.fd == b.fd) then (
 bif (a.nF == b.nF) then (
 bif (a.modeF == b.modeF) then (
 bif (a.tries == b.tries) then (
 bif (a.atF == b.atF) then (
 bif (a.flags == b.flags) then (
 bif (seq a.path b.path) then (
 bif (seq a.path2 b.path2) then (
 bif (seq a.text b.text) then (
 bif (a.done == b.done) then (
 bif (a.exit == b.exit) then (
 bif (seq a.out b.out) then (
 some (a.e == b.e)
 ) else (
 some false
 )
 ) else (
 some false
 )
 ) else (
 some false
 )
 ) else (
 some false
 )
 ) else (
 some false
 )
 ) else (
 some false
 )
 ) else (
 some false
 )
 ) else (
 some false
 )
 ) else (
 some false
 )
 ) else (
 some false
 )
 ) else (
 some false
 )
 ) else (
 some false
 )
 ) else (
 some false
 )
 ) else (
 some false
 )
 ) else (
 some false
 )
 )
 )
 )
set_option maxRecDepth 100000 in
theorem ref15Same_ok (k : Nat) (a : JobD) (b : JobD) (r : Bool) (h : ref15Same a b = some r) : run0 (k + 3) 8 [(JobD.a a), (JobD.a b)] = some (pB r) := by
  unfold ref15Same at h
  obtain ⟨r_1, q1, h⟩ := bnd_some h
  rcases bif_some h with ⟨q2, h⟩ | ⟨q2, h⟩
  · obtain rfl := Option.some.inj h
    exact ret_go (k := (k + 2)) Tryz.func8 Tryz.ntmps8 (by kernel_rfl) (by kernel_rfl) (lb rfl) (adv [([], 1, 4, .ret (pB r_1)), ([], 1, 6, .eq (pB true))]) (ex := .ret) (r := (pB false)) (by kernel_rfl) rfl (by kernel_rfl) (allC (ref01Texts_ok (k + 1) a.names b.names _ q1) (allC (cg q2) allN)) (by kernel_rfl) allN
  · obtain ⟨r_2, q3, h⟩ := bnd_some h
    rcases bif_some h with ⟨q4, h⟩ | ⟨q4, h⟩
    · obtain rfl := Option.some.inj h
      exact ret_go (k := (k + 2)) Tryz.func8 Tryz.ntmps8 (by kernel_rfl) (by kernel_rfl) (lb rfl) (adv [([], 1, 4, .ret (pB r_1)), ([], 1, 6, .eq (pB false)), ([], 1, 11, .ret (pB r_2)), ([], 1, 14, .eq (pB true))]) (ex := .ret) (r := (pB false)) (by kernel_rfl) rfl (by kernel_rfl) (allC (ref01Texts_ok (k + 1) a.names b.names _ q1) (allC (cg q2) (allC (ref15Frames_ok k a.stack b.stack _ q3) (allC (cg q4) allN)))) (by kernel_rfl) allN
    · obtain ⟨r_3, q5, h⟩ := bnd_some h
      rcases bif_some h with ⟨q6, h⟩ | ⟨q6, h⟩
      · obtain rfl := Option.some.inj h
        exact ret_go (k := (k + 2)) Tryz.func8 Tryz.ntmps8 (by kernel_rfl) (by kernel_rfl) (lb rfl) (adv [([], 1, 4, .ret (pB r_1)), ([], 1, 6, .eq (pB false)), ([], 1, 11, .ret (pB r_2)), ([], 1, 14, .eq (pB false)), ([], 1, 19, .ret (pB r_3)), ([], 1, 21, .eq (pB true))]) (ex := .ret) (r := (pB false)) (by kernel_rfl) rfl (by kernel_rfl) (allC (ref01Texts_ok (k + 1) a.names b.names _ q1) (allC (cg q2) (allC (ref15Frames_ok k a.stack b.stack _ q3) (allC (cg q4) (allC (ref15Ints_ok (k + 1) a.draws b.draws _ q5) (allC (cg q6) allN)))))) (by kernel_rfl) allN
      · rcases bif_some h with ⟨q7, h⟩ | ⟨q7, h⟩
        · rcases bif_some h with ⟨q8, h⟩ | ⟨q8, h⟩
          · rcases bif_some h with ⟨q9, h⟩ | ⟨q9, h⟩
            · rcases bif_some h with ⟨q10, h⟩ | ⟨q10, h⟩
              · rcases bif_some h with ⟨q11, h⟩ | ⟨q11, h⟩
                · rcases bif_some h with ⟨q12, h⟩ | ⟨q12, h⟩
                  · rcases bif_some h with ⟨q13, h⟩ | ⟨q13, h⟩
                    · rcases bif_some h with ⟨q14, h⟩ | ⟨q14, h⟩
                      · rcases bif_some h with ⟨q15, h⟩ | ⟨q15, h⟩
                        · rcases bif_some h with ⟨q16, h⟩ | ⟨q16, h⟩
                          · rcases bif_some h with ⟨q17, h⟩ | ⟨q17, h⟩
                            · rcases bif_some h with ⟨q18, h⟩ | ⟨q18, h⟩
                              · rcases bif_some h with ⟨q19, h⟩ | ⟨q19, h⟩
                                · rcases bif_some h with ⟨q20, h⟩ | ⟨q20, h⟩
                                  · rcases bif_some h with ⟨q21, h⟩ | ⟨q21, h⟩
                                    · obtain rfl := Option.some.inj h
                                      exact ret_go (k := (k + 2)) Tryz.func8 Tryz.ntmps8 (by kernel_rfl) (by kernel_rfl) (lb rfl) (adv [([], 1, 4, .ret (pB r_1)), ([], 1, 6, .eq (pB false)), ([], 1, 11, .ret (pB r_2)), ([], 1, 14, .eq (pB false)), ([], 1, 19, .ret (pB r_3)), ([], 1, 21, .eq (pB false)), ([], 3, 5, .eq (pB true)), ([], 3, 12, .eq (pB true)), ([], 3, 19, .eq (pB true)), ([], 3, 26, .eq (pB true)), ([], 3, 33, .eq (pB true)), ([], 3, 40, .eq (pB true)), ([], 3, 47, .eq (pB true)), ([], 3, 54, .eq (pB true)), ([], 4, 1, .eq (pB true)), ([], 4, 8, .eq (pB true)), ([], 4, 15, .eq (pB true)), ([], 4, 22, .eq (pB true)), ([], 4, 29, .eq (pB true)), ([], 4, 36, .eq (pB true)), ([], 4, 43, .eq (pB true))]) (ex := .ret) (r := (pB (a.e == b.e))) (by kernel_rfl) rfl (by kernel_rfl) (allC (ref01Texts_ok (k + 1) a.names b.names _ q1) (allC (cg q2) (allC (ref15Frames_ok k a.stack b.stack _ q3) (allC (cg q4) (allC (ref15Ints_ok (k + 1) a.draws b.draws _ q5) (allC (cg q6) (allC (cg q7) (allC (cg q8) (allC (cg q9) (allC (cg q10) (allC (cg q11) (allC (cg q12) (allC (cg q13) (allC (cg q14) (allC (cg q15) (allC (cg q16) (allC (cg q17) (allC (cg q18) (allC (cg q19) (allC (cg q20) (allC (cg q21) allN))))))))))))))))))))) (by kernel_rfl) allN
                                    · obtain rfl := Option.some.inj h
                                      exact ret_go (k := (k + 2)) Tryz.func8 Tryz.ntmps8 (by kernel_rfl) (by kernel_rfl) (lb rfl) (adv [([], 1, 4, .ret (pB r_1)), ([], 1, 6, .eq (pB false)), ([], 1, 11, .ret (pB r_2)), ([], 1, 14, .eq (pB false)), ([], 1, 19, .ret (pB r_3)), ([], 1, 21, .eq (pB false)), ([], 3, 5, .eq (pB true)), ([], 3, 12, .eq (pB true)), ([], 3, 19, .eq (pB true)), ([], 3, 26, .eq (pB true)), ([], 3, 33, .eq (pB true)), ([], 3, 40, .eq (pB true)), ([], 3, 47, .eq (pB true)), ([], 3, 54, .eq (pB true)), ([], 4, 1, .eq (pB true)), ([], 4, 8, .eq (pB true)), ([], 4, 15, .eq (pB true)), ([], 4, 22, .eq (pB true)), ([], 4, 29, .eq (pB true)), ([], 4, 36, .eq (pB true)), ([], 4, 43, .eq (pB false))]) (ex := .ret) (r := (pB false)) (by kernel_rfl) rfl (by kernel_rfl) (allC (ref01Texts_ok (k + 1) a.names b.names _ q1) (allC (cg q2) (allC (ref15Frames_ok k a.stack b.stack _ q3) (allC (cg q4) (allC (ref15Ints_ok (k + 1) a.draws b.draws _ q5) (allC (cg q6) (allC (cg q7) (allC (cg q8) (allC (cg q9) (allC (cg q10) (allC (cg q11) (allC (cg q12) (allC (cg q13) (allC (cg q14) (allC (cg q15) (allC (cg q16) (allC (cg q17) (allC (cg q18) (allC (cg q19) (allC (cg q20) (allC (cg q21) allN))))))))))))))))))))) (by kernel_rfl) allN
                                  · obtain rfl := Option.some.inj h
                                    exact ret_go (k := (k + 2)) Tryz.func8 Tryz.ntmps8 (by kernel_rfl) (by kernel_rfl) (lb rfl) (adv [([], 1, 4, .ret (pB r_1)), ([], 1, 6, .eq (pB false)), ([], 1, 11, .ret (pB r_2)), ([], 1, 14, .eq (pB false)), ([], 1, 19, .ret (pB r_3)), ([], 1, 21, .eq (pB false)), ([], 3, 5, .eq (pB true)), ([], 3, 12, .eq (pB true)), ([], 3, 19, .eq (pB true)), ([], 3, 26, .eq (pB true)), ([], 3, 33, .eq (pB true)), ([], 3, 40, .eq (pB true)), ([], 3, 47, .eq (pB true)), ([], 3, 54, .eq (pB true)), ([], 4, 1, .eq (pB true)), ([], 4, 8, .eq (pB true)), ([], 4, 15, .eq (pB true)), ([], 4, 22, .eq (pB true)), ([], 4, 29, .eq (pB true)), ([], 4, 36, .eq (pB false))]) (ex := .ret) (r := (pB false)) (by kernel_rfl) rfl (by kernel_rfl) (allC (ref01Texts_ok (k + 1) a.names b.names _ q1) (allC (cg q2) (allC (ref15Frames_ok k a.stack b.stack _ q3) (allC (cg q4) (allC (ref15Ints_ok (k + 1) a.draws b.draws _ q5) (allC (cg q6) (allC (cg q7) (allC (cg q8) (allC (cg q9) (allC (cg q10) (allC (cg q11) (allC (cg q12) (allC (cg q13) (allC (cg q14) (allC (cg q15) (allC (cg q16) (allC (cg q17) (allC (cg q18) (allC (cg q19) (allC (cg q20) allN)))))))))))))))))))) (by kernel_rfl) allN
                                · obtain rfl := Option.some.inj h
                                  exact ret_go (k := (k + 2)) Tryz.func8 Tryz.ntmps8 (by kernel_rfl) (by kernel_rfl) (lb rfl) (adv [([], 1, 4, .ret (pB r_1)), ([], 1, 6, .eq (pB false)), ([], 1, 11, .ret (pB r_2)), ([], 1, 14, .eq (pB false)), ([], 1, 19, .ret (pB r_3)), ([], 1, 21, .eq (pB false)), ([], 3, 5, .eq (pB true)), ([], 3, 12, .eq (pB true)), ([], 3, 19, .eq (pB true)), ([], 3, 26, .eq (pB true)), ([], 3, 33, .eq (pB true)), ([], 3, 40, .eq (pB true)), ([], 3, 47, .eq (pB true)), ([], 3, 54, .eq (pB true)), ([], 4, 1, .eq (pB true)), ([], 4, 8, .eq (pB true)), ([], 4, 15, .eq (pB true)), ([], 4, 22, .eq (pB true)), ([], 4, 29, .eq (pB false))]) (ex := .ret) (r := (pB false)) (by kernel_rfl) rfl (by kernel_rfl) (allC (ref01Texts_ok (k + 1) a.names b.names _ q1) (allC (cg q2) (allC (ref15Frames_ok k a.stack b.stack _ q3) (allC (cg q4) (allC (ref15Ints_ok (k + 1) a.draws b.draws _ q5) (allC (cg q6) (allC (cg q7) (allC (cg q8) (allC (cg q9) (allC (cg q10) (allC (cg q11) (allC (cg q12) (allC (cg q13) (allC (cg q14) (allC (cg q15) (allC (cg q16) (allC (cg q17) (allC (cg q18) (allC (cg q19) allN))))))))))))))))))) (by kernel_rfl) allN
                              · obtain rfl := Option.some.inj h
                                exact ret_go (k := (k + 2)) Tryz.func8 Tryz.ntmps8 (by kernel_rfl) (by kernel_rfl) (lb rfl) (adv [([], 1, 4, .ret (pB r_1)), ([], 1, 6, .eq (pB false)), ([], 1, 11, .ret (pB r_2)), ([], 1, 14, .eq (pB false)), ([], 1, 19, .ret (pB r_3)), ([], 1, 21, .eq (pB false)), ([], 3, 5, .eq (pB true)), ([], 3, 12, .eq (pB true)), ([], 3, 19, .eq (pB true)), ([], 3, 26, .eq (pB true)), ([], 3, 33, .eq (pB true)), ([], 3, 40, .eq (pB true)), ([], 3, 47, .eq (pB true)), ([], 3, 54, .eq (pB true)), ([], 4, 1, .eq (pB true)), ([], 4, 8, .eq (pB true)), ([], 4, 15, .eq (pB true)), ([], 4, 22, .eq (pB false))]) (ex := .ret) (r := (pB false)) (by kernel_rfl) rfl (by kernel_rfl) (allC (ref01Texts_ok (k + 1) a.names b.names _ q1) (allC (cg q2) (allC (ref15Frames_ok k a.stack b.stack _ q3) (allC (cg q4) (allC (ref15Ints_ok (k + 1) a.draws b.draws _ q5) (allC (cg q6) (allC (cg q7) (allC (cg q8) (allC (cg q9) (allC (cg q10) (allC (cg q11) (allC (cg q12) (allC (cg q13) (allC (cg q14) (allC (cg q15) (allC (cg q16) (allC (cg q17) (allC (cg q18) allN)))))))))))))))))) (by kernel_rfl) allN
                            · obtain rfl := Option.some.inj h
                              exact ret_go (k := (k + 2)) Tryz.func8 Tryz.ntmps8 (by kernel_rfl) (by kernel_rfl) (lb rfl) (adv [([], 1, 4, .ret (pB r_1)), ([], 1, 6, .eq (pB false)), ([], 1, 11, .ret (pB r_2)), ([], 1, 14, .eq (pB false)), ([], 1, 19, .ret (pB r_3)), ([], 1, 21, .eq (pB false)), ([], 3, 5, .eq (pB true)), ([], 3, 12, .eq (pB true)), ([], 3, 19, .eq (pB true)), ([], 3, 26, .eq (pB true)), ([], 3, 33, .eq (pB true)), ([], 3, 40, .eq (pB true)), ([], 3, 47, .eq (pB true)), ([], 3, 54, .eq (pB true)), ([], 4, 1, .eq (pB true)), ([], 4, 8, .eq (pB true)), ([], 4, 15, .eq (pB false))]) (ex := .ret) (r := (pB false)) (by kernel_rfl) rfl (by kernel_rfl) (allC (ref01Texts_ok (k + 1) a.names b.names _ q1) (allC (cg q2) (allC (ref15Frames_ok k a.stack b.stack _ q3) (allC (cg q4) (allC (ref15Ints_ok (k + 1) a.draws b.draws _ q5) (allC (cg q6) (allC (cg q7) (allC (cg q8) (allC (cg q9) (allC (cg q10) (allC (cg q11) (allC (cg q12) (allC (cg q13) (allC (cg q14) (allC (cg q15) (allC (cg q16) (allC (cg q17) allN))))))))))))))))) (by kernel_rfl) allN
                          · obtain rfl := Option.some.inj h
                            exact ret_go (k := (k + 2)) Tryz.func8 Tryz.ntmps8 (by kernel_rfl) (by kernel_rfl) (lb rfl) (adv [([], 1, 4, .ret (pB r_1)), ([], 1, 6, .eq (pB false)), ([], 1, 11, .ret (pB r_2)), ([], 1, 14, .eq (pB false)), ([], 1, 19, .ret (pB r_3)), ([], 1, 21, .eq (pB false)), ([], 3, 5, .eq (pB true)), ([], 3, 12, .eq (pB true)), ([], 3, 19, .eq (pB true)), ([], 3, 26, .eq (pB true)), ([], 3, 33, .eq (pB true)), ([], 3, 40, .eq (pB true)), ([], 3, 47, .eq (pB true)), ([], 3, 54, .eq (pB true)), ([], 4, 1, .eq (pB true)), ([], 4, 8, .eq (pB false))]) (ex := .ret) (r := (pB false)) (by kernel_rfl) rfl (by kernel_rfl) (allC (ref01Texts_ok (k + 1) a.names b.names _ q1) (allC (cg q2) (allC (ref15Frames_ok k a.stack b.stack _ q3) (allC (cg q4) (allC (ref15Ints_ok (k + 1) a.draws b.draws _ q5) (allC (cg q6) (allC (cg q7) (allC (cg q8) (allC (cg q9) (allC (cg q10) (allC (cg q11) (allC (cg q12) (allC (cg q13) (allC (cg q14) (allC (cg q15) (allC (cg q16) allN)))))))))))))))) (by kernel_rfl) allN
                        · obtain rfl := Option.some.inj h
                          exact ret_go (k := (k + 2)) Tryz.func8 Tryz.ntmps8 (by kernel_rfl) (by kernel_rfl) (lb rfl) (adv [([], 1, 4, .ret (pB r_1)), ([], 1, 6, .eq (pB false)), ([], 1, 11, .ret (pB r_2)), ([], 1, 14, .eq (pB false)), ([], 1, 19, .ret (pB r_3)), ([], 1, 21, .eq (pB false)), ([], 3, 5, .eq (pB true)), ([], 3, 12, .eq (pB true)), ([], 3, 19, .eq (pB true)), ([], 3, 26, .eq (pB true)), ([], 3, 33, .eq (pB true)), ([], 3, 40, .eq (pB true)), ([], 3, 47, .eq (pB true)), ([], 3, 54, .eq (pB true)), ([], 4, 1, .eq (pB false))]) (ex := .ret) (r := (pB false)) (by kernel_rfl) rfl (by kernel_rfl) (allC (ref01Texts_ok (k + 1) a.names b.names _ q1) (allC (cg q2) (allC (ref15Frames_ok k a.stack b.stack _ q3) (allC (cg q4) (allC (ref15Ints_ok (k + 1) a.draws b.draws _ q5) (allC (cg q6) (allC (cg q7) (allC (cg q8) (allC (cg q9) (allC (cg q10) (allC (cg q11) (allC (cg q12) (allC (cg q13) (allC (cg q14) (allC (cg q15) allN))))))))))))))) (by kernel_rfl) allN
                      · obtain rfl := Option.some.inj h
                        exact ret_go (k := (k + 2)) Tryz.func8 Tryz.ntmps8 (by kernel_rfl) (by kernel_rfl) (lb rfl) (adv [([], 1, 4, .ret (pB r_1)), ([], 1, 6, .eq (pB false)), ([], 1, 11, .ret (pB r_2)), ([], 1, 14, .eq (pB false)), ([], 1, 19, .ret (pB r_3)), ([], 1, 21, .eq (pB false)), ([], 3, 5, .eq (pB true)), ([], 3, 12, .eq (pB true)), ([], 3, 19, .eq (pB true)), ([], 3, 26, .eq (pB true)), ([], 3, 33, .eq (pB true)), ([], 3, 40, .eq (pB true)), ([], 3, 47, .eq (pB true)), ([], 3, 54, .eq (pB false))]) (ex := .ret) (r := (pB false)) (by kernel_rfl) rfl (by kernel_rfl) (allC (ref01Texts_ok (k + 1) a.names b.names _ q1) (allC (cg q2) (allC (ref15Frames_ok k a.stack b.stack _ q3) (allC (cg q4) (allC (ref15Ints_ok (k + 1) a.draws b.draws _ q5) (allC (cg q6) (allC (cg q7) (allC (cg q8) (allC (cg q9) (allC (cg q10) (allC (cg q11) (allC (cg q12) (allC (cg q13) (allC (cg q14) allN)))))))))))))) (by kernel_rfl) allN
                    · obtain rfl := Option.some.inj h
                      exact ret_go (k := (k + 2)) Tryz.func8 Tryz.ntmps8 (by kernel_rfl) (by kernel_rfl) (lb rfl) (adv [([], 1, 4, .ret (pB r_1)), ([], 1, 6, .eq (pB false)), ([], 1, 11, .ret (pB r_2)), ([], 1, 14, .eq (pB false)), ([], 1, 19, .ret (pB r_3)), ([], 1, 21, .eq (pB false)), ([], 3, 5, .eq (pB true)), ([], 3, 12, .eq (pB true)), ([], 3, 19, .eq (pB true)), ([], 3, 26, .eq (pB true)), ([], 3, 33, .eq (pB true)), ([], 3, 40, .eq (pB true)), ([], 3, 47, .eq (pB false))]) (ex := .ret) (r := (pB false)) (by kernel_rfl) rfl (by kernel_rfl) (allC (ref01Texts_ok (k + 1) a.names b.names _ q1) (allC (cg q2) (allC (ref15Frames_ok k a.stack b.stack _ q3) (allC (cg q4) (allC (ref15Ints_ok (k + 1) a.draws b.draws _ q5) (allC (cg q6) (allC (cg q7) (allC (cg q8) (allC (cg q9) (allC (cg q10) (allC (cg q11) (allC (cg q12) (allC (cg q13) allN))))))))))))) (by kernel_rfl) allN
                  · obtain rfl := Option.some.inj h
                    exact ret_go (k := (k + 2)) Tryz.func8 Tryz.ntmps8 (by kernel_rfl) (by kernel_rfl) (lb rfl) (adv [([], 1, 4, .ret (pB r_1)), ([], 1, 6, .eq (pB false)), ([], 1, 11, .ret (pB r_2)), ([], 1, 14, .eq (pB false)), ([], 1, 19, .ret (pB r_3)), ([], 1, 21, .eq (pB false)), ([], 3, 5, .eq (pB true)), ([], 3, 12, .eq (pB true)), ([], 3, 19, .eq (pB true)), ([], 3, 26, .eq (pB true)), ([], 3, 33, .eq (pB true)), ([], 3, 40, .eq (pB false))]) (ex := .ret) (r := (pB false)) (by kernel_rfl) rfl (by kernel_rfl) (allC (ref01Texts_ok (k + 1) a.names b.names _ q1) (allC (cg q2) (allC (ref15Frames_ok k a.stack b.stack _ q3) (allC (cg q4) (allC (ref15Ints_ok (k + 1) a.draws b.draws _ q5) (allC (cg q6) (allC (cg q7) (allC (cg q8) (allC (cg q9) (allC (cg q10) (allC (cg q11) (allC (cg q12) allN)))))))))))) (by kernel_rfl) allN
                · obtain rfl := Option.some.inj h
                  exact ret_go (k := (k + 2)) Tryz.func8 Tryz.ntmps8 (by kernel_rfl) (by kernel_rfl) (lb rfl) (adv [([], 1, 4, .ret (pB r_1)), ([], 1, 6, .eq (pB false)), ([], 1, 11, .ret (pB r_2)), ([], 1, 14, .eq (pB false)), ([], 1, 19, .ret (pB r_3)), ([], 1, 21, .eq (pB false)), ([], 3, 5, .eq (pB true)), ([], 3, 12, .eq (pB true)), ([], 3, 19, .eq (pB true)), ([], 3, 26, .eq (pB true)), ([], 3, 33, .eq (pB false))]) (ex := .ret) (r := (pB false)) (by kernel_rfl) rfl (by kernel_rfl) (allC (ref01Texts_ok (k + 1) a.names b.names _ q1) (allC (cg q2) (allC (ref15Frames_ok k a.stack b.stack _ q3) (allC (cg q4) (allC (ref15Ints_ok (k + 1) a.draws b.draws _ q5) (allC (cg q6) (allC (cg q7) (allC (cg q8) (allC (cg q9) (allC (cg q10) (allC (cg q11) allN))))))))))) (by kernel_rfl) allN
              · obtain rfl := Option.some.inj h
                exact ret_go (k := (k + 2)) Tryz.func8 Tryz.ntmps8 (by kernel_rfl) (by kernel_rfl) (lb rfl) (adv [([], 1, 4, .ret (pB r_1)), ([], 1, 6, .eq (pB false)), ([], 1, 11, .ret (pB r_2)), ([], 1, 14, .eq (pB false)), ([], 1, 19, .ret (pB r_3)), ([], 1, 21, .eq (pB false)), ([], 3, 5, .eq (pB true)), ([], 3, 12, .eq (pB true)), ([], 3, 19, .eq (pB true)), ([], 3, 26, .eq (pB false))]) (ex := .ret) (r := (pB false)) (by kernel_rfl) rfl (by kernel_rfl) (allC (ref01Texts_ok (k + 1) a.names b.names _ q1) (allC (cg q2) (allC (ref15Frames_ok k a.stack b.stack _ q3) (allC (cg q4) (allC (ref15Ints_ok (k + 1) a.draws b.draws _ q5) (allC (cg q6) (allC (cg q7) (allC (cg q8) (allC (cg q9) (allC (cg q10) allN)))))))))) (by kernel_rfl) allN
            · obtain rfl := Option.some.inj h
              exact ret_go (k := (k + 2)) Tryz.func8 Tryz.ntmps8 (by kernel_rfl) (by kernel_rfl) (lb rfl) (adv [([], 1, 4, .ret (pB r_1)), ([], 1, 6, .eq (pB false)), ([], 1, 11, .ret (pB r_2)), ([], 1, 14, .eq (pB false)), ([], 1, 19, .ret (pB r_3)), ([], 1, 21, .eq (pB false)), ([], 3, 5, .eq (pB true)), ([], 3, 12, .eq (pB true)), ([], 3, 19, .eq (pB false))]) (ex := .ret) (r := (pB false)) (by kernel_rfl) rfl (by kernel_rfl) (allC (ref01Texts_ok (k + 1) a.names b.names _ q1) (allC (cg q2) (allC (ref15Frames_ok k a.stack b.stack _ q3) (allC (cg q4) (allC (ref15Ints_ok (k + 1) a.draws b.draws _ q5) (allC (cg q6) (allC (cg q7) (allC (cg q8) (allC (cg q9) allN))))))))) (by kernel_rfl) allN
          · obtain rfl := Option.some.inj h
            exact ret_go (k := (k + 2)) Tryz.func8 Tryz.ntmps8 (by kernel_rfl) (by kernel_rfl) (lb rfl) (adv [([], 1, 4, .ret (pB r_1)), ([], 1, 6, .eq (pB false)), ([], 1, 11, .ret (pB r_2)), ([], 1, 14, .eq (pB false)), ([], 1, 19, .ret (pB r_3)), ([], 1, 21, .eq (pB false)), ([], 3, 5, .eq (pB true)), ([], 3, 12, .eq (pB false))]) (ex := .ret) (r := (pB false)) (by kernel_rfl) rfl (by kernel_rfl) (allC (ref01Texts_ok (k + 1) a.names b.names _ q1) (allC (cg q2) (allC (ref15Frames_ok k a.stack b.stack _ q3) (allC (cg q4) (allC (ref15Ints_ok (k + 1) a.draws b.draws _ q5) (allC (cg q6) (allC (cg q7) (allC (cg q8) allN)))))))) (by kernel_rfl) allN
        · obtain rfl := Option.some.inj h
          exact ret_go (k := (k + 2)) Tryz.func8 Tryz.ntmps8 (by kernel_rfl) (by kernel_rfl) (lb rfl) (adv [([], 1, 4, .ret (pB r_1)), ([], 1, 6, .eq (pB false)), ([], 1, 11, .ret (pB r_2)), ([], 1, 14, .eq (pB false)), ([], 1, 19, .ret (pB r_3)), ([], 1, 21, .eq (pB false)), ([], 3, 5, .eq (pB false))]) (ex := .ret) (r := (pB false)) (by kernel_rfl) rfl (by kernel_rfl) (allC (ref01Texts_ok (k + 1) a.names b.names _ q1) (allC (cg q2) (allC (ref15Frames_ok k a.stack b.stack _ q3) (allC (cg q4) (allC (ref15Ints_ok (k + 1) a.draws b.draws _ q5) (allC (cg q6) (allC (cg q7) allN))))))) (by kernel_rfl) allN
end Go.Proofs.YtdbekeidlppfiaaGreatDoor.Den
namespace Go.Proofs.YtdbekeidlppfiaaGreatDoor.Den
open Go Go.RowKit
noncomputable def law18Work_L3 : Code := cAt (codeOf Tryz.f9) [true, true, false, true, false, false]
def law18Work_R3_0 (x0 : Int) (x1 : Int) (x2 : Int) (x3 : Int) (x4 : Int) (x5 : Int) (x6 : Int) (x7 : Int) (x8 : Int) (x9 : Int) (x10 : ByteArray) (x11 : ByteArray) (x12 : ByteArray) (x13 : List (List PV)) (x14 : List (List PV)) (x15 : List (List PV)) (x16 : Bool) (x17 : Int) (x18 : ByteArray) (x19 : Int) (x20 : Int) (x21 : Int) (x22 : Int) (x23 : Int) (x24 : Int) (x25 : Int) (x26 : Int) (x27 : Int) (x28 : Int) (x29 : ByteArray) (x30 : ByteArray) (x31 : ByteArray) (x32 : List (List PV)) (x33 : List (List PV)) (x34 : Bool) (x35 : Int) (x36 : ByteArray) (x37 : Int) : St := ⟨envL [(1, (.ptr [0, TAG] 1 0 0)), (2, (.ptr [1, TAG] 1 0 0)), (3, (.ptr [2, TAG] 1 0 0)), (4, (pI x0))], hsL [some ⟨19, 29, [[(pI x1), (pI x2), (pI x3), (pI x4), (pI x5), (pI x6), (pI x7), (pI x8), (pI x9), (pS x10), (pS x11), (pS x12), (.list 1 false x13), (.list 3 false x14), (.list 1 false x15), (pB x16), (pI x17), (pS x18), (pI x19)]], true, false⟩, some ⟨19, 34, [[(pI (0 : Int)), (pI (0 : Int)), (pI (0 : Int)), (pI (0 : Int)), (pI (0 : Int)), (pI (0 : Int)), (pI (0 : Int)), (pI (0 : Int)), (pI (0 : Int)), (pS (bs [])), (pS (bs [])), (pS (bs [])), (.v (.slice none 0 0)), (.v (.slice none 0 0)), (.v (.slice none 0 0)), (pB false), (pI (0 : Int)), (pS (bs [])), (pI (0 : Int))]], true, false⟩, some ⟨19, 34, [[(pI x20), (pI x21), (pI x22), (pI x23), (pI x24), (pI x25), (pI x26), (pI x27), (pI x28), (pS x29), (pS x30), (pS x31), (.list 1 false x32), (.v (.slice none 0 0)), (.list 1 false x33), (pB x34), (pI x35), (pS x36), (pI x37)]], true, false⟩] [0, 0, 0]⟩
def law18Work_R3_1 (x0 : Int) (x1 : Int) (x2 : Int) (x3 : Int) (x4 : Int) (x5 : Int) (x6 : Int) (x7 : Int) (x8 : Int) (x9 : Int) (x10 : ByteArray) (x11 : ByteArray) (x12 : ByteArray) (x13 : List (List PV)) (x14 : List (List PV)) (x15 : List (List PV)) (x16 : Bool) (x17 : Int) (x18 : ByteArray) (x19 : Int) (x20 : Int) (x21 : Int) (x22 : Int) (x23 : Int) (x24 : Int) (x25 : Int) (x26 : Int) (x27 : Int) (x28 : Int) (x29 : ByteArray) (x30 : ByteArray) (x31 : ByteArray) (x32 : List (List PV)) (x33 : Nat) (x34 : List (List PV)) (x35 : Bool) (x36 : Int) (x37 : ByteArray) (x38 : Int) (x39 : List (List PV)) : St := ⟨envL [(1, (.ptr [0, TAG] 1 0 0)), (2, (.ptr [1, TAG] 1 0 0)), (3, (.ptr [2, TAG] 1 0 0)), (4, (pI x0))], hsL [some ⟨19, 29, [[(pI x1), (pI x2), (pI x3), (pI x4), (pI x5), (pI x6), (pI x7), (pI x8), (pI x9), (pS x10), (pS x11), (pS x12), (.list 1 false x13), (.list 3 false x14), (.list 1 false x15), (pB x16), (pI x17), (pS x18), (pI x19)]], true, false⟩, some ⟨19, 34, [[(pI (0 : Int)), (pI (0 : Int)), (pI (0 : Int)), (pI (0 : Int)), (pI (0 : Int)), (pI (0 : Int)), (pI (0 : Int)), (pI (0 : Int)), (pI (0 : Int)), (pS (bs [])), (pS (bs [])), (pS (bs [])), (.v (.slice none 0 0)), (.v (.slice none 0 0)), (.v (.slice none 0 0)), (pB false), (pI (0 : Int)), (pS (bs [])), (pI (0 : Int))]], true, false⟩, some ⟨19, 34, [[(pI x20), (pI x21), (pI x22), (pI x23), (pI x24), (pI x25), (pI x26), (pI x27), (pI x28), (pS x29), (pS x30), (pS x31), (.list 1 false x32), (.row [3, TAG] 1 0 x33), (.list 1 false x34), (pB x35), (pI x36), (pS x37), (pI x38)]], false, false⟩, some ⟨3, 96, x39, true, true⟩] [0, 0, 0, 0]⟩
theorem law18Work_R3_1_eq {x0 y0 : Int} {x1 y1 : Int} {x2 y2 : Int} {x3 y3 : Int} {x4 y4 : Int} {x5 y5 : Int} {x6 y6 : Int} {x7 y7 : Int} {x8 y8 : Int} {x9 y9 : Int} {x10 y10 : ByteArray} {x11 y11 : ByteArray} {x12 y12 : ByteArray} {x13 y13 : List (List PV)} {x14 y14 : List (List PV)} {x15 y15 : List (List PV)} {x16 y16 : Bool} {x17 y17 : Int} {x18 y18 : ByteArray} {x19 y19 : Int} {x20 y20 : Int} {x21 y21 : Int} {x22 y22 : Int} {x23 y23 : Int} {x24 y24 : Int} {x25 y25 : Int} {x26 y26 : Int} {x27 y27 : Int} {x28 y28 : Int} {x29 y29 : ByteArray} {x30 y30 : ByteArray} {x31 y31 : ByteArray} {x32 y32 : List (List PV)} {x33 y33 : Nat} {x34 y34 : List (List PV)} {x35 y35 : Bool} {x36 y36 : Int} {x37 y37 : ByteArray} {x38 y38 : Int} {x39 y39 : List (List PV)} (h0 : x0 = y0) (h1 : x1 = y1) (h2 : x2 = y2) (h3 : x3 = y3) (h4 : x4 = y4) (h5 : x5 = y5) (h6 : x6 = y6) (h7 : x7 = y7) (h8 : x8 = y8) (h9 : x9 = y9) (h10 : x10 = y10) (h11 : x11 = y11) (h12 : x12 = y12) (h13 : x13 = y13) (h14 : x14 = y14) (h15 : x15 = y15) (h16 : x16 = y16) (h17 : x17 = y17) (h18 : x18 = y18) (h19 : x19 = y19) (h20 : x20 = y20) (h21 : x21 = y21) (h22 : x22 = y22) (h23 : x23 = y23) (h24 : x24 = y24) (h25 : x25 = y25) (h26 : x26 = y26) (h27 : x27 = y27) (h28 : x28 = y28) (h29 : x29 = y29) (h30 : x30 = y30) (h31 : x31 = y31) (h32 : x32 = y32) (h33 : x33 = y33) (h34 : x34 = y34) (h35 : x35 = y35) (h36 : x36 = y36) (h37 : x37 = y37) (h38 : x38 = y38) (h39 : x39 = y39) : law18Work_R3_1 x0 x1 x2 x3 x4 x5 x6 x7 x8 x9 x10 x11 x12 x13 x14 x15 x16 x17 x18 x19 x20 x21 x22 x23 x24 x25 x26 x27 x28 x29 x30 x31 x32 x33 x34 x35 x36 x37 x38 x39 = law18Work_R3_1 y0 y1 y2 y3 y4 y5 y6 y7 y8 y9 y10 y11 y12 y13 y14 y15 y16 y17 y18 y19 y20 y21 y22 y23 y24 y25 y26 y27 y28 y29 y30 y31 y32 y33 y34 y35 y36 y37 y38 y39 := by
  subst h0 h1 h2 h3 h4 h5 h6 h7 h8 h9 h10 h11 h12 h13 h14 h15 h16 h17 h18 h19 h20 h21 h22 h23 h24 h25 h26 h27 h28 h29 h30 h31 h32 h33 h34 h35 h36 h37 h38 h39; rfl
def law18Work_S3 (p0 : Int) (p1 : Int) (p2 : Int) (p3 : Int) (p4 : Int) (p5 : Int) (p6 : Int) (p7 : Int) (p8 : Int) (p9 : ByteArray) (p10 : ByteArray) (p11 : ByteArray) (p12 : (List ByteArray)) (p13 : (List FrameD)) (p14 : (List Int)) (p15 : Bool) (p16 : Int) (p17 : ByteArray) (p18 : Int) (p19 : Int) (p20 : Int) (p21 : Int) (p22 : Int) (p23 : Int) (p24 : Int) (p25 : Int) (p26 : Int) (p27 : Int) (p28 : ByteArray) (p29 : ByteArray) (p30 : ByteArray) (p31 : (List ByteArray)) (p32 : (List Int)) (p33 : Bool) (p34 : Int) (p35 : ByteArray) (p36 : Int) : (Int × (List FrameD)) → St
 | (v0, []) => law18Work_R3_0 v0 p0 p1 p2 p3 p4 p5 p6 p7 p8 p9 p10 p11 (p12.map cS) (p13.map FrameD.c) (p14.map cI) p15 p16 p17 p18 p19 p20 p21 p22 p23 p24 p25 p26 p27 p28 p29 p30 (p31.map cS) (p32.map cI) p33 p34 p35 p36
 | (v0, z_1 :: z_2) => law18Work_R3_1 v0 p0 p1 p2 p3 p4 p5 p6 p7 p8 p9 p10 p11 (p12.map cS) (p13.map FrameD.c) (p14.map cI) p15 p16 p17 p18 p19 p20 p21 p22 p23 p24 p25 p26 p27 p28 p29 p30 (p31.map cS) (z_1 :: z_2).length (p32.map cI) p33 p34 p35 p36 ((z_1 :: z_2).map FrameD.c)
def law18Work_b3 (p0 : Int) (p1 : Int) (p2 : Int) (p3 : Int) (p4 : Int) (p5 : Int) (p6 : Int) (p7 : Int) (p8 : Int) (p9 : ByteArray) (p10 : ByteArray) (p11 : ByteArray) (p12 : (List ByteArray)) (p13 : (List FrameD)) (p14 : (List Int)) (p15 : Bool) (p16 : Int) (p17 : ByteArray) (p18 : Int) (p19 : Int) (p20 : Int) (p21 : Int) (p22 : Int) (p23 : Int) (p24 : Int) (p25 : Int) (p26 : Int) (p27 : Int) (p28 : ByteArray) (p29 : ByteArray) (p30 : ByteArray) (p31 : (List ByteArray)) (p32 : (List Int)) (p33 : Bool) (p34 : Int) (p35 : ByteArray) (p36 : Int) : (Int × (List FrameD)) → Option ((Int × (List FrameD)) ⊕ (Int ⊕ (Int × FrameD × (List FrameD))))
 | (v0, v1) =>
 (match v1 with
 | [] => (
 bif (decide (v0 < (p13.length : Int))) then (
 (gt p13 v0).bind fun y_1 =>
 some (.inl ((w64 (v0 + (1 : Int))), [y_1]))
 ) else (
 some (.inr (.inl v0))
 )
 )
 | z_1 :: z_2 => (
 bif (decide (v0 < (p13.length : Int))) then (
 (gt p13 v0).bind fun y_1 =>
 grd (room ((z_1 :: z_2).length + 1) 48) <|
 some (.inl ((w64 (v0 + (1 : Int))), ((z_1 :: z_2) ++ [y_1])))
 ) else (
 some (.inr (.inr ((v0, z_1, z_2))))
 )
 ))
set_option maxRecDepth 100000 in
theorem law18Work_t3 (k : Nat) (p0 : Int) (p1 : Int) (p2 : Int) (p3 : Int) (p4 : Int) (p5 : Int) (p6 : Int) (p7 : Int) (p8 : Int) (p9 : ByteArray) (p10 : ByteArray) (p11 : ByteArray) (p12 : (List ByteArray)) (p13 : (List FrameD)) (p14 : (List Int)) (p15 : Bool) (p16 : Int) (p17 : ByteArray) (p18 : Int) (p19 : Int) (p20 : Int) (p21 : Int) (p22 : Int) (p23 : Int) (p24 : Int) (p25 : Int) (p26 : Int) (p27 : Int) (p28 : ByteArray) (p29 : ByteArray) (p30 : ByteArray) (p31 : (List ByteArray)) (p32 : (List Int)) (p33 : Bool) (p34 : Int) (p35 : ByteArray) (p36 : Int) (a a1 : (Int × (List FrameD))) (h : law18Work_b3 p0 p1 p2 p3 p4 p5 p6 p7 p8 p9 p10 p11 p12 p13 p14 p15 p16 p17 p18 p19 p20 p21 p22 p23 p24 p25 p26 p27 p28 p29 p30 p31 p32 p33 p34 p35 p36 a = some (.inl a1)) : ∃ σ, run1 k 9 0 60 law18Work_L3 (law18Work_S3 p0 p1 p2 p3 p4 p5 p6 p7 p8 p9 p10 p11 p12 p13 p14 p15 p16 p17 p18 p19 p20 p21 p22 p23 p24 p25 p26 p27 p28 p29 p30 p31 p32 p33 p34 p35 p36 a) = some (.normal, σ) ∧ canonS 0 [1, 2, 3, 4] σ = some (law18Work_S3 p0 p1 p2 p3 p4 p5 p6 p7 p8 p9 p10 p11 p12 p13 p14 p15 p16 p17 p18 p19 p20 p21 p22 p23 p24 p25 p26 p27 p28 p29 p30 p31 p32 p33 p34 p35 p36 a1) := by
  obtain ⟨v0, v1⟩ := a
  unfold law18Work_b3 at h
  try dsimp only at h
  rcases v1 with _ | ⟨z_1, z_2⟩
  · try dsimp only at h
    rcases bif_some h with ⟨q1, h⟩ | ⟨q1, h⟩
    · obtain ⟨y_1, q2, h⟩ := bnd_some h
      obtain rfl := Sum.inl.inj (Option.some.inj h)
      exact ⟨_, run_go (k := k) (f := 9) (r0 := 0) (nt := 60) (c := law18Work_L3) (σ := (law18Work_S3 p0 p1 p2 p3 p4 p5 p6 p7 p8 p9 p10 p11 p12 p13 p14 p15 p16 p17 p18 p19 p20 p21 p22 p23 p24 p25 p26 p27 p28 p29 p30 p31 p32 p33 p34 p35 p36 (v0, []))) (adv [([], 3, 3, .eq (pI (p13.length : Int))), ([], 3, 4, .eq (pB true)), ([], 5, 5, .elem [(pI y_1.fd), (pS y_1.name), (.list 1 false (y_1.names.map cS))]), ([], 5, 8, .ok)]) (ex := .normal) (by kernel_rfl) (by kernel_rfl) (allC (len_ob (rfl : (p13.map FrameD.c) = p13.map FrameD.c)) (allC (cg q1) (allC (gt_list (c := FrameD.c) q2) (allC (by decide : 1 ≤ 140737488355328 ∧ (1) * 48 ≤ 140737488355328) allN)))), (Eq.trans (b := some (law18Work_R3_1 (w64 (v0 + (1 : Int))) p0 p1 p2 p3 p4 p5 p6 p7 p8 p9 p10 p11 (p12.map cS) (p13.map FrameD.c) (p14.map cI) p15 p16 p17 p18 p19 p20 p21 p22 p23 p24 p25 p26 p27 p28 p29 p30 (p31.map cS) 1 (p32.map cI) p33 p34 p35 p36 ([[(pI y_1.fd), (pS y_1.name), (.list 1 false (y_1.names.map cS))]]))) (by kernel_rfl) (congrArg some ((law18Work_R3_1_eq (rfl : (w64 (v0 + (1 : Int))) = (w64 (v0 + (1 : Int)))) (rfl : p0 = p0) (rfl : p1 = p1) (rfl : p2 = p2) (rfl : p3 = p3) (rfl : p4 = p4) (rfl : p5 = p5) (rfl : p6 = p6) (rfl : p7 = p7) (rfl : p8 = p8) (rfl : p9 = p9) (rfl : p10 = p10) (rfl : p11 = p11) (rfl : (p12.map cS) = (p12.map cS)) (rfl : (p13.map FrameD.c) = (p13.map FrameD.c)) (rfl : (p14.map cI) = (p14.map cI)) (rfl : p15 = p15) (rfl : p16 = p16) (rfl : p17 = p17) (rfl : p18 = p18) (rfl : p19 = p19) (rfl : p20 = p20) (rfl : p21 = p21) (rfl : p22 = p22) (rfl : p23 = p23) (rfl : p24 = p24) (rfl : p25 = p25) (rfl : p26 = p26) (rfl : p27 = p27) (rfl : p28 = p28) (rfl : p29 = p29) (rfl : p30 = p30) (rfl : (p31.map cS) = (p31.map cS)) ((rfl : 1 = _) : 1 = ([y_1].length)) (rfl : (p32.map cI) = (p32.map cI)) (rfl : p33 = p33) (rfl : p34 = p34) (rfl : p35 = p35) (rfl : p36 = p36) (rfl : ([[(pI y_1.fd), (pS y_1.name), (.list 1 false (y_1.names.map cS))]]) = ([y_1].map FrameD.c))).trans (by kernel_rfl : law18Work_R3_1 (w64 (v0 + (1 : Int))) p0 p1 p2 p3 p4 p5 p6 p7 p8 p9 p10 p11 (p12.map cS) (p13.map FrameD.c) (p14.map cI) p15 p16 p17 p18 p19 p20 p21 p22 p23 p24 p25 p26 p27 p28 p29 p30 (p31.map cS) ([y_1].length) (p32.map cI) p33 p34 p35 p36 ([y_1].map FrameD.c) = law18Work_S3 p0 p1 p2 p3 p4 p5 p6 p7 p8 p9 p10 p11 p12 p13 p14 p15 p16 p17 p18 p19 p20 p21 p22 p23 p24 p25 p26 p27 p28 p29 p30 p31 p32 p33 p34 p35 p36 ((w64 (v0 + (1 : Int))), [y_1])))))⟩
    · cases h
  · try dsimp only at h
    rcases bif_some h with ⟨q1, h⟩ | ⟨q1, h⟩
    · obtain ⟨y_1, q2, h⟩ := bnd_some h
      obtain ⟨q3, h⟩ := grd_some h
      obtain rfl := Sum.inl.inj (Option.some.inj h)
      exact ⟨_, run_go (k := k) (f := 9) (r0 := 0) (nt := 60) (c := law18Work_L3) (σ := (law18Work_S3 p0 p1 p2 p3 p4 p5 p6 p7 p8 p9 p10 p11 p12 p13 p14 p15 p16 p17 p18 p19 p20 p21 p22 p23 p24 p25 p26 p27 p28 p29 p30 p31 p32 p33 p34 p35 p36 (v0, (z_1 :: z_2)))) (adv [([], 3, 3, .eq (pI (p13.length : Int))), ([], 3, 4, .eq (pB true)), ([], 5, 5, .elem [(pI y_1.fd), (pS y_1.name), (.list 1 false (y_1.names.map cS))]), ([], 5, 8, .ok)]) (ex := .normal) (by kernel_rfl) (by kernel_rfl) (allC (len_ob (rfl : (p13.map FrameD.c) = p13.map FrameD.c)) (allC (cg q1) (allC (gt_list (c := FrameD.c) q2) (allC (app_ok (rfl : ((z_1 :: z_2).map FrameD.c) = (z_1 :: z_2).map FrameD.c) (rfl : (z_1 :: z_2).length = (z_1 :: z_2).length) q3) allN)))), (Eq.trans (b := some (law18Work_R3_1 (w64 (v0 + (1 : Int))) p0 p1 p2 p3 p4 p5 p6 p7 p8 p9 p10 p11 (p12.map cS) (p13.map FrameD.c) (p14.map cI) p15 p16 p17 p18 p19 p20 p21 p22 p23 p24 p25 p26 p27 p28 p29 p30 (p31.map cS) ((z_1 :: z_2).length + 1) (p32.map cI) p33 p34 p35 p36 (((z_1 :: z_2).map FrameD.c) ++ [[(pI y_1.fd), (pS y_1.name), (.list 1 false (y_1.names.map cS))]]))) (by kernel_rfl) (congrArg some ((law18Work_R3_1_eq (rfl : (w64 (v0 + (1 : Int))) = (w64 (v0 + (1 : Int)))) (rfl : p0 = p0) (rfl : p1 = p1) (rfl : p2 = p2) (rfl : p3 = p3) (rfl : p4 = p4) (rfl : p5 = p5) (rfl : p6 = p6) (rfl : p7 = p7) (rfl : p8 = p8) (rfl : p9 = p9) (rfl : p10 = p10) (rfl : p11 = p11) (rfl : (p12.map cS) = (p12.map cS)) (rfl : (p13.map FrameD.c) = (p13.map FrameD.c)) (rfl : (p14.map cI) = (p14.map cI)) (rfl : p15 = p15) (rfl : p16 = p16) (rfl : p17 = p17) (rfl : p18 = p18) (rfl : p19 = p19) (rfl : p20 = p20) (rfl : p21 = p21) (rfl : p22 = p22) (rfl : p23 = p23) (rfl : p24 = p24) (rfl : p25 = p25) (rfl : p26 = p26) (rfl : p27 = p27) (rfl : p28 = p28) (rfl : p29 = p29) (rfl : p30 = p30) (rfl : (p31.map cS) = (p31.map cS)) ((len_cat (rfl : (z_1 :: z_2).length = (z_1 :: z_2).length) (z_1 :: z_2) (rfl : 1 = [y_1].length)) : ((z_1 :: z_2).length + 1) = (((z_1 :: z_2) ++ [y_1]).length)) (rfl : (p32.map cI) = (p32.map cI)) (rfl : p33 = p33) (rfl : p34 = p34) (rfl : p35 = p35) (rfl : p36 = p36) ((enc_cat (rfl : ((z_1 :: z_2).map FrameD.c) = (z_1 :: z_2).map FrameD.c) (show [[(pI y_1.fd), (pS y_1.name), (.list 1 false (y_1.names.map cS))]] = [y_1].map FrameD.c from rfl)) : (((z_1 :: z_2).map FrameD.c) ++ [[(pI y_1.fd), (pS y_1.name), (.list 1 false (y_1.names.map cS))]]) = (((z_1 :: z_2) ++ [y_1]).map FrameD.c))).trans (by kernel_rfl : law18Work_R3_1 (w64 (v0 + (1 : Int))) p0 p1 p2 p3 p4 p5 p6 p7 p8 p9 p10 p11 (p12.map cS) (p13.map FrameD.c) (p14.map cI) p15 p16 p17 p18 p19 p20 p21 p22 p23 p24 p25 p26 p27 p28 p29 p30 (p31.map cS) (((z_1 :: z_2) ++ [y_1]).length) (p32.map cI) p33 p34 p35 p36 (((z_1 :: z_2) ++ [y_1]).map FrameD.c) = law18Work_S3 p0 p1 p2 p3 p4 p5 p6 p7 p8 p9 p10 p11 p12 p13 p14 p15 p16 p17 p18 p19 p20 p21 p22 p23 p24 p25 p26 p27 p28 p29 p30 p31 p32 p33 p34 p35 p36 ((w64 (v0 + (1 : Int))), ((z_1 :: z_2) ++ [y_1]))))))⟩
    · cases h
def law18Work (j : JobD) : Option JobD :=
 (iterN (law18Work_b3 j.kind j.p j.phase j.fd j.nF j.modeF j.tries j.atF j.flags j.path j.path2 j.text j.names j.stack j.draws j.done j.exit j.out j.e j.kind j.p j.phase j.fd j.nF j.modeF j.tries j.atF j.flags j.path j.path2 j.text j.names j.draws j.done j.exit j.out j.e) LF ((0 : Int), [])).bind fun X_1 => match X_1 with
 | .inl v_1 => (
 some (JobD.mk j.kind j.p j.phase j.fd j.nF j.modeF j.tries j.atF j.flags j.path j.path2 j.text j.names [] j.draws j.done j.exit j.out j.e)
 )
 | .inr ((v_1, z_1, z_2)) => (
 some (JobD.mk j.kind j.p j.phase j.fd j.nF j.modeF j.tries j.atF j.flags j.path j.path2 j.text j.names (z_1 :: z_2) j.draws j.done j.exit j.out j.e)
 )
set_option maxRecDepth 100000 in
theorem law18Work_ok (k : Nat) (j : JobD) (r : JobD) (h : law18Work j = some r) : run0 (k + 1) 9 [(JobD.a j)] = some (JobD.a r) := by
  unfold law18Work at h
  obtain ⟨X_1, q1, h⟩ := bnd_some h
  obtain ⟨a_1, q2, q3⟩ := loop_iter (f := run1 k 9 0 60 law18Work_L3) (law18Work_S3 j.kind j.p j.phase j.fd j.nF j.modeF j.tries j.atF j.flags j.path j.path2 j.text j.names j.stack j.draws j.done j.exit j.out j.e j.kind j.p j.phase j.fd j.nF j.modeF j.tries j.atF j.flags j.path j.path2 j.text j.names j.draws j.done j.exit j.out j.e) (law18Work_b3 j.kind j.p j.phase j.fd j.nF j.modeF j.tries j.atF j.flags j.path j.path2 j.text j.names j.stack j.draws j.done j.exit j.out j.e j.kind j.p j.phase j.fd j.nF j.modeF j.tries j.atF j.flags j.path j.path2 j.text j.names j.draws j.done j.exit j.out j.e) (law18Work_t3 k j.kind j.p j.phase j.fd j.nF j.modeF j.tries j.atF j.flags j.path j.path2 j.text j.names j.stack j.draws j.done j.exit j.out j.e j.kind j.p j.phase j.fd j.nF j.modeF j.tries j.atF j.flags j.path j.path2 j.text j.names j.draws j.done j.exit j.out j.e) LF ((0 : Int), []) _ (stOf (goStop k 9 0 60 (adv []) 3 (codeOf Tryz.f9) (argS 9 [(JobD.a j)]))) q1 (by kernel_rfl)
  obtain ⟨v_1, v_2⟩ := a_1
  unfold law18Work_b3 at q2
  try dsimp only at q2
  rcases v_2 with _ | ⟨z_1, z_2⟩
  · try dsimp only at q2
    rcases bif_some q2 with ⟨q6, q2⟩ | ⟨q6, q2⟩
    · obtain ⟨y_1, q7, q2⟩ := bnd_some q2
      cases q2
    · cases q2
      try dsimp only at h
      have q4 := run_go (k := k) (f := 9) (r0 := 0) (nt := 60) (c := law18Work_L3) (σ := (law18Work_S3 j.kind j.p j.phase j.fd j.nF j.modeF j.tries j.atF j.flags j.path j.path2 j.text j.names j.stack j.draws j.done j.exit j.out j.e j.kind j.p j.phase j.fd j.nF j.modeF j.tries j.atF j.flags j.path j.path2 j.text j.names j.draws j.done j.exit j.out j.e (v_1, []))) (adv [([], 3, 3, .eq (pI (j.stack.length : Int))), ([], 3, 4, .eq (pB false))]) (ex := (.exit 0)) (by kernel_rfl) (by kernel_rfl) (allC (len_ob (rfl : (j.stack.map FrameD.c) = j.stack.map FrameD.c)) (allC (cg q6) allN))
      have q5 := q3 _ _ (by intro e; cases e) q4
      obtain rfl := Option.some.inj h
      exact ret_go (k := k) Tryz.func9 Tryz.ntmps9 (by kernel_rfl) (by kernel_rfl) (lb rfl) (adv [] [([], 3, (.exit 0), (stOf (go k 9 0 60 (adv [([], 3, 3, .eq (pI (j.stack.length : Int))), ([], 3, 4, .eq (pB false))]) law18Work_L3 (law18Work_S3 j.kind j.p j.phase j.fd j.nF j.modeF j.tries j.atF j.flags j.path j.path2 j.text j.names j.stack j.draws j.done j.exit j.out j.e j.kind j.p j.phase j.fd j.nF j.modeF j.tries j.atF j.flags j.path j.path2 j.text j.names j.draws j.done j.exit j.out j.e (v_1, [])))))]) (ex := .ret) (r := (.agg [(pI j.kind), (pI j.p), (pI j.phase), (pI j.fd), (pI j.nF), (pI j.modeF), (pI j.tries), (pI j.atF), (pI j.flags), (pS j.path), (pS j.path2), (pS j.text), (.list 1 false (j.names.map cS)), (.list 3 false []), (.list 1 false (j.draws.map cI)), (pB j.done), (pI j.exit), (pS j.out), (pI j.e)])) (by kernel_rfl) rfl (by kernel_rfl) (allC q5 allN) (by kernel_rfl) allN
  · try dsimp only at q2
    rcases bif_some q2 with ⟨q6, q2⟩ | ⟨q6, q2⟩
    · obtain ⟨y_1, q7, q2⟩ := bnd_some q2
      obtain ⟨q8, q2⟩ := grd_some q2
      cases q2
    · cases q2
      try dsimp only at h
      have q4 := run_go (k := k) (f := 9) (r0 := 0) (nt := 60) (c := law18Work_L3) (σ := (law18Work_S3 j.kind j.p j.phase j.fd j.nF j.modeF j.tries j.atF j.flags j.path j.path2 j.text j.names j.stack j.draws j.done j.exit j.out j.e j.kind j.p j.phase j.fd j.nF j.modeF j.tries j.atF j.flags j.path j.path2 j.text j.names j.draws j.done j.exit j.out j.e (v_1, (z_1 :: z_2)))) (adv [([], 3, 3, .eq (pI (j.stack.length : Int))), ([], 3, 4, .eq (pB false))]) (ex := (.exit 0)) (by kernel_rfl) (by kernel_rfl) (allC (len_ob (rfl : (j.stack.map FrameD.c) = j.stack.map FrameD.c)) (allC (cg q6) allN))
      have q5 := q3 _ _ (by intro e; cases e) q4
      obtain rfl := Option.some.inj h
      exact ret_go (k := k) Tryz.func9 Tryz.ntmps9 (by kernel_rfl) (by kernel_rfl) (lb rfl) (adv [] [([], 3, (.exit 0), (stOf (go k 9 0 60 (adv [([], 3, 3, .eq (pI (j.stack.length : Int))), ([], 3, 4, .eq (pB false))]) law18Work_L3 (law18Work_S3 j.kind j.p j.phase j.fd j.nF j.modeF j.tries j.atF j.flags j.path j.path2 j.text j.names j.stack j.draws j.done j.exit j.out j.e j.kind j.p j.phase j.fd j.nF j.modeF j.tries j.atF j.flags j.path j.path2 j.text j.names j.draws j.done j.exit j.out j.e (v_1, (z_1 :: z_2))))))]) (ex := .ret) (r := (.agg [(pI j.kind), (pI j.p), (pI j.phase), (pI j.fd), (pI j.nF), (pI j.modeF), (pI j.tries), (pI j.atF), (pI j.flags), (pS j.path), (pS j.path2), (pS j.text), (.list 1 false (j.names.map cS)), (.list 3 false ((z_1 :: z_2).map FrameD.c)), (.list 1 false (j.draws.map cI)), (pB j.done), (pI j.exit), (pS j.out), (pI j.e)])) (by kernel_rfl) rfl (by kernel_rfl) (allC q5 allN) (by kernel_rfl) (allC (row_ok (rfl : ((z_1 :: z_2).map FrameD.c) = (z_1 :: z_2).map FrameD.c) (rfl : (z_1 :: z_2).length = (z_1 :: z_2).length)) allN)
end Go.Proofs.YtdbekeidlppfiaaGreatDoor.Den
namespace Go.Proofs.YtdbekeidlppfiaaGreatDoor.Den
open Go Go.RowKit
def cloneWork (j : JobD) : Option (ByteArray × ByteArray × Bool) :=
 bif j.done then (
 some ((bs []), (bs []), false)
 ) else (
 bif (j.kind != (3 : Int)) then (
 some ((bs []), (bs []), false)
 ) else (
 bif (decide (j.phase < (0 : Int))) then (
 some ((bs []), (bs []), false)
 ) else (
 bif (decide (j.phase > (13 : Int))) then (
 some ((bs []), (bs []), false)
 ) else (
 bif (decide ((j.names.length : Int) < (3 : Int))) then (
 some ((bs []), (bs []), (j.phase == (0 : Int)))
 ) else (
 (gt j.names (1 : Int)).bind fun y_1 =>
 (gt j.names (2 : Int)).bind fun y_2 =>
 some (y_1, y_2, true)
 )
 )
 )
 )
 )
set_option maxRecDepth 100000 in
theorem cloneWork_ok (k : Nat) (j : JobD) (r : (ByteArray × ByteArray × Bool)) (h : cloneWork j = some r) : run0 (k + 1) 37 [(JobD.a j)] = some (.tup [(pS r.1), (pS r.2.1), (pB r.2.2)]) := by
  unfold cloneWork at h
  rcases bif_some h with ⟨q1, h⟩ | ⟨q1, h⟩
  · obtain rfl := Option.some.inj h
    exact ret_go (k := k) Tryz.func37 Tryz.ntmps37 (by kernel_rfl) (by kernel_rfl) (lb rfl) (adv [([], 1, 2, .eq (pB true))]) (ex := .ret) (r := (.tup [(pS (bs [])), (pS (bs [])), (pB false)])) (by kernel_rfl) rfl (by kernel_rfl) (allC (cg q1) allN) (by kernel_rfl) allN
  · rcases bif_some h with ⟨q2, h⟩ | ⟨q2, h⟩
    · obtain rfl := Option.some.inj h
      exact ret_go (k := k) Tryz.func37 Tryz.ntmps37 (by kernel_rfl) (by kernel_rfl) (lb rfl) (adv [([], 1, 2, .eq (pB false)), ([], 1, 7, .eq (pB true))]) (ex := .ret) (r := (.tup [(pS (bs [])), (pS (bs [])), (pB false)])) (by kernel_rfl) rfl (by kernel_rfl) (allC (cg q1) (allC (cg q2) allN)) (by kernel_rfl) allN
    · rcases bif_some h with ⟨q3, h⟩ | ⟨q3, h⟩
      · obtain rfl := Option.some.inj h
        exact ret_go (k := k) Tryz.func37 Tryz.ntmps37 (by kernel_rfl) (by kernel_rfl) (lb rfl) (adv [([], 1, 2, .eq (pB false)), ([], 1, 7, .eq (pB false)), ([], 1, 12, .eq (pB true))]) (ex := .ret) (r := (.tup [(pS (bs [])), (pS (bs [])), (pB false)])) (by kernel_rfl) rfl (by kernel_rfl) (allC (cg q1) (allC (cg q2) (allC (cg q3) allN))) (by kernel_rfl) allN
      · rcases bif_some h with ⟨q4, h⟩ | ⟨q4, h⟩
        · obtain rfl := Option.some.inj h
          exact ret_go (k := k) Tryz.func37 Tryz.ntmps37 (by kernel_rfl) (by kernel_rfl) (lb rfl) (adv [([], 1, 2, .eq (pB false)), ([], 1, 7, .eq (pB false)), ([], 1, 12, .eq (pB false)), ([], 1, 16, .eq (pB true))]) (ex := .ret) (r := (.tup [(pS (bs [])), (pS (bs [])), (pB false)])) (by kernel_rfl) rfl (by kernel_rfl) (allC (cg q1) (allC (cg q2) (allC (cg q3) (allC (cg q4) allN)))) (by kernel_rfl) allN
        · rcases bif_some h with ⟨q5, h⟩ | ⟨q5, h⟩
          · obtain rfl := Option.some.inj h
            exact ret_go (k := k) Tryz.func37 Tryz.ntmps37 (by kernel_rfl) (by kernel_rfl) (lb rfl) (adv [([], 1, 2, .eq (pB false)), ([], 1, 7, .eq (pB false)), ([], 1, 12, .eq (pB false)), ([], 1, 16, .eq (pB false)), ([], 3, 2, .eq (pI (j.names.length : Int))), ([], 3, 3, .eq (pB true))]) (ex := .ret) (r := (.tup [(pS (bs [])), (pS (bs [])), (pB (j.phase == (0 : Int)))])) (by kernel_rfl) rfl (by kernel_rfl) (allC (cg q1) (allC (cg q2) (allC (cg q3) (allC (cg q4) (allC (len_ob (rfl : (j.names.map cS) = j.names.map cS)) (allC (cg q5) allN)))))) (by kernel_rfl) allN
          · obtain ⟨y_1, q6, h⟩ := bnd_some h
            obtain ⟨y_2, q7, h⟩ := bnd_some h
            obtain rfl := Option.some.inj h
            exact ret_go (k := k) Tryz.func37 Tryz.ntmps37 (by kernel_rfl) (by kernel_rfl) (lb rfl) (adv [([], 1, 2, .eq (pB false)), ([], 1, 7, .eq (pB false)), ([], 1, 12, .eq (pB false)), ([], 1, 16, .eq (pB false)), ([], 3, 2, .eq (pI (j.names.length : Int))), ([], 3, 3, .eq (pB false)), ([], 5, 2, .elem [(pS y_1)]), ([], 5, 6, .elem [(pS y_2)])]) (ex := .ret) (r := (.tup [(pS y_1), (pS y_2), (pB true)])) (by kernel_rfl) rfl (by kernel_rfl) (allC (cg q1) (allC (cg q2) (allC (cg q3) (allC (cg q4) (allC (len_ob (rfl : (j.names.map cS) = j.names.map cS)) (allC (cg q5) (allC (gt_list (c := cS) q6) (allC (gt_list (c := cS) q7) allN)))))))) (by kernel_rfl) allN
noncomputable def modeParse_L5 : Code := cAt (codeOf Tryz.f45) [true, true, true, false, true, false, false]
def modeParse_R5 (x0 : ByteArray) (x1 : Int) (x2 : Int) (x3 : Int) : St := ⟨envL [(0, (pS x0)), (4, (pI x1)), (16, (pI x2)), (17, (pI x3))], hsL [] []⟩
def modeParse_S5 (p0 : ByteArray) (p1 : Int) : (Int × Int) → St
 | (v0, v1) => modeParse_R5 p0 v0 p1 v1
def modeParse_b5 (p0 : ByteArray) (p1 : Int) : (Int × Int) → Option ((Int × Int) ⊕ ((Int × Int × UInt8 × Int) ⊕ (Int × Int)))
 | (v0, v1) =>
 bif (decide (v1 < p1)) then (
 (gtS p0 v1).bind fun b_1 =>
 (ixbX (bs [48, 49, 50, 51, 52, 53, 54, 55]) (b_1.toNat : Int)).bind fun r_1 =>
 bif (decide (r_1 < (0 : Int))) then (
 some (.inr (.inl (v0, v1, b_1, r_1)))
 ) else (
 some (.inl ((bits .or .i64 (IntKind.wrap .i64 (v0 * 2 ^ 3)) r_1), (w64 (v1 + (1 : Int)))))
 )
 ) else (
 some (.inr (.inr ((v0, v1))))
 )
set_option maxRecDepth 100000 in
theorem modeParse_t5 (k : Nat) (p0 : ByteArray) (p1 : Int) (a a1 : (Int × Int)) (h : modeParse_b5 p0 p1 a = some (.inl a1)) : ∃ σ, run1 k 45 0 32 modeParse_L5 (modeParse_S5 p0 p1 a) = some (.normal, σ) ∧ canonS 0 [0, 4, 16, 17] σ = some (modeParse_S5 p0 p1 a1) := by
  obtain ⟨v0, v1⟩ := a
  unfold modeParse_b5 at h
  try dsimp only at h
  rcases bif_some h with ⟨q1, h⟩ | ⟨q1, h⟩
  · obtain ⟨b_1, q2, h⟩ := bnd_some h
    obtain ⟨r_1, q3, h⟩ := bnd_some h
    rcases bif_some h with ⟨q4, h⟩ | ⟨q4, h⟩
    · cases h
    · obtain rfl := Sum.inl.inj (Option.some.inj h)
      exact ⟨_, run_go (k := k) (f := 45) (r0 := 0) (nt := 32) (c := modeParse_L5) (σ := (modeParse_S5 p0 p1 (v0, v1))) (adv [([], 5, 0, .eq (pB true)), ([], 7, 2, .chr b_1), ([], 7, 3, .ret (pI r_1)), ([], 8, 1, .eq (pB false))]) (ex := .normal) (by kernel_rfl) (by kernel_rfl) (allC (cg q1) (allC q2 (allC (ixbX_ok k (bs [48, 49, 50, 51, 52, 53, 54, 55]) (b_1.toNat : Int) _ q3) (allC (cg q4) allN)))), (by kernel_rfl)⟩
  · cases h
def modeParse (s : ByteArray) : Option (Int × Bool) :=
 bif ((s.size : Int) != (1 : Int)) then (
 bif ((s.size : Int) != (2 : Int)) then (
 some ((0 : Int), false)
 ) else (
 (iterN (modeParse_b5 s (s.size : Int)) LF ((0 : Int), (0 : Int))).bind fun X_1 => match X_1 with
 | .inl (v_1, v_2, b_1, r_1) => (
 some ((0 : Int), false)
 )
 | .inr ((v_1, v_2)) => (
 some (v_1, true)
 )
 )
 ) else (
 (iterN (modeParse_b5 s (s.size : Int)) LF ((0 : Int), (0 : Int))).bind fun X_1 => match X_1 with
 | .inl (v_1, v_2, b_1, r_1) => (
 some ((0 : Int), false)
 )
 | .inr ((v_1, v_2)) => (
 some (v_1, true)
 )
 )
set_option maxRecDepth 100000 in
theorem modeParse_ok (k : Nat) (s : ByteArray) (r : (Int × Bool)) (h : modeParse s = some r) : run0 (k + 1) 45 [(pS s)] = some (.tup [(pI r.1), (pB r.2)]) := by
  unfold modeParse at h
  rcases bif_some h with ⟨q1, h⟩ | ⟨q1, h⟩
  · rcases bif_some h with ⟨q2, h⟩ | ⟨q2, h⟩
    · obtain rfl := Option.some.inj h
      exact ret_go (k := k) Tryz.func45 Tryz.ntmps45 (by kernel_rfl) (by kernel_rfl) (lb rfl) (adv [([], 1, 3, .eq (pB true)), ([], 1, 7, .eq (pB true))]) (ex := .ret) (r := (.tup [(pI (0 : Int)), (pB false)])) (by kernel_rfl) rfl (by kernel_rfl) (allC (cg q1) (allC (cg q2) allN)) (by kernel_rfl) allN
    · obtain ⟨X_1, q3, h⟩ := bnd_some h
      obtain ⟨a_1, q4, q5⟩ := loop_iter (f := run1 k 45 0 32 modeParse_L5) (modeParse_S5 s (s.size : Int)) (modeParse_b5 s (s.size : Int)) (modeParse_t5 k s (s.size : Int)) LF ((0 : Int), (0 : Int)) _ (stOf (goStop k 45 0 32 (adv [([], 1, 3, .eq (pB true)), ([], 1, 7, .eq (pB false))]) 5 (codeOf Tryz.f45) (argS 45 [(pS s)]))) q3 (by kernel_rfl)
      obtain ⟨v_1, v_2⟩ := a_1
      unfold modeParse_b5 at q4
      try dsimp only at q4
      rcases bif_some q4 with ⟨q8, q4⟩ | ⟨q8, q4⟩
      · obtain ⟨b_1, q9, q4⟩ := bnd_some q4
        obtain ⟨r_1, q10, q4⟩ := bnd_some q4
        rcases bif_some q4 with ⟨q11, q4⟩ | ⟨q11, q4⟩
        · cases q4
          try dsimp only at h
          have q6 := run_go (k := k) (f := 45) (r0 := 0) (nt := 32) (c := modeParse_L5) (σ := (modeParse_S5 s (s.size : Int) (v_1, v_2))) (adv [([], 5, 0, .eq (pB true)), ([], 7, 2, .chr b_1), ([], 7, 3, .ret (pI r_1)), ([], 8, 1, .eq (pB true))]) (ex := .ret) (by kernel_rfl) (by kernel_rfl) (allC (cg q8) (allC q9 (allC (ixbX_ok k (bs [48, 49, 50, 51, 52, 53, 54, 55]) (b_1.toNat : Int) _ q10) (allC (cg q11) allN))))
          have q7 := q5 _ _ (by intro e; cases e) q6
          obtain rfl := Option.some.inj h
          exact ret_go (k := k) Tryz.func45 Tryz.ntmps45 (by kernel_rfl) (by kernel_rfl) (lb rfl) (adv [([], 1, 3, .eq (pB true)), ([], 1, 7, .eq (pB false))] [([], 5, .ret, (stOf (go k 45 0 32 (adv [([], 5, 0, .eq (pB true)), ([], 7, 2, .chr b_1), ([], 7, 3, .ret (pI r_1)), ([], 8, 1, .eq (pB true))]) modeParse_L5 (modeParse_S5 s (s.size : Int) (v_1, v_2)))))]) (ex := .ret) (r := (.tup [(pI (0 : Int)), (pB false)])) (by kernel_rfl) rfl (by kernel_rfl) (allC (cg q1) (allC (cg q2) (allC q7 allN))) (by kernel_rfl) allN
        · cases q4
      · cases q4
        try dsimp only at h
        have q6 := run_go (k := k) (f := 45) (r0 := 0) (nt := 32) (c := modeParse_L5) (σ := (modeParse_S5 s (s.size : Int) (v_1, v_2))) (adv [([], 5, 0, .eq (pB false))]) (ex := (.exit 0)) (by kernel_rfl) (by kernel_rfl) (allC (cg q8) allN)
        have q7 := q5 _ _ (by intro e; cases e) q6
        obtain rfl := Option.some.inj h
        exact ret_go (k := k) Tryz.func45 Tryz.ntmps45 (by kernel_rfl) (by kernel_rfl) (lb rfl) (adv [([], 1, 3, .eq (pB true)), ([], 1, 7, .eq (pB false))] [([], 5, (.exit 0), (stOf (go k 45 0 32 (adv [([], 5, 0, .eq (pB false))]) modeParse_L5 (modeParse_S5 s (s.size : Int) (v_1, v_2)))))]) (ex := .ret) (r := (.tup [(pI v_1), (pB true)])) (by kernel_rfl) rfl (by kernel_rfl) (allC (cg q1) (allC (cg q2) (allC q7 allN))) (by kernel_rfl) allN
  · obtain ⟨X_1, q2, h⟩ := bnd_some h
    obtain ⟨a_1, q3, q4⟩ := loop_iter (f := run1 k 45 0 32 modeParse_L5) (modeParse_S5 s (s.size : Int)) (modeParse_b5 s (s.size : Int)) (modeParse_t5 k s (s.size : Int)) LF ((0 : Int), (0 : Int)) _ (stOf (goStop k 45 0 32 (adv [([], 1, 3, .eq (pB false))]) 5 (codeOf Tryz.f45) (argS 45 [(pS s)]))) q2 (by kernel_rfl)
    obtain ⟨v_1, v_2⟩ := a_1
    unfold modeParse_b5 at q3
    try dsimp only at q3
    rcases bif_some q3 with ⟨q7, q3⟩ | ⟨q7, q3⟩
    · obtain ⟨b_1, q8, q3⟩ := bnd_some q3
      obtain ⟨r_1, q9, q3⟩ := bnd_some q3
      rcases bif_some q3 with ⟨q10, q3⟩ | ⟨q10, q3⟩
      · cases q3
        try dsimp only at h
        have q5 := run_go (k := k) (f := 45) (r0 := 0) (nt := 32) (c := modeParse_L5) (σ := (modeParse_S5 s (s.size : Int) (v_1, v_2))) (adv [([], 5, 0, .eq (pB true)), ([], 7, 2, .chr b_1), ([], 7, 3, .ret (pI r_1)), ([], 8, 1, .eq (pB true))]) (ex := .ret) (by kernel_rfl) (by kernel_rfl) (allC (cg q7) (allC q8 (allC (ixbX_ok k (bs [48, 49, 50, 51, 52, 53, 54, 55]) (b_1.toNat : Int) _ q9) (allC (cg q10) allN))))
        have q6 := q4 _ _ (by intro e; cases e) q5
        obtain rfl := Option.some.inj h
        exact ret_go (k := k) Tryz.func45 Tryz.ntmps45 (by kernel_rfl) (by kernel_rfl) (lb rfl) (adv [([], 1, 3, .eq (pB false))] [([], 5, .ret, (stOf (go k 45 0 32 (adv [([], 5, 0, .eq (pB true)), ([], 7, 2, .chr b_1), ([], 7, 3, .ret (pI r_1)), ([], 8, 1, .eq (pB true))]) modeParse_L5 (modeParse_S5 s (s.size : Int) (v_1, v_2)))))]) (ex := .ret) (r := (.tup [(pI (0 : Int)), (pB false)])) (by kernel_rfl) rfl (by kernel_rfl) (allC (cg q1) (allC q6 allN)) (by kernel_rfl) allN
      · cases q3
    · cases q3
      try dsimp only at h
      have q5 := run_go (k := k) (f := 45) (r0 := 0) (nt := 32) (c := modeParse_L5) (σ := (modeParse_S5 s (s.size : Int) (v_1, v_2))) (adv [([], 5, 0, .eq (pB false))]) (ex := (.exit 0)) (by kernel_rfl) (by kernel_rfl) (allC (cg q7) allN)
      have q6 := q4 _ _ (by intro e; cases e) q5
      obtain rfl := Option.some.inj h
      exact ret_go (k := k) Tryz.func45 Tryz.ntmps45 (by kernel_rfl) (by kernel_rfl) (lb rfl) (adv [([], 1, 3, .eq (pB false))] [([], 5, (.exit 0), (stOf (go k 45 0 32 (adv [([], 5, 0, .eq (pB false))]) modeParse_L5 (modeParse_S5 s (s.size : Int) (v_1, v_2)))))]) (ex := .ret) (r := (.tup [(pI v_1), (pB true)])) (by kernel_rfl) rfl (by kernel_rfl) (allC (cg q1) (allC q6 allN)) (by kernel_rfl) allN
def cloneAsk (j : JobD) : Option CalD :=
 (cloneWork j).bind fun (r_1, r_2, r_3) =>
 bif (!r_3) then (
 some (CalD.mk (0 : Int) (0 : Int) (0 : Int) (0 : Int) (0 : Int) (0 : Int) (bs []) (bs []) (bs []))
 ) else (
 (modeParse r_2).bind fun (r_4, r_5) =>
 bif (j.phase == (0 : Int)) then (
 some (CalD.mk (12 : Int) (-1 : Int) (0 : Int) (0 : Int) (0 : Int) (0 : Int) j.path2 (bs []) (bs []))
 ) else (
 bif (j.phase == (1 : Int)) then (
 some (CalD.mk (12 : Int) (-1 : Int) (0 : Int) (0 : Int) (0 : Int) (64 : Int) r_1 (bs []) (bs []))
 ) else (
 bif (j.phase == (2 : Int)) then (
 some (CalD.mk (5 : Int) (-1 : Int) (0 : Int) (0 : Int) (63 : Int) (0 : Int) r_2 (bs []) (bs []))
 ) else (
 bif (j.phase == (3 : Int)) then (
 some (CalD.mk (1 : Int) (-1 : Int) (0 : Int) (0 : Int) (0 : Int) (97 : Int) r_1 (bs []) (bs []))
 ) else (
 bif (j.phase == (4 : Int)) then (
 some (CalD.mk (13 : Int) j.fd (0 : Int) (0 : Int) (0 : Int) (0 : Int) (bs []) (bs []) (bs []))
 ) else (
 bif (j.phase == (5 : Int)) then (
 some (CalD.mk (2 : Int) j.fd (0 : Int) (0 : Int) (0 : Int) (0 : Int) (bs []) (bs []) (bs []))
 ) else (
 bif (j.phase == (6 : Int)) then (
 some (CalD.mk (1 : Int) (-1 : Int) (0 : Int) (0 : Int) (0 : Int) (65 : Int) r_1 (bs []) (bs []))
 ) else (
 bif (j.phase == (7 : Int)) then (
 some (CalD.mk (3 : Int) j.fd (0 : Int) (1000 : Int) (0 : Int) (0 : Int) (bs []) (bs []) (bs []))
 ) else (
 bif (j.phase == (8 : Int)) then (
 some (CalD.mk (2 : Int) j.fd (0 : Int) (0 : Int) (0 : Int) (0 : Int) (bs []) (bs []) (bs []))
 ) else (
 bif (j.phase == (9 : Int)) then (
 some (CalD.mk (1 : Int) (-1 : Int) (0 : Int) (0 : Int) (63 : Int) (14 : Int) r_2 (bs []) (bs []))
 ) else (
 bif (j.phase == (10 : Int)) then (
 some (CalD.mk (4 : Int) j.fd (0 : Int) (0 : Int) (0 : Int) (0 : Int) (bs []) (bs []) j.text)
 ) else (
 bif (j.phase == (11 : Int)) then (
 some (CalD.mk (11 : Int) (-1 : Int) (0 : Int) (0 : Int) (0 : Int) (0 : Int) r_1 (bs []) (bs []))
 ) else (
 bif (j.phase == (12 : Int)) then (
 some (CalD.mk (10 : Int) (-1 : Int) (0 : Int) (0 : Int) (0 : Int) (0 : Int) r_2 (bs []) j.text)
 ) else (
 bif (j.phase == (13 : Int)) then (
 some (CalD.mk (16 : Int) (-1 : Int) (0 : Int) (0 : Int) r_4 (0 : Int) r_1 (bs []) (bs []))
 ) else (
 none
 )
 )
 )
 )
 )
 )
 )
 )
 )
 )
 )
 )
 )
 )
 )
set_option maxRecDepth 100000 in
theorem cloneAsk_ok (k : Nat) (j : JobD) (r : CalD) (h : cloneAsk j = some r) : run0 (k + 2) 13 [(JobD.a j)] = some (.agg [(pI r.kind), (pI r.fd), (pI r.fd2), (pI r.nF), (pI r.modeF), (pI r.flags), (pS r.path), (pS r.path2), (pS r.data)]) := by
  unfold cloneAsk at h
  obtain ⟨⟨r_1, r_2, r_3⟩, q1, h⟩ := bnd_some h
  try dsimp only at h
  rcases bif_some h with ⟨q2, h⟩ | ⟨q2, h⟩
  · obtain rfl := Option.some.inj h
    exact ret_go (k := (k + 1)) Tryz.func13 Tryz.ntmps13 (by kernel_rfl) (by kernel_rfl) (lb rfl) (adv [([], 1, 1, .ret (.tup [(pS r_1), (pS r_2), (pB r_3)])), ([], 2, 1, .eq (pB true))]) (ex := .ret) (r := (.agg [(pI (0 : Int)), (pI (0 : Int)), (pI (0 : Int)), (pI (0 : Int)), (pI (0 : Int)), (pI (0 : Int)), (pS (bs [])), (pS (bs [])), (pS (bs []))])) (by kernel_rfl) rfl (by kernel_rfl) (allC (cloneWork_ok k j _ q1) (allC (cg q2) allN)) (by kernel_rfl) allN
  · obtain ⟨⟨r_4, r_5⟩, q3, h⟩ := bnd_some h
    try dsimp only at h
    rcases bif_some h with ⟨q4, h⟩ | ⟨q4, h⟩
    · obtain rfl := Option.some.inj h
      exact ret_go (k := (k + 1)) Tryz.func13 Tryz.ntmps13 (by kernel_rfl) (by kernel_rfl) (lb rfl) (adv [([], 1, 1, .ret (.tup [(pS r_1), (pS r_2), (pB r_3)])), ([], 2, 1, .eq (pB false)), ([], 4, 1, .ret (.tup [(pI r_4), (pB r_5)])), ([], 6, 1, .eq (pI (0 : Int)))]) (ex := .ret) (r := (.agg [(pI (12 : Int)), (pI (-1 : Int)), (pI (0 : Int)), (pI (0 : Int)), (pI (0 : Int)), (pI (0 : Int)), (pS j.path2), (pS (bs [])), (pS (bs []))])) (by kernel_rfl) rfl (by kernel_rfl) (allC (cloneWork_ok k j _ q1) (allC (cg q2) (allC (modeParse_ok k r_2 _ q3) (allC (congrArg (fun n : Int => pI n) (eq_of_beq q4)) allN)))) (by kernel_rfl) allN
    · rcases bif_some h with ⟨q5, h⟩ | ⟨q5, h⟩
      · obtain rfl := Option.some.inj h
        exact ret_go (k := (k + 1)) Tryz.func13 Tryz.ntmps13 (by kernel_rfl) (by kernel_rfl) (lb rfl) (adv [([], 1, 1, .ret (.tup [(pS r_1), (pS r_2), (pB r_3)])), ([], 2, 1, .eq (pB false)), ([], 4, 1, .ret (.tup [(pI r_4), (pB r_5)])), ([], 6, 1, .eq (pI (1 : Int)))]) (ex := .ret) (r := (.agg [(pI (12 : Int)), (pI (-1 : Int)), (pI (0 : Int)), (pI (0 : Int)), (pI (0 : Int)), (pI (64 : Int)), (pS r_1), (pS (bs [])), (pS (bs []))])) (by kernel_rfl) rfl (by kernel_rfl) (allC (cloneWork_ok k j _ q1) (allC (cg q2) (allC (modeParse_ok k r_2 _ q3) (allC (congrArg (fun n : Int => pI n) (eq_of_beq q5)) allN)))) (by kernel_rfl) allN
      · rcases bif_some h with ⟨q6, h⟩ | ⟨q6, h⟩
        · obtain rfl := Option.some.inj h
          exact ret_go (k := (k + 1)) Tryz.func13 Tryz.ntmps13 (by kernel_rfl) (by kernel_rfl) (lb rfl) (adv [([], 1, 1, .ret (.tup [(pS r_1), (pS r_2), (pB r_3)])), ([], 2, 1, .eq (pB false)), ([], 4, 1, .ret (.tup [(pI r_4), (pB r_5)])), ([], 6, 1, .eq (pI (2 : Int)))]) (ex := .ret) (r := (.agg [(pI (5 : Int)), (pI (-1 : Int)), (pI (0 : Int)), (pI (0 : Int)), (pI (63 : Int)), (pI (0 : Int)), (pS r_2), (pS (bs [])), (pS (bs []))])) (by kernel_rfl) rfl (by kernel_rfl) (allC (cloneWork_ok k j _ q1) (allC (cg q2) (allC (modeParse_ok k r_2 _ q3) (allC (congrArg (fun n : Int => pI n) (eq_of_beq q6)) allN)))) (by kernel_rfl) allN
        · rcases bif_some h with ⟨q7, h⟩ | ⟨q7, h⟩
          · obtain rfl := Option.some.inj h
            exact ret_go (k := (k + 1)) Tryz.func13 Tryz.ntmps13 (by kernel_rfl) (by kernel_rfl) (lb rfl) (adv [([], 1, 1, .ret (.tup [(pS r_1), (pS r_2), (pB r_3)])), ([], 2, 1, .eq (pB false)), ([], 4, 1, .ret (.tup [(pI r_4), (pB r_5)])), ([], 6, 1, .eq (pI (3 : Int)))]) (ex := .ret) (r := (.agg [(pI (1 : Int)), (pI (-1 : Int)), (pI (0 : Int)), (pI (0 : Int)), (pI (0 : Int)), (pI (97 : Int)), (pS r_1), (pS (bs [])), (pS (bs []))])) (by kernel_rfl) rfl (by kernel_rfl) (allC (cloneWork_ok k j _ q1) (allC (cg q2) (allC (modeParse_ok k r_2 _ q3) (allC (congrArg (fun n : Int => pI n) (eq_of_beq q7)) allN)))) (by kernel_rfl) allN
          · rcases bif_some h with ⟨q8, h⟩ | ⟨q8, h⟩
            · obtain rfl := Option.some.inj h
              exact ret_go (k := (k + 1)) Tryz.func13 Tryz.ntmps13 (by kernel_rfl) (by kernel_rfl) (lb rfl) (adv [([], 1, 1, .ret (.tup [(pS r_1), (pS r_2), (pB r_3)])), ([], 2, 1, .eq (pB false)), ([], 4, 1, .ret (.tup [(pI r_4), (pB r_5)])), ([], 6, 1, .eq (pI (4 : Int)))]) (ex := .ret) (r := (.agg [(pI (13 : Int)), (pI j.fd), (pI (0 : Int)), (pI (0 : Int)), (pI (0 : Int)), (pI (0 : Int)), (pS (bs [])), (pS (bs [])), (pS (bs []))])) (by kernel_rfl) rfl (by kernel_rfl) (allC (cloneWork_ok k j _ q1) (allC (cg q2) (allC (modeParse_ok k r_2 _ q3) (allC (congrArg (fun n : Int => pI n) (eq_of_beq q8)) allN)))) (by kernel_rfl) allN
            · rcases bif_some h with ⟨q9, h⟩ | ⟨q9, h⟩
              · obtain rfl := Option.some.inj h
                exact ret_go (k := (k + 1)) Tryz.func13 Tryz.ntmps13 (by kernel_rfl) (by kernel_rfl) (lb rfl) (adv [([], 1, 1, .ret (.tup [(pS r_1), (pS r_2), (pB r_3)])), ([], 2, 1, .eq (pB false)), ([], 4, 1, .ret (.tup [(pI r_4), (pB r_5)])), ([], 6, 1, .eq (pI (5 : Int)))]) (ex := .ret) (r := (.agg [(pI (2 : Int)), (pI j.fd), (pI (0 : Int)), (pI (0 : Int)), (pI (0 : Int)), (pI (0 : Int)), (pS (bs [])), (pS (bs [])), (pS (bs []))])) (by kernel_rfl) rfl (by kernel_rfl) (allC (cloneWork_ok k j _ q1) (allC (cg q2) (allC (modeParse_ok k r_2 _ q3) (allC (congrArg (fun n : Int => pI n) (eq_of_beq q9)) allN)))) (by kernel_rfl) allN
              · rcases bif_some h with ⟨q10, h⟩ | ⟨q10, h⟩
                · obtain rfl := Option.some.inj h
                  exact ret_go (k := (k + 1)) Tryz.func13 Tryz.ntmps13 (by kernel_rfl) (by kernel_rfl) (lb rfl) (adv [([], 1, 1, .ret (.tup [(pS r_1), (pS r_2), (pB r_3)])), ([], 2, 1, .eq (pB false)), ([], 4, 1, .ret (.tup [(pI r_4), (pB r_5)])), ([], 6, 1, .eq (pI (6 : Int)))]) (ex := .ret) (r := (.agg [(pI (1 : Int)), (pI (-1 : Int)), (pI (0 : Int)), (pI (0 : Int)), (pI (0 : Int)), (pI (65 : Int)), (pS r_1), (pS (bs [])), (pS (bs []))])) (by kernel_rfl) rfl (by kernel_rfl) (allC (cloneWork_ok k j _ q1) (allC (cg q2) (allC (modeParse_ok k r_2 _ q3) (allC (congrArg (fun n : Int => pI n) (eq_of_beq q10)) allN)))) (by kernel_rfl) allN
                · rcases bif_some h with ⟨q11, h⟩ | ⟨q11, h⟩
                  · obtain rfl := Option.some.inj h
                    exact ret_go (k := (k + 1)) Tryz.func13 Tryz.ntmps13 (by kernel_rfl) (by kernel_rfl) (lb rfl) (adv [([], 1, 1, .ret (.tup [(pS r_1), (pS r_2), (pB r_3)])), ([], 2, 1, .eq (pB false)), ([], 4, 1, .ret (.tup [(pI r_4), (pB r_5)])), ([], 6, 1, .eq (pI (7 : Int)))]) (ex := .ret) (r := (.agg [(pI (3 : Int)), (pI j.fd), (pI (0 : Int)), (pI (1000 : Int)), (pI (0 : Int)), (pI (0 : Int)), (pS (bs [])), (pS (bs [])), (pS (bs []))])) (by kernel_rfl) rfl (by kernel_rfl) (allC (cloneWork_ok k j _ q1) (allC (cg q2) (allC (modeParse_ok k r_2 _ q3) (allC (congrArg (fun n : Int => pI n) (eq_of_beq q11)) allN)))) (by kernel_rfl) allN
                  · rcases bif_some h with ⟨q12, h⟩ | ⟨q12, h⟩
                    · obtain rfl := Option.some.inj h
                      exact ret_go (k := (k + 1)) Tryz.func13 Tryz.ntmps13 (by kernel_rfl) (by kernel_rfl) (lb rfl) (adv [([], 1, 1, .ret (.tup [(pS r_1), (pS r_2), (pB r_3)])), ([], 2, 1, .eq (pB false)), ([], 4, 1, .ret (.tup [(pI r_4), (pB r_5)])), ([], 6, 1, .eq (pI (8 : Int)))]) (ex := .ret) (r := (.agg [(pI (2 : Int)), (pI j.fd), (pI (0 : Int)), (pI (0 : Int)), (pI (0 : Int)), (pI (0 : Int)), (pS (bs [])), (pS (bs [])), (pS (bs []))])) (by kernel_rfl) rfl (by kernel_rfl) (allC (cloneWork_ok k j _ q1) (allC (cg q2) (allC (modeParse_ok k r_2 _ q3) (allC (congrArg (fun n : Int => pI n) (eq_of_beq q12)) allN)))) (by kernel_rfl) allN
                    · rcases bif_some h with ⟨q13, h⟩ | ⟨q13, h⟩
                      · obtain rfl := Option.some.inj h
                        exact ret_go (k := (k + 1)) Tryz.func13 Tryz.ntmps13 (by kernel_rfl) (by kernel_rfl) (lb rfl) (adv [([], 1, 1, .ret (.tup [(pS r_1), (pS r_2), (pB r_3)])), ([], 2, 1, .eq (pB false)), ([], 4, 1, .ret (.tup [(pI r_4), (pB r_5)])), ([], 6, 1, .eq (pI (9 : Int)))]) (ex := .ret) (r := (.agg [(pI (1 : Int)), (pI (-1 : Int)), (pI (0 : Int)), (pI (0 : Int)), (pI (63 : Int)), (pI (14 : Int)), (pS r_2), (pS (bs [])), (pS (bs []))])) (by kernel_rfl) rfl (by kernel_rfl) (allC (cloneWork_ok k j _ q1) (allC (cg q2) (allC (modeParse_ok k r_2 _ q3) (allC (congrArg (fun n : Int => pI n) (eq_of_beq q13)) allN)))) (by kernel_rfl) allN
                      · rcases bif_some h with ⟨q14, h⟩ | ⟨q14, h⟩
                        · obtain rfl := Option.some.inj h
                          exact ret_go (k := (k + 1)) Tryz.func13 Tryz.ntmps13 (by kernel_rfl) (by kernel_rfl) (lb rfl) (adv [([], 1, 1, .ret (.tup [(pS r_1), (pS r_2), (pB r_3)])), ([], 2, 1, .eq (pB false)), ([], 4, 1, .ret (.tup [(pI r_4), (pB r_5)])), ([], 6, 1, .eq (pI (10 : Int)))]) (ex := .ret) (r := (.agg [(pI (4 : Int)), (pI j.fd), (pI (0 : Int)), (pI (0 : Int)), (pI (0 : Int)), (pI (0 : Int)), (pS (bs [])), (pS (bs [])), (pS j.text)])) (by kernel_rfl) rfl (by kernel_rfl) (allC (cloneWork_ok k j _ q1) (allC (cg q2) (allC (modeParse_ok k r_2 _ q3) (allC (congrArg (fun n : Int => pI n) (eq_of_beq q14)) allN)))) (by kernel_rfl) allN
                        · rcases bif_some h with ⟨q15, h⟩ | ⟨q15, h⟩
                          · obtain rfl := Option.some.inj h
                            exact ret_go (k := (k + 1)) Tryz.func13 Tryz.ntmps13 (by kernel_rfl) (by kernel_rfl) (lb rfl) (adv [([], 1, 1, .ret (.tup [(pS r_1), (pS r_2), (pB r_3)])), ([], 2, 1, .eq (pB false)), ([], 4, 1, .ret (.tup [(pI r_4), (pB r_5)])), ([], 6, 1, .eq (pI (11 : Int)))]) (ex := .ret) (r := (.agg [(pI (11 : Int)), (pI (-1 : Int)), (pI (0 : Int)), (pI (0 : Int)), (pI (0 : Int)), (pI (0 : Int)), (pS r_1), (pS (bs [])), (pS (bs []))])) (by kernel_rfl) rfl (by kernel_rfl) (allC (cloneWork_ok k j _ q1) (allC (cg q2) (allC (modeParse_ok k r_2 _ q3) (allC (congrArg (fun n : Int => pI n) (eq_of_beq q15)) allN)))) (by kernel_rfl) allN
                          · rcases bif_some h with ⟨q16, h⟩ | ⟨q16, h⟩
                            · obtain rfl := Option.some.inj h
                              exact ret_go (k := (k + 1)) Tryz.func13 Tryz.ntmps13 (by kernel_rfl) (by kernel_rfl) (lb rfl) (adv [([], 1, 1, .ret (.tup [(pS r_1), (pS r_2), (pB r_3)])), ([], 2, 1, .eq (pB false)), ([], 4, 1, .ret (.tup [(pI r_4), (pB r_5)])), ([], 6, 1, .eq (pI (12 : Int)))]) (ex := .ret) (r := (.agg [(pI (10 : Int)), (pI (-1 : Int)), (pI (0 : Int)), (pI (0 : Int)), (pI (0 : Int)), (pI (0 : Int)), (pS r_2), (pS (bs [])), (pS j.text)])) (by kernel_rfl) rfl (by kernel_rfl) (allC (cloneWork_ok k j _ q1) (allC (cg q2) (allC (modeParse_ok k r_2 _ q3) (allC (congrArg (fun n : Int => pI n) (eq_of_beq q16)) allN)))) (by kernel_rfl) allN
                            · rcases bif_some h with ⟨q17, h⟩ | ⟨q17, h⟩
                              · obtain rfl := Option.some.inj h
                                exact ret_go (k := (k + 1)) Tryz.func13 Tryz.ntmps13 (by kernel_rfl) (by kernel_rfl) (lb rfl) (adv [([], 1, 1, .ret (.tup [(pS r_1), (pS r_2), (pB r_3)])), ([], 2, 1, .eq (pB false)), ([], 4, 1, .ret (.tup [(pI r_4), (pB r_5)])), ([], 6, 1, .eq (pI (13 : Int)))]) (ex := .ret) (r := (.agg [(pI (16 : Int)), (pI (-1 : Int)), (pI (0 : Int)), (pI (0 : Int)), (pI r_4), (pI (0 : Int)), (pS r_1), (pS (bs [])), (pS (bs []))])) (by kernel_rfl) rfl (by kernel_rfl) (allC (cloneWork_ok k j _ q1) (allC (cg q2) (allC (modeParse_ok k r_2 _ q3) (allC (congrArg (fun n : Int => pI n) (eq_of_beq q17)) allN)))) (by kernel_rfl) allN
                              · cases h
def routeBase (p : ByteArray) : Option ByteArray :=
 (trimRX p (bs [47])).bind fun r_1 =>
 bif (seq r_1 (bs [])) then (
 bif (!(seq p (bs []))) then (
 some (bs [47])
 ) else (
 (lastIxX r_1 (bs [47])).bind fun r_2 =>
 grd (0 ≤ (w64 (r_2 + (1 : Int))) ∧ (w64 (r_2 + (1 : Int))) ≤ (r_1.size : Int) ∧ (r_1.size : Int) ≤ (r_1.size : Int)) <|
 some (r_1.extract ((w64 (r_2 + (1 : Int)))).toNat r_1.size)
 )
 ) else (
 (lastIxX r_1 (bs [47])).bind fun r_2 =>
 grd (0 ≤ (w64 (r_2 + (1 : Int))) ∧ (w64 (r_2 + (1 : Int))) ≤ (r_1.size : Int) ∧ (r_1.size : Int) ≤ (r_1.size : Int)) <|
 some (r_1.extract ((w64 (r_2 + (1 : Int)))).toNat r_1.size)
 )
set_option maxRecDepth 100000 in
theorem routeBase_ok (k : Nat) (p : ByteArray) (r : ByteArray) (h : routeBase p = some r) : run0 (k + 1) 78 [(pS p)] = some (pS r) := by
  unfold routeBase at h
  obtain ⟨r_1, q1, h⟩ := bnd_some h
  rcases bif_some h with ⟨q2, h⟩ | ⟨q2, h⟩
  · rcases bif_some h with ⟨q3, h⟩ | ⟨q3, h⟩
    · obtain rfl := Option.some.inj h
      exact ret_go (k := k) Tryz.func78 Tryz.ntmps78 (by kernel_rfl) (by kernel_rfl) (lb rfl) (adv [([], 1, 1, .ret (pS r_1)), ([], 2, 2, .eq (pB true)), ([], 2, 5, .eq (pB true))]) (ex := .ret) (r := (pS (bs [47]))) (by kernel_rfl) rfl (by kernel_rfl) (allC (trimRX_ok k p (bs [47]) _ q1) (allC (cg q2) (allC (cg q3) allN))) (by kernel_rfl) allN
    · obtain ⟨r_2, q4, h⟩ := bnd_some h
      obtain ⟨q5, h⟩ := grd_some h
      obtain rfl := Option.some.inj h
      exact ret_go (k := k) Tryz.func78 Tryz.ntmps78 (by kernel_rfl) (by kernel_rfl) (lb rfl) (adv [([], 1, 1, .ret (pS r_1)), ([], 2, 2, .eq (pB true)), ([], 2, 5, .eq (pB false)), ([], 4, 2, .ret (pI r_2)), ([], 4, 4, .sub false)]) (ex := .ret) (r := (pS (r_1.extract ((w64 (r_2 + (1 : Int)))).toNat r_1.size))) (by kernel_rfl) rfl (by kernel_rfl) (allC (trimRX_ok k p (bs [47]) _ q1) (allC (cg q2) (allC (cg q3) (allC (lastIxX_ok k r_1 (bs [47]) _ q4) (allC q5 allN))))) (by kernel_rfl) allN
  · obtain ⟨r_2, q3, h⟩ := bnd_some h
    obtain ⟨q4, h⟩ := grd_some h
    obtain rfl := Option.some.inj h
    exact ret_go (k := k) Tryz.func78 Tryz.ntmps78 (by kernel_rfl) (by kernel_rfl) (lb rfl) (adv [([], 1, 1, .ret (pS r_1)), ([], 2, 2, .eq (pB false)), ([], 4, 2, .ret (pI r_2)), ([], 4, 4, .sub false)]) (ex := .ret) (r := (pS (r_1.extract ((w64 (r_2 + (1 : Int)))).toNat r_1.size))) (by kernel_rfl) rfl (by kernel_rfl) (allC (trimRX_ok k p (bs [47]) _ q1) (allC (cg q2) (allC (lastIxX_ok k r_1 (bs [47]) _ q3) (allC q4 allN)))) (by kernel_rfl) allN
def stringsHasPrefix (s : ByteArray) (prefixF : ByteArray) : Option Bool :=
 (stringsliteHasPrefix s prefixF).bind fun r_1 =>
 some r_1
set_option maxRecDepth 100000 in
theorem stringsHasPrefix_ok (k : Nat) (s : ByteArray) (prefixF : ByteArray) (r : Bool) (h : stringsHasPrefix s prefixF = some r) : run0 (k + 2) 80 [(pS s), (pS prefixF)] = some (pB r) := by
  unfold stringsHasPrefix at h
  obtain ⟨r_1, q1, h⟩ := bnd_some h
  obtain rfl := Option.some.inj h
  exact ret_go (k := (k + 1)) Tryz.func80 Tryz.ntmps80 (by kernel_rfl) (by kernel_rfl) (lb rfl) (adv [([], 1, 2, .ret (pB r_1))]) (ex := .ret) (r := (pB r_1)) (by kernel_rfl) rfl (by kernel_rfl) (allC (stringsliteHasPrefix_ok k s prefixF _ q1) allN) (by kernel_rfl) allN
def stringsliteHasSuffix (s : ByteArray) (suffix : ByteArray) : Option Bool :=
 bif (decide ((s.size : Int) ≥ (suffix.size : Int))) then (
 grd (0 ≤ (w64 ((s.size : Int) - (suffix.size : Int))) ∧ (w64 ((s.size : Int) - (suffix.size : Int))) ≤ (s.size : Int) ∧ (s.size : Int) ≤ (s.size : Int)) <|
 some (seq (s.extract ((w64 ((s.size : Int) - (suffix.size : Int)))).toNat s.size) suffix)
 ) else (
 some false
 )
set_option maxRecDepth 100000 in
theorem stringsliteHasSuffix_ok (k : Nat) (s : ByteArray) (suffix : ByteArray) (r : Bool) (h : stringsliteHasSuffix s suffix = some r) : run0 (k + 1) 188 [(pS s), (pS suffix)] = some (pB r) := by
  unfold stringsliteHasSuffix at h
  rcases bif_some h with ⟨q1, h⟩ | ⟨q1, h⟩
  · obtain ⟨q2, h⟩ := grd_some h
    obtain rfl := Option.some.inj h
    exact ret_go (k := k) Tryz.func188 Tryz.ntmps188 (by kernel_rfl) (by kernel_rfl) (lb rfl) (adv [([], 1, 5, .eq (pB true)), ([], 1, 12, .sub false)]) (ex := .ret) (r := (pB (seq (s.extract ((w64 ((s.size : Int) - (suffix.size : Int)))).toNat s.size) suffix))) (by kernel_rfl) rfl (by kernel_rfl) (allC (cg q1) (allC q2 allN)) (by kernel_rfl) allN
  · obtain rfl := Option.some.inj h
    exact ret_go (k := k) Tryz.func188 Tryz.ntmps188 (by kernel_rfl) (by kernel_rfl) (lb rfl) (adv [([], 1, 5, .eq (pB false))]) (ex := .ret) (r := (pB false)) (by kernel_rfl) rfl (by kernel_rfl) (allC (cg q1) allN) (by kernel_rfl) allN
def stringsliteTrimSuffix (s : ByteArray) (suffix : ByteArray) : Option ByteArray :=
 (stringsliteHasSuffix s suffix).bind fun r_1 =>
 bif r_1 then (
 grd (0 ≤ (0 : Int) ∧ (0 : Int) ≤ (w64 ((s.size : Int) - (suffix.size : Int))) ∧ (w64 ((s.size : Int) - (suffix.size : Int))) ≤ (s.size : Int)) <|
 some (s.extract 0 ((w64 ((s.size : Int) - (suffix.size : Int)))).toNat)
 ) else (
 some s
 )
set_option maxRecDepth 100000 in
theorem stringsliteTrimSuffix_ok (k : Nat) (s : ByteArray) (suffix : ByteArray) (r : ByteArray) (h : stringsliteTrimSuffix s suffix = some r) : run0 (k + 2) 127 [(pS s), (pS suffix)] = some (pS r) := by
  unfold stringsliteTrimSuffix at h
  obtain ⟨r_1, q1, h⟩ := bnd_some h
  rcases bif_some h with ⟨q2, h⟩ | ⟨q2, h⟩
  · revert h; subst q2; intro h
    obtain ⟨q3, h⟩ := grd_some h
    obtain rfl := Option.some.inj h
    exact ret_go (k := (k + 1)) Tryz.func127 Tryz.ntmps127 (by kernel_rfl) (by kernel_rfl) (lb rfl) (adv [([], 1, 2, .ret (pB true)), ([], 2, 6, .sub false)]) (ex := .ret) (r := (pS (s.extract 0 ((w64 ((s.size : Int) - (suffix.size : Int)))).toNat))) (by kernel_rfl) rfl (by kernel_rfl) (allC (stringsliteHasSuffix_ok k s suffix _ q1) (allC q3 allN)) (by kernel_rfl) allN
  · revert h; subst q2; intro h
    obtain rfl := Option.some.inj h
    exact ret_go (k := (k + 1)) Tryz.func127 Tryz.ntmps127 (by kernel_rfl) (by kernel_rfl) (lb rfl) (adv [([], 1, 2, .ret (pB false))]) (ex := .ret) (r := (pS s)) (by kernel_rfl) rfl (by kernel_rfl) (allC (stringsliteHasSuffix_ok k s suffix _ q1) allN) (by kernel_rfl) allN
def stringsTrimSuffix (s : ByteArray) (suffix : ByteArray) : Option ByteArray :=
 (stringsliteTrimSuffix s suffix).bind fun r_1 =>
 some r_1
set_option maxRecDepth 100000 in
theorem stringsTrimSuffix_ok (k : Nat) (s : ByteArray) (suffix : ByteArray) (r : ByteArray) (h : stringsTrimSuffix s suffix = some r) : run0 (k + 3) 81 [(pS s), (pS suffix)] = some (pS r) := by
  unfold stringsTrimSuffix at h
  obtain ⟨r_1, q1, h⟩ := bnd_some h
  obtain rfl := Option.some.inj h
  exact ret_go (k := (k + 2)) Tryz.func81 Tryz.ntmps81 (by kernel_rfl) (by kernel_rfl) (lb rfl) (adv [([], 1, 2, .ret (pS r_1))]) (ex := .ret) (r := (pS r_1)) (by kernel_rfl) rfl (by kernel_rfl) (allC (stringsliteTrimSuffix_ok k s suffix _ q1) allN) (by kernel_rfl) allN
end Go.Proofs.YtdbekeidlppfiaaGreatDoor.Den
namespace Go.Proofs.YtdbekeidlppfiaaGreatDoor.Den
open Go Go.RowKit
def routeJoin (a : ByteArray) (b : ByteArray) : Option ByteArray :=
 bif (seq a (bs [])) then (
 some b
 ) else (
 (stringsHasPrefix b (bs [47])).bind fun r_1 =>
 bif r_1 then (
 some b
 ) else (
 bif (seq b (bs [])) then (
 some a
 ) else (
 (stringsTrimSuffix a (bs [47])).bind fun r_2 =>
 grd (¬ (((r_2.size + (bs [47]).size : Nat) : Int) > IntKind.i64.max)) <|
 grd (¬ ((((r_2 ++ (bs [47])).size + b.size : Nat) : Int) > IntKind.i64.max)) <|
 some ((r_2 ++ (bs [47])) ++ b)
 )
 )
 )
set_option maxRecDepth 100000 in
theorem routeJoin_ok (k : Nat) (a : ByteArray) (b : ByteArray) (r : ByteArray) (h : routeJoin a b = some r) : run0 (k + 4) 43 [(pS a), (pS b)] = some (pS r) := by
  unfold routeJoin at h
  rcases bif_some h with ⟨q1, h⟩ | ⟨q1, h⟩
  · obtain rfl := Option.some.inj h
    exact ret_go (k := (k + 3)) Tryz.func43 Tryz.ntmps43 (by kernel_rfl) (by kernel_rfl) (lb rfl) (adv [([], 1, 2, .eq (pB true))]) (ex := .ret) (r := (pS b)) (by kernel_rfl) rfl (by kernel_rfl) (allC (cg q1) allN) (by kernel_rfl) allN
  · obtain ⟨r_1, q2, h⟩ := bnd_some h
    rcases bif_some h with ⟨q3, h⟩ | ⟨q3, h⟩
    · obtain rfl := Option.some.inj h
      exact ret_go (k := (k + 3)) Tryz.func43 Tryz.ntmps43 (by kernel_rfl) (by kernel_rfl) (lb rfl) (adv [([], 1, 2, .eq (pB false)), ([], 1, 4, .ret (pB r_1)), ([], 1, 6, .eq (pB true))]) (ex := .ret) (r := (pS b)) (by kernel_rfl) rfl (by kernel_rfl) (allC (cg q1) (allC (stringsHasPrefix_ok (k + 1) b (bs [47]) _ q2) (allC (cg q3) allN))) (by kernel_rfl) allN
    · rcases bif_some h with ⟨q4, h⟩ | ⟨q4, h⟩
      · obtain rfl := Option.some.inj h
        exact ret_go (k := (k + 3)) Tryz.func43 Tryz.ntmps43 (by kernel_rfl) (by kernel_rfl) (lb rfl) (adv [([], 1, 2, .eq (pB false)), ([], 1, 4, .ret (pB r_1)), ([], 1, 6, .eq (pB false)), ([], 3, 2, .eq (pB true))]) (ex := .ret) (r := (pS a)) (by kernel_rfl) rfl (by kernel_rfl) (allC (cg q1) (allC (stringsHasPrefix_ok (k + 1) b (bs [47]) _ q2) (allC (cg q3) (allC (cg q4) allN)))) (by kernel_rfl) allN
      · obtain ⟨r_2, q5, h⟩ := bnd_some h
        obtain ⟨q6, h⟩ := grd_some h
        obtain ⟨q7, h⟩ := grd_some h
        obtain rfl := Option.some.inj h
        exact ret_go (k := (k + 3)) Tryz.func43 Tryz.ntmps43 (by kernel_rfl) (by kernel_rfl) (lb rfl) (adv [([], 1, 2, .eq (pB false)), ([], 1, 4, .ret (pB r_1)), ([], 1, 6, .eq (pB false)), ([], 3, 2, .eq (pB false)), ([], 5, 1, .ret (pS r_2)), ([], 5, 2, .cat), ([], 5, 4, .cat)]) (ex := .ret) (r := (pS ((r_2 ++ (bs [47])) ++ b))) (by kernel_rfl) rfl (by kernel_rfl) (allC (cg q1) (allC (stringsHasPrefix_ok (k + 1) b (bs [47]) _ q2) (allC (cg q3) (allC (cg q4) (allC (stringsTrimSuffix_ok k a (bs [47]) _ q5) (allC q6 (allC q7 allN))))))) (by kernel_rfl) allN
def cloneTo (j : JobD) (phase : Int) : Option JobD :=
 some (JobD.mk j.kind j.p phase j.fd j.nF j.modeF j.tries j.atF j.flags j.path j.path2 j.text j.names j.stack j.draws j.done j.exit j.out j.e)
set_option maxRecDepth 100000 in
theorem cloneTo_ok (k : Nat) (j : JobD) (phase : Int) (r : JobD) (h : cloneTo j phase = some r) : run0 (k + 1) 40 [(JobD.a j), (pI phase)] = some (JobD.a r) := by
  unfold cloneTo at h
  obtain rfl := Option.some.inj h
  exact ret_go (k := k) Tryz.func40 Tryz.ntmps40 (by kernel_rfl) (by kernel_rfl) (lb rfl) (adv []) (ex := .ret) (r := (.agg [(pI j.kind), (pI j.p), (pI phase), (pI j.fd), (pI j.nF), (pI j.modeF), (pI j.tries), (pI j.atF), (pI j.flags), (pS j.path), (pS j.path2), (pS j.text), (.list 1 false (j.names.map cS)), (.list 3 false (j.stack.map FrameD.c)), (.list 1 false (j.draws.map cI)), (pB j.done), (pI j.exit), (pS j.out), (pI j.e)])) (by kernel_rfl) rfl (by kernel_rfl) allN (by kernel_rfl) allN
def cloneAimed (j : JobD) (rF : ReplyD) : Option JobD :=
 bif (rF.e == (0 : Int)) then (
 bif (rF.i.kind == (2 : Int)) then (
 (routeBase j.path).bind fun r_1 =>
 (routeJoin j.path2 r_1).bind fun r_2 =>
 (cloneTo (JobD.mk j.kind j.p j.phase j.fd j.nF j.modeF j.tries j.atF j.flags j.path j.path2 j.text ([(bs [99, 111, 112, 121]), j.path, r_2]) j.stack j.draws j.done j.exit j.out j.e) (1 : Int)).bind fun r_3 =>
 some r_3
 ) else (
 bif (rF.e == (0 : Int)) then (
 (jobFail j j.path2 (3 : Int)).bind fun r_1 =>
 some r_1
 ) else (
 bif (rF.e != (2 : Int)) then (
 (jobFail j j.path2 rF.e).bind fun r_1 =>
 some r_1
 ) else (
 (cloneTo (JobD.mk j.kind j.p j.phase j.fd j.nF j.modeF j.tries j.atF j.flags j.path j.path2 j.text ([(bs [99, 111, 112, 121]), j.path, j.path2]) j.stack j.draws j.done j.exit j.out j.e) (1 : Int)).bind fun r_1 =>
 some r_1
 )
 )
 )
 ) else (
 bif (rF.e == (0 : Int)) then (
 (jobFail j j.path2 (3 : Int)).bind fun r_1 =>
 some r_1
 ) else (
 bif (rF.e != (2 : Int)) then (
 (jobFail j j.path2 rF.e).bind fun r_1 =>
 some r_1
 ) else (
 (cloneTo (JobD.mk j.kind j.p j.phase j.fd j.nF j.modeF j.tries j.atF j.flags j.path j.path2 j.text ([(bs [99, 111, 112, 121]), j.path, j.path2]) j.stack j.draws j.done j.exit j.out j.e) (1 : Int)).bind fun r_1 =>
 some r_1
 )
 )
 )
set_option maxRecDepth 100000 in
theorem cloneAimed_ok (k : Nat) (j : JobD) (rF : ReplyD) (r : JobD) (h : cloneAimed j rF = some r) : run0 (k + 5) 38 [(JobD.a j), (.agg [(pI rF.e), (pI rF.nF), (pS rF.s), (.list 1 false (rF.l.map cS)), (pI rF.i.ino), (pI rF.i.kind), (pI rF.i.modeF), (pI rF.i.owner), (pI rF.i.links), (pI rF.i.size)])] = some (JobD.a r) := by
  unfold cloneAimed at h
  rcases bif_some h with ⟨q1, h⟩ | ⟨q1, h⟩
  · rcases bif_some h with ⟨q2, h⟩ | ⟨q2, h⟩
    · obtain ⟨r_1, q3, h⟩ := bnd_some h
      obtain ⟨r_2, q4, h⟩ := bnd_some h
      obtain ⟨r_3, q5, h⟩ := bnd_some h
      obtain rfl := Option.some.inj h
      exact ret_go (k := (k + 4)) Tryz.func38 Tryz.ntmps38 (by kernel_rfl) (by kernel_rfl) (lb rfl) (adv [([], 2, 3, .eq (pB true)), ([], 2, 9, .eq (pB true)), ([], 5, 3, .ret (pS r_1)), ([], 5, 4, .ret (pS r_2)), ([], 9, 1, .ret (JobD.a r_3))]) (ex := .ret) (r := (JobD.a r_3)) (by kernel_rfl) rfl (by kernel_rfl) (allC (cg q1) (allC (cg q2) (allC (routeBase_ok (k + 3) j.path _ q3) (allC (routeJoin_ok k j.path2 r_1 _ q4) (allC (⟨rfl, rfl⟩ : (0 : Nat) = 0 ∧ (3 : Nat) = 3) (allC (cloneTo_ok (k + 3) (JobD.mk j.kind j.p j.phase j.fd j.nF j.modeF j.tries j.atF j.flags j.path j.path2 j.text ([(bs [99, 111, 112, 121]), j.path, r_2]) j.stack j.draws j.done j.exit j.out j.e) (1 : Int) _ q5) allN)))))) (by kernel_rfl) allN
    · rcases bif_some h with ⟨q3, h⟩ | ⟨q3, h⟩
      · obtain ⟨r_1, q4, h⟩ := bnd_some h
        obtain rfl := Option.some.inj h
        exact ret_go (k := (k + 4)) Tryz.func38 Tryz.ntmps38 (by kernel_rfl) (by kernel_rfl) (lb rfl) (adv [([], 2, 3, .eq (pB true)), ([], 2, 9, .eq (pB false)), ([], 3, 3, .eq (pB true)), ([], 7, 4, .ret (JobD.a r_1))]) (ex := .ret) (r := (JobD.a r_1)) (by kernel_rfl) rfl (by kernel_rfl) (allC (cg q1) (allC (cg q2) (allC (cg q3) (allC (jobFail_ok (k + 3) j j.path2 (3 : Int) _ q4) allN)))) (by kernel_rfl) allN
      · rcases bif_some h with ⟨q4, h⟩ | ⟨q4, h⟩
        · obtain ⟨r_1, q5, h⟩ := bnd_some h
          obtain rfl := Option.some.inj h
          exact ret_go (k := (k + 4)) Tryz.func38 Tryz.ntmps38 (by kernel_rfl) (by kernel_rfl) (lb rfl) (adv [([], 2, 3, .eq (pB true)), ([], 2, 9, .eq (pB false)), ([], 3, 3, .eq (pB false)), ([], 4, 3, .eq (pB true)), ([], 7, 4, .ret (JobD.a r_1))]) (ex := .ret) (r := (JobD.a r_1)) (by kernel_rfl) rfl (by kernel_rfl) (allC (cg q1) (allC (cg q2) (allC (cg q3) (allC (cg q4) (allC (jobFail_ok (k + 3) j j.path2 rF.e _ q5) allN))))) (by kernel_rfl) allN
        · obtain ⟨r_1, q5, h⟩ := bnd_some h
          obtain rfl := Option.some.inj h
          exact ret_go (k := (k + 4)) Tryz.func38 Tryz.ntmps38 (by kernel_rfl) (by kernel_rfl) (lb rfl) (adv [([], 2, 3, .eq (pB true)), ([], 2, 9, .eq (pB false)), ([], 3, 3, .eq (pB false)), ([], 4, 3, .eq (pB false)), ([], 9, 1, .ret (JobD.a r_1))]) (ex := .ret) (r := (JobD.a r_1)) (by kernel_rfl) rfl (by kernel_rfl) (allC (cg q1) (allC (cg q2) (allC (cg q3) (allC (cg q4) (allC (⟨rfl, rfl⟩ : (0 : Nat) = 0 ∧ (3 : Nat) = 3) (allC (cloneTo_ok (k + 3) (JobD.mk j.kind j.p j.phase j.fd j.nF j.modeF j.tries j.atF j.flags j.path j.path2 j.text ([(bs [99, 111, 112, 121]), j.path, j.path2]) j.stack j.draws j.done j.exit j.out j.e) (1 : Int) _ q5) allN)))))) (by kernel_rfl) allN
  · rcases bif_some h with ⟨q2, h⟩ | ⟨q2, h⟩
    · obtain ⟨r_1, q3, h⟩ := bnd_some h
      obtain rfl := Option.some.inj h
      exact ret_go (k := (k + 4)) Tryz.func38 Tryz.ntmps38 (by kernel_rfl) (by kernel_rfl) (lb rfl) (adv [([], 2, 3, .eq (pB false)), ([], 3, 3, .eq (pB true)), ([], 7, 4, .ret (JobD.a r_1))]) (ex := .ret) (r := (JobD.a r_1)) (by kernel_rfl) rfl (by kernel_rfl) (allC (cg q1) (allC (cg q2) (allC (jobFail_ok (k + 3) j j.path2 (3 : Int) _ q3) allN))) (by kernel_rfl) allN
    · rcases bif_some h with ⟨q3, h⟩ | ⟨q3, h⟩
      · obtain ⟨r_1, q4, h⟩ := bnd_some h
        obtain rfl := Option.some.inj h
        exact ret_go (k := (k + 4)) Tryz.func38 Tryz.ntmps38 (by kernel_rfl) (by kernel_rfl) (lb rfl) (adv [([], 2, 3, .eq (pB false)), ([], 3, 3, .eq (pB false)), ([], 4, 3, .eq (pB true)), ([], 7, 4, .ret (JobD.a r_1))]) (ex := .ret) (r := (JobD.a r_1)) (by kernel_rfl) rfl (by kernel_rfl) (allC (cg q1) (allC (cg q2) (allC (cg q3) (allC (jobFail_ok (k + 3) j j.path2 rF.e _ q4) allN)))) (by kernel_rfl) allN
      · obtain ⟨r_1, q4, h⟩ := bnd_some h
        obtain rfl := Option.some.inj h
        exact ret_go (k := (k + 4)) Tryz.func38 Tryz.ntmps38 (by kernel_rfl) (by kernel_rfl) (lb rfl) (adv [([], 2, 3, .eq (pB false)), ([], 3, 3, .eq (pB false)), ([], 4, 3, .eq (pB false)), ([], 9, 1, .ret (JobD.a r_1))]) (ex := .ret) (r := (JobD.a r_1)) (by kernel_rfl) rfl (by kernel_rfl) (allC (cg q1) (allC (cg q2) (allC (cg q3) (allC (⟨rfl, rfl⟩ : (0 : Nat) = 0 ∧ (3 : Nat) = 3) (allC (cloneTo_ok (k + 3) (JobD.mk j.kind j.p j.phase j.fd j.nF j.modeF j.tries j.atF j.flags j.path j.path2 j.text ([(bs [99, 111, 112, 121]), j.path, j.path2]) j.stack j.draws j.done j.exit j.out j.e) (1 : Int) _ q4) allN))))) (by kernel_rfl) allN
def jobEnd (j : JobD) (out : ByteArray) : Option JobD :=
 some (JobD.mk j.kind j.p j.phase j.fd j.nF j.modeF j.tries j.atF j.flags j.path j.path2 j.text j.names j.stack j.draws true (0 : Int) out j.e)
set_option maxRecDepth 100000 in
theorem jobEnd_ok (k : Nat) (j : JobD) (out : ByteArray) (r : JobD) (h : jobEnd j out = some r) : run0 (k + 1) 79 [(JobD.a j), (pS out)] = some (JobD.a r) := by
  unfold jobEnd at h
  obtain rfl := Option.some.inj h
  exact ret_go (k := k) Tryz.func79 Tryz.ntmps79 (by kernel_rfl) (by kernel_rfl) (lb rfl) (adv []) (ex := .ret) (r := (.agg [(pI j.kind), (pI j.p), (pI j.phase), (pI j.fd), (pI j.nF), (pI j.modeF), (pI j.tries), (pI j.atF), (pI j.flags), (pS j.path), (pS j.path2), (pS j.text), (.list 1 false (j.names.map cS)), (.list 3 false (j.stack.map FrameD.c)), (.list 1 false (j.draws.map cI)), (pB true), (pI (0 : Int)), (pS out), (pI j.e)])) (by kernel_rfl) rfl (by kernel_rfl) allN (by kernel_rfl) allN
def cloneOn (j : JobD) : Option JobD :=
 bif (decide ((j.names.length : Int) < (3 : Int))) then (
 (jobEnd j (bs [])).bind fun r_1 =>
 some r_1
 ) else (
 (gt j.names (0 : Int)).bind fun y_1 =>
 bif (seq y_1 (bs [99, 111, 112, 121])) then (
 some (JobD.mk j.kind j.p (1 : Int) j.fd j.nF j.modeF j.tries j.atF j.flags j.path j.path2 j.text j.names j.stack j.draws j.done j.exit j.out j.e)
 ) else (
 some (JobD.mk j.kind j.p (13 : Int) j.fd j.nF j.modeF j.tries j.atF j.flags j.path j.path2 j.text j.names j.stack j.draws j.done j.exit j.out j.e)
 )
 )
set_option maxRecDepth 100000 in
theorem cloneOn_ok (k : Nat) (j : JobD) (r : JobD) (h : cloneOn j = some r) : run0 (k + 2) 39 [(JobD.a j)] = some (JobD.a r) := by
  unfold cloneOn at h
  rcases bif_some h with ⟨q1, h⟩ | ⟨q1, h⟩
  · obtain ⟨r_1, q2, h⟩ := bnd_some h
    obtain rfl := Option.some.inj h
    exact ret_go (k := (k + 1)) Tryz.func39 Tryz.ntmps39 (by kernel_rfl) (by kernel_rfl) (lb rfl) (adv [([], 1, 2, .eq (pI (j.names.length : Int))), ([], 1, 3, .eq (pB true)), ([], 2, 1, .ret (JobD.a r_1))]) (ex := .ret) (r := (JobD.a r_1)) (by kernel_rfl) rfl (by kernel_rfl) (allC (len_ob (rfl : (j.names.map cS) = j.names.map cS)) (allC (cg q1) (allC (jobEnd_ok k j (bs []) _ q2) allN))) (by kernel_rfl) allN
  · obtain ⟨y_1, q2, h⟩ := bnd_some h
    rcases bif_some h with ⟨q3, h⟩ | ⟨q3, h⟩
    · obtain rfl := Option.some.inj h
      exact ret_go (k := (k + 1)) Tryz.func39 Tryz.ntmps39 (by kernel_rfl) (by kernel_rfl) (lb rfl) (adv [([], 1, 2, .eq (pI (j.names.length : Int))), ([], 1, 3, .eq (pB false)), ([], 4, 2, .elem [(pS y_1)]), ([], 4, 4, .eq (pB true))]) (ex := .ret) (r := (.agg [(pI j.kind), (pI j.p), (pI (1 : Int)), (pI j.fd), (pI j.nF), (pI j.modeF), (pI j.tries), (pI j.atF), (pI j.flags), (pS j.path), (pS j.path2), (pS j.text), (.list 1 false (j.names.map cS)), (.list 3 false (j.stack.map FrameD.c)), (.list 1 false (j.draws.map cI)), (pB j.done), (pI j.exit), (pS j.out), (pI j.e)])) (by kernel_rfl) rfl (by kernel_rfl) (allC (len_ob (rfl : (j.names.map cS) = j.names.map cS)) (allC (cg q1) (allC (gt_list (c := cS) q2) (allC (cg q3) allN)))) (by kernel_rfl) allN
    · obtain rfl := Option.some.inj h
      exact ret_go (k := (k + 1)) Tryz.func39 Tryz.ntmps39 (by kernel_rfl) (by kernel_rfl) (lb rfl) (adv [([], 1, 2, .eq (pI (j.names.length : Int))), ([], 1, 3, .eq (pB false)), ([], 4, 2, .elem [(pS y_1)]), ([], 4, 4, .eq (pB false))]) (ex := .ret) (r := (.agg [(pI j.kind), (pI j.p), (pI (13 : Int)), (pI j.fd), (pI j.nF), (pI j.modeF), (pI j.tries), (pI j.atF), (pI j.flags), (pS j.path), (pS j.path2), (pS j.text), (.list 1 false (j.names.map cS)), (.list 3 false (j.stack.map FrameD.c)), (.list 1 false (j.draws.map cI)), (pB j.done), (pI j.exit), (pS j.out), (pI j.e)])) (by kernel_rfl) rfl (by kernel_rfl) (allC (len_ob (rfl : (j.names.map cS) = j.names.map cS)) (allC (cg q1) (allC (gt_list (c := cS) q2) (allC (cg q3) allN)))) (by kernel_rfl) allN
def modePrint (m : Int) : Option ByteArray :=
 grd (0 ≤ (bits .and .i64 (Int.fdiv m (2 ^ 3)) (7 : Int)) ∧ (bits .and .i64 (Int.fdiv m (2 ^ 3)) (7 : Int)) ≤ (w64 ((bits .and .i64 (Int.fdiv m (2 ^ 3)) (7 : Int)) + (1 : Int))) ∧ (w64 ((bits .and .i64 (Int.fdiv m (2 ^ 3)) (7 : Int)) + (1 : Int))) ≤ ((bs [48, 49, 50, 51, 52, 53, 54, 55]).size : Int)) <|
 grd (0 ≤ (bits .and .i64 m (7 : Int)) ∧ (bits .and .i64 m (7 : Int)) ≤ (w64 ((bits .and .i64 m (7 : Int)) + (1 : Int))) ∧ (w64 ((bits .and .i64 m (7 : Int)) + (1 : Int))) ≤ ((bs [48, 49, 50, 51, 52, 53, 54, 55]).size : Int)) <|
 grd (¬ (((((bs [48, 49, 50, 51, 52, 53, 54, 55]).extract ((bits .and .i64 (Int.fdiv m (2 ^ 3)) (7 : Int))).toNat ((w64 ((bits .and .i64 (Int.fdiv m (2 ^ 3)) (7 : Int)) + (1 : Int)))).toNat).size + ((bs [48, 49, 50, 51, 52, 53, 54, 55]).extract ((bits .and .i64 m (7 : Int))).toNat ((w64 ((bits .and .i64 m (7 : Int)) + (1 : Int)))).toNat).size : Nat) : Int) > IntKind.i64.max)) <|
 some (((bs [48, 49, 50, 51, 52, 53, 54, 55]).extract ((bits .and .i64 (Int.fdiv m (2 ^ 3)) (7 : Int))).toNat ((w64 ((bits .and .i64 (Int.fdiv m (2 ^ 3)) (7 : Int)) + (1 : Int)))).toNat) ++ ((bs [48, 49, 50, 51, 52, 53, 54, 55]).extract ((bits .and .i64 m (7 : Int))).toNat ((w64 ((bits .and .i64 m (7 : Int)) + (1 : Int)))).toNat))
set_option maxRecDepth 100000 in
theorem modePrint_ok (k : Nat) (m : Int) (r : ByteArray) (h : modePrint m = some r) : run0 (k + 1) 41 [(pI m)] = some (pS r) := by
  unfold modePrint at h
  obtain ⟨q1, h⟩ := grd_some h
  obtain ⟨q2, h⟩ := grd_some h
  obtain ⟨q3, h⟩ := grd_some h
  obtain rfl := Option.some.inj h
  exact ret_go (k := k) Tryz.func41 Tryz.ntmps41 (by kernel_rfl) (by kernel_rfl) (lb rfl) (adv [([], 2, 3, .sub false), ([], 2, 7, .sub false), ([], 2, 8, .cat)]) (ex := .ret) (r := (pS (((bs [48, 49, 50, 51, 52, 53, 54, 55]).extract ((bits .and .i64 (Int.fdiv m (2 ^ 3)) (7 : Int))).toNat ((w64 ((bits .and .i64 (Int.fdiv m (2 ^ 3)) (7 : Int)) + (1 : Int)))).toNat) ++ ((bs [48, 49, 50, 51, 52, 53, 54, 55]).extract ((bits .and .i64 m (7 : Int))).toNat ((w64 ((bits .and .i64 m (7 : Int)) + (1 : Int)))).toNat)))) (by kernel_rfl) rfl (by kernel_rfl) (allC q1 (allC q2 (allC q3 allN))) (by kernel_rfl) allN
def cloneSeen (j : JobD) (i : InfD) : Option JobD :=
 bif (i.kind == (2 : Int)) then (
 bif (j.flags != (1 : Int)) then (
 (gt j.names (1 : Int)).bind fun y_1 =>
 (jobFail (JobD.mk j.kind j.p j.phase j.fd j.nF i.modeF j.tries j.atF j.flags j.path j.path2 j.text j.names j.stack j.draws j.done j.exit j.out j.e) y_1 (5 : Int)).bind fun r_1 =>
 some r_1
 ) else (
 (cloneTo (JobD.mk j.kind j.p j.phase j.fd j.nF i.modeF j.tries j.atF j.flags j.path j.path2 j.text j.names j.stack j.draws j.done j.exit j.out j.e) (2 : Int)).bind fun r_1 =>
 some r_1
 )
 ) else (
 bif (i.kind == (3 : Int)) then (
 (cloneTo (JobD.mk j.kind j.p j.phase j.fd j.nF i.modeF j.tries j.atF j.flags j.path j.path2 j.text j.names j.stack j.draws j.done j.exit j.out j.e) (11 : Int)).bind fun r_1 =>
 some r_1
 ) else (
 (cloneTo (JobD.mk j.kind j.p j.phase j.fd j.nF i.modeF j.tries j.atF j.flags j.path j.path2 j.text j.names j.stack j.draws j.done j.exit j.out j.e) (6 : Int)).bind fun r_1 =>
 some r_1
 )
 )
set_option maxRecDepth 100000 in
theorem cloneSeen_ok (k : Nat) (j : JobD) (i : InfD) (r : JobD) (h : cloneSeen j i = some r) : run0 (k + 2) 42 [(JobD.a j), (.agg [(pI i.ino), (pI i.kind), (pI i.modeF), (pI i.owner), (pI i.links), (pI i.size)])] = some (JobD.a r) := by
  unfold cloneSeen at h
  rcases bif_some h with ⟨q1, h⟩ | ⟨q1, h⟩
  · rcases bif_some h with ⟨q2, h⟩ | ⟨q2, h⟩
    · obtain ⟨y_1, q3, h⟩ := bnd_some h
      obtain ⟨r_1, q4, h⟩ := bnd_some h
      obtain rfl := Option.some.inj h
      exact ret_go (k := (k + 1)) Tryz.func42 Tryz.ntmps42 (by kernel_rfl) (by kernel_rfl) (lb rfl) (adv [([], 3, 1, .eq (pB true)), ([], 4, 2, .eq (pB true)), ([], 5, 3, .elem [(pS y_1)]), ([], 5, 5, .ret (JobD.a r_1))]) (ex := .ret) (r := (JobD.a r_1)) (by kernel_rfl) rfl (by kernel_rfl) (allC (cg q1) (allC (cg q2) (allC (gt_list (c := cS) q3) (allC (jobFail_ok k (JobD.mk j.kind j.p j.phase j.fd j.nF i.modeF j.tries j.atF j.flags j.path j.path2 j.text j.names j.stack j.draws j.done j.exit j.out j.e) y_1 (5 : Int) _ q4) allN)))) (by kernel_rfl) allN
    · obtain ⟨r_1, q3, h⟩ := bnd_some h
      obtain rfl := Option.some.inj h
      exact ret_go (k := (k + 1)) Tryz.func42 Tryz.ntmps42 (by kernel_rfl) (by kernel_rfl) (lb rfl) (adv [([], 3, 1, .eq (pB true)), ([], 4, 2, .eq (pB false)), ([], 6, 1, .ret (JobD.a r_1))]) (ex := .ret) (r := (JobD.a r_1)) (by kernel_rfl) rfl (by kernel_rfl) (allC (cg q1) (allC (cg q2) (allC (cloneTo_ok k (JobD.mk j.kind j.p j.phase j.fd j.nF i.modeF j.tries j.atF j.flags j.path j.path2 j.text j.names j.stack j.draws j.done j.exit j.out j.e) (2 : Int) _ q3) allN))) (by kernel_rfl) allN
  · rcases bif_some h with ⟨q2, h⟩ | ⟨q2, h⟩
    · obtain ⟨r_1, q3, h⟩ := bnd_some h
      obtain rfl := Option.some.inj h
      exact ret_go (k := (k + 1)) Tryz.func42 Tryz.ntmps42 (by kernel_rfl) (by kernel_rfl) (lb rfl) (adv [([], 3, 1, .eq (pB false)), ([], 7, 1, .eq (pB true)), ([], 8, 1, .ret (JobD.a r_1))]) (ex := .ret) (r := (JobD.a r_1)) (by kernel_rfl) rfl (by kernel_rfl) (allC (cg q1) (allC (cg q2) (allC (cloneTo_ok k (JobD.mk j.kind j.p j.phase j.fd j.nF i.modeF j.tries j.atF j.flags j.path j.path2 j.text j.names j.stack j.draws j.done j.exit j.out j.e) (11 : Int) _ q3) allN))) (by kernel_rfl) allN
    · obtain ⟨r_1, q3, h⟩ := bnd_some h
      obtain rfl := Option.some.inj h
      exact ret_go (k := (k + 1)) Tryz.func42 Tryz.ntmps42 (by kernel_rfl) (by kernel_rfl) (lb rfl) (adv [([], 3, 1, .eq (pB false)), ([], 7, 1, .eq (pB false)), ([], 9, 1, .ret (JobD.a r_1))]) (ex := .ret) (r := (JobD.a r_1)) (by kernel_rfl) rfl (by kernel_rfl) (allC (cg q1) (allC (cg q2) (allC (cloneTo_ok k (JobD.mk j.kind j.p j.phase j.fd j.nF i.modeF j.tries j.atF j.flags j.path j.path2 j.text j.names j.stack j.draws j.done j.exit j.out j.e) (6 : Int) _ q3) allN))) (by kernel_rfl) allN
def slicesConcat (p0 : (List ByteArray)) (p1 : (List ByteArray)) : Option (((List ByteArray) × (List ByteArray)) ⊕ ((List ByteArray) × (List ByteArray) × (List ByteArray))) :=
 bif (decide ((w64 ((0 : Int) + (p0.length : Int))) < (0 : Int))) then (
 none
 ) else (
 bif (decide ((w64 ((w64 ((0 : Int) + (p0.length : Int))) + (p1.length : Int))) < (0 : Int))) then (
 none
 ) else (
 bif ((w64 ((w64 ((0 : Int) + (p0.length : Int))) + (p1.length : Int))) == (0 : Int)) then (
 (match p0 with
 | [] => (
 (match p1 with
 | [] => (
 some (.inl (([] : (List ByteArray)), ([] : (List ByteArray))))
 )
 | z_3 :: z_4 => (
 none
 ))
 )
 | z_1 :: z_2 => (
 none
 ))
 ) else (
 grd (1 ≤ (w64 ((w64 ((0 : Int) + (p0.length : Int))) + (p1.length : Int))) ∧ (w64 ((w64 ((0 : Int) + (p0.length : Int))) + (p1.length : Int))) ≤ 1000000) <|
 grd (room (([] : (List ByteArray)).length + p0.length) 16) <|
 grd (room ((([] : (List ByteArray)) ++ p0).length + p1.length) 16) <|
 some (.inr ((p0, p1, ((([] : (List ByteArray)) ++ p0) ++ p1))))
 )
 )
 )
def slicesConcat_out : (((List ByteArray) × (List ByteArray)) ⊕ ((List ByteArray) × (List ByteArray) × (List ByteArray))) → PV × List (Option Blk) × List Nat
 | .inl (r0, r1) => ((.list 1 true []), [some ⟨1, 22, [[(.list 1 false (r0.map cS))], [(.list 1 false (r1.map cS))]], true, true⟩], [0])
 | .inr ((r0, r1, r2)) => ((.row [1, TAG] 1 0 r2.length), [some ⟨1, 22, [[(.list 1 false (r0.map cS))], [(.list 1 false (r1.map cS))]], true, true⟩, some ⟨1, 9, (r2.map cS), true, true⟩], [0, 0])
set_option maxRecDepth 100000 in
theorem slicesConcat_ok (k : Nat) (p0 : (List ByteArray)) (p1 : (List ByteArray)) (r : (((List ByteArray) × (List ByteArray)) ⊕ ((List ByteArray) × (List ByteArray) × (List ByteArray)))) (h : slicesConcat p0 p1 = some r) : runS0 (k + 1) 82 [(.row [0, TAG] 1 0 2)] [some ⟨1, 22, [[(.list 1 false (p0.map cS))], [(.list 1 false (p1.map cS))]], true, true⟩] [0] = some (slicesConcat_out r) := by
  unfold slicesConcat at h
  rcases bif_some h with ⟨q1, h⟩ | ⟨q1, h⟩
  · cases h
  · rcases bif_some h with ⟨q2, h⟩ | ⟨q2, h⟩
    · cases h
    · rcases bif_some h with ⟨q3, h⟩ | ⟨q3, h⟩
      · rcases p0 with _ | ⟨z_1, z_2⟩
        · try dsimp only at h
          rcases p1 with _ | ⟨z_3, z_4⟩
          · try dsimp only at h
            obtain rfl := Option.some.inj h
            exact retS_go (k := k) (n := 1) Tryz.func82 Tryz.ntmps82 rfl (by kernel_rfl) (by kernel_rfl) (lb rfl) (adv [([0], 5, 2, .eq (pI (([] : (List ByteArray)).length : Int))), ([0], 6, 1, .eq (pB false)), ([1], 5, 2, .eq (pI (([] : (List ByteArray)).length : Int))), ([1], 6, 1, .eq (pB false)), ([], 9, 1, .ret (.v (.slice none 0 0)))] [] [3, 11]) (ex := .ret) (r := ((.list 1 true []), [some ⟨1, 22, [[(.list 1 false (([] : (List ByteArray)).map cS))], [(.list 1 false (([] : (List ByteArray)).map cS))]], true, true⟩], [0])) (by kernel_rfl) rfl (by kernel_rfl) (allC (len_ob (rfl : (([] : (List ByteArray)).map cS) = ([] : (List ByteArray)).map cS)) (allC (cg q1) (allC (len_ob (rfl : (([] : (List ByteArray)).map cS) = ([] : (List ByteArray)).map cS)) (allC (cg q2) (allC (growX_nil k (w64 ((w64 ((0 : Int) + (([] : (List ByteArray)).length : Int))) + (([] : (List ByteArray)).length : Int))) q3) allN))))) (by kernel_rfl)
          · try dsimp only at h
            cases h
        · try dsimp only at h
          cases h
      · obtain ⟨q4, h⟩ := grd_some h
        obtain ⟨q5, h⟩ := grd_some h
        obtain ⟨q6, h⟩ := grd_some h
        obtain rfl := Option.some.inj h
        exact (retS_go (k := k) (n := 1) Tryz.func82 Tryz.ntmps82 rfl (by kernel_rfl) (by kernel_rfl) (lb rfl) (adv [([0], 5, 2, .eq (pI (p0.length : Int))), ([0], 6, 1, .eq (pB false)), ([1], 5, 2, .eq (pI (p1.length : Int))), ([1], 6, 1, .eq (pB false)), ([], 9, 1, .ret (.own 1 9 [])), ([0], 13, 2, .ok), ([1], 13, 2, .ok)] [] [3, 11]) (ex := .ret) (r := ((.row [1, TAG] 1 0 ((0 + (p0.map cS).length) + (p1.map cS).length)), [some ⟨1, 22, [[(.list 1 false (p0.map cS))], [(.list 1 false (p1.map cS))]], true, true⟩, some ⟨1, 9, (([] ++ (p0.map cS)) ++ (p1.map cS)), true, true⟩], [0, 0])) (by kernel_rfl) rfl (by kernel_rfl) (allC (len_ob (rfl : (p0.map cS) = p0.map cS)) (allC (cg q1) (allC (len_ob (rfl : (p1.map cS) = p1.map cS)) (allC (cg q2) (allC (growX_own k (w64 ((w64 ((0 : Int) + (p0.length : Int))) + (p1.length : Int))) q3 q4) (allC (app_ok2 (rfl : [] = ([] : (List ByteArray)).map cS) (rfl : 0 = ([] : (List ByteArray)).length) (rfl : (p0.map cS) = p0.map cS) q5) (allC (app_ok2 ((enc_cat (rfl : [] = ([] : (List ByteArray)).map cS) (rfl : (p0.map cS) = p0.map cS)) : ([] ++ (p0.map cS)) = (([] : (List ByteArray)) ++ p0).map cS) ((len_cat (rfl : 0 = ([] : (List ByteArray)).length) ([] : (List ByteArray)) (enc_len (rfl : (p0.map cS) = p0.map cS))) : (0 + (p0.map cS).length) = (([] : (List ByteArray)) ++ p0).length) (rfl : (p1.map cS) = p1.map cS) q6) allN))))))) (by kernel_rfl)).trans (congrArg some (by rw [(show ((0 + (p0.map cS).length) + (p1.map cS).length) = ((([] : (List ByteArray)) ++ p0) ++ p1).length from (len_cat ((len_cat (rfl : 0 = ([] : (List ByteArray)).length) ([] : (List ByteArray)) (enc_len (rfl : (p0.map cS) = p0.map cS))) : (0 + (p0.map cS).length) = (([] : (List ByteArray)) ++ p0).length) (([] : (List ByteArray)) ++ p0) (enc_len (rfl : (p1.map cS) = p1.map cS)))), (show (([] ++ (p0.map cS)) ++ (p1.map cS)) = (((([] : (List ByteArray)) ++ p0) ++ p1).map cS) from (enc_cat ((enc_cat (rfl : [] = ([] : (List ByteArray)).map cS) (rfl : (p0.map cS) = p0.map cS)) : ([] ++ (p0.map cS)) = (([] : (List ByteArray)) ++ p0).map cS) (rfl : (p1.map cS) = p1.map cS)))] <;> rfl))
end Go.Proofs.YtdbekeidlppfiaaGreatDoor.Den
namespace Go.Proofs.YtdbekeidlppfiaaGreatDoor.Den
open Go Go.RowKit
def cloneInstead (j : JobD) (works : (List ByteArray)) : Option JobD :=
 grd (0 ≤ (if (j.names.length : Int) < (3 : Int) then (j.names.length : Int) else (3 : Int)) ∧ (if (j.names.length : Int) < (3 : Int) then (j.names.length : Int) else (3 : Int)) ≤ (j.names.length : Int) ∧ (j.names.length : Int) ≤ (j.names.length : Int)) <|
 (slicesConcat works (j.names.drop (((if (j.names.length : Int) < (3 : Int) then (j.names.length : Int) else (3 : Int))).toNat))).bind fun X_1 => match X_1 with
 | .inl (r_1, r_2) => (
 some (JobD.mk j.kind j.p j.phase j.fd j.nF j.modeF j.tries j.atF j.flags j.path j.path2 j.text [] j.stack j.draws j.done j.exit j.out j.e)
 )
 | .inr ((r_3, r_4, r_5)) => (
 some (JobD.mk j.kind j.p j.phase j.fd j.nF j.modeF j.tries j.atF j.flags j.path j.path2 j.text r_5 j.stack j.draws j.done j.exit j.out j.e)
 )
set_option maxRecDepth 100000 in
theorem cloneInstead_ok (k : Nat) (j : JobD) (works : (List ByteArray)) (r : JobD) (h : cloneInstead j works = some r) : run0 (k + 2) 44 [(JobD.a j), (.list 1 false (works.map cS))] = some (JobD.a r) := by
  unfold cloneInstead at h
  obtain ⟨q1, h⟩ := grd_some h
  obtain ⟨X_1, q2, h⟩ := bnd_some h
  rcases X_1 with ⟨r_1, r_2⟩ | ⟨r_3, r_4, r_5⟩
  · try dsimp only at h
    obtain rfl := Option.some.inj h
    exact ret_go (k := (k + 1)) Tryz.func44 Tryz.ntmps44 (by kernel_rfl) (by kernel_rfl) (lb rfl) (adv [([], 1, 5, .eq (pI (j.names.length : Int))), ([], 1, 7, .sub false), ([], 1, 9, .retS (.list 1 true []) [some ⟨1, 22, [[(.list 1 false (r_1.map cS))], [(.list 1 false (r_2.map cS))]], true, true⟩] [0])]) (ex := .ret) (r := (.agg [(pI j.kind), (pI j.p), (pI j.phase), (pI j.fd), (pI j.nF), (pI j.modeF), (pI j.tries), (pI j.atF), (pI j.flags), (pS j.path), (pS j.path2), (pS j.text), (.list 1 false []), (.list 3 false (j.stack.map FrameD.c)), (.list 1 false (j.draws.map cI)), (pB j.done), (pI j.exit), (pS j.out), (pI j.e)])) (by kernel_rfl) rfl (by kernel_rfl) (allC (len_ob (rfl : (j.names.map cS) = j.names.map cS)) (allC (sub_ok1 (c := cS) q1) (allC ((by rw [(show (((j.names.map cS).drop (((if (j.names.length : Int) < (3 : Int) then (j.names.length : Int) else (3 : Int))).toNat)).take ((j.names.map cS).length - ((if (j.names.length : Int) < (3 : Int) then (j.names.length : Int) else (3 : Int))).toNat)) = ((j.names.drop (((if (j.names.length : Int) < (3 : Int) then (j.names.length : Int) else (3 : Int))).toNat)).map cS) from (enc_drop rfl (((if (j.names.length : Int) < (3 : Int) then (j.names.length : Int) else (3 : Int))).toNat)))]; exact slicesConcat_ok k works (j.names.drop (((if (j.names.length : Int) < (3 : Int) then (j.names.length : Int) else (3 : Int))).toNat)) _ q2) : runS0 (k + 1) 82 [(.row [0, TAG] 1 0 2)] [some ⟨1, 22, [[(.list 1 false (works.map cS))], [(.list 1 false (((j.names.map cS).drop (((if (j.names.length : Int) < (3 : Int) then (j.names.length : Int) else (3 : Int))).toNat)).take ((j.names.map cS).length - ((if (j.names.length : Int) < (3 : Int) then (j.names.length : Int) else (3 : Int))).toNat)))]], true, true⟩] [0] = some ((.list 1 true []), [some ⟨1, 22, [[(.list 1 false (r_1.map cS))], [(.list 1 false (r_2.map cS))]], true, true⟩], [0])) allN))) (by kernel_rfl) allN
  · try dsimp only at h
    obtain rfl := Option.some.inj h
    exact ret_go (k := (k + 1)) Tryz.func44 Tryz.ntmps44 (by kernel_rfl) (by kernel_rfl) (lb rfl) (adv [([], 1, 5, .eq (pI (j.names.length : Int))), ([], 1, 7, .sub false), ([], 1, 9, .retS (.row [1, TAG] 1 0 r_5.length) [some ⟨1, 22, [[(.list 1 false (r_3.map cS))], [(.list 1 false (r_4.map cS))]], true, true⟩, some ⟨1, 9, (r_5.map cS), true, true⟩] [0, 0])]) (ex := .ret) (r := (.agg [(pI j.kind), (pI j.p), (pI j.phase), (pI j.fd), (pI j.nF), (pI j.modeF), (pI j.tries), (pI j.atF), (pI j.flags), (pS j.path), (pS j.path2), (pS j.text), (.list 1 false (r_5.map cS)), (.list 3 false (j.stack.map FrameD.c)), (.list 1 false (j.draws.map cI)), (pB j.done), (pI j.exit), (pS j.out), (pI j.e)])) (by kernel_rfl) rfl (by kernel_rfl) (allC (len_ob (rfl : (j.names.map cS) = j.names.map cS)) (allC (sub_ok1 (c := cS) q1) (allC ((by rw [(show (((j.names.map cS).drop (((if (j.names.length : Int) < (3 : Int) then (j.names.length : Int) else (3 : Int))).toNat)).take ((j.names.map cS).length - ((if (j.names.length : Int) < (3 : Int) then (j.names.length : Int) else (3 : Int))).toNat)) = ((j.names.drop (((if (j.names.length : Int) < (3 : Int) then (j.names.length : Int) else (3 : Int))).toNat)).map cS) from (enc_drop rfl (((if (j.names.length : Int) < (3 : Int) then (j.names.length : Int) else (3 : Int))).toNat)))]; exact slicesConcat_ok k works (j.names.drop (((if (j.names.length : Int) < (3 : Int) then (j.names.length : Int) else (3 : Int))).toNat)) _ q2) : runS0 (k + 1) 82 [(.row [0, TAG] 1 0 2)] [some ⟨1, 22, [[(.list 1 false (works.map cS))], [(.list 1 false (((j.names.map cS).drop (((if (j.names.length : Int) < (3 : Int) then (j.names.length : Int) else (3 : Int))).toNat)).take ((j.names.map cS).length - ((if (j.names.length : Int) < (3 : Int) then (j.names.length : Int) else (3 : Int))).toNat)))]], true, true⟩] [0] = some ((.row [1, TAG] 1 0 r_5.length), [some ⟨1, 22, [[(.list 1 false (r_3.map cS))], [(.list 1 false (r_4.map cS))]], true, true⟩, some ⟨1, 9, (r_5.map cS), true, true⟩], [0, 0])) allN))) (by kernel_rfl) (allC (row_ok (rfl : (r_5.map cS) = r_5.map cS) (rfl : r_5.length = r_5.length)) allN)
end Go.Proofs.YtdbekeidlppfiaaGreatDoor.Den
