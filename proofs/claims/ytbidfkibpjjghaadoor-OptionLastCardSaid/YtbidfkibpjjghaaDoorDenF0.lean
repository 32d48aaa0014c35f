/- Functions, printed by den.py out of the code: plain ones, and that the code answers as they do. -/
import Derived.Test.YtbidfkibpjjghaaDoorDenTy
set_option linter.unusedVariables false
set_option linter.unusedSimpArgs false
namespace Go.Proofs.YtbidfkibpjjghaaDoor.Den
open Go Go.RowKit

/-- internal/stringslite.HasPrefix -/
def stringsliteHasPrefix (s : ByteArray) (prefixF : ByteArray) : Option Bool :=
  bif (decide ((s.size : Int) ≥ (prefixF.size : Int))) then (
    grd (0 ≤ (0 : Int) ∧ (0 : Int) ≤ (prefixF.size : Int) ∧ (prefixF.size : Int) ≤ (s.size : Int)) <|
    some (seq (s.extract 0 ((prefixF.size : Int)).toNat) prefixF)
  ) else (
    some false
  )
set_option maxRecDepth 100000 in
theorem stringsliteHasPrefix_ok (k : Nat) (s : ByteArray) (prefixF : ByteArray) (r : Bool) (h : stringsliteHasPrefix s prefixF = some r) : run0 (k + 1) 34 [(pS s), (pS prefixF)] = some (pB r) := by
  unfold stringsliteHasPrefix at h
  rcases bif_some h with ⟨q1, h⟩ | ⟨q1, h⟩
  · skip
    obtain ⟨q2, h⟩ := grd_some h
    obtain rfl := Option.some.inj h
    exact ret_go (k := k) Tryd.func34 Tryd.ntmps34 (by kernel_rfl) (by kernel_rfl) (Nat.le_of_ble_eq_true rfl) (adv [([], 1, 5, .eq (pB true)), ([], 1, 9, .sub false)]) (ex := .ret) (r := (pB (seq (s.extract 0 ((prefixF.size : Int)).toNat) prefixF))) (by kernel_rfl) rfl (by kernel_rfl) (allC (cg q1) (allC q2 allN)) (by kernel_rfl) allN
  · skip
    obtain rfl := Option.some.inj h
    exact ret_go (k := k) Tryd.func34 Tryd.ntmps34 (by kernel_rfl) (by kernel_rfl) (Nat.le_of_ble_eq_true rfl) (adv [([], 1, 5, .eq (pB false))]) (ex := .ret) (r := (pB false)) (by kernel_rfl) rfl (by kernel_rfl) (allC (cg q1) allN) (by kernel_rfl) allN

/-- internal/stringslite.CutPrefix -/
def stringsliteCutPrefix (s : ByteArray) (prefixF : ByteArray) : Option (ByteArray × Bool) :=
  (stringsliteHasPrefix s prefixF).bind fun r_1 =>
  bif (!r_1) then (
    some (s, false)
  ) else (
    grd (0 ≤ (prefixF.size : Int) ∧ (prefixF.size : Int) ≤ (s.size : Int) ∧ (s.size : Int) ≤ (s.size : Int)) <|
    some ((s.extract ((prefixF.size : Int)).toNat s.size), true)
  )
set_option maxRecDepth 100000 in
theorem stringsliteCutPrefix_ok (k : Nat) (s : ByteArray) (prefixF : ByteArray) (r : (ByteArray × Bool)) (h : stringsliteCutPrefix s prefixF = some r) : run0 (k + 2) 32 [(pS s), (pS prefixF)] = some (.tup [(pS r.1), (pB r.2)]) := by
  unfold stringsliteCutPrefix at h
  obtain ⟨r_1, q1, h⟩ := bnd_some h
  rcases bif_some h with ⟨q2, h⟩ | ⟨q2, h⟩
  · skip
    obtain rfl := Option.some.inj h
    exact ret_go (k := (k + 1)) Tryd.func32 Tryd.ntmps32 (by kernel_rfl) (by kernel_rfl) (Nat.le_of_ble_eq_true rfl) (adv [([], 1, 2, .ret (pB r_1)), ([], 1, 3, .eq (pB true))]) (ex := .ret) (r := (.tup [(pS s), (pB false)])) (by kernel_rfl) rfl (by kernel_rfl) (allC (stringsliteHasPrefix_ok k s prefixF _ q1) (allC (cg q2) allN)) (by kernel_rfl) allN
  · skip
    obtain ⟨q3, h⟩ := grd_some h
    obtain rfl := Option.some.inj h
    exact ret_go (k := (k + 1)) Tryd.func32 Tryd.ntmps32 (by kernel_rfl) (by kernel_rfl) (Nat.le_of_ble_eq_true rfl) (adv [([], 1, 2, .ret (pB r_1)), ([], 1, 3, .eq (pB false)), ([], 3, 3, .sub false)]) (ex := .ret) (r := (.tup [(pS (s.extract ((prefixF.size : Int)).toNat s.size)), (pB true)])) (by kernel_rfl) rfl (by kernel_rfl) (allC (stringsliteHasPrefix_ok k s prefixF _ q1) (allC (cg q2) (allC q3 allN))) (by kernel_rfl) allN

/-- strings.CutPrefix -/
def stringsCutPrefix (s : ByteArray) (prefixF : ByteArray) : Option (ByteArray × Bool) :=
  (stringsliteCutPrefix s prefixF).bind fun (r_1, r_2) =>
  some (r_1, r_2)
set_option maxRecDepth 100000 in
theorem stringsCutPrefix_ok (k : Nat) (s : ByteArray) (prefixF : ByteArray) (r : (ByteArray × Bool)) (h : stringsCutPrefix s prefixF = some r) : run0 (k + 3) 26 [(pS s), (pS prefixF)] = some (.tup [(pS r.1), (pB r.2)]) := by
  unfold stringsCutPrefix at h
  obtain ⟨⟨r_1, r_2⟩, q1, h⟩ := bnd_some h
  try dsimp only at h
  obtain rfl := Option.some.inj h
  exact ret_go (k := (k + 2)) Tryd.func26 Tryd.ntmps26 (by kernel_rfl) (by kernel_rfl) (Nat.le_of_ble_eq_true rfl) (adv [([], 1, 2, .ret (.tup [(pS r_1), (pB r_2)]))]) (ex := .ret) (r := (.tup [(pS r_1), (pB r_2)])) (by kernel_rfl) rfl (by kernel_rfl) (allC (stringsliteCutPrefix_ok k s prefixF _ q1) allN) (by kernel_rfl) allN

/-- (*flagstone/option.taker).next: the answer, and what is left of the variables -/
def optionTakerNext (p0 : ByteArray) (p1 : (List ByteArray)) : Option (ByteArray × ByteArray × (List ByteArray)) :=
  (gt p1 (0 : Int)).bind fun y_1 =>
  grd (0 ≤ (1 : Int) ∧ (1 : Int) ≤ (p1.length : Int) ∧ (p1.length : Int) ≤ (p1.length : Int)) <|
  some (y_1, p0, (p1.drop (((1 : Int)).toNat)))
def optionTakerNext_out : (ByteArray × ByteArray × (List ByteArray)) → PV × List (Option Blk) × List Nat
  | (r0, r1, r2) => ((pS r0), [some ⟨3, 51, [[(pS r1), (.list 1 false (r2.map cS)), (.v (.slice none 0 0))]], true, false⟩], [0])
set_option maxRecDepth 100000 in
theorem optionTakerNext_ok (k : Nat) (p0 : ByteArray) (p1 : (List ByteArray)) (r : (ByteArray × ByteArray × (List ByteArray))) (h : optionTakerNext p0 p1 = some r) : runS0 (k + 1) 27 [(.ptr [0, TAG] 1 0 0)] [some ⟨3, 51, [[(pS p0), (.list 1 false (p1.map cS)), (.v (.slice none 0 0))]], true, false⟩] [0] = some (optionTakerNext_out r) := by
  unfold optionTakerNext at h
  obtain ⟨y_1, q1, h⟩ := bnd_some h
  obtain ⟨q2, h⟩ := grd_some h
  obtain rfl := Option.some.inj h
  exact (retS_go (k := k) (n := 1) Tryd.func27 Tryd.ntmps27 rfl (by kernel_rfl) (by kernel_rfl) (Nat.le_of_ble_eq_true rfl) (adv [([], 1, 4, .elem [(pS y_1)]), ([], 2, 5, .sub false)]) (ex := .ret) (r := ((pS y_1), [some ⟨3, 51, [[(pS p0), (.list 1 false (((p1.map cS).drop (((1 : Int)).toNat)).take ((p1.map cS).length - ((1 : Int)).toNat))), (.v (.slice none 0 0))]], true, false⟩], [0])) (by kernel_rfl) rfl (by kernel_rfl) (allC (gt_list (c := cS) q1) (allC (sub_ok1 (c := cS) q2) allN)) (by kernel_rfl)).trans (congrArg some (by rw [(show (((p1.map cS).drop (((1 : Int)).toNat)).take ((p1.map cS).length - ((1 : Int)).toNat)) = ((p1.drop (((1 : Int)).toNat)).map cS) from (enc_drop rfl (((1 : Int)).toNat)))] <;> rfl))

/-- flagstone/option.kind -/
def optionKind (spec : ByteArray) (c : Int) : Option Int :=
  bif (c == (58 : Int)) then (
    some (0 : Int)
  ) else (
    (ixbX spec c).bind fun r_1 =>
    bif (decide (r_1 < (0 : Int))) then (
      some (0 : Int)
    ) else (
      (conX spec (ByteArray.mk [UInt8.ofNat (c).toNat, UInt8.ofNat ((58 : Int)).toNat].toArray)).bind fun r_2 =>
      bif r_2 then (
        some (2 : Int)
      ) else (
        some (1 : Int)
      )
    )
  )
set_option maxRecDepth 100000 in
theorem optionKind_ok (k : Nat) (spec : ByteArray) (c : Int) (r : Int) (h : optionKind spec c = some r) : run0 (k + 1) 33 [(pS spec), (.v (.int .u8 c))] = some (pI r) := by
  unfold optionKind at h
  rcases bif_some h with ⟨q1, h⟩ | ⟨q1, h⟩
  · skip
    obtain rfl := Option.some.inj h
    exact ret_go (k := k) Tryd.func33 Tryd.ntmps33 (by kernel_rfl) (by kernel_rfl) (Nat.le_of_ble_eq_true rfl) (adv [([], 1, 2, .eq (pB true))]) (ex := .ret) (r := (pI (0 : Int))) (by kernel_rfl) rfl (by kernel_rfl) (allC (cg q1) allN) (by kernel_rfl) allN
  · skip
    obtain ⟨r_1, q2, h⟩ := bnd_some h
    rcases bif_some h with ⟨q3, h⟩ | ⟨q3, h⟩
    · skip
      obtain rfl := Option.some.inj h
      exact ret_go (k := k) Tryd.func33 Tryd.ntmps33 (by kernel_rfl) (by kernel_rfl) (Nat.le_of_ble_eq_true rfl) (adv [([], 1, 2, .eq (pB false)), ([], 1, 5, .ret (pI r_1)), ([], 1, 7, .eq (pB true))]) (ex := .ret) (r := (pI (0 : Int))) (by kernel_rfl) rfl (by kernel_rfl) (allC (cg q1) (allC (ixbX_ok k spec c _ q2) (allC (cg q3) allN))) (by kernel_rfl) allN
    · skip
      obtain ⟨r_2, q4, h⟩ := bnd_some h
      rcases bif_some h with ⟨q5, h⟩ | ⟨q5, h⟩
      · skip
        revert h; subst q5; intro h
        obtain rfl := Option.some.inj h
        exact ret_go (k := k) Tryd.func33 Tryd.ntmps33 (by kernel_rfl) (by kernel_rfl) (Nat.le_of_ble_eq_true rfl) (adv [([], 1, 2, .eq (pB false)), ([], 1, 5, .ret (pI r_1)), ([], 1, 7, .eq (pB false)), ([], 3, 4, .ret (pB true))]) (ex := .ret) (r := (pI (2 : Int))) (by kernel_rfl) rfl (by kernel_rfl) (allC (cg q1) (allC (ixbX_ok k spec c _ q2) (allC (cg q3) (allC (conX_ok k spec (ByteArray.mk [UInt8.ofNat (c).toNat, UInt8.ofNat ((58 : Int)).toNat].toArray) _ q4) allN)))) (by kernel_rfl) allN
      · skip
        revert h; subst q5; intro h
        obtain rfl := Option.some.inj h
        exact ret_go (k := k) Tryd.func33 Tryd.ntmps33 (by kernel_rfl) (by kernel_rfl) (Nat.le_of_ble_eq_true rfl) (adv [([], 1, 2, .eq (pB false)), ([], 1, 5, .ret (pI r_1)), ([], 1, 7, .eq (pB false)), ([], 3, 4, .ret (pB false))]) (ex := .ret) (r := (pI (1 : Int))) (by kernel_rfl) rfl (by kernel_rfl) (allC (cg q1) (allC (ixbX_ok k spec c _ q2) (allC (cg q3) (allC (conX_ok k spec (ByteArray.mk [UInt8.ofNat (c).toNat, UInt8.ofNat ((58 : Int)).toNat].toArray) _ q4) allN)))) (by kernel_rfl) allN

/-- (*flagstone/option.taker).next: the answer, and what is left of the variables -/
def optionTakerNext2 (p0 : ByteArray) (p1 : (List ByteArray)) (p2 : (List FlagD)) : Option (ByteArray × ByteArray × (List ByteArray) × (List FlagD)) :=
  (gt p1 (0 : Int)).bind fun y_1 =>
  grd (0 ≤ (1 : Int) ∧ (1 : Int) ≤ (p1.length : Int) ∧ (p1.length : Int) ≤ (p1.length : Int)) <|
  some (y_1, p0, (p1.drop (((1 : Int)).toNat)), p2)
def optionTakerNext2_out : (ByteArray × ByteArray × (List ByteArray) × (List FlagD)) → PV × List (Option Blk) × List Nat
  | (r0, r1, r2, r3) => ((pS r0), [some ⟨3, 51, [[(pS r1), (.list 1 false (r2.map cS)), (.row [1, TAG] 1 0 r3.length)]], false, false⟩, some ⟨2, 58, (r3.map FlagD.c), true, true⟩], [0, 0])
set_option maxRecDepth 100000 in
theorem optionTakerNext2_ok (k : Nat) (p0 : ByteArray) (p1 : (List ByteArray)) (p2 : (List FlagD)) (r : (ByteArray × ByteArray × (List ByteArray) × (List FlagD))) (h : optionTakerNext2 p0 p1 p2 = some r) : runS0 (k + 1) 27 [(.ptr [0, TAG] 1 0 0)] [some ⟨3, 51, [[(pS p0), (.list 1 false (p1.map cS)), (.row [1, TAG] 1 0 p2.length)]], false, false⟩, some ⟨2, 58, (p2.map FlagD.c), true, true⟩] [0, 0] = some (optionTakerNext2_out r) := by
  unfold optionTakerNext2 at h
  obtain ⟨y_1, q1, h⟩ := bnd_some h
  obtain ⟨q2, h⟩ := grd_some h
  obtain rfl := Option.some.inj h
  exact (retS_go (k := k) (n := 2) Tryd.func27 Tryd.ntmps27 rfl (by kernel_rfl) (by kernel_rfl) (Nat.le_of_ble_eq_true rfl) (adv [([], 1, 4, .elem [(pS y_1)]), ([], 2, 5, .sub false)]) (ex := .ret) (r := ((pS y_1), [some ⟨3, 51, [[(pS p0), (.list 1 false (((p1.map cS).drop (((1 : Int)).toNat)).take ((p1.map cS).length - ((1 : Int)).toNat))), (.row [1, TAG] 1 0 p2.length)]], false, false⟩, some ⟨2, 58, (p2.map FlagD.c), true, true⟩], [0, 0])) (by kernel_rfl) rfl (by kernel_rfl) (allC (gt_list (c := cS) q1) (allC (sub_ok1 (c := cS) q2) allN)) (by kernel_rfl)).trans (congrArg some (by rw [(show (((p1.map cS).drop (((1 : Int)).toNat)).take ((p1.map cS).length - ((1 : Int)).toNat)) = ((p1.drop (((1 : Int)).toNat)).map cS) from (enc_drop rfl (((1 : Int)).toNat)))] <;> rfl))


end Go.Proofs.YtbidfkibpjjghaaDoor.Den
