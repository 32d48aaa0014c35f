/- Texts joined by a program of mine (pack.py): PlGrp PlPar PlH PlJob PlBase PlPlain PlDir PlMake PlTell21. -/
import Derived.Test.YtaenhodkpidocaaGreatDoorDenTy
import Derived.Test.YtaenhodkpidocaaGreatDoorDenF18
import Derived.Lib.ItoaLen
set_option linter.unusedVariables false
set_option linter.unusedSimpArgs false
namespace Go.Proofs.YtaenhodkpidocaaGreatDoor.Den
open Go Go.RowKit
theorem seq_nil (l : List UInt8) : seq (bs l) (bs []) = l.isEmpty := by rw [seq_by, by_bs, by_bs]; cases l <;> rfl
theorem room16 {n : Nat} (h : n ≤ 1000000000) : room n 16 := ⟨by omega, by omega⟩
abbrev GO1 := (ByteArray × (List ByteArray)) ⊕ (ByteArray × (List ByteArray)) ⊕ (ByteArray × (List ByteArray)) ⊕ (ByteArray × (List ByteArray) × (List FlagD)) ⊕ (ByteArray × (List ByteArray) × (List FlagD)) ⊕ (ByteArray × (List ByteArray) × (List FlagD))
end Go.Proofs.YtaenhodkpidocaaGreatDoor.Den
namespace Go.Proofs.YtaenhodkpidocaaGreatDoor.Den
open Go Go.RowKit
abbrev AS := (ByteArray × (List ByteArray)) ⊕ (ByteArray × (List ByteArray) × (List FlagD))
def absR : GO1 → ByteArray → Int × List ByteArray × List FlagD → Prop
 | .inl (s', a), s, r => s' = s ∧ r = (0, a, [])
 | .inr (.inl _), _, r => r = (30, [], [])
 | .inr (.inr (.inl _)), _, r => r = (31, [], [])
 | .inr (.inr (.inr (.inl _))), _, r => r = (30, [], [])
 | .inr (.inr (.inr (.inr (.inl _)))), _, r => r = (31, [], [])
 | .inr (.inr (.inr (.inr (.inr (s', a, f))))), s, r => s' = s ∧ r = (0, a, f)
def contA : ((ByteArray × (List ByteArray) × ByteArray × ByteArray × Bool) ⊕ (ByteArray × (List ByteArray) × ByteArray × ByteArray × Bool) ⊕ (ByteArray × (List ByteArray) × ByteArray × ByteArray × Bool × ByteArray × ByteArray × (List ByteArray)) ⊕ (ByteArray × (List ByteArray) × ByteArray × ByteArray × Bool × ByteArray × ByteArray × (List ByteArray) × ByteArray × (List ByteArray)) ⊕ (ByteArray × (List ByteArray) × ByteArray × ByteArray × Bool × ByteArray × ByteArray × (List ByteArray) × ByteArray × (List ByteArray)) ⊕ (ByteArray × (List ByteArray) × ByteArray × ByteArray × Bool × ByteArray × ByteArray × (List ByteArray) × ByteArray × (List ByteArray) × (List FlagD)) ⊕ (ByteArray × (List ByteArray) × ByteArray × ByteArray × Bool × ByteArray × ByteArray × (List ByteArray) × ByteArray × (List ByteArray) × (List FlagD)) ⊕ (ByteArray × (List ByteArray)) ⊕ (ByteArray × (List ByteArray) × (List FlagD) × ByteArray × ByteArray × Bool) ⊕ (ByteArray × (List ByteArray) × (List FlagD) × ByteArray × ByteArray × Bool) ⊕ (ByteArray × (List ByteArray) × (List FlagD) × ByteArray × ByteArray × Bool × ByteArray × ByteArray × (List ByteArray) × (List FlagD)) ⊕ (ByteArray × (List ByteArray) × (List FlagD) × ByteArray × ByteArray × Bool × ByteArray × ByteArray × (List ByteArray) × (List FlagD) × ByteArray × (List ByteArray) × (List FlagD)) ⊕ (ByteArray × (List ByteArray) × (List FlagD) × ByteArray × ByteArray × Bool × ByteArray × ByteArray × (List ByteArray) × (List FlagD) × ByteArray × (List ByteArray) × (List FlagD)) ⊕ (ByteArray × (List ByteArray) × (List FlagD) × ByteArray × ByteArray × Bool × ByteArray × ByteArray × (List ByteArray) × (List FlagD) × ByteArray × (List ByteArray) × (List FlagD)) ⊕ (ByteArray × (List ByteArray) × (List FlagD) × ByteArray × ByteArray × Bool × ByteArray × ByteArray × (List ByteArray) × (List FlagD) × ByteArray × (List ByteArray) × (List FlagD)) ⊕ (ByteArray × (List ByteArray) × (List FlagD))) → Option GO1
 | .inl (v_1, v_2, y_1, r_1, r_2) => (
  some (.inl (v_1, v_2))
 )
 | .inr (.inl (v_1, v_2, y_1, r_1, r_2)) => (
  some (.inl (v_1, v_2))
 )
 | .inr (.inr (.inl (v_1, v_2, y_1, r_1, r_2, r_3, r_4, r_5))) => (
  some (.inl (r_4, r_5))
 )
 | .inr (.inr (.inr (.inl (v_1, v_2, y_1, r_1, r_2, r_3, r_4, r_5, r_6, r_7)))) => (
  some (.inr (.inl (r_6, r_7)))
 )
 | .inr (.inr (.inr (.inr (.inl (v_1, v_2, y_1, r_1, r_2, r_3, r_4, r_5, r_8, r_9))))) => (
  some (.inr (.inr (.inl (r_8, r_9))))
 )
 | .inr (.inr (.inr (.inr (.inr (.inl (v_1, v_2, y_1, r_1, r_2, r_3, r_4, r_5, r_12, r_13, r_14)))))) => (
  some (.inr (.inr (.inr (.inl (r_12, r_13, r_14)))))
 )
 | .inr (.inr (.inr (.inr (.inr (.inr (.inl (v_1, v_2, y_1, r_1, r_2, r_3, r_4, r_5, r_15, r_16, r_17))))))) => (
  some (.inr (.inr (.inr (.inr (.inl (r_15, r_16, r_17))))))
 )
 | .inr (.inr (.inr (.inr (.inr (.inr (.inr (.inl (v_1, v_2)))))))) => (
  some (.inl (v_1, v_2))
 )
 | .inr (.inr (.inr (.inr (.inr (.inr (.inr (.inr (.inl (v_3, v_4, v_5, y_1, r_1, r_2))))))))) => (
  some (.inr (.inr (.inr (.inr (.inr ((v_3, v_4, v_5)))))))
 )
 | .inr (.inr (.inr (.inr (.inr (.inr (.inr (.inr (.inr (.inl (v_3, v_4, v_5, y_1, r_1, r_2)))))))))) => (
  some (.inr (.inr (.inr (.inr (.inr ((v_3, v_4, v_5)))))))
 )
 | .inr (.inr (.inr (.inr (.inr (.inr (.inr (.inr (.inr (.inr (.inl (v_3, v_4, v_5, y_1, r_1, r_2, r_3, r_4, r_5, r_6))))))))))) => (
  some (.inr (.inr (.inr (.inr (.inr ((r_4, r_5, r_6)))))))
 )
 | .inr (.inr (.inr (.inr (.inr (.inr (.inr (.inr (.inr (.inr (.inr (.inl (v_3, v_4, v_5, y_1, r_1, r_2, r_3, r_4, r_5, r_6, r_7, r_8, r_9)))))))))))) => (
  some (.inr (.inr (.inr (.inl (r_7, r_8, r_9)))))
 )
 | .inr (.inr (.inr (.inr (.inr (.inr (.inr (.inr (.inr (.inr (.inr (.inr (.inl (v_3, v_4, v_5, y_1, r_1, r_2, r_3, r_4, r_5, r_6, r_10, r_11, r_12))))))))))))) => (
  some (.inr (.inr (.inr (.inr (.inl (r_10, r_11, r_12))))))
 )
 | .inr (.inr (.inr (.inr (.inr (.inr (.inr (.inr (.inr (.inr (.inr (.inr (.inr (.inl (v_3, v_4, v_5, y_1, r_1, r_2, r_3, r_4, r_5, r_6, r_16, r_17, r_18)))))))))))))) => (
  some (.inr (.inr (.inr (.inl (r_16, r_17, r_18)))))
 )
 | .inr (.inr (.inr (.inr (.inr (.inr (.inr (.inr (.inr (.inr (.inr (.inr (.inr (.inr (.inl (v_3, v_4, v_5, y_1, r_1, r_2, r_3, r_4, r_5, r_6, r_19, r_20, r_21))))))))))))))) => (
  some (.inr (.inr (.inr (.inr (.inl (r_19, r_20, r_21))))))
 )
 | .inr (.inr (.inr (.inr (.inr (.inr (.inr (.inr (.inr (.inr (.inr (.inr (.inr (.inr (.inr ((v_3, v_4, v_5)))))))))))))))) => (
  some (.inr (.inr (.inr (.inr (.inr ((v_3, v_4, v_5)))))))
 )
def AOk (s : ByteArray) (st : AS) (n : Nat) (r : Int × List ByteArray × List FlagD) : Prop :=
 ∃ x, iterN optionTakerAll_b1 n st = some x ∧ ∃ y, contA x = some y ∧ absR y s r
theorem AOk.done {s : ByteArray} {st : AS} {n : Nat} {r : Int × List ByteArray × List FlagD} {x} {y : GO1} (h : optionTakerAll_b1 st = some (.inr x)) (h2 : contA x = some y) (h3 : absR y s r) : AOk s st (n + 1) r := ⟨x, iterN_done h, y, h2, h3⟩
theorem AOk.step {s : ByteArray} {st st' : AS} {n : Nat} {r : Int × List ByteArray × List FlagD} (h : optionTakerAll_b1 st = some (.inl st')) (k : AOk s st' n r) : AOk s st (n + 1) r := by
 obtain ⟨x, h1, h2⟩ := k
 exact ⟨x, iterN_step h h1, h2⟩
end Go.Proofs.YtaenhodkpidocaaGreatDoor.Den
namespace Go.Proofs.YtaenhodkpidocaaGreatDoor.Den
open Go Go.RowKit
theorem ltd {i n : Nat} (h : i < n) : decide ((i : Int) < (n : Int)) = true := by simp; exact h
theorem ltf {n : Nat} : decide ((n : Int) < (n : Int)) = false := by simp
theorem drop_at {α : Type} {l : List α} {i : Nat} {x : α} {t : List α} (h : l.drop i = x :: t) : ∃ hi : i < l.length, l[i] = x ∧ l.drop (i + 1) = t := by
 rcases Nat.lt_or_ge i l.length with h1 | h1
 ·rw [List.drop_eq_getElem_cons h1] at h
  injection h with h2 h3
  exact ⟨h1, h2, h3⟩
 ·rw [List.drop_eq_nil_of_le h1] at h; cases h
theorem drop_end {α : Type} {l : List α} {i : Nat} (h : l.drop i = []) (hi : i ≤ l.length) : i = l.length := by
 have := congrArg List.length h
 simp at this; omega
theorem texts_loop (l : List ByteArray) (hl : l.length ≤ 1000000) : ∀ (t : List ByteArray) (i : Nat), l.drop i = t → i ≤ l.length → iterN (ref01Texts_b4 l l) (t.length + 1) (i : Int) = some (.inr (l.length : Int))
 | [], i, h, hi => by
  obtain rfl := drop_end h hi
  refine iterN_done ?_
  simp only [ref01Texts_b4, ltf, cond_false]
 | x :: t, i, h, hi => by
  obtain ⟨hlt, hx, ht⟩ := drop_at h
  refine iterN_step (a' := ((i + 1 : Nat) : Int)) ?_ (texts_loop l hl t (i + 1) ht hlt)
  simp only [ref01Texts_b4, ltd hlt, cond_true, gt_nat hlt, hx, Option.bind_some, seq_self, Bool.not_true, cond_false, w64_succ (i := i) (by omega)]
theorem texts_self (l : List ByteArray) (hl : l.length ≤ 1000000) : ref01Texts l l = some true := by
 unfold ref01Texts
 have e1 : ((l.length : Int) != (l.length : Int)) = false := by simp
 have h := iterN_LF (texts_loop l hl l 0 rfl (Nat.zero_le _)) (by omega)
 rw [show ((0 : Nat) : Int) = (0 : Int) from rfl] at h
 rw [e1, cond_false, h]; rfl
end Go.Proofs.YtaenhodkpidocaaGreatDoor.Den
namespace Go.Proofs.YtaenhodkpidocaaGreatDoor.Den
open Go Go.RowKit
def digB (d : Nat) : ByteArray := bs [UInt8.ofNat (48 + d)]
theorem wrap_u64 {a : Int} (h1 : 0 ≤ a) (h2 : a < 18446744073709551616) : IntKind.u64.wrap a = a := by
 have e1 : (2 : Int) ^ 64 = 18446744073709551616 := by decide
 simp only [IntKind.wrap, IntKind.bits, IntKind.signed, e1, Bool.false_and]
 simp
 omega
theorem dig_ext : ∀ d : Nat, d < 10 → (bs [48, 49, 50, 51, 52, 53, 54, 55, 56, 57]).extract d (d + 1) = digB d
 | 0, _ => rfl
 | 1, _ => rfl
 | 2, _ => rfl
 | 3, _ => rfl
 | 4, _ => rfl
 | 5, _ => rfl
 | 6, _ => rfl
 | 7, _ => rfl
 | 8, _ => rfl
 | 9, _ => rfl
 | n + 10, h => by omega
theorem tmod_nat (n : Nat) : Int.tmod (n : Int) 10 = ((n % 10 : Nat) : Int) := rfl
theorem tdiv_nat (n : Nat) : Int.tdiv (n : Int) 10 = ((n / 10 : Nat) : Int) := rfl
theorem dig_at (n : Nat) : (bs [48, 49, 50, 51, 52, 53, 54, 55, 56, 57]).extract ((Int.tmod (n : Int) (10 : Int))).toNat ((IntKind.wrap .u64 ((Int.tmod (n : Int) (10 : Int)) + (1 : Int)))).toNat = digB (n % 10) := by
 have h : n % 10 < 10 := Nat.mod_lt _ (by decide)
 rw [tmod_nat, wrap_u64 (by omega) (by omega)]
 have e : (((n % 10 : Nat) : Int) + 1).toNat = n % 10 + 1 := by omega
 rw [e, Int.toNat_natCast, dig_ext _ h]
theorem natural_loop : ∀ (n : Nat) (acc : ByteArray), n < 18446744073709551616 → acc.size + Lib.nDigits n ≤ 1000 →
  ∃ (v1 : Nat) (v2 : ByteArray), iterN ref15Natural_b2 (Lib.nDigits n) ((n : Int), acc) = some ((v1 : Int), v2) ∧ digB (v1 % 10) ++ v2 = bs (Lib.decDigits n) ++ acc := by
 intro n
 induction n using Nat.strongRecOn with
 | _ n ih =>
  intro acc hn ha
  have hm : n % 10 < 10 := Nat.mod_lt _ (by decide)
  have hstep : ref15Natural_b2 ((n : Int), acc) = bif (((n / 10 : Nat) : Int) == 0) then some (.inr ((n : Int), acc)) else some (.inl (((n / 10 : Nat) : Int), digB (n % 10) ++ acc)) := by
   unfold ref15Natural_b2
   simp only
   rw [dig_at]
   rw [grd_pos (by
    rw [tmod_nat, wrap_u64 (by omega) (by omega)]
    refine ⟨by omega, by omega, ?_⟩
    show _ ≤ ((10 : Nat) : Int)
    omega)]
   rw [grd_pos (by
    show ¬ _ > (9223372036854775807 : Int)
    have : (digB (n % 10)).size = 1 := rfl
    rw [this]
    omega)]
   rw [tdiv_nat, wrap_u64 (by omega) (by omega)]
  by_cases h : n < 10
  ·refine ⟨n, acc, ?_, ?_⟩
   ·rw [Lib.nDigits_small h]
    refine iterN_done (hstep.trans ?_)
    have : n / 10 = 0 := by omega
    rw [this]; rfl
   ·rw [Lib.decDigits, dif_pos h, Nat.mod_eq_of_lt h]; rfl
  ·rw [Lib.nDigits_big h] at ha ⊢
   have hs : (digB (n % 10) ++ acc).size = acc.size + 1 := by
    rw [size_by, by_append, List.length_append, size_by acc]
    show 1 + _ = _
    omega
   obtain ⟨v1, v2, e1, e2⟩ := ih (n / 10) (by omega) (digB (n % 10) ++ acc) (by omega) (by rw [hs]; omega)
   refine ⟨v1, v2, iterN_step (hstep.trans ?_) e1, ?_⟩
   ·have : (((n / 10 : Nat) : Int) == 0) = false := by simp; omega
    rw [this]; rfl
   ·have e3 : Lib.decDigits n = Lib.decDigits (n / 10) ++ [UInt8.ofNat (48 + n % 10)] := by rw [Lib.decDigits, dif_neg h]
    rw [e2, e3]
    apply by_inj
    simp [by_append, by_bs, digB]
theorem natural_eq (n : Nat) (hn : n < 18446744073709551616) : ref15Natural (n : Int) = some (bs (Lib.decDigits n)) := by
 have hd := Lib.nDigits_le20 n hn
 obtain ⟨v1, v2, h1, h2⟩ := natural_loop n (bs []) hn (by show 0 + _ ≤ 1000; omega)
 have h3 := iterN_LF h1 (by omega)
 unfold ref15Natural
 rw [h3, Option.bind_some]
 simp only
 rw [dig_at, h2]
 congr 1
 apply by_inj
 simp [by_append, by_bs]
theorem digits_eq (n : Int) (h0 : 0 ≤ n) (h1 : n ≤ 9223372036854775807) : ref15Digits n = itoaX n := by
 obtain ⟨m, rfl⟩ := Int.eq_ofNat_of_zero_le h0
 unfold ref15Digits itoaX
 rw [if_pos ⟨by omega, h1⟩]
 have e : decide ((m : Int) < 0) = false := by simp
 rw [e, cond_false, wrap_u64 (by omega) (by omega), natural_eq m (by omega), Option.bind_some, Lib.itoa_nonneg]
theorem fail_eq (j : JobD) (path : ByteArray) (e : Int) (h0 : 0 ≤ e) (h1 : e ≤ 9223372036854775807) : ref15Fail j path e = jobFail j path e := by
 unfold ref15Fail jobFail
 rw [digits_eq e h0 h1]
theorem fail_some (j : JobD) (path : ByteArray) (e : Int) (h0 : 0 ≤ e) (h1 : e ≤ 9223372036854775807) (hp : path.size ≤ 1000000) : ∃ o : ByteArray, jobFail j path e = some { j with done := true, exit := 1, out := o, e := e } := by
 unfold jobFail
 have hm : (IntKind.i64.max : Int) = 9223372036854775807 := by decide
 have he : (bs [58, 32, 101, 114, 114, 111, 114, 32]).size = 8 := rfl
 have hl := Lib.itoa_length_le e (by omega) h1
 rw [grd_pos (by rw [hm, he]; omega)]
 unfold itoaX
 rw [if_pos ⟨by omega, h1⟩, Option.bind_some, grd_pos (by
  rw [hm, size_by, by_append, List.length_append, ← size_by, ← size_by, he]
  have : (⟨(Lib.itoa e).toArray⟩ : ByteArray).size = (Lib.itoa e).length := by rw [size_by]; rfl
  rw [this]; omega)]
 exact ⟨_, rfl⟩
theorem room48 {n : Nat} (h : n ≤ 1000001) : room n 48 := by unfold room; omega
theorem work_loop {a0 a1 a2 a3 a4 a5 a6 a7 a8 : Int} {t0 t1 t2 : ByteArray} {ns : List ByteArray} (l : List FrameD) {dr : List Int} {dn : Bool} {ex : Int} {out : ByteArray} {er : Int}
  {b0 b1 b2 b3 b4 b5 b6 b7 b8 : Int} {u0 u1 u2 : ByteArray} {ms : List ByteArray} {ds : List Int} {dm : Bool} {ey : Int} {ou : ByteArray} {es : Int} (hl : l.length ≤ 1000000) :
  ∀ (k i : Nat), i + k = l.length → iterN (law21Work_b3 a0 a1 a2 a3 a4 a5 a6 a7 a8 t0 t1 t2 ns l dr dn ex out er b0 b1 b2 b3 b4 b5 b6 b7 b8 u0 u1 u2 ms ds dm ey ou es) (k + 1) ((i : Int), l.take i) =
   some (match l with | [] => .inl (l.length : Int) | z :: y => .inr ((l.length : Int), z, y))
 | 0, i, hk => by
  obtain rfl : i = l.length := by omega
  rw [List.take_length]
  refine iterN_done ?_
  cases l with
  | nil => simp only [law21Work_b3, ltf, cond_false]
  | cons z y => simp only [law21Work_b3, ltf, cond_false]
 | k + 1, i, hk => by
  have hlt : i < l.length := by omega
  have ih := work_loop (a0 := a0) (a1 := a1) (a2 := a2) (a3 := a3) (a4 := a4) (a5 := a5) (a6 := a6) (a7 := a7) (a8 := a8) (t0 := t0) (t1 := t1) (t2 := t2) (ns := ns) l (dr := dr) (dn := dn) (ex := ex) (out := out) (er := er) (b0 := b0) (b1 := b1) (b2 := b2) (b3 := b3) (b4 := b4) (b5 := b5) (b6 := b6) (b7 := b7) (b8 := b8) (u0 := u0) (u1 := u1) (u2 := u2) (ms := ms) (ds := ds) (dm := dm) (ey := ey) (ou := ou) (es := es) hl k (i + 1) (by omega)
  refine iterN_step (a' := (((i + 1 : Nat) : Int), l.take (i + 1))) ?_ ih
  cases h : l.take i with
  | nil =>
   have hi := take_nil hlt h
   subst hi
   simp only [law21Work_b3, ltd hlt, cond_true, gt_nat hlt, Option.bind_some, w64_succ (i := 0) (by omega)]
   congr 3
   cases l with
   | nil => simp at hlt
   | cons z y => rfl
  | cons z y =>
   have hz : (z :: y).length ≤ 1000000 := by rw [← h, List.length_take]; omega
   simp only [law21Work_b3, ltd hlt, cond_true, gt_nat hlt, Option.bind_some, grd_pos (room48 (n := (z :: y).length + 1) (by omega)), w64_succ (i := i) (by omega)]
   rw [take_cons hlt h]
theorem work_eq (j : JobD) (hl : j.stack.length ≤ 1000000) : law21Work j = some j := by
 unfold law21Work
 have h := iterN_LF (work_loop (a0 := j.kind) (a1 := j.p) (a2 := j.phase) (a3 := j.fd) (a4 := j.nF) (a5 := j.modeF) (a6 := j.tries) (a7 := j.atF) (a8 := j.flags) (t0 := j.path) (t1 := j.path2) (t2 := j.text) (ns := j.names) j.stack (dr := j.draws) (dn := j.done) (ex := j.exit) (out := j.out) (er := j.e) (b0 := j.kind) (b1 := j.p) (b2 := j.phase) (b3 := j.fd) (b4 := j.nF) (b5 := j.modeF) (b6 := j.tries) (b7 := j.atF) (b8 := j.flags) (u0 := j.path) (u1 := j.path2) (u2 := j.text) (ms := j.names) (ds := j.draws) (dm := j.done) (ey := j.exit) (ou := j.out) (es := j.e) hl j.stack.length 0 (by omega)) (by omega)
 rw [show ((0 : Nat) : Int) = (0 : Int) from rfl, List.take_zero] at h
 rw [h, Option.bind_some]
 obtain ⟨q0, q1, q2, q3, q4, q5, q6, q7, q8, q9, q10, q11, q12, st, q14, q15, q16, q17, q18⟩ := j
 cases st <;> rfl
theorem frames_loop (l : List FrameD) (hl : l.length ≤ 1000000) (hf : ∀ f ∈ l, f.names.length ≤ 1000000) : ∀ (t : List FrameD) (i : Nat), l.drop i = t → i ≤ l.length → iterN (ref15Frames_b4 l l) (t.length + 1) (i : Int) = some (.inr (.inr (.inr (l.length : Int))))
 | [], i, h, hi => by
  obtain rfl := drop_end h hi
  refine iterN_done ?_
  simp only [ref15Frames_b4, ltf, cond_false]
 | x :: t, i, h, hi => by
  obtain ⟨hlt, hx, ht⟩ := drop_at h
  refine iterN_step (a' := ((i + 1 : Nat) : Int)) ?_ (frames_loop l hl hf t (i + 1) ht hlt)
  have hn := texts_self x.names (hf x (hx ▸ List.getElem_mem hlt))
  simp only [ref15Frames_b4, ltd hlt, cond_true, gt_nat hlt, hx, Option.bind_some, bne_self_eq_false, seq_self, Bool.not_true, cond_false, hn, w64_succ (i := i) (by omega)]
theorem frames_self (l : List FrameD) (hl : l.length ≤ 1000000) (hf : ∀ f ∈ l, f.names.length ≤ 1000000) : ref15Frames l l = some true := by
 unfold ref15Frames
 have e1 : ((l.length : Int) != (l.length : Int)) = false := by simp
 have h := iterN_LF (frames_loop l hl hf l 0 rfl (Nat.zero_le _)) (by omega)
 rw [show ((0 : Nat) : Int) = (0 : Int) from rfl] at h
 rw [e1, cond_false, h]; rfl
theorem ints_loop (l : List Int) (hl : l.length ≤ 1000000) : ∀ (t : List Int) (i : Nat), l.drop i = t → i ≤ l.length → iterN (ref15Ints_b4 l l) (t.length + 1) (i : Int) = some (.inr (l.length : Int))
 | [], i, h, hi => by
  obtain rfl := drop_end h hi
  refine iterN_done ?_
  simp only [ref15Ints_b4, ltf, cond_false]
 | x :: t, i, h, hi => by
  obtain ⟨hlt, hx, ht⟩ := drop_at h
  refine iterN_step (a' := ((i + 1 : Nat) : Int)) ?_ (ints_loop l hl t (i + 1) ht hlt)
  simp only [ref15Ints_b4, ltd hlt, cond_true, gt_nat hlt, hx, Option.bind_some, bne_self_eq_false, cond_false, w64_succ (i := i) (by omega)]
theorem ints_self (l : List Int) (hl : l.length ≤ 1000000) : ref15Ints l l = some true := by
 unfold ref15Ints
 have e1 : ((l.length : Int) != (l.length : Int)) = false := by simp
 have h := iterN_LF (ints_loop l hl l 0 rfl (Nat.zero_le _)) (by omega)
 rw [show ((0 : Nat) : Int) = (0 : Int) from rfl] at h
 rw [e1, cond_false, h]; rfl
structure Tame (j : JobD) : Prop where
 names : j.names.length ≤ 1000000
 stack : j.stack.length ≤ 1000000
 inner : ∀ f ∈ j.stack, f.names.length ≤ 1000000
 draws : j.draws.length ≤ 1000000
theorem job_self (j : JobD) (h : Tame j) : ref15Same j j = some true := by
 unfold ref15Same
 rw [texts_self _ h.names, frames_self _ h.stack h.inner, ints_self _ h.draws]
 simp only [Option.bind_some, Bool.not_true, cond_false, beq_self_eq_true, cond_true, seq_self]
end Go.Proofs.YtaenhodkpidocaaGreatDoor.Den
namespace Go.Proofs.YtaenhodkpidocaaGreatDoor.Den
open Go Go.RowKit
def tailS (l : List UInt8) : List UInt8 := (l.reverse.takeWhile (· != 47)).reverse
def baseB (l : List UInt8) : Option (List UInt8) := if Lib.trimRightB l 47 = [] then none else some (tailS (Lib.trimRightB l 47))
theorem tailS_of {l a t : List UInt8} (h : l = a ++ t) (ht : ∀ x ∈ t, x ≠ 47) (ha : a = [] ∨ ∃ a', a = a' ++ [47]) : tailS l = t := by
 unfold tailS
 rw [h, List.reverse_append, List.takeWhile_append_of_pos (by intro x hx; simpa using ht x (by simpa using hx))]
 have : a.reverse.takeWhile (· != 47) = [] := by
  rcases ha with rfl | ⟨a', rfl⟩ <;> simp
 rw [this]; simp
theorem tailS_snoc {l : List UInt8} {c : UInt8} (h : c ≠ 47) : tailS (l ++ [c]) = tailS l ++ [c] := by
 unfold tailS
 rw [List.reverse_append]
 simp [List.takeWhile_cons, h]
theorem tailS_slash (l : List UInt8) : tailS (l ++ [47]) = [] := by
 unfold tailS
 rw [List.reverse_append]
 simp [List.takeWhile_cons]
theorem trim_snoc {l : List UInt8} {c : UInt8} (h : c ≠ 47) : Lib.trimRightB (l ++ [c]) 47 = l ++ [c] := by
 unfold Lib.trimRightB
 rw [List.reverse_append]
 simp [List.dropWhile_cons, h]
theorem trim_slash (l : List UInt8) : Lib.trimRightB (l ++ [47]) 47 = Lib.trimRightB l 47 := by
 unfold Lib.trimRightB
 rw [List.reverse_append]
 simp [List.dropWhile_cons]
theorem baseB_snoc {l : List UInt8} {c : UInt8} (h : c ≠ 47) : baseB (l ++ [c]) = some (tailS l ++ [c]) := by
 unfold baseB
 rw [trim_snoc h, if_neg (by simp), tailS_snoc h]
theorem baseB_slash (l : List UInt8) : baseB (l ++ [47]) = baseB l := by unfold baseB; rw [trim_slash]
theorem trim_le (l : List UInt8) : (Lib.trimRightB l 47).length ≤ l.length := by
 unfold Lib.trimRightB
 rw [List.length_reverse]
 exact Nat.le_trans (List.dropWhile_sublist _).length_le (by simp)
theorem last_eq (l : List UInt8) (hl : l.length ≤ 1000000) : ∃ k : Nat, lastIxX (bs l) (bs [47]) = some ((k : Int) - 1) ∧ k ≤ l.length ∧ l.drop k = tailS l := by
 have hsz : (bs l).size = l.length := rfl
 have e0 : lastIxX (bs l) (bs [47]) = some (Lib.lastIndexByte (bs l) 47) := by
  unfold lastIxX
  show (if (bs l).size < 4611686018427387904 then _ else _) = _
  rw [if_pos (by rw [hsz]; omega)]
  rfl
 have hat : ∀ (j : Nat) (hj : j < l.length), (bs l).data[j]! = l[j] := by
  intro j hj
  show (Array.mk l)[j]! = _
  simp [hj]
 rw [e0]
 rcases Lib.lastIndexByte_spec (bs l) 47 with ⟨e, hn⟩ | ⟨i, hi, e, hc, hn⟩
 ·refine ⟨0, by rw [e]; rfl, Nat.zero_le _, ?_⟩
  rw [List.drop_zero]
  refine (tailS_of (a := []) rfl (fun x hx he => ?_) (.inl rfl)).symm
  obtain ⟨j, hj, rfl⟩ := List.getElem_of_mem hx
  have := hn j hj
  rw [hat j hj, he] at this
  exact this rfl
 ·have hi' : i < l.length := hi
  refine ⟨i + 1, by rw [e]; congr 1; omega, hi', ?_⟩
  have e47 : l[i] = 47 := by
   rw [hat i hi'] at hc
   exact UInt8.toNat_inj.1 (by have : (l[i].toNat : Int) = 47 := hc; show l[i].toNat = 47; omega)
  refine (tailS_of (a := l.take (i + 1)) (List.take_append_drop _ _).symm (fun x hx he => ?_) (.inr ⟨l.take i, ?_⟩)).symm
  ·obtain ⟨j, hj, rfl⟩ := List.getElem_of_mem hx
   rw [List.length_drop] at hj
   rw [List.getElem_drop] at he
   have := hn (i + 1 + j) (by omega) (by show i + 1 + j < l.length; omega)
   rw [hat (i + 1 + j) (by omega), he] at this
   exact this rfl
  ·rw [List.take_succ_eq_append_getElem hi', e47]
def baseX (p : List UInt8) : List UInt8 := match baseB p with
 | some t => t
 | none => if p = [] then [] else [47]
theorem seq_nilB (l : List UInt8) : seq (bs l) (bs []) = decide (l = []) := by rw [seq_nil]; cases l <;> simp
theorem routeBase_eq (p : List UInt8) (hp : p.length ≤ 1000000) : routeBase (bs p) = some (bs (baseX p)) := by
 have e0 : trimRX (bs p) (bs [47]) = some (bs (Lib.trimRightB p 47)) := by
  unfold trimRX
  show (if (47 : UInt8).toNat < 128 ∧ (bs p).size ≤ 9223372036854775807 then _ else _) = _
  rw [if_pos ⟨by decide, by show p.length ≤ _; omega⟩]
 have hr := trim_le p
 obtain ⟨k, h1, h2, h3⟩ := last_eq (Lib.trimRightB p 47) (by omega)
 have hsz : (bs (Lib.trimRightB p 47)).size = (Lib.trimRightB p 47).length := rfl
 have hend : (lastIxX (bs (Lib.trimRightB p 47)) (bs [47])).bind (fun r_2 =>
   grd (0 ≤ (w64 (r_2 + (1 : Int))) ∧ (w64 (r_2 + (1 : Int))) ≤ ((bs (Lib.trimRightB p 47)).size : Int) ∧ ((bs (Lib.trimRightB p 47)).size : Int) ≤ ((bs (Lib.trimRightB p 47)).size : Int)) <|
   some ((bs (Lib.trimRightB p 47)).extract ((w64 (r_2 + (1 : Int)))).toNat (bs (Lib.trimRightB p 47)).size)) = some (bs (tailS (Lib.trimRightB p 47))) := by
  rw [h1, Option.bind_some]
  have e : w64 ((k : Int) - 1 + 1) = (k : Int) := by rw [w64_eq (by omega) (by omega)]; omega
  simp only [e]
  rw [grd_pos ⟨by omega, by rw [hsz]; omega, by omega⟩]
  congr 1
  apply by_inj
  rw [Int.toNat_natCast, by_drop, by_bs, by_bs, h3]
 unfold routeBase
 rw [e0, Option.bind_some, seq_nilB, seq_nilB, hend]
 unfold baseX baseB
 by_cases hn : Lib.trimRightB p 47 = []
 ·rw [if_pos hn, decide_eq_true hn, cond_true]
  by_cases hq : p = []
  ·subst hq; rfl
  ·rw [decide_eq_false hq, Bool.not_false, cond_true]
   simp [hq]
 ·rw [if_neg hn, decide_eq_false hn, cond_false]
structure SpI (l : List UInt8) (i : Nat) (cur : List UInt8) (out : List ByteArray) : Prop where
 last : (if cur = [] then out.getLast? else some (bs cur)) = (baseB (l.take i)).map bs
 tl : i < l.length → cur = tailS (l.take i)
 fin : i = l.length → cur = []
 len : out.length ≤ i
 clen : cur.length ≤ i
theorem ext_one {l : List UInt8} {i : Nat} (h : i < l.length) : (bs l).extract i (i + 1) = bs [l[i]] := by
 apply by_inj
 rw [by_extract, by_bs, by_bs, List.take_succ_eq_append_getElem h, List.drop_append_of_le_length (by simp; omega)]
 simp [List.drop_take_self]
theorem split_step {l : List UInt8} (hl : l.length ≤ 1000000) {i : Nat} (hi : i < l.length) {cur : List UInt8} {out : List ByteArray} (I : SpI l i cur out) :
  ∃ cur' out', ref01Split_b4 (bs l) (bs cur, (i : Int), out) = some (.inl (bs cur', ((i + 1 : Nat) : Int), out')) ∧ SpI l (i + 1) cur' out' := by
 have hsz : (bs l).size = l.length := rfl
 have hg : gtS (bs l) (i : Int) = some l[i] := by rw [gtS_by, by_bs, List.getElem?_eq_getElem hi]
 have hm : (IntKind.i64.max : Int) = 9223372036854775807 := by decide
 have hlt : decide ((i : Int) < ((bs l).size : Int)) = true := by rw [hsz]; exact ltd hi
 have hw : w64 ((i : Int) + 1) = ((i + 1 : Nat) : Int) := w64_succ (by omega)
 have ht : l.take (i + 1) = l.take i ++ [l[i]] := List.take_succ_eq_append_getElem hi
 have hx : (bs l).extract ((i : Int)).toNat ((((i + 1 : Nat) : Int))).toNat = bs [l[i]] := by rw [Int.toNat_natCast, Int.toNat_natCast, ext_one hi]
 by_cases hc : l[i] = 47
 ·have e1 : ((l[i].toNat : Int) != 47) = false := by rw [hc]; rfl
  have e2 : ((l[i].toNat : Int) == 47) = true := by rw [hc]; rfl
  rw [hc] at ht
  by_cases hq : cur = []
  ·subst hq
   refine ⟨[], out, ?_, ?_, fun _ => ?_, fun _ => rfl, by have := I.len; omega, by simp⟩
   ·simp only [ref01Split_b4, hlt, cond_true, hg, Option.bind_some, e1, cond_false, seq_nilB, hw]
    rfl
   ·rw [ht, baseB_slash]; exact I.last
   ·rw [ht, tailS_slash]
  ·refine ⟨[], out ++ [bs cur], ?_, ?_, fun _ => ?_, fun _ => rfl, by have := I.len; simp; omega, by simp⟩
   ·have e3 : (!decide (cur = [])) = true := by simp [hq]
    have := I.len
    simp only [ref01Split_b4, hlt, cond_true, hg, Option.bind_some, e1, e2, cond_false, seq_nilB, hw, e3, grd_pos (room16 (n := out.length + 1) (by omega))]
   ·rw [ht, baseB_slash, if_pos rfl, List.getLast?_concat, ← I.last, if_neg hq]
   ·rw [ht, tailS_slash]
 ·have e1 : ((l[i].toNat : Int) != 47) = true := by
   simp only [bne_iff_ne, ne_eq]
   intro h
   exact hc (UInt8.toNat_inj.1 (by show l[i].toNat = 47; omega))
  have e2 : ((l[i].toNat : Int) == 47) = false := by
   simp only [beq_eq_false_iff_ne, ne_eq]
   intro h
   exact hc (UInt8.toNat_inj.1 (by show l[i].toNat = 47; omega))
  have e4 : bs cur ++ bs [l[i]] = bs (cur ++ [l[i]]) := by apply by_inj; rw [by_append, by_bs, by_bs, by_bs]
  have e5 : (!decide (cur ++ [l[i]] = [])) = true := by simp
  have hcl := I.clen
  have hol := I.len
  have hcur := I.tl hi
  have g1 : 0 ≤ (i : Int) ∧ (i : Int) ≤ ((i + 1 : Nat) : Int) ∧ ((i + 1 : Nat) : Int) ≤ ((bs l).size : Int) := ⟨by omega, by omega, by rw [hsz]; omega⟩
  have g2 : ¬ ((((bs cur).size + (bs [l[i]]).size : Nat) : Int) > IntKind.i64.max) := by
   rw [hm]; show ¬ (((cur.length + 1 : Nat) : Int) > _); omega
  have hb : baseB (l.take (i + 1)) = some (cur ++ [l[i]]) := by rw [ht, baseB_snoc hc, hcur]
  have hw2 : w64 (((bs l).size : Int) - 1) = (l.length : Int) - 1 := by rw [hsz]; exact w64_eq (by omega) (by omega)
  by_cases hend : i + 1 = l.length
  ·refine ⟨[], out ++ [bs (cur ++ [l[i]])], ?_, ?_, fun h => by omega, fun _ => rfl, by simp; omega, by simp⟩
   ·have e6 : ((i : Int) == (l.length : Int) - 1) = true := by simp; omega
    simp only [ref01Split_b4, hlt, cond_true, hg, Option.bind_some, e1, e2, cond_false, hw, hx, e4, grd_pos g1, grd_pos g2, seq_nilB, e5, hw2, e6, grd_pos (room16 (n := out.length + 1) (by omega))]
   ·rw [hb, if_pos rfl, List.getLast?_concat]; rfl
  ·refine ⟨cur ++ [l[i]], out, ?_, ?_, fun _ => ?_, fun h => by omega, by omega, by simp; omega⟩
   ·have e6 : ((i : Int) == (l.length : Int) - 1) = false := by simp; omega
    simp only [ref01Split_b4, hlt, cond_true, hg, Option.bind_some, e1, e2, cond_false, hw, hx, e4, grd_pos g1, grd_pos g2, seq_nilB, e5, hw2, e6]
   ·rw [hb, if_neg (by simp)]; rfl
   ·rw [ht, tailS_snoc hc, hcur]
theorem split_loop {l : List UInt8} (hl : l.length ≤ 1000000) : ∀ (k i : Nat) (cur : List UInt8) (out : List ByteArray), i + k = l.length → SpI l i cur out →
  ∃ out', iterN (ref01Split_b4 (bs l)) (k + 1) (bs cur, (i : Int), out) = some (bs [], (l.length : Int), out') ∧ out'.getLast? = (baseB l).map bs ∧ out'.length ≤ l.length
 | 0, i, cur, out, hk, I => by
  obtain rfl : i = l.length := by omega
  have hc := I.fin rfl
  subst hc
  refine ⟨out, iterN_done ?_, ?_, I.len⟩
  ·have : decide ((l.length : Int) < ((bs l).size : Int)) = false := ltf
   simp only [ref01Split_b4, this, cond_false]
  ·have := I.last
   rwa [if_pos rfl, List.take_length] at this
 | k + 1, i, cur, out, hk, I => by
  obtain ⟨cur', out', h1, h2⟩ := split_step hl (by omega) I
  obtain ⟨o, h3, h4⟩ := split_loop hl k (i + 1) cur' out' (by omega) h2
  exact ⟨o, iterN_step h1 h3, h4⟩
theorem ref01Base_eq (p : List UInt8) (hp : p.length ≤ 1000000) : ref01Base (bs p) = some (bs (baseX p)) := by
 obtain ⟨o, h1, h2, h3⟩ := split_loop hp p.length 0 [] [] (by omega) ⟨rfl, fun _ => rfl, fun _ => rfl, Nat.zero_le _, Nat.zero_le _⟩
 have h4 := iterN_LF h1 (by omega)
 rw [show ((0 : Nat) : Int) = (0 : Int) from rfl] at h4
 have hsp : ∃ x y, ref01Split (bs p) = some (o, x, y) := by
  unfold ref01Split
  rw [h4, Option.bind_some]
  simp only [seq_nilB]
  by_cases hq : p = []
  ·subst hq; exact ⟨_, _, rfl⟩
  ·have e : decide (p = []) = false := by simp [hq]
   have hpos : 0 < p.length := List.length_pos_iff.2 hq
   have g0 : gtS (bs p) 0 = some (p[0]'hpos) := by
    rw [show (0 : Int) = ((0 : Nat) : Int) from rfl, gtS_by, by_bs, List.getElem?_eq_getElem hpos]
   have hw2 : w64 (((bs p).size : Int) - 1) = ((p.length - 1 : Nat) : Int) := by
    show w64 ((p.length : Int) - 1) = _
    rw [w64_eq (by omega) (by omega)]; omega
   have g1 : gtS (bs p) ((p.length - 1 : Nat) : Int) = some (p[p.length - 1]'(by omega)) := by rw [gtS_by, by_bs, List.getElem?_eq_getElem]
   rw [e, Bool.not_false, cond_true, g0, Option.bind_some, cond_true, hw2, g1, Option.bind_some]
   exact ⟨_, _, rfl⟩
 obtain ⟨x, y, hsp⟩ := hsp
 unfold ref01Base
 rw [hsp, Option.bind_some]
 simp only [seq_nilB]
 unfold baseX
 by_cases hq : p = []
 ·subst hq; rfl
 ·rw [decide_eq_false hq, cond_false]
  cases hb : baseB p with
  | none =>
   rw [hb] at h2
   have : o = [] := List.getLast?_eq_none_iff.1 h2
   subst this
   simp [hq]
  | some t =>
   rw [hb] at h2
   have hne : o ≠ [] := by rintro rfl; cases h2
   have hpos : 0 < o.length := List.length_pos_iff.2 hne
   have e1 : ((o.length : Int) == 0) = false := by simp; omega
   have hw2 : w64 ((o.length : Int) - 1) = ((o.length - 1 : Nat) : Int) := by rw [w64_eq (by omega) (by omega)]; omega
   rw [e1, cond_false, hw2, gt_nat (i := o.length - 1) (by omega), Option.bind_some]
   rw [List.getLast?_eq_getElem?, List.getElem?_eq_getElem (by omega)] at h2
   exact h2
theorem pre_eq (l : List UInt8) : stringsHasPrefix (bs l) (bs [47]) = some (match l with | [] => false | c :: _ => c == 47) := by
 unfold stringsHasPrefix stringsliteHasPrefix
 cases l with
 | nil => rfl
 | cons c g =>
  have h0 : (bs (c :: g)).size = g.length + 1 := rfl
  have h1 : (bs [47]).size = 1 := rfl
  have e1 : decide (((bs (c :: g)).size : Int) ≥ ((bs [47]).size : Int)) = true := by rw [h0, h1]; simp <;> omega
  have e2 : seq ((bs (c :: g)).extract 0 (((bs [47]).size : Int)).toNat) (bs [47]) = (c == 47) := by
   rw [seq_by]
   show (by_ ((bs (c :: g)).extract 0 1) == _) = _
   rw [by_take, by_bs, by_bs]
   simp
  rw [e1, cond_true, grd_pos (by rw [h0, h1]; refine ⟨?_, ?_, ?_⟩ <;> omega), e2]
  rfl
theorem suf_eq (l : List UInt8) (z : UInt8) (hl : l.length ≤ 1000000) : stringsTrimSuffix (bs (l ++ [z])) (bs [47]) = some (if z = 47 then bs l else bs (l ++ [z])) := by
 have h0 : (bs (l ++ [z])).size = l.length + 1 := by rw [size_by, by_bs]; simp
 have h1 : (bs [47]).size = 1 := rfl
 have hw : w64 (((bs (l ++ [z])).size : Int) - ((bs [47]).size : Int)) = (l.length : Int) := by rw [h0, h1, w64_eq (by omega) (by omega)]; omega
 have e1 : decide (((bs (l ++ [z])).size : Int) ≥ ((bs [47]).size : Int)) = true := by rw [h0, h1]; simp <;> omega
 have e2 : seq ((bs (l ++ [z])).extract ((l.length : Int)).toNat (bs (l ++ [z])).size) (bs [47]) = (z == 47) := by
  rw [seq_by, Int.toNat_natCast, by_drop, by_bs, by_bs]
  simp
 have hs : stringsliteHasSuffix (bs (l ++ [z])) (bs [47]) = some (z == 47) := by
  unfold stringsliteHasSuffix
  rw [e1, cond_true, hw, grd_pos (by rw [h0]; refine ⟨?_, ?_, ?_⟩ <;> omega), e2]
 unfold stringsTrimSuffix stringsliteTrimSuffix
 rw [hs, Option.bind_some, hw]
 by_cases hz : z = 47
 ·rw [if_pos hz, hz, beq_self_eq_true, cond_true]
  have h0' : (bs (l ++ [47])).size = l.length + 1 := by rw [size_by, by_bs]; simp
  rw [grd_pos (by rw [h0']; refine ⟨?_, ?_, ?_⟩ <;> omega), Option.bind_some]
  congr 1
  apply by_inj
  rw [Int.toNat_natCast, by_take, by_bs, by_bs]
  simp
 ·have : (z == 47) = false := by simp [hz]
  rw [if_neg hz, this, cond_false]; rfl
theorem snoc_of {l : List UInt8} (h : l ≠ []) : ∃ a z, l = a ++ [z] := ⟨l.dropLast, l.getLast h, (List.dropLast_concat_getLast h).symm⟩
theorem join_both (a b : List UInt8) (ha : a.length ≤ 1000000) (hb : b.length ≤ 1000002) : ∃ x, routeJoin (bs a) (bs b) = some x ∧ ref01Join (bs a) (bs b) = some x := by
 have hm : (IntKind.i64.max : Int) = 9223372036854775807 := by decide
 unfold routeJoin ref01Join
 simp only [seq_nilB]
 by_cases hq : a = []
 ·rw [decide_eq_true hq]; exact ⟨_, rfl, rfl⟩
 rw [decide_eq_false hq]
 simp only [cond_false]
 cases b with
 | nil => exact ⟨_, rfl, rfl⟩
 | cons c b' =>
  have e0 : decide (c :: b' = []) = false := by simp
  have g0 : gtS (bs (c :: b')) 0 = some c := by
   rw [show (0 : Int) = ((0 : Nat) : Int) from rfl, gtS_by, by_bs]; rfl
  rw [pre_eq, e0]
  simp only [Option.bind_some, Bool.not_false, cond_true, cond_false, g0]
  by_cases hc : c = 47
  ·subst hc; exact ⟨_, rfl, rfl⟩
  ·have e1 : (c == 47) = false := by simp [hc]
   have e2 : ((c.toNat : Int) == 47) = false := by
    simp only [beq_eq_false_iff_ne, ne_eq]
    intro h
    exact hc (UInt8.toNat_inj.1 (by show c.toNat = 47; omega))
   rw [e1, e2]
   simp only [cond_false]
   obtain ⟨l, z, rfl⟩ := snoc_of hq
   have hl : l.length ≤ 1000000 := by simp at ha; omega
   have hsz : (bs (l ++ [z])).size = l.length + 1 := by rw [size_by, by_bs]; simp
   have hszb : (bs (c :: b')).size = b'.length + 1 := rfl
   have hsz1 : (bs [47]).size = 1 := rfl
   have hbl : b'.length ≤ 1000001 := by simp at hb; omega
   have hw : w64 (((bs (l ++ [z])).size : Int) - 1) = (l.length : Int) := by rw [hsz, w64_eq (by omega) (by omega)]; omega
   have gz : gtS (bs (l ++ [z])) (l.length : Int) = some z := by rw [gtS_by, by_bs]; simp
   have hcat : ∀ (x y : ByteArray), (x ++ y).size = x.size + y.size := fun x y => by rw [size_by, by_append, List.length_append, ← size_by, ← size_by]
   rw [suf_eq l z hl, hw, gz]
   simp only [Option.bind_some]
   by_cases hz : z = 47
   ·have e3 : ((z.toNat : Int) == 47) = true := by rw [hz]; rfl
    have hszl : (bs l).size = l.length := rfl
    rw [if_pos hz, e3, cond_true, grd_pos (by rw [hm, hszl, hsz1]; omega), grd_pos (by rw [hm, hcat, hszl, hsz1, hszb]; omega), grd_pos (by rw [hm, hsz, hszb]; omega)]
    refine ⟨_, rfl, ?_⟩
    congr 2
    apply by_inj
    rw [by_append, by_bs, by_bs, by_bs, hz]
   ·have e3 : ((z.toNat : Int) == 47) = false := by
     simp only [beq_eq_false_iff_ne, ne_eq]
     intro h
     exact hz (UInt8.toNat_inj.1 (by show z.toNat = 47; omega))
    rw [if_neg hz, e3, cond_false, grd_pos (by rw [hm, hsz, hsz1]; omega), grd_pos (by rw [hm, hcat, hsz, hsz1, hszb]; omega)]
    exact ⟨_, rfl, rfl⟩
end Go.Proofs.YtaenhodkpidocaaGreatDoor.Den
namespace Go.Proofs.YtaenhodkpidocaaGreatDoor.Den
open Go Go.RowKit
theorem plain_loop {a0 a1 a2 a3 a4 a5 a6 a7 a8 : Int} {t0 t1 t2 : ByteArray} {ns : List ByteArray} (l : List FrameD) {dr : List Int} {dn : Bool} {ex : Int} {out : ByteArray} {er : Int} :
  ∀ (k i : Nat), i + k = 30 → i ≤ l.length → (∀ (j : Nat) (a : FrameD), j < i → l[j]? = some a → a.names.length ≤ 60) →
  ∃ x, iterN (law21Plain_b2 a0 a1 a2 a3 a4 a5 a6 a7 a8 t0 t1 t2 ns l dr dn ex out er) (k + 1) (i : Int) = some x ∧ ((∃ v, x = .inl v) ∨ ((∃ v, x = .inr (.inl v)) ∧ 30 ≤ l.length) ∨ ((∃ v, x = .inr (.inr v)) ∧ ∀ a ∈ l, a.names.length ≤ 60))
 | k, i, hk, hi, hall => by
  rcases Nat.lt_or_ge i l.length with hlt | hge
  case inr =>
   obtain rfl : i = l.length := by omega
   refine ⟨.inr (.inr (l.length : Int)), iterN_done ?_, .inr (.inr ⟨⟨_, rfl⟩, fun a ha => ?_⟩)⟩
   ·simp only [law21Plain_b2, ltf, cond_false]
   ·obtain ⟨j, hj, rfl⟩ := List.getElem_of_mem ha
    exact hall j _ hj (List.getElem?_eq_getElem hj)
  cases k with
  | zero =>
   obtain rfl : i = 30 := by omega
   refine ⟨.inr (.inl ((30 : Nat) : Int)), iterN_done ?_, .inr (.inl ⟨⟨_, rfl⟩, by omega⟩)⟩
   have e : decide (((30 : Nat) : Int) < (30 : Int)) = false := by decide
   simp only [law21Plain_b2, ltd hlt, cond_true, e, cond_false]
  | succ k =>
   have e : decide ((i : Int) < (30 : Int)) = true := by simp; omega
   by_cases hs : (l[i]).names.length > 60
   ·refine ⟨.inl ((i : Int), l[i]), iterN_done ?_, .inl ⟨_, rfl⟩⟩
    have e2 : decide (((l[i]).names.length : Int) > (60 : Int)) = true := by simp; omega
    simp only [law21Plain_b2, ltd hlt, cond_true, e, gt_nat hlt, Option.bind_some, e2]
   ·have e2 : decide (((l[i]).names.length : Int) > (60 : Int)) = false := by simp; omega
    obtain ⟨x, h1, h2⟩ := plain_loop (a0 := a0) (a1 := a1) (a2 := a2) (a3 := a3) (a4 := a4) (a5 := a5) (a6 := a6) (a7 := a7) (a8 := a8) (t0 := t0) (t1 := t1) (t2 := t2) (ns := ns) l (dr := dr) (dn := dn) (ex := ex) (out := out) (er := er) k (i + 1) (by omega) hlt (fun j a hj ha => by
     rcases Nat.lt_or_ge j i with h | h
     ·exact hall j a h ha
     ·obtain rfl : j = i := by omega
      rw [List.getElem?_eq_getElem hlt] at ha
      cases ha; omega)
    refine ⟨x, iterN_step (a' := ((i + 1 : Nat) : Int)) ?_ h1, h2⟩
    simp only [law21Plain_b2, ltd hlt, cond_true, e, gt_nat hlt, Option.bind_some, e2, cond_false, w64_succ (i := i) (by omega)]
structure PlainJ (j : JobD) : Prop where
 inner : ∀ f ∈ j.stack, f.names.length ≤ 60
 stack : j.stack.length ≤ 20
 names : j.names.length ≤ 120
 draws : j.draws.length ≤ 200
 path : j.path.size ≤ 400
 path2 : j.path2.size ≤ 400
 text : j.text.size ≤ 400
 at0 : 0 ≤ j.atF
 at1 : j.atF ≤ 1000000
def plainB (j : JobD) : Bool := bif decide ((j.stack.length : Int) ≤ 20) then (bif decide ((j.names.length : Int) ≤ 120) then (bif decide ((j.draws.length : Int) ≤ 200) then (bif decide ((j.path.size : Int) ≤ 400) then (bif decide ((j.path2.size : Int) ≤ 400) then (bif decide ((j.text.size : Int) ≤ 400) then (bif decide (j.atF ≥ 0) then decide (j.atF ≤ 1000000) else false) else false) else false) else false) else false) else false) else false
theorem some_bif {c : Bool} {x y : Bool} : (bif c then some x else some y) = some (bif c then x else y) := by cases c <;> rfl
theorem plainB_of {j : JobD} (h : plainB j = true) (hi : ∀ f ∈ j.stack, f.names.length ≤ 60) : PlainJ j := by
 unfold plainB at h
 have key : ∀ {p : Prop} [Decidable p] {x : Bool}, (bif decide p then x else false) = true → p ∧ x = true := by
  intro p _ x h
  by_cases hp : p
  ·rw [decide_eq_true hp] at h; exact ⟨hp, h⟩
  ·rw [decide_eq_false hp] at h; cases h
 obtain ⟨h1, h⟩ := key h
 obtain ⟨h2, h⟩ := key h
 obtain ⟨h3, h⟩ := key h
 obtain ⟨h4, h⟩ := key h
 obtain ⟨h5, h⟩ := key h
 obtain ⟨h6, h⟩ := key h
 obtain ⟨h7, h⟩ := key h
 have h8 := of_decide_eq_true h
 exact ⟨hi, by omega, by omega, by omega, by omega, by omega, by omega, by omega, by omega⟩
theorem plain_eq (j : JobD) : ∃ b, law21Plain j = some b ∧ (b = true → PlainJ j) := by
 obtain ⟨x, h1, h2⟩ := plain_loop (a0 := j.kind) (a1 := j.p) (a2 := j.phase) (a3 := j.fd) (a4 := j.nF) (a5 := j.modeF) (a6 := j.tries) (a7 := j.atF) (a8 := j.flags) (t0 := j.path) (t1 := j.path2) (t2 := j.text) (ns := j.names) j.stack (dr := j.draws) (dn := j.done) (ex := j.exit) (out := j.out) (er := j.e) 30 0 (by omega) (Nat.zero_le _) (fun j a h => by omega)
 have h3 := iterN_LF h1 (by omega)
 rw [show ((0 : Nat) : Int) = (0 : Int) from rfl] at h3
 unfold law21Plain
 rw [h3, Option.bind_some]
 rcases h2 with ⟨⟨v, y⟩, rfl⟩ | ⟨⟨v, rfl⟩, h⟩ | ⟨⟨v, rfl⟩, h⟩
 ·exact ⟨false, rfl, fun h => by cases h⟩
 ·refine ⟨plainB j, by simp only [some_bif]; rfl, fun hb => ?_⟩
  unfold plainB at hb
  have : decide ((j.stack.length : Int) ≤ 20) = false := by simp; omega
  rw [this] at hb; cases hb
 ·exact ⟨plainB j, by simp only [some_bif]; rfl, fun hb => plainB_of hb h⟩
structure Kept (j x : JobD) : Prop where
 names : x.names = j.names
 stack : x.stack = j.stack
 draws : x.draws = j.draws
end Go.Proofs.YtaenhodkpidocaaGreatDoor.Den
namespace Go.Proofs.YtaenhodkpidocaaGreatDoor.Den
open Go Go.RowKit
def headS (l : List UInt8) : List UInt8 := (l.reverse.dropWhile (· != 47)).reverse
theorem headS_snoc {l : List UInt8} {c : UInt8} (h : c ≠ 47) : headS (l ++ [c]) = headS l := by
 unfold headS
 rw [List.reverse_append]
 simp [List.dropWhile_cons, h]
theorem headS_slash (l : List UInt8) : headS (l ++ [47]) = l ++ [47] := by
 unfold headS
 rw [List.reverse_append]
 simp [List.dropWhile_cons]
theorem head_tail (l : List UInt8) : headS l ++ tailS l = l := by
 unfold headS tailS
 rw [← List.reverse_append, List.takeWhile_append_dropWhile, List.reverse_reverse]
theorem take_head {l : List UInt8} {k : Nat} (h : l.drop k = tailS l) : l.take k = headS l := by
 have h1 := List.take_append_drop k l
 rw [h] at h1
 exact List.append_cancel_right (h1.trans (head_tail l).symm)
theorem headS_le (l : List UInt8) : (headS l).length ≤ l.length := by
 unfold headS
 rw [List.length_reverse]
 exact Nat.le_trans (List.dropWhile_sublist _).length_le (by simp)
theorem last_at (l : List UInt8) (z : UInt8) (hl : l.length ≤ 1000000) : w64 (((bs (l ++ [z])).size : Int) - 1) = (l.length : Int) ∧ gtS (bs (l ++ [z])) (l.length : Int) = some z ∧ (bs (l ++ [z])).extract 0 ((l.length : Int)).toNat = bs l ∧ (0 ≤ (0 : Int) ∧ (0 : Int) ≤ (l.length : Int) ∧ (l.length : Int) ≤ ((bs (l ++ [z])).size : Int)) := by
 have hsz : (bs (l ++ [z])).size = l.length + 1 := by rw [size_by, by_bs]; simp
 refine ⟨by rw [hsz, w64_eq (by omega) (by omega)]; omega, by rw [gtS_by, by_bs]; simp, ?_, by rw [hsz]; omega⟩
 apply by_inj
 rw [Int.toNat_natCast, by_take, by_bs, by_bs]
 simp
theorem bare_loop : ∀ (n : Nat) (l : List UInt8), l.length ≤ n → l.length ≤ 1000000 → ∃ x, iterN ref01Bare_b1 (n + 1) (bs l) = some x ∧ ((∃ b, x = .inl (bs (Lib.trimRightB l 47), b)) ∨ x = .inr (bs (Lib.trimRightB l 47))) := by
 intro n
 induction n with
 | zero =>
  intro l hn hl
  obtain rfl : l = [] := List.length_eq_zero_iff.1 (by omega)
  exact ⟨.inr (bs []), iterN_done (by simp only [ref01Bare_b1, seq_nilB]; rfl), .inr rfl⟩
 | succ n ih =>
  intro l hn hl
  by_cases hq : l = []
  ·subst hq; exact ⟨.inr (bs []), iterN_done (by simp only [ref01Bare_b1, seq_nilB]; rfl), .inr rfl⟩
  ·obtain ⟨a, z, rfl⟩ := snoc_of hq
   have ha : a.length ≤ n := by simp at hn; omega
   obtain ⟨w1, w2, w3, w4⟩ := last_at a z (by simp at hl; omega)
   have e0 : (!seq (bs (a ++ [z])) (bs [])) = true := by rw [seq_nilB]; simp
   by_cases hz : z = 47
   ·have e1 : ((z.toNat : Int) == 47) = true := by rw [hz]; rfl
    obtain ⟨x, h1, h2⟩ := ih a ha (by simp at hl; omega)
    refine ⟨x, iterN_step (a' := bs a) ?_ h1, ?_⟩
    ·simp only [ref01Bare_b1, e0, cond_true, w1, w2, Option.bind_some, e1, grd_pos w4, w3]
    ·rw [hz, trim_slash]; exact h2
   ·have e1 : ((z.toNat : Int) == 47) = false := by
     simp only [beq_eq_false_iff_ne, ne_eq]
     intro h
     exact hz (UInt8.toNat_inj.1 (by show z.toNat = 47; omega))
    refine ⟨.inl (bs (a ++ [z]), z), iterN_done ?_, .inl ⟨z, by rw [trim_snoc hz]⟩⟩
    simp only [ref01Bare_b1, e0, cond_true, w1, w2, Option.bind_some, e1, cond_false]
theorem bare_eq (l : List UInt8) (hl : l.length ≤ 1000000) : ref01Bare (bs l) = some (bs (Lib.trimRightB l 47)) := by
 obtain ⟨x, h1, h2⟩ := bare_loop l.length l (Nat.le_refl _) hl
 unfold ref01Bare
 rw [iterN_LF h1 (by omega), Option.bind_some]
 rcases h2 with ⟨b, rfl⟩ | rfl <;> rfl
theorem dir_loop (p : ByteArray) : ∀ (n : Nat) (l : List UInt8), l.length ≤ n → l.length ≤ 1000000 → ∃ x, iterN (ref01Dir_b6 p) (n + 1) (bs l) = some x ∧ ((∃ b, x = .inl (bs (headS l), b)) ∨ x = .inr (bs (headS l))) := by
 intro n
 induction n with
 | zero =>
  intro l hn hl
  obtain rfl : l = [] := List.length_eq_zero_iff.1 (by omega)
  exact ⟨.inr (bs []), iterN_done (by simp only [ref01Dir_b6, seq_nilB]; rfl), .inr rfl⟩
 | succ n ih =>
  intro l hn hl
  by_cases hq : l = []
  ·subst hq; exact ⟨.inr (bs []), iterN_done (by simp only [ref01Dir_b6, seq_nilB]; rfl), .inr rfl⟩
  ·obtain ⟨a, z, rfl⟩ := snoc_of hq
   have ha : a.length ≤ n := by simp at hn; omega
   obtain ⟨w1, w2, w3, w4⟩ := last_at a z (by simp at hl; omega)
   have e0 : (!seq (bs (a ++ [z])) (bs [])) = true := by rw [seq_nilB]; simp
   by_cases hz : z = 47
   ·have e1 : ((z.toNat : Int) != 47) = false := by rw [hz]; rfl
    refine ⟨.inl (bs (a ++ [z]), z), iterN_done ?_, .inl ⟨z, by rw [hz, headS_slash]⟩⟩
    simp only [ref01Dir_b6, e0, cond_true, w1, w2, Option.bind_some, e1, cond_false]
   ·have e1 : ((z.toNat : Int) != 47) = true := by
     simp only [bne_iff_ne, ne_eq]
     intro h
     exact hz (UInt8.toNat_inj.1 (by show z.toNat = 47; omega))
    obtain ⟨x, h1, h2⟩ := ih a ha (by simp at hl; omega)
    refine ⟨x, iterN_step (a' := bs a) ?_ h1, ?_⟩
    ·simp only [ref01Dir_b6, e0, cond_true, w1, w2, Option.bind_some, e1, grd_pos w4, w3]
    ·rw [headS_snoc hz]; exact h2
def dirX (p : List UInt8) : List UInt8 := if Lib.trimRightB (headS (Lib.trimRightB p 47)) 47 = [] then (match p with | [] => [46] | c :: _ => if c = 47 then [47] else [46]) else Lib.trimRightB (headS (Lib.trimRightB p 47)) 47
theorem trimRX_eq (p : List UInt8) (hp : p.length ≤ 1000000) : trimRX (bs p) (bs [47]) = some (bs (Lib.trimRightB p 47)) := by
 unfold trimRX
 show (if (47 : UInt8).toNat < 128 ∧ (bs p).size ≤ 9223372036854775807 then _ else _) = _
 rw [if_pos ⟨by decide, by show p.length ≤ _; omega⟩]
theorem dirX_le (p : List UInt8) : (dirX p).length ≤ p.length + 1 := by
 unfold dirX
 split
 ·split
  ·simp
  ·split <;> simp
 ·exact Nat.le_trans (trim_le _) (Nat.le_trans (headS_le _) (Nat.le_trans (trim_le _) (by omega)))
theorem routeDir_eq (p : List UInt8) (hp : p.length ≤ 1000000) : routeDir (bs p) = some (bs (dirX p)) := by
 have hr := trim_le p
 obtain ⟨k, h1, h2, h3⟩ := last_eq (Lib.trimRightB p 47) (by omega)
 have hw : w64 ((k : Int) - 1 + 1) = (k : Int) := by rw [w64_eq (by omega) (by omega)]; omega
 have hsz : (bs (Lib.trimRightB p 47)).size = (Lib.trimRightB p 47).length := rfl
 have hx : (bs (Lib.trimRightB p 47)).extract 0 ((k : Int)).toNat = bs (headS (Lib.trimRightB p 47)) := by
  apply by_inj
  rw [Int.toNat_natCast, by_take, by_bs, by_bs, take_head h3]
 have hh := headS_le (Lib.trimRightB p 47)
 unfold routeDir
 rw [trimRX_eq p hp, Option.bind_some, h1, Option.bind_some, hw, grd_pos ⟨by omega, by omega, by rw [hsz]; omega⟩, hx, trimRX_eq _ (by omega), Option.bind_some]
 unfold routeDir1
 simp only [seq_nilB, pre_eq]
 unfold dirX
 by_cases hd : Lib.trimRightB (headS (Lib.trimRightB p 47)) 47 = []
 ·rw [decide_eq_true hd, if_pos hd]
  cases p with
  | nil => rfl
  | cons c g =>
   by_cases hc : c = 47
   ·subst hc; rfl
   ·have e1 : (c == 47) = false := by simp [hc]
    simp only [Bool.not_true, cond_false, Option.bind_some, e1, if_neg hc]
 ·rw [decide_eq_false hd, if_neg hd]; rfl
theorem trim_all : ∀ (n : Nat) (p : List UInt8), p.length ≤ n → p ≠ [] → Lib.trimRightB p 47 = [] → ∃ g, p = 47 :: g := by
 intro n
 induction n with
 | zero => intro p h hq; exact absurd (List.length_eq_zero_iff.1 (by omega)) hq
 | succ n ih =>
  intro p h hq ht
  obtain ⟨a, z, rfl⟩ := snoc_of hq
  by_cases hz : z = 47
  ·subst hz
   by_cases ha : a = []
   ·subst ha; exact ⟨[], rfl⟩
   ·rw [trim_slash] at ht
    obtain ⟨g, rfl⟩ := ih a (by simp at h; omega) ha ht
    exact ⟨g ++ [47], rfl⟩
  ·rw [trim_snoc hz] at ht; simp at ht
theorem ref01Dir_eq (p : List UInt8) (hp : p.length ≤ 1000000) : ref01Dir (bs p) = some (bs (dirX p)) := by
 have hr := trim_le p
 have hh := headS_le (Lib.trimRightB p 47)
 unfold ref01Dir
 rw [seq_nilB, bare_eq p hp]
 by_cases hq : p = []
 ·subst hq; rfl
 rw [decide_eq_false hq, cond_false, Option.bind_some, seq_nilB]
 by_cases ht : Lib.trimRightB p 47 = []
 ·obtain ⟨g, rfl⟩ := trim_all p.length p (Nat.le_refl _) hq ht
  rw [decide_eq_true ht, cond_true]
  unfold dirX
  rw [ht]
  rfl
 ·rw [decide_eq_false ht, cond_false]
  obtain ⟨x, h1, h2⟩ := dir_loop (bs p) (Lib.trimRightB p 47).length (Lib.trimRightB p 47) (Nat.le_refl _) (by omega)
  rw [iterN_LF h1 (by omega), Option.bind_some]
  obtain ⟨c, g, rfl⟩ : ∃ c g, p = c :: g := by cases p with | nil => exact absurd rfl hq | cons c g => exact ⟨c, g, rfl⟩
  have g0 : gtS (bs (c :: g)) 0 = some c := by
   rw [show (0 : Int) = ((0 : Nat) : Int) from rfl, gtS_by, by_bs]; rfl
  have hfin : ((ref01Bare (bs (headS (Lib.trimRightB (c :: g) 47)))).bind fun r_2 =>
    bif (seq r_2 (bs [])) then (
     (gtS (bs (c :: g)) (0 : Int)).bind fun b_2 =>
     bif ((b_2.toNat : Int) == (47 : Int)) then (
      some (bs [47])
     ) else (
      bif (seq r_2 (bs [])) then (
       some (bs [46])
      ) else (
       some r_2
      )
     )
    ) else (
     bif (seq r_2 (bs [])) then (
      some (bs [46])
     ) else (
      some r_2
     )
    )) = some (bs (dirX (c :: g))) := by
   rw [bare_eq _ (by omega), Option.bind_some, seq_nilB, g0]
   unfold dirX
   by_cases hd : Lib.trimRightB (headS (Lib.trimRightB (c :: g) 47)) 47 = []
   ·rw [decide_eq_true hd, if_pos hd]
    by_cases hc : c = 47
    ·subst hc; rfl
    ·have e1 : ((c.toNat : Int) == 47) = false := by
      simp only [beq_eq_false_iff_ne, ne_eq]
      intro h
      exact hc (UInt8.toNat_inj.1 (by show c.toNat = 47; omega))
     simp only [cond_true, Option.bind_some, e1, cond_false, if_neg hc]
   ·rw [decide_eq_false hd, if_neg hd]; rfl
  rcases h2 with ⟨b, rfl⟩ | rfl
  ·exact hfin
  ·exact hfin
theorem join_size (a b : List UInt8) (ha : a.length ≤ 1000000) {x : ByteArray} (h : routeJoin (bs a) (bs b) = some x) : x.size ≤ a.length + b.length + 1 := by
 obtain ⟨q, hpre⟩ : ∃ q, stringsHasPrefix (bs b) (bs [47]) = some q := ⟨_, pre_eq b⟩
 unfold routeJoin at h
 simp only [seq_nilB, hpre, Option.bind_some] at h
 have hb : (bs b).size = b.length := rfl
 have hsa : (bs a).size = a.length := rfl
 have hcat : ∀ (x y : ByteArray), (x ++ y).size = x.size + y.size := fun x y => by rw [size_by, by_append, List.length_append, ← size_by, ← size_by]
 by_cases hq : a = []
 ·rw [decide_eq_true hq, cond_true] at h
  cases h; omega
 rw [decide_eq_false hq, cond_false] at h
 cases q with
 | true => cases h; omega
 | false =>
  rw [cond_false] at h
  by_cases hz : b = []
  ·rw [decide_eq_true hz, cond_true] at h
   cases h; omega
  rw [decide_eq_false hz, cond_false] at h
  obtain ⟨l, z, rfl⟩ := snoc_of hq
  rw [suf_eq l z (by simp at ha; omega), Option.bind_some] at h
  obtain rfl := Option.some.inj ((grd_some (grd_some h).2).2)
  rw [hcat, hcat, hb]
  have : (bs [47]).size = 1 := rfl
  rw [this]
  split
  ·have : (bs l).size = l.length := rfl
   simp; omega
  ·rw [hsa]; omega
theorem hasPre (l : List UInt8) : stringsHasPrefix (bs l) (bs [116, 109, 112]) = some (decide (3 ≤ l.length) && seq ((bs l).extract 0 3) (bs [116, 109, 112])) := by
 unfold stringsHasPrefix stringsliteHasPrefix
 have h0 : (bs l).size = l.length := rfl
 have h1 : (bs [116, 109, 112]).size = 3 := rfl
 rw [h0, h1]
 by_cases h : 3 ≤ l.length
 ·have e1 : decide ((l.length : Int) ≥ ((3 : Nat) : Int)) = true := by simp; omega
  rw [e1, cond_true, grd_pos ⟨by omega, by omega, by omega⟩, decide_eq_true h]
  rfl
 ·have e1 : decide ((l.length : Int) ≥ ((3 : Nat) : Int)) = false := by simp; omega
  rw [e1, cond_false, decide_eq_false h]
  rfl
theorem stem_both (p : List UInt8) (hp : p.length ≤ 1000) : ∃ x, publishStem (bs p) = some x ∧ ref21Stem (bs p) = some x ∧ x.size ≤ 1000000 := by
 have hd := dirX_le p
 obtain ⟨y1, a1, a2⟩ := join_both (dirX p) [112, 109, 116, 88, 88, 88] (by omega) (by simp)
 obtain ⟨y2, b1, b2⟩ := join_both (dirX p) [116, 109, 112, 88, 88, 88] (by omega) (by simp)
 have s1 := join_size _ _ (by omega) a1
 have s2 := join_size _ _ (by omega) b1
 simp only [List.length_cons, List.length_nil] at s1 s2
 unfold publishStem ref21Stem
 rw [routeBase_eq p (by omega), ref01Base_eq p (by omega), Option.bind_some, Option.bind_some, hasPre, Option.bind_some, routeDir_eq p (by omega), ref01Dir_eq p (by omega)]
 simp only [Option.bind_some, a1, a2, b1, b2]
 have h0 : (bs (baseX p)).size = (baseX p).length := rfl
 rw [h0]
 by_cases h : 3 ≤ (baseX p).length
 ·have e1 : decide (((baseX p).length : Int) ≥ 3) = true := by simp; omega
  rw [e1, cond_true, grd_pos ⟨by omega, by omega, by omega⟩, decide_eq_true h, Bool.true_and]
  show ∃ x, (bif seq ((bs (baseX p)).extract 0 3) (bs [116, 109, 112]) then some y1 else some y2) = some x ∧ (bif seq ((bs (baseX p)).extract 0 3) (bs [116, 109, 112]) then some y1 else some y2) = some x ∧ x.size ≤ 1000000
  cases seq ((bs (baseX p)).extract 0 3) (bs [116, 109, 112])
  ·exact ⟨y2, rfl, rfl, by omega⟩
  ·exact ⟨y1, rfl, rfl, by omega⟩
 ·have e1 : decide (((baseX p).length : Int) ≥ 3) = false := by simp; omega
  rw [e1, cond_false, decide_eq_false h, Bool.false_and]
  exact ⟨y2, rfl, rfl, by omega⟩
end Go.Proofs.YtaenhodkpidocaaGreatDoor.Den
namespace Go.Proofs.YtaenhodkpidocaaGreatDoor.Den
open Go Go.RowKit
theorem trimc_snoc {l : List UInt8} {c z : UInt8} (h : z ≠ c) : Lib.trimRightB (l ++ [z]) c = l ++ [z] := by
 unfold Lib.trimRightB
 rw [List.reverse_append]
 simp [List.dropWhile_cons, h]
theorem trimc_same (l : List UInt8) (c : UInt8) : Lib.trimRightB (l ++ [c]) c = Lib.trimRightB l c := by
 unfold Lib.trimRightB
 rw [List.reverse_append]
 simp [List.dropWhile_cons]
theorem count_loop (t : ByteArray) (ht : t.size ≤ 1000000) : ∀ (n : Nat) (l : List UInt8) (i : Nat), l.length = n → by_ t = l ++ List.replicate i 88 → ∃ x, iterN (ref02Count_b2 t) (n + 1) (i : Int) = some x ∧
  ((∃ b, x = .inl (((t.size - (Lib.trimRightB l 88).length : Nat) : Int), b)) ∨ x = .inr ((t.size - (Lib.trimRightB l 88).length : Nat) : Int)) := by
 intro n
 induction n with
 | zero =>
  intro l i hn h
  obtain rfl := List.length_eq_zero_iff.1 hn
  have hs : t.size = i := by rw [size_by, h]; simp
  refine ⟨.inr (i : Int), iterN_done ?_, .inr ?_⟩
  ·have : decide ((i : Int) < (t.size : Int)) = false := by rw [hs]; exact ltf
   simp only [ref02Count_b2, this, cond_false]
  ·show _ = Sum.inr (((t.size - ([] : List UInt8).length : Nat) : Int))
   rw [hs]; rfl
 | succ n ih =>
  intro l i hn h
  obtain ⟨a, z, rfl⟩ := snoc_of (l := l) (by intro e; rw [e] at hn; cases hn)
  have ha : a.length = n := by simp at hn; exact hn
  have hs : t.size = a.length + 1 + i := by rw [size_by, h]; simp <;> omega
  have e0 : decide ((i : Int) < (t.size : Int)) = true := by rw [hs]; exact ltd (by omega)
  have hw : w64 (w64 ((t.size : Int) - 1) - (i : Int)) = (a.length : Int) := by
   rw [w64_eq (a := (t.size : Int) - 1) (by omega) (by omega), w64_eq (by omega) (by omega)]; omega
  have hg : gtS t (a.length : Int) = some z := by rw [gtS_by, h]; simp
  by_cases hz : z = 88
  ·subst hz
   obtain ⟨x, h1, h2⟩ := ih a (i + 1) ha (by rw [h, List.append_assoc]; rfl)
   refine ⟨x, iterN_step (a' := ((i + 1 : Nat) : Int)) ?_ h1, ?_⟩
   ·have e1 : (((88 : UInt8).toNat : Int) == 88) = true := rfl
    simp only [ref02Count_b2, e0, cond_true, hw, hg, Option.bind_some, e1, w64_succ (i := i) (by omega)]
   ·rw [trimc_same]; exact h2
  ·have e1 : ((z.toNat : Int) == 88) = false := by
    simp only [beq_eq_false_iff_ne, ne_eq]
    intro h
    exact hz (UInt8.toNat_inj.1 (by show z.toNat = 88; omega))
   refine ⟨.inl ((i : Int), z), iterN_done ?_, .inl ⟨z, ?_⟩⟩
   ·simp only [ref02Count_b2, e0, cond_true, hw, hg, Option.bind_some, e1, cond_false]
   ·rw [trimc_snoc hz]
    have : t.size - (a ++ [z]).length = i := by rw [hs]; simp
    rw [this]
theorem count_eq (t : ByteArray) (ht : t.size ≤ 1000000) : ref02Count t = some ((t.size - (stemL t).length : Nat) : Int) := by
 obtain ⟨x, h1, h2⟩ := count_loop t ht (by_ t).length (by_ t) 0 rfl (by simp)
 have h3 := iterN_LF h1 (by rw [← size_by]; omega)
 rw [show ((0 : Nat) : Int) = (0 : Int) from rfl] at h3
 unfold ref02Count
 rw [h3, Option.bind_some]
 rcases h2 with ⟨b, rfl⟩ | rfl <;> rfl
theorem let_ext (i : Nat) (h : i < 36) : (bs lets).extract i (i + 1) = bs [lets.getD i 0] := by
 have hl : lets.length = 36 := rfl
 rw [ext_one (l := lets) (i := i) (by omega)]
 congr 2
 rw [List.getD_eq_getElem?_getD, List.getElem?_eq_getElem (by omega)]
 rfl
theorem letter_eq (n : Int) : ref02Letter n = some (bs [letV n]) := by
 have h1 := Int.tmod_lt_of_pos n (show (0 : Int) < 36 by decide)
 have h2 := tmod36 n
 have hs : (bs lets).size = 36 := rfl
 have key : ∀ m : Int, 0 ≤ m → m < 36 → ltrI n = m.toNat → (grd (0 ≤ m ∧ m ≤ w64 (m + 1) ∧ w64 (m + 1) ≤ ((bs lets).size : Int)) <| some ((bs lets).extract m.toNat (w64 (m + 1)).toNat)) = some (bs [letV n]) := by
  intro m a b e
  have hw : w64 (m + 1) = m + 1 := w64_eq (by omega) (by omega)
  have e2 : (m + 1).toNat = m.toNat + 1 := by omega
  rw [hw, grd_pos ⟨a, by omega, by rw [hs]; omega⟩, e2, let_ext _ (by omega)]
  unfold letV
  rw [e]
 unfold ref02Letter
 by_cases hn : Int.tmod n 36 < 0
 ·have hw : w64 (Int.tmod n 36 + 36) = Int.tmod n 36 + 36 := w64_eq (by omega) (by omega)
  rw [decide_eq_true hn, cond_true, hw]
  exact key (Int.tmod n 36 + 36) (by omega) (by omega) (by unfold ltrI; rw [if_pos hn])
 ·rw [decide_eq_false hn, cond_false]
  exact key (Int.tmod n 36) (by omega) (by omega) (by unfold ltrI; rw [if_neg hn])
theorem make_loop (t : ByteArray) (ht : t.size ≤ 1000000) (ds : List Int) (c : Nat) (hc : c ≤ 1000000) : ∀ (k i : Nat), i + k = c → iterN (ref02Make_b4 ds (c : Int)) (k + 1) (bs (makeL t ds i), (i : Int)) = some (bs (makeL t ds c), (c : Int))
 | 0, i, h => by
  obtain rfl : i = c := by omega
  refine iterN_done ?_
  simp only [ref02Make_b4, ltf, cond_false]
 | k + 1, i, h => by
  have hm : (IntKind.i64.max : Int) = 9223372036854775807 := by decide
  refine iterN_step (a' := (bs (makeL t ds (i + 1)), ((i + 1 : Nat) : Int))) ?_ (make_loop t ht ds c hc k (i + 1) (by omega))
  have hlen := makeL_len t ds i
  have hst := stem_le t
  have hcat : bs (makeL t ds i) ++ bs [letV (ds.getD i 0)] = bs (makeL t ds (i + 1)) := by
   apply by_inj
   rw [by_append, by_bs, by_bs, by_bs, makeL_succ]
  have g : ¬ ((((bs (makeL t ds i)).size + (bs [letV (ds.getD i 0)]).size : Nat) : Int) > IntKind.i64.max) := by
   rw [hm]; show ¬ ((((makeL t ds i).length + 1 : Nat) : Int) > _); omega
  by_cases hi : i < ds.length
  ·have e : ds.getD i 0 = ds[i] := by rw [List.getD_eq_getElem?_getD, List.getElem?_eq_getElem hi]; rfl
   have e1 : decide ((i : Int) < (ds.length : Int)) = true := ltd hi
   rw [e] at hcat g
   simp only [ref02Make_b4, ltd (show i < c by omega), cond_true, e1, gt_nat hi, Option.bind_some, letter_eq, grd_pos g, hcat, w64_succ (i := i) (by omega)]
  ·have e : ds.getD i 0 = 0 := by rw [List.getD_eq_getElem?_getD, List.getElem?_eq_none (by omega)]; rfl
   have e1 : decide ((i : Int) < (ds.length : Int)) = false := by simp; omega
   rw [e] at hcat g
   simp only [ref02Make_b4, ltd (show i < c by omega), cond_true, e1, cond_false, Option.bind_some, letter_eq, grd_pos g, hcat, w64_succ (i := i) (by omega)]
theorem make_both (t : ByteArray) (ht : t.size ≤ 1000000) (ds : List Int) : makeX t ds = some (makeV t ds) ∧ ref02Make t ds = some (makeV t ds) := by
 constructor
 ·unfold makeX
  rw [if_pos (by omega)]
 ·have hst := stem_le t
  have hw : w64 ((t.size : Int) - ((t.size - (stemL t).length : Nat) : Int)) = ((stemL t).length : Int) := by rw [w64_eq (by omega) (by omega)]; omega
  have hx : t.extract 0 (((stemL t).length : Int)).toNat = bs (makeL t ds 0) := by
   apply by_inj
   obtain ⟨n, hn⟩ := trim_split 88 (by_ t)
   rw [Int.toNat_natCast, by_take, by_bs]
   have e0 : makeL t ds 0 = stemL t := by simp [makeL]
   rw [e0]
   have e1 : stemL t = Lib.trimRightB (by_ t) 88 := rfl
   rw [e1]
   exact (congrArg (List.take _) hn).trans List.take_left
  have h := iterN_LF (make_loop t ht ds (t.size - (stemL t).length) (by omega) (t.size - (stemL t).length) 0 (by omega)) (by omega)
  rw [show ((0 : Nat) : Int) = (0 : Int) from rfl] at h
  unfold ref02Make
  rw [count_eq t ht, Option.bind_some, hw, grd_pos ⟨by omega, by omega, by omega⟩, hx, h, Option.bind_some]
  rfl
theorem draw_step {n : Int} (hn : n = 3) {a0 a1 a2 a3 a4 a5 a6 : Int} {k : Nat} {a8 : Int} {t0 t1 t2 : ByteArray} {ns : List ByteArray} {st : List FrameD} (dr : List Int) {dn : Bool} {ex : Int} {out : ByteArray} {er : Int} (hk : k ≤ 1000000) {i : Nat} (hi : i < 3) {v : List Int} (hv : v.length ≤ 3) :
  ref15Draw_b3 n a0 a1 a2 a3 a4 a5 a6 (k : Int) a8 t0 t1 t2 ns st dr dn ex out er (((k + i : Nat) : Int), v) = some (.inl (((k + i + 1 : Nat) : Int), v ++ [dr.getD (k + i) 0])) := by
 subst hn
 have hw : w64 ((k : Int) + 3) = ((k + 3 : Nat) : Int) := by rw [w64_eq (by omega) (by omega)]; omega
 have hr : room (v.length + 1) 8 := ⟨by omega, by omega⟩
 by_cases h : k + i < dr.length
 ·have e : dr.getD (k + i) 0 = dr[k + i] := by rw [List.getD_eq_getElem?_getD, List.getElem?_eq_getElem h]; rfl
  simp only [ref15Draw_b3, hw, ltd (show k + i < k + 3 by omega), cond_true, ltd h, gt_nat h, Option.bind_some, grd_pos hr, e, w64_succ (i := k + i) (by omega)]
 ·have e : dr.getD (k + i) 0 = 0 := by rw [List.getD_eq_getElem?_getD, List.getElem?_eq_none (by omega)]; rfl
  have e1 : decide (((k + i : Nat) : Int) < (dr.length : Int)) = false := by simp; omega
  simp only [ref15Draw_b3, hw, ltd (show k + i < k + 3 by omega), cond_true, e1, cond_false, grd_pos hr, e, w64_succ (i := k + i) (by omega)]
theorem draw_done {n : Int} (hn : n = 3) {a0 a1 a2 a3 a4 a5 a6 : Int} {k : Nat} {a8 : Int} {t0 t1 t2 : ByteArray} {ns : List ByteArray} {st : List FrameD} (dr : List Int) {dn : Bool} {ex : Int} {out : ByteArray} {er : Int} (hk : k ≤ 1000000) {v : List Int} :
  ref15Draw_b3 n a0 a1 a2 a3 a4 a5 a6 (k : Int) a8 t0 t1 t2 ns st dr dn ex out er (((k + 3 : Nat) : Int), v) = some (.inr (((k + 3 : Nat) : Int), v)) := by
 subst hn
 have hw : w64 ((k : Int) + 3) = ((k + 3 : Nat) : Int) := by rw [w64_eq (by omega) (by omega)]; omega
 simp only [ref15Draw_b3, hw, ltf, cond_false]
theorem copy3 (dr : List Int) (k : Nat) : copyL (List.replicate 3 (0 : Int)) (dr.drop k) = [dr.getD k 0, dr.getD (k + 1) 0, dr.getD (k + 2) 0] := by
 have h : ∀ i, dr.getD (k + i) 0 = (dr.drop k).getD i 0 := by
  intro i
  rw [List.getD_eq_getElem?_getD, List.getD_eq_getElem?_getD, List.getElem?_drop]
 have h0 := h 0
 rw [Nat.add_zero] at h0
 rw [h0, h 1, h 2]
 generalize dr.drop k = m
 match m with
 | [] => rfl
 | [a] => rfl
 | [a, b] => rfl
 | a :: b :: c :: l =>
  unfold copyL
  have : min (a :: b :: c :: l).length (List.replicate 3 (0 : Int)).length = 3 := by simp
  rw [this]
  rfl
theorem draw_both (j : JobD) (h0 : 0 ≤ j.atF) (h1 : j.atF ≤ 1000000) : ∃ d, jobDraw j 3 = some (d, JobD.mk j.kind j.p j.phase j.fd j.nF j.modeF j.tries (w64 (j.atF + 3)) j.flags j.path j.path2 j.text j.names j.stack j.draws j.done j.exit j.out j.e) ∧
  ref15Draw j 3 = some (d, JobD.mk j.kind j.p j.phase j.fd j.nF j.modeF j.tries (w64 (j.atF + 3)) j.flags j.path j.path2 j.text j.names j.stack j.draws j.done j.exit j.out j.e) := by
 obtain ⟨k, hk⟩ := Int.eq_ofNat_of_zero_le h0
 have hk1 : k ≤ 1000000 := by omega
 refine ⟨[j.draws.getD k 0, j.draws.getD (k + 1) 0, j.draws.getD (k + 2) 0], ?_, ?_⟩
 ·unfold jobDraw
  have e0 : (if (0 : Int) > 3 then (0 : Int) else 3) = 3 := rfl
  rw [e0, grd_pos (by decide), hk]
  have e3 : (3 : Int).toNat = 3 := rfl
  rw [e3, Int.toNat_natCast, ← copy3]
  by_cases h : k < j.draws.length
  ·rw [ltd h, cond_true, grd_pos ⟨by omega, by omega, by omega⟩]
  ·have e : decide ((k : Int) < (j.draws.length : Int)) = false := by simp; omega
   rw [e, cond_false, List.drop_eq_nil_of_le (by omega)]
   rfl
 ·unfold ref15Draw
  rw [hk]
  have s0 := draw_step (n := 3) rfl (a0 := j.kind) (a1 := j.p) (a2 := j.phase) (a3 := j.fd) (a4 := j.nF) (a5 := j.modeF) (a6 := j.tries) (k := k) (a8 := j.flags) (t0 := j.path) (t1 := j.path2) (t2 := j.text) (ns := j.names) (st := j.stack) j.draws (dn := j.done) (ex := j.exit) (out := j.out) (er := j.e) hk1 (i := 0) (by omega) (v := []) (by simp)
  have s1 := draw_step (n := 3) rfl (a0 := j.kind) (a1 := j.p) (a2 := j.phase) (a3 := j.fd) (a4 := j.nF) (a5 := j.modeF) (a6 := j.tries) (k := k) (a8 := j.flags) (t0 := j.path) (t1 := j.path2) (t2 := j.text) (ns := j.names) (st := j.stack) j.draws (dn := j.done) (ex := j.exit) (out := j.out) (er := j.e) hk1 (i := 1) (by omega) (v := [j.draws.getD k 0]) (by simp)
  have s2 := draw_step (n := 3) rfl (a0 := j.kind) (a1 := j.p) (a2 := j.phase) (a3 := j.fd) (a4 := j.nF) (a5 := j.modeF) (a6 := j.tries) (k := k) (a8 := j.flags) (t0 := j.path) (t1 := j.path2) (t2 := j.text) (ns := j.names) (st := j.stack) j.draws (dn := j.done) (ex := j.exit) (out := j.out) (er := j.e) hk1 (i := 2) (by omega) (v := [j.draws.getD k 0, j.draws.getD (k + 1) 0]) (by simp)
  have s3 := draw_done (n := 3) rfl (a0 := j.kind) (a1 := j.p) (a2 := j.phase) (a3 := j.fd) (a4 := j.nF) (a5 := j.modeF) (a6 := j.tries) (k := k) (a8 := j.flags) (t0 := j.path) (t1 := j.path2) (t2 := j.text) (ns := j.names) (st := j.stack) j.draws (dn := j.done) (ex := j.exit) (out := j.out) (er := j.e) hk1 (v := [j.draws.getD k 0, j.draws.getD (k + 1) 0, j.draws.getD (k + 2) 0])
  have hall := iterN_LF (iterN_step s0 (iterN_step s1 (iterN_step s2 (iterN_done (n := 0) s3)))) (by omega)
  rw [Nat.add_zero] at hall
  rw [hall, Option.bind_some]
theorem named_both (j : JobD) (h0 : 0 ≤ j.atF) (h1 : j.atF ≤ 1000000) (hp : j.path.size ≤ 1000) : ∃ x, publishNamed j = some x ∧ ref21Named j = some x ∧ Kept j x := by
 obtain ⟨d, d1, d2⟩ := draw_both j h0 h1
 obtain ⟨y, y1, y2, y3⟩ := stem_both (by_ j.path) (by rw [← size_by]; exact hp)
 rw [bs_by] at y1 y2
 obtain ⟨m1, m2⟩ := make_both y y3 d
 unfold publishNamed ref21Named
 rw [d1, d2, y1, y2]
 simp only [Option.bind_some, m1, m2]
 exact ⟨_, rfl, rfl, rfl, rfl, rfl⟩
end Go.Proofs.YtaenhodkpidocaaGreatDoor.Den
namespace Go.Proofs.YtaenhodkpidocaaGreatDoor.Den
open Go Go.RowKit
theorem half (n : Nat) (hn : n ≤ 1000000) : (IntKind.wrap .i64 (Int.tdiv (n : Int) (2 : Int))) = ((n / 2 : Nat) : Int) := by
 have e : Int.tdiv (n : Int) 2 = ((n / 2 : Nat) : Int) := rfl
 rw [e]
 exact w64_eq (by omega) (by omega)
theorem le_f {a b : Int} (h : b < a) : decide (a ≤ b) = false := by simp; exact h
theorem not_mine {j : JobD} (h : ¬ (j.done = false ∧ j.kind = 9 ∧ 0 ≤ j.phase ∧ j.phase ≤ 6)) : ref21Mine j = some false ∧
  publishOf j.kind j.p j.phase j.fd j.nF j.modeF j.tries j.atF j.flags j.path j.path2 j.text j.names j.stack j.draws j.done j.exit j.out j.e = some (.inl ()) := by
 unfold ref21Mine publishOf publishOr publishThen
 simp only [Option.bind_some]
 cases hd : j.done with
 | true => exact ⟨rfl, rfl⟩
 | false =>
  by_cases hk : j.kind = 9
  ·by_cases h0 : 0 ≤ j.phase
   ·have h7 : 6 < j.phase := by
     rcases Int.lt_or_le 6 j.phase with h6 | h6
     ·exact h6
     ·exact absurd ⟨hd, hk, h0, h6⟩ h
    have e1 : (j.kind == 9) = true := by simp [hk]
    have e2 : (j.kind != 9) = false := by simp [hk]
    have e3 : decide (j.phase ≥ 0) = true := by simp; exact h0
    have e4 : decide (j.phase < 0) = false := by simp; exact h0
    have e5 : decide (j.phase ≥ 7) = true := by simp; omega
    have e6 : decide (j.phase ≤ 6) = false := le_f h7
    simp only [e1, e2, e3, e4, e5, e6, Bool.not_false, cond_true, cond_false, and_self]
   ·have e1 : (j.kind == 9) = true := by simp [hk]
    have e2 : (j.kind != 9) = false := by simp [hk]
    have e3 : decide (j.phase ≥ 0) = false := by simp; omega
    have e4 : decide (j.phase < 0) = true := by simp; omega
    simp only [e1, e2, e3, e4, Bool.not_false, cond_true, cond_false, and_self]
  ·have e1 : (j.kind == 9) = false := by simp [hk]
   have e2 : (j.kind != 9) = true := by simp [hk]
   simp only [e1, e2, Bool.not_false, cond_true, cond_false, and_self]
theorem seven {a : Int} (h0 : 0 ≤ a) (h1 : a ≤ 6) : a = 0 ∨ a = 1 ∨ a = 2 ∨ a = 3 ∨ a = 4 ∨ a = 5 ∨ a = 6 := by omega
theorem ask_eq (j : JobD) (ht : j.text.size ≤ 400) : ∃ c, publishAsk j = some c ∧ ref21Ask j = some c := by
 by_cases hm : j.done = false ∧ j.kind = 9 ∧ 0 ≤ j.phase ∧ j.phase ≤ 6
 ·obtain ⟨hd, hk, h0, h6⟩ := hm
  obtain ⟨kind, p, phase, fd, nF, modeF, tries, atF, flags, path, path2, text, names, stack, draws, done, exit, out, e⟩ := j
  simp only at hd hk h0 h6 ht
  subst hd hk
  have hh := half text.size (by omega)
  have g1 : 0 ≤ (0 : Int) ∧ (0 : Int) ≤ ((text.size / 2 : Nat) : Int) ∧ ((text.size / 2 : Nat) : Int) ≤ (text.size : Int) := ⟨by omega, by omega, by omega⟩
  have g2 : 0 ≤ ((text.size / 2 : Nat) : Int) ∧ ((text.size / 2 : Nat) : Int) ≤ (text.size : Int) ∧ (text.size : Int) ≤ (text.size : Int) := ⟨by omega, by omega, by omega⟩
  rcases seven h0 h6 with rfl | rfl | rfl | rfl | rfl | rfl | rfl
  ·exact ⟨_, rfl, rfl⟩
  ·refine ⟨CalD.mk 4 fd 0 0 0 0 (bs []) (bs []) (text.extract 0 (((text.size / 2 : Nat) : Int)).toNat), ?_, ?_⟩
   ·show ((publishWriterHead _).bind fun r_6 => some r_6) = _
    unfold publishWriterHead
    simp only [hh, grd_pos g1, Option.bind_some]
   ·show grd _ _ = _
    simp only [hh, grd_pos g1, Option.bind_some]
  ·refine ⟨CalD.mk 4 fd 0 0 0 0 (bs []) (bs []) (text.extract (((text.size / 2 : Nat) : Int)).toNat text.size), ?_, ?_⟩
   ·show ((publishWriterTail _).bind fun r_6 => some r_6) = _
    unfold publishWriterTail
    simp only [hh, grd_pos g2, Option.bind_some]
   ·show grd _ _ = _
    simp only [hh, grd_pos g2, Option.bind_some]
  ·exact ⟨_, rfl, rfl⟩
  ·exact ⟨_, rfl, rfl⟩
  ·exact ⟨_, rfl, rfl⟩
  ·exact ⟨_, rfl, rfl⟩
 ·obtain ⟨h1, h2⟩ := not_mine hm
  unfold publishAsk ref21Ask
  rw [h1, h2]
  exact ⟨_, rfl, rfl⟩
theorem again_both (j : JobD) (path : ByteArray) (hp : path.size ≤ 1000000) : ∃ x b, jobAgain j path = some (x, b) ∧ ref15Again j path = some (x, b) ∧ Kept j x ∧ (b = true → x.atF = j.atF ∧ x.path = j.path) := by
 unfold jobAgain ref15Again
 by_cases h : j.tries < 3
 ·have e1 : decide (j.tries < 3) = true := by simp; exact h
  have e2 : decide (j.tries ≥ 3) = false := by simp; exact h
  rw [e1, e2]
  exact ⟨_, _, rfl, rfl, ⟨rfl, rfl, rfl⟩, fun _ => ⟨rfl, rfl⟩⟩
 ·have e1 : decide (j.tries < 3) = false := by simp; omega
  have e2 : decide (j.tries ≥ 3) = true := by simp; omega
  rw [e1, e2, fail_eq _ _ _ (by omega) (by omega)]
  obtain ⟨o, ho⟩ := fail_some j path 32 (by omega) (by omega) hp
  rw [ho]
  exact ⟨_, _, rfl, rfl, ⟨rfl, rfl, rfl⟩, fun h => by cases h⟩
theorem tell_eq (j : JobD) (r : ReplyD) (h0 : 0 ≤ r.e) (h1 : r.e ≤ 9223372036854775807) (n0 : 0 ≤ j.nF) (n1 : j.nF ≤ 9223372036854775807) (hj : PlainJ j) : ∃ x, publishTell j r = some x ∧ ref21Tell j r = some x ∧ Kept j x := by
 by_cases hm : j.done = false ∧ j.kind = 9 ∧ 0 ≤ j.phase ∧ j.phase ≤ 6
 ·obtain ⟨hd, hk, p0, p6⟩ := hm
  obtain ⟨kind, p, phase, fd, nF, modeF, tries, atF, flags, path, path2, text, names, stack, draws, done, exit, out, e⟩ := j
  simp only at hd hk p0 p6 n0 n1
  subst hd hk
  have hpath := hj.path
  have hpath2 := hj.path2
  simp only at hpath hpath2
  rcases seven p0 p6 with rfl | rfl | rfl | rfl | rfl | rfl | rfl
  ·unfold publishTell ref21Tell
   show ∃ x, ((publishWriterOpened _ r).bind fun r_6 => some r_6) = some x ∧ (bif (r.e == (0 : Int)) then _ else _) = some x ∧ _
   unfold publishWriterOpened publishWriterTo
   cases he : (r.e == 0) with
   | true => exact ⟨_, rfl, rfl, rfl, rfl, rfl⟩
   | false =>
    cases h3 : (r.e == 3) with
    | false =>
     have h3' : (r.e != 3) = true := by simp only [bne, h3]; rfl
     rw [h3']
     simp only [cond_false, cond_true]
     rw [fail_eq _ _ _ h0 h1]
     obtain ⟨o, ho⟩ := fail_some ⟨9, p, 0, fd, nF, modeF, tries, atF, flags, path, path2, text, names, stack, draws, false, exit, out, e⟩ path2 r.e h0 h1 (by omega)
     rw [ho]
     exact ⟨_, rfl, rfl, rfl, rfl, rfl⟩
    | true =>
     have h3' : (r.e != 3) = false := by simp only [bne, h3]; rfl
     rw [h3']
     simp only [cond_false, cond_true]
     obtain ⟨x, b, a1, a2, a3, a4⟩ := again_both ⟨9, p, 0, fd, nF, modeF, tries, atF, flags, path, path2, text, names, stack, draws, false, exit, out, e⟩ path (by omega)
     rw [a1, a2]
     cases b with
     | false => exact ⟨x, rfl, rfl, a3⟩
     | true =>
      obtain ⟨b1, b2⟩ := a4 rfl
      obtain ⟨y, y1, y2, y3⟩ := named_both x (by rw [b1]; exact hj.at0) (by rw [b1]; exact hj.at1) (by rw [b2]; show path.size ≤ 1000; omega)
      simp only [Option.bind_some, Bool.not_true, cond_false, cond_true, y1, y2]
      exact ⟨y, rfl, rfl, y3.names.trans a3.names, y3.stack.trans a3.stack, y3.draws.trans a3.draws⟩
  ·unfold publishTell ref21Tell
   show ∃ x, ((publishOr1 _ _ _ _ _ _ _ _ _ _ _ _ _ _ _ _ _ _ _ _ _ _ _ _ _ _ _ _ _ _ _).bind _) = some x ∧ (bif (r.e == (0 : Int)) then _ else _) = some x ∧ _
   unfold publishOr1 publishWriterTo
   cases he : (r.e == 0) with
   | true => exact ⟨_, rfl, rfl, rfl, rfl, rfl⟩
   | false => exact ⟨_, rfl, rfl, rfl, rfl, rfl⟩
  ·unfold publishTell ref21Tell
   show ∃ x, ((publishOr1 _ _ _ _ _ _ _ _ _ _ _ _ _ _ _ _ _ _ _ _ _ _ _ _ _ _ _ _ _ _ _).bind _) = some x ∧ (bif (r.e == (0 : Int)) then _ else _) = some x ∧ _
   unfold publishOr1 publishWriterTo
   cases he : (r.e == 0) with
   | true => exact ⟨_, rfl, rfl, rfl, rfl, rfl⟩
   | false => exact ⟨_, rfl, rfl, rfl, rfl, rfl⟩
  ·exact ⟨_, rfl, rfl, rfl, rfl, rfl⟩
  ·unfold publishTell ref21Tell
   show ∃ x, ((publishWriterRenamed _ r).bind fun r_6 => some r_6) = some x ∧ (bif (r.e == (0 : Int)) then _ else _) = some x ∧ _
   unfold publishWriterRenamed publishOr1 publishWriterTo
   cases he : (r.e == 0) with
   | true => exact ⟨_, rfl, rfl, rfl, rfl, rfl⟩
   | false => exact ⟨_, rfl, rfl, rfl, rfl, rfl⟩
  ·exact ⟨_, rfl, rfl, rfl, rfl, rfl⟩
  ·obtain ⟨o, ho⟩ := fail_some ⟨9, p, 6, fd, nF, modeF, tries, atF, flags, path, path2, text, names, stack, draws, false, exit, out, e⟩ path nF n0 n1 (by omega)
   refine ⟨⟨9, p, 6, fd, nF, modeF, tries, atF, flags, path, path2, text, names, stack, draws, true, 1, o, nF⟩, ?_, ?_, ?_⟩
   ·show ((publishWriterFailed _ r).bind fun r_6 => some r_6) = _
    unfold publishWriterFailed
    simp only [ho, Option.bind_some]
   ·show ((ref15Fail _ path nF).bind fun r_2 => some r_2) = _
    rw [fail_eq _ _ _ n0 n1, ho]; rfl
   ·exact ⟨rfl, rfl, rfl⟩
 ·obtain ⟨m1, m2⟩ := not_mine hm
  unfold publishTell ref21Tell
  rw [m1, m2]
  exact ⟨_, rfl, rfl, rfl, rfl, rfl⟩
theorem PublishSteps_true (j : JobD) (r : ReplyD) (h2 : j.nF ≤ 9223372036854775807) (h1 : r.e ≤ 9223372036854775807) : law21PublishSteps j r = some true := by
 unfold law21PublishSteps shownX law21Reply
 obtain ⟨b, hb, hb2⟩ := plain_eq j
 rw [hb, Option.bind_some]
 cases b with
 | false => rfl
 | true =>
  have hj := hb2 rfl
  simp only [Bool.not_true, cond_false, Option.bind_some]
  by_cases hl : r.l.length > 60
  ·have e : decide ((r.l.length : Int) > 60) = true := by simp; omega
   rw [e, cond_true]
  ·have e : decide ((r.l.length : Int) > 60) = false := by simp; omega
   rw [e, cond_false]
   by_cases h0 : r.e < 0
   ·rw [decide_eq_true h0, cond_true]
   ·rw [decide_eq_false h0, cond_false]
    by_cases n0 : j.nF < 0
    ·rw [decide_eq_true n0, cond_true]
    ·rw [decide_eq_false n0, cond_false]
     obtain ⟨c, c1, c2⟩ := ask_eq j hj.text
     obtain ⟨x, x1, x2, hx⟩ := tell_eq j r (by omega) h1 (by omega) h2 hj
     have hw := work_eq j (by have := hj.stack; omega)
     have ht : Tame x := ⟨by rw [hx.names]; have := hj.names; omega, by rw [hx.stack]; have := hj.stack; omega, by rw [hx.stack]; intro f hf; have := hj.inner f hf; omega, by rw [hx.draws]; have := hj.draws; omega⟩
     simp only [c1, c2, hw, x1, x2, Option.bind_some, beq_self_eq_true, seq_self, Bool.and_self, cond_true, work_eq x ht.stack, job_self x ht]
end Go.Proofs.YtaenhodkpidocaaGreatDoor.Den
