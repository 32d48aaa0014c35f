/- Texts joined by a program of mine (pack.py): PlGrp PlPar PlH PlJob PlBase PlPlain PlMode PlClone. -/
import Derived.Test.YtdbekeidlppfiaaGreatDoorDenTy
import Derived.Test.YtdbekeidlppfiaaGreatDoorDenF21
import Derived.Lib.ItoaLen
import Derived.Test.YtdbekeidlppfiaaGreatDoorBits
set_option linter.unusedVariables false
set_option linter.unusedSimpArgs false
namespace Go.Proofs.YtdbekeidlppfiaaGreatDoor.Den
open Go Go.RowKit
theorem seq_nil (l : List UInt8) : seq (bs l) (bs []) = l.isEmpty := by rw [seq_by, by_bs, by_bs]; cases l <;> rfl
theorem room16 {n : Nat} (h : n ≤ 1000000000) : room n 16 := ⟨by omega, by omega⟩
abbrev GO1 := (ByteArray × (List ByteArray)) ⊕ (ByteArray × (List ByteArray)) ⊕ (ByteArray × (List ByteArray)) ⊕ (ByteArray × (List ByteArray) × (List FlagD)) ⊕ (ByteArray × (List ByteArray) × (List FlagD)) ⊕ (ByteArray × (List ByteArray) × (List FlagD))
end Go.Proofs.YtdbekeidlppfiaaGreatDoor.Den
namespace Go.Proofs.YtdbekeidlppfiaaGreatDoor.Den
open Go Go.RowKit
abbrev AS := (ByteArray × (List ByteArray)) ⊕ (ByteArray × (List ByteArray) × (List FlagD))
def absR : GO1 → ByteArray → Int × List ByteArray × List FlagD → Prop
 | .inl (s', a), s, r => s' = s ∧ r = (0, a, [])
 | .inr (.inl _), _, r => r = (30, [], [])
 | .inr (.inr (.inl _)), _, r => r = (31, [], [])
 | .inr (.inr (.inr (.inl _))), _, r => r = (30, [], [])
 | .inr (.inr (.inr (.inr (.inl _)))), _, r => r = (31, [], [])
 | .inr (.inr (.inr (.inr (.inr (s', a, f))))), s, r => s' = s ∧ r = (0, a, f)
def contA : ((ByteArray × (List ByteArray) × ByteArray × ByteArray × Bool) ⊕ (ByteArray × (List ByteArray) × ByteArray × ByteArray × Bool) ⊕ (ByteArray × (List ByteArray) × ByteArray × ByteArray × Bool × ByteArray × ByteArray × (List ByteArray)) ⊕ (ByteArray × (List ByteArray) × ByteArray × ByteArray × Bool × ByteArray × ByteArray × (List ByteArray) × ByteArray × (List ByteArray)) ⊕ (ByteArray × (List ByteArray) × ByteArray × ByteArray × Bool × ByteArray × ByteArray × (List ByteArray) × ByteArray × (List ByteArray)) ⊕ (ByteArray × (List ByteArray) × ByteArray × ByteArray × Bool × ByteArray × ByteArray × (List ByteArray) × ByteArray × (List ByteArray) × (List FlagD)) ⊕ (ByteArray × (List ByteArray) × ByteArray × ByteArray × Bool × ByteArray × ByteArray × (List ByteArray) × ByteArray × (List ByteArray) × (List FlagD)) ⊕ (ByteArray × (List ByteArray)) ⊕ (ByteArray × (List ByteArray) × (List FlagD) × ByteArray × ByteArray × Bool) ⊕ (ByteArray × (List ByteArray) × (List FlagD) × ByteArray × ByteArray × Bool) ⊕ (ByteArray × (List ByteArray) × (List FlagD) × ByteArray × ByteArray × Bool × ByteArray × ByteArray × (List ByteArray) × (List FlagD)) ⊕ (ByteArray × (List ByteArray) × (List FlagD) × ByteArray × ByteArray × Bool × ByteArray × ByteArray × (List ByteArray) × (List FlagD) × ByteArray × (List ByteArray) × (List FlagD)) ⊕ (ByteArray × (List ByteArray) × (List FlagD) × ByteArray × ByteArray × Bool × ByteArray × ByteArray × (List ByteArray) × (List FlagD) × ByteArray × (List ByteArray) × (List FlagD)) ⊕ (ByteArray × (List ByteArray) × (List FlagD) × ByteArray × ByteArray × Bool × ByteArray × ByteArray × (List ByteArray) × (List FlagD) × ByteArray × (List ByteArray) × (List FlagD)) ⊕ (ByteArray × (List ByteArray) × (List FlagD) × ByteArray × ByteArray × Bool × ByteArray × ByteArray × (List ByteArray) × (List FlagD) × ByteArray × (List ByteArray) × (List FlagD)) ⊕ (ByteArray × (List ByteArray) × (List FlagD))) → Option GO1
 | .inl (v_1, v_2, y_1, r_1, r_2) => (
  some (.inl (v_1, v_2))
 )
 | .inr (.inl (v_1, v_2, y_1, r_1, r_2)) => (
  some (.inl (v_1, v_2))
 )
 | .inr (.inr (.inl (v_1, v_2, y_1, r_1, r_2, r_3, r_4, r_5))) => (
  some (.inl (r_4, r_5))
 )
 | .inr (.inr (.inr (.inl (v_1, v_2, y_1, r_1, r_2, r_3, r_4, r_5, r_6, r_7)))) => (
  some (.inr (.inl (r_6, r_7)))
 )
 | .inr (.inr (.inr (.inr (.inl (v_1, v_2, y_1, r_1, r_2, r_3, r_4, r_5, r_8, r_9))))) => (
  some (.inr (.inr (.inl (r_8, r_9))))
 )
 | .inr (.inr (.inr (.inr (.inr (.inl (v_1, v_2, y_1, r_1, r_2, r_3, r_4, r_5, r_12, r_13, r_14)))))) => (
  some (.inr (.inr (.inr (.inl (r_12, r_13, r_14)))))
 )
 | .inr (.inr (.inr (.inr (.inr (.inr (.inl (v_1, v_2, y_1, r_1, r_2, r_3, r_4, r_5, r_15, r_16, r_17))))))) => (
  some (.inr (.inr (.inr (.inr (.inl (r_15, r_16, r_17))))))
 )
 | .inr (.inr (.inr (.inr (.inr (.inr (.inr (.inl (v_1, v_2)))))))) => (
  some (.inl (v_1, v_2))
 )
 | .inr (.inr (.inr (.inr (.inr (.inr (.inr (.inr (.inl (v_3, v_4, v_5, y_1, r_1, r_2))))))))) => (
  some (.inr (.inr (.inr (.inr (.inr ((v_3, v_4, v_5)))))))
 )
 | .inr (.inr (.inr (.inr (.inr (.inr (.inr (.inr (.inr (.inl (v_3, v_4, v_5, y_1, r_1, r_2)))))))))) => (
  some (.inr (.inr (.inr (.inr (.inr ((v_3, v_4, v_5)))))))
 )
 | .inr (.inr (.inr (.inr (.inr (.inr (.inr (.inr (.inr (.inr (.inl (v_3, v_4, v_5, y_1, r_1, r_2, r_3, r_4, r_5, r_6))))))))))) => (
  some (.inr (.inr (.inr (.inr (.inr ((r_4, r_5, r_6)))))))
 )
 | .inr (.inr (.inr (.inr (.inr (.inr (.inr (.inr (.inr (.inr (.inr (.inl (v_3, v_4, v_5, y_1, r_1, r_2, r_3, r_4, r_5, r_6, r_7, r_8, r_9)))))))))))) => (
  some (.inr (.inr (.inr (.inl (r_7, r_8, r_9)))))
 )
 | .inr (.inr (.inr (.inr (.inr (.inr (.inr (.inr (.inr (.inr (.inr (.inr (.inl (v_3, v_4, v_5, y_1, r_1, r_2, r_3, r_4, r_5, r_6, r_10, r_11, r_12))))))))))))) => (
  some (.inr (.inr (.inr (.inr (.inl (r_10, r_11, r_12))))))
 )
 | .inr (.inr (.inr (.inr (.inr (.inr (.inr (.inr (.inr (.inr (.inr (.inr (.inr (.inl (v_3, v_4, v_5, y_1, r_1, r_2, r_3, r_4, r_5, r_6, r_16, r_17, r_18)))))))))))))) => (
  some (.inr (.inr (.inr (.inl (r_16, r_17, r_18)))))
 )
 | .inr (.inr (.inr (.inr (.inr (.inr (.inr (.inr (.inr (.inr (.inr (.inr (.inr (.inr (.inl (v_3, v_4, v_5, y_1, r_1, r_2, r_3, r_4, r_5, r_6, r_19, r_20, r_21))))))))))))))) => (
  some (.inr (.inr (.inr (.inr (.inl (r_19, r_20, r_21))))))
 )
 | .inr (.inr (.inr (.inr (.inr (.inr (.inr (.inr (.inr (.inr (.inr (.inr (.inr (.inr (.inr ((v_3, v_4, v_5)))))))))))))))) => (
  some (.inr (.inr (.inr (.inr (.inr ((v_3, v_4, v_5)))))))
 )
def AOk (s : ByteArray) (st : AS) (n : Nat) (r : Int × List ByteArray × List FlagD) : Prop :=
 ∃ x, iterN optionTakerAll_b1 n st = some x ∧ ∃ y, contA x = some y ∧ absR y s r
theorem AOk.done {s : ByteArray} {st : AS} {n : Nat} {r : Int × List ByteArray × List FlagD} {x} {y : GO1} (h : optionTakerAll_b1 st = some (.inr x)) (h2 : contA x = some y) (h3 : absR y s r) : AOk s st (n + 1) r := ⟨x, iterN_done h, y, h2, h3⟩
theorem AOk.step {s : ByteArray} {st st' : AS} {n : Nat} {r : Int × List ByteArray × List FlagD} (h : optionTakerAll_b1 st = some (.inl st')) (k : AOk s st' n r) : AOk s st (n + 1) r := by
 obtain ⟨x, h1, h2⟩ := k
 exact ⟨x, iterN_step h h1, h2⟩
end Go.Proofs.YtdbekeidlppfiaaGreatDoor.Den
namespace Go.Proofs.YtdbekeidlppfiaaGreatDoor.Den
open Go Go.RowKit
theorem ltd {i n : Nat} (h : i < n) : decide ((i : Int) < (n : Int)) = true := by simp; exact h
theorem ltf {n : Nat} : decide ((n : Int) < (n : Int)) = false := by simp
theorem drop_at {α : Type} {l : List α} {i : Nat} {x : α} {t : List α} (h : l.drop i = x :: t) : ∃ hi : i < l.length, l[i] = x ∧ l.drop (i + 1) = t := by
 rcases Nat.lt_or_ge i l.length with h1 | h1
 ·rw [List.drop_eq_getElem_cons h1] at h
  injection h with h2 h3
  exact ⟨h1, h2, h3⟩
 ·rw [List.drop_eq_nil_of_le h1] at h; cases h
theorem drop_end {α : Type} {l : List α} {i : Nat} (h : l.drop i = []) (hi : i ≤ l.length) : i = l.length := by
 have := congrArg List.length h
 simp at this; omega
theorem texts_loop (l : List ByteArray) (hl : l.length ≤ 1000000) : ∀ (t : List ByteArray) (i : Nat), l.drop i = t → i ≤ l.length → iterN (ref01Texts_b4 l l) (t.length + 1) (i : Int) = some (.inr (l.length : Int))
 | [], i, h, hi => by
  obtain rfl := drop_end h hi
  refine iterN_done ?_
  simp only [ref01Texts_b4, ltf, cond_false]
 | x :: t, i, h, hi => by
  obtain ⟨hlt, hx, ht⟩ := drop_at h
  refine iterN_step (a' := ((i + 1 : Nat) : Int)) ?_ (texts_loop l hl t (i + 1) ht hlt)
  simp only [ref01Texts_b4, ltd hlt, cond_true, gt_nat hlt, hx, Option.bind_some, seq_self, Bool.not_true, cond_false, w64_succ (i := i) (by omega)]
theorem texts_self (l : List ByteArray) (hl : l.length ≤ 1000000) : ref01Texts l l = some true := by
 unfold ref01Texts
 have e1 : ((l.length : Int) != (l.length : Int)) = false := by simp
 have h := iterN_LF (texts_loop l hl l 0 rfl (Nat.zero_le _)) (by omega)
 rw [show ((0 : Nat) : Int) = (0 : Int) from rfl] at h
 rw [e1, cond_false, h]; rfl
end Go.Proofs.YtdbekeidlppfiaaGreatDoor.Den
namespace Go.Proofs.YtdbekeidlppfiaaGreatDoor.Den
open Go Go.RowKit
def digB (d : Nat) : ByteArray := bs [UInt8.ofNat (48 + d)]
theorem wrap_u64 {a : Int} (h1 : 0 ≤ a) (h2 : a < 18446744073709551616) : IntKind.u64.wrap a = a := by
 have e1 : (2 : Int) ^ 64 = 18446744073709551616 := by decide
 simp only [IntKind.wrap, IntKind.bits, IntKind.signed, e1, Bool.false_and]
 simp
 omega
theorem dig_ext : ∀ d : Nat, d < 10 → (bs [48, 49, 50, 51, 52, 53, 54, 55, 56, 57]).extract d (d + 1) = digB d
 | 0, _ => rfl
 | 1, _ => rfl
 | 2, _ => rfl
 | 3, _ => rfl
 | 4, _ => rfl
 | 5, _ => rfl
 | 6, _ => rfl
 | 7, _ => rfl
 | 8, _ => rfl
 | 9, _ => rfl
 | n + 10, h => by omega
theorem tmod_nat (n : Nat) : Int.tmod (n : Int) 10 = ((n % 10 : Nat) : Int) := rfl
theorem tdiv_nat (n : Nat) : Int.tdiv (n : Int) 10 = ((n / 10 : Nat) : Int) := rfl
theorem dig_at (n : Nat) : (bs [48, 49, 50, 51, 52, 53, 54, 55, 56, 57]).extract ((Int.tmod (n : Int) (10 : Int))).toNat ((IntKind.wrap .u64 ((Int.tmod (n : Int) (10 : Int)) + (1 : Int)))).toNat = digB (n % 10) := by
 have h : n % 10 < 10 := Nat.mod_lt _ (by decide)
 rw [tmod_nat, wrap_u64 (by omega) (by omega)]
 have e : (((n % 10 : Nat) : Int) + 1).toNat = n % 10 + 1 := by omega
 rw [e, Int.toNat_natCast, dig_ext _ h]
theorem natural_loop : ∀ (n : Nat) (acc : ByteArray), n < 18446744073709551616 → acc.size + Lib.nDigits n ≤ 1000 →
  ∃ (v1 : Nat) (v2 : ByteArray), iterN ref15Natural_b2 (Lib.nDigits n) ((n : Int), acc) = some ((v1 : Int), v2) ∧ digB (v1 % 10) ++ v2 = bs (Lib.decDigits n) ++ acc := by
 intro n
 induction n using Nat.strongRecOn with
 | _ n ih =>
  intro acc hn ha
  have hm : n % 10 < 10 := Nat.mod_lt _ (by decide)
  have hstep : ref15Natural_b2 ((n : Int), acc) = bif (((n / 10 : Nat) : Int) == 0) then some (.inr ((n : Int), acc)) else some (.inl (((n / 10 : Nat) : Int), digB (n % 10) ++ acc)) := by
   unfold ref15Natural_b2
   simp only
   rw [dig_at]
   rw [grd_pos (by
    rw [tmod_nat, wrap_u64 (by omega) (by omega)]
    refine ⟨by omega, by omega, ?_⟩
    show _ ≤ ((10 : Nat) : Int)
    omega)]
   rw [grd_pos (by
    show ¬ _ > (9223372036854775807 : Int)
    have : (digB (n % 10)).size = 1 := rfl
    rw [this]
    omega)]
   rw [tdiv_nat, wrap_u64 (by omega) (by omega)]
  by_cases h : n < 10
  ·refine ⟨n, acc, ?_, ?_⟩
   ·rw [Lib.nDigits_small h]
    refine iterN_done (hstep.trans ?_)
    have : n / 10 = 0 := by omega
    rw [this]; rfl
   ·rw [Lib.decDigits, dif_pos h, Nat.mod_eq_of_lt h]; rfl
  ·rw [Lib.nDigits_big h] at ha ⊢
   have hs : (digB (n % 10) ++ acc).size = acc.size + 1 := by
    rw [size_by, by_append, List.length_append, size_by acc]
    show 1 + _ = _
    omega
   obtain ⟨v1, v2, e1, e2⟩ := ih (n / 10) (by omega) (digB (n % 10) ++ acc) (by omega) (by rw [hs]; omega)
   refine ⟨v1, v2, iterN_step (hstep.trans ?_) e1, ?_⟩
   ·have : (((n / 10 : Nat) : Int) == 0) = false := by simp; omega
    rw [this]; rfl
   ·have e3 : Lib.decDigits n = Lib.decDigits (n / 10) ++ [UInt8.ofNat (48 + n % 10)] := by rw [Lib.decDigits, dif_neg h]
    rw [e2, e3]
    apply by_inj
    simp [by_append, by_bs, digB]
theorem natural_eq (n : Nat) (hn : n < 18446744073709551616) : ref15Natural (n : Int) = some (bs (Lib.decDigits n)) := by
 have hd := Lib.nDigits_le20 n hn
 obtain ⟨v1, v2, h1, h2⟩ := natural_loop n (bs []) hn (by show 0 + _ ≤ 1000; omega)
 have h3 := iterN_LF h1 (by omega)
 unfold ref15Natural
 rw [h3, Option.bind_some]
 simp only
 rw [dig_at, h2]
 congr 1
 apply by_inj
 simp [by_append, by_bs]
theorem digits_eq (n : Int) (h0 : 0 ≤ n) (h1 : n ≤ 9223372036854775807) : ref15Digits n = itoaX n := by
 obtain ⟨m, rfl⟩ := Int.eq_ofNat_of_zero_le h0
 unfold ref15Digits itoaX
 rw [if_pos ⟨by omega, h1⟩]
 have e : decide ((m : Int) < 0) = false := by simp
 rw [e, cond_false, wrap_u64 (by omega) (by omega), natural_eq m (by omega), Option.bind_some, Lib.itoa_nonneg]
theorem fail_eq (j : JobD) (path : ByteArray) (e : Int) (h0 : 0 ≤ e) (h1 : e ≤ 9223372036854775807) : ref15Fail j path e = jobFail j path e := by
 unfold ref15Fail jobFail
 rw [digits_eq e h0 h1]
theorem fail_some (j : JobD) (path : ByteArray) (e : Int) (h0 : 0 ≤ e) (h1 : e ≤ 9223372036854775807) (hp : path.size ≤ 1125899906842624) : ∃ o : ByteArray, jobFail j path e = some { j with done := true, exit := 1, out := o, e := e } := by
 unfold jobFail
 have hm : (IntKind.i64.max : Int) = 9223372036854775807 := by decide
 have he : (bs [58, 32, 101, 114, 114, 111, 114, 32]).size = 8 := rfl
 have hl := Lib.itoa_length_le e (by omega) h1
 rw [grd_pos (by rw [hm, he]; omega)]
 unfold itoaX
 rw [if_pos ⟨by omega, h1⟩, Option.bind_some, grd_pos (by
  rw [hm, size_by, by_append, List.length_append, ← size_by, ← size_by, he]
  have : (⟨(Lib.itoa e).toArray⟩ : ByteArray).size = (Lib.itoa e).length := by rw [size_by]; rfl
  rw [this]; omega)]
 exact ⟨_, rfl⟩
theorem room48 {n : Nat} (h : n ≤ 1000001) : room n 48 := by unfold room; omega
theorem work_loop {a0 a1 a2 a3 a4 a5 a6 a7 a8 : Int} {t0 t1 t2 : ByteArray} {ns : List ByteArray} (l : List FrameD) {dr : List Int} {dn : Bool} {ex : Int} {out : ByteArray} {er : Int}
  {b0 b1 b2 b3 b4 b5 b6 b7 b8 : Int} {u0 u1 u2 : ByteArray} {ms : List ByteArray} {ds : List Int} {dm : Bool} {ey : Int} {ou : ByteArray} {es : Int} (hl : l.length ≤ 1000000) :
  ∀ (k i : Nat), i + k = l.length → iterN (law18Work_b3 a0 a1 a2 a3 a4 a5 a6 a7 a8 t0 t1 t2 ns l dr dn ex out er b0 b1 b2 b3 b4 b5 b6 b7 b8 u0 u1 u2 ms ds dm ey ou es) (k + 1) ((i : Int), l.take i) =
   some (match l with | [] => .inl (l.length : Int) | z :: y => .inr ((l.length : Int), z, y))
 | 0, i, hk => by
  obtain rfl : i = l.length := by omega
  rw [List.take_length]
  refine iterN_done ?_
  cases l with
  | nil => simp only [law18Work_b3, ltf, cond_false]
  | cons z y => simp only [law18Work_b3, ltf, cond_false]
 | k + 1, i, hk => by
  have hlt : i < l.length := by omega
  have ih := work_loop (a0 := a0) (a1 := a1) (a2 := a2) (a3 := a3) (a4 := a4) (a5 := a5) (a6 := a6) (a7 := a7) (a8 := a8) (t0 := t0) (t1 := t1) (t2 := t2) (ns := ns) l (dr := dr) (dn := dn) (ex := ex) (out := out) (er := er) (b0 := b0) (b1 := b1) (b2 := b2) (b3 := b3) (b4 := b4) (b5 := b5) (b6 := b6) (b7 := b7) (b8 := b8) (u0 := u0) (u1 := u1) (u2 := u2) (ms := ms) (ds := ds) (dm := dm) (ey := ey) (ou := ou) (es := es) hl k (i + 1) (by omega)
  refine iterN_step (a' := (((i + 1 : Nat) : Int), l.take (i + 1))) ?_ ih
  cases h : l.take i with
  | nil =>
   have hi := take_nil hlt h
   subst hi
   simp only [law18Work_b3, ltd hlt, cond_true, gt_nat hlt, Option.bind_some, w64_succ (i := 0) (by omega)]
   congr 3
   cases l with
   | nil => simp at hlt
   | cons z y => rfl
  | cons z y =>
   have hz : (z :: y).length ≤ 1000000 := by rw [← h, List.length_take]; omega
   simp only [law18Work_b3, ltd hlt, cond_true, gt_nat hlt, Option.bind_some, grd_pos (room48 (n := (z :: y).length + 1) (by omega)), w64_succ (i := i) (by omega)]
   rw [take_cons hlt h]
theorem work_eq (j : JobD) (hl : j.stack.length ≤ 1000000) : law18Work j = some j := by
 unfold law18Work
 have h := iterN_LF (work_loop (a0 := j.kind) (a1 := j.p) (a2 := j.phase) (a3 := j.fd) (a4 := j.nF) (a5 := j.modeF) (a6 := j.tries) (a7 := j.atF) (a8 := j.flags) (t0 := j.path) (t1 := j.path2) (t2 := j.text) (ns := j.names) j.stack (dr := j.draws) (dn := j.done) (ex := j.exit) (out := j.out) (er := j.e) (b0 := j.kind) (b1 := j.p) (b2 := j.phase) (b3 := j.fd) (b4 := j.nF) (b5 := j.modeF) (b6 := j.tries) (b7 := j.atF) (b8 := j.flags) (u0 := j.path) (u1 := j.path2) (u2 := j.text) (ms := j.names) (ds := j.draws) (dm := j.done) (ey := j.exit) (ou := j.out) (es := j.e) hl j.stack.length 0 (by omega)) (by omega)
 rw [show ((0 : Nat) : Int) = (0 : Int) from rfl, List.take_zero] at h
 rw [h, Option.bind_some]
 obtain ⟨q0, q1, q2, q3, q4, q5, q6, q7, q8, q9, q10, q11, q12, st, q14, q15, q16, q17, q18⟩ := j
 cases st <;> rfl
theorem frames_loop (l : List FrameD) (hl : l.length ≤ 1000000) (hf : ∀ f ∈ l, f.names.length ≤ 1000000) : ∀ (t : List FrameD) (i : Nat), l.drop i = t → i ≤ l.length → iterN (ref15Frames_b4 l l) (t.length + 1) (i : Int) = some (.inr (.inr (.inr (l.length : Int))))
 | [], i, h, hi => by
  obtain rfl := drop_end h hi
  refine iterN_done ?_
  simp only [ref15Frames_b4, ltf, cond_false]
 | x :: t, i, h, hi => by
  obtain ⟨hlt, hx, ht⟩ := drop_at h
  refine iterN_step (a' := ((i + 1 : Nat) : Int)) ?_ (frames_loop l hl hf t (i + 1) ht hlt)
  have hn := texts_self x.names (hf x (hx ▸ List.getElem_mem hlt))
  simp only [ref15Frames_b4, ltd hlt, cond_true, gt_nat hlt, hx, Option.bind_some, bne_self_eq_false, seq_self, Bool.not_true, cond_false, hn, w64_succ (i := i) (by omega)]
theorem frames_self (l : List FrameD) (hl : l.length ≤ 1000000) (hf : ∀ f ∈ l, f.names.length ≤ 1000000) : ref15Frames l l = some true := by
 unfold ref15Frames
 have e1 : ((l.length : Int) != (l.length : Int)) = false := by simp
 have h := iterN_LF (frames_loop l hl hf l 0 rfl (Nat.zero_le _)) (by omega)
 rw [show ((0 : Nat) : Int) = (0 : Int) from rfl] at h
 rw [e1, cond_false, h]; rfl
theorem ints_loop (l : List Int) (hl : l.length ≤ 1000000) : ∀ (t : List Int) (i : Nat), l.drop i = t → i ≤ l.length → iterN (ref15Ints_b4 l l) (t.length + 1) (i : Int) = some (.inr (l.length : Int))
 | [], i, h, hi => by
  obtain rfl := drop_end h hi
  refine iterN_done ?_
  simp only [ref15Ints_b4, ltf, cond_false]
 | x :: t, i, h, hi => by
  obtain ⟨hlt, hx, ht⟩ := drop_at h
  refine iterN_step (a' := ((i + 1 : Nat) : Int)) ?_ (ints_loop l hl t (i + 1) ht hlt)
  simp only [ref15Ints_b4, ltd hlt, cond_true, gt_nat hlt, hx, Option.bind_some, bne_self_eq_false, cond_false, w64_succ (i := i) (by omega)]
theorem ints_self (l : List Int) (hl : l.length ≤ 1000000) : ref15Ints l l = some true := by
 unfold ref15Ints
 have e1 : ((l.length : Int) != (l.length : Int)) = false := by simp
 have h := iterN_LF (ints_loop l hl l 0 rfl (Nat.zero_le _)) (by omega)
 rw [show ((0 : Nat) : Int) = (0 : Int) from rfl] at h
 rw [e1, cond_false, h]; rfl
structure Tame (j : JobD) : Prop where
 names : j.names.length ≤ 1000000
 stack : j.stack.length ≤ 1000000
 inner : ∀ f ∈ j.stack, f.names.length ≤ 1000000
 draws : j.draws.length ≤ 1000000
theorem job_self (j : JobD) (h : Tame j) : ref15Same j j = some true := by
 unfold ref15Same
 rw [texts_self _ h.names, frames_self _ h.stack h.inner, ints_self _ h.draws]
 simp only [Option.bind_some, Bool.not_true, cond_false, beq_self_eq_true, cond_true, seq_self]
end Go.Proofs.YtdbekeidlppfiaaGreatDoor.Den
namespace Go.Proofs.YtdbekeidlppfiaaGreatDoor.Den
open Go Go.RowKit
def tailS (l : List UInt8) : List UInt8 := (l.reverse.takeWhile (· != 47)).reverse
def baseB (l : List UInt8) : Option (List UInt8) := if Lib.trimRightB l 47 = [] then none else some (tailS (Lib.trimRightB l 47))
theorem tailS_of {l a t : List UInt8} (h : l = a ++ t) (ht : ∀ x ∈ t, x ≠ 47) (ha : a = [] ∨ ∃ a', a = a' ++ [47]) : tailS l = t := by
 unfold tailS
 rw [h, List.reverse_append, List.takeWhile_append_of_pos (by intro x hx; simpa using ht x (by simpa using hx))]
 have : a.reverse.takeWhile (· != 47) = [] := by
  rcases ha with rfl | ⟨a', rfl⟩ <;> simp
 rw [this]; simp
theorem tailS_snoc {l : List UInt8} {c : UInt8} (h : c ≠ 47) : tailS (l ++ [c]) = tailS l ++ [c] := by
 unfold tailS
 rw [List.reverse_append]
 simp [List.takeWhile_cons, h]
theorem tailS_slash (l : List UInt8) : tailS (l ++ [47]) = [] := by
 unfold tailS
 rw [List.reverse_append]
 simp [List.takeWhile_cons]
theorem trim_snoc {l : List UInt8} {c : UInt8} (h : c ≠ 47) : Lib.trimRightB (l ++ [c]) 47 = l ++ [c] := by
 unfold Lib.trimRightB
 rw [List.reverse_append]
 simp [List.dropWhile_cons, h]
theorem trim_slash (l : List UInt8) : Lib.trimRightB (l ++ [47]) 47 = Lib.trimRightB l 47 := by
 unfold Lib.trimRightB
 rw [List.reverse_append]
 simp [List.dropWhile_cons]
theorem baseB_snoc {l : List UInt8} {c : UInt8} (h : c ≠ 47) : baseB (l ++ [c]) = some (tailS l ++ [c]) := by
 unfold baseB
 rw [trim_snoc h, if_neg (by simp), tailS_snoc h]
theorem baseB_slash (l : List UInt8) : baseB (l ++ [47]) = baseB l := by unfold baseB; rw [trim_slash]
theorem trim_le (l : List UInt8) : (Lib.trimRightB l 47).length ≤ l.length := by
 unfold Lib.trimRightB
 rw [List.length_reverse]
 exact Nat.le_trans (List.dropWhile_sublist _).length_le (by simp)
theorem tail_le (l : List UInt8) : (tailS l).length ≤ l.length := by
 unfold tailS
 rw [List.length_reverse]
 exact Nat.le_trans (List.takeWhile_sublist _).length_le (by simp)
theorem last_eq (l : List UInt8) (hl : l.length ≤ 1000000) : ∃ k : Nat, lastIxX (bs l) (bs [47]) = some ((k : Int) - 1) ∧ k ≤ l.length ∧ l.drop k = tailS l := by
 have hsz : (bs l).size = l.length := rfl
 have e0 : lastIxX (bs l) (bs [47]) = some (Lib.lastIndexByte (bs l) 47) := by
  unfold lastIxX
  show (if (bs l).size < 4611686018427387904 then _ else _) = _
  rw [if_pos (by rw [hsz]; omega)]
  rfl
 have hat : ∀ (j : Nat) (hj : j < l.length), (bs l).data[j]! = l[j] := by
  intro j hj
  show (Array.mk l)[j]! = _
  simp [hj]
 rw [e0]
 rcases Lib.lastIndexByte_spec (bs l) 47 with ⟨e, hn⟩ | ⟨i, hi, e, hc, hn⟩
 ·refine ⟨0, by rw [e]; rfl, Nat.zero_le _, ?_⟩
  rw [List.drop_zero]
  refine (tailS_of (a := []) rfl (fun x hx he => ?_) (.inl rfl)).symm
  obtain ⟨j, hj, rfl⟩ := List.getElem_of_mem hx
  have := hn j hj
  rw [hat j hj, he] at this
  exact this rfl
 ·have hi' : i < l.length := hi
  refine ⟨i + 1, by rw [e]; congr 1; omega, hi', ?_⟩
  have e47 : l[i] = 47 := by
   rw [hat i hi'] at hc
   exact UInt8.toNat_inj.1 (by have : (l[i].toNat : Int) = 47 := hc; show l[i].toNat = 47; omega)
  refine (tailS_of (a := l.take (i + 1)) (List.take_append_drop _ _).symm (fun x hx he => ?_) (.inr ⟨l.take i, ?_⟩)).symm
  ·obtain ⟨j, hj, rfl⟩ := List.getElem_of_mem hx
   rw [List.length_drop] at hj
   rw [List.getElem_drop] at he
   have := hn (i + 1 + j) (by omega) (by show i + 1 + j < l.length; omega)
   rw [hat (i + 1 + j) (by omega), he] at this
   exact this rfl
  ·rw [List.take_succ_eq_append_getElem hi', e47]
def baseX (p : List UInt8) : List UInt8 := match baseB p with
 | some t => t
 | none => if p = [] then [] else [47]
theorem baseX_le (p : List UInt8) : (baseX p).length ≤ p.length + 1 := by
 unfold baseX baseB
 split
 ·rename_i t h
  split at h
  ·cases h
  ·cases h
   exact Nat.le_trans (tail_le _) (Nat.le_trans (trim_le _) (by omega))
 ·split <;> simp
theorem seq_nilB (l : List UInt8) : seq (bs l) (bs []) = decide (l = []) := by rw [seq_nil]; cases l <;> simp
theorem routeBase_eq (p : List UInt8) (hp : p.length ≤ 1000000) : routeBase (bs p) = some (bs (baseX p)) := by
 have e0 : trimRX (bs p) (bs [47]) = some (bs (Lib.trimRightB p 47)) := by
  unfold trimRX
  show (if (47 : UInt8).toNat < 128 ∧ (bs p).size ≤ 9223372036854775807 then _ else _) = _
  rw [if_pos ⟨by decide, by show p.length ≤ _; omega⟩]
 have hr := trim_le p
 obtain ⟨k, h1, h2, h3⟩ := last_eq (Lib.trimRightB p 47) (by omega)
 have hsz : (bs (Lib.trimRightB p 47)).size = (Lib.trimRightB p 47).length := rfl
 have hend : (lastIxX (bs (Lib.trimRightB p 47)) (bs [47])).bind (fun r_2 =>
   grd (0 ≤ (w64 (r_2 + (1 : Int))) ∧ (w64 (r_2 + (1 : Int))) ≤ ((bs (Lib.trimRightB p 47)).size : Int) ∧ ((bs (Lib.trimRightB p 47)).size : Int) ≤ ((bs (Lib.trimRightB p 47)).size : Int)) <|
   some ((bs (Lib.trimRightB p 47)).extract ((w64 (r_2 + (1 : Int)))).toNat (bs (Lib.trimRightB p 47)).size)) = some (bs (tailS (Lib.trimRightB p 47))) := by
  rw [h1, Option.bind_some]
  have e : w64 ((k : Int) - 1 + 1) = (k : Int) := by rw [w64_eq (by omega) (by omega)]; omega
  simp only [e]
  rw [grd_pos ⟨by omega, by rw [hsz]; omega, by omega⟩]
  congr 1
  apply by_inj
  rw [Int.toNat_natCast, by_drop, by_bs, by_bs, h3]
 unfold routeBase
 rw [e0, Option.bind_some, seq_nilB, seq_nilB, hend]
 unfold baseX baseB
 by_cases hn : Lib.trimRightB p 47 = []
 ·rw [if_pos hn, decide_eq_true hn, cond_true]
  by_cases hq : p = []
  ·subst hq; rfl
  ·rw [decide_eq_false hq, Bool.not_false, cond_true]
   simp [hq]
 ·rw [if_neg hn, decide_eq_false hn, cond_false]
structure SpI (l : List UInt8) (i : Nat) (cur : List UInt8) (out : List ByteArray) : Prop where
 last : (if cur = [] then out.getLast? else some (bs cur)) = (baseB (l.take i)).map bs
 tl : i < l.length → cur = tailS (l.take i)
 fin : i = l.length → cur = []
 len : out.length ≤ i
 clen : cur.length ≤ i
theorem ext_one {l : List UInt8} {i : Nat} (h : i < l.length) : (bs l).extract i (i + 1) = bs [l[i]] := by
 apply by_inj
 rw [by_extract, by_bs, by_bs, List.take_succ_eq_append_getElem h, List.drop_append_of_le_length (by simp; omega)]
 simp [List.drop_take_self]
theorem split_step {l : List UInt8} (hl : l.length ≤ 1000000) {i : Nat} (hi : i < l.length) {cur : List UInt8} {out : List ByteArray} (I : SpI l i cur out) :
  ∃ cur' out', ref01Split_b4 (bs l) (bs cur, (i : Int), out) = some (.inl (bs cur', ((i + 1 : Nat) : Int), out')) ∧ SpI l (i + 1) cur' out' := by
 have hsz : (bs l).size = l.length := rfl
 have hg : gtS (bs l) (i : Int) = some l[i] := by rw [gtS_by, by_bs, List.getElem?_eq_getElem hi]
 have hm : (IntKind.i64.max : Int) = 9223372036854775807 := by decide
 have hlt : decide ((i : Int) < ((bs l).size : Int)) = true := by rw [hsz]; exact ltd hi
 have hw : w64 ((i : Int) + 1) = ((i + 1 : Nat) : Int) := w64_succ (by omega)
 have ht : l.take (i + 1) = l.take i ++ [l[i]] := List.take_succ_eq_append_getElem hi
 have hx : (bs l).extract ((i : Int)).toNat ((((i + 1 : Nat) : Int))).toNat = bs [l[i]] := by rw [Int.toNat_natCast, Int.toNat_natCast, ext_one hi]
 by_cases hc : l[i] = 47
 ·have e1 : ((l[i].toNat : Int) != 47) = false := by rw [hc]; rfl
  have e2 : ((l[i].toNat : Int) == 47) = true := by rw [hc]; rfl
  rw [hc] at ht
  by_cases hq : cur = []
  ·subst hq
   refine ⟨[], out, ?_, ?_, fun _ => ?_, fun _ => rfl, by have := I.len; omega, by simp⟩
   ·simp only [ref01Split_b4, hlt, cond_true, hg, Option.bind_some, e1, cond_false, seq_nilB, hw]
    rfl
   ·rw [ht, baseB_slash]; exact I.last
   ·rw [ht, tailS_slash]
  ·refine ⟨[], out ++ [bs cur], ?_, ?_, fun _ => ?_, fun _ => rfl, by have := I.len; simp; omega, by simp⟩
   ·have e3 : (!decide (cur = [])) = true := by simp [hq]
    have := I.len
    simp only [ref01Split_b4, hlt, cond_true, hg, Option.bind_some, e1, e2, cond_false, seq_nilB, hw, e3, grd_pos (room16 (n := out.length + 1) (by omega))]
   ·rw [ht, baseB_slash, if_pos rfl, List.getLast?_concat, ← I.last, if_neg hq]
   ·rw [ht, tailS_slash]
 ·have e1 : ((l[i].toNat : Int) != 47) = true := by
   simp only [bne_iff_ne, ne_eq]
   intro h
   exact hc (UInt8.toNat_inj.1 (by show l[i].toNat = 47; omega))
  have e2 : ((l[i].toNat : Int) == 47) = false := by
   simp only [beq_eq_false_iff_ne, ne_eq]
   intro h
   exact hc (UInt8.toNat_inj.1 (by show l[i].toNat = 47; omega))
  have e4 : bs cur ++ bs [l[i]] = bs (cur ++ [l[i]]) := by apply by_inj; rw [by_append, by_bs, by_bs, by_bs]
  have e5 : (!decide (cur ++ [l[i]] = [])) = true := by simp
  have hcl := I.clen
  have hol := I.len
  have hcur := I.tl hi
  have g1 : 0 ≤ (i : Int) ∧ (i : Int) ≤ ((i + 1 : Nat) : Int) ∧ ((i + 1 : Nat) : Int) ≤ ((bs l).size : Int) := ⟨by omega, by omega, by rw [hsz]; omega⟩
  have g2 : ¬ ((((bs cur).size + (bs [l[i]]).size : Nat) : Int) > IntKind.i64.max) := by
   rw [hm]; show ¬ (((cur.length + 1 : Nat) : Int) > _); omega
  have hb : baseB (l.take (i + 1)) = some (cur ++ [l[i]]) := by rw [ht, baseB_snoc hc, hcur]
  have hw2 : w64 (((bs l).size : Int) - 1) = (l.length : Int) - 1 := by rw [hsz]; exact w64_eq (by omega) (by omega)
  by_cases hend : i + 1 = l.length
  ·refine ⟨[], out ++ [bs (cur ++ [l[i]])], ?_, ?_, fun h => by omega, fun _ => rfl, by simp; omega, by simp⟩
   ·have e6 : ((i : Int) == (l.length : Int) - 1) = true := by simp; omega
    simp only [ref01Split_b4, hlt, cond_true, hg, Option.bind_some, e1, e2, cond_false, hw, hx, e4, grd_pos g1, grd_pos g2, seq_nilB, e5, hw2, e6, grd_pos (room16 (n := out.length + 1) (by omega))]
   ·rw [hb, if_pos rfl, List.getLast?_concat]; rfl
  ·refine ⟨cur ++ [l[i]], out, ?_, ?_, fun _ => ?_, fun h => by omega, by omega, by simp; omega⟩
   ·have e6 : ((i : Int) == (l.length : Int) - 1) = false := by simp; omega
    simp only [ref01Split_b4, hlt, cond_true, hg, Option.bind_some, e1, e2, cond_false, hw, hx, e4, grd_pos g1, grd_pos g2, seq_nilB, e5, hw2, e6]
   ·rw [hb, if_neg (by simp)]; rfl
   ·rw [ht, tailS_snoc hc, hcur]
theorem split_loop {l : List UInt8} (hl : l.length ≤ 1000000) : ∀ (k i : Nat) (cur : List UInt8) (out : List ByteArray), i + k = l.length → SpI l i cur out →
  ∃ out', iterN (ref01Split_b4 (bs l)) (k + 1) (bs cur, (i : Int), out) = some (bs [], (l.length : Int), out') ∧ out'.getLast? = (baseB l).map bs ∧ out'.length ≤ l.length
 | 0, i, cur, out, hk, I => by
  obtain rfl : i = l.length := by omega
  have hc := I.fin rfl
  subst hc
  refine ⟨out, iterN_done ?_, ?_, I.len⟩
  ·have : decide ((l.length : Int) < ((bs l).size : Int)) = false := ltf
   simp only [ref01Split_b4, this, cond_false]
  ·have := I.last
   rwa [if_pos rfl, List.take_length] at this
 | k + 1, i, cur, out, hk, I => by
  obtain ⟨cur', out', h1, h2⟩ := split_step hl (by omega) I
  obtain ⟨o, h3, h4⟩ := split_loop hl k (i + 1) cur' out' (by omega) h2
  exact ⟨o, iterN_step h1 h3, h4⟩
theorem ref01Base_eq (p : List UInt8) (hp : p.length ≤ 1000000) : ref01Base (bs p) = some (bs (baseX p)) := by
 obtain ⟨o, h1, h2, h3⟩ := split_loop hp p.length 0 [] [] (by omega) ⟨rfl, fun _ => rfl, fun _ => rfl, Nat.zero_le _, Nat.zero_le _⟩
 have h4 := iterN_LF h1 (by omega)
 rw [show ((0 : Nat) : Int) = (0 : Int) from rfl] at h4
 have hsp : ∃ x y, ref01Split (bs p) = some (o, x, y) := by
  unfold ref01Split
  rw [h4, Option.bind_some]
  simp only [seq_nilB]
  by_cases hq : p = []
  ·subst hq; exact ⟨_, _, rfl⟩
  ·have e : decide (p = []) = false := by simp [hq]
   have hpos : 0 < p.length := List.length_pos_iff.2 hq
   have g0 : gtS (bs p) 0 = some (p[0]'hpos) := by
    rw [show (0 : Int) = ((0 : Nat) : Int) from rfl, gtS_by, by_bs, List.getElem?_eq_getElem hpos]
   have hw2 : w64 (((bs p).size : Int) - 1) = ((p.length - 1 : Nat) : Int) := by
    show w64 ((p.length : Int) - 1) = _
    rw [w64_eq (by omega) (by omega)]; omega
   have g1 : gtS (bs p) ((p.length - 1 : Nat) : Int) = some (p[p.length - 1]'(by omega)) := by rw [gtS_by, by_bs, List.getElem?_eq_getElem]
   rw [e, Bool.not_false, cond_true, g0, Option.bind_some, cond_true, hw2, g1, Option.bind_some]
   exact ⟨_, _, rfl⟩
 obtain ⟨x, y, hsp⟩ := hsp
 unfold ref01Base
 rw [hsp, Option.bind_some]
 simp only [seq_nilB]
 unfold baseX
 by_cases hq : p = []
 ·subst hq; rfl
 ·rw [decide_eq_false hq, cond_false]
  cases hb : baseB p with
  | none =>
   rw [hb] at h2
   have : o = [] := List.getLast?_eq_none_iff.1 h2
   subst this
   simp [hq]
  | some t =>
   rw [hb] at h2
   have hne : o ≠ [] := by rintro rfl; cases h2
   have hpos : 0 < o.length := List.length_pos_iff.2 hne
   have e1 : ((o.length : Int) == 0) = false := by simp; omega
   have hw2 : w64 ((o.length : Int) - 1) = ((o.length - 1 : Nat) : Int) := by rw [w64_eq (by omega) (by omega)]; omega
   rw [e1, cond_false, hw2, gt_nat (i := o.length - 1) (by omega), Option.bind_some]
   rw [List.getLast?_eq_getElem?, List.getElem?_eq_getElem (by omega)] at h2
   exact h2
theorem pre_eq (l : List UInt8) : stringsHasPrefix (bs l) (bs [47]) = some (match l with | [] => false | c :: _ => c == 47) := by
 unfold stringsHasPrefix stringsliteHasPrefix
 cases l with
 | nil => rfl
 | cons c g =>
  have h0 : (bs (c :: g)).size = g.length + 1 := rfl
  have h1 : (bs [47]).size = 1 := rfl
  have e1 : decide (((bs (c :: g)).size : Int) ≥ ((bs [47]).size : Int)) = true := by rw [h0, h1]; simp <;> omega
  have e2 : seq ((bs (c :: g)).extract 0 (((bs [47]).size : Int)).toNat) (bs [47]) = (c == 47) := by
   rw [seq_by]
   show (by_ ((bs (c :: g)).extract 0 1) == _) = _
   rw [by_take, by_bs, by_bs]
   simp
  rw [e1, cond_true, grd_pos (by rw [h0, h1]; refine ⟨?_, ?_, ?_⟩ <;> omega), e2]
  rfl
theorem suf_eq (l : List UInt8) (z : UInt8) (hl : l.length ≤ 1125899906842624) : stringsTrimSuffix (bs (l ++ [z])) (bs [47]) = some (if z = 47 then bs l else bs (l ++ [z])) := by
 have h0 : (bs (l ++ [z])).size = l.length + 1 := by rw [size_by, by_bs]; simp
 have h1 : (bs [47]).size = 1 := rfl
 have hw : w64 (((bs (l ++ [z])).size : Int) - ((bs [47]).size : Int)) = (l.length : Int) := by rw [h0, h1, w64_eq (by omega) (by omega)]; omega
 have e1 : decide (((bs (l ++ [z])).size : Int) ≥ ((bs [47]).size : Int)) = true := by rw [h0, h1]; simp <;> omega
 have e2 : seq ((bs (l ++ [z])).extract ((l.length : Int)).toNat (bs (l ++ [z])).size) (bs [47]) = (z == 47) := by
  rw [seq_by, Int.toNat_natCast, by_drop, by_bs, by_bs]
  simp
 have hs : stringsliteHasSuffix (bs (l ++ [z])) (bs [47]) = some (z == 47) := by
  unfold stringsliteHasSuffix
  rw [e1, cond_true, hw, grd_pos (by rw [h0]; refine ⟨?_, ?_, ?_⟩ <;> omega), e2]
 unfold stringsTrimSuffix stringsliteTrimSuffix
 rw [hs, Option.bind_some, hw]
 by_cases hz : z = 47
 ·rw [if_pos hz, hz, beq_self_eq_true, cond_true]
  have h0' : (bs (l ++ [47])).size = l.length + 1 := by rw [size_by, by_bs]; simp
  rw [grd_pos (by rw [h0']; refine ⟨?_, ?_, ?_⟩ <;> omega), Option.bind_some]
  congr 1
  apply by_inj
  rw [Int.toNat_natCast, by_take, by_bs, by_bs]
  simp
 ·have : (z == 47) = false := by simp [hz]
  rw [if_neg hz, this, cond_false]; rfl
theorem snoc_of {l : List UInt8} (h : l ≠ []) : ∃ a z, l = a ++ [z] := ⟨l.dropLast, l.getLast h, (List.dropLast_concat_getLast h).symm⟩
theorem join_both (a b : List UInt8) (ha : a.length ≤ 1125899906842624) (hb : b.length ≤ 1125899906842626) : ∃ x, routeJoin (bs a) (bs b) = some x ∧ ref01Join (bs a) (bs b) = some x := by
 have hm : (IntKind.i64.max : Int) = 9223372036854775807 := by decide
 unfold routeJoin ref01Join
 simp only [seq_nilB]
 by_cases hq : a = []
 ·rw [decide_eq_true hq]; exact ⟨_, rfl, rfl⟩
 rw [decide_eq_false hq]
 simp only [cond_false]
 cases b with
 | nil => exact ⟨_, rfl, rfl⟩
 | cons c b' =>
  have e0 : decide (c :: b' = []) = false := by simp
  have g0 : gtS (bs (c :: b')) 0 = some c := by
   rw [show (0 : Int) = ((0 : Nat) : Int) from rfl, gtS_by, by_bs]; rfl
  rw [pre_eq, e0]
  simp only [Option.bind_some, Bool.not_false, cond_true, cond_false, g0]
  by_cases hc : c = 47
  ·subst hc; exact ⟨_, rfl, rfl⟩
  ·have e1 : (c == 47) = false := by simp [hc]
   have e2 : ((c.toNat : Int) == 47) = false := by
    simp only [beq_eq_false_iff_ne, ne_eq]
    intro h
    exact hc (UInt8.toNat_inj.1 (by show c.toNat = 47; omega))
   rw [e1, e2]
   simp only [cond_false]
   obtain ⟨l, z, rfl⟩ := snoc_of hq
   have hl : l.length ≤ 1125899906842624 := by simp at ha; omega
   have hsz : (bs (l ++ [z])).size = l.length + 1 := by rw [size_by, by_bs]; simp
   have hszb : (bs (c :: b')).size = b'.length + 1 := rfl
   have hsz1 : (bs [47]).size = 1 := rfl
   have hbl : b'.length ≤ 1125899906842625 := by simp at hb; omega
   have hw : w64 (((bs (l ++ [z])).size : Int) - 1) = (l.length : Int) := by rw [hsz, w64_eq (by omega) (by omega)]; omega
   have gz : gtS (bs (l ++ [z])) (l.length : Int) = some z := by rw [gtS_by, by_bs]; simp
   have hcat : ∀ (x y : ByteArray), (x ++ y).size = x.size + y.size := fun x y => by rw [size_by, by_append, List.length_append, ← size_by, ← size_by]
   rw [suf_eq l z hl, hw, gz]
   simp only [Option.bind_some]
   by_cases hz : z = 47
   ·have e3 : ((z.toNat : Int) == 47) = true := by rw [hz]; rfl
    have hszl : (bs l).size = l.length := rfl
    rw [if_pos hz, e3, cond_true, grd_pos (by rw [hm, hszl, hsz1]; omega), grd_pos (by rw [hm, hcat, hszl, hsz1, hszb]; omega), grd_pos (by rw [hm, hsz, hszb]; omega)]
    refine ⟨_, rfl, ?_⟩
    congr 2
    apply by_inj
    rw [by_append, by_bs, by_bs, by_bs, hz]
   ·have e3 : ((z.toNat : Int) == 47) = false := by
     simp only [beq_eq_false_iff_ne, ne_eq]
     intro h
     exact hz (UInt8.toNat_inj.1 (by show z.toNat = 47; omega))
    rw [if_neg hz, e3, cond_false, grd_pos (by rw [hm, hsz, hsz1]; omega), grd_pos (by rw [hm, hcat, hsz, hsz1, hszb]; omega)]
    exact ⟨_, rfl, rfl⟩
end Go.Proofs.YtdbekeidlppfiaaGreatDoor.Den
namespace Go.Proofs.YtdbekeidlppfiaaGreatDoor.Den
open Go Go.RowKit
theorem plain_loop {a0 a1 a2 a3 a4 a5 a6 a7 a8 : Int} {t0 t1 t2 : ByteArray} {ns : List ByteArray} (l : List FrameD) {dr : List Int} {dn : Bool} {ex : Int} {out : ByteArray} {er : Int} :
  ∀ (k i : Nat), i + k = 30 → i ≤ l.length → (∀ (j : Nat) (a : FrameD), j < i → l[j]? = some a → a.names.length ≤ 60) →
  ∃ x, iterN (law18Plain_b2 a0 a1 a2 a3 a4 a5 a6 a7 a8 t0 t1 t2 ns l dr dn ex out er) (k + 1) (i : Int) = some x ∧ ((∃ v, x = .inl v) ∨ ((∃ v, x = .inr (.inl v)) ∧ 30 ≤ l.length) ∨ ((∃ v, x = .inr (.inr v)) ∧ ∀ a ∈ l, a.names.length ≤ 60))
 | k, i, hk, hi, hall => by
  rcases Nat.lt_or_ge i l.length with hlt | hge
  case inr =>
   obtain rfl : i = l.length := by omega
   refine ⟨.inr (.inr (l.length : Int)), iterN_done ?_, .inr (.inr ⟨⟨_, rfl⟩, fun a ha => ?_⟩)⟩
   ·simp only [law18Plain_b2, ltf, cond_false]
   ·obtain ⟨j, hj, rfl⟩ := List.getElem_of_mem ha
    exact hall j _ hj (List.getElem?_eq_getElem hj)
  cases k with
  | zero =>
   obtain rfl : i = 30 := by omega
   refine ⟨.inr (.inl ((30 : Nat) : Int)), iterN_done ?_, .inr (.inl ⟨⟨_, rfl⟩, by omega⟩)⟩
   have e : decide (((30 : Nat) : Int) < (30 : Int)) = false := by decide
   simp only [law18Plain_b2, ltd hlt, cond_true, e, cond_false]
  | succ k =>
   have e : decide ((i : Int) < (30 : Int)) = true := by simp; omega
   by_cases hs : (l[i]).names.length > 60
   ·refine ⟨.inl ((i : Int), l[i]), iterN_done ?_, .inl ⟨_, rfl⟩⟩
    have e2 : decide (((l[i]).names.length : Int) > (60 : Int)) = true := by simp; omega
    simp only [law18Plain_b2, ltd hlt, cond_true, e, gt_nat hlt, Option.bind_some, e2]
   ·have e2 : decide (((l[i]).names.length : Int) > (60 : Int)) = false := by simp; omega
    obtain ⟨x, h1, h2⟩ := plain_loop (a0 := a0) (a1 := a1) (a2 := a2) (a3 := a3) (a4 := a4) (a5 := a5) (a6 := a6) (a7 := a7) (a8 := a8) (t0 := t0) (t1 := t1) (t2 := t2) (ns := ns) l (dr := dr) (dn := dn) (ex := ex) (out := out) (er := er) k (i + 1) (by omega) hlt (fun j a hj ha => by
     rcases Nat.lt_or_ge j i with h | h
     ·exact hall j a h ha
     ·obtain rfl : j = i := by omega
      rw [List.getElem?_eq_getElem hlt] at ha
      cases ha; omega)
    refine ⟨x, iterN_step (a' := ((i + 1 : Nat) : Int)) ?_ h1, h2⟩
    simp only [law18Plain_b2, ltd hlt, cond_true, e, gt_nat hlt, Option.bind_some, e2, cond_false, w64_succ (i := i) (by omega)]
structure PlainJ (j : JobD) : Prop where
 inner : ∀ f ∈ j.stack, f.names.length ≤ 60
 stack : j.stack.length ≤ 20
 names : j.names.length ≤ 120
 draws : j.draws.length ≤ 200
 path : j.path.size ≤ 400
 path2 : j.path2.size ≤ 400
 text : j.text.size ≤ 400
 at0 : 0 ≤ j.atF
 at1 : j.atF ≤ 1000000
def plainB (j : JobD) : Bool := bif decide ((j.stack.length : Int) ≤ 20) then (bif decide ((j.names.length : Int) ≤ 120) then (bif decide ((j.draws.length : Int) ≤ 200) then (bif decide ((j.path.size : Int) ≤ 400) then (bif decide ((j.path2.size : Int) ≤ 400) then (bif decide ((j.text.size : Int) ≤ 400) then (bif decide (j.atF ≥ 0) then decide (j.atF ≤ 1000000) else false) else false) else false) else false) else false) else false) else false
theorem some_bif {c : Bool} {x y : Bool} : (bif c then some x else some y) = some (bif c then x else y) := by cases c <;> rfl
theorem plainB_of {j : JobD} (h : plainB j = true) (hi : ∀ f ∈ j.stack, f.names.length ≤ 60) : PlainJ j := by
 unfold plainB at h
 have key : ∀ {p : Prop} [Decidable p] {x : Bool}, (bif decide p then x else false) = true → p ∧ x = true := by
  intro p _ x h
  by_cases hp : p
  ·rw [decide_eq_true hp] at h; exact ⟨hp, h⟩
  ·rw [decide_eq_false hp] at h; cases h
 obtain ⟨h1, h⟩ := key h
 obtain ⟨h2, h⟩ := key h
 obtain ⟨h3, h⟩ := key h
 obtain ⟨h4, h⟩ := key h
 obtain ⟨h5, h⟩ := key h
 obtain ⟨h6, h⟩ := key h
 obtain ⟨h7, h⟩ := key h
 have h8 := of_decide_eq_true h
 exact ⟨hi, by omega, by omega, by omega, by omega, by omega, by omega, by omega, by omega⟩
theorem plain_eq (j : JobD) : ∃ b, law18Plain j = some b ∧ (b = true → PlainJ j) := by
 obtain ⟨x, h1, h2⟩ := plain_loop (a0 := j.kind) (a1 := j.p) (a2 := j.phase) (a3 := j.fd) (a4 := j.nF) (a5 := j.modeF) (a6 := j.tries) (a7 := j.atF) (a8 := j.flags) (t0 := j.path) (t1 := j.path2) (t2 := j.text) (ns := j.names) j.stack (dr := j.draws) (dn := j.done) (ex := j.exit) (out := j.out) (er := j.e) 30 0 (by omega) (Nat.zero_le _) (fun j a h => by omega)
 have h3 := iterN_LF h1 (by omega)
 rw [show ((0 : Nat) : Int) = (0 : Int) from rfl] at h3
 unfold law18Plain
 rw [h3, Option.bind_some]
 rcases h2 with ⟨⟨v, y⟩, rfl⟩ | ⟨⟨v, rfl⟩, h⟩ | ⟨⟨v, rfl⟩, h⟩
 ·exact ⟨false, rfl, fun h => by cases h⟩
 ·refine ⟨plainB j, by simp only [some_bif]; rfl, fun hb => ?_⟩
  unfold plainB at hb
  have : decide ((j.stack.length : Int) ≤ 20) = false := by simp; omega
  rw [this] at hb; cases hb
 ·exact ⟨plainB j, by simp only [some_bif]; rfl, fun hb => plainB_of hb h⟩
end Go.Proofs.YtdbekeidlppfiaaGreatDoor.Den
namespace Go.Proofs.YtdbekeidlppfiaaGreatDoor.Den
open Go Go.RowKit
theorem ixd_tab : ∀ n, n < 256 → ixbV (bs [48, 49, 50, 51, 52, 53, 54, 55]) ((n : Nat) : Int) = if 48 ≤ n ∧ n ≤ 55 then (n : Int) - 48 else -1 := by decide +kernel
theorem ixd (c : UInt8) : ixbX (bs [48, 49, 50, 51, 52, 53, 54, 55]) (c.toNat : Int) = some (if 48 ≤ c.toNat ∧ c.toNat ≤ 55 then (c.toNat : Int) - 48 else -1) := by
 unfold ixbX
 rw [ixd_tab c.toNat c.toNat_lt]
theorem oct_tab : ∀ v, v < 8 → ∀ d, d < 8 → bits .or .i64 (IntKind.wrap .i64 (((v : Nat) : Int) * 2 ^ 3)) (((48 + d : Nat) : Int) - 48) = ((8 * v + d : Nat) : Int) ∧
  w64 (w64 (8 * ((v : Nat) : Int)) + IntKind.wrap .i64 (IntKind.wrap .u8 (((48 + d : Nat) : Int) - 48))) = ((8 * v + d : Nat) : Int) := by decide +kernel
theorem oct_step (l : List UInt8) (i v : Nat) (hi : i < l.length) (hv : v < 8) (hl : l.length ≤ 2) :
  (¬ (48 ≤ l[i].toNat ∧ l[i].toNat ≤ 55) → (∃ x, modeParse_b5 (bs l) (l.length : Int) ((v : Int), (i : Int)) = some (.inr (.inl x))) ∧
   ((∃ x, ref04Parse_b5 (bs l) ((v : Int), (i : Int)) = some (.inr (.inl x))) ∨ ∃ x, ref04Parse_b5 (bs l) ((v : Int), (i : Int)) = some (.inr (.inr (.inl x))))) ∧
  (48 ≤ l[i].toNat ∧ l[i].toNat ≤ 55 → modeParse_b5 (bs l) (l.length : Int) ((v : Int), (i : Int)) = some (.inl (((8 * v + (l[i].toNat - 48) : Nat) : Int), ((i + 1 : Nat) : Int))) ∧
   ref04Parse_b5 (bs l) ((v : Int), (i : Int)) = some (.inl (((8 * v + (l[i].toNat - 48) : Nat) : Int), ((i + 1 : Nat) : Int)))) := by
 have hg : gtS (bs l) (i : Int) = some l[i] := by rw [gtS_by, by_bs, List.getElem?_eq_getElem hi]
 have hlt : decide ((i : Int) < (l.length : Int)) = true := by simp; exact hi
 have hlt2 : decide ((i : Int) < ((bs l).size : Int)) = true := hlt
 have hw : w64 ((i : Int) + 1) = ((i + 1 : Nat) : Int) := w64_succ (by omega)
 refine ⟨fun h => ⟨?_, ?_⟩, fun h => ?_⟩
 ·have e : decide ((-1 : Int) < 0) = true := rfl
  simp only [modeParse_b5, hlt, cond_true, hg, Option.bind_some, ixd, if_neg h, e]
  exact ⟨_, rfl⟩
 ·by_cases h1 : (l[i].toNat : Int) < 48
  ·left
   simp only [ref04Parse_b5, hlt2, cond_true, hg, Option.bind_some, decide_eq_true h1]
   exact ⟨_, rfl⟩
  ·right
   have h2 : (l[i].toNat : Int) > 55 := by omega
   simp only [ref04Parse_b5, hlt2, cond_true, hg, Option.bind_some, decide_eq_false h1, cond_false, decide_eq_true h2]
   exact ⟨_, rfl⟩
 ·obtain ⟨t1, t2⟩ := oct_tab v hv (l[i].toNat - 48) (by omega)
  rw [show 48 + (l[i].toNat - 48) = l[i].toNat by omega] at t1 t2
  have e1 : decide ((l[i].toNat : Int) - 48 < 0) = false := by simp; omega
  have e2 : decide ((l[i].toNat : Int) < 48) = false := by simp; omega
  have e3 : decide ((l[i].toNat : Int) > 55) = false := by simp; omega
  constructor
  ·simp only [modeParse_b5, hlt, cond_true, hg, Option.bind_some, ixd, if_pos h, e1, cond_false, t1, hw]
  ·simp only [ref04Parse_b5, hlt2, cond_true, hg, Option.bind_some, e2, e3, cond_false, t2, hw]
theorem oct_end (l : List UInt8) (v : Int) : modeParse_b5 (bs l) (l.length : Int) (v, (l.length : Int)) = some (.inr (.inr (v, (l.length : Int)))) ∧ ref04Parse_b5 (bs l) (v, (l.length : Int)) = some (.inr (.inr (.inr (v, (l.length : Int))))) := by
 have e : decide ((l.length : Int) < (l.length : Int)) = false := by simp
 have e2 : decide ((l.length : Int) < ((bs l).size : Int)) = false := e
 exact ⟨by simp only [modeParse_b5, e, cond_false], by simp only [ref04Parse_b5, e2, cond_false]⟩
theorem oct_loop (l : List UInt8) (hl : l.length = 1 ∨ l.length = 2) :
  ((∃ x, iterN (modeParse_b5 (bs l) (l.length : Int)) 3 ((0 : Int), (0 : Int)) = some (.inl x)) ∧ ((∃ x, iterN (ref04Parse_b5 (bs l)) 3 ((0 : Int), (0 : Int)) = some (.inl x)) ∨ ∃ x, iterN (ref04Parse_b5 (bs l)) 3 ((0 : Int), (0 : Int)) = some (.inr (.inl x)))) ∨
  ∃ v q, iterN (modeParse_b5 (bs l) (l.length : Int)) 3 ((0 : Int), (0 : Int)) = some (.inr (v, q)) ∧ iterN (ref04Parse_b5 (bs l)) 3 ((0 : Int), (0 : Int)) = some (.inr (.inr (v, q))) := by
 have z : ((0 : Nat) : Int) = 0 := rfl
 have h0 : 0 < l.length := by omega
 obtain ⟨b0, g0⟩ := oct_step l 0 0 h0 (by omega) (by omega)
 rw [z] at b0 g0
 by_cases d0 : 48 ≤ l[0].toNat ∧ l[0].toNat ≤ 55
 case neg =>
  obtain ⟨⟨x, hx⟩, hy⟩ := b0 d0
  refine .inl ⟨⟨x, iterN_done hx⟩, ?_⟩
  rcases hy with ⟨y, hy⟩ | ⟨y, hy⟩
  ·exact .inl ⟨y, iterN_done hy⟩
  ·exact .inr ⟨y, iterN_done hy⟩
 obtain ⟨p0, r0⟩ := g0 d0
 rcases hl with hl | hl
 ·obtain ⟨e1, e2⟩ := oct_end l ((8 * 0 + (l[0].toNat - 48) : Nat) : Int)
  rw [hl] at e1 e2 p0
  refine .inr ⟨_, _, iterN_step (by rw [hl]; exact p0) (iterN_done (by rw [hl]; exact e1)), iterN_step r0 (iterN_done e2)⟩
 ·have h1 : 1 < l.length := by omega
  obtain ⟨b1, g1⟩ := oct_step l 1 (8 * 0 + (l[0].toNat - 48)) h1 (by omega) (by omega)
  by_cases d1 : 48 ≤ l[1].toNat ∧ l[1].toNat ≤ 55
  case neg =>
   obtain ⟨⟨x, hx⟩, hy⟩ := b1 d1
   refine .inl ⟨⟨x, iterN_step p0 (iterN_done hx)⟩, ?_⟩
   rcases hy with ⟨y, hy⟩ | ⟨y, hy⟩
   ·exact .inl ⟨y, iterN_step r0 (iterN_done hy)⟩
   ·exact .inr ⟨y, iterN_step r0 (iterN_done hy)⟩
  obtain ⟨p1, r1⟩ := g1 d1
  obtain ⟨e1, e2⟩ := oct_end l ((8 * (8 * 0 + (l[0].toNat - 48)) + (l[1].toNat - 48) : Nat) : Int)
  rw [hl] at e1 e2 p0 p1
  exact .inr ⟨_, _, iterN_step (by rw [hl]; exact p0) (iterN_step (by rw [hl]; exact p1) (iterN_done (by rw [hl]; exact e1))), iterN_step r0 (iterN_step r1 (iterN_done e2))⟩
theorem mode_parse (s : ByteArray) : ∃ n b, modeParse s = some (n, b) ∧ ref04Parse s = some (n, b) := by
 obtain ⟨l, rfl⟩ : ∃ l, s = bs l := ⟨by_ s, (bs_by s).symm⟩
 have hsz : ((bs l).size : Int) = (l.length : Int) := rfl
 unfold modeParse ref04Parse
 rw [hsz]
 by_cases hl : l.length = 1 ∨ l.length = 2
 ·have c1 : decide ((l.length : Int) < 1) = false := by simp; omega
  have c2 : decide ((l.length : Int) > 2) = false := by simp; omega
  rw [c1, c2]
  simp only [cond_false]
  have key : ∃ n b, ((iterN (modeParse_b5 (bs l) (l.length : Int)) LF ((0 : Int), (0 : Int))).bind fun X_1 => match X_1 with
    | .inl (v_1, v_2, b_1, r_1) => some ((0 : Int), false)
    | .inr ((v_1, v_2)) => some (v_1, true)) = some (n, b) ∧ ((iterN (ref04Parse_b5 (bs l)) LF ((0 : Int), (0 : Int))).bind fun X_1 => match X_1 with
    | .inl (v_1, v_2, b_1) => some ((0 : Int), false)
    | .inr (.inl (v_1, v_2, b_1, b_2)) => some ((0 : Int), false)
    | .inr (.inr ((v_1, v_2))) => some (v_1, true)) = some (n, b) := by
   rcases oct_loop l hl with ⟨⟨x, hx⟩, ⟨y, hy⟩ | ⟨y, hy⟩⟩ | ⟨v, q, hx, hy⟩
   ·rw [iterN_LF hx (by omega), iterN_LF hy (by omega)]; exact ⟨_, _, rfl, rfl⟩
   ·rw [iterN_LF hx (by omega), iterN_LF hy (by omega)]; exact ⟨_, _, rfl, rfl⟩
   ·rw [iterN_LF hx (by omega), iterN_LF hy (by omega)]; exact ⟨_, _, rfl, rfl⟩
  obtain ⟨n, b, k1, k2⟩ := key
  refine ⟨n, b, ?_, k2⟩
  by_cases h1 : l.length = 1
  ·have c3 : ((l.length : Int) != 1) = false := by simp; omega
   rw [c3, cond_false]; exact k1
  ·have c3 : ((l.length : Int) != 1) = true := by simp; omega
   have c4 : ((l.length : Int) != 2) = false := by simp; omega
   rw [c3, c4, cond_true, cond_false]; exact k1
 ·have c3 : ((l.length : Int) != 1) = true := by simp; omega
  have c4 : ((l.length : Int) != 2) = true := by simp; omega
  rw [c3, c4, cond_true, cond_true]
  refine ⟨_, _, rfl, ?_⟩
  by_cases h0 : (l.length : Int) < 1
  ·rw [decide_eq_true h0, cond_true]
  ·have h2 : (l.length : Int) > 2 := by omega
   rw [decide_eq_false h0, decide_eq_true h2, cond_false, cond_true]
def printP (hi lo : Int) : Option ByteArray :=
 grd (0 ≤ hi ∧ hi ≤ (w64 (hi + (1 : Int))) ∧ (w64 (hi + (1 : Int))) ≤ ((bs [48, 49, 50, 51, 52, 53, 54, 55]).size : Int)) <|
 grd (0 ≤ lo ∧ lo ≤ (w64 (lo + (1 : Int))) ∧ (w64 (lo + (1 : Int))) ≤ ((bs [48, 49, 50, 51, 52, 53, 54, 55]).size : Int)) <|
 grd (¬ (((((bs [48, 49, 50, 51, 52, 53, 54, 55]).extract (hi).toNat ((w64 (hi + (1 : Int)))).toNat).size + ((bs [48, 49, 50, 51, 52, 53, 54, 55]).extract (lo).toNat ((w64 (lo + (1 : Int)))).toNat).size : Nat) : Int) > IntKind.i64.max)) <|
 some (((bs [48, 49, 50, 51, 52, 53, 54, 55]).extract (hi).toNat ((w64 (hi + (1 : Int)))).toNat) ++ ((bs [48, 49, 50, 51, 52, 53, 54, 55]).extract (lo).toNat ((w64 (lo + (1 : Int)))).toNat))
def printR (m : Int) : Option ByteArray :=
 (ref04Digit (IntKind.wrap .i64 (Int.tdiv m (8 : Int)))).bind fun r_1 =>
 (ref04Digit (Int.tmod m (8 : Int))).bind fun r_2 =>
 grd (¬ (((r_1.size + r_2.size : Nat) : Int) > IntKind.i64.max)) <|
 some (r_1 ++ r_2)
def obl (x : Option ByteArray) : Option (List Nat) := x.map fun y => y.data.toList.map (·.toNat)
theorem oct_print : ∀ n, n < 64 → obl (printP ((n / 8 : Nat) : Int) ((n % 8 : Nat) : Int)) = some [48 + n / 8, 48 + n % 8] ∧ obl (printR ((n : Nat) : Int)) = some [48 + n / 8, 48 + n % 8] := by decide +kernel
theorem obl_inj {x y : Option ByteArray} {l : List Nat} (hx : obl x = some l) (hy : obl y = some l) : ∃ z : ByteArray, x = some z ∧ y = some z ∧ z.size = l.length := by
 cases x with
 | none => cases hx
 | some a =>
  cases y with
  | none => cases hy
  | some b =>
   have h1 : a.data.toList.map (·.toNat) = l := Option.some.inj hx
   have h2 : b.data.toList.map (·.toNat) = l := Option.some.inj hy
   have h3 : by_ a = by_ b := by
    have : (by_ a).map (·.toNat) = (by_ b).map (·.toNat) := h1.trans h2.symm
    exact (List.map_inj_right (fun x y h => UInt8.toNat_inj.1 h)).1 this
   have h4 := by_inj h3
   subst h4
   exact ⟨a, rfl, rfl, by rw [← h1, List.length_map]; exact size_by a⟩
theorem dand7 (a : Int) : bits .and .i64 a 7 = ((lo6 a &&& 7 : Nat) : Int) := and7 a
theorem dand63 (a : Int) : bits .and .i64 a 63 = ((lo6 a : Nat) : Int) := and63 a
theorem mode_print (m : Int) : ∃ x : ByteArray, modePrint m = some x ∧ ref04Print m = some x ∧ x.size = 2 := by
 have hd : Int.fdiv m (2 ^ 3) = m / 8 := Int.fdiv_eq_ediv_of_nonneg m (by decide)
 have hh : bits .and .i64 (Int.fdiv m (2 ^ 3)) 7 = ((lo6 m / 8 : Nat) : Int) := by rw [hd, dand7, lo6_div8]
 have hl : bits .and .i64 m 7 = ((lo6 m % 8 : Nat) : Int) := by
  have t : ∀ n, n < 64 → n &&& 7 = n % 8 := by decide +kernel
  rw [dand7, t _ (lo6_lt m)]
 have e1 : modePrint m = printP ((lo6 m / 8 : Nat) : Int) ((lo6 m % 8 : Nat) : Int) := by
  unfold modePrint printP
  rw [hh, hl]
 have e2 : ref04Print m = printR ((lo6 m : Nat) : Int) := by
  unfold ref04Print printR
  rw [dand63]
 obtain ⟨t1, t2⟩ := oct_print (lo6 m) (lo6_lt m)
 rw [e1, e2]
 exact obl_inj t1 t2
end Go.Proofs.YtdbekeidlppfiaaGreatDoor.Den
namespace Go.Proofs.YtdbekeidlppfiaaGreatDoor.Den
open Go Go.RowKit
theorem not_mine18 {j : JobD} (h : ¬ (j.done = false ∧ j.kind = 3 ∧ 0 ≤ j.phase ∧ j.phase ≤ 13 ∧ (j.phase = 0 ∨ 3 ≤ j.names.length))) : ref18Mine j = some false ∧ ∃ a b, cloneWork j = some (a, b, false) := by
 unfold ref18Mine cloneWork
 cases hd : j.done with
 | true => exact ⟨rfl, _, _, rfl⟩
 | false =>
  by_cases hk : j.kind = 3
  case neg =>
   have e1 : (j.kind == 3) = false := by simp [hk]
   have e2 : (j.kind != 3) = true := by simp [hk]
   simp only [e1, e2, Bool.not_false, cond_true, cond_false]
   exact ⟨trivial, _, _, rfl⟩
  have e1 : (j.kind == 3) = true := by simp [hk]
  have e2 : (j.kind != 3) = false := by simp [hk]
  by_cases h0 : 0 ≤ j.phase
  case neg =>
   have e3 : decide (j.phase ≥ 0) = false := by simp; omega
   have e4 : decide (j.phase < 0) = true := by simp; omega
   simp only [e1, e2, e3, e4, Bool.not_false, cond_true, cond_false]
   exact ⟨trivial, _, _, rfl⟩
  have e3 : decide (j.phase ≥ 0) = true := by simp; exact h0
  have e4 : decide (j.phase < 0) = false := by simp; exact h0
  by_cases h13 : j.phase ≤ 13
  case neg =>
   have e5 : decide (j.phase ≤ 13) = false := by simp; omega
   have e6 : decide (j.phase > 13) = true := by simp; omega
   simp only [e1, e2, e3, e4, e5, e6, Bool.not_false, cond_true, cond_false]
   exact ⟨trivial, _, _, rfl⟩
  have e5 : decide (j.phase ≤ 13) = true := by simp; exact h13
  have e6 : decide (j.phase > 13) = false := by simp; exact h13
  have hp : ¬ j.phase = 0 := fun hp => h ⟨hd, hk, h0, h13, .inl hp⟩
  have hn : ¬ 3 ≤ j.names.length := fun hn => h ⟨hd, hk, h0, h13, .inr hn⟩
  have e7 : (j.phase == 0) = false := by simp [hp]
  have e8 : decide ((j.names.length : Int) ≥ 3) = false := by simp; omega
  have e9 : decide ((j.names.length : Int) < 3) = true := by simp; omega
  simp only [e1, e2, e3, e4, e5, e6, e7, e8, e9, Bool.not_false, cond_true, cond_false]
  exact ⟨trivial, _, _, rfl⟩
structure Mine18 (j : JobD) : Prop where
 done : j.done = false
 kind : j.kind = 3
 lo : 0 ≤ j.phase
 hi : j.phase ≤ 13
 pn : j.phase = 0 ∨ 3 ≤ j.names.length
theorem mine18 {j : JobD} (h : Mine18 j) : ref18Mine j = some true := by
 unfold ref18Mine
 have e1 : (j.kind == 3) = true := by simp [h.kind]
 have e3 : decide (j.phase ≥ 0) = true := by simp; exact h.lo
 have e5 : decide (j.phase ≤ 13) = true := by simp; exact h.hi
 simp only [h.done, e1, e3, e5, Bool.not_false, cond_true]
 by_cases hp : j.phase = 0
 ·have e7 : (j.phase == 0) = true := by simp [hp]
  rw [e7, cond_true]
 ·have e7 : (j.phase == 0) = false := by simp [hp]
  have := h.pn
  have e8 : decide ((j.names.length : Int) ≥ 3) = true := by simp; omega
  rw [e7, cond_false, e8]
theorem work_three {j : JobD} (h : Mine18 j) {c a b : ByteArray} {t : List ByteArray} (hn : j.names = c :: a :: b :: t) : cloneWork j = some (a, b, true) := by
 unfold cloneWork
 have e2 : (j.kind != 3) = false := by simp [h.kind]
 have e4 : decide (j.phase < 0) = false := by simp; exact h.lo
 have e6 : decide (j.phase > 13) = false := by simp; exact h.hi
 have e9 : decide ((j.names.length : Int) < 3) = false := by rw [hn]; simp; omega
 simp only [h.done, e2, e4, e6, e9, cond_false]
 rw [hn]; rfl
theorem work_any {j : JobD} (h : Mine18 j) (hp : j.phase = 0) : ∃ a b, cloneWork j = some (a, b, true) := by
 by_cases hn : 3 ≤ j.names.length
 ·match hq : j.names, hn with
  | c :: a :: b :: t, _ => exact ⟨a, b, work_three h hq⟩
 ·unfold cloneWork
  have e2 : (j.kind != 3) = false := by simp [h.kind]
  have e4 : decide (j.phase < 0) = false := by simp; exact h.lo
  have e6 : decide (j.phase > 13) = false := by simp; exact h.hi
  have e9 : decide ((j.names.length : Int) < 3) = true := by simp; omega
  have e7 : (j.phase == 0) = true := by simp [hp]
  simp only [h.done, e2, e4, e6, e9, e7, cond_false, cond_true]
  exact ⟨_, _, rfl⟩
theorem phases {p : Int} (h0 : 0 ≤ p) (h1 : p ≤ 13) (hp : p ≠ 0) : p = 1 ∨ p = 2 ∨ p = 3 ∨ p = 4 ∨ p = 5 ∨ p = 6 ∨ p = 7 ∨ p = 8 ∨ p = 9 ∨ p = 10 ∨ p = 11 ∨ p = 12 ∨ p = 13 := by omega
theorem three_of {l : List ByteArray} (h : 3 ≤ l.length) : ∃ c a b t, l = c :: a :: b :: t := by
 match l, h with
 | c :: a :: b :: t, _ => exact ⟨c, a, b, t, rfl⟩
theorem ask18 (j : JobD) : ∃ c, cloneAsk j = some c ∧ ref18Ask j = some c := by
 by_cases hm : j.done = false ∧ j.kind = 3 ∧ 0 ≤ j.phase ∧ j.phase ≤ 13 ∧ (j.phase = 0 ∨ 3 ≤ j.names.length)
 case neg =>
  obtain ⟨h1, a, b, h2⟩ := not_mine18 hm
  unfold cloneAsk ref18Ask
  rw [h1, h2]
  exact ⟨_, rfl, rfl⟩
 obtain ⟨hd, hk, h0, h13, hpn⟩ := hm
 have h : Mine18 j := ⟨hd, hk, h0, h13, hpn⟩
 have m := mine18 h
 by_cases hp : j.phase = 0
 ·obtain ⟨a, b, hw⟩ := work_any h hp
  obtain ⟨n, q, hq, _⟩ := mode_parse b
  unfold cloneAsk ref18Ask
  rw [m, hw]
  simp only [Option.bind_some, Bool.not_true, cond_false, hq, hp]
  exact ⟨_, rfl, rfl⟩
 ·obtain ⟨c, a, b, t, hn⟩ := three_of (hpn.resolve_left hp)
  have hw := work_three h hn
  obtain ⟨n, q, hq, hr⟩ := mode_parse b
  have g1 : gt j.names (1 : Int) = some a := by rw [hn]; rfl
  have g2 : gt j.names (2 : Int) = some b := by rw [hn]; rfl
  unfold cloneAsk ref18Ask
  rw [m, hw]
  simp only [Option.bind_some, Bool.not_true, cond_false, hq, hr, g1, g2]
  rcases phases h0 h13 hp with h | h | h | h | h | h | h | h | h | h | h | h | h <;> rw [h] <;> exact ⟨_, rfl, rfl⟩
structure Good (j x : JobD) : Prop where
 names : x.names.length ≤ 1000
 stack : x.stack = j.stack
 draws : x.draws = j.draws
theorem on18 (j : JobD) (hn : j.names.length ≤ 1000) : ∃ x, cloneOn j = some x ∧ ref18On j = some x ∧ Good j x := by
 unfold cloneOn ref18On jobEnd ref15End
 match hq : j.names with
 | [] => exact ⟨_, rfl, rfl, by simp [hq], rfl, rfl⟩
 | c :: t =>
  have g0 : gt (c :: t) (0 : Int) = some c := rfl
  rw [hq] at hn
  by_cases h3 : ((c :: t).length : Int) < 3
  ·rw [decide_eq_true h3]
   exact ⟨_, rfl, rfl, by simpa [hq] using hn, rfl, rfl⟩
  ·rw [decide_eq_false h3]
   simp only [cond_false, g0, Option.bind_some]
   cases seq c (bs [99, 111, 112, 121]) <;> exact ⟨_, rfl, rfl, hn, rfl, rfl⟩
theorem fail18 (j : JobD) (path : ByteArray) (e : Int) (h0 : 0 ≤ e) (h1 : e ≤ 9223372036854775807) (hp : path.size ≤ 1125899906842624) (hn : j.names.length ≤ 1000) : ∃ x, jobFail j path e = some x ∧ ref15Fail j path e = some x ∧ Good j x := by
 obtain ⟨o, ho⟩ := fail_some j path e h0 h1 hp
 rw [fail_eq _ _ _ h0 h1, ho]
 exact ⟨_, rfl, rfl, hn, rfl, rfl⟩
theorem concat_eq (a b : List ByteArray) (ha : a.length ≤ 1000) (hb : b.length ≤ 1000) : (a = [] ∧ b = [] ∧ slicesConcat a b = some (.inl ([], []))) ∨ slicesConcat a b = some (.inr (a, b, a ++ b)) := by
 have e1 : w64 ((0 : Int) + (a.length : Int)) = (a.length : Int) := by rw [w64_eq (by omega) (by omega)]; omega
 have e2 : w64 ((a.length : Int) + (b.length : Int)) = (a.length : Int) + (b.length : Int) := w64_eq (by omega) (by omega)
 have e3 : decide ((a.length : Int) < 0) = false := by simp
 have e4 : decide ((a.length : Int) + (b.length : Int) < 0) = false := by simp; omega
 by_cases hs : (a.length : Int) + (b.length : Int) = 0
 ·left
  have h1 : a = [] := List.length_eq_zero_iff.1 (by omega)
  have h2 : b = [] := List.length_eq_zero_iff.1 (by omega)
  subst h1 h2
  exact ⟨rfl, rfl, rfl⟩
 ·right
  have e5 : ((a.length : Int) + (b.length : Int) == 0) = false := by simp; omega
  unfold slicesConcat
  simp only [e1, e2, e3, e4, e5, cond_false, List.nil_append]
  rw [grd_pos ⟨by omega, by omega⟩, grd_pos (room16 (by simp; omega)), grd_pos (room16 (by omega))]
theorem instead18 (j : JobD) (works : List ByteArray) (hw : works.length ≤ 1000) (h3 : 3 ≤ j.names.length) (hn : j.names.length ≤ 120) : cloneInstead j works = some { j with names := works ++ j.names.drop 3 } := by
 have e : (if (j.names.length : Int) < (3 : Int) then (j.names.length : Int) else (3 : Int)) = 3 := by rw [if_neg (by omega)]
 have e3 : ((3 : Int)).toNat = 3 := rfl
 unfold cloneInstead
 rw [e, grd_pos ⟨by omega, by omega, by omega⟩, e3]
 rcases concat_eq works (j.names.drop 3) hw (by simp; omega) with ⟨h1, h2, hc⟩ | hc
 ·rw [hc, h1, h2]; rfl
 ·rw [hc]; rfl
def jn (a n : ByteArray) : ByteArray := (routeJoin a n).getD (bs [])
theorem jn_ok (a n : ByteArray) (ha : a.size ≤ 281474976710656) (hn : n.size ≤ 281474976710656) : routeJoin a n = some (jn a n) ∧ ref01Join a n = some (jn a n) := by
 obtain ⟨x, h1, h2⟩ := join_both (by_ a) (by_ n) (by rw [← size_by]; omega) (by rw [← size_by]; omega)
 rw [bs_by, bs_by] at h1 h2
 have : jn a n = x := by unfold jn; rw [h1]; rfl
 rw [this]
 exact ⟨h1, h2⟩
def spr (a b : ByteArray) (l : List ByteArray) : List ByteArray := l.flatMap fun n => [bs [99, 111, 112, 121], jn a n, jn b n]
theorem spr_snoc (a b : ByteArray) (l : List ByteArray) (n : ByteArray) : spr a b (l ++ [n]) = spr a b l ++ [bs [99, 111, 112, 121], jn a n, jn b n] := by unfold spr; simp
theorem spr_len (a b : ByteArray) : ∀ l : List ByteArray, (spr a b l).length = 3 * l.length
 | [] => rfl
 | x :: l => by
  have := spr_len a b l
  unfold spr at this ⊢
  simp only [List.flatMap_cons, List.length_append, List.length_cons, List.length_nil, this]
  omega
theorem spread_gen {β : Type} {f : Int × List ByteArray → Option ((Int × List ByteArray) ⊕ β)} (l : List ByteArray) (F : List ByteArray → List ByteArray) (r : β) (h0 : F [] = []) (hl : l.length ≤ 60)
  (hs : ∀ (i : Nat) (hi : i < l.length), f ((i : Int), F (l.take i)) = some (.inl (((i + 1 : Nat) : Int), F (l.take i ++ [l[i]])))) (he : f ((l.length : Int), F l) = some (.inr r)) :
  iterN f LF ((0 : Int), []) = some r := by
 have key : ∀ k i : Nat, i + k = l.length → iterN f (k + 1) ((i : Int), F (l.take i)) = some r := by
  intro k
  induction k with
  | zero =>
   intro i hi
   obtain rfl : i = l.length := by omega
   rw [List.take_length]
   exact iterN_done he
  | succ k ih =>
   intro i hi
   refine iterN_step (hs i (by omega)) ?_
   rw [← List.take_succ_eq_append_getElem (by omega)]
   exact ih (i + 1) (by omega)
 have h := iterN_LF (key l.length 0 (by omega)) (by omega)
 rw [List.take_zero, h0] at h
 exact h
theorem tell18 (j : JobD) (r : ReplyD) (h0 : 0 ≤ r.e) (h1 : r.e ≤ 9223372036854775807) (hj : PlainJ j) (hN : ∀ y ∈ j.names, y.size ≤ 281474976710656) (hL : r.l.length ≤ 60) (hR : ∀ y ∈ r.l, y.size ≤ 281474976710656) :
  ∃ x, cloneTell j r = some x ∧ ref18Tell j r = some x ∧ Good j x := by
 have hn := hj.names
 have hpath := hj.path
 have hpath2 := hj.path2
 by_cases hm : j.done = false ∧ j.kind = 3 ∧ 0 ≤ j.phase ∧ j.phase ≤ 13 ∧ (j.phase = 0 ∨ 3 ≤ j.names.length)
 case neg =>
  obtain ⟨m1, a, b, m2⟩ := not_mine18 hm
  unfold cloneTell ref18Tell
  rw [m1, m2]
  exact ⟨_, rfl, rfl, by omega, rfl, rfl⟩
 obtain ⟨hd, hk, p0, p13, hpn⟩ := hm
 have h : Mine18 j := ⟨hd, hk, p0, p13, hpn⟩
 have m := mine18 h
 have z1 : ((0 : Int) == 0) = true := rfl
 by_cases hp : j.phase = 0
 ·obtain ⟨a, b, hw⟩ := work_any h hp
  unfold cloneTell ref18Tell cloneAimed cloneTo ref18Target
  rw [m, hw]
  have e7 : (j.phase == 0) = true := by simp [hp]
  simp only [Option.bind_some, Bool.not_true, cond_false, e7, cond_true]
  by_cases he : r.e = 0
  ·have z2 : (r.e == 0) = true := by simp [he]
   rw [z2]
   simp only [cond_true]
   by_cases hk2 : r.i.kind = 2
   ·have z3 : (r.i.kind == 2) = true := by simp [hk2]
    obtain ⟨y, hj1, hj2⟩ := join_both (by_ j.path2) (baseX (by_ j.path)) (by rw [← size_by]; omega) (by have := baseX_le (by_ j.path); rw [← size_by] at this; omega)
    have hb1 := routeBase_eq (by_ j.path) (by rw [← size_by]; omega)
    have hb2 := ref01Base_eq (by_ j.path) (by rw [← size_by]; omega)
    rw [bs_by] at hb1 hb2 hj1 hj2
    simp only [z3, cond_true, hb1, hb2, hj1, hj2, Option.bind_some]
    exact ⟨_, rfl, rfl, by simp, rfl, rfl⟩
   ·have z3 : (r.i.kind == 2) = false := by simp [hk2]
    obtain ⟨x, x1, x2, x3⟩ := fail18 j j.path2 3 (by omega) (by omega) (by omega) (by omega)
    simp only [z3, cond_false, x1, x2, Option.bind_some]
    exact ⟨_, rfl, rfl, x3⟩
  ·have z2 : (r.e == 0) = false := by simp [he]
   rw [z2]
   simp only [cond_false]
   by_cases h2 : r.e = 2
   ·have z3 : (r.e != 2) = false := by simp [h2]
    have z4 : (r.e == 2) = true := by simp [h2]
    simp only [z3, z4, cond_true, cond_false, Option.bind_some]
    exact ⟨_, rfl, rfl, by simp, rfl, rfl⟩
   ·have z3 : (r.e != 2) = true := by simp [h2]
    have z4 : (r.e == 2) = false := by simp [h2]
    obtain ⟨x, x1, x2, x3⟩ := fail18 j j.path2 r.e h0 h1 (by omega) (by omega)
    simp only [z3, z4, cond_true, cond_false, x1, x2, Option.bind_some]
    exact ⟨_, rfl, rfl, x3⟩
 ·have h3 := hpn.resolve_left hp
  obtain ⟨c, a, b, t, hq⟩ := three_of h3
  have hw := work_three h hq
  have g1 : gt j.names (1 : Int) = some a := by rw [hq]; rfl
  have g2 : gt j.names (2 : Int) = some b := by rw [hq]; rfl
  have ha : a.size ≤ 281474976710656 := hN a (by rw [hq]; simp)
  have hb : b.size ≤ 281474976710656 := hN b (by rw [hq]; simp)
  obtain ⟨pm, q1, q2, _⟩ := mode_print j.modeF
  have e3 : ((3 : Int)).toNat = 3 := rfl
  have hg3 : 0 ≤ (3 : Int) ∧ (3 : Int) ≤ (j.names.length : Int) ∧ (j.names.length : Int) ≤ (j.names.length : Int) := ⟨by omega, by omega, by omega⟩
  have e7 : (j.phase == 0) = false := by simp [hp]
  unfold cloneTell ref18Tell
  rw [m, hw]
  simp only [Option.bind_some, Bool.not_true, cond_false, e7, g1, g2, q1, q2]
  by_cases h5 : j.phase = 5
  ·have e5 : (j.phase == 5) = true := by simp [h5]
   obtain ⟨x, x1, x2, x3⟩ := on18 j (by omega)
   simp only [e5, cond_true, x1, x2, Option.bind_some]
   exact ⟨_, rfl, rfl, x3⟩
  have e5 : (j.phase == 5) = false := by simp [h5]
  rw [e5]
  simp only [cond_false]
  by_cases h8 : j.phase = 8
  ·have e8 : (j.phase == 8) = true := by simp [h8]
   rw [e8]
   exact ⟨_, rfl, rfl, by show j.names.length ≤ 1000; omega, rfl, rfl⟩
  have e8 : (j.phase == 8) = false := by simp [h8]
  rw [e8]
  simp only [cond_false]
  by_cases he : r.e = 0
  case neg =>
   have z2 : (r.e != 0) = true := by simp [he]
   obtain ⟨x, x1, x2, x3⟩ := fail18 j a r.e h0 h1 (by omega) (by omega)
   obtain ⟨y, y1, y2, y3⟩ := fail18 j b r.e h0 h1 (by omega) (by omega)
   simp only [z2, cond_true, x1, x2, y1, y2, Option.bind_some]
   cases j.phase == 2 <;> cases j.phase == 9 <;> cases j.phase == 10 <;> cases j.phase == 12 <;> first | exact ⟨x, rfl, rfl, x3⟩ | exact ⟨y, rfl, rfl, y3⟩
  have z2 : (r.e != 0) = false := by simp [he]
  rw [z2]
  simp only [cond_false]
  have tl : (j.names.drop 3).length ≤ 117 := by simp; omega
  rcases phases p0 p13 hp with hv | hv | hv | hv | hv | hv | hv | hv | hv | hv | hv | hv | hv
  ·-- 1
   unfold cloneSeen ref18Seen cloneTo
   simp only [g1, Option.bind_some]
   have ev : (j.phase == 1) = true := by simp [hv]
   rw [ev]
   simp only [cond_true]
   by_cases hk2 : r.i.kind = 2
   ·have z3 : (r.i.kind == 2) = true := by simp [hk2]
    simp only [z3, cond_true]
    by_cases hf : j.flags = 1
    ·have z4 : (j.flags != 1) = false := by simp [hf]
     have z5 : (j.flags == 1) = true := by simp [hf]
     simp only [z4, z5, cond_true, cond_false, Option.bind_some]
     exact ⟨_, rfl, rfl, by show j.names.length ≤ 1000; omega, rfl, rfl⟩
    ·have z4 : (j.flags != 1) = true := by simp [hf]
     have z5 : (j.flags == 1) = false := by simp [hf]
     obtain ⟨x, x1, x2, x3⟩ := fail18 (JobD.mk j.kind j.p j.phase j.fd j.nF r.i.modeF j.tries j.atF j.flags j.path j.path2 j.text j.names j.stack j.draws j.done j.exit j.out j.e) a 5 (by omega) (by omega) (by omega) (by show j.names.length ≤ 1000; omega)
     simp only [z4, z5, cond_true, cond_false, x1, x2, Option.bind_some]
     exact ⟨_, rfl, rfl, x3.names, x3.stack, x3.draws⟩
   ·have z3 : (r.i.kind == 2) = false := by simp [hk2]
    simp only [z3, cond_false]
    cases r.i.kind == 3 <;> exact ⟨_, rfl, rfl, by show j.names.length ≤ 1000; omega, rfl, rfl⟩
  ·-- 2
   rw [hv]
   exact ⟨_, rfl, rfl, by show j.names.length ≤ 1000; omega, rfl, rfl⟩
  ·rw [hv]
   exact ⟨_, rfl, rfl, by show j.names.length ≤ 1000; omega, rfl, rfl⟩
  ·-- 4
   have s1 : ∀ {ρ : Type} {f : Int × List ByteArray → Option ((Int × List ByteArray) ⊕ ρ)} (x : ρ), (∀ (i : Nat) (hi : i < r.l.length), f ((i : Int), spr a b (r.l.take i)) = some (.inl (((i + 1 : Nat) : Int), spr a b (r.l.take i ++ [r.l[i]])))) → f ((r.l.length : Int), spr a b r.l) = some (.inr x) → iterN f LF ((0 : Int), []) = some x :=
    fun x ha hb => spread_gen r.l (spr a b) x rfl hL ha hb
   have hlt : ∀ {i : Nat}, i < r.l.length → decide ((i : Int) < (r.l.length : Int)) = true := fun h => by simp; exact h
   have hend : decide ((r.l.length : Int) < (r.l.length : Int)) = false := by simp
   have hgt : ∀ {i : Nat} (h : i < r.l.length), gt r.l (i : Int) = some r.l[i] := fun h => gt_nat h
   have hja : ∀ {i : Nat} (h : i < r.l.length), routeJoin a r.l[i] = some (jn a r.l[i]) ∧ ref01Join a r.l[i] = some (jn a r.l[i]) := fun h => jn_ok a _ ha (hR _ (List.getElem_mem h))
   have hjb : ∀ {i : Nat} (h : i < r.l.length), routeJoin b r.l[i] = some (jn b r.l[i]) ∧ ref01Join b r.l[i] = some (jn b r.l[i]) := fun h => jn_ok b _ hb (hR _ (List.getElem_mem h))
   have hsl := spr_len a b r.l
   have hsli : ∀ i : Nat, (spr a b (r.l.take i)).length ≤ 180 := fun i => by rw [spr_len, List.length_take]; omega
   have ev : (j.phase == 4) = true := by simp [hv]
   have i1 := instead18 j (spr a b r.l ++ [bs [109, 111, 100, 101], b, pm]) (by simp [hsl]; omega) h3 hn
   refine ⟨{ j with names := (spr a b r.l ++ [bs [109, 111, 100, 101], b, pm]) ++ j.names.drop 3, phase := 5 }, ?_, ?_, by simp [hsl]; omega, rfl, rfl⟩
   ·have n1 : (j.phase == 1) = false := by simp [hv]
    have n3 : (j.phase == 3) = false := by simp [hv]
    have n6 : (j.phase == 6) = false := by simp [hv]
    have n9 : (j.phase == 9) = false := by simp [hv]
    have n2 : (j.phase == 2) = false := by simp [hv]
    have n7 : (j.phase == 7) = false := by simp [hv]
    have n11 : (j.phase == 11) = false := by simp [hv]
    simp only [n1, n3, n6, n9, n2, n7, n11, ev, cond_true, cond_false]
    rw [s1 (match spr a b r.l with | [] => .inl (r.l.length : Int) | z :: y => .inr ((r.l.length : Int), z, y)) (fun i hi => ?_) ?_]
    ·cases hs : spr a b r.l with
     | nil =>
      rw [hs] at i1
      simp only [List.nil_append] at i1
      simp only [Option.bind_some, i1]
      rfl
     | cons z y =>
      rw [hs] at i1 hsl
      simp only [Option.bind_some, grd_pos (room16 (n := (z :: y).length + 3) (by rw [hsl]; omega)), i1]
      rfl
    ·cases hs : spr a b r.l with
     | nil => simp only [cloneTell_b32, hend, cond_false]
     | cons z y => simp only [cloneTell_b32, hend, cond_false]
    ·have hl := hsli i
     rw [spr_snoc]
     cases hs : spr a b (r.l.take i) with
     | nil => simp only [cloneTell_b32, hlt hi, cond_true, hgt hi, Option.bind_some, (hja hi).1, (hjb hi).1, w64_succ (i := i) (by omega)]; rfl
     | cons z y =>
      rw [hs] at hl
      simp only [cloneTell_b32, hlt hi, cond_true, hgt hi, Option.bind_some, (hja hi).1, (hjb hi).1, w64_succ (i := i) (by omega), grd_pos (room16 (n := (z :: y).length + 3) (by omega))]
   ·have n1 : (j.phase == 1) = false := by simp [hv]
    have n3 : (j.phase == 3) = false := by simp [hv]
    have n6 : (j.phase == 6) = false := by simp [hv]
    have n9 : (j.phase == 9) = false := by simp [hv]
    have n2 : (j.phase == 2) = false := by simp [hv]
    simp only [n1, n3, n6, n9, n2, ev, cond_true, cond_false]
    unfold ref18Spread
    rw [s1 ((r.l.length : Int), spr a b r.l) (fun i hi => ?_) ?_]
    ·simp only [Option.bind_some, g2, q2]
     rw [grd_pos (room16 (by rw [hsl]; omega)), grd_pos hg3, grd_pos (room16 (by simp [hsl]; omega)), e3]
     rfl
    ·simp only [ref18Spread_b3, hend, cond_false]
    ·have hl := hsli i
     rw [spr_snoc]
     simp only [ref18Spread_b3, hlt hi, cond_true, hgt hi, Option.bind_some, g1, g2, (hja hi).2, (hjb hi).2, w64_succ (i := i) (by omega), grd_pos (room16 (n := (spr a b (r.l.take i)).length + 3) (by omega))]
  ·exact absurd hv h5
  ·rw [hv]
   exact ⟨_, rfl, rfl, by show j.names.length ≤ 1000; omega, rfl, rfl⟩
  ·rw [hv]
   exact ⟨_, rfl, rfl, by show j.names.length ≤ 1000; omega, rfl, rfl⟩
  ·exact absurd hv h8
  ·rw [hv]
   exact ⟨_, rfl, rfl, by show j.names.length ≤ 1000; omega, rfl, rfl⟩
  ·-- 10
   have i1 := instead18 j [bs [109, 111, 100, 101], b, pm] (by simp) h3 hn
   rw [hv, e3]
   rw [grd_pos hg3, grd_pos (room16 (by simp only [List.length_cons, List.length_nil]; omega))]
   simp only [i1, Option.bind_some]
   exact ⟨_, rfl, rfl, by simp; omega, rfl, rfl⟩
  ·rw [hv]
   exact ⟨_, rfl, rfl, by show j.names.length ≤ 1000; omega, rfl, rfl⟩
  ·-- 12
   have i1 := instead18 j [] (by simp) h3 hn
   obtain ⟨x, x1, x2, x3⟩ := on18 { j with names := [] ++ j.names.drop 3 } (by show ([] ++ j.names.drop 3).length ≤ 1000; simp; omega)
   simp only [e3, grd_pos hg3, i1, Option.bind_some, x1]
   have x2' : ref18On (JobD.mk j.kind j.p j.phase j.fd j.nF j.modeF j.tries j.atF j.flags j.path j.path2 j.text (j.names.drop 3) j.stack j.draws j.done j.exit j.out j.e) = some x := x2
   simp only [x2', Option.bind_some]
   rw [hv]
   exact ⟨x, rfl, rfl, x3.names, x3.stack, x3.draws⟩
  ·-- 13
   have i1 := instead18 j [] (by simp) h3 hn
   obtain ⟨x, x1, x2, x3⟩ := on18 { j with names := [] ++ j.names.drop 3 } (by show ([] ++ j.names.drop 3).length ≤ 1000; simp; omega)
   simp only [e3, grd_pos hg3, i1, Option.bind_some, x1]
   have x2' : ref18On (JobD.mk j.kind j.p j.phase j.fd j.nF j.modeF j.tries j.atF j.flags j.path j.path2 j.text (j.names.drop 3) j.stack j.draws j.done j.exit j.out j.e) = some x := x2
   simp only [x2', Option.bind_some]
   rw [hv]
   exact ⟨x, rfl, rfl, x3.names, x3.stack, x3.draws⟩
theorem CloneSteps_true (j : JobD) (r : ReplyD) (hN : ∀ y ∈ j.names, y.size ≤ 281474976710656) (hr : r.e ≤ 9223372036854775807 ∧ ∀ y ∈ r.l, y.size ≤ 281474976710656) : law18CloneSteps j r = some true := by
 unfold law18CloneSteps shownX law18Reply
 obtain ⟨b, hb, hb2⟩ := plain_eq j
 rw [hb, Option.bind_some]
 cases b with
 | false => rfl
 | true =>
  have hj := hb2 rfl
  simp only [Bool.not_true, cond_false, Option.bind_some]
  by_cases hl : r.l.length > 60
  ·have e : decide ((r.l.length : Int) > 60) = true := by simp; omega
   rw [e, cond_true]
  ·have e : decide ((r.l.length : Int) > 60) = false := by simp; omega
   rw [e, cond_false]
   by_cases h0 : r.e < 0
   ·rw [decide_eq_true h0, cond_true]
   ·rw [decide_eq_false h0, cond_false]
    obtain ⟨c, c1, c2⟩ := ask18 j
    obtain ⟨x, x1, x2, hx⟩ := tell18 j r (by omega) hr.1 hj hN (by omega) hr.2
    have hw := work_eq j (by have := hj.stack; omega)
    have hxn := hx.names
    have e9 : decide ((x.names.length : Int) ≤ 1000) = true := by simp; omega
    have ht : Tame x := ⟨by omega, by rw [hx.stack]; have := hj.stack; omega, by rw [hx.stack]; intro f hf; have := hj.inner f hf; omega, by rw [hx.draws]; have := hj.draws; omega⟩
    simp only [c1, c2, hw, x1, x2, Option.bind_some, e9, beq_self_eq_true, seq_self, Bool.and_self, cond_true, work_eq x ht.stack, job_self x ht]
end Go.Proofs.YtdbekeidlppfiaaGreatDoor.Den
