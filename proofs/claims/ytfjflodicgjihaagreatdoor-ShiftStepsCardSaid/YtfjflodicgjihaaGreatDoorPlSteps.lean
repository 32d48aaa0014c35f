/- Plain laws, gathered by extract.py out of Pl PlTxt PlOpt PlGrp PlPar PlRefP PlOptH PlJob PlStart PlBase PlStep. -/
import Derived.Test.YtfjflodicgjihaaGreatDoorDenF8
import Derived.Lib.ItoaLen
set_option linter.unusedVariables false
set_option linter.unusedSimpArgs false
namespace Go.Proofs.YtfjflodicgjihaaGreatDoor.Den
open Go Go.RowKit

theorem gt_nat {α : Type} {l : List α} {i : Nat} (h : i < l.length) : gt l (i : Int) = some l[i] := by
  unfold gt
  rw [if_pos (by omega), Int.toNat_natCast, List.getElem?_eq_getElem h]
theorem lt_LF {n : Nat} (h : n ≤ 1000000000) : n < LF := by unfold LF; omega
theorem w64_eq {a : Int} (h1 : -9223372036854775808 ≤ a) (h2 : a ≤ 9223372036854775807) : w64 a = a := wrap_i64 h1 h2
theorem w64_succ {i : Nat} (h : i ≤ 1000000000) : w64 ((i : Int) + 1) = ((i + 1 : Nat) : Int) := by rw [w64_eq (by omega) (by omega)]; omega
theorem seq_self (a : ByteArray) : seq a a = true := by simp [seq]
theorem grd_pos {α : Type} {p : Prop} [Decidable p] {x : Option α} (h : p) : grd p x = x := by unfold grd; rw [if_pos h]
theorem take_cons {α : Type} {l : List α} {i : Nat} (hi : i < l.length) {z : α} {t : List α} (h : l.take i = z :: t) : l.take (i + 1) = (z :: t) ++ [l[i]] := by rw [← h, List.take_succ_eq_append_getElem hi]
theorem take_nil {α : Type} {l : List α} {i : Nat} (hi : i < l.length) (h : l.take i = []) : i = 0 := by
  have := congrArg List.length h
  simp at this
  rcases this with h | h
  · exact h
  · rw [h] at hi; simp at hi
/-- the bytes of a text -/
def by_ (s : ByteArray) : List UInt8 := s.data.toList
theorem by_bs (l : List UInt8) : by_ (bs l) = l := rfl
theorem bs_by (s : ByteArray) : bs (by_ s) = s := rfl
theorem by_inj {a b : ByteArray} (h : by_ a = by_ b) : a = b := by rw [← bs_by a, ← bs_by b, h]
theorem size_by (s : ByteArray) : s.size = (by_ s).length := by
  unfold by_; rw [Array.length_toList]; rfl
theorem toList_loop (b : ByteArray) : ∀ (k i : Nat) (r : List UInt8), b.size - i = k → ByteArray.toList.loop b i r = r.reverse ++ (by_ b).drop i
  | 0, i, r, h => by
    unfold ByteArray.toList.loop
    rw [if_neg (by omega), List.drop_eq_nil_of_le (by rw [← size_by]; omega)]; simp
  | k + 1, i, r, h => by
    unfold ByteArray.toList.loop
    have hi : i < b.size := by omega
    rw [if_pos hi, toList_loop b k (i + 1) _ (by omega)]
    have hl : i < (by_ b).length := by rw [← size_by]; exact hi
    rw [List.drop_eq_getElem_cons hl, List.reverse_cons, List.append_assoc]
    congr 2
    have hi2 : i < b.data.size := hi
    simp only [by_, ByteArray.get!, Array.getElem_toList]
    rw [getElem!_pos b.data i hi2]; rfl
theorem toList_by (b : ByteArray) : b.toList = by_ b := by
  unfold ByteArray.toList
  rw [toList_loop b b.size 0 [] (by omega)]; simp
theorem seq_by (a b : ByteArray) : seq a b = (by_ a == by_ b) := by unfold seq; rw [toList_by, toList_by]
theorem by_extract (s : ByteArray) (i j : Nat) : by_ (s.extract i j) = ((by_ s).take j).drop i := by
  simp [by_, List.extract_eq_take_drop, List.drop_take]
theorem by_drop (s : ByteArray) (i : Nat) : by_ (s.extract i s.size) = (by_ s).drop i := by
  rw [by_extract, List.take_of_length_le (by rw [← size_by]; exact Nat.le_refl _)]
theorem by_take (s : ByteArray) (j : Nat) : by_ (s.extract 0 j) = (by_ s).take j := by rw [by_extract]; rfl
theorem by_append (a b : ByteArray) : by_ (a ++ b) = by_ a ++ by_ b := by simp [by_]
theorem gtS_by (s : ByteArray) (i : Nat) : gtS s (i : Int) = (by_ s)[i]? := by
  unfold gtS
  rw [if_pos (by omega), Int.toNat_natCast]
  have key : ∀ {α : Type} (x : α) (y : Option α), True := fun _ _ => trivial
  by_cases h : i < s.size
  · have h2 : i < (by_ s).length := by rw [← size_by]; exact h
    rw [List.getElem?_eq_getElem h2, getElem?_pos s i h]
    congr 1
  · rw [List.getElem?_eq_none (by rw [← size_by]; omega), getElem?_neg s i h]

theorem iterN_more {α β : Type} {f : α → Option (α ⊕ β)} : ∀ {n m : Nat} {a : α} {b : β}, iterN f n a = some b → n ≤ m → iterN f m a = some b
  | 0, m, a, b, h, _ => by simp [iterN] at h
  | n + 1, 0, a, b, h, hm => by omega
  | n + 1, m + 1, a, b, h, hm => by
    simp only [iterN] at h ⊢
    split at h
    · rename_i a' h1; exact iterN_more h (by omega)
    · exact h
    · cases h
theorem iterN_step {α β : Type} {f : α → Option (α ⊕ β)} {n : Nat} {a a' : α} {r : Option β} (h : f a = some (.inl a')) (k : iterN f n a' = r) : iterN f (n + 1) a = r := by simp only [iterN, h]; exact k
theorem iterN_done {α β : Type} {f : α → Option (α ⊕ β)} {n : Nat} {a : α} {b : β} (h : f a = some (.inr b)) : iterN f (n + 1) a = some b := by simp only [iterN, h]
theorem iterN_LF {α β : Type} {f : α → Option (α ⊕ β)} {n : Nat} {a : α} {b : β} (h : iterN f n a = some b) (hn : n ≤ 1000000000) : iterN f LF a = some b := iterN_more h (Nat.le_of_lt (lt_LF hn))
theorem seq_nil (l : List UInt8) : seq (bs l) (bs []) = l.isEmpty := by rw [seq_by, by_bs, by_bs]; cases l <;> rfl
theorem room16 {n : Nat} (h : n ≤ 1000000000) : room n 16 := ⟨by omega, by omega⟩
theorem ltd {i n : Nat} (h : i < n) : decide ((i : Int) < (n : Int)) = true := by simp; exact h
theorem ltf {n : Nat} : decide ((n : Int) < (n : Int)) = false := by simp
theorem drop_at {α : Type} {l : List α} {i : Nat} {x : α} {t : List α} (h : l.drop i = x :: t) : ∃ hi : i < l.length, l[i] = x ∧ l.drop (i + 1) = t := by
  rcases Nat.lt_or_ge i l.length with h1 | h1
  · rw [List.drop_eq_getElem_cons h1] at h
    injection h with h2 h3
    exact ⟨h1, h2, h3⟩
  · rw [List.drop_eq_nil_of_le h1] at h; cases h
theorem drop_end {α : Type} {l : List α} {i : Nat} (h : l.drop i = []) (hi : i ≤ l.length) : i = l.length := by
  have := congrArg List.length h
  simp at this; omega

theorem texts_loop (l : List ByteArray) (hl : l.length ≤ 1000000) : ∀ (t : List ByteArray) (i : Nat), l.drop i = t → i ≤ l.length → iterN (ref01Texts_b4 l l) (t.length + 1) (i : Int) = some (.inr (l.length : Int))
  | [], i, h, hi => by
    obtain rfl := drop_end h hi
    refine iterN_done ?_
    simp only [ref01Texts_b4, ltf, cond_false]
  | x :: t, i, h, hi => by
    obtain ⟨hlt, hx, ht⟩ := drop_at h
    refine iterN_step (a' := ((i + 1 : Nat) : Int)) ?_ (texts_loop l hl t (i + 1) ht hlt)
    simp only [ref01Texts_b4, ltd hlt, cond_true, gt_nat hlt, hx, Option.bind_some, seq_self, Bool.not_true, cond_false, w64_succ (i := i) (by omega)]
theorem texts_self (l : List ByteArray) (hl : l.length ≤ 1000000) : ref01Texts l l = some true := by
  unfold ref01Texts
  have e1 : ((l.length : Int) != (l.length : Int)) = false := by simp
  have h := iterN_LF (texts_loop l hl l 0 rfl (Nat.zero_le _)) (by omega)
  rw [show ((0 : Nat) : Int) = (0 : Int) from rfl] at h
  rw [e1, cond_false, h]; rfl
def digB (d : Nat) : ByteArray := bs [UInt8.ofNat (48 + d)]
theorem wrap_u64 {a : Int} (h1 : 0 ≤ a) (h2 : a < 18446744073709551616) : IntKind.u64.wrap a = a := by
  have e1 : (2 : Int) ^ 64 = 18446744073709551616 := by decide
  simp only [IntKind.wrap, IntKind.bits, IntKind.signed, e1, Bool.false_and]
  simp
  omega
theorem dig_ext : ∀ d : Nat, d < 10 → (bs [48, 49, 50, 51, 52, 53, 54, 55, 56, 57]).extract d (d + 1) = digB d
  | 0, _ => rfl
  | 1, _ => rfl
  | 2, _ => rfl
  | 3, _ => rfl
  | 4, _ => rfl
  | 5, _ => rfl
  | 6, _ => rfl
  | 7, _ => rfl
  | 8, _ => rfl
  | 9, _ => rfl
  | n + 10, h => by omega
theorem tmod_nat (n : Nat) : Int.tmod (n : Int) 10 = ((n % 10 : Nat) : Int) := rfl
theorem tdiv_nat (n : Nat) : Int.tdiv (n : Int) 10 = ((n / 10 : Nat) : Int) := rfl
theorem dig_at (n : Nat) : (bs [48, 49, 50, 51, 52, 53, 54, 55, 56, 57]).extract ((Int.tmod (n : Int) (10 : Int))).toNat ((IntKind.wrap .u64 ((Int.tmod (n : Int) (10 : Int)) + (1 : Int)))).toNat = digB (n % 10) := by
  have h : n % 10 < 10 := Nat.mod_lt _ (by decide)
  rw [tmod_nat, wrap_u64 (by omega) (by omega)]
  have e : (((n % 10 : Nat) : Int) + 1).toNat = n % 10 + 1 := by omega
  rw [e, Int.toNat_natCast, dig_ext _ h]
theorem natural_loop : ∀ (n : Nat) (acc : ByteArray), n < 18446744073709551616 → acc.size + Lib.nDigits n ≤ 1000 →
    ∃ (v1 : Nat) (v2 : ByteArray), iterN ref15Natural_b2 (Lib.nDigits n) ((n : Int), acc) = some ((v1 : Int), v2) ∧ digB (v1 % 10) ++ v2 = bs (Lib.decDigits n) ++ acc := by
  intro n
  induction n using Nat.strongRecOn with
  | _ n ih =>
    intro acc hn ha
    have hm : n % 10 < 10 := Nat.mod_lt _ (by decide)
    have hstep : ref15Natural_b2 ((n : Int), acc) = bif (((n / 10 : Nat) : Int) == 0) then some (.inr ((n : Int), acc)) else some (.inl (((n / 10 : Nat) : Int), digB (n % 10) ++ acc)) := by
      unfold ref15Natural_b2
      simp only
      rw [dig_at]
      rw [grd_pos (by
        rw [tmod_nat, wrap_u64 (by omega) (by omega)]
        refine ⟨by omega, by omega, ?_⟩
        show _ ≤ ((10 : Nat) : Int)
        omega)]
      rw [grd_pos (by
        show ¬ _ > (9223372036854775807 : Int)
        have : (digB (n % 10)).size = 1 := rfl
        rw [this]
        omega)]
      rw [tdiv_nat, wrap_u64 (by omega) (by omega)]
    by_cases h : n < 10
    · refine ⟨n, acc, ?_, ?_⟩
      · rw [Lib.nDigits_small h]
        refine iterN_done (hstep.trans ?_)
        have : n / 10 = 0 := by omega
        rw [this]; rfl
      · rw [Lib.decDigits, dif_pos h, Nat.mod_eq_of_lt h]; rfl
    · rw [Lib.nDigits_big h] at ha ⊢
      have hs : (digB (n % 10) ++ acc).size = acc.size + 1 := by
        rw [size_by, by_append, List.length_append, size_by acc]
        show 1 + _ = _
        omega
      obtain ⟨v1, v2, e1, e2⟩ := ih (n / 10) (by omega) (digB (n % 10) ++ acc) (by omega) (by rw [hs]; omega)
      refine ⟨v1, v2, iterN_step (hstep.trans ?_) e1, ?_⟩
      · have : (((n / 10 : Nat) : Int) == 0) = false := by simp; omega
        rw [this]; rfl
      · have e3 : Lib.decDigits n = Lib.decDigits (n / 10) ++ [UInt8.ofNat (48 + n % 10)] := by rw [Lib.decDigits, dif_neg h]
        rw [e2, e3]
        apply by_inj
        simp [by_append, by_bs, digB]
theorem natural_eq (n : Nat) (hn : n < 18446744073709551616) : ref15Natural (n : Int) = some (bs (Lib.decDigits n)) := by
  have hd := Lib.nDigits_le20 n hn
  obtain ⟨v1, v2, h1, h2⟩ := natural_loop n (bs []) hn (by show 0 + _ ≤ 1000; omega)
  have h3 := iterN_LF h1 (by omega)
  unfold ref15Natural
  rw [h3, Option.bind_some]
  simp only
  rw [dig_at, h2]
  congr 1
  apply by_inj
  simp [by_append, by_bs]
theorem digits_eq (n : Int) (h0 : 0 ≤ n) (h1 : n ≤ 9223372036854775807) : ref15Digits n = itoaX n := by
  obtain ⟨m, rfl⟩ := Int.eq_ofNat_of_zero_le h0
  unfold ref15Digits itoaX
  rw [if_pos ⟨by omega, h1⟩]
  have e : decide ((m : Int) < 0) = false := by simp
  rw [e, cond_false, wrap_u64 (by omega) (by omega), natural_eq m (by omega), Option.bind_some, Lib.itoa_nonneg]
theorem fail_eq (j : JobD) (path : ByteArray) (e : Int) (h0 : 0 ≤ e) (h1 : e ≤ 9223372036854775807) : ref15Fail j path e = jobFail j path e := by
  unfold ref15Fail jobFail
  rw [digits_eq e h0 h1]
theorem fail_some (j : JobD) (path : ByteArray) (e : Int) (h0 : 0 ≤ e) (h1 : e ≤ 9223372036854775807) (hp : path.size ≤ 1000000) : ∃ o : ByteArray, jobFail j path e = some { j with done := true, exit := 1, out := o, e := e } := by
  unfold jobFail
  have hm : (IntKind.i64.max : Int) = 9223372036854775807 := by decide
  have he : (bs [58, 32, 101, 114, 114, 111, 114, 32]).size = 8 := rfl
  have hl := Lib.itoa_length_le e (by omega) h1
  rw [grd_pos (by rw [hm, he]; omega)]
  unfold itoaX
  rw [if_pos ⟨by omega, h1⟩, Option.bind_some, grd_pos (by
    rw [hm, size_by, by_append, List.length_append, ← size_by, ← size_by, he]
    have : (⟨(Lib.itoa e).toArray⟩ : ByteArray).size = (Lib.itoa e).length := by rw [size_by]; rfl
    rw [this]; omega)]
  exact ⟨_, rfl⟩

theorem room48 {n : Nat} (h : n ≤ 1000001) : room n 48 := by unfold room; omega
theorem work_loop {a0 a1 a2 a3 a4 a5 a6 a7 a8 : Int} {t0 t1 t2 : ByteArray} {ns : List ByteArray} (l : List FrameD) {dr : List Int} {dn : Bool} {ex : Int} {out : ByteArray} {er : Int}
    {b0 b1 b2 b3 b4 b5 b6 b7 b8 : Int} {u0 u1 u2 : ByteArray} {ms : List ByteArray} {ds : List Int} {dm : Bool} {ey : Int} {ou : ByteArray} {es : Int} (hl : l.length ≤ 1000000) :
    ∀ (k i : Nat), i + k = l.length → iterN (law19Work_b3 a0 a1 a2 a3 a4 a5 a6 a7 a8 t0 t1 t2 ns l dr dn ex out er b0 b1 b2 b3 b4 b5 b6 b7 b8 u0 u1 u2 ms ds dm ey ou es) (k + 1) ((i : Int), l.take i) =
      some (match l with | [] => .inl (l.length : Int) | z :: y => .inr ((l.length : Int), z, y))
  | 0, i, hk => by
    obtain rfl : i = l.length := by omega
    rw [List.take_length]
    refine iterN_done ?_
    cases l with
    | nil => simp only [law19Work_b3, ltf, cond_false]
    | cons z y => simp only [law19Work_b3, ltf, cond_false]
  | k + 1, i, hk => by
    have hlt : i < l.length := by omega
    have ih := work_loop (a0 := a0) (a1 := a1) (a2 := a2) (a3 := a3) (a4 := a4) (a5 := a5) (a6 := a6) (a7 := a7) (a8 := a8) (t0 := t0) (t1 := t1) (t2 := t2) (ns := ns) l (dr := dr) (dn := dn) (ex := ex) (out := out) (er := er) (b0 := b0) (b1 := b1) (b2 := b2) (b3 := b3) (b4 := b4) (b5 := b5) (b6 := b6) (b7 := b7) (b8 := b8) (u0 := u0) (u1 := u1) (u2 := u2) (ms := ms) (ds := ds) (dm := dm) (ey := ey) (ou := ou) (es := es) hl k (i + 1) (by omega)
    refine iterN_step (a' := (((i + 1 : Nat) : Int), l.take (i + 1))) ?_ ih
    cases h : l.take i with
    | nil =>
      have hi := take_nil hlt h
      subst hi
      simp only [law19Work_b3, ltd hlt, cond_true, gt_nat hlt, Option.bind_some, w64_succ (i := 0) (by omega)]
      congr 3
      cases l with
      | nil => simp at hlt
      | cons z y => rfl
    | cons z y =>
      have hz : (z :: y).length ≤ 1000000 := by rw [← h, List.length_take]; omega
      simp only [law19Work_b3, ltd hlt, cond_true, gt_nat hlt, Option.bind_some, grd_pos (room48 (n := (z :: y).length + 1) (by omega)), w64_succ (i := i) (by omega)]
      rw [take_cons hlt h]
theorem work_eq (j : JobD) (hl : j.stack.length ≤ 1000000) : law19Work j = some j := by
  unfold law19Work
  have h := iterN_LF (work_loop (a0 := j.kind) (a1 := j.p) (a2 := j.phase) (a3 := j.fd) (a4 := j.nF) (a5 := j.modeF) (a6 := j.tries) (a7 := j.atF) (a8 := j.flags) (t0 := j.path) (t1 := j.path2) (t2 := j.text) (ns := j.names) j.stack (dr := j.draws) (dn := j.done) (ex := j.exit) (out := j.out) (er := j.e) (b0 := j.kind) (b1 := j.p) (b2 := j.phase) (b3 := j.fd) (b4 := j.nF) (b5 := j.modeF) (b6 := j.tries) (b7 := j.atF) (b8 := j.flags) (u0 := j.path) (u1 := j.path2) (u2 := j.text) (ms := j.names) (ds := j.draws) (dm := j.done) (ey := j.exit) (ou := j.out) (es := j.e) hl j.stack.length 0 (by omega)) (by omega)
  rw [show ((0 : Nat) : Int) = (0 : Int) from rfl, List.take_zero] at h
  rw [h, Option.bind_some]
  obtain ⟨q0, q1, q2, q3, q4, q5, q6, q7, q8, q9, q10, q11, q12, st, q14, q15, q16, q17, q18⟩ := j
  cases st <;> rfl
theorem frames_loop (l : List FrameD) (hl : l.length ≤ 1000000) (hf : ∀ f ∈ l, f.names.length ≤ 1000000) : ∀ (t : List FrameD) (i : Nat), l.drop i = t → i ≤ l.length → iterN (ref15Frames_b4 l l) (t.length + 1) (i : Int) = some (.inr (.inr (.inr (l.length : Int))))
  | [], i, h, hi => by
    obtain rfl := drop_end h hi
    refine iterN_done ?_
    simp only [ref15Frames_b4, ltf, cond_false]
  | x :: t, i, h, hi => by
    obtain ⟨hlt, hx, ht⟩ := drop_at h
    refine iterN_step (a' := ((i + 1 : Nat) : Int)) ?_ (frames_loop l hl hf t (i + 1) ht hlt)
    have hn := texts_self x.names (hf x (hx ▸ List.getElem_mem hlt))
    simp only [ref15Frames_b4, ltd hlt, cond_true, gt_nat hlt, hx, Option.bind_some, bne_self_eq_false, seq_self, Bool.not_true, cond_false, hn, w64_succ (i := i) (by omega)]
theorem frames_self (l : List FrameD) (hl : l.length ≤ 1000000) (hf : ∀ f ∈ l, f.names.length ≤ 1000000) : ref15Frames l l = some true := by
  unfold ref15Frames
  have e1 : ((l.length : Int) != (l.length : Int)) = false := by simp
  have h := iterN_LF (frames_loop l hl hf l 0 rfl (Nat.zero_le _)) (by omega)
  rw [show ((0 : Nat) : Int) = (0 : Int) from rfl] at h
  rw [e1, cond_false, h]; rfl
theorem ints_loop (l : List Int) (hl : l.length ≤ 1000000) : ∀ (t : List Int) (i : Nat), l.drop i = t → i ≤ l.length → iterN (ref15Ints_b4 l l) (t.length + 1) (i : Int) = some (.inr (l.length : Int))
  | [], i, h, hi => by
    obtain rfl := drop_end h hi
    refine iterN_done ?_
    simp only [ref15Ints_b4, ltf, cond_false]
  | x :: t, i, h, hi => by
    obtain ⟨hlt, hx, ht⟩ := drop_at h
    refine iterN_step (a' := ((i + 1 : Nat) : Int)) ?_ (ints_loop l hl t (i + 1) ht hlt)
    simp only [ref15Ints_b4, ltd hlt, cond_true, gt_nat hlt, hx, Option.bind_some, bne_self_eq_false, cond_false, w64_succ (i := i) (by omega)]
theorem ints_self (l : List Int) (hl : l.length ≤ 1000000) : ref15Ints l l = some true := by
  unfold ref15Ints
  have e1 : ((l.length : Int) != (l.length : Int)) = false := by simp
  have h := iterN_LF (ints_loop l hl l 0 rfl (Nat.zero_le _)) (by omega)
  rw [show ((0 : Nat) : Int) = (0 : Int) from rfl] at h
  rw [e1, cond_false, h]; rfl
/-- What is not too long. -/
structure Tame (j : JobD) : Prop where
  names : j.names.length ≤ 1000000
  stack : j.stack.length ≤ 1000000
  inner : ∀ f ∈ j.stack, f.names.length ≤ 1000000
  draws : j.draws.length ≤ 1000000
theorem job_self (j : JobD) (h : Tame j) : ref15Same j j = some true := by
  unfold ref15Same
  rw [texts_self _ h.names, frames_self _ h.stack h.inner, ints_self _ h.draws]
  simp only [Option.bind_some, Bool.not_true, cond_false, beq_self_eq_true, cond_true, seq_self]
def tailS (l : List UInt8) : List UInt8 := (l.reverse.takeWhile (· != 47)).reverse
def baseB (l : List UInt8) : Option (List UInt8) := if Lib.trimRightB l 47 = [] then none else some (tailS (Lib.trimRightB l 47))
theorem tailS_of {l a t : List UInt8} (h : l = a ++ t) (ht : ∀ x ∈ t, x ≠ 47) (ha : a = [] ∨ ∃ a', a = a' ++ [47]) : tailS l = t := by
  unfold tailS
  rw [h, List.reverse_append, List.takeWhile_append_of_pos (by intro x hx; simpa using ht x (by simpa using hx))]
  have : a.reverse.takeWhile (· != 47) = [] := by
    rcases ha with rfl | ⟨a', rfl⟩ <;> simp
  rw [this]; simp
theorem tailS_snoc {l : List UInt8} {c : UInt8} (h : c ≠ 47) : tailS (l ++ [c]) = tailS l ++ [c] := by
  unfold tailS
  rw [List.reverse_append]
  simp [List.takeWhile_cons, h]
theorem tailS_slash (l : List UInt8) : tailS (l ++ [47]) = [] := by
  unfold tailS
  rw [List.reverse_append]
  simp [List.takeWhile_cons]
theorem trim_snoc {l : List UInt8} {c : UInt8} (h : c ≠ 47) : Lib.trimRightB (l ++ [c]) 47 = l ++ [c] := by
  unfold Lib.trimRightB
  rw [List.reverse_append]
  simp [List.dropWhile_cons, h]
theorem trim_slash (l : List UInt8) : Lib.trimRightB (l ++ [47]) 47 = Lib.trimRightB l 47 := by
  unfold Lib.trimRightB
  rw [List.reverse_append]
  simp [List.dropWhile_cons]
theorem baseB_snoc {l : List UInt8} {c : UInt8} (h : c ≠ 47) : baseB (l ++ [c]) = some (tailS l ++ [c]) := by
  unfold baseB
  rw [trim_snoc h, if_neg (by simp), tailS_snoc h]
theorem baseB_slash (l : List UInt8) : baseB (l ++ [47]) = baseB l := by unfold baseB; rw [trim_slash]
theorem trim_le (l : List UInt8) : (Lib.trimRightB l 47).length ≤ l.length := by
  unfold Lib.trimRightB
  rw [List.length_reverse]
  exact Nat.le_trans (List.dropWhile_sublist _).length_le (by simp)
theorem tail_le (l : List UInt8) : (tailS l).length ≤ l.length := by
  unfold tailS
  rw [List.length_reverse]
  exact Nat.le_trans (List.takeWhile_sublist _).length_le (by simp)
/-- What stands behind the last slash. -/
theorem last_eq (l : List UInt8) (hl : l.length ≤ 1000000) : ∃ k : Nat, lastIxX (bs l) (bs [47]) = some ((k : Int) - 1) ∧ k ≤ l.length ∧ l.drop k = tailS l := by
  have hsz : (bs l).size = l.length := rfl
  have e0 : lastIxX (bs l) (bs [47]) = some (Lib.lastIndexByte (bs l) 47) := by
    unfold lastIxX
    show (if (bs l).size < 4611686018427387904 then _ else _) = _
    rw [if_pos (by rw [hsz]; omega)]
    rfl
  have hat : ∀ (j : Nat) (hj : j < l.length), (bs l).data[j]! = l[j] := by
    intro j hj
    show (Array.mk l)[j]! = _
    simp [hj]
  rw [e0]
  rcases Lib.lastIndexByte_spec (bs l) 47 with ⟨e, hn⟩ | ⟨i, hi, e, hc, hn⟩
  · refine ⟨0, by rw [e]; rfl, Nat.zero_le _, ?_⟩
    rw [List.drop_zero]
    refine (tailS_of (a := []) rfl (fun x hx he => ?_) (.inl rfl)).symm
    obtain ⟨j, hj, rfl⟩ := List.getElem_of_mem hx
    have := hn j hj
    rw [hat j hj, he] at this
    exact this rfl
  · have hi' : i < l.length := hi
    refine ⟨i + 1, by rw [e]; congr 1; omega, hi', ?_⟩
    have e47 : l[i] = 47 := by
      rw [hat i hi'] at hc
      exact UInt8.toNat_inj.1 (by have : (l[i].toNat : Int) = 47 := hc; show l[i].toNat = 47; omega)
    refine (tailS_of (a := l.take (i + 1)) (List.take_append_drop _ _).symm (fun x hx he => ?_) (.inr ⟨l.take i, ?_⟩)).symm
    · obtain ⟨j, hj, rfl⟩ := List.getElem_of_mem hx
      rw [List.length_drop] at hj
      rw [List.getElem_drop] at he
      have := hn (i + 1 + j) (by omega) (by show i + 1 + j < l.length; omega)
      rw [hat (i + 1 + j) (by omega), he] at this
      exact this rfl
    · rw [List.take_succ_eq_append_getElem hi', e47]
/-- The last name. -/
def baseX (p : List UInt8) : List UInt8 := match baseB p with
  | some t => t
  | none => if p = [] then [] else [47]
theorem baseX_le (p : List UInt8) : (baseX p).length ≤ p.length + 1 := by
  unfold baseX baseB
  split
  · rename_i t h
    split at h
    · cases h
    · cases h
      exact Nat.le_trans (tail_le _) (Nat.le_trans (trim_le _) (by omega))
  · split <;> simp
theorem seq_nilB (l : List UInt8) : seq (bs l) (bs []) = decide (l = []) := by rw [seq_nil]; cases l <;> simp
theorem routeBase_eq (p : List UInt8) (hp : p.length ≤ 1000000) : routeBase (bs p) = some (bs (baseX p)) := by
  have e0 : trimRX (bs p) (bs [47]) = some (bs (Lib.trimRightB p 47)) := by
    unfold trimRX
    show (if (47 : UInt8).toNat < 128 ∧ (bs p).size ≤ 9223372036854775807 then _ else _) = _
    rw [if_pos ⟨by decide, by show p.length ≤ _; omega⟩]
  have hr := trim_le p
  obtain ⟨k, h1, h2, h3⟩ := last_eq (Lib.trimRightB p 47) (by omega)
  have hsz : (bs (Lib.trimRightB p 47)).size = (Lib.trimRightB p 47).length := rfl
  have hend : (lastIxX (bs (Lib.trimRightB p 47)) (bs [47])).bind (fun r_2 =>
      grd (0 ≤ (w64 (r_2 + (1 : Int))) ∧ (w64 (r_2 + (1 : Int))) ≤ ((bs (Lib.trimRightB p 47)).size : Int) ∧ ((bs (Lib.trimRightB p 47)).size : Int) ≤ ((bs (Lib.trimRightB p 47)).size : Int)) <|
      some ((bs (Lib.trimRightB p 47)).extract ((w64 (r_2 + (1 : Int)))).toNat (bs (Lib.trimRightB p 47)).size)) = some (bs (tailS (Lib.trimRightB p 47))) := by
    rw [h1, Option.bind_some]
    have e : w64 ((k : Int) - 1 + 1) = (k : Int) := by rw [w64_eq (by omega) (by omega)]; omega
    simp only [e]
    rw [grd_pos ⟨by omega, by rw [hsz]; omega, by omega⟩]
    congr 1
    apply by_inj
    rw [Int.toNat_natCast, by_drop, by_bs, by_bs, h3]
  unfold routeBase
  rw [e0, Option.bind_some, seq_nilB, seq_nilB, hend]
  unfold baseX baseB
  by_cases hn : Lib.trimRightB p 47 = []
  · rw [if_pos hn, decide_eq_true hn, cond_true]
    by_cases hq : p = []
    · subst hq; rfl
    · rw [decide_eq_false hq, Bool.not_false, cond_true]
      simp [hq]
  · rw [if_neg hn, decide_eq_false hn, cond_false]
/-- The reference's walk. -/
structure SpI (l : List UInt8) (i : Nat) (cur : List UInt8) (out : List ByteArray) : Prop where
  last : (if cur = [] then out.getLast? else some (bs cur)) = (baseB (l.take i)).map bs
  tl : i < l.length → cur = tailS (l.take i)
  fin : i = l.length → cur = []
  len : out.length ≤ i
  clen : cur.length ≤ i
theorem ext_one {l : List UInt8} {i : Nat} (h : i < l.length) : (bs l).extract i (i + 1) = bs [l[i]] := by
  apply by_inj
  rw [by_extract, by_bs, by_bs, List.take_succ_eq_append_getElem h, List.drop_append_of_le_length (by simp; omega)]
  simp [List.drop_take_self]
theorem split_step {l : List UInt8} (hl : l.length ≤ 1000000) {i : Nat} (hi : i < l.length) {cur : List UInt8} {out : List ByteArray} (I : SpI l i cur out) :
    ∃ cur' out', ref01Split_b4 (bs l) (bs cur, (i : Int), out) = some (.inl (bs cur', ((i + 1 : Nat) : Int), out')) ∧ SpI l (i + 1) cur' out' := by
  have hsz : (bs l).size = l.length := rfl
  have hg : gtS (bs l) (i : Int) = some l[i] := by rw [gtS_by, by_bs, List.getElem?_eq_getElem hi]
  have hm : (IntKind.i64.max : Int) = 9223372036854775807 := by decide
  have hlt : decide ((i : Int) < ((bs l).size : Int)) = true := by rw [hsz]; exact ltd hi
  have hw : w64 ((i : Int) + 1) = ((i + 1 : Nat) : Int) := w64_succ (by omega)
  have ht : l.take (i + 1) = l.take i ++ [l[i]] := List.take_succ_eq_append_getElem hi
  have hx : (bs l).extract ((i : Int)).toNat ((((i + 1 : Nat) : Int))).toNat = bs [l[i]] := by rw [Int.toNat_natCast, Int.toNat_natCast, ext_one hi]
  by_cases hc : l[i] = 47
  · have e1 : ((l[i].toNat : Int) != 47) = false := by rw [hc]; rfl
    have e2 : ((l[i].toNat : Int) == 47) = true := by rw [hc]; rfl
    rw [hc] at ht
    by_cases hq : cur = []
    · subst hq
      refine ⟨[], out, ?_, ?_, fun _ => ?_, fun _ => rfl, by have := I.len; omega, by simp⟩
      · simp only [ref01Split_b4, hlt, cond_true, hg, Option.bind_some, e1, cond_false, seq_nilB, hw]
        rfl
      · rw [ht, baseB_slash]; exact I.last
      · rw [ht, tailS_slash]
    · refine ⟨[], out ++ [bs cur], ?_, ?_, fun _ => ?_, fun _ => rfl, by have := I.len; simp; omega, by simp⟩
      · have e3 : (!decide (cur = [])) = true := by simp [hq]
        have := I.len
        simp only [ref01Split_b4, hlt, cond_true, hg, Option.bind_some, e1, e2, cond_false, seq_nilB, hw, e3, grd_pos (room16 (n := out.length + 1) (by omega))]
      · rw [ht, baseB_slash, if_pos rfl, List.getLast?_concat, ← I.last, if_neg hq]
      · rw [ht, tailS_slash]
  · have e1 : ((l[i].toNat : Int) != 47) = true := by
      simp only [bne_iff_ne, ne_eq]
      intro h
      exact hc (UInt8.toNat_inj.1 (by show l[i].toNat = 47; omega))
    have e2 : ((l[i].toNat : Int) == 47) = false := by
      simp only [beq_eq_false_iff_ne, ne_eq]
      intro h
      exact hc (UInt8.toNat_inj.1 (by show l[i].toNat = 47; omega))
    have e4 : bs cur ++ bs [l[i]] = bs (cur ++ [l[i]]) := by apply by_inj; rw [by_append, by_bs, by_bs, by_bs]
    have e5 : (!decide (cur ++ [l[i]] = [])) = true := by simp
    have hcl := I.clen
    have hol := I.len
    have hcur := I.tl hi
    have g1 : 0 ≤ (i : Int) ∧ (i : Int) ≤ ((i + 1 : Nat) : Int) ∧ ((i + 1 : Nat) : Int) ≤ ((bs l).size : Int) := ⟨by omega, by omega, by rw [hsz]; omega⟩
    have g2 : ¬ ((((bs cur).size + (bs [l[i]]).size : Nat) : Int) > IntKind.i64.max) := by
      rw [hm]; show ¬ (((cur.length + 1 : Nat) : Int) > _); omega
    have hb : baseB (l.take (i + 1)) = some (cur ++ [l[i]]) := by rw [ht, baseB_snoc hc, hcur]
    have hw2 : w64 (((bs l).size : Int) - 1) = (l.length : Int) - 1 := by rw [hsz]; exact w64_eq (by omega) (by omega)
    by_cases hend : i + 1 = l.length
    · refine ⟨[], out ++ [bs (cur ++ [l[i]])], ?_, ?_, fun h => by omega, fun _ => rfl, by simp; omega, by simp⟩
      · have e6 : ((i : Int) == (l.length : Int) - 1) = true := by simp; omega
        simp only [ref01Split_b4, hlt, cond_true, hg, Option.bind_some, e1, e2, cond_false, hw, hx, e4, grd_pos g1, grd_pos g2, seq_nilB, e5, hw2, e6, grd_pos (room16 (n := out.length + 1) (by omega))]
      · rw [hb, if_pos rfl, List.getLast?_concat]; rfl
    · refine ⟨cur ++ [l[i]], out, ?_, ?_, fun _ => ?_, fun h => by omega, by omega, by simp; omega⟩
      · have e6 : ((i : Int) == (l.length : Int) - 1) = false := by simp; omega
        simp only [ref01Split_b4, hlt, cond_true, hg, Option.bind_some, e1, e2, cond_false, hw, hx, e4, grd_pos g1, grd_pos g2, seq_nilB, e5, hw2, e6]
      · rw [hb, if_neg (by simp)]; rfl
      · rw [ht, tailS_snoc hc, hcur]
theorem split_loop {l : List UInt8} (hl : l.length ≤ 1000000) : ∀ (k i : Nat) (cur : List UInt8) (out : List ByteArray), i + k = l.length → SpI l i cur out →
    ∃ out', iterN (ref01Split_b4 (bs l)) (k + 1) (bs cur, (i : Int), out) = some (bs [], (l.length : Int), out') ∧ out'.getLast? = (baseB l).map bs ∧ out'.length ≤ l.length
  | 0, i, cur, out, hk, I => by
    obtain rfl : i = l.length := by omega
    have hc := I.fin rfl
    subst hc
    refine ⟨out, iterN_done ?_, ?_, I.len⟩
    · have : decide ((l.length : Int) < ((bs l).size : Int)) = false := ltf
      simp only [ref01Split_b4, this, cond_false]
    · have := I.last
      rwa [if_pos rfl, List.take_length] at this
  | k + 1, i, cur, out, hk, I => by
    obtain ⟨cur', out', h1, h2⟩ := split_step hl (by omega) I
    obtain ⟨o, h3, h4⟩ := split_loop hl k (i + 1) cur' out' (by omega) h2
    exact ⟨o, iterN_step h1 h3, h4⟩
theorem ref01Base_eq (p : List UInt8) (hp : p.length ≤ 1000000) : ref01Base (bs p) = some (bs (baseX p)) := by
  obtain ⟨o, h1, h2, h3⟩ := split_loop hp p.length 0 [] [] (by omega) ⟨rfl, fun _ => rfl, fun _ => rfl, Nat.zero_le _, Nat.zero_le _⟩
  have h4 := iterN_LF h1 (by omega)
  rw [show ((0 : Nat) : Int) = (0 : Int) from rfl] at h4
  have hsp : ∃ x y, ref01Split (bs p) = some (o, x, y) := by
    unfold ref01Split
    rw [h4, Option.bind_some]
    simp only [seq_nilB]
    by_cases hq : p = []
    · subst hq; exact ⟨_, _, rfl⟩
    · have e : decide (p = []) = false := by simp [hq]
      have hpos : 0 < p.length := List.length_pos_iff.2 hq
      have g0 : gtS (bs p) 0 = some (p[0]'hpos) := by
        rw [show (0 : Int) = ((0 : Nat) : Int) from rfl, gtS_by, by_bs, List.getElem?_eq_getElem hpos]
      have hw2 : w64 (((bs p).size : Int) - 1) = ((p.length - 1 : Nat) : Int) := by
        show w64 ((p.length : Int) - 1) = _
        rw [w64_eq (by omega) (by omega)]; omega
      have g1 : gtS (bs p) ((p.length - 1 : Nat) : Int) = some (p[p.length - 1]'(by omega)) := by rw [gtS_by, by_bs, List.getElem?_eq_getElem]
      rw [e, Bool.not_false, cond_true, g0, Option.bind_some, cond_true, hw2, g1, Option.bind_some]
      exact ⟨_, _, rfl⟩
  obtain ⟨x, y, hsp⟩ := hsp
  unfold ref01Base
  rw [hsp, Option.bind_some]
  simp only [seq_nilB]
  unfold baseX
  by_cases hq : p = []
  · subst hq; rfl
  · rw [decide_eq_false hq, cond_false]
    cases hb : baseB p with
    | none =>
      rw [hb] at h2
      have : o = [] := List.getLast?_eq_none_iff.1 h2
      subst this
      simp [hq]
    | some t =>
      rw [hb] at h2
      have hne : o ≠ [] := by rintro rfl; cases h2
      have hpos : 0 < o.length := List.length_pos_iff.2 hne
      have e1 : ((o.length : Int) == 0) = false := by simp; omega
      have hw2 : w64 ((o.length : Int) - 1) = ((o.length - 1 : Nat) : Int) := by rw [w64_eq (by omega) (by omega)]; omega
      rw [e1, cond_false, hw2, gt_nat (i := o.length - 1) (by omega), Option.bind_some]
      rw [List.getLast?_eq_getElem?, List.getElem?_eq_getElem (by omega)] at h2
      exact h2
theorem pre_eq (l : List UInt8) : stringsHasPrefix (bs l) (bs [47]) = some (match l with | [] => false | c :: _ => c == 47) := by
  unfold stringsHasPrefix stringsliteHasPrefix
  cases l with
  | nil => rfl
  | cons c g =>
    have h0 : (bs (c :: g)).size = g.length + 1 := rfl
    have h1 : (bs [47]).size = 1 := rfl
    have e1 : decide (((bs (c :: g)).size : Int) ≥ ((bs [47]).size : Int)) = true := by rw [h0, h1]; simp <;> omega
    have e2 : seq ((bs (c :: g)).extract 0 (((bs [47]).size : Int)).toNat) (bs [47]) = (c == 47) := by
      rw [seq_by]
      show (by_ ((bs (c :: g)).extract 0 1) == _) = _
      rw [by_take, by_bs, by_bs]
      simp
    rw [e1, cond_true, grd_pos (by rw [h0, h1]; refine ⟨?_, ?_, ?_⟩ <;> omega), e2]
    rfl
theorem suf_eq (l : List UInt8) (z : UInt8) (hl : l.length ≤ 1000000) : stringsTrimSuffix (bs (l ++ [z])) (bs [47]) = some (if z = 47 then bs l else bs (l ++ [z])) := by
  have h0 : (bs (l ++ [z])).size = l.length + 1 := by rw [size_by, by_bs]; simp
  have h1 : (bs [47]).size = 1 := rfl
  have hw : w64 (((bs (l ++ [z])).size : Int) - ((bs [47]).size : Int)) = (l.length : Int) := by rw [h0, h1, w64_eq (by omega) (by omega)]; omega
  have e1 : decide (((bs (l ++ [z])).size : Int) ≥ ((bs [47]).size : Int)) = true := by rw [h0, h1]; simp <;> omega
  have e2 : seq ((bs (l ++ [z])).extract ((l.length : Int)).toNat (bs (l ++ [z])).size) (bs [47]) = (z == 47) := by
    rw [seq_by, Int.toNat_natCast, by_drop, by_bs, by_bs]
    simp
  have hs : stringsliteHasSuffix (bs (l ++ [z])) (bs [47]) = some (z == 47) := by
    unfold stringsliteHasSuffix
    rw [e1, cond_true, hw, grd_pos (by rw [h0]; refine ⟨?_, ?_, ?_⟩ <;> omega), e2]
  unfold stringsTrimSuffix stringsliteTrimSuffix
  rw [hs, Option.bind_some, hw]
  by_cases hz : z = 47
  · rw [if_pos hz, hz, beq_self_eq_true, cond_true]
    have h0' : (bs (l ++ [47])).size = l.length + 1 := by rw [size_by, by_bs]; simp
    rw [grd_pos (by rw [h0']; refine ⟨?_, ?_, ?_⟩ <;> omega), Option.bind_some]
    congr 1
    apply by_inj
    rw [Int.toNat_natCast, by_take, by_bs, by_bs]
    simp
  · have : (z == 47) = false := by simp [hz]
    rw [if_neg hz, this, cond_false]; rfl
theorem snoc_of {l : List UInt8} (h : l ≠ []) : ∃ a z, l = a ++ [z] := ⟨l.dropLast, l.getLast h, (List.dropLast_concat_getLast h).symm⟩
theorem join_both (a b : List UInt8) (ha : a.length ≤ 1000000) (hb : b.length ≤ 1000002) : ∃ x, routeJoin (bs a) (bs b) = some x ∧ ref01Join (bs a) (bs b) = some x := by
  have hm : (IntKind.i64.max : Int) = 9223372036854775807 := by decide
  unfold routeJoin ref01Join
  simp only [seq_nilB]
  by_cases hq : a = []
  · rw [decide_eq_true hq]; exact ⟨_, rfl, rfl⟩
  rw [decide_eq_false hq]
  simp only [cond_false]
  cases b with
  | nil => exact ⟨_, rfl, rfl⟩
  | cons c b' =>
    have e0 : decide (c :: b' = []) = false := by simp
    have g0 : gtS (bs (c :: b')) 0 = some c := by
      rw [show (0 : Int) = ((0 : Nat) : Int) from rfl, gtS_by, by_bs]; rfl
    rw [pre_eq, e0]
    simp only [Option.bind_some, Bool.not_false, cond_true, cond_false, g0]
    by_cases hc : c = 47
    · subst hc; exact ⟨_, rfl, rfl⟩
    · have e1 : (c == 47) = false := by simp [hc]
      have e2 : ((c.toNat : Int) == 47) = false := by
        simp only [beq_eq_false_iff_ne, ne_eq]
        intro h
        exact hc (UInt8.toNat_inj.1 (by show c.toNat = 47; omega))
      rw [e1, e2]
      simp only [cond_false]
      obtain ⟨l, z, rfl⟩ := snoc_of hq
      have hl : l.length ≤ 1000000 := by simp at ha; omega
      have hsz : (bs (l ++ [z])).size = l.length + 1 := by rw [size_by, by_bs]; simp
      have hszb : (bs (c :: b')).size = b'.length + 1 := rfl
      have hsz1 : (bs [47]).size = 1 := rfl
      have hbl : b'.length ≤ 1000001 := by simp at hb; omega
      have hw : w64 (((bs (l ++ [z])).size : Int) - 1) = (l.length : Int) := by rw [hsz, w64_eq (by omega) (by omega)]; omega
      have gz : gtS (bs (l ++ [z])) (l.length : Int) = some z := by rw [gtS_by, by_bs]; simp
      have hcat : ∀ (x y : ByteArray), (x ++ y).size = x.size + y.size := fun x y => by rw [size_by, by_append, List.length_append, ← size_by, ← size_by]
      rw [suf_eq l z hl, hw, gz]
      simp only [Option.bind_some]
      by_cases hz : z = 47
      · have e3 : ((z.toNat : Int) == 47) = true := by rw [hz]; rfl
        have hszl : (bs l).size = l.length := rfl
        rw [if_pos hz, e3, cond_true, grd_pos (by rw [hm, hszl, hsz1]; omega), grd_pos (by rw [hm, hcat, hszl, hsz1, hszb]; omega), grd_pos (by rw [hm, hsz, hszb]; omega)]
        refine ⟨_, rfl, ?_⟩
        congr 2
        apply by_inj
        rw [by_append, by_bs, by_bs, by_bs, hz]
      · have e3 : ((z.toNat : Int) == 47) = false := by
          simp only [beq_eq_false_iff_ne, ne_eq]
          intro h
          exact hz (UInt8.toNat_inj.1 (by show z.toNat = 47; omega))
        rw [if_neg hz, e3, cond_false, grd_pos (by rw [hm, hsz, hsz1]; omega), grd_pos (by rw [hm, hcat, hsz, hsz1, hszb]; omega)]
        exact ⟨_, rfl, rfl⟩
theorem plain_loop {a0 a1 a2 a3 a4 a5 a6 a7 a8 : Int} {t0 t1 t2 : ByteArray} {ns : List ByteArray} (l : List FrameD) {dr : List Int} {dn : Bool} {ex : Int} {out : ByteArray} {er : Int} :
    ∀ (k i : Nat), i + k = 30 → i ≤ l.length → (∀ (j : Nat) (a : FrameD), j < i → l[j]? = some a → a.names.length ≤ 60) →
    ∃ x, iterN (law19Plain_b2 a0 a1 a2 a3 a4 a5 a6 a7 a8 t0 t1 t2 ns l dr dn ex out er) (k + 1) (i : Int) = some x ∧ ((∃ v, x = .inl v) ∨ ((∃ v, x = .inr (.inl v)) ∧ 30 ≤ l.length) ∨ ((∃ v, x = .inr (.inr v)) ∧ ∀ a ∈ l, a.names.length ≤ 60))
  | k, i, hk, hi, hall => by
    rcases Nat.lt_or_ge i l.length with hlt | hge
    case inr =>
      obtain rfl : i = l.length := by omega
      refine ⟨.inr (.inr (l.length : Int)), iterN_done ?_, .inr (.inr ⟨⟨_, rfl⟩, fun a ha => ?_⟩)⟩
      · simp only [law19Plain_b2, ltf, cond_false]
      · obtain ⟨j, hj, rfl⟩ := List.getElem_of_mem ha
        exact hall j _ hj (List.getElem?_eq_getElem hj)
    cases k with
    | zero =>
      obtain rfl : i = 30 := by omega
      refine ⟨.inr (.inl ((30 : Nat) : Int)), iterN_done ?_, .inr (.inl ⟨⟨_, rfl⟩, by omega⟩)⟩
      have e : decide (((30 : Nat) : Int) < (30 : Int)) = false := by decide
      simp only [law19Plain_b2, ltd hlt, cond_true, e, cond_false]
    | succ k =>
      have e : decide ((i : Int) < (30 : Int)) = true := by simp; omega
      by_cases hs : (l[i]).names.length > 60
      · refine ⟨.inl ((i : Int), l[i]), iterN_done ?_, .inl ⟨_, rfl⟩⟩
        have e2 : decide (((l[i]).names.length : Int) > (60 : Int)) = true := by simp; omega
        simp only [law19Plain_b2, ltd hlt, cond_true, e, gt_nat hlt, Option.bind_some, e2]
      · have e2 : decide (((l[i]).names.length : Int) > (60 : Int)) = false := by simp; omega
        obtain ⟨x, h1, h2⟩ := plain_loop (a0 := a0) (a1 := a1) (a2 := a2) (a3 := a3) (a4 := a4) (a5 := a5) (a6 := a6) (a7 := a7) (a8 := a8) (t0 := t0) (t1 := t1) (t2 := t2) (ns := ns) l (dr := dr) (dn := dn) (ex := ex) (out := out) (er := er) k (i + 1) (by omega) hlt (fun j a hj ha => by
          rcases Nat.lt_or_ge j i with h | h
          · exact hall j a h ha
          · obtain rfl : j = i := by omega
            rw [List.getElem?_eq_getElem hlt] at ha
            cases ha; omega)
        refine ⟨x, iterN_step (a' := ((i + 1 : Nat) : Int)) ?_ h1, h2⟩
        simp only [law19Plain_b2, ltd hlt, cond_true, e, gt_nat hlt, Option.bind_some, e2, cond_false, w64_succ (i := i) (by omega)]
/-- What a plain job is. -/
structure PlainJ (j : JobD) : Prop where
  inner : ∀ f ∈ j.stack, f.names.length ≤ 60
  stack : j.stack.length ≤ 20
  names : j.names.length ≤ 120
  draws : j.draws.length ≤ 200
  path : j.path.size ≤ 400
  path2 : j.path2.size ≤ 400
def plainB (j : JobD) : Bool := bif decide ((j.stack.length : Int) ≤ 20) then (bif decide ((j.names.length : Int) ≤ 120) then (bif decide ((j.draws.length : Int) ≤ 200) then (bif decide ((j.path.size : Int) ≤ 400) then (bif decide ((j.path2.size : Int) ≤ 400) then (bif decide ((j.text.size : Int) ≤ 400) then (bif decide (j.atF ≥ 0) then decide (j.atF ≤ 1000000) else false) else false) else false) else false) else false) else false) else false
theorem some_bif {c : Bool} {x y : Bool} : (bif c then some x else some y) = some (bif c then x else y) := by cases c <;> rfl
theorem plainB_of {j : JobD} (h : plainB j = true) (hi : ∀ f ∈ j.stack, f.names.length ≤ 60) : PlainJ j := by
  unfold plainB at h
  have key : ∀ {p : Prop} [Decidable p] {x : Bool}, (bif decide p then x else false) = true → p ∧ x = true := by
    intro p _ x h
    by_cases hp : p
    · rw [decide_eq_true hp] at h; exact ⟨hp, h⟩
    · rw [decide_eq_false hp] at h; cases h
  obtain ⟨h1, h⟩ := key h
  obtain ⟨h2, h⟩ := key h
  obtain ⟨h3, h⟩ := key h
  obtain ⟨h4, h⟩ := key h
  obtain ⟨h5, h⟩ := key h
  exact ⟨hi, by omega, by omega, by omega, by omega, by omega⟩
theorem plain_eq (j : JobD) : ∃ b, law19Plain j = some b ∧ (b = true → PlainJ j) := by
  obtain ⟨x, h1, h2⟩ := plain_loop (a0 := j.kind) (a1 := j.p) (a2 := j.phase) (a3 := j.fd) (a4 := j.nF) (a5 := j.modeF) (a6 := j.tries) (a7 := j.atF) (a8 := j.flags) (t0 := j.path) (t1 := j.path2) (t2 := j.text) (ns := j.names) j.stack (dr := j.draws) (dn := j.done) (ex := j.exit) (out := j.out) (er := j.e) 30 0 (by omega) (Nat.zero_le _) (fun j a h => by omega)
  have h3 := iterN_LF h1 (by omega)
  rw [show ((0 : Nat) : Int) = (0 : Int) from rfl] at h3
  unfold law19Plain
  rw [h3, Option.bind_some]
  rcases h2 with ⟨⟨v, y⟩, rfl⟩ | ⟨⟨v, rfl⟩, h⟩ | ⟨⟨v, rfl⟩, h⟩
  · exact ⟨false, rfl, fun h => by cases h⟩
  · refine ⟨plainB j, by simp only [some_bif]; rfl, fun hb => ?_⟩
    unfold plainB at hb
    have : decide ((j.stack.length : Int) ≤ 20) = false := by simp; omega
    rw [this] at hb; cases hb
  · exact ⟨plainB j, by simp only [some_bif]; rfl, fun hb => plainB_of hb h⟩
theorem eq_no {a b c : Int} (h : b ≠ c) : (a == b) = true → (a == c) = false := by
  intro e
  rw [eq_of_beq e]
  simpa using h
theorem ask_eq (j : JobD) : ∃ c, shiftAsk j = some c ∧ ref19Ask j = some c := by
  unfold shiftAsk shiftWorks shiftOf ref19Ask ref19Mine shiftMove shiftLink
  have hp := eq_no (a := j.phase) (b := 0) (c := 1) (by decide)
  have hk := eq_no (a := j.kind) (b := 4) (c := 5) (by decide)
  generalize (j.kind == 4) = b1 at *
  generalize (j.kind == 5) = b2 at *
  generalize (j.phase == 0) = p0 at *
  generalize (j.phase == 1) = p1 at *
  generalize (j.flags == 1) = fl at *
  generalize j.done = d at *
  cases p0
  · cases b1 <;> cases b2 <;> cases d <;> cases p1 <;> cases fl <;> exact ⟨_, rfl, rfl⟩
  · obtain rfl := hp rfl
    cases b1 <;> cases b2 <;> cases d <;> cases fl <;> exact ⟨_, rfl, rfl⟩
/-- What Tell leaves as it was. -/
structure Kept (j x : JobD) : Prop where
  names : x.names = j.names
  stack : x.stack = j.stack
  draws : x.draws = j.draws
theorem tell_eq (j : JobD) (r : ReplyD) (h0 : 0 ≤ r.e) (h1 : r.e ≤ 9223372036854775807) (hj : PlainJ j) : ∃ x, shiftTell j r = some x ∧ ref19Tell j r = some x ∧ Kept j x := by
  obtain ⟨o, hf⟩ := fail_some j j.path2 r.e h0 h1 (by have := hj.path2; omega)
  have hf2 := (fail_eq j j.path2 r.e h0 h1).trans hf
  have hb1 : routeBase j.path = some (bs (baseX (by_ j.path))) := routeBase_eq (by_ j.path) (by rw [← size_by]; have := hj.path; omega)
  have hb2 : ref01Base j.path = some (bs (baseX (by_ j.path))) := ref01Base_eq (by_ j.path) (by rw [← size_by]; have := hj.path; omega)
  obtain ⟨y, hj1, hj2⟩ := join_both (by_ j.path2) (baseX (by_ j.path)) (by rw [← size_by]; have := hj.path2; omega) (by have := baseX_le (by_ j.path); rw [← size_by] at this; have := hj.path; omega)
  rw [bs_by] at hj1 hj2
  unfold shiftTell shiftWorks shiftOf ref19Tell ref19Mine jobEnd ref15End
  simp only [hf, hf2, hb1, hb2, hj1, hj2, Option.bind_some, bne]
  have hp := eq_no (a := j.phase) (b := 0) (c := 1) (by decide)
  have hk := eq_no (a := j.kind) (b := 4) (c := 5) (by decide)
  have he := eq_no (a := r.e) (b := 0) (c := 2) (by decide)
  generalize (j.kind == 4) = b1 at *
  generalize (j.kind == 5) = b2 at *
  generalize (j.phase == 0) = p0 at *
  generalize (j.phase == 1) = p1 at *
  generalize (r.e == 0) = e0 at *
  generalize (r.e == 2) = e2 at *
  generalize (r.i.kind == 2) = ik at *
  generalize hd : j.done = d at *
  cases d
  · cases p0
    · cases b1 <;> cases b2 <;> cases p1 <;> cases e0 <;> cases e2 <;> cases ik <;> first | exact ⟨_, rfl, rfl, rfl, rfl, rfl⟩ | exact absurd (he rfl) (by decide)
    · obtain rfl := hp rfl
      cases b1 <;> cases b2 <;> cases e0 <;> cases e2 <;> cases ik <;> first | exact ⟨_, rfl, rfl, rfl, rfl, rfl⟩ | exact absurd (he rfl) (by decide)
  · cases b1 <;> cases b2 <;> exact ⟨_, rfl, rfl, rfl, rfl, rfl⟩
theorem ShiftSteps_true (j : JobD) (r : ReplyD) (h1 : r.e ≤ 9223372036854775807) : law19ShiftSteps j r = some true := by
  unfold law19ShiftSteps shownX law19Reply
  obtain ⟨b, hb, hb2⟩ := plain_eq j
  rw [hb, Option.bind_some]
  cases b with
  | false => rfl
  | true =>
    have hj := hb2 rfl
    simp only [Bool.not_true, cond_false, Option.bind_some]
    by_cases hl : r.l.length > 60
    · have e : decide ((r.l.length : Int) > 60) = true := by simp; omega
      rw [e, cond_true]
    · have e : decide ((r.l.length : Int) > 60) = false := by simp; omega
      rw [e, cond_false]
      by_cases h0 : r.e < 0
      · rw [decide_eq_true h0, cond_true]
      · rw [decide_eq_false h0, cond_false]
        obtain ⟨c, c1, c2⟩ := ask_eq j
        obtain ⟨x, x1, x2, hx⟩ := tell_eq j r (by omega) h1 hj
        have hw := work_eq j (by have := hj.stack; omega)
        have ht : Tame x := ⟨by rw [hx.names]; have := hj.names; omega, by rw [hx.stack]; have := hj.stack; omega, by rw [hx.stack]; intro f hf; have := hj.inner f hf; omega, by rw [hx.draws]; have := hj.draws; omega⟩
        simp only [c1, c2, hw, x1, x2, Option.bind_some, beq_self_eq_true, seq_self, Bool.and_self, cond_true, work_eq x ht.stack, job_self x ht]
end Go.Proofs.YtfjflodicgjihaaGreatDoor.Den
