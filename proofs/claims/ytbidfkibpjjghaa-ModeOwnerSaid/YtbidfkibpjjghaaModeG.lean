/- Contracts of package mode's texts and parsers, and of the reference's. -/
import Derived.Test.YtbidfkibpjjghaaModeF
set_option linter.unusedVariables false
set_option linter.unusedSimpArgs false
namespace Go.Proofs.Ytbidfkibpjjghaa
open Go.RowKit

theorem printr_any (m : Int) (w : World) :
    Calls Try.prog 9 #[.int .i64 m] w fun e w' => e = .returned (.string (pr (lo6 m))) ∧ w = w' := by
  have hh : bits .and .i64 m 63 = ((lo6 m : Nat) : Int) := and63 m
  have hlt := lo6_lt m
  generalize lo6 m = n at *
  go_enter Try.func9, Try.ntmps9
  go_wp2_with fail
  refine (digit_any _ (by omega) (by omega) _).mono ?_
  rintro e w' ⟨rfl, rfl⟩
  go_wp2_with fail
  refine (digit_any _ (by omega) (by omega) _).mono ?_
  rintro e w' ⟨rfl, rfl⟩
  go_wp2
  go_ret
  refine ⟨?_, rfl⟩
  have e1 : ((n : Int) / 8).toNat = n / 8 := by omega
  have e2 : ((n : Int) % 8).toNat = n % 8 := by omega
  simp only [e1, e2]; rfl

theorem bit_tab : ∀ n, n < 64 → ∀ k, k < 6 → ((n &&& (32 / 2 ^ k)) == 0) = ((n >>> (5 - k)) % 2 == 0) := by decide +kernel
theorem txv_set (n k : Nat) (hk : k < 6) (h : ((n >>> (5 - k)) % 2 == 0) = true) : (txv n k).setIfInBounds k (.int .u8 45) = txv n (k + 1) := by
  rcases (by omega : k = 0 ∨ k = 1 ∨ k = 2 ∨ k = 3 ∨ k = 4 ∨ k = 5) with rfl | rfl | rfl | rfl | rfl | rfl <;> (have h' := eq_of_beq h; simp at h'; simp [txv, txc, h'])
theorem txv_same (n k : Nat) (hk : k < 6) (h : ((n >>> (5 - k)) % 2 == 0) = false) : txv n k = txv n (k + 1) := by
  rcases (by omega : k = 0 ∨ k = 1 ∨ k = 2 ∨ k = 3 ∨ k = 4 ∨ k = 5) with rfl | rfl | rfl | rfl | rfl | rfl <;> simp [txv, txc, h] <;> simp_all
theorem txv_get (n k j : Nat) (hj : j < 6) : (txv n k)[j]? = some (.int .u8 (txc n k j : Nat)) := by
  rcases (by omega : j = 0 ∨ j = 1 ∨ j = 2 ∨ j = 3 ∨ j = 4 ∨ j = 5) with rfl | rfl | rfl | rfl | rfl | rfl <;> rfl
def txn (n : Nat) : List Int := [(txc n 6 0 : Nat), (txc n 6 1 : Nat), (txc n 6 2 : Nat), (txc n 6 3 : Nat), (txc n 6 4 : Nat), (txc n 6 5 : Nat)]
theorem txn_get (n j : Nat) (hj : j < 6) : (txn n).getD j 0 = (txc n 6 j : Nat) := by
  rcases (by omega : j = 0 ∨ j = 1 ∨ j = 2 ∨ j = 3 ∨ j = 4 ∨ j = 5) with rfl | rfl | rfl | rfl | rfl | rfl <;> rfl
theorem tx_of (n : Nat) : strOfNums (txn n) = tx n := by
  simp [strOfNums, txn, tx, UInt8.ofNat]
theorem setCell_alloc_mark (w : World) (c : Array Value) (t : TypeId) (fr : Nat × Nat) (i : Nat) (v : Value) :
    (w.alloc (.cells c t fr)).setCell ⟨w.heap.size, i, none⟩ v = w.alloc (.cells (c.setIfInBounds i v) t fr) := by
  unfold World.setCell World.alloc
  congr 1
  apply Array.ext_getElem?
  intro k
  rw [Array.getElem?_modify]
  by_cases hk : w.heap.size = k
  · subst hk
    simp
  · have hk' : k ≠ w.heap.size := fun e => hk e.symm
    simp [hk, hk', Array.getElem?_push]
theorem text_any (m : Int) (w : World) :
    Calls Try.prog 10 #[.int .i64 m] w fun e w' => e = .returned (.string (tx (lo6 m))) ∧ Below w.heap.size w w' := by
  have kc := fun (w : World) (C : Array Value) (n c : Nat) => Lib.run_convert_bytes_const (P := Try.prog) w 33 5 C n c Try.underlying33 Try.underlying5
  have hb : ∀ k, k < 6 → (bits .and .i64 m (32 / 2 ^ k) == 0) = ((lo6 m >>> (5 - k)) % 2 == 0) := fun k hk => by
    have h1 : 0 ≤ ((32 : Int) / 2 ^ k) ∧ ((32 : Int) / 2 ^ k) < 64 ∧ lo6 ((32 : Int) / 2 ^ k) = 32 / 2 ^ k := by
      rcases (by omega : k = 0 ∨ k = 1 ∨ k = 2 ∨ k = 3 ∨ k = 4 ∨ k = 5) with rfl | rfl | rfl | rfl | rfl | rfl <;> decide
    rw [and_small' _ _ h1.1 h1.2.1, h1.2.2, show (0 : Int) = ((0 : Nat) : Int) from rfl, natCast_beq, bit_tab _ (lo6_lt m) k hk]
  have hlt := lo6_lt m
  generalize lo6 m = n at *
  have HB := Lib.hid hb
  clear hb
  have hfin : (convert 33 9 (.slice (some ⟨w.heap.size, 0, none⟩) 6 6)).run Try.prog (w.alloc (.cells (txv n 6) 5 (6, 7))) = .ok (.string (tx n)) (w.alloc (.cells (txv n 6) 5 (6, 7))) := by
    have := run_convert_bytes_arg (P := Try.prog) (w.alloc (.cells (txv n 6) 5 (6, 7))) 33 5 Try.underlying33 Try.underlying5 w.heap.size 0 6 6 (txn n) rfl
      (fun i hi => by rw [World.cell?_alloc_mark, Nat.zero_add, txv_get _ _ _ hi, txn_get _ _ hi]) 9 Try.underlying9
    rw [this, tx_of]
  have HF := Lib.hid hfin
  clear hfin
  go_enter Try.func10, Try.ntmps10
  go_wp2
  go_loopw [7] (fun i wr => ∃ k : Nat, k ≤ 6 ∧ i = .int .i64 k ∧ wr = w.alloc (.cells (txv n k) 5 (6, 7))) (fun i _ => 6 - (intOf i).toNat)
  case atStart => exact ⟨0, by omega, rfl, rfl⟩
  case round =>
    obtain ⟨k, hk, rfl, rfl⟩ := hrel
    by_cases hlt : k < 6
    · have hc : (w.alloc (.cells (txv n k) 5 (6, 7))).cell? ⟨w.heap.size, k, none⟩ = some (.int .u8 (txc n k k : Nat)) := by
        rw [World.cell?_alloc_mark, txv_get _ _ _ hlt]
      have hz : (w.alloc (.cells (txv n k) 5 (6, 7))).frozen? ⟨w.heap.size, k, none⟩ = false := by
        rw [World.frozen?_alloc_mark]; simp; omega
      by_cases hbit : ((n >>> (5 - k)) % 2 == 0) = true
      · have ht : (bits .and .i64 m (32 / 2 ^ k) == 0) = true := by rw [HB.out k hlt]; exact hbit
        have HS := Lib.hid (txv_set n k hlt hbit)
        clear hbit
        go_wp2
        go_roundw
        case rel => exact ⟨k + 1, by omega, by go_num, by rw [← HS.out, setCell_alloc_mark]⟩
        case measure => simp [intOf]; omega
      · have hbit' : ((n >>> (5 - k)) % 2 == 0) = false := by simpa using hbit
        have ht : (bits .and .i64 m (32 / 2 ^ k) == 0) = false := by rw [HB.out k hlt]; exact hbit'
        have HS := Lib.hid (txv_same n k hlt hbit')
        clear hbit hbit'
        go_wp2
        go_roundw
        case rel => exact ⟨k + 1, by omega, by go_num, by rw [← HS.out]⟩
        case measure => simp [intOf]; omega
    · obtain rfl : k = 6 := by omega
      have hf := HF.out
      go_wp2
      go_ret
      exact ⟨rfl, (Below.refl _ _).alloc (Nat.le_refl _) _⟩

/-! ### The reference's text -/
def txl (n k : Nat) : ByteArray := ⟨((List.range k).map fun j => (txc n 6 j).toUInt8).toArray⟩
theorem txl_size (n k : Nat) : (txl n k).size = k := by simp [txl, ByteArray.size]
theorem txl_push (n k : Nat) (b : UInt8) (h : (txc n 6 k).toUInt8 = b) : txl n k ++ ⟨#[b]⟩ = txl n (k + 1) := by
  subst h
  apply ByteArray.ext
  simp [txl, List.range_succ, ByteArray.data_append]
def iv : Nat → Int | 0 => 5 | 1 => 4 | 2 => 3 | 3 => 2 | 4 => 1 | 5 => 0 | _ => -1
theorem bitr (m : Int) (k : Nat) (hk : k < 6) : (bits .and .i64 (m / 2 ^ (5 - k)) 1 == 1) = !((lo6 m >>> (5 - k)) % 2 == 0) := by
  have t : ∀ n, n < 64 → n &&& 1 = n % 2 := by decide +kernel
  have e : lo6 (m / 2 ^ (5 - k)) % 2 = (lo6 m >>> (5 - k)) % 2 := by
    rw [Nat.shiftRight_eq_div_pow]
    rcases (by omega : k = 0 ∨ k = 1 ∨ k = 2 ∨ k = 3 ∨ k = 4 ∨ k = 5) with rfl | rfl | rfl | rfl | rfl | rfl <;> simp [lo6] <;> omega
  rw [and_small' _ _ (by decide) (by decide), show (1 : Int) = ((1 : Nat) : Int) from rfl, natCast_beq, show lo6 ((1 : Nat) : Int) = 1 from rfl, t _ (lo6_lt _), e]
  rcases Nat.mod_two_eq_zero_or_one (lo6 m >>> (5 - k)) with h | h <;> simp [h]
theorem textr_any (m : Int) (w : World) :
    Calls Try.prog 11 #[.int .i64 m] w fun e w' => e = .returned (.string (tx (lo6 m))) ∧ w = w' := by
  have HB := Lib.hid (bitr m)
  have hlt := lo6_lt m
  generalize lo6 m = n at *
  go_enter Try.func11, Try.ntmps11
  go_wp2
  go_loop [3, 4] (fun s i => ∃ k : Nat, k ≤ 6 ∧ i = .int .i64 (iv k) ∧ s = .string (txl n k)) (fun _ i => (intOf i + 1).toNat)
  case atStart => exact ⟨0, by omega, rfl, rfl⟩
  case round =>
    obtain ⟨k, hk, rfl, rfl⟩ := hrel
    have hsz := txl_size n k
    by_cases hlt : k < 6
    · have hb := HB.out k hlt
      have hp := txl_push n k
      cases hbit : ((n >>> (5 - k)) % 2 == 0)
      · rw [hbit] at hb
        have HP := Lib.hid (hp ([114, 119, 120, 114, 119, 120].getD k 0 : Nat).toUInt8 (by simp only [txc]; rw [if_neg (by simp [hbit])]))
        clear hp hbit
        rcases (by omega : k = 0 ∨ k = 1 ∨ k = 2 ∨ k = 3 ∨ k = 4 ∨ k = 5) with rfl | rfl | rfl | rfl | rfl | rfl
        all_goals
          simp only [iv, Nat.reduceSub, Int.reducePow, Int.ediv_one, Bool.not_false] at hb ⊢
          go_wp2
          go_round
          case rel => first | exact ⟨1, by omega, rfl, congrArg Value.string HP.out⟩ | exact ⟨2, by omega, rfl, congrArg Value.string HP.out⟩ | exact ⟨3, by omega, rfl, congrArg Value.string HP.out⟩ | exact ⟨4, by omega, rfl, congrArg Value.string HP.out⟩ | exact ⟨5, by omega, rfl, congrArg Value.string HP.out⟩ | exact ⟨6, by omega, rfl, congrArg Value.string HP.out⟩
          case measure => simp [intOf]
      · rw [hbit] at hb
        have HP := Lib.hid (hp 45 (by simp only [txc]; rw [if_pos (by simp [hlt, hbit])]; rfl))
        clear hp hbit
        rcases (by omega : k = 0 ∨ k = 1 ∨ k = 2 ∨ k = 3 ∨ k = 4 ∨ k = 5) with rfl | rfl | rfl | rfl | rfl | rfl
        all_goals
          simp only [iv, Nat.reduceSub, Int.reducePow, Int.ediv_one, Bool.not_true] at hb ⊢
          go_wp2
          go_round
          case rel => first | exact ⟨1, by omega, rfl, congrArg Value.string HP.out⟩ | exact ⟨2, by omega, rfl, congrArg Value.string HP.out⟩ | exact ⟨3, by omega, rfl, congrArg Value.string HP.out⟩ | exact ⟨4, by omega, rfl, congrArg Value.string HP.out⟩ | exact ⟨5, by omega, rfl, congrArg Value.string HP.out⟩ | exact ⟨6, by omega, rfl, congrArg Value.string HP.out⟩
          case measure => simp [intOf]
    · obtain rfl : k = 6 := by omega
      simp only [iv]
      go_wp2
      go_ret
      exact ⟨rfl, rfl⟩
/-! ### Parse -/
def okd (c : UInt8) : Bool := 48 ≤ c.toNat && c.toNat ≤ 55
def val (l : List UInt8) : Nat := l.foldl (fun n c => 8 * n + (c.toNat - 48)) 0
def parseM (l : List UInt8) : Int × Bool := if (l.length = 1 ∨ l.length = 2) ∧ l.all okd = true then ((val l : Nat), true) else (0, false)
theorem idx_tab : ∀ n, n < 256 → Lib.indexByte [48, 49, 50, 51, 52, 53, 54, 55] (UInt8.ofNat n) = if okd (UInt8.ofNat n) then (n : Int) - 48 else -1 := by decide +kernel
theorem idx_dig (c : UInt8) : Lib.indexByte [48, 49, 50, 51, 52, 53, 54, 55] c = if okd c then (c.toNat : Int) - 48 else -1 := by
  have := idx_tab c.toNat c.toNat_lt
  simpa using this
theorem or_tab : ∀ n, n < 8 → ∀ d, d < 8 → bits .or .i64 ((n : Nat) * 8 : Int) ((d : Nat) : Int) = ((8 * n + d : Nat) : Int) := by decide +kernel
theorem val_snoc (l : List UInt8) (c : UInt8) : val (l ++ [c]) = 8 * val l + (c.toNat - 48) := by simp [val]
theorem take_snoc (s : ByteArray) (k : Nat) (h : k < s.size) : s.data.toList.take (k + 1) = s.data.toList.take k ++ [s[k]] := by
  rw [List.take_succ_eq_append_getElem (by simpa using h)]; rfl
/-- What stands at the head of a parser's round. -/
structure ParseAt (s : ByteArray) (k v : Nat) : Prop where
  le : k ≤ s.size
  two : s.size = 1 ∨ s.size = 2
  val : v = val (s.data.toList.take k)
  ok : (s.data.toList.take k).all okd = true
theorem ParseAt.bound {s k v} (h : ParseAt s k v) : (k = 0 ∧ v = 0) ∨ (k = 1 ∧ v < 8) ∨ k = 2 := by
  obtain ⟨h1, h2, h3, h4⟩ := h
  rcases (by omega : k = 0 ∨ k = 1 ∨ k = 2) with rfl | rfl | rfl
  · left; exact ⟨rfl, by rw [h3]; rfl⟩
  · right; left
    refine ⟨rfl, ?_⟩
    have hlt : 0 < s.size := by omega
    rw [take_snoc s 0 hlt] at h3 h4
    simp [val_snoc, okd] at h3 h4
    simp [Go.Proofs.Ytbidfkibpjjghaa.val] at h3
    omega
  · right; right; rfl
theorem ParseAt.next {s k v} (h : ParseAt s k v) (hk : k < s.size) (ho : okd s[k] = true) : ParseAt s (k + 1) (8 * v + (s[k].toNat - 48)) :=
  ⟨hk, h.two, by rw [take_snoc s k hk, val_snoc, ← h.val], by rw [take_snoc s k hk, List.all_append, h.ok]; simpa using ho⟩
theorem ParseAt.bad {s k v} (h : ParseAt s k v) (hk : k < s.size) (ho : okd s[k] = false) : parseM s.data.toList = (0, false) := by
  unfold parseM
  rw [if_neg]
  rintro ⟨_, h2⟩
  rw [List.all_eq_true] at h2
  have := h2 s[k] (by simp; exact Array.getElem_mem _)
  simp_all
theorem ParseAt.done {s k v} (h : ParseAt s k v) (hk : ¬ k < s.size) : parseM s.data.toList = (((v : Nat) : Int), true) := by
  have e : k = s.size := by have := h.le; omega
  have h4 := h.ok
  have h3 := h.val
  rw [List.take_of_length_le (by simp; omega)] at h3 h4
  unfold parseM
  rw [if_pos ⟨by simpa using h.two, h4⟩, h3]
theorem parse_short (s : ByteArray) (h : ¬ (s.size = 1 ∨ s.size = 2)) : parseM s.data.toList = (0, false) := by
  unfold parseM
  rw [if_neg]
  rintro ⟨h1, _⟩
  exact h (by simpa using h1)
theorem ParseAt.start {s : ByteArray} (h : s.size = 1 ∨ s.size = 2) : ParseAt s 0 0 := ⟨by omega, h, rfl, rfl⟩
theorem okd_int (c : UInt8) (h : okd c = true) : 48 ≤ (c.toNat : Int) ∧ (c.toNat : Int) ≤ 55 := by simp [okd] at h; omega
theorem okd_not (c : UInt8) (h : okd c = false) : ¬ (48 ≤ (c.toNat : Int) ∧ (c.toNat : Int) ≤ 55) := by simp [okd] at h; omega
theorem parse_any (s : ByteArray) (w : World) :
    Calls Try.prog 17 #[.string s] w fun e w' => e = .returned (.tuple #[.int .i64 (parseM s.data.toList).1, .bool (parseM s.data.toList).2]) ∧ w = w' := by
  have hfin : ∀ a b, parseM s.data.toList = (a, b) → Ending.returned (.tuple #[.int .i64 a, .bool b]) = Ending.returned (.tuple #[.int .i64 (parseM s.data.toList).1, .bool (parseM s.data.toList).2]) := fun a b h => by rw [h]
  have HF := Lib.hid hfin
  clear hfin
  generalize hE : (Ending.returned (.tuple #[.int .i64 (parseM s.data.toList).1, .bool (parseM s.data.toList).2])) = E at *
  clear hE
  by_cases h12 : s.size = 1 ∨ s.size = 2
  · have hst := Lib.hid (ParseAt.start h12)
    have hsz : s.size < 3 := by omega
    have hsz' : 0 < s.size := by omega
    have hix := Lib.hid (fun (c : UInt8) => idx_dig c)
    rcases h12 with h | h
    · have t1 : (((s.size : Nat) : Int) != 1) = false := by rw [h]; rfl
      clear h
      go_enter Try.func17, Try.ntmps17
      go_wp2
      go_loop [4, 17] (fun n i => ∃ k v : Nat, ParseAt s k v ∧ i = .int .i64 (k : Int) ∧ n = .int .i64 (v : Int)) (fun _ i => s.size - (intOf i).toNat)
      case atStart => exact ⟨0, 0, hst.out, rfl, rfl⟩
      case round =>
        obtain ⟨k, v, hp, rfl, rfl⟩ := hrel
        have hbd := hp.bound
        by_cases hlt : k < s.size
        · have hi := hix.out s[k]
          cases ho : okd s[k]
          · have hbad := Lib.hid (hp.bad hlt ho)
            rw [ho] at hi
            simp only [Bool.false_eq_true, if_false] at hi
            have HI := Lib.hid hi
            clear hi ho hp
            go_wp2_with fail
            refine (Try.strings_IndexByte _ _ _).mono ?_
            rintro e w' ⟨rfl, rfl⟩
            have HI' := HI.out
            go_wp2
            go_ret2
            exact ⟨HF.out _ _ hbad.out, rfl⟩
          · have hn := Lib.hid (hp.next hlt ho)
            have ho2 := okd_int _ ho
            rw [ho] at hi
            simp only [if_true] at hi
            have HI := Lib.hid hi
            have hv : v < 8 := by rcases hbd with ⟨_, h⟩ | ⟨_, h⟩ | h <;> omega
            have hor := or_tab v hv (s[k].toNat - 48) (by omega)
            rw [show ((s[k].toNat - 48 : Nat) : Int) = (s[k].toNat : Int) - 48 from by omega] at hor
            have hnw : ¬ ((s[k].toNat : Int) - 48 < 0) := by omega
            have hz3 : 0 ≤ (v : Int) * 8 ∧ (v : Int) * 8 ≤ 64 := by omega
            clear hi ho hp hbd
            go_wp2_with fail
            refine (Try.strings_IndexByte _ _ _).mono ?_
            rintro e w' ⟨rfl, rfl⟩
            have HI' := HI.out
            go_wp2
            go_round
            case rel => exact ⟨k + 1, _, hn.out, by go_num, rfl⟩
            case measure => simp [intOf]; omega
        · have hd := Lib.hid (hp.done hlt)
          clear hp hbd
          go_wp2
          go_ret2
          exact ⟨HF.out _ _ hd.out, rfl⟩
    · have t1 : (((s.size : Nat) : Int) != 1) = true := by rw [h]; rfl
      have t2 : (((s.size : Nat) : Int) != 2) = false := by rw [h]; rfl
      clear h
      go_enter Try.func17, Try.ntmps17
      go_wp2
      go_loop [4, 17] (fun n i => ∃ k v : Nat, ParseAt s k v ∧ i = .int .i64 (k : Int) ∧ n = .int .i64 (v : Int)) (fun _ i => s.size - (intOf i).toNat)
      case atStart => exact ⟨0, 0, hst.out, rfl, rfl⟩
      case round =>
        obtain ⟨k, v, hp, rfl, rfl⟩ := hrel
        have hbd := hp.bound
        by_cases hlt : k < s.size
        · have hi := hix.out s[k]
          cases ho : okd s[k]
          · have hbad := Lib.hid (hp.bad hlt ho)
            rw [ho] at hi
            simp only [Bool.false_eq_true, if_false] at hi
            have HI := Lib.hid hi
            clear hi ho hp
            go_wp2_with fail
            refine (Try.strings_IndexByte _ _ _).mono ?_
            rintro e w' ⟨rfl, rfl⟩
            have HI' := HI.out
            go_wp2
            go_ret2
            exact ⟨HF.out _ _ hbad.out, rfl⟩
          · have hn := Lib.hid (hp.next hlt ho)
            have ho2 := okd_int _ ho
            rw [ho] at hi
            simp only [if_true] at hi
            have HI := Lib.hid hi
            have hv : v < 8 := by rcases hbd with ⟨_, h⟩ | ⟨_, h⟩ | h <;> omega
            have hor := or_tab v hv (s[k].toNat - 48) (by omega)
            rw [show ((s[k].toNat - 48 : Nat) : Int) = (s[k].toNat : Int) - 48 from by omega] at hor
            have hnw : ¬ ((s[k].toNat : Int) - 48 < 0) := by omega
            have hz3 : 0 ≤ (v : Int) * 8 ∧ (v : Int) * 8 ≤ 64 := by omega
            clear hi ho hp hbd
            go_wp2_with fail
            refine (Try.strings_IndexByte _ _ _).mono ?_
            rintro e w' ⟨rfl, rfl⟩
            have HI' := HI.out
            go_wp2
            go_round
            case rel => exact ⟨k + 1, _, hn.out, by go_num, rfl⟩
            case measure => simp [intOf]; omega
        · have hd := Lib.hid (hp.done hlt)
          clear hp hbd
          go_wp2
          go_ret2
          exact ⟨HF.out _ _ hd.out, rfl⟩
  · have t1 : (((s.size : Nat) : Int) != 1) = true := bne_iff_ne.2 (by omega)
    have t2 : (((s.size : Nat) : Int) != 2) = true := bne_iff_ne.2 (by omega)
    have hz := Lib.hid (parse_short s h12)
    clear h12
    go_enter Try.func17, Try.ntmps17
    go_wp2
    go_ret2
    exact ⟨HF.out _ _ hz.out, rfl⟩
end Go.Proofs.Ytbidfkibpjjghaa
