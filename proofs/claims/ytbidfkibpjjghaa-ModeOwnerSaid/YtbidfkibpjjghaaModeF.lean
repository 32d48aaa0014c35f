/- Contracts of package mode's functions and of the reference's. -/
import Derived.Test.YtbidfkibpjjghaaBits
import Derived.Test.YtbidfkibpjjghaaShelf
import Derived.Test.YtbidfkibpjjghaaRows
import Derived.WalkKit
import Derived.ProofKit
import Derived.OpenShut
import Derived.ShutString
import Derived.Deep.QuietTactic
import Derived.BigQuiet
import Derived.Outline
import Derived.WalkLawsBesides
import Derived.WalkSpells
import Derived.Lib.Hide
import Derived.Lib.SlBytesConst
import Derived.Laws.BytesArg
set_option linter.unusedVariables false
set_option linter.unusedSimpArgs false
namespace Go.Proofs.Ytbidfkibpjjghaa
open Go.RowKit

/-! ### What the functions come to -/
def fits (w h : Nat) : Bool := (w &&& 7) &&& (h &&& 7) == w &&& 7
def mayB (a b c d : Int) : Bool := c == 0 || fits (lo6 d) (if c == b then lo6 (a / 8) else lo6 a)
/-- A digit's byte. -/
def dg (n : Nat) : UInt8 := (48 + n).toUInt8
def pr (n : Nat) : ByteArray := ⟨#[dg (n / 8), dg (n % 8)]⟩
def txc (n k j : Nat) : Nat := if j < k && (n >>> (5 - j)) % 2 == 0 then 45 else [114, 119, 120, 114, 119, 120].getD j 0
def tx (n : Nat) : ByteArray := ⟨#[(txc n 6 0).toUInt8, (txc n 6 1).toUInt8, (txc n 6 2).toUInt8, (txc n 6 3).toUInt8, (txc n 6 4).toUInt8, (txc n 6 5).toUInt8]⟩
def txv (n k : Nat) : Array Value := #[.int .u8 (txc n k 0 : Nat), .int .u8 (txc n k 1 : Nat), .int .u8 (txc n k 2 : Nat), .int .u8 (txc n k 3 : Nat), .int .u8 (txc n k 4 : Nat), .int .u8 (txc n k 5 : Nat)]

theorem fits_tab : ∀ w, w < 64 → ∀ h, h < 64 → ((w &&& 7) &&& (63 - h) == 0) = fits w h := by decide +kernel
theorem andNot_fits (d h : Int) : (bits .andNot .i64 (bits .and .i64 d 7) h == 0) = fits (lo6 d) (lo6 h) := by
  rw [and7, andNot_small _ _ (by omega) (by have : lo6 d &&& 7 ≤ 7 := Nat.and_le_right; omega), lo6_nat _ (by have : lo6 d &&& 7 ≤ 7 := Nat.and_le_right; omega)]
  rw [show (0 : Int) = ((0 : Nat) : Int) from rfl, natCast_beq, fits_tab _ (lo6_lt _) _ (lo6_lt _)]
theorem and_fits (d h : Int) : (bits .and .i64 (bits .and .i64 d 7) (bits .and .i64 h 7) == bits .and .i64 d 7) = fits (lo6 d) (lo6 h) := by
  have h1 : lo6 d &&& 7 ≤ 7 := Nat.and_le_right
  have h2 : lo6 h &&& 7 ≤ 7 := Nat.and_le_right
  rw [and7, and7, and_small _ _ (by omega) (by omega), lo6_nat _ (by omega), lo6_nat _ (by omega), natCast_beq]
  rfl

/-! ### May -/
theorem may_any (a b c d : Int) (w : World) :
    Calls Try.prog 12 #[.int .i64 a, .int .i64 b, .int .i64 c, .int .i64 d] w fun e w' => e = .returned (.bool (mayB a b c d)) ∧ w = w' := by
  by_cases h0 : c = 0
  · have h0' : (c == 0) = true := beq_iff_eq.2 h0
    go_enter Try.func12, Try.ntmps12
    go_wp2
    go_ret
    exact ⟨by simp [mayB, h0'], rfl⟩
  · have h0' : (c == 0) = false := beq_eq_false_iff_ne.2 h0
    by_cases h1 : c = b
    · have h1' : (c == b) = true := beq_iff_eq.2 h1
      have hf := andNot_fits d (a / 8)
      clear h1
      go_enter Try.func12, Try.ntmps12
      go_wp2
      go_ret
      exact ⟨by simp [mayB, h0', h1'], rfl⟩
    · have h1' : (c == b) = false := beq_eq_false_iff_ne.2 h1
      have hf := andNot_fits d a
      clear h1
      go_enter Try.func12, Try.ntmps12
      go_wp2
      go_ret
      exact ⟨by simp [mayB, h0', h1'], rfl⟩

theorem mayr_any (a b c d : Int) (w : World) :
    Calls Try.prog 13 #[.int .i64 a, .int .i64 b, .int .i64 c, .int .i64 d] w fun e w' => e = .returned (.bool (mayB a b c d)) ∧ w = w' := by
  by_cases h0 : c = 0
  · have h0' : (c == 0) = true := beq_iff_eq.2 h0
    go_enter Try.func13, Try.ntmps13
    go_wp2
    go_ret
    exact ⟨by simp [mayB, h0'], rfl⟩
  · have h0' : (c == 0) = false := beq_eq_false_iff_ne.2 h0
    by_cases h1 : b = c
    · have h1' : (b == c) = true := beq_iff_eq.2 h1
      have h2' : (c == b) = true := beq_iff_eq.2 h1.symm
      have hf := and_fits d (a / 8)
      clear h1
      go_enter Try.func13, Try.ntmps13
      go_wp2
      go_ret
      exact ⟨by simp [mayB, h0', h2'], rfl⟩
    · have h1' : (b == c) = false := beq_eq_false_iff_ne.2 h1
      have h2' : (c == b) = false := beq_eq_false_iff_ne.2 (Ne.symm h1)
      have hf := and_fits d a
      clear h1
      go_enter Try.func13, Try.ntmps13
      go_wp2
      go_ret
      exact ⟨by simp [mayB, h0', h2'], rfl⟩

/-! ### Mask -/
theorem mask_any (a b : Int) (w : World) :
    Calls Try.prog 14 #[.int .i64 a, .int .i64 b] w fun e w' => e = .returned (.int .i64 ((lo6 a &&& (63 - lo6 b) : Nat) : Int)) ∧ w = w' := by
  have hf : bits .and .i64 (bits .andNot .i64 a b) 63 = ((lo6 a &&& (63 - lo6 b) : Nat) : Int) := by rw [and63, andNot_lo6]
  go_enter Try.func14, Try.ntmps14
  go_wp2
  go_ret
  exact ⟨rfl, rfl⟩
theorem maskr_any (a b : Int) (w : World) :
    Calls Try.prog 15 #[.int .i64 a, .int .i64 b] w fun e w' => e = .returned (.int .i64 ((lo6 a &&& (63 - lo6 b) : Nat) : Int)) ∧ w = w' := by
  have hf : bits .andNot .i64 (bits .and .i64 a 63) b = ((lo6 a &&& (63 - lo6 b) : Nat) : Int) := by
    have := lo6_lt a
    rw [and63, andNot_small _ _ (by omega) (by omega), lo6_nat _ (by omega)]
  go_enter Try.func15, Try.ntmps15
  go_wp2
  go_ret
  exact ⟨rfl, rfl⟩

/-! ### Print -/
theorem dig_tab : ∀ n, n < 8 → ((⟨#[48, 49, 50, 51, 52, 53, 54, 55]⟩ : ByteArray).extract n (n + 1)).data.toList = [dg n] := by decide +kernel
theorem dig_eq (n : Nat) (h : n < 8) : ((⟨#[48, 49, 50, 51, 52, 53, 54, 55]⟩ : ByteArray).extract n (n + 1)) = ⟨#[dg n]⟩ := by
  have := dig_tab n h
  apply ByteArray.ext
  apply Array.toList_inj.1
  exact this
theorem pr_two (h l : Nat) : (⟨#[dg h]⟩ : ByteArray) ++ ⟨#[dg l]⟩ = ⟨#[dg h, dg l]⟩ := rfl

theorem print_any (m : Int) (w : World) :
    Calls Try.prog 8 #[.int .i64 m] w fun e w' => e = .returned (.string (pr (lo6 m))) ∧ ∃ n, w' = w.drewN n := by
  have hh : bits .and .i64 (m / 8) 7 = ((lo6 m / 8 : Nat) : Int) := by rw [and7, lo6_div8]
  have hl : bits .and .i64 m 7 = ((lo6 m % 8 : Nat) : Int) := by
    have t : ∀ n, n < 64 → n &&& 7 = n % 8 := by decide +kernel
    rw [and7, t _ (lo6_lt m)]
  have hlt := lo6_lt m
  have b1 : lo6 m / 8 < 8 := by omega
  have b2 : lo6 m % 8 < 8 := by omega
  have E := Lib.hid (show (⟨#[48, 49, 50, 51, 52, 53, 54, 55]⟩ : ByteArray).extract (lo6 m / 8) (lo6 m / 8 + 1) ++ (⟨#[48, 49, 50, 51, 52, 53, 54, 55]⟩ : ByteArray).extract (lo6 m % 8) (lo6 m % 8 + 1) = pr (lo6 m) by rw [dig_eq _ b1, dig_eq _ b2]; rfl)
  clear hlt
  generalize lo6 m / 8 = hi at *
  generalize lo6 m % 8 = lo at *
  go_enter Try.func8, Try.ntmps8
  go_wp2
  go_quiet (fail)
  go_wp2
  go_ret
  refine ⟨?_, _, rfl⟩
  first | (rw [E.out]; done) | (rw [← E.out]; simp) | skip
theorem digit_any (x : Int) (h0 : 0 ≤ x) (h1 : x < 8) (w : World) :
    Calls Try.prog 19 #[.int .i64 x] w fun e w' => e = .returned (.string ⟨#[dg x.toNat]⟩) ∧ w = w' := by
  obtain ⟨n, rfl⟩ := Int.eq_ofNat_of_zero_le h0
  have h : n < 8 := by omega
  rw [Int.toNat_natCast]
  clear h0 h1
  have E := Lib.hid (dig_eq n h)
  go_enter Try.func19, Try.ntmps19
  go_wp2
  go_ret
  refine ⟨?_, rfl⟩
  rw [E.out]; rfl
end Go.Proofs.Ytbidfkibpjjghaa
