/- Texts joined by a program of mine (pack.py): Bits. -/
import Derived.Laws.BitsLemmas
set_option linter.unusedVariables false
set_option linter.unusedSimpArgs false
namespace Go.Proofs.YtdbekeidlppfiaaGreatDoor
open Go
def lo6 (x : Int) : Nat := (x % 64).toNat
theorem lo6_lt (x : Int) : lo6 x < 64 := by unfold lo6; omega
theorem ofInt64_mod (x : Int) (j : Nat) (hj : j ≤ 64) : (BitVec.ofInt 64 x).toNat % 2 ^ j = (x % (2 ^ j : Nat)).toNat := by
 rw [BitVec.toNat_ofInt]
 have h2 : ((2 ^ j : Nat) : Int) ∣ ((2 ^ 64 : Nat) : Int) := by
  exact Int.natCast_dvd_natCast.2 (Nat.pow_dvd_pow 2 hj)
 have hp : 0 < (2 ^ j : Nat) := Nat.two_pow_pos j
 have e : x % ((2 ^ 64 : Nat) : Int) % ((2 ^ j : Nat) : Int) = x % ((2 ^ j : Nat) : Int) := Int.emod_emod_of_dvd x h2
 have n1 : 0 ≤ x % ((2 ^ 64 : Nat) : Int) := Int.emod_nonneg _ (by decide)
 rw [← e]
 generalize x % ((2 ^ 64 : Nat) : Int) = y at n1
 obtain ⟨n, rfl⟩ := Int.eq_ofNat_of_zero_le n1
 simp only [Int.toNat_natCast]
 rw [← Int.natCast_emod, Int.toNat_natCast]
theorem and_small (a b : Int) (h0 : 0 ≤ a) (h1 : a < 64) : bits .and .i64 a b = ((lo6 a &&& lo6 b : Nat) : Int) := by
 have ha := ofInt64_mod a 64 (by decide)
 have hb := ofInt64_mod b 6 (by decide)
 have hA : (BitVec.ofInt 64 a).toNat = lo6 a := by
  rw [BitVec.toNat_ofInt]; unfold lo6; omega
 show IntKind.i64.wrap ((BitVec.ofInt 64 a &&& BitVec.ofInt 64 b).toNat : Int) = _
 have hlt := lo6_lt a
 have e : (BitVec.ofInt 64 a &&& BitVec.ofInt 64 b).toNat = lo6 a &&& lo6 b := by
  rw [BitVec.toNat_and, hA]
  have h := @Nat.and_mod_two_pow (lo6 a) (BitVec.ofInt 64 b).toNat 6
  have hle : lo6 a &&& (BitVec.ofInt 64 b).toNat ≤ lo6 a := Nat.and_le_left
  rw [Nat.mod_eq_of_lt (by omega), Nat.mod_eq_of_lt (by omega), hb] at h
  exact h
 rw [e, IntKind.wrap_i64]
 have : lo6 a &&& lo6 b ≤ lo6 a := Nat.and_le_left
 omega
theorem and_comm64 (a b : Int) : bits .and .i64 a b = bits .and .i64 b a := by simp only [bits, BitVec.and_comm]
theorem and_small' (a b : Int) (h0 : 0 ≤ b) (h1 : b < 64) : bits .and .i64 a b = ((lo6 a &&& lo6 b : Nat) : Int) := by
 rw [and_comm64, and_small b a h0 h1, Nat.and_comm]
theorem lo6_lit63 : lo6 63 = 63 := rfl
theorem and7 (a : Int) : bits .and .i64 a 7 = ((lo6 a &&& 7 : Nat) : Int) := and_small' a 7 (by decide) (by decide)
theorem and63 (a : Int) : bits .and .i64 a 63 = ((lo6 a : Nat) : Int) := by
 rw [and_small' a 63 (by decide) (by decide)]
 have h : ∀ n, n < 64 → n &&& 63 = n := by decide +kernel
 rw [lo6_lit63, h _ (lo6_lt a)]
theorem lo6_div8 (a : Int) : lo6 (a / 8) &&& 7 = lo6 a / 8 := by
 have h : ∀ n, n < 64 → n &&& 7 = n % 8 := by decide +kernel
 rw [h _ (lo6_lt _)]
 unfold lo6; omega
end Go.Proofs.YtdbekeidlppfiaaGreatDoor
