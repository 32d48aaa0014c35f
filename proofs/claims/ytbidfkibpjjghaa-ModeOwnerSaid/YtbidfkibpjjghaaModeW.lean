/- The five laws' walks. -/
import Derived.Test.YtbidfkibpjjghaaModeL
import Derived.Test.YtbidfkibpjjghaaLawKit
set_option linter.unusedVariables false
set_option linter.unusedSimpArgs false
namespace Go.Proofs.Ytbidfkibpjjghaa
open Go.RowKit

theorem modeTells_walk (a0 : Int) (w0 : (Lit.int .i64 a0).wf = true) (a1 : Int) (w1 : (Lit.int .i64 a1).wf = true) (a2 : Int) (w2 : (Lit.int .i64 a2).wf = true) (a3 : Int) (w3 : (Lit.int .i64 a3).wf = true) (a4 : Int) (w4 : (Lit.int .i64 a4).wf = true) (w : World) :
    Calls Try.prog 3 #[.int .i64 a0, .int .i64 a1, .int .i64 a2, .int .i64 a3, .int .i64 a4] w fun e w' => e = .returned (.bool true) ∧ Below w.heap.size w w' := by
  clear w0 w1 w2 w3 w4
  go_enter Try.func3, Try.ntmps3
  go_wp2_with fail
  refine (print_any _ _).mono ?_
  rintro e w' ⟨rfl, nd, rfl⟩
  go_wp2_with fail
  refine (printr_any _ _).mono ?_
  rintro e w' ⟨rfl, rfl⟩
  go_wp2_with fail
  refine (text_any _ _).mono ?_
  rintro e w1 ⟨rfl, hb⟩
  go_wp2_with fail
  refine (textr_any _ _).mono ?_
  rintro e w' ⟨rfl, rfl⟩
  go_wp2_with fail
  refine (may_any _ _ _ _ _).mono ?_
  rintro e w' ⟨rfl, rfl⟩
  go_wp2_with fail
  refine (mayr_any _ _ _ _ _).mono ?_
  rintro e w' ⟨rfl, rfl⟩
  go_wp2_with fail
  refine (mask_any _ _ _).mono ?_
  rintro e w' ⟨rfl, rfl⟩
  go_wp2_with fail
  refine (maskr_any _ _ _).mono ?_
  rintro e w' ⟨rfl, rfl⟩
  go_wp2_with fail
  refine (shown_any _).mono ?_
  rintro e w2 ⟨rfl, hb2⟩
  go_wp2
  go_ret
  exact ⟨rfl, bthen (bthen (bdrawn w nd) hb) hb2⟩

theorem modeParses_walk (s : ByteArray) (w0 : s.size ≤ maxLen) (w : World) :
    Calls Try.prog 4 #[.string s] w fun e w' => e = .returned (.bool true) ∧ Below w.heap.size w w' := by
  by_cases h50 : 50 < s.size
  · have t1 : decide ((50 : Int) < (s.size : Int)) = true := by simp; omega
    clear h50 w0
    go_enter Try.func4, Try.ntmps4
    go_wp2_with fail
    refine (shown_any _).mono ?_
    rintro e w1 ⟨rfl, hb⟩
    go_wp2
    go_ret
    exact ⟨rfl, hb⟩
  · have t1 : decide ((50 : Int) < (s.size : Int)) = false := by simp; omega
    clear h50 w0
    go_enter Try.func4, Try.ntmps4
    go_wp2_with fail
    refine (shown_any _).mono ?_
    rintro e w1 ⟨rfl, hb⟩
    go_wp2_with fail
    refine (parse_any _ _).mono ?_
    rintro e w' ⟨rfl, rfl⟩
    go_wp2_with fail
    refine (parser_any _ _).mono ?_
    rintro e w' ⟨rfl, rfl⟩
    go_wp2
    go_ret
    exact ⟨rfl, hb⟩

/-! ### ModeBack -/
theorem parse_pr : ∀ n, n < 64 → parseM (pr n).data.toList = (((n : Nat) : Int), true) := by decide +kernel
theorem modeBack_walk (m : Int) (w0 : (Lit.int .i64 m).wf = true) (w : World) :
    Calls Try.prog 5 #[.int .i64 m] w fun e w' => e = .returned (.bool true) ∧ Below w.heap.size w w' := by
  clear w0
  have hp := Lib.hid (parse_pr (lo6 m) (lo6_lt m))
  have h63 := and63 m
  have hl : lo6 ((lo6 m : Nat) : Int) = lo6 m := lo6_nat _ (lo6_lt m)
  have hsz : (tx (lo6 m)).size = 6 := rfl
  have HL := Lib.hid hl
  clear hl
  go_enter Try.func5, Try.ntmps5
  go_wp2_with fail
  refine (print_any _ _).mono ?_
  rintro e w' ⟨rfl, nd, rfl⟩
  go_wp2_with fail
  refine (parse_any _ _).mono ?_
  rintro e w' ⟨rfl, rfl⟩
  rw [hp.out]
  go_wp2_with fail
  refine (text_any _ _).mono ?_
  rintro e w1 ⟨rfl, hb1⟩
  go_wp2_with fail
  refine (text_any _ _).mono ?_
  rintro e w2 ⟨rfl, hb2⟩
  go_wp2_with fail
  refine (text_any _ _).mono ?_
  rintro e w3 ⟨rfl, hb3⟩
  rw [HL.out]
  go_wp2_with fail
  refine (shown_any _).mono ?_
  rintro e w4 ⟨rfl, hb4⟩
  go_wp2
  go_ret
  exact ⟨rfl, bthen (bthen (bthen (bthen (bdrawn w nd) hb1) hb2) hb3) hb4⟩

/-! ### ModeMore -/
theorem tab_or : ∀ w, w < 8 → ∀ a, a < 8 → ∀ b, b < 8 → (w &&& a == w) = true → (w &&& (a ||| b) == w) = true := by decide +kernel
theorem tab_less : ∀ w, w < 8 → ∀ a, a < 8 → ∀ b, b < 8 → (w &&& a == w) = true → ((w &&& b) &&& a == (w &&& b)) = true := by decide +kernel
theorem and7_lt (n : Nat) : n &&& 7 < 8 := by have : n &&& 7 ≤ 7 := Nat.and_le_right; omega
theorem tab7or : ∀ a, a < 64 → ∀ b, b < 64 → (a ||| b) &&& 7 = (a &&& 7) ||| (b &&& 7) := by decide +kernel
theorem tab7and : ∀ a, a < 64 → ∀ b, b < 64 → (a &&& b) &&& 7 = (a &&& 7) &&& (b &&& 7) := by decide +kernel
theorem tab8or : ∀ a, a < 64 → ∀ b, b < 64 → (a ||| b) / 8 = (a / 8) ||| (b / 8) := by decide +kernel
theorem fits_or (w a b : Nat) (h : fits w a = true) (c : Nat) (hc : c &&& 7 = (a &&& 7) ||| (b &&& 7)) : fits w c = true := by
  unfold fits at *
  rw [hc]
  exact tab_or _ (and7_lt w) _ (and7_lt a) _ (and7_lt b) h
theorem mayB_or (m more b c d : Int) (h : mayB m b c d = true) : mayB (bits .or .i64 m more) b c d = true := by
  unfold mayB at *
  by_cases h0 : (c == 0) = true
  · simp [h0]
  · simp only [h0, Bool.false_or] at h ⊢
    by_cases h1 : (c == b) = true
    · rw [if_pos h1] at h ⊢
      refine fits_or _ _ (lo6 (more / 8)) h _ ?_
      rw [lo6_div8, lo6_div8, lo6_div8, or_lo6, tab8or _ (lo6_lt _) _ (lo6_lt _)]
    · rw [if_neg h1] at h ⊢
      refine fits_or _ _ (lo6 more) h _ ?_
      rw [or_lo6, tab7or _ (lo6_lt _) _ (lo6_lt _)]
theorem mayB_less (m b c d less : Int) (h : mayB m b c d = true) : mayB m b c (bits .and .i64 d less) = true := by
  unfold mayB at *
  by_cases h0 : (c == 0) = true
  · simp [h0]
  · simp only [h0, Bool.false_or] at h ⊢
    generalize (if (c == b) = true then lo6 (m / 8) else lo6 m) = x at *
    unfold fits at *
    rw [and_lo6, tab7and _ (lo6_lt _) _ (lo6_lt _)]
    exact tab_less _ (and7_lt _) _ (and7_lt _) _ (and7_lt _) h
theorem or_nat : ∀ a, a < 64 → ∀ b, b < 64 → bits .or .i64 ((a : Nat) : Int) ((b : Nat) : Int) = ((a ||| b : Nat) : Int) := by decide +kernel
theorem tab_mask : ∀ a, a < 64 → ∀ b, b < 64 → (a &&& (63 - b)) &&& b = 0 := by decide +kernel
theorem tab_back : ∀ a, a < 64 → ∀ b, b < 64 → (a &&& (63 - b)) ||| (a &&& b) = a := by decide +kernel
theorem mask_lt (a b : Nat) (h : a < 64) : a &&& b < 64 := by have : a &&& b ≤ a := Nat.and_le_left; omega
theorem mask_out (m more : Int) : (bits .and .i64 ((lo6 m &&& (63 - lo6 more) : Nat) : Int) more == 0) = true := by
  have h1 := mask_lt (lo6 m) (63 - lo6 more) (lo6_lt m)
  rw [and_small _ _ (by omega) (by omega), lo6_nat _ h1, tab_mask _ (lo6_lt _) _ (lo6_lt _)]
  rfl
theorem mask_back (m more : Int) : (bits .or .i64 ((lo6 m &&& (63 - lo6 more) : Nat) : Int) (bits .and .i64 (bits .and .i64 m more) 63) == bits .and .i64 m 63) = true := by
  rw [and63, and63, and_lo6, or_nat _ (mask_lt _ _ (lo6_lt m)) _ (mask_lt _ _ (lo6_lt m)), tab_back _ (lo6_lt _) _ (lo6_lt _)]
  simp
theorem mayB_zero (m b d : Int) : mayB m b 0 d = true := by simp [mayB]
theorem modeMore_walk (m : Int) (w0 : (Lit.int .i64 m).wf = true) (more : Int) (w1 : (Lit.int .i64 more).wf = true) (b : Int) (w2 : (Lit.int .i64 b).wf = true) (c : Int) (w3 : (Lit.int .i64 c).wf = true) (d : Int) (w4 : (Lit.int .i64 d).wf = true) (less : Int) (w5 : (Lit.int .i64 less).wf = true) (w : World) :
    Calls Try.prog 6 #[.int .i64 m, .int .i64 more, .int .i64 b, .int .i64 c, .int .i64 d, .int .i64 less] w fun e w' => e = .returned (.bool true) ∧ Below w.heap.size w w' := by
  clear w0 w1 w2 w3 w4 w5
  have e1 := mask_out m more
  have e2 := mask_back m more
  have e3 := mayB_zero m b d
  by_cases h : mayB m b c d = true
  · have h1 := mayB_or m more b c d h
    have h2 := mayB_less m b c d less h
    go_enter Try.func6, Try.ntmps6
    go_wp2_with fail
    refine (may_any _ _ _ _ _).mono ?_
    rintro e w' ⟨rfl, rfl⟩
    go_wp2_with fail
    refine (mask_any _ _ _).mono ?_
    rintro e w' ⟨rfl, rfl⟩
    go_wp2_with fail
    refine (may_any _ _ _ _ _).mono ?_
    rintro e w' ⟨rfl, rfl⟩
    go_wp2_with fail
    refine (may_any _ _ _ _ _).mono ?_
    rintro e w' ⟨rfl, rfl⟩
    go_wp2_with fail
    refine (may_any _ _ _ _ _).mono ?_
    rintro e w' ⟨rfl, rfl⟩
    go_wp2_with fail
    refine (shown_any _).mono ?_
    rintro e w1 ⟨rfl, hb⟩
    go_wp2
    go_ret
    exact ⟨rfl, hb⟩
  · have h' : mayB m b c d = false := by simpa using h
    clear h
    go_enter Try.func6, Try.ntmps6
    go_wp2_with fail
    refine (may_any _ _ _ _ _).mono ?_
    rintro e w' ⟨rfl, rfl⟩
    go_wp2_with fail
    refine (mask_any _ _ _).mono ?_
    rintro e w' ⟨rfl, rfl⟩
    go_wp2_with fail
    refine (may_any _ _ _ _ _).mono ?_
    rintro e w' ⟨rfl, rfl⟩
    go_wp2_with fail
    refine (shown_any _).mono ?_
    rintro e w1 ⟨rfl, hb⟩
    go_wp2
    go_ret
    exact ⟨rfl, hb⟩

/-! ### ModeOwner -/
theorem fits_tab2 : ∀ w, w < 64 → ∀ h, h < 64 → ((w &&& 7) &&& h == w &&& 7) = fits w h := by decide +kernel
theorem and_fits2 (d h : Int) : (bits .and .i64 (bits .and .i64 d 7) h == bits .and .i64 d 7) = fits (lo6 d) (lo6 h) := by
  have h1 : lo6 d &&& 7 ≤ 7 := Nat.and_le_right
  rw [and7, and_small _ _ (by omega) (by omega), lo6_nat _ (by omega), natCast_beq, fits_tab2 _ (lo6_lt _) _ (lo6_lt _)]
theorem modeOwner_walk (m : Int) (w0 : (Lit.int .i64 m).wf = true) (b : Int) (w1 : (Lit.int .i64 b).wf = true) (c : Int) (w2 : (Lit.int .i64 c).wf = true) (d : Int) (w3 : (Lit.int .i64 d).wf = true) (w : World) :
    Calls Try.prog 7 #[.int .i64 m, .int .i64 b, .int .i64 c, .int .i64 d] w fun e w' => e = .returned (.bool true) ∧ Below w.heap.size w w' := by
  clear w0 w1 w2 w3
  by_cases hb0 : b = 0
  · have t1 : (b == 0) = true := beq_iff_eq.2 hb0
    clear hb0
    go_enter Try.func7, Try.ntmps7
    go_wp2_with fail
    refine (shown_any _).mono ?_
    rintro e w1 ⟨rfl, hb⟩
    go_wp2
    go_ret
    exact ⟨rfl, hb⟩
  · have t1 : (b == 0) = false := beq_eq_false_iff_ne.2 hb0
    by_cases hc0 : c = 0
    · have t2 : (c == 0) = true := beq_iff_eq.2 hc0
      clear hb0 hc0
      go_enter Try.func7, Try.ntmps7
      go_wp2_with fail
      refine (shown_any _).mono ?_
      rintro e w1 ⟨rfl, hb⟩
      go_wp2
      go_ret
      exact ⟨rfl, hb⟩
    · have t2 : (c == 0) = false := beq_eq_false_iff_ne.2 hc0
      have f1 := and_fits2 d (m / 8)
      have f2 := and_fits2 d m
      have e1 : mayB m b b d = fits (lo6 d) (lo6 (m / 8)) := by simp [mayB, t1]
      by_cases hcb : c = b
      · subst hcb
        have e2 : (c == c) = true := beq_self_eq_true c
        clear hb0 hc0
        go_enter Try.func7, Try.ntmps7
        go_wp2_with fail
        refine (shown_any _).mono ?_
        rintro e w1 ⟨rfl, hb⟩
        go_wp2_with fail
        refine (may_any _ _ _ _ _).mono ?_
        rintro e w' ⟨rfl, rfl⟩
        go_wp2_with fail
        refine (may_any _ _ _ _ _).mono ?_
        rintro e w' ⟨rfl, rfl⟩
        go_wp2
        go_ret
        exact ⟨rfl, hb⟩
      · have t3 : (c == b) = false := beq_eq_false_iff_ne.2 hcb
        have t4 : (c != b) = true := bne_iff_ne.2 hcb
        have e2 : mayB m b c d = fits (lo6 d) (lo6 m) := by simp [mayB, t2, t3]
        clear hb0 hc0 hcb
        go_enter Try.func7, Try.ntmps7
        go_wp2_with fail
        refine (shown_any _).mono ?_
        rintro e w1 ⟨rfl, hb⟩
        go_wp2_with fail
        refine (may_any _ _ _ _ _).mono ?_
        rintro e w' ⟨rfl, rfl⟩
        go_wp2_with fail
        refine (may_any _ _ _ _ _).mono ?_
        rintro e w' ⟨rfl, rfl⟩
        go_wp2
        go_ret
        exact ⟨rfl, hb⟩
end Go.Proofs.Ytbidfkibpjjghaa
