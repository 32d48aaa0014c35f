/- The laws over package mode, walked. -/
import Derived.Test.YtbidfkibpjjghaaModeG
set_option linter.unusedVariables false
set_option linter.unusedSimpArgs false
namespace Go.Proofs.Ytbidfkibpjjghaa
open Go.RowKit

theorem parser_any (s : ByteArray) (w : World) :
    Calls Try.prog 18 #[.string s] w fun e w' => e = .returned (.tuple #[.int .i64 (parseM s.data.toList).1, .bool (parseM s.data.toList).2]) ∧ w = w' := by
  have hfin : ∀ a b, parseM s.data.toList = (a, b) → Ending.returned (.tuple #[.int .i64 a, .bool b]) = Ending.returned (.tuple #[.int .i64 (parseM s.data.toList).1, .bool (parseM s.data.toList).2]) := fun a b h => by rw [h]
  have HF := Lib.hid hfin
  clear hfin
  generalize hE : (Ending.returned (.tuple #[.int .i64 (parseM s.data.toList).1, .bool (parseM s.data.toList).2])) = E at *
  clear hE
  by_cases h12 : s.size = 1 ∨ s.size = 2
  · have hst := Lib.hid (ParseAt.start h12)
    have hsz : s.size < 3 := by omega
    have hsz' : 0 < s.size := by omega
    clear h12
    have t1 : decide ((s.size : Int) < 1) = false := by simp; omega
    have t2 : decide ((2 : Int) < (s.size : Int)) = false := by simp; omega
    go_enter Try.func18, Try.ntmps18
    go_wp2
    go_loop [4, 5] (fun n i => ∃ k v : Nat, ParseAt s k v ∧ i = .int .i64 (k : Int) ∧ n = .int .i64 (v : Int)) (fun _ i => s.size - (intOf i).toNat)
    case atStart => exact ⟨0, 0, hst.out, rfl, rfl⟩
    case round =>
      obtain ⟨k, v, hp, rfl, rfl⟩ := hrel
      have hbd := hp.bound
      by_cases hlt : k < s.size
      · cases ho : okd s[k]
        · have hbad := Lib.hid (hp.bad hlt ho)
          have ho2 := okd_not _ ho
          clear ho hp
          by_cases h48 : (s[k].toNat : Int) < 48
          · have u1 : decide ((s[k].toNat : Int) < 48) = true := by simpa using h48
            go_wp2
            go_ret2
            exact ⟨HF.out _ _ hbad.out, rfl⟩
          · have u1 : decide ((s[k].toNat : Int) < 48) = false := by simpa using h48
            have u2 : decide ((55 : Int) < (s[k].toNat : Int)) = true := by simp; omega
            go_wp2
            go_ret2
            exact ⟨HF.out _ _ hbad.out, rfl⟩
        · have hn := Lib.hid (hp.next hlt ho)
          have ho2 := okd_int _ ho
          have u1 : decide ((s[k].toNat : Int) < 48) = false := by simp; omega
          have u2 : decide ((55 : Int) < (s[k].toNat : Int)) = false := by simp; omega
          have hv : v < 8 := by rcases hbd with ⟨_, h⟩ | ⟨_, h⟩ | h <;> omega
          clear ho hp hbd
          go_wp2
          go_round
          case rel => exact ⟨k + 1, _, hn.out, by go_num, by go_num⟩
          case measure => simp [intOf]; omega
      · have hd := Lib.hid (hp.done hlt)
        clear hp hbd
        go_wp2
        go_ret2
        exact ⟨HF.out _ _ hd.out, rfl⟩
  · have hz := Lib.hid (parse_short s h12)
    by_cases h0 : s.size < 1
    · have t1 : decide ((s.size : Int) < 1) = true := by simp; omega
      clear h12
      go_enter Try.func18, Try.ntmps18
      go_wp2
      go_ret2
      exact ⟨HF.out _ _ hz.out, rfl⟩
    · have t1 : decide ((s.size : Int) < 1) = false := by simp; omega
      have t2 : decide ((2 : Int) < (s.size : Int)) = true := by simp; omega
      clear h12
      go_enter Try.func18, Try.ntmps18
      go_wp2
      go_ret2
      exact ⟨HF.out _ _ hz.out, rfl⟩

/-! ### shown -/
theorem parse_64 (w : World) : Calls Try.prog 17 #[.string ⟨#[54, 52]⟩] w fun e w' => e = .returned (.tuple #[.int .i64 52, .bool true]) ∧ w = w' := parse_any _ w
theorem parse_8 (w : World) : Calls Try.prog 17 #[.string ⟨#[56]⟩] w fun e w' => e = .returned (.tuple #[.int .i64 0, .bool false]) ∧ w = w' := parse_any _ w
theorem print_52 (w : World) : Calls Try.prog 8 #[.int .i64 52] w fun e w' => e = .returned (.string ⟨#[54, 52]⟩) ∧ ∃ n, w' = w.drewN n := print_any 52 w
theorem text_52 (w : World) : Calls Try.prog 10 #[.int .i64 52] w fun e w' => e = .returned (.string ⟨#[114, 119, 45, 114, 45, 45]⟩) ∧ Below w.heap.size w w' := text_any 52 w
theorem may_a (w : World) : Calls Try.prog 12 #[.int .i64 52, .int .i64 3, .int .i64 3, .int .i64 2] w fun e w' => e = .returned (.bool true) ∧ w = w' := may_any _ _ _ _ w
theorem may_b (w : World) : Calls Try.prog 12 #[.int .i64 52, .int .i64 3, .int .i64 4, .int .i64 2] w fun e w' => e = .returned (.bool false) ∧ w = w' := may_any _ _ _ _ w
theorem may_c (w : World) : Calls Try.prog 12 #[.int .i64 0, .int .i64 3, .int .i64 0, .int .i64 7] w fun e w' => e = .returned (.bool true) ∧ w = w' := may_any _ _ _ _ w
theorem mask_45 (w : World) : Calls Try.prog 14 #[.int .i64 63, .int .i64 18] w fun e w' => e = .returned (.int .i64 45) ∧ w = w' := mask_any _ _ w
theorem shown_any (w : World) : Calls Try.prog 16 #[] w fun e w' => e = .returned (.bool true) ∧ Below w.heap.size w w' := by
  go_enter Try.func16, Try.ntmps16
  go_wp2_with fail
  refine (parse_64 _).mono ?_
  rintro e w' ⟨rfl, rfl⟩
  go_wp2_with fail
  refine (parse_8 _).mono ?_
  rintro e w' ⟨rfl, rfl⟩
  go_wp2_with fail
  refine (print_52 _).mono ?_
  rintro e w' ⟨rfl, nd, rfl⟩
  go_wp2_with fail
  refine (text_52 _).mono ?_
  rintro e w1 ⟨rfl, hb⟩
  go_wp2_with fail
  refine (may_a _).mono ?_
  rintro e w' ⟨rfl, rfl⟩
  go_wp2_with fail
  refine (may_b _).mono ?_
  rintro e w' ⟨rfl, rfl⟩
  go_wp2_with fail
  refine (may_c _).mono ?_
  rintro e w' ⟨rfl, rfl⟩
  go_wp2_with fail
  refine (mask_45 _).mono ?_
  rintro e w' ⟨rfl, rfl⟩
  go_wp2
  go_ret
  exact ⟨rfl, (below_drewN (Below.refl _ _) _).trans hb⟩
end Go.Proofs.Ytbidfkibpjjghaa
