/- Plain laws of options: what is written from letters reads back. -/
import Derived.Test.YtbidfkibpjjghaaDoorPlOptU
set_option linter.unusedVariables false
set_option linter.unusedSimpArgs false
namespace Go.Proofs.YtbidfkibpjjghaaDoor.Den
open Go Go.RowKit

theorem gtS_mod (l : List UInt8) (y : Int) (h0 : 0 ≤ y) (h1 : y ≤ 255) : gtS (bs l) (Int.tmod (IntKind.wrap .i64 y) (3 : Int)) = l[y.toNat % 3]? := by
  obtain ⟨n, rfl⟩ : ∃ n : Nat, y = (n : Int) := ⟨y.toNat, by omega⟩
  rw [wrap_i64 (by omega) (by omega), show Int.tmod (n : Int) (3 : Int) = ((n % 3 : Nat) : Int) from tmod_nat n 3, gtS_by, by_bs]
  rfl
/-! ### back -/
def letB (y : Int) : UInt8 := if y.toNat % 3 = 0 then 112 else if y.toNat % 3 = 1 then 114 else 109
theorem letB_eq (y : Int) (h0 : 0 ≤ y) (h1 : y ≤ 255) : gtS (bs [112, 114, 109]) (Int.tmod (IntKind.wrap .i64 y) (3 : Int)) = some (letB y) := by
  rw [gtS_mod _ _ h0 h1]
  unfold letB
  have : y.toNat % 3 = 0 ∨ y.toNat % 3 = 1 ∨ y.toNat % 3 = 2 := by omega
  rcases this with h | h | h <;> rw [h] <;> rfl
theorem letB_cases (y : Int) : letB y = 112 ∨ letB y = 114 ∨ letB y = 109 := by
  unfold letB; split
  · exact .inl rfl
  · split
    · exact .inr (.inl rfl)
    · exact .inr (.inr rfl)
def backA : List Int → List ByteArray → List ByteArray
  | [], _ => []
  | y :: w, [] => []
  | y :: w, v :: vs => if letB y = 109 then bs [45, 109] :: v :: backA w vs else bs [45, letB y] :: backA w vs
def backW : List Int → List ByteArray → List FlagD
  | [], _ => []
  | y :: w, [] => []
  | y :: w, v :: vs => if letB y = 109 then ⟨109, v⟩ :: backW w vs else ⟨((letB y).toNat : Int), bs []⟩ :: backW w vs
theorem len_out (c : UInt8) : ((((bs [45]).size + (bs [c]).size : Nat) : Int) > IntKind.i64.max) = False := by
  show (((2 : Nat) : Int) > IntKind.i64.max) = False
  simp only [IntKind.max, eq_iff_iff, iff_false]
  decide
theorem back_loop (w : List Int) (vs ops : List ByteArray) (hw : w.length ≤ 20) (hr : ∀ y ∈ w, 0 ≤ y ∧ y ≤ 255) : ∀ (t : List Int) (u : List ByteArray) (i : Nat) (o : List ByteArray) (f : List FlagD), w.drop i = t → vs.drop i = u → i ≤ w.length → w.length ≤ vs.length → o.length ≤ 2 * i → f.length ≤ i →
    iterN (law03OptionBack_b6 w vs ops) (t.length + 1) ((i : Int), o, f) = some ((w.length : Int), o ++ backA t u, f ++ backW t u)
  | [], u, i, o, f, h, hu, hi, hv, ho, hf => by
    obtain rfl := drop_end h hi
    refine iterN_done ?_
    simp only [law03OptionBack_b6, ltf, cond_false, backA, backW, List.append_nil]
  | y :: t, u, i, o, f, h, hu, hi, hv, ho, hf => by
    obtain ⟨hlt, hx, ht⟩ := drop_at h
    cases u with
    | nil =>
      have := congrArg List.length hu
      simp at this; omega
    | cons v u =>
      obtain ⟨hlt2, hx2, hu2⟩ := drop_at hu
      obtain ⟨r0, r1⟩ := hr y (by rw [← hx]; exact List.getElem_mem hlt)
      by_cases h9 : letB y = 109
      · refine iterN_step (a' := (((i + 1 : Nat) : Int), (o ++ [bs [45, 109]]) ++ [v], f ++ [⟨109, v⟩])) ?_ ?_
        · simp only [law03OptionBack_b6, ltd hlt, cond_true, gt_nat hlt, hx, Option.bind_some, letB_eq y r0 r1, mk1, len_out, not_false_eq_true]
          have e : (((letB y).toNat : Int) == (109 : Int)) = true := by rw [h9]; rfl
          rw [grd_pos trivial, grd_pos (room16 (n := o.length + 1) (by omega)), e, cond_true]
          simp only [gt_nat hlt2, hx2, Option.bind_some, h9, bs_app]
          rw [grd_pos (room16 (by simp; omega)), grd_pos (room24 (n := f.length + 1) (by omega)), w64_succ (i := i) (by omega)]
          rfl
        · refine (back_loop w vs ops hw hr t u (i + 1) _ _ ht hu2 hlt hv (by simp; omega) (by simp; omega)).trans ?_
          simp [backA, backW, h9]
      · refine iterN_step (a' := (((i + 1 : Nat) : Int), o ++ [bs [45, letB y]], f ++ [⟨((letB y).toNat : Int), bs []⟩])) ?_ ?_
        · simp only [law03OptionBack_b6, ltd hlt, cond_true, gt_nat hlt, hx, Option.bind_some, letB_eq y r0 r1, mk1, len_out, not_false_eq_true]
          have e : (((letB y).toNat : Int) == (109 : Int)) = false := by
            rw [show (((letB y).toNat : Int) == (109 : Int)) = (letB y == UInt8.ofNat 109) from u8_lit (letB y) 109 (by omega)]
            simpa using h9
          rw [grd_pos trivial, grd_pos (room16 (n := o.length + 1) (by omega)), e, cond_false, grd_pos (room24 (n := f.length + 1) (by omega)), w64_succ (i := i) (by omega)]
          simp only [bs_app]
          rfl
        · refine (back_loop w vs ops hw hr t u (i + 1) _ _ ht hu2 hlt hv (by simp; omega) (by simp; omega)).trans ?_
          simp [backA, backW, h9]
theorem kb_p : kindF [112, 114, 109, 58] 112 = 1 := rfl
theorem kb_r : kindF [112, 114, 109, 58] 114 = 1 := rfl
theorem kb_m : kindF [112, 114, 109, 58] 109 = 2 := rfl
theorem backP (ops : List ByteArray) : ∀ (w : List Int) (vs : List ByteArray) (fl : List FlagD) (n : Nat), w.length ≤ vs.length → w.length < n →
    parF [112, 114, 109, 58] n (backA w vs ++ bs [45, 45] :: ops) fl = (0, ops, fl ++ backW w vs)
  | [], vs, fl, n, h, hn => by
    obtain ⟨m, rfl⟩ : ∃ m, n = m + 1 := ⟨n - 1, by omega⟩
    simp only [backA, backW, List.nil_append, List.append_nil]
    exact parF_dd _ _ _ _
  | y :: w, [], fl, n, h, hn => by simp at h
  | y :: w, v :: vs, fl, n, h, hn => by
    simp only [List.length_cons] at h hn
    obtain ⟨m, rfl⟩ : ∃ m, n = m + 1 := ⟨n - 1, by omega⟩
    by_cases h9 : letB y = 109
    · simp only [backA, backW, if_pos h9, List.cons_append]
      rw [parF_val _ 109 (by decide) kb_m, backP ops w vs _ m (by omega) (by omega)]
      simp
    · simp only [backA, backW, if_neg h9, List.cons_append]
      rcases letB_cases y with e | e | e
      · rw [e, parF_one _ 112 (by decide) kb_p, backP ops w vs _ m (by omega) (by omega)]
        simp
      · rw [e, parF_one _ 114 (by decide) kb_r, backP ops w vs _ m (by omega) (by omega)]
        simp
      · exact absurd e h9
theorem backA_le : ∀ (w : List Int) (vs : List ByteArray), w.length ≤ vs.length → w.length ≤ (backA w vs).length ∧ (backA w vs).length ≤ 2 * w.length ∧ tot (backA w vs) ≤ 2 * w.length + tot vs ∧ (backW w vs).length = w.length
  | [], vs, h => by simp [backA, backW, tot]
  | y :: w, [], h => by simp at h
  | y :: w, v :: vs, h => by
    obtain ⟨h1, h2, h3, h4⟩ := backA_le w vs (by simpa using h)
    have hs (c : UInt8) : (bs [45, c]).size = 2 := rfl
    simp only [backA, backW]
    split
    · simp only [List.length_cons, tot_cons, hs]; omega
    · simp only [List.length_cons, tot_cons, hs]; omega
theorem OptionBack_true (w : List Int) (vs ops : List ByteArray) (hr : ∀ y ∈ w, 0 ≤ y ∧ y ≤ 255) : law03OptionBack w vs ops = some true := by
  unfold law03OptionBack
  rw [shown_true]
  cases h1 : decide ((w.length : Int) > (20 : Int)) with
  | true => rfl
  | false =>
    have h1 : w.length ≤ 20 := by simp at h1; omega
    rw [cond_false]
    cases h2 : decide ((vs.length : Int) < (w.length : Int)) with
    | true => rfl
    | false =>
      have h2 : w.length ≤ vs.length := by simp at h2; omega
      rw [cond_false]
      obtain ⟨b, hb, hb2⟩ := long_eq vs
      rw [hb, Option.bind_some]
      cases b with
      | true => rfl
      | false =>
        obtain ⟨hl, ha⟩ := hb2 rfl
        rw [cond_false]
        obtain ⟨b, hb, hb2⟩ := long_eq ops
        rw [hb, Option.bind_some]
        cases b with
        | true => rfl
        | false =>
          obtain ⟨hl', ha'⟩ := hb2 rfl
          have ht := tot_le ha
          have ht : tot vs ≤ 5000 := Nat.le_trans ht (Nat.le_trans (Nat.mul_le_mul_right 100 hl) (by omega))
          have ht' := tot_le ha'
          have ht' : tot ops ≤ 5000 := Nat.le_trans ht' (Nat.le_trans (Nat.mul_le_mul_right 100 hl') (by omega))
          have hlp := iterN_LF (back_loop w vs ops h1 hr w vs 0 [] [] rfl rfl (Nat.zero_le _) h2 (by simp) (by simp)) (by omega)
          rw [show ((0 : Nat) : Int) = (0 : Int) from rfl] at hlp
          simp only [cond_false, Option.bind_some, Bool.not_true]
          rw [hlp, Option.bind_some]
          obtain ⟨g0, g1, g2, g3⟩ := backA_le w vs h2
          have hd : (bs [45, 45]).size = 2 := rfl
          have ea : (backA w vs ++ [bs [45, 45]]) ++ ops = backA w vs ++ bs [45, 45] :: ops := by simp
          simp only [List.nil_append]
          rw [grd_pos (room16 (by omega)), grd_pos (room16 (by simp; omega)), ea, parse_of (spec := bs [112, 114, 109, 58]) (by decide) (by simp; omega) (by rw [tot_append, tot_cons, hd]; omega) (backP ops w vs [] _ h2 (by simp; omega)), Option.bind_some]
          simp only [ansP, if_true, List.nil_append]
          rw [its_eq _ (by omega), Option.bind_some, same_self _ (by omega), Option.bind_some, cond_true, texts_self _ (by omega), Option.bind_some, cond_true]
          rfl
end Go.Proofs.YtbidfkibpjjghaaDoor.Den
