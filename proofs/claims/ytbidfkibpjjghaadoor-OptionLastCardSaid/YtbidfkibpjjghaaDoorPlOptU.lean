/- Plain laws of options: the law's statements that write arguments themselves. -/
import Derived.Test.YtbidfkibpjjghaaDoorPlOptT
set_option linter.unusedVariables false
set_option linter.unusedSimpArgs false
namespace Go.Proofs.YtbidfkibpjjghaaDoor.Den
open Go Go.RowKit

theorem mk1 (b : UInt8) : ByteArray.mk [UInt8.ofNat ((b.toNat : Int)).toNat].toArray = bs [b] := by
  have : UInt8.ofNat ((b.toNat : Int)).toNat = b := by simp
  rw [this]
theorem bs_app (a b : List UInt8) : bs a ++ bs b = bs (a ++ b) := by
  apply by_inj; rw [by_append, by_bs, by_bs, by_bs]
theorem tmod_nat (n m : Nat) : Int.tmod (n : Int) (m : Int) = ((n % m : Nat) : Int) := rfl
/-! ### steps of the parse -/
theorem parF_one (sp : List UInt8) (c : UInt8) (hc : c ≠ 45) (hk : kindF sp c = 1) (n : Nat) (t : List ByteArray) (fl : List FlagD) : parF sp (n + 1) (bs [45, c] :: t) fl = parF sp n t (fl ++ [⟨(c.toNat : Int), bs []⟩]) := by
  rw [parF, by_bs]
  simp only [if_true]
  rw [if_neg (by intro h; exact hc h.1)]
  have e : grpF sp [c] t fl = (0, t, fl ++ [⟨(c.toNat : Int), bs []⟩]) := by
    unfold grpF
    rw [if_neg (by rw [hk]; decide), if_neg (by rw [hk]; decide)]; rfl
  rw [e]; simp only [if_true]
theorem parF_val (sp : List UInt8) (c : UInt8) (hc : c ≠ 45) (hk : kindF sp c = 2) (n : Nat) (v : ByteArray) (t : List ByteArray) (fl : List FlagD) : parF sp (n + 1) (bs [45, c] :: v :: t) fl = parF sp n t (fl ++ [⟨(c.toNat : Int), v⟩]) := by
  rw [parF, by_bs]
  simp only [if_true]
  rw [if_neg (by intro h; exact hc h.1)]
  have e : grpF sp [c] (v :: t) fl = (0, t, fl ++ [⟨(c.toNat : Int), v⟩]) := by
    unfold grpF
    rw [if_neg (by rw [hk]; decide), if_pos hk]
  rw [e]; simp only [if_true]
theorem parF_nil (sp : List UInt8) (n : Nat) (fl : List FlagD) : parF sp (n + 1) [] fl = (0, [], fl) := rfl
/-! ### the last value of a letter -/
theorem last_loop (b : ByteArray) (c : Int) (k : Nat) (hk : Int.tmod (IntKind.wrap .i64 c) (4 : Int) = (k : Int)) (h4 : k ≤ 3) : ∀ (j i : Nat) (o : List ByteArray), i + j = k → o.length = 2 + i →
    iterN (law03OptionLast_b5 b c) (j + 1) ((i : Int), o) = some ((k : Int), o ++ List.replicate j (bs [45, 112]))
  | 0, i, o, h, ho => by
    obtain rfl : i = k := by omega
    refine iterN_done ?_
    simp only [law03OptionLast_b5, hk, ltf, cond_false, List.replicate_zero, List.append_nil]
  | j + 1, i, o, h, ho => by
    refine iterN_step (a' := (((i + 1 : Nat) : Int), o ++ [bs [45, 112]])) ?_ ?_
    · simp only [law03OptionLast_b5, hk, ltd (show i < k by omega), cond_true, grd_pos (room16 (n := o.length + 1) (by omega)), w64_succ (i := i) (by omega)]
    · refine (last_loop b c k hk h4 j (i + 1) (o ++ [bs [45, 112]]) (by omega) (by simp; omega)).trans ?_
      simp [List.replicate_succ]
theorem k_p : kindF [112, 109, 58] 112 = 1 := rfl
theorem k_m : kindF [112, 109, 58] 109 = 2 := rfl
theorem lastP (a b : ByteArray) : ∀ (k : Nat) (fl : List FlagD) (n : Nat), parF [112, 109, 58] (n + k + 2) (List.replicate k (bs [45, 112]) ++ [bs [45, 109], b]) fl = (0, [], fl ++ (List.replicate k (⟨112, bs []⟩ : FlagD) ++ [(⟨109, b⟩ : FlagD)]))
  | 0, fl, n => by
    show parF _ (n + 1 + 1) [bs [45, 109], b] fl = _
    rw [parF_val _ 109 (by decide) k_m, parF_nil]; rfl
  | k + 1, fl, n => by
    show parF _ (n + k + 2 + 1) (bs [45, 112] :: (List.replicate k (bs [45, 112]) ++ [bs [45, 109], b])) fl = _
    rw [parF_one _ 112 (by decide) k_p, lastP a b k]
    simp [List.replicate_succ]
theorem OptionLast_true (a b : ByteArray) (c : Int) (h0 : 0 ≤ c) (h1 : c ≤ 255) : law03OptionLast a b c = some true := by
  unfold law03OptionLast
  rw [shown_true]
  cases h2 : decide ((a.size : Int) > (50 : Int)) with
  | true => rfl
  | false =>
    have h2 : a.size ≤ 50 := by simp at h2; omega
    rw [cond_false]
    cases h3 : decide ((b.size : Int) > (50 : Int)) with
    | true => rfl
    | false =>
      have h3 : b.size ≤ 50 := by simp at h3; omega
      obtain ⟨n, rfl⟩ : ∃ n : Nat, c = (n : Int) := ⟨c.toNat, by omega⟩
      have hw : IntKind.wrap .i64 (n : Int) = (n : Int) := wrap_i64 (by omega) (by omega)
      have hk : Int.tmod (n : Int) (4 : Int) = ((n % 4 : Nat) : Int) := tmod_nat n 4
      have h4 : n % 4 ≤ 3 := by omega
      have hl := iterN_LF (last_loop b (n : Int) (n % 4) (by rw [hw, hk]) h4 (n % 4) 0 [bs [45, 109], a] (by omega) rfl) (by omega)
      rw [show ((0 : Nat) : Int) = (0 : Int) from rfl] at hl
      simp only [cond_false, Option.bind_some, Bool.not_true, hw]
      rw [hl, Option.bind_some, hk]
      generalize n % 4 = k at h4 ⊢
      simp only
      have er : ([bs [45, 109], a] ++ List.replicate k (bs [45, 112])) ++ [bs [45, 109], b] = bs [45, 109] :: a :: (List.replicate k (bs [45, 112]) ++ [bs [45, 109], b]) := by simp
      have hsz : (bs [45, 109]).size = 2 := rfl
      have htr : tot (List.replicate k (bs [45, 112])) ≤ k * 2 := by
        have := tot_le (l := List.replicate k (bs [45, 112])) (m := 2) (fun x hx => by rw [List.eq_of_mem_replicate hx]; exact Nat.le_refl 2)
        simpa using this
      have hp : parF [112, 109, 58] ((bs [45, 109] :: a :: (List.replicate k (bs [45, 112]) ++ [bs [45, 109], b])).length + 1) (bs [45, 109] :: a :: (List.replicate k (bs [45, 112]) ++ [bs [45, 109], b])) [] = (0, [], ⟨109, a⟩ :: (List.replicate k (⟨112, bs []⟩ : FlagD) ++ [(⟨109, b⟩ : FlagD)])) := by
        have e : (bs [45, 109] :: a :: (List.replicate k (bs [45, 112]) ++ [bs [45, 109], b])).length + 1 = (2 + k + 2) + 1 := by simp only [List.length_cons, List.length_append, List.length_replicate, List.length_nil]; omega
        rw [e, parF_val _ 109 (by decide) k_m, lastP a b k]; rfl
      rw [grd_pos (room16 (by simp; omega)), er, parse_of (spec := bs [112, 109, 58]) (by decide) (by simp; omega) (by rw [tot_cons, tot_cons, tot_append, tot_cons, tot_cons, tot_nil, hsz]; omega) hp, Option.bind_some]
      simp only [ansP, if_true]
      have elen : ((⟨109, a⟩ : FlagD) :: (List.replicate k (⟨112, bs []⟩ : FlagD) ++ [(⟨109, b⟩ : FlagD)])).length = k + 2 := by simp
      rw [optionValue_eq _ _ (by rw [elen]; omega), Option.bind_some, show ((⟨109, a⟩ : FlagD) :: (List.replicate k (⟨112, bs []⟩ : FlagD) ++ [(⟨109, b⟩ : FlagD)])) = ((⟨109, a⟩ : FlagD) :: List.replicate k (⟨112, bs []⟩ : FlagD)) ++ [(⟨109, b⟩ : FlagD)] from rfl, lastV_snoc]
      have elen2 : (((⟨109, a⟩ : FlagD) :: List.replicate k (⟨112, bs []⟩ : FlagD)) ++ [(⟨109, b⟩ : FlagD)]).length = k + 2 := by simp
      have ew : w64 ((2 : Int) + (k : Int)) = ((k + 2 : Nat) : Int) := by rw [w64_eq (by omega) (by omega)]; omega
      rw [show ((⟨109, b⟩ : FlagD).letter == (109 : Int)) = true from rfl, if_pos rfl, elen2, ew, optionHas_eq _ _ (by rw [elen2]; omega)]
      simp only [beq_self_eq_true, cond_true, Option.bind_some, seq_self]
      have eany : ((((⟨109, a⟩ : FlagD) :: List.replicate k (⟨112, bs []⟩ : FlagD)) ++ [(⟨109, b⟩ : FlagD)]).any fun x => x.letter == (112 : Int)) = decide ((k : Int) > (0 : Int)) := by
        cases k with
        | zero => rfl
        | succ k => simp [List.replicate_succ] <;> omega
      rw [eany]
      simp
end Go.Proofs.YtbidfkibpjjghaaDoor.Den
