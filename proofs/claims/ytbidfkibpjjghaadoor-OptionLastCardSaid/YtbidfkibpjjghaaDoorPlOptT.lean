/- Plain laws of options: the law's six statements. -/
import Derived.Test.YtbidfkibpjjghaaDoorPlOptL
set_option linter.unusedVariables false
set_option linter.unusedSimpArgs false
namespace Go.Proofs.YtbidfkibpjjghaaDoor.Den
open Go Go.RowKit

/-! ### answers -/
theorem par_le (sp : List UInt8) : ∀ (n : Nat) (av : List ByteArray) (fl : List FlagD), (parF sp n av fl).2.1.length ≤ av.length ∧ (parF sp n av fl).2.2.length ≤ fl.length + tot av
  | 0, av, fl => by simp [parF]
  | n + 1, [], fl => by simp [parF]
  | n + 1, a :: av, fl => by
    have ht : tot (a :: av) = a.size + tot av := by simp [tot]
    unfold parF
    split
    · simp only [ht]; exact ⟨Nat.le_refl _, by omega⟩
    · rename_i c g hc
      have hsz : a.size = g.length + 1 := by rw [size_by, hc]; rfl
      split
      · cases g with
        | nil => simp only [ht]; exact ⟨Nat.le_refl _, by omega⟩
        | cons d g' =>
          simp only
          split
          · simp only [ht, List.length_cons]; exact ⟨by omega, by omega⟩
          · split
            · obtain ⟨h1, h2⟩ := grpF_le sp (d :: g') av fl (grpF sp (d :: g') av fl).1 (grpF sp (d :: g') av fl).2.1 (grpF sp (d :: g') av fl).2.2 rfl
              obtain ⟨h3, h4⟩ := par_le sp n (grpF sp (d :: g') av fl).2.1 (grpF sp (d :: g') av fl).2.2
              rw [ht, List.length_cons]
              simp only [List.length_cons] at h2 hsz
              refine ⟨Nat.le_trans h3 ?_, Nat.le_trans h4 ?_⟩
              · omega
              · omega
            · simp
      · simp only [ht]; exact ⟨Nat.le_refl _, by omega⟩
theorem ans_le (sp : List UInt8) (n : Nat) (av : List ByteArray) : (ansP (parF sp n av [])).1.length ≤ tot av ∧ (ansP (parF sp n av [])).2.1.length ≤ av.length := by
  obtain ⟨h1, h2⟩ := par_le sp n av []
  unfold ansP
  split
  · exact ⟨by simpa using h2, h1⟩
  · simp
theorem parse_of {spec : ByteArray} {argv : List ByteArray} {r : Int × List ByteArray × List FlagD} (hs : spec.size ≤ 100) (hn : argv.length ≤ 1000) (ht : tot argv ≤ 100000) (h : parF (by_ spec) (argv.length + 1) argv [] = r) : optionParse spec argv = some (ansP r) := by
  rw [optionParse_eq spec argv (by omega) (by omega) (by omega), h]
theorem tot_append (a b : List ByteArray) : tot (a ++ b) = tot a + tot b := by simp [tot]
theorem tot_cons (a : ByteArray) (b : List ByteArray) : tot (a :: b) = a.size + tot b := by simp [tot]
theorem tot_nil : tot [] = 0 := rfl

/-! ### what is shown -/
theorem shown1 : optionParse (bs [112, 109, 58]) [bs [45, 112, 109, 55], bs [97], bs [45, 112]] = some ([⟨112, bs []⟩, ⟨109, bs [55]⟩], [bs [97], bs [45, 112]], 0) :=
  parse_of (r := (0, [bs [97], bs [45, 112]], [⟨112, bs []⟩, ⟨109, bs [55]⟩])) (by decide) (by decide) (by decide) (by rfl)
theorem shown2 : optionParse (bs [112, 109, 58]) [bs [45, 120]] = some ([], [], 30) :=
  parse_of (r := (30, [], [])) (by decide) (by decide) (by decide) (by rfl)
theorem shown3 : optionParse (bs [112, 109, 58]) [bs [45, 109]] = some ([], [], 31) :=
  parse_of (r := (31, [], [])) (by decide) (by decide) (by decide) (by rfl)
theorem shown_true : law03Shown = some true := by
  unfold law03Shown
  rw [shown1, Option.bind_some]
  simp only []
  rw [optionValue_eq _ _ (by decide), Option.bind_some]
  rw [shown2, Option.bind_some]
  rw [shown3, Option.bind_some]
  simp only [optionHas_eq [⟨112, bs []⟩, ⟨109, bs [55]⟩] 112 (by decide), optionHas_eq [⟨112, bs []⟩, ⟨109, bs [55]⟩] 120 (by decide), Option.bind_some]
  have e1 : lastV 109 (bs [], false) [⟨112, bs []⟩, ⟨109, bs [55]⟩] = (bs [55], true) := rfl
  rw [e1]
  simp only [gt_head, Option.bind_some, seq_self]
  rfl
theorem OptionParses_true (spec : ByteArray) (argv : List ByteArray) : law03OptionParses spec argv = some true := by
  unfold law03OptionParses
  rw [shown_true]
  cases h1 : decide ((spec.size : Int) > (50 : Int)) with
  | true => rfl
  | false =>
    have h1 : spec.size ≤ 50 := by simp at h1; omega
    rw [cond_false]
    obtain ⟨b, hb, hb2⟩ := long_eq argv
    rw [hb, Option.bind_some]
    cases b with
    | true => rfl
    | false =>
      obtain ⟨hl, ha⟩ := hb2 rfl
      have ht := tot_le ha
      have ht : tot argv ≤ 5000 := Nat.le_trans ht (Nat.le_trans (Nat.mul_le_mul_right 100 hl) (by omega))
      simp only [cond_false, Option.bind_some, Bool.not_true]
      rw [optionParse_eq spec argv (by omega) (by omega) (by omega), ref03Parse_eq spec argv (by omega) (by omega) (by omega), Option.bind_some, Option.bind_some]
      obtain ⟨h2, h3⟩ := ans_le (by_ spec) (argv.length + 1) argv
      generalize ansP (parF (by_ spec) (argv.length + 1) argv []) = r at h2 h3 ⊢
      obtain ⟨r1, r2, r3⟩ := r
      simp only at h2 h3 ⊢
      rw [its_eq r1 (by omega), Option.bind_some, same_self r1 (by omega), Option.bind_some, cond_true, texts_self r2 (by omega), Option.bind_some, cond_true, beq_self_eq_true]
theorem OptionValues_true (l : List FlagD) (c : Int) : law03OptionValues l c = some true := by
  unfold law03OptionValues
  rw [shown_true]
  cases h1 : decide ((l.length : Int) > (100 : Int)) with
  | true => rfl
  | false =>
    have h1 : l.length ≤ 100 := by simp at h1; omega
    simp only [cond_false, Option.bind_some, Bool.not_true]
    rw [optionValue_eq l c (by omega), its_eq l (by omega), Option.bind_some, Option.bind_some, ref03Value_eq l c (by omega), optionHas_eq l c (by omega), Option.bind_some, Option.bind_some]
    simp only [ref03Has_eq l c (by omega : l.length ≤ 1000000), seq_self, beq_self_eq_true, cond_true, Option.bind_some]

/-! ### nothing but operands -/
theorem parF_dd (sp : List UInt8) (n : Nat) (av : List ByteArray) (fl : List FlagD) : parF sp (n + 1) (bs [45, 45] :: av) fl = (0, av, fl) := by
  unfold parF
  rw [by_bs]; rfl
theorem parF_op (sp : List UInt8) (n : Nat) (a : ByteArray) (av : List ByteArray) (fl : List FlagD) (h : a.size ≤ 1 ∨ (by_ a)[0]? ≠ some 45) : parF sp (n + 1) (a :: av) fl = (0, a :: av, fl) := by
  unfold parF
  split
  · rfl
  · rename_i c g hc
    rw [hc] at h
    have hsz : a.size = g.length + 1 := by rw [size_by, hc]; rfl
    split
    · subst_vars
      cases g with
      | nil => rfl
      | cons d g =>
        rcases h with h | h
        · rw [hsz] at h; simp at h
        · exact absurd rfl h
    · rfl
theorem len_ne0 : (((([] : List FlagD)).length : Int) != (0 : Int)) = false := rfl
theorem OptionNone_true (spec first : ByteArray) (rest : List ByteArray) : law03OptionNone spec first rest = some true := by
  unfold law03OptionNone
  rw [shown_true]
  cases h1 : decide ((spec.size : Int) > (50 : Int)) with
  | true => rfl
  | false =>
    have h1 : spec.size ≤ 50 := by simp at h1; omega
    rw [cond_false]
    cases h2 : decide ((first.size : Int) > (50 : Int)) with
    | true => rfl
    | false =>
      have h2 : first.size ≤ 50 := by simp at h2; omega
      rw [cond_false]
      obtain ⟨b, hb, hb2⟩ := long_eq rest
      rw [hb, Option.bind_some]
      cases b with
      | true => rfl
      | false =>
        obtain ⟨hl, ha⟩ := hb2 rfl
        have ht := tot_le ha
        have ht : tot rest ≤ 5000 := Nat.le_trans ht (Nat.le_trans (Nat.mul_le_mul_right 100 hl) (by omega))
        have e0 : [first] ++ rest = first :: rest := rfl
        have e1 : [bs [45, 45]] ++ first :: rest = bs [45, 45] :: first :: rest := rfl
        have hsz : (bs [45, 45]).size = 2 := rfl
        simp only [cond_false, Option.bind_some, Bool.not_true, e0, e1]
        rw [grd_pos (room16 (by simp; omega)), grd_pos (room16 (by simp; omega))]
        rw [parse_of (r := (0, first :: rest, [])) (by omega) (by simp; omega) (by rw [tot_cons, tot_cons, hsz]; omega) (parF_dd _ _ _ _), Option.bind_some]
        show (bif ((([] : List FlagD).length : Int) != (0 : Int)) then _ else _) = _
        rw [len_ne0, cond_false]
        have et : ref01Texts (first :: rest) (first :: rest) = some true := texts_self _ (by simp; omega)
        simp only [ansP, if_true, et, Option.bind_some, Bool.not_true, cond_false]
        have e3 : ((0 : Int) != (0 : Int)) = false := rfl
        rw [e3, cond_false]
        have main : (by_ first)[0]? ≠ some 45 ∨ first.size ≤ 1 → ((optionParse spec (first :: rest)).bind fun (r_7, r_8, r_9) => bif ((r_7.length : Int) == (0 : Int)) then ((ref01Texts r_8 (first :: rest)).bind fun r_10 => bif r_10 then some (r_9 == (0 : Int)) else some false) else some false) = some true := by
          intro h
          rw [parse_of (r := (0, first :: rest, [])) (by omega) (by simp; omega) (by rw [tot_cons]; omega) (parF_op _ _ _ _ _ h.symm), Option.bind_some]
          simp only [ansP, if_true, et, Option.bind_some]
          rfl
        cases h3 : decide ((first.size : Int) > (1 : Int)) with
        | false =>
          rw [cond_false]
          exact main (.inr (by simp at h3; omega))
        | true =>
          have h3 : 1 < first.size := by simp at h3; omega
          rw [cond_true]
          obtain ⟨c, hc⟩ : ∃ c, (by_ first)[0]? = some c := by
            cases h : by_ first with
            | nil => rw [size_by, h] at h3; simp at h3
            | cons c g => exact ⟨c, rfl⟩
          rw [show gtS first (0 : Int) = gtS first ((0 : Nat) : Int) from rfl, gtS_by, hc, Option.bind_some]
          rw [show ((c.toNat : Int) == (45 : Int)) = (c == UInt8.ofNat 45) from u8_lit c 45 (by omega)]
          cases h4 : (c == UInt8.ofNat 45) with
          | true => rfl
          | false =>
            rw [cond_false]
            refine main (.inl ?_)
            rw [hc]
            intro h5
            injection h5 with h5
            subst h5
            exact absurd h4 (by decide)
end Go.Proofs.YtbidfkibpjjghaaDoor.Den
