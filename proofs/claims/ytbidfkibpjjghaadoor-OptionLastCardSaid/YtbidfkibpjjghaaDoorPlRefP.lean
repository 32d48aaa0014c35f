/- Plain laws of options: all arguments, as the document takes them. -/
import Derived.Test.YtbidfkibpjjghaaDoorPlPar
set_option linter.unusedVariables false
set_option linter.unusedSimpArgs false
namespace Go.Proofs.YtbidfkibpjjghaaDoor.Den
open Go Go.RowKit

abbrev RX := (Int × Int × (List FlagD) × UInt8 × Bool × Bool) ⊕ (Int × Int × (List FlagD) × UInt8 × Bool × Bool × UInt8) ⊕ (Int × Int × (List FlagD) × UInt8 × Bool × Bool) ⊕ (Int × Int × (List FlagD))
/-- What the document's group comes to. -/
def absRX (argv : List ByteArray) (a : ByteArray) : RX → Int × List ByteArray × List FlagD → Prop
  | .inl _, r => r = (30, [], [])
  | .inr (.inl (i, k, f, _, _, _, b)), r => ∃ j : Nat, i = (j : Int) ∧ j ≤ argv.length ∧ r = (0, argv.drop j, f ++ [⟨(b.toNat : Int), a.extract (w64 (k + 1)).toNat a.size⟩])
  | .inr (.inr (.inl _)), r => r = (31, [], [])
  | .inr (.inr (.inr (i, k, f))), r => ∃ j : Nat, i = (j : Int) ∧ j ≤ argv.length ∧ r = (0, argv.drop j, f)
theorem rgroup_loop (s a : ByteArray) (argv : List ByteArray) (hs : s.size ≤ 1000000) (ha : a.size ≤ 1000000) (hn : argv.length ≤ 1000000) : ∀ (g : List UInt8) (k i : Nat) (f : List FlagD), (by_ a).drop k = g → k ≤ a.size → i ≤ argv.length → f.length + g.length ≤ 100000000 →
    ∃ x, iterN (ref03Parse_b10x1 s argv a) (g.length + 1) ((i : Int), (k : Int), f) = some x ∧ absRX argv a x (grpF (by_ s) g (argv.drop i) f)
  | [], k, i, f, hg, hk, hi, hb => by
    have : k = a.size := by
      have := congrArg List.length hg
      rw [List.length_drop, ← size_by] at this
      simp at this; omega
    subst this
    refine ⟨.inr (.inr (.inr ((i : Int), (a.size : Int), f))), iterN_done ?_, i, rfl, hi, rfl⟩
    simp [ref03Parse_b10x1]
  | c :: g, k, i, f, hg, hk, hi, hb => by
    have hlt : k < (by_ a).length := by
      rcases Nat.lt_or_ge k (by_ a).length with h1 | h1
      · exact h1
      · rw [List.drop_eq_nil_of_le h1] at hg; cases hg
    have hlt' : k < a.size := by rw [size_by]; exact hlt
    rw [List.drop_eq_getElem_cons hlt] at hg
    injection hg with h1 h2
    have hgt : gtS a (k : Int) = some c := by rw [gtS_by, List.getElem?_eq_getElem hlt, h1]
    have hd : decide ((k : Int) < (a.size : Int)) = true := by simp; exact hlt'
    have hw : w64 ((k : Int) + 1) = ((k + 1 : Nat) : Int) := w64_succ (by omega)
    have hwi : w64 ((i : Int) + 1) = ((i + 1 : Nat) : Int) := w64_succ (by omega)
    have hr : room (f.length + 1) 24 := room24 (by simp at hb; omega)
    have hlen : g.length = a.size - (k + 1) := by rw [← h2, List.length_drop, ← size_by]
    obtain ⟨t, hkn, ht⟩ := ref03Known_kind s c hs
    unfold grpF
    rcases kindF_cases (by_ s) c with h0 | h0 | h0
    · rw [if_pos h0]
      rw [h0] at hkn
      refine ⟨.inl ((i : Int), (k : Int), f, c, false, t), iterN_done ?_, rfl⟩
      have e1 : decide ((0 : Int) ≠ 0) = false := rfl
      rw [e1] at hkn
      simp only [ref03Parse_b10x1, hd, cond_true, hgt, Option.bind_some, hkn, Bool.not_false]
    · rw [h0, if_neg (by decide), if_pos rfl]
      rw [h0] at hkn ht
      have e1 : decide ((2 : Int) ≠ 0) = true := rfl
      have e2 : t = true := ht (by decide)
      rw [e1, e2] at hkn
      cases hgg : g with
      | nil =>
        have hd2 : decide ((((k + 1 : Nat) : Int)) < (a.size : Int)) = false := by rw [hgg] at hlen; simp at hlen ⊢; omega
        rcases Nat.lt_or_ge i argv.length with hil | hil
        · have hdrop : argv.drop i = argv[i] :: argv.drop (i + 1) := List.drop_eq_getElem_cons hil
          rw [hdrop]
          have hne : ((i : Int) == (argv.length : Int)) = false := beq_false_of_ne (by omega)
          refine ⟨.inr (.inr (.inr (((i + 1 : Nat) : Int), ((k + 1 : Nat) : Int), f ++ [⟨(c.toNat : Int), argv[i]⟩]))), iterN_step (a' := (((i + 1 : Nat) : Int), ((k + 1 : Nat) : Int), f ++ [⟨(c.toNat : Int), argv[i]⟩])) ?_ (iterN_done ?_), i + 1, rfl, hil, rfl⟩
          · simp only [ref03Parse_b10x1, hd, cond_true, hgt, Option.bind_some, hkn, Bool.not_true, cond_false, hw, hd2, hne, gt_nat hil, grd_pos hr, hwi]
          · simp only [ref03Parse_b10x1, hd2, cond_false]
        · have he : i = argv.length := by omega
          have hdrop : argv.drop i = [] := List.drop_eq_nil_of_le hil
          rw [hdrop]
          have hne : ((i : Int) == (argv.length : Int)) = true := by rw [he]; exact beq_self_eq_true _
          refine ⟨.inr (.inr (.inl ((i : Int), (k : Int), f, c, true, true))), iterN_done ?_, rfl⟩
          simp only [ref03Parse_b10x1, hd, cond_true, hgt, Option.bind_some, hkn, Bool.not_true, cond_false, hw, hd2, hne]
      | cons d g' =>
        have hd2 : decide ((((k + 1 : Nat) : Int)) < (a.size : Int)) = true := by rw [hgg] at hlen; simp at hlen ⊢; omega
        have hgd : (0 : Int) ≤ ((k + 1 : Nat) : Int) ∧ ((k + 1 : Nat) : Int) ≤ (a.size : Int) ∧ (a.size : Int) ≤ (a.size : Int) := by omega
        refine ⟨.inr (.inl ((i : Int), (k : Int), f, c, true, true, c)), iterN_done ?_, i, rfl, hi, ?_⟩
        · simp only [ref03Parse_b10x1, hd, cond_true, hgt, Option.bind_some, hkn, Bool.not_true, cond_false, hw, hd2, grd_pos hgd, grd_pos hr]
        · rw [hw, Int.toNat_natCast]
          have : a.extract (k + 1) a.size = bs (d :: g') := by apply by_inj; rw [by_drop, h2, hgg]; rfl
          rw [this]
    · rw [h0, if_neg (by decide), if_neg (by decide)]
      rw [h0] at hkn ht
      have e1 : decide ((1 : Int) ≠ 0) = true := rfl
      have e2 : t = false := ht (by decide)
      rw [e1, e2] at hkn
      obtain ⟨x, g1, g2⟩ := rgroup_loop s a argv hs ha hn g (k + 1) i (f ++ [⟨(c.toNat : Int), bs []⟩]) h2 hlt' hi (by simp at hb ⊢; omega)
      refine ⟨x, iterN_step (a' := ((i : Int), ((k + 1 : Nat) : Int), f ++ [⟨(c.toNat : Int), bs []⟩])) ?_ g1, g2⟩
      simp only [ref03Parse_b10x1, hd, cond_true, hgt, Option.bind_some, hkn, Bool.not_true, Bool.not_false, cond_false, hw, grd_pos hr]

abbrev PX := (Int × (List FlagD) × ByteArray) ⊕ (Int × (List FlagD) × ByteArray) ⊕ (Int × (List FlagD) × ByteArray) ⊕ (Int × (List FlagD) × ByteArray × UInt8) ⊕ (Int × (List FlagD) × ByteArray × UInt8 × Int × Int × (List FlagD) × UInt8 × Bool × Bool) ⊕ (Int × (List FlagD) × ByteArray × UInt8 × Int × Int × (List FlagD) × UInt8 × Bool × Bool) ⊕ (Int × (List FlagD))
/-- What the document's loop comes to. -/
def absPX (argv : List ByteArray) : PX → Int × List ByteArray × List FlagD → Prop
  | .inl (i, f, _), r => ∃ j : Nat, i = (j : Int) ∧ j < argv.length ∧ r = (0, argv.drop (j + 1), f)
  | .inr (.inl (i, f, _)), r => ∃ j : Nat, i = (j : Int) ∧ j ≤ argv.length ∧ r = (0, argv.drop j, f)
  | .inr (.inr (.inl (i, f, _))), r => ∃ j : Nat, i = (j : Int) ∧ j ≤ argv.length ∧ r = (0, argv.drop j, f)
  | .inr (.inr (.inr (.inl (i, f, _)))), r => ∃ j : Nat, i = (j : Int) ∧ j ≤ argv.length ∧ r = (0, argv.drop j, f)
  | .inr (.inr (.inr (.inr (.inl _)))), r => r = (30, [], [])
  | .inr (.inr (.inr (.inr (.inr (.inl _))))), r => r = (31, [], [])
  | .inr (.inr (.inr (.inr (.inr (.inr (i, f)))))), r => ∃ j : Nat, i = (j : Int) ∧ j ≤ argv.length ∧ r = (0, argv.drop j, f)
theorem tot_mem {l : List ByteArray} {i : Nat} (h : i < l.length) : l[i].size + tot (l.drop (i + 1)) = tot (l.drop i) := by
  rw [List.drop_eq_getElem_cons h]; unfold tot; rw [List.map_cons, List.sum_cons]
theorem rpar_loop (s : ByteArray) (argv : List ByteArray) (hs : s.size ≤ 1000000) (hn : argv.length ≤ 1000000) : ∀ (n i : Nat) (f : List FlagD), i ≤ argv.length → argv.length - i ≤ n → f.length + tot (argv.drop i) ≤ 1000000 →
    ∃ x, iterN (ref03Parse_b3 s argv) (n + 1) ((i : Int), f) = some x ∧ absPX argv x (parF (by_ s) (n + 1) (argv.drop i) f) := by
  intro n
  induction n with
  | zero =>
    intro i f hi hni hb
    obtain rfl : i = argv.length := by omega
    refine ⟨.inr (.inr (.inr (.inr (.inr (.inr ((argv.length : Int), f)))))), iterN_done ?_, argv.length, rfl, Nat.le_refl _, by rw [List.drop_eq_nil_of_le (Nat.le_refl _)]; rfl⟩
    simp [ref03Parse_b3]
  | succ n ih =>
    intro i f hi hni hb
    rcases Nat.lt_or_ge i argv.length with hil | hil
    case inr =>
      obtain rfl : i = argv.length := by omega
      refine ⟨.inr (.inr (.inr (.inr (.inr (.inr ((argv.length : Int), f)))))), iterN_done ?_, argv.length, rfl, Nat.le_refl _, by rw [List.drop_eq_nil_of_le (Nat.le_refl _)]; rfl⟩
      simp [ref03Parse_b3]
    have hdrop : argv.drop i = argv[i] :: argv.drop (i + 1) := List.drop_eq_getElem_cons hil
    have hlt : decide ((i : Int) < (argv.length : Int)) = true := lt_true' hil
    have hgt : gt argv (i : Int) = some argv[i] := gt_nat hil
    have htm := tot_mem hil
    have hsz : (argv[i]).size = (by_ argv[i]).length := size_by _
    have hwi : w64 ((i : Int) + 1) = ((i + 1 : Nat) : Int) := w64_succ (by omega)
    rw [hdrop]
    unfold parF
    generalize hA : argv[i] = a at *
    cases hya : by_ a with
    | nil =>
      have e1 : seq a (bs [45, 45]) = false := by rw [seq_by, hya]; rfl
      have e2 : seq a (bs [45]) = false := by rw [seq_by, hya]; rfl
      have e3 : seq a (bs []) = true := by rw [seq_by, hya]; rfl
      refine ⟨.inr (.inr (.inl ((i : Int), f, a))), iterN_done ?_, i, rfl, hi, by rw [hdrop]⟩
      simp only [ref03Parse_b3, hlt, cond_true, hgt, Option.bind_some, e1, e2, e3, cond_false]
    | cons c g =>
      have e3 : seq a (bs []) = false := by rw [seq_by, hya]; rfl
      have hg0 : gtS a (0 : Int) = some c := by
        have := gtS_by a 0
        rw [hya] at this; exact this
      simp only
      by_cases hc : c = 45
      case neg =>
        have e1 : seq a (bs [45, 45]) = false := by rw [seq_by, hya]; exact beq_false_of_ne fun e => hc (by injection e)
        have e2 : seq a (bs [45]) = false := by rw [seq_by, hya]; exact beq_false_of_ne fun e => hc (by injection e)
        have e4 : ((c.toNat : Int) != (45 : Int)) = true := by
          have := u8_lit c 45 (by omega)
          unfold bne
          rw [show ((45 : Nat) : Int) = (45 : Int) from rfl] at this
          rw [this, beq_false_of_ne (by exact hc)]; rfl
        rw [if_neg hc]
        refine ⟨.inr (.inr (.inr (.inl ((i : Int), f, a, c)))), iterN_done ?_, i, rfl, hi, by rw [hdrop]⟩
        simp only [ref03Parse_b3, hlt, cond_true, hgt, Option.bind_some, e1, e2, e3, cond_false, hg0, e4]
      subst hc
      rw [if_pos rfl]
      cases g with
      | nil =>
        have e1 : seq a (bs [45, 45]) = false := by rw [seq_by, hya]; rfl
        have e2 : seq a (bs [45]) = true := by rw [seq_by, hya]; rfl
        refine ⟨.inr (.inl ((i : Int), f, a)), iterN_done ?_, i, rfl, hi, by rw [hdrop]⟩
        simp only [ref03Parse_b3, hlt, cond_true, hgt, Option.bind_some, e1, e2, cond_false]
      | cons d g' =>
        have e2 : seq a (bs [45]) = false := by rw [seq_by, hya]; rfl
        simp only
        by_cases hd : d = 45 ∧ g' = []
        · obtain ⟨rfl, rfl⟩ := hd
          have e1 : seq a (bs [45, 45]) = true := by rw [seq_by, hya]; rfl
          refine ⟨.inl ((i : Int), f, a), iterN_done ?_, i, rfl, hil, rfl⟩
          simp only [ref03Parse_b3, hlt, cond_true, hgt, Option.bind_some, e1]
        have e1 : seq a (bs [45, 45]) = false := by
          rw [seq_by, hya]
          exact beq_false_of_ne fun e => hd (by injection e with _ e; injection e with e1 e2; exact ⟨e1, e2⟩)
        have e4 : (((45 : UInt8).toNat : Int) != (45 : Int)) = false := rfl
        rw [if_neg hd]
        have hal : (d :: g').length + 1 = a.size := by rw [hsz, hya]; rfl
        obtain ⟨x, g1, g2⟩ := rgroup_loop s a argv hs (by omega) hn (d :: g') 1 (i + 1) f (by rw [hya]; rfl) (by omega) hil (by omega)
        have g1' := iterN_LF g1 (by omega)
        obtain ⟨e, a', f', hgr⟩ : ∃ e a' f', grpF (by_ s) (d :: g') (argv.drop (i + 1)) f = (e, a', f') := ⟨_, _, _, rfl⟩
        obtain ⟨hl1, hl2⟩ := grpF_le _ _ _ _ _ _ _ hgr
        rw [hgr] at g2 ⊢
        rw [show ((1 : Nat) : Int) = (1 : Int) from rfl] at g1'
        simp only
        have step : ∀ (st' : Int × List FlagD) (hb3 : ref03Parse_b3 s argv ((i : Int), f) = some (.inl st')) (j : Nat), st' = ((j : Int), f') → j ≤ argv.length → a' = argv.drop j → e = 0 →
            ∃ x, iterN (ref03Parse_b3 s argv) (n + 1 + 1) ((i : Int), f) = some x ∧ absPX argv x (if e = 0 then parF (by_ s) (n + 1) a' f' else (e, [], [])) := by
          intro st' hb3 j hst hj ha' he
          rw [if_pos he]
          have hl3 : argv.length - j ≤ n := by rw [ha', List.length_drop, List.length_drop] at hl1; omega
          obtain ⟨x, k1, k2⟩ := ih j f' hj hl3 (by rw [ha'] at hl2; omega)
          refine ⟨x, iterN_step (a' := st') hb3 (by rw [hst]; exact k1), by rw [ha']; exact k2⟩
        rcases x with ⟨v1, v2, v3, b2, r1, r2⟩ | ⟨v1, v2, v3, b2, r1, r2, b3⟩ | ⟨v1, v2, v3, b2, r1, r2⟩ | ⟨v1, v2, v3⟩ <;> simp only [absRX] at g2
        · simp only [Prod.mk.injEq] at g2
          obtain ⟨rfl, rfl, rfl⟩ := g2
          rw [if_neg (by decide)]
          refine ⟨.inr (.inr (.inr (.inr (.inl ((i : Int), f, a, 45, v1, v2, v3, b2, r1, r2))))), iterN_done ?_, rfl⟩
          simp only [ref03Parse_b3, hlt, cond_true, hgt, Option.bind_some, e1, e2, e3, cond_false, hg0, e4, hwi, g1']
        · obtain ⟨j, hj1, hj2, hj3⟩ := g2
          simp only [Prod.mk.injEq] at hj3
          obtain ⟨he, ha', hf'⟩ := hj3
          exact step (v1, f') (by simp only [ref03Parse_b3, hlt, cond_true, hgt, Option.bind_some, e1, e2, e3, cond_false, hg0, e4, hwi, g1', hf']) j (by rw [hj1]) hj2 ha' he
        · simp only [Prod.mk.injEq] at g2
          obtain ⟨rfl, rfl, rfl⟩ := g2
          rw [if_neg (by decide)]
          refine ⟨.inr (.inr (.inr (.inr (.inr (.inl ((i : Int), f, a, 45, v1, v2, v3, b2, r1, r2)))))), iterN_done ?_, rfl⟩
          simp only [ref03Parse_b3, hlt, cond_true, hgt, Option.bind_some, e1, e2, e3, cond_false, hg0, e4, hwi, g1']
        · obtain ⟨j, hj1, hj2, hj3⟩ := g2
          simp only [Prod.mk.injEq] at hj3
          obtain ⟨he, ha', hf'⟩ := hj3
          exact step (v1, f') (by simp only [ref03Parse_b3, hlt, cond_true, hgt, Option.bind_some, e1, e2, e3, cond_false, hg0, e4, hwi, g1', hf']) j (by rw [hj1]) hj2 ha' he
where
  lt_true' {i n : Nat} (h : i < n) : decide ((i : Int) < (n : Int)) = true := by simp; exact h
theorem ref03Parse_eq (spec : ByteArray) (argv : List ByteArray) (hs : spec.size ≤ 1000000) (hn : argv.length ≤ 1000000) (ht : tot argv ≤ 1000000) :
    ref03Parse spec argv = some (ansP (parF (by_ spec) (argv.length + 1) argv [])) := by
  obtain ⟨x, h1, h2⟩ := rpar_loop spec argv hs hn argv.length 0 [] (Nat.zero_le _) (by omega) (by simpa using ht)
  have h4 := iterN_LF h1 (by omega)
  rw [show ((0 : Nat) : Int) = (0 : Int) from rfl] at h4
  rw [List.drop_zero] at h2
  unfold ref03Parse
  rw [h4, Option.bind_some]
  have fin : ∀ (j : Nat) (f : List FlagD) (r : Int × List ByteArray × List FlagD), j ≤ argv.length → r = (0, argv.drop j, f) → (grd (0 ≤ (j : Int) ∧ (j : Int) ≤ (argv.length : Int) ∧ (argv.length : Int) ≤ (argv.length : Int)) <|
      grd (room (([] : (List ByteArray)).length + (argv.drop (((j : Int)).toNat)).length) 16) <| some (f, (([] : (List ByteArray)) ++ (argv.drop (((j : Int)).toNat))), (0 : Int))) = some (ansP r) := by
    intro j f r hj hr
    rw [grd_pos (by omega), grd_pos (room16 (by simp; omega)), hr]
    rfl
  rcases x with ⟨i, f, y⟩ | ⟨i, f, y⟩ | ⟨i, f, y⟩ | ⟨i, f, y, b⟩ | ⟨i, f, y, b, v3, v4, v5, b2, r1, r2⟩ | ⟨i, f, y, b, v3, v4, v5, b2, r1, r2⟩ | ⟨i, f⟩ <;> simp only [absPX] at h2
  · obtain ⟨j, rfl, hj, hr⟩ := h2
    dsimp only
    rw [show w64 ((j : Int) + 1) = ((j + 1 : Nat) : Int) from w64_succ (by omega)]
    exact fin (j + 1) f _ hj hr
  · obtain ⟨j, rfl, hj, hr⟩ := h2; exact fin j f _ hj hr
  · obtain ⟨j, rfl, hj, hr⟩ := h2; exact fin j f _ hj hr
  · obtain ⟨j, rfl, hj, hr⟩ := h2; exact fin j f _ hj hr
  · rw [h2]; rfl
  · rw [h2]; rfl
  · obtain ⟨j, rfl, hj, hr⟩ := h2; exact fin j f _ hj hr
end Go.Proofs.YtbidfkibpjjghaaDoor.Den
