/- Plain laws of options: all arguments, as the program takes them. -/
import Derived.Test.YtbidfkibpjjghaaDoorPlGrp
set_option linter.unusedVariables false
set_option linter.unusedSimpArgs false
namespace Go.Proofs.YtbidfkibpjjghaaDoor.Den
open Go Go.RowKit

/-- Arguments: an error, or the operands, and the flags. -/
def parF (sp : List UInt8) : Nat → List ByteArray → List FlagD → Int × List ByteArray × List FlagD
  | 0, av, fl => (0, av, fl)
  | _ + 1, [], fl => (0, [], fl)
  | n + 1, a :: av, fl => match by_ a with
    | [] => (0, a :: av, fl)
    | c :: g => if c = 45 then
        match g with
        | [] => (0, a :: av, fl)
        | d :: g' => if d = 45 ∧ g' = [] then (0, av, fl) else
          if (grpF sp (d :: g') av fl).1 = 0 then parF sp n (grpF sp (d :: g') av fl).2.1 (grpF sp (d :: g') av fl).2.2
          else ((grpF sp (d :: g') av fl).1, [], [])
      else (0, a :: av, fl)
theorem cut_eq (y : ByteArray) : stringsCutPrefix y (bs [45]) = some (match by_ y with | [] => (y, false) | c :: g => if c = 45 then (bs g, true) else (y, false)) := by
  have hsz : (bs [45]).size = 1 := rfl
  unfold stringsCutPrefix stringsliteCutPrefix stringsliteHasPrefix
  rw [hsz]
  cases hy : by_ y with
  | nil =>
    have h0 : y.size = 0 := by rw [size_by, hy]; rfl
    rw [h0]; rfl
  | cons c g =>
    have h0 : y.size = g.length + 1 := by rw [size_by, hy]; rfl
    have e1 : decide ((y.size : Int) ≥ ((1 : Nat) : Int)) = true := by rw [h0]; simp <;> omega
    have e2 : seq (y.extract 0 (((1 : Nat) : Int)).toNat) (bs [45]) = (c == 45) := by
      rw [seq_by]
      show (by_ (y.extract 0 1) == _) = _
      rw [by_take, hy, by_bs]
      simp
    rw [e1, cond_true, grd_pos (by rw [h0]; simp <;> omega), e2, Option.bind_some]
    by_cases hc : c = 45
    · subst hc
      have e3 : y.extract (((1 : Nat) : Int)).toNat y.size = bs g := by
        apply by_inj
        show by_ (y.extract 1 y.size) = _
        rw [by_drop, hy]; rfl
      rw [beq_self_eq_true, Bool.not_true, cond_false, grd_pos (by rw [h0]; simp <;> omega), e3]
      rfl
    · have : (c == 45) = false := by simpa using hc
      rw [this]
      simp [hc]
abbrev AS := (ByteArray × (List ByteArray)) ⊕ (ByteArray × (List ByteArray) × (List FlagD))
def absA : AS → ByteArray × List ByteArray × List FlagD
  | .inl (s, a) => (s, a, [])
  | .inr x => x
/-- What all arguments come to. -/
def absR : GO1 → ByteArray → Int × List ByteArray × List FlagD → Prop
  | .inl (s', a), s, r => s' = s ∧ r = (0, a, [])
  | .inr (.inl _), _, r => r = (30, [], [])
  | .inr (.inr (.inl _)), _, r => r = (31, [], [])
  | .inr (.inr (.inr (.inl _))), _, r => r = (30, [], [])
  | .inr (.inr (.inr (.inr (.inl _)))), _, r => r = (31, [], [])
  | .inr (.inr (.inr (.inr (.inr (s', a, f))))), s, r => s' = s ∧ r = (0, a, f)
/-- What follows on the loop. -/
def contA : ((ByteArray × (List ByteArray) × ByteArray × ByteArray × Bool) ⊕ (ByteArray × (List ByteArray) × ByteArray × ByteArray × Bool) ⊕ (ByteArray × (List ByteArray) × ByteArray × ByteArray × Bool × ByteArray × ByteArray × (List ByteArray)) ⊕ (ByteArray × (List ByteArray) × ByteArray × ByteArray × Bool × ByteArray × ByteArray × (List ByteArray) × ByteArray × (List ByteArray)) ⊕ (ByteArray × (List ByteArray) × ByteArray × ByteArray × Bool × ByteArray × ByteArray × (List ByteArray) × ByteArray × (List ByteArray)) ⊕ (ByteArray × (List ByteArray) × ByteArray × ByteArray × Bool × ByteArray × ByteArray × (List ByteArray) × ByteArray × (List ByteArray) × (List FlagD)) ⊕ (ByteArray × (List ByteArray) × ByteArray × ByteArray × Bool × ByteArray × ByteArray × (List ByteArray) × ByteArray × (List ByteArray) × (List FlagD)) ⊕ (ByteArray × (List ByteArray)) ⊕ (ByteArray × (List ByteArray) × (List FlagD) × ByteArray × ByteArray × Bool) ⊕ (ByteArray × (List ByteArray) × (List FlagD) × ByteArray × ByteArray × Bool) ⊕ (ByteArray × (List ByteArray) × (List FlagD) × ByteArray × ByteArray × Bool × ByteArray × ByteArray × (List ByteArray) × (List FlagD)) ⊕ (ByteArray × (List ByteArray) × (List FlagD) × ByteArray × ByteArray × Bool × ByteArray × ByteArray × (List ByteArray) × (List FlagD) × ByteArray × (List ByteArray) × (List FlagD)) ⊕ (ByteArray × (List ByteArray) × (List FlagD) × ByteArray × ByteArray × Bool × ByteArray × ByteArray × (List ByteArray) × (List FlagD) × ByteArray × (List ByteArray) × (List FlagD)) ⊕ (ByteArray × (List ByteArray) × (List FlagD) × ByteArray × ByteArray × Bool × ByteArray × ByteArray × (List ByteArray) × (List FlagD) × ByteArray × (List ByteArray) × (List FlagD)) ⊕ (ByteArray × (List ByteArray) × (List FlagD) × ByteArray × ByteArray × Bool × ByteArray × ByteArray × (List ByteArray) × (List FlagD) × ByteArray × (List ByteArray) × (List FlagD)) ⊕ (ByteArray × (List ByteArray) × (List FlagD))) → Option GO1
  | .inl (v_1, v_2, y_1, r_1, r_2) => (
    some (.inl (v_1, v_2))
  )
  | .inr (.inl (v_1, v_2, y_1, r_1, r_2)) => (
    some (.inl (v_1, v_2))
  )
  | .inr (.inr (.inl (v_1, v_2, y_1, r_1, r_2, r_3, r_4, r_5))) => (
    some (.inl (r_4, r_5))
  )
  | .inr (.inr (.inr (.inl (v_1, v_2, y_1, r_1, r_2, r_3, r_4, r_5, r_6, r_7)))) => (
    some (.inr (.inl (r_6, r_7)))
  )
  | .inr (.inr (.inr (.inr (.inl (v_1, v_2, y_1, r_1, r_2, r_3, r_4, r_5, r_8, r_9))))) => (
    some (.inr (.inr (.inl (r_8, r_9))))
  )
  | .inr (.inr (.inr (.inr (.inr (.inl (v_1, v_2, y_1, r_1, r_2, r_3, r_4, r_5, r_12, r_13, r_14)))))) => (
    some (.inr (.inr (.inr (.inl (r_12, r_13, r_14)))))
  )
  | .inr (.inr (.inr (.inr (.inr (.inr (.inl (v_1, v_2, y_1, r_1, r_2, r_3, r_4, r_5, r_15, r_16, r_17))))))) => (
    some (.inr (.inr (.inr (.inr (.inl (r_15, r_16, r_17))))))
  )
  | .inr (.inr (.inr (.inr (.inr (.inr (.inr (.inl (v_1, v_2)))))))) => (
    some (.inl (v_1, v_2))
  )
  | .inr (.inr (.inr (.inr (.inr (.inr (.inr (.inr (.inl (v_3, v_4, v_5, y_1, r_1, r_2))))))))) => (
    some (.inr (.inr (.inr (.inr (.inr ((v_3, v_4, v_5)))))))
  )
  | .inr (.inr (.inr (.inr (.inr (.inr (.inr (.inr (.inr (.inl (v_3, v_4, v_5, y_1, r_1, r_2)))))))))) => (
    some (.inr (.inr (.inr (.inr (.inr ((v_3, v_4, v_5)))))))
  )
  | .inr (.inr (.inr (.inr (.inr (.inr (.inr (.inr (.inr (.inr (.inl (v_3, v_4, v_5, y_1, r_1, r_2, r_3, r_4, r_5, r_6))))))))))) => (
    some (.inr (.inr (.inr (.inr (.inr ((r_4, r_5, r_6)))))))
  )
  | .inr (.inr (.inr (.inr (.inr (.inr (.inr (.inr (.inr (.inr (.inr (.inl (v_3, v_4, v_5, y_1, r_1, r_2, r_3, r_4, r_5, r_6, r_7, r_8, r_9)))))))))))) => (
    some (.inr (.inr (.inr (.inl (r_7, r_8, r_9)))))
  )
  | .inr (.inr (.inr (.inr (.inr (.inr (.inr (.inr (.inr (.inr (.inr (.inr (.inl (v_3, v_4, v_5, y_1, r_1, r_2, r_3, r_4, r_5, r_6, r_10, r_11, r_12))))))))))))) => (
    some (.inr (.inr (.inr (.inr (.inl (r_10, r_11, r_12))))))
  )
  | .inr (.inr (.inr (.inr (.inr (.inr (.inr (.inr (.inr (.inr (.inr (.inr (.inr (.inl (v_3, v_4, v_5, y_1, r_1, r_2, r_3, r_4, r_5, r_6, r_16, r_17, r_18)))))))))))))) => (
    some (.inr (.inr (.inr (.inl (r_16, r_17, r_18)))))
  )
  | .inr (.inr (.inr (.inr (.inr (.inr (.inr (.inr (.inr (.inr (.inr (.inr (.inr (.inr (.inl (v_3, v_4, v_5, y_1, r_1, r_2, r_3, r_4, r_5, r_6, r_19, r_20, r_21))))))))))))))) => (
    some (.inr (.inr (.inr (.inr (.inl (r_19, r_20, r_21))))))
  )
  | .inr (.inr (.inr (.inr (.inr (.inr (.inr (.inr (.inr (.inr (.inr (.inr (.inr (.inr (.inr ((v_3, v_4, v_5)))))))))))))))) => (
    some (.inr (.inr (.inr (.inr (.inr ((v_3, v_4, v_5)))))))
  )
/-- What the loop comes to. -/
def AOk (s : ByteArray) (st : AS) (n : Nat) (r : Int × List ByteArray × List FlagD) : Prop :=
  ∃ x, iterN optionTakerAll_b1 n st = some x ∧ ∃ y, contA x = some y ∧ absR y s r
theorem AOk.done {s : ByteArray} {st : AS} {n : Nat} {r : Int × List ByteArray × List FlagD} {x} {y : GO1} (h : optionTakerAll_b1 st = some (.inr x)) (h2 : contA x = some y) (h3 : absR y s r) : AOk s st (n + 1) r := ⟨x, iterN_done h, y, h2, h3⟩
theorem AOk.step {s : ByteArray} {st st' : AS} {n : Nat} {r : Int × List ByteArray × List FlagD} (h : optionTakerAll_b1 st = some (.inl st')) (k : AOk s st' n r) : AOk s st (n + 1) r := by
  obtain ⟨x, h1, h2⟩ := k
  exact ⟨x, iterN_step h h1, h2⟩
theorem len_pos {α : Type} (a : α) (l : List α) : decide (((a :: l).length : Int) > (0 : Int)) = true := by simp <;> omega
theorem all_loop (s : ByteArray) (hs : s.size < 4294967281) : ∀ (n : Nat) (av : List ByteArray) (fl : List FlagD) (st : AS), absA st = (s, av, fl) → av.length ≤ n → fl.length + tot av ≤ 1000000 → AOk s st (n + 1) (parF (by_ s) (n + 1) av fl)
  | n, [], fl, st, h, hn, hb => by
    rcases st with ⟨v0, v1⟩ | ⟨v0, v1, v2⟩ <;> simp only [absA, Prod.mk.injEq] at h <;> obtain ⟨rfl, rfl, rfl⟩ := h
    · apply AOk.done
      · simp only [optionTakerAll_b1]
        rfl
      · rfl
      · exact ⟨rfl, rfl⟩
    · apply AOk.done
      · simp only [optionTakerAll_b1]
        rfl
      · rfl
      · exact ⟨rfl, rfl⟩
  | 0, a :: av, fl, st, h, hn, hb => by simp at hn
  | n + 1, a :: av, fl, st, h, hn, hb => by
    have hcut := cut_eq a
    have hsz : a.size = (by_ a).length := size_by a
    unfold parF
    cases ha : by_ a with
    | nil =>
      rw [ha] at hcut
      rcases st with ⟨v0, v1⟩ | ⟨v0, v1, v2⟩ <;> simp only [absA, Prod.mk.injEq] at h <;> obtain ⟨rfl, rfl, rfl⟩ := h
      · apply AOk.done
        · simp only [optionTakerAll_b1, len_pos, cond_true, gt_head, Option.bind_some, hcut, Bool.not_false]
          rfl
        · rfl
        · exact ⟨rfl, rfl⟩
      · apply AOk.done
        · simp only [optionTakerAll_b1, len_pos, cond_true, gt_head, Option.bind_some, hcut, Bool.not_false]
          rfl
        · rfl
        · exact ⟨rfl, rfl⟩
    | cons c g =>
      rw [ha] at hcut
      simp only
      by_cases hc : c = 45
      case neg =>
        simp only [if_neg hc] at hcut ⊢
        rcases st with ⟨v0, v1⟩ | ⟨v0, v1, v2⟩ <;> simp only [absA, Prod.mk.injEq] at h <;> obtain ⟨rfl, rfl, rfl⟩ := h
        · apply AOk.done
          · simp only [optionTakerAll_b1, len_pos, cond_true, gt_head, Option.bind_some, hcut, Bool.not_false]
            rfl
          · rfl
          · exact ⟨rfl, rfl⟩
        · apply AOk.done
          · simp only [optionTakerAll_b1, len_pos, cond_true, gt_head, Option.bind_some, hcut, Bool.not_false]
            rfl
          · rfl
          · exact ⟨rfl, rfl⟩
      subst hc
      simp only [if_true] at hcut ⊢
      cases g with
      | nil =>
        rcases st with ⟨v0, v1⟩ | ⟨v0, v1, v2⟩ <;> simp only [absA, Prod.mk.injEq] at h <;> obtain ⟨rfl, rfl, rfl⟩ := h
        · apply AOk.done
          · simp only [optionTakerAll_b1, len_pos, cond_true, gt_head, Option.bind_some, hcut, Bool.not_true, cond_false, seq_nil, List.isEmpty_nil]
            rfl
          · rfl
          · exact ⟨rfl, rfl⟩
        · apply AOk.done
          · simp only [optionTakerAll_b1, len_pos, cond_true, gt_head, Option.bind_some, hcut, Bool.not_true, cond_false, seq_nil, List.isEmpty_nil]
            rfl
          · rfl
          · exact ⟨rfl, rfl⟩
      | cons d g' =>
        have hne : (d :: g').isEmpty = false := rfl
        have hdd : seq (bs (d :: g')) (bs [45]) = decide (d = 45 ∧ g' = []) := by
          rw [seq_by, by_bs, by_bs]
          by_cases h : d = 45 ∧ g' = []
          · obtain ⟨rfl, rfl⟩ := h; rfl
          · rw [decide_eq_false h, beq_false_of_ne (fun e => h (by injection e with e1 e2; exact ⟨e1, e2⟩))]
        by_cases hd : d = 45 ∧ g' = []
        · simp only [if_pos hd]
          rw [decide_eq_true hd] at hdd
          rcases st with ⟨v0, v1⟩ | ⟨v0, v1, v2⟩ <;> simp only [absA, Prod.mk.injEq] at h <;> obtain ⟨rfl, rfl, rfl⟩ := h
          · apply AOk.done
            · simp only [optionTakerAll_b1, len_pos, cond_true, gt_head, Option.bind_some, hcut, Bool.not_true, cond_false, seq_nil, hne, next_eq, hdd]
              rfl
            · rfl
            · exact ⟨rfl, rfl⟩
          · apply AOk.done
            · simp only [optionTakerAll_b1, len_pos, cond_true, gt_head, Option.bind_some, hcut, Bool.not_true, cond_false, seq_nil, hne, next2_eq, hdd]
              rfl
            · rfl
            · exact ⟨rfl, rfl⟩
        simp only [if_neg hd]
        rw [decide_eq_false hd] at hdd
        have htot : tot (a :: av) = a.size + tot av := by simp [tot]
        have hlen : (d :: g').length + 1 = a.size := by rw [hsz, ha]; rfl
        obtain ⟨e, a', f', hgr⟩ : ∃ e a' f', grpF (by_ s) (d :: g') av fl = (e, a', f') := ⟨_, _, _, rfl⟩
        obtain ⟨hl1, hl2⟩ := grpF_le _ _ _ _ _ _ _ hgr
        have hb' : f'.length + tot a' ≤ 1000000 := by omega
        have hn' : a'.length ≤ n := by simp at hn; omega
        have hrec : ∀ st', absA st' = (s, a', f') → AOk s st' (n + 1) (parF (by_ s) (n + 1) a' f') := fun st' h' => all_loop s hs n a' f' st' h' hn' hb'
        rw [hgr]
        simp only
        rcases st with ⟨v0, v1⟩ | ⟨v0, v1, v2⟩ <;> simp only [absA, Prod.mk.injEq] at h <;> obtain ⟨rfl, rfl, rfl⟩ := h
        · obtain ⟨y, hy, hy2⟩ := group1_eq (bs (d :: g')) v0 av hs (by rw [size_bs]; omega)
          rw [show by_ (bs (d :: g')) = d :: g' from rfl, hgr] at hy2
          rcases y with ⟨y1, y2⟩ | ⟨y1, y2⟩ | ⟨y1, y2⟩ | ⟨y1, y2, y3⟩ | ⟨y1, y2, y3⟩ | ⟨y1, y2, y3⟩ <;> simp only [absG1, Prod.mk.injEq] at hy2
          · obtain ⟨rfl, rfl, rfl⟩ := hy2
            rw [if_neg (by decide)]
            apply AOk.done
            · simp only [optionTakerAll_b1, len_pos, cond_true, gt_head, Option.bind_some, hcut, Bool.not_true, cond_false, seq_nil, hne, next_eq, hdd, hy]
              rfl
            · rfl
            · exact rfl
          · obtain ⟨rfl, rfl, rfl⟩ := hy2
            rw [if_neg (by decide)]
            apply AOk.done
            · simp only [optionTakerAll_b1, len_pos, cond_true, gt_head, Option.bind_some, hcut, Bool.not_true, cond_false, seq_nil, hne, next_eq, hdd, hy]
              rfl
            · rfl
            · exact rfl
          · obtain ⟨rfl, rfl, rfl, rfl⟩ := hy2
            rw [if_pos rfl]
            exact AOk.step (st' := .inl (y1, a')) (by simp only [optionTakerAll_b1, len_pos, cond_true, gt_head, Option.bind_some, hcut, Bool.not_true, cond_false, seq_nil, hne, next_eq, hdd, hy]) (hrec _ rfl)
          · obtain ⟨rfl, rfl, rfl⟩ := hy2
            rw [if_neg (by decide)]
            apply AOk.done
            · simp only [optionTakerAll_b1, len_pos, cond_true, gt_head, Option.bind_some, hcut, Bool.not_true, cond_false, seq_nil, hne, next_eq, hdd, hy]
              rfl
            · rfl
            · exact rfl
          · obtain ⟨rfl, rfl, rfl⟩ := hy2
            rw [if_neg (by decide)]
            apply AOk.done
            · simp only [optionTakerAll_b1, len_pos, cond_true, gt_head, Option.bind_some, hcut, Bool.not_true, cond_false, seq_nil, hne, next_eq, hdd, hy]
              rfl
            · rfl
            · exact rfl
          · obtain ⟨rfl, rfl, rfl, rfl⟩ := hy2
            rw [if_pos rfl]
            exact AOk.step (st' := .inr (y1, a', f')) (by simp only [optionTakerAll_b1, len_pos, cond_true, gt_head, Option.bind_some, hcut, Bool.not_true, cond_false, seq_nil, hne, next_eq, hdd, hy]) (hrec _ rfl)
        · obtain ⟨y, hy, hy2⟩ := group2_eq (bs (d :: g')) v0 av v2 hs (by rw [size_bs]; omega)
          rw [show by_ (bs (d :: g')) = d :: g' from rfl, hgr] at hy2
          rcases y with ⟨y1, y2, y3⟩ | ⟨y1, y2, y3⟩ | ⟨y1, y2, y3⟩ | ⟨y1, y2, y3⟩ | ⟨y1, y2, y3⟩ | ⟨y1, y2, y3⟩ <;> simp only [absG2, Prod.mk.injEq] at hy2
          · obtain ⟨rfl, rfl, rfl⟩ := hy2
            rw [if_neg (by decide)]
            apply AOk.done
            · simp only [optionTakerAll_b1, len_pos, cond_true, gt_head, Option.bind_some, hcut, Bool.not_true, cond_false, seq_nil, hne, next2_eq, hdd, hy]
              rfl
            · rfl
            · exact rfl
          · obtain ⟨rfl, rfl, rfl⟩ := hy2
            rw [if_neg (by decide)]
            apply AOk.done
            · simp only [optionTakerAll_b1, len_pos, cond_true, gt_head, Option.bind_some, hcut, Bool.not_true, cond_false, seq_nil, hne, next2_eq, hdd, hy]
              rfl
            · rfl
            · exact rfl
          · obtain ⟨rfl, rfl, rfl, rfl⟩ := hy2
            rw [if_pos rfl]
            exact AOk.step (st' := .inr (y1, a', f')) (by simp only [optionTakerAll_b1, len_pos, cond_true, gt_head, Option.bind_some, hcut, Bool.not_true, cond_false, seq_nil, hne, next2_eq, hdd, hy]) (hrec _ rfl)
          · obtain ⟨rfl, rfl, rfl⟩ := hy2
            rw [if_neg (by decide)]
            apply AOk.done
            · simp only [optionTakerAll_b1, len_pos, cond_true, gt_head, Option.bind_some, hcut, Bool.not_true, cond_false, seq_nil, hne, next2_eq, hdd, hy]
              rfl
            · rfl
            · exact rfl
          · obtain ⟨rfl, rfl, rfl⟩ := hy2
            rw [if_neg (by decide)]
            apply AOk.done
            · simp only [optionTakerAll_b1, len_pos, cond_true, gt_head, Option.bind_some, hcut, Bool.not_true, cond_false, seq_nil, hne, next2_eq, hdd, hy]
              rfl
            · rfl
            · exact rfl
          · obtain ⟨rfl, rfl, rfl, rfl⟩ := hy2
            rw [if_pos rfl]
            exact AOk.step (st' := .inr (y1, a', f')) (by simp only [optionTakerAll_b1, len_pos, cond_true, gt_head, Option.bind_some, hcut, Bool.not_true, cond_false, seq_nil, hne, next2_eq, hdd, hy]) (hrec _ rfl)
/-- What is answered. -/
def ansP (r : Int × List ByteArray × List FlagD) : List FlagD × List ByteArray × Int := if r.1 = 0 then (r.2.2, r.2.1, 0) else ([], [], r.1)
theorem optionParse_eq (spec : ByteArray) (argv : List ByteArray) (hs : spec.size < 4294967281) (hn : argv.length ≤ 1000000) (ht : tot argv ≤ 1000000) :
    optionParse spec argv = some (ansP (parF (by_ spec) (argv.length + 1) argv [])) := by
  obtain ⟨x, h1, y, h2, h3⟩ := all_loop spec hs argv.length argv [] (.inl (spec, argv)) rfl (Nat.le_refl _) (by simpa using ht)
  have h4 := iterN_LF h1 (by omega)
  unfold optionParse optionTakerAll
  rw [grd_pos (room16 (by omega)), h4]
  have h5 : contA x = some y := h2
  show (contA x).bind _ = _
  rw [h5, Option.bind_some]
  rcases y with ⟨y1, y2⟩ | ⟨y1, y2⟩ | ⟨y1, y2⟩ | ⟨y1, y2, y3⟩ | ⟨y1, y2, y3⟩ | ⟨y1, y2, y3⟩ <;> simp only [absR] at h3
  · obtain ⟨_, h3⟩ := h3; rw [h3]; rfl
  · rw [h3]; rfl
  · rw [h3]; rfl
  · rw [h3]; rfl
  · rw [h3]; rfl
  · obtain ⟨_, h3⟩ := h3; rw [h3]; rfl
end Go.Proofs.YtbidfkibpjjghaaDoor.Den
