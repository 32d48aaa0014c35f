/- Disks: the document's answer, and that both are one. -/
import Derived.Test.YtfllhakmjookkaaDenF10
import Derived.Test.YtfllhakmjookkaaPlRightC
set_option linter.unusedVariables false
set_option linter.unusedSimpArgs false
namespace Go.Proofs.Ytfllhakmjookkaa.Den
open Go Go.RowKit

set_option maxHeartbeats 2000000 in
theorem ref06Right2_eq (d : DiskD) (i : Nat) (hi : i < d.nodes.length) (hl : d.nodes.length ≤ 1000) (hn : ∀ n ∈ d.nodes, n.Ok ∧ n.names.length ≤ 1000) :
    ref06Right2 d (i : Int) = some (lookR d.nodes i d.nodes[i] (allF i 0 (0, -1) d.nodes).1 (allF i 0 (0, -1) d.nodes).2) := by
  unfold ref06Right2
  rw [gt_nat hi]
  have hok := hn _ (List.getElem_mem hi)
  generalize hnn : d.nodes[i] = n at hok ⊢
  have ea : ref06Alike n (NodeD.mk 0 0 0 0 0 0 ⟨#[]⟩ []) = some (decide (zeroP n)) := alikeZero_eq n
  obtain ⟨b, hb, hbc⟩ := inames_eq (i : Int) d.most d.room n.kind n.modeF n.owner n.links n.openF n.up n.data n.names d.nodes (by omega)
  simp only [Option.bind_some, ea, ref05Sorted_eq n.names (by omega) hok.1.names, hb, ref06Names_eq d i hl (fun n hh => (hn n hh).2), ref06Rooted_eq d i (by omega)]
  generalize allF (i : Int) 0 (0, -1) d.nodes = cd
  obtain ⟨c, dr⟩ := cd
  simp only
  unfold lookR
  by_cases k0 : n.kind = 0
  · have e1 : (n.kind == 0) = true := by simp [k0]
    have e2 : shapeB d.nodes n = false := by unfold shapeB; simp [k0]
    rw [e1, e2]; simp
  have e1 : (n.kind == 0) = false := by simp [k0]
  have ez : decide (zeroP n) = false := by simp only [decide_eq_false_iff_not]; exact fun z => k0 z.1
  rw [e1, ez]
  simp only [cond_false, Bool.false_or, bool_if]
  unfold shapeB
  by_cases s1 : 1 ≤ n.kind ∧ n.kind ≤ 3 ∧ 0 ≤ n.modeF ∧ n.modeF ≤ 63 ∧ 0 ≤ n.openF
  case neg =>
    have e3 : decide (1 ≤ n.kind ∧ n.kind ≤ 3 ∧ 0 ≤ n.modeF ∧ n.modeF ≤ 63 ∧ 0 ≤ n.openF) = false := by simp only [decide_eq_false_iff_not]; exact s1
    rw [e3]
    simp only [Bool.false_and]
    repeat' split
    all_goals first | rfl | (exfalso; apply s1; omega)
  have e3 : decide (1 ≤ n.kind ∧ n.kind ≤ 3 ∧ 0 ≤ n.modeF ∧ n.modeF ≤ 63 ∧ 0 ≤ n.openF) = true := by simp only [decide_eq_true_eq]; exact s1
  rw [if_neg (by omega), if_neg (by omega), if_neg (by omega), if_neg (by omega), if_neg (by omega), e3]
  simp only [Bool.true_and, beqd, bned, bool_if]
  clear ea hb hok
  have hz0 : ∀ (es : List Ent), ((es.length : Int) > 0) = ¬ (es.length = 0) := by intro es; apply propext; constructor <;> omega
  have hz1 : ∀ (es : List Ent), ((es.length : Int) = 0) = (es.length = 0) := by intro es; apply propext; constructor <;> omega
  simp only [hz0, hz1]
  generalize n.names.length = ln
  generalize sortedE n.names = so at *
  generalize seq n.data ⟨#[]⟩ = sd at *
  generalize walk d.nodes d.nodes.length (i : Int) = wk
  rcases hbc with ⟨⟨v, rfl⟩ | ⟨v, rfl⟩, ha⟩ | ⟨v, rfl, ha⟩
  · rw [ha]
    by_cases k2 : n.kind = 2 <;> by_cases hz : ln = 0 <;> cases sd <;> cases so <;> simp [k2, hz]
  · rw [ha]
    by_cases k2 : n.kind = 2 <;> by_cases hz : ln = 0 <;> cases sd <;> cases so <;> simp [k2, hz]
  · rw [ha]
    cases so with
    | false => by_cases k2 : n.kind = 2 <;> by_cases hz : ln = 0 <;> cases sd <;> simp [k2, hz]
    | true =>
      by_cases k2 : n.kind = 2
      · cases sd with
        | false => by_cases hz : ln = 0 <;> simp [k2, hz]
        | true =>
          by_cases hi0 : i = 0
          · by_cases hu : n.up = 0 <;> simp [k2, hi0, hu]
          · by_cases hc : n.links = c <;> by_cases hc0 : c = 0 <;> by_cases ho : n.openF < 1 <;> by_cases hz : ln = 0 <;> by_cases hc1 : c = 1 <;> by_cases hu : n.up = dr <;> by_cases hu0 : n.up = 0 <;> simp [k2, hi0, hc, hc0, ho, hz, hc1, hu, hu0] <;> (first | omega | (split <;> simp_all))
      · by_cases hz : ln = 0
        · by_cases hi0 : i = 0
          · simp [k2, hi0, hz]
          · by_cases hc : n.links = c <;> by_cases hc0 : c = 0 <;> by_cases ho : n.openF < 1 <;> simp [k2, hi0, hc, hc0, ho, hz] <;> (first | omega | (split <;> simp_all))
        · simp [k2, hz]
theorem ref06Right_loop (l : List NodeD) (m r : Int) (hl : l.length ≤ 1000) (hn : ∀ n ∈ l, n.Ok ∧ n.names.length ≤ 1000) (Q : Option Bool → Prop) (K : _ → Option Bool) (k1 : ∀ v, K (.inl v) = some false) (k2 : ∀ v, K (.inr v) = some true)
    (hQ : ∀ b : Bool, (b = true ↔ ∀ j (h : j < l.length), lookR l j l[j] (allF j 0 (0, -1) l).1 (allF j 0 (0, -1) l).2 = true) → Q (some b)) : Q ((iterN (ref06Right_b4 l m r) LF (0 : Int)).bind K) := by
  obtain ⟨b, h1, h2⟩ := iter_val (f := ref06Right_b4 l m r) (fun i a => a = (i : Int)) l.length (fun a => ∀ j, a.toNat ≤ j → (h : j < l.length) → lookR l j l[j] (allF j 0 (0, -1) l).1 (allF j 0 (0, -1) l).2 = true)
    (fun b p => (p ∧ K b = some true) ∨ (¬ p ∧ K b = some false)) (by
      rintro i a hi rfl
      have hP : (∀ j, ((i : Int)).toNat ≤ j → (h : j < l.length) → lookR l j l[j] (allF j 0 (0, -1) l).1 (allF j 0 (0, -1) l).2 = true) = (lookR l i l[i] (allF i 0 (0, -1) l).1 (allF i 0 (0, -1) l).2 = true ∧ ∀ j, (((i + 1 : Nat) : Int)).toNat ≤ j → (h : j < l.length) → lookR l j l[j] (allF j 0 (0, -1) l).1 (allF j 0 (0, -1) l).2 = true) := by
        simp only [Int.toNat_natCast]
        apply propext
        constructor
        · exact fun h => ⟨h i (Nat.le_refl _) hi, fun j hj => h j (by omega)⟩
        · rintro ⟨h1, h2⟩ j hj hl
          rcases Nat.eq_or_lt_of_le hj with e | e
          · subst e; exact h1
          · exact h2 j e hl
      simp only [hP]
      unfold ref06Right_b4
      simp only [lt_true hi, cond_true, ref06Right2_eq ⟨l, m, r⟩ i hi hl hn, Option.bind_some, w64_succ (i := i) (by omega)]
      generalize lookR l i l[i] (allF i 0 (0, -1) l).1 (allF i 0 (0, -1) l).2 = L
      cases L with
      | false => exact .inr ⟨_, rfl, .inr ⟨by simp, k1 _⟩⟩
      | true => exact .inl ⟨_, rfl, rfl, by simp⟩) (by
      rintro a rfl
      unfold ref06Right_b4
      simp only [lt_false, cond_false]
      exact ⟨_, rfl, .inl ⟨fun j hj hjl => by simp only [Int.toNat_natCast] at hj; omega, k2 _⟩⟩) (lt_LF (by omega)) (a := (0 : Int)) rfl
  rw [h1]
  simp only [Int.toNat_zero, Nat.zero_le, true_implies, Option.bind_some] at h2 ⊢
  rcases h2 with ⟨p, hk⟩ | ⟨p, hk⟩
  · rw [hk]; exact hQ true (by simpa using p)
  · rw [hk]; exact hQ false (by simpa using p)
theorem ref06Right_eq (d : DiskD) (hl : d.nodes.length ≤ 1000) (hn : ∀ n ∈ d.nodes, n.Ok ∧ n.names.length ≤ 1000 ∧ n.data.size ≤ 1000) :
    ∃ b, ref06Right d = some b ∧ (b = true ↔ ∃ h : headP d, ∀ j (hj : j < d.nodes.length), lookR d.nodes j d.nodes[j] (allF j 0 (0, -1) d.nodes).1 (allF j 0 (0, -1) d.nodes).2 = true) := by
  unfold ref06Right
  simp only [beqd, bned, bool_if]
  by_cases h0 : 0 < d.nodes.length
  case neg =>
    rw [if_pos (by omega)]
    exact ⟨false, rfl, by simp; intro h; exact absurd h.1 h0⟩
  rw [if_neg (by omega)]
  by_cases hm : (d.nodes.length : Int) > d.most
  · rw [if_pos hm]
    exact ⟨false, rfl, by simp; intro h; have := h.2.2.1; omega⟩
  rw [if_neg hm, ref06Bytes_eq d hl fun n hh => (hn n hh).2.2]
  simp only [Option.bind_some]
  by_cases hb : (bytesN d.nodes : Int) > d.room
  · rw [if_pos hb]
    exact ⟨false, rfl, by simp; intro h; have := h.2.2.2; omega⟩
  rw [if_neg hb, gt_int (show (0 : Int) ≤ 0 ∧ (0 : Int) < (d.nodes.length : Int) by omega)]
  have e0 : (0 : Int).toNat = 0 := rfl
  simp only [e0, Option.bind_some]
  by_cases hk : d.nodes[0].kind = 2
  case neg =>
    rw [if_pos hk]
    exact ⟨false, rfl, by simp; intro h; exact absurd h.2.1 hk⟩
  rw [if_neg (by simp [hk])]
  refine ref06Right_loop d.nodes d.most d.room hl (fun n hh => ⟨(hn n hh).1, (hn n hh).2.1⟩) (fun x => ∃ b, x = some b ∧ (b = true ↔ ∃ h : headP d, ∀ j (hj : j < d.nodes.length), lookR d.nodes j d.nodes[j] (allF j 0 (0, -1) d.nodes).1 (allF j 0 (0, -1) d.nodes).2 = true)) _ ?_ ?_ ?_
  all_goals try exact fun _ => rfl
  intro b hb2
  refine ⟨b, rfl, hb2.trans ⟨fun h => ⟨⟨h0, hk, by omega, by omega⟩, h⟩, fun ⟨_, h⟩ => h⟩⟩
/-- Nobody names the root. -/
theorem noRoot {l : List NodeD} (h : ∀ j (hj : j < l.length), decide (zeroP l[j]) = true ∨ shapeB l l[j] = true) : ∀ n ∈ l, ∀ e ∈ n.names, e.ino ≠ ((0 : Nat) : Int) := by
  intro n hn e he
  obtain ⟨j, hj, rfl⟩ := List.mem_iff_getElem.1 hn
  rcases h j hj with h | h
  · have := zeroP_names (of_decide_eq_true h)
    rw [this] at he; cases he
  · unfold shapeB at h
    simp only [Bool.and_eq_true] at h
    have := List.all_eq_true.1 h.2.2.2 e he
    unfold inoOk at this
    simp only [Bool.and_eq_true, bne_iff_ne, ne_eq] at this
    exact this.2
theorem looks_same {l : List NodeD} (h0 : 0 < l.length) (hk : l[0].kind = 2) :
    (l[0].up = 0 ∧ ∀ j (hj : j < l.length), lookD l j l[j] ((allF j 0 (0, 0) l).1 + if j = 0 then 1 else 0) (allF j 0 (0, 0) l).2 = true) ↔ ∀ j (hj : j < l.length), lookR l j l[j] (allF j 0 (0, -1) l).1 (allF j 0 (0, -1) l).2 = true := by
  have hz : decide (zeroP l[0]) = false := by simp only [decide_eq_false_iff_not]; exact fun z => by have := z.1; omega
  have rest : ∀ j (hj : j < l.length), j ≠ 0 → lookD l j l[j] ((allF j 0 (0, 0) l).1 + if j = 0 then 1 else 0) (allF j 0 (0, 0) l).2 = lookR l j l[j] (allF j 0 (0, -1) l).1 (allF j 0 (0, -1) l).2 := by
    intro j hj hj0
    rw [if_neg hj0, Int.add_zero]
    have hji : ¬ (j : Int) = 0 := by omega
    unfold lookD lookR tailB
    rw [if_neg hji]
    congr 1
    congr 1
    have hle := allF_le (j : Int) l 0 (0, 0)
    simp only at hle
    rcases allF_two (j : Int) 0 0 (-1) l 0 with ⟨h1, h2⟩ | ⟨h1, h2⟩
    · rw [h1, h2]
      simp only
      by_cases a1 : l[j].links = 0 <;> by_cases a2 : l[j].kind = 2 <;> by_cases a3 : l[j].openF < 1 <;> by_cases a4 : l[j].up = 0 <;> by_cases a5 : l[j].names.length = 0 <;> simp [a1, a2, a3, a4, a5] <;> (first | omega | skip)
    · rw [← h1]
      generalize allF (j : Int) 0 (0, 0) l = cd at *
      obtain ⟨c, dr⟩ := cd
      simp only at h2 hle ⊢
      have hc : ¬ c = 0 := by omega
      by_cases a1 : l[j].links = c
      · have hp : 0 < c := by omega
        by_cases a2 : l[j].kind = 2 <;> simp [a1, a2, hc, hp, hj0]
      · simp [a1]
  constructor
  · rintro ⟨hu, h⟩ j hj
    by_cases hj0 : j = 0
    · subst hj0
      have hno := noRoot (l := l) fun j hj => by
        have := h j hj
        unfold lookD at this
        simp only [Bool.or_eq_true, Bool.and_eq_true] at this
        exact this.imp id And.left
      have h1 := h 0 hj
      rw [allF_none _ _ _ _ hno] at h1 ⊢
      unfold lookD tailB at h1
      unfold lookR
      rw [hz] at h1 ⊢
      simp only [Bool.false_or, Bool.and_eq_true, decide_eq_true_eq] at h1 ⊢
      refine ⟨h1.1, ?_⟩
      simp only [if_true] at h1
      rw [if_pos (by rfl)]
      simp only [decide_eq_true_eq]
      exact ⟨hk, hu, by omega⟩
    · rw [← rest j hj hj0]; exact h j hj
  · intro h
    have hno := noRoot (l := l) fun j hj => by
      have := h j hj
      unfold lookR at this
      simp only [Bool.or_eq_true, Bool.and_eq_true] at this
      exact this.imp id And.left
    have h1 := h 0 h0
    unfold lookR at h1
    rw [hz, if_pos (by rfl)] at h1
    simp only [Bool.false_or, Bool.and_eq_true, decide_eq_true_eq] at h1
    refine ⟨h1.2.2.1, fun j hj => ?_⟩
    by_cases hj0 : j = 0
    · subst hj0
      rw [allF_none _ _ _ _ hno]
      unfold lookD tailB
      rw [h1.1]
      simp [h1.2.2.2]
    · rw [rest j hj hj0]; exact h j hj
theorem DiskRight_true (d : DiskD) (hd : d.Ok) : law06DiskRight d = some true := by
  unfold law06DiskRight
  obtain ⟨b, hb, hf⟩ := law06Big_eq d
  rw [hb]
  simp only [Option.bind_some, shownX]
  cases b with
  | true => rfl
  | false =>
    have F := hf rfl
    have hn : ∀ n ∈ d.nodes, n.Ok ∧ n.names.length ≤ 1000 ∧ n.data.size ≤ 1000 := fun n h => ⟨hd.nodes n h, Nat.le_trans (F.names n h) (by omega), Nat.le_trans (F.data n h) (by omega)⟩
    have hl : d.nodes.length ≤ 1000 := Nat.le_trans F.len (by omega)
    obtain ⟨x, hx, hx2⟩ := diskRight_eq d hl hn
    obtain ⟨y, hy, hy2⟩ := ref06Right_eq d hl hn
    have e : x = y := by
      rw [Bool.eq_iff_iff, hx2, hy2]
      constructor
      · rintro ⟨h, hu, hj⟩
        exact ⟨h, (looks_same h.1 h.2.1).1 ⟨hu, hj⟩⟩
      · rintro ⟨h, hj⟩
        exact ⟨h, (looks_same h.1 h.2.1).2 hj⟩
    subst e
    simp only [cond_false, Bool.not_true, hx, law06Its_eq d hl fun n h => (hn n h).2.1, hy, Option.bind_some, beq_self_eq_true]
end Go.Proofs.Ytfllhakmjookkaa.Den
