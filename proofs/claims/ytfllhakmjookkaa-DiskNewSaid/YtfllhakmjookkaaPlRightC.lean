/- Disks: both answer alike whether any is right. -/
import Derived.Test.YtfllhakmjookkaaPlRightB
set_option linter.unusedVariables false
set_option linter.unusedSimpArgs false
namespace Go.Proofs.Ytfllhakmjookkaa.Den
open Go Go.RowKit

theorem rightD_loop (l : List NodeD) (m r : Int) (cs ds : List Int) (hl : l.length ≤ 1000) (hn : ∀ n ∈ l, n.Ok ∧ n.names.length ≤ 1000) (hc : cs.length = l.length) (hd : ds.length = l.length) (K : _ → Option Bool)
    (k1 : ∀ v, K (.inl v) = some false) (k2 : ∀ v, K (.inr (.inl v)) = some false) (k3 : ∀ v, K (.inr (.inr (.inl v))) = some false) (k4 : ∀ v, K (.inr (.inr (.inr (.inl v)))) = some false)
    (k5 : ∀ v, K (.inr (.inr (.inr (.inr (.inl v))))) = some false) (k6 : ∀ v, K (.inr (.inr (.inr (.inr (.inr (.inl v)))))) = some false) (k7 : ∀ v, K (.inr (.inr (.inr (.inr (.inr (.inr (.inl v))))))) = some false)
    (k8 : ∀ v, K (.inr (.inr (.inr (.inr (.inr (.inr (.inr (.inl v)))))))) = some false) (k9 : ∀ v, K (.inr (.inr (.inr (.inr (.inr (.inr (.inr (.inr (.inl v))))))))) = some false)
    (k10 : ∀ v, K (.inr (.inr (.inr (.inr (.inr (.inr (.inr (.inr (.inr (.inl v)))))))))) = some false) (k11 : ∀ v, K (.inr (.inr (.inr (.inr (.inr (.inr (.inr (.inr (.inr (.inr (.inl v))))))))))) = some false)
    (k12 : ∀ v, K (.inr (.inr (.inr (.inr (.inr (.inr (.inr (.inr (.inr (.inr (.inr (.inl v)))))))))))) = some false) (k13 : ∀ v, K (.inr (.inr (.inr (.inr (.inr (.inr (.inr (.inr (.inr (.inr (.inr (.inr v)))))))))))) = some true) :
    ∃ b, (iterN (diskRight_b8 l (l.length : Int)) LF ((0 : Int), l, m, r, cs, ds)).bind K = some b ∧ (b = true ↔ ∀ j (h : j < l.length), lookD l j l[j] (cs.getD j 0) (ds.getD j 0) = true) := by
  obtain ⟨b, h1, h2⟩ := iter_val (f := diskRight_b8 l (l.length : Int)) (fun i a => a = ((i : Int), l, m, r, cs, ds)) l.length (fun a => ∀ j, a.1.toNat ≤ j → (h : j < l.length) → lookD l j l[j] (cs.getD j 0) (ds.getD j 0) = true)
    (fun b p => (p ∧ K b = some true) ∨ (¬ p ∧ K b = some false)) (by
      rintro i a hi rfl
      have hP : (∀ j, ((i : Int)).toNat ≤ j → (h : j < l.length) → lookD l j l[j] (cs.getD j 0) (ds.getD j 0) = true) = (lookD l i l[i] (cs.getD i 0) (ds.getD i 0) = true ∧ ∀ j, (((i + 1 : Nat) : Int)).toNat ≤ j → (h : j < l.length) → lookD l j l[j] (cs.getD j 0) (ds.getD j 0) = true) := by
        simp only [Int.toNat_natCast]
        apply propext
        constructor
        · exact fun h => ⟨h i (Nat.le_refl _) hi, fun j hj => h j (by omega)⟩
        · rintro ⟨h1, h2⟩ j hj hl
          rcases Nat.eq_or_lt_of_le hj with e | e
          · subst e; exact h1
          · exact h2 j e hl
      simp only [hP]
      obtain ⟨n, hnn⟩ : ∃ n, n = l[i] := ⟨_, rfl⟩
      have hok := hn l[i] (List.getElem_mem hi)
      rw [← hnn] at hok ⊢
      have gc : gt cs (i : Int) = some (cs.getD i 0) := by rw [gt_getD (by omega), Int.toNat_natCast]
      have gd : gt ds (i : Int) = some (ds.getD i 0) := by rw [gt_getD (by omega), Int.toNat_natCast]
      have e1 := look1_eq i n.kind n.modeF n.owner n.links n.openF n.up n.data n.names
      have e2 := look2_eq i n.kind n.modeF n.owner n.links n.openF n.up n.data n.names
      have e3 := look3_eq i n.kind n.modeF n.owner n.links n.openF n.up n.data n.names l m r (by omega) hok.1.names (by omega)
      have e4 := look4_eq i n.kind n.modeF n.owner n.links n.openF n.up n.data n.names cs _ gc
      have e5 := look5_eq i n.kind n.modeF n.owner n.links n.openF n.up n.data n.names cs _ gc
      have e6 := look6_eq i n.kind n.modeF n.owner n.links n.openF n.up n.data n.names l m r cs ds _ _ gc gd (by omega)
      have hL : lookD l i n (cs.getD i 0) (ds.getD i 0) = (decide (zeroP n) || ((decide (1 ≤ n.kind ∧ n.kind ≤ 3 ∧ 0 ≤ n.modeF ∧ n.modeF ≤ 63 ∧ 0 ≤ n.openF) && (decide ((n.kind = 2 ∧ seq n.data ⟨#[]⟩ = true) ∨ (n.kind ≠ 2 ∧ n.names.length = 0)) && (sortedE n.names && n.names.all (inoOk l)))) && (decide (n.links = cs.getD i 0 ∧ (n.links > 0 ∨ n.openF > 0)) && (decide (n.kind ≠ 2 ∨ cs.getD i 0 ≠ 0 ∨ (n.up = 0 ∧ n.names.length = 0)) && (decide (n.kind ≠ 2 ∨ (i : Int) = 0 ∨ cs.getD i 0 = 0) || (decide (cs.getD i 0 = 1 ∧ n.up = ds.getD i 0) && walk l l.length i)))))) := rfl
      have z0 : n.kind = 0 → decide (1 ≤ n.kind ∧ n.kind ≤ 3 ∧ 0 ≤ n.modeF ∧ n.modeF ≤ 63 ∧ 0 ≤ n.openF) = false := by intro h; simp [h]
      have z1 : n.kind ≠ 0 → decide (zeroP n) = false := by intro h; simp only [decide_eq_false_iff_not]; exact fun z => h z.1
      have eZ := nodeZero_eq n
      generalize decide (1 ≤ n.kind ∧ n.kind ≤ 3 ∧ 0 ≤ n.modeF ∧ n.modeF ≤ 63 ∧ 0 ≤ n.openF) = b1 at e1 hL z0
      generalize decide ((n.kind = 2 ∧ seq n.data ⟨#[]⟩ = true) ∨ (n.kind ≠ 2 ∧ n.names.length = 0)) = b2 at e2 hL
      generalize (sortedE n.names && n.names.all (inoOk l)) = b3 at e3 hL
      generalize decide (n.links = cs.getD i 0 ∧ (n.links > 0 ∨ n.openF > 0)) = b4 at e4 hL
      generalize decide (n.kind ≠ 2 ∨ cs.getD i 0 ≠ 0 ∨ (n.up = 0 ∧ n.names.length = 0)) = b5 at e5 hL
      generalize (decide (n.kind ≠ 2 ∨ (i : Int) = 0 ∨ cs.getD i 0 = 0) || (decide (cs.getD i 0 = 1 ∧ n.up = ds.getD i 0) && walk l l.length i)) = b6 at e6 hL
      generalize decide (zeroP n) = z at eZ hL z1
      generalize lookD l i n (cs.getD i 0) (ds.getD i 0) = L at hL ⊢
      unfold diskRight_b8
      simp only [lt_true hi, cond_true, gt_nat hi, Option.bind_some, ← hnn, eZ, e1, e2, e3, e4, e5, e6, w64_succ (i := i) (by omega)]
      by_cases hk : n.kind = 0
      · have hkb : (n.kind == 0) = true := by simp [hk]
        rw [z0 hk] at hL ⊢
        rw [hkb]
        simp only [cond_true]
        cases z with
        | true =>
          subst hL
          exact .inl ⟨_, rfl, rfl, by simp⟩
        | false =>
          subst hL
          exact .inr ⟨_, rfl, .inr ⟨by simp, k1 _⟩⟩
      · have hkb : (n.kind == 0) = false := by simp [hk]
        rw [z1 hk] at hL
        rw [hkb]
        simp only [cond_false]
        subst hL
        cases b1 with
        | false => exact .inr ⟨_, rfl, .inr ⟨by simp, k7 _⟩⟩
        | true =>
        cases b2 with
        | false => exact .inr ⟨_, rfl, .inr ⟨by simp, k8 _⟩⟩
        | true =>
        cases b3 with
        | false => exact .inr ⟨_, rfl, .inr ⟨by simp, k9 _⟩⟩
        | true =>
        cases b4 with
        | false => exact .inr ⟨_, rfl, .inr ⟨by simp, k10 _⟩⟩
        | true =>
        cases b5 with
        | false => exact .inr ⟨_, rfl, .inr ⟨by simp, k11 _⟩⟩
        | true =>
        cases b6 with
        | false => exact .inr ⟨_, rfl, .inr ⟨by simp, k12 _⟩⟩
        | true => exact .inl ⟨_, rfl, rfl, by simp⟩) (by
      rintro a rfl
      unfold diskRight_b8
      simp only [lt_false, cond_false]
      exact ⟨_, rfl, .inl ⟨fun j hj hjl => by simp only [Int.toNat_natCast] at hj; omega, k13 _⟩⟩) (lt_LF (by omega)) (a := ((0 : Int), l, m, r, cs, ds)) rfl
  rw [h1]
  simp only [Int.toNat_zero, Nat.zero_le, true_implies, Option.bind_some] at h2 ⊢
  rcases h2 with ⟨p, hk⟩ | ⟨p, hk⟩
  · exact ⟨true, hk, by simpa using p⟩
  · exact ⟨false, hk, by simpa using p⟩
theorem rightD_fin (Q : Option Bool → Prop) (l : List NodeD) (m r : Int) (cs ds : List Int) (hl : l.length ≤ 1000) (hn : ∀ n ∈ l, n.Ok ∧ n.names.length ≤ 1000) (hc : cs.length = l.length) (hd : ds.length = l.length) (K : _ → Option Bool)
    (k1 : ∀ v, K (.inl v) = some false) (k2 : ∀ v, K (.inr (.inl v)) = some false) (k3 : ∀ v, K (.inr (.inr (.inl v))) = some false) (k4 : ∀ v, K (.inr (.inr (.inr (.inl v)))) = some false)
    (k5 : ∀ v, K (.inr (.inr (.inr (.inr (.inl v))))) = some false) (k6 : ∀ v, K (.inr (.inr (.inr (.inr (.inr (.inl v)))))) = some false) (k7 : ∀ v, K (.inr (.inr (.inr (.inr (.inr (.inr (.inl v))))))) = some false)
    (k8 : ∀ v, K (.inr (.inr (.inr (.inr (.inr (.inr (.inr (.inl v)))))))) = some false) (k9 : ∀ v, K (.inr (.inr (.inr (.inr (.inr (.inr (.inr (.inr (.inl v))))))))) = some false)
    (k10 : ∀ v, K (.inr (.inr (.inr (.inr (.inr (.inr (.inr (.inr (.inr (.inl v)))))))))) = some false) (k11 : ∀ v, K (.inr (.inr (.inr (.inr (.inr (.inr (.inr (.inr (.inr (.inr (.inl v))))))))))) = some false)
    (k12 : ∀ v, K (.inr (.inr (.inr (.inr (.inr (.inr (.inr (.inr (.inr (.inr (.inr (.inl v)))))))))))) = some false) (k13 : ∀ v, K (.inr (.inr (.inr (.inr (.inr (.inr (.inr (.inr (.inr (.inr (.inr (.inr v)))))))))))) = some true)
    (hQ : ∀ b : Bool, (b = true ↔ ∀ j (h : j < l.length), lookD l j l[j] (cs.getD j 0) (ds.getD j 0) = true) → Q (some b)) : Q ((iterN (diskRight_b8 l (l.length : Int)) LF ((0 : Int), l, m, r, cs, ds)).bind K) := by
  obtain ⟨b, h1, h2⟩ := rightD_loop l m r cs ds hl hn hc hd K k1 k2 k3 k4 k5 k6 k7 k8 k9 k10 k11 k12 k13
  rw [h1]
  exact hQ b h2
def headP (d : DiskD) : Prop := ∃ h : 0 < d.nodes.length, d.nodes[0].kind = 2 ∧ (d.nodes.length : Int) ≤ d.most ∧ (bytesN d.nodes : Int) ≤ d.room
theorem diskRight_eq (d : DiskD) (hl : d.nodes.length ≤ 1000) (hn : ∀ n ∈ d.nodes, n.Ok ∧ n.names.length ≤ 1000 ∧ n.data.size ≤ 1000) :
    ∃ b, diskRight d = some b ∧ (b = true ↔ ∃ h : headP d, (d.nodes[0]'h.1).up = 0 ∧ ∀ j (hj : j < d.nodes.length), lookD d.nodes j d.nodes[j] ((allF j 0 (0, 0) d.nodes).1 + if j = 0 then 1 else 0) (allF j 0 (0, 0) d.nodes).2 = true) := by
  unfold diskRight
  rw [diskGet_eq d 0 (by omega)]
  simp only [Option.bind_some]
  unfold getP
  by_cases h0 : 0 < d.nodes.length
  case neg =>
    rw [dif_neg (by omega)]
    exact ⟨false, rfl, by simp; intro h; exact absurd h.1 h0⟩
  rw [dif_pos (by omega)]
  have e0 : (0 : Int).toNat = 0 := rfl
  simp only [e0]
  by_cases hk0 : d.nodes[0].kind = 0
  · rw [if_pos hk0]
    exact ⟨false, rfl, by simp; intro h; have := h.2.1; omega⟩
  rw [if_neg hk0]
  simp only [Bool.not_true, cond_false, bned, bool_if]
  by_cases hk : d.nodes[0].kind = 2
  case neg =>
    rw [if_pos hk]
    exact ⟨false, rfl, by simp; intro h; exact absurd h.2.1 hk⟩
  rw [if_neg (by simp [hk])]
  by_cases hu : d.nodes[0].up = 0
  case neg =>
    rw [if_pos hu]
    exact ⟨false, rfl, by simp; intro h hu'; exact absurd hu' hu⟩
  rw [if_neg (by simp [hu])]
  by_cases hm : (d.nodes.length : Int) > d.most
  · rw [if_pos hm]
    exact ⟨false, rfl, by simp; intro h; have := h.2.2.1; omega⟩
  rw [if_neg hm, diskBytes_eq d hl fun n hh => (hn n hh).2.2]
  simp only [Option.bind_some]
  by_cases hb : (bytesN d.nodes : Int) > d.room
  · rw [if_pos hb]
    exact ⟨false, rfl, by simp; intro h; have := h.2.2.2; omega⟩
  rw [if_neg hb]
  obtain ⟨cs, ds, g1, g2, g3, g4⟩ := named_eq d.nodes d.most d.room hl fun n hh => (hn n hh).2.1
  have hcap : ∀ (l : List NodeD) (i : Int) (k : Nat) (s : Int × Int), (∀ n ∈ l, n.names.length ≤ 1000) → 0 ≤ s.1 → 0 ≤ (allF i k s l).1 ∧ (allF i k s l).1 ≤ s.1 + 1000 * l.length := by
    intro l
    induction l with
    | nil => intro i k s _ h; simp only [allF, List.length_nil]; omega
    | cons n l ih =>
      intro i k s h hs
      have h1 := rowF_le k i n.names s
      have h2 := h n (by simp)
      have h3 := ih i (k + 1) (rowF k i s n.names) (fun x hx => h x (List.mem_cons_of_mem _ hx)) (by omega)
      simp only [allF, List.length_cons]
      omega
  have hc0 : cs.getD 0 0 = (allF ((0 : Nat) : Int) 0 (0, 0) d.nodes).1 := congrArg Prod.fst (g4 0 h0)
  have hcb := hcap d.nodes ((0 : Nat) : Int) 0 (0, 0) (fun n hh => (hn n hh).2.1) (by simp)
  simp only at hcb
  rw [g1]
  simp only [Option.bind_some, gt_getD (l := cs) (x := 0) (by omega), e0]
  rw [w64_eq (a := cs.getD 0 0 + 1) (by omega) (by omega)]
  refine rightD_fin (fun x => ∃ b, x = some b ∧ (b = true ↔ ∃ h : headP d, (d.nodes[0]'h.1).up = 0 ∧ ∀ j (hj : j < d.nodes.length), lookD d.nodes j d.nodes[j] ((allF j 0 (0, 0) d.nodes).1 + if j = 0 then 1 else 0) (allF j 0 (0, 0) d.nodes).2 = true)) d.nodes d.most d.room (cs.set 0 (cs.getD 0 0 + 1)) ds hl (fun n hh => ⟨(hn n hh).1, (hn n hh).2.1⟩) (by simpa using g2) g3 _ ?_ ?_ ?_ ?_ ?_ ?_ ?_ ?_ ?_ ?_ ?_ ?_ ?_ ?_
  all_goals try exact fun _ => rfl
  intro b hb2
  refine ⟨b, rfl, hb2.trans ?_⟩
  have hcs : ∀ j, j < d.nodes.length → (cs.set 0 (cs.getD 0 0 + 1)).getD j 0 = (allF j 0 (0, 0) d.nodes).1 + if j = 0 then 1 else 0 := by
    intro j hj
    rw [getD_set _ _ _ _ (by omega)]
    have := congrArg Prod.fst (g4 j hj)
    simp only [both] at this
    by_cases h : j = 0
    · subst h; rw [if_pos rfl, if_pos rfl, this]
    · rw [if_neg (fun e => h e.symm), if_neg h, this, Int.add_zero]
  have hds : ∀ j, j < d.nodes.length → ds.getD j 0 = (allF j 0 (0, 0) d.nodes).2 := fun j hj => congrArg Prod.snd (g4 j hj)
  constructor
  · intro h
    refine ⟨⟨h0, hk, by omega, by omega⟩, hu, fun j hj => ?_⟩
    rw [← hcs j hj, ← hds j hj]; exact h j hj
  · rintro ⟨_, _, h⟩ j hj
    rw [hcs j hj, hds j hj]; exact h j hj
end Go.Proofs.Ytfllhakmjookkaa.Den
