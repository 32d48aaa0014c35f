/- Disks: what adding does, in plain words. -/
import Derived.Test.YtfllhakmjookkaaDenF12
import Derived.Test.YtfllhakmjookkaaPlRightD
set_option linter.unusedVariables false
set_option linter.unusedSimpArgs false
namespace Go.Proofs.Ytfllhakmjookkaa.Den
open Go Go.RowKit

theorem indexFree_eq (l : List NodeD) (hl : l.length ≤ 1000000) : ∃ r, slicesIndexFunc l = some r ∧ ((r = -1 ∧ ∀ j (h : j < l.length), l[j].kind ≠ 0) ∨ ∃ i, ∃ hi : i < l.length, r = (i : Int) ∧ l[i].kind = 0 ∧ ∀ j (h : j < l.length), j < i → l[j].kind ≠ 0) := by
  unfold slicesIndexFunc
  obtain ⟨b, h1, h2⟩ := iter_inv (f := slicesIndexFunc_b2 l (l.length : Int)) (fun i a => a = (i : Int) ∧ ∀ j (h : j < l.length), j < i → l[j].kind ≠ 0) l.length
    (fun b => (∃ i y z, ∃ hi : i < l.length, b = .inl ((i : Int), y, z) ∧ l[i].kind = 0 ∧ ∀ j (h : j < l.length), j < i → l[j].kind ≠ 0) ∨ (∃ v, b = .inr v) ∧ ∀ j (h : j < l.length), l[j].kind ≠ 0) (by
      rintro i a hi ⟨rfl, h⟩
      unfold slicesIndexFunc_b2 diskAdd1
      simp only [lt_true hi, cond_true, gt_nat hi, Option.bind_some, beqd, w64_succ (i := i) (by omega)]
      by_cases hk : l[i].kind = 0
      · have e : decide (l[i].kind = 0) = true := by simp [hk]
        rw [e]
        exact .inr ⟨_, rfl, .inl ⟨i, _, _, hi, rfl, hk, h⟩⟩
      · have e : decide (l[i].kind = 0) = false := by simp [hk]
        rw [e]
        refine .inl ⟨_, rfl, rfl, fun j hj hji => ?_⟩
        rcases Nat.lt_or_ge j i with h' | h'
        · exact h j hj h'
        · obtain rfl : j = i := by omega
          exact hk) (by
      rintro a ⟨rfl, h⟩
      unfold slicesIndexFunc_b2
      simp only [lt_false, cond_false]
      exact ⟨_, rfl, .inr ⟨⟨_, rfl⟩, fun j hj => h j hj hj⟩⟩) (lt_LF (by omega)) (a := (0 : Int)) ⟨rfl, fun j _ h => absurd h (by omega)⟩
  rw [h1]
  rcases h2 with ⟨i, y, z, hi, rfl, h3, h4⟩ | ⟨⟨v, rfl⟩, h3⟩
  · exact ⟨(i : Int), rfl, .inr ⟨i, hi, rfl, h3, h4⟩⟩
  · exact ⟨-1, rfl, .inl ⟨rfl, h3⟩⟩
theorem room_le {n : Nat} (h : n ≤ 1000000) : room n 88 := room_lo h (by omega)
theorem diskSet_eq (d : DiskD) (i : Nat) (n : NodeD) (hi : i < d.nodes.length) (hl : d.nodes.length ≤ 1000000) : diskSet d (i : Int) n = some ⟨d.nodes.set i n, d.most, d.room⟩ := by
  unfold diskSet
  rw [between_eq, w64_eq (by omega) (by omega)]
  have e : decide (0 ≤ (i : Int) ∧ (i : Int) ≤ (d.nodes.length : Int) - 1) = true := by simp; omega
  have e2 : d.nodes.isEmpty = false := by cases h : d.nodes with
    | nil => rw [h] at hi; simp at hi
    | cons a t => rfl
  rw [e, e2]
  simp only [Option.bind_some, cond_true, cond_false, grd_pos (room_le hl), gt_nat hi, Int.toNat_natCast]
theorem used_set (l : List NodeD) (n : NodeD) (hn : n.kind ≠ 0) : ∀ (k : Nat) (hk : k < l.length), l[k].kind = 0 → used (l.set k n) = used l + 1 := by
  induction l with
  | nil => intro k hk; simp at hk
  | cons a l ih =>
    intro k hk h
    cases k with
    | zero =>
      simp only [List.getElem_cons_zero] at h
      simp [used, h, hn]
    | succ k =>
      simp only [List.getElem_cons_succ] at h
      have := ih k (by simpa using hk) h
      unfold used at this ⊢
      simp only [List.set_cons_succ, List.filter_cons]
      split <;> simp [this]
theorem used_app (l : List NodeD) (n : NodeD) (hn : n.kind ≠ 0) : used (l ++ [n]) = used l + 1 := by simp [used, List.filter_append, hn]
theorem diskAdd_eq (d : DiskD) (n : NodeD) (hl : d.nodes.length ≤ 1000) (hd : ∀ n ∈ d.nodes, n.data.size ≤ 1000) (hn : n.data.size ≤ 1000) (hk : n.kind ≠ 0) :
    (((used d.nodes : Int) ≥ d.most ∨ ((bytesN d.nodes + weight n : Nat) : Int) > d.room) ∧ diskAdd d n = some (d, 0, 10)) ∨
    ((used d.nodes : Int) < d.most ∧ ((bytesN d.nodes + weight n : Nat) : Int) ≤ d.room ∧ ∃ (k : Nat) (m : List NodeD), diskAdd d n = some (⟨m, d.most, d.room⟩, (k : Int), 0) ∧ k ≤ d.nodes.length ∧ (∀ j (h : j < d.nodes.length), j < k → d.nodes[j].kind ≠ 0) ∧ (∀ h : k < d.nodes.length, d.nodes[k].kind = 0 ∧ m = d.nodes.set k n) ∧ (k = d.nodes.length → m = d.nodes ++ [n])) := by
  have hb := bytes_le d.nodes hd
  have hw : weight n ≤ 1000 := by unfold weight; split <;> omega
  unfold diskAdd
  simp only [diskUsed_eq d hl, diskBytes_eq d hl hd, nodeBytes_eq, Option.bind_some, bool_if]
  rw [w64_eq (by omega) (by omega)]
  by_cases h1 : (used d.nodes : Int) ≥ d.most
  · exact .inl ⟨.inl h1, by rw [if_pos h1]⟩
  by_cases h2 : (bytesN d.nodes : Int) + (weight n : Int) > d.room
  · exact .inl ⟨.inr (by omega), by rw [if_neg h1, if_pos h2]⟩
  right
  refine ⟨by omega, by omega, ?_⟩
  rw [if_neg h1, if_neg h2]
  obtain ⟨r, hr, h3⟩ := indexFree_eq d.nodes (by omega)
  rw [hr]
  simp only [Option.bind_some]
  rcases h3 with ⟨rfl, h3⟩ | ⟨i, hi, rfl, h3, h4⟩
  · refine ⟨d.nodes.length, d.nodes ++ [n], ?_, Nat.le_refl _, fun j hj _ => h3 j hj, fun h => absurd h (by omega), fun _ => rfl⟩
    rw [if_pos (by omega)]
    have key : diskSet ⟨d.nodes ++ [NodeD.mk 0 0 0 0 0 0 ⟨#[]⟩ []], d.most, d.room⟩ (d.nodes.length : Int) n = some ⟨d.nodes ++ [n], d.most, d.room⟩ := by
      rw [diskSet_eq _ _ _ (by simp) (by simp; omega)]
      simp
    cases he : d.nodes.isEmpty with
    | true =>
      have : d.nodes = [] := by simpa using he
      rw [this] at key
      simp only [cond_true, this]
      simp only [List.nil_append] at key
      rw [key]; rfl
    | false =>
      simp only [cond_false, grd_pos (room_le (show d.nodes.length ≤ 1000000 by omega)), grd_pos (room_le (show d.nodes.length + 1 ≤ 1000000 by omega)), key, Option.bind_some]
  · refine ⟨i, d.nodes.set i n, ?_, by omega, h4, fun _ => ⟨h3, rfl⟩, fun h => absurd h (by omega)⟩
    rw [if_neg (by omega), diskSet_eq d i n hi (by omega)]
    rfl
theorem DiskAdds_true (d : DiskD) (n : NodeD) (hd : d.Ok) (hn : n.Ok) : law06DiskAdds d n = some true := by
  unfold law06DiskAdds
  obtain ⟨b, hb, hf⟩ := law06Big_eq d
  rw [hb]
  simp only [Option.bind_some, shownX, Bool.not_true, cond_false]
  cases b with
  | true => rfl
  | false =>
    simp only [cond_false, bool_if, beqd, bned]
    by_cases g1 : (n.data.size : Int) > 300
    · rw [if_pos g1]
    by_cases g2 : (n.names.length : Int) > 60
    · rw [if_neg g1, if_pos g2]
    by_cases g3 : n.kind = 0
    · rw [if_neg g1, if_neg g2, if_pos g3]
    rw [if_neg g1, if_neg g2, if_neg g3]
    have F := hf rfl
    have hd1 : ∀ n ∈ d.nodes, n.data.size ≤ 1000 := fun n h => Nat.le_trans (F.data n h) (by omega)
    have hd2 : ∀ n ∈ d.nodes, n.names.length ≤ 1000 := fun n h => Nat.le_trans (F.names n h) (by omega)
    have hl : d.nodes.length ≤ 100 := F.len
    rcases diskAdd_eq d n (by omega) hd1 (by omega) g3 with ⟨_, ha⟩ | ⟨_, _, k, m, ha, hk, hfree, hset, happ⟩
    · rw [ha]
      simp only [Option.bind_some]
      rw [if_pos (by decide), if_pos trivial, law06Its_eq d (by omega) hd2]
      simp only [Option.bind_some]
      rw [ref06Same_self d (by omega) hd2]; rfl
    · rw [ha]
      simp only [Option.bind_some]
      have hu := used_le d.nodes
      obtain ⟨hlen, hml, hother, hat, hused⟩ : k < m.length ∧ m.length ≤ 1000 ∧ (∀ j (h : j < d.nodes.length), j ≠ k → gt m (j : Int) = some d.nodes[j]) ∧ gt m (k : Int) = some n ∧ used m = used d.nodes + 1 := by
        rcases Nat.lt_or_ge k d.nodes.length with hlt | hge
        · obtain ⟨h0, rfl⟩ := hset hlt
          refine ⟨by simpa using hlt, by simp; omega, fun j h hj => ?_, ?_, used_set _ _ g3 _ hlt h0⟩
          · rw [gt_nat (by simpa using h), List.getElem_set_ne (by omega)]
          · rw [gt_nat (by simpa using hlt), List.getElem_set_self]
        · obtain rfl : k = d.nodes.length := by omega
          obtain rfl := happ rfl
          refine ⟨by simp, by simp; omega, fun j h hj => ?_, ?_, used_app _ _ g3⟩
          · rw [gt_nat (by simp; omega), List.getElem_append_left h]
          · rw [gt_nat (by simp), List.getElem_append_right (by omega)]; simp
      have l7 : iterN (law06DiskAdds_b7 (k : Int) d.nodes d.most d.room n.kind n.modeF n.owner n.links n.openF n.up n.data n.names m d.most d.room) LF (0 : Int) = some (.inr (.inr (k : Int))) := by
        refine iter_eq (fun i a => a = (i : Int)) k _ ?_ ?_ (lt_LF (by omega)) rfl
        · rintro i a hi rfl
          left
          unfold law06DiskAdds_b7
          have hkn : (d.nodes[i]'(by omega)).kind ≠ 0 := hfree i (by omega) hi
          have e : ((d.nodes[i]'(by omega)).kind == 0) = false := by simp [hkn]
          exact ⟨_, by simp only [lt_true hi, lt_true (show i < d.nodes.length by omega), cond_true, gt_nat (show i < d.nodes.length by omega), Option.bind_some, e, cond_false] <;> rfl, w64_succ (by omega)⟩
        · rintro a rfl
          unfold law06DiskAdds_b7
          simp only [lt_false, cond_false]
      have l14 : iterN (law06DiskAdds_b14 (k : Int) d.nodes d.most d.room n.kind n.modeF n.owner n.links n.openF n.up n.data n.names m d.most d.room) LF (0 : Int) = some (.inr (d.nodes.length : Int)) := by
        refine iter_eq (fun i a => a = (i : Int)) d.nodes.length _ ?_ ?_ (lt_LF (by omega)) rfl
        · rintro i a hi rfl
          left
          unfold law06DiskAdds_b14
          have hn1 := hd2 _ (List.getElem_mem hi)
          by_cases hik : i = k
          · have e : ((i : Int) != (k : Int)) = false := by simp [hik]
            exact ⟨_, by simp only [lt_true hi, cond_true, e, cond_false] <;> rfl, w64_succ (by omega)⟩
          · have e : ((i : Int) != (k : Int)) = true := by simp; omega
            exact ⟨_, by simp only [lt_true hi, cond_true, e, hother i hi hik, gt_nat hi, Option.bind_some, law06Node_eq _ hn1, ref06Alike_self _ hn1, Bool.not_true, cond_false] <;> rfl, w64_succ (by omega)⟩
        · rintro a rfl
          unfold law06DiskAdds_b14
          simp only [lt_false, cond_false]
      rw [if_neg (by simp), l7]
      simp only [Option.bind_some]
      have hn2 : n.names.length ≤ 1000 := by omega
      have fin : ((gt m (k : Int)).bind fun y_5 => (law06Node y_5).bind fun r_9 => (law06Node n).bind fun r_10 => (ref06Alike r_9 r_10).bind fun r_11 => bif r_11 then ((diskUsed ⟨m, d.most, d.room⟩).bind fun r_12 => (law06Its d).bind fun r_13 => (ref06Used r_13).bind fun r_14 => some (decide (r_12 = (w64 (r_14 + (1 : Int)))))) else some false) = some true := by
        have e : w64 ((used d.nodes : Int) + 1) = ((used d.nodes + 1 : Nat) : Int) := w64_succ (by omega)
        simp only [hat, Option.bind_some, law06Node_eq n hn2, ref06Alike_self n hn2, cond_true, diskUsed_eq ⟨m, d.most, d.room⟩ hml, law06Its_eq d (by omega) hd2, ref06Used_eq d (by omega), hused, e, decide_true]
      have n1 : ¬ ((k : Int) > (d.nodes.length : Int)) := by omega
      have n2 : ¬ ((k : Int) ≥ (m.length : Int)) := by omega
      by_cases hlt : k < d.nodes.length
      · rw [if_pos (by omega), gt_nat hlt]
        simp only [Option.bind_some]
        rw [if_neg (by simp [(hset hlt).1]), if_neg n1, if_neg n2, l14]
        exact fin
      · rw [if_neg (by omega), if_neg n1, if_neg n2, l14]
        exact fin
end Go.Proofs.Ytfllhakmjookkaa.Den
