/- Disks: what the functions answer, in plain words. -/
import Derived.Test.YtfllhakmjookkaaDenF2
import Derived.Test.YtfllhakmjookkaaPl
import Derived.Test.YtfllhakmjookkaaDiskO
set_option linter.unusedVariables false
set_option linter.unusedSimpArgs false
namespace Go.Proofs.Ytfllhakmjookkaa.Den
open Go Go.RowKit

theorem law06Node_eq (n : NodeD) (hn : n.names.length ≤ 1000) : law06Node n = some n := by
  unfold law06Node
  have hl : ∃ b, iterN (law06Node_b3 n.kind n.modeF n.owner n.links n.openF n.up n.data n.names n.kind n.modeF n.owner n.links n.openF n.up n.data) LF ((0 : Int), []) = some b ∧
      ((∃ v, b = .inl v ∧ n.names = []) ∨ ∃ v z t, b = .inr (v, z, t) ∧ n.names = z :: t) := by
    refine iter_inv (fun i a => a.1 = (i : Int) ∧ a.2 = n.names.take i) n.names.length _ ?_ ?_ (lt_LF (by omega)) ⟨rfl, by simp⟩
    · rintro i ⟨v0, v1⟩ hi ⟨h1, h2⟩
      simp only at h1 h2
      subst h1
      left
      unfold law06Node_b3
      have hlt : decide ((i : Int) < (n.names.length : Int)) = true := by simp; omega
      rcases v1 with _ | ⟨z, t⟩
      · obtain rfl := take_nil hi h2.symm
        refine ⟨_, by simp only [hlt, cond_true, gt_nat hi, Option.bind_some] <;> rfl, ?_, ?_⟩
        · simpa using w64_succ (i := 0) (by omega)
        · rw [List.take_succ_eq_append_getElem hi]; simp
      · have hlen : (z :: t).length = i := by rw [h2, List.length_take]; omega
        refine ⟨_, by simp only [hlt, cond_true, gt_nat hi, Option.bind_some, grd_pos (room_lo (n := (z :: t).length + 1) (b := 24) (by omega) (by omega))] <;> rfl, ?_, ?_⟩
        · simpa using w64_succ (i := i) (by omega)
        · exact (take_cons hi h2.symm).symm
    · rintro ⟨v0, v1⟩ ⟨h1, h2⟩
      simp only [List.take_length] at h1 h2
      subst h1
      unfold law06Node_b3
      have hlt : decide ((n.names.length : Int) < (n.names.length : Int)) = false := by simp
      rcases v1 with _ | ⟨z, t⟩
      · exact ⟨_, by simp only [hlt, cond_false] <;> rfl, .inl ⟨_, rfl, h2.symm⟩⟩
      · exact ⟨_, by simp only [hlt, cond_false] <;> rfl, .inr ⟨_, _, _, rfl, h2.symm⟩⟩
  obtain ⟨b, h1, h2⟩ := hl
  rw [h1]
  rcases h2 with ⟨v, rfl, h⟩ | ⟨v, z, t, rfl, h⟩
  · simp only [Option.bind_some, ← h]
  · simp only [Option.bind_some, ← h]
def okN (n : NodeD) : Prop := n.names.length ≤ 1000
theorem law06Its_eq (d : DiskD) (hl : d.nodes.length ≤ 1000) (hd : ∀ n ∈ d.nodes, n.names.length ≤ 1000) : law06Its d = some d := by
  unfold law06Its
  have hl : ∃ b, iterN (law06Its_b3 d.nodes d.most d.room d.most d.room) LF ((0 : Int), []) = some b ∧
      ((∃ v, b = .inl v ∧ d.nodes = []) ∨ ∃ v z t, b = .inr (v, z, t) ∧ d.nodes = z :: t) := by
    refine iter_inv (fun i a => a.1 = (i : Int) ∧ a.2 = d.nodes.take i) d.nodes.length _ ?_ ?_ (lt_LF (by omega)) ⟨rfl, by simp⟩
    · rintro i ⟨v0, v1⟩ hi ⟨h1, h2⟩
      simp only at h1 h2
      subst h1
      left
      unfold law06Its_b3
      have hlt : decide ((i : Int) < (d.nodes.length : Int)) = true := by simp; omega
      have hn := law06Node_eq d.nodes[i] (hd _ (List.getElem_mem hi))
      rcases v1 with _ | ⟨z, t⟩
      · obtain rfl := take_nil hi h2.symm
        refine ⟨_, by simp only [hlt, cond_true, gt_nat hi, Option.bind_some, hn] <;> rfl, ?_, ?_⟩
        · simpa using w64_succ (i := 0) (by omega)
        · rw [List.take_succ_eq_append_getElem hi]; simp
      · have hlen : (z :: t).length = i := by rw [h2, List.length_take]; omega
        refine ⟨_, by simp only [hlt, cond_true, gt_nat hi, Option.bind_some, hn, grd_pos (room_lo (n := (z :: t).length + 1) (b := 88) (by omega) (by omega))] <;> rfl, ?_, ?_⟩
        · simpa using w64_succ (i := i) (by omega)
        · exact (take_cons hi h2.symm).symm
    · rintro ⟨v0, v1⟩ ⟨h1, h2⟩
      simp only [List.take_length] at h1 h2
      subst h1
      unfold law06Its_b3
      have hlt : decide ((d.nodes.length : Int) < (d.nodes.length : Int)) = false := by simp
      rcases v1 with _ | ⟨z, t⟩
      · exact ⟨_, by simp only [hlt, cond_false] <;> rfl, .inl ⟨_, rfl, h2.symm⟩⟩
      · exact ⟨_, by simp only [hlt, cond_false] <;> rfl, .inr ⟨_, _, _, rfl, h2.symm⟩⟩
  obtain ⟨b, h1, h2⟩ := hl
  rw [h1]
  rcases h2 with ⟨v, rfl, h⟩ | ⟨v, z, t, rfl, h⟩
  · simp only [Option.bind_some, ← h]
  · simp only [Option.bind_some, ← h]
/-- What is not too much to look at. -/
structure Fine (d : DiskD) : Prop where
  len : d.nodes.length ≤ 100
  data : ∀ n ∈ d.nodes, n.data.size ≤ 300
  names : ∀ n ∈ d.nodes, n.names.length ≤ 60
theorem law06Big_eq (d : DiskD) : ∃ b, law06Big d = some b ∧ (b = false → Fine d) := by
  unfold law06Big
  have hl : ∃ b, iterN (law06Big_b2 d.nodes d.most d.room) LF (0 : Int) = some b ∧
      ((∃ v y, b = .inl (v, y)) ∨ (∃ v y z, b = .inr (.inl (v, y, z))) ∨ ∃ v, (b = .inr (.inr (.inl v)) ∨ b = .inr (.inr (.inr v))) ∧ (d.nodes.length ≤ 100 → ∀ j (h : j < d.nodes.length), d.nodes[j].data.size ≤ 300 ∧ d.nodes[j].names.length ≤ 60)) := by
    refine iter_inv (fun i a => a = (i : Int) ∧ i ≤ d.nodes.length ∧ ∀ j (h : j < d.nodes.length), j < i → d.nodes[j].data.size ≤ 300 ∧ d.nodes[j].names.length ≤ 60) (min d.nodes.length 110) _ ?_ ?_ (lt_LF (by omega)) ⟨rfl, by omega, fun j _ h => absurd h (by omega)⟩
    · rintro i v0 hi ⟨rfl, hle, h2⟩
      have hi : i < d.nodes.length := by omega
      unfold law06Big_b2
      have hlt : decide ((i : Int) < (d.nodes.length : Int)) = true := by simp; omega
      simp only [hlt, cond_true, gt_nat hi, Option.bind_some]
      cases h110 : decide ((i : Int) < (110 : Int)) with
      | false =>
        simp only [decide_eq_false_iff_not] at h110
        simp only [cond_false]
        exact .inr ⟨_, rfl, .inr (.inr ⟨_, .inl rfl, fun h => by omega⟩)⟩
      | true =>
        simp only [cond_true]
        cases hs : decide (((d.nodes[i]).data.size : Int) > (300 : Int)) with
        | true => simp only [cond_true]; exact .inr ⟨_, rfl, .inl ⟨_, _, rfl⟩⟩
        | false =>
          simp only [cond_false]
          cases hn : decide (((d.nodes[i]).names.length : Int) > (60 : Int)) with
          | true => simp only [cond_true]; exact .inr ⟨_, rfl, .inr (.inl ⟨_, _, _, rfl⟩)⟩
          | false =>
            simp only [cond_false]
            simp only [decide_eq_false_iff_not] at hs hn
            refine .inl ⟨_, rfl, w64_succ (by omega), by omega, fun j hj hji => ?_⟩
            rcases Nat.lt_or_ge j i with h | h
            · exact h2 j hj h
            · obtain rfl : j = i := by omega
              exact ⟨by omega, by omega⟩
    · rintro v0 ⟨rfl, hle, h2⟩
      unfold law06Big_b2
      rcases Nat.lt_or_ge 110 d.nodes.length with hm | hm
      · have hlt : decide (((min d.nodes.length 110 : Nat) : Int) < (d.nodes.length : Int)) = true := by simp; omega
        have h110 : decide (((min d.nodes.length 110 : Nat) : Int) < (110 : Int)) = false := by simp; omega
        simp only [hlt, h110, cond_true, cond_false]
        exact ⟨_, rfl, .inr (.inr ⟨_, .inl rfl, fun h => by omega⟩)⟩
      · have e : min d.nodes.length 110 = d.nodes.length := by omega
        rw [e] at h2 ⊢
        have hlt : decide ((d.nodes.length : Int) < (d.nodes.length : Int)) = false := by simp
        simp only [hlt, cond_false]
        exact ⟨_, rfl, .inr (.inr ⟨_, .inr rfl, fun _ j hj => h2 j hj hj⟩)⟩
  obtain ⟨b, h1, h2⟩ := hl
  rw [h1]
  have fin : (d.nodes.length ≤ 100 → ∀ j (h : j < d.nodes.length), d.nodes[j].data.size ≤ 300 ∧ d.nodes[j].names.length ≤ 60) → decide ((d.nodes.length : Int) > (100 : Int)) = false → Fine d := by
    intro h hb
    simp only [decide_eq_false_iff_not] at hb
    have hle : d.nodes.length ≤ 100 := by omega
    refine ⟨hle, fun n hn => ?_, fun n hn => ?_⟩ <;> obtain ⟨j, hj, rfl⟩ := List.mem_iff_getElem.1 hn
    · exact (h hle j hj).1
    · exact (h hle j hj).2
  rcases h2 with ⟨v, y, rfl⟩ | ⟨v, y, z, rfl⟩ | ⟨v, hv, h⟩
  · exact ⟨_, rfl, fun h => by cases h⟩
  · exact ⟨_, rfl, fun h => by cases h⟩
  · rcases hv with rfl | rfl
    · exact ⟨_, rfl, fin h⟩
    · exact ⟨_, rfl, fin h⟩
theorem between_eq (n a b : Int) : diskBetween n a b = some (decide (a ≤ n ∧ n ≤ b)) := by
  unfold diskBetween
  by_cases h : a ≤ n <;> simp [h]
/-- A new disk. -/
def newD (most room mode : Int) : DiskD := if (1 ≤ most ∧ most ≤ 100) ∧ (0 ≤ room ∧ room ≤ 1000) ∧ (0 ≤ mode ∧ mode ≤ 63) then ⟨[⟨2, mode, 0, 1, 0, 0, ⟨#[]⟩, []⟩], most, room⟩ else ⟨[], 0, 0⟩
theorem diskNew_eq (most room mode : Int) : diskNew most room mode = some (newD most room mode) := by
  unfold diskNew newD
  simp only [between_eq, Option.bind_some]
  by_cases h1 : 1 ≤ most ∧ most ≤ 100 <;> by_cases h2 : 0 ≤ room ∧ room ≤ 1000 <;> by_cases h3 : 0 ≤ mode ∧ mode ≤ 63 <;> simp [h1, h2, h3]
theorem ref06New_eq (most room mode : Int) : ref06New most room mode = some (newD most room mode) := by
  unfold ref06New newD
  have c : ∀ (p : Prop) [Decidable p] (x y : Option DiskD), (bif decide p then x else y) = if p then x else y := fun p _ x y => by by_cases h : p <;> simp [h]
  simp only [c]
  repeat' split
  all_goals first | rfl | (exfalso; omega)
theorem ref05Same_self (l : List Ent) (hl : l.length ≤ 1000) : ref05Same l l = some true := by
  unfold ref05Same
  have h0 : ((l.length : Int) != (l.length : Int)) = false := by simp
  rw [h0, cond_false]
  have : ∃ v, iterN (ref05Same_b4 l l) LF (0 : Int) = some (.inr v) := by
    obtain ⟨b, h1, v, rfl⟩ := iter_inv (f := ref05Same_b4 l l) (fun i a => a = (i : Int)) l.length (fun b => ∃ v, b = .inr v) (by
      rintro i v0 hi rfl
      left
      unfold ref05Same_b4
      have hlt : decide ((i : Int) < (l.length : Int)) = true := by simp; omega
      exact ⟨_, by simp only [hlt, cond_true, gt_nat hi, Option.bind_some, seq_self]; simp, w64_succ (by omega)⟩) (by
      rintro v0 rfl
      unfold ref05Same_b4
      have hlt : decide ((l.length : Int) < (l.length : Int)) = false := by simp
      exact ⟨_, by simp only [hlt, cond_false] <;> rfl, _, rfl⟩) (lt_LF (by omega)) (a := (0 : Int)) rfl
    exact ⟨v, h1⟩
  obtain ⟨v, h⟩ := this
  rw [h]; rfl
theorem ref06Alike_self (n : NodeD) (h : n.names.length ≤ 1000) : ref06Alike n n = some true := by
  unfold ref06Alike
  simp [seq_self, ref05Same_self _ h]
theorem ref06Same_self (d : DiskD) (hl : d.nodes.length ≤ 1000) (hd : ∀ n ∈ d.nodes, n.names.length ≤ 1000) : ref06Same d d = some true := by
  unfold ref06Same
  have h0 : ((d.nodes.length : Int) != (d.nodes.length : Int)) = false := by simp
  have h1 : (d.most != d.most) = false := by simp
  have h2 : (d.room != d.room) = false := by simp
  rw [h0, h1, h2, cond_false, cond_false, cond_false]
  have : ∃ v, iterN (ref06Same_b4 d.nodes d.most d.room d.nodes d.most d.room) LF (0 : Int) = some (.inr v) := by
    obtain ⟨b, h1, v, rfl⟩ := iter_inv (f := ref06Same_b4 d.nodes d.most d.room d.nodes d.most d.room) (fun i a => a = (i : Int)) d.nodes.length (fun b => ∃ v, b = .inr v) (by
      rintro i v0 hi rfl
      left
      unfold ref06Same_b4
      have hlt : decide ((i : Int) < (d.nodes.length : Int)) = true := by simp; omega
      exact ⟨_, by simp only [hlt, cond_true, gt_nat hi, Option.bind_some, ref06Alike_self _ (hd _ (List.getElem_mem hi))]; simp, w64_succ (by omega)⟩) (by
      rintro v0 rfl
      unfold ref06Same_b4
      have hlt : decide ((d.nodes.length : Int) < (d.nodes.length : Int)) = false := by simp
      exact ⟨_, by simp only [hlt, cond_false] <;> rfl, _, rfl⟩) (lt_LF (by omega)) (a := (0 : Int)) rfl
    exact ⟨v, h1⟩
  obtain ⟨v, h⟩ := this
  rw [h]; rfl
/-- How many nodes are used. -/
def used (l : List NodeD) : Nat := (l.filter fun n => n.kind != 0).length
theorem used_le (l : List NodeD) : used l ≤ l.length := List.length_filter_le _ _
theorem used_take (l : List NodeD) {i : Nat} (hi : i < l.length) : used (l.take (i + 1)) = used (l.take i) + (if l[i].kind = 0 then 0 else 1) := by
  unfold used
  rw [List.take_succ_eq_append_getElem hi, List.filter_append, List.length_append]
  by_cases h : l[i].kind = 0 <;> simp [h]
theorem ref06Used_eq (d : DiskD) (hl : d.nodes.length ≤ 1000) : ref06Used d = some (used d.nodes : Int) := by
  unfold ref06Used
  rw [iter_eq (fun i a => a = ((used (d.nodes.take i) : Int), (i : Int))) d.nodes.length ((used d.nodes : Int), (d.nodes.length : Int)) (by
    rintro i ⟨v0, v1⟩ hi h
    cases h
    left
    unfold ref06Used_b3
    have hlt : decide ((i : Int) < (d.nodes.length : Int)) = true := by simp; omega
    have hu := used_le (d.nodes.take i)
    rw [List.length_take] at hu
    have hut := used_take d.nodes hi
    simp only [hlt, cond_true, gt_nat hi, Option.bind_some, w64_succ (i := i) (by omega)]
    by_cases hk : d.nodes[i].kind = 0
    · rw [if_pos hk] at hut
      exact ⟨_, by simp [hk] <;> rfl, by rw [hut]; simp⟩
    · rw [if_neg hk] at hut
      have : (d.nodes[i].kind != 0) = true := by simp [hk]
      refine ⟨_, by simp only [this, cond_true, w64_succ (i := used (d.nodes.take i)) (by omega)] <;> rfl, by rw [hut]⟩) (by
    rintro ⟨v0, v1⟩ h
    cases h
    unfold ref06Used_b3
    have hlt : decide ((d.nodes.length : Int) < (d.nodes.length : Int)) = false := by simp
    simp only [hlt, cond_false, List.take_length]) (lt_LF (by omega)) (by simp [used])]
  rfl
theorem diskUsed_eq (d : DiskD) (hl : d.nodes.length ≤ 1000) : diskUsed d = some (used d.nodes : Int) := by
  unfold diskUsed diskDiskSum
  rw [iter_eq (fun i a => a = ((used (d.nodes.take i) : Int), (i : Int))) d.nodes.length ((used d.nodes : Int), (d.nodes.length : Int)) (by
    rintro i ⟨v0, v1⟩ hi h
    cases h
    left
    unfold diskDiskSum_b2 diskUsed1
    have hlt : decide ((i : Int) < (d.nodes.length : Int)) = true := by simp; omega
    have hu := used_le (d.nodes.take i)
    rw [List.length_take] at hu
    have hut := used_take d.nodes hi
    simp only [hlt, cond_true, gt_nat hi, Option.bind_some, w64_succ (i := i) (by omega)]
    by_cases hk : d.nodes[i].kind = 0
    · rw [if_pos hk] at hut
      have h1 : (d.nodes[i].kind == 0) = true := by simp [hk]
      refine ⟨_, by simp only [h1, cond_true, Option.bind_some] <;> rfl, ?_⟩
      rw [hut, Nat.add_zero, Int.add_zero, w64_eq (by omega) (by omega)] <;> rfl
    · rw [if_neg hk] at hut
      have h1 : (d.nodes[i].kind == 0) = false := by simp [hk]
      refine ⟨_, by simp only [h1, cond_false, Option.bind_some] <;> rfl, ?_⟩
      rw [hut, w64_succ (i := used (d.nodes.take i)) (by omega)]) (by
    rintro ⟨v0, v1⟩ h
    cases h
    unfold diskDiskSum_b2
    have hlt : decide ((d.nodes.length : Int) < (d.nodes.length : Int)) = false := by simp
    simp only [hlt, cond_false, List.take_length]) (lt_LF (by omega)) (by simp [used])]
  rfl
/-- How many bytes a node takes. -/
def weight (n : NodeD) : Nat := if n.kind = 1 ∨ n.kind = 3 then n.data.size else 0
def bytesN (l : List NodeD) : Nat := (l.map weight).sum
theorem bytes_take (l : List NodeD) {i : Nat} (hi : i < l.length) : bytesN (l.take (i + 1)) = bytesN (l.take i) + weight l[i] := by
  unfold bytesN
  rw [List.take_succ_eq_append_getElem hi, List.map_append, List.sum_append]; simp
theorem bytes_le (l : List NodeD) (h : ∀ n ∈ l, n.data.size ≤ 1000) : bytesN l ≤ 1000 * l.length := by
  induction l with
  | nil => simp [bytesN]
  | cons n l ih =>
    have h1 := ih fun m hm => h m (List.mem_cons_of_mem _ hm)
    have h2 := h n (by simp)
    have h3 : weight n ≤ 1000 := by unfold weight; split <;> omega
    have : bytesN (n :: l) = weight n + bytesN l := by simp [bytesN]
    rw [this, List.length_cons]; omega
theorem weight_eq (n : NodeD) : ref06Weight n = some (weight n : Int) := by
  unfold ref06Weight weight
  by_cases h1 : n.kind = 1
  · simp [h1]
  · by_cases h3 : n.kind = 3
    · simp [h3]
    · have e1 : (n.kind == 1) = false := by simp [h1]
      have e3 : (n.kind == 3) = false := by simp [h3]
      simp [bne, e1, e3, h1, h3]
theorem nodeBytes_eq (n : NodeD) : diskNodeBytes n = some (weight n : Int) := by
  unfold diskNodeBytes weight
  by_cases h1 : n.kind = 1
  · simp [h1]
  · by_cases h3 : n.kind = 3
    · simp [h3]
    · have e1 : (n.kind == 1) = false := by simp [h1]
      have e3 : (n.kind == 3) = false := by simp [h3]
      simp [bne, e1, e3, h1, h3]
theorem ref06Bytes_eq (d : DiskD) (hl : d.nodes.length ≤ 1000) (hd : ∀ n ∈ d.nodes, n.data.size ≤ 1000) : ref06Bytes d = some (bytesN d.nodes : Int) := by
  unfold ref06Bytes
  rw [iter_eq (fun i a => a = ((bytesN (d.nodes.take i) : Int), (i : Int))) d.nodes.length ((bytesN d.nodes : Int), (d.nodes.length : Int)) (by
    rintro i ⟨v0, v1⟩ hi h
    cases h
    left
    unfold ref06Bytes_b3
    have hlt : decide ((i : Int) < (d.nodes.length : Int)) = true := by simp; omega
    have hu := bytes_le (d.nodes.take (i + 1)) fun n hn => hd n (List.mem_of_mem_take hn)
    have hut := bytes_take d.nodes hi
    rw [List.length_take] at hu
    refine ⟨_, by simp only [hlt, cond_true, gt_nat hi, Option.bind_some, weight_eq, w64_succ (i := i) (by omega)] <;> rfl, ?_⟩
    rw [hut, w64_eq (by omega) (by omega)]; simp) (by
    rintro ⟨v0, v1⟩ h
    cases h
    unfold ref06Bytes_b3
    have hlt : decide ((d.nodes.length : Int) < (d.nodes.length : Int)) = false := by simp
    simp only [hlt, cond_false, List.take_length]) (lt_LF (by omega)) (by simp [bytesN])]
  rfl
theorem diskBytes_eq (d : DiskD) (hl : d.nodes.length ≤ 1000) (hd : ∀ n ∈ d.nodes, n.data.size ≤ 1000) : diskBytes d = some (bytesN d.nodes : Int) := by
  unfold diskBytes diskDiskSum2
  rw [iter_eq (fun i a => a = ((bytesN (d.nodes.take i) : Int), (i : Int))) d.nodes.length ((bytesN d.nodes : Int), (d.nodes.length : Int)) (by
    rintro i ⟨v0, v1⟩ hi h
    cases h
    left
    unfold diskDiskSum2_b2
    have hlt : decide ((i : Int) < (d.nodes.length : Int)) = true := by simp; omega
    have hu := bytes_le (d.nodes.take (i + 1)) fun n hn => hd n (List.mem_of_mem_take hn)
    have hut := bytes_take d.nodes hi
    rw [List.length_take] at hu
    refine ⟨_, by simp only [hlt, cond_true, gt_nat hi, Option.bind_some, nodeBytes_eq, w64_succ (i := i) (by omega)] <;> rfl, ?_⟩
    rw [hut, w64_eq (by omega) (by omega)]; simp) (by
    rintro ⟨v0, v1⟩ h
    cases h
    unfold diskDiskSum2_b2
    have hlt : decide ((d.nodes.length : Int) < (d.nodes.length : Int)) = false := by simp
    simp only [hlt, cond_false, List.take_length]) (lt_LF (by omega)) (by simp [bytesN])]
  rfl
theorem DiskCounts_true (most room mode : Int) (d : DiskD) (hd : d.Ok) : law06DiskCounts most room mode d = some true := by
  unfold law06DiskCounts
  obtain ⟨b, hb, hf⟩ := law06Big_eq d
  rw [hb]
  simp only [Option.bind_some, shownX]
  cases b with
  | true => rfl
  | false =>
    have F := hf rfl
    have e1 : (newD most room mode).nodes.length ≤ 1000 ∧ ∀ n ∈ (newD most room mode).nodes, n.names.length ≤ 1000 := by
      unfold newD; split <;> simp
    have hn : ∀ n ∈ d.nodes, n.names.length ≤ 1000 := fun n h => Nat.le_trans (F.names n h) (by omega)
    have hd1 : ∀ n ∈ d.nodes, n.data.size ≤ 1000 := fun n h => Nat.le_trans (F.data n h) (by omega)
    have hl : d.nodes.length ≤ 1000 := Nat.le_trans F.len (by omega)
    simp only [cond_false, Bool.not_true, diskNew_eq, ref06New_eq, law06Its_eq _ e1.1 e1.2, ref06Same_self _ e1.1 e1.2, Option.bind_some, cond_true, diskUsed_eq d hl, law06Its_eq d hl hn, ref06Used_eq d hl, diskBytes_eq d hl hd1, ref06Bytes_eq d hl hd1, beq_self_eq_true]
end Go.Proofs.Ytfllhakmjookkaa.Den
