/- Disks: what setting does. -/
import Derived.Test.YtfllhakmjookkaaDenF13
import Derived.Test.YtfllhakmjookkaaPlRight
set_option linter.unusedVariables false
set_option linter.unusedSimpArgs false
namespace Go.Proofs.Ytfllhakmjookkaa.Den
open Go Go.RowKit

theorem DiskSets_true (d : DiskD) (n : NodeD) (atF : Int) (hd : d.Ok) (hn : n.Ok) (ha : 0 ≤ atF ∧ atF ≤ 255) : law06DiskSets d n atF = some true := by
  unfold law06DiskSets
  obtain ⟨b, hb, hf⟩ := law06Big_eq d
  rw [hb]
  have em : IntKind.wrap .i64 atF = atF := w64_eq (by omega) (by omega)
  rw [em]
  simp only [Option.bind_some, shownX, Bool.not_true, cond_false]
  cases b with
  | true => rfl
  | false =>
    simp only [cond_false, bool_if, beqd, bned]
    by_cases g0 : (d.nodes.length : Int) = 0
    · rw [if_pos g0]
    by_cases g1 : (n.data.size : Int) > 300
    · rw [if_neg g0, if_pos g1]
    by_cases g2 : (n.names.length : Int) > 60
    · rw [if_neg g0, if_neg g1, if_pos g2]
    rw [if_neg g0, if_neg g1, if_neg g2, grd_pos g0]
    have F := hf rfl
    have hd2 : ∀ n ∈ d.nodes, n.names.length ≤ 1000 := fun n h => Nat.le_trans (F.names n h) (by omega)
    have hl : d.nodes.length ≤ 100 := F.len
    have hn2 : n.names.length ≤ 1000 := by omega
    obtain ⟨k, hk, hkl⟩ : ∃ k : Nat, Int.tmod atF (d.nodes.length : Int) = (k : Int) ∧ k < d.nodes.length := by
      refine ⟨atF.toNat % d.nodes.length, ?_, Nat.mod_lt _ (by omega)⟩
      rw [Int.tmod_eq_emod_of_nonneg ha.1]
      have : atF = (atF.toNat : Int) := by omega
      rw [this, Int.toNat_natCast]; rfl
    rw [hk, diskSet_eq d k n hkl (by omega)]
    have l9 : iterN (law06DiskSets_b9 (k : Int) d.nodes d.most d.room (d.nodes.set k n) d.most d.room) LF (0 : Int) = some (.inr (d.nodes.length : Int)) := by
      refine iter_eq (fun i a => a = (i : Int)) d.nodes.length _ ?_ ?_ (lt_LF (by omega)) rfl
      · rintro i a hi rfl
        left
        unfold law06DiskSets_b9
        have hn1 := hd2 _ (List.getElem_mem hi)
        by_cases hik : i = k
        · have e : ((i : Int) != (k : Int)) = false := by simp [hik]
          exact ⟨_, by simp only [lt_true hi, cond_true, e, cond_false] <;> rfl, w64_succ (by omega)⟩
        · have e : ((i : Int) != (k : Int)) = true := by simp; omega
          have hg : gt (d.nodes.set k n) (i : Int) = some d.nodes[i] := by rw [gt_nat (by simpa using hi), List.getElem_set_ne (by omega)]
          exact ⟨_, by simp only [lt_true hi, cond_true, e, hg, gt_nat hi, Option.bind_some, law06Node_eq _ hn1, ref06Alike_self _ hn1, Bool.not_true, cond_false] <;> rfl, w64_succ (by omega)⟩
      · rintro a rfl
        unfold law06DiskSets_b9
        simp only [lt_false, cond_false]
    have hget : getP (d.nodes.set k n) (k : Int) = if n.kind = 0 then (zeroN, false) else (n, true) := by
      unfold getP
      rw [dif_pos (by simp; omega)]
      simp only [Int.toNat_natCast, List.getElem_set_self]
    simp only [Option.bind_some]
    rw [diskGet_eq ⟨d.nodes.set k n, d.most, d.room⟩ k (by simp; omega)]
    simp only [Option.bind_some, hget, List.length_set, l9]
    by_cases hk0 : n.kind = 0
    · simp [hk0]
    · have e : decide (n.kind ≠ 0) = true := by simp [hk0]
      simp [hk0, law06Node_eq n hn2, ref06Alike_self n hn2]
end Go.Proofs.Ytfllhakmjookkaa.Den
