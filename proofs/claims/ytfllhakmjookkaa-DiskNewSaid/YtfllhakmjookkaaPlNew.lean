/- Disks: a new disk, filled. -/
import Derived.Test.YtfllhakmjookkaaPlAdd
set_option linter.unusedVariables false
set_option linter.unusedSimpArgs false
namespace Go.Proofs.Ytfllhakmjookkaa.Den
open Go Go.RowKit

def rootN : NodeD := ⟨2, 63, 0, 1, 0, 0, ⟨#[]⟩, []⟩
def fileN (data : ByteArray) : NodeD := ⟨1, 0, 0, 0, 0, 0, data, []⟩
def full (data : ByteArray) (i : Nat) : List NodeD := rootN :: List.replicate i (fileN data)
theorem full_len (data : ByteArray) (i : Nat) : (full data i).length = i + 1 := by simp [full]
theorem full_used (data : ByteArray) (i : Nat) : used (full data i) = i + 1 := by
  unfold used full
  rw [List.filter_eq_self.2 ?_]
  · simp
  · intro n hn
    rcases List.mem_cons.1 hn with rfl | hn
    · rfl
    · rw [(List.mem_replicate.1 hn).2]; rfl
theorem full_bytes (data : ByteArray) (i : Nat) : bytesN (full data i) = i * data.size := by
  unfold bytesN full
  rw [List.map_cons, List.map_replicate, List.sum_cons, List.sum_replicate_nat]
  simp [weight, rootN, fileN]
theorem full_succ (data : ByteArray) (i : Nat) : full data (i + 1) = full data i ++ [fileN data] := by
  unfold full
  rw [List.replicate_succ', List.cons_append]
theorem full_kind (data : ByteArray) (i : Nat) : ∀ j (h : j < (full data i).length), (full data i)[j].kind ≠ 0 := by
  intro j h
  have := List.getElem_mem h
  rcases List.mem_cons.1 this with e | hn
  · rw [e]; simp [rootN]
  · rw [(List.mem_replicate.1 hn).2]; simp [fileN]
theorem rootOk : rootN.Ok := ⟨(by kernel_rfl : (Lit.int .i64 2).wf = true), (by kernel_rfl : (Lit.int .i64 63).wf = true), (by kernel_rfl : (Lit.int .i64 0).wf = true), (by kernel_rfl : (Lit.int .i64 1).wf = true), (by kernel_rfl : (Lit.int .i64 0).wf = true), (by kernel_rfl : (Lit.int .i64 0).wf = true), Nat.zero_le _, Nat.zero_le _, fun y hy => by cases hy⟩
theorem root_size : rootN.data.size = 0 := rfl
theorem newRight (N K : Int) (hN : 1 ≤ N) (hK : 0 ≤ K) : diskRight ⟨[rootN], N, K⟩ = some true := by
  obtain ⟨b, h1, h2⟩ := diskRight_eq ⟨[rootN], N, K⟩ (by simp) (fun n hn => by obtain rfl := List.mem_singleton.1 hn; exact ⟨rootOk, by simp [rootN], by rw [root_size]; omega⟩)
  rw [h1]
  have : b = true := h2.2 ⟨⟨by simp, by simp [rootN], by simpa using hN, by simpa [bytesN, weight, rootN] using hK⟩, by simp [rootN], fun j hj => by
    obtain rfl : j = 0 := by simpa using hj
    have e : allF ((0 : Nat) : Int) 0 (0, 0) [rootN] = (0, 0) := rfl
    simp only [e]
    unfold lookD shapeB tailB
    have s : seq (⟨#[]⟩ : ByteArray) ⟨#[]⟩ = true := by simp [seq]
    simp [rootN, s, sortedE, sortedF]⟩
  rw [this]
theorem DiskNew_true (most room : Int) (data : ByteArray) (hm : 0 ≤ most ∧ most ≤ 255) (hr : 0 ≤ room ∧ room ≤ 255) : law06DiskNew most room data = some true := by
  unfold law06DiskNew
  have em : IntKind.wrap .i64 most = most := w64_eq (by omega) (by omega)
  have er : IntKind.wrap .i64 room = room := w64_eq (by omega) (by omega)
  rw [em, er]
  have ht : Int.tmod most 20 = most % 20 := Int.tmod_eq_emod_of_nonneg hm.1
  have hN0 : w64 (1 + Int.tmod most 20) = 1 + most % 20 := by rw [ht, w64_eq (by omega) (by omega)]
  rw [hN0]
  obtain ⟨N, hN⟩ : ∃ N, N = 1 + most % 20 := ⟨_, rfl⟩
  rw [← hN]
  have hN1 : 1 ≤ N := by omega
  have hN2 : N ≤ 20 := by omega
  simp only [bool_if, shownX, Option.bind_some, Bool.not_true, cond_false]
  by_cases g1 : (data.size : Int) > 40
  · rw [if_pos g1]
  rw [if_neg g1]
  have hnew : diskNew N room 63 = some ⟨[rootN], N, room⟩ := by
    rw [diskNew_eq, newD, if_pos (by omega)]; rfl
  have hu : diskUsed ⟨[rootN], N, room⟩ = some 1 := by rw [diskUsed_eq _ (by simp)]; rfl
  have hb : diskBytes ⟨[rootN], N, room⟩ = some 0 := by rw [diskBytes_eq _ (by simp) (fun n hn => by obtain rfl := List.mem_singleton.1 hn; rw [root_size]; omega)]; rfl
  simp only [hnew, newRight N room hN1 hr.1, hu, hb, Option.bind_some, Bool.not_true, cond_false, bne_self_eq_false]
  obtain ⟨b, h1, h2⟩ := iter_inv (f := law06DiskNew_b10 data N room) (fun i a => a = ((i : Int), (i : Int), full data i, N, room) ∧ (i : Int) + 1 ≤ N) 20
    (fun b => (∃ v, b = .inl v) ∨ ∃ i : Nat, ∃ x y z, b = .inr (.inl ((i : Int), x, y, z)) ∧ i ≤ 25 ∧ ((i : Int) + 1) * (data.size : Int) > room) (by
      rintro i a hi ⟨rfl, hiN⟩
      unfold law06DiskNew_b10
      have h25 : decide ((i : Int) < 25) = true := by simp; omega
      have hw : weight (fileN data) = data.size := by simp [weight, fileN]
      have hs : i * data.size ≤ 25 * 40 := Nat.mul_le_mul (by omega) (by omega)
      have hs2 : (i + 1) * data.size = i * data.size + data.size := by rw [Nat.add_mul, Nat.one_mul]
      have ew : w64 ((i : Int) + 1) = ((i + 1 : Nat) : Int) := w64_succ (by omega)
      simp only [h25, cond_true, ew]
      have hmul : (((i + 1 : Nat) : Int)) * (data.size : Int) = (((i + 1) * data.size : Nat) : Int) := by simp
      rcases diskAdd_eq ⟨full data i, N, room⟩ (fileN data) (by simp only [full_len]; omega) (by
          intro n hn
          rcases List.mem_cons.1 hn with rfl | hn
          · rw [root_size]; omega
          · rw [(List.mem_replicate.1 hn).2]; simp only [fileN]; omega) (by simp only [fileN]; omega) (by simp [fileN]) with ⟨hfull, ha⟩ | ⟨hu, hbb, k, m, ha, hk, _, hset, happ⟩
      · right
        simp only [full_used, full_bytes, hw] at hfull
        have ha' : diskAdd ⟨full data i, N, room⟩ (NodeD.mk 1 0 0 0 0 0 data []) = some (⟨full data i, N, room⟩, 0, 10) := ha
        rw [ha']
        have e1 : ((10 : Int) != 0) = true := rfl
        have e2 : ((10 : Int) == 10) = true := rfl
        have e3 : w64 (1 + (i : Int)) = ((i + 1 : Nat) : Int) := by rw [w64_eq (by omega) (by omega)]; omega
        simp only [Option.bind_some, e1, e2, e3, cond_true]
        by_cases hq : ((i + 1 : Nat) : Int) = N
        · have e4 : (((i + 1 : Nat) : Int) == N) = true := by rw [hq]; simp
          rw [e4]
          exact ⟨_, rfl, .inl ⟨_, rfl⟩⟩
        · have e4 : (((i + 1 : Nat) : Int) == N) = false := by simpa using hq
          rw [e4]
          exact ⟨_, rfl, .inr ⟨i, _, _, _, rfl, by omega, by
            have : ((i : Int) + 1) * (data.size : Int) = (((i + 1) * data.size : Nat) : Int) := by simp
            rw [this]; omega⟩⟩
      · left
        simp only [full_used, full_bytes, hw, full_len] at hu hbb hk hset happ
        obtain rfl : k = i + 1 := by
          rcases Nat.lt_or_ge k (i + 1) with h | h
          · exact absurd (hset h).1 (full_kind data i k _)
          · omega
        have hm2 : m = full data (i + 1) := by rw [happ rfl, full_succ]
        subst hm2
        have ha' : diskAdd ⟨full data i, N, room⟩ (NodeD.mk 1 0 0 0 0 0 data []) = some (⟨full data (i + 1), N, room⟩, ((i + 1 : Nat) : Int), 0) := ha
        rw [ha']
        have e1 : ((0 : Int) != 0) = false := rfl
        have e2 : (((i + 1 : Nat) : Int) != ((i + 1 : Nat) : Int)) = false := by simp
        have e3 : w64 (1 + ((i + 1 : Nat) : Int)) = ((i + 1 + 1 : Nat) : Int) := by rw [w64_eq (by omega) (by omega)]; omega
        have e4 : (((i + 1 + 1 : Nat) : Int) != ((i + 1 + 1 : Nat) : Int)) = false := by simp
        have e5 : w64 (((i + 1 : Nat) : Int) * (data.size : Int)) = (((i + 1) * data.size : Nat) : Int) := by rw [hmul, w64_eq (by omega) (by omega)]
        have e6 : ((((i + 1) * data.size : Nat) : Int) != (((i + 1) * data.size : Nat) : Int)) = false := by simp
        have e7 : decide (((i + 1 + 1 : Nat) : Int) > N) = false := by simp; omega
        have hle : (((i + 1) * data.size : Nat) : Int) ≤ room := by rw [hs2]; exact hbb
        have e8 : decide ((((i + 1) * data.size : Nat) : Int) > room) = false := decide_eq_false (by omega)
        have hlen : (full data (i + 1)).length ≤ 1000 := by rw [full_len]; omega
        have hsz : ∀ n ∈ full data (i + 1), n.data.size ≤ 1000 := by
          intro n hn
          rcases List.mem_cons.1 hn with rfl | hn
          · rw [root_size]; omega
          · rw [(List.mem_replicate.1 hn).2]; simp only [fileN]; omega
        simp only [Option.bind_some, e1, e2, cond_false, diskUsed_eq ⟨full data (i + 1), N, room⟩ hlen, diskBytes_eq ⟨full data (i + 1), N, room⟩ hlen hsz, full_used, full_bytes, e3, e4, e5, e6, e7, e8]
        exact ⟨_, rfl, rfl, by omega⟩) (by
      rintro a ⟨rfl, h⟩
      omega) (lt_LF (by omega)) (a := ((0 : Int), (0 : Int), [rootN], N, room)) ⟨rfl, by omega⟩
  rw [h1]
  rcases h2 with ⟨v, rfl⟩ | ⟨i, x, y, z, rfl, hi, hgt⟩
  · rfl
  · simp only [Option.bind_some]
    have hs : (i + 1) * data.size ≤ 26 * 40 := Nat.mul_le_mul (by omega) (by omega)
    have hmul : ((i : Int) + 1) * (data.size : Int) = (((i + 1) * data.size : Nat) : Int) := by simp
    have ew : w64 ((i : Int) + 1) = (i : Int) + 1 := w64_eq (by omega) (by omega)
    rw [ew, hmul, w64_eq (by omega) (by omega)]
    rw [hmul] at hgt
    rw [decide_eq_true hgt]
theorem u8_le {a : Int} (h : (Lit.int .u8 a).wf = true) : 0 ≤ a ∧ a ≤ 255 := by
  simp only [Lit.wf, Bool.and_eq_true, decide_eq_true_eq] at h
  have h1 : IntKind.u8.min = 0 := rfl
  have h2 : IntKind.u8.max = 255 := rfl
  omega
end Go.Proofs.Ytfllhakmjookkaa.Den
