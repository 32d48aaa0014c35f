/- strings.ContainsAny(s, "/\x00") at every string. -/
import Derived.Test.YtfllhakmjookkaaKinds
import Derived.Test.YtfllhakmjookkaaShelf
import Derived.Test.YtfllhakmjookkaaRows
import Derived.WalkKit
import Derived.ProofKit
import Derived.Deep.QuietTactic
import Derived.BigQuiet
import Derived.Outline
import Derived.WalkLawsBesides
import Derived.WalkSpells
import Derived.Lib.Hide
import Derived.Laws.RangeAny
import Derived.Laws.Runes
import Derived.Deep.WholeRow
import Derived.Lib.OthersKept
set_option linter.unusedVariables false
set_option linter.unusedSimpArgs false
namespace Go.Proofs.Ytfllhakmjookkaa
open Go Go.RowKit
open Go.Lib (run_next_any_at run_next_end_at iterAt_heap iterAt_size below_iterAt)

def bad (c : UInt8) : Bool := c == 47 || c == 0
def hasBad (s : ByteArray) : Bool := s.data.toList.any bad
def badChars : ByteArray := ⟨#[47, 0]⟩
theorem idx_bad : ∀ n, n < 128 → Lib.indexByte [47, 0] (n.toUInt8) = if n = 47 then 0 else if n = 0 then 1 else -1 := by decide +kernel
theorem ixb_nil (c : Int) (w : World) : Calls Try.prog 90 #[.string ⟨#[]⟩, .int .u8 c] w fun e w' => e = .returned (.int .i64 (-1)) ∧ w' = w := Try.strings_IndexByte ⟨#[]⟩ c w
set_option maxRecDepth 100000 in
theorem idxr_any (r : Int) (hv : Utf8.valid r = true) (w : World) :
    Calls Try.prog 81 #[.string ⟨#[47, 0]⟩, .int .i32 r] w fun e w' => e = .returned (.int .i64 (if r = 47 then 0 else if r = 0 then 1 else -1)) ∧ Below w.heap.size w w' := by
  have hv0 : 0 ≤ r ∧ r ≤ 1114111 := by
    unfold Utf8.valid at hv; simp at hv; omega
  by_cases h128 : r < 128
  · refine (Try.strings_IndexRune_ascii ⟨#[47, 0]⟩ r w hv0.1 h128).mono ?_
    rintro e w' ⟨rfl, rfl⟩
    obtain ⟨n, rfl⟩ := Int.eq_ofNat_of_zero_le hv0.1
    have := idx_bad n (by omega)
    refine ⟨?_, Below.refl _ _⟩
    rw [Int.toNat_natCast, show (⟨#[47, 0]⟩ : ByteArray).data.toList = [47, 0] from rfl, this]
    by_cases h1 : n = 47
    · rw [if_pos h1, if_pos (by omega)]
    · by_cases h2 : n = 0
      · rw [if_neg h1, if_pos h2, if_neg (by omega), if_pos (by omega)]
      · rw [if_neg h1, if_neg h2, if_neg (by omega), if_neg (by omega)]
  · have e1 : (if r = 47 then (0 : Int) else if r = 0 then 1 else -1) = -1 := by rw [if_neg (by omega), if_neg (by omega)]
    rw [e1]
    have t1 : decide (r < 128) = false := by simpa using h128
    have t0 : decide ((0 : Int) ≤ r) = true := by simpa using hv0.1
    by_cases hE : r = 65533
    · subst hE
      go_enter Try.func81, Try.ntmps81
      go_wp2
      go_loopw [] (fun w' => ∃ pos, pos ≤ 2 ∧ w' = w.iter ⟨#[47, 0]⟩ pos) (fun w' => 2 - w'.iterPos w.heap.size)
      case atStart => exact ⟨0, by omega, rfl⟩
      case round =>
        obtain ⟨pos, hp, rfl⟩ := hrel
        rcases (by omega : pos = 0 ∨ pos = 1 ∨ pos = 2) with rfl | rfl | rfl
        · have hnx : ∀ ty, (Instr.next (.pointer (some ⟨w.heap.size, 0, none⟩)) true ty).run Try.prog (w.iter ⟨#[47, 0]⟩ 0) = .ok (.tuple #[.bool true, .int .i64 0, .int .i32 47]) (w.iter ⟨#[47, 0]⟩ 1) := fun ty => run_next_any w ⟨#[47, 0]⟩ 0 ty (by decide)
          go_wp2
          go_roundw
          case rel => exact ⟨1, by omega, rfl⟩
          case measure => simp
        · have hnx : ∀ ty, (Instr.next (.pointer (some ⟨w.heap.size, 0, none⟩)) true ty).run Try.prog (w.iter ⟨#[47, 0]⟩ 1) = .ok (.tuple #[.bool true, .int .i64 1, .int .i32 0]) (w.iter ⟨#[47, 0]⟩ 2) := fun ty => run_next_any w ⟨#[47, 0]⟩ 1 ty (by decide)
          go_wp2
          go_roundw
          case rel => exact ⟨2, by omega, rfl⟩
          case measure => simp
        · have hnx : ∀ ty, (Instr.next (.pointer (some ⟨w.heap.size, 0, none⟩)) true ty).run Try.prog (w.iter ⟨#[47, 0]⟩ 2) = .ok (.tuple #[.bool false]) (w.iter ⟨#[47, 0]⟩ 2) := fun ty => run_next_end w ⟨#[47, 0]⟩ 2 ty (by decide)
          go_wp2
          go_ret
          exact ⟨rfl, balloc _ _⟩
    · obtain ⟨hs2, hs4, hl⟩ := Go.encode_facts r hv (by omega)
      have tE : (r == 65533) = false := beq_eq_false_iff_ne.2 hE
      have tV : Lib.validRune r = true := by unfold Lib.validRune; unfold Utf8.valid at hv; simp at hv ⊢; omega
      generalize hes : Utf8.encode r = es at *
      go_enter Try.func81, Try.ntmps81
      go_wp2_with fail
      refine (Try.utf8_ValidRune r _).mono ?_
      rintro e w' ⟨rfl, rfl⟩
      rw [tV]
      have hlast := hl (by omega)
      clear hl
      have HL := Lib.hid hlast
      clear hlast
      by_cases h2 : es.size = 2
      · obtain ⟨a, b, rfl⟩ : ∃ a b, es = ⟨#[a, b]⟩ := by
          obtain ⟨⟨l⟩⟩ := es
          match l, h2 with
          | [a, b], _ => exact ⟨a, b, rfl⟩
        have hb : 128 ≤ b.toNat := HL.out
        clear HL hs2 hs4 h2
        have tb : ((0 : Int) != (b.toNat : Int)) = true := by rw [bne_iff_ne]; omega
        have tb2 : ((((⟨#[47, 0]⟩ : ByteArray)[1]'(by decide)).toNat : Int) != (((⟨#[a, b]⟩ : ByteArray)[1]'(by show 1 < 2; omega)).toNat : Int)) = true := tb
        go_wp2
        go_step3
        go_wp2
        go_loop [9] (fun i => i = .int .i64 1) (fun _ => 0)
        case atStart => rfl
        case round =>
          obtain rfl := hrel
          go_wp2
          go_step3
          go_wp2
          go_quiet (fail)
          have hB := Lib.hid (bdrawn w' nq)
          generalize w'.drewN nq = w2 at hB ⊢
          have hw2 : IntKind.i64.wrap (1 + 1) = 2 := by decide
          have hsl : ∀ wx, (Instr.slice 9 (.string ⟨#[47, 0]⟩) (some (.int .i64 2)) none none).run Try.prog wx = .ok (.string ⟨#[]⟩) wx := fun _ => by kernel_rfl
          go_wp2
          go_quiet ((go_at_call 90; exact Calls.quiet_of_same (ixb_nil _ _)))
          go_wp2
          rw [Exit.noGoto_ret]
          go_wp2
          rw [Exit.noGoto_ret]
          go_wp2
          go_ret
          exact ⟨rfl, bthen hB.out (bdrawn _ _)⟩
      · have h3 : 3 ≤ es.size := by omega
        clear HL h2 hs2
        go_wp2
        go_step3
        go_wp2
        go_loop [9] (fun i => i = .int .i64 ((es.size : Int) - 1)) (fun _ => 0)
        case atStart => rfl
        case round =>
          obtain rfl := hrel
          go_wp2
          go_ret
          exact ⟨rfl, Below.refl _ _⟩

/-! ### Reading runes: what is passed over is never one of the two -/
theorem decode_valid (s : ByteArray) (pos : Nat) : Utf8.valid ((Utf8.decode s pos).1 : Int) = true := by
  unfold Utf8.decode
  simp only []
  have hlt := (s.get! (pos + 0)).toNat_lt
  repeat' split
  all_goals simp_all [Utf8.valid, Utf8.runeError]
  all_goals omega
theorem decode_cont (s : ByteArray) (pos k : Nat) (h0 : 0 < k) (hk : k < (Utf8.decode s pos).2) : pos + k < s.size ∧ (s.get! (pos + k)).toNat / 64 = 2 := by
  unfold Utf8.decode at hk
  simp only [] at hk
  split at hk
  · simp at hk; omega
  · split at hk
    · rename_i h; simp at h
      split at hk
      · obtain rfl : k = 1 := by simp at hk; omega
        exact ⟨h.2.1, h.2.2⟩
      · simp at hk; omega
    · split at hk
      · rename_i h; simp at h
        split at hk
        · rcases (by simp at hk; omega : k = 1 ∨ k = 2) with rfl | rfl
          · exact ⟨h.1.2.1, h.1.2.2⟩
          · exact ⟨h.2.1, h.2.2⟩
        · simp at hk; omega
      · split at hk
        · rename_i h; simp at h
          split at hk
          · rcases (by simp at hk; omega : k = 1 ∨ k = 2 ∨ k = 3) with rfl | rfl | rfl
            · exact ⟨h.1.1.2.1, h.1.1.2.2⟩
            · exact ⟨h.1.2.1, h.1.2.2⟩
            · exact ⟨h.2.1, h.2.2⟩
          · simp at hk; omega
        · simp at hk; omega
def NoBad (s : ByteArray) (pos : Nat) : Prop := ∀ j (h : j < s.size), j < pos → bad s[j] = false
theorem get_eq (s : ByteArray) (j : Nat) (h : j < s.size) : s.get! j = s[j] := by
  simp [ByteArray.get!, getElem!_pos, h]; rfl
theorem noBad_high {s : ByteArray} {pos : Nat} (h : NoBad s pos) (hp : pos < s.size) (hh : 128 ≤ s[pos].toNat) : NoBad s (pos + (Utf8.decode s pos).2) := by
  intro j hj hlt
  by_cases h1 : j < pos
  · exact h j hj h1
  · by_cases h2 : j = pos
    · subst h2
      simp [bad]
      constructor <;> (intro e; rw [e] at hh; simp at hh)
    · obtain ⟨k, rfl⟩ : ∃ k, j = pos + k := ⟨j - pos, by omega⟩
      have := (decode_cont s pos k (by omega) (by omega)).2
      rw [get_eq s _ hj] at this
      simp [bad]
      constructor <;> (intro e; rw [e] at this; simp at this)
theorem noBad_step {s : ByteArray} {pos : Nat} (h : NoBad s pos) (hp : pos < s.size) (hb : bad s[pos] = false) : NoBad s (pos + 1) := by
  intro j hj hlt
  by_cases h1 : j < pos
  · exact h j hj h1
  · obtain rfl : j = pos := by omega
    exact hb
theorem hasBad_of {s : ByteArray} {pos : Nat} (hp : pos < s.size) (hb : bad s[pos] = true) : hasBad s = true := by
  unfold hasBad
  rw [List.any_eq_true]
  exact ⟨s[pos], by simp; exact Array.getElem_mem _, hb⟩
theorem hasBad_not {s : ByteArray} (h : NoBad s s.size) : hasBad s = false := by
  unfold hasBad
  rw [List.any_eq_false]
  intro x hx
  obtain ⟨j, hj, rfl⟩ := List.mem_iff_getElem.1 hx
  have hj' : j < s.size := by simpa using hj
  have h1 := h j hj' hj'
  have h2 : bad s.data.toList[j] = false := by rw [Array.getElem_toList]; exact h1
  rw [h2]; simp
theorem bad_int (c : UInt8) : bad c = ((c.toNat : Int) == 47 || (c.toNat : Int) == 0) := by
  unfold bad
  rw [Bool.eq_iff_iff]
  simp [← UInt8.toNat_inj]
  omega
def IdxTells (s : ByteArray) (w : World) (e : Ending) (w' : World) : Prop := ∃ r : Int, e = .returned (.int .i64 r) ∧ decide (0 ≤ r) = hasBad s ∧ Below w.heap.size w w'
set_option maxRecDepth 100000 in
theorem indexAny_any (s : ByteArray) (hs : s.size ≤ maxLen) (w : World) :
    Calls Try.prog 75 #[.string s, .string ⟨#[47, 0]⟩] w (IdxTells s w) := by
  unfold maxLen at hs
  by_cases h8 : 8 < s.size
  · have t8 : decide ((8 : Int) < (s.size : Int)) = true := by simp; omega
    have hv116 : ∀ w, (zeroValue 112).run Try.prog w = .ok (.agg (Array.replicate 256 (.bool false))) w := fun w => by kernel_rfl
    have hsc : (storeCells ⟨w.heap.size + 1, 0, none⟩ (Lib.setCells [47, 0]).toList 0).run Try.prog ((w.alloc (.cells (Lib.setCells [47, 0]) 112)).alloc (.cells (Array.replicate 256 (.bool false)) 112)) = .ok () ((w.alloc (.cells (Lib.setCells [47, 0]) 112)).alloc (.cells (Lib.setCells [47, 0]) 112)) := by
      have := run_storeCells_new (P := Try.prog) (w.alloc (.cells (Lib.setCells [47, 0]) 112)) 112 (Array.replicate 256 (.bool false)) (Lib.setCells [47, 0]) (by rw [Lib.setCells_size]; kernel_rfl) (by rw [Lib.setCells_size, Array.size_replicate]) (Lib.setCells_one _)
      simpa using this
    have hsz := Lib.setCells_size [47, 0]
    have HC := Lib.hid (show ∀ x : UInt8, ((w.alloc (.cells (Lib.setCells [47, 0]) 112)).alloc (.cells (Lib.setCells [47, 0]) 112)).cell? ⟨w.heap.size + 1, x.toNat, none⟩ = some (.bool (bad x)) from fun x => by
      rw [World.cell?_alloc_at _ _ _ _ (by simp), Lib.setCells_at]
      congr 2
      rw [Bool.eq_iff_iff]; simp [bad])
    have h0 : NoBad s 0 := fun j h hj => by omega
    have H0 := Lib.hid h0
    clear h0
    have HEND := Lib.hid (@hasBad_not s)
    have HST := Lib.hid (fun (pos : Nat) (hp : pos < s.size) => @hasBad_of s pos hp)
    unfold IdxTells
    generalize hasBad s = B at *
    go_enter Try.func75, Try.ntmps75
    go_wp2_with fail
    refine (Try.strings_shouldUseASCIISet _ _).mono ?_
    rintro e w' ⟨rfl, rfl⟩
    rw [t8]
    go_wp2_with fail
    refine (Try.strings_makeASCIISet hv116 ⟨#[47, 0]⟩ _ (by decide) (by intro j b hj; rcases j with _ | _ | j <;> simp at hj <;> subst hj <;> decide)).mono ?_
    rintro e w1 ⟨rfl, rfl⟩
    go_wp2
    clear hsc hv116
    go_loop [8] (fun i => ∃ k : Nat, k ≤ s.size ∧ i = .int .i64 k ∧ NoBad s k) (fun i => s.size - (intOf i).toNat)
    case atStart => exact ⟨0, by omega, rfl, H0.out⟩
    case round =>
      obtain ⟨k, hk, rfl, hno⟩ := hrel
      by_cases hlt : k < s.size
      · have hcx := HC.out s[k]
        cases hb : bad s[k]
        · rw [hb] at hcx
          have HN := Lib.hid (noBad_step hno hlt hb)
          clear hno hb
          go_wp2_with fail
          refine (Try.asciiSet_contains _ _ _ _ hcx).mono ?_
          rintro e w2 ⟨rfl, rfl⟩
          go_wp2
          go_round
          case rel => exact ⟨k + 1, by omega, by go_num, HN.out⟩
          case measure => simp [intOf]; omega
        · rw [hb] at hcx
          have HB := Lib.hid (HST.out k hlt hb)
          clear hno hb
          go_wp2_with fail
          refine (Try.asciiSet_contains _ _ _ _ hcx).mono ?_
          rintro e w2 ⟨rfl, rfl⟩
          go_wp2
          go_ret
          exact ⟨_, rfl, by rw [HB.out]; simp, bthen (balloc _ _) (balloc _ _)⟩
      · obtain rfl : k = s.size := by omega
        have HB := Lib.hid (HEND.out hno)
        clear hno
        go_wp2
        go_ret
        exact ⟨_, rfl, by rw [HB.out]; rfl, bthen (balloc _ _) (balloc _ _)⟩
  · have t8 : decide ((8 : Int) < (s.size : Int)) = false := by simp; omega
    have h0 : NoBad s 0 := fun j h hj => by omega
    have H0 := Lib.hid h0
    clear h0
    have HEND := Lib.hid (@hasBad_not s)
    have HST := Lib.hid (fun (pos : Nat) (hp : pos < s.size) => @hasBad_of s pos hp)
    unfold IdxTells
    generalize hasBad s = B at *
    go_enter Try.func75, Try.ntmps75
    go_wp2_with fail
    refine (Try.strings_shouldUseASCIISet _ _).mono ?_
    rintro e w0 ⟨rfl, rfl⟩
    rw [t8]
    go_wp2
    go_loopw [] (fun wr => ∃ pos : Nat, wr.heap[w0.heap.size]? = some (.stringIter s pos) ∧ NoBad s pos ∧ Below w0.heap.size w0 wr) (fun wr => s.size - wr.iterPos w0.heap.size)
    case atStart => exact ⟨0, World.iter_heap w0 s 0, H0.out, balloc _ _⟩
    case round =>
      obtain ⟨pos, hit, hno, hbel⟩ := hrel
      have hip := iterPos_of hit
      by_cases hlt : pos < s.size
      · have hnx : ∀ ty, (Instr.next (.pointer (some ⟨w0.heap.size, 0, none⟩)) true ty).run Try.prog wr = _ := fun ty => run_next_any_at wr w0.heap.size s pos ty hit hlt
        have hva := decode_valid s pos
        have hwd : 1 ≤ (Utf8.decode s pos).2 := by
          by_cases ha : s[pos].toNat < 128
          · rw [decode_ascii s pos hlt ha]; exact Nat.le_refl _
          · exact (decode_high s pos hlt (by omega)).2
        have hnext := iterAt_heap wr w0.heap.size s pos (pos + (Utf8.decode s pos).2) hit
        have hbn := below_iterAt hbel (Nat.le_refl _) s (pos + (Utf8.decode s pos).2)
        have hsz2 := iterAt_size wr w0.heap.size s (pos + (Utf8.decode s pos).2)
        have hlt2 : w0.heap.size < wr.heap.size := (Array.getElem?_eq_some_iff.1 hit).1
        by_cases hc : (Utf8.decode s pos).1 = 47 ∨ (Utf8.decode s pos).1 = 0
        · have hB := HST.out pos hlt (by
            by_cases ha : s[pos].toNat < 128
            · rw [decode_ascii s pos hlt ha] at hc
              rw [bad_int]
              simp only [Bool.or_eq_true, beq_iff_eq]; simp only at hc; omega
            · have := (decode_high s pos hlt (by omega)).1
              omega)
          have HB := Lib.hid hB
          clear hB
          have ht : ∃ q : Int, 0 ≤ q ∧ (if ((Utf8.decode s pos).1 : Int) = 47 then (0 : Int) else if ((Utf8.decode s pos).1 : Int) = 0 then 1 else -1) = q := by
            rcases hc with h | h
            · exact ⟨0, by omega, by rw [if_pos (by omega)]⟩
            · exact ⟨1, by omega, by rw [if_neg (by omega), if_pos (by omega)]⟩
          obtain ⟨q, hq, hqe⟩ := ht
          have HQ := Lib.hid hqe
          clear hqe hc
          have HV := Lib.hid hva
          have HNX := Lib.hid hnext
          have HBN := Lib.hid hbn
          have HS2 := Lib.hid hsz2
          have HI := Lib.hid hip
          clear hva hnext hbn hsz2 hno hbel hit hip
          go_wp2_with fail
          refine (idxr_any _ HV.out _).mono ?_
          rintro e w2 ⟨rfl, hb2⟩
          rw [HQ.out]
          go_wp2
          go_ret
          exact ⟨_, rfl, by rw [HB.out]; simp, bthen HBN.out hb2⟩
        · have hn : NoBad s (pos + (Utf8.decode s pos).2) := by
            by_cases ha : s[pos].toNat < 128
            · rw [decode_ascii s pos hlt ha] at hc ⊢
              refine noBad_step hno hlt ?_
              rw [bad_int]
              simp only [Bool.or_eq_false_iff, beq_eq_false_iff_ne]; simp only at hc; omega
            · exact noBad_high hno hlt (by omega)
          have HN := Lib.hid hn
          have hqe : (if ((Utf8.decode s pos).1 : Int) = 47 then (0 : Int) else if ((Utf8.decode s pos).1 : Int) = 0 then 1 else -1) = -1 := by rw [if_neg (by omega), if_neg (by omega)]
          have HQ := Lib.hid hqe
          clear hqe hc hn
          have HV := Lib.hid hva
          have HNX := Lib.hid hnext
          have HBN := Lib.hid hbn
          have HS2 := Lib.hid hsz2
          have HI := Lib.hid hip
          clear hva hnext hbn hsz2 hno hbel hit hip
          go_wp2_with fail
          refine (idxr_any _ HV.out _).mono ?_
          rintro e w2 ⟨rfl, hb2⟩
          rw [HQ.out]
          have hit2 := (hb2.block w0.heap.size (by rw [HS2.out]; exact hlt2)).trans HNX.out
          have HIT := Lib.hid hit2
          have HIP := Lib.hid (iterPos_of hit2)
          have HW := Lib.hid hwd
          clear hit2 hwd
          go_wp2
          go_roundw
          case rel => exact ⟨_, HIT.out, HN.out, bthen HBN.out hb2⟩
          case measure => rw [HIP.out, HI.out]; have := HW.out; omega
      · have hnx : ∀ ty, (Instr.next (.pointer (some ⟨w0.heap.size, 0, none⟩)) true ty).run Try.prog wr = _ := fun ty => run_next_end_at wr w0.heap.size s pos ty hit hlt
        have HB := Lib.hid (HEND.out (fun j hj hlt => hno j hj (by omega)))
        have Hbel := Lib.hid hbel
        clear hno hbel hip hit
        go_wp2
        go_ret
        exact ⟨_, rfl, by rw [HB.out]; rfl, Hbel.out⟩

theorem containsAny_any (s : ByteArray) (hs : s.size ≤ maxLen) (w : World) :
    Calls Try.prog 68 #[.string s, .string ⟨#[47, 0]⟩] w fun e w' => e = .returned (.bool (hasBad s)) ∧ Below w.heap.size w w' := by
  generalize hB : hasBad s = B
  have HB := Lib.hid hB
  clear hB
  go_enter Try.func68, Try.ntmps68
  go_wp2_with fail
  refine (indexAny_any s hs _).mono ?_
  rintro e w' ⟨r, rfl, hr, hb⟩
  rw [HB.out] at hr
  have HR := Lib.hid hr
  clear hr
  go_wp2
  go_ret
  exact ⟨ret_bool HR.out, hb⟩
end Go.Proofs.Ytfllhakmjookkaa
