/- Texts joined by a program of mine (pack.py): Rep. -/
import Derived.Test.YtdbekeidlppfiaaGreatDoorEnt2
import Derived.Test.YtdbekeidlppfiaaGreatDoorShelf
import Derived.Lib.MakeNoZero
set_option linter.unusedVariables false
set_option linter.unusedSimpArgs false
namespace Go.Proofs.YtdbekeidlppfiaaGreatDoor.Den
open Go Go.RowKit Go.Shelf
theorem szB : (Tryz.prog.info? 5).map (·.size) = some 1 := by kernel_rfl
theorem undBs' : Tryz.prog.underlying 304 = some (.slice 5) := by kernel_rfl
abbrev z8 : Value := .int .u8 0
def InvR (w : World) (cs : Array Value) (n : Nat) (i : Value) (wr : World) : Prop := ∃ k : Nat, 1 ≤ k ∧ k ≤ n ∧ i = .int .i64 k ∧ ∃ cur, Row wr w.heap.size 5 cur ∧ cur.length = cs.size ∧ cur.take k = List.replicate k z8 ∧ Below w.heap.size w wr
theorem InvR.step {w : World} {cs : Array Value} {n k m : Nat} {wr w' : World} {cur : List Value} (hk1 : 1 ≤ k) (hm : k + m ≤ n) (hn : n ≤ cs.size) (hcl : cur.length = cs.size) (htk : cur.take k = List.replicate k z8) (hbw : Below w.heap.size w wr) (hlt : w.heap.size < wr.heap.size)
  (HW : Row w' w.heap.size 5 (splice cur k (List.replicate m z8))) (HG : wr.drew.grownBy w' (some w.heap.size)) : InvR w cs n (.int .i64 ((k + m : Nat) : Int)) w' := by
 refine ⟨k + m, by omega, hm, rfl, _, HW, by rw [length_splice _ _ _ (by simp; omega)]; exact hcl, ?_, Below.grown (w := wr.drew) (hbw.trans ⟨rfl, rfl, rfl, Nat.le_refl _, fun _ _ => rfl⟩) HG (by show w.heap.size ≤ wr.heap.size; omega) (fun j hj => by cases hj; simp)⟩
 unfold splice
 rw [htk, ← List.append_assoc, List.replicate_append_replicate, List.take_append_of_le_length (by simp), List.take_of_length_le (by simp)]
set_option maxHeartbeats 4000000 in
set_option maxRecDepth 100000 in
theorem repeat_ok (a : Addr) (c0 n : Nat) (h1 : 1 ≤ n) (hn : n ≤ 1000000) (w : World) (hc : w.cell? a = some z8) :
    Calls Tryz.prog 258 #[.slice (some a) 1 c0, .int .i64 n] w fun e w' => ∃ g, e = .returned (.slice (some ⟨g, 0, none⟩) n n) ∧ w.heap.size ≤ g ∧ Below w.heap.size w w' ∧ ∀ j, j < n → w'.cell? ⟨g, j, none⟩ = some z8 := by
  have hhi : ((1 * n / 18446744073709551616 : Nat) : Int) = 0 := by omega
  have hlo : ((1 * n % 18446744073709551616 : Nat) : Int) = (n : Int) := by omega
  have hn0 : ¬ (n : Int) = 0 := by omega
  have hn1 : ¬ (n : Int) < 0 := by omega
  have hw0 : IntKind.u64.wrap (n : Int) = n := by
    have e1 : (2 : Int) ^ 64 = 18446744073709551616 := by decide
    simp only [IntKind.wrap, IntKind.bits, IntKind.signed, e1, Bool.false_and, Bool.false_eq_true, if_false]
    omega
  have hw1 : IntKind.i64.wrap (n : Int) = n := by
    have e1 : (2 : Int) ^ 64 = 18446744073709551616 := by decide
    have e2 : (2 : Int) ^ (64 - 1) = 9223372036854775808 := by decide
    simp only [IntKind.wrap, IntKind.bits, IntKind.signed, e1, e2, Bool.true_and, decide_eq_true_eq]
    split <;> omega
  obtain ⟨cs, hrun, hle, hmax⟩ := Lib.run_makeNoZero (P := Tryz.prog) w #[3] 304 5 undBs' n (by omega)
  have hext := @run_callFunc_extern Tryz.prog 282 _ (Extern.BytealgMakeNoZero.makeNoZero #[3] #[304]) Tryz.func282 (by kernel_rfl) (by kernel_rfl) (by kernel_rfl) (by kernel_rfl)
  have hmul : ∀ W : World, Calls Tryz.prog 130 #[.int .u64 1, .int .u64 (n : Int)] W fun e w' => e = .returned (.tuple #[.int .u64 0, .int .u64 (n : Int)]) ∧ w' = W := fun W => (Tryz.bits_Mul 1 n (by omega) (by omega) W).mono fun e w' h => by rw [← hhi, ← hlo]; rw [hlo]; exact ⟨by rw [h.1, hlo], h.2⟩
  have HROW : Row ((w.alloc (.cells cs 5)).drew.drew) w.heap.size 5 cs.toList := ⟨(show (w.alloc (.cells cs 5)).heap[w.heap.size]? = _ from heap_alloc_new w (.cells cs 5))⟩
  have hn1' : [z8].length = Nat.min 1 n * 1 := by rw [show Nat.min 1 n = 1 from Nat.min_eq_left h1]; rfl
  have hs1 : ∀ (j : Nat) (v : Value), [z8][j]? = some v → (w.alloc (.cells cs 5)).drew.drew.cell? (a.add j) = some v := by
    intro j v hj
    match j, hj with
    | 0, hj =>
      simp at hj; subst hj
      have e0 : a.add 0 = a := by cases a; simp [Addr.add]
      rw [e0]
      have hlt : a.block < w.heap.size := by
        rcases Nat.lt_or_ge a.block w.heap.size with h | h
        · exact h
        · simp [World.cell?, Array.getElem?_eq_none h] at hc
      exact (World.cell?_alloc_lt w _ a hlt).trans hc
    | j + 1, hj => simp at hj
  have hf1 : 0 + [z8].length ≤ cs.toList.length := by simp; omega
  have ho1 : ∀ v ∈ [z8], v.oneCell' = true := by intro v hv; simp at hv; subst hv; rfl
  have hstart : ∀ w1, Hid (Row w1 w.heap.size 5 (splice cs.toList 0 [z8])) → Hid (((w.alloc (.cells cs 5)).drew.drew).grownBy w1 (some w.heap.size)) → Hid (InvR w cs n (.int .i64 1) w1) := by
    intro w1 HW HG
    refine Lib.hid ⟨1, Nat.le_refl _, h1, rfl, _, HW.out, by rw [length_splice _ _ _ hf1]; simp, ?_, ?_⟩
    · simp [splice]
    · exact Below.grown (w := (w.alloc (.cells cs 5)).drew.drew) (((Below.refl _ w).alloc (Nat.le_refl _) (.cells cs 5)).trans ⟨rfl, rfl, rfl, Nat.le_refl _, fun _ _ => rfl⟩) HG.out (by show w.heap.size ≤ (w.alloc _).heap.size; simp) (fun k hk => by cases hk; simp)
  by_cases hbig : (8192 : Int) < n
  · go_enter Tryz.func258, Tryz.ntmps258
    go_wp2_with (first
      | (go_at_call 130; refine (hmul _).mono ?_)
      | (show wpList _ _ _ ({ dst := _, op := .call { callee := .builtin .copy, args := _, argTypes := _ }, type := _, pos := _, after := _, guard := _ } :: _) _ _
         refine wpList_copy_row rfl _ _ 304 304 rfl 5 1 undBs' szB w.heap.size 0 n n a 1 c0 rfl rfl cs.toList 5 HROW [z8] hn1' hs1 hf1 ho1 ?_))
    intro w1 HW1 HG1
    go_wp2
    have HK := hstart w1 HW1 HG1
    go_loopw [10] (fun i wr => Hid (InvR w cs n i wr)) (fun i _ => n - (intOf i).toNat)
    case atStart => exact HK
    case round =>
      obtain ⟨k, hk1, hkn, rfl, cur, HR, hcl, htk, hbw⟩ := hrel.out
      clear hrel
      have hsz := HR.lt
      have HR2 := Lib.hid HR.drew
      have HR3 := Lib.hid HR
      have HT := Lib.hid htk
      have HC := Lib.hid hcl
      clear HR htk hcl
      by_cases hlt : k < n
      · have hlt' : (k : Int) < (n : Int) := by omega
        have hkn' : (k : Int) ≤ (n : Int) := by omega
        have hkc : ¬ (n = k) := by omega
        by_cases hkM : k ≤ 8192
        · have hkM' : (k : Int) ≤ 8192 := by omega
          have hchk : k ≤ k := Nat.le_refl _
          have hmin : min (k : Int) 8192 = k := Int.min_eq_left hkM'
          have HSRC := Lib.hid (show ∀ j u, (List.replicate (Nat.min k (n - k)) z8)[j]? = some u → wr.drew.cell? ((⟨w.heap.size, 0, none⟩ : Addr).add j) = some u from fun j u hu => HR2.out.cellA 0 j u (by
            have hj : j < Nat.min k (n - k) := by have := (List.getElem?_eq_some_iff.1 hu).1; simpa using this
            have hjk : j < k := Nat.lt_of_lt_of_le hj (Nat.le_trans (Nat.min_le_left _ _) hchk)
            rw [List.getElem?_replicate, if_pos hj] at hu
            have h3 : (cur.take k)[j]? = some u := by rw [HT.out, List.getElem?_replicate, if_pos hjk]; exact hu
            rw [List.getElem?_take, if_pos hjk] at h3
            rw [Nat.zero_add]; exact h3))
          have hml : k + Nat.min k (n - k) ≤ n := Nat.le_trans (Nat.add_le_add_left (Nat.min_le_right _ _) k) (by omega)
          have hmc : 1 ≤ Nat.min k (n - k) := Nat.le_min.2 ⟨by omega, by omega⟩
          have HFIN := Lib.hid (fun w' (HW : Hid (Row w' w.heap.size 5 (splice cur k (List.replicate (Nat.min k (n - k)) z8)))) (HG : Hid (wr.drew.grownBy w' (some w.heap.size))) => Lib.hid (InvR.step hk1 hml hle HC.out HT.out hbw hsz HW.out HG.out))
          have HF := Lib.hid (show k + (List.replicate (Nat.min k (n - k)) z8).length ≤ cur.length by rw [List.length_replicate, HC.out]; exact Nat.le_trans hml hle)
          have HO := Lib.hid (show ∀ v ∈ List.replicate (Nat.min k (n - k)) z8, v.oneCell' = true from fun v hv => by rw [List.eq_of_mem_replicate hv]; rfl)
          obtain ⟨m, hm⟩ : ∃ m, Nat.min k (n - k) = m := ⟨_, rfl⟩
          have hw : IntKind.i64.wrap ((k : Int) + (m : Int)) = ((k + m : Nat) : Int) := by
            rw [hm] at hml
            rw [IntKind.wrap_i64]; omega
          go_wp2
          go_region_law (refine step_copy_row rfl _ _ 304 304 rfl 5 1 undBs' szB w.heap.size k (n - k) (n - k) ⟨w.heap.size, 0, none⟩ k n (by simp [Act.eval, Act.put]) (by simp [Act.eval, Act.put]) cur 5 HR2.out (List.replicate (Nat.min k (n - k)) z8) ?hn HSRC.out HF.out HO.out ?_; (case hn => simp); intro w2 HW2 HG2)
          have HI := HFIN w2 HW2 HG2
          rw [hm] at HI hmc
          try rw [hm]
          simp [Act.put, Act.eval, hm, hw, goInt]
          have e1 : ((k + m : Nat) : Int) = (k : Int) + (m : Int) := by omega
          rw [e1] at HI
          refine ⟨⟨_, _, _, _, _, _, _, _, _, _, _, _, _, _, _, _, _, HI, rfl⟩, ?_⟩
          simp [intOf]
          omega
        · have hkM' : ¬ (k : Int) ≤ 8192 := by omega
          have hchk : 8192 ≤ k := by omega
          have h8n : (8192 : Int) ≤ (n : Int) := by omega
          have hmin : min (k : Int) 8192 = 8192 := Int.min_eq_right (by omega)
          have HSRC := Lib.hid (show ∀ j u, (List.replicate (Nat.min 8192 (n - k)) z8)[j]? = some u → wr.drew.cell? ((⟨w.heap.size, 0, none⟩ : Addr).add j) = some u from fun j u hu => HR2.out.cellA 0 j u (by
            have hj : j < Nat.min 8192 (n - k) := by have := (List.getElem?_eq_some_iff.1 hu).1; simpa using this
            have hjk : j < k := Nat.lt_of_lt_of_le hj (Nat.le_trans (Nat.min_le_left _ _) hchk)
            rw [List.getElem?_replicate, if_pos hj] at hu
            have h3 : (cur.take k)[j]? = some u := by rw [HT.out, List.getElem?_replicate, if_pos hjk]; exact hu
            rw [List.getElem?_take, if_pos hjk] at h3
            rw [Nat.zero_add]; exact h3))
          have hml : k + Nat.min 8192 (n - k) ≤ n := Nat.le_trans (Nat.add_le_add_left (Nat.min_le_right _ _) k) (by omega)
          have hmc : 1 ≤ Nat.min 8192 (n - k) := Nat.le_min.2 ⟨by omega, by omega⟩
          have HFIN := Lib.hid (fun w' (HW : Hid (Row w' w.heap.size 5 (splice cur k (List.replicate (Nat.min 8192 (n - k)) z8)))) (HG : Hid (wr.drew.grownBy w' (some w.heap.size))) => Lib.hid (InvR.step hk1 hml hle HC.out HT.out hbw hsz HW.out HG.out))
          have HF := Lib.hid (show k + (List.replicate (Nat.min 8192 (n - k)) z8).length ≤ cur.length by rw [List.length_replicate, HC.out]; exact Nat.le_trans hml hle)
          have HO := Lib.hid (show ∀ v ∈ List.replicate (Nat.min 8192 (n - k)) z8, v.oneCell' = true from fun v hv => by rw [List.eq_of_mem_replicate hv]; rfl)
          obtain ⟨m, hm⟩ : ∃ m, Nat.min 8192 (n - k) = m := ⟨_, rfl⟩
          have hw : IntKind.i64.wrap ((k : Int) + (m : Int)) = ((k + m : Nat) : Int) := by
            rw [hm] at hml
            rw [IntKind.wrap_i64]; omega
          go_wp2
          go_region_law (refine step_copy_row rfl _ _ 304 304 rfl 5 1 undBs' szB w.heap.size k (n - k) (n - k) ⟨w.heap.size, 0, none⟩ 8192 n (by simp [Act.eval, Act.put]) (by simp [Act.eval, Act.put]) cur 5 HR2.out (List.replicate (Nat.min 8192 (n - k)) z8) ?hn HSRC.out HF.out HO.out ?_; (case hn => simp); intro w2 HW2 HG2)
          have HI := HFIN w2 HW2 HG2
          rw [hm] at HI hmc
          try rw [hm]
          simp [Act.put, Act.eval, hm, hw, goInt]
          have e1 : ((k + m : Nat) : Int) = (k : Int) + (m : Int) := by omega
          rw [e1] at HI
          refine ⟨⟨_, _, _, _, _, _, _, _, _, _, _, _, _, _, _, _, _, HI, rfl⟩, ?_⟩
          simp [intOf]
          omega
      · have hge : ¬ ((k : Int) < (n : Int)) := by omega
        obtain rfl : k = n := by omega
        go_wp2
        go_ret
        refine ⟨w.heap.size, rfl, Nat.le_refl _, hbw, fun j hj => ?_⟩
        rw [HR3.out.cell]
        have h3 : (cur.take k)[j]? = some z8 := by rw [HT.out, List.getElem?_replicate, if_pos hj]
        rw [List.getElem?_take, if_pos hj] at h3
        exact h3
  · have hsm : ¬ (8192 : Int) < n := hbig
    go_enter Tryz.func258, Tryz.ntmps258
    go_wp2_with (first
      | (go_at_call 130; refine (hmul _).mono ?_)
      | (show wpList _ _ _ ({ dst := _, op := .call { callee := .builtin .copy, args := _, argTypes := _ }, type := _, pos := _, after := _, guard := _ } :: _) _ _
         refine wpList_copy_row rfl _ _ 304 304 rfl 5 1 undBs' szB w.heap.size 0 n n a 1 c0 rfl rfl cs.toList 5 HROW [z8] hn1' hs1 hf1 ho1 ?_))
    intro w1 HW1 HG1
    go_wp2
    have HK := hstart w1 HW1 HG1
    go_loopw [10] (fun i wr => Hid (InvR w cs n i wr)) (fun i _ => n - (intOf i).toNat)
    case atStart => exact HK
    case round =>
      obtain ⟨k, hk1, hkn, rfl, cur, HR, hcl, htk, hbw⟩ := hrel.out
      clear hrel
      have hsz := HR.lt
      have HR2 := Lib.hid HR.drew
      have HR3 := Lib.hid HR
      have HT := Lib.hid htk
      have HC := Lib.hid hcl
      clear HR htk hcl
      by_cases hlt : k < n
      · have hlt' : (k : Int) < (n : Int) := by omega
        have hkn' : (k : Int) ≤ (n : Int) := by omega
        have hkc : ¬ (n = k) := by omega
        · have hchk : k ≤ k := Nat.le_refl _
          have hmin : min (k : Int) (n : Int) = k := Int.min_eq_left hkn'
          have HSRC := Lib.hid (show ∀ j u, (List.replicate (Nat.min k (n - k)) z8)[j]? = some u → wr.drew.cell? ((⟨w.heap.size, 0, none⟩ : Addr).add j) = some u from fun j u hu => HR2.out.cellA 0 j u (by
            have hj : j < Nat.min k (n - k) := by have := (List.getElem?_eq_some_iff.1 hu).1; simpa using this
            have hjk : j < k := Nat.lt_of_lt_of_le hj (Nat.le_trans (Nat.min_le_left _ _) hchk)
            rw [List.getElem?_replicate, if_pos hj] at hu
            have h3 : (cur.take k)[j]? = some u := by rw [HT.out, List.getElem?_replicate, if_pos hjk]; exact hu
            rw [List.getElem?_take, if_pos hjk] at h3
            rw [Nat.zero_add]; exact h3))
          have hml : k + Nat.min k (n - k) ≤ n := Nat.le_trans (Nat.add_le_add_left (Nat.min_le_right _ _) k) (by omega)
          have hmc : 1 ≤ Nat.min k (n - k) := Nat.le_min.2 ⟨by omega, by omega⟩
          have HFIN := Lib.hid (fun w' (HW : Hid (Row w' w.heap.size 5 (splice cur k (List.replicate (Nat.min k (n - k)) z8)))) (HG : Hid (wr.drew.grownBy w' (some w.heap.size))) => Lib.hid (InvR.step hk1 hml hle HC.out HT.out hbw hsz HW.out HG.out))
          have HF := Lib.hid (show k + (List.replicate (Nat.min k (n - k)) z8).length ≤ cur.length by rw [List.length_replicate, HC.out]; exact Nat.le_trans hml hle)
          have HO := Lib.hid (show ∀ v ∈ List.replicate (Nat.min k (n - k)) z8, v.oneCell' = true from fun v hv => by rw [List.eq_of_mem_replicate hv]; rfl)
          obtain ⟨m, hm⟩ : ∃ m, Nat.min k (n - k) = m := ⟨_, rfl⟩
          have hw : IntKind.i64.wrap ((k : Int) + (m : Int)) = ((k + m : Nat) : Int) := by
            rw [hm] at hml
            rw [IntKind.wrap_i64]; omega
          go_wp2
          go_region_law (refine step_copy_row rfl _ _ 304 304 rfl 5 1 undBs' szB w.heap.size k (n - k) (n - k) ⟨w.heap.size, 0, none⟩ k n (by simp [Act.eval, Act.put]) (by simp [Act.eval, Act.put]) cur 5 HR2.out (List.replicate (Nat.min k (n - k)) z8) ?hn HSRC.out HF.out HO.out ?_; (case hn => simp); intro w2 HW2 HG2)
          have HI := HFIN w2 HW2 HG2
          rw [hm] at HI hmc
          try rw [hm]
          simp [Act.put, Act.eval, hm, hw, goInt]
          have e1 : ((k + m : Nat) : Int) = (k : Int) + (m : Int) := by omega
          rw [e1] at HI
          refine ⟨⟨_, _, _, _, _, _, _, _, _, _, _, _, _, _, _, _, _, HI, rfl⟩, ?_⟩
          simp [intOf]
          omega
      · have hge : ¬ ((k : Int) < (n : Int)) := by omega
        obtain rfl : k = n := by omega
        go_wp2
        go_ret
        refine ⟨w.heap.size, rfl, Nat.le_refl _, hbw, fun j hj => ?_⟩
        rw [HR3.out.cell]
        have h3 : (cur.take k)[j]? = some z8 := by rw [HT.out, List.getElem?_replicate, if_pos hj]
        rw [List.getElem?_take, if_pos hj] at h3
        exact h3
end Go.Proofs.YtdbekeidlppfiaaGreatDoor.Den
