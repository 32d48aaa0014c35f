/- Ranges over a function: the parts of a path. -/
import Derived.Test.YtfjflodicgjihaaGreatDoorRoute
set_option linter.unusedVariables false
set_option linter.unusedSimpArgs false
namespace Go.Proofs.YtfjflodicgjihaaGreatDoor.Den
open Go Go.RowKit Go.Shelf

attribute [local go_sem] Oper.semAt_some

theorem emit_app : ∀ (pre l : List ByteArray) (a : Nat), emit a (pre ++ l) = emit a pre ++ emit (a + total pre) l
  | [], l, a => by simp [emit, total]
  | y :: t, l, a => by
    simp only [List.cons_append, emit, total]
    split
    · rename_i hy
      rw [emit_app t l (a + 1), hy]
      congr 2
      omega
    · rw [emit_app t l (a + y.size + 1), List.cons_append]
      congr 3
      omega
theorem emit_cons {x : ByteArray} (hx : x.size ≠ 0) (l : List ByteArray) (a : Nat) : emit a (x :: l) = (((a + x.size : Nat) : Int), x) :: emit (a + x.size + 1) l := by
  simp only [emit]; rw [if_neg hx]

set_option maxRecDepth 100000 in
set_option maxHeartbeats 4000000 in
theorem parts1_seq (n bq : Nat) (p : ByteArray) (hp : p.size < maxLen) (W : World) (hb : Boxed W bq 9 (.string p)) :
    SeqT n Tryz.prog 268 #[.pointer (some ⟨bq, 0, none⟩)] (fun x : Int × ByteArray => #[.int .i64 x.1, .string x.2]) (partsB p) (fun k => W.heap.size ≤ k ∧ k < W.heap.size + 7) W := by
  intro l0 J Jx hJ hJx hY h0
  refine callsIn_of_wp_marks Tryz.func268 rfl trivial ?_ rfl
  simp only [Tryz.ntmps268, List.size_toArray, List.length_cons, List.length_nil, Nat.reduceAdd, Nat.reduceSub, Array.replicate_succ, Array.replicate_zero, List.push_toArray, List.append_toArray, List.nil_append, List.cons_append]
  have cb : ((W.alloc (.cells #[.func (.yield l0) #[] #[]] 371)).alloc (.cells #[.int .i64 0] 3)).cell? ⟨bq, 0, none⟩ = some (.string p) := ((hb.alloc _).alloc _).cell
  have hY' := hY
  clear hY
  gi_wp2_with (refine ⟨trivial, (fun h => by cases h), ?_⟩; gi_at_call 269; refine (SplitSeq_in _ _ _).mono ?_; rintro e w' ⟨rfl, rfl⟩)
  have b0 : Boxed (((((W.alloc (.cells #[.func (.yield l0) #[] #[]] 371)).alloc (.cells #[.int .i64 0] 3)).alloc (.cells #[.string p] 9)).alloc (.cells #[.string ⟨#[47]⟩] 9)).alloc (.cells #[.int .i64 0] 3)) W.heap.size 371 (.func (.yield l0) #[] #[]) :=
    ((((Boxed.new W _ _).alloc _).alloc _).alloc _).alloc _
  have b1 : Boxed (((((W.alloc (.cells #[.func (.yield l0) #[] #[]] 371)).alloc (.cells #[.int .i64 0] 3)).alloc (.cells #[.string p] 9)).alloc (.cells #[.string ⟨#[47]⟩] 9)).alloc (.cells #[.int .i64 0] 3)) (W.heap.size + 1) 3 (.int .i64 0) := by
    have := (((Boxed.new (W.alloc (.cells #[.func (.yield l0) #[] #[]] 371)) 3 (.int .i64 0)).alloc (.cells #[.string p] 9)).alloc (.cells #[.string ⟨#[47]⟩] 9)).alloc (.cells #[.int .i64 0] 3)
    simpa only [World.size_alloc] using this
  have b2 : Boxed (((((W.alloc (.cells #[.func (.yield l0) #[] #[]] 371)).alloc (.cells #[.int .i64 0] 3)).alloc (.cells #[.string p] 9)).alloc (.cells #[.string ⟨#[47]⟩] 9)).alloc (.cells #[.int .i64 0] 3)) (W.heap.size + 1 + 1) 9 (.string p) := by
    have := ((Boxed.new ((W.alloc (.cells #[.func (.yield l0) #[] #[]] 371)).alloc (.cells #[.int .i64 0] 3)) 9 (.string p)).alloc (.cells #[.string ⟨#[47]⟩] 9)).alloc (.cells #[.int .i64 0] 3)
    simpa only [World.size_alloc] using this
  have b3 : Boxed (((((W.alloc (.cells #[.func (.yield l0) #[] #[]] 371)).alloc (.cells #[.int .i64 0] 3)).alloc (.cells #[.string p] 9)).alloc (.cells #[.string ⟨#[47]⟩] 9)).alloc (.cells #[.int .i64 0] 3)) (W.heap.size + 1 + 1 + 1) 9 (.string ⟨#[47]⟩) := by
    have := (Boxed.new (((W.alloc (.cells #[.func (.yield l0) #[] #[]] 371)).alloc (.cells #[.int .i64 0] 3)).alloc (.cells #[.string p] 9)) 9 (.string ⟨#[47]⟩)).alloc (.cells #[.int .i64 0] 3)
    simpa only [World.size_alloc] using this
  have b4 : Boxed (((((W.alloc (.cells #[.func (.yield l0) #[] #[]] 371)).alloc (.cells #[.int .i64 0] 3)).alloc (.cells #[.string p] 9)).alloc (.cells #[.string ⟨#[47]⟩] 9)).alloc (.cells #[.int .i64 0] 3)) (W.heap.size + 1 + 1 + 1 + 1) 3 (.int .i64 0) := by
    have := Boxed.new ((((W.alloc (.cells #[.func (.yield l0) #[] #[]] 371)).alloc (.cells #[.int .i64 0] 3)).alloc (.cells #[.string p] 9)).alloc (.cells #[.string ⟨#[47]⟩] 9)) 3 (.int .i64 0)
    simpa only [World.size_alloc] using this
  have hj0 : J [] (((((W.alloc (.cells #[.func (.yield l0) #[] #[]] 371)).alloc (.cells #[.int .i64 0] 3)).alloc (.cells #[.string p] 9)).alloc (.cells #[.string ⟨#[47]⟩] 9)).alloc (.cells #[.int .i64 0] 3)) :=
    (hJ _).alloc _ ((hJ _).alloc _ ((hJ _).alloc _ ((hJ _).alloc _ ((hJ _).alloc _ h0))))
  have hsz : (((((W.alloc (.cells #[.func (.yield l0) #[] #[]] 371)).alloc (.cells #[.int .i64 0] 3)).alloc (.cells #[.string p] 9)).alloc (.cells #[.string ⟨#[47]⟩] 9)).alloc (.cells #[.int .i64 0] 3)).heap.size = W.heap.size + 5 := by simp
  revert b0 b1 b2 b3 b4 hj0 hsz
  generalize (((((W.alloc (.cells #[.func (.yield l0) #[] #[]] 371)).alloc (.cells #[.int .i64 0] 3)).alloc (.cells #[.string p] 9)).alloc (.cells #[.string ⟨#[47]⟩] 9)).alloc (.cells #[.int .i64 0] 3)) = W0
  intro b0 b1 b2 b3 b4 hj0 hsz
  refine wpIn_rangeT (gf := 291) rfl (enters_of Tryz.func291 (by kernel_rfl) rfl) (encs := fun x : ByteArray => #[.string x]) (S := piecesB p)
    (T := fun k => W.heap.size + 2 ≤ k ∧ k < W.heap.size + 7) (by omega) (by omega)
    (fun W1 h1 h2 => (splitSeq1_seq _ _ _ _ p (by omega) W1 (b2.kept h2 (by simp)) (b3.kept h2 (by simp)) (b4.kept h2 (by simp)) (by omega) (by omega)).congr fun k => by omega)
    (fun x => rfl)
    (fun pre A => J (emit 0 pre) A ∧ Boxed A (W.heap.size + 1) 3 (.int .i64 (total pre)) ∧ Boxed A W.heap.size 371 (.func (.yield l0) #[] #[]))
    (fun c A => c = .ret ∧ Jx A)
    (fun pre => ((hJ _).sub fun k h => by omega).and ((StabT.boxed (by omega)).and (StabT.boxed (by omega))))
    (fun c => (StabT.const _).and (hJx.sub fun k h => by omega))
    ⟨hj0, b1, b0⟩
    (fun x => { tmps := #[.func (.yield l0) #[] #[], .pointer (some ⟨bq, 0, none⟩), .pointer (some ⟨W.heap.size, 0, none⟩), .pointer (some ⟨W.heap.size + 1, 0, none⟩), .string x, .string p,
      .func (.func 291) #[] #[.pointer (some ⟨W.heap.size + 1 + 1 + 1, 0, none⟩), .pointer (some ⟨W.heap.size + 1 + 1, 0, none⟩), .pointer (some ⟨W.heap.size + 1 + 1 + 1 + 1, 0, none⟩)],
      .string x, undef, undef, undef, undef, undef, undef, undef, undef, undef, undef, undef, undef, undef, undef, undef], defers := [] }) ?assign ?body ?done ?stop
  case assign =>
    intro l x A K hK
    gi_wp2
    exact hK
  case body =>
    rintro l pre x more A ⟨hj, b1, b0⟩ hS hTA
    have hTB : ∀ k, W.heap.size ≤ k ∧ k < W.heap.size + 7 → k < A.heap.size := fun k hk => by
      have h6 := hTA (W.heap.size + 6) (by omega)
      omega
    have htot := total_le hS
    have c1 := b1.cell
    have f1 := b1.frozen
    have c0 := b0.cell
    have hm : p.size < 9223372036854775807 := hp
    have w1 : wrap64 ((total pre : Int) + (x.size : Int)) = ((total pre + x.size : Nat) : Int) := by rw [Go.IntWalk.wrap64_in _ (by omega)]; omega
    have w2 : wrap64 (((total pre + x.size : Nat) : Int) + 1) = ((total (pre ++ [x]) : Nat) : Int) := by rw [Go.IntWalk.wrap64_in _ (by omega), total_snoc]; omega
    rcases Nat.eq_zero_or_pos x.size with hx | hx
    · obtain rfl : x = ByteArray.empty := by
        apply ByteArray.ext
        apply Array.eq_empty_of_size_eq_zero
        exact hx
      have he : emit 0 (pre ++ [ByteArray.empty]) = emit 0 pre := by rw [emit_snoc, if_pos hx]; simp
      have w1' : wrap64 (total pre : Int) = (total pre : Int) := Go.IntWalk.wrap64_in _ (by omega)
      have e2 : ((total (pre ++ [ByteArray.empty]) : Nat) : Int) = (total pre : Int) + 1 := by rw [total_snoc, hx]; omega
      have w2' : wrap64 ((total pre : Int) + 1) = (total pre : Int) + 1 := Go.IntWalk.wrap64_in _ (by omega)
      have b1s : Boxed (A.setCell ⟨W.heap.size + 1, 0, none⟩ (.int .i64 (total pre : Int))) (W.heap.size + 1) 3 _ := b1.set _
      have b0s : Boxed (A.setCell ⟨W.heap.size + 1, 0, none⟩ (.int .i64 (total pre : Int))) W.heap.size 371 _ := boxed_set_other b0 (by omega)
      have c1s := b1s.cell
      have f1s := b1s.frozen
      clear hY' w1 w2
      gi_wp2
      refine ⟨fun _ h => (by cases h), ?_⟩
      gi_wp2
      refine ⟨fun k hk => ?_, ?_, by rw [e2]; exact b1s.set _, boxed_set_other b0s (by omega)⟩
      · exact (Below.heap_setCell _ _ _ k (by show k ≠ W.heap.size + 1; omega)).trans (Below.heap_setCell _ _ _ k (by show k ≠ W.heap.size + 1; omega))
      · rw [he]; exact (hJ _).set _ ((hJ _).set _ hj (by omega)) (by omega)
    · have hne : x.toList.isEmpty = false := by
        rw [ByteArray.toList_eq]
        cases hd : x.data.toList with
        | nil =>
          have : x.data.toList.length = x.size := Array.length_toList
          rw [hd] at this
          simp at this
          omega
        | cons => rfl
      have e1 : ((total pre + x.size : Nat) : Int) = (total pre : Int) + (x.size : Int) := by omega
      have e2 : ((total (pre ++ [x]) : Nat) : Int) = (total pre : Int) + (x.size : Int) + 1 := by rw [total_snoc]; omega
      have he : emit 0 (pre ++ [x]) = emit 0 pre ++ [((total pre : Int) + (x.size : Int), x)] := by rw [emit_snoc, if_neg (by omega), Nat.zero_add, e1]
      have hS' : partsB p = emit 0 pre ++ ((total pre : Int) + (x.size : Int), x) :: emit (total pre + x.size + 1) more := by
        unfold partsB
        rw [hS, emit_app, emit_cons (by omega), Nat.zero_add, e1]
      have w3 : wrap64 ((total pre : Int) + (x.size : Int) + 1) = (total pre : Int) + (x.size : Int) + 1 := Go.IntWalk.wrap64_in _ (by omega)
      rw [e1] at w1
      have b1s : Boxed (A.setCell ⟨W.heap.size + 1, 0, none⟩ (.int .i64 ((total pre : Int) + (x.size : Int)))) (W.heap.size + 1) 3 _ := b1.set _
      have b0s : Boxed (A.setCell ⟨W.heap.size + 1, 0, none⟩ (.int .i64 ((total pre : Int) + (x.size : Int)))) W.heap.size 371 _ := boxed_set_other b0 (by omega)
      obtain ⟨fn, tmps, assign, body, hy, hR⟩ := YieldAt.wide (m := n - 1 - 1 - 1) (hY' (emit 0 pre) ((total pre : Int) + (x.size : Int), x) _ (A.setCell ⟨W.heap.size + 1, 0, none⟩ (.int .i64 ((total pre : Int) + (x.size : Int)))) ((hJ _).set _ hj (by omega)) hS' (fun k hk => Nat.lt_of_lt_of_le (hTB k hk) (KeepsWalks.setCell A _ _).size))
      dsimp only at hy
      have c1s := b1s.cell
      have c0s := b0s.cell
      have f1s := b1s.frozen
      clear hY' hS' w2 hS htot hp hm
      gi_wp2
      refine ⟨(fun h => by cases h), hR.mono ?_⟩
      rintro e A3 ⟨hk, (⟨rfl, hJ3⟩ | ⟨rfl, hJx3⟩)⟩
      · have b1t : Boxed A3 (W.heap.size + 1) 3 (.int .i64 ((total pre : Int) + (x.size : Int))) := (hk _ (by omega)).trans b1s
        have b0t : Boxed A3 W.heap.size 371 (.func (.yield l0) #[] #[]) := (hk _ (by omega)).trans b0s
        have c1t := b1t.cell
        have f1t := b1t.frozen
        gi_wp2
        refine ⟨fun k hk' => ?_, ?_, by rw [e2]; exact b1t.set _, boxed_set_other b0t (by omega)⟩
        · exact (Below.heap_setCell _ _ _ k (by show k ≠ W.heap.size + 1; omega)).trans ((hk k (by omega)).trans (Below.heap_setCell _ _ _ k (by show k ≠ W.heap.size + 1; omega)))
        · rw [he]; exact (hJ _).set _ hJ3 (by omega)
      · gi_wp2
        exact ⟨fun k hk' => (hk k (by omega)).trans (Below.heap_setCell _ _ _ k (by show k ≠ W.heap.size + 1; omega)), rfl, hJx3⟩
  case done =>
    rintro A ⟨hj, _, _⟩ hK
    gi_wp2
    refine ⟨by simp, .inl ⟨_, _, rfl, run_takeDeferred hK, ?_⟩⟩
    exact ⟨_, results_none rfl _ _ _, ⟨_, rfl⟩, .inl ((hJ _).put _ hj (by omega))⟩
  case stop =>
    rintro c A ⟨rfl, hjx⟩ hK
    gi_wp2
    refine ⟨by simp, .inl ⟨_, _, rfl, run_takeDeferred hK, ?_⟩⟩
    exact ⟨_, results_none rfl _ _ _, ⟨_, rfl⟩, .inr (hJx.put _ hjx (by omega))⟩
end Go.Proofs.YtfjflodicgjihaaGreatDoor.Den
