/- route.Check: what it answers. -/
import Derived.Test.YtfjflodicgjihaaGreatDoorRouteD
set_option linter.unusedVariables false
set_option linter.unusedSimpArgs false
namespace Go.Proofs.YtfjflodicgjihaaGreatDoor.Den
open Go Go.RowKit Go.Shelf

attribute [local go_sem] Oper.semAt_some

/-- The error of a path. -/
def checkV (p : ByteArray) : Int :=
  if p.size = 0 then 2 else if 100 < p.size then 9 else if 0 ≤ Lib.indexByte p.data.toList 0 then 1 else if (partsB p).any (fun x => decide (12 < x.2.size)) then 9 else 0
def Shorts (l : List (Int × ByteArray)) : Prop := ∀ x ∈ l, x.2.size ≤ 12
theorem Shorts.no {l : List (Int × ByteArray)} (h : Shorts l) : l.any (fun x => decide (12 < x.2.size)) = false := by
  rw [List.any_eq_false]
  intro x hx hd
  have := h x hx
  have := of_decide_eq_true hd
  omega
theorem Shorts.snoc {l : List (Int × ByteArray)} (h : Shorts l) {x : Int × ByteArray} (hx : ¬ 12 < x.2.size) : Shorts (l ++ [x]) := by
  intro y hy
  rcases List.mem_append.1 hy with hy | hy
  · exact h y hy
  · rw [List.mem_singleton] at hy
    subst hy
    omega
set_option maxRecDepth 100000 in
set_option maxHeartbeats 4000000 in
theorem check_in (n : Nat) (p : ByteArray) (w : World) :
    CallsIn Fence.wide n Tryz.prog 179 #[.string p] w fun e W' => e = .returned (.int .i64 (checkV p)) ∧ Below w.heap.size w W' := by
  refine callsIn_of_wp_marks Tryz.func179 rfl trivial ?_ rfl
  simp only [Tryz.ntmps179, List.size_toArray, List.length_cons, List.length_nil, Nat.reduceAdd, Nat.reduceSub, Array.replicate_succ, Array.replicate_zero, List.push_toArray, List.append_toArray, List.nil_append, List.cons_append]
  have hB1 : Below w.heap.size w (w.alloc (.cells #[.int .i64 0] 27)) := (Below.refl _ w).alloc (Nat.le_refl _) _
  have b0 := Boxed.new w 27 (.int .i64 0)
  have c0 := b0.cell
  have f0 := b0.frozen
  have hend : ∀ k : Int, Boxed ((w.alloc (.cells #[.int .i64 0] 27)).setCell ⟨w.heap.size, 0, none⟩ (.int .i64 k)) w.heap.size 27 (.int .i64 k) ∧ Below w.heap.size w ((w.alloc (.cells #[.int .i64 0] 27)).setCell ⟨w.heap.size, 0, none⟩ (.int .i64 k)) := fun k =>
    ⟨b0.set _, hB1.setCell (p := ⟨w.heap.size, 0, none⟩) (Nat.le_refl _) _⟩
  by_cases h0 : p.size = 0
  · have hv : checkV p = 2 := by unfold checkV; rw [if_pos h0]
    obtain rfl : p = ByteArray.empty := by
      apply ByteArray.ext
      apply Array.eq_empty_of_size_eq_zero
      exact h0
    gi_wp2
    refine ⟨.int .i64 2, by simp [results, Tryz.results179, go_sem]; try rfl, by rw [hv], (Below.refl _ w).alloc (Nat.le_refl _) _⟩
  have hne : p.toList.isEmpty = false := by
    rw [ByteArray.toList_eq]
    cases hd : p.data.toList with
    | nil =>
      have : p.data.toList.length = p.size := Array.length_toList
      rw [hd] at this
      simp at this
      omega
    | cons => rfl
  by_cases h1 : 100 < p.size
  · have hv : checkV p = 9 := by unfold checkV; rw [if_neg h0, if_pos h1]
    have h1' : (100 : Int) < (p.size : Int) := by omega
    gi_wp2
    refine ⟨.int .i64 9, by simp [results, Tryz.results179, go_sem]; try rfl, by rw [hv], (Below.refl _ w).alloc (Nat.le_refl _) _⟩
  have h1' : ¬ (100 : Int) < (p.size : Int) := by omega
  by_cases h2 : 0 ≤ Lib.indexByte p.data.toList 0
  · have hv : checkV p = 1 := by unfold checkV; rw [if_neg h0, if_neg h1, if_pos h2]
    gi_wp2_with (refine ⟨trivial, (fun h => by cases h), ?_⟩; gi_at_call 231; refine (callsIn_wide.2 (Tryz.strings_IndexByte _ _ _)).mono ?_; rintro e w' ⟨rfl, rfl⟩; have e0 : (Int.toNat 0).toUInt8 = 0 := rfl; rw [e0])
    refine ⟨.int .i64 1, by simp [results, Tryz.results179, go_sem]; try rfl, by rw [hv], (Below.refl _ w).alloc (Nat.le_refl _) _⟩
  have hvY : (partsB p).any (fun x => decide (12 < x.2.size)) = true → checkV p = 9 := fun h => by unfold checkV; rw [if_neg h0, if_neg h1, if_neg h2, if_pos h]
  have hvN : (partsB p).any (fun x => decide (12 < x.2.size)) = false → checkV p = 0 := fun h => by unfold checkV; rw [if_neg h0, if_neg h1, if_neg h2, if_neg (by rw [h]; exact Bool.false_ne_true)]
  gi_wp2_with first | (refine ⟨trivial, (fun h => by cases h), ?_⟩; gi_at_call 231; refine (callsIn_wide.2 (Tryz.strings_IndexByte _ _ _)).mono ?_; rintro e w' ⟨rfl, rfl⟩; have e0 : (Int.toNat 0).toUInt8 = 0 := rfl; rw [e0]) | (refine ⟨trivial, (fun h => by cases h), ?_⟩; gi_at_call 236; refine (parts_in _ _ _).mono ?_; rintro e w' ⟨rfl, rfl⟩)
  have hB2 : Below w.heap.size w ((w.alloc (.cells #[.int .i64 0] 27)).alloc (.cells #[.string p] 9)) := hB1.alloc (by simp) _
  have b02 : Boxed ((w.alloc (.cells #[.int .i64 0] 27)).alloc (.cells #[.string p] 9)) w.heap.size 27 (.int .i64 0) := b0.alloc _
  have bP := Boxed.new (w.alloc (.cells #[.int .i64 0] 27)) 9 (.string p)
  rw [World.size_alloc] at bP
  have hsz : ((w.alloc (.cells #[.int .i64 0] 27)).alloc (.cells #[.string p] 9)).heap.size = w.heap.size + 2 := by simp
  clear hend hB1 b0 c0 f0
  revert b02 bP hB2 hsz
  generalize (w.alloc (.cells #[.int .i64 0] 27)).alloc (.cells #[.string p] 9) = W0
  intro hB0 bO bP hsz
  refine wpIn_rangeT (gf := 268) rfl (enters_of Tryz.func268 (by kernel_rfl) rfl) (encs := fun x : Int × ByteArray => #[.int .i64 x.1, .string x.2]) (S := partsB p)
    (T := fun k => w.heap.size + 2 ≤ k ∧ k < w.heap.size + 11) (by omega) (by omega)
    (fun W1 g1 g2 => (parts1_seq _ _ p (by show p.size < 9223372036854775807; omega) W1 (bP.kept g2 (by simp))).congr fun k => by omega)
    (fun x => rfl)
    (fun pre A => (Boxed A w.heap.size 27 (.int .i64 0) ∧ Shorts pre) ∧ Below w.heap.size w A)
    (fun c A => (Boxed A w.heap.size 27 (.int .i64 9) ∧ (c = .ret ∧ (partsB p).any (fun x => decide (12 < x.2.size)) = true)) ∧ Below w.heap.size w A)
    (fun pre => ((StabT.boxed (by omega)).and (StabT.const _)).and (StabT.below (Nat.le_refl _) fun k hk => by omega))
    (fun c => ((StabT.boxed (by omega)).and (StabT.const _)).and (StabT.below (Nat.le_refl _) fun k hk => by omega))
    ⟨⟨bO, fun x hx => by cases hx⟩, hB0⟩
    (fun x => { tmps := #[.string p, undef, .pointer (some ⟨w.heap.size, 0, none⟩), undef, .string x.2,
          .bool false, .string p, .bool false, .bool false, .string p, .int .i64 p.size, .bool false, .bool (decide (0 ≤ Lib.indexByte p.data.toList 0)),
          .string p, .int .i64 (Lib.indexByte p.data.toList 0), .bool (decide (0 ≤ Lib.indexByte p.data.toList 0)), .string p,
          .func (.func 268) #[] #[.pointer (some ⟨w.heap.size + 1, 0, none⟩)], .int .i64 x.1, .string x.2, undef, undef, undef], defers := [] }) ?assign ?body ?done ?stop
  case assign =>
    intro l x A K hK
    gi_wp2
    exact hK
  case body =>
    rintro l pre x more A ⟨⟨hv, hall⟩, hB⟩ hS hTA
    have hc := hv.cell
    have hf := hv.frozen
    by_cases hx : 12 < x.2.size
    · have hx' : (12 : Int) < (x.2.size : Int) := by omega
      have hany : (partsB p).any (fun x => decide (12 < x.2.size)) = true := List.any_eq_true.2 ⟨x, by rw [hS]; simp, decide_eq_true hx⟩
      clear hS hTA
      gi_wp2
      exact ⟨fun k hk => Below.heap_setCell _ _ _ k (by show k ≠ w.heap.size; omega), ⟨hv.set _, rfl, hany⟩, hB.setCell (p := ⟨w.heap.size, 0, none⟩) (Nat.le_refl _) _⟩
    · have hx' : ¬ (12 : Int) < (x.2.size : Int) := by omega
      have hsn := hall.snoc hx
      clear hS hTA
      gi_wp2
      exact ⟨fun k hk => rfl, ⟨hv, hsn⟩, hB⟩
  case done =>
    rintro A ⟨⟨hv, hall⟩, hB⟩ hK
    have hc := hv.cell
    have hf := hv.frozen
    have hval := hvN hall.no
    have hv2 : Boxed (A.setCell ⟨w.heap.size, 0, none⟩ (.int .i64 0)) w.heap.size 27 (.int .i64 0) := hv.set _
    have hK2 : (A.setCell ⟨w.heap.size, 0, none⟩ (.int .i64 0)).heap[w.heap.size + 2]? = some (.deferred (some [])) := (Below.heap_setCell A _ _ _ (by show w.heap.size + 2 ≠ w.heap.size; omega)).trans (by rw [← hsz]; exact hK)
    have hv3 := hv2.kept (grownBy_putObj' _ (w.heap.size + 2) (.deferred none)) (by simp)
    have hc3 := hv3.cell
    gi_wp2
    refine ⟨by simp, .inl ⟨_, _, rfl, by rw [hsz]; exact run_takeDeferred hK2, ?_⟩⟩
    exact ⟨.int .i64 0, by simp [results, Tryz.results179, go_sem, hc3]; try rfl, by rw [hval],
      (hB.setCell (p := ⟨w.heap.size, 0, none⟩) (Nat.le_refl _) _).grown (grownBy_putObj' _ (w.heap.size + 2) (.deferred none)) (by show w.heap.size ≤ (A.setCell _ _).heap.size; exact Nat.le_trans hB.size (KeepsWalks.setCell A _ _).size) (fun k e => by cases e; omega)⟩
  case stop =>
    rintro c A ⟨⟨hv, rfl, hany⟩, hB⟩ hK
    have hval := hvY hany
    have hv3 := hv.kept (grownBy_putObj' _ (w.heap.size + 2) (.deferred none)) (by simp)
    have hc3 := hv3.cell
    gi_wp2
    refine ⟨by simp, .inl ⟨_, _, rfl, by rw [hsz]; exact run_takeDeferred (by rw [← hsz]; exact hK), ?_⟩⟩
    exact ⟨.int .i64 9, by simp [results, Tryz.results179, go_sem, hc3]; try rfl, by rw [hval],
      hB.grown (grownBy_putObj' _ (w.heap.size + 2) (.deferred none)) hB.size (fun k e => by cases e; omega)⟩
end Go.Proofs.YtfjflodicgjihaaGreatDoor.Den
