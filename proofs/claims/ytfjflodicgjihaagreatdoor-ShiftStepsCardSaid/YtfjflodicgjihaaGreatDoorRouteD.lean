/- route.Split: what it answers. -/
import Derived.Test.YtfjflodicgjihaaGreatDoorRouteC
set_option linter.unusedVariables false
set_option linter.unusedSimpArgs false
namespace Go.Proofs.YtfjflodicgjihaaGreatDoor.Den
open Go Go.RowKit Go.Shelf

attribute [local go_sem] Oper.semAt_some

theorem emit_len : ∀ (l : List ByteArray) (a : Nat), (emit a l).length ≤ total l
  | [], _ => Nat.le_refl _
  | x :: l, a => by
    simp only [emit, total]
    split
    · have := emit_len l (a + 1); omega
    · have := emit_len l (a + x.size + 1)
      simp only [List.length_cons]
      omega
theorem parts_len (p : ByteArray) : (partsB p).length ≤ p.size + 1 := by
  have := emit_len (piecesB p) 0
  rw [total_piecesB] at this
  exact this
theorem infoStr : (Tryz.prog.info? 9).map (fun i => (i.zero, i.size, i.bytes)) = some (some (.string ByteArray.empty), 1, 16) := by kernel_rfl
theorem ownsRow_stab {T : Nat → Prop} {base : Nat} {e : TypeId} {size : Nat} {v : Value} {k : Nat} {xs : List Value} (hT : ∀ j, T j → j < base) : StabT T (fun W => W.ownsRow base e size v k xs) := fun A B row hj hg hr => by
  refine hj.kept hg ?_
  cases hv : v.ownBlock with
  | none => exact .inl rfl
  | some g =>
    refine .inr fun e => ?_
    have h1 := hr g e.symm
    have h2 := (hj.lt g hv).1
    have := hT g h1
    omega

theorem ownsRow_down {W : World} {b b' : Nat} {e : TypeId} {size : Nat} {v : Value} {k : Nat} {xs : List Value} (h : W.ownsRow b e size v k xs) (hb : b' ≤ b) : W.ownsRow b' e size v k xs := by
  refine ⟨h.1, ?_⟩
  rcases h.2 with h | ⟨g, cap, cur, h1, h2, h3⟩
  · exact .inl h
  · exact .inr ⟨g, cap, cur, h1, Nat.le_trans hb h2, h3⟩
set_option maxRecDepth 100000 in
set_option maxHeartbeats 4000000 in
theorem split_in (n : Nat) (p : ByteArray) (hp : p.size ≤ 1000000000) (w : World) :
    CallsIn Fence.wide n Tryz.prog 180 #[.string p] w fun e W' => ∃ v, e = .returned (.tuple #[v, .bool (preSl p), .bool (sufSl p)]) ∧
      W'.ownsRow w.heap.size 9 1 v (partsB p).length ((partsB p).map fun x => .string x.2) ∧ (v = .slice none 0 0 ↔ partsB p = []) ∧ Below w.heap.size w W' := by
  obtain ⟨i0, hi, hz0, hz1, hz2⟩ := info_parts infoStr
  have hmx : p.size ≤ maxLen := Nat.le_trans hp (by decide)
  have hpl := parts_len p
  refine callsIn_of_wp_marks Tryz.func180 rfl trivial ?_ rfl
  simp only [Tryz.ntmps180, List.size_toArray, List.length_cons, List.length_nil, Nat.reduceAdd, Nat.reduceSub, Array.replicate_succ, Array.replicate_zero, List.push_toArray, List.append_toArray, List.nil_append, List.cons_append]
  gi_wp2_with (refine ⟨trivial, (fun h => by cases h), ?_⟩; gi_at_call 236; refine (parts_in _ _ _).mono ?_; rintro e w' ⟨rfl, rfl⟩)
  have bO := (Boxed.new w 22 (.slice none 0 0)).alloc (.cells #[.string p] 9)
  have bP := Boxed.new (w.alloc (.cells #[.slice none 0 0] 22)) 9 (.string p)
  rw [World.size_alloc] at bP
  have hB0 : Below w.heap.size w ((w.alloc (.cells #[.slice none 0 0] 22)).alloc (.cells #[.string p] 9)) := ((Below.refl _ w).alloc (Nat.le_refl _) _).alloc (by simp) _
  have hsz : ((w.alloc (.cells #[.slice none 0 0] 22)).alloc (.cells #[.string p] 9)).heap.size = w.heap.size + 2 := by simp
  revert bO bP hB0 hsz
  generalize (w.alloc (.cells #[.slice none 0 0] 22)).alloc (.cells #[.string p] 9) = W0
  intro bO bP hB0 hsz
  refine wpIn_rangeT (gf := 268) rfl (enters_of Tryz.func268 (by kernel_rfl) rfl) (encs := fun x : Int × ByteArray => #[.int .i64 x.1, .string x.2]) (S := partsB p)
    (T := fun k => w.heap.size + 2 ≤ k ∧ k < w.heap.size + 11) (by omega) (by omega)
    (fun W1 h1 h2 => (parts1_seq _ _ p (by show p.size < 9223372036854775807; omega) W1 (bP.kept h2 (by simp))).congr fun k => by omega)
    (fun x => rfl)
    (fun pre A => (∃ v, Boxed A w.heap.size 22 v ∧ A.ownsRow (w.heap.size + 11) 9 1 v pre.length (pre.map fun x => .string x.2) ∧ (v = .slice none 0 0 ↔ pre = [])) ∧ Below w.heap.size w A)
    (fun _ _ => False)
    (fun pre => (StabT.ex fun v => (StabT.boxed (by omega)).and ((ownsRow_stab fun j hj => by omega).and (StabT.const _))).and (StabT.below (Nat.le_refl _) fun k hk => by omega))
    (fun c => StabT.const _)
    ⟨⟨_, bO, World.ownsRow_nil _ _ _ _, by simp⟩, hB0⟩
    (fun x => { tmps := #[.string p, undef, .pointer (some ⟨w.heap.size, 0, none⟩), .bool false, .bool false, undef, .string x.2, .string p, .func (.func 268) #[] #[.pointer (some ⟨w.heap.size + 1, 0, none⟩)], .int .i64 x.1, .string x.2, undef, undef, undef, undef, undef, undef, undef, undef, undef], defers := [] }) ?assign ?body ?done ?stop
  case assign =>
    intro l x A K hK
    gi_wp2
    exact hK
  case body =>
    rintro l pre x more A ⟨⟨v, hv, hrow, hnil⟩, hB⟩ hS hTA
    have hc := hv.cell
    have hlt : w.heap.size + 11 ≤ A.heap.size := by have := hTA (w.heap.size + 10) (by omega); omega
    have hprl : pre.length + 1 ≤ p.size + 1 := by
      rw [hS] at hpl
      simp at hpl
      omega
    have k1 : pre.length + 1 ≤ maxLen := by show _ ≤ 9223372036854775807; omega
    clear hS hpl hTA
    gi_wp2_with (gi_at_builtin; refine wpListIn_append_own _ rfl _ _ 22 rfl (w.heap.size + 11) 9 i0 (.string ByteArray.empty) 1 16 Tryz.underlying22 hi hz0 hz1 hz2 rfl (by decide) _ _ _ rfl (hrow.alloc _) ⟨A.heap.size, 0, none⟩ 1 1 [.string x.2] rfl rfl (cell_one_new _ _ _) (by simp [Value.oneCell']) k1 (by omega) (by simp; omega) ?_; intro v' w1 hown' hgrow _; obtain ⟨g', cap', rfl⟩ := ownsRow_succ hown'; have hv1 : Boxed w1 w.heap.size 22 v := (hv.alloc _).kept hgrow (hv.not_row (by decide) hrow); have hc1 := hv1.cell; have hf1 := hv1.frozen)
    have hg' := hown'.lt g' rfl
    have hrow1 := hrow.lt
    refine ⟨fun k hk => ?_, ⟨_, hv1.set _, ?_, by simp⟩, ?_⟩
    · refine (Below.heap_setCell _ _ _ k (by show k ≠ w.heap.size; omega)).trans ((hgrow.block k (by simp; omega) fun e => ?_).trans (heap_alloc_old _ _ _ (by omega)))
      have := (hrow.lt k e.symm).1
      omega
    · have := hown'.kept (grownBy_setCell' w1 w.heap.size (.slice (some ⟨g', 0, none⟩) (pre.length + 1) cap')) (.inr (by show some g' ≠ some w.heap.size; intro e; cases e; omega))
      simpa using this
    · exact ((hB.alloc (Nat.le_of_lt hv.lt) _).grown hgrow (by simp; exact Nat.le_of_lt (Nat.lt_succ_of_lt hv.lt)) fun k e => by have := (hrow.lt k e).1; omega).setCell (p := ⟨w.heap.size, 0, none⟩) (Nat.le_refl _) _
  case done =>
    rintro A ⟨⟨v, hv, hrow, hnil⟩, hB⟩ hK
    obtain ⟨a0, n0, c0, rfl⟩ : ∃ a0 n0 c0, v = .slice a0 n0 c0 := by
      rcases hrow.2 with ⟨rfl, _⟩ | ⟨g, cap, cur, rfl, _⟩
      · exact ⟨_, _, _, rfl⟩
      · exact ⟨_, _, _, rfl⟩
    have hc := hv.cell
    have hf := hv.frozen
    have hown0 : (Value.slice a0 n0 c0).ownBlock = none ∨ (Value.slice a0 n0 c0).ownBlock ≠ some w.heap.size := by
      cases hv : (Value.slice a0 n0 c0).ownBlock with
      | none => exact .inl rfl
      | some g => have := (hrow.lt g hv).1; exact .inr (fun e => by cases e; omega)
    have hown2 : (Value.slice a0 n0 c0).ownBlock = none ∨ (Value.slice a0 n0 c0).ownBlock ≠ some (w.heap.size + 2) := by
      cases hv : (Value.slice a0 n0 c0).ownBlock with
      | none => exact .inl rfl
      | some g => have := (hrow.lt g hv).1; exact .inr (fun e => by cases e; omega)
    gi_wp2
    refine wpIn_nopanic ?_
    have hmixed : Tryz.prog.follows .mixedOrders = true := by kernel_rfl
    gi_region_with_o (first | (refine ⟨trivial, (fun h => by cases h), ?_⟩; gi_at_call 66; refine (hasPrefix_in _ _ _).mono ?_; rintro e w' ⟨rfl, rfl⟩) | (refine ⟨trivial, (fun h => by cases h), ?_⟩; gi_at_call 237; refine (hasSuffix_in _ _ hmx _).mono ?_; rintro e w' ⟨rfl, rfl⟩))
    all_goals
      have hv2 : Boxed (A.setCell ⟨w.heap.size, 0, none⟩ (.slice a0 n0 c0)).drew w.heap.size 22 (.slice a0 n0 c0) := hv.set (.slice a0 n0 c0)
      have hK2 : (A.setCell ⟨w.heap.size, 0, none⟩ (.slice a0 n0 c0)).drew.heap[w.heap.size + 2]? = some (.deferred (some [])) := (Below.heap_setCell A _ _ _ (by show w.heap.size + 2 ≠ w.heap.size; omega)).trans (by rw [← hsz]; exact hK)
      have hv3 := hv2.kept (grownBy_putObj' _ (w.heap.size + 2) (.deferred none)) (by simp)
      have hc3 := hv3.cell
      gi_wp2
      refine ⟨by simp, .inl ⟨_, _, rfl, run_takeDeferred hK2, ?_⟩⟩
      show ∃ v, (results Tryz.f180 #[.string p, undef, .pointer (some ⟨w.heap.size, 0, none⟩), .bool (preSl p), .bool (sufSl p), undef, undef, .string p, .func (.func 268) #[] #[.pointer (some ⟨w.heap.size + 1, 0, none⟩)], undef, undef, undef, undef, undef, undef, .slice a0 n0 c0, .string p, .bool (preSl p), .string p, .bool (sufSl p)]).run Tryz.prog _ = .ok v _ ∧ _
      refine ⟨.tuple #[.slice a0 n0 c0, .bool (preSl p), .bool (sufSl p)], by simp [results, Tryz.results180, go_sem, hc3]; try rfl, .slice a0 n0 c0, rfl, ?_, hnil, ?_⟩
    all_goals first | exact ownsRow_down ((((hrow.kept (grownBy_setCell' A w.heap.size _) (hown0)).drew).kept (grownBy_putObj' _ (w.heap.size + 2) (.deferred none)) hown2)) (Nat.le_add_right _ _) | exact ((hB.setCell (p := ⟨w.heap.size, 0, none⟩) (Nat.le_refl _) _).drew).grown (grownBy_putObj' _ (w.heap.size + 2) (.deferred none)) (by show w.heap.size ≤ (A.setCell _ _).heap.size; exact Nat.le_trans hB.size (KeepsWalks.setCell A _ _).size) (fun k e => by cases e; omega)
  case stop =>
    rintro c A h
    exact h.elim
end Go.Proofs.YtfjflodicgjihaaGreatDoor.Den
