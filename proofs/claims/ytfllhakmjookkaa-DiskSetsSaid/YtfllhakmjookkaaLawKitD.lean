/- How a law's walk, which leaves what was there as it was, closes the law's row. -/
import Derived.ProofKit
import Derived.Carry
import Derived.WalkSmall
import Derived.Deep.SlicePairs
import Derived.ChangeArms
import Derived.Test.YtfllhakmjookkaaEntry
namespace Go.Proofs.Ytfllhakmjookkaa
open Go.RowKit Go.ChangeShapes Go.WideShapes
set_option linter.unusedVariables false
set_option linter.unusedSimpArgs false

/-- All arguments read as they did. -/
theorem trodAll_below {H : Type} {enc : TypeId × Value → H} {P : Program} (hl : laidOutB P = true) {W W' : World} (hb : Below W.heap.size W W') :
    ∀ (ts : List TypeId) (vs : List Value) (ds : List (DataW H)) (ps : List MemPlace), (∀ t ∈ ts, P.readableRec t = true ∧ t < P.types.size) →
      DataW.TrodAll enc P W 0 (fun _ => true) true ts vs ds ps → (∀ x ∈ ps, x.block < W.heap.size) →
      DataW.TrodAll enc P W' 0 (fun b => decide (b < W.heap.size)) true ts vs ds ps
  | [], [], [], _, _, h, _ => h
  | t :: ts, v :: vs, d :: ds, ps, hr, h, hlt => by
    obtain ⟨p, q, h1, h2, rfl⟩ := h
    have hr1 := hr t (by simp)
    exact ⟨p, q, Below.trod hl hr1.1 hr1.2 h1 hb (fun x hx => hlt x (by simp [hx])),
      trodAll_below hl hb ts vs ds q (fun t' ht => hr t' (by simp [ht])) h2 (fun x hx => hlt x (by simp [hx])), rfl⟩
  | [], [], _ :: _, _, _, h, _ => h.elim
  | [], _ :: _, _, _, _, h, _ => h.elim
  | _ :: _, [], _, _, _, h, _ => h.elim
  | _ :: _, _ :: _, [], _, _, h, _ => h.elim

theorem okTypes_of {P : Program} {ts : List TypeId} (h : (ts.all fun t => P.readableRec t && decide (t < P.types.size)) = true) : ∀ t ∈ ts, P.readableRec t = true ∧ t < P.types.size := by
  intro t ht
  have := List.all_eq_true.1 h t ht
  simp only [Bool.and_eq_true, decide_eq_true_eq] at this
  exact this

/-- The row's end for a law without variables. -/
theorem post_law {H : Type} {enc : TypeId × Value → H} {P : Program} (hl : laidOutB P = true) {f : Func} {s : ChangeSpec} {apart fresh handsOn : Bool} {W W' : World} {args : Array Value} {ds : List (DataW H)} {before : List MemPlace} {tb : TypeId}
    (hW : DataW.Whole enc P f.params.toList s.vars apart W args.toList ds [] before) (hvars : s.vars = []) (hres : f.resultTypes = #[tb]) (hbool : P.underlying tb = some .bool)
    (hr : ∀ t ∈ f.params.toList, P.readableRec t = true ∧ t < P.types.size)
    (hb : Below W.heap.size W W') (hfn : s.fn H (ds ++ []) = { results := [.lit (.bool true)], args := ds }) :
    s.post enc P f apart fresh handsOn false W args (.bool true) W' := by
  have hlt := hW.lt
  have hW0 := hW
  obtain ⟨p, q, h1, h2, rfl, _, _⟩ := hW
  rw [hvars] at h2
  have hq : q = [] := h2
  subst hq
  refine ⟨ds, [], p ++ [], [], p, [], hW0, ?_, ?_, ?_, hb.frame _, fun h => by cases h⟩
  · rw [hfn, hres]
    exact ⟨[], [], shut_bool hbool true, rfl, rfl⟩
  · rw [hfn]
    exact trodAll_below hl hb _ _ _ _ hr h1 (fun x hx => hlt x (by simp [hx]))
  · rw [hfn, hvars]
    rfl
/-- The cells of a list of entries. -/
def entCells (l : List Ent) : List Value := l.flatMap fun y => [.string y.name, .int .i64 y.ino]
theorem ents_reps {S : Nat → Prop} {w : World} : ∀ (l : List Ent), (∀ y ∈ l, y.name.size ≤ maxLen) → Reps (entK.At S w) 2 l (entCells l)
  | [], _ => Reps.nil _ _
  | y :: l, h => by
    have h1 : Reps (entK.At S w) 2 [y] [.string y.name, .int .i64 y.ino] := Reps.one (R := entK.At S w) ⟨rfl, h y (by simp)⟩ rfl
    exact h1.append (ents_reps l fun z hz => h z (List.mem_cons_of_mem _ hz))
theorem ents_cell : ∀ (l : List Ent) (j : Nat) (u : Value), (entCells l)[j]? = some u → ∃ y, l[j / 2]? = some y ∧ u = if j % 2 = 0 then .string y.name else .int .i64 y.ino
  | [], j, u, h => by simp [entCells] at h
  | y :: l, j, u, h => by
    have he : entCells (y :: l) = .string y.name :: .int .i64 y.ino :: entCells l := rfl
    rw [he] at h
    match j, h with
    | 0, h => exact ⟨y, rfl, by simpa using h.symm⟩
    | 1, h => exact ⟨y, rfl, by simpa using h.symm⟩
    | j + 2, h =>
      obtain ⟨z, h1, h2⟩ := ents_cell l j u (by simpa using h)
      exact ⟨z, by rw [show (j + 2) / 2 = j / 2 + 1 by omega]; exact h1, by rw [show (j + 2) % 2 = j % 2 by omega]; exact h2⟩
instance : Inhabited Ent := ⟨⟨⟨#[]⟩, 0⟩⟩
set_option maxRecDepth 100000 in
/-- A list of entries that came in. -/
theorem open_ents {H : Type} {enc : TypeId × Value → H} {w : World} {r : Reach} {b0 : Nat} {v : Value} {d : DataW H} {ps : List MemPlace} (hval : Value.okWide Try.prog w r b0 41 v)
    (h : DataW.Trod enc Try.prog w 0 (fun _ => true) true 41 v d ps) : ∃ l, entK.Sl (Old w) w v l := by
  obtain ⟨fuel, hf⟩ := h
  have hv : ∃ a n c, v = .slice a n c := okWide_slice Try.underlying41 hval
  obtain ⟨a0, n0, c0, rfl⟩ := hv
  rcases Deep.open_slice_pairs Try.underlying41 Try.underlying72 (by kernel_rfl) rfl rfl (by kernel_rfl) (by kernel_rfl) hf with ⟨hc, hx⟩ | ⟨a, len, cap, m, n, V0, V1, D0, D1, P0, P1, hc, _, hlen, hcap, hm, hx, hall⟩
  · simp [Value.cells] at hc
    obtain ⟨rfl, rfl, rfl⟩ := hc
    exact ⟨[], Sl.nil _ _ _⟩
  · simp [Value.cells] at hc
    obtain ⟨ha, hn, hc'⟩ := hc
    rw [← hn] at hlen
    rw [← hc'] at hlen hcap hm
    subst ha
    clear hn hc' hx
    have hm' : m = c0 := hm
    have hok : n0 ≤ c0 ∧ (c0 : Int) ≤ IntKind.i64.max ∧ w.has Try.prog r b0 a 72 c0 := by
      simpa [Value.okWide, Cell.okWide, Cell.ok, Try.underlying41] using hval
    obtain ⟨_, hspot, row, cells, hsh, _⟩ := hok.2.2
    have each : ∀ i, i < n0 → ∃ y : Ent, w.cell? (a.add (i * 2)) = some (.string y.name) ∧ w.cell? (a.add (i * 2 + 1)) = some (.int .i64 y.ino) ∧ y.name.size ≤ maxLen := by
      intro i hi
      obtain ⟨e0, e1, t0, t1⟩ := hall i (by omega)
      obtain ⟨s, h0, _, hs⟩ := DataW.trod_string Try.underlying9 t0
      obtain ⟨k, h1, _, _⟩ := DataW.trod_int Try.underlying3 t1
      simp only [List.cons.injEq, and_true] at h0 h1
      exact ⟨⟨s, k⟩, by rw [e0, h0], by rw [e1, h1], hs⟩
    obtain ⟨f, hf'⟩ := Deep.choose_lt each
    have hlen' : ((List.range n0).map f).length = n0 := by simp
    obtain ⟨g, off, sp⟩ := a
    obtain rfl : sp = none := hspot
    refine ⟨(List.range n0).map f, some ⟨g, off, none⟩, c0, entCells ((List.range n0).map f), by rw [hlen'], by rw [hlen']; exact hlen, by simpa [maxLen] using hcap, ents_reps _ ?_, (fun h => by cases h), fun ad had => ?_⟩
    · intro y hy
      obtain ⟨i, hi, rfl⟩ := List.mem_map.1 hy
      exact (hf' i (List.mem_range.1 hi)).2.2
    · cases had
      refine ⟨g, off, rfl, fun _ => ?_, fun j u hu => ?_⟩
      · unfold World.shape? at hsh
        cases hg : w.heap[g]? with
        | none => simp [hg] at hsh
        | some o => exact (Array.getElem?_eq_some_iff.1 hg).1
      · obtain ⟨y, hy, hu'⟩ := ents_cell _ j u hu
        rw [List.getElem?_map] at hy
        obtain ⟨i, hi, rfl⟩ := Option.map_eq_some_iff.1 hy
        obtain ⟨hir, rfl⟩ := List.getElem?_eq_some_iff.1 hi
        have hj : j / 2 < n0 := by simpa using hir
        simp only [List.getElem_range] at hu'
        have hfc := hf' (j / 2) hj
        rw [Addr.add_lit, Addr.add_lit] at hfc
        rw [hu']
        split
        · rename_i h0
          rw [show off + j = off + j / 2 * 2 by omega]; exact hfc.1
        · rename_i h0
          rw [show off + j = off + (j / 2 * 2 + 1) by omega]; exact hfc.2.1
end Go.Proofs.Ytfllhakmjookkaa
