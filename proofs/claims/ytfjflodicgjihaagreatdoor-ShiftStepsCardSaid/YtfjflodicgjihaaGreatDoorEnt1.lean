/- Kinds of elements, entries of directories: walks (merged out of Kinds, Any, Entry, EntryB, EntryC, EntryD, EntryE, EntryP by strip.py). -/
import Derived.Maps.AppendAt
import Derived.Laws.OwnMore
import Derived.Below
import Derived.WalkSmall
import Derived.OwnWalk
import Derived.Deep.AppendLies
import Derived.Test.YtfjflodicgjihaaGreatDoorShelf
import Derived.Test.YtfjflodicgjihaaGreatDoorRows
import Derived.WalkKit
import Derived.ProofKit
import Derived.Deep.QuietTactic
import Derived.BigQuiet
import Derived.Outline
import Derived.WalkLawsBesides
import Derived.WalkSpells
import Derived.Lib.Hide
import Derived.Laws.RangeAny
import Derived.Laws.Runes
import Derived.Deep.WholeRow
import Derived.Lib.OthersKept
import Derived.Laws.StructEq
import Derived.IntWalk
set_option linter.unusedVariables false
set_option linter.unusedSimpArgs false
namespace Go.Proofs.YtfjflodicgjihaaGreatDoor
open Go Go.RowKit
open Go.Lib (run_next_any_at run_next_end_at iterAt_heap iterAt_size below_iterAt)

/-! ## Kinds -/

theorem ret_bool {a b : Bool} (h : a = b) : Ending.returned (.bool a) = .returned (.bool b) := by rw [h]
theorem ret_int {k : IntKind} {a b : Int} (h : a = b) : Ending.returned (.int k a) = .returned (.int k b) := by rw [h]
theorem ret_str {a b : ByteArray} (h : a = b) : Ending.returned (.string a) = .returned (.string b) := by rw [h]
theorem ret_int_bool {k : IntKind} {a b : Int} {c d : Bool} (h : a = b) (h' : c = d) : Ending.returned (.tuple #[.int k a, .bool c]) = .returned (.tuple #[.int k b, .bool d]) := by rw [h, h']
/-! ### Worlds -/
def Agree (S : Nat → Prop) (w w' : World) : Prop := ∀ k, S k → w'.heap[k]? = w.heap[k]?
/-- The blocks that are there. -/
def Old (w : World) : Nat → Prop := fun k => k < w.heap.size
theorem Agree.below {w w' : World} (h : Below w.heap.size w w') : Agree (Old w) w w' := fun k hk => h.block k hk
theorem Agree.grown {w w' : World} {row : Option Nat} (h : w.grownBy w' row) : Agree (fun k => k < w.heap.size ∧ some k ≠ row) w w' := fun k hk => h.block k hk.1 hk.2
theorem Agree.mono {S S' : Nat → Prop} {w w' : World} (h : Agree S w w') (hs : ∀ k, S' k → S k) : Agree S' w w' := fun k hk => h k (hs k hk)
theorem Agree.cell {S : Nat → Prop} {w w' : World} (h : Agree S w w') {g o : Nat} {v : Value} (hg : S g) (hc : w.cell? ⟨g, o, none⟩ = some v) : w'.cell? ⟨g, o, none⟩ = some v :=
  (World.cell?_of_block (h g hg)).trans hc
theorem bthen {w w1 w2 : World} (h : Below w.heap.size w w1) (k : Below w1.heap.size w1 w2) : Below w.heap.size w w2 := h.trans (k.mono h.size)
theorem bdrawn (w : World) (n : Nat) : Below w.heap.size w (w.drewN n) := below_drewN (Below.refl _ _) n
theorem balloc (w : World) (o : Obj) : Below w.heap.size w (w.alloc o) := (Below.refl _ _).alloc (Nat.le_refl _) o
theorem bcell {W w1 : World} (hb : Below W.heap.size W w1) : (∀ b o, b < W.heap.size → w1.cell? ⟨b, o, none⟩ = W.cell? ⟨b, o, none⟩) ∧ (∀ b o, b < W.heap.size → w1.frozen? ⟨b, o, none⟩ = W.frozen? ⟨b, o, none⟩) :=
  ⟨fun b o h => hb.cell (p := ⟨b, o, none⟩) h, fun b o h => hb.frozen (p := ⟨b, o, none⟩) h⟩
theorem old_size {w w' : World} (h : w.heap.size ≤ w'.heap.size) : ∀ k, Old w k → Old w' k := fun k hk => Nat.lt_of_lt_of_le hk h
/-! ### Rows of cells that stand for lists -/
def Reps {α : Type} (R : α → List Value → Prop) (size : Nat) (ps : List α) (cs : List Value) : Prop :=
  cs.length = ps.length * size ∧ ∀ j p, ps[j]? = some p → R p ((cs.drop (j * size)).take size)
theorem Reps.nil {α : Type} (R : α → List Value → Prop) (size : Nat) : Reps R size [] [] := ⟨by simp, fun j p h => by simp at h⟩
theorem Reps.imp {α : Type} {R R' : α → List Value → Prop} {size : Nat} {ps : List α} {cs : List Value} (h : Reps R size ps cs) (hR : ∀ p c, R p c → R' p c) : Reps R' size ps cs := ⟨h.1, fun j p hj => hR _ _ (h.2 j p hj)⟩
theorem Reps.append {α : Type} {R : α → List Value → Prop} {size : Nat} {ps qs : List α} {cs ds : List Value} (h : Reps R size ps cs) (k : Reps R size qs ds) : Reps R size (ps ++ qs) (cs ++ ds) := by
  refine ⟨by rw [List.length_append, h.1, k.1, List.length_append, Nat.add_mul], fun j p hj => ?_⟩
  rcases Nat.lt_or_ge j ps.length with hlt | hge
  · rw [List.getElem?_append_left hlt] at hj
    have h1 : j * size + size ≤ cs.length := by rw [h.1, ← Nat.succ_mul]; exact Nat.mul_le_mul_right _ hlt
    rw [List.drop_append_of_le_length (by omega), List.take_append_of_le_length (by rw [List.length_drop]; omega)]
    exact h.2 j p hj
  · rw [List.getElem?_append_right hge] at hj
    have h2 := k.2 _ p hj
    have e : (cs ++ ds).drop (j * size) = ds.drop ((j - ps.length) * size) := by
      have : j * size = cs.length + (j - ps.length) * size := by rw [h.1, ← Nat.add_mul]; congr 1; omega
      rw [this, List.drop_append]
      simp
    rw [e]; exact h2
theorem Reps.one {α : Type} {R : α → List Value → Prop} {size : Nat} {p : α} {c : List Value} (h : R p c) (hc : c.length = size) : Reps R size [p] c :=
  ⟨by simp [hc], fun j q hj => by
    rcases j with _ | j
    · obtain rfl : p = q := by simpa using hj
      simp only [Nat.zero_mul, List.drop_zero]
      rw [← hc, List.take_length]; exact h
    · simp at hj⟩
theorem Reps.sub {α : Type} {R : α → List Value → Prop} {size : Nat} {ps : List α} {cs : List Value} (h : Reps R size ps cs) (lo n : Nat) (hn : lo + n ≤ ps.length) : Reps R size ((ps.drop lo).take n) ((cs.drop (lo * size)).take (n * size)) := by
  have hb : lo * size + n * size ≤ ps.length * size := by rw [← Nat.add_mul]; exact Nat.mul_le_mul_right _ hn
  refine ⟨by rw [List.length_take, List.length_drop, h.1, List.length_take, List.length_drop, Nat.min_eq_left (by omega), Nat.min_eq_left (by omega)], fun j p hj => ?_⟩
  have hjn : j < n := by
    have := (List.getElem?_eq_some_iff.1 hj).1
    rw [List.length_take] at this; omega
  rw [List.getElem?_take, if_pos hjn, List.getElem?_drop] at hj
  have h2 := h.2 _ p hj
  have hb2 : j * size + size ≤ n * size := by rw [← Nat.succ_mul]; exact Nat.mul_le_mul_right _ hjn
  rw [List.drop_take, List.drop_drop, List.take_take, Nat.min_eq_left (by omega)]
  rw [Nat.add_mul] at h2
  exact h2
/-- A kind of element: how many cells, and what they say. S: the blocks it may lean on. -/
structure Kind (α : Type) where
  sz : Nat
  At : (Nat → Prop) → World → α → List Value → Prop
  len : ∀ {S w x cs}, At S w x cs → cs.length = sz
  one : ∀ {S w x cs}, At S w x cs → ∀ v ∈ cs, v.oneCell' = true
  mono : ∀ {S S' : Nat → Prop} {w x cs}, (∀ k, S k → S' k) → At S w x cs → At S' w x cs
  keep : ∀ {S w w' x cs}, Agree S w w' → At S w x cs → At S w' x cs
def scalar {α : Type} (enc : α → Value) (h1 : ∀ x, (enc x).oneCell' = true) : Kind α where
  sz := 1
  At _ _ x cs := cs = [enc x]
  len h := by rw [h]; rfl
  one h := by rw [h]; intro v hv; rw [List.mem_singleton.1 hv]; exact h1 _
  mono _ h := h
  keep _ h := h
def intK (k : IntKind) : Kind Int := scalar (Value.int k) (fun _ => rfl)
def boolK : Kind Bool := scalar Value.bool (fun _ => rfl)
def strK : Kind ByteArray := scalar Value.string (fun _ => rfl)
/-- A slice that reads as a list. -/
def Kind.Sl {α : Type} (d : Kind α) (S : Nat → Prop) (w : World) (v : Value) (xs : List α) : Prop :=
  ∃ a cap cells, v = .slice a xs.length cap ∧ xs.length ≤ cap ∧ cap ≤ 9223372036854775807 ∧ Reps (d.At S w) d.sz xs cells ∧ (a = none → cap = 0) ∧
    ∀ ad, a = some ad → ∃ g off, ad = ⟨g, off, none⟩ ∧ (0 < xs.length → S g) ∧ ∀ j u, cells[j]? = some u → w.cell? ⟨g, off + j, none⟩ = some u
section
variable {α : Type} {d : Kind α} {S S' : Nat → Prop} {w w' : World} {v : Value} {xs : List α}
theorem Sl.mono (hs : ∀ k, S k → S' k) (h : d.Sl S w v xs) : d.Sl S' w v xs := by
  obtain ⟨a, cap, cells, h1, h2, h3, h4, h5, h6⟩ := h
  refine ⟨a, cap, cells, h1, h2, h3, h4.imp fun _ _ => d.mono hs, h5, fun ad e => ?_⟩
  obtain ⟨g, off, e1, e2, e3⟩ := h6 ad e
  exact ⟨g, off, e1, fun h => hs _ (e2 h), e3⟩
theorem Sl.keep (ha : Agree S w w') (h : d.Sl S w v xs) : d.Sl S w' v xs := by
  obtain ⟨a, cap, cells, h1, h2, h3, h4, h5, h6⟩ := h
  refine ⟨a, cap, cells, h1, h2, h3, h4.imp fun _ _ => d.keep ha, h5, fun ad e => ?_⟩
  obtain ⟨g, off, e1, e2, e3⟩ := h6 ad e
  refine ⟨g, off, e1, e2, fun j u hu => ?_⟩
  by_cases hx : 0 < xs.length
  · exact ha.cell (e2 hx) (e3 j u hu)
  · have hl := h4.1
    obtain ⟨hj, _⟩ := List.getElem?_eq_some_iff.1 hu
    have : xs.length = 0 := by omega
    rw [hl, this] at hj
    omega
theorem Sl.val (h : d.Sl S w v xs) : ∃ a cap, v = .slice a xs.length cap ∧ xs.length ≤ cap := by
  obtain ⟨a, cap, _, h1, h2, _⟩ := h
  exact ⟨a, cap, h1, h2⟩
theorem Sl.nil (d : Kind α) (S : Nat → Prop) (w : World) : d.Sl S w (.slice none 0 0) [] :=
  ⟨none, 0, [], rfl, Nat.le_refl _, by decide, Reps.nil _ _, fun _ => rfl, fun _ e => by cases e⟩
theorem Sl.below (hb : Below w.heap.size w w') (h : d.Sl (Old w) w v xs) : d.Sl (Old w') w' v xs :=
  Sl.mono (old_size hb.size) (Sl.keep (Agree.below hb) h)
/-- An element's cells. -/
theorem Sl.get (h : d.Sl S w v xs) {i : Nat} {x : α} (hx : xs[i]? = some x) :
    ∃ g off cap cs, v = .slice (some ⟨g, off, none⟩) xs.length cap ∧ xs.length ≤ cap ∧ cap ≤ 9223372036854775807 ∧ S g ∧ d.At S w x cs ∧ ∀ j u, cs[j]? = some u → w.cell? ⟨g, off + (i * d.sz + j), none⟩ = some u := by
  obtain ⟨a, cap, cells, rfl, h2, h3, h4, h5, h6⟩ := h
  have hi := (List.getElem?_eq_some_iff.1 hx).1
  cases a with
  | none => have := h5 rfl; omega
  | some ad =>
    obtain ⟨g, off, rfl, e2, e3⟩ := h6 _ rfl
    refine ⟨g, off, cap, (cells.drop (i * d.sz)).take d.sz, rfl, h2, h3, e2 (by omega), h4.2 i x hx, fun j u hu => ?_⟩
    rw [List.getElem?_take] at hu
    split at hu
    · rw [List.getElem?_drop] at hu
      exact e3 _ u hu
    · cases hu
end
/-- A slice that the call has made, in a row of its own (from block 'base' on). -/
def Kind.Own {α : Type} (d : Kind α) (e : TypeId) (base : Nat) (w : World) (v : Value) (xs : List α) : Prop :=
  ∃ cells, w.ownsRow base e d.sz v xs.length cells ∧ Reps (d.At (fun k => k < w.heap.size ∧ some k ≠ v.ownBlock) w) d.sz xs cells
section
variable {α : Type} {d : Kind α} {e : TypeId} {base : Nat} {w w' : World} {v : Value} {xs : List α}
theorem Own.nil (d : Kind α) (e : TypeId) (base : Nat) (w : World) : d.Own e base w (.slice none 0 0) [] := ⟨[], World.ownsRow_nil _ _ _ _, Reps.nil _ _⟩
/-- An empty literal: a row without cells. -/
theorem Own.lit0 (d : Kind α) (e : TypeId) (base : Nat) (w : World) (hb : base ≤ w.heap.size) : d.Own e base (w.alloc (.cells #[] e)) (.slice (some ⟨w.heap.size, 0, none⟩) 0 0) [] :=
  ⟨[], World.ownsRow_made w #[] 0 hb (by decide) (by simp), Reps.nil _ _⟩
theorem Own.row (h : d.Own e base w v xs) : ∀ k, v.ownBlock = some k → base ≤ k ∧ k < w.heap.size := by
  obtain ⟨cells, ho, _⟩ := h
  exact ho.lt
theorem Own.lower {base' : Nat} (h : d.Own e base w v xs) (hb : base' ≤ base) : d.Own e base' w v xs := by
  obtain ⟨cells, ho, hr⟩ := h
  exact ⟨cells, ⟨ho.1, ho.2.elim Or.inl (fun ⟨g, cap, cur, hv, hg, r⟩ => Or.inr ⟨g, cap, cur, hv, Nat.le_trans hb hg, r⟩)⟩, hr⟩
theorem Own.grow (h : d.Own e base w v xs) (hg : w.grownBy w' none) : d.Own e base w' v xs := by
  obtain ⟨cells, ho, hr⟩ := h
  refine ⟨cells, ho.kept hg (by cases v.ownBlock <;> simp), hr.imp fun x cs hx => ?_⟩
  exact d.mono (fun k hk => ⟨Nat.lt_of_lt_of_le hk.1 hg.size, hk.2⟩) (d.keep ((Agree.grown hg).mono fun k hk => ⟨hk.1, by simp⟩) hx)
theorem Own.below (h : d.Own e base w v xs) (hb : Below w.heap.size w w') : d.Own e base w' v xs :=
  Own.grow h ⟨hb.os, hb.tape, hb.output, hb.size, fun k hk _ => hb.block k hk⟩
theorem Own.alloc (h : d.Own e base w v xs) (o : Obj) : d.Own e base (w.alloc o) v xs := Own.below h (balloc w o)
theorem Own.drewN (h : d.Own e base w v xs) (n : Nat) : d.Own e base (w.drewN n) v xs := Own.below h (bdrawn w n)
theorem Own.sl (h : d.Own e base w v xs) : d.Sl (Old w) w v xs := by
  obtain ⟨cells, ho, hr⟩ := h
  have hr' := hr.imp (R' := d.At (Old w) w) fun x cs => d.mono fun k hk => hk.1
  rcases ho.2 with ⟨rfl, h0⟩ | ⟨g, cap, cur, rfl, hb, hg, hnc, hcm, _⟩
  · have hx : xs = [] := List.eq_nil_of_length_eq_zero h0
    subst hx
    exact Sl.nil _ _ _
  · refine ⟨_, cap, cells, rfl, hnc, by simpa [maxLen] using hcm, hr', (fun he => by cases he), fun ad he => ?_⟩
    cases he
    refine ⟨g, 0, rfl, fun _ => (Array.getElem?_eq_some_iff.1 hg).1, fun j u hu => ?_⟩
    have := ho.cells (g := g) rfl j u hu
    rwa [show (⟨g, 0, none⟩ : Addr).add j = ⟨g, 0 + j, none⟩ by unfold Addr.add; split <;> simp_all] at this
end
section
variable {P : Program} {ops : Array Oper} {rest : List Oper} {o : Oper} {a : Act} {Q : Exit → Act → World → Prop} {α : Type}
theorem grownBy_trans0 {w w1 w2 : World} {row : Option Nat} (h : w.grownBy w1 none) (k : w1.grownBy w2 row) : w.grownBy w2 row :=
  ⟨k.os.trans h.os, k.tape.trans h.tape, k.output.trans h.output, Nat.le_trans h.size k.size, fun i hi hr => (k.block i (Nat.lt_of_lt_of_le hi h.size) hr).trans (h.block i hi (by simp))⟩
/-- append(v, sv...): v is the call's own; what is appended leans on other rows. -/
theorem wp_append (d : Kind α) {W : World} (base : Nat) (hgd : o.guard = none) (s x : Operand) (t e : TypeId) (z : Value) (bytes : Nat)
    (ho : o.op = .call { callee := .builtin .append, args := #[s, x], argTypes := #[t, t] })
    (ht : P.underlying t = some (.slice e)) (hinfo : (P.info? e).map (fun i => (i.zero, i.size, i.bytes)) = some (some z, d.sz, bytes)) (hz : z.cells.size = d.sz) (hs0 : 0 < d.sz) (hb0 : 0 < bytes)
    (v : Value) (xs : List α) (hs : a.eval s = v) (HO : d.Own e base W v xs)
    (ad : Addr) (c : Nat) (ys : List α) (news : List Value) (hx : a.eval x = .slice (some ad) ys.length c) (hr : Reps (d.At (fun k => k < W.heap.size ∧ some k ≠ v.ownBlock) W) d.sz ys news)
    (hnews : ∀ j u, news[j]? = some u → W.cell? (ad.add j) = some u)
    (hbase : base ≤ W.heap.size) (hl : (xs.length + ys.length) * bytes ≤ 140737488355328)
    (h : ∀ v1 w1, d.Own e base w1 v1 (xs ++ ys) → W.grownBy w1 v.ownBlock → (v1.ownBlock = v.ownBlock ∨ v1.ownBlock = some W.heap.size) → wpList P ops Q rest (a.put o.dst v1) w1) :
    wpList P ops Q (o :: rest) a W := by
  obtain ⟨i0, hi, hzz⟩ := Option.map_eq_some_iff.1 hinfo
  simp only [Prod.mk.injEq] at hzz
  obtain ⟨hz0, hz1, hz2⟩ := hzz
  obtain ⟨cells, hown, hre⟩ := HO
  have hlen : xs.length + ys.length ≤ 140737488355328 := Nat.le_trans (Nat.le_mul_of_pos_right _ hb0) hl
  refine wpList_append_own_at W hgd s x t ho base e i0 z d.sz bytes ht hi hz0 hz1 hz2 hz hs0 v xs.length cells hs hown ad ys.length c news hx hr.1 hnews ?_ (by simp only [maxLen]; omega) hl hbase ?_
  · intro u hu
    obtain ⟨j, hj⟩ := List.mem_iff_getElem?.1 hu
    obtain ⟨hjl, _⟩ := List.getElem?_eq_some_iff.1 hj
    rw [hr.1] at hjl
    have hq : j / d.sz < ys.length := Nat.div_lt_of_lt_mul (by rw [Nat.mul_comm]; exact hjl)
    have hp := hr.2 _ _ (List.getElem?_eq_getElem hq)
    refine d.one hp u ?_
    refine List.mem_iff_getElem?.2 ⟨j % d.sz, ?_⟩
    rw [List.getElem?_take, if_pos (Nat.mod_lt _ hs0), List.getElem?_drop]
    rw [show j / d.sz * d.sz + j % d.sz = j by rw [Nat.mul_comm]; exact Nat.div_add_mod j d.sz]
    exact hj
  · intro v1 w1 hown1 hg _ hat
    have hag := Agree.grown hg
    have hsub : ∀ k, (k < W.heap.size ∧ some k ≠ v.ownBlock) → (k < w1.heap.size ∧ some k ≠ v1.ownBlock) := by
      intro k ⟨hk1, hk2⟩
      refine ⟨Nat.lt_of_lt_of_le hk1 hg.size, ?_⟩
      rcases hat with hat | hat
      · rw [hat]; exact hk2
      · rw [hat]; intro he; injection he with he; omega
    refine h v1 w1 ⟨cells ++ news, by rw [List.length_append]; exact hown1, ?_⟩ hg hat
    exact (hre.imp fun y cs hy => d.mono hsub (d.keep hag hy)).append (hr.imp fun y cs hy => d.mono hsub (d.keep hag hy))
/-- append(v, x) of one element, whose cells lie in the variadic's new box. -/
theorem wp_append1 (d : Kind α) {W : World} (base : Nat) (hgd : o.guard = none) (s x : Operand) (t e : TypeId) (z : Value) (bytes : Nat)
    (ho : o.op = .call { callee := .builtin .append, args := #[s, x], argTypes := #[t, t] })
    (ht : P.underlying t = some (.slice e)) (hinfo : (P.info? e).map (fun i => (i.zero, i.size, i.bytes)) = some (some z, d.sz, bytes)) (hz : z.cells.size = d.sz) (hs0 : 0 < d.sz) (hb0 : 0 < bytes)
    (v : Value) (xs : List α) (hs : a.eval s = v) (HO : d.Own e base W v xs) (y : α) (cs : List Value) (g : Nat) (hx : a.eval x = .slice (some ⟨g, 0, none⟩) 1 1) (hgW : g = W.heap.size)
    (hy : d.At (fun k => k < W.heap.size ∧ some k ≠ v.ownBlock) W y cs)
    (hbase : base ≤ W.heap.size) (hl : (xs.length + 1) * bytes ≤ 140737488355328)
    (h : ∀ v1 w1, d.Own e base w1 v1 (xs ++ [y]) → W.grownBy w1 v.ownBlock → (v1.ownBlock = v.ownBlock ∨ ∃ b, v1.ownBlock = some b ∧ W.heap.size ≤ b) → wpList P ops Q rest (a.put o.dst v1) w1) :
    wpList P ops Q (o :: rest) a (W.alloc (.cells cs.toArray e)) := by
  subst hgW
  have hk := World.grownBy_alloc W (.cells cs.toArray e) none
  have hy' : d.At (fun k => k < (W.alloc (.cells cs.toArray e)).heap.size ∧ some k ≠ v.ownBlock) (W.alloc (.cells cs.toArray e)) y cs :=
    d.mono (fun k hk' => ⟨by simp; omega, hk'.2⟩) (d.keep ((Agree.grown hk).mono fun k hk' => ⟨hk'.1, by simp⟩) hy)
  refine wp_append d base hgd s x t e z bytes ho ht hinfo hz hs0 hb0 v xs hs (Own.grow HO hk) ⟨W.heap.size, 0, none⟩ 1 [y] cs hx (Reps.one hy' (d.len hy)) ?_ (by simp; omega) hl ?_
  · simpa using World.news_of_block (cs := cs.toArray) (t := e) (fr := (0, 0)) (heap_alloc_new W (.cells cs.toArray e))
  · intro v1 w1 hown hg hat
    refine h v1 w1 hown (grownBy_trans0 hk hg) ?_
    rcases hat with hat | hat
    · exact .inl hat
    · exact .inr ⟨_, hat, by simp⟩
end

/-! ## Any -/

def bad (c : UInt8) : Bool := c == 47 || c == 0
def hasBad (s : ByteArray) : Bool := s.data.toList.any bad
def badChars : ByteArray := ⟨#[47, 0]⟩
theorem idx_bad : ∀ n, n < 128 → Lib.indexByte [47, 0] (n.toUInt8) = if n = 47 then 0 else if n = 0 then 1 else -1 := by decide +kernel
theorem ixb_nil (c : Int) (w : World) : Calls Tryz.prog 231 #[.string ⟨#[]⟩, .int .u8 c] w fun e w' => e = .returned (.int .i64 (-1)) ∧ w' = w := Tryz.strings_IndexByte ⟨#[]⟩ c w
set_option maxRecDepth 100000 in
theorem idxr_any (r : Int) (hv : Utf8.valid r = true) (w : World) :
    Calls Tryz.prog 235 #[.string ⟨#[47, 0]⟩, .int .i32 r] w fun e w' => e = .returned (.int .i64 (if r = 47 then 0 else if r = 0 then 1 else -1)) ∧ Below w.heap.size w w' := by
  have hv0 : 0 ≤ r ∧ r ≤ 1114111 := by
    unfold Utf8.valid at hv; simp at hv; omega
  by_cases h128 : r < 128
  · refine (Tryz.strings_IndexRune_ascii ⟨#[47, 0]⟩ r w hv0.1 h128).mono ?_
    rintro e w' ⟨rfl, rfl⟩
    obtain ⟨n, rfl⟩ := Int.eq_ofNat_of_zero_le hv0.1
    have := idx_bad n (by omega)
    refine ⟨?_, Below.refl _ _⟩
    rw [Int.toNat_natCast, show (⟨#[47, 0]⟩ : ByteArray).data.toList = [47, 0] from rfl, this]
    by_cases h1 : n = 47
    · rw [if_pos h1, if_pos (by omega)]
    · by_cases h2 : n = 0
      · rw [if_neg h1, if_pos h2, if_neg (by omega), if_pos (by omega)]
      · rw [if_neg h1, if_neg h2, if_neg (by omega), if_neg (by omega)]
  · have e1 : (if r = 47 then (0 : Int) else if r = 0 then 1 else -1) = -1 := by rw [if_neg (by omega), if_neg (by omega)]
    rw [e1]
    have t1 : decide (r < 128) = false := by simpa using h128
    have t0 : decide ((0 : Int) ≤ r) = true := by simpa using hv0.1
    by_cases hE : r = 65533
    · subst hE
      go_enter Tryz.func235, Tryz.ntmps235
      go_wp2
      go_loopw [] (fun w' => ∃ pos, pos ≤ 2 ∧ w' = w.iter ⟨#[47, 0]⟩ pos) (fun w' => 2 - w'.iterPos w.heap.size)
      case atStart => exact ⟨0, by omega, rfl⟩
      case round =>
        obtain ⟨pos, hp, rfl⟩ := hrel
        rcases (by omega : pos = 0 ∨ pos = 1 ∨ pos = 2) with rfl | rfl | rfl
        · have hnx : ∀ ty, (Instr.next (.pointer (some ⟨w.heap.size, 0, none⟩)) true ty).run Tryz.prog (w.iter ⟨#[47, 0]⟩ 0) = .ok (.tuple #[.bool true, .int .i64 0, .int .i32 47]) (w.iter ⟨#[47, 0]⟩ 1) := fun ty => run_next_any w ⟨#[47, 0]⟩ 0 ty (by decide)
          go_wp2
          go_roundw
          case rel => exact ⟨1, by omega, rfl⟩
          case measure => simp
        · have hnx : ∀ ty, (Instr.next (.pointer (some ⟨w.heap.size, 0, none⟩)) true ty).run Tryz.prog (w.iter ⟨#[47, 0]⟩ 1) = .ok (.tuple #[.bool true, .int .i64 1, .int .i32 0]) (w.iter ⟨#[47, 0]⟩ 2) := fun ty => run_next_any w ⟨#[47, 0]⟩ 1 ty (by decide)
          go_wp2
          go_roundw
          case rel => exact ⟨2, by omega, rfl⟩
          case measure => simp
        · have hnx : ∀ ty, (Instr.next (.pointer (some ⟨w.heap.size, 0, none⟩)) true ty).run Tryz.prog (w.iter ⟨#[47, 0]⟩ 2) = .ok (.tuple #[.bool false]) (w.iter ⟨#[47, 0]⟩ 2) := fun ty => run_next_end w ⟨#[47, 0]⟩ 2 ty (by decide)
          go_wp2
          go_ret
          exact ⟨rfl, balloc _ _⟩
    · obtain ⟨hs2, hs4, hl⟩ := Go.encode_facts r hv (by omega)
      have tE : (r == 65533) = false := beq_eq_false_iff_ne.2 hE
      have tV : Lib.validRune r = true := by unfold Lib.validRune; unfold Utf8.valid at hv; simp at hv ⊢; omega
      generalize hes : Utf8.encode r = es at *
      go_enter Tryz.func235, Tryz.ntmps235
      go_wp2_with fail
      refine (Tryz.utf8_ValidRune r _).mono ?_
      rintro e w' ⟨rfl, rfl⟩
      rw [tV]
      have hlast := hl (by omega)
      clear hl
      have HL := Lib.hid hlast
      clear hlast
      by_cases h2 : es.size = 2
      · obtain ⟨a, b, rfl⟩ : ∃ a b, es = ⟨#[a, b]⟩ := by
          obtain ⟨⟨l⟩⟩ := es
          match l, h2 with
          | [a, b], _ => exact ⟨a, b, rfl⟩
        have hb : 128 ≤ b.toNat := HL.out
        clear HL hs2 hs4 h2
        have tb : ((0 : Int) != (b.toNat : Int)) = true := by rw [bne_iff_ne]; omega
        have tb2 : ((((⟨#[47, 0]⟩ : ByteArray)[1]'(by decide)).toNat : Int) != (((⟨#[a, b]⟩ : ByteArray)[1]'(by show 1 < 2; omega)).toNat : Int)) = true := tb
        go_wp2
        go_step3
        go_wp2
        go_loop [9] (fun i => i = .int .i64 1) (fun _ => 0)
        case atStart => rfl
        case round =>
          obtain rfl := hrel
          go_wp2
          go_step3
          go_wp2
          go_quiet (fail)
          have hB := Lib.hid (bdrawn w' nq)
          generalize w'.drewN nq = w2 at hB ⊢
          have hw2 : IntKind.i64.wrap (1 + 1) = 2 := by decide
          have hsl : ∀ wx, (Instr.slice 9 (.string ⟨#[47, 0]⟩) (some (.int .i64 2)) none none).run Tryz.prog wx = .ok (.string ⟨#[]⟩) wx := fun _ => by kernel_rfl
          go_wp2
          go_quiet ((go_at_call 231; exact Calls.quiet_of_same (ixb_nil _ _)))
          go_wp2
          rw [Exit.noGoto_ret]
          go_wp2
          rw [Exit.noGoto_ret]
          go_wp2
          go_ret
          exact ⟨rfl, bthen hB.out (bdrawn _ _)⟩
      · have h3 : 3 ≤ es.size := by omega
        clear HL h2 hs2
        go_wp2
        go_step3
        go_wp2
        go_loop [9] (fun i => i = .int .i64 ((es.size : Int) - 1)) (fun _ => 0)
        case atStart => rfl
        case round =>
          obtain rfl := hrel
          go_wp2
          go_ret
          exact ⟨rfl, Below.refl _ _⟩
/-! ### Reading runes: what is passed over is never one of the two -/
theorem decode_valid (s : ByteArray) (pos : Nat) : Utf8.valid ((Utf8.decode s pos).1 : Int) = true := by
  unfold Utf8.decode
  simp only []
  have hlt := (s.get! (pos + 0)).toNat_lt
  repeat' split
  all_goals simp_all [Utf8.valid, Utf8.runeError]
  all_goals omega
theorem decode_cont (s : ByteArray) (pos k : Nat) (h0 : 0 < k) (hk : k < (Utf8.decode s pos).2) : pos + k < s.size ∧ (s.get! (pos + k)).toNat / 64 = 2 := by
  unfold Utf8.decode at hk
  simp only [] at hk
  split at hk
  · simp at hk; omega
  · split at hk
    · rename_i h; simp at h
      split at hk
      · obtain rfl : k = 1 := by simp at hk; omega
        exact ⟨h.2.1, h.2.2⟩
      · simp at hk; omega
    · split at hk
      · rename_i h; simp at h
        split at hk
        · rcases (by simp at hk; omega : k = 1 ∨ k = 2) with rfl | rfl
          · exact ⟨h.1.2.1, h.1.2.2⟩
          · exact ⟨h.2.1, h.2.2⟩
        · simp at hk; omega
      · split at hk
        · rename_i h; simp at h
          split at hk
          · rcases (by simp at hk; omega : k = 1 ∨ k = 2 ∨ k = 3) with rfl | rfl | rfl
            · exact ⟨h.1.1.2.1, h.1.1.2.2⟩
            · exact ⟨h.1.2.1, h.1.2.2⟩
            · exact ⟨h.2.1, h.2.2⟩
          · simp at hk; omega
        · simp at hk; omega
def NoBad (s : ByteArray) (pos : Nat) : Prop := ∀ j (h : j < s.size), j < pos → bad s[j] = false
theorem get_eq (s : ByteArray) (j : Nat) (h : j < s.size) : s.get! j = s[j] := by
  simp [ByteArray.get!, getElem!_pos, h]; rfl
theorem noBad_high {s : ByteArray} {pos : Nat} (h : NoBad s pos) (hp : pos < s.size) (hh : 128 ≤ s[pos].toNat) : NoBad s (pos + (Utf8.decode s pos).2) := by
  intro j hj hlt
  by_cases h1 : j < pos
  · exact h j hj h1
  · by_cases h2 : j = pos
    · subst h2
      simp [bad]
      constructor <;> (intro e; rw [e] at hh; simp at hh)
    · obtain ⟨k, rfl⟩ : ∃ k, j = pos + k := ⟨j - pos, by omega⟩
      have := (decode_cont s pos k (by omega) (by omega)).2
      rw [get_eq s _ hj] at this
      simp [bad]
      constructor <;> (intro e; rw [e] at this; simp at this)
theorem noBad_step {s : ByteArray} {pos : Nat} (h : NoBad s pos) (hp : pos < s.size) (hb : bad s[pos] = false) : NoBad s (pos + 1) := by
  intro j hj hlt
  by_cases h1 : j < pos
  · exact h j hj h1
  · obtain rfl : j = pos := by omega
    exact hb
theorem hasBad_of {s : ByteArray} {pos : Nat} (hp : pos < s.size) (hb : bad s[pos] = true) : hasBad s = true := by
  unfold hasBad
  rw [List.any_eq_true]
  exact ⟨s[pos], by simp; exact Array.getElem_mem _, hb⟩
theorem hasBad_not {s : ByteArray} (h : NoBad s s.size) : hasBad s = false := by
  unfold hasBad
  rw [List.any_eq_false]
  intro x hx
  obtain ⟨j, hj, rfl⟩ := List.mem_iff_getElem.1 hx
  have hj' : j < s.size := by simpa using hj
  have h1 := h j hj' hj'
  have h2 : bad s.data.toList[j] = false := by rw [Array.getElem_toList]; exact h1
  rw [h2]; simp
theorem bad_int (c : UInt8) : bad c = ((c.toNat : Int) == 47 || (c.toNat : Int) == 0) := by
  unfold bad
  rw [Bool.eq_iff_iff]
  simp [← UInt8.toNat_inj]
  omega
def IdxTells (s : ByteArray) (w : World) (e : Ending) (w' : World) : Prop := ∃ r : Int, e = .returned (.int .i64 r) ∧ decide (0 ≤ r) = hasBad s ∧ Below w.heap.size w w'

/-! ## Entry -/

structure Ent where
  name : ByteArray
  ino : Int
/-- An entry's two cells. -/
def entK : Kind Ent where
  sz := 2
  At _ _ x cs := cs = [.string x.name, .int .i64 x.ino] ∧ x.name.size ≤ maxLen
  len h := by rw [h.1]; rfl
  one h := by rw [h.1]; intro v hv; simp at hv; rcases hv with rfl | rfl <;> rfl
  mono _ h := h
  keep _ h := h
theorem ent_at {S : Nat → Prop} {w : World} {v : Value} {xs : List Ent} (h : entK.Sl S w v xs) {i : Nat} {x : Ent} (hx : xs[i]? = some x) :
    ∃ g off cap, v = .slice (some ⟨g, off, none⟩) xs.length cap ∧ xs.length ≤ cap ∧ cap ≤ 9223372036854775807 ∧ (S g ∧ x.name.size ≤ maxLen) ∧ w.cell? ⟨g, off + i * 2, none⟩ = some (.string x.name) ∧ w.cell? ⟨g, off + i * 2 + 1, none⟩ = some (.int .i64 x.ino) := by
  obtain ⟨g, off, cap, cs, rfl, h1, h2, h3, ⟨rfl, h5⟩, h4⟩ := Sl.get h hx
  exact ⟨g, off, cap, rfl, h1, h2, ⟨h3, h5⟩, h4 0 _ rfl, h4 1 _ rfl⟩
theorem drop_cons {α : Type} {l : List α} {k : Nat} {x : α} (h : l[k]? = some x) : l.drop k = x :: l.drop (k + 1) := by
  obtain ⟨hk, rfl⟩ := List.getElem?_eq_some_iff.1 h
  exact List.drop_eq_getElem_cons hk
theorem drop_end {α : Type} (l : List α) : l.drop l.length = [] := List.drop_length
theorem take_snoc1 {α : Type} {l : List α} {k : Nat} {x : α} (h : l[k]? = some x) : l.take (k + 1) = l.take k ++ [x] := by
  obtain ⟨hk, rfl⟩ := List.getElem?_eq_some_iff.1 h
  rw [List.take_succ_eq_append_getElem hk]
/-! ### The plain functions -/
def findE : List Ent → ByteArray → Int × Bool
  | [], _ => (-1, false)
  | x :: l, n => if (x.name.toList == n.toList) = true then (x.ino, true) else findE l n
def legalE (n : ByteArray) : Int :=
  if n.toList.isEmpty = true then 1 else if (n.toList == [46]) = true then 1 else if (n.toList == [46, 46]) = true then 1 else if hasBad n = true then 1 else if 12 < n.size then 9 else 0
def leS (a b : ByteArray) : Bool := Op.bytesLess a.toList b.toList || a.toList == b.toList
def sortedF : ByteArray → List Ent → Bool
  | _, [] => true
  | last, x :: l => if (legalE x.name != 0) = true then false else if leS x.name last = true then false else sortedF x.name l
def sortedE (l : List Ent) : Bool := sortedF ⟨#[]⟩ l
theorem findr_any (l : List Ent) (v : Value) (n : ByteArray) (w : World) (h : entK.Sl (Old w) w v l) (hl : l.length ≤ 1000) :
    Calls Tryz.prog 162 #[v, .string n] w fun e w' => e = .returned (.tuple #[.int .i64 (findE l n).1, .bool (findE l n).2]) ∧ w = w' := by
  have hfin : ∀ a b, findE l n = (a, b) → Ending.returned (.tuple #[.int .i64 a, .bool b]) = Ending.returned (.tuple #[.int .i64 (findE l n).1, .bool (findE l n).2]) := fun a b h => by rw [h]
  generalize hR : findE l n = R at hfin ⊢
  have HR := Lib.hid hR
  have HF := Lib.hid hfin
  clear hR hfin
  generalize hE : (Ending.returned (.tuple #[.int .i64 R.1, .bool R.2])) = E at *
  clear hE
  obtain ⟨av, cap, hvv, hcapv⟩ := Sl.val h
  subst hvv
  have H := Lib.hid h
  clear h
  obtain ⟨L, hL⟩ : ∃ n, l.length = n := ⟨_, rfl⟩
  rw [hL] at hcapv ⊢
  try rw [hL] at hl
  have HL := Lib.hid hL
  clear hL
  go_enter Tryz.func162, Tryz.ntmps162
  go_wp2
  go_loop [6] (fun i => ∃ k : Nat, k ≤ L ∧ i = .int .i64 k ∧ Hid (findE (l.drop k) n = R)) (fun i => L - (intOf i).toNat)
  case atStart => exact ⟨0, by omega, rfl, HR.out⟩
  case round =>
    obtain ⟨k, hk, rfl, hr⟩ := hrel
    by_cases hlt : k < L
    · obtain ⟨x, hx⟩ : ∃ x, l[k]? = some x := ⟨_, List.getElem?_eq_getElem (by rw [HL.out]; exact hlt)⟩
      obtain ⟨g, off, cap', he, _, _, hS, c0, c1⟩ := ent_at H.out hx
      rw [HL.out] at he
      injection he with he1 he2 he3
      subst he1 he3
      clear he2
      have hr' := hr.out
      rw [drop_cons hx] at hr'
      unfold findE at hr'
      clear hr hx
      cases hb : (x.name.toList == n.toList)
      · rw [hb] at hr'
        simp only [Bool.false_eq_true, if_false, if_true] at hr'
        have HR' := Lib.hid hr'
        clear hr'
        go_wp2
        go_round
        case rel => exact ⟨k + 1, by omega, by go_num, HR'⟩
        case measure => simp [intOf]; omega
      · rw [hb] at hr'
        simp only [Bool.false_eq_true, if_false, if_true] at hr'
        have HR' := Lib.hid hr'
        clear hr'
        go_wp2
        go_ret2
        exact ⟨HF.out _ _ HR'.out.symm, rfl⟩
    · obtain rfl : k = L := by omega
      have HR' := Lib.hid (show findE [] n = R by have := hr.out; rwa [← HL.out, drop_end] at this)
      clear hr
      go_wp2
      go_ret2
      exact ⟨HF.out _ _ HR'.out.symm, rfl⟩
/-! ### Legal -/
theorem str_cases (n : ByteArray) : (n.toList.isEmpty = true ∧ legalE n = 1) ∨ (n.toList.isEmpty = false ∧ (n.toList == [46]) = true ∧ legalE n = 1) ∨
    (n.toList.isEmpty = false ∧ (n.toList == [46]) = false ∧ (n.toList == [46, 46]) = true ∧ legalE n = 1) ∨
    (n.toList.isEmpty = false ∧ (n.toList == [46]) = false ∧ (n.toList == [46, 46]) = false ∧ hasBad n = true ∧ legalE n = 1) ∨
    (n.toList.isEmpty = false ∧ (n.toList == [46]) = false ∧ (n.toList == [46, 46]) = false ∧ hasBad n = false ∧ 12 < n.size ∧ legalE n = 9) ∨
    (n.toList.isEmpty = false ∧ (n.toList == [46]) = false ∧ (n.toList == [46, 46]) = false ∧ hasBad n = false ∧ ¬ 12 < n.size ∧ legalE n = 0) := by
  unfold legalE
  cases n.toList.isEmpty <;> cases (n.toList == [46]) <;> cases (n.toList == [46, 46]) <;> cases hasBad n <;> by_cases h : 12 < n.size <;> simp [h]
theorem legalr_any (n : ByteArray) (hn : n.size ≤ maxLen) (w : World) :
    Calls Tryz.prog 226 #[.string n] w fun e w' => e = .returned (.int .i64 (legalE n)) ∧ w = w' := by
  unfold maxLen at hn
  have hc := str_cases n
  generalize legalE n = R at *
  have h0 := Lib.hid (show NoBad n 0 from fun j h hj => by omega)
  have HEND := Lib.hid (@hasBad_not n)
  have HST := Lib.hid (fun (pos : Nat) (hp : pos < n.size) => @hasBad_of n pos hp)
  rcases hc with ⟨h1, rfl⟩ | ⟨h1, h2, rfl⟩ | ⟨h1, h2, h3, rfl⟩ | ⟨h1, h2, h3, h4, rfl⟩ | ⟨h1, h2, h3, h4, h5, rfl⟩ | ⟨h1, h2, h3, h4, h5, rfl⟩
  · go_enter Tryz.func226, Tryz.ntmps226
    go_wp2
    go_ret
    exact ⟨rfl, rfl⟩
  · go_enter Tryz.func226, Tryz.ntmps226
    go_wp2
    go_ret
    exact ⟨rfl, rfl⟩
  · go_enter Tryz.func226, Tryz.ntmps226
    go_wp2
    go_ret
    exact ⟨rfl, rfl⟩
  all_goals
    have H4 := Lib.hid h4
    clear h4
    go_enter Tryz.func226, Tryz.ntmps226
    go_wp2
    go_loop [3] (fun i => ∃ k : Nat, k ≤ n.size ∧ i = .int .i64 k ∧ NoBad n k) (fun i => n.size - (intOf i).toNat)
    case atStart => exact ⟨0, by omega, rfl, h0.out⟩
    case round =>
      obtain ⟨k, hk, rfl, hno⟩ := hrel
      by_cases hlt : k < n.size
      · cases hb : bad n[k]
        · have HN := Lib.hid (noBad_step hno hlt hb)
          rw [bad_int] at hb
          simp only [Bool.or_eq_false_iff] at hb
          obtain ⟨hb1, hb2⟩ := hb
          clear hno
          go_wp2
          go_round
          case rel => exact ⟨k + 1, by omega, by go_num, HN.out⟩
          case measure => simp [intOf]; omega
        · have HB := Lib.hid (HST.out k hlt hb)
          rw [bad_int] at hb
          clear hno
          cases hb1 : ((n[k].toNat : Int) == 47)
          · rw [hb1, Bool.false_or] at hb
            go_wp2
            go_ret
            exact ⟨by first | rfl | exact absurd (HB.out.symm.trans H4.out) (by simp), rfl⟩
          · clear hb
            go_wp2
            go_ret
            exact ⟨by first | rfl | exact absurd (HB.out.symm.trans H4.out) (by simp), rfl⟩
      · obtain rfl : k = n.size := by omega
        have HB := Lib.hid (HEND.out hno)
        clear hno
        go_wp2
        all_goals
          go_ret
          exact ⟨by first | rfl | exact absurd (HB.out.symm.trans H4.out) (by simp), rfl⟩

/-! ## EntryB -/

theorem quiet_left {P : Program} {f : FuncId} {args : Array Value} {w : World} {n : Nat} {v : Value}
    (h : Calls P f args (w.drewN n) fun e w' => e = .returned v ∧ w.drewN n = w') : Calls P f args (w.drewN n) fun e w'' => e = .returned v ∧ ∃ m, w'' = w.drewN m :=
  h.mono fun _ _ ⟨he, hm⟩ => ⟨he, n, hm.symm⟩
theorem quiet_add_left {P : Program} {f : FuncId} {args : Array Value} {w : World} {a n : Nat} {v : Value}
    (h : Calls P f args (w.drewN (a + n)) fun e w' => e = .returned v ∧ w.drewN (a + n) = w') :
    Calls P f args (w.drewN (a + n)) fun e w'' => e = .returned v ∧ ∃ m, w'' = w.drewN (a + m) :=
  h.mono fun _ _ ⟨he, hm⟩ => ⟨he, n, hm.symm⟩
/-! ### Sorted -/
/-! ### Copies -/
theorem infoE : (Tryz.prog.info? 178).map (fun i => (i.zero, i.size, i.bytes)) = some (some (.agg #[.string ⟨#[]⟩, .int .i64 0]), 2, 24) := by kernel_rfl
theorem infoS : (Tryz.prog.info? 9).map (fun i => (i.zero, i.size, i.bytes)) = some (some (.string ⟨#[]⟩), 1, 16) := by kernel_rfl
def Made {α : Type} (d : Kind α) (e : TypeId) (w : World) (l : List α) (en : Ending) (w' : World) : Prop := ∃ r, en = .returned r ∧ d.Own e w.heap.size w' r l ∧ Below w.heap.size w w'
theorem names_any (l : List Ent) (v : Value) (w : World) (h : entK.Sl (Old w) w v l) (hl : l.length ≤ 1000) :
    Calls Tryz.prog 154 #[v] w (Made strK 9 w (l.map Ent.name)) := by
  obtain ⟨av, cap, hvv, hcapv⟩ := Sl.val h
  subst hvv
  have H := Lib.hid h
  clear h
  obtain ⟨L, hL⟩ : ∃ n, l.length = n := ⟨_, rfl⟩
  rw [hL] at hcapv ⊢
  try rw [hL] at hl
  have HL := Lib.hid hL
  clear hL
  go_enter Tryz.func154, Tryz.ntmps154
  go_wp2
  go_loopw [2, 7] (fun o i wr => ∃ k : Nat, k ≤ L ∧ i = .int .i64 k ∧ Hid (strK.Own 9 w.heap.size wr o ((l.take k).map Ent.name)) ∧ Hid (Below w.heap.size w wr)) (fun _ i _ => L - (intOf i).toNat)
  case atStart => exact ⟨0, by omega, rfl, Own.nil _ _ _ _, Below.refl _ _⟩
  case round =>
    obtain ⟨k, hk, rfl, ho, hb⟩ := hrel
    by_cases hlt : k < L
    · obtain ⟨x, hx⟩ : ∃ x, l[k]? = some x := ⟨_, List.getElem?_eq_getElem (by rw [HL.out]; exact hlt)⟩
      obtain ⟨g, off, cap', he, _, _, hS, c0, c1⟩ := ent_at (Sl.keep (Agree.below hb.out) H.out) hx
      rw [HL.out] at he
      injection he with he1 he2 he3
      subst he1 he3
      clear he2
      obtain ⟨hSg, hnm⟩ := hS
      have HT := Lib.hid (take_snoc1 hx)
      clear hx
      have hbs : w.heap.size ≤ wr.heap.size := hb.out.size
      have htl : (((l.take k).map Ent.name).length + 1) * 16 ≤ 140737488355328 := by rw [List.length_map]; rw [List.length_take, HL.out]; omega
      go_wp2_with (at_builtin; refine wp_append1 strK w.heap.size rfl _ _ 22 9 _ 16 rfl Tryz.underlying22 infoS rfl (by decide) (by decide) _ _ rfl (Own.alloc ho.out _) (x.name) [.string x.name] _ rfl ?cg rfl ?c1 htl ?_; (case cg => simp); (case c1 => exact Nat.le_trans hbs (by simp)); intro v1 w1 hown hg hat)
      have HB := Lib.hid (((hb.out.alloc hbs _)).grown hg (Nat.le_trans hbs (by simp)) (fun k hk => (Own.row ho.out k hk).1))
      have HO := Lib.hid (show strK.Own 9 w.heap.size w1 v1 ((l.take (k + 1)).map Ent.name) by rw [HT.out]; rw [List.map_append]; exact hown)
      clear hown hg hat
      go_wp2
      go_roundw
      case rel => exact ⟨k + 1, by omega, by go_num, HO, HB⟩
      case measure => simp [intOf]; omega
    · obtain rfl : k = L := by omega
      have HO := Lib.hid ho.out
      rw [List.take_of_length_le (by rw [HL.out]; exact Nat.le_refl _)] at HO
      clear ho
      go_wp2
      go_ret
      exact ⟨_, rfl, HO.out, hb.out⟩

/-! ## EntryC -/

def eqEnt (x y : Ent) : Bool := x.name.toList == y.name.toList && x.ino == y.ino
def sameE : List Ent → List Ent → Bool
  | [], [] => true
  | x :: l, y :: m => if eqEnt x y = true then sameE l m else false
  | _, _ => false
theorem sameE_len : ∀ (l m : List Ent), l.length ≠ m.length → sameE l m = false
  | [], [], h => absurd rfl h
  | [], _ :: _, _ => rfl
  | _ :: _, [], _ => rfl
  | x :: l, y :: m, h => by
    unfold sameE
    rw [sameE_len l m (fun e => h (by simp [e]))]
    split <;> rfl
theorem neq_ent (a b : ByteArray) (i j : Int) (w : World) : (binOp .neq 178 (.agg #[.string a, .int .i64 i]) (.agg #[.string b, .int .i64 j])).run Tryz.prog w = .ok (.bool (!(a.toList == b.toList && i == j))) w := by
  have u3 := Tryz.underlying3
  have a3 := Tryz.isAgg3
  have z3 := Tryz.sizeOf3
  have u9 := Tryz.underlying9
  have a9 := Tryz.isAgg9
  have z9 := Tryz.sizeOf9
  have hS : Tryz.prog.underlying 178 = some (.struct (Tryz.prog.fieldsOf 178)) := by kernel_rfl
  have hp : Tryz.prog.stoodInHeld 178 = false := by kernel_rfl
  rw [run_neq_struct, show (10000 : Nat) = 9999 + 1 from rfl, run_equalIn_agg w 9999 178 _ _ hS hp]
  simp only [Program.fieldsOf, Tryz.underlying178]
  go_simp
  by_cases h1 : a.toList = b.toList <;> by_cases h2 : i = j <;> simp [h1, h2]
theorem same_any (l m : List Ent) (v u : Value) (w : World) (h : entK.Sl (Old w) w v l) (hh : entK.Sl (Old w) w u m) (hl : l.length ≤ 1000) :
    Calls Tryz.prog 225 #[v, u] w fun e w' => e = .returned (.bool (sameE l m)) ∧ ∃ n, w' = w.drewN n := by
  by_cases hlm : l.length = m.length
  · obtain ⟨au, cu, hvu, hcu⟩ := Sl.val hh
    subst hvu
    generalize hR : sameE l m = R
    have HR := Lib.hid hR
    clear hR
    have HLM := Lib.hid hlm
    rw [← hlm] at hcu ⊢
    clear hlm
    have HH := Lib.hid hh
    clear hh
    obtain ⟨av, cap, hvv, hcapv⟩ := Sl.val h
    subst hvv
    have H := Lib.hid h
    clear h
    obtain ⟨L, hL⟩ : ∃ n, l.length = n := ⟨_, rfl⟩
    rw [hL] at hcapv ⊢
    try rw [hL] at hl
    have HL := Lib.hid hL
    clear hL
    go_enter Tryz.func225, Tryz.ntmps225
    try rw [HL.out] at hcu
    go_wp2
    go_loopw [5] (fun i wr => ∃ (k n : Nat), k ≤ L ∧ i = .int .i64 k ∧ wr = w.drewN n ∧ Hid (sameE (l.drop k) (m.drop k) = R)) (fun i _ => L - (intOf i).toNat)
    case atStart => exact ⟨0, 0, by omega, rfl, rfl, HR.out⟩
    case round =>
      obtain ⟨k, n, hk, rfl, rfl, hr⟩ := hrel
      by_cases hlt : k < L
      · obtain ⟨x, hx⟩ : ∃ x, l[k]? = some x := ⟨_, List.getElem?_eq_getElem (by rw [HL.out]; exact hlt)⟩
        obtain ⟨g, off, cap', he, _, _, hS, c0, c1⟩ := ent_at H.out hx
        rw [HL.out] at he
        injection he with he1 he2 he3
        subst he1 he3
        clear he2
        obtain ⟨y, hy⟩ : ∃ y, m[k]? = some y := ⟨_, List.getElem?_eq_getElem (by rw [← HLM.out, HL.out]; exact hlt)⟩
        obtain ⟨g2, off2, cap2', he2, _, _, hS2, d0, d1⟩ := ent_at HH.out hy
        injection he2 with he21 he22 he23
        subst he21 he23
        clear he22
        have hr' := hr.out
        rw [drop_cons hx, drop_cons hy] at hr'
        unfold sameE at hr'
        clear hr hx hy
        have hne := fun W => neq_ent x.name y.name x.ino y.ino W
        have hkc : (k : Int) < (cu : Int) := by omega
        cases hb : eqEnt x y
        · rw [hb] at hr'
          simp only [Bool.false_eq_true, if_false, if_true] at hr'
          have HR' := Lib.hid hr'
          have hb' : (x.name.toList == y.name.toList && x.ino == y.ino) = false := hb
          clear hr' hb
          rw [hb'] at hne
          clear hb'
          go_wp2
          go_quiet (fail)
          go_wp2
          go_ret
          exact ⟨ret_bool HR'.out, by first | exact ⟨_, rfl⟩ | exact ⟨_, World.drewN_drewN ..⟩⟩
        · rw [hb] at hr'
          simp only [Bool.false_eq_true, if_false, if_true] at hr'
          have HR' := Lib.hid hr'
          have hb' : (x.name.toList == y.name.toList && x.ino == y.ino) = true := hb
          clear hr' hb
          rw [hb'] at hne
          clear hb'
          go_wp2
          go_quiet (fail)
          go_wp2
          go_roundw
          case rel => exact ⟨k + 1, _, by omega, by go_num, by first | rfl | exact World.drewN_drewN .., HR'⟩
          case measure => simp [intOf]; omega
      · obtain rfl : k = L := by omega
        have HR' := Lib.hid (show sameE [] [] = R by have := hr.out; rwa [← HL.out, drop_end, HLM.out, drop_end] at this)
        clear hr
        go_wp2
        go_ret
        exact ⟨ret_bool HR'.out, _, rfl⟩
  · obtain ⟨av, cv, hvv, hcv⟩ := Sl.val h
    obtain ⟨au, cu, hvu, hcu⟩ := Sl.val hh
    subst hvu hvv
    rw [sameE_len l m hlm]
    have hlz : ((l.length : Int) != (m.length : Int)) = true := by rw [bne_iff_ne]; omega
    clear h hh hlm
    go_enter Tryz.func225, Tryz.ntmps225
    go_wp2
    go_ret
    exact ⟨rfl, 0, rfl⟩
def dropE (l : List Ent) (n : ByteArray) : List Ent := l.filter fun x => !(x.name.toList == n.toList)
theorem dropE_len (l : List Ent) (n : ByteArray) : (dropE l n).length ≤ l.length := List.length_filter_le _ _
theorem filter_snoc {α : Type} (p : α → Bool) (l : List α) (x : α) : (l ++ [x]).filter p = l.filter p ++ if p x = true then [x] else [] := by
  rw [List.filter_append]; by_cases h : p x = true <;> simp [h]
theorem str_at {S : Nat → Prop} {w : World} {v : Value} {xs : List ByteArray} (h : strK.Sl S w v xs) {i : Nat} {x : ByteArray} (hx : xs[i]? = some x) :
    ∃ g off cap, v = .slice (some ⟨g, off, none⟩) xs.length cap ∧ xs.length ≤ cap ∧ cap ≤ 9223372036854775807 ∧ S g ∧ w.cell? ⟨g, off + i, none⟩ = some (.string x) := by
  obtain ⟨g, off, cap, cs, rfl, h1, h2, h3, rfl, h4⟩ := Sl.get h hx
  have := h4 0 _ rfl
  exact ⟨g, off, cap, rfl, h1, h2, h3, by simpa [strK, scalar] using this⟩
def textsE : List ByteArray → List ByteArray → Bool
  | [], [] => true
  | x :: l, y :: m => if (x.toList == y.toList) = true then textsE l m else false
  | _, _ => false
theorem textsE_len : ∀ (l m : List ByteArray), l.length ≠ m.length → textsE l m = false
  | [], [], h => absurd rfl h
  | [], _ :: _, _ => rfl
  | _ :: _, [], _ => rfl
  | x :: l, y :: m, h => by
    unfold textsE
    rw [textsE_len l m (fun e => h (by simp [e]))]
    split <;> rfl
theorem texts_any (l m : List ByteArray) (v u : Value) (w : World) (h : strK.Sl (Old w) w v l) (hh : strK.Sl (Old w) w u m) (hl : l.length ≤ 1000) :
    Calls Tryz.prog 29 #[v, u] w fun e w' => e = .returned (.bool (textsE l m)) ∧ ∃ n, w' = w.drewN n := by
  by_cases hlm : l.length = m.length
  · obtain ⟨au, cu, hvu, hcu⟩ := Sl.val hh
    subst hvu
    generalize hR : textsE l m = R
    have HR := Lib.hid hR
    clear hR
    have HLM := Lib.hid hlm
    rw [← hlm] at hcu ⊢
    clear hlm
    have HH := Lib.hid hh
    clear hh
    obtain ⟨av, cap, hvv, hcapv⟩ := Sl.val h
    subst hvv
    have H := Lib.hid h
    clear h
    obtain ⟨L, hL⟩ : ∃ n, l.length = n := ⟨_, rfl⟩
    rw [hL] at hcapv ⊢
    try rw [hL] at hl
    have HL := Lib.hid hL
    clear hL
    try rw [HL.out] at hcu
    go_enter Tryz.func29, Tryz.ntmps29
    go_wp2
    go_loopw [5] (fun i wr => ∃ (k n : Nat), k ≤ L ∧ i = .int .i64 k ∧ wr = w.drewN n ∧ Hid (textsE (l.drop k) (m.drop k) = R)) (fun i _ => L - (intOf i).toNat)
    case atStart => exact ⟨0, 0, by omega, rfl, rfl, HR.out⟩
    case round =>
      obtain ⟨k, n, hk, rfl, rfl, hr⟩ := hrel
      by_cases hlt : k < L
      · obtain ⟨x, hx⟩ : ∃ x, l[k]? = some x := ⟨_, List.getElem?_eq_getElem (by rw [HL.out]; exact hlt)⟩
        obtain ⟨g, off, cap', he, _, _, hS, c0⟩ := str_at H.out hx
        rw [HL.out] at he
        injection he with he1 he2 he3
        subst he1 he3
        clear he2
        obtain ⟨y, hy⟩ : ∃ y, m[k]? = some y := ⟨_, List.getElem?_eq_getElem (by rw [← HLM.out, HL.out]; exact hlt)⟩
        obtain ⟨g2, off2, cap2', he2, _, _, hS2, d0⟩ := str_at HH.out hy
        injection he2 with he21 he22 he23
        subst he21 he23
        clear he22
        have hr' := hr.out
        rw [drop_cons hx, drop_cons hy] at hr'
        unfold textsE at hr'
        clear hr hx hy
        have hkc : (k : Int) < (cu : Int) := by omega
        cases hb : (x.toList == y.toList)
        · rw [hb] at hr'
          simp only [Bool.false_eq_true, if_false, if_true] at hr'
          have HR' := Lib.hid hr'
          have hb' : (x.toList != y.toList) = true := by unfold bne; rw [hb]; rfl
          clear hr'
          go_wp2
          go_quiet (fail)
          go_wp2
          go_ret
          exact ⟨ret_bool HR'.out, by first | exact ⟨_, rfl⟩ | exact ⟨_, World.drewN_drewN ..⟩⟩
        · rw [hb] at hr'
          simp only [Bool.false_eq_true, if_false, if_true] at hr'
          have HR' := Lib.hid hr'
          have hb' : (x.toList != y.toList) = false := by unfold bne; rw [hb]; rfl
          clear hr'
          go_wp2
          go_quiet (fail)
          go_wp2
          go_roundw
          case rel => exact ⟨k + 1, _, by omega, by go_num, by first | rfl | exact World.drewN_drewN .., HR'⟩
          case measure => simp [intOf]; omega
      · obtain rfl : k = L := by omega
        have HR' := Lib.hid (show textsE [] [] = R by have := hr.out; rwa [← HL.out, drop_end, HLM.out, drop_end] at this)
        clear hr
        go_wp2
        go_ret
        exact ⟨ret_bool HR'.out, _, rfl⟩
  · obtain ⟨av, cv, hvv, hcv⟩ := Sl.val h
    obtain ⟨au, cu, hvu, hcu⟩ := Sl.val hh
    subst hvu hvv
    rw [textsE_len l m hlm]
    have hlz : ((l.length : Int) != (m.length : Int)) = true := by rw [bne_iff_ne]; omega
    clear h hh hlm
    go_enter Tryz.func29, Tryz.ntmps29
    go_wp2
    go_ret
    exact ⟨rfl, 0, rfl⟩

/-! ## EntryD -/

def ltS (a b : ByteArray) : Bool := Op.bytesLess a.toList b.toList
def gtS (a b : ByteArray) : Bool := !(Op.bytesLess a.toList b.toList || a.toList == b.toList)
def putE (l : List Ent) (e : Ent) : List Ent := (dropE l e.name).filter (fun x => ltS x.name e.name) ++ [e] ++ (dropE l e.name).filter (fun x => gtS x.name e.name)
theorem filter_take {α : Type} (p : α → Bool) {l : List α} {k : Nat} {x : α} (hx : l[k]? = some x) : (l.take (k + 1)).filter p = (l.take k).filter p ++ if p x = true then [x] else [] := by
  rw [take_snoc1 hx]; exact filter_snoc _ _ _
theorem filter_take_len {α : Type} (p : α → Bool) (l : List α) (k : Nat) : ((l.take k).filter p).length ≤ l.length :=
  Nat.le_trans (List.length_filter_le _ _) (by rw [List.length_take]; exact Nat.min_le_right _ _)
/-! ### the reference's Sorted -/
def lastN (l : List Ent) (k : Nat) : ByteArray := match k with | 0 => ⟨#[]⟩ | k + 1 => match l[k]? with | some x => x.name | none => ⟨#[]⟩
theorem lastN_succ {l : List Ent} {k : Nat} {x : Ent} (h : l[k]? = some x) : lastN l (k + 1) = x.name := by simp [lastN, h]
theorem leS_empty (a : ByteArray) (h : a.toList.isEmpty = false) : leS a ⟨#[]⟩ = false := by
  unfold leS
  have e : (⟨#[]⟩ : ByteArray).toList = [] := by rw [ByteArray.toList_eq]
  rw [e]
  cases ha : a.toList with
  | nil => rw [ha] at h; simp at h
  | cons c l => rfl
theorem legal_nonempty {n : ByteArray} (h : (legalE n != 0) = false) : n.toList.isEmpty = false := by
  unfold legalE at h
  cases hn : n.toList.isEmpty
  · rfl
  · rw [hn] at h; simp at h
set_option maxHeartbeats 400000 in
theorem sortedr_any (l : List Ent) (v : Value) (w : World) (h : entK.Sl (Old w) w v l) (hl : l.length ≤ 1000) :
    Calls Tryz.prog 165 #[v] w fun e w' => e = .returned (.bool (sortedE l)) ∧ ∃ n, w' = w.drewN n := by
  unfold sortedE
  generalize hR : sortedF ⟨#[]⟩ l = R
  have HR := Lib.hid hR
  clear hR
  obtain ⟨av, cap, hvv, hcapv⟩ := Sl.val h
  subst hvv
  have H := Lib.hid h
  clear h
  obtain ⟨L, hL⟩ : ∃ n, l.length = n := ⟨_, rfl⟩
  rw [hL] at hcapv ⊢
  try rw [hL] at hl
  have HL := Lib.hid hL
  clear hL
  go_enter Tryz.func165, Tryz.ntmps165
  go_wp2
  go_loopw [3] (fun i wr => ∃ (k n : Nat), k ≤ L ∧ i = .int .i64 k ∧ wr = w.drewN n ∧ Hid (sortedF (lastN l k) (l.drop k) = R)) (fun i _ => L - (intOf i).toNat)
  case atStart => exact ⟨0, 0, by omega, rfl, rfl, HR.out⟩
  case round =>
    obtain ⟨k, n, hk, rfl, rfl, hr⟩ := hrel
    by_cases hlt : k < L
    · obtain ⟨x, hx⟩ : ∃ x, l[k]? = some x := ⟨_, List.getElem?_eq_getElem (by rw [HL.out]; exact hlt)⟩
      obtain ⟨g, off, cap', he, _, _, hS, c0, c1⟩ := ent_at H.out hx
      rw [HL.out] at he
      injection he with he1 he2 he3
      subst he1 he3
      clear he2
      obtain ⟨hSg, hnm⟩ := hS
      have hr' := hr.out
      rw [drop_cons hx] at hr'
      unfold sortedF at hr'
      have HLN := Lib.hid (lastN_succ hx)
      clear hr
      cases hb1 : (legalE x.name != 0)
      · rw [hb1] at hr'
        simp only [Bool.false_eq_true, if_false, if_true] at hr'
        by_cases hk0 : k = 0
        · subst hk0
          rw [show lastN l 0 = ⟨#[]⟩ from rfl, leS_empty _ (legal_nonempty hb1)] at hr'
          simp only [Bool.false_eq_true, if_false, if_true] at hr'
          have HR' := Lib.hid hr'
          clear hr' hx
          simp only [Nat.zero_mul, Nat.add_zero, Nat.zero_add] at c0 c1
          go_wp2
          go_quiet ((go_at_call 226; first | exact quiet_left (legalr_any x.name hnm _) | exact quiet_add_left (legalr_any x.name hnm _)))
          go_wp2
          go_roundw
          case rel => exact ⟨1, _, by omega, rfl, by first | rfl | exact World.drewN_drewN .., by rw [HLN.out]; exact HR'⟩
          case measure => simp [intOf]; omega
        · obtain ⟨y, hy⟩ : ∃ y, l[k - 1]? = some y := ⟨_, List.getElem?_eq_getElem (by rw [HL.out]; omega)⟩
          obtain ⟨g2, off2, cap2', he2, _, _, hS2, d0, d1⟩ := ent_at H.out hy
          injection he2 with he21 he22 he23
          injection he21 with he21
          injection he21 with he24 he25
          subst he24 he25
          clear he22 he23
          have hln : lastN l k = y.name := by
            have := lastN_succ hy
            rwa [show k - 1 + 1 = k by omega] at this
          rw [hln] at hr'
          have hkc : (k : Int) - 1 < (L : Int) := by omega
          have hk1 : 0 ≤ (k : Int) - 1 := by omega
          have hk2 : (0 : Int) < (k : Int) := by omega
          have hk3 : 1 ≤ (k : Int) := by omega
          have hk4 : decide (0 < k) = true := by simp; omega
          have htn : ((k : Int) - 1).toNat = k - 1 := by omega
          have hwr : IntKind.i64.wrap ((k : Int) - 1) = (k : Int) - 1 := IntWalk.i64_in _ (by omega)
          cases hb2 : leS x.name y.name
          · rw [hb2] at hr'
            simp only [Bool.false_eq_true, if_false, if_true] at hr'
            have HR' := Lib.hid hr'
            have hb3 : (Op.bytesLess x.name.toList y.name.toList || x.name.toList == y.name.toList) = false := hb2
            clear hr' hx hy hln hb2
            go_wp2
            go_quiet ((go_at_call 226; first | exact quiet_left (legalr_any x.name hnm _) | exact quiet_add_left (legalr_any x.name hnm _)))
            clear hwr htn
            go_wp2
            go_roundw
            case rel => exact ⟨k + 1, _, by omega, by go_num, by first | rfl | exact World.drewN_drewN .., by rw [HLN.out]; exact HR'⟩
            case measure => simp [intOf]; omega
          · rw [hb2] at hr'
            simp only [Bool.false_eq_true, if_false, if_true] at hr'
            have HR' := Lib.hid hr'
            have hb3 : (Op.bytesLess x.name.toList y.name.toList || x.name.toList == y.name.toList) = true := hb2
            clear hr' hx hy hln hb2
            go_wp2
            go_quiet ((go_at_call 226; first | exact quiet_left (legalr_any x.name hnm _) | exact quiet_add_left (legalr_any x.name hnm _)))
            clear hwr htn
            go_wp2
            go_ret
            exact ⟨ret_bool HR'.out, by first | exact ⟨_, rfl⟩ | exact ⟨_, World.drewN_drewN ..⟩⟩
      · rw [hb1] at hr'
        simp only [Bool.false_eq_true, if_false, if_true] at hr'
        have HR' := Lib.hid hr'
        clear hr' hx
        go_wp2
        go_quiet ((go_at_call 226; first | exact quiet_left (legalr_any x.name hnm _) | exact quiet_add_left (legalr_any x.name hnm _)))
        go_wp2
        go_ret
        exact ⟨ret_bool HR'.out, by first | exact ⟨_, rfl⟩ | exact ⟨_, World.drewN_drewN ..⟩⟩
    · obtain rfl : k = L := by omega
      have HR' := Lib.hid (show sortedF (lastN l k) [] = R by have := hr.out; rwa [← HL.out, drop_end, HL.out] at this)
      clear hr
      go_wp2
      go_ret
      exact ⟨ret_bool (by rw [← HR'.out]; unfold sortedF; rfl), _, rfl⟩

/-! ## EntryE -/

/-! ### Comparing -/
theorem cmp_facts : ∀ (a b : List UInt8), (decide (Lib.compareBytes a b < 0) = Op.bytesLess a b) ∧ ((Lib.compareBytes a b == 0) = (a == b))
  | [], [] => ⟨rfl, rfl⟩
  | [], _ :: _ => ⟨rfl, rfl⟩
  | _ :: _, [] => ⟨rfl, rfl⟩
  | x :: a, y :: b => by
    have ih := cmp_facts a b
    have h1 : (x < y) = (x.toNat < y.toNat) := by rw [UInt8.lt_iff_toNat_lt]
    have h2 : (y < x) = (y.toNat < x.toNat) := by rw [UInt8.lt_iff_toNat_lt]
    have h3 : (x = y) = (x.toNat = y.toNat) := by rw [← UInt8.toNat_inj]
    have e2 : Op.bytesLess (x :: a) (y :: b) = (decide (x < y) || (x == y && Op.bytesLess a b)) := rfl
    rw [e2]
    by_cases c1 : x.toNat < y.toNat
    · have c2 : ¬ x = y := by rw [h3]; omega
      have c4 : x < y := by rw [h1]; exact c1
      rw [show Lib.compareBytes (x :: a) (y :: b) = -1 by simp only [Lib.compareBytes]; rw [if_pos c4]]
      simp [c4, c2]
    · have c4 : ¬ x < y := by rw [h1]; exact c1
      by_cases c3 : y.toNat < x.toNat
      · have c2 : ¬ x = y := by rw [h3]; omega
        have c5 : y < x := by rw [h2]; exact c3
        rw [show Lib.compareBytes (x :: a) (y :: b) = 1 by simp only [Lib.compareBytes]; rw [if_neg c4, if_pos c5]]
        simp [c4, c2]
      · have c2 : x = y := by rw [h3]; omega
        subst c2
        rw [show Lib.compareBytes (x :: a) (x :: b) = Lib.compareBytes a b by simp only [Lib.compareBytes]; rw [if_neg c4]; rw [if_neg c4]]
        rw [ih.1, ih.2]
        simp
theorem cmp_lt (a b : ByteArray) : decide (Lib.compareBytes a.data.toList b.data.toList < 0) = ltS a b := by
  unfold ltS; rw [ByteArray.toList_eq, ByteArray.toList_eq]; exact (cmp_facts _ _).1
theorem cmp_eq (a b : ByteArray) : (Lib.compareBytes a.data.toList b.data.toList == 0) = (a.toList == b.toList) := by
  rw [ByteArray.toList_eq, ByteArray.toList_eq]; exact (cmp_facts _ _).2
def cmpS (a b : ByteArray) : Int := Lib.compareBytes a.data.toList b.data.toList
theorem place1_any (x : Ent) (n : ByteArray) (w : World) :
    Calls Tryz.prog 286 #[.agg #[.string x.name, .int .i64 x.ino], .string n] w fun e w' => e = .returned (.int .i64 (cmpS x.name n)) ∧ Below w.heap.size w w' := by
  unfold cmpS
  go_enter Tryz.func286, Tryz.ntmps286
  go_wp2_with fail
  refine (Tryz.strings_Compare _ _ _).mono ?_
  rintro e w' ⟨rfl, rfl⟩
  go_wp2
  go_ret
  exact ⟨rfl, balloc _ _⟩
/-- Entries below a name stand ahead of place i, all others behind. -/
structure Split (l : List Ent) (n : ByteArray) (i : Nat) : Prop where
  lo : ∀ t x, t < i → l[t]? = some x → ltS x.name n = true
  hi : ∀ t x, i ≤ t → l[t]? = some x → ltS x.name n = false
/-- Once an entry is not below a name, none behind it is. -/
def Parts (l : List Ent) (n : ByteArray) : Prop := ∀ (s t : Nat) (x y : Ent), s ≤ t → l[s]? = some x → l[t]? = some y → ltS y.name n = true → ltS x.name n = true
def foundAt (l : List Ent) (n : ByteArray) (i : Nat) : Bool := match l[i]? with | some x => x.name.toList == n.toList | none => false
def Placed (l : List Ent) (n : ByteArray) (w : World) (e : Ending) (w' : World) : Prop := ∃ i : Nat, i ≤ l.length ∧ e = .returned (.tuple #[.int .i64 (i : Int), .bool (foundAt l n i)]) ∧ Split l n i ∧ Below w.heap.size w w'
theorem bsearch_any (l : List Ent) (v : Value) (n : ByteArray) (w : World) (h : entK.Sl (Old w) w v l) (hl : l.length ≤ 1000) (hm : Parts l n) :
    Calls Tryz.prog 285 #[v, .string n, .func (.func 286) #[] #[]] w (Placed l n w) := by
  have HM := Lib.hid hm
  clear hm
  obtain ⟨av, cap, hvv, hcapv⟩ := Sl.val h
  subst hvv
  have H := Lib.hid h
  clear h
  obtain ⟨L, hL⟩ : ∃ n, l.length = n := ⟨_, rfl⟩
  rw [hL] at hcapv ⊢
  try rw [hL] at hl
  have HL := Lib.hid hL
  clear hL
  go_enter Tryz.func285, Tryz.ntmps285
  go_wp2
  go_outline
  go_loopw [9, 10] (fun i j wr => ∃ a b : Nat, a ≤ b ∧ b ≤ L ∧ i = .int .i64 a ∧ j = .int .i64 b ∧ Hid (∀ t x, t < a → l[t]? = some x → ltS x.name n = true) ∧ Hid (∀ t x, b ≤ t → l[t]? = some x → ltS x.name n = false) ∧ Hid (Below w.heap.size w wr)) (fun i j _ => (intOf j - intOf i).toNat)
  case atStart => exact ⟨0, L, by omega, by omega, rfl, rfl, fun t x ht => by omega, fun t x ht hx => by have := (List.getElem?_eq_some_iff.1 hx).1; rw [HL.out] at this; omega, Below.refl _ _⟩
  case round =>
    obtain ⟨a, b, hab, hbL, rfl, rfl, ha, hbb, hb⟩ := hrel
    by_cases hlt : a < b
    · have hm1 : (a + b) / 2 < L := by omega
      obtain ⟨x, hx⟩ : ∃ x, l[(a + b) / 2]? = some x := ⟨_, List.getElem?_eq_getElem (by rw [HL.out]; exact hm1)⟩
      obtain ⟨g, off, cap', he, _, _, ⟨hSg, hnm⟩, c0, c1⟩ := ent_at (Sl.keep (Agree.below hb.out) H.out) hx
      rw [HL.out] at he
      injection he with he1 he2 he3
      subst he1 he3
      clear he2
      have hlo : ∀ t y, t < (a + b) / 2 + 1 → l[t]? = some y → ltS x.name n = true → ltS y.name n = true := fun t y ht hy hq => HM.out t _ y x (by omega) hy hx hq
      have hhi : ∀ t y, (a + b) / 2 ≤ t → l[t]? = some y → ltS x.name n = false → ltS y.name n = false := fun t y ht hy hq => by
        cases hz : ltS y.name n
        · rfl
        · exact absurd (HM.out _ t x y ht hx hy hz) (by rw [hq]; simp)
      have HLO := Lib.hid hlo
      have HHI := Lib.hid hhi
      clear hlo hhi hx
      cases hq : ltS x.name n
      · have hq1 : decide (cmpS x.name n < 0) = false := by unfold cmpS; rw [cmp_lt]; exact hq
        have HQ := Lib.hid (fun t y (ht : (a + b) / 2 ≤ t) hy => HHI.out t y ht hy hq)
        clear HLO HHI hq
        go_wp2_with fail
        refine (place1_any x n _).mono ?_
        rintro e w2 ⟨rfl, hb2⟩
        go_wp2
        go_roundw
        case rel => exact ⟨a, (a + b) / 2, by omega, by omega, rfl, congrArg (Value.int .i64) (by omega), ha, HQ, bthen hb.out hb2⟩
        case measure => simp [intOf]; omega
      · have hq1 : decide (cmpS x.name n < 0) = true := by unfold cmpS; rw [cmp_lt]; exact hq
        have HQ := Lib.hid (fun t y (ht : t < (a + b) / 2 + 1) hy => HLO.out t y ht hy hq)
        clear HLO HHI hq
        go_wp2_with fail
        refine (place1_any x n _).mono ?_
        rintro e w2 ⟨rfl, hb2⟩
        go_wp2
        go_roundw
        case rel => exact ⟨(a + b) / 2 + 1, b, by omega, by omega, congrArg (Value.int .i64) (by omega), rfl, HQ, hbb, bthen hb.out hb2⟩
        case measure => simp [intOf]; omega
    · obtain rfl : a = b := by omega
      have HS := Lib.hid (Split.mk ha.out hbb.out)
      clear ha hbb HM
      by_cases hL2 : a < L
      · obtain ⟨x, hx⟩ : ∃ x, l[a]? = some x := ⟨_, List.getElem?_eq_getElem (by rw [HL.out]; exact hL2)⟩
        obtain ⟨g, off, cap', he, _, _, ⟨hSg, hnm⟩, c0, c1⟩ := ent_at (Sl.keep (Agree.below hb.out) H.out) hx
        rw [HL.out] at he
        injection he with he1 he2 he3
        subst he1 he3
        clear he2
        have HF := Lib.hid (show foundAt l n a = (x.name.toList == n.toList) by unfold foundAt; rw [hx])
        have hq1 : (cmpS x.name n == 0) = (x.name.toList == n.toList) := by unfold cmpS; exact cmp_eq _ _
        clear hx
        go_wp2_with fail
        refine (place1_any x n _).mono ?_
        rintro e w2 ⟨rfl, hb2⟩
        go_wp2
        go_ret2
        exact ⟨a, by rw [HL.out]; omega, ret_int_bool rfl HF.out.symm, HS.out, bthen hb.out hb2⟩
      · obtain rfl : a = L := by omega
        have HF := Lib.hid (show foundAt l n a = false by unfold foundAt; rw [List.getElem?_eq_none (by rw [HL.out]; exact Nat.le_refl _)])
        go_wp2
        go_ret2
        exact ⟨a, by rw [HL.out]; exact Nat.le_refl _, ret_int_bool rfl HF.out.symm, HS.out, hb.out⟩

/-! ## EntryP -/

theorem bl_irrefl : ∀ a : List UInt8, Op.bytesLess a a = false
  | [] => rfl
  | x :: a => by
    show (decide (x < x) || (x == x && Op.bytesLess a a)) = false
    rw [bl_irrefl a]
    simp
theorem bl_trans : ∀ a b c : List UInt8, Op.bytesLess a b = true → Op.bytesLess b c = true → Op.bytesLess a c = true
  | [], [], _, h, _ => by cases h
  | [], _ :: _, [], _, h => by cases h
  | [], _ :: _, _ :: _, _, _ => rfl
  | _ :: _, [], _, h, _ => by cases h
  | _ :: _, _ :: _, [], _, h => by cases h
  | x :: a, y :: b, z :: c, h, k => by
    have h' : (decide (x < y) || (x == y && Op.bytesLess a b)) = true := h
    have k' : (decide (y < z) || (y == z && Op.bytesLess b c)) = true := k
    show (decide (x < z) || (x == z && Op.bytesLess a c)) = true
    simp only [Bool.or_eq_true, Bool.and_eq_true, decide_eq_true_eq, beq_iff_eq] at *
    rcases h' with h' | ⟨rfl, h'⟩
    · rcases k' with k' | ⟨rfl, k'⟩
      · exact Or.inl (UInt8.lt_trans h' k')
      · exact Or.inl h'
    · rcases k' with k' | ⟨rfl, k'⟩
      · exact Or.inl k'
      · exact Or.inr ⟨rfl, bl_trans a b c h' k'⟩
theorem bl_tri : ∀ a b : List UInt8, Op.bytesLess a b = false → (a == b) = false → Op.bytesLess b a = true
  | [], [], _, h => by cases h
  | [], _ :: _, h, _ => by cases h
  | _ :: _, [], _, _ => rfl
  | x :: a, y :: b, h, k => by
    have h' : (decide (x < y) || (x == y && Op.bytesLess a b)) = false := h
    show (decide (y < x) || (y == x && Op.bytesLess b a)) = true
    simp only [Bool.or_eq_false_iff, Bool.and_eq_false_iff, decide_eq_false_iff_not] at h'
    simp only [Bool.or_eq_true, Bool.and_eq_true, decide_eq_true_eq, beq_iff_eq]
    have h1 : ¬ x.toNat < y.toNat := by rw [← UInt8.lt_iff_toNat_lt]; exact h'.1
    by_cases e : x = y
    · subst e
      refine Or.inr ⟨rfl, bl_tri a b ?_ ?_⟩
      · rcases h'.2 with h2 | h2
        · simp at h2
        · exact h2
      · have k' : (x :: a == x :: b) = false := k
        simpa using k'
    · left
      rw [UInt8.lt_iff_toNat_lt]
      have : x.toNat ≠ y.toNat := fun hh => e (UInt8.toNat_inj.1 hh)
      omega
theorem name_inj {a b : ByteArray} (h : a.toList = b.toList) : a = b := by
  rw [ByteArray.toList_eq, ByteArray.toList_eq] at h
  cases a; cases b
  congr 1
  exact Array.ext' h
theorem lt_irrefl (a : ByteArray) : ltS a a = false := bl_irrefl _
theorem lt_trans {a b c : ByteArray} (h : ltS a b = true) (k : ltS b c = true) : ltS a c = true := bl_trans _ _ _ h k
theorem lt_tri {a b : ByteArray} (h : ltS a b = false) (k : (a.toList == b.toList) = false) : ltS b a = true := bl_tri _ _ h k
theorem lt_ne {a b : ByteArray} (h : ltS a b = true) : (a.toList == b.toList) = false := by
  cases hb : (a.toList == b.toList) with
  | false => rfl
  | true =>
    have := name_inj (eq_of_beq hb)
    subst this
    rw [lt_irrefl] at h; cases h
theorem ne_symm {a b : ByteArray} (h : (a.toList == b.toList) = false) : (b.toList == a.toList) = false := by
  cases hb : (b.toList == a.toList) with
  | false => rfl
  | true => rw [eq_of_beq hb] at h; simp at h
theorem lt_asymm {a b : ByteArray} (h : ltS a b = true) : ltS b a = false := by
  cases hb : ltS b a with
  | false => rfl
  | true => have := lt_trans h hb; rw [lt_irrefl] at this; cases this
theorem gt_of_lt {a b : ByteArray} (h : ltS a b = true) : gtS b a = true := by
  unfold gtS
  have h1 : Op.bytesLess b.toList a.toList = false := lt_asymm h
  rw [h1, ne_symm (lt_ne h)]; rfl
theorem gt_lt {a b : ByteArray} (h : ltS a b = true) : gtS a b = false := by
  unfold gtS
  have h1 : Op.bytesLess a.toList b.toList = true := h
  rw [h1]; rfl
/-- Each above the one ahead of it. -/
def Sorts (l : List Ent) : Prop := l.Pairwise fun x y => ltS x.name y.name = true
theorem sortedF_sorts : ∀ (l : List Ent) (last : ByteArray), sortedF last l = true → (∀ x ∈ l, ltS last x.name = true) ∧ Sorts l ∧ ∀ x ∈ l, (legalE x.name != 0) = false
  | [], _, _ => ⟨by simp, List.Pairwise.nil, by simp⟩
  | x :: l, last, h => by
    unfold sortedF at h
    split at h
    · cases h
    · rename_i hleg
      split at h
      · cases h
      · rename_i hle
        have hle' : leS x.name last = false := by simpa using hle
        unfold leS at hle'
        rw [Bool.or_eq_false_iff] at hle'
        have hlx : ltS last x.name = true := lt_tri hle'.1 hle'.2
        obtain ⟨h1, h2, h3⟩ := sortedF_sorts l x.name h
        refine ⟨fun y hy => ?_, List.Pairwise.cons h1 h2, fun y hy => ?_⟩
        · rcases List.mem_cons.1 hy with rfl | hy
          · exact hlx
          · exact lt_trans hlx (h1 y hy)
        · rcases List.mem_cons.1 hy with rfl | hy
          · simpa using hleg
          · exact h3 y hy
theorem sorts_of {l : List Ent} (h : sortedE l = true) : Sorts l := (sortedF_sorts l _ h).2.1
theorem legal_of {l : List Ent} (h : sortedE l = true) : ∀ x ∈ l, (legalE x.name != 0) = false := (sortedF_sorts l _ h).2.2
theorem sortedF_of : ∀ (l : List Ent) (last : ByteArray), (∀ x ∈ l, ltS last x.name = true) → Sorts l → (∀ x ∈ l, (legalE x.name != 0) = false) → sortedF last l = true
  | [], _, _, _, _ => rfl
  | x :: l, last, h1, h2, h3 => by
    unfold sortedF
    have hl := h3 x (by simp)
    rw [if_neg (by rw [hl]; simp)]
    have hx := h1 x (by simp)
    have hle : leS x.name last = false := by
      unfold leS
      have h4 : Op.bytesLess x.name.toList last.toList = false := lt_asymm hx
      rw [h4, ne_symm (lt_ne hx)]; rfl
    rw [if_neg (by rw [hle]; simp)]
    have h2' := List.pairwise_cons.1 h2
    exact sortedF_of l x.name h2'.1 h2'.2 fun y hy => h3 y (List.mem_cons_of_mem _ hy)
theorem sortedE_iff (l : List Ent) : sortedE l = true ↔ Sorts l ∧ ∀ x ∈ l, (legalE x.name != 0) = false := by
  refine ⟨fun h => ⟨sorts_of h, legal_of h⟩, fun ⟨h1, h2⟩ => sortedF_of l _ (fun x hx => ?_) h1 h2⟩
  have hne := legal_nonempty (h2 x hx)
  unfold ltS
  rw [ByteArray.toList_eq ⟨#[]⟩]
  show Op.bytesLess [] x.name.toList = true
  cases hh : x.name.toList with
  | nil => rw [hh] at hne; simp at hne
  | cons a b => rfl
theorem sorts_get {l : List Ent} (h : Sorts l) {s t : Nat} {x y : Ent} (hst : s < t) (hx : l[s]? = some x) (hy : l[t]? = some y) : ltS x.name y.name = true := by
  obtain ⟨h1, rfl⟩ := List.getElem?_eq_some_iff.1 hx
  obtain ⟨h2, rfl⟩ := List.getElem?_eq_some_iff.1 hy
  exact List.pairwise_iff_getElem.1 h s t h1 h2 hst
theorem sorts_parts {l : List Ent} (h : Sorts l) (n : ByteArray) : Parts l n := by
  intro s t x y hst hx hy hyn
  rcases Nat.lt_or_ge s t with hlt | hge
  · exact lt_trans (sorts_get h hlt hx hy) hyn
  · obtain rfl : s = t := by omega
    rw [hx] at hy; cases hy; exact hyn
/-- What the place says of the list. -/
structure At (l : List Ent) (n : ByteArray) (A D : List Ent) : Prop where
  lo : ∀ x ∈ A, ltS x.name n = true
  hi : ∀ x ∈ D, ltS n x.name = true
theorem split_not {l : List Ent} {n : ByteArray} {i : Nat} (hs : Sorts l) (h : Split l n i) (hf : foundAt l n i = false) : At l n (l.take i) (l.drop i) := by
  refine ⟨fun x hx => ?_, fun x hx => ?_⟩
  · obtain ⟨t, ht⟩ := List.mem_iff_getElem?.1 hx
    rw [List.getElem?_take] at ht
    split at ht
    · exact h.lo t x (by assumption) ht
    · cases ht
  · obtain ⟨t, ht⟩ := List.mem_iff_getElem?.1 hx
    rw [List.getElem?_drop] at ht
    have hlt := h.hi (i + t) x (by omega) ht
    refine lt_tri hlt ?_
    cases t with
    | zero =>
      unfold foundAt at hf
      rw [Nat.add_zero] at ht
      rw [ht] at hf; exact hf
    | succ t =>
      obtain ⟨hil, _⟩ := List.getElem?_eq_some_iff.1 ht
      obtain ⟨z, hz⟩ : ∃ z, l[i]? = some z := ⟨_, List.getElem?_eq_getElem (by omega)⟩
      have hzx := sorts_get hs (by omega : i < i + (t + 1)) hz ht
      have hzn := h.hi i z (by omega) hz
      unfold foundAt at hf
      rw [hz] at hf
      exact ne_symm (lt_ne (lt_trans (lt_tri hzn hf) hzx))
theorem split_is {l : List Ent} {n : ByteArray} {i : Nat} (hs : Sorts l) (h : Split l n i) (hf : foundAt l n i = true) : ∃ x, l[i]? = some x ∧ x.name = n ∧ l = l.take i ++ x :: l.drop (i + 1) ∧ At l n (l.take i) (l.drop (i + 1)) := by
  unfold foundAt at hf
  cases hx : l[i]? with
  | none => rw [hx] at hf; cases hf
  | some x =>
    rw [hx] at hf
    have hn := name_inj (eq_of_beq hf)
    refine ⟨x, rfl, hn, ?_, fun z hz => ?_, fun z hz => ?_⟩
    · rw [← drop_cons hx, List.take_append_drop]
    · obtain ⟨t, ht⟩ := List.mem_iff_getElem?.1 hz
      rw [List.getElem?_take] at ht
      split at ht
      · exact h.lo t z (by assumption) ht
      · cases ht
    · obtain ⟨t, ht⟩ := List.mem_iff_getElem?.1 hz
      rw [List.getElem?_drop] at ht
      rw [← hn]
      exact sorts_get hs (by omega : i < i + 1 + t) hx ht
theorem find_skip : ∀ (A D : List Ent) (n : ByteArray), (∀ x ∈ A, (x.name.toList == n.toList) = false) → findE (A ++ D) n = findE D n
  | [], _, _, _ => rfl
  | x :: A, D, n, h => by
    show (if (x.name.toList == n.toList) = true then (x.ino, true) else findE (A ++ D) n) = _
    rw [h x (by simp), if_neg (by simp)]
    exact find_skip A D n fun y hy => h y (List.mem_cons_of_mem _ hy)
theorem find_none (A : List Ent) (n : ByteArray) (h : ∀ x ∈ A, (x.name.toList == n.toList) = false) : findE A n = (-1, false) := by
  have := find_skip A [] n h
  rw [List.append_nil] at this
  exact this
theorem find_here (x : Ent) (D : List Ent) (n : ByteArray) (h : x.name = n) : findE (x :: D) n = (x.ino, true) := by
  show (if (x.name.toList == n.toList) = true then (x.ino, true) else findE D n) = _
  rw [h, if_pos (by simp)]
theorem at_ne {l A D : List Ent} {n : ByteArray} (h : At l n A D) : (∀ x ∈ A, (x.name.toList == n.toList) = false) ∧ (∀ x ∈ D, (x.name.toList == n.toList) = false) :=
  ⟨fun x hx => lt_ne (h.lo x hx), fun x hx => ne_symm (lt_ne (h.hi x hx))⟩
theorem find_split {l : List Ent} {n : ByteArray} {i : Nat} (hs : Sorts l) (h : Split l n i) :
    findE l n = match l[i]? with | some x => if foundAt l n i = true then (x.ino, true) else (-1, false) | none => (-1, false) := by
  cases hf : foundAt l n i with
  | true =>
    obtain ⟨x, hx, hn, hl, hat⟩ := split_is hs h hf
    rw [hx]
    simp only [if_true]
    conv => lhs; rw [hl]
    rw [find_skip _ _ _ (at_ne hat).1, find_here x _ n hn]
  | false =>
    have hat := split_not hs h hf
    have : findE l n = (-1, false) := by
      conv => lhs; rw [← List.take_append_drop i l]
      rw [find_skip _ _ _ (at_ne hat).1, find_none _ _ (at_ne hat).2]
    rw [this]
    cases l[i]? <;> simp
theorem filter_all {p : Ent → Bool} {l : List Ent} (h : ∀ x ∈ l, p x = true) : l.filter p = l := List.filter_eq_self.2 h
theorem filter_no {p : Ent → Bool} {l : List Ent} (h : ∀ x ∈ l, p x = false) : l.filter p = [] := List.filter_eq_nil_iff.2 fun x hx => by rw [h x hx]; simp
theorem drop_none {l A D : List Ent} {n : ByteArray} (h : At l n A D) : dropE (A ++ D) n = A ++ D := by
  unfold dropE
  refine filter_all fun x hx => ?_
  rcases List.mem_append.1 hx with hx | hx
  · rw [(at_ne h).1 x hx]; rfl
  · rw [(at_ne h).2 x hx]; rfl
theorem drop_one {l A D : List Ent} {n : ByteArray} {x : Ent} (h : At l n A D) (hx : x.name = n) : dropE (A ++ x :: D) n = A ++ D := by
  have := drop_none h
  unfold dropE at *
  rw [List.filter_append] at this ⊢
  rw [List.filter_cons_of_neg (by rw [hx]; simp)]
  exact this
theorem put_at {l A D : List Ent} {e : Ent} (h : At l e.name A D) : (A ++ D).filter (fun x => ltS x.name e.name) ++ [e] ++ (A ++ D).filter (fun x => gtS x.name e.name) = A ++ e :: D := by
  rw [List.filter_append, List.filter_append, filter_all h.lo, filter_no (l := D) (fun x hx => lt_asymm (h.hi x hx)), filter_no (l := A) (fun x hx => gt_lt (h.lo x hx)), filter_all (l := D) (fun x hx => gt_of_lt (h.hi x hx))]
  simp
theorem put_split {l : List Ent} {e : Ent} {i : Nat} (hs : Sorts l) (h : Split l e.name i) : putE l e = if foundAt l e.name i = true then l.take i ++ e :: l.drop (i + 1) else l.take i ++ e :: l.drop i := by
  cases hf : foundAt l e.name i with
  | true =>
    obtain ⟨x, hx, hn, hl, hat⟩ := split_is hs h hf
    simp only [if_true]
    unfold putE
    conv => lhs; rw [hl]
    rw [drop_one hat hn]
    exact put_at hat
  | false =>
    have hat := split_not hs h hf
    simp only [Bool.false_eq_true, if_false]
    unfold putE
    conv => lhs; rw [← List.take_append_drop i l]
    rw [drop_none hat]
    exact put_at hat
theorem drop_split {l : List Ent} {n : ByteArray} {i : Nat} (hs : Sorts l) (h : Split l n i) : dropE l n = if foundAt l n i = true then l.take i ++ l.drop (i + 1) else l := by
  cases hf : foundAt l n i with
  | true =>
    obtain ⟨x, hx, hn, hl, hat⟩ := split_is hs h hf
    simp only [if_true]
    conv => lhs; rw [hl]
    exact drop_one hat hn
  | false =>
    have hat := split_not hs h hf
    simp only [Bool.false_eq_true, if_false]
    have := drop_none hat
    rw [List.take_append_drop] at this
    exact this
end Go.Proofs.YtfjflodicgjihaaGreatDoor
