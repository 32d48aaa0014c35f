/- How Go's memory stands for plain lists: kinds of elements, slices that are read, slices that a call makes by append. -/
import Derived.Maps.AppendAt
import Derived.Laws.OwnMore
import Derived.Below
import Derived.WalkSmall
import Derived.OwnWalk
import Derived.Deep.AppendLies
set_option linter.unusedVariables false
set_option linter.unusedSimpArgs false
namespace Go.Proofs.Ytfllhakmjookkaa
open Go Go.RowKit

theorem ret_bool {a b : Bool} (h : a = b) : Ending.returned (.bool a) = .returned (.bool b) := by rw [h]
theorem ret_int {k : IntKind} {a b : Int} (h : a = b) : Ending.returned (.int k a) = .returned (.int k b) := by rw [h]
theorem ret_str {a b : ByteArray} (h : a = b) : Ending.returned (.string a) = .returned (.string b) := by rw [h]
theorem ret_int_bool {k : IntKind} {a b : Int} {c d : Bool} (h : a = b) (h' : c = d) : Ending.returned (.tuple #[.int k a, .bool c]) = .returned (.tuple #[.int k b, .bool d]) := by rw [h, h']

/-! ### Worlds -/
def Agree (S : Nat → Prop) (w w' : World) : Prop := ∀ k, S k → w'.heap[k]? = w.heap[k]?
/-- The blocks that are there. -/
def Old (w : World) : Nat → Prop := fun k => k < w.heap.size
theorem Agree.below {w w' : World} (h : Below w.heap.size w w') : Agree (Old w) w w' := fun k hk => h.block k hk
theorem Agree.grown {w w' : World} {row : Option Nat} (h : w.grownBy w' row) : Agree (fun k => k < w.heap.size ∧ some k ≠ row) w w' := fun k hk => h.block k hk.1 hk.2
theorem Agree.mono {S S' : Nat → Prop} {w w' : World} (h : Agree S w w') (hs : ∀ k, S' k → S k) : Agree S' w w' := fun k hk => h k (hs k hk)
theorem Agree.cell {S : Nat → Prop} {w w' : World} (h : Agree S w w') {g o : Nat} {v : Value} (hg : S g) (hc : w.cell? ⟨g, o, none⟩ = some v) : w'.cell? ⟨g, o, none⟩ = some v :=
  (World.cell?_of_block (h g hg)).trans hc
theorem bthen {w w1 w2 : World} (h : Below w.heap.size w w1) (k : Below w1.heap.size w1 w2) : Below w.heap.size w w2 := h.trans (k.mono h.size)
theorem bdrawn (w : World) (n : Nat) : Below w.heap.size w (w.drewN n) := below_drewN (Below.refl _ _) n
theorem balloc (w : World) (o : Obj) : Below w.heap.size w (w.alloc o) := (Below.refl _ _).alloc (Nat.le_refl _) o
theorem bcell {W w1 : World} (hb : Below W.heap.size W w1) : (∀ b o, b < W.heap.size → w1.cell? ⟨b, o, none⟩ = W.cell? ⟨b, o, none⟩) ∧ (∀ b o, b < W.heap.size → w1.frozen? ⟨b, o, none⟩ = W.frozen? ⟨b, o, none⟩) :=
  ⟨fun b o h => hb.cell (p := ⟨b, o, none⟩) h, fun b o h => hb.frozen (p := ⟨b, o, none⟩) h⟩
theorem old_size {w w' : World} (h : w.heap.size ≤ w'.heap.size) : ∀ k, Old w k → Old w' k := fun k hk => Nat.lt_of_lt_of_le hk h

/-! ### Rows of cells that stand for lists -/
def Reps {α : Type} (R : α → List Value → Prop) (size : Nat) (ps : List α) (cs : List Value) : Prop :=
  cs.length = ps.length * size ∧ ∀ j p, ps[j]? = some p → R p ((cs.drop (j * size)).take size)
theorem Reps.nil {α : Type} (R : α → List Value → Prop) (size : Nat) : Reps R size [] [] := ⟨by simp, fun j p h => by simp at h⟩
theorem Reps.imp {α : Type} {R R' : α → List Value → Prop} {size : Nat} {ps : List α} {cs : List Value} (h : Reps R size ps cs) (hR : ∀ p c, R p c → R' p c) : Reps R' size ps cs := ⟨h.1, fun j p hj => hR _ _ (h.2 j p hj)⟩
theorem Reps.append {α : Type} {R : α → List Value → Prop} {size : Nat} {ps qs : List α} {cs ds : List Value} (h : Reps R size ps cs) (k : Reps R size qs ds) : Reps R size (ps ++ qs) (cs ++ ds) := by
  refine ⟨by rw [List.length_append, h.1, k.1, List.length_append, Nat.add_mul], fun j p hj => ?_⟩
  rcases Nat.lt_or_ge j ps.length with hlt | hge
  · rw [List.getElem?_append_left hlt] at hj
    have h1 : j * size + size ≤ cs.length := by rw [h.1, ← Nat.succ_mul]; exact Nat.mul_le_mul_right _ hlt
    rw [List.drop_append_of_le_length (by omega), List.take_append_of_le_length (by rw [List.length_drop]; omega)]
    exact h.2 j p hj
  · rw [List.getElem?_append_right hge] at hj
    have h2 := k.2 _ p hj
    have e : (cs ++ ds).drop (j * size) = ds.drop ((j - ps.length) * size) := by
      have : j * size = cs.length + (j - ps.length) * size := by rw [h.1, ← Nat.add_mul]; congr 1; omega
      rw [this, List.drop_append]
      simp
    rw [e]; exact h2
theorem Reps.one {α : Type} {R : α → List Value → Prop} {size : Nat} {p : α} {c : List Value} (h : R p c) (hc : c.length = size) : Reps R size [p] c :=
  ⟨by simp [hc], fun j q hj => by
    rcases j with _ | j
    · obtain rfl : p = q := by simpa using hj
      simp only [Nat.zero_mul, List.drop_zero]
      rw [← hc, List.take_length]; exact h
    · simp at hj⟩
theorem Reps.sub {α : Type} {R : α → List Value → Prop} {size : Nat} {ps : List α} {cs : List Value} (h : Reps R size ps cs) (lo n : Nat) (hn : lo + n ≤ ps.length) : Reps R size ((ps.drop lo).take n) ((cs.drop (lo * size)).take (n * size)) := by
  have hb : lo * size + n * size ≤ ps.length * size := by rw [← Nat.add_mul]; exact Nat.mul_le_mul_right _ hn
  refine ⟨by rw [List.length_take, List.length_drop, h.1, List.length_take, List.length_drop, Nat.min_eq_left (by omega), Nat.min_eq_left (by omega)], fun j p hj => ?_⟩
  have hjn : j < n := by
    have := (List.getElem?_eq_some_iff.1 hj).1
    rw [List.length_take] at this; omega
  rw [List.getElem?_take, if_pos hjn, List.getElem?_drop] at hj
  have h2 := h.2 _ p hj
  have hb2 : j * size + size ≤ n * size := by rw [← Nat.succ_mul]; exact Nat.mul_le_mul_right _ hjn
  rw [List.drop_take, List.drop_drop, List.take_take, Nat.min_eq_left (by omega)]
  rw [Nat.add_mul] at h2
  exact h2

/-- A kind of element: how many cells, and what they say. S: the blocks it may lean on. -/
structure Kind (α : Type) where
  sz : Nat
  At : (Nat → Prop) → World → α → List Value → Prop
  len : ∀ {S w x cs}, At S w x cs → cs.length = sz
  one : ∀ {S w x cs}, At S w x cs → ∀ v ∈ cs, v.oneCell' = true
  mono : ∀ {S S' : Nat → Prop} {w x cs}, (∀ k, S k → S' k) → At S w x cs → At S' w x cs
  keep : ∀ {S w w' x cs}, Agree S w w' → At S w x cs → At S w' x cs

def scalar {α : Type} (enc : α → Value) (h1 : ∀ x, (enc x).oneCell' = true) : Kind α where
  sz := 1
  At _ _ x cs := cs = [enc x]
  len h := by rw [h]; rfl
  one h := by rw [h]; intro v hv; rw [List.mem_singleton.1 hv]; exact h1 _
  mono _ h := h
  keep _ h := h
def intK (k : IntKind) : Kind Int := scalar (Value.int k) (fun _ => rfl)
def boolK : Kind Bool := scalar Value.bool (fun _ => rfl)
def strK : Kind ByteArray := scalar Value.string (fun _ => rfl)

/-- A slice that reads as a list. -/
def Kind.Sl {α : Type} (d : Kind α) (S : Nat → Prop) (w : World) (v : Value) (xs : List α) : Prop :=
  ∃ a cap cells, v = .slice a xs.length cap ∧ xs.length ≤ cap ∧ cap ≤ 9223372036854775807 ∧ Reps (d.At S w) d.sz xs cells ∧ (a = none → cap = 0) ∧
    ∀ ad, a = some ad → ∃ g off, ad = ⟨g, off, none⟩ ∧ (0 < xs.length → S g) ∧ ∀ j u, cells[j]? = some u → w.cell? ⟨g, off + j, none⟩ = some u

section
variable {α : Type} {d : Kind α} {S S' : Nat → Prop} {w w' : World} {v : Value} {xs : List α}
theorem Sl.mono (hs : ∀ k, S k → S' k) (h : d.Sl S w v xs) : d.Sl S' w v xs := by
  obtain ⟨a, cap, cells, h1, h2, h3, h4, h5, h6⟩ := h
  refine ⟨a, cap, cells, h1, h2, h3, h4.imp fun _ _ => d.mono hs, h5, fun ad e => ?_⟩
  obtain ⟨g, off, e1, e2, e3⟩ := h6 ad e
  exact ⟨g, off, e1, fun h => hs _ (e2 h), e3⟩
theorem Sl.keep (ha : Agree S w w') (h : d.Sl S w v xs) : d.Sl S w' v xs := by
  obtain ⟨a, cap, cells, h1, h2, h3, h4, h5, h6⟩ := h
  refine ⟨a, cap, cells, h1, h2, h3, h4.imp fun _ _ => d.keep ha, h5, fun ad e => ?_⟩
  obtain ⟨g, off, e1, e2, e3⟩ := h6 ad e
  refine ⟨g, off, e1, e2, fun j u hu => ?_⟩
  by_cases hx : 0 < xs.length
  · exact ha.cell (e2 hx) (e3 j u hu)
  · have hl := h4.1
    obtain ⟨hj, _⟩ := List.getElem?_eq_some_iff.1 hu
    have : xs.length = 0 := by omega
    rw [hl, this] at hj
    omega
theorem Sl.val (h : d.Sl S w v xs) : ∃ a cap, v = .slice a xs.length cap ∧ xs.length ≤ cap := by
  obtain ⟨a, cap, _, h1, h2, _⟩ := h
  exact ⟨a, cap, h1, h2⟩
theorem Sl.nil (d : Kind α) (S : Nat → Prop) (w : World) : d.Sl S w (.slice none 0 0) [] :=
  ⟨none, 0, [], rfl, Nat.le_refl _, by decide, Reps.nil _ _, fun _ => rfl, fun _ e => by cases e⟩
theorem Sl.below (hb : Below w.heap.size w w') (h : d.Sl (Old w) w v xs) : d.Sl (Old w') w' v xs :=
  Sl.mono (old_size hb.size) (Sl.keep (Agree.below hb) h)
/-- An element's cells. -/
theorem Sl.get (h : d.Sl S w v xs) {i : Nat} {x : α} (hx : xs[i]? = some x) :
    ∃ g off cap cs, v = .slice (some ⟨g, off, none⟩) xs.length cap ∧ xs.length ≤ cap ∧ cap ≤ 9223372036854775807 ∧ S g ∧ d.At S w x cs ∧ ∀ j u, cs[j]? = some u → w.cell? ⟨g, off + (i * d.sz + j), none⟩ = some u := by
  obtain ⟨a, cap, cells, rfl, h2, h3, h4, h5, h6⟩ := h
  have hi := (List.getElem?_eq_some_iff.1 hx).1
  cases a with
  | none => have := h5 rfl; omega
  | some ad =>
    obtain ⟨g, off, rfl, e2, e3⟩ := h6 _ rfl
    refine ⟨g, off, cap, (cells.drop (i * d.sz)).take d.sz, rfl, h2, h3, e2 (by omega), h4.2 i x hx, fun j u hu => ?_⟩
    rw [List.getElem?_take] at hu
    split at hu
    · rw [List.getElem?_drop] at hu
      exact e3 _ u hu
    · cases hu
end

/-- A slice that the call has made, in a row of its own (from block 'base' on). -/
def Kind.Own {α : Type} (d : Kind α) (e : TypeId) (base : Nat) (w : World) (v : Value) (xs : List α) : Prop :=
  ∃ cells, w.ownsRow base e d.sz v xs.length cells ∧ Reps (d.At (fun k => k < w.heap.size ∧ some k ≠ v.ownBlock) w) d.sz xs cells

section
variable {α : Type} {d : Kind α} {e : TypeId} {base : Nat} {w w' : World} {v : Value} {xs : List α}
theorem Own.nil (d : Kind α) (e : TypeId) (base : Nat) (w : World) : d.Own e base w (.slice none 0 0) [] := ⟨[], World.ownsRow_nil _ _ _ _, Reps.nil _ _⟩
/-- An empty literal: a row without cells. -/
theorem Own.lit0 (d : Kind α) (e : TypeId) (base : Nat) (w : World) (hb : base ≤ w.heap.size) : d.Own e base (w.alloc (.cells #[] e)) (.slice (some ⟨w.heap.size, 0, none⟩) 0 0) [] :=
  ⟨[], World.ownsRow_made w #[] 0 hb (by decide) (by simp), Reps.nil _ _⟩
theorem Own.row (h : d.Own e base w v xs) : ∀ k, v.ownBlock = some k → base ≤ k ∧ k < w.heap.size := by
  obtain ⟨cells, ho, _⟩ := h
  exact ho.lt
theorem Own.lower {base' : Nat} (h : d.Own e base w v xs) (hb : base' ≤ base) : d.Own e base' w v xs := by
  obtain ⟨cells, ho, hr⟩ := h
  exact ⟨cells, ⟨ho.1, ho.2.elim Or.inl (fun ⟨g, cap, cur, hv, hg, r⟩ => Or.inr ⟨g, cap, cur, hv, Nat.le_trans hb hg, r⟩)⟩, hr⟩
theorem Own.grow (h : d.Own e base w v xs) (hg : w.grownBy w' none) : d.Own e base w' v xs := by
  obtain ⟨cells, ho, hr⟩ := h
  refine ⟨cells, ho.kept hg (by cases v.ownBlock <;> simp), hr.imp fun x cs hx => ?_⟩
  exact d.mono (fun k hk => ⟨Nat.lt_of_lt_of_le hk.1 hg.size, hk.2⟩) (d.keep ((Agree.grown hg).mono fun k hk => ⟨hk.1, by simp⟩) hx)
theorem Own.below (h : d.Own e base w v xs) (hb : Below w.heap.size w w') : d.Own e base w' v xs :=
  Own.grow h ⟨hb.os, hb.tape, hb.output, hb.size, fun k hk _ => hb.block k hk⟩
theorem Own.alloc (h : d.Own e base w v xs) (o : Obj) : d.Own e base (w.alloc o) v xs := Own.below h (balloc w o)
theorem Own.drewN (h : d.Own e base w v xs) (n : Nat) : d.Own e base (w.drewN n) v xs := Own.below h (bdrawn w n)
theorem Own.sl (h : d.Own e base w v xs) : d.Sl (Old w) w v xs := by
  obtain ⟨cells, ho, hr⟩ := h
  have hr' := hr.imp (R' := d.At (Old w) w) fun x cs => d.mono fun k hk => hk.1
  rcases ho.2 with ⟨rfl, h0⟩ | ⟨g, cap, cur, rfl, hb, hg, hnc, hcm, _⟩
  · have hx : xs = [] := List.eq_nil_of_length_eq_zero h0
    subst hx
    exact Sl.nil _ _ _
  · refine ⟨_, cap, cells, rfl, hnc, by simpa [maxLen] using hcm, hr', (fun he => by cases he), fun ad he => ?_⟩
    cases he
    refine ⟨g, 0, rfl, fun _ => (Array.getElem?_eq_some_iff.1 hg).1, fun j u hu => ?_⟩
    have := ho.cells (g := g) rfl j u hu
    rwa [show (⟨g, 0, none⟩ : Addr).add j = ⟨g, 0 + j, none⟩ by unfold Addr.add; split <;> simp_all] at this
end

section
variable {P : Program} {ops : Array Oper} {rest : List Oper} {o : Oper} {a : Act} {Q : Exit → Act → World → Prop} {α : Type}
theorem grownBy_trans0 {w w1 w2 : World} {row : Option Nat} (h : w.grownBy w1 none) (k : w1.grownBy w2 row) : w.grownBy w2 row :=
  ⟨k.os.trans h.os, k.tape.trans h.tape, k.output.trans h.output, Nat.le_trans h.size k.size, fun i hi hr => (k.block i (Nat.lt_of_lt_of_le hi h.size) hr).trans (h.block i hi (by simp))⟩

/-- append(v, sv...): v is the call's own; what is appended leans on other rows. -/
theorem wp_append (d : Kind α) {W : World} (base : Nat) (hgd : o.guard = none) (s x : Operand) (t e : TypeId) (z : Value) (bytes : Nat)
    (ho : o.op = .call { callee := .builtin .append, args := #[s, x], argTypes := #[t, t] })
    (ht : P.underlying t = some (.slice e)) (hinfo : (P.info? e).map (fun i => (i.zero, i.size, i.bytes)) = some (some z, d.sz, bytes)) (hz : z.cells.size = d.sz) (hs0 : 0 < d.sz) (hb0 : 0 < bytes)
    (v : Value) (xs : List α) (hs : a.eval s = v) (HO : d.Own e base W v xs)
    (ad : Addr) (c : Nat) (ys : List α) (news : List Value) (hx : a.eval x = .slice (some ad) ys.length c) (hr : Reps (d.At (fun k => k < W.heap.size ∧ some k ≠ v.ownBlock) W) d.sz ys news)
    (hnews : ∀ j u, news[j]? = some u → W.cell? (ad.add j) = some u)
    (hbase : base ≤ W.heap.size) (hl : (xs.length + ys.length) * bytes ≤ 140737488355328)
    (h : ∀ v1 w1, d.Own e base w1 v1 (xs ++ ys) → W.grownBy w1 v.ownBlock → (v1.ownBlock = v.ownBlock ∨ v1.ownBlock = some W.heap.size) → wpList P ops Q rest (a.put o.dst v1) w1) :
    wpList P ops Q (o :: rest) a W := by
  obtain ⟨i0, hi, hzz⟩ := Option.map_eq_some_iff.1 hinfo
  simp only [Prod.mk.injEq] at hzz
  obtain ⟨hz0, hz1, hz2⟩ := hzz
  obtain ⟨cells, hown, hre⟩ := HO
  have hlen : xs.length + ys.length ≤ 140737488355328 := Nat.le_trans (Nat.le_mul_of_pos_right _ hb0) hl
  refine wpList_append_own_at W hgd s x t ho base e i0 z d.sz bytes ht hi hz0 hz1 hz2 hz hs0 v xs.length cells hs hown ad ys.length c news hx hr.1 hnews ?_ (by simp only [maxLen]; omega) hl hbase ?_
  · intro u hu
    obtain ⟨j, hj⟩ := List.mem_iff_getElem?.1 hu
    obtain ⟨hjl, _⟩ := List.getElem?_eq_some_iff.1 hj
    rw [hr.1] at hjl
    have hq : j / d.sz < ys.length := Nat.div_lt_of_lt_mul (by rw [Nat.mul_comm]; exact hjl)
    have hp := hr.2 _ _ (List.getElem?_eq_getElem hq)
    refine d.one hp u ?_
    refine List.mem_iff_getElem?.2 ⟨j % d.sz, ?_⟩
    rw [List.getElem?_take, if_pos (Nat.mod_lt _ hs0), List.getElem?_drop]
    rw [show j / d.sz * d.sz + j % d.sz = j by rw [Nat.mul_comm]; exact Nat.div_add_mod j d.sz]
    exact hj
  · intro v1 w1 hown1 hg _ hat
    have hag := Agree.grown hg
    have hsub : ∀ k, (k < W.heap.size ∧ some k ≠ v.ownBlock) → (k < w1.heap.size ∧ some k ≠ v1.ownBlock) := by
      intro k ⟨hk1, hk2⟩
      refine ⟨Nat.lt_of_lt_of_le hk1 hg.size, ?_⟩
      rcases hat with hat | hat
      · rw [hat]; exact hk2
      · rw [hat]; intro he; injection he with he; omega
    refine h v1 w1 ⟨cells ++ news, by rw [List.length_append]; exact hown1, ?_⟩ hg hat
    exact (hre.imp fun y cs hy => d.mono hsub (d.keep hag hy)).append (hr.imp fun y cs hy => d.mono hsub (d.keep hag hy))

/-- append(v, x) of one element, whose cells lie in the variadic's new box. -/
theorem wp_append1 (d : Kind α) {W : World} (base : Nat) (hgd : o.guard = none) (s x : Operand) (t e : TypeId) (z : Value) (bytes : Nat)
    (ho : o.op = .call { callee := .builtin .append, args := #[s, x], argTypes := #[t, t] })
    (ht : P.underlying t = some (.slice e)) (hinfo : (P.info? e).map (fun i => (i.zero, i.size, i.bytes)) = some (some z, d.sz, bytes)) (hz : z.cells.size = d.sz) (hs0 : 0 < d.sz) (hb0 : 0 < bytes)
    (v : Value) (xs : List α) (hs : a.eval s = v) (HO : d.Own e base W v xs) (y : α) (cs : List Value) (g : Nat) (hx : a.eval x = .slice (some ⟨g, 0, none⟩) 1 1) (hgW : g = W.heap.size)
    (hy : d.At (fun k => k < W.heap.size ∧ some k ≠ v.ownBlock) W y cs)
    (hbase : base ≤ W.heap.size) (hl : (xs.length + 1) * bytes ≤ 140737488355328)
    (h : ∀ v1 w1, d.Own e base w1 v1 (xs ++ [y]) → W.grownBy w1 v.ownBlock → (v1.ownBlock = v.ownBlock ∨ ∃ b, v1.ownBlock = some b ∧ W.heap.size ≤ b) → wpList P ops Q rest (a.put o.dst v1) w1) :
    wpList P ops Q (o :: rest) a (W.alloc (.cells cs.toArray e)) := by
  subst hgW
  have hk := World.grownBy_alloc W (.cells cs.toArray e) none
  have hy' : d.At (fun k => k < (W.alloc (.cells cs.toArray e)).heap.size ∧ some k ≠ v.ownBlock) (W.alloc (.cells cs.toArray e)) y cs :=
    d.mono (fun k hk' => ⟨by simp; omega, hk'.2⟩) (d.keep ((Agree.grown hk).mono fun k hk' => ⟨hk'.1, by simp⟩) hy)
  refine wp_append d base hgd s x t e z bytes ho ht hinfo hz hs0 hb0 v xs hs (Own.grow HO hk) ⟨W.heap.size, 0, none⟩ 1 [y] cs hx (Reps.one hy' (d.len hy)) ?_ (by simp; omega) hl ?_
  · simpa using World.news_of_block (cs := cs.toArray) (t := e) (fr := (0, 0)) (heap_alloc_new W (.cells cs.toArray e))
  · intro v1 w1 hown hg hat
    refine h v1 w1 hown (grownBy_trans0 hk hg) ?_
    rcases hat with hat | hat
    · exact .inl hat
    · exact .inr ⟨_, hat, by simp⟩
end
end Go.Proofs.Ytfllhakmjookkaa
