/- A plain reading of Go's text: the heap's own blocks, and how they go on. -/
import Derived.Test.YtfjflodicgjihaaGreatDoorDenA
set_option linter.unusedVariables false
set_option linter.unusedSimpArgs false
namespace Go.Proofs.YtfjflodicgjihaaGreatDoor.Den
open Go Go.RowKit

structure HS where
  h : Hp
  fz : Name → Nat
/-- What stays as it is while a call runs. -/
structure Base where
  base : Nat
  S0 : Nat → Nat → Prop
  F : Nat → Addr
  w0 : World
  /-- blocks that must stay as they are in wO -/
  O : Nat → Prop
  wO : World
  /-- what cannot turn in these -/
  SO : Nat → Nat → Prop
  /-- blocks that are handed in: where, how great an element is, how many cells -/
  roots : List (Nat × Nat × Nat)
def TAG : Nat := 4294967295

def upd {α : Type} (f : Name → α) (n : Name) (x : α) : Name → α := fun n' => if n' = n then x else f n'
@[simp] theorem upd_same {α : Type} (f : Name → α) (n : Name) (x : α) : upd f n x n = x := by simp [upd]
theorem upd_ne {α : Type} (f : Name → α) {n n' : Name} (x : α) (h : n' ≠ n) : upd f n x n' = f n' := by simp [upd, h]

def Simm (B : Base) (s : HS) (m : Name → Nat) (w : World) : Nat → Nat → Prop := fun g o =>
  (g < B.base ∧ B.S0 g o) ∨ (B.base ≤ g ∧ g < w.heap.size ∧ (B.O g → B.SO g o) ∧ ∀ n k b, s.h n = (k, some b) → m n = g → o < s.fz n * b.sz)
def ctx (B : Base) (s : HS) (m : Name → Nat) (w : World) : Ctx := ⟨s.h, m, Simm B s m w, w, B.F⟩

def BlkOk (c : Ctx) (b : Blk) (g : Nat) : Prop :=
  ∃ cells, c.w.heap[g]? = some (.cells cells b.E (0, 0)) ∧ b.xs.length * b.sz ≤ cells.size ∧
    (∀ i x, b.xs[i]? = some x → x.length = b.sz ∧ ∀ j y, x[j]? = some y → ∃ u, cells[i * b.sz + j]? = some u ∧ u.oneCell' = true ∧ VR c y u) ∧ (b.cl = true → closedLL b.xs = true)

structure RelH (B : Base) (m : Name → Nat) (s : HS) (w : World) : Prop where
  base : B.base = B.w0.heap.size
  below : Below B.base B.w0 w
  blk : ∀ n k b, s.h n = (k, some b) → BlkOk (ctx B s m w) b (m n) ∧ B.base ≤ m n ∧ s.fz n ≤ b.xs.length ∧ ¬ B.O (m n)
  inj : ∀ n n' k k' b b', s.h n = (k, some b) → s.h n' = (k', some b') → m n = m n' → n = n'
  keep : ∀ g, B.O g → g < w.heap.size ∧ w.heap[g]? = B.wO.heap[g]?
  root : ∀ j ρ z β, B.roots[j]? = some (ρ, z, β) → 1 ≤ (s.h [j, TAG]).1 ∧ ∀ b, s.h [j, TAG] = (1, some b) → m [j, TAG] = ρ ∧ b.sz = z ∧ bsize w ρ = β

theorem RelH.root_evol {B : Base} {m m' : Name → Nat} {s s' : HS} {w w' : World} (r : RelH B m s w) (e : Evol (ctx B s m w) (ctx B s' m' w')) :
    ∀ j ρ z β, B.roots[j]? = some (ρ, z, β) → 1 ≤ (s'.h [j, TAG]).1 ∧ ∀ b, s'.h [j, TAG] = (1, some b) → m' [j, TAG] = ρ ∧ b.sz = z ∧ bsize w' ρ = β := by
  intro j ρ z β hj
  obtain ⟨h1, h2⟩ := r.root j ρ z β hj
  have hv : (s.h [j, TAG]).1 ≤ (s'.h [j, TAG]).1 := e.ver [j, TAG]
  refine ⟨Nat.le_trans h1 hv, fun b' hb => ?_⟩
  have e1 : (s.h [j, TAG]).1 = 1 := by rw [hb] at hv; exact Nat.le_antisymm hv h1
  obtain ⟨b, g1, g2, g3, g4⟩ := e.live [j, TAG] b' (by simp only [ctx, e1]; exact hb)
  simp only [ctx] at g1 g3 g4
  rw [e1] at g1
  obtain ⟨p, q, t⟩ := h2 b g1
  rw [p] at g3
  refine ⟨g3, g2 ▸ q, ?_⟩
  rw [g3, p] at g4
  rw [g4]; exact t
theorem RelH.size {B : Base} {m : Name → Nat} {s : HS} {w : World} (r : RelH B m s w) : B.base ≤ w.heap.size := by rw [r.base]; exact r.below.size
theorem RelH.lt {B : Base} {m : Name → Nat} {s : HS} {w : World} (r : RelH B m s w) {n : Name} {k : Nat} {b : Blk} (h : s.h n = (k, some b)) : m n < w.heap.size := by
  obtain ⟨⟨cells, h1, _⟩, _⟩ := r.blk n k b h
  exact (Array.getElem?_eq_some_iff.1 h1).1
theorem RelH.S_lt {B : Base} {m : Name → Nat} {s : HS} {w : World} (r : RelH B m s w) {g o : Nat} (h : Simm B s m w g o) : g < w.heap.size := by
  rcases h with ⟨h, _⟩ | ⟨_, h, _, _⟩
  · exact Nat.lt_of_lt_of_le h r.size
  · exact h
theorem bsize_of_block {w w' : World} {g : Nat} (h : w'.heap[g]? = w.heap[g]?) : bsize w' g = bsize w g := by unfold bsize; rw [h]
theorem cell_of_block {w w' : World} {g o : Nat} (h : w'.heap[g]? = w.heap[g]?) : w'.cell? ⟨g, o, none⟩ = w.cell? ⟨g, o, none⟩ := by unfold World.cell?; simp only [h]

theorem BlkOk.evol {c c' : Ctx} (e : Evol c c') {b : Blk} {g : Nat} (hg : c'.w.heap[g]? = c.w.heap[g]?) (h : BlkOk c b g) : BlkOk c' b g := by
  obtain ⟨cells, h1, h2, h3, h4⟩ := h
  refine ⟨cells, by rw [hg]; exact h1, h2, fun i x hx => ⟨(h3 i x hx).1, fun j y hy => ?_⟩, h4⟩
  obtain ⟨u, p, q, r⟩ := (h3 i x hx).2 j y hy
  exact ⟨u, p, q, r.evol e⟩

/-! ### New blocks -/
abbrev News := List (Name × Nat × Blk)
def lk (L : News) (n : Name) : Option (Nat × Blk) := (L.find? (fun e => e.1 == n)).map (·.2)
theorem lk_mem {L : News} {n : Name} {x : Nat × Blk} (h : lk L n = some x) : (n, x) ∈ L := by
  unfold lk at h
  obtain ⟨e, he, rfl⟩ := Option.map_eq_some_iff.1 h
  have h1 := List.mem_of_find?_eq_some he
  have h2 := List.find?_some he
  simp at h2
  rw [← h2]; exact h1
def addS (s : HS) (L : News) : HS where
  h n := match lk L n with | some (_, b) => ((s.h n).1 + 1, some b) | none => s.h n
  fz n := match lk L n with | some _ => 0 | none => s.fz n
def addM (m : Name → Nat) (L : News) : Name → Nat := fun n => match lk L n with | some (g, _) => g | none => m n

theorem RelH.extend {B : Base} {m : Name → Nat} {s : HS} {w w' : World} (r : RelH B m s w) (hb : Below w.heap.size w w') (L : News)
    (hg : ∀ e ∈ L, w.heap.size ≤ e.2.1) (hd : ∀ e ∈ L, ∀ e' ∈ L, e.2.1 = e'.2.1 → e.1 = e'.1) :
    Evol (ctx B s m w) (ctx B (addS s L) (addM m L) w') ∧
      ((∀ e ∈ L, BlkOk (ctx B (addS s L) (addM m L) w') e.2.2 e.2.1) → RelH B (addM m L) (addS s L) w') := by
  have ev : Evol (ctx B s m w) (ctx B (addS s L) (addM m L) w') := by
    refine ⟨rfl, fun n => ?_, fun n b' h => ?_, fun g o h => ?_, fun g o u h hc => ?_, fun g cs t h => ⟨cs, (hb.block g (Array.getElem?_eq_some_iff.1 h).1).trans h, rfl⟩⟩
    · simp only [ctx, addS]
      split <;> simp
    · simp only [ctx, addS, addM] at h ⊢
      cases hl : lk L n with
      | some x => rw [hl] at h; simp at h
      | none =>
        rw [hl] at h
        simp only at h
        exact ⟨b', h, rfl, rfl, bsize_of_block (hb.block _ (r.lt h))⟩
    · rcases h with h | ⟨h1, h2, hO, h3⟩
      · exact .inl h
      · refine .inr ⟨h1, Nat.lt_of_lt_of_le h2 hb.size, hO, fun n k b hn hm => ?_⟩
        simp only [addS, addM] at hn hm ⊢
        cases hl : lk L n with
        | some x =>
          rw [hl] at hm
          have := hg _ (lk_mem hl)
          simp at this hm
          omega
        | none =>
          rw [hl] at hn hm
          exact h3 n k b hn hm
    · rw [← hc]; exact cell_of_block (hb.block _ (r.S_lt h))
  refine ⟨ev, fun hL => ⟨r.base, ?_, fun n k b hn => ?_, fun n n' k k' b b' hn hn' he => ?_, fun g hg => ⟨Nat.lt_of_lt_of_le (r.keep g hg).1 hb.size, (hb.block _ (r.keep g hg).1).trans (r.keep g hg).2⟩, r.root_evol ev⟩⟩
  · exact r.below.trans (hb.mono r.size)
  · simp only [addS] at hn
    cases hl : lk L n with
    | some x =>
      obtain ⟨g, b1⟩ := x
      rw [hl] at hn
      simp only [Prod.mk.injEq, Option.some.injEq] at hn
      obtain ⟨_, rfl⟩ := hn
      have e1 : addM m L n = g := by simp [addM, hl]
      have e2 : (addS s L).fz n = 0 := by simp [addS, hl]
      rw [e1, e2]
      have h1 := hg _ (lk_mem hl)
      exact ⟨hL _ (lk_mem hl), Nat.le_trans r.size h1, Nat.zero_le _, fun hO => by have := (r.keep _ hO).1; simp at h1; omega⟩
    | none =>
      rw [hl] at hn
      have e1 : addM m L n = m n := by simp [addM, hl]
      have e2 : (addS s L).fz n = s.fz n := by simp [addS, hl]
      rw [e1, e2]
      obtain ⟨h1, h2, h3, h4⟩ := r.blk n k b hn
      exact ⟨h1.evol ev (hb.block _ (r.lt hn)), h2, h3, h4⟩
  · simp only [addS] at hn hn'
    cases hl : lk L n with
    | some x =>
      cases hl' : lk L n' with
      | some x' =>
        have e1 : addM m L n = x.1 := by simp [addM, hl]
        have e2 : addM m L n' = x'.1 := by simp [addM, hl']
        rw [e1, e2] at he
        exact hd _ (lk_mem hl) _ (lk_mem hl') he
      | none =>
        have e1 : addM m L n = x.1 := by simp [addM, hl]
        have e2 : addM m L n' = m n' := by simp [addM, hl']
        rw [e1, e2] at he
        rw [hl'] at hn'
        have h1 := r.lt hn'
        have h2 := hg _ (lk_mem hl)
        simp at h2
        omega
    | none =>
      rw [hl] at hn
      cases hl' : lk L n' with
      | some x' =>
        have e1 : addM m L n = m n := by simp [addM, hl]
        have e2 : addM m L n' = x'.1 := by simp [addM, hl']
        rw [e1, e2] at he
        have h1 := r.lt hn
        have h2 := hg _ (lk_mem hl')
        simp at h2
        omega
      | none =>
        rw [hl'] at hn'
        have e1 : addM m L n = m n := by simp [addM, hl]
        have e2 : addM m L n' = m n' := by simp [addM, hl']
        rw [e1, e2] at he
        exact r.inj n n' k k' b b' hn hn' he

theorem RelH.grown {B : Base} {m : Name → Nat} {s : HS} {w w' : World} (r : RelH B m s w) (hb : Below w.heap.size w w') : Evol (ctx B s m w) (ctx B s m w') ∧ RelH B m s w' := by
  have h := r.extend hb [] (fun e he => by cases he) (fun e he => by cases he)
  have e1 : addS s [] = s := rfl
  have e2 : addM m [] = m := rfl
  rw [e1, e2] at h
  exact ⟨h.1, h.2 fun e he => by cases he⟩

/-! ### One block's cells turn -/
/-- w' is w but for block g, whose cells are others, from lo to hi. -/
structure Turned (w w' : World) (g lo hi : Nat) (cells cells' : Array Value) (E : TypeId) : Prop where
  os : w'.os = w.os
  tape : w'.tape = w.tape
  output : w'.output = w.output
  size : w'.heap.size = w.heap.size
  was : w.heap[g]? = some (.cells cells E (0, 0))
  now : w'.heap[g]? = some (.cells cells' E (0, 0))
  csize : cells'.size = cells.size
  other : ∀ k, k ≠ g → w'.heap[k]? = w.heap[k]?
  keep : ∀ o, o < lo ∨ hi ≤ o → cells'[o]? = cells[o]?

theorem Turned.cell {w w' : World} {g lo hi : Nat} {cells cells' : Array Value} {E : TypeId} (t : Turned w w' g lo hi cells cells' E) {k o : Nat} (h : k ≠ g ∨ o < lo ∨ hi ≤ o) :
    w'.cell? ⟨k, o, none⟩ = w.cell? ⟨k, o, none⟩ := by
  by_cases hk : k = g
  · subst hk
    rcases h with h | h
    · exact absurd rfl h
    · simp only [World.cell?, t.was, t.now]
      simp [t.keep o h]
  · exact cell_of_block (t.other k hk)

theorem Turned.bsize {w w' : World} {g lo hi : Nat} {cells cells' : Array Value} {E : TypeId} (t : Turned w w' g lo hi cells cells' E) (k : Nat) : bsize w' k = bsize w k := by
  by_cases hk : k = g
  · subst hk; simp [Den.bsize, t.was, t.now, t.csize]
  · exact bsize_of_block (t.other k hk)
theorem Turned.below {w w' : World} {g lo hi : Nat} {cells cells' : Array Value} {E : TypeId} (t : Turned w w' g lo hi cells cells' E) {b : Nat} (hb : b ≤ g) : Below b w w' :=
  ⟨t.os, t.tape, t.output, Nat.le_of_eq t.size.symm, fun k hk => t.other k (by omega)⟩

/-- A block's cells from element i on are turned, or grow; the block may go to another name. -/
theorem RelH.turn {B : Base} {m : Name → Nat} {s : HS} {w w' : World} (r : RelH B m s w) {n n1 : Name} {k : Nat} {b b1 : Blk} (hn : s.h n = (k, some b)) {lo hi : Nat} {cells cells' : Array Value} {E : TypeId}
    (t : Turned w w' (m n) lo hi cells cells' E) (hf : s.fz n * b.sz ≤ lo) (hz : b1.sz = b.sz) (hlen : s.fz n ≤ b1.xs.length) (s1 : HS) (m1 : Name → Nat)
    (hs1 : (n1 = n ∧ s1 = { h := upd s.h n (k, some b1), fz := s.fz } ∧ m1 = m) ∨
      (s1 = { h := upd (upd s.h n (k, none)) n1 ((s.h n1).1 + 1, some b1), fz := upd s.fz n1 (s.fz n) } ∧ m1 = upd m n1 (m n))) :
    Evol (ctx B s m w) (ctx B s1 m1 w') ∧ (BlkOk (ctx B s1 m1 w') b1 (m n) → RelH B m1 s1 w') := by
  have hge : B.base ≤ m n := (r.blk n k b hn).2.1
  have hk1 : (s.h n).1 = k := by rw [hn]
  have ev : Evol (ctx B s m w) (ctx B s1 m1 w') := by
    have hcell : ∀ g o u, Simm B s m w g o → w.cell? ⟨g, o, none⟩ = some u → w'.cell? ⟨g, o, none⟩ = some u := by
      intro g o u hS hc
      rw [← hc]
      apply t.cell
      by_cases hg : g = m n
      · subst hg
        refine .inr (.inl ?_)
        rcases hS with ⟨h, _⟩ | ⟨_, _, _, h⟩
        · omega
        · exact Nat.lt_of_lt_of_le (h n k b hn rfl) hf
      · exact .inl hg
    have hkind : ∀ (g : Nat) (cs : Array Value) (t0 : TypeId), w.heap[g]? = some (.cells cs t0 (0, 0)) → ∃ cs' : Array Value, w'.heap[g]? = some (.cells cs' t0 (0, 0)) ∧ cs'.size = cs.size := by
      intro g cs t0 h
      by_cases hg : g = m n
      · subst hg
        rw [t.was] at h
        cases h
        exact ⟨_, t.now, t.csize⟩
      · exact ⟨cs, (t.other g hg).trans h, rfl⟩
    rcases hs1 with ⟨rfl, rfl, rfl⟩ | ⟨rfl, rfl⟩
    · refine ⟨rfl, fun n' => ?_, fun n' b' h => ?_, fun g o h => ?_, hcell, hkind⟩
      · simp only [ctx, upd]; split
        · rename_i e; subst e; simp [hk1]
        · simp
      · simp only [ctx, upd] at h ⊢
        split at h
        · rename_i e; subst e
          simp only [Prod.mk.injEq, Option.some.injEq] at h
          obtain ⟨_, rfl⟩ := h
          exact ⟨b, by rw [hn], hz.symm, by first | rfl | trivial, t.bsize _⟩
        · exact ⟨b', h, rfl, by first | rfl | trivial, t.bsize _⟩
      · rcases h with h | ⟨h1, h2, hO, h3⟩
        · exact .inl h
        · refine .inr ⟨h1, by rw [t.size]; exact h2, hO, fun n' k' b' hn' hm' => ?_⟩
          simp only [upd] at hn'
          split at hn'
          · rename_i e; subst e
            simp only [Prod.mk.injEq, Option.some.injEq] at hn'
            obtain ⟨_, rfl⟩ := hn'
            rw [hz]; exact h3 _ _ _ hn hm'
          · exact h3 _ _ _ hn' hm'
    · refine ⟨rfl, fun n' => ?_, fun n' b' h => ?_, fun g o h => ?_, hcell, hkind⟩
      · simp only [ctx, upd]; split
        · rename_i e; subst e; simp
        · split
          · rename_i e; subst e; simp [hk1]
          · simp
      · simp only [ctx, upd] at h ⊢
        split at h
        · rename_i e; subst e; simp at h
        · rename_i e1
          split at h
          · simp at h
          · exact ⟨b', h, rfl, by simp [e1], by rw [if_neg e1]; exact t.bsize _⟩
      · rcases h with h | ⟨h1, h2, hO, h3⟩
        · exact .inl h
        · refine .inr ⟨h1, by rw [t.size]; exact h2, hO, fun n' k' b' hn' hm' => ?_⟩
          simp only [upd] at hn' hm' ⊢
          split at hn'
          · rename_i e; subst e
            simp only [Prod.mk.injEq, Option.some.injEq] at hn'
            obtain ⟨_, rfl⟩ := hn'
            simp only [if_true] at hm' ⊢
            rw [hz]; exact h3 _ _ _ hn hm'
          · rename_i e1
            split at hn'
            · simp at hn'
            · rw [if_neg e1] at hm' ⊢
              exact h3 _ _ _ hn' hm'
  have hnO : ¬ B.O (m n) := (r.blk n k b hn).2.2.2
  refine ⟨ev, fun hB => ⟨r.base, r.below.trans (t.below hge), fun n' k' b' hn' => ?_, fun n' n'' k' k'' b' b'' hn' hn'' he => ?_, fun g hg => ⟨by rw [t.size]; exact (r.keep g hg).1, (t.other g fun e => hnO (e ▸ hg)).trans (r.keep g hg).2⟩, r.root_evol ev⟩⟩
  · rcases hs1 with ⟨rfl, rfl, rfl⟩ | ⟨rfl, rfl⟩
    · simp only [upd] at hn'
      split at hn'
      · rename_i e; subst e
        simp only [Prod.mk.injEq, Option.some.injEq] at hn'
        obtain ⟨_, rfl⟩ := hn'
        exact ⟨hB, hge, hlen, hnO⟩
      · rename_i e1
        obtain ⟨h1, h2, h3, h4⟩ := r.blk n' k' b' hn'
        exact ⟨h1.evol ev (t.other _ fun e => e1 (r.inj _ _ _ _ _ _ hn' hn e)), h2, h3, h4⟩
    · simp only [upd] at hn' ⊢
      split at hn'
      · rename_i e; subst e
        simp only [Prod.mk.injEq, Option.some.injEq] at hn'
        obtain ⟨_, rfl⟩ := hn'
        simp only [if_true]
        exact ⟨hB, hge, hlen, hnO⟩
      · rename_i e1
        split at hn'
        · simp at hn'
        · rename_i e2
          rw [if_neg e1, if_neg e1]
          obtain ⟨h1, h2, h3, h4⟩ := r.blk n' k' b' hn'
          exact ⟨h1.evol ev (t.other _ fun e => e2 (r.inj _ _ _ _ _ _ hn' hn e)), h2, h3, h4⟩
  · rcases hs1 with ⟨rfl, rfl, rfl⟩ | ⟨rfl, rfl⟩
    · simp only [upd] at hn' hn''
      split at hn'
      · rename_i e1
        split at hn''
        · rename_i e2; rw [e1, e2]
        · subst e1; exact r.inj _ _ _ _ _ _ hn hn'' he
      · split at hn''
        · rename_i e2; subst e2; exact r.inj _ _ _ _ _ _ hn' hn he
        · exact r.inj _ _ _ _ _ _ hn' hn'' he
    · simp only [upd] at hn' hn'' he
      split at hn'
      · rename_i e1
        split at hn''
        · rename_i e2; rw [e1, e2]
        · rename_i e2
          split at hn''
          · simp at hn''
          · rename_i e3
            rw [if_pos e1, if_neg e2] at he
            exact absurd (r.inj _ _ _ _ _ _ hn hn'' he).symm e3
      · rename_i e1
        split at hn'
        · simp at hn'
        · rename_i e3
          split at hn''
          · rename_i e2
            rw [if_neg e1, if_pos e2] at he
            exact absurd (r.inj _ _ _ _ _ _ hn' hn he) e3
          · rename_i e2
            split at hn''
            · simp at hn''
            · rw [if_neg e1, if_neg e2] at he
              exact r.inj _ _ _ _ _ _ hn' hn'' he

/-- A block is given up. -/
theorem RelH.kill {B : Base} {m : Name → Nat} {s : HS} {w : World} (r : RelH B m s w) (D : Name → Bool) :
    Evol (ctx B s m w) (ctx B { s with h := fun n => if D n then ((s.h n).1, none) else s.h n } m w) ∧ RelH B m { s with h := fun n => if D n then ((s.h n).1, none) else s.h n } w := by
  have ev : Evol (ctx B s m w) (ctx B { s with h := fun n => if D n then ((s.h n).1, none) else s.h n } m w) := by
    refine ⟨rfl, fun n => ?_, fun n b' h => ?_, fun g o h => ?_, fun _ _ _ _ h => h, fun _ cs _ h => ⟨cs, h, rfl⟩⟩
    · simp only [ctx]; split <;> simp
    · simp only [ctx] at h ⊢
      split at h
      · simp at h
      · exact ⟨b', h, rfl, by first | rfl | trivial, by first | rfl | trivial⟩
    · rcases h with h | ⟨h1, h2, hO, h3⟩
      · exact .inl h
      · refine .inr ⟨h1, h2, hO, fun n k b hn hm => ?_⟩
        simp only at hn
        split at hn
        · simp at hn
        · exact h3 n k b hn hm
  refine ⟨ev, ⟨r.base, r.below, fun n k b hn => ?_, fun n n' k k' b b' hn hn' he => ?_, r.keep, r.root_evol ev⟩⟩
  · simp only at hn
    split at hn
    · simp at hn
    · obtain ⟨h1, h2, h3, h4⟩ := r.blk n k b hn
      exact ⟨h1.evol ev rfl, h2, h3, h4⟩
  · simp only at hn hn'
    split at hn
    · simp at hn
    · split at hn'
      · simp at hn'
      · exact r.inj n n' k k' b b' hn hn' he

/-- A row's first elements are frozen. -/
theorem RelH.freeze {B : Base} {m : Name → Nat} {s : HS} {w : World} (r : RelH B m s w) (f : Name → Nat) (hf : ∀ n, s.fz n ≤ f n) (hl : ∀ n k b, s.h n = (k, some b) → f n ≤ b.xs.length) :
    Evol (ctx B s m w) (ctx B { s with fz := f } m w) ∧ RelH B m { s with fz := f } w := by
  have ev : Evol (ctx B s m w) (ctx B { s with fz := f } m w) := by
    refine ⟨rfl, fun n => Nat.le_refl _, fun n b' h => ⟨b', h, rfl, rfl, rfl⟩, fun g o h => ?_, fun _ _ _ _ h => h, fun _ cs _ h => ⟨cs, h, rfl⟩⟩
    rcases h with h | ⟨h1, h2, hO, h3⟩
    · exact .inl h
    · exact .inr ⟨h1, h2, hO, fun n k b hn hm => Nat.lt_of_lt_of_le (h3 n k b hn hm) (Nat.mul_le_mul_right _ (hf n))⟩
  refine ⟨ev, ⟨r.base, r.below, fun n k b hn => ?_, r.inj, r.keep, r.root_evol ev⟩⟩
  obtain ⟨h1, h2, h3, h4⟩ := r.blk n k b hn
  exact ⟨h1.evol ev rfl, h2, hl n k b hn, h4⟩
end Go.Proofs.YtfjflodicgjihaaGreatDoor.Den
