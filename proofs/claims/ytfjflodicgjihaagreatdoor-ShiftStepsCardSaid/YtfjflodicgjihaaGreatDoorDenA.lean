/- A plain reading of Go's text: values without memory, how they stand for machine values, and that this lasts. -/
import Derived.Below
import Derived.Orders
import Derived.Laws.Sem
import Derived.Laws.Cells
import Derived.Laws.Rows
set_option linter.unusedVariables false
set_option linter.unusedSimpArgs false
namespace Go.Proofs.YtfjflodicgjihaaGreatDoor.Den
open Go Go.RowKit

abbrev Name := List Nat
/-- Plain values. -/
inductive PV where
  | v (x : Value)
  | ptr (n : Name) (k i off : Nat)
  | row (n : Name) (k i len : Nat)
  | list (sz : Nat) (full : Bool) (xs : List (List PV))
  | eptr (cs : List PV)
  | agg (cs : List PV)
  | tup (cs : List PV)
  | clo (f : FuncId) (cs : List PV)
  /-- a function with its first arguments -/
  | mth (f : FuncId) (cs : List PV)
  | ifc (t : TypeId) (x : PV)
  | far (k : Nat)
  | own (sz : Nat) (E : TypeId) (xs : List (List PV))
  | unk

mutual
def closedB : PV → Bool
  | .v _ => true
  | .list _ _ _ => true
  | .eptr _ => true
  | .agg cs => closedL cs
  | .tup cs => closedL cs
  | .clo _ cs => closedL cs
  | .mth _ cs => closedL cs
  | .ifc _ x => closedB x
  | .far _ => true
  | .ptr .. => false
  | .row .. => false
  | .own .. => false
  | .unk => true
def closedL : List PV → Bool
  | [] => true
  | x :: l => closedB x && closedL l
end
def closedLL : List (List PV) → Bool
  | [] => true
  | x :: l => closedL x && closedLL l
theorem closedL_iff {l : List PV} : closedL l = true ↔ ∀ x ∈ l, closedB x = true := by
  induction l with
  | nil => simp [closedL]
  | cons x l ih => simp [closedL, ih]
theorem closedLL_iff {l : List (List PV)} : closedLL l = true ↔ ∀ x ∈ l, ∀ y ∈ x, closedB y = true := by
  induction l with
  | nil => simp [closedLL]
  | cons x l ih => simp [closedLL, ih, closedL_iff]
theorem closedLL_sub {l l' : List (List PV)} (h : closedLL l = true) (hs : ∀ x ∈ l', x ∈ l) : closedLL l' = true := closedLL_iff.2 fun x hx => closedLL_iff.1 h x (hs x hx)
theorem closedL_sub {l l' : List PV} (h : closedL l = true) (hs : ∀ x ∈ l', x ∈ l) : closedL l' = true := closedL_iff.2 fun x hx => closedL_iff.1 h x (hs x hx)

/-- A block of ours; cl: nothing in it bears a name. -/
structure Blk where
  sz : Nat
  E : TypeId
  xs : List (List PV)
  cl : Bool
  /-- a row of elements: slices in it are lists -/
  rw : Bool
/-- A heap of our own blocks: at each name the last version, and the block, if it is there. -/
abbrev Hp := Name → Nat × Option Blk

def bsize (w : World) (g : Nat) : Nat := match w.heap[g]? with | some (.cells cs _ _) => cs.size | _ => 0

structure Ctx where
  h : Hp
  m : Name → Nat
  S : Nat → Nat → Prop
  w : World
  F : Nat → Addr

/-- What stands for what. -/
inductive VR (c : Ctx) : PV → Value → Prop
  | v (x : Value) : VR c (.v x) x
  | ptr (n : Name) (k i off : Nat) (a : Addr) (hk : k ≤ (c.h n).1) (ha : ∀ b, c.h n = (k, some b) → a = ⟨c.m n, i * b.sz + off, none⟩) : VR c (.ptr n k i off) (.pointer (some a))
  | row (n : Name) (k i len : Nat) (a : Addr) (cap : Nat) (hk : k ≤ (c.h n).1) (hc : len ≤ cap) (hm : cap ≤ 9223372036854775807)
      (ha : ∀ b, c.h n = (k, some b) → a = ⟨c.m n, i * b.sz, none⟩ ∧ (i + cap) * b.sz = bsize c.w (c.m n)) : VR c (.row n k i len) (.slice (some a) len cap)
  | list (sz : Nat) (full : Bool) (xs : List (List PV)) (g off cap : Nat) (us : Nat → Nat → Value) (hcl : closedLL xs = true) (hc : xs.length ≤ cap) (hm : cap ≤ 9223372036854775807) (hf : full = true → cap = xs.length)
      (hl : ∀ (i : Nat) (x : List PV), xs[i]? = some x → x.length = sz) (ho : ∀ i j, i < xs.length → j < sz → (us i j).oneCell' = true) (hx : ∀ (i j : Nat) (x : List PV) (y : PV), xs[i]? = some x → x[j]? = some y → VR c y (us i j))
      (hw : ∀ i j, i < xs.length → j < sz → c.S g (off + (i * sz + j)) ∧ c.w.cell? ⟨g, off + (i * sz + j), none⟩ = some (us i j)) :
      VR c (.list sz full xs) (.slice (some ⟨g, off, none⟩) xs.length cap)
  | lnil (sz : Nat) (full : Bool) (a : Option Addr) : VR c (.list sz full []) (.slice a 0 0)
  | eptr (cs : List PV) (g off : Nat) (us : Nat → Value) (hcl : closedL cs = true) (hx : ∀ (j : Nat) (y : PV), cs[j]? = some y → VR c y (us j))
      (hw : ∀ j, j < cs.length → c.S g (off + j) ∧ c.w.cell? ⟨g, off + j, none⟩ = some (us j)) : VR c (.eptr cs) (.pointer (some ⟨g, off, none⟩))
  | agg (cs : List PV) (vs : Array Value) (hl : vs.size = cs.length) (hx : ∀ (j : Nat) (y : PV) (u : Value), cs[j]? = some y → vs[j]? = some u → VR c y u) : VR c (.agg cs) (.agg vs)
  | tup (cs : List PV) (vs : Array Value) (hl : vs.size = cs.length) (hx : ∀ (j : Nat) (y : PV) (u : Value), cs[j]? = some y → vs[j]? = some u → VR c y u) : VR c (.tup cs) (.tuple vs)
  | clo (f : FuncId) (cs : List PV) (vs : Array Value) (hl : vs.size = cs.length) (hx : ∀ (j : Nat) (y : PV) (u : Value), cs[j]? = some y → vs[j]? = some u → VR c y u) : VR c (.clo f cs) (.func (.func f) #[] vs)
  | mth (f : FuncId) (cs : List PV) (vs : Array Value) (hl : vs.size = cs.length) (hx : ∀ (j : Nat) (y : PV) (u : Value), cs[j]? = some y → vs[j]? = some u → VR c y u) : VR c (.mth f cs) (.func (.func f) vs #[])
  | ifc (t : TypeId) (x : PV) (u : Value) (hx : VR c x u) : VR c (.ifc t x) (.iface t u)
  | far (k : Nat) : VR c (.far k) (.pointer (some (c.F k)))
  | unk (u : Value) : VR c .unk u

/-- How contexts may go on. -/
structure Evol (c c' : Ctx) : Prop where
  F : c'.F = c.F
  ver : ∀ n, (c.h n).1 ≤ (c'.h n).1
  live : ∀ n b', c'.h n = ((c.h n).1, some b') → ∃ b, c.h n = ((c.h n).1, some b) ∧ b.sz = b'.sz ∧ c'.m n = c.m n ∧ bsize c'.w (c'.m n) = bsize c.w (c.m n)
  S : ∀ g o, c.S g o → c'.S g o
  cell : ∀ g o u, c.S g o → c.w.cell? ⟨g, o, none⟩ = some u → c'.w.cell? ⟨g, o, none⟩ = some u
  kind : ∀ (g : Nat) (cs : Array Value) (t : TypeId), c.w.heap[g]? = some (.cells cs t (0, 0)) → ∃ cs' : Array Value, c'.w.heap[g]? = some (.cells cs' t (0, 0)) ∧ cs'.size = cs.size

theorem Evol.refl (c : Ctx) : Evol c c := ⟨rfl, fun _ => Nat.le_refl _, fun n b' h => ⟨b', h, rfl, rfl, rfl⟩, fun _ _ h => h, fun _ _ _ _ h => h, fun _ cs _ h => ⟨cs, h, rfl⟩⟩
theorem Evol.trans {a b c : Ctx} (h : Evol a b) (k : Evol b c) : Evol a c where
  F := k.F.trans h.F
  ver n := Nat.le_trans (h.ver n) (k.ver n)
  live n b' hb := by
    have e1 : (a.h n).1 = (b.h n).1 := Nat.le_antisymm (h.ver n) (by have := k.ver n; rw [hb] at this; exact this)
    obtain ⟨b1, h1, h2, h3, h4⟩ := k.live n b' (by rw [← e1]; exact hb)
    obtain ⟨b2, g1, g2, g3, g4⟩ := h.live n b1 (by rw [e1]; exact h1)
    exact ⟨b2, g1, g2.trans h2, h3.trans g3, h4.trans g4⟩
  S g o hs := k.S _ _ (h.S _ _ hs)
  cell g o u hs hc := k.cell _ _ _ (h.S _ _ hs) (h.cell _ _ _ hs hc)
  kind g cs t hg := by
    obtain ⟨cs1, h1, e1⟩ := h.kind g cs t hg
    obtain ⟨cs2, h2, e2⟩ := k.kind g cs1 t h1
    exact ⟨cs2, h2, e2.trans e1⟩

theorem VR.evol {c c' : Ctx} (e : Evol c c') {x : PV} {u : Value} (h : VR c x u) : VR c' x u := by
  induction h with
  | v x => exact .v x
  | ptr n k i off a hk ha =>
    refine .ptr n k i off a (Nat.le_trans hk (e.ver n)) fun b hb => ?_
    have e1 : (c.h n).1 = k := Nat.le_antisymm (by have := e.ver n; rw [hb] at this; exact this) hk
    obtain ⟨b0, h1, h2, h3, _⟩ := e.live n b (by rw [e1]; exact hb)
    rw [e1] at h1
    rw [ha b0 h1, h2, h3]
  | row n k i len a cap hk hc hm ha =>
    refine .row n k i len a cap (Nat.le_trans hk (e.ver n)) hc hm fun b hb => ?_
    have e1 : (c.h n).1 = k := Nat.le_antisymm (by have := e.ver n; rw [hb] at this; exact this) hk
    obtain ⟨b0, h1, h2, h3, h4⟩ := e.live n b (by rw [e1]; exact hb)
    rw [e1] at h1
    obtain ⟨p, q⟩ := ha b0 h1
    rw [h2] at p q
    exact ⟨by rw [p, h3], by rw [q, h4]⟩
  | list sz full xs g off cap us hcl hc hm hf hl ho hx hw ih => exact .list sz full xs g off cap us hcl hc hm hf hl ho (fun i j x y h1 h2 => ih i j x y h1 h2) (fun i j h1 h2 => ⟨e.S _ _ (hw i j h1 h2).1, e.cell _ _ _ (hw i j h1 h2).1 (hw i j h1 h2).2⟩)
  | lnil sz full a => exact .lnil sz full a
  | eptr cs g off us hcl hx hw ih => exact .eptr cs g off us hcl (fun j y h => ih j y h) (fun j h => ⟨e.S _ _ (hw j h).1, e.cell _ _ _ (hw j h).1 (hw j h).2⟩)
  | agg cs vs hl hx ih => exact .agg cs vs hl (fun j y u h1 h2 => ih j y u h1 h2)
  | tup cs vs hl hx ih => exact .tup cs vs hl (fun j y u h1 h2 => ih j y u h1 h2)
  | clo f cs vs hl hx ih => exact .clo f cs vs hl (fun j y u h1 h2 => ih j y u h1 h2)
  | mth f cs vs hl hx ih => exact .mth f cs vs hl (fun j y u h1 h2 => ih j y u h1 h2)
  | ifc t x u hx ih => exact .ifc t x u ih
  | far k => rw [← e.F]; exact .far k
  | unk u => exact .unk u

/-! ### Plain values that bear no address at all -/
mutual
def PV.toV : PV → Option Value
  | .v x => some x
  | .agg cs => (PV.toVs cs).map fun l => .agg l.toArray
  | .tup cs => (PV.toVs cs).map fun l => .tuple l.toArray
  | _ => none
def PV.toVs : List PV → Option (List Value)
  | [] => some []
  | x :: l => match PV.toV x, PV.toVs l with
    | some u, some us => some (u :: us)
    | _, _ => none
end
def PV.ofV : Value → PV
  | .agg cs => .agg (cs.toList.map .v)
  | .tuple vs => .tup (vs.toList.map .v)
  | x => .v x
theorem VR.ofV (c : Ctx) (u : Value) : VR c (.ofV u) u := by
  cases u <;> first
    | exact .v _
    | (rename_i cs; refine .agg _ cs (by simp) fun j y x h1 h2 => ?_; simp at h1; obtain ⟨z, hz, rfl⟩ := h1; rw [hz] at h2; cases h2; exact .v _)
    | (rename_i cs; refine .tup _ cs (by simp) fun j y x h1 h2 => ?_; simp at h1; obtain ⟨z, hz, rfl⟩ := h1; rw [hz] at h2; cases h2; exact .v _)

mutual
theorem VR.toV {c : Ctx} : ∀ (x : PV) {u z : Value}, VR c x u → x.toV = some z → u = z
  | .v y, u, z, h, e => by cases h; simpa [PV.toV] using e
  | .agg cs, u, z, h, e => by
    cases h with
    | agg _ vs hl hx =>
      simp only [PV.toV, Option.map_eq_some_iff] at e
      obtain ⟨l, hl', rfl⟩ := e
      have e2 := VR.toVs cs vs.toList l (by simpa using hl) (fun j y u h1 h2 => hx j y u h1 (by simpa using h2)) hl'
      rw [← e2]
  | .tup cs, u, z, h, e => by
    cases h with
    | tup _ vs hl hx =>
      simp only [PV.toV, Option.map_eq_some_iff] at e
      obtain ⟨l, hl', rfl⟩ := e
      have e2 := VR.toVs cs vs.toList l (by simpa using hl) (fun j y u h1 h2 => hx j y u h1 (by simpa using h2)) hl'
      rw [← e2]
  | .ptr .., u, z, h, e => by simp [PV.toV] at e
  | .row .., u, z, h, e => by simp [PV.toV] at e
  | .list .., u, z, h, e => by simp [PV.toV] at e
  | .eptr .., u, z, h, e => by simp [PV.toV] at e
  | .clo .., u, z, h, e => by simp [PV.toV] at e
  | .mth .., u, z, h, e => by simp [PV.toV] at e
  | .ifc .., u, z, h, e => by simp [PV.toV] at e
  | .far .., u, z, h, e => by simp [PV.toV] at e
  | .own .., u, z, h, e => by simp [PV.toV] at e
  | .unk, u, z, h, e => by simp [PV.toV] at e
theorem VR.toVs {c : Ctx} : ∀ (cs : List PV) (vs l : List Value), vs.length = cs.length → (∀ (j : Nat) (y : PV) (u : Value), cs[j]? = some y → vs[j]? = some u → VR c y u) → PV.toVs cs = some l → vs = l
  | [], vs, l, hl, hx, e => by
    simp [PV.toVs] at e; subst e
    exact List.eq_nil_of_length_eq_zero hl
  | y :: cs, vs, l, hl, hx, e => by
    cases vs with
    | nil => simp at hl
    | cons u us =>
      simp only [PV.toVs] at e
      split at e
      · rename_i a b ha hb
        cases e
        rw [VR.toV y (hx 0 y u rfl rfl) ha, VR.toVs cs us b (by simpa using hl) (fun j z u h1 h2 => hx (j + 1) z u (by simpa using h1) (by simpa using h2)) hb]
      · cases e
end

/-- Semantics that asks nothing of memory. -/
def quiet {α : Type} (P : Program) : Sem α → Option α
  | .pure a => some a
  | .program k => quiet P (k P)
  | .mark _ k => quiet P k
  | _ => none
theorem quiet_run {α : Type} {P : Program} (s : Sem α) (w : World) {a : α} (h : quiet P s = some a) : s.run P w = .ok a w := by
  induction s <;> simp only [quiet] at h <;> first | cases h | skip
  · rfl
  · rename_i k ih; exact ih P h
  · rename_i m k ih; exact ih h
end Go.Proofs.YtfjflodicgjihaaGreatDoor.Den
