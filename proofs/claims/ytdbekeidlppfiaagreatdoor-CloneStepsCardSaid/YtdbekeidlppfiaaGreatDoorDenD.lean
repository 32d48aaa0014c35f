/- Texts joined by a program of mine (pack.py): DenA DenB DenC DenD. -/
import Derived.Below
import Derived.Orders
import Derived.Laws.Sem
import Derived.Laws.Cells
import Derived.Laws.Rows
import Derived.Laws.AppendOwn
import Derived.Laws.IdiomCopy
import Derived.Laws.Entries
import Derived.Laws.Append
import Derived.Laws.MakeOwn
import Derived.Laws.Tables
import Derived.Maps.AppendAt
set_option linter.unusedVariables false
set_option linter.unusedSimpArgs false
namespace Go.Proofs.YtdbekeidlppfiaaGreatDoor.Den
open Go Go.RowKit
abbrev Name := List Nat
inductive PV where
 | v (x : Value)
 | ptr (n : Name) (k i off : Nat)
 | row (n : Name) (k i len : Nat)
 | list (sz : Nat) (full : Bool) (xs : List (List PV))
 | eptr (cs : List PV)
 | agg (cs : List PV)
 | tup (cs : List PV)
 | clo (f : FuncId) (cs : List PV)
 | mth (f : FuncId) (cs : List PV)
 | ifc (t : TypeId) (x : PV)
 | far (k : Nat)
 | own (sz : Nat) (E : TypeId) (xs : List (List PV))
 | unk
mutual
def closedB : PV → Bool
 | .v _ => true
 | .list _ _ _ => true
 | .eptr _ => true
 | .agg cs => closedL cs
 | .tup cs => closedL cs
 | .clo _ cs => closedL cs
 | .mth _ cs => closedL cs
 | .ifc _ x => closedB x
 | .far _ => true
 | .ptr .. => false
 | .row .. => false
 | .own .. => false
 | .unk => true
def closedL : List PV → Bool
 | [] => true
 | x :: l => closedB x && closedL l
end
def closedLL : List (List PV) → Bool
 | [] => true
 | x :: l => closedL x && closedLL l
theorem closedL_iff {l : List PV} : closedL l = true ↔ ∀ x ∈ l, closedB x = true := by
 induction l with
 | nil => simp [closedL]
 | cons x l ih => simp [closedL, ih]
theorem closedLL_iff {l : List (List PV)} : closedLL l = true ↔ ∀ x ∈ l, ∀ y ∈ x, closedB y = true := by
 induction l with
 | nil => simp [closedLL]
 | cons x l ih => simp [closedLL, ih, closedL_iff]
theorem closedLL_sub {l l' : List (List PV)} (h : closedLL l = true) (hs : ∀ x ∈ l', x ∈ l) : closedLL l' = true := closedLL_iff.2 fun x hx => closedLL_iff.1 h x (hs x hx)
theorem closedL_sub {l l' : List PV} (h : closedL l = true) (hs : ∀ x ∈ l', x ∈ l) : closedL l' = true := closedL_iff.2 fun x hx => closedL_iff.1 h x (hs x hx)
structure Blk where
 sz : Nat
 E : TypeId
 xs : List (List PV)
 cl : Bool
 rw : Bool
abbrev Hp := Name → Nat × Option Blk
def bsize (w : World) (g : Nat) : Nat := match w.heap[g]? with | some (.cells cs _ _) => cs.size | _ => 0
structure Ctx where
 h : Hp
 m : Name → Nat
 S : Nat → Nat → Prop
 w : World
 F : Nat → Addr
inductive VR (c : Ctx) : PV → Value → Prop
 | v (x : Value) : VR c (.v x) x
 | ptr (n : Name) (k i off : Nat) (a : Addr) (hk : k ≤ (c.h n).1) (ha : ∀ b, c.h n = (k, some b) → a = ⟨c.m n, i * b.sz + off, none⟩) : VR c (.ptr n k i off) (.pointer (some a))
 | row (n : Name) (k i len : Nat) (a : Addr) (cap : Nat) (hk : k ≤ (c.h n).1) (hc : len ≤ cap) (hm : cap ≤ 9223372036854775807)
   (ha : ∀ b, c.h n = (k, some b) → a = ⟨c.m n, i * b.sz, none⟩ ∧ (i + cap) * b.sz = bsize c.w (c.m n)) : VR c (.row n k i len) (.slice (some a) len cap)
 | list (sz : Nat) (full : Bool) (xs : List (List PV)) (g off cap : Nat) (us : Nat → Nat → Value) (hcl : closedLL xs = true) (hc : xs.length ≤ cap) (hm : cap ≤ 9223372036854775807) (hf : full = true → cap = xs.length)
   (hl : ∀ (i : Nat) (x : List PV), xs[i]? = some x → x.length = sz) (ho : ∀ i j, i < xs.length → j < sz → (us i j).oneCell' = true) (hx : ∀ (i j : Nat) (x : List PV) (y : PV), xs[i]? = some x → x[j]? = some y → VR c y (us i j))
   (hw : ∀ i j, i < xs.length → j < sz → c.S g (off + (i * sz + j)) ∧ c.w.cell? ⟨g, off + (i * sz + j), none⟩ = some (us i j)) :
   VR c (.list sz full xs) (.slice (some ⟨g, off, none⟩) xs.length cap)
 | lnil (sz : Nat) (full : Bool) (a : Option Addr) : VR c (.list sz full []) (.slice a 0 0)
 | eptr (cs : List PV) (g off : Nat) (us : Nat → Value) (hcl : closedL cs = true) (hx : ∀ (j : Nat) (y : PV), cs[j]? = some y → VR c y (us j))
   (hw : ∀ j, j < cs.length → c.S g (off + j) ∧ c.w.cell? ⟨g, off + j, none⟩ = some (us j)) : VR c (.eptr cs) (.pointer (some ⟨g, off, none⟩))
 | agg (cs : List PV) (vs : Array Value) (hl : vs.size = cs.length) (hx : ∀ (j : Nat) (y : PV) (u : Value), cs[j]? = some y → vs[j]? = some u → VR c y u) : VR c (.agg cs) (.agg vs)
 | tup (cs : List PV) (vs : Array Value) (hl : vs.size = cs.length) (hx : ∀ (j : Nat) (y : PV) (u : Value), cs[j]? = some y → vs[j]? = some u → VR c y u) : VR c (.tup cs) (.tuple vs)
 | clo (f : FuncId) (cs : List PV) (vs : Array Value) (hl : vs.size = cs.length) (hx : ∀ (j : Nat) (y : PV) (u : Value), cs[j]? = some y → vs[j]? = some u → VR c y u) : VR c (.clo f cs) (.func (.func f) #[] vs)
 | mth (f : FuncId) (cs : List PV) (vs : Array Value) (hl : vs.size = cs.length) (hx : ∀ (j : Nat) (y : PV) (u : Value), cs[j]? = some y → vs[j]? = some u → VR c y u) : VR c (.mth f cs) (.func (.func f) vs #[])
 | ifc (t : TypeId) (x : PV) (u : Value) (hx : VR c x u) : VR c (.ifc t x) (.iface t u)
 | far (k : Nat) : VR c (.far k) (.pointer (some (c.F k)))
 | unk (u : Value) : VR c .unk u
structure Evol (c c' : Ctx) : Prop where
 F : c'.F = c.F
 ver : ∀ n, (c.h n).1 ≤ (c'.h n).1
 live : ∀ n b', c'.h n = ((c.h n).1, some b') → ∃ b, c.h n = ((c.h n).1, some b) ∧ b.sz = b'.sz ∧ c'.m n = c.m n ∧ bsize c'.w (c'.m n) = bsize c.w (c.m n)
 S : ∀ g o, c.S g o → c'.S g o
 cell : ∀ g o u, c.S g o → c.w.cell? ⟨g, o, none⟩ = some u → c'.w.cell? ⟨g, o, none⟩ = some u
 kind : ∀ (g : Nat) (cs : Array Value) (t : TypeId), c.w.heap[g]? = some (.cells cs t (0, 0)) → ∃ cs' : Array Value, c'.w.heap[g]? = some (.cells cs' t (0, 0)) ∧ cs'.size = cs.size
theorem Evol.refl (c : Ctx) : Evol c c := ⟨rfl, fun _ => Nat.le_refl _, fun n b' h => ⟨b', h, rfl, rfl, rfl⟩, fun _ _ h => h, fun _ _ _ _ h => h, fun _ cs _ h => ⟨cs, h, rfl⟩⟩
theorem Evol.trans {a b c : Ctx} (h : Evol a b) (k : Evol b c) : Evol a c where
 F := k.F.trans h.F
 ver n := Nat.le_trans (h.ver n) (k.ver n)
 live n b' hb := by
  have e1 : (a.h n).1 = (b.h n).1 := Nat.le_antisymm (h.ver n) (by have := k.ver n; rw [hb] at this; exact this)
  obtain ⟨b1, h1, h2, h3, h4⟩ := k.live n b' (by rw [← e1]; exact hb)
  obtain ⟨b2, g1, g2, g3, g4⟩ := h.live n b1 (by rw [e1]; exact h1)
  exact ⟨b2, g1, g2.trans h2, h3.trans g3, h4.trans g4⟩
 S g o hs := k.S _ _ (h.S _ _ hs)
 cell g o u hs hc := k.cell _ _ _ (h.S _ _ hs) (h.cell _ _ _ hs hc)
 kind g cs t hg := by
  obtain ⟨cs1, h1, e1⟩ := h.kind g cs t hg
  obtain ⟨cs2, h2, e2⟩ := k.kind g cs1 t h1
  exact ⟨cs2, h2, e2.trans e1⟩
theorem VR.evol {c c' : Ctx} (e : Evol c c') {x : PV} {u : Value} (h : VR c x u) : VR c' x u := by
 induction h with
 | v x => exact .v x
 | ptr n k i off a hk ha =>
  refine .ptr n k i off a (Nat.le_trans hk (e.ver n)) fun b hb => ?_
  have e1 : (c.h n).1 = k := Nat.le_antisymm (by have := e.ver n; rw [hb] at this; exact this) hk
  obtain ⟨b0, h1, h2, h3, _⟩ := e.live n b (by rw [e1]; exact hb)
  rw [e1] at h1
  rw [ha b0 h1, h2, h3]
 | row n k i len a cap hk hc hm ha =>
  refine .row n k i len a cap (Nat.le_trans hk (e.ver n)) hc hm fun b hb => ?_
  have e1 : (c.h n).1 = k := Nat.le_antisymm (by have := e.ver n; rw [hb] at this; exact this) hk
  obtain ⟨b0, h1, h2, h3, h4⟩ := e.live n b (by rw [e1]; exact hb)
  rw [e1] at h1
  obtain ⟨p, q⟩ := ha b0 h1
  rw [h2] at p q
  exact ⟨by rw [p, h3], by rw [q, h4]⟩
 | list sz full xs g off cap us hcl hc hm hf hl ho hx hw ih => exact .list sz full xs g off cap us hcl hc hm hf hl ho (fun i j x y h1 h2 => ih i j x y h1 h2) (fun i j h1 h2 => ⟨e.S _ _ (hw i j h1 h2).1, e.cell _ _ _ (hw i j h1 h2).1 (hw i j h1 h2).2⟩)
 | lnil sz full a => exact .lnil sz full a
 | eptr cs g off us hcl hx hw ih => exact .eptr cs g off us hcl (fun j y h => ih j y h) (fun j h => ⟨e.S _ _ (hw j h).1, e.cell _ _ _ (hw j h).1 (hw j h).2⟩)
 | agg cs vs hl hx ih => exact .agg cs vs hl (fun j y u h1 h2 => ih j y u h1 h2)
 | tup cs vs hl hx ih => exact .tup cs vs hl (fun j y u h1 h2 => ih j y u h1 h2)
 | clo f cs vs hl hx ih => exact .clo f cs vs hl (fun j y u h1 h2 => ih j y u h1 h2)
 | mth f cs vs hl hx ih => exact .mth f cs vs hl (fun j y u h1 h2 => ih j y u h1 h2)
 | ifc t x u hx ih => exact .ifc t x u ih
 | far k => rw [← e.F]; exact .far k
 | unk u => exact .unk u
mutual
def PV.toV : PV → Option Value
 | .v x => some x
 | .agg cs => (PV.toVs cs).map fun l => .agg l.toArray
 | .tup cs => (PV.toVs cs).map fun l => .tuple l.toArray
 | _ => none
def PV.toVs : List PV → Option (List Value)
 | [] => some []
 | x :: l => match PV.toV x, PV.toVs l with
  | some u, some us => some (u :: us)
  | _, _ => none
end
def PV.ofV : Value → PV
 | .agg cs => .agg (cs.toList.map .v)
 | .tuple vs => .tup (vs.toList.map .v)
 | x => .v x
theorem VR.ofV (c : Ctx) (u : Value) : VR c (.ofV u) u := by
 cases u <;> first
  | exact .v _
  | (rename_i cs; refine .agg _ cs (by simp) fun j y x h1 h2 => ?_; simp at h1; obtain ⟨z, hz, rfl⟩ := h1; rw [hz] at h2; cases h2; exact .v _)
  | (rename_i cs; refine .tup _ cs (by simp) fun j y x h1 h2 => ?_; simp at h1; obtain ⟨z, hz, rfl⟩ := h1; rw [hz] at h2; cases h2; exact .v _)
mutual
theorem VR.toV {c : Ctx} : ∀ (x : PV) {u z : Value}, VR c x u → x.toV = some z → u = z
 | .v y, u, z, h, e => by cases h; simpa [PV.toV] using e
 | .agg cs, u, z, h, e => by
  cases h with
  | agg _ vs hl hx =>
   simp only [PV.toV, Option.map_eq_some_iff] at e
   obtain ⟨l, hl', rfl⟩ := e
   have e2 := VR.toVs cs vs.toList l (by simpa using hl) (fun j y u h1 h2 => hx j y u h1 (by simpa using h2)) hl'
   rw [← e2]
 | .tup cs, u, z, h, e => by
  cases h with
  | tup _ vs hl hx =>
   simp only [PV.toV, Option.map_eq_some_iff] at e
   obtain ⟨l, hl', rfl⟩ := e
   have e2 := VR.toVs cs vs.toList l (by simpa using hl) (fun j y u h1 h2 => hx j y u h1 (by simpa using h2)) hl'
   rw [← e2]
 | .ptr .., u, z, h, e => by simp [PV.toV] at e
 | .row .., u, z, h, e => by simp [PV.toV] at e
 | .list .., u, z, h, e => by simp [PV.toV] at e
 | .eptr .., u, z, h, e => by simp [PV.toV] at e
 | .clo .., u, z, h, e => by simp [PV.toV] at e
 | .mth .., u, z, h, e => by simp [PV.toV] at e
 | .ifc .., u, z, h, e => by simp [PV.toV] at e
 | .far .., u, z, h, e => by simp [PV.toV] at e
 | .own .., u, z, h, e => by simp [PV.toV] at e
 | .unk, u, z, h, e => by simp [PV.toV] at e
theorem VR.toVs {c : Ctx} : ∀ (cs : List PV) (vs l : List Value), vs.length = cs.length → (∀ (j : Nat) (y : PV) (u : Value), cs[j]? = some y → vs[j]? = some u → VR c y u) → PV.toVs cs = some l → vs = l
 | [], vs, l, hl, hx, e => by
  simp [PV.toVs] at e; subst e
  exact List.eq_nil_of_length_eq_zero hl
 | y :: cs, vs, l, hl, hx, e => by
  cases vs with
  | nil => simp at hl
  | cons u us =>
   simp only [PV.toVs] at e
   split at e
   ·rename_i a b ha hb
    cases e
    rw [VR.toV y (hx 0 y u rfl rfl) ha, VR.toVs cs us b (by simpa using hl) (fun j z u h1 h2 => hx (j + 1) z u (by simpa using h1) (by simpa using h2)) hb]
   ·cases e
end
def quiet {α : Type} (P : Program) : Sem α → Option α
 | .pure a => some a
 | .program k => quiet P (k P)
 | .mark _ k => quiet P k
 | _ => none
theorem quiet_run {α : Type} {P : Program} (s : Sem α) (w : World) {a : α} (h : quiet P s = some a) : s.run P w = .ok a w := by
 induction s <;> simp only [quiet] at h <;> first | cases h | skip
 ·rfl
 ·rename_i k ih; exact ih P h
 ·rename_i m k ih; exact ih h
end Go.Proofs.YtdbekeidlppfiaaGreatDoor.Den
namespace Go.Proofs.YtdbekeidlppfiaaGreatDoor.Den
open Go Go.RowKit
structure HS where
 h : Hp
 fz : Name → Nat
structure Base where
 base : Nat
 S0 : Nat → Nat → Prop
 F : Nat → Addr
 w0 : World
 O : Nat → Prop
 wO : World
 SO : Nat → Nat → Prop
 roots : List (Nat × Nat × Nat)
def TAG : Nat := 4294967295
def upd {α : Type} (f : Name → α) (n : Name) (x : α) : Name → α := fun n' => if n' = n then x else f n'
@[simp] theorem upd_same {α : Type} (f : Name → α) (n : Name) (x : α) : upd f n x n = x := by simp [upd]
def Simm (B : Base) (s : HS) (m : Name → Nat) (w : World) : Nat → Nat → Prop := fun g o =>
 (g < B.base ∧ B.S0 g o) ∨ (B.base ≤ g ∧ g < w.heap.size ∧ (B.O g → B.SO g o) ∧ ∀ n k b, s.h n = (k, some b) → m n = g → o < s.fz n * b.sz)
def ctx (B : Base) (s : HS) (m : Name → Nat) (w : World) : Ctx := ⟨s.h, m, Simm B s m w, w, B.F⟩
def CellsOf (w : World) (g : Nat) (cells : Array Value) (E : TypeId) : Prop := ∃ f : Nat × Nat, w.heap[g]? = some (.cells cells E f) ∧ (f = (0, 0) ∨ cells.size ≤ f.1)
theorem CellsOf.mk0 {w : World} {g : Nat} {cells : Array Value} {E : TypeId} (h : w.heap[g]? = some (.cells cells E (0, 0))) : CellsOf w g cells E := ⟨_, h, .inl rfl⟩
theorem CellsOf.lt {w : World} {g : Nat} {cells : Array Value} {E : TypeId} (h : CellsOf w g cells E) : g < w.heap.size := by
 obtain ⟨f, h, _⟩ := h; exact (Array.getElem?_eq_some_iff.1 h).1
theorem CellsOf.of_block {w w' : World} {g : Nat} {cells : Array Value} {E : TypeId} (h : CellsOf w g cells E) (e : w'.heap[g]? = w.heap[g]?) : CellsOf w' g cells E := by
 obtain ⟨f, h, hf⟩ := h; exact ⟨f, e.trans h, hf⟩
theorem CellsOf.cell {w : World} {g : Nat} {cells : Array Value} {E : TypeId} (h : CellsOf w g cells E) (o : Nat) : w.cell? ⟨g, o, none⟩ = cells[o]? := by
 obtain ⟨f, h, _⟩ := h; exact cell_of_row w _ _ _ _ _ h
theorem CellsOf.bsize {w : World} {g : Nat} {cells : Array Value} {E : TypeId} (h : CellsOf w g cells E) : Den.bsize w g = cells.size := by
 obtain ⟨f, h, _⟩ := h; simp [Den.bsize, h]
theorem CellsOf.frozen {w : World} {g : Nat} {cells : Array Value} {E : TypeId} (h : CellsOf w g cells E) {o : Nat} (ho : o < cells.size) : w.frozen? ⟨g, o, none⟩ = false := by
 obtain ⟨f, h, hf⟩ := h
 simp only [World.frozen?, h]
 rcases hf with rfl | hf
 ·simp
 ·have : ¬ f.1 ≤ o := by omega
  simp [this]
def BlkOk (c : Ctx) (b : Blk) (g : Nat) : Prop :=
 ∃ cells, CellsOf c.w g cells b.E ∧ b.xs.length * b.sz ≤ cells.size ∧
  (∀ i x, b.xs[i]? = some x → x.length = b.sz ∧ ∀ j y, x[j]? = some y → ∃ u, cells[i * b.sz + j]? = some u ∧ u.oneCell' = true ∧ VR c y u) ∧ (b.cl = true → closedLL b.xs = true)
structure RelH (B : Base) (m : Name → Nat) (s : HS) (w : World) : Prop where
 base : B.base = B.w0.heap.size
 below : Below B.base B.w0 w
 blk : ∀ n k b, s.h n = (k, some b) → BlkOk (ctx B s m w) b (m n) ∧ B.base ≤ m n ∧ s.fz n ≤ b.xs.length ∧ ¬ B.O (m n)
 inj : ∀ n n' k k' b b', s.h n = (k, some b) → s.h n' = (k', some b') → m n = m n' → n = n'
 keep : ∀ g, B.O g → g < w.heap.size ∧ w.heap[g]? = B.wO.heap[g]?
 root : ∀ j ρ z β, B.roots[j]? = some (ρ, z, β) → 1 ≤ (s.h [j, TAG]).1 ∧ ∀ b, s.h [j, TAG] = (1, some b) → m [j, TAG] = ρ ∧ b.sz = z ∧ bsize w ρ = β
theorem RelH.root_evol {B : Base} {m m' : Name → Nat} {s s' : HS} {w w' : World} (r : RelH B m s w) (e : Evol (ctx B s m w) (ctx B s' m' w')) :
  ∀ j ρ z β, B.roots[j]? = some (ρ, z, β) → 1 ≤ (s'.h [j, TAG]).1 ∧ ∀ b, s'.h [j, TAG] = (1, some b) → m' [j, TAG] = ρ ∧ b.sz = z ∧ bsize w' ρ = β := by
 intro j ρ z β hj
 obtain ⟨h1, h2⟩ := r.root j ρ z β hj
 have hv : (s.h [j, TAG]).1 ≤ (s'.h [j, TAG]).1 := e.ver [j, TAG]
 refine ⟨Nat.le_trans h1 hv, fun b' hb => ?_⟩
 have e1 : (s.h [j, TAG]).1 = 1 := by rw [hb] at hv; exact Nat.le_antisymm hv h1
 obtain ⟨b, g1, g2, g3, g4⟩ := e.live [j, TAG] b' (by simp only [ctx, e1]; exact hb)
 simp only [ctx] at g1 g3 g4
 rw [e1] at g1
 obtain ⟨p, q, t⟩ := h2 b g1
 rw [p] at g3
 refine ⟨g3, g2 ▸ q, ?_⟩
 rw [g3, p] at g4
 rw [g4]; exact t
theorem RelH.size {B : Base} {m : Name → Nat} {s : HS} {w : World} (r : RelH B m s w) : B.base ≤ w.heap.size := by rw [r.base]; exact r.below.size
theorem RelH.lt {B : Base} {m : Name → Nat} {s : HS} {w : World} (r : RelH B m s w) {n : Name} {k : Nat} {b : Blk} (h : s.h n = (k, some b)) : m n < w.heap.size := by
 obtain ⟨⟨cells, h1, _⟩, _⟩ := r.blk n k b h
 exact h1.lt
theorem RelH.S_lt {B : Base} {m : Name → Nat} {s : HS} {w : World} (r : RelH B m s w) {g o : Nat} (h : Simm B s m w g o) : g < w.heap.size := by
 rcases h with ⟨h, _⟩ | ⟨_, h, _, _⟩
 ·exact Nat.lt_of_lt_of_le h r.size
 ·exact h
theorem bsize_of_block {w w' : World} {g : Nat} (h : w'.heap[g]? = w.heap[g]?) : bsize w' g = bsize w g := by unfold bsize; rw [h]
theorem cell_of_block {w w' : World} {g o : Nat} (h : w'.heap[g]? = w.heap[g]?) : w'.cell? ⟨g, o, none⟩ = w.cell? ⟨g, o, none⟩ := by unfold World.cell?; simp only [h]
theorem BlkOk.evol {c c' : Ctx} (e : Evol c c') {b : Blk} {g : Nat} (hg : c'.w.heap[g]? = c.w.heap[g]?) (h : BlkOk c b g) : BlkOk c' b g := by
 obtain ⟨cells, h1, h2, h3, h4⟩ := h
 refine ⟨cells, h1.of_block hg, h2, fun i x hx => ⟨(h3 i x hx).1, fun j y hy => ?_⟩, h4⟩
 obtain ⟨u, p, q, r⟩ := (h3 i x hx).2 j y hy
 exact ⟨u, p, q, r.evol e⟩
abbrev News := List (Name × Nat × Blk)
def lk (L : News) (n : Name) : Option (Nat × Blk) := (L.find? (fun e => e.1 == n)).map (·.2)
theorem lk_mem {L : News} {n : Name} {x : Nat × Blk} (h : lk L n = some x) : (n, x) ∈ L := by
 unfold lk at h
 obtain ⟨e, he, rfl⟩ := Option.map_eq_some_iff.1 h
 have h1 := List.mem_of_find?_eq_some he
 have h2 := List.find?_some he
 simp at h2
 rw [← h2]; exact h1
def addS (s : HS) (L : News) : HS where
 h n := match lk L n with | some (_, b) => ((s.h n).1 + 1, some b) | none => s.h n
 fz n := match lk L n with | some _ => 0 | none => s.fz n
def addM (m : Name → Nat) (L : News) : Name → Nat := fun n => match lk L n with | some (g, _) => g | none => m n
theorem RelH.extend {B : Base} {m : Name → Nat} {s : HS} {w w' : World} (r : RelH B m s w) (hb : Below w.heap.size w w') (L : News)
  (hg : ∀ e ∈ L, w.heap.size ≤ e.2.1) (hd : ∀ e ∈ L, ∀ e' ∈ L, e.2.1 = e'.2.1 → e.1 = e'.1) :
  Evol (ctx B s m w) (ctx B (addS s L) (addM m L) w') ∧
   ((∀ e ∈ L, BlkOk (ctx B (addS s L) (addM m L) w') e.2.2 e.2.1) → RelH B (addM m L) (addS s L) w') := by
 have ev : Evol (ctx B s m w) (ctx B (addS s L) (addM m L) w') := by
  refine ⟨rfl, fun n => ?_, fun n b' h => ?_, fun g o h => ?_, fun g o u h hc => ?_, fun g cs t h => ⟨cs, (hb.block g (Array.getElem?_eq_some_iff.1 h).1).trans h, rfl⟩⟩
  ·simp only [ctx, addS]
   split <;> simp
  ·simp only [ctx, addS, addM] at h ⊢
   cases hl : lk L n with
   | some x => rw [hl] at h; simp at h
   | none =>
    rw [hl] at h
    simp only at h
    exact ⟨b', h, rfl, rfl, bsize_of_block (hb.block _ (r.lt h))⟩
  ·rcases h with h | ⟨h1, h2, hO, h3⟩
   ·exact .inl h
   ·refine .inr ⟨h1, Nat.lt_of_lt_of_le h2 hb.size, hO, fun n k b hn hm => ?_⟩
    simp only [addS, addM] at hn hm ⊢
    cases hl : lk L n with
    | some x =>
     rw [hl] at hm
     have := hg _ (lk_mem hl)
     simp at this hm
     omega
    | none =>
     rw [hl] at hn hm
     exact h3 n k b hn hm
  ·rw [← hc]; exact cell_of_block (hb.block _ (r.S_lt h))
 refine ⟨ev, fun hL => ⟨r.base, ?_, fun n k b hn => ?_, fun n n' k k' b b' hn hn' he => ?_, fun g hg => ⟨Nat.lt_of_lt_of_le (r.keep g hg).1 hb.size, (hb.block _ (r.keep g hg).1).trans (r.keep g hg).2⟩, r.root_evol ev⟩⟩
 ·exact r.below.trans (hb.mono r.size)
 ·simp only [addS] at hn
  cases hl : lk L n with
  | some x =>
   obtain ⟨g, b1⟩ := x
   rw [hl] at hn
   simp only [Prod.mk.injEq, Option.some.injEq] at hn
   obtain ⟨_, rfl⟩ := hn
   have e1 : addM m L n = g := by simp [addM, hl]
   have e2 : (addS s L).fz n = 0 := by simp [addS, hl]
   rw [e1, e2]
   have h1 := hg _ (lk_mem hl)
   exact ⟨hL _ (lk_mem hl), Nat.le_trans r.size h1, Nat.zero_le _, fun hO => by have := (r.keep _ hO).1; simp at h1; omega⟩
  | none =>
   rw [hl] at hn
   have e1 : addM m L n = m n := by simp [addM, hl]
   have e2 : (addS s L).fz n = s.fz n := by simp [addS, hl]
   rw [e1, e2]
   obtain ⟨h1, h2, h3, h4⟩ := r.blk n k b hn
   exact ⟨h1.evol ev (hb.block _ (r.lt hn)), h2, h3, h4⟩
 ·simp only [addS] at hn hn'
  cases hl : lk L n with
  | some x =>
   cases hl' : lk L n' with
   | some x' =>
    have e1 : addM m L n = x.1 := by simp [addM, hl]
    have e2 : addM m L n' = x'.1 := by simp [addM, hl']
    rw [e1, e2] at he
    exact hd _ (lk_mem hl) _ (lk_mem hl') he
   | none =>
    have e1 : addM m L n = x.1 := by simp [addM, hl]
    have e2 : addM m L n' = m n' := by simp [addM, hl']
    rw [e1, e2] at he
    rw [hl'] at hn'
    have h1 := r.lt hn'
    have h2 := hg _ (lk_mem hl)
    simp at h2
    omega
  | none =>
   rw [hl] at hn
   cases hl' : lk L n' with
   | some x' =>
    have e1 : addM m L n = m n := by simp [addM, hl]
    have e2 : addM m L n' = x'.1 := by simp [addM, hl']
    rw [e1, e2] at he
    have h1 := r.lt hn
    have h2 := hg _ (lk_mem hl')
    simp at h2
    omega
   | none =>
    rw [hl'] at hn'
    have e1 : addM m L n = m n := by simp [addM, hl]
    have e2 : addM m L n' = m n' := by simp [addM, hl']
    rw [e1, e2] at he
    exact r.inj n n' k k' b b' hn hn' he
theorem RelH.grown {B : Base} {m : Name → Nat} {s : HS} {w w' : World} (r : RelH B m s w) (hb : Below w.heap.size w w') : Evol (ctx B s m w) (ctx B s m w') ∧ RelH B m s w' := by
 have h := r.extend hb [] (fun e he => by cases he) (fun e he => by cases he)
 have e1 : addS s [] = s := rfl
 have e2 : addM m [] = m := rfl
 rw [e1, e2] at h
 exact ⟨h.1, h.2 fun e he => by cases he⟩
structure Turned (w w' : World) (g lo hi : Nat) (cells cells' : Array Value) (E : TypeId) : Prop where
 os : w'.os = w.os
 tape : w'.tape = w.tape
 output : w'.output = w.output
 size : w'.heap.size = w.heap.size
 blk : ∃ f : Nat × Nat, w.heap[g]? = some (.cells cells E f) ∧ w'.heap[g]? = some (.cells cells' E f) ∧ (f = (0, 0) ∨ cells.size ≤ f.1)
 csize : cells'.size = cells.size
 other : ∀ k, k ≠ g → w'.heap[k]? = w.heap[k]?
 keep : ∀ o, o < lo ∨ hi ≤ o → cells'[o]? = cells[o]?
theorem Turned.was {w w' : World} {g lo hi : Nat} {cells cells' : Array Value} {E : TypeId} (t : Turned w w' g lo hi cells cells' E) : CellsOf w g cells E := by
 obtain ⟨f, h1, _, h3⟩ := t.blk; exact ⟨f, h1, h3⟩
theorem Turned.now {w w' : World} {g lo hi : Nat} {cells cells' : Array Value} {E : TypeId} (t : Turned w w' g lo hi cells cells' E) : CellsOf w' g cells' E := by
 obtain ⟨f, _, h2, h3⟩ := t.blk; exact ⟨f, h2, by rw [t.csize]; exact h3⟩
theorem Turned.cell {w w' : World} {g lo hi : Nat} {cells cells' : Array Value} {E : TypeId} (t : Turned w w' g lo hi cells cells' E) {k o : Nat} (h : k ≠ g ∨ o < lo ∨ hi ≤ o) :
  w'.cell? ⟨k, o, none⟩ = w.cell? ⟨k, o, none⟩ := by
 by_cases hk : k = g
 ·subst hk
  rcases h with h | h
  ·exact absurd rfl h
  ·rw [t.now.cell, t.was.cell, t.keep o h]
 ·exact cell_of_block (t.other k hk)
theorem Turned.bsize {w w' : World} {g lo hi : Nat} {cells cells' : Array Value} {E : TypeId} (t : Turned w w' g lo hi cells cells' E) (k : Nat) : bsize w' k = bsize w k := by
 by_cases hk : k = g
 ·subst hk; rw [t.now.bsize, t.was.bsize, t.csize]
 ·exact bsize_of_block (t.other k hk)
theorem Turned.below {w w' : World} {g lo hi : Nat} {cells cells' : Array Value} {E : TypeId} (t : Turned w w' g lo hi cells cells' E) {b : Nat} (hb : b ≤ g) : Below b w w' :=
 ⟨t.os, t.tape, t.output, Nat.le_of_eq t.size.symm, fun k hk => t.other k (by omega)⟩
theorem RelH.turn {B : Base} {m : Name → Nat} {s : HS} {w w' : World} (r : RelH B m s w) {n n1 : Name} {k : Nat} {b b1 : Blk} (hn : s.h n = (k, some b)) {lo hi : Nat} {cells cells' : Array Value} {E : TypeId}
  (t : Turned w w' (m n) lo hi cells cells' E) (hf : s.fz n * b.sz ≤ lo) (hz : b1.sz = b.sz) (hlen : s.fz n ≤ b1.xs.length) (s1 : HS) (m1 : Name → Nat)
  (hs1 : (n1 = n ∧ s1 = { h := upd s.h n (k, some b1), fz := s.fz } ∧ m1 = m) ∨
   (s1 = { h := upd (upd s.h n (k, none)) n1 ((s.h n1).1 + 1, some b1), fz := upd s.fz n1 (s.fz n) } ∧ m1 = upd m n1 (m n))) :
  Evol (ctx B s m w) (ctx B s1 m1 w') ∧ (BlkOk (ctx B s1 m1 w') b1 (m n) → RelH B m1 s1 w') := by
 have hge : B.base ≤ m n := (r.blk n k b hn).2.1
 have hk1 : (s.h n).1 = k := by rw [hn]
 have ev : Evol (ctx B s m w) (ctx B s1 m1 w') := by
  have hcell : ∀ g o u, Simm B s m w g o → w.cell? ⟨g, o, none⟩ = some u → w'.cell? ⟨g, o, none⟩ = some u := by
   intro g o u hS hc
   rw [← hc]
   apply t.cell
   by_cases hg : g = m n
   ·subst hg
    refine .inr (.inl ?_)
    rcases hS with ⟨h, _⟩ | ⟨_, _, _, h⟩
    ·omega
    ·exact Nat.lt_of_lt_of_le (h n k b hn rfl) hf
   ·exact .inl hg
  have hkind : ∀ (g : Nat) (cs : Array Value) (t0 : TypeId), w.heap[g]? = some (.cells cs t0 (0, 0)) → ∃ cs' : Array Value, w'.heap[g]? = some (.cells cs' t0 (0, 0)) ∧ cs'.size = cs.size := by
   intro g cs t0 h
   by_cases hg : g = m n
   ·subst hg
    obtain ⟨f, h1, h2, _⟩ := t.blk
    rw [h1] at h
    cases h
    exact ⟨_, h2, t.csize⟩
   ·exact ⟨cs, (t.other g hg).trans h, rfl⟩
  rcases hs1 with ⟨rfl, rfl, rfl⟩ | ⟨rfl, rfl⟩
  ·refine ⟨rfl, fun n' => ?_, fun n' b' h => ?_, fun g o h => ?_, hcell, hkind⟩
   ·simp only [ctx, upd]; split
    ·rename_i e; subst e; simp [hk1]
    ·simp
   ·simp only [ctx, upd] at h ⊢
    split at h
    ·rename_i e; subst e
     simp only [Prod.mk.injEq, Option.some.injEq] at h
     obtain ⟨_, rfl⟩ := h
     exact ⟨b, by rw [hn], hz.symm, by first | rfl | trivial, t.bsize _⟩
    ·exact ⟨b', h, rfl, by first | rfl | trivial, t.bsize _⟩
   ·rcases h with h | ⟨h1, h2, hO, h3⟩
    ·exact .inl h
    ·refine .inr ⟨h1, by rw [t.size]; exact h2, hO, fun n' k' b' hn' hm' => ?_⟩
     simp only [upd] at hn'
     split at hn'
     ·rename_i e; subst e
      simp only [Prod.mk.injEq, Option.some.injEq] at hn'
      obtain ⟨_, rfl⟩ := hn'
      rw [hz]; exact h3 _ _ _ hn hm'
     ·exact h3 _ _ _ hn' hm'
  ·refine ⟨rfl, fun n' => ?_, fun n' b' h => ?_, fun g o h => ?_, hcell, hkind⟩
   ·simp only [ctx, upd]; split
    ·rename_i e; subst e; simp
    ·split
     ·rename_i e; subst e; simp [hk1]
     ·simp
   ·simp only [ctx, upd] at h ⊢
    split at h
    ·rename_i e; subst e; simp at h
    ·rename_i e1
     split at h
     ·simp at h
     ·exact ⟨b', h, rfl, by simp [e1], by rw [if_neg e1]; exact t.bsize _⟩
   ·rcases h with h | ⟨h1, h2, hO, h3⟩
    ·exact .inl h
    ·refine .inr ⟨h1, by rw [t.size]; exact h2, hO, fun n' k' b' hn' hm' => ?_⟩
     simp only [upd] at hn' hm' ⊢
     split at hn'
     ·rename_i e; subst e
      simp only [Prod.mk.injEq, Option.some.injEq] at hn'
      obtain ⟨_, rfl⟩ := hn'
      simp only [if_true] at hm' ⊢
      rw [hz]; exact h3 _ _ _ hn hm'
     ·rename_i e1
      split at hn'
      ·simp at hn'
      ·rw [if_neg e1] at hm' ⊢
       exact h3 _ _ _ hn' hm'
 have hnO : ¬ B.O (m n) := (r.blk n k b hn).2.2.2
 refine ⟨ev, fun hB => ⟨r.base, r.below.trans (t.below hge), fun n' k' b' hn' => ?_, fun n' n'' k' k'' b' b'' hn' hn'' he => ?_, fun g hg => ⟨by rw [t.size]; exact (r.keep g hg).1, (t.other g fun e => hnO (e ▸ hg)).trans (r.keep g hg).2⟩, r.root_evol ev⟩⟩
 ·rcases hs1 with ⟨rfl, rfl, rfl⟩ | ⟨rfl, rfl⟩
  ·simp only [upd] at hn'
   split at hn'
   ·rename_i e; subst e
    simp only [Prod.mk.injEq, Option.some.injEq] at hn'
    obtain ⟨_, rfl⟩ := hn'
    exact ⟨hB, hge, hlen, hnO⟩
   ·rename_i e1
    obtain ⟨h1, h2, h3, h4⟩ := r.blk n' k' b' hn'
    exact ⟨h1.evol ev (t.other _ fun e => e1 (r.inj _ _ _ _ _ _ hn' hn e)), h2, h3, h4⟩
  ·simp only [upd] at hn' ⊢
   split at hn'
   ·rename_i e; subst e
    simp only [Prod.mk.injEq, Option.some.injEq] at hn'
    obtain ⟨_, rfl⟩ := hn'
    simp only [if_true]
    exact ⟨hB, hge, hlen, hnO⟩
   ·rename_i e1
    split at hn'
    ·simp at hn'
    ·rename_i e2
     rw [if_neg e1, if_neg e1]
     obtain ⟨h1, h2, h3, h4⟩ := r.blk n' k' b' hn'
     exact ⟨h1.evol ev (t.other _ fun e => e2 (r.inj _ _ _ _ _ _ hn' hn e)), h2, h3, h4⟩
 ·rcases hs1 with ⟨rfl, rfl, rfl⟩ | ⟨rfl, rfl⟩
  ·simp only [upd] at hn' hn''
   split at hn'
   ·rename_i e1
    split at hn''
    ·rename_i e2; rw [e1, e2]
    ·subst e1; exact r.inj _ _ _ _ _ _ hn hn'' he
   ·split at hn''
    ·rename_i e2; subst e2; exact r.inj _ _ _ _ _ _ hn' hn he
    ·exact r.inj _ _ _ _ _ _ hn' hn'' he
  ·simp only [upd] at hn' hn'' he
   split at hn'
   ·rename_i e1
    split at hn''
    ·rename_i e2; rw [e1, e2]
    ·rename_i e2
     split at hn''
     ·simp at hn''
     ·rename_i e3
      rw [if_pos e1, if_neg e2] at he
      exact absurd (r.inj _ _ _ _ _ _ hn hn'' he).symm e3
   ·rename_i e1
    split at hn'
    ·simp at hn'
    ·rename_i e3
     split at hn''
     ·rename_i e2
      rw [if_neg e1, if_pos e2] at he
      exact absurd (r.inj _ _ _ _ _ _ hn' hn he) e3
     ·rename_i e2
      split at hn''
      ·simp at hn''
      ·rw [if_neg e1, if_neg e2] at he
       exact r.inj _ _ _ _ _ _ hn' hn'' he
theorem RelH.kill {B : Base} {m : Name → Nat} {s : HS} {w : World} (r : RelH B m s w) (D : Name → Bool) :
  Evol (ctx B s m w) (ctx B { s with h := fun n => if D n then ((s.h n).1, none) else s.h n } m w) ∧ RelH B m { s with h := fun n => if D n then ((s.h n).1, none) else s.h n } w := by
 have ev : Evol (ctx B s m w) (ctx B { s with h := fun n => if D n then ((s.h n).1, none) else s.h n } m w) := by
  refine ⟨rfl, fun n => ?_, fun n b' h => ?_, fun g o h => ?_, fun _ _ _ _ h => h, fun _ cs _ h => ⟨cs, h, rfl⟩⟩
  ·simp only [ctx]; split <;> simp
  ·simp only [ctx] at h ⊢
   split at h
   ·simp at h
   ·exact ⟨b', h, rfl, by first | rfl | trivial, by first | rfl | trivial⟩
  ·rcases h with h | ⟨h1, h2, hO, h3⟩
   ·exact .inl h
   ·refine .inr ⟨h1, h2, hO, fun n k b hn hm => ?_⟩
    simp only at hn
    split at hn
    ·simp at hn
    ·exact h3 n k b hn hm
 refine ⟨ev, ⟨r.base, r.below, fun n k b hn => ?_, fun n n' k k' b b' hn hn' he => ?_, r.keep, r.root_evol ev⟩⟩
 ·simp only at hn
  split at hn
  ·simp at hn
  ·obtain ⟨h1, h2, h3, h4⟩ := r.blk n k b hn
   exact ⟨h1.evol ev rfl, h2, h3, h4⟩
 ·simp only at hn hn'
  split at hn
  ·simp at hn
  ·split at hn'
   ·simp at hn'
   ·exact r.inj n n' k k' b b' hn hn' he
theorem RelH.freeze {B : Base} {m : Name → Nat} {s : HS} {w : World} (r : RelH B m s w) (f : Name → Nat) (hf : ∀ n, s.fz n ≤ f n) (hl : ∀ n k b, s.h n = (k, some b) → f n ≤ b.xs.length) :
  Evol (ctx B s m w) (ctx B { s with fz := f } m w) ∧ RelH B m { s with fz := f } w := by
 have ev : Evol (ctx B s m w) (ctx B { s with fz := f } m w) := by
  refine ⟨rfl, fun n => Nat.le_refl _, fun n b' h => ⟨b', h, rfl, rfl, rfl⟩, fun g o h => ?_, fun _ _ _ _ h => h, fun _ cs _ h => ⟨cs, h, rfl⟩⟩
  rcases h with h | ⟨h1, h2, hO, h3⟩
  ·exact .inl h
  ·exact .inr ⟨h1, h2, hO, fun n k b hn hm => Nat.lt_of_lt_of_le (h3 n k b hn hm) (Nat.mul_le_mul_right _ (hf n))⟩
 refine ⟨ev, ⟨r.base, r.below, fun n k b hn => ?_, r.inj, r.keep, r.root_evol ev⟩⟩
 obtain ⟨h1, h2, h3, h4⟩ := r.blk n k b hn
 exact ⟨h1.evol ev rfl, h2, hl n k b hn, h4⟩
end Go.Proofs.YtdbekeidlppfiaaGreatDoor.Den
namespace Go.Proofs.YtdbekeidlppfiaaGreatDoor.Den
open Go Go.RowKit
def tsz (P : Program) (t : TypeId) : Option Nat := (P.info? t).map (·.size)
def aggD : TypeDesc → Bool
 | .struct _ | .array _ _ => true
 | _ => false
def isA (P : Program) (t : TypeId) : Option Bool := (P.underlying t).map aggD
def PV.one : PV → Bool
 | .v x => x.oneCell'
 | .agg _ | .tup _ | .own _ _ _ | .unk => false
 | _ => true
def PV.celled : PV → Option (List PV)
 | .agg cs => if cs.all PV.one then some cs else none
 | .tup _ | .own _ _ _ | .unk => none
 | x => if x.one then some [x] else none
theorem one_ok {c : Ctx} {x : PV} {u : Value} (h : VR c x u) (h1 : x.one = true) : u.oneCell' = true := by
 cases h <;> simp_all [PV.one, Value.oneCell']
theorem celled_ok {c : Ctx} {x : PV} {u : Value} {l : List PV} (h : VR c x u) (h1 : x.celled = some l) :
  u.cells.size = l.length ∧ (∀ (j : Nat) (y : PV) (z : Value), l[j]? = some y → u.cells[j]? = some z → VR c y z) ∧ ∀ z ∈ u.cells.toList, z.oneCell' = true := by
 have base : ∀ {x : PV} {u : Value}, VR c x u → x.one = true → l = [x] → u.cells.size = l.length ∧ (∀ (j : Nat) (y : PV) (z : Value), l[j]? = some y → u.cells[j]? = some z → VR c y z) ∧ ∀ z ∈ u.cells.toList, z.oneCell' = true := by
  intro x u h h2 hl
  have h3 := one_ok h h2
  have h4 : u.cells = #[u] := by cases u <;> first | rfl | simp [Value.oneCell'] at h3
  subst hl
  rw [h4]
  refine ⟨rfl, fun j y z hy hz => ?_, fun z hz => ?_⟩
  ·cases j with
   | zero => simp at hy hz; rw [← hy, ← hz]; exact h
   | succ j => simp at hy
  ·simp at hz; rw [hz]; exact h3
 cases x with
 | agg cs =>
  simp only [PV.celled] at h1
  split at h1
  ·rename_i hall
   cases h1
   cases h with
   | agg _ vs hl hx =>
    refine ⟨hl, fun j y z hy hz => hx j y z hy hz, fun z hz => ?_⟩
    obtain ⟨j, hj⟩ := List.mem_iff_getElem?.1 hz
    have hj' : vs[j]? = some z := by simpa [Value.cells] using hj
    have hlt : j < l.length := by rw [← hl]; exact (Array.getElem?_eq_some_iff.1 hj').1
    exact one_ok (hx j _ z (List.getElem?_eq_getElem hlt) hj') (List.all_eq_true.1 hall _ (List.getElem_mem hlt))
  ·cases h1
 | tup cs => simp [PV.celled] at h1
 | own sz E xs => simp [PV.celled] at h1
 | unk => simp [PV.celled] at h1
 | v y => simp only [PV.celled] at h1; split at h1 <;> simp_all; subst h1; exact base h (by assumption) rfl
 | ptr n k i off => simp only [PV.celled] at h1; split at h1 <;> simp_all; subst h1; exact base h (by assumption) rfl
 | row n k i len => simp only [PV.celled] at h1; split at h1 <;> simp_all; subst h1; exact base h (by assumption) rfl
 | list sz full xs => simp only [PV.celled] at h1; split at h1 <;> simp_all; subst h1; exact base h (by assumption) rfl
 | eptr cs => simp only [PV.celled] at h1; split at h1 <;> simp_all; subst h1; exact base h (by assumption) rfl
 | clo f cs => simp only [PV.celled] at h1; split at h1 <;> simp_all; subst h1; exact base h (by assumption) rfl
 | mth f cs => simp only [PV.celled] at h1; split at h1 <;> simp_all; subst h1; exact base h (by assumption) rfl
 | ifc t x => simp only [PV.celled] at h1; split at h1 <;> simp_all; subst h1; exact base h (by assumption) rfl
 | far k => simp only [PV.celled] at h1; split at h1 <;> simp_all; subst h1; exact base h (by assumption) rfl
def mkv (ag : Bool) (cs : List PV) : Option PV := if ag then some (.agg cs) else match cs with | [x] => some x | _ => none
def mkV (ag : Bool) (us : List Value) : Value := if ag then .agg us.toArray else us.getD 0 undef
theorem mkv_ok {c : Ctx} {ag : Bool} {cs : List PV} {us : List Value} {x : PV} (h : mkv ag cs = some x) (hl : us.length = cs.length) (hx : ∀ (j : Nat) (y : PV) (u : Value), cs[j]? = some y → us[j]? = some u → VR c y u) :
  VR c x (mkV ag us) ∧ (ag = false → cs.length = 1) := by
 unfold mkv at h
 cases ag with
 | true =>
  simp at h; subst h
  exact ⟨.agg cs us.toArray (by simpa using hl) fun j y u h1 h2 => hx j y u h1 (by simpa using h2), by simp⟩
 | false =>
  simp at h
  split at h
  ·rename_i y
   cases h
   refine ⟨?_, fun _ => rfl⟩
   cases us with
   | nil => simp at hl
   | cons u us => exact hx 0 _ u rfl rfl
  ·cases h
theorem add_lit (g o j : Nat) : (⟨g, o, none⟩ : Addr).add j = ⟨g, o + j, none⟩ := by unfold Addr.add; split <;> simp_all
section
variable {P : Program}
theorem run_sizeOf {t : TypeId} {sz : Nat} (h : tsz P t = some sz) (w : World) : (sizeOf t).run P w = .ok sz w := by
 obtain ⟨i, hi, rfl⟩ := Option.map_eq_some_iff.1 h
 simp [sizeOf, typeInfo, hi]
theorem run_isAgg {t : TypeId} {ag : Bool} (h : isA P t = some ag) (w : World) : (isAgg t).run P w = .ok ag w := by
 obtain ⟨d, hd, rfl⟩ := Option.map_eq_some_iff.1 h
 simp only [isAgg, Sem.run_bind, run_underlying hd, Result.andThen_ok]
 cases d <;> simp [aggD]
theorem run_loadAt {t : TypeId} {ag : Bool} {sz : Nat} {w : World} (hA : isA P t = some ag) (hz : tsz P t = some sz) (g o : Nat) (us : List Value) (hl : us.length = sz) (h1 : ag = false → sz = 1)
  (hc : ∀ j u, us[j]? = some u → w.cell? ⟨g, o + j, none⟩ = some u) : (Instr.loadAt t (.pointer (some ⟨g, o, none⟩))).run P w = .ok (mkV ag us) w := by
 simp only [Instr.loadAt, Instr.sureAddr, loadVar, Sem.run_bind, Sem.run_pure, Result.andThen_ok, run_isAgg hA]
 cases ag with
 | true =>
  have := run_loadCells_list (P := P) w ⟨g, o, none⟩ us (fun j v hj => by rw [add_lit]; exact hc j v hj)
  rw [hl] at this
  simp [run_sizeOf hz, this, mkV]
 | false =>
  obtain rfl := h1 rfl
  match us, hl with
  | [u], _ =>
   have := hc 0 u rfl
   simp at this
   simp [this, mkV]
theorem run_zeroValue {t : TypeId} {i : TypeInfo} {z : Value} (hi : P.info? t = some i) (hz : i.zero = some z) (w : World) : (zeroValue t).run P w = .ok z w := by
 simp [zeroValue, typeInfo, hi, hz]
end
def ldD (P : Program) (s : HS) (t : TypeId) (p : PV) : Option PV :=
 match isA P t, tsz P t with
 | some ag, some sz =>
  match p with
  | .ptr n k i off =>
   match s.h n with
   | (k', some b) => if k' = k then match b.xs[i]? with
    | some x => if off + sz ≤ x.length then mkv ag ((x.drop off).take sz) else none
    | none => none else none
   | _ => none
  | .eptr cs => if sz ≤ cs.length then mkv ag (cs.take sz) else none
  | _ => none
 | _, _ => none
theorem ldD_ok {P : Program} {B : Base} {m : Name → Nat} {s : HS} {w : World} (r : RelH B m s w) {t : TypeId} {p x : PV} {u : Value} (h : ldD P s t p = some x) (hp : VR (ctx B s m w) p u) :
  ∃ v, (Instr.loadAt t u).run P w = .ok v w ∧ VR (ctx B s m w) x v := by
 unfold ldD at h
 split at h
 case h_2 => cases h
 rename_i ag sz hA hz
 split at h
 ·rename_i n k i off
  split at h
  ·rename_i k' b hn
   split at h
   case isFalse => cases h
   rename_i hk; subst hk
   split at h
   case h_2 => cases h
   rename_i e he
   split at h
   case isFalse => cases h
   rename_i hle
   cases hp with
   | ptr _ _ _ _ a hk ha =>
    have ha' := ha b hn
    subst ha'
    obtain ⟨⟨cells, hg, hcs, hall, _⟩, _, _⟩ := r.blk n _ b hn
    obtain ⟨hel, hej⟩ := hall i e he
    have hil : i * b.sz + b.sz ≤ b.xs.length * b.sz := by rw [← Nat.succ_mul]; exact Nat.mul_le_mul_right _ (List.getElem?_eq_some_iff.1 he).1
    have hlen : ((e.drop off).take sz).length = sz := by rw [List.length_take, List.length_drop]; omega
    have hus : ((cells.toList.drop (i * b.sz + off)).take sz).length = sz := by rw [List.length_take, List.length_drop]; simp; omega
    have hk := mkv_ok (c := ctx B s m w) (us := (cells.toList.drop (i * b.sz + off)).take sz) h (by rw [hus, hlen]) (fun j y z h1 h2 => by
     rw [List.getElem?_take] at h1 h2
     split at h1
     ·rename_i hj
      rw [if_pos hj] at h2
      rw [List.getElem?_drop] at h1 h2
      obtain ⟨z', p1, p2, p3⟩ := hej _ y h1
      have : cells[i * b.sz + (off + j)]? = some z := by rw [← Nat.add_assoc]; simpa using h2
      rw [this] at p1; cases p1; exact p3
     ·cases h1)
    refine ⟨_, run_loadAt hA hz (m n) _ _ hus (fun e => by have := hk.2 e; omega) (fun j z hj => ?_), hk.1⟩
    rw [List.getElem?_take] at hj
    split at hj
    ·rw [List.getElem?_drop] at hj
     show w.cell? _ = _
     have hg' : CellsOf w (m n) cells b.E := hg
     rw [hg'.cell]
     simpa using hj
    ·cases hj
  ·cases h
 ·rename_i cs
  split at h
  case isFalse => cases h
  rename_i hle
  cases hp with
  | eptr _ g off us hcl hx hw =>
   have hlen : (cs.take sz).length = sz := by rw [List.length_take]; omega
   have hk := mkv_ok (c := ctx B s m w) (us := (List.range sz).map us) h (by simp; omega) (fun j y z h1 h2 => by
    rw [List.getElem?_take] at h1
    split at h1
    ·rename_i hj
     rw [List.getElem?_map, List.getElem?_range hj] at h2
     cases h2
     exact hx j y h1
    ·cases h1)
   refine ⟨_, run_loadAt hA hz g off _ (by simp) (fun e => by have := hk.2 e; omega) (fun j z hj => ?_), hk.1⟩
   rw [List.getElem?_map] at hj
   obtain ⟨j', hj', rfl⟩ := Option.map_eq_some_iff.1 hj
   obtain ⟨hlt, rfl⟩ := List.getElem?_eq_some_iff.1 hj'
   simp at hlt ⊢
   exact (hw j (by omega)).2
 ·cases h
def normC (P : Program) (fl : Bool) (t : TypeId) (x : PV) : PV := match x with
 | .v (.slice none 0 0) => match P.underlying t with
  | some (.slice e) => match tsz P e with
   | some sz => .list sz fl []
   | none => x
  | _ => x
 | .list sz full xs => .list sz (full && fl) xs
 | x => x
def normL (P : Program) (fl : Bool) : List TypeId → List PV → List PV
 | t :: ts, x :: l => normC P fl t x :: normL P fl ts l
 | _, l => l
theorem normC_ok {P : Program} {fl : Bool} {c : Ctx} {t : TypeId} {x : PV} {u : Value} (h : VR c x u) : VR c (normC P fl t x) u := by
 unfold normC
 split
 ·cases h
  split
  ·split
   ·exact .lnil _ _ _
   ·exact .v _
  ·exact .v _
 ·cases h with
  | lnil _ _ a => exact .lnil _ _ a
  | list _ _ _ g off cap us hcl hc hm hf hl ho hx hw => exact .list _ _ _ g off cap us hcl hc hm (fun h => hf (by rw [Bool.and_eq_true] at h; exact h.1)) hl ho hx hw
 ·exact h
theorem normC_closed {P : Program} {fl : Bool} {t : TypeId} {x : PV} (h : closedB x = true) : closedB (normC P fl t x) = true := by
 unfold normC
 split
 ·split
  ·split <;> rfl
  ·rfl
 ·rfl
 ·exact h
theorem normL_at {P : Program} {fl : Bool} : ∀ {ts : List TypeId} {l : List PV} {j : Nat} {y : PV}, (normL P fl ts l)[j]? = some y → ∃ x, l[j]? = some x ∧ (y = x ∨ ∃ t, y = normC P fl t x)
 | [], l, j, y, h => ⟨y, by simpa [normL] using h, .inl rfl⟩
 | t :: ts, [], j, y, h => by simp [normL] at h
 | t :: ts, x :: l, 0, y, h => by simp [normL] at h; exact ⟨x, rfl, .inr ⟨t, h.symm⟩⟩
 | t :: ts, x :: l, j + 1, y, h => by
  obtain ⟨z, h1, h2⟩ := normL_at (ts := ts) (l := l) (j := j) (by simpa [normL] using h)
  exact ⟨z, by simpa using h1, h2⟩
theorem normL_len {P : Program} {fl : Bool} : ∀ (ts : List TypeId) (l : List PV), (normL P fl ts l).length = l.length
 | [], l => by simp [normL]
 | t :: ts, [] => by simp [normL]
 | t :: ts, x :: l => by simp [normL, normL_len ts l]
def nrm (P : Program) (rw : Bool) (t : TypeId) (cs : List PV) : List PV := if rw then (match P.cellTypes P.depth t with
 | some ts => normL P false ts cs
 | none => cs) else cs
theorem nrm_len {P : Program} {rw : Bool} {t : TypeId} {cs : List PV} : (nrm P rw t cs).length = cs.length := by
 unfold nrm; split
 ·split
  ·exact normL_len _ _
  ·rfl
 ·rfl
theorem nrm_at {P : Program} {rw : Bool} {t : TypeId} {cs : List PV} {j : Nat} {y : PV} (h : (nrm P rw t cs)[j]? = some y) : ∃ x, cs[j]? = some x ∧ (∀ c u, VR c x u → VR c y u) ∧ (closedB x = true → closedB y = true) := by
 have key : ∀ ts, (normL P false ts cs)[j]? = some y → ∃ x, cs[j]? = some x ∧ (∀ c u, VR c x u → VR c y u) ∧ (closedB x = true → closedB y = true) := by
  intro ts h
  obtain ⟨x, h1, h2⟩ := normL_at h
  rcases h2 with rfl | ⟨t, rfl⟩
  ·exact ⟨y, h1, fun _ _ h => h, id⟩
  ·exact ⟨x, h1, fun _ _ h => normC_ok h, normC_closed⟩
 unfold nrm at h
 split at h
 ·split at h
  ·exact key _ h
  ·exact ⟨y, h, fun _ _ h => h, id⟩
 ·exact ⟨y, h, fun _ _ h => h, id⟩
theorem nrm_closed {P : Program} {rw : Bool} {t : TypeId} {cs : List PV} (h : closedL cs = true) : closedL (nrm P rw t cs) = true := by
 rw [closedL_iff] at h ⊢
 intro y hy
 obtain ⟨j, hj⟩ := List.mem_iff_getElem?.1 hy
 obtain ⟨x, h1, _, h2⟩ := nrm_at hj
 exact h2 (h x (List.mem_of_getElem? h1))
theorem setCell_now {w : World} {g i : Nat} {cs : Array Value} {t : TypeId} {f : Nat × Nat} (v : Value) (hg : w.heap[g]? = some (.cells cs t f)) : (w.setCell ⟨g, i, none⟩ v).heap[g]? = some (.cells (cs.setIfInBounds i v) t f) := by
 simp [World.setCell, Array.getElem?_modify, hg]
theorem storeCells_turn {P : Program} (g o : Nat) (E : TypeId) : ∀ (us : List Value) (i : Nat) (w : World) (cells : Array Value), CellsOf w g cells E → (∀ u ∈ us, u.oneCell' = true) → o + i + us.length ≤ cells.size →
  ∃ w' cells', (storeCells ⟨g, o, none⟩ us i).run P w = .ok () w' ∧ Turned w w' g (o + i) (o + i + us.length) cells cells' E ∧ ∀ j u, us[j]? = some u → cells'[o + i + j]? = some u
 | [], i, w, cells, hg, _, _ => ⟨w, cells, rfl, ⟨rfl, rfl, rfl, rfl, by obtain ⟨f, h, hf⟩ := hg; exact ⟨f, h, h, hf⟩, rfl, fun _ _ => rfl, fun _ _ => rfl⟩, fun j u h => by simp at h⟩
 | u :: us, i, w, cells, hg, h1, hl => by
  simp only [List.length_cons] at hl
  have hc : w.cell? ⟨g, o + i, none⟩ = some cells[o + i] := by rw [hg.cell]; exact Array.getElem?_eq_getElem (by omega)
  have hf : w.frozen? ⟨g, o + i, none⟩ = false := hg.frozen (by omega)
  obtain ⟨f, hg0, hf0⟩ := hg
  have hg2 : CellsOf (w.setCell ⟨g, o + i, none⟩ u) g (cells.setIfInBounds (o + i) u) E := ⟨f, setCell_now u hg0, by simpa using hf0⟩
  have hst : (store ((⟨g, o, none⟩ : Addr).add i) u).run P w = .ok () (w.setCell ⟨g, o + i, none⟩ u) := by
   rw [add_lit, run_store P w _ u _ (h1 u (by simp))]; simp [hc, hf]
  obtain ⟨w', cells', hr, ht, hj⟩ := storeCells_turn (P := P) g o E us (i + 1) (w.setCell ⟨g, o + i, none⟩ u) (cells.setIfInBounds (o + i) u) hg2 (fun v hv => h1 v (by simp [hv])) (by simp; omega)
  refine ⟨w', cells', by simp [storeCells, hst, hr], ⟨ht.os, ht.tape, ht.output, by rw [ht.size]; simp, by
   obtain ⟨f', k1, k2, _⟩ := ht.blk
   rw [setCell_now u hg0] at k1
   cases k1
   exact ⟨_, hg0, k2, hf0⟩, by rw [ht.csize]; simp, fun k hk => ?_, fun p hp => ?_⟩, fun j v hv => ?_⟩
  ·rw [ht.other k hk]; exact heap_setCell_other w _ k u hk
  ·rw [ht.keep p (by simp only [List.length_cons] at hp; omega)]
   rw [Array.getElem?_setIfInBounds]; simp only [List.length_cons] at hp
   rw [if_neg (by omega)]
  ·cases j with
   | zero =>
    simp at hv; subst hv
    rw [ht.keep _ (by omega)]
    simp [Array.getElem?_setIfInBounds]; omega
   | succ j =>
    have := hj j v (by simpa using hv)
    rw [show o + i + (j + 1) = o + (i + 1) + j by omega]; exact this
def okName (prot : Name) (n : Name) : Bool := prot.isSuffixOf n
def stD (P : Program) (prot : Name) (s : HS) (t : TypeId) (p x : PV) : Option HS :=
 match tsz P t, x.celled, p with
 | some sz, some cs, .ptr n k i off =>
  match s.h n with
  | (k', some b) => if k' = k ∧ cs.length = sz ∧ s.fz n ≤ i ∧ okName prot n = true then match b.xs[i]? with
   | some e => if off + sz ≤ e.length then some { h := upd s.h n (k, some { b with xs := b.xs.set i (e.take off ++ nrm P b.rw t cs ++ e.drop (off + sz)), cl := b.cl && closedL (nrm P b.rw t cs) }), fz := s.fz } else none
   | none => none else none
  | _ => none
 | _, _, _ => none
theorem stD_ok {P : Program} {B : Base} {m : Name → Nat} {s s1 : HS} {w : World} {prot : Name} (r : RelH B m s w) {t : TypeId} {p x : PV} {u v : Value} (h : stD P prot s t p x = some s1) (hp : VR (ctx B s m w) p u) (hx : VR (ctx B s m w) x v) :
  ∃ w', (Instr.storeAt t u v).run P w = .ok () w' ∧ RelH B m s1 w' ∧ Evol (ctx B s m w) (ctx B s1 m w') := by
 unfold stD at h
 split at h
 case h_2 => cases h
 rename_i sz cs n k i off hz hc
 split at h
 case h_2 => cases h
 rename_i k' b hn
 split at h
 case isFalse => cases h
 rename_i hk
 obtain ⟨rfl, hcl, hfz, _⟩ := hk
 split at h
 case h_2 => cases h
 rename_i e he
 split at h
 case isFalse => cases h
 rename_i hle
 cases h
 cases hp with
 | ptr _ _ _ _ a hk ha =>
  have ha' := ha b hn
  subst ha'
  obtain ⟨⟨cells, hg, hcs, hall, hclo⟩, hge, hfl, _⟩ := r.blk n _ b hn
  have hg : CellsOf w (m n) cells b.E := hg
  obtain ⟨hel, hej⟩ := hall i e he
  have hi : i < b.xs.length := (List.getElem?_eq_some_iff.1 he).1
  have hil : i * b.sz + b.sz ≤ b.xs.length * b.sz := by rw [← Nat.succ_mul]; exact Nat.mul_le_mul_right _ hi
  obtain ⟨q1, q2', q3⟩ := celled_ok hx hc
  obtain ⟨cs0, hcs0⟩ : ∃ z, nrm P b.rw t cs = z := ⟨_, rfl⟩
  rw [hcs0]
  have q2 : ∀ (j : Nat) (y : PV) (z : Value), cs0[j]? = some y → v.cells[j]? = some z → VR (ctx B s m w) y z := fun j y z h1 h2 => by
   rw [← hcs0] at h1
   obtain ⟨x', g1, g2, _⟩ := nrm_at h1
   exact g2 _ _ (q2' j x' z g1 h2)
  have hcl0 : cs0.length = cs.length := by rw [← hcs0, nrm_len]
  rw [← hcl0] at q1 hcl
  have q1' : v.cells.toList.length = sz := by rw [Array.length_toList, q1, hcl]
  obtain ⟨w', cells', hr, ht, hj⟩ := storeCells_turn (P := P) (m n) (i * b.sz + off) b.E v.cells.toList 0 w cells hg q3 (by rw [q1']; omega)
  refine ⟨w', ?_, ?_⟩
  ·have hvs : v.cells.size = sz := by rw [← q1']; simp
   simp [Instr.storeAt, Instr.sureAddr, storeVar, run_sizeOf hz, hvs, ctx] at hr ⊢
   exact hr
  ·have ht' : Turned w w' (m n) (s.fz n * b.sz) (i * b.sz + off + sz) cells cells' b.E := { ht with keep := fun o ho => ht.keep o (by
    rw [q1']
    rcases ho with ho | ho
    ·left; have := Nat.mul_le_mul_right b.sz hfz; omega
    ·right; omega) }
   obtain ⟨ev, hR⟩ := r.turn (b1 := { b with xs := b.xs.set i (e.take off ++ cs0 ++ e.drop (off + sz)), cl := b.cl && closedL cs0 }) hn ht' (Nat.le_refl _) rfl (by simpa using hfl) _ m (.inl ⟨rfl, rfl, rfl⟩)
   refine ⟨hR ⟨cells', ht.now, by rw [ht.csize]; simpa using hcs, fun i' x' hx' => ?_, fun hc2 => ?_⟩, ev⟩
   case refine_2 =>
    simp only [Bool.and_eq_true] at hc2
    have h1 := closedLL_iff.1 (hclo hc2.1)
    have h2 := closedL_iff.1 hc2.2
    refine closedLL_iff.2 fun x hx y hy => ?_
    rcases List.mem_or_eq_of_mem_set hx with hx | rfl
    ·exact h1 x hx y hy
    ·have he' := List.mem_of_getElem? he
     rcases List.mem_append.1 hy with hy | hy
     ·rcases List.mem_append.1 hy with hy | hy
      ·exact h1 e he' y (List.mem_of_mem_take hy)
      ·exact h2 y hy
     ·exact h1 e he' y (List.mem_of_mem_drop hy)
   simp only [List.getElem?_set] at hx'
   split at hx'
   ·rename_i hii
    subst hii
    first | (rw [if_pos hi] at hx'; cases hx') | cases hx'
    refine ⟨by simp [hel]; omega, fun j y hy => ?_⟩
    by_cases h1 : j < off
    ·have hy' : e[j]? = some y := by
      rw [List.append_assoc, List.getElem?_append_left (by rw [List.length_take]; omega), List.getElem?_take, if_pos h1] at hy; exact hy
     obtain ⟨z, p1, p2, p3⟩ := hej j y hy'
     exact ⟨z, by show cells'[i * b.sz + j]? = _; rw [ht.keep _ (by omega)]; exact p1, p2, p3.evol ev⟩
    ·by_cases h2 : j < off + sz
     ·have hy' : cs0[j - off]? = some y := by
       rw [List.append_assoc, List.getElem?_append_right (by rw [List.length_take]; omega), List.length_take, Nat.min_eq_left (by omega), List.getElem?_append_left (by omega)] at hy; exact hy
      have hlt : j - off < v.cells.size := by rw [q1, hcl]; omega
      have hz' := hj (j - off) v.cells[j - off] (by simp [hlt])
      exact ⟨v.cells[j - off], by show cells'[i * b.sz + j]? = _; rw [← hz']; congr 1; omega, q3 _ (by simp), (q2 _ y _ hy' (by simp [hlt])).evol ev⟩
     ·have hy' : e[j]? = some y := by
       rw [List.append_assoc, List.getElem?_append_right (by rw [List.length_take]; omega), List.length_take, Nat.min_eq_left (by omega), List.getElem?_append_right (by omega), List.getElem?_drop] at hy
       rw [← hy]; congr 1; omega
      obtain ⟨z, p1, p2, p3⟩ := hej j y hy'
      exact ⟨z, by show cells'[i * b.sz + j]? = _; rw [ht.keep _ (by rw [q1']; omega)]; exact p1, p2, p3.evol ev⟩
   ·rename_i hii
    obtain ⟨hl', hj'⟩ := hall i' x' hx'
    refine ⟨hl', fun j y hy => ?_⟩
    obtain ⟨z, p1, p2, p3⟩ := hj' j y hy
    have hjl : j < b.sz := by rw [← hl']; exact (List.getElem?_eq_some_iff.1 hy).1
    refine ⟨z, ?_, p2, p3.evol ev⟩
    show cells'[i' * b.sz + j]? = _
    rw [ht.keep _ ?_]
    ·exact p1
    ·rw [q1']
     rcases Nat.lt_or_gt_of_ne hii with hlt | hgt
     ·right
      have : i * b.sz + b.sz ≤ i' * b.sz := by rw [← Nat.succ_mul]; exact Nat.mul_le_mul_right _ hlt
      omega
     ·left
      have : i' * b.sz + b.sz ≤ i * b.sz := by rw [← Nat.succ_mul]; exact Nat.mul_le_mul_right _ hgt
      omega
def newS (s : HS) (n : Name) (b : Blk) : HS := { h := upd s.h n ((s.h n).1 + 1, some b), fz := upd s.fz n 0 }
theorem addS_one (s : HS) (n : Name) (g : Nat) (b : Blk) : addS s [(n, g, b)] = newS s n b := by
 unfold addS newS upd lk
 congr 1 <;> (funext n'; by_cases h : n' = n <;> simp [h, List.find?, eq_comm] <;> (have : (n == n') = false := by simp; exact fun e => h e.symm) <;> simp [this])
theorem addM_one (m : Name → Nat) (n : Name) (g : Nat) (b : Blk) : addM m [(n, g, b)] = upd m n g := by
 unfold addM upd lk
 funext n'; by_cases h : n' = n
 ·simp [h, List.find?]
 ·have : (n == n') = false := by simp; exact fun e => h e.symm
  simp [h, List.find?, this]
theorem RelH.new {B : Base} {m : Name → Nat} {s : HS} {w w' : World} (r : RelH B m s w) (n : Name) (b : Blk) (g : Nat) (hb : Below w.heap.size w w') (hg : w.heap.size ≤ g) (cells : Array Value) (hc : CellsOf w' g cells b.E)
  (hl : b.xs.length * b.sz ≤ cells.size) (hx : ∀ i x, b.xs[i]? = some x → x.length = b.sz ∧ ∀ j y, x[j]? = some y → ∃ u, cells[i * b.sz + j]? = some u ∧ u.oneCell' = true ∧ VR (ctx B s m w) y u) (hcl : b.cl = true → closedLL b.xs = true) :
  RelH B (upd m n g) (newS s n b) w' ∧ Evol (ctx B s m w) (ctx B (newS s n b) (upd m n g) w') := by
 have h := r.extend hb [(n, g, b)] (by simp [hg]) (by simp)
 rw [addS_one, addM_one] at h
 refine ⟨h.2 fun e he => ?_, h.1⟩
 simp at he; subst he
 exact ⟨cells, hc, hl, fun i x hi => ⟨(hx i x hi).1, fun j y hy => by
  obtain ⟨u, p1, p2, p3⟩ := (hx i x hi).2 j y hy
  exact ⟨u, p1, p2, p3.evol h.1⟩⟩, hcl⟩
theorem VR.newPtr {B : Base} {m : Name → Nat} {s : HS} {w' : World} (n : Name) (b : Blk) (g : Nat) : VR (ctx B (newS s n b) (upd m n g) w') (.ptr n ((s.h n).1 + 1) 0 0) (.pointer (some ⟨g, 0, none⟩)) :=
 .ptr _ _ _ _ _ (by simp [ctx, newS]) fun b' hb => by
  simp [ctx, newS] at hb; subst hb; simp [ctx]
theorem VR.newRow {B : Base} {m : Name → Nat} {s : HS} {w' : World} (n : Name) (b : Blk) (g len cap : Nat) (cells : Array Value) (E : TypeId) (hc : CellsOf w' g cells E) (h1 : len ≤ cap) (h2 : cap ≤ 9223372036854775807) (h3 : cells.size = cap * b.sz) :
  VR (ctx B (newS s n b) (upd m n g) w') (.row n ((s.h n).1 + 1) 0 len) (.slice (some ⟨g, 0, none⟩) len cap) :=
 .row _ _ _ _ _ _ (by simp [ctx, newS]) h1 h2 fun b' hb => by
  simp [ctx, newS] at hb; subst hb
  simp [ctx, hc.bsize, h3]
theorem below_alloc (w : World) (o : Obj) : Below w.heap.size w (w.alloc o) := (Below.refl _ _).alloc (Nat.le_refl _) o
theorem box_ok {B : Base} {m : Name → Nat} {s : HS} {w : World} (r : RelH B m s w) (n : Name) (E : TypeId) {x : PV} {cs : List PV} {u : Value} (hx : VR (ctx B s m w) x u) (hc : x.celled = some cs) :
  RelH B (upd m n w.heap.size) (newS s n ⟨cs.length, E, [cs], closedLL [cs], false⟩) (w.alloc (.cells u.cells E)) ∧ Evol (ctx B s m w) (ctx B (newS s n ⟨cs.length, E, [cs], closedLL [cs], false⟩) (upd m n w.heap.size) (w.alloc (.cells u.cells E))) := by
 obtain ⟨q1, q2, q3⟩ := celled_ok hx hc
 refine r.new n ⟨cs.length, E, [cs], closedLL [cs], false⟩ w.heap.size (below_alloc w _) (Nat.le_refl _) u.cells (.mk0 (heap_alloc_new w _)) (by simp [q1]) (fun i x hi => ?_) id
 cases i with
 | succ i => simp at hi
 | zero =>
  simp at hi; subst hi
  refine ⟨rfl, fun j y hy => ?_⟩
  have hlt : j < u.cells.size := by rw [q1]; exact (List.getElem?_eq_some_iff.1 hy).1
  exact ⟨u.cells[j], by simp [hlt], q3 _ (by simp), q2 j y _ hy (by simp [hlt])⟩
end Go.Proofs.YtdbekeidlppfiaaGreatDoor.Den
namespace Go.Proofs.YtdbekeidlppfiaaGreatDoor.Den
open Go Go.RowKit
def fldI (P : Program) (t : TypeId) (f : Nat) : Option (TypeId × Nat × Nat) :=
 match P.underlying t with
 | some (.struct fs) => match fs[f]? with
  | some x => match tsz P x.type with
   | some (n + 1) => some (x.type, n + 1, x.offset)
   | _ => none
  | none => none
 | _ => none
def fldA (P : Program) (t : TypeId) (f : Nat) (p : PV) : Option PV :=
 match fldI P t f, p with
 | some (_, _, o), .ptr n k i off => some (.ptr n k i (off + o))
 | some (_, _, o), .eptr cs => if o ≤ cs.length then some (.eptr (cs.drop o)) else none
 | _, _ => none
theorem fldI_run {P : Program} {t : TypeId} {f : Nat} {ft sz o : Nat} (h : fldI P t f = some (ft, sz, o)) (w : World) (a : Addr) :
  (Instr.fieldAt t (.pointer (some a)) f).run P w = .ok (.pointer (some (a.add o))) w := by
 unfold fldI at h
 split at h
 case h_2 => cases h
 rename_i fs hu
 split at h
 case h_2 => cases h
 rename_i x hx
 split at h
 case h_2 => cases h
 rename_i n hz
 cases h
 simp [Instr.fieldAt, run_underlying hu, hx, Instr.sureAddr, fieldPlace, run_sizeOf hz]
theorem fldA_ok {P : Program} {B : Base} {m : Name → Nat} {s : HS} {w : World} {t : TypeId} {f : Nat} {p x : PV} {u : Value} (h : fldA P t f p = some x) (hp : VR (ctx B s m w) p u) :
  ∃ v, (Instr.fieldAt t u f).run P w = .ok v w ∧ VR (ctx B s m w) x v := by
 unfold fldA at h
 split at h
 ·rename_i ft sz o n k i off hf
  cases h
  cases hp with
  | ptr _ _ _ _ a hk ha =>
   refine ⟨_, fldI_run hf w a, .ptr _ _ _ _ _ hk fun b hb => ?_⟩
   rw [ha b hb, add_lit, Nat.add_assoc]
 ·rename_i ft sz o cs hf
  split at h
  case isFalse => cases h
  rename_i hle
  cases h
  cases hp with
  | eptr _ g off us hcl hx hw =>
   refine ⟨_, fldI_run hf w _, ?_⟩
   rw [add_lit]
   refine .eptr _ g (off + o) (fun j => us (o + j)) (closedL_sub hcl fun x hx => List.mem_of_mem_drop hx) (fun j y hy => hx _ _ (by rwa [List.getElem?_drop] at hy)) fun j hj => ?_
   have := hw (o + j) (by rw [List.length_drop] at hj; omega)
   rw [Nat.add_assoc]; exact this
 ·cases h
def fldV (P : Program) (t : TypeId) (f : Nat) (x : PV) : Option PV :=
 match fldI P t f, x with
 | some (ft, sz, o), .agg cs => match isA P ft with
  | some ag => if o + sz ≤ cs.length then mkv ag ((cs.drop o).take sz) else none
  | none => none
 | _, _ => none
theorem run_part {P : Program} {t : TypeId} {ag : Bool} {sz : Nat} {w : World} (hA : isA P t = some ag) (hz : tsz P t = some sz) (vs : Array Value) (o : Nat) (h1 : ag = false → sz = 1) (hl : o + sz ≤ vs.size) (h0 : 0 < sz) :
  (part t vs o).run P w = .ok (mkV ag ((vs.toList.drop o).take sz)) w := by
 simp only [part, Sem.run_bind, run_isAgg hA, Result.andThen_ok]
 cases ag with
 | true =>
  simp only [if_true, Sem.run_bind, run_sizeOf hz, Result.andThen_ok, Sem.run_pure, mkV]
  congr 2
  apply Array.ext'
  simp [List.extract_eq_take_drop]
 | false =>
  obtain rfl := h1 rfl
  have hlt : o < vs.size := by omega
  simp [mkV, hlt, List.getD, List.getElem?_drop]
theorem fldV_ok {P : Program} {c : Ctx} {w : World} {t : TypeId} {f : Nat} {p x : PV} {u : Value} (h : fldV P t f p = some x) (hp : VR c p u) :
  ∃ v, (Instr.field t u f).run P w = .ok v w ∧ VR c x v := by
 unfold fldV at h
 split at h
 case h_2 => cases h
 rename_i ft sz o cs hf
 split at h
 case h_2 => cases h
 rename_i ag hA
 split at h
 case isFalse => cases h
 rename_i hle
 cases hp with
 | agg _ vs hl hx =>
  unfold fldI at hf
  split at hf
  case h_2 => cases hf
  rename_i fs hu
  split at hf
  case h_2 => cases hf
  rename_i y hy
  split at hf
  case h_2 => cases hf
  rename_i n hz
  cases hf
  have hlen : ((vs.toList.drop y.offset).take (n + 1)).length = ((cs.drop y.offset).take (n + 1)).length := by simp [hl]
  have hk := mkv_ok (c := c) (us := (vs.toList.drop y.offset).take (n + 1)) h hlen (fun j z q h1 h2 => by
   rw [List.getElem?_take] at h1 h2
   split at h1
   ·rename_i hj
    rw [if_pos hj, List.getElem?_drop] at h2
    rw [List.getElem?_drop] at h1
    exact hx _ z q h1 (by simpa using h2)
   ·cases h1)
  refine ⟨_, ?_, hk.1⟩
  have h1 : ag = false → n + 1 = 1 := fun e => by have := hk.2 e; rw [List.length_take, List.length_drop] at this; omega
  simp [Instr.field, run_underlying hu, hy, asAgg, run_part hA hz vs y.offset h1 (by omega) (by omega)]
def intOfPV : PV → Option Int
 | .v (.int _ n) => some n
 | _ => none
def idxA (P : Program) (s : HS) (t : TypeId) (x ix : PV) : Option PV :=
 match P.underlying t, intOfPV ix with
 | some (.slice e), some j => match tsz P e with
  | some sz => match x with
   | .row n k i len => match s.h n with
    | (k', some b) => if k' = k ∧ b.sz = sz ∧ 0 ≤ j ∧ j < len then some (.ptr n k (i + j.toNat) 0) else none
    | _ => none
   | .list sz' _ xs => if sz' = sz ∧ 0 ≤ j then match xs[j.toNat]? with
    | some y => some (.eptr y)
    | none => none else none
   | _ => none
  | none => none
 | some (.array len e), some j => match tsz P e with
  | some sz => if 0 ≤ j ∧ j < len then match x with
   | .ptr n k i off => some (.ptr n k i (off + j.toNat * sz))
   | .eptr cs => if j.toNat * sz ≤ cs.length then some (.eptr (cs.drop (j.toNat * sz))) else none
   | _ => none else none
  | none => none
 | _, _ => none
theorem intOfPV_ok {c : Ctx} {x : PV} {u : Value} {j : Int} (h : intOfPV x = some j) (hx : VR c x u) : ∃ k, u = .int k j := by
 unfold intOfPV at h
 split at h
 ·cases h; cases hx; exact ⟨_, rfl⟩
 ·cases h
theorem idxA_ok {P : Program} {B : Base} {m : Name → Nat} {s : HS} {w : World} {t : TypeId} {x ix y : PV} {u v : Value} (h : idxA P s t x ix = some y) (hx : VR (ctx B s m w) x u) (hi : VR (ctx B s m w) ix v) :
  ∃ z, (Instr.indexAt t u v).run P w = .ok z w ∧ VR (ctx B s m w) y z := by
 unfold idxA at h
 split at h
 ·rename_i e j hu hj
  obtain ⟨k0, rfl⟩ := intOfPV_ok hj hi
  split at h
  case h_2 => cases h
  rename_i sz hz
  split at h
  ·rename_i n k i len
   split at h
   case h_2 => cases h
   rename_i k' b hn
   split at h
   case isFalse => cases h
   rename_i hc
   obtain ⟨rfl, hbz, h0, hlt⟩ := hc
   cases h
   cases hx with
   | row _ _ _ _ a cap hk hc hm ha =>
    obtain ⟨rfl, hcap⟩ := ha b hn
    refine ⟨.pointer (some (Addr.add ⟨m n, i * b.sz, none⟩ (j.toNat * sz))), ?_, ?_⟩
    ·simp [Instr.indexAt, asIntOf, run_underlying hu, h0, hlt, run_sizeOf hz, ctx]
    ·rw [add_lit]
     refine .ptr _ _ _ _ _ hk fun b' hb' => ?_
     have : b' = b := by simp [ctx, hn] at hb'; exact hb'.symm
     subst this
     rw [hbz]; simp [ctx, Nat.add_mul]
  ·rename_i sz' full xs
   split at h
   case isFalse => cases h
   rename_i hc
   obtain ⟨rfl, h0⟩ := hc
   split at h
   case h_2 => cases h
   rename_i y hy
   cases h
   cases hx with
   | lnil => simp at hy
   | list _ _ _ g off cap us hcl hc hm hf hl ho hxx hw =>
    have hlt := (List.getElem?_eq_some_iff.1 hy).1
    have hlt' : j < (xs.length : Int) := by omega
    refine ⟨.pointer (some (Addr.add ⟨g, off, none⟩ (j.toNat * sz'))), ?_, ?_⟩
    ·simp [Instr.indexAt, asIntOf, run_underlying hu, h0, hlt', run_sizeOf hz]
    ·rw [add_lit]
     refine .eptr _ g _ (us j.toNat) (closedL_iff.2 fun z hz => closedLL_iff.1 hcl y (List.mem_of_getElem? hy) z hz) (fun q z hq => hxx _ _ _ _ hy hq) fun q hq => ?_
     rw [hl _ _ hy] at hq
     have := hw j.toNat q hlt hq
     rw [Nat.add_assoc]; exact this
  ·cases h
 ·rename_i len e j hu hj
  obtain ⟨k0, rfl⟩ := intOfPV_ok hj hi
  split at h
  case h_2 => cases h
  rename_i sz hz
  split at h
  case isFalse => cases h
  rename_i hc
  obtain ⟨h0, hlt⟩ := hc
  split at h
  ·rename_i n k i off
   cases h
   cases hx with
   | ptr _ _ _ _ a hk ha =>
    refine ⟨.pointer (some (a.add (j.toNat * sz))), ?_, ?_⟩
    ·simp [Instr.indexAt, asIntOf, run_underlying hu, h0, hlt, run_sizeOf hz, Instr.sureAddr]
    ·refine .ptr _ _ _ _ _ hk fun b hb => ?_
     rw [ha b hb, add_lit, Nat.add_assoc]
  ·rename_i cs
   split at h
   case isFalse => cases h
   rename_i hle
   cases h
   cases hx with
   | eptr _ g off us hcl hxx hw =>
    refine ⟨.pointer (some (Addr.add ⟨g, off, none⟩ (j.toNat * sz))), ?_, ?_⟩
    ·simp [Instr.indexAt, asIntOf, run_underlying hu, h0, hlt, run_sizeOf hz, Instr.sureAddr]
    ·rw [add_lit]
     refine .eptr _ g _ (fun q => us (j.toNat * sz + q)) (closedL_sub hcl fun x hx => List.mem_of_mem_drop hx) (fun q z hq => hxx _ _ (by rwa [List.getElem?_drop] at hq)) fun q hq => ?_
     have := hw (j.toNat * sz + q) (by rw [List.length_drop] at hq; omega)
     rw [Nat.add_assoc]; exact this
  ·cases h
 ·cases h
def idxV (P : Program) (t : TypeId) (x ix : PV) : Option PV :=
 match P.underlying t, intOfPV ix, x with
 | some (.array len e), some j, .agg cs => match tsz P e, isA P e with
  | some (sz + 1), some ag => if 0 ≤ j ∧ j < len ∧ j.toNat * (sz + 1) + (sz + 1) ≤ cs.length then mkv ag ((cs.drop (j.toNat * (sz + 1))).take (sz + 1)) else none
  | _, _ => none
 | _, _, _ => none
theorem idxV_ok {P : Program} {c : Ctx} {w : World} {t : TypeId} {x ix y : PV} {u v : Value} (h : idxV P t x ix = some y) (hx : VR c x u) (hi : VR c ix v) :
  ∃ z, (Instr.index t u v).run P w = .ok z w ∧ VR c y z := by
 unfold idxV at h
 split at h
 case h_2 => cases h
 rename_i len e j cs hu hj
 obtain ⟨k0, rfl⟩ := intOfPV_ok hj hi
 split at h
 case h_2 => cases h
 rename_i sz ag hz hA
 split at h
 case isFalse => cases h
 rename_i hc
 obtain ⟨h0, hlt, hle⟩ := hc
 cases hx with
 | agg _ vs hl hx =>
  have hlen : ((vs.toList.drop (j.toNat * (sz + 1))).take (sz + 1)).length = ((cs.drop (j.toNat * (sz + 1))).take (sz + 1)).length := by simp [hl]
  have hk := mkv_ok (c := c) (us := (vs.toList.drop (j.toNat * (sz + 1))).take (sz + 1)) h hlen (fun q z p h1 h2 => by
   rw [List.getElem?_take] at h1 h2
   split at h1
   ·rename_i hj
    rw [if_pos hj, List.getElem?_drop] at h2
    rw [List.getElem?_drop] at h1
    exact hx _ z p h1 (by simpa using h2)
   ·cases h1)
  refine ⟨_, ?_, hk.1⟩
  have h1 : ag = false → sz + 1 = 1 := fun e => by have := hk.2 e; rw [List.length_take, List.length_drop] at this; omega
  simp [Instr.index, asIntOf, run_underlying hu, h0, hlt, run_sizeOf hz, run_part hA hz vs (j.toNat * (sz + 1)) h1 (by omega) (by omega)]
def els (s : HS) : PV → Option (Nat × List (List PV))
 | .row n k i len => match s.h n with
  | (k', some b) => if k' = k ∧ i + len ≤ b.xs.length then some (b.sz, (b.xs.drop i).take len) else none
  | _ => none
 | .list sz _ xs => some (sz, xs)
 | _ => none
structure Els (c : Ctx) (w : World) (sz : Nat) (ys : List (List PV)) (a : Addr) (news : List Value) : Prop where
 len : news.length = ys.length * sz
 cell : ∀ j u, news[j]? = some u → w.cell? (a.add j) = some u
 one : ∀ u ∈ news, u.oneCell' = true
 el : ∀ (i : Nat) (x : List PV), ys[i]? = some x → x.length = sz ∧ ∀ (j : Nat) (y : PV), x[j]? = some y → ∃ u, news[i * sz + j]? = some u ∧ VR c y u
theorem div_lt {j n sz : Nat} (h : j < n * sz) : j / sz < n := Nat.div_lt_of_lt_mul (by rw [Nat.mul_comm]; exact h)
theorem els_ok {B : Base} {m : Name → Nat} {s : HS} {w : World} (r : RelH B m s w) {x : PV} {u : Value} {sz : Nat} {ys : List (List PV)} (h : els s x = some (sz, ys)) (hx : VR (ctx B s m w) x u) :
  (∃ a cap news, u = .slice (some a) ys.length cap ∧ ys.length ≤ cap ∧ cap ≤ 9223372036854775807 ∧ Els (ctx B s m w) w sz ys a news) ∨ (ys = [] ∧ u = .slice none 0 0) := by
 unfold els at h
 split at h
 ·rename_i n k i len
  split at h
  case h_2 => cases h
  rename_i k' b hn
  split at h
  case isFalse => cases h
  rename_i hc
  obtain ⟨rfl, hle⟩ := hc
  cases h
  cases hx with
  | row _ _ _ _ a cap hk hc hm ha =>
   obtain ⟨rfl, hcap⟩ := ha b hn
   obtain ⟨⟨cells, hg, hcs, hall, _⟩, _, _⟩ := r.blk n _ b hn
   have hg : CellsOf w (m n) cells b.E := hg
   have hl : ((b.xs.drop i).take len).length = len := by rw [List.length_take, List.length_drop]; omega
   have hmul : i * b.sz + len * b.sz ≤ b.xs.length * b.sz := by rw [← Nat.add_mul]; exact Nat.mul_le_mul_right _ hle
   refine .inl ⟨_, cap, (cells.toList.drop (i * b.sz)).take (len * b.sz), by rw [hl], by rw [hl]; exact hc, hm, ?_, fun j u hu => ?_, fun u hu => ?_, fun q x hx => ?_⟩
   ·rw [hl, List.length_take, List.length_drop]; simp; omega
   ·rw [List.getElem?_take] at hu
    split at hu
    ·rw [List.getElem?_drop] at hu
     rw [add_lit]
     show w.cell? ⟨m n, i * b.sz + j, none⟩ = some u
     rw [hg.cell]; simpa using hu
    ·cases hu
   ·obtain ⟨j, hj⟩ := List.mem_iff_getElem?.1 hu
    rw [List.getElem?_take] at hj
    split at hj
    ·rename_i hjl
     rw [List.getElem?_drop] at hj
     have hq : j / b.sz < len := div_lt hjl
     have hz0 : 0 < b.sz := Nat.pos_of_ne_zero (fun e => by rw [e] at hjl; omega)
     have hxq := List.getElem?_eq_getElem (l := b.xs) (i := i + j / b.sz) (by omega)
     obtain ⟨hl1, hj1⟩ := hall _ _ hxq
     have hlt : j % b.sz < b.xs[i + j / b.sz].length := by rw [hl1]; exact Nat.mod_lt _ hz0
     obtain ⟨z, p1, p2, _⟩ := hj1 (j % b.sz) _ (List.getElem?_eq_getElem hlt)
     have e1 : (i + j / b.sz) * b.sz + j % b.sz = i * b.sz + j := by rw [Nat.add_mul, Nat.add_assoc, Nat.div_add_mod']
     rw [e1] at p1
     have : cells[i * b.sz + j]? = some u := by simpa using hj
     rw [this] at p1; cases p1; exact p2
    ·cases hj
   ·rw [List.getElem?_take] at hx
    split at hx
    ·rename_i hq
     rw [List.getElem?_drop] at hx
     obtain ⟨hl1, hj1⟩ := hall _ _ hx
     refine ⟨hl1, fun j y hy => ?_⟩
     obtain ⟨z, p1, _, p3⟩ := hj1 j y hy
     have hjz : j < b.sz := by rw [← hl1]; exact (List.getElem?_eq_some_iff.1 hy).1
     have : q * b.sz + b.sz ≤ len * b.sz := by rw [← Nat.succ_mul]; exact Nat.mul_le_mul_right _ hq
     refine ⟨z, ?_, p3⟩
     rw [List.getElem?_take, if_pos (by omega), List.getElem?_drop]
     rw [show i * b.sz + (q * b.sz + j) = (i + q) * b.sz + j by rw [Nat.add_mul]; omega]
     simpa using p1
    ·cases hx
 ·rename_i sz' full xs
  cases h
  cases hx with
  | lnil _ _ a =>
   cases a with
   | none => exact .inr ⟨rfl, rfl⟩
   | some a => exact .inl ⟨a, 0, [], rfl, Nat.le_refl _, by omega, ⟨by simp, fun j u h => by simp at h, fun u h => by simp at h, fun i x h => by simp at h⟩⟩
  | list _ _ _ g off cap us hcl hc hm hf hl ho hxx hw =>
   left
   have key : ∀ j, j < ys.length * sz → j / sz < ys.length ∧ j % sz < sz ∧ j / sz * sz + j % sz = j := fun j hj => ⟨div_lt hj, Nat.mod_lt _ (Nat.pos_of_ne_zero fun e => by rw [e] at hj; omega), Nat.div_add_mod' _ _⟩
   refine ⟨_, cap, (List.range (ys.length * sz)).map (fun j => us (j / sz) (j % sz)), rfl, hc, hm, by simp, fun j u hu => ?_, fun u hu => ?_, fun q x hx => ?_⟩
   ·rw [List.getElem?_map] at hu
    obtain ⟨j', hj', rfl⟩ := Option.map_eq_some_iff.1 hu
    obtain ⟨hlt, rfl⟩ := List.getElem?_eq_some_iff.1 hj'
    simp at hlt ⊢
    obtain ⟨k1, k2, k3⟩ := key j hlt
    have := (hw _ _ k1 k2).2
    rw [k3] at this
    rw [add_lit]; exact this
   ·obtain ⟨j, hj, rfl⟩ := List.mem_map.1 hu
    obtain ⟨k1, k2, k3⟩ := key j (List.mem_range.1 hj)
    exact ho _ _ k1 k2
   ·refine ⟨hl q x hx, fun j y hy => ?_⟩
    have hq := (List.getElem?_eq_some_iff.1 hx).1
    have hjz : j < sz := by rw [← hl q x hx]; exact (List.getElem?_eq_some_iff.1 hy).1
    have hmul : q * sz + sz ≤ ys.length * sz := by rw [← Nat.succ_mul]; exact Nat.mul_le_mul_right _ hq
    refine ⟨us q j, ?_, hxx _ _ _ _ hx hy⟩
    rw [List.getElem?_map, List.getElem?_range (by omega)]
    have e1 : (q * sz + j) / sz = q := by rw [Nat.mul_comm, Nat.mul_add_div (by omega), Nat.div_eq_of_lt hjz, Nat.add_zero]
    have e2 : (q * sz + j) % sz = j := by rw [Nat.mul_comm, Nat.mul_add_mod, Nat.mod_eq_of_lt hjz]
    simp [e1, e2]
 ·cases h
end Go.Proofs.YtdbekeidlppfiaaGreatDoor.Den
