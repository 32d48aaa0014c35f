/- Texts joined by a program of mine (pack.py): Ent1. -/
import Derived.Maps.AppendAt
import Derived.Laws.OwnMore
import Derived.Below
import Derived.WalkSmall
import Derived.OwnWalk
import Derived.Deep.AppendLies
import Derived.Test.YtdbekeidlppfiaaGreatDoorShelf
import Derived.Test.YtdbekeidlppfiaaGreatDoorRows
import Derived.WalkKit
import Derived.ProofKit
import Derived.Deep.QuietTactic
import Derived.BigQuiet
import Derived.Outline
import Derived.WalkLawsBesides
import Derived.WalkSpells
import Derived.Lib.Hide
import Derived.Laws.RangeAny
import Derived.Laws.Runes
import Derived.Deep.WholeRow
import Derived.Lib.OthersKept
import Derived.Laws.StructEq
import Derived.IntWalk
set_option linter.unusedVariables false
set_option linter.unusedSimpArgs false
namespace Go.Proofs.YtdbekeidlppfiaaGreatDoor
open Go Go.RowKit
open Go.Lib (run_next_any_at run_next_end_at iterAt_heap iterAt_size below_iterAt)
theorem ret_int_bool {k : IntKind} {a b : Int} {c d : Bool} (h : a = b) (h' : c = d) : Ending.returned (.tuple #[.int k a, .bool c]) = .returned (.tuple #[.int k b, .bool d]) := by rw [h, h']
def Agree (S : Nat → Prop) (w w' : World) : Prop := ∀ k, S k → w'.heap[k]? = w.heap[k]?
def Old (w : World) : Nat → Prop := fun k => k < w.heap.size
theorem Agree.below {w w' : World} (h : Below w.heap.size w w') : Agree (Old w) w w' := fun k hk => h.block k hk
theorem Agree.grown {w w' : World} {row : Option Nat} (h : w.grownBy w' row) : Agree (fun k => k < w.heap.size ∧ some k ≠ row) w w' := fun k hk => h.block k hk.1 hk.2
theorem Agree.mono {S S' : Nat → Prop} {w w' : World} (h : Agree S w w') (hs : ∀ k, S' k → S k) : Agree S' w w' := fun k hk => h k (hs k hk)
theorem Agree.cell {S : Nat → Prop} {w w' : World} (h : Agree S w w') {g o : Nat} {v : Value} (hg : S g) (hc : w.cell? ⟨g, o, none⟩ = some v) : w'.cell? ⟨g, o, none⟩ = some v :=
 (World.cell?_of_block (h g hg)).trans hc
theorem bthen {w w1 w2 : World} (h : Below w.heap.size w w1) (k : Below w1.heap.size w1 w2) : Below w.heap.size w w2 := h.trans (k.mono h.size)
theorem bdrawn (w : World) (n : Nat) : Below w.heap.size w (w.drewN n) := below_drewN (Below.refl _ _) n
theorem balloc (w : World) (o : Obj) : Below w.heap.size w (w.alloc o) := (Below.refl _ _).alloc (Nat.le_refl _) o
theorem old_size {w w' : World} (h : w.heap.size ≤ w'.heap.size) : ∀ k, Old w k → Old w' k := fun k hk => Nat.lt_of_lt_of_le hk h
def Reps {α : Type} (R : α → List Value → Prop) (size : Nat) (ps : List α) (cs : List Value) : Prop :=
 cs.length = ps.length * size ∧ ∀ j p, ps[j]? = some p → R p ((cs.drop (j * size)).take size)
theorem Reps.nil {α : Type} (R : α → List Value → Prop) (size : Nat) : Reps R size [] [] := ⟨by simp, fun j p h => by simp at h⟩
theorem Reps.imp {α : Type} {R R' : α → List Value → Prop} {size : Nat} {ps : List α} {cs : List Value} (h : Reps R size ps cs) (hR : ∀ p c, R p c → R' p c) : Reps R' size ps cs := ⟨h.1, fun j p hj => hR _ _ (h.2 j p hj)⟩
theorem Reps.append {α : Type} {R : α → List Value → Prop} {size : Nat} {ps qs : List α} {cs ds : List Value} (h : Reps R size ps cs) (k : Reps R size qs ds) : Reps R size (ps ++ qs) (cs ++ ds) := by
 refine ⟨by rw [List.length_append, h.1, k.1, List.length_append, Nat.add_mul], fun j p hj => ?_⟩
 rcases Nat.lt_or_ge j ps.length with hlt | hge
 ·rw [List.getElem?_append_left hlt] at hj
  have h1 : j * size + size ≤ cs.length := by rw [h.1, ← Nat.succ_mul]; exact Nat.mul_le_mul_right _ hlt
  rw [List.drop_append_of_le_length (by omega), List.take_append_of_le_length (by rw [List.length_drop]; omega)]
  exact h.2 j p hj
 ·rw [List.getElem?_append_right hge] at hj
  have h2 := k.2 _ p hj
  have e : (cs ++ ds).drop (j * size) = ds.drop ((j - ps.length) * size) := by
   have : j * size = cs.length + (j - ps.length) * size := by rw [h.1, ← Nat.add_mul]; congr 1; omega
   rw [this, List.drop_append]
   simp
  rw [e]; exact h2
theorem Reps.one {α : Type} {R : α → List Value → Prop} {size : Nat} {p : α} {c : List Value} (h : R p c) (hc : c.length = size) : Reps R size [p] c :=
 ⟨by simp [hc], fun j q hj => by
  rcases j with _ | j
  ·obtain rfl : p = q := by simpa using hj
   simp only [Nat.zero_mul, List.drop_zero]
   rw [← hc, List.take_length]; exact h
  ·simp at hj⟩
theorem Reps.sub {α : Type} {R : α → List Value → Prop} {size : Nat} {ps : List α} {cs : List Value} (h : Reps R size ps cs) (lo n : Nat) (hn : lo + n ≤ ps.length) : Reps R size ((ps.drop lo).take n) ((cs.drop (lo * size)).take (n * size)) := by
 have hb : lo * size + n * size ≤ ps.length * size := by rw [← Nat.add_mul]; exact Nat.mul_le_mul_right _ hn
 refine ⟨by rw [List.length_take, List.length_drop, h.1, List.length_take, List.length_drop, Nat.min_eq_left (by omega), Nat.min_eq_left (by omega)], fun j p hj => ?_⟩
 have hjn : j < n := by
  have := (List.getElem?_eq_some_iff.1 hj).1
  rw [List.length_take] at this; omega
 rw [List.getElem?_take, if_pos hjn, List.getElem?_drop] at hj
 have h2 := h.2 _ p hj
 have hb2 : j * size + size ≤ n * size := by rw [← Nat.succ_mul]; exact Nat.mul_le_mul_right _ hjn
 rw [List.drop_take, List.drop_drop, List.take_take, Nat.min_eq_left (by omega)]
 rw [Nat.add_mul] at h2
 exact h2
structure Kind (α : Type) where
 sz : Nat
 At : (Nat → Prop) → World → α → List Value → Prop
 len : ∀ {S w x cs}, At S w x cs → cs.length = sz
 one : ∀ {S w x cs}, At S w x cs → ∀ v ∈ cs, v.oneCell' = true
 mono : ∀ {S S' : Nat → Prop} {w x cs}, (∀ k, S k → S' k) → At S w x cs → At S' w x cs
 keep : ∀ {S w w' x cs}, Agree S w w' → At S w x cs → At S w' x cs
def Kind.Sl {α : Type} (d : Kind α) (S : Nat → Prop) (w : World) (v : Value) (xs : List α) : Prop :=
 ∃ a cap cells, v = .slice a xs.length cap ∧ xs.length ≤ cap ∧ cap ≤ 9223372036854775807 ∧ Reps (d.At S w) d.sz xs cells ∧ (a = none → cap = 0) ∧
  ∀ ad, a = some ad → ∃ g off, ad = ⟨g, off, none⟩ ∧ (0 < xs.length → S g) ∧ ∀ j u, cells[j]? = some u → w.cell? ⟨g, off + j, none⟩ = some u
section
variable {α : Type} {d : Kind α} {S S' : Nat → Prop} {w w' : World} {v : Value} {xs : List α}
theorem Sl.mono (hs : ∀ k, S k → S' k) (h : d.Sl S w v xs) : d.Sl S' w v xs := by
 obtain ⟨a, cap, cells, h1, h2, h3, h4, h5, h6⟩ := h
 refine ⟨a, cap, cells, h1, h2, h3, h4.imp fun _ _ => d.mono hs, h5, fun ad e => ?_⟩
 obtain ⟨g, off, e1, e2, e3⟩ := h6 ad e
 exact ⟨g, off, e1, fun h => hs _ (e2 h), e3⟩
theorem Sl.keep (ha : Agree S w w') (h : d.Sl S w v xs) : d.Sl S w' v xs := by
 obtain ⟨a, cap, cells, h1, h2, h3, h4, h5, h6⟩ := h
 refine ⟨a, cap, cells, h1, h2, h3, h4.imp fun _ _ => d.keep ha, h5, fun ad e => ?_⟩
 obtain ⟨g, off, e1, e2, e3⟩ := h6 ad e
 refine ⟨g, off, e1, e2, fun j u hu => ?_⟩
 by_cases hx : 0 < xs.length
 ·exact ha.cell (e2 hx) (e3 j u hu)
 ·have hl := h4.1
  obtain ⟨hj, _⟩ := List.getElem?_eq_some_iff.1 hu
  have : xs.length = 0 := by omega
  rw [hl, this] at hj
  omega
theorem Sl.val (h : d.Sl S w v xs) : ∃ a cap, v = .slice a xs.length cap ∧ xs.length ≤ cap := by
 obtain ⟨a, cap, _, h1, h2, _⟩ := h
 exact ⟨a, cap, h1, h2⟩
theorem Sl.nil (d : Kind α) (S : Nat → Prop) (w : World) : d.Sl S w (.slice none 0 0) [] :=
 ⟨none, 0, [], rfl, Nat.le_refl _, by decide, Reps.nil _ _, fun _ => rfl, fun _ e => by cases e⟩
theorem Sl.below (hb : Below w.heap.size w w') (h : d.Sl (Old w) w v xs) : d.Sl (Old w') w' v xs :=
 Sl.mono (old_size hb.size) (Sl.keep (Agree.below hb) h)
theorem Sl.get (h : d.Sl S w v xs) {i : Nat} {x : α} (hx : xs[i]? = some x) :
  ∃ g off cap cs, v = .slice (some ⟨g, off, none⟩) xs.length cap ∧ xs.length ≤ cap ∧ cap ≤ 9223372036854775807 ∧ S g ∧ d.At S w x cs ∧ ∀ j u, cs[j]? = some u → w.cell? ⟨g, off + (i * d.sz + j), none⟩ = some u := by
 obtain ⟨a, cap, cells, rfl, h2, h3, h4, h5, h6⟩ := h
 have hi := (List.getElem?_eq_some_iff.1 hx).1
 cases a with
 | none => have := h5 rfl; omega
 | some ad =>
  obtain ⟨g, off, rfl, e2, e3⟩ := h6 _ rfl
  refine ⟨g, off, cap, (cells.drop (i * d.sz)).take d.sz, rfl, h2, h3, e2 (by omega), h4.2 i x hx, fun j u hu => ?_⟩
  rw [List.getElem?_take] at hu
  split at hu
  ·rw [List.getElem?_drop] at hu
   exact e3 _ u hu
  ·cases hu
end
def Kind.Own {α : Type} (d : Kind α) (e : TypeId) (base : Nat) (w : World) (v : Value) (xs : List α) : Prop :=
 ∃ cells, w.ownsRow base e d.sz v xs.length cells ∧ Reps (d.At (fun k => k < w.heap.size ∧ some k ≠ v.ownBlock) w) d.sz xs cells
section
variable {α : Type} {d : Kind α} {e : TypeId} {base : Nat} {w w' : World} {v : Value} {xs : List α}
theorem Own.nil (d : Kind α) (e : TypeId) (base : Nat) (w : World) : d.Own e base w (.slice none 0 0) [] := ⟨[], World.ownsRow_nil _ _ _ _, Reps.nil _ _⟩
theorem Own.lit0 (d : Kind α) (e : TypeId) (base : Nat) (w : World) (hb : base ≤ w.heap.size) : d.Own e base (w.alloc (.cells #[] e)) (.slice (some ⟨w.heap.size, 0, none⟩) 0 0) [] :=
 ⟨[], World.ownsRow_made w #[] 0 hb (by decide) (by simp), Reps.nil _ _⟩
theorem Own.row (h : d.Own e base w v xs) : ∀ k, v.ownBlock = some k → base ≤ k ∧ k < w.heap.size := by
 obtain ⟨cells, ho, _⟩ := h
 exact ho.lt
theorem Own.lower {base' : Nat} (h : d.Own e base w v xs) (hb : base' ≤ base) : d.Own e base' w v xs := by
 obtain ⟨cells, ho, hr⟩ := h
 exact ⟨cells, ⟨ho.1, ho.2.elim Or.inl (fun ⟨g, cap, cur, hv, hg, r⟩ => Or.inr ⟨g, cap, cur, hv, Nat.le_trans hb hg, r⟩)⟩, hr⟩
theorem Own.grow (h : d.Own e base w v xs) (hg : w.grownBy w' none) : d.Own e base w' v xs := by
 obtain ⟨cells, ho, hr⟩ := h
 refine ⟨cells, ho.kept hg (by cases v.ownBlock <;> simp), hr.imp fun x cs hx => ?_⟩
 exact d.mono (fun k hk => ⟨Nat.lt_of_lt_of_le hk.1 hg.size, hk.2⟩) (d.keep ((Agree.grown hg).mono fun k hk => ⟨hk.1, by simp⟩) hx)
theorem Own.below (h : d.Own e base w v xs) (hb : Below w.heap.size w w') : d.Own e base w' v xs :=
 Own.grow h ⟨hb.os, hb.tape, hb.output, hb.size, fun k hk _ => hb.block k hk⟩
theorem Own.alloc (h : d.Own e base w v xs) (o : Obj) : d.Own e base (w.alloc o) v xs := Own.below h (balloc w o)
theorem Own.drewN (h : d.Own e base w v xs) (n : Nat) : d.Own e base (w.drewN n) v xs := Own.below h (bdrawn w n)
theorem Own.sl (h : d.Own e base w v xs) : d.Sl (Old w) w v xs := by
 obtain ⟨cells, ho, hr⟩ := h
 have hr' := hr.imp (R' := d.At (Old w) w) fun x cs => d.mono fun k hk => hk.1
 rcases ho.2 with ⟨rfl, h0⟩ | ⟨g, cap, cur, rfl, hb, hg, hnc, hcm, _⟩
 ·have hx : xs = [] := List.eq_nil_of_length_eq_zero h0
  subst hx
  exact Sl.nil _ _ _
 ·refine ⟨_, cap, cells, rfl, hnc, by simpa [maxLen] using hcm, hr', (fun he => by cases he), fun ad he => ?_⟩
  cases he
  refine ⟨g, 0, rfl, fun _ => (Array.getElem?_eq_some_iff.1 hg).1, fun j u hu => ?_⟩
  have := ho.cells (g := g) rfl j u hu
  rwa [show (⟨g, 0, none⟩ : Addr).add j = ⟨g, 0 + j, none⟩ by unfold Addr.add; split <;> simp_all] at this
end
section
variable {P : Program} {ops : Array Oper} {rest : List Oper} {o : Oper} {a : Act} {Q : Exit → Act → World → Prop} {α : Type}
theorem wp_append (d : Kind α) {W : World} (base : Nat) (hgd : o.guard = none) (s x : Operand) (t e : TypeId) (z : Value) (bytes : Nat)
  (ho : o.op = .call { callee := .builtin .append, args := #[s, x], argTypes := #[t, t] })
  (ht : P.underlying t = some (.slice e)) (hinfo : (P.info? e).map (fun i => (i.zero, i.size, i.bytes)) = some (some z, d.sz, bytes)) (hz : z.cells.size = d.sz) (hs0 : 0 < d.sz) (hb0 : 0 < bytes)
  (v : Value) (xs : List α) (hs : a.eval s = v) (HO : d.Own e base W v xs)
  (ad : Addr) (c : Nat) (ys : List α) (news : List Value) (hx : a.eval x = .slice (some ad) ys.length c) (hr : Reps (d.At (fun k => k < W.heap.size ∧ some k ≠ v.ownBlock) W) d.sz ys news)
  (hnews : ∀ j u, news[j]? = some u → W.cell? (ad.add j) = some u)
  (hbase : base ≤ W.heap.size) (hl : (xs.length + ys.length) * bytes ≤ 140737488355328)
  (h : ∀ v1 w1, d.Own e base w1 v1 (xs ++ ys) → W.grownBy w1 v.ownBlock → (v1.ownBlock = v.ownBlock ∨ v1.ownBlock = some W.heap.size) → wpList P ops Q rest (a.put o.dst v1) w1) :
  wpList P ops Q (o :: rest) a W := by
 obtain ⟨i0, hi, hzz⟩ := Option.map_eq_some_iff.1 hinfo
 simp only [Prod.mk.injEq] at hzz
 obtain ⟨hz0, hz1, hz2⟩ := hzz
 obtain ⟨cells, hown, hre⟩ := HO
 have hlen : xs.length + ys.length ≤ 140737488355328 := Nat.le_trans (Nat.le_mul_of_pos_right _ hb0) hl
 refine wpList_append_own_at W hgd s x t ho base e i0 z d.sz bytes ht hi hz0 hz1 hz2 hz hs0 v xs.length cells hs hown ad ys.length c news hx hr.1 hnews ?_ (by simp only [maxLen]; omega) hl hbase ?_
 ·intro u hu
  obtain ⟨j, hj⟩ := List.mem_iff_getElem?.1 hu
  obtain ⟨hjl, _⟩ := List.getElem?_eq_some_iff.1 hj
  rw [hr.1] at hjl
  have hq : j / d.sz < ys.length := Nat.div_lt_of_lt_mul (by rw [Nat.mul_comm]; exact hjl)
  have hp := hr.2 _ _ (List.getElem?_eq_getElem hq)
  refine d.one hp u ?_
  refine List.mem_iff_getElem?.2 ⟨j % d.sz, ?_⟩
  rw [List.getElem?_take, if_pos (Nat.mod_lt _ hs0), List.getElem?_drop]
  rw [show j / d.sz * d.sz + j % d.sz = j by rw [Nat.mul_comm]; exact Nat.div_add_mod j d.sz]
  exact hj
 ·intro v1 w1 hown1 hg _ hat
  have hag := Agree.grown hg
  have hsub : ∀ k, (k < W.heap.size ∧ some k ≠ v.ownBlock) → (k < w1.heap.size ∧ some k ≠ v1.ownBlock) := by
   intro k ⟨hk1, hk2⟩
   refine ⟨Nat.lt_of_lt_of_le hk1 hg.size, ?_⟩
   rcases hat with hat | hat
   ·rw [hat]; exact hk2
   ·rw [hat]; intro he; injection he with he; omega
  refine h v1 w1 ⟨cells ++ news, by rw [List.length_append]; exact hown1, ?_⟩ hg hat
  exact (hre.imp fun y cs hy => d.mono hsub (d.keep hag hy)).append (hr.imp fun y cs hy => d.mono hsub (d.keep hag hy))
end
structure Ent where
 name : ByteArray
 ino : Int
def entK : Kind Ent where
 sz := 2
 At _ _ x cs := cs = [.string x.name, .int .i64 x.ino] ∧ x.name.size ≤ maxLen
 len h := by rw [h.1]; rfl
 one h := by rw [h.1]; intro v hv; simp at hv; rcases hv with rfl | rfl <;> rfl
 mono _ h := h
 keep _ h := h
theorem ent_at {S : Nat → Prop} {w : World} {v : Value} {xs : List Ent} (h : entK.Sl S w v xs) {i : Nat} {x : Ent} (hx : xs[i]? = some x) :
  ∃ g off cap, v = .slice (some ⟨g, off, none⟩) xs.length cap ∧ xs.length ≤ cap ∧ cap ≤ 9223372036854775807 ∧ (S g ∧ x.name.size ≤ maxLen) ∧ w.cell? ⟨g, off + i * 2, none⟩ = some (.string x.name) ∧ w.cell? ⟨g, off + i * 2 + 1, none⟩ = some (.int .i64 x.ino) := by
 obtain ⟨g, off, cap, cs, rfl, h1, h2, h3, ⟨rfl, h5⟩, h4⟩ := Sl.get h hx
 exact ⟨g, off, cap, rfl, h1, h2, ⟨h3, h5⟩, h4 0 _ rfl, h4 1 _ rfl⟩
theorem drop_cons {α : Type} {l : List α} {k : Nat} {x : α} (h : l[k]? = some x) : l.drop k = x :: l.drop (k + 1) := by
 obtain ⟨hk, rfl⟩ := List.getElem?_eq_some_iff.1 h
 exact List.drop_eq_getElem_cons hk
theorem drop_end {α : Type} (l : List α) : l.drop l.length = [] := List.drop_length
def findE : List Ent → ByteArray → Int × Bool
 | [], _ => (-1, false)
 | x :: l, n => if (x.name.toList == n.toList) = true then (x.ino, true) else findE l n
def Made {α : Type} (d : Kind α) (e : TypeId) (w : World) (l : List α) (en : Ending) (w' : World) : Prop := ∃ r, en = .returned r ∧ d.Own e w.heap.size w' r l ∧ Below w.heap.size w w'
def dropE (l : List Ent) (n : ByteArray) : List Ent := l.filter fun x => !(x.name.toList == n.toList)
def ltS (a b : ByteArray) : Bool := Op.bytesLess a.toList b.toList
def gtS (a b : ByteArray) : Bool := !(Op.bytesLess a.toList b.toList || a.toList == b.toList)
def putE (l : List Ent) (e : Ent) : List Ent := (dropE l e.name).filter (fun x => ltS x.name e.name) ++ [e] ++ (dropE l e.name).filter (fun x => gtS x.name e.name)
theorem cmp_facts : ∀ (a b : List UInt8), (decide (Lib.compareBytes a b < 0) = Op.bytesLess a b) ∧ ((Lib.compareBytes a b == 0) = (a == b))
 | [], [] => ⟨rfl, rfl⟩
 | [], _ :: _ => ⟨rfl, rfl⟩
 | _ :: _, [] => ⟨rfl, rfl⟩
 | x :: a, y :: b => by
  have ih := cmp_facts a b
  have h1 : (x < y) = (x.toNat < y.toNat) := by rw [UInt8.lt_iff_toNat_lt]
  have h2 : (y < x) = (y.toNat < x.toNat) := by rw [UInt8.lt_iff_toNat_lt]
  have h3 : (x = y) = (x.toNat = y.toNat) := by rw [← UInt8.toNat_inj]
  have e2 : Op.bytesLess (x :: a) (y :: b) = (decide (x < y) || (x == y && Op.bytesLess a b)) := rfl
  rw [e2]
  by_cases c1 : x.toNat < y.toNat
  ·have c2 : ¬ x = y := by rw [h3]; omega
   have c4 : x < y := by rw [h1]; exact c1
   rw [show Lib.compareBytes (x :: a) (y :: b) = -1 by simp only [Lib.compareBytes]; rw [if_pos c4]]
   simp [c4, c2]
  ·have c4 : ¬ x < y := by rw [h1]; exact c1
   by_cases c3 : y.toNat < x.toNat
   ·have c2 : ¬ x = y := by rw [h3]; omega
    have c5 : y < x := by rw [h2]; exact c3
    rw [show Lib.compareBytes (x :: a) (y :: b) = 1 by simp only [Lib.compareBytes]; rw [if_neg c4, if_pos c5]]
    simp [c4, c2]
   ·have c2 : x = y := by rw [h3]; omega
    subst c2
    rw [show Lib.compareBytes (x :: a) (x :: b) = Lib.compareBytes a b by simp only [Lib.compareBytes]; rw [if_neg c4]; rw [if_neg c4]]
    rw [ih.1, ih.2]
    simp
theorem cmp_lt (a b : ByteArray) : decide (Lib.compareBytes a.data.toList b.data.toList < 0) = ltS a b := by
 unfold ltS; rw [ByteArray.toList_eq, ByteArray.toList_eq]; exact (cmp_facts _ _).1
theorem cmp_eq (a b : ByteArray) : (Lib.compareBytes a.data.toList b.data.toList == 0) = (a.toList == b.toList) := by
 rw [ByteArray.toList_eq, ByteArray.toList_eq]; exact (cmp_facts _ _).2
def cmpS (a b : ByteArray) : Int := Lib.compareBytes a.data.toList b.data.toList
theorem place1_any (x : Ent) (n : ByteArray) (w : World) :
  Calls Tryz.prog 296 #[.agg #[.string x.name, .int .i64 x.ino], .string n] w fun e w' => e = .returned (.int .i64 (cmpS x.name n)) ∧ Below w.heap.size w w' := by
 unfold cmpS
 go_enter Tryz.func296, Tryz.ntmps296
 go_wp2_with fail
 refine (Tryz.strings_Compare _ _ _).mono ?_
 rintro e w' ⟨rfl, rfl⟩
 go_wp2
 go_ret
 exact ⟨rfl, balloc _ _⟩
structure Split (l : List Ent) (n : ByteArray) (i : Nat) : Prop where
 lo : ∀ t x, t < i → l[t]? = some x → ltS x.name n = true
 hi : ∀ t x, i ≤ t → l[t]? = some x → ltS x.name n = false
def Parts (l : List Ent) (n : ByteArray) : Prop := ∀ (s t : Nat) (x y : Ent), s ≤ t → l[s]? = some x → l[t]? = some y → ltS y.name n = true → ltS x.name n = true
def foundAt (l : List Ent) (n : ByteArray) (i : Nat) : Bool := match l[i]? with | some x => x.name.toList == n.toList | none => false
def Placed (l : List Ent) (n : ByteArray) (w : World) (e : Ending) (w' : World) : Prop := ∃ i : Nat, i ≤ l.length ∧ e = .returned (.tuple #[.int .i64 (i : Int), .bool (foundAt l n i)]) ∧ Split l n i ∧ Below w.heap.size w w'
theorem bsearch_any (l : List Ent) (v : Value) (n : ByteArray) (w : World) (h : entK.Sl (Old w) w v l) (hl : l.length ≤ 1000) (hm : Parts l n) :
  Calls Tryz.prog 295 #[v, .string n, .func (.func 296) #[] #[]] w (Placed l n w) := by
 have HM := Lib.hid hm
 clear hm
 obtain ⟨av, cap, hvv, hcapv⟩ := Sl.val h
 subst hvv
 have H := Lib.hid h
 clear h
 obtain ⟨L, hL⟩ : ∃ n, l.length = n := ⟨_, rfl⟩
 rw [hL] at hcapv ⊢
 try rw [hL] at hl
 have HL := Lib.hid hL
 clear hL
 go_enter Tryz.func295, Tryz.ntmps295
 go_wp2
 go_outline
 go_loopw [9, 10] (fun i j wr => ∃ a b : Nat, a ≤ b ∧ b ≤ L ∧ i = .int .i64 a ∧ j = .int .i64 b ∧ Hid (∀ t x, t < a → l[t]? = some x → ltS x.name n = true) ∧ Hid (∀ t x, b ≤ t → l[t]? = some x → ltS x.name n = false) ∧ Hid (Below w.heap.size w wr)) (fun i j _ => (intOf j - intOf i).toNat)
 case atStart => exact ⟨0, L, by omega, by omega, rfl, rfl, fun t x ht => by omega, fun t x ht hx => by have := (List.getElem?_eq_some_iff.1 hx).1; rw [HL.out] at this; omega, Below.refl _ _⟩
 case round =>
  obtain ⟨a, b, hab, hbL, rfl, rfl, ha, hbb, hb⟩ := hrel
  by_cases hlt : a < b
  ·have hm1 : (a + b) / 2 < L := by omega
   obtain ⟨x, hx⟩ : ∃ x, l[(a + b) / 2]? = some x := ⟨_, List.getElem?_eq_getElem (by rw [HL.out]; exact hm1)⟩
   obtain ⟨g, off, cap', he, _, _, ⟨hSg, hnm⟩, c0, c1⟩ := ent_at (Sl.keep (Agree.below hb.out) H.out) hx
   rw [HL.out] at he
   injection he with he1 he2 he3
   subst he1 he3
   clear he2
   have hlo : ∀ t y, t < (a + b) / 2 + 1 → l[t]? = some y → ltS x.name n = true → ltS y.name n = true := fun t y ht hy hq => HM.out t _ y x (by omega) hy hx hq
   have hhi : ∀ t y, (a + b) / 2 ≤ t → l[t]? = some y → ltS x.name n = false → ltS y.name n = false := fun t y ht hy hq => by
    cases hz : ltS y.name n
    ·rfl
    ·exact absurd (HM.out _ t x y ht hx hy hz) (by rw [hq]; simp)
   have HLO := Lib.hid hlo
   have HHI := Lib.hid hhi
   clear hlo hhi hx
   cases hq : ltS x.name n
   ·have hq1 : decide (cmpS x.name n < 0) = false := by unfold cmpS; rw [cmp_lt]; exact hq
    have HQ := Lib.hid (fun t y (ht : (a + b) / 2 ≤ t) hy => HHI.out t y ht hy hq)
    clear HLO HHI hq
    go_wp2_with fail
    refine (place1_any x n _).mono ?_
    rintro e w2 ⟨rfl, hb2⟩
    go_wp2
    go_roundw
    case rel => exact ⟨a, (a + b) / 2, by omega, by omega, rfl, congrArg (Value.int .i64) (by omega), ha, HQ, bthen hb.out hb2⟩
    case measure => simp [intOf]; omega
   ·have hq1 : decide (cmpS x.name n < 0) = true := by unfold cmpS; rw [cmp_lt]; exact hq
    have HQ := Lib.hid (fun t y (ht : t < (a + b) / 2 + 1) hy => HLO.out t y ht hy hq)
    clear HLO HHI hq
    go_wp2_with fail
    refine (place1_any x n _).mono ?_
    rintro e w2 ⟨rfl, hb2⟩
    go_wp2
    go_roundw
    case rel => exact ⟨(a + b) / 2 + 1, b, by omega, by omega, congrArg (Value.int .i64) (by omega), rfl, HQ, hbb, bthen hb.out hb2⟩
    case measure => simp [intOf]; omega
  ·obtain rfl : a = b := by omega
   have HS := Lib.hid (Split.mk ha.out hbb.out)
   clear ha hbb HM
   by_cases hL2 : a < L
   ·obtain ⟨x, hx⟩ : ∃ x, l[a]? = some x := ⟨_, List.getElem?_eq_getElem (by rw [HL.out]; exact hL2)⟩
    obtain ⟨g, off, cap', he, _, _, ⟨hSg, hnm⟩, c0, c1⟩ := ent_at (Sl.keep (Agree.below hb.out) H.out) hx
    rw [HL.out] at he
    injection he with he1 he2 he3
    subst he1 he3
    clear he2
    have HF := Lib.hid (show foundAt l n a = (x.name.toList == n.toList) by unfold foundAt; rw [hx])
    have hq1 : (cmpS x.name n == 0) = (x.name.toList == n.toList) := by unfold cmpS; exact cmp_eq _ _
    clear hx
    go_wp2_with fail
    refine (place1_any x n _).mono ?_
    rintro e w2 ⟨rfl, hb2⟩
    go_wp2
    go_ret2
    exact ⟨a, by rw [HL.out]; omega, ret_int_bool rfl HF.out.symm, HS.out, bthen hb.out hb2⟩
   ·obtain rfl : a = L := by omega
    have HF := Lib.hid (show foundAt l n a = false by unfold foundAt; rw [List.getElem?_eq_none (by rw [HL.out]; exact Nat.le_refl _)])
    go_wp2
    go_ret2
    exact ⟨a, by rw [HL.out]; exact Nat.le_refl _, ret_int_bool rfl HF.out.symm, HS.out, hb.out⟩
theorem bl_irrefl : ∀ a : List UInt8, Op.bytesLess a a = false
 | [] => rfl
 | x :: a => by
  show (decide (x < x) || (x == x && Op.bytesLess a a)) = false
  rw [bl_irrefl a]
  simp
theorem bl_trans : ∀ a b c : List UInt8, Op.bytesLess a b = true → Op.bytesLess b c = true → Op.bytesLess a c = true
 | [], [], _, h, _ => by cases h
 | [], _ :: _, [], _, h => by cases h
 | [], _ :: _, _ :: _, _, _ => rfl
 | _ :: _, [], _, h, _ => by cases h
 | _ :: _, _ :: _, [], _, h => by cases h
 | x :: a, y :: b, z :: c, h, k => by
  have h' : (decide (x < y) || (x == y && Op.bytesLess a b)) = true := h
  have k' : (decide (y < z) || (y == z && Op.bytesLess b c)) = true := k
  show (decide (x < z) || (x == z && Op.bytesLess a c)) = true
  simp only [Bool.or_eq_true, Bool.and_eq_true, decide_eq_true_eq, beq_iff_eq] at *
  rcases h' with h' | ⟨rfl, h'⟩
  ·rcases k' with k' | ⟨rfl, k'⟩
   ·exact Or.inl (UInt8.lt_trans h' k')
   ·exact Or.inl h'
  ·rcases k' with k' | ⟨rfl, k'⟩
   ·exact Or.inl k'
   ·exact Or.inr ⟨rfl, bl_trans a b c h' k'⟩
theorem bl_tri : ∀ a b : List UInt8, Op.bytesLess a b = false → (a == b) = false → Op.bytesLess b a = true
 | [], [], _, h => by cases h
 | [], _ :: _, h, _ => by cases h
 | _ :: _, [], _, _ => rfl
 | x :: a, y :: b, h, k => by
  have h' : (decide (x < y) || (x == y && Op.bytesLess a b)) = false := h
  show (decide (y < x) || (y == x && Op.bytesLess b a)) = true
  simp only [Bool.or_eq_false_iff, Bool.and_eq_false_iff, decide_eq_false_iff_not] at h'
  simp only [Bool.or_eq_true, Bool.and_eq_true, decide_eq_true_eq, beq_iff_eq]
  have h1 : ¬ x.toNat < y.toNat := by rw [← UInt8.lt_iff_toNat_lt]; exact h'.1
  by_cases e : x = y
  ·subst e
   refine Or.inr ⟨rfl, bl_tri a b ?_ ?_⟩
   ·rcases h'.2 with h2 | h2
    ·simp at h2
    ·exact h2
   ·have k' : (x :: a == x :: b) = false := k
    simpa using k'
  ·left
   rw [UInt8.lt_iff_toNat_lt]
   have : x.toNat ≠ y.toNat := fun hh => e (UInt8.toNat_inj.1 hh)
   omega
theorem name_inj {a b : ByteArray} (h : a.toList = b.toList) : a = b := by
 rw [ByteArray.toList_eq, ByteArray.toList_eq] at h
 cases a; cases b
 congr 1
 exact Array.ext' h
theorem lt_irrefl (a : ByteArray) : ltS a a = false := bl_irrefl _
theorem lt_trans {a b c : ByteArray} (h : ltS a b = true) (k : ltS b c = true) : ltS a c = true := bl_trans _ _ _ h k
theorem lt_tri {a b : ByteArray} (h : ltS a b = false) (k : (a.toList == b.toList) = false) : ltS b a = true := bl_tri _ _ h k
theorem lt_ne {a b : ByteArray} (h : ltS a b = true) : (a.toList == b.toList) = false := by
 cases hb : (a.toList == b.toList) with
 | false => rfl
 | true =>
  have := name_inj (eq_of_beq hb)
  subst this
  rw [lt_irrefl] at h; cases h
theorem ne_symm {a b : ByteArray} (h : (a.toList == b.toList) = false) : (b.toList == a.toList) = false := by
 cases hb : (b.toList == a.toList) with
 | false => rfl
 | true => rw [eq_of_beq hb] at h; simp at h
theorem lt_asymm {a b : ByteArray} (h : ltS a b = true) : ltS b a = false := by
 cases hb : ltS b a with
 | false => rfl
 | true => have := lt_trans h hb; rw [lt_irrefl] at this; cases this
theorem gt_of_lt {a b : ByteArray} (h : ltS a b = true) : gtS b a = true := by
 unfold gtS
 have h1 : Op.bytesLess b.toList a.toList = false := lt_asymm h
 rw [h1, ne_symm (lt_ne h)]; rfl
theorem gt_lt {a b : ByteArray} (h : ltS a b = true) : gtS a b = false := by
 unfold gtS
 have h1 : Op.bytesLess a.toList b.toList = true := h
 rw [h1]; rfl
def Sorts (l : List Ent) : Prop := l.Pairwise fun x y => ltS x.name y.name = true
theorem sorts_get {l : List Ent} (h : Sorts l) {s t : Nat} {x y : Ent} (hst : s < t) (hx : l[s]? = some x) (hy : l[t]? = some y) : ltS x.name y.name = true := by
 obtain ⟨h1, rfl⟩ := List.getElem?_eq_some_iff.1 hx
 obtain ⟨h2, rfl⟩ := List.getElem?_eq_some_iff.1 hy
 exact List.pairwise_iff_getElem.1 h s t h1 h2 hst
theorem sorts_parts {l : List Ent} (h : Sorts l) (n : ByteArray) : Parts l n := by
 intro s t x y hst hx hy hyn
 rcases Nat.lt_or_ge s t with hlt | hge
 ·exact lt_trans (sorts_get h hlt hx hy) hyn
 ·obtain rfl : s = t := by omega
  rw [hx] at hy; cases hy; exact hyn
structure At (l : List Ent) (n : ByteArray) (A D : List Ent) : Prop where
 lo : ∀ x ∈ A, ltS x.name n = true
 hi : ∀ x ∈ D, ltS n x.name = true
theorem split_not {l : List Ent} {n : ByteArray} {i : Nat} (hs : Sorts l) (h : Split l n i) (hf : foundAt l n i = false) : At l n (l.take i) (l.drop i) := by
 refine ⟨fun x hx => ?_, fun x hx => ?_⟩
 ·obtain ⟨t, ht⟩ := List.mem_iff_getElem?.1 hx
  rw [List.getElem?_take] at ht
  split at ht
  ·exact h.lo t x (by assumption) ht
  ·cases ht
 ·obtain ⟨t, ht⟩ := List.mem_iff_getElem?.1 hx
  rw [List.getElem?_drop] at ht
  have hlt := h.hi (i + t) x (by omega) ht
  refine lt_tri hlt ?_
  cases t with
  | zero =>
   unfold foundAt at hf
   rw [Nat.add_zero] at ht
   rw [ht] at hf; exact hf
  | succ t =>
   obtain ⟨hil, _⟩ := List.getElem?_eq_some_iff.1 ht
   obtain ⟨z, hz⟩ : ∃ z, l[i]? = some z := ⟨_, List.getElem?_eq_getElem (by omega)⟩
   have hzx := sorts_get hs (by omega : i < i + (t + 1)) hz ht
   have hzn := h.hi i z (by omega) hz
   unfold foundAt at hf
   rw [hz] at hf
   exact ne_symm (lt_ne (lt_trans (lt_tri hzn hf) hzx))
theorem split_is {l : List Ent} {n : ByteArray} {i : Nat} (hs : Sorts l) (h : Split l n i) (hf : foundAt l n i = true) : ∃ x, l[i]? = some x ∧ x.name = n ∧ l = l.take i ++ x :: l.drop (i + 1) ∧ At l n (l.take i) (l.drop (i + 1)) := by
 unfold foundAt at hf
 cases hx : l[i]? with
 | none => rw [hx] at hf; cases hf
 | some x =>
  rw [hx] at hf
  have hn := name_inj (eq_of_beq hf)
  refine ⟨x, rfl, hn, ?_, fun z hz => ?_, fun z hz => ?_⟩
  ·rw [← drop_cons hx, List.take_append_drop]
  ·obtain ⟨t, ht⟩ := List.mem_iff_getElem?.1 hz
   rw [List.getElem?_take] at ht
   split at ht
   ·exact h.lo t z (by assumption) ht
   ·cases ht
  ·obtain ⟨t, ht⟩ := List.mem_iff_getElem?.1 hz
   rw [List.getElem?_drop] at ht
   rw [← hn]
   exact sorts_get hs (by omega : i < i + 1 + t) hx ht
theorem find_skip : ∀ (A D : List Ent) (n : ByteArray), (∀ x ∈ A, (x.name.toList == n.toList) = false) → findE (A ++ D) n = findE D n
 | [], _, _, _ => rfl
 | x :: A, D, n, h => by
  show (if (x.name.toList == n.toList) = true then (x.ino, true) else findE (A ++ D) n) = _
  rw [h x (by simp), if_neg (by simp)]
  exact find_skip A D n fun y hy => h y (List.mem_cons_of_mem _ hy)
theorem find_none (A : List Ent) (n : ByteArray) (h : ∀ x ∈ A, (x.name.toList == n.toList) = false) : findE A n = (-1, false) := by
 have := find_skip A [] n h
 rw [List.append_nil] at this
 exact this
theorem at_ne {l A D : List Ent} {n : ByteArray} (h : At l n A D) : (∀ x ∈ A, (x.name.toList == n.toList) = false) ∧ (∀ x ∈ D, (x.name.toList == n.toList) = false) :=
 ⟨fun x hx => lt_ne (h.lo x hx), fun x hx => ne_symm (lt_ne (h.hi x hx))⟩
theorem filter_all {p : Ent → Bool} {l : List Ent} (h : ∀ x ∈ l, p x = true) : l.filter p = l := List.filter_eq_self.2 h
theorem filter_no {p : Ent → Bool} {l : List Ent} (h : ∀ x ∈ l, p x = false) : l.filter p = [] := List.filter_eq_nil_iff.2 fun x hx => by rw [h x hx]; simp
theorem drop_none {l A D : List Ent} {n : ByteArray} (h : At l n A D) : dropE (A ++ D) n = A ++ D := by
 unfold dropE
 refine filter_all fun x hx => ?_
 rcases List.mem_append.1 hx with hx | hx
 ·rw [(at_ne h).1 x hx]; rfl
 ·rw [(at_ne h).2 x hx]; rfl
theorem drop_one {l A D : List Ent} {n : ByteArray} {x : Ent} (h : At l n A D) (hx : x.name = n) : dropE (A ++ x :: D) n = A ++ D := by
 have := drop_none h
 unfold dropE at *
 rw [List.filter_append] at this ⊢
 rw [List.filter_cons_of_neg (by rw [hx]; simp)]
 exact this
theorem put_at {l A D : List Ent} {e : Ent} (h : At l e.name A D) : (A ++ D).filter (fun x => ltS x.name e.name) ++ [e] ++ (A ++ D).filter (fun x => gtS x.name e.name) = A ++ e :: D := by
 rw [List.filter_append, List.filter_append, filter_all h.lo, filter_no (l := D) (fun x hx => lt_asymm (h.hi x hx)), filter_no (l := A) (fun x hx => gt_lt (h.lo x hx)), filter_all (l := D) (fun x hx => gt_of_lt (h.hi x hx))]
 simp
theorem put_split {l : List Ent} {e : Ent} {i : Nat} (hs : Sorts l) (h : Split l e.name i) : putE l e = if foundAt l e.name i = true then l.take i ++ e :: l.drop (i + 1) else l.take i ++ e :: l.drop i := by
 cases hf : foundAt l e.name i with
 | true =>
  obtain ⟨x, hx, hn, hl, hat⟩ := split_is hs h hf
  simp only [if_true]
  unfold putE
  conv => lhs; rw [hl]
  rw [drop_one hat hn]
  exact put_at hat
 | false =>
  have hat := split_not hs h hf
  simp only [Bool.false_eq_true, if_false]
  unfold putE
  conv => lhs; rw [← List.take_append_drop i l]
  rw [drop_none hat]
  exact put_at hat
theorem drop_split {l : List Ent} {n : ByteArray} {i : Nat} (hs : Sorts l) (h : Split l n i) : dropE l n = if foundAt l n i = true then l.take i ++ l.drop (i + 1) else l := by
 cases hf : foundAt l n i with
 | true =>
  obtain ⟨x, hx, hn, hl, hat⟩ := split_is hs h hf
  simp only [if_true]
  conv => lhs; rw [hl]
  exact drop_one hat hn
 | false =>
  have hat := split_not hs h hf
  simp only [Bool.false_eq_true, if_false]
  have := drop_none hat
  rw [List.take_append_drop] at this
  exact this
end Go.Proofs.YtdbekeidlppfiaaGreatDoor
