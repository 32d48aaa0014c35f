/- Texts joined by a program of mine (pack.py): DenX. -/
import Derived.Test.YtdbekeidlppfiaaGreatDoorDenQ
import Derived.ChangeArms
import Derived.Deep.Slices
set_option linter.unusedVariables false
set_option linter.unusedSimpArgs false
namespace Go.Proofs.YtdbekeidlppfiaaGreatDoor.Den
open Go Go.RowKit Go.ChangeShapes
def farOf (w : World) (k : Nat) : Addr := match w.cell? ⟨k, 0, none⟩ with
 | some (.iface _ (.pointer (some a))) => a
 | _ => ⟨0, 0, none⟩
def topC (w : World) : Ctx := ⟨fun _ => (0, none), fun _ => 0, fun g _ => g < w.heap.size, w, farOf w⟩
def Stand (w : World) (cells : List PV) (cs : List Value) : Prop := cells.length = cs.length ∧ ∀ (j : Nat) (y : PV) (u : Value), cells[j]? = some y → cs[j]? = some u → (VR (topC w) y u ∧ u.oneCell' = true) ∧ closedB y = true
theorem Stand.append {w : World} {a b : List PV} {x y : List Value} (h : Stand w a x) (k : Stand w b y) : Stand w (a ++ b) (x ++ y) := by
 refine ⟨by simp [h.1, k.1], fun j p u hp hu => ?_⟩
 rcases Nat.lt_or_ge j a.length with hj | hj
 ·rw [List.getElem?_append_left hj] at hp
  rw [List.getElem?_append_left (by rw [← h.1]; exact hj)] at hu
  exact h.2 j p u hp hu
 ·rw [List.getElem?_append_right hj] at hp
  rw [List.getElem?_append_right (by rw [← h.1]; exact hj)] at hu
  rw [← h.1] at hu
  exact k.2 _ p u hp hu
theorem Stand.one {w : World} {y : PV} {u : Value} (h : VR (topC w) y u) (h1 : u.oneCell' = true) (hc : closedB y = true) : Stand w [y] [u] :=
 ⟨rfl, fun j p q hp hq => by
  cases j with
  | zero => simp at hp hq; subst hp hq; exact ⟨⟨h, h1⟩, hc⟩
  | succ j => simp at hp⟩
section
variable {H : Type} {enc : TypeId × Value → H} {P : Program} {w : World} {held : Bool}
def Opens (enc : TypeId × Value → H) (P : Program) (w : World) (held : Bool) (t : TypeId) (R : List PV → Prop) : Prop :=
 ∀ {fuel : Nat} {cs : List Value} {x : DataW H × List MemPlace}, DataW.trod enc P w 0 (fun _ => true) held fuel t cs = some x → ∃ cells, Stand w cells cs ∧ R cells
theorem opens_int {t : TypeId} {k : IntKind} (ht : P.underlying t = some (.int k)) : Opens enc P w held t fun c => ∃ n, c = [.v (.int k n)] ∧ (Lit.int k n).wf = true := by
 intro fuel cs x h
 obtain ⟨n, rfl, _, hw⟩ := DataW.trod_int ht h
 exact ⟨_, Stand.one (.v _) rfl rfl, n, rfl, hw⟩
theorem opens_bool {t : TypeId} (ht : P.underlying t = some .bool) : Opens enc P w held t fun c => ∃ b, c = [.v (.bool b)] := by
 intro fuel cs x h
 obtain ⟨n, rfl, _⟩ := DataW.trod_bool ht h
 exact ⟨_, Stand.one (.v _) rfl rfl, n, rfl⟩
theorem opens_str {t : TypeId} (ht : P.underlying t = some .string) : Opens enc P w held t fun c => ∃ s : ByteArray, c = [.v (.string s)] ∧ s.size ≤ maxLen := by
 intro fuel cs x h
 obtain ⟨s, rfl, _, hs⟩ := DataW.trod_string ht h
 exact ⟨_, Stand.one (.v _) rfl rfl, s, rfl, hs⟩
def FR : List (List PV → Prop) → List PV → Prop
 | [], c => c = []
 | R :: l, c => ∃ p q, c = p ++ q ∧ R p ∧ FR l q
def row1 (P : Program) : Nat → List Field → Nat → Bool
 | off, [], n => off == n
 | off, f :: l, n => f.offset == off && row1 P (off + P.cellsOf f.type) l n
inductive AllO (enc : TypeId × Value → H) (P : Program) (w : World) (held : Bool) : List Field → List (List PV → Prop) → Prop
 | nil : AllO enc P w held [] []
 | cons {f : Field} {R : List PV → Prop} {l : List Field} {Rs : List (List PV → Prop)} (h : Opens enc P w held f.type R) (k : AllO enc P w held l Rs) : AllO enc P w held (f :: l) (R :: Rs)
theorem opens_fields {n : Nat} {cs : List Value} : ∀ {fs : List Field} {Rs : List (List PV → Prop)} {off : Nat}, AllO enc P w held fs Rs → row1 P off fs cs.length = true →
  (∀ (i : Nat) (f : Field), fs[i]? = some f → ∃ x, DataW.trod enc P w 0 (fun _ => true) held n f.type ((cs.drop f.offset).take (P.cellsOf f.type)) = some x) → ∃ cells, Stand w cells (cs.drop off) ∧ FR Rs cells
 | _, _, off, .nil, hr, h => by
  simp only [row1, beq_iff_eq] at hr
  subst hr
  exact ⟨[], ⟨by simp, fun j y u hy => by simp at hy⟩, rfl⟩
 | f :: fs, R :: Rs, off, .cons ho k, hr, h => by
  simp only [row1, Bool.and_eq_true, beq_iff_eq] at hr
  obtain ⟨h0, h1⟩ := hr
  subst h0
  obtain ⟨x, hx⟩ := h 0 f rfl
  obtain ⟨c1, s1, r1⟩ := ho hx
  obtain ⟨c2, s2, r2⟩ := opens_fields k h1 fun i g hg => h (i + 1) g (by simpa using hg)
  refine ⟨c1 ++ c2, ?_, c1, c2, rfl, r1, r2⟩
  have := s1.append s2
  rw [← List.drop_drop, List.take_append_drop] at this
  exact this
theorem opens_struct {t : TypeId} {fs : Array Field} {Rs : List (List PV → Prop)} (ht : P.underlying t = some (.struct fs)) (hr : row1 P 0 fs.toList (P.cellsOf t) = true) (ho : AllO enc P w held fs.toList Rs) : Opens enc P w held t (FR Rs) := by
 intro fuel cs x h
 obtain ⟨xs, n, _, _, hl, hx, hf⟩ := DataW.trod_struct ht h
 have := opens_fields (n := n) (cs := cs) (off := 0) ho (by rw [hl]; exact hr) fun i f hi => by
  have hi' : fs[i]? = some f := by simpa using hi
  have hlt : i < xs.length := by rw [hx]; exact (Array.getElem?_eq_some_iff.1 hi').1
  exact ⟨xs[i], by rw [hf i f hi']; exact List.getElem?_eq_getElem hlt⟩
 simpa using this
theorem cells_at {base : Nat} {a : Addr} {n : Nat} {cs : List Value} (h : w.cells? base a n = some cs) : cs.length = n ∧ ∀ i, i < n → w.cell? (a.add i) = cs[i]? := by
 unfold World.cells? at h
 split at h
 ·have h1 := mapM_some_length h
  refine ⟨by simpa using h1, fun i hi => ?_⟩
  exact mapM_some_get h i i (by simp [hi])
 ·cases h
theorem opens_slice {t e : TypeId} {sz : Nat} {R : List PV → Prop} (ht : P.underlying t = some (.slice e)) (hs : P.cellsOf e = sz) (h0 : 0 < sz) (he : Opens enc P w held e R) :
  Opens enc P w held t fun c => ∃ xs, c = [.list sz false xs] ∧ xs.length ≤ maxLen ∧ ∀ x ∈ xs, R x := by
 intro fuel cs x h
 rcases Deep.open_slice ht h with ⟨rfl, _⟩ | ⟨a, len, cap, m, n, D, Pl, rfl, _, hlc, hcm, hm, _, hall⟩
 ·exact ⟨_, Stand.one (.lnil sz false none) rfl rfl, [], rfl, by simp, by simp⟩
 ·rw [if_pos rfl] at hm
  subst hm
  rw [hs] at hall
  rcases Nat.eq_zero_or_pos m with hc0 | hc0
  ·subst hc0
   obtain rfl : len = 0 := by omega
   exact ⟨_, Stand.one (.lnil sz false (some a)) rfl rfl, [], rfl, by simp, by simp⟩
  ·have each : ∀ i, i < m → ∃ p : List Value × List PV, w.cells? 0 (a.add (i * sz)) sz = some p.1 ∧ Stand w p.2 p.1 ∧ R p.2 := by
    intro i hi
    obtain ⟨cs', h1, h2⟩ := hall i hi
    obtain ⟨cells, s1, r1⟩ := he h2
    exact ⟨(cs', cells), h1, s1, r1⟩
   obtain ⟨f, hf⟩ := Deep.choose_lt each
   have hcell : ∀ i j, i < m → j < sz → w.cell? ((a.add (i * sz)).add j) = (f i).1[j]? ∧ (f i).1.length = sz := fun i j hi hj => ⟨(cells_at (hf i hi).1).2 j hj, (cells_at (hf i hi).1).1⟩
   have hspot : a.spot = none := by
    obtain ⟨h1, h2⟩ := hcell 0 0 hc0 h0
    rw [Nat.zero_mul] at h1
    have : (a.add 0).add 0 = a := rfl
    rw [this, List.getElem?_eq_getElem (by omega)] at h1
    exact World.cell?_spot h1
   obtain ⟨g, off, sp⟩ := a
   simp only at hspot
   subst hspot
   have hlen : ((List.range len).map fun i => (f i).2).length = len := by simp
   have hget : ∀ (i : Nat) (y : List PV), ((List.range len).map fun i => (f i).2)[i]? = some y → i < len ∧ y = (f i).2 := by
    intro i y hy
    rw [List.getElem?_map] at hy
    obtain ⟨q, hq, rfl⟩ := Option.map_eq_some_iff.1 hy
    obtain ⟨h1, rfl⟩ := List.getElem?_eq_some_iff.1 hq
    simp at h1 ⊢; exact h1
   have hcc : ∀ i j, i < len → j < sz → ∃ u, (f i).1[j]? = some u ∧ w.cell? ⟨g, off + (i * sz + j), none⟩ = some u := by
    intro i j hi hj
    obtain ⟨h1, h2⟩ := hcell i j (by omega) hj
    refine ⟨_, List.getElem?_eq_getElem (by omega), ?_⟩
    rw [add_lit, add_lit, List.getElem?_eq_getElem (by omega)] at h1
    rw [← h1, Nat.add_assoc]
   have hmax : m ≤ 9223372036854775807 := by simpa [maxLen] using hcm
   have := VR.list (c := topC w) sz false ((List.range len).map fun i => (f i).2) g off m (fun i j => ((f i).1[j]?).getD undef) (closedLL_iff.2 fun x hx y hy => by
     obtain ⟨i, hi, rfl⟩ := List.mem_map.1 hx
     have hi := List.mem_range.1 hi
     obtain ⟨q, hq⟩ := List.mem_iff_getElem?.1 hy
     have hlt := (List.getElem?_eq_some_iff.1 hq).1
     exact ((hf i (by omega)).2.1.2 q y _ hq (List.getElem?_eq_getElem (by rw [← (hf i (by omega)).2.1.1]; exact hlt))).2) (by rw [hlen]; exact hlc) hmax (by simp)
    (fun i y hy => by
     obtain ⟨h1, rfl⟩ := hget i y hy
     rw [(hf i (by omega)).2.1.1]
     exact (cells_at (hf i (by omega)).1).1)
    (fun i j hi hj => by
     rw [hlen] at hi
     obtain ⟨u, hu, _⟩ := hcc i j hi hj
     have hlt : j < (f i).2.length := by rw [(hf i (by omega)).2.1.1, (cells_at (hf i (by omega)).1).1]; exact hj
     rw [hu]
     exact ((hf i (by omega)).2.1.2 j _ u (List.getElem?_eq_getElem hlt) hu).1.2)
    (fun i j y z hy hz => by
     obtain ⟨h1, rfl⟩ := hget i y hy
     have hlt : j < sz := by
      have := (List.getElem?_eq_some_iff.1 hz).1
      rw [(hf i (by omega)).2.1.1, (cells_at (hf i (by omega)).1).1] at this; exact this
     obtain ⟨u, hu, _⟩ := hcc i j h1 hlt
     rw [hu]
     exact ((hf i (by omega)).2.1.2 j z u hz hu).1.1)
    (fun i j hi hj => by
     rw [hlen] at hi
     obtain ⟨u, hu, hc⟩ := hcc i j hi hj
     rw [hu]
     refine ⟨?_, hc⟩
     show g < w.heap.size
     unfold World.cell? at hc
     cases hg : w.heap[g]? with
     | none => simp [hg] at hc
     | some o => exact (Array.getElem?_eq_some_iff.1 hg).1)
   rw [hlen] at this
   refine ⟨_, Stand.one this rfl rfl, _, rfl, by rw [hlen]; omega, fun x hx => ?_⟩
   obtain ⟨i, hi, rfl⟩ := List.mem_map.1 hx
   exact (hf i (by have := List.mem_range.1 hi; omega)).2.2
end
end Go.Proofs.YtdbekeidlppfiaaGreatDoor.Den
