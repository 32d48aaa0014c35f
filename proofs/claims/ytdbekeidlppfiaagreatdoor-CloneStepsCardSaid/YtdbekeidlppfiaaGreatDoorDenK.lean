/- Texts joined by a program of mine (pack.py): DenK. -/
import Derived.Test.YtdbekeidlppfiaaGreatDoorDenN
set_option linter.unusedVariables false
set_option linter.unusedSimpArgs false
namespace Go.Proofs.YtdbekeidlppfiaaGreatDoor.Den
open Go Go.RowKit
def RV0 (c : Ctx) (x : PV) (v : Value) (gs : List Nat) : Prop :=
 (closedB x = true ∧ VR c x v ∧ gs = []) ∨
 ∃ sz E xs g cap cells, x = .own sz E xs ∧ v = .slice (some ⟨g, 0, none⟩) xs.length cap ∧ gs = [g] ∧ CellsOf c.w g cells E ∧ xs.length ≤ cap ∧ cap ≤ 9223372036854775807 ∧ cells.size = cap * sz ∧ RowN c sz xs cells ∧ closedLL xs = true
inductive RVs (R : PV → Value → List Nat → Prop) : List PV → List Value → List Nat → Prop
 | nil : RVs R [] [] []
 | cons {x : PV} {v : Value} {g : List Nat} {l : List PV} {vs : List Value} {gs : List Nat} (h : R x v g) (k : RVs R l vs gs) : RVs R (x :: l) (v :: vs) (g ++ gs)
def RV1 (c : Ctx) (x : PV) (v : Value) (gs : List Nat) : Prop := RV0 c x v gs ∨ ∃ cs vs, x = .agg cs ∧ v = .agg vs ∧ RVs (RV0 c) cs vs.toList gs
def RV2 (c : Ctx) (x : PV) (v : Value) (gs : List Nat) : Prop := RV1 c x v gs ∨ ∃ cs vs, x = .tup cs ∧ v = .tuple vs ∧ RVs (RV1 c) cs vs.toList gs
def owns0 : PV → List Blk
 | .own sz E xs => [⟨sz, E, xs, true, true⟩]
 | _ => []
def owns1 : PV → List Blk
 | .agg cs => cs.flatMap owns0
 | x => owns0 x
def owns2 : PV → List Blk
 | .tup cs => cs.flatMap owns1
 | x => owns1 x
theorem owns0_closed {x : PV} (h : closedB x = true) : owns0 x = [] := by cases x <;> first | rfl | simp [closedB] at h
theorem owns1_closed {x : PV} (h : closedB x = true) : owns1 x = [] := by
 cases x <;> first | rfl | skip
 ·rename_i cs
  have h' := closedL_iff.1 (by simpa [closedB] using h)
  simp only [owns1]
  exact List.flatMap_eq_nil_iff.2 fun x hx => owns0_closed (h' x hx)
 ·simp [closedB] at h
theorem owns2_closed {x : PV} (h : closedB x = true) : owns2 x = [] := by
 cases x <;> first | rfl | skip
 ·rename_i cs; exact owns1_closed (x := .agg cs) h
 ·rename_i cs
  have h' := closedL_iff.1 (by simpa [closedB] using h)
  simp only [owns2]
  exact List.flatMap_eq_nil_iff.2 fun x hx => owns1_closed (h' x hx)
 ·simp [closedB] at h
def plL (f : Nat → PV → PV) (cnt : PV → Nat) : Nat → List PV → List PV
 | _, [] => []
 | i, x :: l => f i x :: plL f cnt (i + cnt x) l
def pl0 (nm : Name) (s : HS) (i : Nat) : PV → PV
 | .own _ _ xs => .row (i :: nm) ((s.h (i :: nm)).1 + 1) 0 xs.length
 | x => x
def pl1 (nm : Name) (s : HS) (i : Nat) : PV → PV
 | .agg cs => .agg (plL (pl0 nm s) (fun x => (owns0 x).length) i cs)
 | x => pl0 nm s i x
def pl2 (nm : Name) (s : HS) (i : Nat) : PV → PV
 | .tup cs => .tup (plL (pl1 nm s) (fun x => (owns1 x).length) i cs)
 | x => pl1 nm s i x
theorem plL_length (f : Nat → PV → PV) (cnt : PV → Nat) : ∀ (i : Nat) (l : List PV), (plL f cnt i l).length = l.length
 | _, [] => rfl
 | i, x :: l => by simp [plL, plL_length f cnt]
theorem plL_self {f : Nat → PV → PV} {cnt : PV → Nat} : ∀ (i : Nat) (l : List PV), (∀ x ∈ l, ∀ i, f i x = x) → plL f cnt i l = l
 | _, [], _ => rfl
 | i, x :: l, h => by simp only [plL]; rw [h x (by simp) i, plL_self _ l fun y hy => h y (by simp [hy])]
theorem pl0_closed {nm : Name} {s : HS} {i : Nat} {x : PV} (h : closedB x = true) : pl0 nm s i x = x := by cases x <;> first | rfl | simp [closedB] at h
theorem pl1_closed {nm : Name} {s : HS} {i : Nat} {x : PV} (h : closedB x = true) : pl1 nm s i x = x := by
 cases x <;> first | rfl | skip
 ·rename_i cs
  have h' := closedL_iff.1 (by simpa [closedB] using h)
  simp only [pl1]
  rw [plL_self _ _ fun y hy i => pl0_closed (h' y hy)]
 ·simp [closedB] at h
theorem pl2_closed {nm : Name} {s : HS} {i : Nat} {x : PV} (h : closedB x = true) : pl2 nm s i x = x := by
 cases x <;> first | rfl | skip
 ·rename_i cs; exact pl1_closed (x := .agg cs) h
 ·rename_i cs
  have h' := closedL_iff.1 (by simpa [closedB] using h)
  simp only [pl2]
  rw [plL_self _ _ fun y hy i => pl1_closed (h' y hy)]
 ·simp [closedB] at h
def nw (nm : Name) : Nat → List Blk → List Nat → News
 | i, b :: bs, g :: gs => (i :: nm, g, b) :: nw nm (i + 1) bs gs
 | _, _, _ => []
theorem lk_nw {nm : Name} : ∀ (bs : List Blk) (gs : List Nat) (i : Nat), gs.length = bs.length → (∀ j, lk (nw nm i bs gs) (j :: nm) = if i ≤ j then (match bs[j - i]?, gs[j - i]? with | some b, some g => some (g, b) | _, _ => none) else none) ∧
  ∀ n, (∀ j, n ≠ j :: nm) → lk (nw nm i bs gs) n = none
 | [], [], i, _ => ⟨fun j => by simp [nw, lk], fun n _ => by simp [nw, lk]⟩
 | b :: bs, g :: gs, i, hl => by
  obtain ⟨h1, h2⟩ := lk_nw bs gs (i + 1) (by simpa using hl)
  refine ⟨fun j => ?_, fun n hn => ?_⟩
  ·by_cases hj : j = i
   ·subst hj
    simp [nw, lk]
   ·have e1 : lk (nw nm i (b :: bs) (g :: gs)) (j :: nm) = lk (nw nm (i + 1) bs gs) (j :: nm) := by
     have : ((i :: nm) == (j :: nm)) = false := by simp; exact fun e => hj e.symm
     simp [nw, lk, List.find?, this]
    rw [e1, h1]
    by_cases hle : i + 1 ≤ j
    ·rw [if_pos hle, if_pos (by omega)]
     rw [show j - i = (j - (i + 1)) + 1 by omega]; simp
    ·rw [if_neg hle, if_neg (by omega)]
  ·have : ((i :: nm) == n) = false := by simp; exact fun e => hn i e.symm
   simp only [nw, lk, List.find?, this]
   exact h2 n hn
 | [], _ :: _, i, hl => by simp at hl
 | _ :: _, [], i, hl => by simp at hl
theorem addS_nw {nm : Name} {s : HS} {bs : List Blk} {gs gs' : List Nat} (h : gs.length = bs.length) (h' : gs'.length = bs.length) : addS s (nw nm 0 bs gs) = addS s (nw nm 0 bs gs') := by
 have key : ∀ n, (lk (nw nm 0 bs gs) n).map (·.2) = (lk (nw nm 0 bs gs') n).map (·.2) := by
  intro n
  by_cases hn : ∃ j, n = j :: nm
  ·obtain ⟨j, rfl⟩ := hn
   rw [(lk_nw bs gs 0 h).1, (lk_nw bs gs' 0 h').1]
   simp only [Nat.zero_le, if_true, Nat.sub_zero]
   cases hb : bs[j]? with
   | none => rfl
   | some b =>
    have hj := (List.getElem?_eq_some_iff.1 hb).1
    rw [List.getElem?_eq_getElem (l := gs) (by omega), List.getElem?_eq_getElem (l := gs') (by omega)]; rfl
  ·have hn' : ∀ j, n ≠ j :: nm := fun j e => hn ⟨j, e⟩
   rw [(lk_nw bs gs 0 h).2 n hn', (lk_nw bs gs' 0 h').2 n hn']
 unfold addS
 congr 1 <;> funext n <;> have := key n <;> cases h1 : lk (nw nm 0 bs gs) n <;> cases h2 : lk (nw nm 0 bs gs') n <;> rw [h1, h2] at this <;> simp_all
section
variable {B : Base} {m : Name → Nat} {s : HS} {w w' : World} {nm : Name} {Bs : List Blk} {Gs : List Nat} {c : Ctx}
structure Laid (B : Base) (m : Name → Nat) (s : HS) (w' : World) (nm : Name) (Bs : List Blk) (Gs : List Nat) (c : Ctx) : Prop where
 len : Gs.length = Bs.length
 w : c.w = w'
 closed : ∀ (x : PV) (u : Value), closedB x = true → VR c x u → VR (ctx B (addS s (nw nm 0 Bs Gs)) (addM m (nw nm 0 Bs Gs)) w') x u
theorem Laid.at (L : Laid B m s w' nm Bs Gs c) {i : Nat} {b : Blk} {g : Nat} (hb : Bs[i]? = some b) (hg : Gs[i]? = some g) : lk (nw nm 0 Bs Gs) (i :: nm) = some (g, b) := by
 rw [(lk_nw Bs Gs 0 L.len).1]; simp [hb, hg]
theorem pl0_ok (L : Laid B m s w' nm Bs Gs c) {i : Nat} {x : PV} {v : Value} {gs : List Nat} (h : RV0 c x v gs) (hG : ∀ t, t < gs.length → Gs[i + t]? = gs[t]? ∧ Bs[i + t]? = (owns0 x)[t]?) :
  gs.length = (owns0 x).length ∧ VR (ctx B (addS s (nw nm 0 Bs Gs)) (addM m (nw nm 0 Bs Gs)) w') (pl0 nm s i x) v := by
 rcases h with ⟨hc, hv, rfl⟩ | ⟨sz, E, xs, g, cap, cells, rfl, rfl, rfl, hg, h1, h2, h3, h4, h5⟩
 ·rw [owns0_closed hc, pl0_closed hc]
  exact ⟨rfl, L.closed x v hc hv⟩
 ·refine ⟨rfl, ?_⟩
  obtain ⟨p, q⟩ := hG 0 (by simp)
  have hk := L.at (i := i) (b := ⟨sz, E, xs, true, true⟩) (g := g) (by simpa [owns0] using q) (by simpa using p)
  refine .row _ _ _ _ _ _ ?_ h1 h2 fun b' hb' => ?_
  ·simp [ctx, addS, hk]
  ·simp [ctx, addS, hk] at hb'
   subst hb'
   rw [L.w] at hg
   simp [ctx, addM, hk, hg.bsize, h3]
theorem plL_ok (L : Laid B m s w' nm Bs Gs c) {R : PV → Value → List Nat → Prop} {f : Nat → PV → PV} {ow : PV → List Blk}
  (hR : ∀ i x v gs, R x v gs → (∀ t, t < gs.length → Gs[i + t]? = gs[t]? ∧ Bs[i + t]? = (ow x)[t]?) → gs.length = (ow x).length ∧ VR (ctx B (addS s (nw nm 0 Bs Gs)) (addM m (nw nm 0 Bs Gs)) w') (f i x) v)
  (hl : ∀ x v gs, R x v gs → gs.length = (ow x).length) :
  ∀ (cs : List PV) (vs : List Value) (gs : List Nat) (i : Nat), RVs R cs vs gs → (∀ t, t < gs.length → Gs[i + t]? = gs[t]? ∧ Bs[i + t]? = (cs.flatMap ow)[t]?) →
   gs.length = (cs.flatMap ow).length ∧ vs.length = cs.length ∧ ∀ (j : Nat) (y : PV) (u : Value), (plL f (fun x => (ow x).length) i cs)[j]? = some y → vs[j]? = some u → VR (ctx B (addS s (nw nm 0 Bs Gs)) (addM m (nw nm 0 Bs Gs)) w') y u
 | _, _, _, i, .nil, _ => ⟨rfl, rfl, fun j y u h => by simp [plL] at h⟩
 | _, _, _, i, .cons (x := x) (v := v) (g := g) (l := l) (vs := vs) (gs := gs) h k, hG => by
  have hlen := hl x v g h
  obtain ⟨a1, a2⟩ := hR i x v g h (fun t ht => by
   obtain ⟨p, q⟩ := hG t (by simp; omega)
   refine ⟨by rw [p, List.getElem?_append_left ht], ?_⟩
   rw [q, List.flatMap_cons, List.getElem?_append_left (by omega)])
  obtain ⟨b1, b2, b3⟩ := plL_ok L hR hl l vs gs (i + (ow x).length) k (fun t ht => by
   obtain ⟨p, q⟩ := hG ((ow x).length + t) (by simp; omega)
   refine ⟨by rw [Nat.add_assoc, p, List.getElem?_append_right (by omega)]; congr 1; omega, ?_⟩
   rw [Nat.add_assoc, q, List.flatMap_cons, List.getElem?_append_right (by omega)]; congr 1; omega)
  refine ⟨by simp [List.flatMap_cons, hlen, b1], by simp [b2], fun j y u hy hu => ?_⟩
  simp only [plL] at hy
  cases j with
  | zero => simp at hy hu; subst hy hu; exact a2
  | succ j => exact b3 j y u (by simpa using hy) (by simpa using hu)
theorem rvs_len {R : PV → Value → List Nat → Prop} {ow : PV → List Blk} (hl : ∀ x v gs, R x v gs → gs.length = (ow x).length) : ∀ (cs : List PV) (vs : List Value) (gs : List Nat), RVs R cs vs gs → gs.length = (cs.flatMap ow).length
 | _, _, _, .nil => rfl
 | _, _, _, .cons h k => by simp [List.flatMap_cons, hl _ _ _ h, rvs_len hl _ _ _ k]
theorem rv0_len {x : PV} {v : Value} {gs : List Nat} (h : RV0 c x v gs) : gs.length = (owns0 x).length := by
 rcases h with ⟨hc, _, rfl⟩ | ⟨sz, E, xs, g, cap, cells, rfl, rfl, rfl, _⟩
 ·rw [owns0_closed hc]; rfl
 ·rfl
theorem rv1_len {x : PV} {v : Value} {gs : List Nat} (h : RV1 c x v gs) : gs.length = (owns1 x).length := by
 rcases h with h | ⟨cs, vs, rfl, rfl, h⟩
 ·rcases h with ⟨hc, _, rfl⟩ | ⟨sz, E, xs, g, cap, cells, rfl, rfl, rfl, _⟩
  ·rw [owns1_closed hc]; rfl
  ·rfl
 ·exact rvs_len (R := RV0 c) (ow := owns0) (fun _ _ _ h => rv0_len h) cs vs.toList gs h
theorem rv2_len {x : PV} {v : Value} {gs : List Nat} (h : RV2 c x v gs) : gs.length = (owns2 x).length := by
 rcases h with h | ⟨cs, vs, rfl, rfl, h⟩
 ·have h1 := rv1_len h
  rw [h1]
  rcases h with h | ⟨cs, vs, rfl, rfl, h⟩
  ·rcases h with ⟨hc, _, rfl⟩ | ⟨sz, E, xs, g, cap, cells, rfl, rfl, rfl, _⟩
   ·rw [owns1_closed hc, owns2_closed hc]
   ·rfl
  ·rfl
 ·exact rvs_len (R := RV1 c) (ow := owns1) (fun _ _ _ h => rv1_len h) cs vs.toList gs h
theorem pl1_ok (L : Laid B m s w' nm Bs Gs c) {i : Nat} {x : PV} {v : Value} {gs : List Nat} (h : RV1 c x v gs) (hG : ∀ t, t < gs.length → Gs[i + t]? = gs[t]? ∧ Bs[i + t]? = (owns1 x)[t]?) :
  gs.length = (owns1 x).length ∧ VR (ctx B (addS s (nw nm 0 Bs Gs)) (addM m (nw nm 0 Bs Gs)) w') (pl1 nm s i x) v := by
 refine ⟨rv1_len h, ?_⟩
 rcases h with h | ⟨cs, vs, rfl, rfl, h⟩
 ·have h0 := h
  rcases h with ⟨hc, hv, rfl⟩ | ⟨sz, E, xs, g, cap, cells, rfl, rfl, rfl, _⟩
  ·rw [pl1_closed hc]; exact L.closed x v hc hv
  ·exact (pl0_ok L h0 hG).2
 ·obtain ⟨_, g2, g3⟩ := plL_ok (R := RV0 c) (f := pl0 nm s) (ow := owns0) L (fun i x v gs h hG => pl0_ok L h hG) (fun _ _ _ h => rv0_len h) cs vs.toList gs i h hG
  exact .agg _ _ (by rw [plL_length]; simpa using g2) fun j y u hy hu => g3 j y u hy (by simpa using hu)
theorem pl2_ok (L : Laid B m s w' nm Bs Gs c) {i : Nat} {x : PV} {v : Value} {gs : List Nat} (h : RV2 c x v gs) (hG : ∀ t, t < gs.length → Gs[i + t]? = gs[t]? ∧ Bs[i + t]? = (owns2 x)[t]?) :
  VR (ctx B (addS s (nw nm 0 Bs Gs)) (addM m (nw nm 0 Bs Gs)) w') (pl2 nm s i x) v := by
 rcases h with h | ⟨cs, vs, rfl, rfl, h⟩
 ·have h0 := h
  rcases h with h | ⟨cs, vs, rfl, rfl, h⟩
  ·rcases h with ⟨hc, hv, rfl⟩ | ⟨sz, E, xs, g, cap, cells, rfl, rfl, rfl, _⟩
   ·rw [pl2_closed hc]; exact L.closed x v hc hv
   ·exact (pl1_ok L h0 hG).2
  ·exact (pl1_ok L h0 hG).2
 ·obtain ⟨_, g2, g3⟩ := plL_ok (R := RV1 c) (f := pl1 nm s) (ow := owns1) L (fun i x v gs h hG => pl1_ok L h hG) (fun _ _ _ h => rv1_len h) cs vs.toList gs i h hG
  exact .tup _ _ (by rw [plL_length]; simpa using g2) fun j y u hy hu => g3 j y u hy (by simpa using hu)
theorem rv0_blk {x : PV} {v : Value} {gs : List Nat} (h : RV0 c x v gs) : ∀ (t : Nat) (b : Blk) (g : Nat), (owns0 x)[t]? = some b → gs[t]? = some g → ∃ cells, CellsOf c.w g cells b.E ∧ RowN c b.sz b.xs cells ∧ closedLL b.xs = true := by
 rcases h with ⟨hc, _, rfl⟩ | ⟨sz, E, xs, g, cap, cells, rfl, rfl, rfl, hg, _, _, _, h4, h5⟩
 ·intro t b g hb; rw [owns0_closed hc] at hb; simp at hb
 ·intro t b g' hb hg'
  cases t with
  | zero => simp [owns0] at hb hg'; subst hb hg'; exact ⟨cells, hg, h4, h5⟩
  | succ t => simp [owns0] at hb
theorem rvs_blk {R : PV → Value → List Nat → Prop} {ow : PV → List Blk} {Pr : Blk → Nat → Prop} (hl : ∀ x v gs, R x v gs → gs.length = (ow x).length) (hR : ∀ x v gs, R x v gs → ∀ (t : Nat) (b : Blk) (g : Nat), (ow x)[t]? = some b → gs[t]? = some g → Pr b g) :
  ∀ (cs : List PV) (vs : List Value) (gs : List Nat), RVs R cs vs gs → ∀ (t : Nat) (b : Blk) (g : Nat), (cs.flatMap ow)[t]? = some b → gs[t]? = some g → Pr b g
 | _, _, _, .nil, t, b, g, hb, hg => by simp at hb
 | _, _, _, .cons (x := x) (v := v) (g := g0) (l := l) (vs := vs) (gs := gs) h k, t, b, g, hb, hg => by
  have hlen := hl x v g0 h
  rw [List.flatMap_cons] at hb
  by_cases ht : t < g0.length
  ·rw [List.getElem?_append_left (by omega)] at hb
   rw [List.getElem?_append_left ht] at hg
   exact hR x v g0 h t b g hb hg
  ·rw [List.getElem?_append_right (by omega)] at hb
   rw [List.getElem?_append_right (by omega)] at hg
   rw [hlen] at hg
   exact rvs_blk hl hR l vs gs k _ b g hb hg
theorem rv1_blk {x : PV} {v : Value} {gs : List Nat} (h : RV1 c x v gs) : ∀ (t : Nat) (b : Blk) (g : Nat), (owns1 x)[t]? = some b → gs[t]? = some g → ∃ cells, CellsOf c.w g cells b.E ∧ RowN c b.sz b.xs cells ∧ closedLL b.xs = true := by
 rcases h with h | ⟨cs, vs, rfl, rfl, h⟩
 ·rcases h with ⟨hc, _, rfl⟩ | h
  ·intro t b g hb; rw [owns1_closed hc] at hb; simp at hb
  ·have h0 : RV0 c x v gs := .inr h
   obtain ⟨sz, E, xs, g, cap, cells, rfl, _⟩ := h
   exact rv0_blk h0
 ·exact rvs_blk (R := RV0 c) (ow := owns0) (Pr := fun (b : Blk) (g : Nat) => ∃ cells, CellsOf c.w g cells b.E ∧ RowN c b.sz b.xs cells ∧ closedLL b.xs = true) (fun _ _ _ h => rv0_len h) (fun x v gs h => rv0_blk h) cs vs.toList gs h
theorem rv2_blk {x : PV} {v : Value} {gs : List Nat} (h : RV2 c x v gs) : ∀ (t : Nat) (b : Blk) (g : Nat), (owns2 x)[t]? = some b → gs[t]? = some g → ∃ cells, CellsOf c.w g cells b.E ∧ RowN c b.sz b.xs cells ∧ closedLL b.xs = true := by
 rcases h with h | ⟨cs, vs, rfl, rfl, h⟩
 ·have h0 := h
  rcases h with h | ⟨cs, vs, rfl, rfl, h⟩
  ·rcases h with ⟨hc, _, rfl⟩ | h
   ·intro t b g hb; rw [owns2_closed hc] at hb; simp at hb
   ·obtain ⟨sz, E, xs, g, cap, cells, rfl, _⟩ := h
    exact rv1_blk h0
  ·exact rv1_blk h0
 ·exact rvs_blk (R := RV1 c) (ow := owns1) (Pr := fun (b : Blk) (g : Nat) => ∃ cells, CellsOf c.w g cells b.E ∧ RowN c b.sz b.xs cells ∧ closedLL b.xs = true) (fun _ _ _ h => rv1_len h) (fun x v gs h => rv1_blk h) cs vs.toList gs h
end
def outC (c : Ctx) (w' : World) (gs : List Nat) : Ctx := ⟨fun _ => (0, none), fun _ => 0, fun g o => c.S g o ∨ (c.w.heap.size ≤ g ∧ g < w'.heap.size ∧ g ∉ gs), w', c.F⟩
def PlainOk (P : Program) (G : Glo) (f : FuncId) (g : List PV → Option PV) : Prop :=
 ∀ cargs r, g cargs = some r → ∀ (c : Ctx) (vs : Array Value), closedL cargs = true → vs.size = cargs.length → (∀ (j : Nat) (x : PV) (u : Value), cargs[j]? = some x → vs[j]? = some u → VR c x u) → GOk c G → (∀ g o, c.S g o → g < c.w.heap.size) →
  Calls P f vs c.w fun e w' => ∃ v gs, e = .returned v ∧ Below c.w.heap.size c.w w' ∧ RV2 (outC c w' gs) r v gs ∧ gs.Nodup ∧ ∀ g ∈ gs, c.w.heap.size ≤ g ∧ g < w'.heap.size
def plainD (g : List PV → Option PV) (args : List PV) (nm : Name) (s : HS) : Option (PV × HS) :=
 match mapS (dr 8) s args with
 | some (cargs, s1) => match g cargs with
  | some r => some (pl2 nm s1 0 r, addS s1 (nw nm 0 (owns2 r) (List.replicate (owns2 r).length 0)))
  | none => none
 | none => none
theorem plainD_ok {P : Program} {G : Glo} {f : FuncId} {g : List PV → Option PV} (hg : PlainOk P G f g) {args : List PV} {nm : Name} {s s1 : HS} {r : PV} (h : plainD g args nm s = some (r, s1)) {B : Base} {m : Name → Nat} {w : World} {vs : Array Value} (hr : RelH B m s w) (hG : GOk (ctx B s m w) G)
  (hl : vs.size = args.length) (ha : ∀ (j : Nat) (x : PV) (u : Value), args[j]? = some x → vs[j]? = some u → VR (ctx B s m w) x u) :
  Calls P f vs w fun e w' => ∃ v m', e = .returned v ∧ RelH B m' s1 w' ∧ Evol (ctx B s m w) (ctx B s1 m' w') ∧ VR (ctx B s1 m' w') r v := by
 unfold plainD at h
 split at h
 case h_2 => cases h
 rename_i cargs s2 hdr
 split at h
 case h_2 => cases h
 rename_i r0 hr0
 cases h
 obtain ⟨d, hcl, hcl2, hv⟩ := mapS_ok (dr_ok 8) args s cargs s2 hr hdr
 refine (hg cargs r0 hr0 (ctx B s2 m w) vs hcl (by rw [hl, hcl2]) (fun j x u hx hu => ?_) (hG.evol d.ev) (fun g o h => d.rel.S_lt h)).mono ?_
 ·have hj : j < args.length := by rw [← hcl2]; exact (List.getElem?_eq_some_iff.1 hx).1
  exact hv j _ x (List.getElem?_eq_getElem hj) hx u (ha j _ u (List.getElem?_eq_getElem hj) hu)
 ·rintro e w' ⟨v, gs, rfl, hb, hrv, hnd, hgs⟩
  have hb : Below w.heap.size w w' := hb
  have hlen := rv2_len hrv
  have hlk : ∀ e ∈ nw nm 0 (owns2 r0) gs, ∃ t, (owns2 r0)[t]? = some e.2.2 ∧ gs[t]? = some e.2.1 ∧ e.1 = t :: nm := by
   have key : ∀ (bs : List Blk) (gs : List Nat) (i : Nat) e, e ∈ nw nm i bs gs → ∃ t, bs[t]? = some e.2.2 ∧ gs[t]? = some e.2.1 ∧ e.1 = (i + t) :: nm := by
    intro bs
    induction bs with
    | nil => intro gs i e he; simp [nw] at he
    | cons b bs ih =>
     intro gs i e he
     cases gs with
     | nil => simp [nw] at he
     | cons g gs =>
      simp only [nw, List.mem_cons] at he
      rcases he with rfl | he
      ·exact ⟨0, rfl, rfl, rfl⟩
      ·obtain ⟨t, p, q, r⟩ := ih gs (i + 1) e he
       exact ⟨t + 1, by simpa using p, by simpa using q, by rw [r]; congr 1; omega⟩
   intro e he
   obtain ⟨t, p, q, r⟩ := key _ _ _ e he
   exact ⟨t, p, q, by rw [r, Nat.zero_add]⟩
  have hext := d.rel.extend hb (nw nm 0 (owns2 r0) gs) (fun e he => by
    obtain ⟨t, _, q, _⟩ := hlk e he
    exact (hgs _ (List.mem_of_getElem? q)).1) (fun e he e' he' hee => by
    obtain ⟨t, _, q, rt⟩ := hlk e he
    obtain ⟨t', _, q', rt'⟩ := hlk e' he'
    rw [rt, rt']
    rw [hee] at q
    obtain ⟨a1, a2⟩ := List.getElem?_eq_some_iff.1 q
    have := (List.getElem?_inj a1 hnd).1 (q.trans q'.symm)
    rw [this])
  have hclosed : ∀ (x : PV) (u : Value), closedB x = true → VR (outC (ctx B s2 m w) w' gs) x u → VR (ctx B (addS s2 (nw nm 0 (owns2 r0) gs)) (addM m (nw nm 0 (owns2 r0) gs)) w') x u := by
   intro x u hc hx
   refine VR.closed (c := outC (ctx B s2 m w) w' gs) (c' := ctx B (addS s2 (nw nm 0 (owns2 r0) gs)) (addM m (nw nm 0 (owns2 r0) gs)) w') rfl (fun g o hS => ⟨?_, fun u hu => hu⟩) hx hc
   rcases hS with hS | ⟨h1, h2, h3⟩
   ·exact hext.1.S g o hS
   ·refine .inr ⟨Nat.le_trans d.rel.size h1, h2, fun hO => absurd (d.rel.keep g hO).1 (Nat.not_lt.2 h1), fun n k b hn hm => ?_⟩
    exfalso
    simp only [addS, addM] at hn hm
    cases hk : lk (nw nm 0 (owns2 r0) gs) n with
    | some x =>
     rw [hk] at hm
     obtain ⟨t, _, q, _⟩ := hlk _ (lk_mem hk)
     simp only at hm q
     rw [hm] at q
     exact h3 (List.mem_of_getElem? q)
    | none =>
     rw [hk] at hn hm
     have := d.rel.lt hn
     simp only at hm
     rw [hm] at this
     have h1 : w.heap.size ≤ g := h1
     omega
  have L : Laid B m s2 w' nm (owns2 r0) gs (outC (ctx B s2 m w) w' gs) := ⟨hlen, rfl, hclosed⟩
  have hrel := hext.2 (fun e he => by
   obtain ⟨t, p, q, _⟩ := hlk e he
   obtain ⟨cells, g1, g2, g3⟩ := rv2_blk hrv t _ _ p q
   have g3' := closedLL_iff.1 g3
   exact ⟨cells, g1, g2.1, fun i x hx => ⟨(g2.2 i x hx).1, fun j y hy => by
    obtain ⟨u, u1, u2, u3⟩ := (g2.2 i x hx).2 j y hy
    exact ⟨u, u1, u2, hclosed y u (g3' x (List.mem_of_getElem? hx) y (List.mem_of_getElem? hy)) u3⟩⟩, fun _ => g3⟩)
  have hS : addS s2 (nw nm 0 (owns2 r0) (List.replicate (owns2 r0).length 0)) = addS s2 (nw nm 0 (owns2 r0) gs) := addS_nw (by simp) hlen
  rw [hS]
  exact ⟨v, _, rfl, hrel, d.ev.trans hext.1, pl2_ok L hrv fun t ht => ⟨by rw [Nat.zero_add], by rw [Nat.zero_add]⟩⟩
end Go.Proofs.YtdbekeidlppfiaaGreatDoor.Den
