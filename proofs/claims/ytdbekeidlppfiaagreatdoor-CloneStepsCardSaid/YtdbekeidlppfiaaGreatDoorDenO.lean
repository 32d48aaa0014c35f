/- Texts joined by a program of mine (pack.py): DenO. -/
import Derived.Test.YtdbekeidlppfiaaGreatDoorDenP
set_option linter.unusedVariables false
set_option linter.unusedSimpArgs false
namespace Go.Proofs.YtdbekeidlppfiaaGreatDoor.Den
open Go Go.RowKit
def emptyHS : HS := ⟨fun _ => (0, none), fun _ => 0⟩
def baseC (c : Ctx) : Base := ⟨c.w.heap.size, c.S, c.F, c.w, fun _ => False, c.w, fun _ _ => False, []⟩
def adopt (s : HS) : PV → Option (Name × Blk)
 | .row n k i len => match s.h n with
  | (k', some b) => if k' = k ∧ i = 0 ∧ len = b.xs.length then some (n, b) else none
  | _ => none
 | _ => none
def reify0 (own : Bool) (s : HS) (x : PV) : Option (PV × HS × List Name) :=
 match (if own then adopt s x else none) with
 | some (n, b) => match mapSS (dr 8) s b.xs with
  | some (ys, s') => some (.own b.sz b.E ys, s', [n])
  | none => none
 | none => match dr 8 s x with
  | some (y, s') => some (y, s', [])
  | none => none
def mapR (f : HS → PV → Option (PV × HS × List Name)) : HS → List PV → Option (List PV × HS × List Name)
 | s, [] => some ([], s, [])
 | s, x :: l => match f s x with
  | some (y, s1, o) => match mapR f s1 l with
   | some (l', s2, o') => some (y :: l', s2, o ++ o')
   | none => none
  | none => none
def reify1 (own : Bool) (s : HS) : PV → Option (PV × HS × List Name)
 | .agg cs => match mapR (reify0 own) s cs with
  | some (l, s', o) => some (.agg l, s', o)
  | none => none
 | x => reify0 own s x
def reify2 (own : Bool) (s : HS) : PV → Option (PV × HS × List Name)
 | .tup cs => match mapR (reify1 own) s cs with
  | some (l, s', o) => some (.tup l, s', o)
  | none => none
 | x => reify1 own s x
def nodupB : List Name → Bool
 | [] => true
 | x :: l => !(l.contains x) && nodupB l
theorem nodupB_ok : ∀ {l : List Name}, nodupB l = true → l.Nodup
 | [], _ => List.nodup_nil
 | x :: l, h => by
  simp [nodupB] at h
  exact List.nodup_cons.2 ⟨h.1, nodupB_ok h.2⟩
def reify (own : Bool) (r : PV) (s : HS) : Option PV :=
 match reify2 own s r with
 | some (y, s1, o) => if nodupB o && o.all (fun n => (s1.h n).2.isSome && s1.fz n == 0) then some y else none
 | none => none
theorem RVs.mono {R R' : PV → Value → List Nat → Prop} (h : ∀ x v g, R x v g → R' x v g) {l : List PV} {vs : List Value} {gs : List Nat} (k : RVs R l vs gs) : RVs R' l vs gs := by
 induction k with
 | nil => exact .nil
 | cons a _ ih => exact .cons (h _ _ _ a) ih
structure Keep (c c' : Ctx) (gs : List Nat) : Prop where
 vr : ∀ x u, closedB x = true → VR c x u → VR c' x u
 blk : ∀ g ∈ gs, c'.w.heap[g]? = c.w.heap[g]?
theorem RV0.keep {c c' : Ctx} {x : PV} {v : Value} {gs gs' : List Nat} (k : Keep c c' gs') (hs : ∀ g ∈ gs, g ∈ gs') (h : RV0 c x v gs) : RV0 c' x v gs := by
 rcases h with ⟨hc, hv, rfl⟩ | ⟨sz, E, xs, g, cap, cells, rfl, rfl, rfl, hg, h1, h2, h3, h4, h5⟩
 ·exact .inl ⟨hc, k.vr x v hc hv, rfl⟩
 ·refine .inr ⟨sz, E, xs, g, cap, cells, rfl, rfl, rfl, hg.of_block (k.blk g (hs g (by simp))), h1, h2, h3, ⟨h4.1, fun i x hx => ⟨(h4.2 i x hx).1, fun j y hy => ?_⟩⟩, h5⟩
  obtain ⟨u, p, q, r⟩ := (h4.2 i x hx).2 j y hy
  exact ⟨u, p, q, k.vr y u (closedLL_iff.1 h5 x (List.mem_of_getElem? hx) y (List.mem_of_getElem? hy)) r⟩
theorem RVs.keep {R R' : PV → Value → List Nat → Prop} {gs' : List Nat} (h : ∀ x v g, (∀ a ∈ g, a ∈ gs') → R x v g → R' x v g) {l : List PV} {vs : List Value} {gs : List Nat} (k : RVs R l vs gs) : (∀ g ∈ gs, g ∈ gs') → RVs R' l vs gs := by
 induction k with
 | nil => exact fun _ => .nil
 | cons a _ ih => exact fun hs => .cons (h _ _ _ (fun a ha => hs a (List.mem_append_left _ ha)) a) (ih fun g hg => hs g (List.mem_append_right _ hg))
theorem RV1.keep {c c' : Ctx} {x : PV} {v : Value} {gs gs' : List Nat} (k : Keep c c' gs') (hs : ∀ g ∈ gs, g ∈ gs') (h : RV1 c x v gs) : RV1 c' x v gs := by
 rcases h with h | ⟨cs, vs, rfl, rfl, h⟩
 ·exact .inl (h.keep k hs)
 ·exact .inr ⟨cs, vs, rfl, rfl, h.keep (fun x v g hg h => h.keep k hg) hs⟩
theorem RV2.keep {c c' : Ctx} {x : PV} {v : Value} {gs gs' : List Nat} (k : Keep c c' gs') (hs : ∀ g ∈ gs, g ∈ gs') (h : RV2 c x v gs) : RV2 c' x v gs := by
 rcases h with h | ⟨cs, vs, rfl, rfl, h⟩
 ·exact .inl (h.keep k hs)
 ·exact .inr ⟨cs, vs, rfl, rfl, h.keep (fun x v g hg h => h.keep k hg) hs⟩
section
variable {B : Base} {m : Name → Nat} {w : World}
theorem DrOk.keep {s s1 : HS} (d : DrOk B m s s1 w) (gs : List Nat) : Keep (ctx B s m w) (ctx B s1 m w) gs := ⟨fun _ _ _ h => h.evol d.ev, fun _ _ => rfl⟩
def RfOk (B : Base) (m : Name → Nat) (w : World) (R : Ctx → PV → Value → List Nat → Prop) (f : HS → PV → Option (PV × HS × List Name)) : Prop :=
 ∀ s x y s1 o, RelH B m s w → f s x = some (y, s1, o) → DrOk B m s s1 w ∧ (∀ n ∈ o, (s.h n).2.isSome = true) ∧ ∀ u, VR (ctx B s m w) x u → R (ctx B s1 m w) y u (o.map m)
theorem reify0_ok (own : Bool) : RfOk B m w RV0 (reify0 own) := by
 intro s x y s1 o r h
 unfold reify0 at h
 split at h
 ·rename_i n b ha
  split at h
  case h_2 => cases h
  rename_i ys s' hm
  cases h
  obtain ⟨d, c1, e1, v1⟩ := mapSS_ok (dr_ok 8) _ _ _ _ r hm
  split at ha
  case isFalse => cases ha
  unfold adopt at ha
  split at ha
  case h_2 => cases ha
  rename_i n' k i len
  split at ha
  case h_2 => cases ha
  rename_i k' b' hn
  split at ha
  case isFalse => cases ha
  rename_i hc
  cases ha
  obtain ⟨rfl, rfl, rfl⟩ := hc
  refine ⟨d, fun n' hn' => by simp at hn'; subst hn'; rw [hn]; rfl, fun u hu => ?_⟩
  cases hu with
  | row _ _ _ _ a cap hk hc hm' ha =>
   obtain ⟨rfl, hcap⟩ := ha b hn
   obtain ⟨⟨cells, hg, hcs, hall, _⟩, hge, _⟩ := r.blk n _ b hn
   have hg : CellsOf w (m n) cells b.E := hg
   refine .inr ⟨b.sz, b.E, ys, m n, cap, cells, rfl, by rw [e1]; simp [ctx], rfl, hg, by rw [e1]; exact hc, hm', ?_, ⟨by rw [e1]; exact hcs, fun q y hy => ?_⟩, c1⟩
   ·have : bsize w (m n) = cells.size := hg.bsize
    simp only [ctx] at hcap
    rw [this] at hcap; simpa using hcap.symm
   ·have hq : q < b.xs.length := by rw [← e1]; exact (List.getElem?_eq_some_iff.1 hy).1
    have hx := List.getElem?_eq_getElem hq
    obtain ⟨e2, e3⟩ := v1 q _ y hx hy
    obtain ⟨p1, p2⟩ := hall q _ hx
    refine ⟨by rw [e2, p1], fun j z hz => ?_⟩
    have hj : j < (b.xs[q]).length := by rw [← e2]; exact (List.getElem?_eq_some_iff.1 hz).1
    obtain ⟨u, q1, q2, q3⟩ := p2 j _ (List.getElem?_eq_getElem hj)
    exact ⟨u, q1, q2, e3 j _ z (List.getElem?_eq_getElem hj) hz u q3⟩
 ·split at h
  case h_2 => cases h
  rename_i y' s' hd
  cases h
  obtain ⟨d, c1, _, v1⟩ := dr_ok 8 s x _ _ r hd
  exact ⟨d, fun n hn => by simp at hn, fun u hu => .inl ⟨c1, v1 u hu, rfl⟩⟩
theorem mapR_ok {R : Ctx → PV → Value → List Nat → Prop} {f : HS → PV → Option (PV × HS × List Name)} (hf : RfOk B m w R f) (hk : ∀ (s s1 : HS) x v gs, DrOk B m s s1 w → R (ctx B s m w) x v gs → R (ctx B s1 m w) x v gs) :
  ∀ (l : List PV) (s : HS) (l' : List PV) (s1 : HS) (o : List Name), RelH B m s w → mapR f s l = some (l', s1, o) →
   DrOk B m s s1 w ∧ (∀ n ∈ o, (s.h n).2.isSome = true) ∧ ∀ us : List Value, us.length = l.length → (∀ (j : Nat) (x : PV) (u : Value), l[j]? = some x → us[j]? = some u → VR (ctx B s m w) x u) → RVs (R (ctx B s1 m w)) l' us (o.map m)
 | [], s, l', s1, o, r, h => by
  simp [mapR] at h; obtain ⟨rfl, rfl, rfl⟩ := h
  refine ⟨DrOk.refl r, fun n hn => by simp at hn, fun us hl _ => ?_⟩
  have := List.eq_nil_of_length_eq_zero hl
  subst this; exact .nil
 | x :: l, s, l', s1, o, r, h => by
  simp only [mapR] at h
  split at h
  case h_2 => cases h
  rename_i y s2 o1 h1
  split at h
  case h_2 => cases h
  rename_i l2 s3 o2 h2
  cases h
  obtain ⟨d1, a1, v1⟩ := hf s x y s2 o1 r h1
  obtain ⟨d2, a2, v2⟩ := mapR_ok hf hk l s2 l2 s1 o2 d1.rel h2
  refine ⟨d1.trans d2, fun n hn => ?_, fun us hl hx => ?_⟩
  ·rcases List.mem_append.1 hn with hn | hn
   ·exact a1 n hn
   ·rw [← d1.h]; exact a2 n hn
  ·cases us with
   | nil => simp at hl
   | cons u us =>
    rw [List.map_append]
    exact .cons (hk _ _ _ _ _ d2 (v1 u (hx 0 x u rfl rfl))) (v2 us (by simpa using hl) fun j a b ha hb => (hx (j + 1) a b (by simpa using ha) (by simpa using hb)).evol d1.ev)
theorem reify1_ok (own : Bool) : RfOk B m w RV1 (reify1 own) := by
 intro s x y s1 o r h
 unfold reify1 at h
 split at h
 ·rename_i cs
  split at h
  case h_2 => cases h
  rename_i l s' o' hm
  cases h
  obtain ⟨d, a, v⟩ := mapR_ok (reify0_ok own) (fun s s1 x v gs d h => h.keep (d.keep gs) (fun _ h => h)) _ _ _ _ _ r hm
  refine ⟨d, a, fun u hu => ?_⟩
  cases hu with
  | agg _ vs hl hx => exact .inr ⟨_, vs, rfl, rfl, v vs.toList (by simpa using hl) fun j x u h1 h2 => hx j x u h1 (by simpa using h2)⟩
 ·obtain ⟨d, a, v⟩ := reify0_ok own s _ y s1 o r h
  exact ⟨d, a, fun u hu => .inl (v u hu)⟩
theorem reify2_ok (own : Bool) : RfOk B m w RV2 (reify2 own) := by
 intro s x y s1 o r h
 unfold reify2 at h
 split at h
 ·rename_i cs
  split at h
  case h_2 => cases h
  rename_i l s' o' hm
  cases h
  obtain ⟨d, a, v⟩ := mapR_ok (reify1_ok own) (fun s s1 x v gs d h => h.keep (d.keep gs) (fun _ h => h)) _ _ _ _ _ r hm
  refine ⟨d, a, fun u hu => ?_⟩
  cases hu with
  | tup _ vs hl hx => exact .inr ⟨_, vs, rfl, rfl, v vs.toList (by simpa using hl) fun j x u h1 h2 => hx j x u h1 (by simpa using h2)⟩
 ·obtain ⟨d, a, v⟩ := reify1_ok own s _ y s1 o r h
  exact ⟨d, a, fun u hu => .inl (v u hu)⟩
end
theorem reify_ok {own : Bool} {r y : PV} {s : HS} (h : reify own r s = some y) {c : Ctx} {m : Name → Nat} {w : World} {v : Value} (hS : ∀ g o, c.S g o → g < c.w.heap.size)
  (hr : RelH (baseC c) m s w) (hv : VR (ctx (baseC c) s m w) r v) :
  ∃ gs, RV2 (outC c w gs) y v gs ∧ gs.Nodup ∧ ∀ g ∈ gs, c.w.heap.size ≤ g ∧ g < w.heap.size := by
 unfold reify at h
 split at h
 case h_2 => cases h
 rename_i y' s1 o hy
 split at h
 case isFalse => cases h
 rename_i hc
 cases h
 rw [Bool.and_eq_true] at hc
 have hnd := nodupB_ok hc.1
 have hall := List.all_eq_true.1 hc.2
 obtain ⟨d, _, k⟩ := reify2_ok own s r y s1 o hr hy
 have hlive : ∀ n ∈ o, ∃ kk b, s1.h n = (kk, some b) ∧ s1.fz n = 0 := by
  intro n hn
  have := hall n hn
  simp only [Bool.and_eq_true, beq_iff_eq] at this
  obtain ⟨b, hb⟩ := Option.isSome_iff_exists.1 this.1
  exact ⟨_, b, by rw [← hb], this.2⟩
 refine ⟨o.map m, RV2.keep (c := ctx (baseC c) s1 m w) (gs' := o.map m) ⟨fun x u hc hx => ?_, fun g hg => rfl⟩ (fun _ h => h) (k v hv), ?_, ?_⟩
 ·refine VR.closed (c := ctx (baseC c) s1 m w) (c' := outC c w (o.map m)) rfl (fun g q hS' => ⟨?_, fun u hu => hu⟩) hx hc
  rcases hS' with ⟨_, h2⟩ | ⟨h1, h2, _, h3⟩
  ·exact .inl h2
  ·refine .inr ⟨h1, h2, fun hg => ?_⟩
   obtain ⟨n, hn, rfl⟩ := List.mem_map.1 hg
   obtain ⟨kk, b, e1, e2⟩ := hlive n hn
   have := h3 n kk b e1 rfl
   rw [e2] at this; omega
 ·have key : ∀ l : List Name, l.Nodup → (∀ n ∈ l, n ∈ o) → (l.map m).Nodup := by
   intro l
   induction l with
   | nil => intro _ _; exact List.nodup_nil
   | cons n l ih =>
    intro h1 h2
    rw [List.nodup_cons] at h1
    rw [List.map_cons, List.nodup_cons]
    refine ⟨fun hm => ?_, ih h1.2 fun n hn => h2 n (List.mem_cons_of_mem _ hn)⟩
    obtain ⟨n', hn', he⟩ := List.mem_map.1 hm
    obtain ⟨_, _, a1, _⟩ := hlive n' (h2 n' (List.mem_cons_of_mem _ hn'))
    obtain ⟨_, _, b1, _⟩ := hlive n (h2 n List.mem_cons_self)
    have := d.rel.inj _ _ _ _ _ _ a1 b1 he
    subst this; exact h1.1 hn'
  exact key o hnd fun _ h => h
 ·intro g hg
  obtain ⟨n, hn, rfl⟩ := List.mem_map.1 hg
  obtain ⟨kk, b, e1, _⟩ := hlive n hn
  exact ⟨(d.rel.blk n kk b e1).2.1, d.rel.lt e1⟩
def normT (P : Program) (fl : Bool) (t : TypeId) (x : PV) : PV := match x with
 | .agg cs => match P.cellTypes P.depth t with
  | some ts => .agg (normL P fl ts cs)
  | none => .agg cs
 | x => normC P fl t x
def normA (P : Program) (fl : Bool) : List TypeId → List PV → List PV
 | t :: ts, x :: l => normT P fl t x :: normA P fl ts l
 | _, l => l
def normR (P : Program) (fl : Bool) (ts : List TypeId) (x : PV) : PV := match ts, x with
 | [t], x => normT P fl t x
 | ts, .tup cs => .tup (normA P fl ts cs)
 | _, x => x
theorem normT_ok {P : Program} {fl : Bool} {c : Ctx} {t : TypeId} {x : PV} {u : Value} (h : VR c x u) : VR c (normT P fl t x) u := by
 unfold normT
 split
 ·split
  ·cases h with
   | agg _ vs hl hx =>
    refine .agg _ vs (by rw [normL_len]; exact hl) fun j y u hy hu => ?_
    obtain ⟨z, h1, h2⟩ := normL_at hy
    rcases h2 with rfl | ⟨t, rfl⟩
    ·exact hx j _ u h1 hu
    ·exact normC_ok (hx j _ u h1 hu)
  ·exact h
 ·exact normC_ok h
theorem normT_closed {P : Program} {fl : Bool} {t : TypeId} {x : PV} (h : closedB x = true) : closedB (normT P fl t x) = true := by
 unfold normT
 split
 ·split
  ·simp only [closedB] at h ⊢
   rw [closedL_iff] at h ⊢
   intro y hy
   obtain ⟨j, hj⟩ := List.mem_iff_getElem?.1 hy
   obtain ⟨z, h1, h2⟩ := normL_at hj
   have hz := h z (List.mem_of_getElem? h1)
   rcases h2 with rfl | ⟨t, rfl⟩
   ·exact hz
   ·exact normC_closed hz
  ·exact h
 ·exact normC_closed h
theorem normA_at {P : Program} {fl : Bool} : ∀ {ts : List TypeId} {l : List PV} {j : Nat} {y : PV}, (normA P fl ts l)[j]? = some y → ∃ x, l[j]? = some x ∧ (y = x ∨ ∃ t, y = normT P fl t x)
 | [], l, j, y, h => ⟨y, by simpa [normA] using h, .inl rfl⟩
 | t :: ts, [], j, y, h => by simp [normA] at h
 | t :: ts, x :: l, 0, y, h => by simp [normA] at h; exact ⟨x, rfl, .inr ⟨t, h.symm⟩⟩
 | t :: ts, x :: l, j + 1, y, h => by
  obtain ⟨z, h1, h2⟩ := normA_at (ts := ts) (l := l) (j := j) (by simpa [normA] using h)
  exact ⟨z, by simpa using h1, h2⟩
theorem normA_len {P : Program} {fl : Bool} : ∀ (ts : List TypeId) (l : List PV), (normA P fl ts l).length = l.length
 | [], l => by simp [normA]
 | t :: ts, [] => by simp [normA]
 | t :: ts, x :: l => by simp [normA, normA_len ts l]
theorem normR_ok {P : Program} {fl : Bool} {c : Ctx} {ts : List TypeId} {x : PV} {u : Value} (h : VR c x u) : VR c (normR P fl ts x) u := by
 unfold normR
 split
 ·exact normT_ok h
 ·cases h with
  | tup _ vs hl hx =>
   refine .tup _ vs (by rw [normA_len]; exact hl) fun j y u hy hu => ?_
   obtain ⟨z, h1, h2⟩ := normA_at hy
   rcases h2 with rfl | ⟨t, rfl⟩
   ·exact hx j _ u h1 hu
   ·exact normT_ok (hx j _ u h1 hu)
 ·exact h
def paramsOf (P : Program) (f : FuncId) : List TypeId := match P.funcs[f]? with
 | some fn => fn.params.toList
 | none => []
def resultsOf (P : Program) (f : FuncId) : List TypeId := match P.funcs[f]? with
 | some fn => fn.resultTypes.toList
 | none => []
def isoD (P : Program) (G : Glo) (C : CallD) (pf : FuncId → Bool) (own : Bool) (lf : Nat) (kt : Nat → Option (List Nat)) (f : FuncId) (args : List PV) : Option PV :=
 match bodyP P G (regD P G C pf []) lf kt 0 f (normA P false (paramsOf P f) args) emptyHS with
 | some (r, s) => reify own (normR P false (resultsOf P f) r) s
 | none => none
theorem emptyRel (c : Ctx) : RelH (baseC c) (fun _ => 0) emptyHS c.w :=
 ⟨rfl, Below.refl _ _, fun n k b h => by simp [emptyHS] at h, fun n n' k k' b b' h => by simp [emptyHS] at h, fun g h => h.elim, fun j ρ z β h => by simp [baseC] at h⟩
theorem isoD_ok {P : Program} {G : Glo} {C : CallD} {pf : FuncId → Bool} {own : Bool} {lf : Nat} {kt : Nat → Option (List Nat)} {f : FuncId} (hm : P.follows .mixedOrders = true) (hCO : CallOk P G C) (hC : CLocal pf C) : PlainOk P G f (isoD P G C pf own lf kt f) := by
 intro cargs r h c vs hcl hl ha hg hS
 unfold isoD at h
 split at h
 case h_2 => cases h
 rename_i r0 s0 hb
 have conv : ∀ x u, closedB x = true → VR c x u → VR (ctx (baseC c) emptyHS (fun _ => 0) c.w) x u := fun x u hc hx =>
  VR.closed (c := c) (c' := ctx (baseC c) emptyHS (fun _ => 0) c.w) rfl (fun g o h => ⟨.inl ⟨hS g o h, h⟩, fun _ h => h⟩) hx hc
 have hna : ∀ (j : Nat) (x : PV) (u : Value), (normA P false (paramsOf P f) cargs)[j]? = some x → vs[j]? = some u → closedB x = true ∧ VR c x u := by
  intro j x u hx hu
  obtain ⟨z, h1, h2⟩ := normA_at hx
  have hz := closedL_iff.1 hcl z (List.mem_of_getElem? h1)
  rcases h2 with rfl | ⟨t, rfl⟩
  ·exact ⟨hz, ha j _ u h1 hu⟩
  ·exact ⟨normT_closed hz, normT_ok (ha j _ u h1 hu)⟩
 refine (bodyP_ok (regD_ok hm hCO hC []) hb (Nat.le_refl _) (emptyRel c) ⟨fun g cs hG => conv _ _ (by simp [closedB, hg.closed g cs hG]) (hg.rel g cs hG), hg.closed, hg.inj, hg.far, fun g hG => by obtain ⟨m, p, q⟩ := hg.num g hG; exact ⟨m, .inl ⟨hS g 0 p, p⟩, q⟩, hg.sz⟩ (by rw [normA_len]; exact hl) (fun j x u hx hu => conv x u (hna j x u hx hu).1 (hna j x u hx hu).2)).mono ?_
 rintro e w' ⟨v, m', rfl, h2, _, h4⟩
 obtain ⟨gs, p1, p2, p3⟩ := reify_ok h hS h2 (normR_ok h4)
 exact ⟨v, gs, rfl, h2.below, p1, p2, p3⟩
theorem nw_own {nm n : Name} (bs : List Blk) (gs : List Nat) (hl : gs.length = bs.length) (h : lk (nw nm 0 bs gs) n ≠ none) : ownN nm n = true := by
 by_cases hn : ∃ j, n = j :: nm
 ·obtain ⟨j, rfl⟩ := hn
  simp [ownN, List.isSuffixOf_iff_suffix]
 ·exact absurd ((lk_nw bs gs 0 hl).2 n fun j e => hn ⟨j, e⟩) h
theorem pl2_nm {nm : Name} {s t : HS} (h : ∀ n, ownN nm n = true → (s.h n).1 = (t.h n).1) (i : Nat) (x : PV) : pl2 nm s i x = pl2 nm t i x := by
 have h0 : pl0 nm s = pl0 nm t := by
  funext i x
  cases x <;> try rfl
  simp only [pl0]
  rw [h (i :: nm) (by simp [ownN, List.isSuffixOf_iff_suffix])]
 have h1 : pl1 nm s = pl1 nm t := by
  funext i x
  cases x <;> simp only [pl1, h0]
 cases x <;> simp only [pl2, h1]
theorem plainD_local {g : List PV → Option PV} {args : List PV} {nm : Name} {s s1 : HS} {r : PV} (h : plainD g args nm s = some (r, s1)) : ∃ φ, Local (plainD g args nm) nm .call s r s1.h φ := by
 unfold plainD at h
 split at h
 case h_2 => cases h
 rename_i cargs s2 hdr
 split at h
 case h_2 => cases h
 rename_i r0 hr0
 cases h
 obtain ⟨κ, a, rfl, c⟩ := mapS_loc (dr_loc 8) _ _ _ _ hdr
 have hl : (List.replicate (owns2 r0).length 0).length = (owns2 r0).length := by simp
 have hno : ∀ n, ownN nm n = false → lk (nw nm 0 (owns2 r0) (List.replicate (owns2 r0).length 0)) n = none := by
  intro n hn
  cases hk : lk (nw nm 0 (owns2 r0) (List.replicate (owns2 r0).length 0)) n with
  | none => rfl
  | some x =>
   have := nw_own _ _ hl (n := n) (nm := nm) (by rw [hk]; simp)
   rw [hn] at this; cases this
 refine ⟨fun n x => match lk (nw nm 0 (owns2 r0) (List.replicate (owns2 r0).length 0)) n with | some _ => 0 | none => max x (κ n), ⟨fun n hn => ?_, fun n x hn hd => ?_, fun h => absurd rfl h, fun h => (nomatch h), fun t ht => ?_⟩⟩
 ·simp [addS, hno n hn]
 ·simp [hno n hn, a n hd]
 ·unfold plainD
  rw [c t ht.live]
  simp only [hr0]
  congr 2
  ·exact (pl2_nm (fun n hn => by simp only; rw [ht.own n hn]) 0 r0).symm
  ·unfold addS
   congr 1
   funext n
   simp only
   by_cases hn : ownN nm n = true
   ·rw [if_pos hn, ht.own n hn]
   ·have hn : ownN nm n = false := by simpa using hn
    rw [hno n hn]; simp [hn]
theorem runS_ok {P : Program} {G : Glo} {C : CallD} {pf : FuncId → Bool} {lf : Nat} {kt : Nat → Option (List Nat)} {f : FuncId} {ps rs : List TypeId} {a b : Bool} (hm : P.follows .mixedOrders = true) (hCO : CallOk P G C) (hC : CLocal pf C) : StateOk P G f (runSD P G (regD P G C pf []) (normA P a ps) (normR P b rs) lf kt f) :=
 runSD_ok (regD_ok hm hCO hC []) (fun l => normA_len ps l) (fun c l j y u hy hz => by
  obtain ⟨z, h1, h2⟩ := normA_at hy
  rcases h2 with rfl | ⟨t, rfl⟩
  ·exact hz _ h1
  ·exact normT_ok (hz _ h1)) (fun c x u h => normR_ok h)
theorem plainD_weak {g : List PV → Option PV} {args : List PV} {nm : Name} {s t : HS} {x : PV × HS} (h : plainD g args nm s = some x) (ht : (mapS (dr 8) t args).isSome = true) (hs : Sees nm t s) : (plainD g args nm t).isSome = true := by
 obtain ⟨⟨c, t1⟩, hc⟩ := Option.isSome_iff_exists.1 ht
 obtain ⟨κ, _, _, h3⟩ := mapS_loc (dr_loc 8) args t c t1 hc
 have := h3 s fun n k b hn => hs.live n k b hn
 unfold plainD at h ⊢
 rw [this] at h
 rw [hc]
 simp only at h ⊢
 split at h
 ·rename_i r hg; simp [hg]
 ·cases h
theorem own_under {nm : Name} (l : List Nat) : ownN nm (l ++ nm) = true := by simp [ownN, List.isSuffixOf_iff_suffix]
theorem tgtOf_own {d : List (Name × Nat)} {nm : Name} {s : HS} {j : Nat} : atD nm (d.map (·.1)) (tgtOf d nm s j).1 = true := by
 unfold tgtOf atD
 split
 ·rename_i p hp
  rw [Bool.or_eq_true]
  right
  rw [List.contains_iff_mem]
  exact List.mem_map.2 ⟨p, List.mem_of_getElem? hp, rfl⟩
 ·rw [Bool.or_eq_true]
  left
  exact own_under [j - d.length, (s.h nm).1]
theorem callS_local {g : SFun} {args : List PV} {nm : Name} {s s1 : HS} {r : PV} {l : List (Name × Nat)} (h : callS g args nm s = some (r, s1)) (hl : collF s 60 (nmL args) [] = some l) : LocalE (callS g args nm) nm (l.map (·.1)) s r s1 := by
 have hr : rootsOf s args = l := collF_coll s 60 _ _ _ hl
 unfold callS at h
 rw [hr] at h
 simp only at h
 split at h
 case isFalse => cases h
 rename_i hg
 split at h
 case h_2 => cases h
 rename_i r0 hr0
 unfold backX at h
 simp only at h
 split at h
 case isFalse => cases h
 rename_i hb
 simp only [Option.some.injEq, Prod.mk.injEq] at h
 obtain ⟨rfl, rfl⟩ := h
 have none_of : ∀ n, atD nm (l.map (·.1)) n = false → findJ r0.2.1.length (tgtOf l nm s) n = none ∧ n ≠ nm := fun n hn => by
  refine ⟨?_, fun e => ?_⟩
  ·cases hf : findJ r0.2.1.length (tgtOf l nm s) n with
   | none => rfl
   | some j =>
    have := tgtOf_own (d := l) (nm := nm) (s := s) (j := j)
    rw [(findJ_some hf).2, hn] at this; cases this
  ·subst e
   simp [atD, ownN_self] at hn
 refine ⟨fun n hn => ?_, fun t ht => ?_⟩
 ·obtain ⟨q1, q2⟩ := none_of n hn
  simp only [backS, q1, q2, if_false, and_self]
 ·have hmem : ∀ p ∈ l, atD nm (l.map (·.1)) p.1 = true := fun p hp => by
   simp only [atD, Bool.or_eq_true, List.contains_iff_mem]
   exact .inr (List.mem_map.2 ⟨p, hp, rfl⟩)
  have hrt : rootsOf t args = l := collF_coll t 60 _ _ _ (collF_congr s t 60 _ _ l hl fun p hp => (ht p.1 (hmem p hp)).1)
  have hlive : l.all (liveB t) = l.all (liveB s) := by
   apply Bool.eq_iff_iff.2
   simp only [List.all_eq_true]
   exact ⟨fun h p hp => by rw [← (live_congr (ht p.1 (hmem p hp)).1).1]; exact h p hp, fun h p hp => by rw [(live_congr (ht p.1 (hmem p hp)).1).1]; exact h p hp⟩
  have hobs : obs t l = obs s l := List.map_congr_left fun p hp => by
   rw [(live_congr (ht p.1 (hmem p hp)).1).1, (live_congr (ht p.1 (hmem p hp)).1).2]
  have hfz : fzs t l = fzs s l := List.map_congr_left fun p hp => (ht p.1 (hmem p hp)).2
  have hnm := (ht nm (by simp [atD, ownN_self])).1
  have htg : tgtOf l nm t = tgtOf l nm s := by
   funext j
   unfold tgtOf
   split
   ·rfl
   ·rw [hnm]
    have := (ht ((j - l.length) :: (s.h nm).1 :: nm) (by
     unfold atD
     rw [Bool.or_eq_true]
     exact .inl (own_under [j - l.length, (s.h nm).1]))).1
    rw [this]
  unfold callS
  rw [hrt]
  simp only
  rw [hlive, hobs, hfz, if_pos hg, hr0]
  simp only
  unfold backX
  simp only
  rw [htg, if_pos hb]
  simp only [Option.some.injEq, Prod.mk.injEq, true_and]
  unfold backS mixH
  simp only
  congr 1
  ·funext n
   cases ha : atD nm (l.map (·.1)) n with
   | true =>
    simp only [if_true, hnm]
    split
    ·rfl
    ·split
     ·rfl
     ·exact (ht n ha).1
   | false =>
    obtain ⟨q1, q2⟩ := none_of n ha
    simp [q1, q2]
  ·funext n
   cases ha : atD nm (l.map (·.1)) n with
   | true =>
    simp only [if_true]
    split
    ·rfl
    ·exact (ht n ha).2
   | false =>
    obtain ⟨q1, q2⟩ := none_of n ha
    simp [q1]
abbrev Kind := FuncId → Option Bool
def callD (P : Program) (G : Glo) (X : FuncId → Option (List PV → Option PV)) (Y : FuncId → Option SFun) (K : Kind) (lf : Nat) (KT : FuncId → Nat → Option (List Nat)) : Nat → CallD
 | 0, _, _, _, _ => none
 | k + 1, f, args, nm, s => if enters P f then
   match X f with
   | some g => plainD g args nm s
   | none => match K f with
    | some own => plainD (isoD P G (callD P G X Y K lf KT k) (fun f => (X f).isSome || (K f).isSome) own lf (KT f) f) args nm s
    | none => callS (match Y f with | some g => g | none => runSD P G (regD P G (callD P G X Y K lf KT k) (fun f => (X f).isSome || (K f).isSome) []) (normA P false (paramsOf P f)) (normR P true (resultsOf P f)) lf (KT f) f) args nm s
  else none
theorem callD_ok {P : Program} {G : Glo} {X : FuncId → Option (List PV → Option PV)} {Y : FuncId → Option SFun} {K : Kind} {lf : Nat} {KT : FuncId → Nat → Option (List Nat)} (hm : P.follows .mixedOrders = true) (hX : ∀ f g, X f = some g → PlainOk P G f g) (hY : ∀ f g, Y f = some g → StateOk P G f g) :
  ∀ k, CallOk P G (callD P G X Y K lf KT k) ∧ CLocal (fun f => (X f).isSome || (K f).isSome) (callD P G X Y K lf KT k)
 | 0 => ⟨fun f args pth s r s1 h => by simp [callD] at h, ⟨fun f _ args nm s r s1 h => by simp [callD] at h, fun f _ args nm s t x h => by simp [callD] at h, fun f _ args nm s r s1 l h => by simp [callD] at h⟩⟩
 | k + 1 => by
  obtain ⟨h1, h2⟩ := callD_ok (K := K) (lf := lf) (KT := KT) hm hX hY k
  refine ⟨fun f args pth s r s1 h => ?_, ⟨fun f hf args nm s r s1 h => ?_, fun f hf args nm s t x h hm hs => ?_, fun f hf args nm s r s1 l h hl => ?_⟩⟩
  ·simp only [callD] at h
   split at h
   case isFalse => cases h
   rename_i he
   refine ⟨he, fun B m w vs hr hg hl ha => ?_⟩
   split at h
   ·rename_i g hg'
    exact plainD_ok (hX f g hg') h hr hg hl ha
   ·split at h
    ·exact plainD_ok (isoD_ok hm h1 h2) h hr hg hl ha
    ·refine callS_ok (g := match Y f with | some g => g | none => _) ?_ h hr hg hl ha
     split
     ·rename_i g hg'
      exact hY f g hg'
     ·exact runS_ok hm h1 h2
  ·have e : ∀ t, callD P G X Y K lf KT (k + 1) f args nm t = if enters P f then
     (match X f with
     | some g => plainD g args nm t
     | none => match K f with
      | some own => plainD (isoD P G (callD P G X Y K lf KT k) (fun f => (X f).isSome || (K f).isSome) own lf (KT f) f) args nm t
      | none => callS (match Y f with | some g => g | none => runSD P G (regD P G (callD P G X Y K lf KT k) (fun f => (X f).isSome || (K f).isSome) []) (normA P false (paramsOf P f)) (normR P true (resultsOf P f)) lf (KT f) f) args nm t) else none := fun _ => rfl
   rw [e] at h
   have e' : callD P G X Y K lf KT (k + 1) f args nm = fun t => if enters P f then
     (match X f with
     | some g => plainD g args nm t
     | none => match K f with
      | some own => plainD (isoD P G (callD P G X Y K lf KT k) (fun f => (X f).isSome || (K f).isSome) own lf (KT f) f) args nm t
      | none => callS (match Y f with | some g => g | none => runSD P G (regD P G (callD P G X Y K lf KT k) (fun f => (X f).isSome || (K f).isSome) []) (normA P false (paramsOf P f)) (normR P true (resultsOf P f)) lf (KT f) f) args nm t) else none := funext e
   rw [e']
   split at h
   case isFalse => cases h
   rename_i he
   simp only [he, if_true]
   split at h
   ·exact plainD_local h
   ·split at h
    ·exact plainD_local h
    ·rename_i hx _ hk
     simp [hx, hk] at hf
  ·simp only [callD] at h ⊢
   split at h
   case isFalse => cases h
   rename_i he
   rw [if_pos he]
   split at h
   ·exact plainD_weak h hm hs
   ·split at h
    ·exact plainD_weak h hm hs
    ·rename_i hx _ hk
     simp [hx, hk] at hf
  ·simp only [Bool.or_eq_false_iff, Option.isSome_eq_false_iff, Option.isNone_iff_eq_none] at hf
   have e : callD P G X Y K lf KT (k + 1) f args nm = callS (match Y f with | some g => g | none => runSD P G (regD P G (callD P G X Y K lf KT k) (fun f => (X f).isSome || (K f).isSome) []) (normA P false (paramsOf P f)) (normR P true (resultsOf P f)) lf (KT f) f) args nm := by
    funext t
    simp only [callD, hf.1, hf.2]
    have he : enters P f = true := by
     simp only [callD] at h
     split at h
     ·assumption
     ·cases h
    rw [if_pos he]
   rw [e] at h ⊢
   exact callS_local h hl
end Go.Proofs.YtdbekeidlppfiaaGreatDoor.Den
