/- Texts joined by a program of mine (pack.py): DenF. -/
import Derived.Test.YtdbekeidlppfiaaGreatDoorDenE
set_option linter.unusedVariables false
set_option linter.unusedSimpArgs false
namespace Go.Proofs.YtdbekeidlppfiaaGreatDoor.Den
open Go Go.RowKit
theorem putCells (off : Nat) : ∀ (l : List Value) (k : Nat) (cells : Array Value), ((l.zipIdx k).foldl (fun cs p => cs.setIfInBounds (off + p.2) p.1) cells).size = cells.size ∧
  ∀ o, ((l.zipIdx k).foldl (fun cs p => cs.setIfInBounds (off + p.2) p.1) cells)[o]? = if off + k ≤ o ∧ o < off + k + l.length ∧ o < cells.size then l[o - (off + k)]? else cells[o]?
 | [], k, cells => ⟨rfl, fun o => by simp; intro h1 h2; omega⟩
 | v :: l, k, cells => by
  simp only [List.zipIdx_cons, List.foldl_cons]
  obtain ⟨h1, h2⟩ := putCells off l (k + 1) (cells.setIfInBounds (off + k) v)
  refine ⟨by rw [h1]; simp, fun o => ?_⟩
  rw [h2 o]
  simp only [Array.size_setIfInBounds, List.length_cons]
  by_cases c1 : off + (k + 1) ≤ o ∧ o < off + (k + 1) + l.length ∧ o < cells.size
  ·rw [if_pos c1, if_pos (by omega), show o - (off + k) = (o - (off + (k + 1))) + 1 by omega, List.getElem?_cons_succ]
  ·rw [if_neg c1, Array.getElem?_setIfInBounds]
   by_cases c2 : off + k = o
   ·subst c2
    by_cases c3 : off + k < cells.size
    ·rw [if_pos rfl, if_pos c3, if_pos (by omega)]; simp
    ·rw [if_pos rfl, if_neg c3, if_neg (by omega)]; exact (Array.getElem?_eq_none (by omega)).symm
   ·rw [if_neg c2, if_neg (by omega)]
def putIn (off : Nat) (cs cells : List PV) : List PV := cells.take off ++ cs ++ cells.drop (off + cs.length)
def CelN (c : Ctx) (cs : List PV) (vs : Array Value) : Prop := vs.size = cs.length ∧ (∀ (j : Nat) (y : PV) (u : Value), cs[j]? = some y → vs[j]? = some u → VR c y u) ∧ ∀ u ∈ vs.toList, u.oneCell' = true
theorem putIn_ok {c : Ctx} {off : Nat} {cs cells : List PV} {vs : Array Value} {x : Value} (h : CelN c cells vs) (hx : CelN c cs x.cells) (hle : off + cs.length ≤ cells.length) :
  CelN c (putIn off cs cells) (x.cells.zipIdx.foldl (fun cs (c, j) => cs.setIfInBounds (off + j) c) vs) := by
 have e1 : x.cells.zipIdx.foldl (fun cs (c, j) => cs.setIfInBounds (off + j) c) vs = (x.cells.toList.zipIdx 0).foldl (fun cs p => cs.setIfInBounds (off + p.2) p.1) vs := by
  rw [← Array.foldl_toList]; simp [Array.toList_zipIdx]
 rw [e1]
 obtain ⟨p1, p2⟩ := putCells off x.cells.toList 0 vs
 have hxl : x.cells.toList.length = cs.length := by rw [Array.length_toList, hx.1]
 refine ⟨by rw [p1, h.1]; simp [putIn]; omega, fun j y u hj hu => ?_, fun u hu => ?_⟩
 ·rw [p2 j] at hu
  rw [hxl] at hu
  by_cases c1 : off + 0 ≤ j ∧ j < off + 0 + cs.length ∧ j < vs.size
  ·rw [if_pos c1] at hu
   refine hx.2.1 (j - off) y u ?_ (by simpa using hu)
   unfold putIn at hj
   rw [List.append_assoc, List.getElem?_append_right (by rw [List.length_take]; omega), List.length_take, Nat.min_eq_left (by omega), List.getElem?_append_left (by omega)] at hj
   exact hj
  ·rw [if_neg c1] at hu
   refine h.2.1 j y u ?_ hu
   have hjs := (Array.getElem?_eq_some_iff.1 hu).1
   unfold putIn at hj
   by_cases c2 : j < off
   ·rw [List.append_assoc, List.getElem?_append_left (by rw [List.length_take]; omega), List.getElem?_take, if_pos c2] at hj; exact hj
   ·rw [List.append_assoc, List.getElem?_append_right (by rw [List.length_take]; omega), List.length_take, Nat.min_eq_left (by omega), List.getElem?_append_right (by omega), List.getElem?_drop] at hj
    rw [← hj]; congr 1; omega
 ·obtain ⟨j, hj⟩ := List.mem_iff_getElem?.1 hu
  have hj' := hj
  rw [Array.getElem?_toList, p2 j] at hj'
  split at hj'
  ·exact hx.2.2 u (List.mem_of_getElem? hj')
  ·exact h.2.2 u (List.mem_of_getElem? (by rw [Array.getElem?_toList]; exact hj'))
def fillD (pl : Nat → Option (Nat × Nat)) (cells : List PV) : List (Nat × PV) → Option (List PV)
 | [] => some cells
 | (i, x) :: rest => match pl i, x.celled with
  | some (off, size), some cs => if cs.length = size ∧ off + cs.length ≤ cells.length then fillD pl (putIn off cs cells) rest else none
  | _, _ => none
theorem fillD_ok {c : Ctx} {pl : Nat → Option (Nat × Nat)} : ∀ (ps : List (Nat × PV)) (vps : List (Nat × Value)) (cells cells' : List PV) (vs : Array Value), fillD pl cells ps = some cells' → CelN c cells vs → ps.map (·.1) = vps.map (·.1) →
  (∀ (j : Nat) (p : Nat × PV) (q : Nat × Value), ps[j]? = some p → vps[j]? = some q → VR c p.2 q.2) → ∃ vs', Instr.fill pl vs vps = some vs' ∧ CelN c cells' vs'
 | [], vps, cells, cells', vs, h, hc, hl, _ => by
  have : vps = [] := by cases vps <;> simp_all
  subst this
  simp [fillD] at h; subst h
  exact ⟨vs, rfl, hc⟩
 | (i, x) :: rest, vps, cells, cells', vs, h, hc, hl, hv => by
  cases vps with
  | nil => simp at hl
  | cons q vps =>
   obtain ⟨i', v⟩ := q
   simp only [List.map_cons, List.cons.injEq] at hl
   obtain ⟨rfl, hl⟩ := hl
   simp only [fillD] at h
   split at h
   case h_2 => cases h
   rename_i off size cs hp hcs
   split at h
   case isFalse => cases h
   rename_i hle
   have hxv : VR c x v := hv 0 _ _ rfl rfl
   obtain ⟨q1, q2, q3⟩ := celled_ok hxv hcs
   have hput := putIn_ok (off := off) hc (x := v) ⟨q1, q2, q3⟩ hle.2
   obtain ⟨vs', h1, h2⟩ := fillD_ok rest vps _ cells' _ h hput hl (fun j p q hp hq => hv (j + 1) p q (by simpa using hp) (by simpa using hq))
   refine ⟨vs', ?_, h2⟩
   have e1 : (decide (v.cells.size ≠ size) || decide (off + v.cells.size > vs.size)) = false := by simp [q1, hc.1]; omega
   simp only [Instr.fill, hp, e1, Bool.false_eq_true, if_false]
   exact h1
def placesS (P : Program) : List Field → Option (List (Nat × Nat))
 | [] => some []
 | f :: l => match tsz P f.type, placesS P l with
  | some z, some r => some ((f.offset, z) :: r)
  | _, _ => none
theorem placesS_run {P : Program} : ∀ (l : List Field) (r : List (Nat × Nat)) (w : World), placesS P l = some r → (l.mapM (m := Sem) fun f => Prod.mk f.offset <$> sizeOf f.type).run P w = .ok r w
 | [], r, w, h => by simp [placesS] at h; subst h; rfl
 | f :: l, r, w, h => by
  simp only [placesS] at h
  split at h
  case h_2 => cases h
  rename_i z r' hz hr
  cases h
  simp [List.mapM_cons, run_sizeOf hz, placesS_run l r' w hr]
def bldD (P : Program) (t : TypeId) (parts : List (Nat × PV)) : Option PV :=
 match inf P t with
 | some (_, _, z) => match P.underlying t with
  | some (.struct fs) => match placesS P fs.toList with
   | some pl => (fillD (pl[·]?) (z.map .v) parts).map .agg
   | none => none
  | some (.array _ e) => match tsz P e with
   | some sz => (fillD (fun i => some (i * sz, sz)) (z.map .v) parts).map .agg
   | none => none
  | _ => none
 | none => none
theorem zero_celN {c : Ctx} {z : Value} (h : ∀ u ∈ z.cells.toList, u.oneCell' = true) : CelN c (z.cells.toList.map .v) z.cells :=
 ⟨by simp, fun j y u hy hu => by
  rw [List.getElem?_map] at hy
  obtain ⟨x, hx, rfl⟩ := Option.map_eq_some_iff.1 hy
  rw [Array.getElem?_toList] at hx
  rw [hx] at hu; cases hu; exact .v _, h⟩
theorem bldD_ok {P : Program} {c : Ctx} {w : World} {t : TypeId} {ps : List (Nat × PV)} {vps : Array (Nat × Value)} {x : PV} (h : bldD P t ps = some x) (hl : ps.map (·.1) = vps.toList.map (·.1))
  (hv : ∀ (j : Nat) (p : Nat × PV) (q : Nat × Value), ps[j]? = some p → vps[j]? = some q → VR c p.2 q.2) : ∃ v, (Instr.build t vps).run P w = .ok v w ∧ VR c x v := by
 unfold bldD at h
 split at h
 case h_2 => cases h
 rename_i sz0 by0 zl hinf
 obtain ⟨i, z, hi, hz, _, _, _, rfl, hz1⟩ := inf_is hinf
 have hz0 := run_zeroValue hi hz w
 split at h
 ·rename_i fs hu
  split at h
  case h_2 => cases h
  rename_i pl hpl
  obtain ⟨cells', hf, rfl⟩ := Option.map_eq_some_iff.1 h
  obtain ⟨vs', h1, h2⟩ := fillD_ok ps vps.toList _ _ z.cells hf (zero_celN hz1) hl (fun j p q hp hq => hv j p q hp (by simpa using hq))
  refine ⟨.agg vs', ?_, .agg _ _ h2.1 h2.2.1⟩
  have hm : (fs.mapM (m := Sem) fun f => Prod.mk f.offset <$> sizeOf f.type).run P w = .ok pl.toArray w := by
   rw [Array.mapM_eq_mapM_toList]
   simp [placesS_run fs.toList pl w hpl]
  simp [Instr.build, hz0, run_underlying hu, hm, h1]
 ·rename_i n e hu
  split at h
  case h_2 => cases h
  rename_i sz hsz
  obtain ⟨cells', hf, rfl⟩ := Option.map_eq_some_iff.1 h
  obtain ⟨vs', h1, h2⟩ := fillD_ok ps vps.toList _ _ z.cells hf (zero_celN hz1) hl (fun j p q hp hq => hv j p q hp (by simpa using hq))
  refine ⟨.agg vs', ?_, .agg _ _ h2.1 h2.2.1⟩
  simp [Instr.build, hz0, run_underlying hu, run_sizeOf hsz, h1]
 ·cases h
def fillR (sz : Nat) (xs : List (List PV)) : List (Nat × PV) → Option (List (List PV))
 | [] => some xs
 | (i, x) :: rest => match x.celled with
  | some cs => if cs.length = sz ∧ i < xs.length then fillR sz (xs.set i cs) rest else none
  | none => none
def RowN (c : Ctx) (sz : Nat) (xs : List (List PV)) (cells : Array Value) : Prop :=
 xs.length * sz ≤ cells.size ∧ ∀ (i : Nat) (x : List PV), xs[i]? = some x → x.length = sz ∧ ∀ (j : Nat) (y : PV), x[j]? = some y → ∃ u, cells[i * sz + j]? = some u ∧ u.oneCell' = true ∧ VR c y u
theorem RowN.set {c : Ctx} {sz : Nat} {xs : List (List PV)} {cells : Array Value} (h : RowN c sz xs cells) {i : Nat} (hi : i < xs.length) {cs : List PV} (hcs : cs.length = sz) {x : Value} (hx : CelN c cs x.cells) :
  RowN c sz (xs.set i cs) (x.cells.zipIdx.foldl (fun cs (c, j) => cs.setIfInBounds (i * sz + j) c) cells) := by
 have e1 : x.cells.zipIdx.foldl (fun cs (c, j) => cs.setIfInBounds (i * sz + j) c) cells = (x.cells.toList.zipIdx 0).foldl (fun cs p => cs.setIfInBounds (i * sz + p.2) p.1) cells := by
  rw [← Array.foldl_toList]; simp [Array.toList_zipIdx]
 rw [e1]
 obtain ⟨p1, p2⟩ := putCells (i * sz) x.cells.toList 0 cells
 have hxl : x.cells.toList.length = sz := by rw [Array.length_toList, hx.1, hcs]
 have hil : i * sz + sz ≤ xs.length * sz := by rw [← Nat.succ_mul]; exact Nat.mul_le_mul_right _ hi
 refine ⟨by rw [p1, List.length_set]; exact h.1, fun i' x' hi' => ?_⟩
 rw [List.getElem?_set] at hi'
 split at hi'
 ·rename_i e
  subst e
  have : cs = x' := by first | (rw [if_pos hi] at hi'; cases hi'; rfl) | (cases hi'; rfl)
  subst this
  refine ⟨hcs, fun j y hy => ?_⟩
  have hj : j < sz := by rw [← hcs]; exact (List.getElem?_eq_some_iff.1 hy).1
  have hjl : j < x.cells.size := by rw [hx.1, hcs]; exact hj
  have hg : x.cells[j]? = some x.cells[j] := Array.getElem?_eq_getElem hjl
  refine ⟨x.cells[j], ?_, hx.2.2 _ (by simp), hx.2.1 j y _ hy hg⟩
  rw [p2, hxl, if_pos (by have := h.1; omega), Nat.add_zero, Nat.add_sub_cancel_left]; simp [hjl]
 ·rename_i e
  obtain ⟨h1, h2⟩ := h.2 i' x' hi'
  refine ⟨h1, fun j y hy => ?_⟩
  obtain ⟨u, q1, q2, q3⟩ := h2 j y hy
  have hj : j < sz := by rw [← h1]; exact (List.getElem?_eq_some_iff.1 hy).1
  refine ⟨u, ?_, q2, q3⟩
  rw [p2, hxl, if_neg ?_]
  ·exact q1
  ·rcases Nat.lt_or_gt_of_ne e with hlt | hgt
   ·have : i * sz + sz ≤ i' * sz := by rw [← Nat.succ_mul]; exact Nat.mul_le_mul_right _ hlt
    omega
   ·have : i' * sz + sz ≤ i * sz := by rw [← Nat.succ_mul]; exact Nat.mul_le_mul_right _ hgt
    omega
theorem fillR_ok {c : Ctx} {sz : Nat} : ∀ (ps : List (Nat × PV)) (vps : List (Nat × Value)) (xs xs' : List (List PV)) (vs : Array Value), fillR sz xs ps = some xs' → RowN c sz xs vs → ps.map (·.1) = vps.map (·.1) →
  (∀ (j : Nat) (p : Nat × PV) (q : Nat × Value), ps[j]? = some p → vps[j]? = some q → VR c p.2 q.2) → ∃ vs', Instr.fill (fun i => some (i * sz, sz)) vs vps = some vs' ∧ RowN c sz xs' vs' ∧ vs'.size = vs.size ∧ xs'.length = xs.length
 | [], vps, xs, xs', vs, h, hc, hl, _ => by
  have : vps = [] := by cases vps <;> simp_all
  subst this
  simp [fillR] at h; subst h
  exact ⟨vs, rfl, hc, rfl, rfl⟩
 | (i, x) :: rest, vps, xs, xs', vs, h, hc, hl, hv => by
  cases vps with
  | nil => simp at hl
  | cons q vps =>
   obtain ⟨i', v⟩ := q
   simp only [List.map_cons, List.cons.injEq] at hl
   obtain ⟨rfl, hl⟩ := hl
   simp only [fillR] at h
   split at h
   case h_2 => cases h
   rename_i cs hcs
   split at h
   case isFalse => cases h
   rename_i hle
   have hxv : VR c x v := hv 0 _ _ rfl rfl
   have q := celled_ok hxv hcs
   have hput := hc.set hle.2 hle.1 (x := v) q
   obtain ⟨vs', h1, h2, h3, h4⟩ := fillR_ok rest vps _ xs' _ h hput hl (fun j p q hp hq => hv (j + 1) p q (by simpa using hp) (by simpa using hq))
   have hil : i * sz + sz ≤ xs.length * sz := by rw [← Nat.succ_mul]; exact Nat.mul_le_mul_right _ hle.2
   have e1 : (decide (v.cells.size ≠ sz) || decide (i * sz + v.cells.size > vs.size)) = false := by simp [q.1]; have := hc.1; omega
   refine ⟨vs', ?_, h2, ?_, by rw [h4]; simp⟩
   ·simp only [Instr.fill, e1, Bool.false_eq_true, if_false]; exact h1
   ·rw [h3]
    have : v.cells.zipIdx.foldl (fun cs (c, j) => cs.setIfInBounds (i * sz + j) c) vs = (v.cells.toList.zipIdx 0).foldl (fun cs p => cs.setIfInBounds (i * sz + p.2) p.1) vs := by
     rw [← Array.foldl_toList]; simp [Array.toList_zipIdx]
    rw [this]; exact (putCells (i * sz) v.cells.toList 0 vs).1
theorem made_rowN {c : Ctx} {z : Value} {sz : Nat} (hs : z.cells.size = sz) (h0 : 0 < sz) (h1 : ∀ u ∈ z.cells.toList, u.oneCell' = true) (len cap : Nat) (hlc : len ≤ cap) :
  RowN c sz (List.replicate len (z.cells.toList.map .v)) (madeCells z.cells (cap * sz)) := by
 refine ⟨by rw [size_madeCells, List.length_replicate]; exact Nat.mul_le_mul_right _ hlc, fun i x hi => ?_⟩
 rw [List.getElem?_replicate] at hi
 split at hi
 case isFalse => cases hi
 rename_i hil
 cases hi
 refine ⟨by simp [hs], fun j y hy => ?_⟩
 rw [List.getElem?_map] at hy
 obtain ⟨u, hu, rfl⟩ := Option.map_eq_some_iff.1 hy
 have hj : j < sz := by rw [← hs]; have := (List.getElem?_eq_some_iff.1 hu).1; simpa using this
 have hil2 : i * sz + sz ≤ cap * sz := by rw [← Nat.succ_mul]; exact Nat.mul_le_mul_right _ (by omega)
 refine ⟨u, ?_, h1 u (List.mem_of_getElem? hu), .v u⟩
 rw [Array.getElem?_toList] at hu
 have e1 : (i * sz + j) % sz = j := by rw [Nat.mul_comm, Nat.mul_add_mod, Nat.mod_eq_of_lt hj]
 unfold madeCells
 rw [Array.getElem?_map, Array.getElem?_range, if_pos (by omega)]
 simp only [Option.map_some, hs, e1, Option.some.injEq]
 rw [getElem!_pos z.cells j (by omega)]
 exact (Array.getElem?_eq_some_iff.1 hu).2
theorem RowN.nrm {P : Program} {rw : Bool} {t : TypeId} {c : Ctx} {sz : Nat} {xs : List (List PV)} {cells : Array Value} (h : RowN c sz xs cells) : RowN c sz (xs.map (Den.nrm P rw t)) cells := by
 refine ⟨by rw [List.length_map]; exact h.1, fun i x hi => ?_⟩
 rw [List.getElem?_map] at hi
 obtain ⟨z, hz, rfl⟩ := Option.map_eq_some_iff.1 hi
 obtain ⟨h1, h2⟩ := h.2 i z hz
 refine ⟨by rw [nrm_len]; exact h1, fun j y hy => ?_⟩
 obtain ⟨x', g1, g2, _⟩ := nrm_at hy
 obtain ⟨u, q1, q2, q3⟩ := h2 j x' g1
 exact ⟨u, q1, q2, g2 _ _ q3⟩
def bsD (P : Program) (n : Name) (s : HS) (t : TypeId) (len : Nat) (parts : List (Nat × PV)) : Option (PV × HS) :=
 match P.underlying t with
 | some (.slice e) => match inf P e with
  | some (sz + 1, _, z) => if len * (sz + 1) ≤ 16777216 then match fillR (sz + 1) (List.replicate len (z.map .v)) parts with
   | some xs => some (.row n ((s.h n).1 + 1) 0 len, newS s n ⟨sz + 1, e, xs.map (nrm P true e), closedLL (xs.map (nrm P true e)), true⟩)
   | none => none else none
  | _ => none
 | _ => none
theorem bsD_ok {P : Program} {B : Base} {m : Name → Nat} {s s1 : HS} {w : World} {n : Name} (r : RelH B m s w) {t : TypeId} {len : Nat} {ps : List (Nat × PV)} {vps : Array (Nat × Value)} {z : PV} (h : bsD P n s t len ps = some (z, s1))
  (hl : ps.map (·.1) = vps.toList.map (·.1)) (hv : ∀ (j : Nat) (p : Nat × PV) (q : Nat × Value), ps[j]? = some p → vps[j]? = some q → VR (ctx B s m w) p.2 q.2) :
  ∃ q w' m', (Instr.buildSlice t len vps).run P w = .ok q w' ∧ RelH B m' s1 w' ∧ Evol (ctx B s m w) (ctx B s1 m' w') ∧ VR (ctx B s1 m' w') z q := by
 unfold bsD at h
 split at h
 case h_2 => cases h
 rename_i e hu
 split at h
 case h_2 => cases h
 rename_i sz by0 zl hinf
 obtain ⟨i, zv, hi, hz, hsz, _, hzs, rfl, hz1⟩ := inf_is hinf
 simp only [Nat.succ_eq_add_one] at *
 split at h
 case isFalse => cases h
 rename_i hlen
 split at h
 case h_2 => cases h
 rename_i xs hf
 simp only [Option.some.injEq, Prod.mk.injEq] at h
 obtain ⟨rfl, rfl⟩ := h
 obtain ⟨vs', h1, h2, h3, h4⟩ := fillR_ok (c := ctx B s m w) ps vps.toList _ xs _ hf (made_rowN hzs (by omega) hz1 len len (Nat.le_refl _)) hl (fun j p q hp hq => hv j p q hp (by simpa using hq))
 rw [List.length_replicate] at h4
 rw [size_madeCells] at h3
 have hn := r.new (w' := w.alloc (.cells vs' e)) n ⟨sz + 1, e, xs.map (nrm P true e), closedLL (xs.map (nrm P true e)), true⟩ w.heap.size (below_alloc w _) (Nat.le_refl _) vs' (.mk0 (heap_alloc_new w _)) (h2.nrm (P := P)).1 (h2.nrm (P := P)).2 id
 have hsz' : tsz P e = some (sz + 1) := by simp [tsz, hi, hsz]
 refine ⟨.slice (some ⟨w.heap.size, 0, none⟩) len len, w.alloc (.cells vs' e), upd m n w.heap.size, ?_, hn.1, hn.2, VR.newRow n _ _ _ _ vs' e (.mk0 (heap_alloc_new w _)) (Nat.le_refl _) (by have : len ≤ len * (sz + 1) := Nat.le_mul_of_pos_right _ (by omega); omega) h3⟩
 have e1 : ¬ (2 ^ 24 < len * (sz + 1)) := by omega
 by_cases h0 : len = 0
 ·subst h0
  have h1' : Instr.fill (fun i => some (i * (sz + 1), sz + 1)) (madeCells zv.cells 0) vps.toList = some vs' := by simpa using h1
  have e2 : madeCells zv.cells 0 = #[] := by simp [madeCells]
  rw [e2] at h1'
  have e4 : Array.map (fun _ => (default : Value)) (Array.range 0) = #[] := by apply Array.ext'; simp [Array.toList_range]
  simp [Instr.buildSlice, run_underlying hu, run_sizeOf hsz', e4, h1', newRow]
 ·have e3 : ¬ (len * (sz + 1) = 0) := by have : len ≤ len * (sz + 1) := Nat.le_mul_of_pos_right _ (by omega); omega
  have h1' : Instr.fill (fun i => some (i * (sz + 1), sz + 1)) ((Array.range (len * (sz + 1))).map (zv.cells[· % zv.cells.size]!)) vps.toList = some vs' := h1
  simp only [Instr.buildSlice, Sem.run_bind, run_underlying hu, Result.andThen_ok, run_sizeOf hsz']
  rw [if_neg (by omega)]
  simp only [Sem.run_bind, Sem.run_pure, Result.andThen_ok, if_neg e3, run_zeroValue hi hz w, h1', newRow, run_newObj]
  rfl
def mkD (P : Program) (n : Name) (s : HS) (t : TypeId) (l c : PV) : Option (PV × HS) :=
 match P.underlying t, intOfPV l, intOfPV c with
 | some (.slice e), some l, some c => match inf P e with
  | some (sz + 1, by_, z) => if 0 ≤ l ∧ l ≤ c ∧ (by_ : Int) * c ≤ 281474976710656 ∧ c ≤ 9223372036854775807 then some (.row n ((s.h n).1 + 1) 0 l.toNat, newS s n ⟨sz + 1, e, List.replicate l.toNat (nrm P true e (z.map .v)), true, true⟩) else none
  | _ => none
 | _, _, _ => none
theorem mkD_ok {P : Program} {B : Base} {m : Name → Nat} {s s1 : HS} {w : World} {n : Name} (r : RelH B m s w) {t : TypeId} {l c z : PV} {u v : Value} (h : mkD P n s t l c = some (z, s1)) (hl : VR (ctx B s m w) l u) (hc : VR (ctx B s m w) c v) :
  ∃ q w' m', (Instr.makeSlice t u v).run P w = .ok q w' ∧ RelH B m' s1 w' ∧ Evol (ctx B s m w) (ctx B s1 m' w') ∧ VR (ctx B s1 m' w') z q := by
 unfold mkD at h
 split at h
 case h_2 => cases h
 rename_i e l' c' hu hl' hc'
 obtain ⟨kl, rfl⟩ := intOfPV_ok hl' hl
 obtain ⟨kc, rfl⟩ := intOfPV_ok hc' hc
 split at h
 case h_2 => cases h
 rename_i sz by_ zl hinf
 obtain ⟨i, zv, hi, hz, hsz, rfl, hzs, rfl, hz1⟩ := inf_is hinf
 simp only [Nat.succ_eq_add_one] at *
 split at h
 case isFalse => cases h
 rename_i hb
 obtain ⟨b1, b2, b3, b4⟩ := hb
 simp only [Option.some.injEq, Prod.mk.injEq] at h
 obtain ⟨rfl, rfl⟩ := h
 have hrun := run_make (P := P) w t e i zv hu hi hz kl kc l' c' b1 b2 b3 b4
 rw [hsz] at hrun
 have hR := (made_rowN (c := ctx B s m w) hzs (by omega) hz1 l'.toNat c'.toNat (by omega)).nrm (P := P) (rw := true) (t := e)
 rw [List.map_replicate] at hR
 have hn := r.new (w' := w.alloc (.cells (madeCells zv.cells (c'.toNat * (sz + 1))) e)) n ⟨sz + 1, e, List.replicate l'.toNat (nrm P true e (zv.cells.toList.map .v)), true, true⟩ w.heap.size (below_alloc w _) (Nat.le_refl _) _ (.mk0 (heap_alloc_new w _)) hR.1 hR.2 (fun _ => closedLL_iff.2 fun x hx y hy => by
  rw [List.eq_of_mem_replicate hx] at hy
  exact closedL_iff.1 (nrm_closed (closedL_iff.2 fun q hq => by
   obtain ⟨z, _, rfl⟩ := List.mem_map.1 hq
   rfl)) y hy)
 exact ⟨_, _, _, hrun, hn.1, hn.2, VR.newRow n _ _ _ _ _ e (.mk0 (heap_alloc_new w _)) (by omega) (by omega) (size_madeCells _ _)⟩
end Go.Proofs.YtdbekeidlppfiaaGreatDoor.Den
