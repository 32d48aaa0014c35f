/- Texts joined by a program of mine (pack.py): DenMp. -/
import Derived.Test.YtdbekeidlppfiaaGreatDoorDenJ
import Derived.MapKept
set_option linter.unusedVariables false
set_option linter.unusedSimpArgs false
namespace Go.Proofs.YtdbekeidlppfiaaGreatDoor.Den
open Go Go.RowKit
theorem RelH.mapped {B : Base} {m : Name → Nat} {s : HS} {w : World} (r : RelH B m s w) {g : Nat} {es : Array MapEntry} {ck : Nat} (es' : Array MapEntry) (ck' : Nat) (hg : w.heap[g]? = some (.map es ck)) (hb : B.base ≤ g) (hO : ¬ B.O g) :
  Evol (ctx B s m w) (ctx B s m { w with heap := w.heap.setIfInBounds g (.map es' ck') }) ∧ RelH B m s { w with heap := w.heap.setIfInBounds g (.map es' ck') } := by
 obtain ⟨h1, hk⟩ := MapKept.heap_set (o' := .map es' ck') hg
 have hnm : ∀ n k b, s.h n = (k, some b) → m n ≠ g := fun n k b hn e => by
  obtain ⟨⟨cells, hc, _⟩, _⟩ := r.blk n k b hn
  have hc : CellsOf w (m n) cells b.E := hc
  obtain ⟨f, hc, _⟩ := hc
  rw [e, hg] at hc
  cases hc
 have hsz : (w.heap.setIfInBounds g (.map es' ck')).size = w.heap.size := by simp
 have ev : Evol (ctx B s m w) (ctx B s m { w with heap := w.heap.setIfInBounds g (.map es' ck') }) := {
  F := rfl
  ver := fun _ => Nat.le_refl _
  live := fun n b' h => ⟨b', h, rfl, rfl, bsize_of_block (hk _ (hnm n _ b' h))⟩
  S := fun g' o h => by
   rcases h with h | ⟨h1, h2, h3⟩
   ·exact .inl h
   ·exact .inr ⟨h1, by show g' < (w.heap.setIfInBounds g _).size; rw [hsz]; exact h2, h3⟩
  cell := fun g' o u _ hc => by
   by_cases e : g' = g
   ·subst e
    have hc : w.cell? ⟨g', o, none⟩ = some u := hc
    unfold World.cell? at hc
    simp [hg] at hc
   ·have : (({ w with heap := w.heap.setIfInBounds g (.map es' ck') } : World).cell? ⟨g', o, none⟩) = w.cell? ⟨g', o, none⟩ := cell_of_block (hk g' e)
    exact this.trans hc
  kind := fun g' cs t hc => by
   have e : g' ≠ g := fun e => by
    subst e
    have hc : w.heap[g']? = some (.cells cs t (0, 0)) := hc
    rw [hg] at hc; cases hc
   exact ⟨cs, (hk g' e).trans hc, rfl⟩ }
 refine ⟨ev, ?_⟩
 exact {
  base := r.base
  below := ⟨r.below.os, r.below.tape, r.below.output, by show _ ≤ (w.heap.setIfInBounds g _).size; rw [hsz]; exact r.below.size, fun k hk' => (hk k (by omega)).trans (r.below.block k hk')⟩
  blk := fun n k b hn => by
   obtain ⟨g1, g2, g3, g4⟩ := r.blk n k b hn
   exact ⟨g1.evol ev (hk _ (hnm n k b hn)), g2, g3, g4⟩
  inj := r.inj
  keep := fun g' hg' => by
   obtain ⟨k1, k2⟩ := r.keep g' hg'
   exact ⟨by show g' < (w.heap.setIfInBounds g _).size; rw [hsz]; exact k1, (hk g' (fun e => hO (e ▸ hg'))).trans k2⟩
  root := r.root_evol ev }
structure MS where
 als : List Tmp
 ty : TypeId
 es : List (Int × PV)
def mget : List (Int × PV) → Int → Option PV
 | [], _ => none
 | (k, x) :: l, n => if k = n then some x else mget l n
def qOp (P : Program) (s : HS) (e : Operand → PV) (o : Oper) : Option PV :=
 match o.op with
 | .move x => some (e x)
 | .assign x => some (e x)
 | .load t a => ldD P s t (e a)
 | .fieldAddr t x f => fldA P t f (e x)
 | .makeFunc (.func f) fs cs => if fs.isEmpty then some (.clo f (cs.toList.map e)) else if cs.isEmpty then some (.mth f (fs.toList.map e)) else none
 | _ => none
theorem qOp_ok {P : Program} {B : Base} {m : Name → Nat} {s : HS} {w : World} (R : RelH B m s w) {e : Operand → PV} {a : Act} {o : Oper} {r : PV} (hE : ∀ x, VR (ctx B s m w) (e x) (a.eval x)) (h : qOp P s e o = some r) :
  ∃ v, (execOp a.eval o).run P w = .ok (.value v) w ∧ VR (ctx B s m w) r v := by
 obtain ⟨dst, op, ty, pos, after, guard⟩ := o
 unfold qOp at h
 simp only at h
 split at h
 ·cases h; exact ⟨_, rfl, hE _⟩
 ·cases h; exact ⟨_, rfl, hE _⟩
 ·rename_i t x
  obtain ⟨v, h1, h2⟩ := ldD_ok R h (hE x)
  exact ⟨v, by simp [execOp, h1], h2⟩
 ·rename_i t x f
  obtain ⟨v, h1, h2⟩ := fldA_ok (w := w) h (hE x)
  exact ⟨v, by simp [execOp, h1], h2⟩
 ·rename_i f fs cs
  split at h
  ·rename_i hf
   cases h
   have hf' : fs = #[] := by simpa [Array.isEmpty] using hf
   subst hf'
   exact ⟨.func (.func f) #[] (cs.map a.eval), by simp [execOp, Instr.makeFunc], .clo _ _ _ (by simp) fun j y u hy hu => map_get hE cs j y u hy hu⟩
  ·split at h
   ·rename_i hf
    cases h
    have hf' : cs = #[] := by simpa [Array.isEmpty] using hf
    subst hf'
    exact ⟨.func (.func f) (fs.map a.eval) #[], by simp [execOp, Instr.makeFunc], .mth _ _ _ (by simp) fun j y u hy hu => map_get hE fs j y u hy hu⟩
   ·cases h
 ·cases h
def mStart (P : Program) (nt : Nat) (ops : Array Oper) (i : Nat) (σ : St) : Option (St × MS) :=
 match ops[i]? with
 | some o => if o.guard.isSome then none else match o.op, o.dst with
  | .makeMap t none, some d => (σ.set nt (some d) .unk σ.hs).map fun σ' => (σ', ⟨[d], t, []⟩)
  | _, _ => none
 | none => none
def mStep (P : Program) (G : Glo) (nt : Nat) (ops : Array Oper) (i : Nat) (σ : St) (ms : MS) : Option (St × Option MS) :=
 match ops[i]? with
 | some o => if o.guard.isSome then none else match o.op, o.dst with
  | .insert t (.tmp d) k x, none => match P.underlying t, ev G σ.env k with
   | some (.map kt _), .v (.int .i64 n) => match P.underlying kt with
    | some (.int .i64) => if t = ms.ty ∧ ms.als.contains d = true ∧ (mget ms.es n).isNone = true then some (σ, some { ms with es := ms.es ++ [(n, ev G σ.env x)] }) else none
    | _ => none
   | _, _ => none
  | .lookup t (.tmp d) k true, some d' => match P.underlying t, ev G σ.env k with
   | some (.map kt et), .v (.int .i64 n) => match P.underlying kt with
    | some (.int .i64) => if t = ms.ty ∧ ms.als.contains d = true then
      match mget ms.es n with
      | some x => (σ.set nt (some d') (.tup [x, .v (.bool true)]) σ.hs).map fun σ' => (σ', none)
      | none => match P.info? et with
       | some j => match j.zero with
        | some z => (σ.set nt (some d') (.tup [PV.ofV z, .v (.bool false)]) σ.hs).map fun σ' => (σ', none)
        | none => none
       | none => none
     else none
    | _ => none
   | _, _ => none
  | .move (.tmp d), some d' => if ms.als.contains d then (σ.set nt (some d') .unk σ.hs).map fun σ' => (σ', some { ms with als := d' :: ms.als })
    else if ms.als.contains d' then none else (σ.set nt (some d') (σ.env d) σ.hs).map fun σ' => (σ', some ms)
  | _, some d' => if ms.als.contains d' then none else match qOp P σ.hs (ev G σ.env) o with
   | some r => (σ.set nt (some d') r σ.hs).map fun σ' => (σ', some ms)
   | none => none
  | _, none => none
 | none => none
structure MInv (B : Base) (m : Name → Nat) (σ : St) (a : Act) (w : World) (ms : MS) (g : Nat) (ea : Array MapEntry) (ck : Nat) : Prop where
 als : ∀ t, ms.als.contains t = true → a.tmps.getD t undef = .map (some g)
 hg : w.heap[g]? = some (.map ea ck)
 base : B.base ≤ g
 hO : ¬ B.O g
 len : ea.size = ms.es.length
 es : ∀ (j : Nat) (p : Int × PV) (e : MapEntry), ms.es[j]? = some p → ea[j]? = some e → e.key = .int .i64 p.1 ∧ VR (ctx B σ.hs m w) p.2 e.val
theorem find_none {n : Int} : ∀ (es : List (Int × PV)) (l : List MapEntry) (i : Nat), l.length = es.length → (∀ (j : Nat) (p : Int × PV) (e : MapEntry), es[j]? = some p → l[j]? = some e → e.key = .int .i64 p.1) → mget es n = none → Instr.findNow (.int .i64) (.int .i64 n) l i = some none
 | [], [], i, hl, h, hm => rfl
 | [], e :: l, i, hl, h, hm => by simp at hl
 | p :: es, [], i, hl, h, hm => by simp at hl
 | (k, x) :: es, e :: l, i, hl, h, hm => by
  have h0 := h 0 _ _ rfl rfl
  simp only [mget] at hm
  split at hm
  ·cases hm
  ·rename_i hk
   have : (n == k) = false := by simpa using fun e => hk e.symm
   simp only [Instr.findNow, h0, Instr.sameNow, if_true, this]
   exact find_none es l (i + 1) (by simpa using hl) (fun j p e h1 h2 => h (j + 1) p e (by simpa using h1) (by simpa using h2)) hm
theorem find_some {n : Int} {x : PV} : ∀ (es : List (Int × PV)) (l : List MapEntry) (i : Nat), l.length = es.length → (∀ (j : Nat) (p : Int × PV) (e : MapEntry), es[j]? = some p → l[j]? = some e → e.key = .int .i64 p.1) → mget es n = some x →
  ∃ (j : Nat) (p : Int × PV) (e : MapEntry), Instr.findNow (.int .i64) (.int .i64 n) l i = some (some (i + j, e.val)) ∧ es[j]? = some p ∧ l[j]? = some e ∧ p.2 = x
 | [], l, i, hl, h, hm => by simp [mget] at hm
 | p :: es, [], i, hl, h, hm => by simp at hl
 | (k, y) :: es, e :: l, i, hl, h, hm => by
  have h0 := h 0 _ _ rfl rfl
  simp only [mget] at hm
  split at hm
  ·rename_i hk
   cases hm
   subst hk
   exact ⟨0, (k, x), e, by simp only [Instr.findNow, h0, Instr.sameNow, if_true, beq_self_eq_true]; rfl, rfl, rfl, rfl⟩
  ·rename_i hk
   have : (n == k) = false := by simpa using fun e => hk e.symm
   obtain ⟨j, p, e', h1, h2, h3, h4⟩ := find_some es l (i + 1) (by simpa using hl) (fun j p e h1 h2 => h (j + 1) p e (by simpa using h1) (by simpa using h2)) hm
   refine ⟨j + 1, p, e', ?_, by simpa using h2, by simpa using h3, h4⟩
   simp only [Instr.findNow, h0, Instr.sameNow, if_true, this]
   rw [h1, show i + 1 + j = i + (j + 1) by omega]
theorem put_ne {a : Act} {d t : Tmp} {v : Value} (h : t ≠ d) : (a.put (some d) v).tmps.getD t undef = a.tmps.getD t undef := by
 simp only [Act.put, Array.getD_eq_getD_getElem?]
 rw [Array.getElem?_setIfInBounds, if_neg (fun e => h e.symm)]
theorem put_eq {a : Act} {d : Tmp} {v : Value} (h : d < a.tmps.size) : (a.put (some d) v).tmps.getD d undef = v := by
 simp only [Act.put, Array.getD_eq_getD_getElem?]
 rw [Array.getElem?_setIfInBounds, if_pos rfl, if_pos h]; rfl
theorem set_lt {σ σ' : St} {nt : Nat} {d : Tmp} {x : PV} {hs : HS} (h : σ.set nt (some d) x hs = some σ') : d < nt := by
 unfold St.set at h
 simp only at h
 split at h
 ·assumption
 ·cases h
theorem set_hs {σ σ' : St} {nt : Nat} {d : Option Tmp} {x : PV} {hs : HS} (h : σ.set nt d x hs = some σ') : σ'.hs = hs := by
 unfold St.set at h
 split at h
 ·cases h; rfl
 ·split at h
  ·cases h; rfl
  ·cases h
theorem contains_cons {d d' : Tmp} {l : List Tmp} (h : (d' :: l).contains d = true) : d = d' ∨ l.contains d = true := by
 simp only [List.contains_cons, Bool.or_eq_true, beq_iff_eq] at h
 exact h
section
variable {P : Program} {G : Glo} {nt : Nat} {ops : Array Oper} {i : Nat} {σ σ' : St} {B : Base} {m : Name → Nat} {a : Act} {w : World} {Q : Exit → Act → World → Prop} {K : Act → World → Prop}
theorem wpOp_value {o : Oper} {v : Value} {w' : World} (ho : ops[i]? = some o) (hg : o.guard.isSome = false) (hr : (execOp a.eval o).run P w = .ok (.value v) w') (hK : K (a.put o.dst v) w') : wpOp P ops Q i K a w := by
 unfold wpOp
 rw [ho]
 simp only
 have hgn : o.guard = none := by cases h : o.guard with | none => rfl | some x => rw [h] at hg; cases hg
 have : Region.wanted o (yielded ops a.tmps) = true := by unfold Region.wanted; rw [hgn]
 rw [this]
 simp only [if_true]
 left
 unfold Oper.wp
 rw [hr]
 exact hK
theorem wpOp_skip {o : Oper} {w' : World} (ho : ops[i]? = some o) (hg : o.guard.isSome = false) (hr : (execOp a.eval o).run P w = .ok .skip w') (hK : K (a.put o.dst undef) w') : wpOp P ops Q i K a w := by
 unfold wpOp
 rw [ho]
 simp only
 have hgn : o.guard = none := by cases h : o.guard with | none => rfl | some x => rw [h] at hg; cases hg
 have : Region.wanted o (yielded ops a.tmps) = true := by unfold Region.wanted; rw [hgn]
 rw [this]
 simp only [if_true]
 left
 unfold Oper.wp
 rw [hr]
 exact hK
theorem mStart_ok {ms : MS} (r : Rel B G nt m σ a w) (h : mStart P nt ops i σ = some (σ', ms))
  (hK : ∀ a' w' m' g ea ck, Rel B G nt m' σ' a' w' → Evol (ctx B σ.hs m w) (ctx B σ'.hs m' w') → MInv B m' σ' a' w' ms g ea ck → K a' w') : wpOp P ops Q i K a w := by
 unfold mStart at h
 split at h
 case h_2 => cases h
 rename_i o ho
 split at h
 ·cases h
 rename_i hg
 have hg : o.guard.isSome = false := by simpa using hg
 split at h
 case h_2 => cases h
 rename_i t d hop hd
 obtain ⟨σ1, hs, he⟩ := Option.map_eq_some_iff.1 h
 cases he
 have hrun : (execOp a.eval o).run P w = .ok (.value (.map (some w.heap.size))) (w.alloc (.map #[] 0)) := by
  simp [execOp, hop, Instr.makeMap, newObj]; rfl
 refine wpOp_value ho hg hrun ?_
 obtain ⟨ev, R'⟩ := r.heap.grown ((Below.refl _ w).alloc (Nat.le_refl _) (.map #[] 0))
 obtain ⟨g1, g2⟩ := r.set (v := .map (some w.heap.size)) hs R' ev (.unk _)
 rw [hd]
 refine hK _ _ m w.heap.size #[] 0 g1 (by rw [g2]; exact ev) ⟨fun t ht => ?_, (MapKept.heap_alloc w _).1, r.heap.size, fun h => Nat.lt_irrefl _ (r.heap.keep _ h).1, rfl, fun j p e hp => by simp at hp⟩
 simp only [List.contains_cons, List.contains_nil, Bool.or_false, beq_iff_eq] at ht
 subst ht
 exact put_eq (by rw [r.size]; exact set_lt hs)
theorem MInv.put {ms : MS} {g : Nat} {ea : Array MapEntry} {ck : Nat} (I : MInv B m σ a w ms g ea ck) {d : Tmp} {v : Value} {x : PV} (h : σ.set nt (some d) x σ.hs = some σ') (hd : ms.als.contains d = false) : MInv B m σ' (a.put (some d) v) w ms g ea ck where
 als t ht := by
  rw [put_ne (fun e => by subst e; rw [hd] at ht; cases ht)]
  exact I.als t ht
 hg := I.hg
 base := I.base
 hO := I.hO
 len := I.len
 es j p e h1 h2 := by rw [set_hs h]; exact I.es j p e h1 h2
theorem v_eval {c : Ctx} {x : Value} {u : Value} (h : VR c (.v x) u) : u = x := by cases h; rfl
theorem mStep_ok {ms : MS} {mo : Option MS} {g : Nat} {ea : Array MapEntry} {ck : Nat} (r : Rel B G nt m σ a w) (I : MInv B m σ a w ms g ea ck) (h : mStep P G nt ops i σ ms = some (σ', mo))
  (hK : ∀ a' w' m', Rel B G nt m' σ' a' w' → Evol (ctx B σ.hs m w) (ctx B σ'.hs m' w') → (∀ ms', mo = some ms' → ∃ g ea ck, MInv B m' σ' a' w' ms' g ea ck) → K a' w') : wpOp P ops Q i K a w := by
 unfold mStep at h
 split at h
 case h_2 => cases h
 rename_i o ho
 split at h
 ·cases h
 rename_i hg
 have hg : o.guard.isSome = false := by simpa using hg
 split at h
 ·-- insert
  rename_i t d k x hop hd
  split at h
  case h_2 => cases h
  rename_i kt et n hu hk
  split at h
  case h_2 => cases h
  rename_i hkt
  split at h
  case isFalse => cases h
  rename_i hc
  obtain ⟨rfl, hal, hfr⟩ := hc
  cases h
  have hkv : a.eval k = .int .i64 n := v_eval (by have := r.ev k; rwa [hk] at this)
  have hmv : a.eval (.tmp d) = .map (some g) := I.als d hal
  have hfr : mget ms.es n = none := by cases hx : mget ms.es n with | none => rfl | some x => rw [hx] at hfr; cases hfr
  have hfn := find_none (n := n) ms.es ea.toList 0 (by simpa using I.len) (fun j p e h1 h2 => (I.es j p e h1 (by simpa using h2)).1) hfr
  have hkey : MapKept.IsKey (.int .i64) (.int .i64 n) := rfl
  obtain ⟨ev, R'⟩ := r.heap.mapped (ea.push ⟨.int .i64 n, a.eval x, ck⟩) (ck + 1) I.hg I.base I.hO
  have hrun : (execOp a.eval o).run P w = .ok .skip { w with heap := w.heap.setIfInBounds g (.map (ea.push ⟨.int .i64 n, a.eval x, ck⟩) (ck + 1)) } := by
   simp [execOp, hop, hkv, hmv, Instr.mapUpdate, run_underlying hu, MapKept.run_getObj_map I.hg, MapKept.run_checkKey hkt hkey, MapKept.run_findKey hkt hfn, MapKept.run_setObj_map _ I.hg]
  refine wpOp_skip ho hg hrun ?_
  rw [hd]
  refine hK _ _ m ⟨R', fun t => (r.env t).evol ev, r.size, r.defers, r.glo.evol ev⟩ ev fun ms' he => ⟨g, ea.push ⟨.int .i64 n, a.eval x, ck⟩, ck + 1, ?_⟩
  cases he
  refine ⟨I.als, (MapKept.heap_set I.hg).1, I.base, I.hO, by simp [I.len], fun j p e h1 h2 => ?_⟩
  rcases Nat.lt_or_ge j ms.es.length with hj | hj
  ·rw [List.getElem?_append_left hj] at h1
   rw [Array.getElem?_push, if_neg (by rw [I.len]; omega)] at h2
   obtain ⟨q1, q2⟩ := I.es j p e h1 h2
   exact ⟨q1, q2.evol ev⟩
  ·rw [List.getElem?_append_right hj] at h1
   obtain ⟨rfl⟩ : j = ms.es.length := by
    have := (List.getElem?_eq_some_iff.1 h1).1
    simp at this; omega
   rw [Array.getElem?_push, if_pos (by rw [I.len])] at h2
   simp at h1
   cases h2
   rw [← h1]
   exact ⟨rfl, (r.ev x).evol ev⟩
 ·-- lookup
  rename_i t d k d' hop hd
  split at h
  case h_2 => cases h
  rename_i kt et n hu hk
  split at h
  case h_2 => cases h
  rename_i hkt
  split at h
  case isFalse => cases h
  rename_i hc
  obtain ⟨rfl, hal⟩ := hc
  have hkv : a.eval k = .int .i64 n := v_eval (by have := r.ev k; rwa [hk] at this)
  have hmv : a.eval (.tmp d) = .map (some g) := I.als d hal
  have hkey : MapKept.IsKey (.int .i64) (.int .i64 n) := rfl
  split at h
  ·rename_i x hx
   obtain ⟨σ1, hs, he⟩ := Option.map_eq_some_iff.1 h
   cases he
   obtain ⟨j, p, e, hfn, q1, q2, q3⟩ := find_some (n := n) ms.es ea.toList 0 (by simpa using I.len) (fun j p e h1 h2 => (I.es j p e h1 (by simpa using h2)).1) hx
   have hrun : (execOp a.eval o).run P w = .ok (.value (.tuple #[e.val, .bool true])) w := by
    simp [execOp, hop, hkv, hmv, Instr.lookup, run_underlying hu, MapKept.run_getObj_map I.hg, MapKept.run_checkKey hkt hkey, MapKept.run_findKey hkt hfn]
   refine wpOp_value ho hg hrun ?_
   rw [hd]
   obtain ⟨g1, g2⟩ := r.set (v := .tuple #[e.val, .bool true]) hs r.heap (Evol.refl _) (tup2 (by rw [← q3]; exact (I.es j p e q1 (by simpa using q2)).2) (.v _))
   exact hK _ _ m g1 (by rw [g2]; exact Evol.refl _) fun ms' he => by cases he
  ·rename_i hx
   split at h
   case h_2 => cases h
   rename_i jn hj
   split at h
   case h_2 => cases h
   rename_i z hz
   obtain ⟨σ1, hs, he⟩ := Option.map_eq_some_iff.1 h
   cases he
   have hfn := find_none (n := n) ms.es ea.toList 0 (by simpa using I.len) (fun j p e h1 h2 => (I.es j p e h1 (by simpa using h2)).1) hx
   have hrun : (execOp a.eval o).run P w = .ok (.value (.tuple #[z, .bool false])) w := by
    simp [execOp, hop, hkv, hmv, Instr.lookup, run_underlying hu, MapKept.run_getObj_map I.hg, MapKept.run_checkKey hkt hkey, MapKept.run_findKey hkt hfn, run_zeroValue hj hz]
   refine wpOp_value ho hg hrun ?_
   rw [hd]
   obtain ⟨g1, g2⟩ := r.set (v := .tuple #[z, .bool false]) hs r.heap (Evol.refl _) (tup2 (VR.ofV _ z) (.v _))
   exact hK _ _ m g1 (by rw [g2]; exact Evol.refl _) fun ms' he => by cases he
 ·-- move
  rename_i d d' hop hd
  split at h
  ·rename_i hal
   obtain ⟨σ1, hs, he⟩ := Option.map_eq_some_iff.1 h
   cases he
   have hmv : a.eval (.tmp d) = .map (some g) := I.als d hal
   have hrun : (execOp a.eval o).run P w = .ok (.value (.map (some g))) w := by
    simp [execOp, hop, hmv]
   refine wpOp_value ho hg hrun ?_
   rw [hd]
   obtain ⟨g1, g2⟩ := r.set (v := .map (some g)) hs r.heap (Evol.refl _) (.unk _)
   refine hK _ _ m g1 (by rw [g2]; exact Evol.refl _) fun ms' he => ⟨g, ea, ck, ?_⟩
   cases he
   refine ⟨fun t ht => ?_, I.hg, I.base, I.hO, I.len, fun j p e h1 h2 => by rw [g2]; exact I.es j p e h1 h2⟩
   by_cases e : t = d'
   ·subst e
    exact put_eq (by rw [r.size]; exact set_lt hs)
   ·rw [put_ne e]
    exact I.als t ((contains_cons ht).resolve_left e)
  ·split at h
   ·cases h
   rename_i hd'
   have hd' : ms.als.contains d' = false := by simpa using hd'
   obtain ⟨σ1, hs, he⟩ := Option.map_eq_some_iff.1 h
   cases he
   have hrun : (execOp a.eval o).run P w = .ok (.value (a.eval (.tmp d))) w := by
    simp [execOp, hop]
   refine wpOp_value ho hg hrun ?_
   rw [hd]
   obtain ⟨g1, g2⟩ := r.set (v := a.eval (.tmp d)) hs r.heap (Evol.refl _) (r.env d)
   refine hK _ _ m g1 (by rw [g2]; exact Evol.refl _) fun ms' he => ⟨g, ea, ck, ?_⟩
   cases he
   exact I.put hs hd'
 ·-- what asks the memory at most
  rename_i d' hd _ _
  split at h
  ·cases h
  rename_i hd'
  have hd' : ms.als.contains d' = false := by simpa using hd'
  split at h
  case h_2 => cases h
  rename_i x hq
  obtain ⟨σ1, hs, he⟩ := Option.map_eq_some_iff.1 h
  cases he
  obtain ⟨v, hrun, hv⟩ := qOp_ok r.heap r.ev hq
  refine wpOp_value ho hg hrun ?_
  rw [hd]
  obtain ⟨g1, g2⟩ := r.set (v := v) hs r.heap (Evol.refl _) hv
  refine hK _ _ m g1 (by rw [g2]; exact Evol.refl _) fun ms' he => ⟨g, ea, ck, ?_⟩
  cases he
  exact I.put hs hd'
 ·cases h
end
def runM (P : Program) (G : Glo) (C : CallD) (nt : Nat) (pth : Name) (ops : Array Oper) : List Nat → St → Option MS → Option St
 | [], σ, none => some σ
 | [], _, some _ => none
 | i :: l, σ, none => match mStart P nt ops i σ with
  | some (σ', ms) => runM P G C nt pth ops l σ' (some ms)
  | none => match stepD P G C nt pth ops i σ with
   | some σ' => runM P G C nt pth ops l σ' none
   | none => none
 | i :: l, σ, some ms => match mStep P G nt ops i σ ms with
  | some (σ', mo) => runM P G C nt pth ops l σ' mo
  | none => none
theorem runM_ok {P : Program} {G : Glo} {C : CallD} (hC : CallOk P G C) {nt : Nat} {pth : Name} {ops : Array Oper} {B : Base} {Q : Exit → Act → World → Prop} : ∀ (l : List Nat) (σ σ' : St) (mo : Option MS) (m : Name → Nat) (a : Act) (w : World), Rel B G nt m σ a w →
  (∀ ms', mo = some ms' → ∃ g ea ck, MInv B m σ a w ms' g ea ck) → runM P G C nt pth ops l σ mo = some σ' →
  (∀ a' w' m', Rel B G nt m' σ' a' w' → Evol (ctx B σ.hs m w) (ctx B σ'.hs m' w') → Q .normal a' w') → wpOps P ops Q l a w
 | [], σ, σ', none, m, a, w, r, I, h, hQ => by
  simp [runM] at h; subst h
  exact hQ a w m r (Evol.refl _)
 | [], σ, σ', some ms, m, a, w, r, I, h, hQ => by simp [runM] at h
 | i :: l, σ, σ', none, m, a, w, r, I, h, hQ => by
  simp only [runM] at h
  rw [wpOps_cons]
  split at h
  ·rename_i σ1 ms h1
   exact mStart_ok r h1 fun a1 w1 m1 g ea ck r1 e1 I1 => runM_ok hC l σ1 σ' (some ms) m1 a1 w1 r1 (fun ms' he => by cases he; exact ⟨g, ea, ck, I1⟩) h fun a' w' m' r' e' => hQ a' w' m' r' (e1.trans e')
  ·split at h
   case h_2 => cases h
   rename_i σ1 h1
   exact stepD_ok hC r h1 fun a1 w1 m1 r1 e1 => runM_ok hC l σ1 σ' none m1 a1 w1 r1 (fun ms' he => by cases he) h fun a' w' m' r' e' => hQ a' w' m' r' (e1.trans e')
 | i :: l, σ, σ', some ms, m, a, w, r, I, h, hQ => by
  simp only [runM] at h
  rw [wpOps_cons]
  split at h
  case h_2 => cases h
  rename_i σ1 mo h1
  obtain ⟨g, ea, ck, I0⟩ := I ms rfl
  exact mStep_ok r I0 h1 fun a1 w1 m1 r1 e1 I1 => runM_ok hC l σ1 σ' mo m1 a1 w1 r1 I1 h fun a' w' m' r' e' => hQ a' w' m' r' (e1.trans e')
end Go.Proofs.YtdbekeidlppfiaaGreatDoor.Den
