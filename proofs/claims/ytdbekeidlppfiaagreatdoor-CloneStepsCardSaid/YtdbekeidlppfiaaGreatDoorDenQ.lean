/- Texts joined by a program of mine (pack.py): DenQ. -/
import Derived.Test.YtdbekeidlppfiaaGreatDoorDenO
set_option linter.unusedVariables false
set_option linter.unusedSimpArgs false
namespace Go.Proofs.YtdbekeidlppfiaaGreatDoor.Den
open Go Go.RowKit
inductive Adv where
 | eq (r : PV)
 | raw (r : PV)
 | elem (y : List PV)
 | ret (r : PV)
 | retS (r : PV) (bs : List (Option Blk)) (fs : List Nat)
 | sub (z : Bool)
 | chr (b : UInt8)
 | mk
 | cp
 | eleq (y : List PV) (r : PV)
 | cat
 | ok
 | okR
def eL (l : List (Operand × PV)) (x : Operand) : PV := match x with
 | .tmp t => match l.find? (fun p => match p.1 with | .tmp t' => t' == t | _ => false) with
  | some p => p.2
  | none => .v undef
 | .const v => PV.ofV v
 | .global g => match l.find? (fun p => match p.1 with | .global t' => t' == g | _ => false) with
  | some p => p.2
  | none => .v undef
 | .func f => .clo f []
def vals (e : Operand → PV) (l : List Operand) : List (Operand × PV) := (l.filter fun x => match x with | .tmp _ => true | .global _ => true | _ => false).map fun x => (x, e x)
theorem eL_vals {G : Glo} {env : Nat → PV} (l : List Operand) : ∀ x ∈ l, ev G env x = eL (vals (ev G env) l) x := by
 intro x hx
 cases x with
 | const v => rfl
 | func f => rfl
 | tmp t =>
  simp only [eL]
  have : ∃ p, (vals (ev G env) l).find? (fun p => match p.1 with | .tmp t' => t' == t | _ => false) = some p := by
   rw [← Option.isSome_iff_exists, List.find?_isSome]
   exact ⟨(.tmp t, ev G env (.tmp t)), List.mem_map.2 ⟨.tmp t, List.mem_filter.2 ⟨hx, rfl⟩, rfl⟩, by simp⟩
  obtain ⟨p, hp⟩ := this
  rw [hp]
  have h1 := List.mem_of_find?_eq_some hp
  have h2 := List.find?_some hp
  obtain ⟨y, hy, rfl⟩ := List.mem_map.1 h1
  cases y <;> simp at h2
  subst h2; rfl
 | global g =>
  simp only [eL]
  have : ∃ p, (vals (ev G env) l).find? (fun p => match p.1 with | .global t' => t' == g | _ => false) = some p := by
   rw [← Option.isSome_iff_exists, List.find?_isSome]
   exact ⟨(.global g, ev G env (.global g)), List.mem_map.2 ⟨.global g, List.mem_filter.2 ⟨hx, rfl⟩, rfl⟩, by simp⟩
  obtain ⟨p, hp⟩ := this
  rw [hp]
  have h1 := List.mem_of_find?_eq_some hp
  have h2 := List.find?_some hp
  obtain ⟨y, hy, rfl⟩ := List.mem_map.1 h1
  cases y <;> simp at h2
  subst h2; rfl
section
variable {P : Program} {G : Glo} {C : CallD} {gv : FuncId → Option (List PV → Option PV)} {gs : FuncId → Option SFun} {pf : FuncId → Bool}
def GvOk (C : CallD) (gv : FuncId → Option (List PV → Option PV)) : Prop := ∀ f g, gv f = some g → ∀ args nm s, C f args nm s = plainD g args nm s
def GsOk (C : CallD) (gs : FuncId → Option SFun) : Prop := ∀ f g, gs f = some g → ∀ args nm s, C f args nm s = callS g args nm s
def idxE (P : Program) (s : HS) (t : TypeId) (x ix : PV) (y : List PV) : Option (PV × Prop) :=
 match P.underlying t, intOfPV ix with
 | some (.slice e), some j => match tsz P e with
  | some sz => match x with
   | .row n k i len => match s.h n with
    | (k', some b) => if k' = k ∧ b.sz = sz then some (.ptr n k (i + j.toNat) 0, 0 ≤ j ∧ j < len) else none
    | _ => none
   | .list sz' _ xs => if sz' = sz then some (.eptr y, 0 ≤ j ∧ xs[j.toNat]? = some y) else none
   | _ => none
  | none => none
 | _, _ => none
theorem idxE_ok {s : HS} {t : TypeId} {x ix z : PV} {y : List PV} {p : Prop} (h : idxE P s t x ix y = some (z, p)) (hp : p) : idxA P s t x ix = some z := by
 unfold idxE at h
 unfold idxA
 split at h
 case h_2 => cases h
 rename_i e j hu hj
 rw [hu, hj]
 simp only
 split at h
 case h_2 => cases h
 rename_i sz hz
 rw [hz]
 simp only
 split at h
 ·split at h
  case h_2 => cases h
  rename_i b hn
  split at h
  case isFalse => cases h
  rename_i hc
  cases h
  simp only
  rw [hn]
  simp only
  rw [if_pos ⟨hc.1, hc.2, hp⟩]
 ·split at h
  case isFalse => cases h
  rename_i hc
  cases h
  simp only
  rw [if_pos ⟨hc, hp.1⟩, hp.2]
 ·cases h
def ldE (P : Program) (s : HS) (t : TypeId) (p : PV) (y : List PV) : Option (PV × Prop) :=
 match isA P t, tsz P t with
 | some ag, some sz => match p with
  | .ptr n k i off => match s.h n with
   | (k', some b) => if k' = k ∧ off + sz ≤ y.length then match mkv ag ((y.drop off).take sz) with
    | some z => some (z, b.xs[i]? = some y)
    | none => none else none
   | _ => none
  | _ => none
 | _, _ => none
theorem ldE_ok {s : HS} {t : TypeId} {x z : PV} {y : List PV} {p : Prop} (h : ldE P s t x y = some (z, p)) (hp : p) : ldD P s t x = some z := by
 unfold ldE at h
 unfold ldD
 split at h
 case h_2 => cases h
 rename_i ag sz ha hz
 rw [ha, hz]
 simp only
 split at h
 case h_2 => cases h
 rename_i n k i off
 split at h
 case h_2 => cases h
 rename_i k' b hn
 split at h
 case isFalse => cases h
 rename_i hc
 split at h
 case h_2 => cases h
 rename_i z' hm
 cases h
 simp only
 rw [hn]
 simp only
 rw [if_pos hc.1, hp]
 simp only
 rw [if_pos hc.2, hm]
def stE (P : Program) (prot : Name) (s : HS) (t : TypeId) (p x : PV) (e : List PV) : Option (HS × Prop) :=
 match tsz P t, x.celled, p with
 | some sz, some cs, .ptr n k i off => match s.h n with
  | (k', some b) => if k' = k ∧ cs.length = sz ∧ okName prot n = true ∧ off + sz ≤ e.length then
    some ({ h := upd s.h n (k, some { b with xs := b.xs.set i (e.take off ++ nrm P b.rw t cs ++ e.drop (off + sz)), cl := b.cl && closedL (nrm P b.rw t cs) }), fz := s.fz }, s.fz n ≤ i ∧ b.xs[i]? = some e) else none
  | _ => none
 | _, _, _ => none
theorem stE_ok {prot : Name} {s s1 : HS} {t : TypeId} {x z : PV} {y : List PV} {p : Prop} (h : stE P prot s t x z y = some (s1, p)) (hp : p) : stD P prot s t x z = some s1 := by
 unfold stE at h
 unfold stD
 split at h
 case h_2 => cases h
 rename_i sz cs n k i off hz hc
 rw [hz, hc]
 simp only
 split at h
 case h_2 => cases h
 rename_i k' b hn
 split at h
 case isFalse => cases h
 rename_i hc
 cases h
 rw [hn]
 simp only
 rw [if_pos ⟨hc.1, hc.2.1, hp.1, hc.2.2.1⟩, hp.2]
 simp only
 rw [if_pos hc.2.2.2]
def appE (P : Program) (prot n : Name) (s : HS) (t t2 : TypeId) (x y : PV) : Option (PV × HS × Prop) :=
 if t2 ≠ t then none else
 match P.underlying t with
 | some (.slice e) => match inf P e with
  | some (sz + 1, by_, _) => match elsN s (sz + 1) y with
   | some ys => match x with
    | .row n0 k 0 len => match s.h n0 with
     | (k', some b) => if k' = k ∧ b.sz = sz + 1 ∧ b.E = e ∧ okName prot n0 = true then
       some (.row n ((s.h n).1 + 1) 0 (len + ys.length), { h := upd (upd s.h n0 (k, none)) n ((s.h n).1 + 1, some { b with xs := b.xs ++ ys, cl := b.cl && clN s y }), fz := upd s.fz n (s.fz n0) }, len = b.xs.length ∧ len + ys.length ≤ 140737488355328 ∧ (len + ys.length) * by_ ≤ 140737488355328)
      else none
     | _ => none
    | .v (.slice none 0 0) => match ys with
     | [] => none
     | y0 :: ys0 => some (.row n ((s.h n).1 + 1) 0 (y0 :: ys0).length, newS s n ⟨sz + 1, e, y0 :: ys0, clN s y, true⟩, (y0 :: ys0).length ≤ 140737488355328 ∧ (y0 :: ys0).length * by_ ≤ 140737488355328)
    | .list sz' true xs => match ys with
     | [] => none
     | y0 :: ys0 => if sz' = sz + 1 then
       some (.row n ((s.h n).1 + 1) 0 (xs.length + (y0 :: ys0).length), newS s n ⟨sz + 1, e, xs ++ (y0 :: ys0), clN s y, true⟩, xs.length + (y0 :: ys0).length ≤ 140737488355328 ∧ (xs.length + (y0 :: ys0).length) * by_ ≤ 140737488355328) else none
    | _ => none
   | none => none
  | _ => none
 | _ => none
theorem appE_ok {prot n : Name} {s s1 : HS} {t t2 : TypeId} {x y z : PV} {p : Prop} (h : appE P prot n s t t2 x y = some (z, s1, p)) (hp : p) : appD P prot n s t t2 x y = some (z, s1) := by
 unfold appE at h
 unfold appD
 split at h
 ·cases h
 rename_i ht
 rw [if_neg ht]
 split at h
 case h_2 => cases h
 rename_i e hu
 split at h
 case h_2 => cases h
 rename_i sz by_ z0 hi
 split at h
 case h_2 => cases h
 rename_i ys hys
 rw [hu]; simp only [hi, hys]
 split at h
 ·rename_i n0 k len
  split at h
  case h_2 => cases h
  rename_i k' b hn
  split at h
  case isFalse => cases h
  rename_i hc
  cases h
  simp only
  rw [hn]
  simp only
  rw [if_pos ⟨hc.1, hp.1, hc.2.1, hc.2.2.1, hc.2.2.2, hp.2.1, hp.2.2⟩]
 ·split at h
  ·cases h
  ·cases h
   simp only
   rw [if_pos hp]
 ·split at h
  ·cases h
  ·split at h
   case isFalse => cases h
   rename_i hc
   cases h
   simp only
   rw [if_pos ⟨hc, hp⟩]
 ·cases h
def appR (P : Program) (prot n : Name) (s : HS) (t t2 : TypeId) (x y : PV) : Option (PV × HS × Prop × Prop) :=
 match y with
 | .row n1 k1 i1 len1 => match s.h n1 with
  | (k', some b) => if k' = k1 ∧ b.cl = true then match appE P prot n s t t2 x (.list b.sz false b.xs) with
   | some (z, s1, p) => some (z, s1, p, i1 = 0 ∧ len1 = b.xs.length)
   | none => none else none
  | _ => none
 | _ => none
theorem appD_congr {prot n : Name} {s : HS} {t t2 : TypeId} {x y y' : PV} (h1 : ∀ sz, elsN s sz y = elsN s sz y') (h2 : clN s y = clN s y') : appD P prot n s t t2 x y = appD P prot n s t t2 x y' := by
 unfold appD
 simp only [h1, h2]
theorem appR_ok {prot n : Name} {s s1 : HS} {t t2 : TypeId} {x y z : PV} {p q : Prop} (h : appR P prot n s t t2 x y = some (z, s1, p, q)) (hp : p) (hq : q) : appD P prot n s t t2 x y = some (z, s1) := by
 unfold appR at h
 split at h
 case h_2 => cases h
 rename_i n1 k1 i1 len1
 split at h
 case h_2 => cases h
 rename_i k' b hn
 split at h
 case isFalse => cases h
 rename_i hc
 obtain ⟨rfl, hcl⟩ := hc
 split at h
 case h_2 => cases h
 rename_i z' s' p' ha
 cases h
 obtain ⟨rfl, rfl⟩ := hq
 rw [← appE_ok ha hp]
 refine appD_congr (fun sz => ?_) ?_
 ·simp [elsN, els, hn]
 ·simp [clN, hn, hcl]
mutual
def depthA : PV → Nat
 | .agg cs => depthL cs + 1
 | _ => 0
def depthL : List PV → Nat
 | [] => 0
 | x :: l => max (depthA x) (depthL l)
end
mutual
def drA (s : HS) : PV → Option (PV × HS × List Prop)
 | .list sz full xs => some (.list sz full xs, s, [])
 | .row n k i len => match s.h n with
  | (k', some b) => if k' = k ∧ (b.cl || closedLL b.xs) = true then some (.list b.sz false b.xs, { s with fz := upd s.fz n (max (s.fz n) (i + len)) }, [i = 0 ∧ len = b.xs.length]) else none
  | _ => none
 | .agg cs => match drAL s cs with
  | some (l, s', p) => some (.agg l, s', p)
  | none => none
 | .clo f cs => if closedL cs then some (.clo f cs, s, []) else none
 | .v x => some (.v x, s, [])
 | .far k => some (.far k, s, [])
 | _ => none
def drAL (s : HS) : List PV → Option (List PV × HS × List Prop)
 | [] => some ([], s, [])
 | x :: l => match drA s x with
  | some (y, s1, p) => match drAL s1 l with
   | some (l', s2, q) => some (y :: l', s2, p ++ q)
   | none => none
  | none => none
end
theorem dr_closed {k : Nat} {s : HS} {x : PV} (h : closedB x = true) : dr k s x = some (x, s) := by
 cases k <;> simp [dr, h]
theorem mapS_closed {k : Nat} {s : HS} : ∀ {l : List PV}, closedL l = true → mapS (dr k) s l = some (l, s)
 | [], _ => rfl
 | x :: l, h => by
  simp only [closedL, Bool.and_eq_true] at h
  simp [mapS, dr_closed h.1, mapS_closed h.2]
mutual
theorem drA_ok : ∀ (x : PV) (s : HS) (y : PV) (s' : HS) (l : List Prop) (k : Nat), drA s x = some (y, s', l) → (∀ p ∈ l, p) → depthA x < k → dr k s x = some (y, s')
 | .list sz full xs, s, y, s', l, k, h, hl, hk => by
  simp only [drA, Option.some.injEq, Prod.mk.injEq] at h
  obtain ⟨rfl, rfl, rfl⟩ := h
  exact dr_closed (by simp [closedB])
 | .row n kk i len, s, y, s', l, k, h, hl, hk => by
  simp only [drA] at h
  split at h
  case h_2 => cases h
  rename_i k' b hn
  split at h
  case isFalse => cases h
  rename_i hkk
  cases h
  obtain ⟨rfl, rfl⟩ := hl (i = 0 ∧ len = b.xs.length) (by simp)
  obtain ⟨hkk, hc⟩ := hkk
  obtain ⟨k2, rfl⟩ : ∃ k2, k = k2 + 1 := ⟨k - 1, by omega⟩
  have hc' : b.cl = true ∨ closedLL b.xs = true := by simpa using hc
  simp [dr, closedB, hn, hkk, hc']
 | .agg cs, s, y, s', l, k, h, hl, hk => by
  simp only [drA] at h
  split at h
  case h_2 => cases h
  rename_i l' s2 p hm
  cases h
  obtain ⟨k2, rfl⟩ : ∃ k2, k = k2 + 1 := ⟨k - 1, by omega⟩
  have h1 := drAL_ok cs s l' s' l k2 hm hl (by simp only [depthA] at hk; omega)
  simp only [dr]
  split
  ·rename_i hc
   have h2 := mapS_closed (k := k2) (s := s) (l := cs) (by simpa [closedB] using hc)
   rw [h2] at h1
   simp only [Option.some.injEq, Prod.mk.injEq] at h1
   rw [h1.1, h1.2]
  ·simp only [h1]
 | .mth .., s, y, s', l, k, h, hl, hk => by simp [drA] at h
 | .clo f cs, s, y, s', l, k, h, hl, hk => by
  simp only [drA] at h
  split at h
  ·rename_i hc; cases h; exact dr_closed (by simpa [closedB] using hc)
  ·cases h
 | .v x, s, y, s', l, k, h, hl, hk => by simp [drA] at h; obtain ⟨rfl, rfl, _⟩ := h; exact dr_closed rfl
 | .far q, s, y, s', l, k, h, hl, hk => by simp [drA] at h; obtain ⟨rfl, rfl, _⟩ := h; exact dr_closed rfl
 | .ptr .., s, y, s', l, k, h, hl, hk => by simp [drA] at h
 | .eptr .., s, y, s', l, k, h, hl, hk => by simp [drA] at h
 | .tup .., s, y, s', l, k, h, hl, hk => by simp [drA] at h
 | .ifc .., s, y, s', l, k, h, hl, hk => by simp [drA] at h
 | .own .., s, y, s', l, k, h, hl, hk => by simp [drA] at h
 | .unk, s, y, s', l, k, h, hl, hk => by simp [drA] at h
theorem drAL_ok : ∀ (cs : List PV) (s : HS) (l' : List PV) (s' : HS) (l : List Prop) (k : Nat), drAL s cs = some (l', s', l) → (∀ p ∈ l, p) → depthL cs < k → mapS (dr k) s cs = some (l', s')
 | [], s, l', s', l, k, h, hl, hk => by simp [drAL] at h; obtain ⟨rfl, rfl, _⟩ := h; rfl
 | x :: cs, s, l', s', l, k, h, hl, hk => by
  simp only [drAL] at h
  split at h
  case h_2 => cases h
  rename_i y s1 p h1
  split at h
  case h_2 => cases h
  rename_i l2 s2 q h2
  cases h
  simp only [depthL] at hk
  simp only [mapS]
  rw [drA_ok x s y s1 p k h1 (fun a ha => hl a (List.mem_append_left _ ha)) (by omega)]
  simp only
  rw [drAL_ok cs s1 l2 s' q k h2 (fun a ha => hl a (List.mem_append_right _ ha)) (by omega)]
end
theorem quiet_bind {α β : Type} {P : Program} (s : Sem α) (f : α → Sem β) : quiet P (s.bind f) = (quiet P s).bind fun a => quiet P (f a) := by
 induction s <;> simp only [Sem.bind, quiet, Option.bind] <;> first | rfl | skip
 ·rename_i k ih; exact ih P
 ·rename_i m k ih; exact ih
theorem quiet_bind' {α β : Type} {P : Program} (s : Sem α) (f : α → Sem β) {a : α} (h : quiet P s = some a) : quiet P (s >>= f) = quiet P (f a) := by
 show quiet P (s.bind f) = _
 rw [quiet_bind, h]; rfl
theorem quiet_underlying {P : Program} {t : TypeId} {d : TypeDesc} (h : P.underlying t = some d) : quiet P (underlying t) = some d := by
 unfold underlying
 show quiet P (Sem.bind _ _) = _
 simp [Sem.bind, program, quiet, h]
 rfl
def SubOk (n : Nat) (lo hi : Option Int) : Prop := 0 ≤ lo.getD 0 ∧ lo.getD 0 ≤ hi.getD n ∧ hi.getD n ≤ n
def slE (P : Program) (s : HS) (t : TypeId) (x : PV) (lo hi mx : Option PV) (z : Bool) : Option (PV × Prop) :=
 match P.underlying t, optInt lo, optInt hi, optInt mx with
 | some (.slice e), some lo, some hi, some mx => match tsz P e with
  | some sz => match x with
   | .row n k i len => match mx with
    | some _ => none
    | none => match s.h n with
     | (k', some b) => if k' = k ∧ b.sz = sz then
       if z then some (.list sz false [], SubOk len lo hi ∧ lo.getD 0 = hi.getD len)
       else some (.row n k (i + (lo.getD 0).toNat) ((hi.getD len).toNat - (lo.getD 0).toNat), SubOk len lo hi ∧ lo.getD 0 ≠ hi.getD len) else none
     | _ => none
   | .list sz' full xs => if sz' = sz then match mx, hi, full with
    | some m, some h, _ => some (.list sz true ((xs.drop (lo.getD 0).toNat).take (h.toNat - (lo.getD 0).toNat)), SubOk xs.length lo (some h) ∧ m = h)
    | none, none, f => some (.list sz f ((xs.drop (lo.getD 0).toNat).take (xs.length - (lo.getD 0).toNat)), SubOk xs.length lo none)
    | none, some h, false => some (.list sz false ((xs.drop (lo.getD 0).toNat).take (h.toNat - (lo.getD 0).toNat)), SubOk xs.length lo (some h))
    | _, _, _ => none else none
   | _ => none
  | none => none
 | _, _, _, _ => none
theorem slE_ok {s : HS} {t : TypeId} {x r : PV} {lo hi mx : Option PV} {z : Bool} {p : Prop} (h : slE P s t x lo hi mx z = some (r, p)) (hp : p) : slD P s t x lo hi mx = some r := by
 unfold slE at h
 split at h
 case h_2 => cases h
 rename_i e lj hj mj hu hlj hhj hmj
 split at h
 case h_2 => cases h
 rename_i sz hz
 unfold slD
 rw [hu]; simp only [hz, hlj, hhj, hmj]
 split at h
 ·split at h
  ·cases h
  split at h
  case h_2 => cases h
  rename_i k' b hn
  split at h
  case isFalse => cases h
  rename_i hc
  simp only [hn]
  split at h
  ·cases h
   obtain ⟨⟨h1, h2, h3⟩, h4⟩ := hp
   rw [if_pos ⟨hc.1, hc.2, h1, h2, h3⟩, if_pos h4]
  ·cases h
   obtain ⟨⟨h1, h2, h3⟩, h4⟩ := hp
   rw [if_pos ⟨hc.1, hc.2, h1, h2, h3⟩, if_neg h4]
 ·split at h
  case isFalse => cases h
  rename_i hsz
  split at h
  ·cases h
   obtain ⟨⟨h1, h2, h3⟩, rfl⟩ := hp
   simp only [Option.getD_some] at h2 h3 ⊢
   rw [if_pos ⟨hsz, h1, h2, h3, fun m hm => by cases hm; exact ⟨by simp, rfl⟩⟩]
   rfl
  ·cases h
   obtain ⟨h1, h2, h3⟩ := hp
   simp only [Option.getD_none] at h2 h3 ⊢
   rw [if_pos ⟨hsz, h1, h2, h3, fun m hm => by cases hm⟩]
   simp
  ·cases h
   obtain ⟨h1, h2, h3⟩ := hp
   simp only [Option.getD_some] at h2 h3 ⊢
   rw [if_pos ⟨hsz, h1, h2, h3, fun m hm => by cases hm⟩]
   simp
  ·cases h
 ·cases h
def bnd (n : Nat) : Option Int → Nat
 | none => n
 | some h => h.toNat
def strE (P : Program) (t : TypeId) (x : PV) (lo hi mx : Option PV) : Option (PV × Prop) :=
 match P.underlying t, x, optInt lo, optInt hi, mx with
 | some .string, .v (.string b), some lo, some hi, none => some (.v (.string (b.extract (bnd 0 lo) (bnd b.size hi))), SubOk b.size lo hi)
 | _, _, _, _, _ => none
theorem quiet_bound {P : Program} {k : IntKind} {j : Int} {y : Nat} {c : BoundsCode} (h0 : 0 ≤ j) (h1 : j ≤ y) : quiet P (Instr.sliceBound (.int k j) y c) = some j.toNat := by
 unfold Instr.sliceBound
 rw [quiet_bind' _ _ (a := (k, j)) rfl]
 simp only
 rw [if_pos ⟨h0, h1⟩]; rfl
theorem toV_int {x : PV} {j : Int} (h : intOfPV x = some j) : ∃ k, x.toV = some (.int k j) ∧ (x.toV.getD undef) = .int k j := by
 unfold intOfPV at h
 split at h
 ·cases h; exact ⟨_, rfl, rfl⟩
 ·cases h
theorem strE_ok {e : Operand → PV} {o : Oper} {t : TypeId} {x : Operand} {lo hi : Option Operand} {r : PV} {p : Prop} (hop : o.op = .slice t x lo hi none) (h : strE P t (e x) (lo.map e) (hi.map e) none = some (r, p)) (hp : p) : quietD P e o = some r := by
 unfold strE at h
 split at h
 case h_2 => cases h
 rename_i b lj hj hu hx hlj hhj _
 cases h
 obtain ⟨h1, h2, h3⟩ := hp
 have key : ∀ (y : Option Operand) (j : Option Int), optInt (y.map e) = some j → (y = none ∧ j = none) ∨ ∃ z k i, y = some z ∧ j = some i ∧ (e z).toV = some (.int k i) ∧ valOf e z = .int k i := by
  intro y j hy
  cases y with
  | none => simp [optInt] at hy; exact .inl ⟨rfl, hy.symm⟩
  | some z =>
   simp only [Option.map_some, optInt, Option.map_eq_some_iff] at hy
   obtain ⟨i, hi, rfl⟩ := hy
   obtain ⟨k, q1, q2⟩ := toV_int hi
   exact .inr ⟨z, k, i, rfl, rfl, q1, q2⟩
 have hxv : (e x).toV = some (.string b) := by rw [hx]; rfl
 have hxv2 : valOf e x = .string b := by unfold valOf; rw [hxv]; rfl
 have fin : ∀ vlo vhi, lo.map (valOf e) = vlo → hi.map (valOf e) = vhi → quiet P (Instr.sliceBounds false b.size b.size vlo vhi none) = some (bnd 0 lj, bnd b.size hj, b.size) →
   (o.op.operands.toList.all fun x => (e x).toV.isSome) = true → quietD P e o = some (.v (.string (b.extract (bnd 0 lj) (bnd b.size hj)))) := by
  intro vlo vhi e1 e2 hb hall
  unfold quietD
  rw [hop] at hall ⊢
  simp only
  rw [if_pos hall]
  have hx2 : quiet P (execOp (valOf e) o) = some (.value (.string (b.extract (bnd 0 lj) (bnd b.size hj)))) := by
   unfold execOp
   rw [hop]
   simp only [Option.map_none, hxv2, e1, e2]
   refine (quiet_bind' _ _ (a := Value.string (b.extract (bnd 0 lj) (bnd b.size hj))) ?_).trans rfl
   unfold Instr.sliceAt
   refine (quiet_bind' _ _ (quiet_underlying hu)).trans ?_
   show quiet P (Instr.slice t (.string b) vlo vhi none) = _
   unfold Instr.slice
   refine (quiet_bind' _ _ (quiet_underlying hu)).trans ?_
   simp only [Option.isSome_none, Bool.false_eq_true, if_false]
   first
    | (refine (quiet_bind' _ _ hb).trans ?_; rfl)
    | (refine (quiet_bind' _ _ (a := PUnit.unit) rfl).trans ?_; refine (quiet_bind' _ _ hb).trans ?_; rfl)
  rw [hx2]; rfl
 rcases key lo lj hlj with ⟨rfl, rfl⟩ | ⟨z, k, i, rfl, rfl, g1, g2⟩ <;> rcases key hi hj hhj with ⟨rfl, rfl⟩ | ⟨z', k', i', rfl, rfl, g1', g2'⟩
 ·refine fin none none rfl rfl rfl ?_
  rw [hop]; simp [Op.operands, hxv]
 ·simp only [Option.getD_some, Option.getD_none] at h1 h2 h3
  refine fin none (some (.int k' i')) rfl (by simp [g2']) ?_ (by rw [hop]; simp [Op.operands, hxv, g1'])
  unfold Instr.sliceBounds
  refine (quiet_bind' _ _ (a := b.size) rfl).trans ?_
  refine (quiet_bind' _ _ (a := i'.toNat) (quiet_bound h2 h3)).trans ?_
  rfl
 ·simp only [Option.getD_some, Option.getD_none] at h1 h2 h3
  refine fin (some (.int k i)) none (by simp [g2]) rfl ?_ (by rw [hop]; simp [Op.operands, hxv, g1])
  unfold Instr.sliceBounds
  refine (quiet_bind' _ _ (a := b.size) rfl).trans ?_
  refine (quiet_bind' _ _ (a := b.size) rfl).trans ?_
  refine (quiet_bind' _ _ (a := i.toNat) (quiet_bound h1 h2)).trans ?_
  rfl
 ·simp only [Option.getD_some] at h1 h2 h3
  refine fin (some (.int k i)) (some (.int k' i')) (by simp [g2]) (by simp [g2']) ?_ (by rw [hop]; simp [Op.operands, hxv, g1, g1'])
  unfold Instr.sliceBounds
  refine (quiet_bind' _ _ (a := b.size) rfl).trans ?_
  refine (quiet_bind' _ _ (a := i'.toNat) (quiet_bound (by omega) h3)).trans ?_
  refine (quiet_bind' _ _ (a := i.toNat) (quiet_bound h1 (by omega))).trans ?_
  rfl
def gtS (b : ByteArray) (j : Int) : Option UInt8 := if 0 ≤ j then b[j.toNat]? else none
def chrE (P : Program) (t : TypeId) (x ix : PV) (c : UInt8) : Option (PV × Prop) :=
 match P.underlying t, x, intOfPV ix with
 | some .string, .v (.string b), some j => some (.v (.int .u8 c.toNat), gtS b j = some c)
 | _, _, _ => none
theorem chrE_ok {e : Operand → PV} {o : Oper} {t : TypeId} {x ix : Operand} {c : UInt8} {r : PV} {p : Prop} (hop : o.op = .index t x ix) (h : chrE P t (e x) (e ix) c = some (r, p)) (hp : p) : idxV P t (e x) (e ix) = none ∧ quietD P e o = some r := by
 unfold chrE at h
 split at h
 case h_2 => cases h
 rename_i b j hu hx hj
 cases h
 refine ⟨by unfold idxV; rw [hu, hx, hj], ?_⟩
 obtain ⟨k, q1, q2⟩ := toV_int hj
 have hxv : (e x).toV = some (.string b) := by rw [hx]; rfl
 have hxv2 : valOf e x = .string b := by unfold valOf; rw [hxv]; rfl
 have hiv2 : valOf e ix = .int k j := q2
 have hx2 : quiet P (execOp (valOf e) o) = some (.value (.int .u8 c.toNat)) := by
  unfold execOp
  rw [hop]
  simp only [hxv2, hiv2]
  refine (quiet_bind' _ _ (a := Value.int .u8 c.toNat) ?_).trans rfl
  unfold Instr.index
  refine (quiet_bind' _ _ (a := (k, j)) rfl).trans ?_
  simp only
  refine (quiet_bind' _ _ (quiet_underlying hu)).trans ?_
  unfold gtS at hp
  simp only [hp]
  rfl
 unfold quietD
 rw [hop]
 simp only
 rw [if_pos (by simp [Op.operands, hxv, q1]), hx2]
 rfl
def catE (x y : PV) : Option (PV × Prop) := match x, y with
 | .v (.string a), .v (.string b) => some (.v (.string (a ++ b)), ¬ (((a.size + b.size : Nat) : Int) > IntKind.i64.max))
 | _, _ => none
theorem catE_ok {e : Operand → PV} {o : Oper} {t yt : TypeId} {x y : Operand} {r : PV} {p : Prop} (hop : o.op = .binOp .add t x y yt) (h : catE (e x) (e y) = some (r, p)) (hp : p) : quietD P e o = some r := by
 unfold catE at h
 split at h
 case h_2 => cases h
 rename_i a b hx hy
 cases h
 have hxv : (e x).toV = some (.string a) := by rw [hx]; rfl
 have hyv : (e y).toV = some (.string b) := by rw [hy]; rfl
 have hx2 : valOf e x = .string a := by unfold valOf; rw [hxv]; rfl
 have hy2 : valOf e y = .string b := by unfold valOf; rw [hyv]; rfl
 have hq : quiet P (execOp (valOf e) o) = some (.value (.string (a ++ b))) := by
  unfold execOp
  rw [hop]
  simp only [hx2, hy2]
  refine (quiet_bind' _ _ (a := Value.string (a ++ b)) ?_).trans rfl
  refine (quiet_bind' _ _ (a := ()) rfl).trans ?_
  show quiet P (Op.stringOp .add a b) = _
  unfold Op.stringOp
  simp only
  rw [if_neg hp]; rfl
 unfold quietD
 rw [hop]
 simp only
 rw [if_pos (by simp [Op.operands, hxv, hyv]), hq]
 rfl
def mkE (P : Program) (n : Name) (s : HS) (t : TypeId) (l c : PV) : Option (PV × HS × Prop) :=
 match P.underlying t, intOfPV l, intOfPV c with
 | some (.slice e), some l, some c => match inf P e with
  | some (sz + 1, by_, z) => some (.row n ((s.h n).1 + 1) 0 l.toNat, newS s n ⟨sz + 1, e, List.replicate l.toNat (nrm P true e (z.map .v)), true, true⟩, 0 ≤ l ∧ l ≤ c ∧ (by_ : Int) * c ≤ 281474976710656 ∧ c ≤ 9223372036854775807)
  | _ => none
 | _, _, _ => none
theorem mkE_ok {n : Name} {s s1 : HS} {t : TypeId} {l c r : PV} {p : Prop} (h : mkE P n s t l c = some (r, s1, p)) (hp : p) : mkD P n s t l c = some (r, s1) := by
 unfold mkE at h
 unfold mkD
 split at h
 case h_2 => cases h
 rename_i e lj cj hu hl hc
 rw [hu, hl, hc]
 simp only
 split at h
 case h_2 => cases h
 rename_i hi
 cases h
 rw [hi]
 simp only
 rw [if_pos hp]
def cpE (P : Program) (prot : Name) (s : HS) (t t2 : TypeId) (x y : PV) : Option (PV × HS × Prop) :=
 match P.underlying t with
 | some (.slice e) => match tsz P e with
  | some sz => match x, elsN s sz y with
   | .row n k i len, some ys => match s.h n with
    | (k', some b) => if k' = k ∧ b.sz = sz ∧ okName prot n = true then
      some (.v (.int .i64 ((min ys.length len : Nat) : Int)), { h := upd s.h n (k, some { b with xs := b.xs.take i ++ ys.take (min ys.length len) ++ b.xs.drop (i + min ys.length len), cl := b.cl && clN s y }), fz := s.fz }, i + len ≤ b.xs.length ∧ s.fz n ≤ i) else none
    | _ => none
   | _, _ => none
  | none => none
 | _ => none
theorem cpE_ok {prot : Name} {s s1 : HS} {t t2 : TypeId} {x y r : PV} {p : Prop} (h : cpE P prot s t t2 x y = some (r, s1, p)) (hp : p) : cpD P prot s t t2 x y = some (r, s1) := by
 suffices h0 : cpD0 P prot s t t2 x y = some (r, s1) by unfold cpD; rw [h0]
 unfold cpE at h
 unfold cpD0
 split at h
 case h_2 => cases h
 rename_i e hu
 rw [hu]
 simp only
 split at h
 case h_2 => cases h
 rename_i sz hz
 rw [hz]
 simp only
 split at h
 case h_2 => cases h
 rename_i n k i len ys hys
 split at h
 case h_2 => cases h
 rename_i k' b hn
 split at h
 case isFalse => cases h
 rename_i hc
 cases h
 simp only [hys, hn]
 rw [if_pos ⟨hc.1, hc.2.1, hp.1, hp.2, hc.2.2⟩]
def actA (P : Program) (C : CallD) (gv : FuncId → Option (List PV → Option PV)) (gs : FuncId → Option SFun) (ad : Option Adv) (nm : Name) (e : Operand → PV) (o : Oper) (s : HS) : Option (PV × HS × List Prop) :=
 match ad with
 | none => match actD P C nm e o s with
  | some (r, hs) => some (r, hs, [])
  | none => none
 | some (.eq r) => match actD P C nm e o s with
  | some (r0, hs) => some (r, hs, [r0 = r])
  | none => none
 | some (.raw r) => some (r, s, [∀ s, opD P [] nm s (eL (vals e o.op.operands.toList)) o = some (r, s)])
 | some (.elem y) => match o.op with
  | .indexAddr t x i => match idxE P s t (e x) (e i) y with
   | some (r, p) => some (r, s, [p])
   | none => none
  | .load t a => match ldE P s t (e a) y with
   | some (r, p) => some (r, s, [p])
   | none => none
  | .store t a x => match stE P [] s t (e a) (e x) y with
   | some (hs, p) => some (.v undef, hs, [p])
   | none => none
  | _ => none
 | some (.eleq y r) => match o.op with
  | .load t a => match ldE P s t (e a) y with
   | some (z, p) => some (r, s, [p, z = r])
   | none => none
  | _ => none
 | some (.sub z) => match o.op with
  | .slice t x lo hi mx => match slE P s t (e x) (lo.map e) (hi.map e) (mx.map e) z with
   | some (r, p) => some (r, s, [p])
   | none => match mx, slD P s t (e x) (lo.map e) (hi.map e) none with
    | none, none => match strE P t (e x) (lo.map e) (hi.map e) none with
     | some (r, p) => some (r, s, [p])
     | none => none
    | _, _ => none
  | _ => none
 | some (.chr c) => match o.op with
  | .index t x i => match chrE P t (e x) (e i) c with
   | some (r, p) => some (r, s, [p])
   | none => none
  | _ => none
 | some .cat => match o.op with
  | .binOp .add t x y yt => match catE (e x) (e y) with
   | some (r, p) => some (r, s, [p])
   | none => none
  | _ => none
 | some .mk => match o.op with
  | .makeSlice t l c => match mkE P nm s t (e l) (e c) with
   | some (r, hs, p) => some (r, hs, [p])
   | none => none
  | _ => none
 | some .cp => match o.op with
  | .call c => match c.callee with
   | .builtin .copy => match c.args.toList, c.argTypes.toList with
    | [x, y], [t, t2] => match cpE P [] s t t2 (e x) (e y) with
     | some (r, hs, p) => some (r, hs, [p])
     | none => none
    | _, _ => none
   | _ => none
  | _ => none
 | some (.ret r) => match opD P [] nm s e o with
  | some _ => none
  | none => match callOf P e o with
   | some (f, args) => match gv f with
    | some g => if depthL args < 8 then match drAL s args with
     | some (cargs, s1, l) => some (pl2 nm s1 0 r, addS s1 (nw nm 0 (owns2 r) (List.replicate (owns2 r).length 0)), l ++ [g cargs = some r])
     | none => none else none
    | none => none
   | none => none
 | some (.retS x bs fs) => match opD P [] nm s e o with
  | some _ => none
  | none => match callOf P e o with
   | some (f, args) => match gs f with
    | some g => if goodD (rootsOf s args) && (rootsOf s args).all (liveB s) then match backX (rootsOf s args) nm s (x, bs, fs) with
     | some (r, hs) => some (r, hs, [g (renL (idR (rootsOf s args)) args) (obs s (rootsOf s args)) (fzs s (rootsOf s args)) = some (x, bs, fs)])
     | none => none else none
    | none => none
   | none => none
 | some .ok => match o.op with
  | .call c => match c.callee with
   | .builtin .append => match c.args.toList, c.argTypes.toList with
    | [x, y], [t, t2] => match appE P [] nm s t t2 (e x) (e y) with
     | some (r, hs, p) => some (r, hs, [p])
     | none => none
    | _, _ => none
   | _ => none
  | _ => none
 | some .okR => match o.op with
  | .call c => match c.callee with
   | .builtin .append => match c.args.toList, c.argTypes.toList with
    | [x, y], [t, t2] => match appR P [] nm s t t2 (e x) (e y) with
     | some (r, hs, p, q) => some (r, hs, [p, q])
     | none => none
    | _, _ => none
   | _ => none
  | _ => none
theorem actA_ok (hgv : GvOk C gv) (hgs : GsOk C gs) {ad : Option Adv} {nm : Name} {env : Nat → PV} {o : Oper} {s hs : HS} {r : PV} {l : List Prop} (h : actA P C gv gs ad nm (ev G env) o s = some (r, hs, l)) (hl : ∀ p ∈ l, p) : actD P C nm (ev G env) o s = some (r, hs) := by
 unfold actA at h
 split at h
 ·split at h
  ·rename_i h1; cases h; exact h1
  ·cases h
 ·split at h
  ·rename_i h1; cases h
   have := hl _ (List.mem_singleton.2 rfl)
   rw [h1, this]
  ·cases h
 ·cases h
  have := hl _ (List.mem_singleton.2 rfl) s
  unfold actD
  rw [opD_congr (e' := eL (vals (ev G env) o.op.operands.toList)) (fun x hx => eL_vals _ x (by simpa using hx)), this]
 ·split at h
  ·rename_i t x i hop
   split at h
   ·rename_i r' p hi
    cases h
    have := idxE_ok hi (hl _ (List.mem_singleton.2 rfl))
    unfold actD opD
    rw [hop]; simp only [this, Option.map_some]
   ·cases h
  ·rename_i t x hop
   split at h
   ·rename_i r' p hi
    cases h
    have := ldE_ok hi (hl _ (List.mem_singleton.2 rfl))
    unfold actD opD
    rw [hop]; simp only [this, Option.map_some]
   ·cases h
  ·rename_i t x y hop
   split at h
   ·rename_i r' p hi
    cases h
    have := stE_ok hi (hl _ (List.mem_singleton.2 rfl))
    unfold actD opD
    rw [hop]; simp only [this, Option.map_some]
   ·cases h
  ·cases h
 ·split at h
  case h_2 => cases h
  rename_i t a hop
  split at h
  case h_2 => cases h
  rename_i z p hi
  cases h
  have h1 := ldE_ok hi (hl _ List.mem_cons_self)
  have h2 := hl (z = r) (by simp)
  unfold actD opD
  rw [hop]; simp only [h1, Option.map_some, h2]
 ·split at h
  case h_2 => cases h
  rename_i t x lo hi mx hop
  split at h
  ·rename_i r' p hi'
   cases h
   have := slE_ok hi' (hl _ (List.mem_singleton.2 rfl))
   unfold actD opD
   rw [hop]; simp only [this]
  ·split at h
   case h_2 => cases h
   rename_i hsl
   split at h
   case h_2 => cases h
   rename_i r' p hst
   cases h
   have := strE_ok hop hst (hl _ (List.mem_singleton.2 rfl))
   unfold actD opD
   have hs0 : slD P s t (ev G env x) (Option.map (ev G env) lo) (Option.map (ev G env) hi) none = none := by assumption
   rw [hop]; simp only [Option.map_none, hs0, this, Option.map_some]
 ·split at h
  case h_2 => cases h
  rename_i t x i hop
  split at h
  case h_2 => cases h
  rename_i r' p hi
  cases h
  obtain ⟨h1, h2⟩ := chrE_ok hop hi (hl _ (List.mem_singleton.2 rfl))
  unfold actD opD
  rw [hop]; simp only [h1, h2, Option.map_some]
 ·split at h
  case h_2 => cases h
  rename_i t x y yt hop
  split at h
  case h_2 => cases h
  rename_i r' p hi
  cases h
  have := catE_ok (P := P) hop hi (hl _ (List.mem_singleton.2 rfl))
  unfold actD opD
  rw [hop]; simp only [this, Option.map_some]
 ·split at h
  case h_2 => cases h
  rename_i t x i hop
  split at h
  case h_2 => cases h
  rename_i r' hs' p hi
  cases h
  have := mkE_ok hi (hl _ (List.mem_singleton.2 rfl))
  unfold actD opD
  rw [hop]; simp only [this]
 ·split at h
  case h_2 => cases h
  rename_i c hop
  split at h
  case h_2 => cases h
  rename_i hcal
  split at h
  case h_2 => cases h
  rename_i x y t t2 ha hat
  split at h
  case h_2 => cases h
  rename_i r' hs' p hap
  cases h
  have := cpE_ok hap (hl _ (List.mem_singleton.2 rfl))
  unfold actD opD
  rw [hop]
  simp only
  unfold bD
  rw [hcal]
  simp only [ha, hat, this]
 ·split at h
  ·cases h
  ·rename_i hop
   split at h
   case h_2 => cases h
   rename_i f args hc
   split at h
   case h_2 => cases h
   rename_i g hg
   split at h
   case isFalse => cases h
   rename_i hdp
   split at h
   case h_2 => cases h
   rename_i cargs s1 l1 hm
   cases h
   have := hl (g cargs = some _) (List.mem_append_right _ (List.mem_singleton.2 rfl))
   unfold actD
   rw [hop, hc]
   simp only
   rw [hgv f g hg]
   unfold plainD
   rw [drAL_ok args s cargs s1 l1 8 hm (fun p hp => hl p (List.mem_append_left _ hp)) hdp]
   simp only [this]
 ·split at h
  ·cases h
  ·rename_i hop
   split at h
   case h_2 => cases h
   rename_i f args hc
   split at h
   case h_2 => cases h
   rename_i g hg
   split at h
   case isFalse => cases h
   rename_i hgd
   split at h
   case h_2 => cases h
   rename_i r' hs' hb
   cases h
   have := hl _ (List.mem_singleton.2 rfl)
   unfold actD
   rw [hop, hc]
   simp only
   rw [hgs f g hg]
   unfold callS
   simp only
   rw [if_pos hgd, this]
   exact hb
 ·split at h
  case h_2 => cases h
  rename_i c hop
  split at h
  case h_2 => cases h
  rename_i hcal
  split at h
  case h_2 => cases h
  rename_i x y t t2 ha hat
  split at h
  case h_2 => cases h
  rename_i r' hs' p hap
  cases h
  have := appE_ok hap (hl _ (List.mem_singleton.2 rfl))
  unfold actD opD
  rw [hop]
  simp only
  unfold bD
  rw [hcal]
  simp only [ha, hat, this]
 ·split at h
  case h_2 => cases h
  rename_i c hop
  split at h
  case h_2 => cases h
  rename_i hcal
  split at h
  case h_2 => cases h
  rename_i x y t t2 ha hat
  split at h
  case h_2 => cases h
  rename_i r' hs' p q hap
  cases h
  have := appR_ok hap (hl p (by simp)) (hl q (by simp))
  unfold actD opD
  rw [hop]
  simp only
  unfold bD
  rw [hcal]
  simp only [ha, hat, this]
def anyHid (P : Program) (pf : FuncId → Bool) (ops : Array Oper) (i : Nat) : Bool := (List.range ops.size).any fun j => open2 ops j i && (match ops[j]? with | some o => maker (cls P pf o) | none => false)
theorem killH_none {pth : Name} {W : Nat → List Name} {ops : Array Oper} {i : Nat} (h : anyHid P pf ops i = false) (s : HS) : killH (hid P pf ops pth W i) s = s := by
 have : ∀ n, hid P pf ops pth W i n = false := by
  intro n
  unfold hid
  unfold anyHid at h
  rw [List.any_eq_false] at h ⊢
  intro j hj hh
  rw [Bool.and_eq_true] at hh
  apply h j hj
  rw [Bool.and_eq_true]
  refine ⟨hh.1, ?_⟩
  have h2 := hh.2
  split at h2
  ·rename_i o ho
   simp only [ho]
   simp only [Bool.or_eq_true, Bool.and_eq_true] at h2
   rcases h2 with h2 | h2
   ·exact h2.1
   ·cases hk : cls P pf o <;> rw [hk] at h2 <;> simp_all [isEff, maker]
  ·cases h2
 unfold killH
 simp [this]
def drCL (s : HS) : List PV → Option (HS × List Prop)
 | [] => some (s, [])
 | x :: l => if closedB x then drCL s l else match drA s x with
  | some (_, s1, p) => if depthA x < 8 then (match drCL s1 l with
   | some (s2, q) => some (s2, p ++ q)
   | none => none) else none
  | none => none
theorem drCL_ok : ∀ (l : List PV) (s s1 : HS) (p : List Prop), drCL s l = some (s1, p) → (∀ q ∈ p, q) → ∃ l', mapS (dr 8) s l = some (l', s1)
 | [], s, s1, p, h, hp => by simp [drCL] at h; exact ⟨[], by simp [mapS, h.1]⟩
 | x :: l, s, s1, p, h, hp => by
  simp only [drCL] at h
  split at h
  ·rename_i hc
   obtain ⟨l', h1⟩ := drCL_ok l s s1 p h hp
   have h2 := mapS_closed (k := 7) (s := s) (l := [x]) (by simp [closedL, hc])
   have h3 : dr 8 s x = some (x, s) := dr_closed hc
   exact ⟨x :: l', by simp only [mapS, h3, h1]⟩
  ·split at h
   case h_2 => cases h
   rename_i y s2 p1 hx
   split at h
   case isFalse => cases h
   rename_i hd
   split at h
   case h_2 => cases h
   rename_i s3 q hl
   cases h
   have h3 := drA_ok x s y s2 p1 8 hx (fun q hq => hp q (List.mem_append_left _ hq)) hd
   obtain ⟨l', h4⟩ := drCL_ok l s2 s1 q hl (fun z hz => hp z (List.mem_append_right _ hz))
   exact ⟨y :: l', by simp only [mapS, h3, h4]⟩
def clearW (P : Program) (pf : FuncId → Bool) (ops : Array Oper) (pth : Name) (W : Nat → List Name) (j : Nat) (l : List Name) : Bool := l.all fun n => (W j).contains n && (List.range ops.size).all fun k => !open2 ops j k || !ownN (k :: pth) n
theorem clearW_ok {pth : Name} {W : Nat → List Name} {ops : Array Oper} {j : Nat} {l : List Name} (h : clearW P pf ops pth W j l = true) (s s1 : HS) : clear P pf ops pth W j l s s1 = true := by
 unfold clearW at h
 unfold clear
 rw [List.all_eq_true] at h ⊢
 intro n hn
 have := h n hn
 rw [Bool.and_eq_true] at this ⊢
 exact ⟨by rw [this.1, Bool.true_or], this.2⟩
def dactA (P : Program) (C : CallD) (gv : FuncId → Option (List PV → Option PV)) (gs : FuncId → Option SFun) (pf : FuncId → Bool) (ops : Array Oper) (pth : Name) (W : Nat → List Name) (i : Nat) (ad : Option Adv) (e : Operand → PV) (o : Oper) (s : HS) : Option (PV × HS × List Prop) :=
 match cls P pf o with
 | .pure => actA P C gv gs ad (i :: pth) e o s
 | .eff => if effOpen P pf ops i then (match foot P pf e o s with
  | some l => (match actA P C gv gs ad (i :: pth) e o s with
   | some (r, hs, q) => if clearW P pf ops pth W i l then some (r, hs, q) else some (r, hs, (clear P pf ops pth W i l s hs = true) :: q)
   | none => none)
  | none => none) else actA P C gv gs ad (i :: pth) e o s
 | .call => match callOf P e o with
  | some (_, args) => (match drCL (killH (hid P pf ops pth W i) s) args with
   | some (_, l) => (match actA P C gv gs ad (i :: pth) e o s with
    | some (r, hs, l') => some (r, hs, l ++ l')
    | none => none)
   | none => none)
  | none => none
 | _ => if anyHid P pf ops i then (match actA P C gv gs ad (i :: pth) e o (killH (hid P pf ops pth W i) s) with
  | some (_, _, l) => (match actA P C gv gs ad (i :: pth) e o s with
   | some (r, hs, l') => some (r, hs, l ++ l')
   | none => none)
  | none => none) else actA P C gv gs ad (i :: pth) e o s
theorem dactA_calm (hgv : GvOk C gv) (hgs : GsOk C gs) {ops : Array Oper} {pth : Name} {W : Nat → List Name} {i : Nat} {ad : Option Adv} {env : Nat → PV} {o : Oper} {s hs : HS} {r : PV} {l : List Prop}
  (h : (if anyHid P pf ops i then (match actA P C gv gs ad (i :: pth) (ev G env) o (killH (hid P pf ops pth W i) s) with
  | some (_, _, l) => (match actA P C gv gs ad (i :: pth) (ev G env) o s with
   | some (r, hs, l') => some (r, hs, l ++ l')
   | none => none)
  | none => none) else actA P C gv gs ad (i :: pth) (ev G env) o s) = some (r, hs, l)) (hl : ∀ p ∈ l, p) :
  (actD P C (i :: pth) (ev G env) o (killH (hid P pf ops pth W i) s)).isSome = true ∧ actD P C (i :: pth) (ev G env) o s = some (r, hs) := by
 split at h
 ·split at h
  case h_2 => cases h
  rename_i r1 hs1 l1 h1
  split at h
  case h_2 => cases h
  rename_i r2 hs2 l2 h2
  cases h
  exact ⟨by rw [actA_ok hgv hgs h1 (fun p hp => hl p (List.mem_append_left _ hp))]; rfl, actA_ok hgv hgs h2 (fun p hp => hl p (List.mem_append_right _ hp))⟩
 ·rename_i ha
  have ha : anyHid P pf ops i = false := by simpa using ha
  have h1 := actA_ok hgv hgs h hl
  exact ⟨by rw [killH_none ha, h1]; rfl, h1⟩
theorem dactA_ok (hgv : GvOk C gv) (hgs : GsOk C gs) {ops : Array Oper} {pth : Name} {W : Nat → List Name} {i : Nat} {ad : Option Adv} {env : Nat → PV} {o : Oper} {s hs : HS} {r : PV} {l : List Prop} (h : dactA P C gv gs pf ops pth W i ad (ev G env) o s = some (r, hs, l)) (hl : ∀ p ∈ l, p) : dact P C pf ops pth W i (ev G env) o s = some (r, hs) := by
 unfold dactA at h
 unfold dact guardC
 cases hk : cls P pf o <;> rw [hk] at h <;> simp only at h ⊢
 ·rw [if_pos trivial]; exact actA_ok hgv hgs h hl
 ·obtain ⟨g1, g2⟩ := dactA_calm hgv hgs h hl
  rw [g1, if_pos rfl, g2]
 ·obtain ⟨g1, g2⟩ := dactA_calm hgv hgs h hl
  rw [g1, if_pos rfl, g2]
 ·split at h
  case h_2 => cases h
  rename_i f args hc
  split at h
  case h_2 => cases h
  rename_i s1 l1 hd
  split at h
  case h_2 => cases h
  rename_i r2 hs2 l2 h2
  cases h
  obtain ⟨l', hm⟩ := drCL_ok _ _ _ _ hd (fun p hp => hl p (List.mem_append_left _ hp))
  rw [hc]
  simp only [hm, Option.isSome_some, if_true]
  exact actA_ok hgv hgs h2 (fun p hp => hl p (List.mem_append_right _ hp))
 ·split at h
  ·rename_i ho
   split at h
   case h_2 => cases h
   rename_i l1 hf
   split at h
   case h_2 => cases h
   rename_i r1 hs1 q hq
   split at h
   ·rename_i hcl
    cases h
    have hact := actA_ok hgv hgs hq hl
    simp only [ho, if_true, hf, hact, clearW_ok hcl]
   ·cases h
    have hact := actA_ok hgv hgs hq (fun p hp => hl p (List.mem_cons_of_mem _ hp))
    have hcl := hl _ (List.mem_cons_self ..)
    simp only [ho, if_true, hf, hact, hcl]
  ·rename_i ho
   simp only [ho, if_false, Bool.false_eq_true, if_true]
   exact actA_ok hgv hgs h hl
abbrev AdvR := Nat → Option Adv
def stepA (P : Program) (G : Glo) (C : CallD) (gv : FuncId → Option (List PV → Option PV)) (gs : FuncId → Option SFun) (pf : FuncId → Bool) (nt : Nat) (pth : Name) (W : Nat → List Name) (ops : Array Oper) (draw : Bool) (A : AdvR) (i : Nat) (σ : St) : Option (St × List Prop) :=
 match ops[i]? with
 | none => some (σ, [])
 | some o => match wantD ops σ.env nt o with
  | some true => match (if draw then dactA P C gv gs pf ops pth W i (A i) (ev G σ.env) o σ.hs else actA P C gv gs (A i) (i :: pth) (ev G σ.env) o σ.hs) with
   | some (r, hs, l) => match σ.set nt o.dst r hs with
    | some σ' => some (σ', l)
    | none => none
   | none => none
  | some false => match σ.set nt o.dst (.v undef) σ.hs with
   | some σ' => some (σ', [])
   | none => none
  | none => none
theorem stepA_ok (hgv : GvOk C gv) (hgs : GsOk C gs) {nt : Nat} {pth : Name} {W : Nat → List Name} {ops : Array Oper} {draw : Bool} {A : AdvR} {i : Nat} {σ σ' : St} {l : List Prop} (h : stepA P G C gv gs pf nt pth W ops draw A i σ = some (σ', l)) (hl : ∀ p ∈ l, p) :
  (if draw then dstep P G C pf nt pth W ops i σ else stepD P G C nt pth ops i σ) = some σ' := by
 have key : ∀ o, ops[i]? = some o → wantD ops σ.env nt o = some true → ∀ r hs, actD P C (i :: pth) (ev G σ.env) o σ.hs = some (r, hs) → stepD P G C nt pth ops i σ = σ.set nt o.dst r hs := by
  intro o ho hw r hs ha
  unfold stepD
  rw [ho]; simp only [hw]
  unfold actD at ha
  split at ha
  ·rename_i r' hs' h1; rw [h1]; cases ha; rfl
  ·rename_i h1
   rw [h1]; simp only
   split at ha
   ·rename_i g args hc; rw [hc]; simp only; rw [ha]
   ·cases ha
 unfold stepA at h
 split at h
 ·rename_i ho
  cases h
  cases draw <;> simp [dstep, stepD, ho]
 ·rename_i o ho
  split at h
  ·rename_i hw
   split at h
   case h_2 => cases h
   rename_i r hs l' ha
   split at h
   case h_2 => cases h
   rename_i σ1 hs'
   cases h
   cases draw with
   | true =>
    simp only [if_true] at ha ⊢
    have := dactA_ok hgv hgs ha hl
    unfold dstep wact
    simp only [ho, hw, this, hs']
   | false =>
    simp only [Bool.false_eq_true, if_false] at ha ⊢
    rw [key o ho hw r hs (actA_ok hgv hgs ha hl)]; exact hs'
  ·rename_i hw
   split at h
   case h_2 => cases h
   rename_i σ1 hs'
   cases h
   cases draw <;> simp [dstep, stepD, wact, ho, hw, hs']
  ·cases h
def runA (f : Nat → St → Option (St × List Prop)) : List Nat → St → Option (St × List Prop)
 | [], σ => some (σ, [])
 | i :: l, σ => match f i σ with
  | some (σ', p) => match runA f l σ' with
   | some (σ2, q) => some (σ2, p ++ q)
   | none => none
  | none => none
theorem runA_ok {f : Nat → St → Option (St × List Prop)} {g : Nat → St → Option St} (hfg : ∀ i σ σ' l, f i σ = some (σ', l) → (∀ p ∈ l, p) → g i σ = some σ') : ∀ (L : List Nat) (σ σ' : St) (l : List Prop), runA f L σ = some (σ', l) → (∀ p ∈ l, p) → runOps g L σ = some σ'
 | [], σ, σ', l, h, hl => by simp [runA] at h; simp [runOps, h.1]
 | i :: L, σ, σ', l, h, hl => by
  simp only [runA] at h
  split at h
  case h_2 => cases h
  rename_i σ1 p h1
  split at h
  case h_2 => cases h
  rename_i σ2 q h2
  cases h
  simp only [runOps]
  rw [hfg i σ σ1 p h1 fun x hx => hl x (List.mem_append_left _ hx)]
  exact runA_ok hfg L σ1 _ q h2 fun x hx => hl x (List.mem_append_right _ hx)
def regA (P : Program) (G : Glo) (C : CallD) (gv : FuncId → Option (List PV → Option PV)) (gs : FuncId → Option SFun) (pf : FuncId → Bool) (pth : Name) (nt : Nat) (A : Nat → AdvR) (id : Nat) (ops : Array Oper) (draw : Bool) (σ : St) : Option (St × List Prop) :=
 if draw && !drawOk P pf ops then none else runA (stepA P G C gv gs pf nt (id :: pth) (wOf P G pf ops σ) ops draw (A id)) (List.range ops.size) σ
theorem regA_ok (hgv : GvOk C gv) (hgs : GsOk C gs) {pth : Name} {nt : Nat} {A : Nat → AdvR} {id : Nat} {ops : Array Oper} {draw : Bool} {σ σ' : St} {l : List Prop} (h : regA P G C gv gs pf pth nt A id ops draw σ = some (σ', l)) (hl : ∀ p ∈ l, p) :
  regD P G C pf pth nt id ops draw σ = some σ' := by
 unfold regA at h
 split at h
 ·cases h
 rename_i hc
 have := runA_ok (g := fun i τ => if draw then dstep P G C pf nt (id :: pth) (wOf P G pf ops σ) ops i τ else stepD P G C nt (id :: pth) ops i τ) (fun i τ τ' l h hl => stepA_ok hgv hgs h hl) _ _ _ _ h hl
 unfold regD
 cases draw with
 | true =>
  simp only [Bool.true_and, Bool.not_eq_true', Bool.not_eq_false] at hc
  simp only [if_true, hc] at this ⊢
  exact this
 | false =>
  have e : runOps (stepD P G C nt (id :: pth) ops) (List.range ops.size) σ = some σ' := by simpa using this
  simp [e]
structure AdvC where
 op : List Nat → Nat → AdvR
 loop : List Nat → Nat → Option (Ex × St)
 unr : Nat → Bool
def turnsA (r : Nat) (keep : Option (List Nat)) (f : Nat → St → Option (Ex × St × List Prop)) : Nat → Nat → St → Option (Ex × St × List Prop)
 | 0, _, _ => none
 | k + 1, i, σ => match (match keep with | some keep => canonS r keep σ | none => some σ) with
  | none => none
  | some σ0 => match f i σ0 with
   | some (.normal, σ', l) => match turnsA r keep f k (i + 1) σ' with
    | some (ex, σ2, l') => some (ex, σ2, l ++ l')
    | none => none
   | x => x
def codeA (P : Program) (G : Glo) (C : CallD) (gv : FuncId → Option (List PV → Option PV)) (gs : FuncId → Option SFun) (pf : FuncId → Bool) (lf : Nat) (kt : Nat → Option (List Nat)) (r0 nt : Nat) (A : AdvC) (stop : Option Nat) : List Nat → Code → St → Option (Ex × St × List Prop)
 | _, .skip, σ => some (.normal, σ, [])
 | _, .label _, σ => some (.normal, σ, [])
 | pre, .region id ops draw, σ => match regA P G C gv gs pf [] nt (A.op pre) id ops draw σ with
  | some (σ', l) => some (.normal, σ', l)
  | none => none
 | pre, .seq x y, σ => match codeA P G C gv gs pf lf kt r0 nt A stop pre x σ with
  | some (.normal, σ', l) => match codeA P G C gv gs pf lf kt r0 nt A stop pre y σ' with
   | some (ex, σ2, l') => some (ex, σ2, l ++ l')
   | none => none
  | r => r
 | pre, .cond c x y, σ => match ev G σ.env c with
  | .v (.bool true) => codeA P G C gv gs pf lf kt r0 nt A stop pre x σ
  | .v (.bool false) => codeA P G C gv gs pf lf kt r0 nt A stop pre y σ
  | _ => none
 | pre, .block id c, σ => match codeA P G C gv gs pf lf kt r0 nt A stop pre c σ with
  | some (.exit id', σ', l) => if id' = id then some (.normal, σ', l) else some (.exit id', σ', l)
  | r => r
 | pre, .loop c, σ => if stop = some (keyOf c) then some (.exit 4294967295, σ, [False]) else match A.loop pre (keyOf c) with
  | some (ex, σ') => some (ex, σ', [loopX r0 (kt (keyOf c)) (codeP (regD P G C pf [] nt) G lf kt r0 c) lf σ = some (ex, σ')])
  | none => if A.unr (keyOf c) then turnsA r0 (kt (keyOf c)) (fun i σ => codeA P G C gv gs pf lf kt r0 nt A stop (i :: pre) c σ) lf 0 σ
   else match loopX r0 (kt (keyOf c)) (codeP (regD P G C pf [] nt) G lf kt r0 c) lf σ with
   | some (ex, σ') => some (ex, σ', [])
   | none => none
 | _, .exit id, σ => some (.exit id, σ, [])
 | _, .ret, σ => some (.ret, σ, [])
 | _, _, _ => none
theorem turnsA_ok {r : Nat} {keep : Option (List Nat)} {f : Nat → St → Option (Ex × St × List Prop)} {g : St → Option (Ex × St)} (hf : ∀ i σ ex σ' l, f i σ = some (ex, σ', l) → (∀ p ∈ l, p) → g σ = some (ex, σ')) :
  ∀ (k i : Nat) (σ : St) (ex : Ex) (σ' : St) (l : List Prop), turnsA r keep f k i σ = some (ex, σ', l) → (∀ p ∈ l, p) → loopX r keep g k σ = some (ex, σ')
 | 0, i, σ, ex, σ', l, h, hl => by simp [turnsA] at h
 | k + 1, i, σ, ex, σ', l, h, hl => by
  have step : ∀ σ0, (match f i σ0 with
    | some (.normal, σ', l) => (match turnsA r keep f k (i + 1) σ' with
     | some (ex, σ2, l') => some (ex, σ2, l ++ l')
     | none => none)
    | x => x) = some (ex, σ', l) → (match g σ0 with
    | some (.normal, σ') => loopX r keep g k σ'
    | x => x) = some (ex, σ') := by
   intro σ0 h
   split at h
   ·rename_i σ1 l1 h1
    split at h
    case h_2 => cases h
    rename_i ex2 σ2 l2 h2
    cases h
    rw [hf i σ0 _ σ1 l1 h1 fun p hp => hl p (List.mem_append_left _ hp)]
    exact turnsA_ok hf k (i + 1) σ1 ex σ' l2 h2 fun p hp => hl p (List.mem_append_right _ hp)
   ·rename_i hne
    rw [hf i σ0 ex σ' l h hl]
    cases ex with
    | normal => exact absurd h (hne _ _)
    | exit id => rfl
    | ret => rfl
  simp only [turnsA] at h
  cases keep with
  | none => exact step σ h
  | some keep =>
   simp only at h
   simp only [loopX, loopK]
   cases hc : canonS r keep σ with
   | none => rw [hc] at h; cases h
   | some σ0 => rw [hc] at h; exact step σ0 h
theorem codeA_ok (hgv : GvOk C gv) (hgs : GsOk C gs) {lf : Nat} {kt : Nat → Option (List Nat)} {r0 nt : Nat} {A : AdvC} {stop : Option Nat} : ∀ (c : Code) (pre : List Nat) (σ : St) (ex : Ex) (σ' : St) (l : List Prop), codeA P G C gv gs pf lf kt r0 nt A stop pre c σ = some (ex, σ', l) → (∀ p ∈ l, p) → codeP (regD P G C pf [] nt) G lf kt r0 c σ = some (ex, σ')
 | .skip, pre, σ, ex, σ', l, h, hl => by simp [codeA] at h; simp [codeP, h]
 | .label _, pre, σ, ex, σ', l, h, hl => by simp [codeA] at h; simp [codeP, h]
 | .region id ops draw, pre, σ, ex, σ', l, h, hl => by
  simp only [codeA] at h
  split at h
  case h_2 => cases h
  rename_i σ1 l1 h1
  cases h
  simp only [codeP, regA_ok hgv hgs h1 hl]
 | .seq x y, pre, σ, ex, σ', l, h, hl => by
  simp only [codeA] at h
  split at h
  ·rename_i σ1 l1 h1
   split at h
   case h_2 => cases h
   rename_i ex2 σ2 l2 h2
   cases h
   simp only [codeP, codeA_ok hgv hgs x pre σ _ _ _ h1 fun p hp => hl p (List.mem_append_left _ hp)]
   exact codeA_ok hgv hgs y pre σ1 _ _ _ h2 fun p hp => hl p (List.mem_append_right _ hp)
  ·rename_i hne
   have h1 := codeA_ok hgv hgs x pre σ _ _ _ h hl
   simp only [codeP, h1]
   cases ex with
   | normal => exact absurd h (hne _ _)
   | exit id => rfl
   | ret => rfl
 | .cond c x y, pre, σ, ex, σ', l, h, hl => by
  simp only [codeA] at h
  split at h
  ·rename_i hc; simp only [codeP, hc]; exact codeA_ok hgv hgs x pre σ _ _ _ h hl
  ·rename_i hc; simp only [codeP, hc]; exact codeA_ok hgv hgs y pre σ _ _ _ h hl
  ·cases h
 | .block id c, pre, σ, ex, σ', l, h, hl => by
  simp only [codeA] at h
  split at h
  ·rename_i id' σ1 l1 h1
   split at h
   ·rename_i hid
    cases h
    simp only [codeP, codeA_ok hgv hgs c pre σ _ _ _ h1 hl, hid, if_true]
   ·rename_i hid
    cases h
    simp only [codeP, codeA_ok hgv hgs c pre σ _ _ _ h1 hl, hid, if_false]
  ·rename_i hne
   have h1 := codeA_ok hgv hgs c pre σ _ _ _ h hl
   simp only [codeP, h1]
   cases ex with
   | normal => rfl
   | exit id' => exact absurd h (hne _ _ _)
   | ret => rfl
 | .loop c, pre, σ, ex, σ', l, h, hl => by
  simp only [codeA] at h
  split at h
  ·cases h
   exact (hl False (by simp)).elim
  split at h
  ·cases h
   simp only [codeP]
   exact hl _ (List.mem_singleton.2 rfl)
  ·split at h
   ·simp only [codeP]
    exact turnsA_ok (fun i σ ex σ' l h hl => codeA_ok hgv hgs c (i :: pre) σ ex σ' l h hl) _ _ _ _ _ _ h hl
   split at h
   case h_2 => cases h
   rename_i ex1 σ1 h1
   cases h
   simp only [codeP, h1]
 | .exit id, pre, σ, ex, σ', l, h, hl => by simp [codeA] at h; simp [codeP, h]
 | .ret, pre, σ, ex, σ', l, h, hl => by simp [codeA] at h; simp [codeP, h]
 | .scope _, pre, σ, ex, σ', l, h, hl => by simp [codeA] at h
 | .goto _, pre, σ, ex, σ', l, h, hl => by simp [codeA] at h
 | .rangeFunc .., pre, σ, ex, σ', l, h, hl => by simp [codeA] at h
 | .refuse _, pre, σ, ex, σ', l, h, hl => by simp [codeA] at h
def exOf (x : Option (Ex × St × List Prop)) : Option Ex := x.map (·.1)
def stOf (x : Option (Ex × St × List Prop)) : St := match x with
 | some (_, s, _) => s
 | none => ⟨fun _ => .v undef, emptyHS⟩
def obOf (x : Option (Ex × St × List Prop)) : List Prop := match x with
 | some (_, _, l) => l
 | none => [False]
def allP : List Prop → Prop
 | [] => True
 | p :: l => p ∧ allP l
theorem allP_iff : ∀ {l : List Prop}, allP l → ∀ p ∈ l, p
 | [], _, p, hp => by simp at hp
 | q :: l, h, p, hp => by
  rcases List.mem_cons.1 hp with rfl | hp
  ·exact h.1
  ·exact allP_iff h.2 p hp
theorem allN : allP [] := trivial
theorem allC {p : Prop} {l : List Prop} (h : p) (k : allP l) : allP (p :: l) := ⟨h, k⟩
theorem useA (hgv : GvOk C gv) (hgs : GsOk C gs) {lf : Nat} {kt : Nat → Option (List Nat)} {r0 nt : Nat} {A : AdvC} {c : Code} {σ : St} {ex : Ex} {l : List Prop} (h1 : exOf (codeA P G C gv gs pf lf kt r0 nt A none [] c σ) = some ex) (h2 : obOf (codeA P G C gv gs pf lf kt r0 nt A none [] c σ) = l) (hl : allP l) :
  codeP (regD P G C pf [] nt) G lf kt r0 c σ = some (ex, stOf (codeA P G C gv gs pf lf kt r0 nt A none [] c σ)) := by
 cases h : codeA P G C gv gs pf lf kt r0 nt A none [] c σ with
 | none => rw [h] at h1; cases h1
 | some x =>
  obtain ⟨ex1, σ1, l1⟩ := x
  rw [h] at h1 h2
  simp only [exOf, Option.map_some, Option.some.injEq] at h1
  simp only [obOf] at h2
  subst h1 h2
  exact codeA_ok hgv hgs c [] σ _ _ _ h (allP_iff hl)
end
def iterN {α β : Type} (f : α → Option (α ⊕ β)) : Nat → α → Option β
 | 0, _ => none
 | n + 1, a => match f a with
  | some (.inl a') => iterN f n a'
  | some (.inr b) => some b
  | none => none
theorem loop_iter {f : St → Option (Ex × St)} {r : Nat} {keep : List Nat} {α β : Type} (S : α → St) (g : α → Option (α ⊕ β)) (step : ∀ a a', g a = some (.inl a') → ∃ σ', f (S a) = some (.normal, σ') ∧ canonS r keep σ' = some (S a')) :
  ∀ (n : Nat) (a : α) (b : β) (σ : St), iterN g n a = some b → canonS r keep σ = some (S a) → ∃ a', g a' = some (.inr b) ∧ ∀ ex σ', ex ≠ .normal → f (S a') = some (ex, σ') → loopX r (some keep) f n σ = some (ex, σ')
 | 0, a, b, σ, h, h0 => by simp [iterN] at h
 | n + 1, a, b, σ, h, h0 => by
  simp only [iterN] at h
  split at h
  ·rename_i a1 h1
   obtain ⟨σ1, g1, g2⟩ := step a a1 h1
   obtain ⟨a', p, q⟩ := loop_iter S g step n a1 b σ1 h g2
   refine ⟨a', p, fun ex σ' hne hf => ?_⟩
   simp only [loopX, loopK, h0, g1]
   exact q ex σ' hne hf
  ·rename_i b1 h1
   cases h
   refine ⟨a, h1, fun ex σ' hne hf => ?_⟩
   simp only [loopX, loopK, h0, hf]
   cases ex with
   | normal => exact absurd rfl hne
   | exit id => rfl
   | ret => rfl
  ·cases h
def rdA0 (s : HS) (x : PV) : Option (PV × HS × List Prop) := if depthA x < 8 then drA s x else none
def rdAL (f : HS → PV → Option (PV × HS × List Prop)) : HS → List PV → Option (List PV × HS × List Prop)
 | s, [] => some ([], s, [])
 | s, x :: l => match f s x with
  | some (y, s1, p) => match rdAL f s1 l with
   | some (l', s2, q) => some (y :: l', s2, p ++ q)
   | none => none
  | none => none
def rdA1 (s : HS) : PV → Option (PV × HS × List Prop)
 | .agg cs => match rdAL rdA0 s cs with
  | some (l, s', p) => some (.agg l, s', p)
  | none => none
 | x => rdA0 s x
def rdA2 (s : HS) : PV → Option (PV × HS × List Prop)
 | .tup cs => match rdAL rdA1 s cs with
  | some (l, s', p) => some (.tup l, s', p)
  | none => none
 | x => rdA1 s x
def RdOk (f : HS → PV → Option (PV × HS × List Prop)) (g : HS → PV → Option (PV × HS × List Name)) : Prop := ∀ s x y s' l, f s x = some (y, s', l) → (∀ p ∈ l, p) → g s x = some (y, s', [])
theorem rdAL_ok {f : HS → PV → Option (PV × HS × List Prop)} {g : HS → PV → Option (PV × HS × List Name)} (hf : RdOk f g) : ∀ (cs : List PV) (s : HS) (l' : List PV) (s' : HS) (l : List Prop), rdAL f s cs = some (l', s', l) → (∀ p ∈ l, p) → mapR g s cs = some (l', s', [])
 | [], s, l', s', l, h, hl => by simp [rdAL] at h; obtain ⟨rfl, rfl, _⟩ := h; rfl
 | x :: cs, s, l', s', l, h, hl => by
  simp only [rdAL] at h
  split at h
  case h_2 => cases h
  rename_i y s1 p h1
  split at h
  case h_2 => cases h
  rename_i l2 s2 q h2
  cases h
  simp only [mapR]
  rw [hf s x y s1 p h1 fun a ha => hl a (List.mem_append_left _ ha)]
  simp only
  rw [rdAL_ok hf cs s1 l2 s' q h2 fun a ha => hl a (List.mem_append_right _ ha)]
  rfl
theorem rdA0_ok : RdOk rdA0 (reify0 false) := by
 intro s x y s' l h hl
 unfold rdA0 at h
 split at h
 case isFalse => cases h
 rename_i hd
 unfold reify0
 simp only [Bool.false_eq_true, if_false]
 rw [drA_ok x s y s' l 8 h hl hd]
theorem rdA1_ok : RdOk rdA1 (reify1 false) := by
 intro s x y s' l h hl
 cases x with
 | agg cs =>
  simp only [rdA1] at h
  split at h
  case h_2 => cases h
  rename_i l' s2 p hm
  cases h
  simp only [reify1]
  rw [rdAL_ok rdA0_ok cs s l' s' l hm hl]
 | _ => exact rdA0_ok s _ y s' l h hl
theorem rdA2_ok : RdOk rdA2 (reify2 false) := by
 intro s x y s' l h hl
 have key : (∃ cs, x = .tup cs) ∨ (rdA2 s x = rdA1 s x ∧ reify2 false s x = reify1 false s x) := by
  cases x <;> first | exact .inl ⟨_, rfl⟩ | exact .inr ⟨rfl, rfl⟩
 rcases key with ⟨cs, rfl⟩ | ⟨h1, h2⟩
 ·simp only [rdA2] at h
  split at h
  case h_2 => cases h
  rename_i l' s2 p hm
  cases h
  simp only [reify2]
  rw [rdAL_ok rdA1_ok cs s l' s' l hm hl]
 ·rw [h1] at h
  rw [h2]
  exact rdA1_ok s x y s' l h hl
def ansA (P : Program) (ts : List TypeId) (σ : St) (l : List ResultVar) : Option (PV × List Prop) := match resD P σ l with
 | some xs => match rdA2 σ.hs (normR P false ts (oneOr xs)) with
  | some (y, _, l) => some (y, l)
  | none => none
 | none => none
theorem ansA_ok {P : Program} {ts : List TypeId} {σ : St} {l : List ResultVar} {r : PV} {q : List Prop} (h : ansA P ts σ l = some (r, q)) (hq : allP q) : (match resD P σ l with | some xs => reify false (normR P false ts (oneOr xs)) σ.hs | none => none) = some r := by
 unfold ansA at h
 split at h
 case h_2 => cases h
 rename_i xs hx
 split at h
 case h_2 => cases h
 rename_i y s' l' hr
 cases h
 try simp only
 unfold reify
 rw [rdA2_ok _ _ _ _ _ hr (allP_iff hq)]
 rfl
theorem isoD_of {P : Program} {G : Glo} {C : CallD} {pf : FuncId → Bool} {own : Bool} {lf : Nat} {kt : Nat → Option (List Nat)} {f : FuncId} {args : List PV} {fn : Func} {c : Code} {nt : Nat} (hf : P.funcs[f]? = some fn) (hc : fn.body = some c) (hn : fn.ntmps = nt) (hl : args.length ≤ nt) {ps rs : List TypeId} (hp : fn.params.toList = ps) (hrs : fn.resultTypes.toList = rs) {ex : Ex} {σ : St} (hex : ∀ id, ex ≠ .exit id)
  (h : codeP (regD P G C pf [] nt) G lf kt 0 c ⟨fun t => (normA P false ps args).getD t (.v undef), emptyHS⟩ = some (ex, σ)) {r : PV} (hr : (match resD P σ fn.results.toList with | some xs => reify own (normR P false rs (oneOr xs)) σ.hs | none => none) = some r) : isoD P G C pf own lf kt f args = some r := by
 unfold isoD bodyP paramsOf resultsOf
 rw [hf]; simp only [hc, hn, hp, hrs, normA_len, hl, if_true, h]
 have : (match resD P σ fn.results.toList with | some xs => some (oneOr xs, σ.hs) | none => none) = (match resD P σ fn.results.toList with | some xs => some (oneOr xs, σ.hs) | none => none) := rfl
 cases hx : resD P σ fn.results.toList with
 | none => rw [hx] at hr; cases hr
 | some xs =>
  rw [hx] at hr
  cases ex with
  | exit id => exact absurd rfl (hex id)
  | normal => exact hr
  | ret => exact hr
theorem runSD_of {P : Program} {G : Glo} {C : CallD} {pf : FuncId → Bool} {lf : Nat} {kt : Nat → Option (List Nat)} {f : FuncId} {args : List PV} {bs : List (Option Blk)} {fs : List Nat} {fn : Func} {c : Code} {nt : Nat} (hf : P.funcs[f]? = some fn) (hc : fn.body = some c) (hn : fn.ntmps = nt) (hl : args.length ≤ nt) {ps rs : List TypeId} {ex : Ex} {σ : St} (hex : ∀ id, ex ≠ .exit id)
  (h : codeP (regD P G C pf [] nt) G lf kt bs.length c ⟨fun t => (normA P false ps args).getD t (.v undef), hsL bs fs⟩ = some (ex, σ)) {x : PV × List (Option Blk) × List Nat} (hr : (match resD P σ fn.results.toList with | some xs => canonV bs.length (normR P true rs (oneOr xs)) σ.hs | none => none) = some x) :
  runSD P G (regD P G C pf []) (normA P false ps) (normR P true rs) lf kt f args bs fs = some x := by
 unfold runSD bodyP
 rw [hf]; simp only [hc, hn, normA_len, hl, if_true, h]
 cases hx : resD P σ fn.results.toList with
 | none => rw [hx] at hr; cases hr
 | some xs =>
  rw [hx] at hr
  cases ex with
  | exit id => exact absurd rfl (hex id)
  | normal => exact hr
  | ret => exact hr
def cAt : Code → List Bool → Code
 | c, [] => c
 | .seq x y, b :: l => if b then cAt y l else cAt x l
 | .cond _ x y, b :: l => if b then cAt y l else cAt x l
 | .block _ c, _ :: l => cAt c l
 | .loop c, _ :: l => cAt c l
 | c, _ :: _ => c
end Go.Proofs.YtdbekeidlppfiaaGreatDoor.Den
