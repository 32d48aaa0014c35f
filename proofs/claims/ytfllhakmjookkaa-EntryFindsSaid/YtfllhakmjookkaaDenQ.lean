/- A plain reading of Go's text: runs on things that are not known, by advice; what the advice takes for granted is listed. -/
import Derived.Test.YtfllhakmjookkaaDenO
set_option linter.unusedVariables false
set_option linter.unusedSimpArgs false
namespace Go.Proofs.Ytfllhakmjookkaa.Den
open Go Go.RowKit

/-- Advice for one operation. -/
inductive Adv where
  /-- what is computed is this -/
  | eq (r : PV)
  /-- it comes to this, whatever the heap -/
  | raw (r : PV)
  /-- the element is this -/
  | elem (y : List PV)
  /-- the plain function answers this -/
  | ret (r : PV)
  /-- there is room -/
  | ok
/-- What names stand for. -/
def eL (l : List (Operand × PV)) (x : Operand) : PV := match x with
  | .tmp t => match l.find? (fun p => match p.1 with | .tmp t' => t' == t | _ => false) with
    | some p => p.2
    | none => .v undef
  | .const v => PV.ofV v
  | .global g => match l.find? (fun p => match p.1 with | .global t' => t' == g | _ => false) with
    | some p => p.2
    | none => .v undef
  | .func f => .clo f []
def vals (e : Operand → PV) (l : List Operand) : List (Operand × PV) := (l.filter fun x => match x with | .tmp _ => true | .global _ => true | _ => false).map fun x => (x, e x)
theorem eL_vals {G : Glo} {env : Nat → PV} (l : List Operand) : ∀ x ∈ l, ev G env x = eL (vals (ev G env) l) x := by
  intro x hx
  cases x with
  | const v => rfl
  | func f => rfl
  | tmp t =>
    simp only [eL]
    have : ∃ p, (vals (ev G env) l).find? (fun p => match p.1 with | .tmp t' => t' == t | _ => false) = some p := by
      rw [← Option.isSome_iff_exists, List.find?_isSome]
      exact ⟨(.tmp t, ev G env (.tmp t)), List.mem_map.2 ⟨.tmp t, List.mem_filter.2 ⟨hx, rfl⟩, rfl⟩, by simp⟩
    obtain ⟨p, hp⟩ := this
    rw [hp]
    have h1 := List.mem_of_find?_eq_some hp
    have h2 := List.find?_some hp
    obtain ⟨y, hy, rfl⟩ := List.mem_map.1 h1
    cases y <;> simp at h2
    subst h2; rfl
  | global g =>
    simp only [eL]
    have : ∃ p, (vals (ev G env) l).find? (fun p => match p.1 with | .global t' => t' == g | _ => false) = some p := by
      rw [← Option.isSome_iff_exists, List.find?_isSome]
      exact ⟨(.global g, ev G env (.global g)), List.mem_map.2 ⟨.global g, List.mem_filter.2 ⟨hx, rfl⟩, rfl⟩, by simp⟩
    obtain ⟨p, hp⟩ := this
    rw [hp]
    have h1 := List.mem_of_find?_eq_some hp
    have h2 := List.find?_some hp
    obtain ⟨y, hy, rfl⟩ := List.mem_map.1 h1
    cases y <;> simp at h2
    subst h2; rfl

section
variable {P : Program} {G : Glo} {C : CallD} {gv : FuncId → Option (List PV → Option PV)} {pf : FuncId → Bool}
/-- What plain functions are. -/
def GvOk (C : CallD) (gv : FuncId → Option (List PV → Option PV)) : Prop := ∀ f g, gv f = some g → ∀ args nm s, C f args nm s = plainD g args nm s

/-! ### indices, loads, stores, appends -/
def idxE (P : Program) (s : HS) (t : TypeId) (x ix : PV) (y : List PV) : Option (PV × Prop) :=
  match P.underlying t, intOfPV ix with
  | some (.slice e), some j => match tsz P e with
    | some sz => match x with
      | .row n k i len => match s.h n with
        | (k', some b) => if k' = k ∧ b.sz = sz then some (.ptr n k (i + j.toNat) 0, 0 ≤ j ∧ j < len) else none
        | _ => none
      | .list sz' _ xs => if sz' = sz then some (.eptr y, 0 ≤ j ∧ xs[j.toNat]? = some y) else none
      | _ => none
    | none => none
  | _, _ => none
theorem idxE_ok {s : HS} {t : TypeId} {x ix z : PV} {y : List PV} {p : Prop} (h : idxE P s t x ix y = some (z, p)) (hp : p) : idxA P s t x ix = some z := by
  unfold idxE at h
  unfold idxA
  split at h
  case h_2 => cases h
  rename_i e j hu hj
  rw [hu, hj]
  simp only
  split at h
  case h_2 => cases h
  rename_i sz hz
  rw [hz]
  simp only
  split at h
  · split at h
    case h_2 => cases h
    rename_i b hn
    split at h
    case isFalse => cases h
    rename_i hc
    cases h
    simp only
    rw [hn]
    simp only
    rw [if_pos ⟨hc.1, hc.2, hp⟩]
  · split at h
    case isFalse => cases h
    rename_i hc
    cases h
    simp only
    rw [if_pos ⟨hc, hp.1⟩, hp.2]
  · cases h
def ldE (P : Program) (s : HS) (t : TypeId) (p : PV) (y : List PV) : Option (PV × Prop) :=
  match isA P t, tsz P t with
  | some ag, some sz => match p with
    | .ptr n k i off => match s.h n with
      | (k', some b) => if k' = k ∧ off + sz ≤ y.length then match mkv ag ((y.drop off).take sz) with
        | some z => some (z, b.xs[i]? = some y)
        | none => none else none
      | _ => none
    | _ => none
  | _, _ => none
theorem ldE_ok {s : HS} {t : TypeId} {x z : PV} {y : List PV} {p : Prop} (h : ldE P s t x y = some (z, p)) (hp : p) : ldD P s t x = some z := by
  unfold ldE at h
  unfold ldD
  split at h
  case h_2 => cases h
  rename_i ag sz ha hz
  rw [ha, hz]
  simp only
  split at h
  case h_2 => cases h
  rename_i n k i off
  split at h
  case h_2 => cases h
  rename_i k' b hn
  split at h
  case isFalse => cases h
  rename_i hc
  split at h
  case h_2 => cases h
  rename_i z' hm
  cases h
  simp only
  rw [hn]
  simp only
  rw [if_pos hc.1, hp]
  simp only
  rw [if_pos hc.2, hm]
def stE (P : Program) (prot : Name) (s : HS) (t : TypeId) (p x : PV) (e : List PV) : Option (HS × Prop) :=
  match tsz P t, x.celled, p with
  | some sz, some cs, .ptr n k i off => match s.h n with
    | (k', some b) => if k' = k ∧ cs.length = sz ∧ okName prot n = true ∧ off + sz ≤ e.length then
        some ({ h := upd s.h n (k, some { b with xs := b.xs.set i (e.take off ++ cs ++ e.drop (off + sz)) }), fz := s.fz }, s.fz n ≤ i ∧ b.xs[i]? = some e) else none
    | _ => none
  | _, _, _ => none
theorem stE_ok {prot : Name} {s s1 : HS} {t : TypeId} {x z : PV} {y : List PV} {p : Prop} (h : stE P prot s t x z y = some (s1, p)) (hp : p) : stD P prot s t x z = some s1 := by
  unfold stE at h
  unfold stD
  split at h
  case h_2 => cases h
  rename_i sz cs n k i off hz hc
  rw [hz, hc]
  simp only
  split at h
  case h_2 => cases h
  rename_i k' b hn
  split at h
  case isFalse => cases h
  rename_i hc
  cases h
  rw [hn]
  simp only
  rw [if_pos ⟨hc.1, hc.2.1, hp.1, hc.2.2.1⟩, hp.2]
  simp only
  rw [if_pos hc.2.2.2]

def appE (P : Program) (prot n : Name) (s : HS) (t t2 : TypeId) (x y : PV) : Option (PV × HS × Prop) :=
  if t2 ≠ t then none else
  match P.underlying t with
  | some (.slice e) => match inf P e with
    | some (sz + 1, by_, _) => match elsN s (sz + 1) y with
      | some ys => match x with
        | .row n0 k 0 len => match s.h n0 with
          | (k', some b) => if k' = k ∧ b.sz = sz + 1 ∧ b.E = e ∧ okName prot n0 = true then
              some (.row n ((s.h n).1 + 1) 0 (len + ys.length), { h := upd (upd s.h n0 (k, none)) n ((s.h n).1 + 1, some { b with xs := b.xs ++ ys }), fz := upd s.fz n (s.fz n0) }, len = b.xs.length ∧ len + ys.length ≤ 140737488355328 ∧ (len + ys.length) * by_ ≤ 140737488355328)
            else none
          | _ => none
        | .v (.slice none 0 0) => match ys with
          | [] => none
          | y0 :: ys0 => some (.row n ((s.h n).1 + 1) 0 (y0 :: ys0).length, newS s n ⟨sz + 1, e, y0 :: ys0⟩, (y0 :: ys0).length ≤ 140737488355328 ∧ (y0 :: ys0).length * by_ ≤ 140737488355328)
        | .list sz' true xs => match ys with
          | [] => none
          | y0 :: ys0 => if sz' = sz + 1 then
              some (.row n ((s.h n).1 + 1) 0 (xs.length + (y0 :: ys0).length), newS s n ⟨sz + 1, e, xs ++ (y0 :: ys0)⟩, xs.length + (y0 :: ys0).length ≤ 140737488355328 ∧ (xs.length + (y0 :: ys0).length) * by_ ≤ 140737488355328) else none
        | _ => none
      | none => none
    | _ => none
  | _ => none
theorem appE_ok {prot n : Name} {s s1 : HS} {t t2 : TypeId} {x y z : PV} {p : Prop} (h : appE P prot n s t t2 x y = some (z, s1, p)) (hp : p) : appD P prot n s t t2 x y = some (z, s1) := by
  unfold appE at h
  unfold appD
  split at h
  · cases h
  rename_i ht
  rw [if_neg ht]
  split at h
  case h_2 => cases h
  rename_i e hu
  split at h
  case h_2 => cases h
  rename_i sz by_ z0 hi
  split at h
  case h_2 => cases h
  rename_i ys hys
  rw [hu]; simp only [hi, hys]
  split at h
  · rename_i n0 k len
    split at h
    case h_2 => cases h
    rename_i k' b hn
    split at h
    case isFalse => cases h
    rename_i hc
    cases h
    simp only
    rw [hn]
    simp only
    rw [if_pos ⟨hc.1, hp.1, hc.2.1, hc.2.2.1, hc.2.2.2, hp.2.1, hp.2.2⟩]
  · split at h
    · cases h
    · cases h
      simp only
      rw [if_pos hp]
  · split at h
    · cases h
    · split at h
      case isFalse => cases h
      rename_i hc
      cases h
      simp only
      rw [if_pos ⟨hc, hp⟩]
  · cases h

/-! ### reading deep, by shape -/
mutual
def depthA : PV → Nat
  | .agg cs => depthL cs + 1
  | _ => 0
def depthL : List PV → Nat
  | [] => 0
  | x :: l => max (depthA x) (depthL l)
end
mutual
def drA (s : HS) : PV → Option (PV × HS × List Prop)
  | .list sz full xs => some (.list sz full xs, s, [closedLL xs = true])
  | .row n k i len => match s.h n with
    | (k', some b) => if k' = k then some (.list b.sz false b.xs, { s with fz := upd s.fz n (max (s.fz n) (i + len)) }, [i = 0 ∧ len = b.xs.length, closedLL b.xs = true]) else none
    | _ => none
  | .agg cs => match drAL s cs with
    | some (l, s', p) => some (.agg l, s', p)
    | none => none
  | .clo f cs => if closedL cs then some (.clo f cs, s, []) else none
  | .v x => some (.v x, s, [])
  | .far k => some (.far k, s, [])
  | _ => none
def drAL (s : HS) : List PV → Option (List PV × HS × List Prop)
  | [] => some ([], s, [])
  | x :: l => match drA s x with
    | some (y, s1, p) => match drAL s1 l with
      | some (l', s2, q) => some (y :: l', s2, p ++ q)
      | none => none
    | none => none
end
theorem dr_closed {k : Nat} {s : HS} {x : PV} (h : closedB x = true) : dr k s x = some (x, s) := by
  cases k <;> simp [dr, h]
theorem mapS_closed {k : Nat} {s : HS} : ∀ {l : List PV}, closedL l = true → mapS (dr k) s l = some (l, s)
  | [], _ => rfl
  | x :: l, h => by
    simp only [closedL, Bool.and_eq_true] at h
    simp [mapS, dr_closed h.1, mapS_closed h.2]
mutual
theorem drA_ok : ∀ (x : PV) (s : HS) (y : PV) (s' : HS) (l : List Prop) (k : Nat), drA s x = some (y, s', l) → (∀ p ∈ l, p) → depthA x < k → dr k s x = some (y, s')
  | .list sz full xs, s, y, s', l, k, h, hl, hk => by
    simp only [drA, Option.some.injEq, Prod.mk.injEq] at h
    obtain ⟨rfl, rfl, rfl⟩ := h
    exact dr_closed (by simpa [closedB] using hl _ (List.mem_singleton.2 rfl))
  | .row n kk i len, s, y, s', l, k, h, hl, hk => by
    simp only [drA] at h
    split at h
    case h_2 => cases h
    rename_i k' b hn
    split at h
    case isFalse => cases h
    rename_i hkk
    cases h
    obtain ⟨rfl, rfl⟩ := hl (i = 0 ∧ len = b.xs.length) (by simp)
    have hc := hl (closedLL b.xs = true) (by simp)
    obtain ⟨k2, rfl⟩ : ∃ k2, k = k2 + 1 := ⟨k - 1, by omega⟩
    simp [dr, closedB, hn, hkk, hc]
  | .agg cs, s, y, s', l, k, h, hl, hk => by
    simp only [drA] at h
    split at h
    case h_2 => cases h
    rename_i l' s2 p hm
    cases h
    obtain ⟨k2, rfl⟩ : ∃ k2, k = k2 + 1 := ⟨k - 1, by omega⟩
    have h1 := drAL_ok cs s l' s' l k2 hm hl (by simp only [depthA] at hk; omega)
    simp only [dr]
    split
    · rename_i hc
      have h2 := mapS_closed (k := k2) (s := s) (l := cs) (by simpa [closedB] using hc)
      rw [h2] at h1
      simp only [Option.some.injEq, Prod.mk.injEq] at h1
      rw [h1.1, h1.2]
    · simp only [h1]
  | .clo f cs, s, y, s', l, k, h, hl, hk => by
    simp only [drA] at h
    split at h
    · rename_i hc; cases h; exact dr_closed (by simpa [closedB] using hc)
    · cases h
  | .v x, s, y, s', l, k, h, hl, hk => by simp [drA] at h; obtain ⟨rfl, rfl, _⟩ := h; exact dr_closed rfl
  | .far q, s, y, s', l, k, h, hl, hk => by simp [drA] at h; obtain ⟨rfl, rfl, _⟩ := h; exact dr_closed rfl
  | .ptr .., s, y, s', l, k, h, hl, hk => by simp [drA] at h
  | .eptr .., s, y, s', l, k, h, hl, hk => by simp [drA] at h
  | .tup .., s, y, s', l, k, h, hl, hk => by simp [drA] at h
  | .ifc .., s, y, s', l, k, h, hl, hk => by simp [drA] at h
  | .own .., s, y, s', l, k, h, hl, hk => by simp [drA] at h
  | .unk, s, y, s', l, k, h, hl, hk => by simp [drA] at h
theorem drAL_ok : ∀ (cs : List PV) (s : HS) (l' : List PV) (s' : HS) (l : List Prop) (k : Nat), drAL s cs = some (l', s', l) → (∀ p ∈ l, p) → depthL cs < k → mapS (dr k) s cs = some (l', s')
  | [], s, l', s', l, k, h, hl, hk => by simp [drAL] at h; obtain ⟨rfl, rfl, _⟩ := h; rfl
  | x :: cs, s, l', s', l, k, h, hl, hk => by
    simp only [drAL] at h
    split at h
    case h_2 => cases h
    rename_i y s1 p h1
    split at h
    case h_2 => cases h
    rename_i l2 s2 q h2
    cases h
    simp only [depthL] at hk
    simp only [mapS]
    rw [drA_ok x s y s1 p k h1 (fun a ha => hl a (List.mem_append_left _ ha)) (by omega)]
    simp only
    rw [drAL_ok cs s1 l2 s' q k h2 (fun a ha => hl a (List.mem_append_right _ ha)) (by omega)]
end

/-- An operation, by advice. -/
def actA (P : Program) (C : CallD) (gv : FuncId → Option (List PV → Option PV)) (ad : Option Adv) (nm : Name) (e : Operand → PV) (o : Oper) (s : HS) : Option (PV × HS × List Prop) :=
  match ad with
  | none => match actD P C nm e o s with
    | some (r, hs) => some (r, hs, [])
    | none => none
  | some (.eq r) => match actD P C nm e o s with
    | some (r0, hs) => some (r, hs, [r0 = r])
    | none => none
  | some (.raw r) => some (r, s, [∀ s, opD P [] nm s (eL (vals e o.op.operands.toList)) o = some (r, s)])
  | some (.elem y) => match o.op with
    | .indexAddr t x i => match idxE P s t (e x) (e i) y with
      | some (r, p) => some (r, s, [p])
      | none => none
    | .load t a => match ldE P s t (e a) y with
      | some (r, p) => some (r, s, [p])
      | none => none
    | .store t a x => match stE P [] s t (e a) (e x) y with
      | some (hs, p) => some (.v undef, hs, [p])
      | none => none
    | _ => none
  | some (.ret r) => match opD P [] nm s e o with
    | some _ => none
    | none => match callOf e o with
      | some (f, args) => match gv f with
        | some g => if depthL args < 8 then match drAL s args with
          | some (cargs, s1, l) => some (pl2 nm s1 0 r, addS s1 (nw nm 0 (owns2 r) (List.replicate (owns2 r).length 0)), l ++ [g cargs = some r])
          | none => none else none
        | none => none
      | none => none
  | some .ok => match o.op with
    | .call c => match c.callee with
      | .builtin .append => match c.args.toList, c.argTypes.toList with
        | [x, y], [t, t2] => match appE P [] nm s t t2 (e x) (e y) with
          | some (r, hs, p) => some (r, hs, [p])
          | none => none
        | _, _ => none
      | _ => none
    | _ => none
theorem actA_ok (hgv : GvOk C gv) {ad : Option Adv} {nm : Name} {env : Nat → PV} {o : Oper} {s hs : HS} {r : PV} {l : List Prop} (h : actA P C gv ad nm (ev G env) o s = some (r, hs, l)) (hl : ∀ p ∈ l, p) : actD P C nm (ev G env) o s = some (r, hs) := by
  unfold actA at h
  split at h
  · split at h
    · rename_i h1; cases h; exact h1
    · cases h
  · split at h
    · rename_i h1; cases h
      have := hl _ (List.mem_singleton.2 rfl)
      rw [h1, this]
    · cases h
  · cases h
    have := hl _ (List.mem_singleton.2 rfl) s
    unfold actD
    rw [opD_congr (e' := eL (vals (ev G env) o.op.operands.toList)) (fun x hx => eL_vals _ x (by simpa using hx)), this]
  · split at h
    · rename_i t x i hop
      split at h
      · rename_i r' p hi
        cases h
        have := idxE_ok hi (hl _ (List.mem_singleton.2 rfl))
        unfold actD opD
        rw [hop]; simp only [this, Option.map_some]
      · cases h
    · rename_i t x hop
      split at h
      · rename_i r' p hi
        cases h
        have := ldE_ok hi (hl _ (List.mem_singleton.2 rfl))
        unfold actD opD
        rw [hop]; simp only [this, Option.map_some]
      · cases h
    · rename_i t x y hop
      split at h
      · rename_i r' p hi
        cases h
        have := stE_ok hi (hl _ (List.mem_singleton.2 rfl))
        unfold actD opD
        rw [hop]; simp only [this, Option.map_some]
      · cases h
    · cases h
  · split at h
    · cases h
    · rename_i hop
      split at h
      case h_2 => cases h
      rename_i f args hc
      split at h
      case h_2 => cases h
      rename_i g hg
      split at h
      case isFalse => cases h
      rename_i hdp
      split at h
      case h_2 => cases h
      rename_i cargs s1 l1 hm
      cases h
      have := hl (g cargs = some _) (List.mem_append_right _ (List.mem_singleton.2 rfl))
      unfold actD
      rw [hop, hc]
      simp only
      rw [hgv f g hg]
      unfold plainD
      rw [drAL_ok args s cargs s1 l1 8 hm (fun p hp => hl p (List.mem_append_left _ hp)) hdp]
      simp only [this]
  · split at h
    case h_2 => cases h
    rename_i c hop
    split at h
    case h_2 => cases h
    rename_i hcal
    split at h
    case h_2 => cases h
    rename_i x y t t2 ha hat
    split at h
    case h_2 => cases h
    rename_i r' hs' p hap
    cases h
    have := appE_ok hap (hl _ (List.mem_singleton.2 rfl))
    unfold actD opD
    rw [hop]
    simp only
    unfold bD
    rw [hcal]
    simp only [ha, hat, this]

/-! ### regions -/
def anyHid (pf : FuncId → Bool) (ops : Array Oper) (i : Nat) : Bool := (List.range ops.size).any fun j => open2 ops j i && (match ops[j]? with | some o => maker (cls pf o) | none => false)
theorem killH_none {pth : Name} {ops : Array Oper} {i : Nat} (h : anyHid pf ops i = false) (s : HS) : killH (hid pf ops pth i) s = s := by
  have : ∀ n, hid pf ops pth i n = false := by
    intro n
    unfold hid
    unfold anyHid at h
    rw [List.any_eq_false] at h ⊢
    intro j hj hh
    rw [Bool.and_eq_true] at hh
    exact h j hj hh.1
  unfold killH
  simp [this]
def dactA (P : Program) (C : CallD) (gv : FuncId → Option (List PV → Option PV)) (pf : FuncId → Bool) (ops : Array Oper) (pth : Name) (i : Nat) (ad : Option Adv) (e : Operand → PV) (o : Oper) (s : HS) : Option (PV × HS × List Prop) :=
  if calm (cls pf o) && anyHid pf ops i then match actA P C gv ad (i :: pth) e o (killH (hid pf ops pth i) s) with
    | some (_, _, l) => match actA P C gv ad (i :: pth) e o s with
      | some (r, hs, l') => some (r, hs, l ++ l')
      | none => none
    | none => none
  else actA P C gv ad (i :: pth) e o s
theorem dactA_ok (hgv : GvOk C gv) {ops : Array Oper} {pth : Name} {i : Nat} {ad : Option Adv} {env : Nat → PV} {o : Oper} {s hs : HS} {r : PV} {l : List Prop} (h : dactA P C gv pf ops pth i ad (ev G env) o s = some (r, hs, l)) (hl : ∀ p ∈ l, p) : dact P C pf ops pth i (ev G env) o s = some (r, hs) := by
  unfold dactA at h
  unfold dact
  split at h
  · rename_i hc
    rw [Bool.and_eq_true] at hc
    split at h
    case h_2 => cases h
    rename_i r1 hs1 l1 h1
    split at h
    case h_2 => cases h
    rename_i r2 hs2 l2 h2
    cases h
    rw [if_pos hc.1, actA_ok hgv h1 (fun p hp => hl p (List.mem_append_left _ hp))]
    exact actA_ok hgv h2 (fun p hp => hl p (List.mem_append_right _ hp))
  · rename_i hc
    have h1 := actA_ok hgv h hl
    split
    · rename_i hcl
      have : anyHid pf ops i = false := by
        cases ha : anyHid pf ops i with
        | false => rfl
        | true => simp [hcl, ha] at hc
      rw [killH_none this, h1]
    · exact h1
abbrev AdvR := Nat → Option Adv
def stepA (P : Program) (G : Glo) (C : CallD) (gv : FuncId → Option (List PV → Option PV)) (pf : FuncId → Bool) (nt : Nat) (pth : Name) (ops : Array Oper) (draw : Bool) (A : AdvR) (i : Nat) (σ : St) : Option (St × List Prop) :=
  match ops[i]? with
  | none => some (σ, [])
  | some o => match wantD ops σ.env nt o with
    | some true => match (if draw then dactA P C gv pf ops pth i (A i) (ev G σ.env) o σ.hs else actA P C gv (A i) (i :: pth) (ev G σ.env) o σ.hs) with
      | some (r, hs, l) => match σ.set nt o.dst r hs with
        | some σ' => some (σ', l)
        | none => none
      | none => none
    | some false => match σ.set nt o.dst (.v undef) σ.hs with
      | some σ' => some (σ', [])
      | none => none
    | none => none
theorem stepA_ok (hgv : GvOk C gv) {nt : Nat} {pth : Name} {ops : Array Oper} {draw : Bool} {A : AdvR} {i : Nat} {σ σ' : St} {l : List Prop} (h : stepA P G C gv pf nt pth ops draw A i σ = some (σ', l)) (hl : ∀ p ∈ l, p) :
    (if draw then dstep P G C pf nt pth ops i σ else stepD P G C nt pth ops i σ) = some σ' := by
  have key : ∀ o, ops[i]? = some o → wantD ops σ.env nt o = some true → ∀ r hs, actD P C (i :: pth) (ev G σ.env) o σ.hs = some (r, hs) → stepD P G C nt pth ops i σ = σ.set nt o.dst r hs := by
    intro o ho hw r hs ha
    unfold stepD
    rw [ho]; simp only [hw]
    unfold actD at ha
    split at ha
    · rename_i r' hs' h1; rw [h1]; cases ha; rfl
    · rename_i h1
      rw [h1]; simp only
      split at ha
      · rename_i g args hc; rw [hc]; simp only; rw [ha]
      · cases ha
  unfold stepA at h
  split at h
  · rename_i ho
    cases h
    cases draw <;> simp [dstep, stepD, ho]
  · rename_i o ho
    split at h
    · rename_i hw
      split at h
      case h_2 => cases h
      rename_i r hs l' ha
      split at h
      case h_2 => cases h
      rename_i σ1 hs'
      cases h
      cases draw with
      | true =>
        simp only [if_true] at ha ⊢
        have := dactA_ok hgv ha hl
        unfold dstep wact
        simp only [ho, hw, this, hs']
      | false =>
        simp only [Bool.false_eq_true, if_false] at ha ⊢
        rw [key o ho hw r hs (actA_ok hgv ha hl)]; exact hs'
    · rename_i hw
      split at h
      case h_2 => cases h
      rename_i σ1 hs'
      cases h
      cases draw <;> simp [dstep, stepD, wact, ho, hw, hs']
    · cases h
def runA (f : Nat → St → Option (St × List Prop)) : List Nat → St → Option (St × List Prop)
  | [], σ => some (σ, [])
  | i :: l, σ => match f i σ with
    | some (σ', p) => match runA f l σ' with
      | some (σ2, q) => some (σ2, p ++ q)
      | none => none
    | none => none
theorem runA_ok {f : Nat → St → Option (St × List Prop)} {g : Nat → St → Option St} (hfg : ∀ i σ σ' l, f i σ = some (σ', l) → (∀ p ∈ l, p) → g i σ = some σ') : ∀ (L : List Nat) (σ σ' : St) (l : List Prop), runA f L σ = some (σ', l) → (∀ p ∈ l, p) → runOps g L σ = some σ'
  | [], σ, σ', l, h, hl => by simp [runA] at h; simp [runOps, h.1]
  | i :: L, σ, σ', l, h, hl => by
    simp only [runA] at h
    split at h
    case h_2 => cases h
    rename_i σ1 p h1
    split at h
    case h_2 => cases h
    rename_i σ2 q h2
    cases h
    simp only [runOps]
    rw [hfg i σ σ1 p h1 fun x hx => hl x (List.mem_append_left _ hx)]
    exact runA_ok hfg L σ1 _ q h2 fun x hx => hl x (List.mem_append_right _ hx)
def regA (P : Program) (G : Glo) (C : CallD) (gv : FuncId → Option (List PV → Option PV)) (pf : FuncId → Bool) (pth : Name) (nt : Nat) (A : Nat → AdvR) (id : Nat) (ops : Array Oper) (draw : Bool) (σ : St) : Option (St × List Prop) :=
  if draw && !drawOk pf ops then none else runA (stepA P G C gv pf nt (id :: pth) ops draw (A id)) (List.range ops.size) σ
theorem regA_ok (hgv : GvOk C gv) {pth : Name} {nt : Nat} {A : Nat → AdvR} {id : Nat} {ops : Array Oper} {draw : Bool} {σ σ' : St} {l : List Prop} (h : regA P G C gv pf pth nt A id ops draw σ = some (σ', l)) (hl : ∀ p ∈ l, p) :
    regD P G C pf pth nt id ops draw σ = some σ' := by
  unfold regA at h
  split at h
  · cases h
  rename_i hc
  have := runA_ok (g := fun i σ => if draw then dstep P G C pf nt (id :: pth) ops i σ else stepD P G C nt (id :: pth) ops i σ) (fun i σ σ' l h hl => stepA_ok hgv h hl) _ _ _ _ h hl
  unfold regD
  cases draw with
  | true =>
    simp only [Bool.true_and, Bool.not_eq_true', Bool.not_eq_false] at hc
    simp only [if_true, hc] at this ⊢
    exact this
  | false => simpa using this

/-! ### code -/
structure AdvC where
  op : Nat → AdvR
  loop : Nat → Option (Ex × St)
def loopOf : Code → Option Code
  | .loop c => some c
  | _ => none
def codeA (P : Program) (G : Glo) (C : CallD) (gv : FuncId → Option (List PV → Option PV)) (pf : FuncId → Bool) (lf : Nat) (kt : Nat → Option (List Nat)) (nt : Nat) (A : AdvC) (stop : Option Nat) : Code → St → Option (Ex × St × List Prop)
  | .skip, σ => some (.normal, σ, [])
  | .label _, σ => some (.normal, σ, [])
  | .region id ops draw, σ => match regA P G C gv pf [] nt A.op id ops draw σ with
    | some (σ', l) => some (.normal, σ', l)
    | none => none
  | .seq x y, σ => match codeA P G C gv pf lf kt nt A stop x σ with
    | some (.normal, σ', l) => match codeA P G C gv pf lf kt nt A stop y σ' with
      | some (ex, σ2, l') => some (ex, σ2, l ++ l')
      | none => none
    | r => r
  | .cond c x y, σ => match ev G σ.env c with
    | .v (.bool true) => codeA P G C gv pf lf kt nt A stop x σ
    | .v (.bool false) => codeA P G C gv pf lf kt nt A stop y σ
    | _ => none
  | .block id c, σ => match codeA P G C gv pf lf kt nt A stop c σ with
    | some (.exit id', σ', l) => if id' = id then some (.normal, σ', l) else some (.exit id', σ', l)
    | r => r
  | .loop c, σ => if stop = some (keyOf c) then some (.exit 4294967295, σ, [False]) else match A.loop (keyOf c) with
    | some (ex, σ') => some (ex, σ', [loopX (kt (keyOf c)) (codeP (regD P G C pf [] nt) G lf kt c) lf σ = some (ex, σ')])
    | none => match loopX (kt (keyOf c)) (codeP (regD P G C pf [] nt) G lf kt c) lf σ with
      | some (ex, σ') => some (ex, σ', [])
      | none => none
  | .exit id, σ => some (.exit id, σ, [])
  | .ret, σ => some (.ret, σ, [])
  | _, _ => none
theorem codeA_ok (hgv : GvOk C gv) {lf : Nat} {kt : Nat → Option (List Nat)} {nt : Nat} {A : AdvC} {stop : Option Nat} : ∀ (c : Code) (σ : St) (ex : Ex) (σ' : St) (l : List Prop), codeA P G C gv pf lf kt nt A stop c σ = some (ex, σ', l) → (∀ p ∈ l, p) → codeP (regD P G C pf [] nt) G lf kt c σ = some (ex, σ')
  | .skip, σ, ex, σ', l, h, hl => by simp [codeA] at h; simp [codeP, h]
  | .label _, σ, ex, σ', l, h, hl => by simp [codeA] at h; simp [codeP, h]
  | .region id ops draw, σ, ex, σ', l, h, hl => by
    simp only [codeA] at h
    split at h
    case h_2 => cases h
    rename_i σ1 l1 h1
    cases h
    simp only [codeP, regA_ok hgv h1 hl]
  | .seq x y, σ, ex, σ', l, h, hl => by
    simp only [codeA] at h
    split at h
    · rename_i σ1 l1 h1
      split at h
      case h_2 => cases h
      rename_i ex2 σ2 l2 h2
      cases h
      simp only [codeP, codeA_ok hgv x σ _ _ _ h1 fun p hp => hl p (List.mem_append_left _ hp)]
      exact codeA_ok hgv y σ1 _ _ _ h2 fun p hp => hl p (List.mem_append_right _ hp)
    · rename_i hne
      have h1 := codeA_ok hgv x σ _ _ _ h hl
      simp only [codeP, h1]
      cases ex with
      | normal => exact absurd h (hne _ _)
      | exit id => rfl
      | ret => rfl
  | .cond c x y, σ, ex, σ', l, h, hl => by
    simp only [codeA] at h
    split at h
    · rename_i hc; simp only [codeP, hc]; exact codeA_ok hgv x σ _ _ _ h hl
    · rename_i hc; simp only [codeP, hc]; exact codeA_ok hgv y σ _ _ _ h hl
    · cases h
  | .block id c, σ, ex, σ', l, h, hl => by
    simp only [codeA] at h
    split at h
    · rename_i id' σ1 l1 h1
      split at h
      · rename_i hid
        cases h
        simp only [codeP, codeA_ok hgv c σ _ _ _ h1 hl, hid, if_true]
      · rename_i hid
        cases h
        simp only [codeP, codeA_ok hgv c σ _ _ _ h1 hl, hid, if_false]
    · rename_i hne
      have h1 := codeA_ok hgv c σ _ _ _ h hl
      simp only [codeP, h1]
      cases ex with
      | normal => rfl
      | exit id' => exact absurd h (hne _ _ _)
      | ret => rfl
  | .loop c, σ, ex, σ', l, h, hl => by
    simp only [codeA] at h
    split at h
    · cases h
      exact (hl False (by simp)).elim
    split at h
    · cases h
      simp only [codeP]
      exact hl _ (List.mem_singleton.2 rfl)
    · split at h
      case h_2 => cases h
      rename_i ex1 σ1 h1
      cases h
      simp only [codeP, h1]
  | .exit id, σ, ex, σ', l, h, hl => by simp [codeA] at h; simp [codeP, h]
  | .ret, σ, ex, σ', l, h, hl => by simp [codeA] at h; simp [codeP, h]
  | .scope _, σ, ex, σ', l, h, hl => by simp [codeA] at h
  | .goto _, σ, ex, σ', l, h, hl => by simp [codeA] at h
  | .rangeFunc .., σ, ex, σ', l, h, hl => by simp [codeA] at h
  | .refuse _, σ, ex, σ', l, h, hl => by simp [codeA] at h

/-! ### the parts of a run -/
def exOf (x : Option (Ex × St × List Prop)) : Option Ex := x.map (·.1)
def stOf (x : Option (Ex × St × List Prop)) : St := match x with
  | some (_, s, _) => s
  | none => ⟨fun _ => .v undef, emptyHS⟩
def obOf (x : Option (Ex × St × List Prop)) : List Prop := match x with
  | some (_, _, l) => l
  | none => [False]
def allP : List Prop → Prop
  | [] => True
  | p :: l => p ∧ allP l
theorem allP_iff : ∀ {l : List Prop}, allP l → ∀ p ∈ l, p
  | [], _, p, hp => by simp at hp
  | q :: l, h, p, hp => by
    rcases List.mem_cons.1 hp with rfl | hp
    · exact h.1
    · exact allP_iff h.2 p hp
theorem useA (hgv : GvOk C gv) {lf : Nat} {kt : Nat → Option (List Nat)} {nt : Nat} {A : AdvC} {c : Code} {σ : St} {ex : Ex} {l : List Prop} (h1 : exOf (codeA P G C gv pf lf kt nt A none c σ) = some ex) (h2 : obOf (codeA P G C gv pf lf kt nt A none c σ) = l) (hl : allP l) :
    codeP (regD P G C pf [] nt) G lf kt c σ = some (ex, stOf (codeA P G C gv pf lf kt nt A none c σ)) := by
  cases h : codeA P G C gv pf lf kt nt A none c σ with
  | none => rw [h] at h1; cases h1
  | some x =>
    obtain ⟨ex1, σ1, l1⟩ := x
    rw [h] at h1 h2
    simp only [exOf, Option.map_some, Option.some.injEq] at h1
    simp only [obOf] at h2
    subst h1 h2
    exact codeA_ok hgv c σ _ _ _ h (allP_iff hl)
end

/-- A loop that counts up: at its head it stands as S tells; at each turn it goes on, or ends. -/
theorem loop_up {f : St → Option (Ex × St)} {keep : List Nat} (n : Nat) (S : Nat → St) (R : Ex × St → Prop)
    (step : ∀ i, i < n → (∀ σ, canonS keep σ = some (S i) → True) → (∃ σ', f (S i) = some (.normal, σ') ∧ canonS keep σ' = some (S (i + 1))) ∨ ∃ ex σ', ex ≠ .normal ∧ f (S i) = some (ex, σ') ∧ R (ex, σ'))
    (last : ∃ ex σ', ex ≠ .normal ∧ f (S n) = some (ex, σ') ∧ R (ex, σ')) {lf : Nat} (hlf : n < lf) {σ : St} (h0 : canonS keep σ = some (S 0)) : ∃ ex σ', loopX (some keep) f lf σ = some (ex, σ') ∧ R (ex, σ') := by
  have out : ∀ {σ σ0 : St} {ex : Ex} {σ' : St} (k : Nat), canonS keep σ = some σ0 → ex ≠ .normal → f σ0 = some (ex, σ') → loopK keep f (k + 1) σ = some (ex, σ') := by
    intro σ σ0 ex σ' k h0 hne hf
    simp only [loopK, h0, hf]
    split
    · rename_i h; cases h; exact absurd rfl hne
    · rfl
  have key : ∀ d i lf σ, i + d = n → d < lf → canonS keep σ = some (S i) → ∃ ex σ', loopK keep f lf σ = some (ex, σ') ∧ R (ex, σ') := by
    intro d
    induction d with
    | zero =>
      intro i lf σ hi hl hI
      obtain rfl : i = n := by omega
      obtain ⟨ex, σ', h1, h2, h3⟩ := last
      obtain ⟨k, rfl⟩ : ∃ k, lf = k + 1 := ⟨lf - 1, by omega⟩
      exact ⟨ex, σ', out k hI h1 h2, h3⟩
    | succ d ih =>
      intro i lf σ hi hl hI
      obtain ⟨k, rfl⟩ : ∃ k, lf = k + 1 := ⟨lf - 1, by omega⟩
      rcases step i (by omega) (fun _ _ => trivial) with ⟨σ', h1, h2⟩ | ⟨ex, σ', h1, h2, h3⟩
      · obtain ⟨ex, σ2, g1, g2⟩ := ih (i + 1) k σ' (by omega) (by omega) h2
        exact ⟨ex, σ2, by simp only [loopK, hI, h1]; exact g1, g2⟩
      · exact ⟨ex, σ', out k hI h1 h2, h3⟩
  exact key n 0 lf σ (by omega) hlf h0

/-! ### states laid anew, by advice -/
def collA (fb : Nat → Bool) (s : HS) : Nat → List (Name × Nat) → List (Name × Nat) → List (Name × Nat)
  | 0, _, d => d
  | _ + 1, [], d => d
  | k + 1, p :: t, d => if liveB s p && !(d.any fun q => q.1 == p.1) then collA fb s k (t ++ (if fb d.length then [] else nmLL (blkOf s p).xs)) (d ++ [p]) else collA fb s k t d
/-- The blocks of which it is taken for granted that they are closed. -/
def clA (fb : Nat → Bool) (s : HS) (d : List (Name × Nat)) : List Prop := (d.zipIdx.filter fun p => fb p.2).map fun p => closedLL (blkOf s p.1).xs = true
theorem clA_at {fb : Nat → Bool} {s : HS} {d : List (Name × Nat)} (h : ∀ p ∈ clA fb s d, p) {j : Nat} {p : Name × Nat} (hj : d[j]? = some p) (hf : fb j = true) : closedLL (blkOf s p).xs = true := by
  refine h _ (List.mem_map.2 ⟨(p, j), List.mem_filter.2 ⟨?_, hf⟩, rfl⟩)
  rw [List.mem_zipIdx_iff_getElem?]; exact hj
theorem collA_prefix (fb : Nat → Bool) (s : HS) : ∀ (k : Nat) (t d : List (Name × Nat)), ∃ e, collA fb s k t d = d ++ e
  | 0, _, d => ⟨[], by simp [collA]⟩
  | k + 1, [], d => ⟨[], by simp [collA]⟩
  | k + 1, p :: t, d => by
    simp only [collA]
    split
    · obtain ⟨e, he⟩ := collA_prefix fb s k (t ++ (if fb d.length then [] else nmLL (blkOf s p).xs)) (d ++ [p])
      exact ⟨p :: e, by rw [he]; simp⟩
    · exact collA_prefix fb s k t d
theorem collA_ok {fb : Nat → Bool} {s : HS} : ∀ (k : Nat) (t d : List (Name × Nat)), (∀ p ∈ clA fb s (collA fb s k t d), p) → coll s k t d = collA fb s k t d
  | 0, _, d, _ => by simp [collA, coll]
  | k + 1, [], d, _ => by simp [collA, coll]
  | k + 1, p :: t, d, h => by
    simp only [collA, coll] at h ⊢
    by_cases hc : (liveB s p && !(d.any fun q => q.1 == p.1)) = true
    · simp only [if_pos hc] at h ⊢
      have : nmLL (blkOf s p).xs = (if fb d.length then [] else nmLL (blkOf s p).xs) := by
        split
        · rename_i hf
          obtain ⟨e, he⟩ := collA_prefix fb s k (t ++ (if fb d.length then [] else nmLL (blkOf s p).xs)) (d ++ [p])
          have := clA_at h (j := d.length) (p := p) (by rw [he]; simp) hf
          exact nmLL_closed _ this
        · rfl
      exact (congrArg (fun z => coll s k (t ++ z) (d ++ [p])) this).trans (collA_ok k _ _ h)
    · simp only [if_neg hc] at h ⊢
      exact collA_ok k t d h
def canonA (ft fb : Nat → Bool) (keep : List Nat) (σ : St) : Option (St × List Prop) :=
  let d := collA fb σ.hs 60 (keep.flatMap fun t => if ft t then [] else nmB (σ.env t)) []
  if goodD σ.hs d then some (⟨envL (keep.map fun t => (t, if ft t then σ.env t else renB d (σ.env t))), ⟨hpL (d.zipIdx.map fun p => ⟨(blkOf σ.hs p.1).sz, (blkOf σ.hs p.1).E, if fb p.2 then (blkOf σ.hs p.1).xs else renLL d (blkOf σ.hs p.1).xs⟩), fzL (d.map fun p => σ.hs.fz p.1)⟩⟩,
    (keep.filter ft).map (fun t => closedB (σ.env t) = true) ++ clA fb σ.hs d) else none
theorem canonA_ok {ft fb : Nat → Bool} {keep : List Nat} {σ σ' : St} {l : List Prop} (h : canonA ft fb keep σ = some (σ', l)) (hl : allP l) : canonS keep σ = some σ' := by
  unfold canonA at h
  simp only at h
  split at h
  case isFalse => cases h
  rename_i hg
  simp only [Option.some.injEq, Prod.mk.injEq] at h
  obtain ⟨rfl, rfl⟩ := h
  have hl := allP_iff hl
  have hc : ∀ t ∈ keep, ft t = true → closedB (σ.env t) = true := fun t ht hf => hl _ (List.mem_append_left _ (List.mem_map.2 ⟨t, List.mem_filter.2 ⟨ht, hf⟩, rfl⟩))
  have hb : ∀ p ∈ clA fb σ.hs (collA fb σ.hs 60 (keep.flatMap fun t => if ft t then [] else nmB (σ.env t)) []), p := fun p hp => hl p (List.mem_append_right _ hp)
  have e1 : (keep.flatMap fun t => nmB (σ.env t)) = keep.flatMap fun t => if ft t then [] else nmB (σ.env t) := by
    have : ∀ l : List Nat, (∀ t ∈ l, t ∈ keep) → (l.flatMap fun t => nmB (σ.env t)) = l.flatMap fun t => if ft t then [] else nmB (σ.env t) := by
      intro l
      induction l with
      | nil => intro _; rfl
      | cons t l ih =>
        intro hm
        rw [List.flatMap_cons, List.flatMap_cons, ih fun t ht => hm t (List.mem_cons_of_mem _ ht)]
        congr 1
        split
        · rename_i hf; exact nmB_closed _ (hc t (hm t List.mem_cons_self) hf)
        · rfl
    exact this keep fun _ h => h
  have e2 : coll σ.hs 60 (keep.flatMap fun t => nmB (σ.env t)) [] = collA fb σ.hs 60 (keep.flatMap fun t => if ft t then [] else nmB (σ.env t)) [] := by rw [e1]; exact collA_ok _ _ _ hb
  unfold canonS
  simp only [e2, hg, if_true]
  congr 1
  generalize collA fb σ.hs 60 (keep.flatMap fun t => if ft t then [] else nmB (σ.env t)) [] = d at hb hg
  have e3 : (keep.map fun t => (t, renB d (σ.env t))) = keep.map fun t => (t, if ft t then σ.env t else renB d (σ.env t)) := by
    refine List.map_congr_left fun t ht => ?_
    split
    · rename_i hf; rw [renB_closed d _ (hc t ht hf)]
    · rfl
  have e4 : (d.map fun p => (⟨(blkOf σ.hs p).sz, (blkOf σ.hs p).E, renLL d (blkOf σ.hs p).xs⟩ : Blk)) = d.zipIdx.map fun p => ⟨(blkOf σ.hs p.1).sz, (blkOf σ.hs p.1).E, if fb p.2 then (blkOf σ.hs p.1).xs else renLL d (blkOf σ.hs p.1).xs⟩ := by
    refine List.ext_getElem? fun j => ?_
    rw [List.getElem?_map, List.getElem?_map, List.getElem?_zipIdx]
    cases hj : d[j]? with
    | none => rfl
    | some p =>
      simp only [Option.map_some, Nat.zero_add]
      congr 2
      split
      · rename_i hf; rw [renLL_closed d _ (clA_at hb hj (by simpa using hf))]
      · rfl
  unfold canonH
  rw [e3, e4]

/-! ### answers, by shape -/
def rdA0 (s : HS) (x : PV) : Option (PV × HS × List Prop) := if depthA x < 8 then drA s x else none
def rdAL (f : HS → PV → Option (PV × HS × List Prop)) : HS → List PV → Option (List PV × HS × List Prop)
  | s, [] => some ([], s, [])
  | s, x :: l => match f s x with
    | some (y, s1, p) => match rdAL f s1 l with
      | some (l', s2, q) => some (y :: l', s2, p ++ q)
      | none => none
    | none => none
def rdA1 (s : HS) : PV → Option (PV × HS × List Prop)
  | .agg cs => match rdAL rdA0 s cs with
    | some (l, s', p) => some (.agg l, s', p)
    | none => none
  | x => rdA0 s x
def rdA2 (s : HS) : PV → Option (PV × HS × List Prop)
  | .tup cs => match rdAL rdA1 s cs with
    | some (l, s', p) => some (.tup l, s', p)
    | none => none
  | x => rdA1 s x
def RdOk (f : HS → PV → Option (PV × HS × List Prop)) (g : HS → PV → Option (PV × HS × List Name)) : Prop := ∀ s x y s' l, f s x = some (y, s', l) → (∀ p ∈ l, p) → g s x = some (y, s', [])
theorem rdAL_ok {f : HS → PV → Option (PV × HS × List Prop)} {g : HS → PV → Option (PV × HS × List Name)} (hf : RdOk f g) : ∀ (cs : List PV) (s : HS) (l' : List PV) (s' : HS) (l : List Prop), rdAL f s cs = some (l', s', l) → (∀ p ∈ l, p) → mapR g s cs = some (l', s', [])
  | [], s, l', s', l, h, hl => by simp [rdAL] at h; obtain ⟨rfl, rfl, _⟩ := h; rfl
  | x :: cs, s, l', s', l, h, hl => by
    simp only [rdAL] at h
    split at h
    case h_2 => cases h
    rename_i y s1 p h1
    split at h
    case h_2 => cases h
    rename_i l2 s2 q h2
    cases h
    simp only [mapR]
    rw [hf s x y s1 p h1 fun a ha => hl a (List.mem_append_left _ ha)]
    simp only
    rw [rdAL_ok hf cs s1 l2 s' q h2 fun a ha => hl a (List.mem_append_right _ ha)]
    rfl
theorem rdA0_ok : RdOk rdA0 (reify0 false) := by
  intro s x y s' l h hl
  unfold rdA0 at h
  split at h
  case isFalse => cases h
  rename_i hd
  unfold reify0
  simp only [Bool.false_eq_true, if_false]
  rw [drA_ok x s y s' l 8 h hl hd]
theorem rdA1_ok : RdOk rdA1 (reify1 false) := by
  intro s x y s' l h hl
  cases x with
  | agg cs =>
    simp only [rdA1] at h
    split at h
    case h_2 => cases h
    rename_i l' s2 p hm
    cases h
    simp only [reify1]
    rw [rdAL_ok rdA0_ok cs s l' s' l hm hl]
  | _ => exact rdA0_ok s _ y s' l h hl
theorem rdA2_ok : RdOk rdA2 (reify2 false) := by
  intro s x y s' l h hl
  have key : (∃ cs, x = .tup cs) ∨ (rdA2 s x = rdA1 s x ∧ reify2 false s x = reify1 false s x) := by
    cases x <;> first | exact .inl ⟨_, rfl⟩ | exact .inr ⟨rfl, rfl⟩
  rcases key with ⟨cs, rfl⟩ | ⟨h1, h2⟩
  · simp only [rdA2] at h
    split at h
    case h_2 => cases h
    rename_i l' s2 p hm
    cases h
    simp only [reify2]
    rw [rdAL_ok rdA1_ok cs s l' s' l hm hl]
  · rw [h1] at h
    rw [h2]
    exact rdA1_ok s x y s' l h hl
def ansA (P : Program) (σ : St) (l : List ResultVar) : Option (PV × List Prop) := match resD P σ l with
  | some xs => match rdA2 σ.hs (oneOr xs) with
    | some (y, _, l) => some (y, l)
    | none => none
  | none => none
theorem ansA_ok {P : Program} {σ : St} {l : List ResultVar} {r : PV} {q : List Prop} (h : ansA P σ l = some (r, q)) (hq : allP q) : (match resD P σ l with | some xs => reify false (oneOr xs) σ.hs | none => none) = some r := by
  unfold ansA at h
  split at h
  case h_2 => cases h
  rename_i xs hx
  split at h
  case h_2 => cases h
  rename_i y s' l' hr
  cases h
  try simp only
  unfold reify
  rw [rdA2_ok _ _ _ _ _ hr (allP_iff hq)]
  rfl

/-! ### a plain function's answer -/
theorem isoD_of {P : Program} {G : Glo} {C : CallD} {pf : FuncId → Bool} {own : Bool} {lf : Nat} {kt : Nat → Option (List Nat)} {f : FuncId} {args : List PV} {fn : Func} {c : Code} {nt : Nat} (hf : P.funcs[f]? = some fn) (hc : fn.body = some c) (hn : fn.ntmps = nt) (hl : args.length ≤ nt) {ex : Ex} {σ : St} (hex : ∀ id, ex ≠ .exit id)
    (h : codeP (regD P G C pf [] nt) G lf kt c ⟨fun t => args.getD t (.v undef), emptyHS⟩ = some (ex, σ)) {r : PV} (hr : (match resD P σ fn.results.toList with | some xs => reify own (oneOr xs) σ.hs | none => none) = some r) : isoD P G C pf own lf kt f args = some r := by
  unfold isoD bodyP
  rw [hf]; simp only [hc, hn, hl, if_true, h]
  have : (match resD P σ fn.results.toList with | some xs => some (oneOr xs, σ.hs) | none => none) = (match resD P σ fn.results.toList with | some xs => some (oneOr xs, σ.hs) | none => none) := rfl
  cases hx : resD P σ fn.results.toList with
  | none => rw [hx] at hr; cases hr
  | some xs =>
    rw [hx] at hr
    cases ex with
    | exit id => exact absurd rfl (hex id)
    | normal => exact hr
    | ret => exact hr
def cAt : Code → List Bool → Code
  | c, [] => c
  | .seq x y, b :: l => if b then cAt y l else cAt x l
  | .cond _ x y, b :: l => if b then cAt y l else cAt x l
  | .block _ c, _ :: l => cAt c l
  | .loop c, _ :: l => cAt c l
  | c, _ :: _ => c
end Go.Proofs.Ytfllhakmjookkaa.Den
