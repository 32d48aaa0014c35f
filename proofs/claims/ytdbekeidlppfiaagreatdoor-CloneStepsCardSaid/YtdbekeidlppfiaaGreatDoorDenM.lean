/- Texts joined by a program of mine (pack.py): DenM. -/
import Derived.Test.YtdbekeidlppfiaaGreatDoorDenL
import Derived.Test.YtdbekeidlppfiaaGreatDoorDenMn
set_option linter.unusedVariables false
set_option linter.unusedSimpArgs false
namespace Go.Proofs.YtdbekeidlppfiaaGreatDoor.Den
open Go Go.RowKit
section
variable {P : Program} {G : Glo} {C : CallD} {nt : Nat} {pth : Name} {ops : Array Oper} {pf : FuncId → Bool} {W : Nat → List Name}
def actD (P : Program) (C : CallD) (nm : Name) (e : Operand → PV) (o : Oper) (s : HS) : Option (PV × HS) :=
 match opD P [] nm s e o with
 | some (r, hs) => some (r, hs)
 | none => match callOf P e o with
  | some (g, args) => C g args nm s
  | none => none
theorem actD_congr {nm : Name} {e e' : Operand → PV} {o : Oper} {s : HS} (h : ∀ x ∈ o.op.operands, e x = e' x) : actD P C nm e o s = actD P C nm e' o s := by
 unfold actD; rw [opD_congr h, callOf_congr h]
structure Local (f : HS → Option (PV × HS)) (nm : Name) (c : Cls) (s : HS) (r : PV) (h1 : Hp) (φ : Name → Nat → Nat) : Prop where
 off : ∀ n, ownN nm n = false → h1 n = s.h n
 fdead : ∀ n x, ownN nm n = false → (s.h n).2 = none → φ n x = x
 fnc : c ≠ .call → ∀ n x, ownN nm n = false → φ n x = x
 rd : c = .read → (∀ n x, φ n x = x) ∧ h1 = s.h
 mono : ∀ t, Sees nm s t → f t = some (r, ⟨fun n => if ownN nm n then h1 n else t.h n, fun n => φ n (t.fz n)⟩)
def mixH (D : Name → Bool) (s t : HS) : HS := ⟨fun n => if D n then s.h n else t.h n, fun n => if D n then s.fz n else t.fz n⟩
def atD (nm : Name) (l : List Name) (n : Name) : Bool := ownN nm n || l.contains n
structure LocalE (f : HS → Option (PV × HS)) (nm : Name) (l : List Name) (s : HS) (r : PV) (s1 : HS) : Prop where
 off : ∀ n, atD nm l n = false → s1.h n = s.h n ∧ s1.fz n = s.fz n
 mono : ∀ t : HS, (∀ n, atD nm l n = true → t.h n = s.h n ∧ t.fz n = s.fz n) → f t = some (r, mixH (atD nm l) s1 t)
theorem upd_off {α : Type} (f : Name → α) {n n' : Name} (x : α) (h : n' ≠ n) : upd f n x n' = f n' := by simp [upd, h]
def rowN : PV → List Name
 | .row n _ _ _ => [n]
 | _ => []
theorem mix_eq {D : Name → Bool} {s t u : HS} (h1 : ∀ n, D n = true → u.h n = s.h n ∧ u.fz n = s.fz n) (h2 : ∀ n, D n = false → u.h n = t.h n ∧ u.fz n = t.fz n) : u = mixH D s t := by
 unfold mixH
 obtain ⟨uh, uf⟩ := u
 congr 1
 ·funext n
  cases h : D n with
  | true => simp only [if_true]; exact (h1 n h).1
  | false => simp only [Bool.false_eq_true, if_false]; exact (h2 n h).1
 ·funext n
  cases h : D n with
  | true => simp only [if_true]; exact (h1 n h).2
  | false => simp only [Bool.false_eq_true, if_false]; exact (h2 n h).2
theorem els_congr {s t : HS} {y : PV} (h : ∀ n ∈ rowN y, t.h n = s.h n) : els t y = els s y := by
 cases y <;> first | rfl | skip
 rename_i n k i len
 simp only [els]
 rw [h n (by simp [rowN])]
theorem elsN_congr {s t : HS} {y : PV} {sz : Nat} (h : ∀ n ∈ rowN y, t.h n = s.h n) : elsN t sz y = elsN s sz y := by
 have e := els_congr h
 unfold elsN
 split
 ·rfl
 ·rw [e]
theorem clN_congr {s t : HS} {y : PV} (h : ∀ n ∈ rowN y, t.h n = s.h n) : clN t y = clN s y := by
 cases y <;> first | rfl | skip
 rename_i n k i len
 simp only [clN]
 rw [h n (by simp [rowN])]
theorem own_self (nm : Name) : ownN nm nm = true := by simp [ownN]
theorem appD_local {P : Program} {nm : Name} {s s1 : HS} {ty t2 : TypeId} {x y r : PV} (h : appD P [] nm s ty t2 x y = some (r, s1)) : LocalE (fun u => appD P [] nm u ty t2 x y) nm (rowN x ++ rowN y) s r s1 := by
 have hnm : atD nm (rowN x ++ rowN y) nm = true := by simp [atD, own_self]
 have hy : ∀ t : HS, (∀ n, atD nm (rowN x ++ rowN y) n = true → t.h n = s.h n ∧ t.fz n = s.fz n) → ∀ n ∈ rowN y, t.h n = s.h n := fun t ht n hn => (ht n (by simp [atD, hn])).1
 have hne : ∀ n, atD nm (rowN x ++ rowN y) n = false → n ≠ nm := fun n hn e => by rw [e, hnm] at hn; cases hn
 have hnew : ∀ (b : Blk) (t : HS), (∀ n, atD nm (rowN x ++ rowN y) n = true → t.h n = s.h n ∧ t.fz n = s.fz n) → newS t nm b = mixH (atD nm (rowN x ++ rowN y)) (newS s nm b) t := fun b t ht => by
  refine mix_eq (fun n hn => ?_) (fun n hn => ?_)
  ·by_cases e : n = nm
   ·subst e; simp [newS, (ht n hn).1]
   ·simp [newS, upd_off _ _ e, ht n hn]
  ·have e := hne n hn
   simp [newS, upd_off _ _ e]
 have hnewo : ∀ (b : Blk) (n : Name), atD nm (rowN x ++ rowN y) n = false → (newS s nm b).h n = s.h n ∧ (newS s nm b).fz n = s.fz n := fun b n hn => by
  have e := hne n hn
  simp [newS, upd_off _ _ e]
 have hid : ∀ t : HS, (∀ n, atD nm (rowN x ++ rowN y) n = true → t.h n = s.h n ∧ t.fz n = s.fz n) → t = mixH (atD nm (rowN x ++ rowN y)) s t := fun t ht => mix_eq (fun n hn => ht n hn) (fun n hn => ⟨rfl, rfl⟩)
 unfold appD at h
 split at h
 ·cases h
 rename_i ht2
 split at h
 case h_2 => cases h
 rename_i e hu
 split at h
 case h_2 => cases h
 rename_i sz by_ z hi
 split at h
 case h_2 => cases h
 rename_i ys hys
 have hpre : ∀ t : HS, (∀ n, atD nm (rowN x ++ rowN y) n = true → t.h n = s.h n ∧ t.fz n = s.fz n) → elsN t (sz + 1) y = some ys ∧ clN t y = clN s y := fun t ht => ⟨by rw [elsN_congr (hy t ht)]; exact hys, clN_congr (hy t ht)⟩
 split at h
 ·-- an own row
  rename_i n0 k len
  have hn0 : atD nm (rowN (.row n0 k 0 len) ++ rowN y) n0 = true := by simp [atD, rowN]
  split at h
  case h_2 => cases h
  rename_i k' b hb
  split at h
  case isFalse => cases h
  rename_i hc
  cases h
  refine ⟨fun n hn => ?_, fun t ht => ?_⟩
  ·have e1 := hne n hn
   have e2 : n ≠ n0 := fun e => by rw [e, hn0] at hn; cases hn
   simp [upd_off _ _ e1, upd_off _ _ e2]
  ·obtain ⟨p1, p2⟩ := hpre t ht
   have hb' : t.h n0 = (k', some b) := by rw [(ht n0 hn0).1, hb]
   simp only [appD, if_neg ht2, hu, hi, p1, hb', p2]
   rw [if_pos hc]
   simp only [Option.some.injEq, Prod.mk.injEq]
   refine ⟨by rw [(ht nm hnm).1], mix_eq (fun n hn => ?_) (fun n hn => ?_)⟩
   ·by_cases e1 : n = nm
    ·subst e1; simp [(ht n hn).1, (ht n0 hn0).2]
    ·by_cases e2 : n = n0
     ·subst e2; simp [upd_off _ _ e1, (ht n hn).2]
     ·simp [upd_off _ _ e1, upd_off _ _ e2, ht n hn]
   ·have e1 := hne n hn
    have e2 : n ≠ n0 := fun e => by rw [e, hn0] at hn; cases hn
    simp [upd_off _ _ e1, upd_off _ _ e2]
 ·-- nothing
  split at h
  ·cases h
   refine ⟨fun n hn => ⟨rfl, rfl⟩, fun t ht => ?_⟩
   obtain ⟨p1, p2⟩ := hpre t ht
   simp only [appD, if_neg ht2, hu, hi, p1]
   rw [← hid t ht]
  ·rename_i y0 ys0
   split at h
   case isFalse => cases h
   rename_i hc
   cases h
   refine ⟨fun n hn => hnewo _ n hn, fun t ht => ?_⟩
   obtain ⟨p1, p2⟩ := hpre t ht
   simp only [appD, if_neg ht2, hu, hi, p1, p2]
   rw [if_pos hc, (ht nm hnm).1, hnew _ t ht]
 ·-- a closed list without room
  rename_i sz' xs
  split at h
  ·cases h
   refine ⟨fun n hn => ⟨rfl, rfl⟩, fun t ht => ?_⟩
   obtain ⟨p1, p2⟩ := hpre t ht
   simp only [appD, if_neg ht2, hu, hi, p1]
   rw [← hid t ht]
  ·rename_i y0 ys0
   split at h
   case isFalse => cases h
   rename_i hc
   cases h
   refine ⟨fun n hn => hnewo _ n hn, fun t ht => ?_⟩
   obtain ⟨p1, p2⟩ := hpre t ht
   simp only [appD, if_neg ht2, hu, hi, p1, p2]
   rw [if_pos hc, (ht nm hnm).1, hnew _ t ht]
 ·cases h
structure CLocal (pf : FuncId → Bool) (C : CallD) : Prop where
 loc : ∀ f, pf f = true → ∀ args nm s r s1, C f args nm s = some (r, s1) → ∃ φ, Local (C f args nm) nm .call s r s1.h φ
 weak : ∀ f, pf f = true → ∀ args nm s t x, C f args nm s = some x → (mapS (dr 8) t args).isSome = true → Sees nm t s → (C f args nm t).isSome = true
 eff : ∀ f, pf f = false → ∀ args nm s r s1 l, C f args nm s = some (r, s1) → collF s 60 (nmL args) [] = some l → LocalE (C f args nm) nm (l.map (·.1)) s r s1
theorem sees_refl (nm : Name) (s : HS) : Sees nm s s := ⟨fun _ _ => rfl, fun _ _ _ h => h⟩
theorem actD_local (hC : CLocal pf C) {nm : Name} {e : Operand → PV} {o : Oper} {s s1 : HS} {r : PV} (he : ∀ f, e (.func f) = .clo f []) (hc : calm (cls P pf o) = true) (h : actD P C nm e o s = some (r, s1)) :
  ∃ φ, Local (actD P C nm e o) nm (cls P pf o) s r s1.h φ := by
 by_cases hcall : cls P pf o = .call
 ·-- a call of a plain function
  have hop : ∃ c f, o.op = .call c ∧ c.callee = .value (.func f) ∧ pf f = true := by
   obtain ⟨dst, op, ty, pos, after, guard⟩ := o
   unfold cls at hcall
   cases op <;> simp only at hcall <;> first | cases hcall | ((repeat' split at hcall) <;> (cases hcall; done)) | skip
   rename_i c
   obtain ⟨callee, args, ats⟩ := c
   cases callee <;> simp only at hcall
   case builtin b => cases b <;> cases hcall
   case value f =>
    cases f <;> simp only at hcall <;> first | cases hcall | skip
    rename_i f
    split at hcall
    ·exact ⟨_, f, rfl, rfl, by assumption⟩
    ·cases hcall
   case invoke => cases hcall
  obtain ⟨c, f, hop, hcal, hpf⟩ := hop
  have hnone : ∀ t, opD P [] nm t e o = none := by
   intro t
   unfold opD
   rw [hop]
   simp only
   unfold bD
   rw [hcal]
  have hco : callOf P e o = some (f, c.args.toList.map e ++ []) := by
   unfold callOf
   rw [hop]; simp only; rw [hcal]; simp only [he f]
  have hact : ∀ t, actD P C nm e o t = C f (c.args.toList.map e ++ []) nm t := fun t => by unfold actD; rw [hnone t]; simp only [hco]
  rw [hact] at h
  obtain ⟨φ, hL⟩ := hC.loc f hpf _ nm s r s1 h
  rw [hcall]
  exact ⟨φ, ⟨hL.off, hL.fdead, hL.fnc, hL.rd, fun t ht => by rw [hact]; exact hL.mono t ht⟩⟩
 ·have hrn : cls P pf o = .read ∨ cls P pf o = .new := by cases hk : cls P pf o <;> simp_all [calm]
  have hopn : callOf P e o = none := by
   unfold callOf
   split
   ·rename_i c hop
    split
    ·rename_i f hf
     exfalso
     unfold cls at hrn
     rw [hop] at hrn
     simp only [hf] at hrn
     cases f <;> simp only at hrn <;> first | (rcases hrn with h | h <;> cases h; done) | (split at hrn <;> rcases hrn with h | h <;> cases h)
    ·rename_i f name hf
     exfalso
     unfold cls at hrn
     rw [hop] at hrn
     simp only [hf] at hrn
     rcases hrn with h | h <;> cases h
    ·rfl
   ·rfl
  have hop : opD P [] nm s e o = some (r, s1) := by
   unfold actD at h
   split at h
   ·rename_i r' hs ho; rw [ho, h]
   ·rw [hopn] at h; cases h
  rcases opD_calm hrn (sees_refl nm s) hop with ⟨hk, rfl, _⟩ | ⟨hk, b, rfl, _⟩
  ·refine ⟨fun _ x => x, fun _ _ => rfl, fun _ _ _ _ => rfl, fun _ _ _ _ => rfl, fun _ => ⟨fun _ _ => rfl, rfl⟩, fun t ht => ?_⟩
   rcases opD_calm hrn ht hop with ⟨_, _, h3⟩ | ⟨hk', _⟩
   ·have e1 : (⟨fun n => if ownN nm n then s1.h n else t.h n, fun n => t.fz n⟩ : HS) = t := by
     have : (fun n => if ownN nm n then s1.h n else t.h n) = t.h := by
      funext n
      by_cases hn : ownN nm n = true
      ·simp [hn, ht.own n hn]
      ·simp [hn]
     rw [this]
    rw [e1]
    unfold actD; rw [h3]
   ·rw [hk] at hk'; cases hk'
  ·refine ⟨fun n x => if n = nm then 0 else x, fun n hn => ?_, fun n x hn _ => ?_, fun _ n x hn => ?_, fun hr => (by rw [hk] at hr; cases hr), fun t ht => ?_⟩
   ·simp only [newS, upd]; rw [if_neg]; rintro rfl; rw [ownN_self] at hn; cases hn
   ·rw [if_neg]; rintro rfl; rw [ownN_self] at hn; cases hn
   ·rw [if_neg]; rintro rfl; rw [ownN_self] at hn; cases hn
   ·rcases opD_calm hrn ht hop with ⟨hk', _⟩ | ⟨_, b', hb', h3⟩
    ·rw [hk] at hk'; cases hk'
    ·have hbb : b' = b := by
      have := congrArg (fun x : HS => x.h nm) hb'
      simp [newS] at this; exact this.symm
     subst hbb
     have e1 : (⟨fun n => if ownN nm n then (newS s nm b').h n else t.h n, fun n => if n = nm then 0 else t.fz n⟩ : HS) = newS t nm b' := by
      unfold newS
      congr 1
      funext n
      simp only [upd]
      by_cases hn : n = nm
      ·subst hn; simp [ownN_self, ht.own _ (ownN_self _)]
      ·by_cases ho : ownN nm n = true
       ·simp [hn, ho, ht.own n ho]
       ·simp [hn, ho]
     rw [e1]
     unfold actD; rw [h3]
def killH (D : Name → Bool) (s : HS) : HS := { s with h := fun n => if D n then ((s.h n).1, none) else s.h n }
def hid (P : Program) (pf : FuncId → Bool) (ops : Array Oper) (pth : Name) (W : Nat → List Name) (i : Nat) (n : Name) : Bool :=
 (List.range ops.size).any fun j => open2 ops j i && (match ops[j]? with | some o => (maker (cls P pf o) && ownN (j :: pth) n) || (isEff (cls P pf o) && (W j).contains n && !ownN (i :: pth) n) | none => false)
theorem hid_own {i : Nat} {n : Name} (h : ownN (i :: pth) n = true) : hid P pf ops pth W i n = false := by
 unfold hid
 rw [List.any_eq_false]
 intro j hj hh
 simp only [Bool.and_eq_true, open2, bne_iff_ne] at hh
 obtain ⟨⟨_, hne⟩, hh⟩ := hh
 split at hh
 ·simp only [Bool.or_eq_true, Bool.and_eq_true, h, Bool.not_true] at hh
  rcases hh with hh | hh
  ·exact hne (ownN_ne hh.2 h)
  ·cases hh.2
 ·cases hh
theorem hid_of {i j : Nat} {oj : Oper} {n : Name} (hj : ops[j]? = some oj) (ho : open2 ops j i = true) (hm : maker (cls P pf oj) = true) (h : ownN (j :: pth) n = true) : hid P pf ops pth W i n = true := by
 unfold hid
 rw [List.any_eq_true]
 refine ⟨j, by simpa using (Array.getElem?_eq_some_iff.1 hj).1, ?_⟩
 simp [ho, hj, hm, h]
theorem hid_W {i j : Nat} {oj : Oper} {n : Name} (hj : ops[j]? = some oj) (ho : open2 ops j i = true) (hm : cls P pf oj = .eff) (h : (W j).contains n = true) (hi : ownN (i :: pth) n = false) : hid P pf ops pth W i n = true := by
 unfold hid
 rw [List.any_eq_true]
 refine ⟨j, by simpa using (Array.getElem?_eq_some_iff.1 hj).1, ?_⟩
 simp only [ho, hj, hm, isEff, h, hi, Bool.not_false, Bool.and_true, Bool.or_true]
def foot (P : Program) (pf : FuncId → Bool) (e : Operand → PV) (o : Oper) (s : HS) : Option (List Name) := match o.op with
 | .store _ a _ => match e a with
  | .ptr n _ _ _ => some [n]
  | _ => none
 | .call c => match c.callee with
  | .value _ => match callOf P e o with
   | some (g, args) => if pf g then none else (collF s 60 (nmL args) []).map fun l => l.map (·.1)
   | none => none
  | .invoke .. => match callOf P e o with
   | some (g, args) => if pf g then none else (collF s 60 (nmL args) []).map fun l => l.map (·.1)
   | none => none
  | .builtin .append => match c.args.toList with
   | [x, y] => some (rowN (e x) ++ rowN (e y))
   | _ => none
  | _ => none
 | _ => none
def effOpen (P : Program) (pf : FuncId → Bool) (ops : Array Oper) (j : Nat) : Bool := (List.range ops.size).any fun i => open2 ops j i && (match ops[i]? with | some o => calm (cls P pf o) | none => false)
def rdOnly (P : Program) (pf : FuncId → Bool) (ops : Array Oper) (j : Nat) : Bool := (List.range ops.size).all fun k => !open2 ops j k || (match ops[k]? with | some o => (match cls P pf o with | .call => false | _ => true) | none => true)
def clear (P : Program) (pf : FuncId → Bool) (ops : Array Oper) (pth : Name) (W : Nat → List Name) (j : Nat) (l : List Name) (s s1 : HS) : Bool := l.all fun n => ((W j).contains n || (rdOnly P pf ops j && samN s1 s n)) && (List.range ops.size).all fun k => !open2 ops j k || !ownN (k :: pth) n
def guardC (P : Program) (C : CallD) (pf : FuncId → Bool) (ops : Array Oper) (pth : Name) (W : Nat → List Name) (i : Nat) (e : Operand → PV) (o : Oper) (s : HS) : Bool := match cls P pf o with
 | .pure => true
 | .eff => if effOpen P pf ops i then (match foot P pf e o s with
  | some l => (match actD P C (i :: pth) e o s with
   | some (_, s1) => clear P pf ops pth W i l s s1
   | none => false)
  | none => false) else true
 | .call => (match callOf P e o with
  | some (_, args) => (mapS (dr 8) (killH (hid P pf ops pth W i) s) args).isSome
  | none => false)
 | _ => (actD P C (i :: pth) e o (killH (hid P pf ops pth W i) s)).isSome
def dact (P : Program) (C : CallD) (pf : FuncId → Bool) (ops : Array Oper) (pth : Name) (W : Nat → List Name) (i : Nat) (e : Operand → PV) (o : Oper) (s : HS) : Option (PV × HS) :=
 if guardC P C pf ops pth W i e o s then actD P C (i :: pth) e o s else none
def wact (P : Program) (C : CallD) (pf : FuncId → Bool) (ops : Array Oper) (pth : Name) (W : Nat → List Name) (nt : Nat) (i : Nat) (env : Nat → PV) (e : Operand → PV) (o : Oper) (s : HS) : Option (PV × HS) :=
 match wantD ops env nt o with
 | some true => dact P C pf ops pth W i e o s
 | some false => some (.v undef, s)
 | none => none
def dstep (P : Program) (G : Glo) (C : CallD) (pf : FuncId → Bool) (nt : Nat) (pth : Name) (W : Nat → List Name) (ops : Array Oper) (i : Nat) (σ : St) : Option St :=
 match ops[i]? with
 | none => some σ
 | some o => match wact P C pf ops pth W nt i σ.env (ev G σ.env) o σ.hs with
  | some (r, hs) => σ.set nt o.dst r hs
  | none => none
theorem dact_act {i : Nat} {e : Operand → PV} {o : Oper} {s : HS} {x : PV × HS} (h : dact P C pf ops pth W i e o s = some x) : actD P C (i :: pth) e o s = some x := by
 unfold dact at h
 split at h
 ·exact h
 ·cases h
theorem dstep_step {i : Nat} {σ σ' : St} (h : dstep P G C pf nt pth W ops i σ = some σ') : stepD P G C nt pth ops i σ = some σ' := by
 unfold dstep at h
 unfold stepD
 split at h
 ·rename_i ho; rw [ho]; exact h
 ·rename_i o ho
  rw [ho]
  simp only
  split at h
  case h_2 => cases h
  rename_i r hs hw
  unfold wact at hw
  split at hw
  ·rename_i hwant
   rw [hwant]
   simp only
   have := dact_act hw
   unfold actD at this
   split at this
   ·rename_i r' hs' ho'
    rw [ho']; cases this; exact h
   ·rename_i ho'
    rw [ho']
    simp only
    split at this
    ·rename_i g args hc
     rw [hc]; simp only; rw [this]; exact h
    ·cases this
  ·rename_i hwant
   rw [hwant]; cases hw; exact h
  ·cases hw
theorem wact_cases {i : Nat} {env : Nat → PV} {e : Operand → PV} {o : Oper} {s s1 : HS} {r : PV} (h : wact P C pf ops pth W nt i env e o s = some (r, s1)) :
  (∀ t, wact P C pf ops pth W nt i env e o t = some (r, t)) ∨ (wantD ops env nt o = some true ∧ cls P pf o ≠ .pure ∧ dact P C pf ops pth W i e o s = some (r, s1)) := by
 unfold wact at h
 split at h
 ·rename_i hw
  by_cases hp : cls P pf o = .pure
  ·left
   intro t
   unfold wact
   rw [hw]
   simp only
   have hg : ∀ t, guardC P C pf ops pth W i e o t = true := fun t => by unfold guardC; rw [hp]
   unfold dact at h ⊢
   rw [hg] at h ⊢
   simp only [if_true] at h ⊢
   have hnc : callOf P e o = none := by
    unfold callOf
    split
    ·rename_i c hop
     split
     ·rename_i f hf
      exfalso
      unfold cls at hp
      rw [hop] at hp
      simp only [hf] at hp
      cases f <;> simp only at hp <;> first | (cases hp; done) | (split at hp <;> cases hp)
     ·rename_i f name hf
      exfalso
      unfold cls at hp
      rw [hop] at hp
      simp only [hf] at hp
      cases hp
     ·rfl
    ·rfl
   unfold actD at h ⊢
   split at h
   ·rename_i r' hs ho
    cases h
    obtain ⟨_, h2⟩ := opD_pure (t := t) hp ho
    rw [h2]
   ·rw [hnc] at h; cases h
  ·exact .inr ⟨hw, hp, h⟩
 ·rename_i hw
  cases h
  left
  intro t
  unfold wact
  rw [hw]
 ·cases h
structure ActL (f : HS → Option (PV × HS)) (H D Z : Name → Bool) (s : HS) (r : PV) (h1 : Hp) (ψ : Name → Nat → Nat) : Prop where
 mono : ∀ t : HS, (∀ n, H n = false → t.h n = s.h n) → (∀ n, Z n = true → t.fz n = s.fz n) → f t = some (r, ⟨fun n => if D n then h1 n else t.h n, fun n => ψ n (t.fz n)⟩)
 inert : ∀ n x, H n = true → ψ n x = x
theorem ActL.swap {fi fj : HS → Option (PV × HS)} {Hi Di Zi Hj Dj Zj : Name → Bool} {s s1 s2 : HS} {ri rj ri' rj' : PV} {hi hj : Hp} {ψi ψj : Name → Nat → Nat} (Lj : ActL fj Hj Dj Zj s rj hj ψj) (e1 : fj s = some (rj', s1)) (Li : ActL fi Hi Di Zi s1 ri hi ψi) (e2 : fi s1 = some (ri', s2))
  (c1 : ∀ n, Dj n = true → Hi n = true) (c2 : ∀ n, Di n = true → Hj n = true) (c3 : ∀ n, Di n = false → Dj n = false → (∀ x, ψi n x = x) ∨ (∀ x, ψj n x = x)) (c4 : ∀ n, Dj n = true → Di n = false) (c5 : ∀ n, Zj n = true → ∀ x, ψi n x = x) (c6 : ∀ n, Zi n = true → ∀ x, ψj n x = x) : ∃ s1', fi s = some (ri', s1') ∧ fj s1' = some (rj', s2) := by
 have g1 := Lj.mono s (fun _ _ => rfl) (fun _ _ => rfl)
 rw [e1] at g1
 simp only [Option.some.injEq, Prod.mk.injEq] at g1
 obtain ⟨rfl, rfl⟩ := g1
 have g2 := Li.mono _ (fun _ _ => rfl) (fun _ _ => rfl)
 rw [e2] at g2
 simp only [Option.some.injEq, Prod.mk.injEq] at g2
 obtain ⟨rfl, rfl⟩ := g2
 have nj : ∀ n, Hi n = false → Dj n = false := fun n hn => by
  cases h : Dj n with
  | false => rfl
  | true => rw [c1 n h] at hn; cases hn
 have ni : ∀ n, Hj n = false → Di n = false := fun n hn => by
  cases h : Di n with
  | false => rfl
  | true => rw [c2 n h] at hn; cases hn
 have k1 := Li.mono s (fun n hn => by simp [nj n hn]) (fun n hn => (c6 n hn _).symm)
 refine ⟨_, k1, ?_⟩
 have k2 := Lj.mono ⟨fun n => if Di n then hi n else s.h n, fun n => ψi n (s.fz n)⟩ (fun n hn => by simp [ni n hn]) (fun n hn => c5 n hn _)
 rw [k2]
 congr 3
 ·funext n
  cases hd : Dj n with
  | true =>
   have : Di n = false := c4 n hd
   simp [this]
  | false => simp
 ·funext n
  show ψj n (ψi n (s.fz n)) = ψi n (ψj n (s.fz n))
  cases hd : Dj n with
  | true => rw [Li.inert n _ (c1 n hd), Li.inert n _ (c1 n hd)]
  | false =>
   cases hd' : Di n with
   | true => rw [Lj.inert n _ (c2 n hd'), Lj.inert n _ (c2 n hd')]
   | false =>
    rcases c3 n hd' hd with h | h
    ·rw [h, h]
    ·rw [h, h]
theorem drs_mono {nm : Name} {s t : HS} (hs : Sees nm s t) {args : List PV} {x : List PV × HS} (h : mapS (dr 8) s args = some x) : ∃ y, mapS (dr 8) t args = some y := by
 obtain ⟨l, s1⟩ := x
 obtain ⟨κ, _, _, h3⟩ := mapS_loc (dr_loc 8) args s l s1 h
 exact ⟨_, h3 t fun n k b hn => hs.live n k b hn⟩
theorem sees_kill {i : Nat} {s t : HS} (ht : ∀ n, hid P pf ops pth W i n = false → t.h n = s.h n) : Sees (i :: pth) (killH (hid P pf ops pth W i) s) t := ⟨fun n hn => by
  have := hid_own (P := P) (pf := pf) (ops := ops) (W := W) hn
  simp only [killH, this, Bool.false_eq_true, if_false]
  exact (ht n this).symm, fun n k b hn => by
  simp only [killH] at hn
  split at hn
  ·simp at hn
  ·rename_i hh
   rw [ht n (by simpa using hh)]; exact hn⟩
theorem call_is {e : Operand → PV} {o : Oper} (he : ∀ f, e (.func f) = .clo f []) (hk : cls P pf o = .call) (nm : Name) : ∃ f args, pf f = true ∧ callOf P e o = some (f, args) ∧ ∀ t, actD P C nm e o t = C f args nm t := by
 obtain ⟨dst, op, ty, pos, after, guard⟩ := o
 unfold cls at hk
 cases op <;> simp only at hk <;> first | cases hk | ((repeat' split at hk) <;> (cases hk; done)) | skip
 rename_i c
 obtain ⟨callee, args, ats⟩ := c
 cases callee <;> simp only at hk
 case builtin b => cases b <;> cases hk
 case invoke => cases hk
 case value f =>
  cases f <;> simp only at hk <;> first | cases hk | skip
  rename_i f
  split at hk
  ·refine ⟨f, args.toList.map e ++ [], by assumption, by simp only [callOf, he f], fun t => ?_⟩
   simp only [actD, opD, bD, callOf, he f]
  ·cases hk
theorem calm_L (hC : CLocal pf C) {i : Nat} {e : Operand → PV} {o : Oper} (he : ∀ f, e (.func f) = .clo f []) (hc : calm (cls P pf o) = true) {s s1 : HS} {r : PV} (h : dact P C pf ops pth W i e o s = some (r, s1)) :
  ∃ D h1 ψ, ActL (dact P C pf ops pth W i e o) (hid P pf ops pth W i) D (fun _ => false) s r h1 ψ ∧ (∀ n, D n = true → ownN (i :: pth) n = true ∧ maker (cls P pf o) = true) ∧ (cls P pf o ≠ .call → ∀ n, D n = false → ∀ x, ψ n x = x) := by
 have hact := dact_act h
 have hg : guardC P C pf ops pth W i e o s = true := by
  unfold dact at h
  split at h
  ·assumption
  ·cases h
 -- the run where what is hidden is dead
 have hk : ∃ x, actD P C (i :: pth) e o (killH (hid P pf ops pth W i) s) = some x := by
  unfold guardC at hg
  cases hcl : cls P pf o <;> rw [hcl] at hg hc <;> simp only at hg <;> first | cases hc | skip
  ·exact Option.isSome_iff_exists.1 hg
  ·exact Option.isSome_iff_exists.1 hg
  ·obtain ⟨f, args, hpf, hca, hC2⟩ := call_is (C := C) he hcl (i :: pth)
   rw [hca] at hg
   rw [hC2] at hact ⊢
   exact Option.isSome_iff_exists.1 (hC.weak f hpf args _ s _ _ hact hg (sees_kill fun _ _ => rfl))
 obtain ⟨⟨r', tk⟩, hk⟩ := hk
 obtain ⟨φ, L⟩ := actD_local hC he hc hk
 have hrr : r' = r := by
  have := L.mono s (sees_kill fun _ _ => rfl)
  rw [hact] at this
  simp only [Option.some.injEq, Prod.mk.injEq] at this
  exact this.1.symm
 subst hrr
 have hguard : ∀ t : HS, (∀ n, hid P pf ops pth W i n = false → t.h n = s.h n) → guardC P C pf ops pth W i e o t = true := by
  intro t ht
  have sk : Sees (i :: pth) (killH (hid P pf ops pth W i) s) (killH (hid P pf ops pth W i) t) := sees_kill fun n hn => by simp [killH, hn, ht n hn]
  unfold guardC
  cases hcl : cls P pf o <;> rw [hcl] at hc <;> simp only <;> first | cases hc | skip
  ·rw [L.mono _ sk]; rfl
  ·rw [L.mono _ sk]; rfl
  ·obtain ⟨f, args, hpf, hca, hC2⟩ := call_is (C := C) he hcl (i :: pth)
   rw [hca]
   simp only
   unfold guardC at hg
   rw [hcl] at hg
   simp only [hca] at hg
   obtain ⟨x, hx⟩ := Option.isSome_iff_exists.1 hg
   obtain ⟨y, hy⟩ := drs_mono sk hx
   rw [hy]; rfl
 by_cases hr : cls P pf o = .read
 ·obtain ⟨q1, q2⟩ := L.rd hr
  refine ⟨fun _ => false, s.h, fun _ x => x, ⟨fun t ht _ => ?_, fun _ _ _ => rfl⟩, fun n hn => by simp at hn, fun _ _ _ _ => rfl⟩
  have g := L.mono t (sees_kill ht)
  unfold dact
  rw [hguard t ht, if_pos rfl, g]
  congr 3
  ·funext n
   simp only [Bool.false_eq_true, if_false]
   by_cases ho : ownN (i :: pth) n = true
   ·rw [if_pos ho, q2]
    have := hid_own (P := P) (pf := pf) (ops := ops) (W := W) ho
    simp only [killH, this, Bool.false_eq_true, if_false]
    exact (ht n this).symm
   ·rw [if_neg ho]
  ·funext n
   exact q1 n _
 ·refine ⟨ownN (i :: pth), tk.h, φ, ⟨fun t ht _ => ?_, fun n x hn => ?_⟩, fun n hn => ⟨hn, ?_⟩, fun hn n ho x => L.fnc hn n x ho⟩
  ·unfold dact
   rw [hguard t ht, if_pos rfl]
   exact L.mono t (sees_kill ht)
  ·refine L.fdead n x ?_ (by simp [killH, hn])
   cases ho : ownN (i :: pth) n with
   | false => rfl
   | true => rw [hid_own ho] at hn; cases hn
  ·cases hcl : cls P pf o <;> rw [hcl] at hc hr <;> first | rfl | exact absurd rfl hr | cases hc
theorem eff_L (hC : CLocal pf C) {j : Nat} {e : Operand → PV} {o : Oper} (he : ∀ f, e (.func f) = .clo f []) (hc : cls P pf o = .eff) (hop : effOpen P pf ops j = true) {s s1 : HS} {r : PV} (h : dact P C pf ops pth W j e o s = some (r, s1)) :
  ∃ l h1 ψ, clear P pf ops pth W j l s s1 = true ∧ ActL (dact P C pf ops pth W j e o) (fun n => !atD (j :: pth) l n) (fun n => ownN (j :: pth) n || (l.contains n && (W j).contains n)) (atD (j :: pth) l) s r h1 ψ ∧ (∀ n, (ownN (j :: pth) n || (l.contains n && (W j).contains n)) = false → ∀ x, ψ n x = x) := by
 have hact := dact_act h
 have hg : guardC P C pf ops pth W j e o s = true := by
  unfold dact at h
  split at h
  ·assumption
  ·cases h
 unfold guardC at hg
 rw [hc] at hg
 simp only [hop, if_true] at hg
 split at hg
 case h_2 => cases hg
 rename_i l hf
 rw [hact] at hg
 simp only at hg
 have hL : LocalE (actD P C (j :: pth) e o) (j :: pth) l s r s1 ∧ ∀ t : HS, (∀ n, atD (j :: pth) l n = true → t.h n = s.h n) → foot P pf e o t = some l := by
  unfold foot at hf
  split at hf
  ·-- a store
   rename_i t a x hop
   split at hf
   case h_2 => cases hf
   rename_i n k i off ha
   cases hf
   refine ⟨?_, fun u hu => by unfold foot; rw [hop]; simp only [ha]⟩
   have hst : ∀ u, actD P C (j :: pth) e o u = (stD P [] u t (e a) (e x)).map (.v undef, ·) := fun u => by
    unfold actD opD
    rw [hop]
    simp only
    cases hs : stD P [] u t (e a) (e x) with
    | some y => rfl
    | none => simp only [Option.map_none, callOf, hop]
   rw [hst, ha] at hact
   obtain ⟨s2, hs2, he2⟩ := Option.map_eq_some_iff.1 hact
   cases he2
   have hd : ∀ n', atD (j :: pth) [n] n' = true ↔ (ownN (j :: pth) n' = true ∨ n' = n) := fun n' => by simp [atD]
   unfold stD at hs2
   split at hs2
   case h_2 => cases hs2
   rename_i sz cs n1 k1 i1 off1 hsz hcs hp
   cases hp
   split at hs2
   case h_2 => cases hs2
   rename_i k' b hn
   split at hs2
   case isFalse => cases hs2
   rename_i hcond
   split at hs2
   case h_2 => cases hs2
   rename_i row hrow
   split at hs2
   case isFalse => cases hs2
   rename_i hle
   cases hs2
   refine ⟨fun n' hn' => ?_, fun u hu => ?_⟩
   ·have hne : n' ≠ n := fun e => by
     have : atD (j :: pth) [n] n' = true := (hd n').2 (.inr e)
     rw [hn'] at this; cases this
    exact ⟨by simp [upd, hne], rfl⟩
   ·obtain ⟨hh, hfz⟩ := hu n ((hd n).2 (.inr rfl))
    rw [hst, ha]
    have hu2 : u.h n = (k', some b) := by rw [hh, hn]
    have : stD P [] u t (.ptr n k i off) (e x) = some { h := upd u.h n (k, some { b with xs := b.xs.set i (row.take off ++ nrm P b.rw t cs ++ row.drop (off + sz)), cl := b.cl && closedL (nrm P b.rw t cs) }), fz := u.fz } := by
     unfold stD
     simp only [hsz, hcs, hu2]
     rw [if_pos (by rw [hfz]; exact hcond)]
     simp only [hrow]
     rw [if_pos hle]
    rw [this]
    simp only [Option.map_some, Option.some.injEq, Prod.mk.injEq, true_and]
    unfold mixH
    congr 1
    ·funext n'
     cases hq : atD (j :: pth) [n] n' with
     | true =>
      simp only [if_true, upd]
      by_cases e1 : n' = n
      ·simp [e1]
      ·simp only [e1, if_false]; exact (hu n' hq).1
     | false =>
      have hne : n' ≠ n := fun e => by
       have : atD (j :: pth) [n] n' = true := (hd n').2 (.inr e)
       rw [hq] at this; cases this
      simp [upd, hne]
    ·funext n'
     cases hq : atD (j :: pth) [n] n' with
     | true => simp only [if_true]; exact (hu n' hq).2
     | false => simp
  ·-- a call
   rename_i c hop
   split at hf
   case h_4 => cases hf
   case h_3 =>
    rename_i hcal
    split at hf
    case h_2 => cases hf
    rename_i x y hargs
    cases hf
    have hq : ∀ u, opD P [] (j :: pth) u e o = (match c.argTypes.toList with | [t, t2] => appD P [] (j :: pth) u t t2 (e x) (e y) | _ => none) := fun u => by
     unfold opD
     rw [hop]
     simp only [bD, hcal, hargs]
     rcases c.argTypes.toList with _ | ⟨a, _ | ⟨b, _ | ⟨d, l⟩⟩⟩ <;> rfl
    have hco : callOf P e o = none := by unfold callOf; rw [hop]; simp only [hcal]
    have hft : ∀ u : HS, foot P pf e o u = some (rowN (e x) ++ rowN (e y)) := fun u => by
     unfold foot
     rw [hop]
     simp only [hcal, hargs]
    have hA : ∀ u, actD P C (j :: pth) e o u = (match c.argTypes.toList with | [t, t2] => appD P [] (j :: pth) u t t2 (e x) (e y) | _ => none) := fun u => by
     unfold actD
     rw [hco, hq]
     split
     ·rename_i hz; rw [hz]
     ·rename_i hz; rw [hz]
    rw [hA] at hact
    split at hact
    case h_2 => cases hact
    rename_i t t2 hts
    have hL := appD_local hact
    refine ⟨⟨hL.off, fun u hu => ?_⟩, fun u _ => hft u⟩
    rw [hA, hts]
    exact hL.mono u hu
   case h_2 =>
    rename_i x name hcal
    split at hf
    case h_2 => cases hf
    rename_i g args hca
    split at hf
    ·cases hf
    rename_i hpf
    have hpf : pf g = false := by simpa using hpf
    obtain ⟨d, hd, rfl⟩ := Option.map_eq_some_iff.1 hf
    have hC2 : ∀ u, actD P C (j :: pth) e o u = C g args (j :: pth) u := fun u => by
     unfold actD opD
     rw [hop]
     simp only [bD, hcal, hca]
    rw [hC2] at hact
    have hE := hC.eff g hpf args _ s r s1 d hact hd
    refine ⟨⟨hE.off, fun u hu => by rw [hC2]; exact hE.mono u hu⟩, fun u hu => ?_⟩
    unfold foot
    rw [hop]
    simp only [hcal, hca, hpf, Bool.false_eq_true, if_false]
    rw [collF_congr s u 60 _ _ d hd (fun p hp => hu p.1 (by simp only [atD, Bool.or_eq_true, List.contains_iff_mem]; exact .inr (List.mem_map.2 ⟨p, hp, rfl⟩)))]
    rfl
   rename_i f hcal
   split at hf
   case h_2 => cases hf
   rename_i g args hca
   split at hf
   ·cases hf
   rename_i hpf
   have hpf : pf g = false := by simpa using hpf
   obtain ⟨d, hd, rfl⟩ := Option.map_eq_some_iff.1 hf
   have hC2 : ∀ u, actD P C (j :: pth) e o u = C g args (j :: pth) u := fun u => by
    unfold actD opD
    rw [hop]
    simp only [bD, hcal, hca]
   rw [hC2] at hact
   have hE := hC.eff g hpf args _ s r s1 d hact hd
   refine ⟨⟨hE.off, fun u hu => by rw [hC2]; exact hE.mono u hu⟩, fun u hu => ?_⟩
   unfold foot
   rw [hop]
   simp only [hcal, hca, hpf, Bool.false_eq_true, if_false]
   rw [collF_congr s u 60 _ _ d hd (fun p hp => hu p.1 (by simp only [atD, Bool.or_eq_true, List.contains_iff_mem]; exact .inr (List.mem_map.2 ⟨p, hp, rfl⟩)))]
   rfl
  ·cases hf
 obtain ⟨hL, hft⟩ := hL
 have hsame : ∀ n, atD (j :: pth) l n = true → (ownN (j :: pth) n || (l.contains n && (W j).contains n)) = false → s1.h n = s.h n ∧ s1.fz n = s.fz n := by
  intro n hn hd
  simp only [Bool.or_eq_false_iff] at hd
  simp only [atD, hd.1, Bool.false_or] at hn
  rw [hn, Bool.true_and] at hd
  unfold clear at hg
  rw [List.all_eq_true] at hg
  have := hg n (by simpa using hn)
  rw [hd.2] at this
  simp only [Bool.false_or, Bool.and_eq_true] at this
  exact samN_ok this.1.2
 refine ⟨l, s1.h, fun n x => if (ownN (j :: pth) n || (l.contains n && (W j).contains n)) then s1.fz n else x, hg, ⟨fun t ht hz => ?_, fun n x hn => ?_⟩, fun n hn x => by simp only [hn, Bool.false_eq_true, if_false]⟩
 ·have ht' : ∀ n, atD (j :: pth) l n = true → t.h n = s.h n := fun n hn => ht n (by simp [hn])
  have hm := hL.mono t fun n hn => ⟨ht' n hn, hz n hn⟩
  have hcl : clear P pf ops pth W j l t (mixH (atD (j :: pth) l) s1 t) = clear P pf ops pth W j l s s1 := by
   unfold clear
   apply Bool.eq_iff_iff.2
   have e : ∀ n ∈ l, samN (mixH (atD (j :: pth) l) s1 t) t n = samN s1 s n := fun n hn => by
    have ha : atD (j :: pth) l n = true := by simp [atD, hn]
    unfold samN mixH
    simp only [ha, if_true, ht' n ha, hz n ha]
   simp only [List.all_eq_true]
   exact ⟨fun h n hn => by rw [← e n hn]; exact h n hn, fun h n hn => by rw [e n hn]; exact h n hn⟩
  unfold dact guardC
  rw [hc]
  simp only [hop, if_true, hft t ht', hm, hcl, hg]
  congr 2
  unfold mixH
  congr 1
  ·funext n
   cases ha : atD (j :: pth) l n with
   | true =>
    simp only [if_true]
    cases hd : (ownN (j :: pth) n || (l.contains n && (W j).contains n)) with
    | true => simp
    | false => simp only [Bool.false_eq_true, if_false]; rw [(hsame n ha hd).1]; exact (ht' n ha).symm
   | false =>
    have hd : (ownN (j :: pth) n || (l.contains n && (W j).contains n)) = false := by
     simp only [atD, Bool.or_eq_false_iff] at ha
     rw [ha.1, ha.2]; rfl
    simp only [hd, Bool.false_eq_true, if_false]
  ·funext n
   cases ha : atD (j :: pth) l n with
   | true =>
    simp only [if_true]
    cases hd : (ownN (j :: pth) n || (l.contains n && (W j).contains n)) with
    | true => simp
    | false => simp only [Bool.false_eq_true, if_false]; rw [(hsame n ha hd).2]; exact (hz n ha).symm
   | false =>
    have hd : (ownN (j :: pth) n || (l.contains n && (W j).contains n)) = false := by
     simp only [atD, Bool.or_eq_false_iff] at ha
     rw [ha.1, ha.2]; rfl
    simp only [hd, Bool.false_eq_true, if_false]
 ·have hn : atD (j :: pth) l n = false := by simpa using hn
  have hd : (ownN (j :: pth) n || (l.contains n && (W j).contains n)) = false := by
   simp only [atD, Bool.or_eq_false_iff] at hn
   rw [hn.1, hn.2]; rfl
  simp only [hd, Bool.false_eq_true, if_false]
theorem clear_own {i j : Nat} {l : List Name} {n : Name} {s s1 : HS} (h : clear P pf ops pth W j l s s1 = true) (hn : l.contains n = true) (ho : open2 ops j i = true) (hi : i < ops.size) : ((W j).contains n = true ∨ rdOnly P pf ops j = true) ∧ ownN (i :: pth) n = false := by
 unfold clear at h
 rw [List.all_eq_true] at h
 have := h n (by simpa using hn)
 simp only [Bool.and_eq_true, List.all_eq_true, List.mem_range, Bool.or_eq_true, Bool.not_eq_true'] at this
 refine ⟨this.1.imp id (·.1), ?_⟩
 rcases this.2 i hi with h1 | h1
 ·rw [ho] at h1; cases h1
 ·exact h1
theorem rdOnly_at {i j : Nat} {oi : Oper} (h : rdOnly P pf ops j = true) (ho : open2 ops j i = true) (hoi : ops[i]? = some oi) : cls P pf oi ≠ .call := by
 unfold rdOnly at h
 rw [List.all_eq_true] at h
 have := h i (by simpa using (Array.getElem?_eq_some_iff.1 hoi).1)
 rw [ho, hoi] at this
 intro e
 simp [e] at this
theorem dact_swap (hC : CLocal pf C) {i j : Nat} {oi oj : Oper} (hoi : ops[i]? = some oi) (hoj : ops[j]? = some oj) (h1 : open2 ops j i = true) (h2 : open2 ops i j = true) {ei ej : Operand → PV} (hei : ∀ f, ei (.func f) = .clo f []) (hej : ∀ f, ej (.func f) = .clo f [])
  (hpi : cls P pf oi ≠ .pure) (hpj : cls P pf oj ≠ .pure) (hcm : compat (cls P pf oj) (cls P pf oi) = true) {s s1 s2 : HS} {ri rj : PV}
  (hj : dact P C pf ops pth W j ej oj s = some (rj, s1)) (hi : dact P C pf ops pth W i ei oi s1 = some (ri, s2)) :
  ∃ s1', dact P C pf ops pth W i ei oi s = some (ri, s1') ∧ dact P C pf ops pth W j ej oj s1' = some (rj, s2) := by
 have hij : i ≠ j := by
  intro e; subst e
  simp [open2] at h1
 have hlti : i < ops.size := (Array.getElem?_eq_some_iff.1 hoi).1
 have hltj : j < ops.size := (Array.getElem?_eq_some_iff.1 hoj).1
 have hne : ∀ n, ownN (i :: pth) n = true → ownN (j :: pth) n = false := fun n h => by
  cases hh : ownN (j :: pth) n with
  | false => rfl
  | true => exact absurd (ownN_ne h hh) hij
 have hne' : ∀ n, ownN (j :: pth) n = true → ownN (i :: pth) n = false := fun n h => by
  cases hh : ownN (i :: pth) n with
  | false => rfl
  | true => exact absurd (ownN_ne hh h) hij
 by_cases ei' : cls P pf oi = .eff
 ·by_cases ej' : cls P pf oj = .eff
  ·rw [ei', ej'] at hcm; cases hcm
  ·have hcj : calm (cls P pf oj) = true := by cases hk : cls P pf oj <;> simp_all [calm]
   have hop : effOpen P pf ops i = true := by
    unfold effOpen
    rw [List.any_eq_true]
    exact ⟨j, by simpa using hltj, by simp [h2, hoj, hcj]⟩
   obtain ⟨Dj, hj1, ψj, Lj, aj, bj⟩ := calm_L hC hej hcj hj
   obtain ⟨l, hi1, ψi, hcl, Li, bi⟩ := eff_L hC hei ei' hop hi
   have own_l : ∀ n, ownN (j :: pth) n = true → l.contains n = false := fun n hn => by
    cases hh : l.contains n with
    | false => rfl
    | true => rw [(clear_own hcl hh h2 hltj).2] at hn; cases hn
   refine ActL.swap Lj hj Li hi (fun n hn => ?_) (fun n hn => ?_) (fun n hn hn' => .inl (bi n hn)) (fun n hn => ?_) (fun n hn => by cases hn) (fun n hn => ?_)
   ·obtain ⟨q1, _⟩ := aj n hn
    simp only [atD, hne' n q1, own_l n q1, Bool.or_false, Bool.not_false]
   ·simp only [Bool.or_eq_true, Bool.and_eq_true] at hn
    rcases hn with hn | hn
    ·exact hid_of hoi h2 (by rw [ei']; rfl) hn
    ·exact hid_W hoi h2 ei' hn.2 (clear_own hcl hn.1 h2 hltj).2
   ·obtain ⟨q1, _⟩ := aj n hn
    simp only [hne' n q1, own_l n q1, Bool.false_and, Bool.or_false]
   ·simp only [atD, Bool.or_eq_true] at hn
    rcases hn with hn | hn
    ·exact fun x => Lj.inert n x (hid_of hoi h2 (by rw [ei']; rfl) hn)
    ·obtain ⟨q1, q2⟩ := clear_own hcl hn h2 hltj
     rcases q1 with q1 | q1
     ·exact fun x => Lj.inert n x (hid_W hoi h2 ei' q1 q2)
     ·refine fun x => bj (rdOnly_at q1 h2 hoj) n ?_ x
      cases hd : Dj n with
      | false => rfl
      | true => rw [(aj n hd).1] at q2; cases q2
 ·have hci : calm (cls P pf oi) = true := by cases hk : cls P pf oi <;> simp_all [calm]
  obtain ⟨Di, hi1, ψi, Li, ai, bi⟩ := calm_L hC hei hci hi
  by_cases ej' : cls P pf oj = .eff
  ·have hop : effOpen P pf ops j = true := by
    unfold effOpen
    rw [List.any_eq_true]
    exact ⟨i, by simpa using hlti, by simp [h1, hoi, hci]⟩
   obtain ⟨l, hj1, ψj, hcl, Lj, bj⟩ := eff_L hC hej ej' hop hj
   have own_l : ∀ n, ownN (i :: pth) n = true → l.contains n = false := fun n hn => by
    cases hh : l.contains n with
    | false => rfl
    | true => rw [(clear_own hcl hh h1 hlti).2] at hn; cases hn
   refine ActL.swap Lj hj Li hi (fun n hn => ?_) (fun n hn => ?_) (fun n hn hn' => .inr (bj n hn')) (fun n hn => ?_) (fun n hn => ?_) (fun n hn => by cases hn)
   ·simp only [Bool.or_eq_true, Bool.and_eq_true] at hn
    rcases hn with hn | hn
    ·exact hid_of hoj h1 (by rw [ej']; rfl) hn
    ·exact hid_W hoj h1 ej' hn.2 (clear_own hcl hn.1 h1 hlti).2
   ·obtain ⟨q1, _⟩ := ai n hn
    simp only [atD, hne n q1, own_l n q1, Bool.or_false, Bool.not_false]
   ·cases hd : Di n with
    | false => rfl
    | true =>
     obtain ⟨q1, _⟩ := ai n hd
     simp only [hne n q1, own_l n q1, Bool.false_and, Bool.or_false] at hn
     cases hn
   ·simp only [atD, Bool.or_eq_true] at hn
    rcases hn with hn | hn
    ·exact fun x => Li.inert n x (hid_of hoj h1 (by rw [ej']; rfl) hn)
    ·obtain ⟨q1, q2⟩ := clear_own hcl hn h1 hlti
     rcases q1 with q1 | q1
     ·exact fun x => Li.inert n x (hid_W hoj h1 ej' q1 q2)
     ·refine fun x => bi (rdOnly_at q1 h1 hoi) n ?_ x
      cases hd : Di n with
      | false => rfl
      | true => rw [(ai n hd).1] at q2; cases q2
  ·have hcj : calm (cls P pf oj) = true := by cases hk : cls P pf oj <;> simp_all [calm]
   obtain ⟨Dj, hj1, ψj, Lj, aj, bj⟩ := calm_L hC hej hcj hj
   refine ActL.swap Lj hj Li hi (fun n hn => hid_of hoj h1 (aj n hn).2 (aj n hn).1) (fun n hn => hid_of hoi h2 (ai n hn).2 (ai n hn).1) (fun n hn hn' => ?_) (fun n hn => ?_) (fun n hn => by cases hn) (fun n hn => by cases hn)
   ·by_cases hk : cls P pf oi = .call
    ·have hk' : cls P pf oj ≠ .call := fun h => by rw [hk, h] at hcm; cases hcm
     exact .inr (bj hk' n hn')
    ·exact .inl (bi hk n hn)
   ·cases hd : Di n with
    | false => rfl
    | true =>
     have := hne n (ai n hd).1
     rw [(aj n hn).1] at this; cases this
theorem wact_swap (hC : CLocal pf C) {i j : Nat} {oi oj : Oper} (hoi : ops[i]? = some oi) (hoj : ops[j]? = some oj) (h1 : open2 ops j i = true) (h2 : open2 ops i j = true) (hcm : compat (cls P pf oj) (cls P pf oi) = true) {vi vj : Nat → PV} {ei ej : Operand → PV} (hei : ∀ f, ei (.func f) = .clo f []) (hej : ∀ f, ej (.func f) = .clo f [])
  {s s1 s2 : HS} {ri rj : PV} (hj : wact P C pf ops pth W nt j vj ej oj s = some (rj, s1)) (hi : wact P C pf ops pth W nt i vi ei oi s1 = some (ri, s2)) :
  ∃ s1', wact P C pf ops pth W nt i vi ei oi s = some (ri, s1') ∧ wact P C pf ops pth W nt j vj ej oj s1' = some (rj, s2) := by
 rcases wact_cases hj with aj | ⟨wj, pj, dj⟩
 ·have := aj s
  rw [hj] at this
  simp only [Option.some.injEq, Prod.mk.injEq, true_and] at this
  subst this
  exact ⟨s2, hi, aj s2⟩
 ·rcases wact_cases hi with ai | ⟨wi, pi, di⟩
  ·have := ai s1
   rw [hi] at this
   simp only [Option.some.injEq, Prod.mk.injEq, true_and] at this
   subst this
   exact ⟨s, ai s, hj⟩
  ·obtain ⟨s1', g1, g2⟩ := dact_swap hC hoi hoj h1 h2 hei hej pi pj hcm dj di
   exact ⟨s1', by unfold wact; rw [wi]; exact g1, by unfold wact; rw [wj]; exact g2⟩
end
end Go.Proofs.YtdbekeidlppfiaaGreatDoor.Den
