/- A plain reading of Go's text: a statement whose order is open comes to one thing in every order. -/
import Derived.Test.YtbidfkibpjjghaaDoorDenL
set_option linter.unusedVariables false
set_option linter.unusedSimpArgs false
namespace Go.Proofs.YtbidfkibpjjghaaDoor.Den
open Go Go.RowKit

section
variable {P : Program} {G : Glo} {C : CallD} {nt : Nat} {pth : Name} {ops : Array Oper} {pf : FuncId → Bool}

def actD (P : Program) (C : CallD) (nm : Name) (e : Operand → PV) (o : Oper) (s : HS) : Option (PV × HS) :=
  match opD P [] nm s e o with
  | some (r, hs) => some (r, hs)
  | none => match callOf e o with
    | some (g, args) => C g args nm s
    | none => none
theorem actD_congr {nm : Name} {e e' : Operand → PV} {o : Oper} {s : HS} (h : ∀ x ∈ o.op.operands, e x = e' x) : actD P C nm e o s = actD P C nm e' o s := by
  unfold actD; rw [opD_congr h, callOf_congr h]

/-- How an operation hangs on the heap. -/
structure Local (f : HS → Option (PV × HS)) (nm : Name) (c : Cls) (s : HS) (r : PV) (h1 : Hp) (φ : Name → Nat → Nat) : Prop where
  off : ∀ n, ownN nm n = false → h1 n = s.h n
  fdead : ∀ n x, ownN nm n = false → (s.h n).2 = none → φ n x = x
  fnc : c ≠ .call → ∀ n x, ownN nm n = false → φ n x = x
  rd : c = .read → (∀ n x, φ n x = x) ∧ h1 = s.h
  mono : ∀ t, Sees nm s t → f t = some (r, ⟨fun n => if ownN nm n then h1 n else t.h n, fun n => φ n (t.fz n)⟩)
/-- Calls of plain functions are so. -/
def CLocal (pf : FuncId → Bool) (C : CallD) : Prop :=
  ∀ f, pf f = true → ∀ args nm s r s1, C f args nm s = some (r, s1) → ∃ φ, Local (C f args nm) nm .call s r s1.h φ
theorem sees_refl (nm : Name) (s : HS) : Sees nm s s := ⟨fun _ _ => rfl, fun _ _ _ h => h⟩

theorem actD_local (hC : CLocal pf C) {nm : Name} {e : Operand → PV} {o : Oper} {s s1 : HS} {r : PV} (he : ∀ f, e (.func f) = .clo f []) (hc : calm (cls P pf o) = true) (h : actD P C nm e o s = some (r, s1)) :
    ∃ φ, Local (actD P C nm e o) nm (cls P pf o) s r s1.h φ := by
  by_cases hcall : cls P pf o = .call
  · -- a call of a plain function
    have hop : ∃ c f, o.op = .call c ∧ c.callee = .value (.func f) ∧ pf f = true := by
      obtain ⟨dst, op, ty, pos, after, guard⟩ := o
      unfold cls at hcall
      cases op <;> simp only at hcall <;> first | cases hcall | (split at hcall <;> (cases hcall; done)) | skip
      rename_i c
      obtain ⟨callee, args, ats⟩ := c
      cases callee <;> simp only at hcall
      case builtin b => cases b <;> cases hcall
      case value f =>
        cases f <;> simp only at hcall <;> first | cases hcall | skip
        rename_i f
        split at hcall
        · exact ⟨_, f, rfl, rfl, by assumption⟩
        · cases hcall
      case invoke => cases hcall
    obtain ⟨c, f, hop, hcal, hpf⟩ := hop
    have hnone : ∀ t, opD P [] nm t e o = none := by
      intro t
      unfold opD
      rw [hop]
      simp only
      unfold bD
      rw [hcal]
    have hco : callOf e o = some (f, c.args.toList.map e ++ []) := by
      unfold callOf
      rw [hop]; simp only; rw [hcal]; simp only [he f]
    have hact : ∀ t, actD P C nm e o t = C f (c.args.toList.map e ++ []) nm t := fun t => by unfold actD; rw [hnone t]; simp only [hco]
    rw [hact] at h
    obtain ⟨φ, hL⟩ := hC f hpf _ nm s r s1 h
    rw [hcall]
    exact ⟨φ, ⟨hL.off, hL.fdead, hL.fnc, hL.rd, fun t ht => by rw [hact]; exact hL.mono t ht⟩⟩
  · have hrn : cls P pf o = .read ∨ cls P pf o = .new := by cases hk : cls P pf o <;> simp_all [calm]
    have hopn : callOf e o = none := by
      unfold callOf
      split
      · rename_i c hop
        split
        · rename_i f hf
          split
          · rename_i g caps hg
            exfalso
            unfold cls at hrn
            rw [hop] at hrn
            simp only [hf] at hrn
            cases f <;> simp only at hrn <;> first | (rcases hrn with h | h <;> cases h; done) | (split at hrn <;> rcases hrn with h | h <;> cases h)
          · rfl
        · rfl
      · rfl
    have hop : opD P [] nm s e o = some (r, s1) := by
      unfold actD at h
      split at h
      · rename_i r' hs ho; rw [ho, h]
      · rw [hopn] at h; cases h
    rcases opD_calm hrn (sees_refl nm s) hop with ⟨hk, rfl, _⟩ | ⟨hk, b, rfl, _⟩
    · refine ⟨fun _ x => x, fun _ _ => rfl, fun _ _ _ _ => rfl, fun _ _ _ _ => rfl, fun _ => ⟨fun _ _ => rfl, rfl⟩, fun t ht => ?_⟩
      rcases opD_calm hrn ht hop with ⟨_, _, h3⟩ | ⟨hk', _⟩
      · have e1 : (⟨fun n => if ownN nm n then s1.h n else t.h n, fun n => t.fz n⟩ : HS) = t := by
          have : (fun n => if ownN nm n then s1.h n else t.h n) = t.h := by
            funext n
            by_cases hn : ownN nm n = true
            · simp [hn, ht.own n hn]
            · simp [hn]
          rw [this]
        rw [e1]
        unfold actD; rw [h3]
      · rw [hk] at hk'; cases hk'
    · refine ⟨fun n x => if n = nm then 0 else x, fun n hn => ?_, fun n x hn _ => ?_, fun _ n x hn => ?_, fun hr => (by rw [hk] at hr; cases hr), fun t ht => ?_⟩
      · simp only [newS, upd]; rw [if_neg]; rintro rfl; rw [ownN_self] at hn; cases hn
      · rw [if_neg]; rintro rfl; rw [ownN_self] at hn; cases hn
      · rw [if_neg]; rintro rfl; rw [ownN_self] at hn; cases hn
      · rcases opD_calm hrn ht hop with ⟨hk', _⟩ | ⟨_, b', hb', h3⟩
        · rw [hk] at hk'; cases hk'
        · have hbb : b' = b := by
            have := congrArg (fun x : HS => x.h nm) hb'
            simp [newS] at this; exact this.symm
          subst hbb
          have e1 : (⟨fun n => if ownN nm n then (newS s nm b').h n else t.h n, fun n => if n = nm then 0 else t.fz n⟩ : HS) = newS t nm b' := by
            unfold newS
            congr 1
            funext n
            simp only [upd]
            by_cases hn : n = nm
            · subst hn; simp [ownN_self, ht.own _ (ownN_self _)]
            · by_cases ho : ownN nm n = true
              · simp [hn, ho, ht.own n ho]
              · simp [hn, ho]
          rw [e1]
          unfold actD; rw [h3]

def killH (D : Name → Bool) (s : HS) : HS := { s with h := fun n => if D n then ((s.h n).1, none) else s.h n }
/-- What an operation may not look at: what others make whose order against it is open. -/
def hid (P : Program) (pf : FuncId → Bool) (ops : Array Oper) (pth : Name) (i : Nat) (n : Name) : Bool :=
  (List.range ops.size).any fun j => open2 ops j i && (match ops[j]? with | some o => maker (cls P pf o) | none => false) && ownN (j :: pth) n
theorem hid_own {i : Nat} {n : Name} (h : ownN (i :: pth) n = true) : hid P pf ops pth i n = false := by
  unfold hid
  rw [List.any_eq_false]
  intro j hj hh
  simp only [Bool.and_eq_true, open2, bne_iff_ne] at hh
  exact hh.1.1.2 (ownN_ne hh.2 h)
theorem hid_of {i j : Nat} {oj : Oper} {n : Name} (hj : ops[j]? = some oj) (ho : open2 ops j i = true) (hm : maker (cls P pf oj) = true) (h : ownN (j :: pth) n = true) : hid P pf ops pth i n = true := by
  unfold hid
  rw [List.any_eq_true]
  refine ⟨j, by simpa using (Array.getElem?_eq_some_iff.1 hj).1, ?_⟩
  simp [ho, hj, hm, h]

def dact (P : Program) (C : CallD) (pf : FuncId → Bool) (ops : Array Oper) (pth : Name) (i : Nat) (e : Operand → PV) (o : Oper) (s : HS) : Option (PV × HS) :=
  if calm (cls P pf o) then match actD P C (i :: pth) e o (killH (hid P pf ops pth i) s) with
    | some _ => actD P C (i :: pth) e o s
    | none => none
  else actD P C (i :: pth) e o s
/-- An operation, wanted or not. -/
def wact (P : Program) (C : CallD) (pf : FuncId → Bool) (ops : Array Oper) (pth : Name) (nt : Nat) (i : Nat) (env : Nat → PV) (e : Operand → PV) (o : Oper) (s : HS) : Option (PV × HS) :=
  match wantD ops env nt o with
  | some true => dact P C pf ops pth i e o s
  | some false => some (.v undef, s)
  | none => none
def dstep (P : Program) (G : Glo) (C : CallD) (pf : FuncId → Bool) (nt : Nat) (pth : Name) (ops : Array Oper) (i : Nat) (σ : St) : Option St :=
  match ops[i]? with
  | none => some σ
  | some o => match wact P C pf ops pth nt i σ.env (ev G σ.env) o σ.hs with
    | some (r, hs) => σ.set nt o.dst r hs
    | none => none
theorem dact_act {i : Nat} {e : Operand → PV} {o : Oper} {s : HS} {x : PV × HS} (h : dact P C pf ops pth i e o s = some x) : actD P C (i :: pth) e o s = some x := by
  unfold dact at h
  split at h
  · split at h
    · exact h
    · cases h
  · exact h
theorem dstep_step {i : Nat} {σ σ' : St} (h : dstep P G C pf nt pth ops i σ = some σ') : stepD P G C nt pth ops i σ = some σ' := by
  unfold dstep at h
  unfold stepD
  split at h
  · rename_i ho; rw [ho]; exact h
  · rename_i o ho
    rw [ho]
    simp only
    split at h
    case h_2 => cases h
    rename_i r hs hw
    unfold wact at hw
    split at hw
    · rename_i hwant
      rw [hwant]
      simp only
      have := dact_act hw
      unfold actD at this
      split at this
      · rename_i r' hs' ho'
        rw [ho']; cases this; exact h
      · rename_i ho'
        rw [ho']
        simp only
        split at this
        · rename_i g args hc
          rw [hc]; simp only; rw [this]; exact h
        · cases this
    · rename_i hwant
      rw [hwant]; cases hw; exact h
    · cases hw

/-- It hangs on nothing in the heap. -/
theorem wact_cases {i : Nat} {env : Nat → PV} {e : Operand → PV} {o : Oper} {s s1 : HS} {r : PV} (h : wact P C pf ops pth nt i env e o s = some (r, s1)) :
    (∀ t, wact P C pf ops pth nt i env e o t = some (r, t)) ∨ (wantD ops env nt o = some true ∧ cls P pf o ≠ .pure ∧ dact P C pf ops pth i e o s = some (r, s1)) := by
  unfold wact at h
  split at h
  · rename_i hw
    by_cases hp : cls P pf o = .pure
    · left
      intro t
      unfold wact
      rw [hw]
      simp only
      have hcalm : calm (cls P pf o) = false := by rw [hp]; rfl
      unfold dact at h ⊢
      rw [hcalm] at h ⊢
      simp only [Bool.false_eq_true, if_false] at h ⊢
      have hnc : callOf e o = none := by
        unfold callOf
        split
        · rename_i c hop
          split
          · rename_i f hf
            split
            · exfalso
              unfold cls at hp
              rw [hop] at hp
              simp only [hf] at hp
              cases f <;> simp only at hp <;> first | (cases hp; done) | (split at hp <;> cases hp)
            · rfl
          · rfl
        · rfl
      unfold actD at h ⊢
      split at h
      · rename_i r' hs ho
        cases h
        obtain ⟨_, h2⟩ := opD_pure (t := t) hp ho
        rw [h2]
      · rw [hnc] at h; cases h
    · exact .inr ⟨hw, hp, h⟩
  · rename_i hw
    cases h
    left
    intro t
    unfold wact
    rw [hw]
  · cases h

theorem merged_comm {i j : Nat} {a b c : Hp} (hij : i ≠ j) :
    (fun n => if ownN (i :: pth) n then a n else if ownN (j :: pth) n then b n else c n) = (fun n => if ownN (j :: pth) n then b n else if ownN (i :: pth) n then a n else c n) := by
  funext n
  by_cases h1 : ownN (i :: pth) n = true
  · by_cases h2 : ownN (j :: pth) n = true
    · exact absurd (ownN_ne h1 h2) hij
    · simp [h1, h2]
  · simp [h1]

/-- Two operations of open order, exchanged: what they do to the heap. -/
theorem dact_swap (hC : CLocal pf C) {i j : Nat} {oi oj : Oper} (hoi : ops[i]? = some oi) (hoj : ops[j]? = some oj) (h1 : open2 ops j i = true) (h2 : open2 ops i j = true) {ei ej : Operand → PV} (hei : ∀ f, ei (.func f) = .clo f []) (hej : ∀ f, ej (.func f) = .clo f [])
    (hci : calm (cls P pf oi) = true) (hcj : calm (cls P pf oj) = true) (hnc : ¬ (cls P pf oi = .call ∧ cls P pf oj = .call)) {s s1 s2 : HS} {ri rj : PV}
    (hj : dact P C pf ops pth j ej oj s = some (rj, s1)) (hi : dact P C pf ops pth i ei oi s1 = some (ri, s2)) :
    ∃ s1', dact P C pf ops pth i ei oi s = some (ri, s1') ∧ dact P C pf ops pth j ej oj s1' = some (rj, s2) := by
  have hij : i ≠ j := by
    intro e; subst e
    simp [open2] at h1
  unfold dact at hj hi ⊢
  simp only [hci, hcj, if_true] at hj hi ⊢
  split at hj
  case h_2 => cases hj
  rename_i xj hkj
  split at hi
  case h_2 => cases hi
  rename_i xi hki
  obtain ⟨rj', tj⟩ := xj
  obtain ⟨ri', ti⟩ := xi
  obtain ⟨φj, Lj⟩ := actD_local hC hej hcj hkj
  obtain ⟨φi, Li⟩ := actD_local hC hei hci hki
  -- j, at s
  have sj : Sees (j :: pth) (killH (hid P pf ops pth j) s) s := ⟨fun n hn => by simp [killH, hid_own (P := P) hn], fun n k b hn => by
    simp only [killH] at hn; split at hn
    · simp at hn
    · exact hn⟩
  have ej1 := Lj.mono s sj
  rw [ej1] at hj
  simp only [Option.some.injEq, Prod.mk.injEq] at hj
  obtain ⟨rfl, rfl⟩ := hj
  obtain ⟨s1, hs1⟩ : ∃ s1 : HS, s1 = ⟨fun n => if ownN (j :: pth) n then tj.h n else s.h n, fun n => φj n (s.fz n)⟩ := ⟨_, rfl⟩
  rw [← hs1] at hki hi Li
  have si : Sees (i :: pth) (killH (hid P pf ops pth i) s1) s1 := ⟨fun n hn => by simp [killH, hid_own (P := P) hn], fun n k b hn => by
    simp only [killH] at hn; split at hn
    · simp at hn
    · exact hn⟩
  have ei1 := Li.mono s1 si
  rw [ei1] at hi
  simp only [Option.some.injEq, Prod.mk.injEq] at hi
  obtain ⟨rfl, rfl⟩ := hi
  -- what j leaves outside of what i may not see
  have s1h : ∀ n, hid P pf ops pth i n = false → s1.h n = s.h n := by
    intro n hn
    rw [hs1]
    simp only
    by_cases ho : ownN (j :: pth) n = true
    · rw [if_pos ho]
      by_cases hm : maker (cls P pf oj) = true
      · rw [hid_of hoj h1 hm ho] at hn; cases hn
      · have hr : cls P pf oj = .read := by cases hk : cls P pf oj <;> simp_all [calm, maker]
        rw [(Lj.rd hr).2]
        simp [killH, hid_own ho]
    · rw [if_neg ho]
  have see1 : ∀ t : HS, (∀ n, hid P pf ops pth i n = false → t.h n = s.h n) → Sees (i :: pth) (killH (hid P pf ops pth i) s1) t := fun t ht => ⟨fun n hn => by
      have := hid_own (P := P) (pf := pf) (ops := ops) hn
      simp only [killH, this, Bool.false_eq_true, if_false]
      rw [s1h n this, ht n this], fun n k b hn => by
      simp only [killH] at hn
      split at hn
      · simp at hn
      · rename_i hh
        have hh' : hid P pf ops pth i n = false := by simpa using hh
        rw [ht n hh', ← s1h n hh']; exact hn⟩
  have gi0 := Li.mono (killH (hid P pf ops pth i) s) (see1 _ fun n hn => by simp [killH, hn])
  have gi := Li.mono s (see1 s fun _ _ => rfl)
  refine ⟨_, by rw [gi0]; exact gi, ?_⟩
  obtain ⟨s1', hs1'⟩ : ∃ s1' : HS, s1' = ⟨fun n => if ownN (i :: pth) n then ti.h n else s.h n, fun n => φi n (s.fz n)⟩ := ⟨_, rfl⟩
  rw [← hs1']
  have s1h' : ∀ n, hid P pf ops pth j n = false → s1'.h n = s.h n := by
    intro n hn
    rw [hs1']
    simp only
    by_cases ho : ownN (i :: pth) n = true
    · rw [if_pos ho]
      by_cases hm : maker (cls P pf oi) = true
      · rw [hid_of hoi h2 hm ho] at hn; cases hn
      · have hr : cls P pf oi = .read := by cases hk : cls P pf oi <;> simp_all [calm, maker]
        rw [(Li.rd hr).2]
        have hd := hid_own (P := P) (pf := pf) (ops := ops) ho
        simp only [killH, hd, Bool.false_eq_true, if_false]
        exact s1h n hd
    · rw [if_neg ho]
  have see2 : ∀ t : HS, (∀ n, hid P pf ops pth j n = false → t.h n = s.h n) → Sees (j :: pth) (killH (hid P pf ops pth j) s) t := fun t ht => ⟨fun n hn => by
      have := hid_own (P := P) (pf := pf) (ops := ops) hn
      simp only [killH, this, Bool.false_eq_true, if_false]
      rw [ht n this], fun n k b hn => by
      simp only [killH] at hn
      split at hn
      · simp at hn
      · rename_i hh
        rw [ht n (by simpa using hh)]; exact hn⟩
  have gj0 := Lj.mono (killH (hid P pf ops pth j) s1') (see2 _ fun n hn => by simp [killH, hn, s1h' n hn])
  have gj := Lj.mono s1' (see2 s1' s1h')
  rw [gj0]
  simp only
  rw [gj]
  congr 2
  rw [hs1, hs1']
  simp only
  rw [← merged_comm hij]
  refine congrArg (fun f => HS.mk _ f) ?_
  funext n
  by_cases o1 : ownN (i :: pth) n = true
  · have o2 : ownN (j :: pth) n = false := by
      cases hh : ownN (j :: pth) n with
      | false => rfl
      | true => exact absurd (ownN_ne o1 hh) hij
    by_cases hm : maker (cls P pf oi) = true
    · have hd := hid_of hoi h2 hm o1
      rw [Lj.fdead n _ o2 (by simp [killH, hd]), Lj.fdead n _ o2 (by simp [killH, hd])]
    · have hr : cls P pf oi = .read := by cases hk : cls P pf oi <;> simp_all [calm, maker]
      rw [(Li.rd hr).1, (Li.rd hr).1]
  · have o1 : ownN (i :: pth) n = false := by simpa using o1
    by_cases o2 : ownN (j :: pth) n = true
    · by_cases hm : maker (cls P pf oj) = true
      · have hd := hid_of hoj h1 hm o2
        rw [Li.fdead n _ o1 (by simp [killH, hd]), Li.fdead n _ o1 (by simp [killH, hd])]
      · have hr : cls P pf oj = .read := by cases hk : cls P pf oj <;> simp_all [calm, maker]
        rw [(Lj.rd hr).1, (Lj.rd hr).1]
    · have o2 : ownN (j :: pth) n = false := by simpa using o2
      by_cases hk : cls P pf oi = .call
      · have hk' : cls P pf oj ≠ .call := fun h => hnc ⟨hk, h⟩
        rw [Lj.fnc hk' n _ o2, Lj.fnc hk' n _ o2]
      · rw [Li.fnc hk n _ o1, Li.fnc hk n _ o1]

theorem wact_swap (hC : CLocal pf C) {i j : Nat} {oi oj : Oper} (hoi : ops[i]? = some oi) (hoj : ops[j]? = some oj) (h1 : open2 ops j i = true) (h2 : open2 ops i j = true) (hcm : compat (cls P pf oj) (cls P pf oi) = true) {vi vj : Nat → PV} {ei ej : Operand → PV} (hei : ∀ f, ei (.func f) = .clo f []) (hej : ∀ f, ej (.func f) = .clo f [])
    {s s1 s2 : HS} {ri rj : PV} (hj : wact P C pf ops pth nt j vj ej oj s = some (rj, s1)) (hi : wact P C pf ops pth nt i vi ei oi s1 = some (ri, s2)) :
    ∃ s1', wact P C pf ops pth nt i vi ei oi s = some (ri, s1') ∧ wact P C pf ops pth nt j vj ej oj s1' = some (rj, s2) := by
  rcases wact_cases hj with aj | ⟨wj, pj, dj⟩
  · have := aj s
    rw [hj] at this
    simp only [Option.some.injEq, Prod.mk.injEq, true_and] at this
    subst this
    exact ⟨s2, hi, aj s2⟩
  · rcases wact_cases hi with ai | ⟨wi, pi, di⟩
    · have := ai s1
      rw [hi] at this
      simp only [Option.some.injEq, Prod.mk.injEq, true_and] at this
      subst this
      exact ⟨s, ai s, hj⟩
    · have hci : calm (cls P pf oi) = true := by cases hk : cls P pf oi <;> cases hk' : cls P pf oj <;> simp_all [calm, compat]
      have hcj : calm (cls P pf oj) = true := by cases hk : cls P pf oi <;> cases hk' : cls P pf oj <;> simp_all [calm, compat]
      have hnc : ¬ (cls P pf oi = .call ∧ cls P pf oj = .call) := by rintro ⟨a, b⟩; rw [a, b] at hcm; cases hcm
      obtain ⟨s1', g1, g2⟩ := dact_swap hC hoi hoj h1 h2 hei hej hci hcj hnc dj di
      exact ⟨s1', by unfold wact; rw [wi]; exact g1, by unfold wact; rw [wj]; exact g2⟩
end
end Go.Proofs.YtbidfkibpjjghaaDoor.Den
