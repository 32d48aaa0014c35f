/- Texts joined by a program of mine (pack.py): DenN. -/
import Derived.Test.YtdbekeidlppfiaaGreatDoorDenM
import Derived.Test.YtdbekeidlppfiaaGreatDoorDenMp
set_option linter.unusedVariables false
set_option linter.unusedSimpArgs false
namespace Go.Proofs.YtdbekeidlppfiaaGreatDoor.Den
open Go Go.RowKit
section
variable {P : Program} {G : Glo} {C : CallD} {nt : Nat} {pth : Name} {ops : Array Oper} {pf : FuncId → Bool} {W : Nat → List Name}
def putT (env : Nat → PV) (d : Option Tmp) (x : PV) : Nat → PV := match d with
 | none => env
 | some d => fun t => if t = d then x else env t
def fits (nt : Nat) (d : Option Tmp) : Bool := match d with
 | none => true
 | some d => decide (d < nt)
theorem set_eq (σ : St) (d : Option Tmp) (x : PV) (hs : HS) : σ.set nt d x hs = if fits nt d then some ⟨putT σ.env d x, hs⟩ else none := by
 cases d with
 | none => rfl
 | some d => simp only [St.set, fits, putT, decide_eq_true_eq]
theorem foot_congr {e e' : Operand → PV} {o : Oper} {s : HS} (he : ∀ x ∈ o.op.operands, e x = e' x) : foot P pf e o s = foot P pf e' o s := by
 have hc := callOf_congr (P := P) he
 obtain ⟨dst, op, ty, pos, after, guard⟩ := o
 unfold foot
 cases op <;> simp only
 case store t a x => rw [he a (by simp [Op.operands])]
 case call c =>
  rw [hc]
  obtain ⟨callee, args, ats⟩ := c
  cases callee <;> try rfl
  rename_i b
  cases b <;> try rfl
  simp only
  split
  ·rename_i x y hxy
   rw [he x (by simp [Op.operands, Call.operands, ← Array.mem_toList_iff, hxy]), he y (by simp [Op.operands, Call.operands, ← Array.mem_toList_iff, hxy])]
  ·rfl
theorem guardC_congr {i : Nat} {e e' : Operand → PV} {o : Oper} {s : HS} (he : ∀ x ∈ o.op.operands, e x = e' x) : guardC P C pf ops pth W i e o s = guardC P C pf ops pth W i e' o s := by
 unfold guardC
 rw [foot_congr he, callOf_congr (P := P) he, actD_congr (s := killH (hid P pf ops pth W i) s) he, actD_congr (s := s) he]
theorem wact_congr {i : Nat} {env env' : Nat → PV} {e e' : Operand → PV} {o : Oper} {s : HS} (he : ∀ x ∈ o.op.operands, e x = e' x) (hg : ∀ g t d, o.guard = some (g, t) → (ops[g]?).bind (·.dst) = some d → env d = env' d) :
  wact P C pf ops pth W nt i env e o s = wact P C pf ops pth W nt i env' e' o s := by
 have hw : wantD ops env nt o = wantD ops env' nt o := by
  unfold wantD
  split
  ·rfl
  ·rename_i j want hgd
   split
   ·rfl
   ·rename_i d hd
    rw [hg j want d hgd hd]
 unfold wact dact
 rw [hw, guardC_congr he, actD_congr (s := s) he]
theorem ev_put {env : Nat → PV} {d : Option Tmp} {x : PV} {y : Operand} (h : ∀ k, d = some k → y ≠ .tmp k) : ev G (putT env d x) y = ev G env y := by
 cases d with
 | none => rfl
 | some k =>
  cases y with
  | tmp t =>
   have : t ≠ k := fun e => h k rfl (by rw [e])
   simp [ev, putT, this]
  | const v => rfl
  | global g => rfl
  | func f => rfl
theorem looks_operand {o : Oper} {k : Nat} (h : Operand.tmp k ∈ o.op.operands) : k ∈ o.looksAt ops := List.mem_append_left _ (List.mem_filterMap.2 ⟨.tmp k, by simpa using h, rfl⟩)
theorem looks_guard {o : Oper} {g : Nat} {t : Bool} {d : Nat} (hg : o.guard = some (g, t)) (hd : (ops[g]?).bind (·.dst) = some d) : d ∈ o.looksAt ops := by
 unfold Oper.looksAt
 apply List.mem_append_right
 rw [hg]; simp only [hd]; simp
theorem wact_put {i : Nat} {env : Nat → PV} {o : Oper} {s : HS} {d : Option Tmp} {x : PV} (h : ∀ k, d = some k → k ∉ o.looksAt ops) :
  wact P C pf ops pth W nt i (putT env d x) (ev G (putT env d x)) o s = wact P C pf ops pth W nt i env (ev G env) o s := by
 refine wact_congr (fun y hy => ev_put fun k hk e => h k hk (looks_operand (by rw [← e]; exact hy))) fun g t k hg hk => ?_
 cases d with
 | none => rfl
 | some d =>
  have : k ≠ d := fun e => h d rfl (by rw [← e]; exact looks_guard hg hk)
  simp [putT, this]
theorem putE_comm {env : Nat → PV} {d d' : Option Tmp} {x y : PV} (h : ∀ k, d = some k → d' ≠ some k) : putT (putT env d x) d' y = putT (putT env d' y) d x := by
 cases d with
 | none => rfl
 | some d =>
  cases d' with
  | none => rfl
  | some d' =>
   have hne : d' ≠ d := fun e => h d rfl (by rw [e])
   funext t
   simp only [putT]
   by_cases h1 : t = d
   ·subst h1; simp [Ne.symm hne]
   ·simp [h1]
theorem dstep_swap (hC : CLocal pf C) {i j : Nat} (h1 : open2 ops j i = true) (h2 : open2 ops i j = true) (hp : pairOk P pf ops j i = true) {σ σ1 σ2 : St} (hj : dstep P G C pf nt pth W ops j σ = some σ1) (hi : dstep P G C pf nt pth W ops i σ1 = some σ2) :
  ∃ σ1', dstep P G C pf nt pth W ops i σ = some σ1' ∧ dstep P G C pf nt pth W ops j σ1' = some σ2 := by
 unfold dstep at hj hi ⊢
 cases hoj : ops[j]? with
 | none =>
  rw [hoj] at hj
  simp only [Option.some.injEq] at hj
  subst hj
  exact ⟨σ2, hi, rfl⟩
 | some oj =>
  cases hoi : ops[i]? with
  | none =>
   rw [hoi] at hi
   simp only [Option.some.injEq] at hi
   subst hi
   exact ⟨σ, rfl, by rw [hoj] at hj; exact hj⟩
  | some oi =>
   rw [hoj] at hj
   rw [hoi] at hi
   simp only at hj hi ⊢
   unfold pairOk at hp
   rw [hoj, hoi] at hp
   simp only [Bool.and_eq_true] at hp
   obtain ⟨⟨hap, hap'⟩, hcm⟩ := hp
   obtain ⟨a1, a2, a3⟩ := Oper.apart_spec hap
   split at hj
   case h_2 => cases hj
   rename_i rj sj hwj
   split at hi
   case h_2 => cases hi
   rename_i ri si hwi
   rw [set_eq] at hj hi
   split at hj
   case isFalse => cases hj
   rename_i fj
   split at hi
   case isFalse => cases hi
   rename_i fi
   simp only [Option.some.injEq] at hj hi
   subst hj hi
   simp only at hwi
   rw [wact_put a1] at hwi
   obtain ⟨s', g1, g2⟩ := wact_swap hC hoi hoj h1 h2 hcm (fun f => rfl) (fun f => rfl) hwj hwi
   refine ⟨⟨putT σ.env oi.dst ri, s'⟩, by rw [g1]; simp only; rw [set_eq, if_pos fi], ?_⟩
   simp only
   rw [wact_put a3, g2]
   simp only
   rw [set_eq, if_pos fj]
   simp only [Option.some.injEq, St.mk.injEq, and_true]
   exact (putE_comm fun k hk e => a2 k hk e).symm
theorem bubble (hC : CLocal pf C) {i : Nat} {B : List Nat} : ∀ (A : List Nat) (σ σ' : St), (∀ j ∈ A, open2 ops j i = true ∧ open2 ops i j = true ∧ pairOk P pf ops j i = true) → runOps (dstep P G C pf nt pth W ops) (A ++ i :: B) σ = some σ' →
  ∃ σ1, dstep P G C pf nt pth W ops i σ = some σ1 ∧ runOps (dstep P G C pf nt pth W ops) (A ++ B) σ1 = some σ'
 | [], σ, σ', _, h => by
  simp only [List.nil_append, runOps] at h ⊢
  split at h
  ·rename_i σ1 h1; exact ⟨σ1, h1, h⟩
  ·cases h
 | j :: A, σ, σ', hA, h => by
  simp only [List.cons_append, runOps] at h ⊢
  split at h
  case h_2 => cases h
  rename_i σj hj
  obtain ⟨σ2, h1, h2⟩ := bubble hC A σj σ' (fun k hk => hA k (by simp [hk])) h
  obtain ⟨p1, p2, p3⟩ := hA j (by simp)
  obtain ⟨σ1', g1, g2⟩ := dstep_swap hC p1 p2 p3 hj h1
  exact ⟨σ1', g1, by rw [g2]; exact h2⟩
def rem (ops : Array Oper) (listed : Array Bool) : List Nat := (List.range ops.size).filter fun k => !listed.getD k true
theorem rem_nil {listed : Array Bool} (h : rem ops listed = []) : Region.ready .any ops listed = [] := by
 rw [List.eq_nil_iff_forall_not_mem]
 intro i hi
 rw [mem_ready] at hi
 obtain ⟨h0, o, ho, _⟩ := hi
 have : i ∈ rem ops listed := by
  unfold rem
  rw [List.mem_filter, List.mem_range]
  exact ⟨(Array.getElem?_eq_some_iff.1 ho).1, by rw [h0]; rfl⟩
 rw [h] at this; cases this
theorem drawOk_at (hd : drawOk P pf ops = true) {i : Nat} (hi : i < ops.size) : (∀ o, ops[i]? = some o → ∀ e ∈ o.after, Region.binds .any e = true → e.on < i) ∧
  ∀ j, j < i → ((masks ops ops.size).getD j 0).testBit i = false ∧ (((masks ops ops.size).getD i 0).testBit j = true ∨ pairOk P pf ops j i = true) := by
 unfold drawOk at hd
 simp only [List.all_eq_true, List.mem_range, Bool.and_eq_true, Bool.or_eq_true, Bool.not_eq_true', decide_eq_true_eq] at hd
 obtain ⟨h1, h2⟩ := hd i hi
 refine ⟨fun o ho e he hb => ?_, fun j hj => h2 j hj⟩
 rw [ho] at h1
 simp only [Bool.and_eq_true, List.all_eq_true, Bool.or_eq_true, Bool.not_eq_true', decide_eq_true_eq] at h1
 rcases h1.1 e (by simpa using he) with h | h
 ·rw [hb] at h; cases h
 ·exact h
def Down (ops : Array Oper) (listed : Array Bool) : Prop := ∀ i, i < ops.size → listed.getD i true = true → ∀ j, ((masks ops ops.size).getD i 0).testBit j = true → listed.getD j false = true
theorem mask_at {i : Nat} (hi : i < ops.size) : (masks ops ops.size).getD i 0 = maskOf (masks ops i) ops[i] := by
 rw [masks_get ops ops.size i hi, Array.getElem?_eq_getElem hi]
theorem masks_prefix {n i : Nat} (hn : i < n) (hm : n ≤ ops.size) : (masks ops n).getD i 0 = (masks ops ops.size).getD i 0 := by
 rw [masks_get ops n i hn, masks_get ops ops.size i (by omega)]
theorem rem_set {listed : Array Bool} {i : Nat} {A B : List Nat} (h : rem ops listed = A ++ i :: B) (hsz : listed.size = ops.size) : rem ops (listed.setIfInBounds i true) = A ++ B := by
 have hnd : (rem ops listed).Nodup := List.Pairwise.filter _ List.nodup_range
 have hmem : i ∈ rem ops listed := by rw [h]; simp
 have hi : i < ops.size := by
  unfold rem at hmem
  rw [List.mem_filter, List.mem_range] at hmem; exact hmem.1
 have e1 : rem ops (listed.setIfInBounds i true) = (rem ops listed).filter (fun k => k != i) := by
  unfold rem
  rw [List.filter_filter]
  apply List.filter_congr
  intro k hk
  by_cases hki : k = i
  ·subst hki
   have : (listed.setIfInBounds k true).getD k true = true := by
    rw [Array.getD_eq_getD_getElem?, Array.getElem?_setIfInBounds, if_pos rfl, if_pos (by omega)]; rfl
   simp [this]
  ·rw [getD_set_ne true (fun e => hki e.symm)]; simp [hki]
 rw [e1, h]
 rw [h] at hnd
 have hA : i ∉ A := fun hi => by
  have := List.nodup_append.1 hnd
  exact this.2.2 i hi i (by simp) rfl
 have hB : i ∉ B := by
  have := (List.nodup_append.1 hnd).2.1
  exact (List.nodup_cons.1 this).1
 rw [List.filter_append, List.filter_cons]
 simp only [bne_self_eq_false, Bool.false_eq_true, if_false]
 rw [List.filter_eq_self.2 (fun a ha => by simp; rintro rfl; exact hA ha), List.filter_eq_self.2 (fun a ha => by simp; rintro rfl; exact hB ha)]
theorem any_ok (hCO : CallOk P G C) (hC : CLocal pf C) (hd : drawOk P pf ops = true) {B : Base} {Q : Exit → Act → World → Prop} : ∀ (fuel : Nat) (listed : Array Bool) (σ σ' : St) (m : Name → Nat) (a : Act) (w : World), (rem ops listed).length = fuel → listed.size = ops.size → Down ops listed →
  runOps (dstep P G C pf nt pth W ops) (rem ops listed) σ = some σ' → Rel B G nt m σ a w → (∀ a' w' m', Rel B G nt m' σ' a' w' → Evol (ctx B σ.hs m w) (ctx B σ'.hs m' w') → Q .normal a' w') → wpAny P .any ops Q fuel listed a w
 | 0, listed, σ, σ', m, a, w, hf, hsz, hdn, hrun, r, hQ => by
  have hnil : rem ops listed = [] := List.eq_nil_of_length_eq_zero hf
  rw [hnil] at hrun
  simp only [runOps, Option.some.injEq] at hrun
  subst hrun
  exact ⟨rem_nil hnil, hQ a w m r (Evol.refl _)⟩
 | fuel + 1, listed, σ, σ', m, a, w, hf, hsz, hdn, hrun, r, hQ => by
  refine ⟨fun hr => ?_, fun i hi => ?_⟩
  ·-- the first one that is left is ready
   exfalso
   cases hrem : rem ops listed with
   | nil => rw [hrem] at hf; simp at hf
   | cons i l =>
    have hmem : i ∈ rem ops listed := by rw [hrem]; simp
    have hmin : ∀ k, k < i → k < ops.size → listed.getD k true = true := by
     intro k hk hks
     cases hc : listed.getD k true with
     | true => rfl
     | false =>
      exfalso
      have hkm : k ∈ rem ops listed := by unfold rem; rw [List.mem_filter, List.mem_range]; exact ⟨hks, by rw [hc]; rfl⟩
      have hs : (rem ops listed).Pairwise (· < ·) := List.Pairwise.filter _ List.pairwise_lt_range
      rw [hrem] at hkm hs
      rcases List.mem_cons.1 hkm with h | h
      ·omega
      ·have := (List.pairwise_cons.1 hs).1 k h; omega
    unfold rem at hmem
    rw [List.mem_filter, List.mem_range] at hmem
    have hready : i ∈ Region.ready .any ops listed := by
     rw [mem_ready]
     refine ⟨by simpa using hmem.2, ops[i], Array.getElem?_eq_getElem hmem.1, fun e he hb => ?_⟩
     have hlt := (drawOk_at hd hmem.1).1 _ (Array.getElem?_eq_getElem hmem.1) e he hb
     have h1 := hmin e.on hlt (by omega)
     rw [Array.getD_eq_getD_getElem?, Array.getElem?_eq_getElem (by omega)] at h1 ⊢
     exact h1
    rw [hr] at hready; cases hready
  ·have hir := hi
   rw [mem_ready] at hi
   obtain ⟨h0, o, ho, hall⟩ := hi
   have his : i < ops.size := (Array.getElem?_eq_some_iff.1 ho).1
   have hio : ops[i] = o := (Array.getElem?_eq_some_iff.1 ho).2
   have hmem : i ∈ rem ops listed := by unfold rem; rw [List.mem_filter, List.mem_range]; exact ⟨his, by rw [h0]; rfl⟩
   obtain ⟨A, Bl, hAB⟩ := List.append_of_mem hmem
   -- what i waits for, near or far, has been
   have hanc : ∀ j, ((masks ops ops.size).getD i 0).testBit j = true → listed.getD j false = true := by
    intro j hj
    rw [mask_at his, hio] at hj
    obtain ⟨e, he, hb, h⟩ := mask_bit _ _ hj
    have hel := hall e (by simpa using he) hb
    have hlt := (drawOk_at hd his).1 o ho e (by simpa using he) hb
    rcases h with rfl | h
    ·exact hel
    ·rw [masks_prefix hlt (by omega)] at h
     refine hdn e.on (by omega) ?_ j h
     rw [Array.getD_eq_getD_getElem?, Array.getElem?_eq_getElem (by omega)] at hel ⊢
     exact hel
   have hA : ∀ j ∈ A, open2 ops j i = true ∧ open2 ops i j = true ∧ pairOk P pf ops j i = true := by
    intro j hj
    have hs : (rem ops listed).Pairwise (· < ·) := List.Pairwise.filter _ List.pairwise_lt_range
    rw [hAB] at hs
    have hlt : j < i := (List.pairwise_append.1 hs).2.2 j hj i (by simp)
    have hjm : j ∈ rem ops listed := by rw [hAB]; simp [hj]
    unfold rem at hjm
    rw [List.mem_filter, List.mem_range] at hjm
    obtain ⟨g1, g2⟩ := (drawOk_at hd his).2 j hlt
    have hnb : ((masks ops ops.size).getD i 0).testBit j = false := by
     cases hc : ((masks ops ops.size).getD i 0).testBit j with
     | false => rfl
     | true =>
      have h1 := hanc j hc
      have h2 : listed.getD j true = false := by simpa using hjm.2
      rw [Array.getD_eq_getD_getElem?, Array.getElem?_eq_getElem (by omega)] at h1 h2
      rw [show (some listed[j]).getD false = (some listed[j]).getD true from rfl] at h1
      rw [h1] at h2; cases h2
    refine ⟨?_, ?_, g2.resolve_left (by rw [hnb]; simp)⟩ <;> unfold open2
    ·rw [hnb, g1]; simp; omega
    ·rw [hnb, g1]; simp; omega
   rw [hAB] at hrun
   obtain ⟨σ1, hs1, hrest⟩ := bubble hC A σ σ' hA hrun
   refine stepD_ok hCO r (dstep_step hs1) fun a1 w1 m1 r1 e1 => ?_
   have hset := rem_set hAB hsz
   refine any_ok hCO hC hd fuel (listed.setIfInBounds i true) σ1 σ' m1 a1 w1 (by rw [hset]; rw [hAB] at hf; simp at hf ⊢; omega) (by simp [hsz]) ?_ (by rw [hset]; exact hrest) r1 fun a' w' m' r' e' => hQ a' w' m' r' (e1.trans e')
   intro k hk hkl j hj
   by_cases hki : k = i
   ·subst hki
    exact getD_set_true (hanc j hj)
   ·rw [getD_set_ne true (fun e => hki e.symm)] at hkl
    exact getD_set_true (hdn k hk hkl j hj)
def foresee (P : Program) (G : Glo) (ops : Array Oper) (σ : St) : Nat → Operand → PV
 | 0, _ => .v undef
 | k + 1, .tmp t => match ops.toList.find? fun o => o.dst == some t with
  | none => σ.env t
  | some o => match o.op with
   | .move x => foresee P G ops σ k x
   | .assign x => foresee P G ops σ k x
   | .nilCheck x => foresee P G ops σ k x
   | .fieldAddr ty x f => (fldA P ty f (foresee P G ops σ k x)).getD (.v undef)
   | .load ty x => (ldD P σ.hs ty (foresee P G ops σ k x)).getD (.v undef)
   | _ => .v undef
 | _ + 1, x => ev G σ.env x
def opsOf : Code → List Oper
 | .region _ ops _ => ops.toList
 | .seq x y => opsOf x ++ opsOf y
 | .cond _ x y => opsOf x ++ opsOf y
 | .block _ c => opsOf c
 | .loop c => opsOf c
 | _ => []
def ownT (L : List Oper) : Nat → Operand → Bool
 | 0, _ => false
 | k + 1, .tmp t => (match L.find? fun o => o.dst == some t with
  | some o => (match o.op with
   | .alloc _ => true
   | .box .. => true
   | .fieldAddr _ x _ => ownT L k x
   | .nilCheck x => ownT L k x
   | .move x => ownT L k x
   | _ => false)
  | none => false)
 | _, _ => false
def looks (P : Program) (pf : FuncId → Bool) : Nat → FuncId → Bool
 | 0, _ => false
 | k + 1, f => match P.funcs[f]? with
  | some fn => (match fn.body with
   | some c => (opsOf c).all fun o => (match o.op with
    | .store _ a _ => ownT (opsOf c) 9 a
    | .call c => (match c.callee with
     | .value (.func g) => pf g || looks P pf k g
     | .builtin .len => true
     | .builtin .min => true
     | .builtin .max => true
     | _ => false)
    | _ => true)
   | none => false)
  | none => false
def wOf (P : Program) (G : Glo) (pf : FuncId → Bool) (ops : Array Oper) (σ : St) (j : Nat) : List Name := match ops[j]? with
 | some o => match o.op with
  | .store _ a _ => (nmB (foresee P G ops σ 20 a)).map (·.1)
  | .call c => match c.callee with
   | .value f => if (match foresee P G ops σ 20 f with
    | .clo g _ => looks P pf 4 g
    | .mth g _ => looks P pf 4 g
    | _ => false) then [] else (coll σ.hs 60 (nmL (c.args.toList.map (foresee P G ops σ 20)) ++ nmB (foresee P G ops σ 20 f)) []).map (·.1)
   | .invoke x _ => (coll σ.hs 60 (nmL (c.args.toList.map (foresee P G ops σ 20)) ++ nmB (foresee P G ops σ 20 x)) []).map (·.1)
   | .builtin .append => match c.args.toList with
    | [x, y] => rowN (foresee P G ops σ 20 x) ++ rowN (foresee P G ops σ 20 y)
    | _ => []
   | _ => []
  | _ => []
 | none => []
def hasMap (ops : Array Oper) : Bool := ops.toList.any fun o => match o.op with | .makeMap .. => true | _ => false
def regD (P : Program) (G : Glo) (C : CallD) (pf : FuncId → Bool) (pth : Name) (nt : Nat) : RegD := fun id ops draw σ =>
 if draw then (if drawOk P pf ops then runOps (dstep P G C pf nt (id :: pth) (wOf P G pf ops σ) ops) (List.range ops.size) σ else none)
 else match runOps (stepD P G C nt (id :: pth) ops) (List.range ops.size) σ with
  | some σ' => some σ'
  | none => if hasMap ops then runM P G C nt (id :: pth) ops (List.range ops.size) σ none else none
theorem regD_ok (hm : P.follows .mixedOrders = true) (hCO : CallOk P G C) (hC : CLocal pf C) (pth : Name) (nt : Nat) : RegOk P G nt (regD P G C pf pth nt) := by
 intro id ops draw σ σ' h B m a w r
 unfold regD at h
 split at h
 ·rename_i hdr
  have hdr : draw = true := by simpa using hdr
  subst hdr
  split at h
  case isFalse => cases h
  rename_i hd
  have e0 : rem ops (Array.replicate ops.size false) = List.range ops.size := by
   unfold rem
   rw [List.filter_eq_self]
   intro k hk
   rw [List.mem_range] at hk
   rw [Array.getD_eq_getD_getElem?, Array.getElem?_replicate, if_pos hk]; rfl
  have ev : Evol (ctx B σ.hs m w) (ctx B σ.hs m { w with drawn := w.drawn + 1 }) := ⟨rfl, fun _ => Nat.le_refl _, fun n b' h => ⟨b', h, rfl, rfl, rfl⟩, fun _ _ h => h, fun _ _ _ _ h => h, fun _ cs _ h => ⟨cs, h, rfl⟩⟩
  have r1 : Rel B G nt m σ a { w with drawn := w.drawn + 1 } := ⟨⟨r.heap.base, ⟨r.heap.below.os, r.heap.below.tape, r.heap.below.output, r.heap.below.size, r.heap.below.block⟩, fun n k b hn => by
    obtain ⟨g1, g2, g3, g4⟩ := r.heap.blk n k b hn
    exact ⟨g1.evol ev rfl, g2, g3, g4⟩, r.heap.inj, r.heap.keep, r.heap.root_evol ev⟩, fun t => (r.env t).evol ev, r.size, r.defers, r.glo.evol ev⟩
  refine wp_region_any hm (any_ok hCO hC hd ops.size _ σ σ' m a _ (by rw [e0]; simp) (by simp) ?_ (by rw [e0]; exact h) r1 fun a' w' m' r' e' => ⟨rfl, m', r', ev.trans e'⟩)
  intro i hi hl
  rw [Array.getD_eq_getD_getElem?, Array.getElem?_replicate, if_pos hi] at hl
  simp at hl
 ·rename_i hdr
  have hdr : draw = false := by simpa using hdr
  subst hdr
  split at h
  ·rename_i σ1 h1
   cases h
   exact wp_region (runOps_ok hCO _ σ σ' m a w r h1 fun a' w' m' r' e' => ⟨rfl, m', r', e'⟩)
  ·split at h
   ·exact wp_region (runM_ok hCO _ σ σ' none m a w r (fun ms' he => by cases he) h fun a' w' m' r' e' => ⟨rfl, m', r', e'⟩)
   ·cases h
end
end Go.Proofs.YtdbekeidlppfiaaGreatDoor.Den
