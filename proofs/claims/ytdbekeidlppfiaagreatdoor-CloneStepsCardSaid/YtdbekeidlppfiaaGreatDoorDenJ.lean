/- Texts joined by a program of mine (pack.py): DenJ. -/
import Derived.Test.YtdbekeidlppfiaaGreatDoorDenI
import Derived.LoopN
set_option linter.unusedVariables false
set_option linter.unusedSimpArgs false
namespace Go.Proofs.YtdbekeidlppfiaaGreatDoor.Den
open Go Go.RowKit
structure St where
 env : Nat → PV
 hs : HS
abbrev Glo := Nat → Option (List PV)
def ev (G : Glo) (env : Nat → PV) : Operand → PV
 | .tmp t => env t
 | .const v => PV.ofV v
 | .global g => match G g with
  | some cs => .eptr cs
  | none => .v (.pointer (some ⟨g, 0, none⟩))
 | .func f => .clo f []
structure GOk (c : Ctx) (G : Glo) : Prop where
 rel : ∀ g cs, G g = some cs → VR c (.eptr cs) (.pointer (some ⟨g, 0, none⟩))
 closed : ∀ g cs, G g = some cs → closedL cs = true
 inj : ∀ g g' t t' k k', G g = some [.ifc t (.far k)] → G g' = some [.ifc t' (.far k')] → c.F k = c.F k' → k = k'
 far : ∀ (g : Nat) (t : TypeId) (k : Nat), G g = some [.ifc t (.far k)] → ∃ (cs : Array Value) (E : TypeId), c.w.heap[(c.F k).block]? = some (.cells cs E (0, 0))
 num : ∀ g, G g = some [.unk] → ∃ m, c.S g 0 ∧ c.w.cell? ⟨g, 0, none⟩ = some (.int .i64 m)
 sz : ∀ (g : Nat) (x y : PV) (cs : List PV), G g = some (x :: y :: cs) → ∃ (vs : Array Value) (E : TypeId), c.w.heap[g]? = some (.cells vs E (0, 0)) ∧ vs.size = cs.length + 2
theorem GOk.evol {c c' : Ctx} {G : Glo} (e : Evol c c') (h : GOk c G) : GOk c' G := ⟨fun g cs hg => (h.rel g cs hg).evol e, h.closed, fun g g' t t' k k' h1 h2 hf => h.inj g g' t t' k k' h1 h2 (by rw [e.F] at hf; exact hf), fun g t k hg => by
 obtain ⟨cs, E, h1⟩ := h.far g t k hg
 obtain ⟨cs', h2, _⟩ := e.kind _ cs E h1
 exact ⟨cs', E, by rw [e.F]; exact h2⟩, fun g hg => by
 obtain ⟨m, h1, h2⟩ := h.num g hg
 exact ⟨m, e.S _ _ h1, e.cell _ _ _ h1 h2⟩, fun g x y cs hg => by
 obtain ⟨vs, E, h1, h2⟩ := h.sz g x y cs hg
 obtain ⟨vs', h3, h4⟩ := e.kind _ vs E h1
 exact ⟨vs', E, h3, h4.trans h2⟩⟩
structure Rel (B : Base) (G : Glo) (nt : Nat) (m : Name → Nat) (σ : St) (a : Act) (w : World) : Prop where
 heap : RelH B m σ.hs w
 env : ∀ t, VR (ctx B σ.hs m w) (σ.env t) (a.tmps.getD t undef)
 size : a.tmps.size = nt
 defers : a.defers = []
 glo : GOk (ctx B σ.hs m w) G
theorem Rel.ev {B : Base} {G : Glo} {nt : Nat} {m : Name → Nat} {σ : St} {a : Act} {w : World} (r : Rel B G nt m σ a w) (x : Operand) : VR (ctx B σ.hs m w) (ev G σ.env x) (a.eval x) := by
 cases x with
 | tmp t => exact r.env t
 | const v => exact VR.ofV _ v
 | global g =>
  show VR _ (match G g with | some cs => PV.eptr cs | none => .v (.pointer (some ⟨g, 0, none⟩))) (.pointer (some ⟨g, 0, none⟩))
  cases hg : G g with
  | some cs => exact r.glo.rel g cs hg
  | none => exact .v _
 | func f => exact .clo f [] #[] rfl fun j y u h => by simp at h
def St.set (σ : St) (nt : Nat) (d : Option Tmp) (x : PV) (hs : HS) : Option St :=
 match d with
 | none => some ⟨σ.env, hs⟩
 | some d => if d < nt then some ⟨fun t => if t = d then x else σ.env t, hs⟩ else none
theorem Rel.set {B : Base} {G : Glo} {nt : Nat} {m m' : Name → Nat} {σ σ' : St} {a : Act} {w w' : World} (r : Rel B G nt m σ a w) {d : Option Tmp} {x : PV} {hs : HS} {v : Value} (h : σ.set nt d x hs = some σ')
  (h1 : RelH B m' hs w') (h2 : Evol (ctx B σ.hs m w) (ctx B hs m' w')) (h3 : VR (ctx B hs m' w') x v) : Rel B G nt m' σ' (a.put d v) w' ∧ σ'.hs = hs := by
 unfold St.set at h
 cases d with
 | none =>
  cases h
  exact ⟨⟨h1, fun t => (r.env t).evol h2, r.size, r.defers, r.glo.evol h2⟩, rfl⟩
 | some d =>
  simp only at h
  split at h
  case isFalse => cases h
  rename_i hd
  cases h
  refine ⟨⟨h1, fun t => ?_, by simp [Act.put, r.size], r.defers, r.glo.evol h2⟩, rfl⟩
  simp only [Act.put]
  by_cases e : t = d
  ·subst e
   rw [if_pos rfl, Array.getD_eq_getD_getElem?, Array.getElem?_setIfInBounds, if_pos rfl, if_pos (by rw [r.size]; exact hd)]
   exact h3
  ·rw [if_neg e, Array.getD_eq_getD_getElem?, Array.getElem?_setIfInBounds, if_neg (fun h => e h.symm), ← Array.getD_eq_getD_getElem?]
   exact (r.env t).evol h2
def wantD (ops : Array Oper) (env : Nat → PV) (nt : Nat) (o : Oper) : Option Bool :=
 match o.guard with
 | none => some true
 | some (j, want) => match (ops[j]?).bind (·.dst) with
  | none => some false
  | some d => if d < nt then match env d with
   | .v (.bool b) => some (b == want)
   | .v _ => some false
   | _ => none else none
theorem wantD_ok {B : Base} {G : Glo} {nt : Nat} {m : Name → Nat} {σ : St} {a : Act} {w : World} (r : Rel B G nt m σ a w) {ops : Array Oper} {o : Oper} {t : Bool} (h : wantD ops σ.env nt o = some t) : Region.wanted o (yielded ops a.tmps) = t := by
 unfold wantD at h
 unfold Region.wanted
 split at h
 ·rename_i hg; rw [hg]; cases h; rfl
 ·rename_i j want hg
  rw [hg]
  simp only
  unfold yielded
  split at h
  ·rename_i hd; rw [hd]; cases h; rfl
  ·rename_i d hd
   rw [hd]
   split at h
   case isFalse => cases h
   rename_i hlt
   have he := r.env d
   have hg2 : a.tmps[d]? = some (a.tmps.getD d undef) := by
    rw [Array.getD_eq_getD_getElem?, Array.getElem?_eq_getElem (by rw [r.size]; exact hlt)]; rfl
   simp only [Option.bind_some, hg2]
   generalize a.tmps.getD d undef = q at he
   split at h
   ·rename_i b hb
    rw [hb] at he; cases he; cases h
    simp
   ·rename_i x hx hb
    have hq := VR.toV _ he (by rw [hb]; rfl)
    subst hq
    cases h
    cases q <;> first | rfl | exact (hx _ rfl).elim
   ·cases h
abbrev CallD := FuncId → List PV → Name → HS → Option (PV × HS)
def enters (P : Program) (f : FuncId) : Bool := match P.funcs[f]? with
 | some fn => fn.name != "runtime.NumGoroutine" && fn.body.isSome
 | none => false
def CallOk (P : Program) (G : Glo) (C : CallD) : Prop :=
 ∀ f args pth s r s1, C f args pth s = some (r, s1) → enters P f = true ∧ ∀ (B : Base) (m : Name → Nat) (w : World) (vs : Array Value), RelH B m s w → GOk (ctx B s m w) G → vs.size = args.length →
  (∀ (j : Nat) (x : PV) (u : Value), args[j]? = some x → vs[j]? = some u → VR (ctx B s m w) x u) →
  Calls P f vs w fun e w' => ∃ v m', e = .returned v ∧ RelH B m' s1 w' ∧ Evol (ctx B s m w) (ctx B s1 m' w') ∧ VR (ctx B s1 m' w') r v
def methOf (P : Program) (t : TypeId) (name : String) : Option FuncId := match P.info? t, P.underlying t with
 | some ti, some (.struct _) => match ti.methods.find? (·.name == name) with
  | some m => if m.path.isEmpty then match m.func with
   | some (f, false) => some f
   | _ => none else none
  | none => none
 | _, _ => none
theorem meth_run {P : Program} {t : TypeId} {name : String} {f : FuncId} (h : methOf P t name = some f) (hen : ∀ (args : Array Value) (w : World), (callFunc f args).run P w = .ok (.enter f args) w) (v : Value) (args : Array Value) (w : World) :
  (callMethod (.iface t v) name args).run P w = .ok (.enter f (#[v] ++ args)) w := by
 unfold methOf at h
 split at h
 case h_2 => cases h
 rename_i ti fs hti hu
 split at h
 case h_2 => cases h
 rename_i m hm
 split at h
 case isFalse => cases h
 rename_i hp
 split at h
 case h_2 => cases h
 rename_i g hf
 cases h
 have hp' : m.path = #[] := by simpa using hp
 have hd : P.types.size + Made.depth = (P.types.size + 99) + 1 := rfl
 have hmth : (method (P.types.size + Made.depth) t v name).run P w = .ok (f, v) w := by
  rw [hd]
  generalize P.types.size + 99 = n
  unfold method
  simp [typeInfo, hti, hm, hp', follow, hf, receiverAt, underlying, hu, Place.get]
 simp [callMethod, hmth, hen]
theorem arr0 (x : Value) (A : Array Value) : (#[x] ++ A)[0]? = some x := by rw [Array.getElem?_append_left (by simp)]; rfl
theorem arr1 (x : Value) (A : Array Value) : (#[x] ++ A).extract 1 (#[x] ++ A).size = A := by
 obtain ⟨l⟩ := A
 simp
def callOf (P : Program) (e : Operand → PV) (o : Oper) : Option (FuncId × List PV) :=
 match o.op with
 | .call c => match c.callee with
  | .value f => match e f with
   | .clo g caps => some (g, c.args.toList.map e ++ caps)
   | .mth g fs => some (g, fs ++ c.args.toList.map e)
   | _ => none
  | .invoke x name => match e x with
   | .ifc t y => match methOf P t name with
    | some g => some (g, y :: c.args.toList.map e)
    | none => none
   | _ => none
  | _ => none
 | _ => none
def stepD (P : Program) (G : Glo) (C : CallD) (nt : Nat) (pth : Name) (ops : Array Oper) (i : Nat) (σ : St) : Option St :=
 match ops[i]? with
 | none => some σ
 | some o => match wantD ops σ.env nt o with
  | some true => match opD P [] (i :: pth) σ.hs (ev G σ.env) o with
   | some (r, hs) => σ.set nt o.dst r hs
   | none => match callOf P (ev G σ.env) o with
    | some (g, args) => match C g args (i :: pth) σ.hs with
     | some (r, hs) => σ.set nt o.dst r hs
     | none => none
    | none => none
  | some false => σ.set nt o.dst (.v undef) σ.hs
  | none => none
theorem run_call {P : Program} {f : FuncId} (h : enters P f = true) (args : Array Value) (w : World) : (callFunc f args).run P w = .ok (.enter f args) w := by
 unfold enters at h
 split at h
 ·rename_i fn hf
  simp only [Bool.and_eq_true, bne_iff_ne, ne_eq] at h
  have h2 : fn.body.isNone = false := by rw [← Option.not_isSome]; simp [h.2]
  have h3 : fn.body ≠ none := fun e => by rw [e] at h2; simp at h2
  simp [callFunc, hf, h.1, h3]
 ·cases h
theorem map_get {c : Ctx} {e : Operand → PV} {a : Act} (hE : ∀ x, VR c (e x) (a.eval x)) (xs : Array Operand) :
  ∀ (j : Nat) (y : PV) (u : Value), (xs.toList.map e)[j]? = some y → (xs.map a.eval)[j]? = some u → VR c y u := by
 intro j y u hy hu
 rw [List.getElem?_map] at hy
 obtain ⟨x, hx, rfl⟩ := Option.map_eq_some_iff.1 hy
 rw [Array.getElem?_map] at hu
 obtain ⟨x', hx', rfl⟩ := Option.map_eq_some_iff.1 hu
 rw [Array.getElem?_toList] at hx
 rw [hx] at hx'; cases hx'
 exact hE x
theorem clo_inv {c : Ctx} {f : FuncId} {cs : List PV} {u : Value} (h : VR c (.clo f cs) u) : ∃ vs, u = .func (.func f) #[] vs ∧ vs.size = cs.length ∧ ∀ (j : Nat) (y : PV) (u : Value), cs[j]? = some y → vs[j]? = some u → VR c y u := by
 cases h with
 | clo _ _ vs hl hx => exact ⟨vs, rfl, hl, hx⟩
theorem mth_inv {c : Ctx} {f : FuncId} {cs : List PV} {u : Value} (h : VR c (.mth f cs) u) : ∃ vs, u = .func (.func f) vs #[] ∧ vs.size = cs.length ∧ ∀ (j : Nat) (y : PV) (u : Value), cs[j]? = some y → vs[j]? = some u → VR c y u := by
 cases h with
 | mth _ _ vs hl hx => exact ⟨vs, rfl, hl, hx⟩
theorem ifc_inv {c : Ctx} {t : TypeId} {x : PV} {u : Value} (h : VR c (.ifc t x) u) : ∃ v, u = .iface t v ∧ VR c x v := by
 cases h with
 | ifc _ _ v hv => exact ⟨v, rfl, hv⟩
theorem stepD_ok {P : Program} {G : Glo} {C : CallD} (hC : CallOk P G C) {nt : Nat} {pth : Name} {ops : Array Oper} {i : Nat} {σ σ' : St} {B : Base} {m : Name → Nat} {a : Act} {w : World} {Q : Exit → Act → World → Prop} {K : Act → World → Prop}
  (r : Rel B G nt m σ a w) (h : stepD P G C nt pth ops i σ = some σ') (hK : ∀ a' w' m', Rel B G nt m' σ' a' w' → Evol (ctx B σ.hs m w) (ctx B σ'.hs m' w') → K a' w') : wpOp P ops Q i K a w := by
 unfold stepD at h
 unfold wpOp
 split at h
 ·rename_i ho
  rw [ho]; cases h
  exact hK a w m r (Evol.refl _)
 ·rename_i o ho
  rw [ho]
  simp only
  split at h
  ·rename_i hw
   rw [wantD_ok r hw]
   simp only [if_true]
   left
   unfold Oper.wp
   split at h
   ·rename_i x hs hop
    obtain ⟨nx, w', m', h1, h2, h3, h4⟩ := opD_ok r.heap r.ev hop
    rw [h1]
    rcases h4 with ⟨v, rfl, hv⟩ | ⟨rfl, rfl⟩
    ·obtain ⟨g1, g2⟩ := r.set h h2 h3 hv
     exact hK _ _ m' g1 (by rw [g2]; exact h3)
    ·obtain ⟨g1, g2⟩ := r.set h h2 h3 (.v undef)
     exact hK _ _ m' g1 (by rw [g2]; exact h3)
   ·split at h
    case h_2 => cases h
    rename_i g args hca
    split at h
    case h_2 => cases h
    rename_i x hs hcd
    unfold callOf at hca
    split at hca
    case h_2 => cases hca
    rename_i c hop
    split at hca
    case h_3 => cases hca
    case h_2 =>
     rename_i x name hcal
     split at hca
     case h_2 => cases hca
     rename_i t y hx
     split at hca
     case h_2 => cases hca
     rename_i g' hm
     simp only [Option.some.injEq, Prod.mk.injEq] at hca
     obtain ⟨rfl, rfl⟩ := hca
     obtain ⟨hen, hcc⟩ := hC _ _ _ _ _ _ hcd
     have hfv := r.ev x
     rw [hx] at hfv
     obtain ⟨u, hfe, hu⟩ := ifc_inv hfv
     have hrun : (execOp a.eval o).run P w = .ok (.enter g' (#[u] ++ c.args.map a.eval)) w := by
      have e1 := meth_run hm (fun args w => run_call hen args w) u (c.args.map a.eval) w
      simp only [execOp, hop, resolve, hcal, hfe, invoke, Sem.run_bind, Sem.run_pure, Result.andThen_ok, arr0, arr1]
      exact e1
     rw [hrun]
     refine (hcc B m w (#[u] ++ c.args.map a.eval) r.heap r.glo (by simp; omega) (fun j y' u' hy hu' => ?_)).mono ?_
     ·cases j with
      | zero =>
       rw [arr0] at hu'
       simp only [List.getElem?_cons_zero, Option.some.injEq] at hy hu'
       subst hy hu'
       exact hu
      | succ j =>
       refine map_get r.ev c.args j y' u' (by simpa using hy) ?_
       rw [Array.getElem?_append_right (by simp)] at hu'
       simpa using hu'
     ·rintro e w' ⟨v, m', rfl, h2, h3, h4⟩
      obtain ⟨g1, g2⟩ := r.set h h2 h3 h4
      exact hK _ _ m' g1 (by rw [g2]; exact h3)
    rename_i f hcal
    split at hca
    case h_3 => cases hca
    case h_2 =>
     rename_i g' caps hf
     simp only [Option.some.injEq, Prod.mk.injEq] at hca
     obtain ⟨rfl, rfl⟩ := hca
     obtain ⟨hen, hcc⟩ := hC _ _ _ _ _ _ hcd
     have hfv := r.ev f
     rw [hf] at hfv
     obtain ⟨vs, hfe, hl, hx⟩ := mth_inv hfv
     have hrun : (execOp a.eval o).run P w = .ok (.enter g' (vs ++ c.args.map a.eval)) w := by
      simp [execOp, hop, resolve, hcal, hfe, Deferred.ofValue, invoke, run_call hen]
     rw [hrun]
     refine (hcc B m w (vs ++ c.args.map a.eval) r.heap r.glo (by simp [hl]) (fun j y u hy hu => ?_)).mono ?_
     ·rcases Nat.lt_or_ge j caps.length with hlt | hge
      ·rw [List.getElem?_append_left hlt] at hy
       rw [Array.getElem?_append_left (by rw [hl]; exact hlt)] at hu
       exact hx _ y u hy hu
      ·rw [List.getElem?_append_right hge] at hy
       rw [Array.getElem?_append_right (by rw [hl]; exact hge)] at hu
       rw [hl] at hu
       exact map_get r.ev c.args _ y u hy hu
     ·rintro e w' ⟨v, m', rfl, h2, h3, h4⟩
      obtain ⟨g1, g2⟩ := r.set h h2 h3 h4
      exact hK _ _ m' g1 (by rw [g2]; exact h3)
    rename_i g' caps hf
    simp only [Option.some.injEq, Prod.mk.injEq] at hca
    obtain ⟨rfl, rfl⟩ := hca
    obtain ⟨hen, hcc⟩ := hC _ _ _ _ _ _ hcd
    have hfv := r.ev f
    rw [hf] at hfv
    obtain ⟨vs, hfe, hl, hx⟩ := clo_inv hfv
    ·have hrun : (execOp a.eval o).run P w = .ok (.enter g' (c.args.map a.eval ++ vs)) w := by
      simp [execOp, hop, resolve, hcal, hfe, Deferred.ofValue, invoke, run_call hen]
     rw [hrun]
     refine (hcc B m w (c.args.map a.eval ++ vs) r.heap r.glo (by simp [hl]) (fun j y u hy hu => ?_)).mono ?_
     ·rcases Nat.lt_or_ge j c.args.size with hlt | hge
      ·rw [List.getElem?_append_left (by simpa using hlt)] at hy
       rw [Array.getElem?_append_left (by simpa using hlt)] at hu
       exact map_get r.ev c.args j y u hy hu
      ·rw [List.getElem?_append_right (by simpa using hge)] at hy
       rw [Array.getElem?_append_right (by simpa using hge)] at hu
       simp only [List.length_map, Array.length_toList] at hy
       simp only [Array.size_map] at hu
       exact hx _ y u hy hu
     ·rintro e w' ⟨v, m', rfl, h2, h3, h4⟩
      obtain ⟨g1, g2⟩ := r.set h h2 h3 h4
      exact hK _ _ m' g1 (by rw [g2]; exact h3)
  ·rename_i hw
   rw [wantD_ok r hw]
   obtain ⟨g1, g2⟩ := r.set h r.heap (Evol.refl _) (.v undef)
   exact hK _ _ m g1 (by rw [g2]; exact Evol.refl _)
  ·cases h
def runOps (step : Nat → St → Option St) : List Nat → St → Option St
 | [], σ => some σ
 | i :: l, σ => match step i σ with
  | some σ' => runOps step l σ'
  | none => none
theorem runOps_ok {P : Program} {G : Glo} {C : CallD} (hC : CallOk P G C) {nt : Nat} {pth : Name} {ops : Array Oper} {B : Base} {Q : Exit → Act → World → Prop} : ∀ (l : List Nat) (σ σ' : St) (m : Name → Nat) (a : Act) (w : World), Rel B G nt m σ a w → runOps (stepD P G C nt pth ops) l σ = some σ' →
  (∀ a' w' m', Rel B G nt m' σ' a' w' → Evol (ctx B σ.hs m w) (ctx B σ'.hs m' w') → Q .normal a' w') → wpOps P ops Q l a w
 | [], σ, σ', m, a, w, r, h, hQ => by
  simp [runOps] at h; subst h
  exact hQ a w m r (Evol.refl _)
 | i :: l, σ, σ', m, a, w, r, h, hQ => by
  simp only [runOps] at h
  split at h
  case h_2 => cases h
  rename_i σ1 h1
  rw [wpOps_cons]
  exact stepD_ok hC r h1 fun a1 w1 m1 r1 e1 => runOps_ok hC l σ1 σ' m1 a1 w1 r1 h fun a' w' m' r' e' => hQ a' w' m' r' (e1.trans e')
inductive Ex where
 | normal
 | exit (id : Nat)
 | ret
def Ex.out : Ex → Exit
 | .normal => .normal
 | .exit id => .exit id
 | .ret => .ret
def loopD (f : St → Option (Ex × St)) : Nat → St → Option (Ex × St)
 | 0, _ => none
 | k + 1, σ => match f σ with
  | some (.normal, σ') => loopD f k σ'
  | r => r
abbrev RegD := Nat → Array Oper → Bool → St → Option St
def Post (B : Base) (G : Glo) (nt : Nat) (m : Name → Nat) (σ : St) (w : World) (ex : Ex) (σ' : St) : Exit → Act → World → Prop :=
 fun e a' w' => e = ex.out ∧ ∃ m', Rel B G nt m' σ' a' w' ∧ Evol (ctx B σ.hs m w) (ctx B σ'.hs m' w')
def RegOk (P : Program) (G : Glo) (nt : Nat) (R : RegD) : Prop :=
 ∀ id ops draw σ σ', R id ops draw σ = some σ' → ∀ (B : Base) (m : Name → Nat) (a : Act) (w : World), Rel B G nt m σ a w → (Code.region id ops draw).wp P (Post B G nt m σ w .normal σ') a w
theorem Post.mono {P : Program} {B : Base} {G : Glo} {nt : Nat} {m : Name → Nat} {σ σ' : St} {w : World} {ex : Ex} {c : Code} {a : Act} (h : c.wp P (Post B G nt m σ w ex σ') a w) {Q : Exit → Act → World → Prop} (hq : ∀ a' w', Post B G nt m σ w ex σ' ex.out a' w' → Q ex.out a' w') : c.wp P Q a w :=
 wp_mono h fun e a' w' hp => by
  have := hp.1
  subst this
  exact hq a' w' hp
def CodeOk (P : Program) (G : Glo) (nt : Nat) (c : Code) (f : St → Option (Ex × St)) : Prop :=
 ∀ σ ex σ', f σ = some (ex, σ') → ∀ (B : Base) (m : Name → Nat) (a : Act) (w : World), Rel B G nt m σ a w → c.wp P (Post B G nt m σ w ex σ') a w
theorem Post.from {B : Base} {G : Glo} {nt : Nat} {m m1 : Name → Nat} {σ σ1 σ' : St} {w w1 : World} {ex : Ex} {e : Exit} {a' : Act} {w' : World} (ev : Evol (ctx B σ.hs m w) (ctx B σ1.hs m1 w1)) (h : Post B G nt m1 σ1 w1 ex σ' e a' w') : Post B G nt m σ w ex σ' e a' w' := by
 obtain ⟨h1, m', h2, h3⟩ := h
 exact ⟨h1, m', h2, ev.trans h3⟩
theorem loop_ok {P : Program} {G : Glo} {nt : Nat} {c : Code} {f : St → Option (Ex × St)} (hc : CodeOk P G nt c f) : ∀ (k : Nat) (σ : St) (ex : Ex) (σ' : St), loopD f k σ = some (ex, σ') → ∀ (B : Base) (m : Name → Nat) (a : Act) (w : World), Rel B G nt m σ a w →
  Code.rounds P c (Post B G nt m σ w ex σ') k a w
 | 0, σ, ex, σ', h, B, m, a, w, r => by simp [loopD] at h
 | k + 1, σ, ex, σ', h, B, m, a, w, r => by
  rw [rounds_succ]
  simp only [loopD] at h
  split at h
  ·rename_i σ1 h1
   refine wp_mono (hc σ .normal σ1 h1 B m a w r) ?_
   rintro e a1 w1 ⟨rfl, m1, r1, e1⟩
   show Code.rounds P c _ k a1 w1
   have := loop_ok hc k σ1 ex σ' h B m1 a1 w1 r1
   refine rounds_mono k a1 w1 this fun e a' w' hp => Post.from e1 hp
  ·rename_i hne
   refine wp_mono (hc σ ex σ' h B m a w r) ?_
   rintro e a1 w1 ⟨rfl, m1, r1, e1⟩
   cases ex with
   | normal => exact absurd h (hne _)
   | exit id => exact ⟨rfl, m1, r1, e1⟩
   | ret => exact ⟨rfl, m1, r1, e1⟩
where
 rounds_mono {P : Program} {c : Code} {Q Q' : Exit → Act → World → Prop} : ∀ (k : Nat) (a : Act) (w : World), Code.rounds P c Q k a w → (∀ e a w, Q e a w → Q' e a w) → Code.rounds P c Q' k a w
  | 0, a, w, h, _ => h
  | k + 1, a, w, h, hq => by
   rw [rounds_succ] at h ⊢
   refine wp_mono h fun e a' w' hp => ?_
   cases e <;> first | exact rounds_mono k a' w' hp hq | exact hq _ _ _ hp
def resD (P : Program) (σ : St) : List ResultVar → Option (List PV)
 | [] => some []
 | .tmp t :: l => match resD P σ l with
  | some r => some (σ.env t :: r)
  | none => none
 | .cell a t :: l => match ldD P σ.hs t (σ.env a), resD P σ l with
  | some x, some r => some (x :: r)
  | _, _ => none
def oneOr : List PV → PV
 | [x] => x
 | l => .tup l
def oneOrV : List Value → Value
 | [x] => x
 | l => .tuple l.toArray
def resS (tmps : Array Value) : ResultVar → Sem Value
 | .tmp t => pure (tmps.getD t undef)
 | .cell b t => do loadVar t (← asAddr (tmps.getD b undef))
theorem resD_ok {P : Program} {B : Base} {G : Glo} {nt : Nat} {m : Name → Nat} {σ : St} {a : Act} {w : World} (r : Rel B G nt m σ a w) : ∀ (l : List ResultVar) (xs : List PV), resD P σ l = some xs →
  ∃ vs : List Value, (l.mapM (resS a.tmps)).run P w = .ok vs w ∧ vs.length = xs.length ∧ ∀ (j : Nat) (y : PV) (u : Value), xs[j]? = some y → vs[j]? = some u → VR (ctx B σ.hs m w) y u
 | [], xs, h => by simp [resD] at h; subst h; exact ⟨[], rfl, rfl, fun j y u h => by simp at h⟩
 | .tmp t :: l, xs, h => by
  simp only [resD] at h
  split at h
  case h_2 => cases h
  rename_i r' hr
  cases h
  obtain ⟨vs, h1, h2, h3⟩ := resD_ok r l r' hr
  refine ⟨a.tmps.getD t undef :: vs, by rw [List.mapM_cons]; simp only [Sem.run_bind, resS, Sem.run_pure, Result.andThen_ok, h1], by simp [h2], fun j y u hy hu => ?_⟩
  cases j with
  | zero => simp at hy; simp only [List.getElem?_cons_zero, Option.some.injEq] at hu; subst hy hu; exact r.env t
  | succ j => exact h3 j y u (by simpa using hy) (by simpa using hu)
 | .cell b t :: l, xs, h => by
  simp only [resD] at h
  split at h
  case h_2 => cases h
  rename_i x r' hx hr
  cases h
  obtain ⟨vs, h1, h2, h3⟩ := resD_ok r l r' hr
  obtain ⟨v, hv1, hv2⟩ := ldD_ok r.heap hx (r.env b)
  have hld : (resS a.tmps (.cell b t)).run P w = .ok v w := by
   show ((do loadVar t (← asAddr (a.tmps.getD b undef)) : Sem Value)).run P w = .ok v w
   have he := r.env b
   generalize a.tmps.getD b undef = q at he hv1 ⊢
   unfold ldD at hx
   split at hx
   case h_2 => cases hx
   split at hx
   ·rename_i hb; rw [hb] at he; cases he; simpa [Instr.loadAt, Instr.sureAddr, asAddr] using hv1
   ·rename_i hb; rw [hb] at he; cases he; simpa [Instr.loadAt, Instr.sureAddr, asAddr] using hv1
   ·cases hx
  refine ⟨v :: vs, by rw [List.mapM_cons]; simp only [Sem.run_bind, hld, Result.andThen_ok, h1, Sem.run_pure], by simp [h2], fun j y u hy hu => ?_⟩
  cases j with
  | zero => simp at hy hu; subst hy hu; exact hv2
  | succ j => exact h3 j y u (by simpa using hy) (by simpa using hu)
theorem results_run {P : Program} (fn : Func) (tmps : Array Value) (w : World) (vs : List Value)
  (h : (fn.results.toList.mapM (resS tmps)).run P w = .ok vs w) :
  (results fn tmps).run P w = .ok (oneOrV vs) w := by
 have e1 : results fn tmps = (do let vs ← fn.results.mapM (resS tmps); pure (if h : vs.size = 1 then vs[0] else .tuple vs)) := rfl
 rw [e1, Array.mapM_eq_mapM_toList]
 simp only [Sem.run_bind, Sem.run_map, h, Result.andThen_ok, Sem.run_pure]
 congr 1
 match vs with
 | [] => rfl
 | [x] => rfl
 | x :: y :: l => simp [oneOrV]
end Go.Proofs.YtdbekeidlppfiaaGreatDoor.Den
