/- A plain reading of Go's text: this seat's calls. -/
import Derived.Test.YtbidfkibpjjghaaDoorDenTab
import Derived.Eval
set_option linter.unusedVariables false
set_option linter.unusedSimpArgs false
namespace Go.Proofs.YtbidfkibpjjghaaDoor.Den
open Go Go.RowKit

noncomputable def PR : Program := Tryd.prog
noncomputable def X0 (f : FuncId) : Option Ans := (XL.find? fun x => x.1 == f).map (·.2)
/-- What a loop keeps. -/
def KT0 (f : FuncId) (key : Nat) : Option (List Nat) := (KTL.find? fun x => x.1 == f && x.2.1 == key).map (·.2.2)
/-- The functions that are handed variables. -/
def K0 : Kind := fun f => if SL.contains f then none else some false
def LF : Nat := 18446744073709551616
noncomputable def pf0 : FuncId → Bool := fun f => (X0 f).isSome || (K0 f).isSome
noncomputable def C0 (k : Nat) : CallD := callD PR G0 X0 K0 LF KT0 k
/-- What plain functions answer, with so many calls within calls. -/
noncomputable def gv0 (k : Nat) (f : FuncId) : Option (List PV → Option PV) :=
  if enters PR f then match X0 f with
    | some g => some g
    | none => match K0 f with
      | some own => some (isoD PR G0 (C0 k) pf0 own LF (KT0 f) f)
      | none => none
  else none
/-- What the other ones do. -/
noncomputable def gs0 (k : Nat) (f : FuncId) : Option SFun :=
  if enters PR f then match X0 f with
    | some g => none
    | none => match K0 f with
      | some own => none
      | none => some (runSD PR G0 (regD PR G0 (C0 k) pf0 []) (normA PR false (paramsOf PR f)) (normR PR true (resultsOf PR f)) LF (KT0 f) f)
  else none
noncomputable def run0 (k : Nat) (f : FuncId) (args : List PV) : Option PV := match gv0 k f with
  | some g => g args
  | none => none
noncomputable def runS0 (k : Nat) (f : FuncId) (args : List PV) (bs : List (Option Blk)) (fs : List Nat) : Option (PV × List (Option Blk) × List Nat) := match gs0 k f with
  | some g => g args bs fs
  | none => none
theorem gv0_ok (k : Nat) : GvOk (C0 (k + 1)) (gv0 k) := by
  intro f g h args nm s
  unfold gv0 at h
  split at h
  case isFalse => cases h
  rename_i he
  unfold C0
  rw [callD, if_pos he]
  split at h
  · rename_i g' hx
    cases h
    rw [hx]
  · rename_i hx
    rw [hx]
    split at h
    · rename_i own hk
      cases h
      rw [hk]; rfl
    · cases h
theorem gs0_ok (k : Nat) : GsOk (C0 (k + 1)) (gs0 k) := by
  intro f g h args nm s
  unfold gs0 at h
  split at h
  case isFalse => cases h
  rename_i he
  unfold C0
  rw [callD, if_pos he]
  split at h
  · cases h
  · rename_i hx
    rw [hx]
    split at h
    · cases h
    · rename_i hk
      cases h
      rw [hk]; rfl
theorem X0_ok (f : FuncId) (g : Ans) (h : X0 f = some g) : PlainOk PR G0 f g := by
  unfold X0 at h
  obtain ⟨x, hx, rfl⟩ := Option.map_eq_some_iff.1 h
  have h1 := List.mem_of_find?_eq_some hx
  have h2 := List.find?_some hx
  simp only [beq_iff_eq] at h2
  subst h2
  exact XL_ok x h1
theorem PR_mixed : PR.follows .mixedOrders = true := Checked.mixed Tryd.checked
theorem gv0_plain {k : Nat} {f : FuncId} {g : Ans} (h : gv0 k f = some g) : PlainOk PR G0 f g := by
  unfold gv0 at h
  split at h
  case isFalse => cases h
  split at h
  · rename_i hx; cases h; exact X0_ok f _ hx
  · split at h
    · cases h
      obtain ⟨h1, h2⟩ := callD_ok (P := PR) (G := G0) (X := X0) (K := K0) (lf := LF) (KT := KT0) PR_mixed X0_ok k
      exact isoD_ok PR_mixed h1 h2
    · cases h
/-- A law that answers true. -/
theorem law_true {k : Nat} {f : FuncId} {cargs : List PV} (h : run0 k f cargs = some (.v (.bool true))) (hcl : closedL cargs = true) {w : World} {vs : Array Value} (hl : vs.size = cargs.length) (ha : ∀ (j : Nat) (x : PV) (u : Value), cargs[j]? = some x → vs[j]? = some u → VR (topC w) x u) (hg : GOk (topC w) G0) :
    Calls PR f vs w fun e w' => e = .returned (.bool true) ∧ Below w.heap.size w w' := by
  unfold run0 at h
  split at h
  case h_2 => cases h
  rename_i g hgv
  refine (gv0_plain hgv cargs _ h (topC w) vs hcl hl ha hg fun g o h => h).mono ?_
  rintro e w' ⟨v, gs, rfl, hb, hr, _, _⟩
  refine ⟨?_, hb⟩
  congr 1
  rcases hr with hr | ⟨_, _, e, _⟩
  case inr => cases e
  rcases hr with hr | ⟨_, _, e, _⟩
  case inr => cases e
  rcases hr with ⟨_, hr, _⟩ | ⟨_, _, _, _, _, _, e, _⟩
  case inr => cases e
  exact v_inv hr
def codeOf (f : Func) : Code := match f.body with
  | some c => c
  | none => .skip
/-- A run by advice. -/
noncomputable abbrev go (k : Nat) (f : FuncId) (r0 nt : Nat) (A : AdvC) (c : Code) (σ : St) : Option (Ex × St × List Prop) := codeA PR G0 (C0 (k + 1)) (gv0 k) (gs0 k) pf0 LF (KT0 f) r0 nt A none [] c σ
noncomputable abbrev goStop (k : Nat) (f : FuncId) (r0 nt : Nat) (A : AdvC) (id : Nat) (c : Code) (σ : St) : Option (Ex × St × List Prop) := codeA PR G0 (C0 (k + 1)) (gv0 k) (gs0 k) pf0 LF (KT0 f) r0 nt A (some id) [] c σ
def adv (l : List (List Nat × Nat × Nat × Adv)) (m : List (List Nat × Nat × Ex × St) := []) (u : List Nat := []) : AdvC := ⟨fun pre id i => (l.find? fun x => x.2.1 == id && x.2.2.1 == i && x.1 == pre).map (·.2.2.2), fun pre id => (m.find? fun x => x.2.1 == id && x.1 == pre).map (·.2.2), fun id => u.contains id⟩
noncomputable abbrev run1 (k : Nat) (f : FuncId) (r0 nt : Nat) (c : Code) (σ : St) : Option (Ex × St) := codeP (regD PR G0 (C0 (k + 1)) pf0 [] nt) G0 LF (KT0 f) r0 c σ
theorem code_of {fn : Func} (h : fn.body.isSome = true) : fn.body = some (codeOf fn) := by
  unfold codeOf
  cases hb : fn.body with
  | none => rw [hb] at h; cases h
  | some c => rfl
def ends : Ex → Bool
  | .exit _ => false
  | _ => true
noncomputable def argS (f : FuncId) (args : List PV) : St := ⟨fun t => (normA PR false (paramsOf PR f) args).getD t (.v undef), emptyHS⟩
noncomputable def argB (f : FuncId) (args : List PV) (bs : List (Option Blk)) (fs : List Nat) : St := ⟨fun t => (normA PR false (paramsOf PR f) args).getD t (.v undef), hsL bs fs⟩
/-- A run by advice is a run. -/
theorem run_go {k : Nat} {f : FuncId} {r0 nt : Nat} {c : Code} {σ : St} (A : AdvC) {ex : Ex} {l : List Prop} (h1 : exOf (go k f r0 nt A c σ) = some ex) (h2 : obOf (go k f r0 nt A c σ) = l) (hl : allP l) : run1 k f r0 nt c σ = some (ex, stOf (go k f r0 nt A c σ)) :=
  useA (gv0_ok k) (gs0_ok k) h1 h2 hl
/-- A plain function's answer. -/
theorem ret_go {k : Nat} {f : FuncId} {fn : Func} {nt : Nat} {args : List PV} (hf : PR.funcs[f]? = some fn) (hn : fn.ntmps = nt) (hk : gv0 (k + 1) f = some (isoD PR G0 (C0 (k + 1)) pf0 false LF (KT0 f) f)) (hb : fn.body.isSome = true) (ha : args.length ≤ nt)
    (A : AdvC) {ex : Ex} {l q : List Prop} {r : PV} (h1 : exOf (go k f 0 nt A (codeOf fn) (argS f args)) = some ex) (hex : ends ex = true) (h2 : obOf (go k f 0 nt A (codeOf fn) (argS f args)) = l) (hl : allP l)
    (hr : ansA PR (resultsOf PR f) (stOf (go k f 0 nt A (codeOf fn) (argS f args))) fn.results.toList = some (r, q)) (hq : allP q) : run0 (k + 1) f args = some r := by
  unfold run0
  rw [hk]
  exact isoD_of hf (code_of hb) hn ha (ps := paramsOf PR f) (rs := resultsOf PR f) (by unfold paramsOf; rw [hf]) (by unfold resultsOf; rw [hf]) (fun id e => by subst e; cases hex) (run_go A h1 h2 hl) (ansA_ok hr hq)
def ansS (P : Program) (n : Nat) (rs : List TypeId) (σ : St) (l : List ResultVar) : Option (PV × List (Option Blk) × List Nat) := match resD P σ l with
  | some xs => canonV n (normR P true rs (oneOr xs)) σ.hs
  | none => none
/-- The answer of a function that is handed variables. -/
theorem retS_go {k : Nat} {f : FuncId} {fn : Func} {nt n : Nat} {args : List PV} {bs : List (Option Blk)} {fs : List Nat} (hf : PR.funcs[f]? = some fn) (hn : fn.ntmps = nt) (hnn : bs.length = n) (hk : gs0 (k + 1) f = some (runSD PR G0 (regD PR G0 (C0 (k + 1)) pf0 []) (normA PR false (paramsOf PR f)) (normR PR true (resultsOf PR f)) LF (KT0 f) f)) (hb : fn.body.isSome = true) (ha : args.length ≤ nt)
    (A : AdvC) {ex : Ex} {l : List Prop} {r : PV × List (Option Blk) × List Nat} (h1 : exOf (go k f n nt A (codeOf fn) (argB f args bs fs)) = some ex) (hex : ends ex = true) (h2 : obOf (go k f n nt A (codeOf fn) (argB f args bs fs)) = l) (hl : allP l)
    (hr : ansS PR n (resultsOf PR f) (stOf (go k f n nt A (codeOf fn) (argB f args bs fs))) fn.results.toList = some r) : runS0 (k + 1) f args bs fs = some r := by
  subst hnn
  unfold runS0
  rw [hk]
  exact runSD_of hf (code_of hb) hn ha (ps := paramsOf PR f) (rs := resultsOf PR f) (fun id e => by subst e; cases hex) (run_go A h1 h2 hl) hr
end Go.Proofs.YtbidfkibpjjghaaDoor.Den
