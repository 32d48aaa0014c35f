/- A plain reading of Go's text: this seat's tables. -/
import Derived.Test.YtfllhakmjookkaaDenW
import Derived.Eval
set_option linter.unusedVariables false
set_option linter.unusedSimpArgs false
namespace Go.Proofs.Ytfllhakmjookkaa.Den
open Go Go.RowKit

noncomputable def PR : Program := Try.prog
def G0 : Glo := fun _ => none
noncomputable def XL : List (FuncId × Ans) := [(31, xShown), (37, xFine), (33, xLegal), (32, xLegal), (40, xSame), (46, xPut), (38, xFind), (44, xNames)]
noncomputable def X0 (f : FuncId) : Option Ans := (XL.find? fun x => x.1 == f).map (·.2)
/-- What loops keep: by function, and by the first region within. -/
def KTL : List (FuncId × Nat × List Nat) := [(13, 8, [0, 1, 5, 6, 7]), (36, 3, [0, 3, 4])]
/-- The functions that are read in place: those that are handed variables. -/
def inl0 (f : FuncId) : Bool := [54, 55, 56, 58, 59, 60, 61].contains f
def K0 : Kind := fun f => if inl0 f then none else some false
def LF : Nat := 18446744073709551616
noncomputable def pf0 : FuncId → Bool := fun f => (X0 f).isSome || (K0 f).isSome
/-- What a loop keeps. -/
def KT0 (f : FuncId) (key : Nat) : Option (List Nat) := (KTL.find? fun x => x.1 == f && x.2.1 == key).map (·.2.2)
noncomputable def C0 (k : Nat) : CallD := callD PR G0 X0 K0 LF KT0 k
/-- What plain functions answer, with so many calls within calls. -/
noncomputable def gv0 (k : Nat) (f : FuncId) : Option (List PV → Option PV) :=
  if enters PR f then match X0 f with
    | some g => some g
    | none => match K0 f with
      | some own => some (isoD PR G0 (C0 k) pf0 own LF (KT0 f) f)
      | none => none
  else none
noncomputable def run0 (k : Nat) (f : FuncId) (args : List PV) : Option PV := match gv0 k f with
  | some g => g args
  | none => none
theorem gv0_ok (k : Nat) : GvOk (C0 (k + 1)) (gv0 k) := by
  intro f g h args nm s
  unfold gv0 at h
  split at h
  case isFalse => cases h
  rename_i he
  unfold C0
  rw [callD, if_pos he]
  split at h
  · rename_i g' hx
    cases h
    rw [hx]
  · rename_i hx
    rw [hx]
    split at h
    · rename_i own hk
      cases h
      rw [hk]; rfl
    · cases h
theorem X0_ok (f : FuncId) (g : Ans) (h : X0 f = some g) : PlainOk PR G0 f g := by
  unfold X0 at h
  obtain ⟨x, hx, rfl⟩ := Option.map_eq_some_iff.1 h
  have h1 := List.mem_of_find?_eq_some hx
  have h2 := List.find?_some hx
  simp only [beq_iff_eq] at h2
  subst h2
  simp only [XL, List.mem_cons, List.not_mem_nil, or_false] at h1
  rcases h1 with rfl | rfl | rfl | rfl | rfl | rfl | rfl | rfl
  · exact xShown_ok G0
  · exact xFine_ok G0
  · exact xLegal_ok G0
  · exact xLegalE_ok G0
  · exact xSame_ok G0
  · exact xPut_ok G0
  · exact xFind_ok G0
  · exact xNames_ok G0
theorem PR_mixed : PR.follows .mixedOrders = true := Checked.mixed Try.checked
theorem gv0_plain {k : Nat} {f : FuncId} {g : Ans} (h : gv0 k f = some g) : PlainOk PR G0 f g := by
  unfold gv0 at h
  split at h
  case isFalse => cases h
  split at h
  · rename_i hx; cases h; exact X0_ok f _ hx
  · split at h
    · cases h
      obtain ⟨h1, h2⟩ := callD_ok (P := PR) (G := G0) (X := X0) (K := K0) (lf := LF) (KT := KT0) PR_mixed X0_ok k
      exact isoD_ok PR_mixed h1 h2
    · cases h
/-- All that was there stands still. -/
def topC (w : World) : Ctx := ⟨fun _ => (0, none), fun _ => 0, fun g _ => g < w.heap.size, w, fun _ => ⟨0, 0, none⟩⟩
/-- A law that answers true. -/
theorem law_true {k : Nat} {f : FuncId} {cargs : List PV} (h : run0 k f cargs = some (.v (.bool true))) (hcl : closedL cargs = true) {w : World} {vs : Array Value} (hl : vs.size = cargs.length) (ha : ∀ (j : Nat) (x : PV) (u : Value), cargs[j]? = some x → vs[j]? = some u → VR (topC w) x u) :
    Calls PR f vs w fun e w' => e = .returned (.bool true) ∧ Below w.heap.size w w' := by
  unfold run0 at h
  split at h
  case h_2 => cases h
  rename_i g hg
  refine (gv0_plain hg cargs _ h (topC w) vs hcl hl ha ⟨fun g cs h => (nomatch h), fun g cs h => (nomatch h)⟩ fun g o h => h).mono ?_
  rintro e w' ⟨v, gs, rfl, hb, hr, _, _⟩
  refine ⟨?_, hb⟩
  congr 1
  rcases hr with hr | ⟨_, _, e, _⟩
  case inr => cases e
  rcases hr with hr | ⟨_, _, e, _⟩
  case inr => cases e
  rcases hr with ⟨_, hr, _⟩ | ⟨_, _, _, _, _, _, e, _⟩
  case inr => cases e
  exact v_inv hr
theorem top_ents {w : World} {v : Value} {l : List Ent} (h : entK.Sl (Old w) w v l) : VR (topC w) (.list 2 false (entsP l)) v := vr_of_sl (c := topC w) h fun g hg _ _ => hg
def codeOf (f : Func) : Code := match f.body with
  | some c => c
  | none => .skip
/-- A run by advice, in a plain function. -/
noncomputable abbrev go (k : Nat) (f : FuncId) (nt : Nat) (A : AdvC) (c : Code) (σ : St) : Option (Ex × St × List Prop) := codeA PR G0 (C0 (k + 1)) (gv0 k) pf0 LF (KT0 f) nt A none c σ
noncomputable abbrev goStop (k : Nat) (f : FuncId) (nt : Nat) (A : AdvC) (id : Nat) (c : Code) (σ : St) : Option (Ex × St × List Prop) := codeA PR G0 (C0 (k + 1)) (gv0 k) pf0 LF (KT0 f) nt A (some id) c σ
def adv (l : List (Nat × Nat × Adv)) (m : List (Nat × Ex × St) := []) : AdvC := ⟨fun id i => (l.find? fun x => x.1 == id && x.2.1 == i).map (·.2.2), fun id => (m.find? fun x => x.1 == id).map (·.2)⟩
noncomputable abbrev run1 (k : Nat) (f : FuncId) (nt : Nat) (c : Code) (σ : St) : Option (Ex × St) := codeP (regD PR G0 (C0 (k + 1)) pf0 [] nt) G0 LF (KT0 f) c σ
theorem code_of {f : FuncId} {fn : Func} (h : fn.body.isSome = true) : fn.body = some (codeOf fn) := by
  unfold codeOf
  cases hb : fn.body with
  | none => rw [hb] at h; cases h
  | some c => rfl
def ends : Ex → Bool
  | .exit _ => false
  | _ => true
def argS (args : List PV) : St := ⟨fun t => args.getD t (.v undef), emptyHS⟩
/-- A run by advice is a run. -/
theorem run_go {k : Nat} {f : FuncId} {nt : Nat} {c : Code} {σ : St} (A : AdvC) (ex : Ex) (l : List Prop) (h1 : exOf (go k f nt A c σ) = some ex) (h2 : obOf (go k f nt A c σ) = l) (hl : allP l) : run1 k f nt c σ = some (ex, stOf (go k f nt A c σ)) :=
  useA (gv0_ok k) h1 h2 hl
/-- A plain function's answer. -/
theorem ret_go {k : Nat} {f : FuncId} {fn : Func} {nt : Nat} {args : List PV} (hf : PR.funcs[f]? = some fn) (hn : fn.ntmps = nt) (hk : gv0 (k + 1) f = some (isoD PR G0 (C0 (k + 1)) pf0 false LF (KT0 f) f)) (hb : fn.body.isSome = true) (ha : args.length ≤ nt)
    (A : AdvC) (ex : Ex) (l q : List Prop) (r : PV) (h1 : exOf (go k f nt A (codeOf fn) (argS args)) = some ex) (hex : ends ex = true) (h2 : obOf (go k f nt A (codeOf fn) (argS args)) = l) (hl : allP l)
    (hr : ansA PR (stOf (go k f nt A (codeOf fn) (argS args))) fn.results.toList = some (r, q)) (hq : allP q) : run0 (k + 1) f args = some r := by
  unfold run0
  rw [hk]
  exact isoD_of hf (code_of (f := f) hb) hn ha (fun id e => by subst e; cases hex) (run_go A ex l h1 h2 hl) (ansA_ok hr hq)
end Go.Proofs.Ytfllhakmjookkaa.Den
