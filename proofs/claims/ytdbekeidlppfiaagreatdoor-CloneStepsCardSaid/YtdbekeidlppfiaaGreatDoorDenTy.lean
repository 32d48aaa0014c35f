/- Texts joined by a program of mine (pack.py): DenTab DenS DenV Pl PlTxt S19V S18V DenTy. -/
import Derived.Test.YtdbekeidlppfiaaGreatDoorShownR
import Derived.Eval
import Derived.Lib.Index
set_option linter.unusedVariables false
set_option linter.unusedSimpArgs false
namespace Go.Proofs.YtdbekeidlppfiaaGreatDoor.Den
open Go Go.RowKit
def KTL : List (FuncId × Nat × List Nat) := [(5, 2, [0, 3]), (7, 8, [6, 7, 8, 9, 35, 36, 37]), (9, 3, [1, 2, 3, 4]), (10, 8, [6, 7, 8, 9, 11]), (11, 2, [1, 3]), (12, 32, [2, 4, 5, 6, 8, 9, 112, 113, 114]), (19, 3, [1, 2, 4, 6, 12, 13]), (20, 2, [2, 3, 4, 6, 7, 9]), (22, 3, [1, 2, 3, 4]), (23, 2, [4, 9, 10, 11]), (29, 4, [0, 1, 5]), (30, 4, [0, 1, 5]), (31, 4, [0, 1, 5]), (33, 3, [0, 1, 7, 8]), (33, 10, [0, 1, 7, 8, 9, 10]), (35, 6, [0, 3]), (35, 12, [4, 7]), (45, 5, [0, 4, 16, 17]), (47, 5, [0, 4, 5]), (53, 3, [1, 2, 4, 5, 6]), (58, 2, [0, 1, 2, 6, 15, 16]), (60, 4, [2, 7, 8]), (62, 4, [1, 3]), (63, 6, [2, 5, 7, 8]), (64, 3, [1, 2, 3, 4]), (67, 1, [0]), (74, 6, [0, 1, 6, 7, 8]), (76, 4, [0, 5, 6, 7]), (77, 2, [0, 1, 6]), (82, 3, [0, 3, 9, 10, 11]), (82, 11, [6, 25, 26, 27]), (88, 2, [1, 4, 8, 9, 10]), (90, 8, [7, 8]), (109, 3, [1, 3, 4]), (110, 9, [1, 2, 5, 6]), (112, 3, [0, 1, 5, 6]), (115, 1, [0, 1]), (117, 1, [0, 1, 2]), (117, 17, [1, 2, 43, 44, 45]), (122, 2, [0, 1, 7, 8]), (123, 2, [0, 3]), (132, 2, [0, 1, 7, 8]), (164, 2, [2, 5, 6, 7]), (174, 2, [0, 3]), (175, 4, [1, 2, 6, 7, 8]), (175, 7, [1, 2, 6, 7, 8, 9]), (176, 2, [1, 2, 5]), (182, 1, [0, 1]), (183, 2, [0, 2, 4]), (184, 1, [0, 1]), (185, 1, [0, 1]), (186, 2, [0, 1, 5]), (187, 6, [0, 1, 5, 6, 7, 8, 9, 10]), (187, 12, [0, 1, 5, 6, 7, 9, 11]), (193, 5, [0]), (196, 2, [0, 1, 7, 8]), (198, 6, [1, 2, 4, 8, 11, 24, 25, 26]), (214, 3, [0, 3, 9, 10, 11]), (214, 12, [6, 26, 27, 28]), (226, 2, [1, 2, 9, 10, 11]), (235, 1, [0, 1, 3, 6]), (235, 18, [1, 3, 6, 48, 49, 50]), (236, 4, [0, 1, 5]), (237, 4, [0, 3]), (241, 1, [0, 1, 4]), (242, 11, [0, 1, 3, 4, 10, 11, 12, 13, 14, 15, 16]), (242, 18, [0, 1, 3, 4, 10, 11, 12, 13, 17]), (243, 1, [0, 2]), (243, 5, [0, 1, 2, 3]), (247, 10, [0, 4, 5, 6]), (249, 3, [0, 4, 5]), (249, 8, [4, 6, 7, 8]), (258, 18, [7, 8, 9, 10]), (263, 2, [0, 1, 2, 12, 13]), (276, 15, [0, 1, 5, 6, 7, 8, 9, 10]), (278, 38, [175]), (283, 2, [0, 1, 7, 8]), (291, 5, [0, 1, 5, 6, 7, 8, 9]), (291, 11, [0, 1, 5, 6, 7, 8, 10]), (295, 3, [0, 1, 2, 8, 9, 10]), (300, 3, [0, 4, 5]), (300, 8, [4, 6, 7, 8]), (305, 3, [0, 4, 5, 10, 11]), (308, 1, [0, 2, 3])]
def SL : List FuncId := [67, 72, 73, 82, 114, 115, 122]
noncomputable def XL : List (FuncId × Ans) := [(69, xItoa), (124, xTrimR), (125, xLastIx), (6, xShown), (192, xSplit), (27, xCheck), (68, xIs), (70, xIxb), (238, xCon), (297, xCmp), (267, xPut), (265, xDrop), (56, xClone 56 4 true), (66, xClone 66 1 false), (129, xClone 129 8 true), (258, xRep), (128, xGrow)]
theorem XL_ok (x : FuncId × Ans) (h : x ∈ XL) : PlainOk Tryz.prog G0 x.1 x.2 := by
 simp only [XL, List.mem_cons, List.not_mem_nil, or_false] at h
 rcases h with rfl | rfl | rfl | rfl | rfl | rfl | rfl | rfl | rfl | rfl | rfl | rfl | rfl | rfl | rfl | rfl | rfl
 ·exact xItoa_ok
 ·exact xTrimR_ok G0
 ·exact xLastIx_ok G0
 ·exact xShown_ok
 ·exact xSplit_ok G0
 ·exact xCheck_ok G0
 ·exact xIs_ok
 ·exact xIxb_ok G0
 ·exact xCon_ok rfl
 ·exact xCmp_ok G0
 ·exact xPut_ok G0
 ·exact xDrop_ok G0
 ·exact plain_any xCloneP_ok G0
 ·exact plain_any xCloneS_ok G0
 ·exact plain_any xCloneN_ok G0
 ·exact xRep_ok G0
 ·exact xGrow_ok G0
noncomputable def YL : List (FuncId × SFun) := [(171, yAs2), (65, yRow)]
theorem YL_ok (x : FuncId × SFun) (h : x ∈ YL) : StateOk Tryz.prog G0 x.1 x.2 := by
 simp only [YL, List.mem_cons, List.not_mem_nil, or_false] at h
 rcases h with rfl | rfl
 ·exact yAs2_ok
 ·exact yRow_ok G0
end Go.Proofs.YtdbekeidlppfiaaGreatDoor.Den
namespace Go.Proofs.YtdbekeidlppfiaaGreatDoor.Den
open Go Go.RowKit
noncomputable def PR : Program := Tryz.prog
noncomputable def X0 (f : FuncId) : Option Ans := (XL.find? fun x => x.1 == f).map (·.2)
noncomputable def Y0 (f : FuncId) : Option SFun := (YL.find? fun x => x.1 == f).map (·.2)
def KT0 (f : FuncId) (key : Nat) : Option (List Nat) := (KTL.find? fun x => x.1 == f && x.2.1 == key).map (·.2.2)
def K0 : Kind := fun f => if SL.contains f then none else some false
def LF : Nat := 18446744073709551616
noncomputable def pf0 : FuncId → Bool := fun f => (X0 f).isSome || (K0 f).isSome
noncomputable def C0 (k : Nat) : CallD := callD PR G0 X0 Y0 K0 LF KT0 k
noncomputable def gv0 (k : Nat) (f : FuncId) : Option (List PV → Option PV) :=
 if enters PR f then match X0 f with
  | some g => some g
  | none => match K0 f with
   | some own => some (isoD PR G0 (C0 k) pf0 own LF (KT0 f) f)
   | none => none
 else none
noncomputable def gs0 (k : Nat) (f : FuncId) : Option SFun :=
 if enters PR f then match X0 f with
  | some g => none
  | none => match K0 f with
   | some own => none
   | none => some (match Y0 f with | some g => g | none => runSD PR G0 (regD PR G0 (C0 k) pf0 []) (normA PR false (paramsOf PR f)) (normR PR true (resultsOf PR f)) LF (KT0 f) f)
 else none
noncomputable def run0 (k : Nat) (f : FuncId) (args : List PV) : Option PV := match gv0 k f with
 | some g => g args
 | none => none
noncomputable def runS0 (k : Nat) (f : FuncId) (args : List PV) (bs : List (Option Blk)) (fs : List Nat) : Option (PV × List (Option Blk) × List Nat) := match gs0 k f with
 | some g => g args bs fs
 | none => none
theorem gv0_ok (k : Nat) : GvOk (C0 (k + 1)) (gv0 k) := by
 intro f g h args nm s
 unfold gv0 at h
 split at h
 case isFalse => cases h
 rename_i he
 unfold C0
 rw [callD, if_pos he]
 split at h
 ·rename_i g' hx
  cases h
  rw [hx]
 ·rename_i hx
  rw [hx]
  split at h
  ·rename_i own hk
   have h' := Option.some.inj h; subst h'
   rw [hk]; rfl
  ·cases h
theorem gs0_ok (k : Nat) : GsOk (C0 (k + 1)) (gs0 k) := by
 intro f g h args nm s
 unfold gs0 at h
 split at h
 case isFalse => cases h
 rename_i he
 unfold C0
 rw [callD, if_pos he]
 split at h
 ·cases h
 ·rename_i hx
  rw [hx]
  split at h
  ·cases h
  ·rename_i hk
   cases h
   rw [hk]; rfl
theorem X0_ok (f : FuncId) (g : Ans) (h : X0 f = some g) : PlainOk PR G0 f g := by
 unfold X0 at h
 obtain ⟨x, hx, rfl⟩ := Option.map_eq_some_iff.1 h
 have h1 := List.mem_of_find?_eq_some hx
 have h2 := List.find?_some hx
 simp only [beq_iff_eq] at h2
 subst h2
 exact XL_ok x h1
theorem Y0_ok (f : FuncId) (g : SFun) (h : Y0 f = some g) : StateOk PR G0 f g := by
 unfold Y0 at h
 obtain ⟨x, hx, rfl⟩ := Option.map_eq_some_iff.1 h
 have h1 := List.mem_of_find?_eq_some hx
 have h2 := List.find?_some hx
 simp only [beq_iff_eq] at h2
 subst h2
 exact YL_ok x h1
theorem PR_mixed : PR.follows .mixedOrders = true := Checked.mixed Tryz.checked
theorem gv0_plain {k : Nat} {f : FuncId} {g : Ans} (h : gv0 k f = some g) : PlainOk PR G0 f g := by
 unfold gv0 at h
 split at h
 case isFalse => cases h
 split at h
 ·rename_i hx; have h' := Option.some.inj h; subst h'; exact X0_ok f _ hx
 ·split at h
  ·have h' := Option.some.inj h; subst h'
   obtain ⟨h1, h2⟩ := callD_ok (P := PR) (G := G0) (X := X0) (Y := Y0) (K := K0) (lf := LF) (KT := KT0) PR_mixed X0_ok Y0_ok k
   exact isoD_ok PR_mixed h1 h2
  ·cases h
theorem law_true {k : Nat} {f : FuncId} {cargs : List PV} (h : run0 k f cargs = some (.v (.bool true))) (hcl : closedL cargs = true) {w : World} {vs : Array Value} (hl : vs.size = cargs.length) (ha : ∀ (j : Nat) (x : PV) (u : Value), cargs[j]? = some x → vs[j]? = some u → VR (topC w) x u) (hg : GOk (topC w) G0) :
  Calls PR f vs w fun e w' => e = .returned (.bool true) ∧ Below w.heap.size w w' := by
 unfold run0 at h
 split at h
 case h_2 => cases h
 rename_i g hgv
 refine (gv0_plain hgv cargs _ h (topC w) vs hcl hl ha hg fun g o h => h).mono ?_
 rintro e w' ⟨v, gs, rfl, hb, hr, _, _⟩
 refine ⟨?_, hb⟩
 refine (?_ : v = .bool true) ▸ rfl
 rcases hr with hr | ⟨_, _, e, _⟩
 case inr => cases e
 rcases hr with hr | ⟨_, _, e, _⟩
 case inr => cases e
 rcases hr with ⟨_, hr, _⟩ | ⟨_, _, _, _, _, _, e, _⟩
 case inr => cases e
 exact v_inv hr
def codeOf (f : Func) : Code := match f.body with
 | some c => c
 | none => .skip
noncomputable abbrev go (k : Nat) (f : FuncId) (r0 nt : Nat) (A : AdvC) (c : Code) (σ : St) : Option (Ex × St × List Prop) := codeA PR G0 (C0 (k + 1)) (gv0 k) (gs0 k) pf0 LF (KT0 f) r0 nt A none [] c σ
noncomputable abbrev goStop (k : Nat) (f : FuncId) (r0 nt : Nat) (A : AdvC) (id : Nat) (c : Code) (σ : St) : Option (Ex × St × List Prop) := codeA PR G0 (C0 (k + 1)) (gv0 k) (gs0 k) pf0 LF (KT0 f) r0 nt A (some id) [] c σ
def adv (l : List (List Nat × Nat × Nat × Adv)) (m : List (List Nat × Nat × Ex × St) := []) (u : List Nat := []) : AdvC := ⟨fun pre id i => (l.find? fun x => x.2.1 == id && x.2.2.1 == i && x.1 == pre).map (·.2.2.2), fun pre id => (m.find? fun x => x.2.1 == id && x.1 == pre).map (·.2.2), fun id => u.contains id⟩
noncomputable abbrev run1 (k : Nat) (f : FuncId) (r0 nt : Nat) (c : Code) (σ : St) : Option (Ex × St) := codeP (regD PR G0 (C0 (k + 1)) pf0 [] nt) G0 LF (KT0 f) r0 c σ
theorem code_of {fn : Func} (h : fn.body.isSome = true) : fn.body = some (codeOf fn) := by
 unfold codeOf
 cases hb : fn.body with
 | none => rw [hb] at h; cases h
 | some c => rfl
def ends : Ex → Bool
 | .exit _ => false
 | _ => true
noncomputable def argS (f : FuncId) (args : List PV) : St := ⟨fun t => (normA PR false (paramsOf PR f) args).getD t (.v undef), emptyHS⟩
noncomputable def argB (f : FuncId) (args : List PV) (bs : List (Option Blk)) (fs : List Nat) : St := ⟨fun t => (normA PR false (paramsOf PR f) args).getD t (.v undef), hsL bs fs⟩
theorem run_go {k : Nat} {f : FuncId} {r0 nt : Nat} {c : Code} {σ : St} (A : AdvC) {ex : Ex} {l : List Prop} (h1 : exOf (go k f r0 nt A c σ) = some ex) (h2 : obOf (go k f r0 nt A c σ) = l) (hl : allP l) : run1 k f r0 nt c σ = some (ex, stOf (go k f r0 nt A c σ)) :=
 useA (gv0_ok k) (gs0_ok k) h1 h2 hl
theorem ret_go {k : Nat} {f : FuncId} {fn : Func} {nt : Nat} {args : List PV} (hf : PR.funcs[f]? = some fn) (hn : fn.ntmps = nt) (hk : gv0 (k + 1) f = some (isoD PR G0 (C0 (k + 1)) pf0 false LF (KT0 f) f)) (hb : fn.body.isSome = true) (ha : args.length ≤ nt)
  (A : AdvC) {ex : Ex} {l q : List Prop} {r : PV} (h1 : exOf (go k f 0 nt A (codeOf fn) (argS f args)) = some ex) (hex : ends ex = true) (h2 : obOf (go k f 0 nt A (codeOf fn) (argS f args)) = l) (hl : allP l)
  (hr : ansA PR (resultsOf PR f) (stOf (go k f 0 nt A (codeOf fn) (argS f args))) fn.results.toList = some (r, q)) (hq : allP q) : run0 (k + 1) f args = some r := by
 unfold run0
 rw [hk]
 exact isoD_of hf (code_of hb) hn ha (ps := paramsOf PR f) (rs := resultsOf PR f) (by unfold paramsOf; rw [hf]) (by unfold resultsOf; rw [hf]) (fun id e => by subst e; cases hex) (run_go A h1 h2 hl) (ansA_ok hr hq)
def ansS (P : Program) (n : Nat) (rs : List TypeId) (σ : St) (l : List ResultVar) : Option (PV × List (Option Blk) × List Nat) := match resD P σ l with
 | some xs => canonV n (normR P true rs (oneOr xs)) σ.hs
 | none => none
theorem retS_go {k : Nat} {f : FuncId} {fn : Func} {nt n : Nat} {args : List PV} {bs : List (Option Blk)} {fs : List Nat} (hf : PR.funcs[f]? = some fn) (hn : fn.ntmps = nt) (hnn : bs.length = n) (hk : gs0 (k + 1) f = some (runSD PR G0 (regD PR G0 (C0 (k + 1)) pf0 []) (normA PR false (paramsOf PR f)) (normR PR true (resultsOf PR f)) LF (KT0 f) f)) (hb : fn.body.isSome = true) (ha : args.length ≤ nt)
  (A : AdvC) {ex : Ex} {l : List Prop} {r : PV × List (Option Blk) × List Nat} (h1 : exOf (go k f n nt A (codeOf fn) (argB f args bs fs)) = some ex) (hex : ends ex = true) (h2 : obOf (go k f n nt A (codeOf fn) (argB f args bs fs)) = l) (hl : allP l)
  (hr : ansS PR n (resultsOf PR f) (stOf (go k f n nt A (codeOf fn) (argB f args bs fs))) fn.results.toList = some r) : runS0 (k + 1) f args bs fs = some r := by
 subst hnn
 unfold runS0
 rw [hk]
 exact runSD_of hf (code_of hb) hn ha (ps := paramsOf PR f) (rs := resultsOf PR f) (fun id e => by subst e; cases hex) (run_go A h1 h2 hl) hr
end Go.Proofs.YtdbekeidlppfiaaGreatDoor.Den
namespace Go.Proofs.YtdbekeidlppfiaaGreatDoor.Den
open Go Go.RowKit
abbrev pI (n : Int) : PV := .v (.int .i64 n)
abbrev pB (b : Bool) : PV := .v (.bool b)
abbrev pS (s : ByteArray) : PV := .v (.string s)
abbrev bs (l : List UInt8) : ByteArray := ⟨⟨l⟩⟩
def cI (n : Int) : List PV := [pI n]
def cS (s : ByteArray) : List PV := [pS s]
def bits (o : BinOp) (k : IntKind) (x y : Int) : Int :=
 let a := BitVec.ofInt k.bits x
 let b := BitVec.ofInt k.bits y
 k.wrap (match o with | .and => (a &&& b).toNat | .or => (a ||| b).toNat | .xor => (a ^^^ b).toNat | _ => (a &&& ~~~b).toNat)
def grd {α : Type} (p : Prop) [Decidable p] (x : Option α) : Option α := if p then x else none
theorem grd_some {α : Type} {p : Prop} [Decidable p] {x : Option α} {r : α} (h : grd p x = some r) : p ∧ x = some r := by
 unfold grd at h
 split at h
 ·rename_i hp; exact ⟨hp, h⟩
 ·cases h
theorem bnd_some {α β : Type} {x : Option α} {f : α → Option β} {r : β} (h : x.bind f = some r) : ∃ a, x = some a ∧ f a = some r := by
 cases x with
 | none => cases h
 | some a => exact ⟨a, rfl, h⟩
theorem bif_some {α : Type} {c : Bool} {a b : Option α} {r : α} (h : (bif c then a else b) = some r) : (c = true ∧ a = some r) ∨ (c = false ∧ b = some r) := by
 cases c with
 | true => exact .inl ⟨rfl, h⟩
 | false => exact .inr ⟨rfl, h⟩
def gt {α : Type} (l : List α) (i : Int) : Option α := if 0 ≤ i then l[i.toNat]? else none
theorem gt_some {α : Type} {l : List α} {i : Int} {y : α} (h : gt l i = some y) : 0 ≤ i ∧ l[i.toNat]? = some y := by
 unfold gt at h
 split at h
 ·rename_i hp; exact ⟨hp, h⟩
 ·cases h
theorem gt_lt {α : Type} {l : List α} {i : Int} {y : α} (h : gt l i = some y) : 0 ≤ i ∧ i < (l.length : Int) := by
 obtain ⟨h1, h2⟩ := gt_some h
 have := (List.getElem?_eq_some_iff.1 h2).1
 exact ⟨h1, by omega⟩
abbrev w64 (n : Int) : Int := IntKind.i64.wrap n
theorem wrap_i64 {a : Int} (h1 : -9223372036854775808 ≤ a) (h2 : a ≤ 9223372036854775807) : IntKind.i64.wrap a = a := by
 have e1 : (2 : Int) ^ 64 = 18446744073709551616 := by decide
 have e2 : (2 : Int) ^ (64 - 1) = 9223372036854775808 := by decide
 simp only [IntKind.wrap, IntKind.bits, IntKind.signed, e1, e2, Bool.true_and, decide_eq_true_eq]
 split <;> omega
def room (n b : Nat) : Prop := n ≤ 140737488355328 ∧ n * b ≤ 140737488355328
instance (n b : Nat) : Decidable (room n b) := by unfold room; infer_instance
theorem cg {a b : Bool} (h : a = b) : PV.v (.bool a) = PV.v (.bool b) := by rw [h]
theorem gt_list {α : Type} {c : α → List PV} {l : List α} {i : Int} {y : α} (h : gt l i = some y) : 0 ≤ i ∧ (l.map c)[i.toNat]? = some (c y) := by
 obtain ⟨h1, h2⟩ := gt_some h
 exact ⟨h1, by rw [List.getElem?_map, h2]; rfl⟩
theorem enc_len {α : Type} {c : α → List PV} {l : List α} {xs : List (List PV)} (hx : xs = l.map c) : xs.length = l.length := by rw [hx]; simp
theorem enc_cat {α : Type} {c : α → List PV} {l m : List α} {xs ys : List (List PV)} (hx : xs = l.map c) (hy : ys = m.map c) : xs ++ ys = (l ++ m).map c := by rw [hx, hy]; simp
theorem app_ok {α : Type} {c : α → List PV} {l : List α} {xs : List (List PV)} {n k b : Nat} (hx : xs = l.map c) (hn : n = l.length) (h : room (l.length + k) b) : n = xs.length ∧ n + k ≤ 140737488355328 ∧ (n + k) * b ≤ 140737488355328 := by
 subst hn
 exact ⟨(enc_len hx).symm, h.1, h.2⟩
theorem row_ok {α : Type} {c : α → List PV} {l : List α} {xs : List (List PV)} {n : Nat} (hx : xs = l.map c) (hn : n = l.length) : (0 : Nat) = 0 ∧ n = xs.length := ⟨rfl, hn.trans (enc_len hx).symm⟩
theorem len_ob {α : Type} {c : α → List PV} {l : List α} {xs : List (List PV)} (hx : xs = l.map c) : PV.v (.int .i64 ((xs.length : Nat) : Int)) = pI (l.length : Int) := by rw [enc_len hx]
theorem app_ok2 {α : Type} {c : α → List PV} {l m : List α} {xs ys : List (List PV)} {n b : Nat} (hx : xs = l.map c) (hn : n = l.length) (hy : ys = m.map c) (h : room (l.length + m.length) b) : n = xs.length ∧ n + ys.length ≤ 140737488355328 ∧ (n + ys.length) * b ≤ 140737488355328 := by
 rw [enc_len hy]
 exact app_ok hx hn h
theorem len_cat {α : Type} {n k : Nat} {m : List α} {l : List α} (hn : n = l.length) (l' : List α) (hl : k = m.length) : n + k = (l ++ m).length := by simp [hn, hl]
theorem enc_drop {α : Type} {c : α → List PV} {l : List α} {xs : List (List PV)} (hx : xs = l.map c) (a : Nat) : (xs.drop a).take (xs.length - a) = (l.drop a).map c := by
 rw [hx, List.take_of_length_le (by simp), List.map_drop]
theorem sub_ok1 {α : Type} {c : α → List PV} {l : List α} {a : Int} (q : 0 ≤ a ∧ a ≤ (l.length : Int) ∧ (l.length : Int) ≤ (l.length : Int)) : SubOk (l.map c).length (some a) none := by
 unfold SubOk; simpa using q
end Go.Proofs.YtdbekeidlppfiaaGreatDoor.Den
namespace Go.Proofs.YtdbekeidlppfiaaGreatDoor.Den
open Go Go.RowKit
theorem gt_nat {α : Type} {l : List α} {i : Nat} (h : i < l.length) : gt l (i : Int) = some l[i] := by
 unfold gt
 rw [if_pos (by omega), Int.toNat_natCast, List.getElem?_eq_getElem h]
theorem lt_LF {n : Nat} (h : n ≤ 1000000000) : n < LF := by unfold LF; omega
theorem w64_eq {a : Int} (h1 : -9223372036854775808 ≤ a) (h2 : a ≤ 9223372036854775807) : w64 a = a := wrap_i64 h1 h2
theorem w64_succ {i : Nat} (h : i ≤ 1000000000) : w64 ((i : Int) + 1) = ((i + 1 : Nat) : Int) := by rw [w64_eq (by omega) (by omega)]; omega
theorem seq_self (a : ByteArray) : seq a a = true := by simp [seq]
theorem grd_pos {α : Type} {p : Prop} [Decidable p] {x : Option α} (h : p) : grd p x = x := by unfold grd; rw [if_pos h]
theorem take_cons {α : Type} {l : List α} {i : Nat} (hi : i < l.length) {z : α} {t : List α} (h : l.take i = z :: t) : l.take (i + 1) = (z :: t) ++ [l[i]] := by rw [← h, List.take_succ_eq_append_getElem hi]
theorem take_nil {α : Type} {l : List α} {i : Nat} (hi : i < l.length) (h : l.take i = []) : i = 0 := by
 have := congrArg List.length h
 simp at this
 rcases this with h | h
 ·exact h
 ·rw [h] at hi; simp at hi
end Go.Proofs.YtdbekeidlppfiaaGreatDoor.Den
namespace Go.Proofs.YtdbekeidlppfiaaGreatDoor.Den
open Go Go.RowKit
def by_ (s : ByteArray) : List UInt8 := s.data.toList
theorem by_bs (l : List UInt8) : by_ (bs l) = l := rfl
theorem bs_by (s : ByteArray) : bs (by_ s) = s := rfl
theorem by_inj {a b : ByteArray} (h : by_ a = by_ b) : a = b := by rw [← bs_by a, ← bs_by b, h]
theorem size_by (s : ByteArray) : s.size = (by_ s).length := by
 unfold by_; rw [Array.length_toList]; rfl
theorem toList_loop (b : ByteArray) : ∀ (k i : Nat) (r : List UInt8), b.size - i = k → ByteArray.toList.loop b i r = r.reverse ++ (by_ b).drop i
 | 0, i, r, h => by
  unfold ByteArray.toList.loop
  rw [if_neg (by omega), List.drop_eq_nil_of_le (by rw [← size_by]; omega)]; simp
 | k + 1, i, r, h => by
  unfold ByteArray.toList.loop
  have hi : i < b.size := by omega
  rw [if_pos hi, toList_loop b k (i + 1) _ (by omega)]
  have hl : i < (by_ b).length := by rw [← size_by]; exact hi
  rw [List.drop_eq_getElem_cons hl, List.reverse_cons, List.append_assoc]
  congr 2
  have hi2 : i < b.data.size := hi
  simp only [by_, ByteArray.get!, Array.getElem_toList]
  rw [getElem!_pos b.data i hi2]; rfl
theorem toList_by (b : ByteArray) : b.toList = by_ b := by
 unfold ByteArray.toList
 rw [toList_loop b b.size 0 [] (by omega)]; simp
theorem seq_by (a b : ByteArray) : seq a b = (by_ a == by_ b) := by unfold seq; rw [toList_by, toList_by]
theorem by_extract (s : ByteArray) (i j : Nat) : by_ (s.extract i j) = ((by_ s).take j).drop i := by
 simp [by_, List.extract_eq_take_drop, List.drop_take]
theorem by_drop (s : ByteArray) (i : Nat) : by_ (s.extract i s.size) = (by_ s).drop i := by
 rw [by_extract, List.take_of_length_le (by rw [← size_by]; exact Nat.le_refl _)]
theorem by_take (s : ByteArray) (j : Nat) : by_ (s.extract 0 j) = (by_ s).take j := by rw [by_extract]; rfl
theorem by_append (a b : ByteArray) : by_ (a ++ b) = by_ a ++ by_ b := by simp [by_]
theorem gtS_by (s : ByteArray) (i : Nat) : gtS s (i : Int) = (by_ s)[i]? := by
 unfold gtS
 rw [if_pos (by omega), Int.toNat_natCast]
 have key : ∀ {α : Type} (x : α) (y : Option α), True := fun _ _ => trivial
 by_cases h : i < s.size
 ·have h2 : i < (by_ s).length := by rw [← size_by]; exact h
  rw [List.getElem?_eq_getElem h2, getElem?_pos s i h]
  congr 1
 ·rw [List.getElem?_eq_none (by rw [← size_by]; omega), getElem?_neg s i h]
theorem iterN_more {α β : Type} {f : α → Option (α ⊕ β)} : ∀ {n m : Nat} {a : α} {b : β}, iterN f n a = some b → n ≤ m → iterN f m a = some b
 | 0, m, a, b, h, _ => by simp [iterN] at h
 | n + 1, 0, a, b, h, hm => by omega
 | n + 1, m + 1, a, b, h, hm => by
  simp only [iterN] at h ⊢
  split at h
  ·rename_i a' h1; exact iterN_more h (by omega)
  ·exact h
  ·cases h
theorem iterN_step {α β : Type} {f : α → Option (α ⊕ β)} {n : Nat} {a a' : α} {r : Option β} (h : f a = some (.inl a')) (k : iterN f n a' = r) : iterN f (n + 1) a = r := by simp only [iterN, h]; exact k
theorem iterN_done {α β : Type} {f : α → Option (α ⊕ β)} {n : Nat} {a : α} {b : β} (h : f a = some (.inr b)) : iterN f (n + 1) a = some b := by simp only [iterN, h]
theorem iterN_LF {α β : Type} {f : α → Option (α ⊕ β)} {n : Nat} {a : α} {b : β} (h : iterN f n a = some b) (hn : n ≤ 1000000000) : iterN f LF a = some b := iterN_more h (Nat.le_of_lt (lt_LF hn))
end Go.Proofs.YtdbekeidlppfiaaGreatDoor.Den
namespace Go.Proofs.YtdbekeidlppfiaaGreatDoor.Den
open Go Go.RowKit
def ixbX (s : ByteArray) (c : Int) : Option Int := some (ixbV s c)
theorem ixbX_ok (k : Nat) (s : ByteArray) (c r : Int) (h : ixbX s c = some r) : run0 k 70 [pS s, .v (.int .u8 c)] = some (pI r) := by
 have hg : gv0 k 70 = some xIxb := by kernel_rfl
 cases h
 unfold run0
 rw [hg]
 rfl
def conX (s t : ByteArray) : Option Bool := if s.size < 4294967281 then some (conV s t) else none
theorem conX_ok (k : Nat) (s t : ByteArray) (r : Bool) (h : conX s t = some r) : run0 k 238 [pS s, pS t] = some (pB r) := by
 have hg : gv0 k 238 = some xCon := by kernel_rfl
 unfold conX at h
 split at h
 case isFalse => cases h
 rename_i hn
 cases h
 unfold run0
 rw [hg]
 show xCon [.v (.string s), .v (.string t)] = _
 unfold xCon
 simp only
 rw [if_pos hn]
theorem cloneS_ok {l : List ByteArray} {xs : List (List PV)} (k : Nat) (hx : xs = l.map cS) (hr : room l.length 16) : run0 k 66 [.list 1 false xs] = some (.list 1 false xs) := by
 subst hx
 have hg : gv0 k 66 = some (xClone 66 1 false) := by kernel_rfl
 unfold run0
 rw [hg]
 cases l with
 | nil => rfl
 | cons z t =>
  refine xCloneS_cons (cS z) (t.map cS) ?_ (by have := hr.2; simpa using this)
  exact closedLL_iff.2 fun x hx y hy => by
   obtain ⟨v, _, rfl⟩ := List.mem_map.1 (show x ∈ (z :: t).map cS from hx)
   exact closedL_iff.1 (show closedL (cS v) = true from rfl) y hy
def itoaX (n : Int) : Option ByteArray := if -9223372036854775808 ≤ n ∧ n ≤ 9223372036854775807 then some ⟨(Lib.itoa n).toArray⟩ else none
theorem itoaX_ok (k : Nat) (n : Int) (r : ByteArray) (h : itoaX n = some r) : run0 k 69 [pI n] = some (pS r) := by
 have hg : gv0 k 69 = some xItoa := by kernel_rfl
 unfold itoaX at h
 split at h
 case isFalse => cases h
 rename_i hn
 cases h
 unfold run0
 rw [hg]
 show xItoa [.v (.int .i64 n)] = _
 unfold xItoa
 simp only
 rw [if_pos hn]
def trimRX (s t : ByteArray) : Option ByteArray := match t.data.toList with
 | [c] => if c.toNat < 128 ∧ s.size ≤ 9223372036854775807 then some ⟨(Lib.trimRightB s.data.toList c).toArray⟩ else none
 | _ => none
theorem trimRX_ok (k : Nat) (s t : ByteArray) (r : ByteArray) (h : trimRX s t = some r) : run0 k 124 [pS s, pS t] = some (pS r) := by
 have hg : gv0 k 124 = some xTrimR := by kernel_rfl
 unfold run0
 rw [hg]
 show xTrimR [.v (.string s), .v (.string t)] = _
 unfold trimRX at h
 unfold xTrimR
 simp only
 split at h
 case h_2 => cases h
 rename_i b ht
 split at h
 case isFalse => cases h
 rename_i hn
 cases h
 rw [ht]
 simp only
 rw [if_pos hn]
def lastIxX (s t : ByteArray) : Option Int := match t.data.toList with
 | [c] => if s.size < 4611686018427387904 then some (Lib.lastIndexByte s (c.toNat : Int)) else none
 | _ => none
theorem lastIxX_ok (k : Nat) (s t : ByteArray) (r : Int) (h : lastIxX s t = some r) : run0 k 125 [pS s, pS t] = some (pI r) := by
 have hg : gv0 k 125 = some xLastIx := by kernel_rfl
 unfold run0
 rw [hg]
 show xLastIx [.v (.string s), .v (.string t)] = _
 unfold lastIxX at h
 unfold xLastIx
 simp only
 split at h
 case h_2 => cases h
 rename_i b ht
 split at h
 case isFalse => cases h
 rename_i hn
 cases h
 rw [ht]
 simp only
 rw [if_pos hn]
def shownX : Option Bool := some true
theorem shownX_ok (k : Nat) (r : Bool) (h : shownX = some r) : run0 k 6 [] = some (pB r) := by
 have hg : gv0 k 6 = some xShown := by kernel_rfl
 cases h
 unfold run0
 rw [hg]
 rfl
end Go.Proofs.YtdbekeidlppfiaaGreatDoor.Den
namespace Go.Proofs.YtdbekeidlppfiaaGreatDoor.Den
open Go Go.RowKit
def checkX (p : ByteArray) : Option Int := some (checkV p)
theorem checkX_ok (k : Nat) (p : ByteArray) (r : Int) (h : checkX p = some r) : run0 k 27 [pS p] = some (pI r) := by
 have hg : gv0 k 27 = some xCheck := by kernel_rfl
 cases h
 unfold run0
 rw [hg]
 rfl
theorem growX_nil (k : Nat) (n : Int) (h : (n == (0 : Int)) = true) : run0 k 128 [.v (.slice none 0 0), pI n] = some (.v (.slice none 0 0)) := by
 have hg : gv0 k 128 = some xGrow := by kernel_rfl
 unfold run0
 rw [hg]
 show xGrowT 9 [.v (.slice none 0 0), .v (.int .i64 n)] = _
 unfold xGrowT
 simp only
 rw [if_pos (by simpa using h)]
theorem growX_own (k : Nat) (n : Int) (h : (n == (0 : Int)) = false) (q : 1 ≤ n ∧ n ≤ 1000000) : run0 k 128 [.v (.slice none 0 0), pI n] = some (.own 1 9 []) := by
 have hg : gv0 k 128 = some xGrow := by kernel_rfl
 unfold run0
 rw [hg]
 show xGrowT 9 [.v (.slice none 0 0), .v (.int .i64 n)] = _
 unfold xGrowT
 simp only
 rw [if_neg (by simpa using h), if_pos q]
end Go.Proofs.YtdbekeidlppfiaaGreatDoor.Den
namespace Go.Proofs.YtdbekeidlppfiaaGreatDoor.Den
open Go Go.RowKit
theorem lb {n m : Nat} (h : Nat.ble n m = true) : n ≤ m := Nat.le_of_ble_eq_true h
structure FrameD where
 fd : Int
 name : ByteArray
 names : (List ByteArray)
def FrameD.c (x : FrameD) : List PV := [(pI x.fd), (pS x.name), (.list 1 false (x.names.map cS))]
structure JobD where
 kind : Int
 p : Int
 phase : Int
 fd : Int
 nF : Int
 modeF : Int
 tries : Int
 atF : Int
 flags : Int
 path : ByteArray
 path2 : ByteArray
 text : ByteArray
 names : (List ByteArray)
 stack : (List FrameD)
 draws : (List Int)
 done : Bool
 exit : Int
 out : ByteArray
 e : Int
def JobD.c (x : JobD) : List PV := [(pI x.kind), (pI x.p), (pI x.phase), (pI x.fd), (pI x.nF), (pI x.modeF), (pI x.tries), (pI x.atF), (pI x.flags), (pS x.path), (pS x.path2), (pS x.text), (.list 1 false (x.names.map cS)), (.list 3 false (x.stack.map FrameD.c)), (.list 1 false (x.draws.map cI)), (pB x.done), (pI x.exit), (pS x.out), (pI x.e)]
abbrev JobD.a (x : JobD) : PV := .agg x.c
structure FlagD where
 letter : Int
 value : ByteArray
def FlagD.c (x : FlagD) : List PV := [(.v (.int .u8 x.letter)), (pS x.value)]
structure CalD where
 kind : Int
 fd : Int
 fd2 : Int
 nF : Int
 modeF : Int
 flags : Int
 path : ByteArray
 path2 : ByteArray
 data : ByteArray
def CalD.c (x : CalD) : List PV := [(pI x.kind), (pI x.fd), (pI x.fd2), (pI x.nF), (pI x.modeF), (pI x.flags), (pS x.path), (pS x.path2), (pS x.data)]
structure InfD where
 ino : Int
 kind : Int
 modeF : Int
 owner : Int
 links : Int
 size : Int
def InfD.c (x : InfD) : List PV := [(pI x.ino), (pI x.kind), (pI x.modeF), (pI x.owner), (pI x.links), (pI x.size)]
structure ReplyD where
 e : Int
 nF : Int
 s : ByteArray
 l : (List ByteArray)
 i : InfD
def ReplyD.c (x : ReplyD) : List PV := [(pI x.e), (pI x.nF), (pS x.s), (.list 1 false (x.l.map cS)), (pI x.i.ino), (pI x.i.kind), (pI x.i.modeF), (pI x.i.owner), (pI x.i.links), (pI x.i.size)]
end Go.Proofs.YtdbekeidlppfiaaGreatDoor.Den
