/- Texts joined by a program of mine (pack.py): S19Cl. -/
import Derived.Test.YtdbekeidlppfiaaGreatDoorDenW
import Derived.Test.YtdbekeidlppfiaaGreatDoorChecked
import Derived.Maps.AppendAt
import Derived.WalkKit
import Derived.Lib.SliceRun
set_option linter.unusedVariables false
set_option linter.unusedSimpArgs false
namespace Go.Proofs.YtdbekeidlppfiaaGreatDoor.Den
open Go Go.RowKit
theorem balloc' (w : World) (o : Obj) : Below w.heap.size w (w.alloc o) := (Below.refl _ _).alloc (Nat.le_refl _) o
theorem wp_append0 {P : Program} {ops : Array Oper} {rest : List Oper} {o : Oper} {a : Act} {w : World} {Q : Exit → Act → World → Prop} (hgd : o.guard = none) (s x : Operand) (t e : TypeId)
  (ho : o.op = .call { callee := .builtin .append, args := #[s, x], argTypes := #[t, t] }) (ht : P.underlying t = some (.slice e)) (hinfo : (P.info? e).isSome = true)
  (A : Addr) (y : Option Addr) (c : Nat) (hs : a.eval s = .slice (some A) 0 0) (hx : a.eval x = .slice y 0 c) (h : wpList P ops Q rest (a.put o.dst (.slice (some A) 0 0)) w) : wpList P ops Q (o :: rest) a w := by
 obtain ⟨i, hi⟩ := Option.isSome_iff_exists.1 hinfo
 refine wpList_plain hgd fun K hK => ?_
 have hr : (Builtin.append_ #[t, t] o.type #[.slice (some A) 0 0, .slice y 0 c]).run P w = .ok (.slice (some A) 0 0) w := by
  cases y <;> simp [Builtin.append_, run_underlying ht, sizeOf, typeInfo, hi, Builtin.lenOf, Builtin.firstCells, loadCells, loadCellsFrom, storeCells]
 unfold Oper.wp execOp
 simp only [ho, resolve, invoke, builtin, Sem.run_bind, Sem.run_pure, Result.andThen_ok, List.map_toArray, List.map_cons, List.map_nil, hs, hx, hr]
 exact hK _ _ h
def noX : FuncId → Option Ans := fun _ => none
def noK : Kind := fun _ => none
def noKT : FuncId → Nat → Option (List Nat) := fun _ _ => none
def noPf : FuncId → Bool := fun f => (noX f).isSome || (noK f).isSome
noncomputable def noC : CallD := callD Tryz.prog (fun _ => none) noX (fun _ => none) noK 1 noKT 0
noncomputable def xClone (f : FuncId) (sz : Nat) (own : Bool) : Ans := fun args => match args with
 | [.list _ _ []] => some (.list sz own [])
 | _ => isoD Tryz.prog (fun _ => none) noC noPf own 1 (fun _ => none) f args
theorem reify_list {s : HS} {n : Name} {k len : Nat} {b : Blk} (h : s.h n = (k, some b)) (hl : len = b.xs.length) (hc : closedLL b.xs = true) : reify false (.row n k 0 len) s = some (.list b.sz false b.xs) := by
 unfold reify reify2 reify1 reify0
 simp only [Bool.false_eq_true, if_false]
 have hd : dr 8 s (.row n k 0 len) = some (.list b.sz false b.xs, { s with fz := upd s.fz n (max (s.fz n) (0 + len)) }) := by
  simp [dr, closedB, h, hl, hc]
 rw [hd]
 simp [nodupB]
theorem plain_any {P : Program} {f : FuncId} {g : Ans} (h : PlainOk P (fun _ => none) f g) (G : Glo) : PlainOk P G f g := fun cargs r hr c vs hcl hl ha hg hS =>
 h cargs r hr c vs hcl hl ha ⟨fun _ _ h => (by cases h), fun _ _ h => (by cases h), fun _ _ _ _ _ _ h => (by cases h), fun _ _ _ h => (by cases h), fun _ h => (by cases h), fun _ _ _ _ h => (by cases h)⟩ hS
def advApp : AdvC := ⟨fun _ id i => if id == 3 && i == 2 then some .ok else none, fun _ _ => none, fun _ => false⟩
noncomputable abbrev goN (f : FuncId) (nt : Nat) (A : AdvC) (c : Code) (σ : St) : Option (Ex × St × List Prop) := codeA Tryz.prog (fun _ => none) noC (fun _ => none) (fun _ => none) noPf 1 (fun _ => none) 0 nt A none [] c σ
def bodyOf (f : Func) : Code := match f.body with
 | some c => c
 | none => .skip
theorem cloneP_empty (y : Option Addr) (c : Nat) (hy : y = none → c = 0) (w : World) :
  Calls Tryz.prog 56 #[.slice y 0 c] w fun e w' => ∃ z, e = .returned (.slice z 0 0) ∧ Below w.heap.size w w' := by
 have hz := fun a n c n' c' (W : World) => Lib.run_eql_slice_nil (P := Tryz.prog) W 62 127 a n c n' c' Tryz.underlying62
 cases y with
 | none =>
  obtain rfl := hy rfl
  go_enter Tryz.func56, Tryz.ntmps56
  go_wp2
  go_ret
  exact ⟨⟨_, rfl⟩, Below.refl _ _⟩
 | some A =>
  have hB := balloc' w (.cells #[] 127)
  go_enter Tryz.func56, Tryz.ntmps56
  go_wp2_with (at_builtin; refine wp_append0 rfl _ _ 62 127 rfl Tryz.underlying62 (by kernel_rfl) ⟨w.heap.size, 0, none⟩ _ _ rfl rfl ?_)
  go_ret
  exact ⟨_, rfl, hB⟩
theorem xCloneP_ok : PlainOk Tryz.prog (fun _ => none) 56 (xClone 56 4 true) := by
 intro cargs r h c vs hcl hl ha hg hS
 unfold xClone at h
 split at h
 ·cases h
  obtain ⟨u, rfl⟩ := args1 hl
  have hu := ha 0 _ u rfl rfl
  obtain ⟨y, n, rfl, hy⟩ : ∃ y n, u = .slice y 0 n ∧ (y = none → n = 0) := by
   cases hu with
   | lnil _ _ a => exact ⟨a, 0, rfl, fun _ => rfl⟩
   | list _ _ _ g off cap us h1 h2 h3 h4 h5 h6 h7 h8 => exact ⟨_, _, rfl, fun h => by cases h⟩
  exact (cloneP_empty y n hy c.w).mono fun e w' ⟨z, he, hb⟩ => ⟨.slice z 0 0, [], he, hb, .inl (.inl (.inl ⟨rfl, .lnil _ _ _, rfl⟩)), List.nodup_nil, by simp⟩
 ·have hm : Tryz.prog.follows .mixedOrders = true := Checked.mixed Tryz.checked
  obtain ⟨h1, h2⟩ := callD_ok (P := Tryz.prog) (G := fun _ => none) (X := noX) (Y := fun _ => none) (K := noK) (lf := 1) (KT := noKT) hm (fun f g h => by cases h) (fun f g h => by cases h) 0
  exact isoD_ok hm h1 h2 cargs r h c vs hcl hl ha hg hS
theorem cloneS_empty (y : Option Addr) (c : Nat) (hy : y = none → c = 0) (w : World) :
  Calls Tryz.prog 66 #[.slice y 0 c] w fun e w' => ∃ z, e = .returned (.slice z 0 0) ∧ Below w.heap.size w w' := by
 have hz := fun a n c n' c' (W : World) => Lib.run_eql_slice_nil (P := Tryz.prog) W 22 9 a n c n' c' Tryz.underlying22
 cases y with
 | none =>
  obtain rfl := hy rfl
  go_enter Tryz.func66, Tryz.ntmps66
  go_wp2
  go_ret
  exact ⟨⟨_, rfl⟩, Below.refl _ _⟩
 | some A =>
  have hB := balloc' w (.cells #[] 9)
  go_enter Tryz.func66, Tryz.ntmps66
  go_wp2_with (at_builtin; refine wp_append0 rfl _ _ 22 9 rfl Tryz.underlying22 (by kernel_rfl) ⟨w.heap.size, 0, none⟩ _ _ rfl rfl ?_)
  go_ret
  exact ⟨_, rfl, hB⟩
theorem xCloneS_ok : PlainOk Tryz.prog (fun _ => none) 66 (xClone 66 1 false) := by
 intro cargs r h c vs hcl hl ha hg hS
 unfold xClone at h
 split at h
 ·cases h
  obtain ⟨u, rfl⟩ := args1 hl
  have hu := ha 0 _ u rfl rfl
  obtain ⟨y, n, rfl, hy⟩ : ∃ y n, u = .slice y 0 n ∧ (y = none → n = 0) := by
   cases hu with
   | lnil _ _ a => exact ⟨a, 0, rfl, fun _ => rfl⟩
   | list _ _ _ g off cap us h1 h2 h3 h4 h5 h6 h7 h8 => exact ⟨_, _, rfl, fun h => by cases h⟩
  exact (cloneS_empty y n hy c.w).mono fun e w' ⟨z, he, hb⟩ => ⟨.slice z 0 0, [], he, hb, .inl (.inl (.inl ⟨rfl, .lnil _ _ _, rfl⟩)), List.nodup_nil, by simp⟩
 ·have hm : Tryz.prog.follows .mixedOrders = true := Checked.mixed Tryz.checked
  obtain ⟨h1, h2⟩ := callD_ok (P := Tryz.prog) (G := fun _ => none) (X := noX) (Y := fun _ => none) (K := noK) (lf := 1) (KT := noKT) hm (fun f g h => by cases h) (fun f g h => by cases h) 0
  exact isoD_ok hm h1 h2 cargs r h c vs hcl hl ha hg hS
noncomputable def stS (x : List PV) (t : List (List PV)) : St := ⟨fun i => (normA Tryz.prog false (paramsOf Tryz.prog 66) [.list 1 false (x :: t)]).getD i (.v undef), emptyHS⟩
set_option maxRecDepth 100000 in
theorem xCloneS_cons (x : List PV) (t : List (List PV)) (hc : closedLL (x :: t) = true) (hn : (x :: t).length * 16 ≤ 140737488355328) :
  xClone 66 1 false [.list 1 false (x :: t)] = some (.list 1 false (x :: t)) := by
 have h0 : codeP (regD Tryz.prog (fun _ => none) noC noPf [] Tryz.f66.ntmps) (fun _ => none) 1 (fun _ => none) 0 (bodyOf Tryz.f66) (stS x t) = some (.ret, stOf (goN 66 Tryz.f66.ntmps advApp (bodyOf Tryz.f66) (stS x t))) :=
  useA (gv := fun _ => none) (gs := fun _ => none) (fun f g h => by cases h) (fun f g h => by cases h) (l := [(0 = 0 ∧ 0 + (x :: t).length ≤ 140737488355328 ∧ (0 + (x :: t).length) * 16 ≤ 140737488355328)]) (by kernel_rfl) (by kernel_rfl) ⟨⟨rfl, by omega, by omega⟩, trivial⟩
 have hr : (match resD Tryz.prog (stOf (goN 66 Tryz.f66.ntmps advApp (bodyOf Tryz.f66) (stS x t))) Tryz.f66.results.toList with
   | some xs => reify false (normR Tryz.prog false Tryz.f66.resultTypes.toList (oneOr xs)) (stOf (goN 66 Tryz.f66.ntmps advApp (bodyOf Tryz.f66) (stS x t))).hs | none => none)
   = reify false (.row [2, 3] 1 0 (0 + (x :: t).length)) (stOf (goN 66 Tryz.f66.ntmps advApp (bodyOf Tryz.f66) (stS x t))).hs := by kernel_rfl
 have hb : (stOf (goN 66 Tryz.f66.ntmps advApp (bodyOf Tryz.f66) (stS x t))).hs.h [2, 3] = (1, some ⟨1, 9, x :: t, true, true⟩) := by kernel_rfl
 have hz : (stOf (goN 66 Tryz.f66.ntmps advApp (bodyOf Tryz.f66) (stS x t))).hs.fz [2, 3] = 0 := by kernel_rfl
 unfold xClone
 refine isoD_of Tryz.func66 (c := bodyOf Tryz.f66) rfl rfl (Nat.le_of_ble_eq_true rfl) rfl rfl (fun id e => by cases e) h0 (hr.trans ?_)
 exact reify_list hb (by simp) hc
theorem cloneN_empty (y : Option Addr) (c : Nat) (hy : y = none → c = 0) (w : World) :
  Calls Tryz.prog 129 #[.slice y 0 c] w fun e w' => ∃ z, e = .returned (.slice z 0 0) ∧ Below w.heap.size w w' := by
 have hz := fun a n c n' c' (W : World) => Lib.run_eql_slice_nil (P := Tryz.prog) W 55 122 a n c n' c' Tryz.underlying55
 cases y with
 | none =>
  obtain rfl := hy rfl
  go_enter Tryz.func129, Tryz.ntmps129
  go_wp2
  go_ret
  exact ⟨⟨_, rfl⟩, Below.refl _ _⟩
 | some A =>
  have hB := balloc' w (.cells #[] 122)
  go_enter Tryz.func129, Tryz.ntmps129
  go_wp2_with (at_builtin; refine wp_append0 rfl _ _ 55 122 rfl Tryz.underlying55 (by kernel_rfl) ⟨w.heap.size, 0, none⟩ _ _ rfl rfl ?_)
  go_ret
  exact ⟨_, rfl, hB⟩
theorem xCloneN_ok : PlainOk Tryz.prog (fun _ => none) 129 (xClone 129 8 true) := by
 intro cargs r h c vs hcl hl ha hg hS
 unfold xClone at h
 split at h
 ·cases h
  obtain ⟨u, rfl⟩ := args1 hl
  have hu := ha 0 _ u rfl rfl
  obtain ⟨y, n, rfl, hy⟩ : ∃ y n, u = .slice y 0 n ∧ (y = none → n = 0) := by
   cases hu with
   | lnil _ _ a => exact ⟨a, 0, rfl, fun _ => rfl⟩
   | list _ _ _ g off cap us h1 h2 h3 h4 h5 h6 h7 h8 => exact ⟨_, _, rfl, fun h => by cases h⟩
  exact (cloneN_empty y n hy c.w).mono fun e w' ⟨z, he, hb⟩ => ⟨.slice z 0 0, [], he, hb, .inl (.inl (.inl ⟨rfl, .lnil _ _ _, rfl⟩)), List.nodup_nil, by simp⟩
 ·have hm : Tryz.prog.follows .mixedOrders = true := Checked.mixed Tryz.checked
  obtain ⟨h1, h2⟩ := callD_ok (P := Tryz.prog) (G := fun _ => none) (X := noX) (Y := fun _ => none) (K := noK) (lf := 1) (KT := noKT) hm (fun f g h => by cases h) (fun f g h => by cases h) 0
  exact isoD_ok hm h1 h2 cargs r h c vs hcl hl ha hg hS
end Go.Proofs.YtdbekeidlppfiaaGreatDoor.Den
