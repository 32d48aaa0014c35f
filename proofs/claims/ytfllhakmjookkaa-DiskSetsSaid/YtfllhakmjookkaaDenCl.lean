/- A plain reading of Go's text: slices.Clone of nodes. -/
import Derived.Test.YtfllhakmjookkaaDenW
import Derived.Test.YtfllhakmjookkaaEntry
import Derived.Maps.AppendAt
set_option linter.unusedVariables false
set_option linter.unusedSimpArgs false
namespace Go.Proofs.Ytfllhakmjookkaa.Den
open Go Go.RowKit

theorem wp_append0 {P : Program} {ops : Array Oper} {rest : List Oper} {o : Oper} {a : Act} {w : World} {Q : Exit → Act → World → Prop} (hgd : o.guard = none) (s x : Operand) (t e : TypeId)
    (ho : o.op = .call { callee := .builtin .append, args := #[s, x], argTypes := #[t, t] }) (ht : P.underlying t = some (.slice e)) (hinfo : (P.info? e).isSome = true)
    (A : Addr) (y : Option Addr) (c : Nat) (hs : a.eval s = .slice (some A) 0 0) (hx : a.eval x = .slice y 0 c) (h : wpList P ops Q rest (a.put o.dst (.slice (some A) 0 0)) w) : wpList P ops Q (o :: rest) a w := by
  obtain ⟨i, hi⟩ := Option.isSome_iff_exists.1 hinfo
  refine wpList_plain hgd fun K hK => ?_
  have hr : (Builtin.append_ #[t, t] o.type #[.slice (some A) 0 0, .slice y 0 c]).run P w = .ok (.slice (some A) 0 0) w := by
    cases y <;> simp [Builtin.append_, run_underlying ht, sizeOf, typeInfo, hi, Builtin.lenOf, Builtin.firstCells, loadCells, loadCellsFrom, storeCells]
  unfold Oper.wp execOp
  simp only [ho, resolve, invoke, builtin, Sem.run_bind, Sem.run_pure, Result.andThen_ok, List.map_toArray, List.map_cons, List.map_nil, hs, hx, hr]
  exact hK _ _ h
theorem cloneN_empty (y : Option Addr) (c : Nat) (hy : y = none → c = 0) (w : World) :
    Calls Try.prog 67 #[.slice y 0 c] w fun e w' => ∃ z, e = .returned (.slice z 0 0) ∧ Below w.heap.size w w' := by
  have hz := fun a n c n' c' (W : World) => Lib.run_eql_slice_nil (P := Try.prog) W 22 43 a n c n' c' Try.underlying22
  cases y with
  | none =>
    obtain rfl := hy rfl
    go_enter Try.func67, Try.ntmps67
    go_wp2
    go_ret
    exact ⟨⟨_, rfl⟩, Below.refl _ _⟩
  | some A =>
    have hB := balloc w (.cells #[] 43)
    go_enter Try.func67, Try.ntmps67
    go_wp2_with (at_builtin; refine wp_append0 rfl _ _ 22 43 rfl Try.underlying22 (by kernel_rfl) ⟨w.heap.size, 0, none⟩ _ _ rfl rfl ?_)
    go_ret
    exact ⟨_, rfl, hB⟩
/-- What a copy is of nothing; and of what is not empty, as the code says. -/
def noX : FuncId → Option Ans := fun _ => none
def noK : Kind := fun _ => none
def noKT : FuncId → Nat → Option (List Nat) := fun _ _ => none
def noPf : FuncId → Bool := fun f => (noX f).isSome || (noK f).isSome
noncomputable def noC : CallD := callD Try.prog (fun _ => none) noX noK 1 noKT 0
noncomputable def xClone (f : FuncId) (sz : Nat) : Ans := fun args => match args with
  | [.list _ _ []] => some (.list sz true [])
  | _ => isoD Try.prog (fun _ => none) noC noPf true 1 (fun _ => none) f args
theorem xCloneN_ok : PlainOk Try.prog (fun _ => none) 67 (xClone 67 8) := by
  intro cargs r h c vs hcl hl ha hg hS
  unfold xClone at h
  split at h
  · cases h
    obtain ⟨u, rfl⟩ := args1 hl
    have hu := ha 0 _ u rfl rfl
    obtain ⟨y, n, rfl, hy⟩ : ∃ y n, u = .slice y 0 n ∧ (y = none → n = 0) := by
      cases hu with
      | lnil _ _ a => exact ⟨a, 0, rfl, fun _ => rfl⟩
      | list _ _ _ g off cap us h1 h2 h3 h4 h5 h6 h7 h8 => exact ⟨_, _, rfl, fun h => by cases h⟩
    exact (cloneN_empty y n hy c.w).mono fun e w' ⟨z, he, hb⟩ => ⟨.slice z 0 0, [], he, hb, .inl (.inl (.inl ⟨rfl, .lnil _ _ _, rfl⟩)), List.nodup_nil, by simp⟩
  · have hm : Try.prog.follows .mixedOrders = true := Checked.mixed Try.checked
    obtain ⟨h1, h2⟩ := callD_ok (P := Try.prog) (G := fun _ => none) (X := noX) (K := noK) (lf := 1) (KT := noKT) hm (fun f g h => by cases h) 0
    exact isoD_ok hm h1 h2 cargs r h c vs hcl hl ha hg hS
theorem mapSS_closed {k : Nat} {s : HS} : ∀ {l : List (List PV)}, closedLL l = true → mapSS (dr k) s l = some (l, s)
  | [], _ => rfl
  | x :: l, h => by
    simp only [closedLL, Bool.and_eq_true] at h
    simp [mapSS, mapS_closed h.1, mapSS_closed h.2]
theorem reify_own {s : HS} {n : Name} {k len : Nat} {b : Blk} (h : s.h n = (k, some b)) (hl : len = b.xs.length) (hc : closedLL b.xs = true) (hz : s.fz n = 0) : reify true (.row n k 0 len) s = some (.own b.sz b.E b.xs) := by
  unfold reify reify2 reify1 reify0 adopt
  simp only [h, hl, and_self, if_true, mapSS_closed hc]
  simp [nodupB, h, hz]
def advApp : AdvC := ⟨fun _ id i => if id == 3 && i == 2 then some .ok else none, fun _ _ => none, fun _ => false⟩
noncomputable abbrev goN (f : FuncId) (nt : Nat) (A : AdvC) (c : Code) (σ : St) : Option (Ex × St × List Prop) := codeA Try.prog (fun _ => none) noC (fun _ => none) (fun _ => none) noPf 1 (fun _ => none) 0 nt A none [] c σ
def bodyOf (f : Func) : Code := match f.body with
  | some c => c
  | none => .skip
noncomputable def stN (x : List PV) (t : List (List PV)) : St := ⟨fun i => (normA Try.prog false (paramsOf Try.prog 67) [.list 8 false (x :: t)]).getD i (.v undef), emptyHS⟩
set_option maxRecDepth 100000 in
theorem xCloneN_cons (x : List PV) (t : List (List PV)) (hc : closedLL (x :: t) = true) (hn : (x :: t).length * 88 ≤ 140737488355328) :
    xClone 67 8 [.list 8 false (x :: t)] = some (.own 8 43 (x :: t)) := by
  have h0 : codeP (regD Try.prog (fun _ => none) noC noPf [] Try.f67.ntmps) (fun _ => none) 1 (fun _ => none) 0 (bodyOf Try.f67) (stN x t) = some (.ret, stOf (goN 67 Try.f67.ntmps advApp (bodyOf Try.f67) (stN x t))) :=
    useA (gv := fun _ => none) (gs := fun _ => none) (fun f g h => by cases h) (fun f g h => by cases h) (l := [(0 = 0 ∧ 0 + (x :: t).length ≤ 140737488355328 ∧ (0 + (x :: t).length) * 88 ≤ 140737488355328)]) (by kernel_rfl) (by kernel_rfl) ⟨⟨rfl, by omega, by omega⟩, trivial⟩
  have hr : (match resD Try.prog (stOf (goN 67 Try.f67.ntmps advApp (bodyOf Try.f67) (stN x t))) Try.f67.results.toList with
      | some xs => reify true (normR Try.prog false Try.f67.resultTypes.toList (oneOr xs)) (stOf (goN 67 Try.f67.ntmps advApp (bodyOf Try.f67) (stN x t))).hs | none => none)
      = reify true (.row [2, 3] 1 0 (0 + (x :: t).length)) (stOf (goN 67 Try.f67.ntmps advApp (bodyOf Try.f67) (stN x t))).hs := by kernel_rfl
  have hb : (stOf (goN 67 Try.f67.ntmps advApp (bodyOf Try.f67) (stN x t))).hs.h [2, 3] = (1, some ⟨8, 43, x :: t, true, true⟩) := by kernel_rfl
  have hz : (stOf (goN 67 Try.f67.ntmps advApp (bodyOf Try.f67) (stN x t))).hs.fz [2, 3] = 0 := by kernel_rfl
  unfold xClone
  refine isoD_of Try.func67 (c := bodyOf Try.f67) rfl rfl (Nat.le_of_ble_eq_true rfl) rfl rfl (fun id e => by cases e) h0 (hr.trans ?_)
  exact reify_own hb (by simp) hc hz
end Go.Proofs.Ytfllhakmjookkaa.Den
