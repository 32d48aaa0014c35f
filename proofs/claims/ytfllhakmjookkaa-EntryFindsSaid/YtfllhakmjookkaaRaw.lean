/- Rows known whole: copy, clear, append of zeros, at elements of any size. -/
import Derived.Test.YtfllhakmjookkaaKinds
import Derived.Lib.AppendZeros
import Derived.Laws.CopyOwn
import Derived.Deep.RegionLaw
import Derived.Lib.Overlaps
set_option linter.unusedVariables false
set_option linter.unusedSimpArgs false
namespace Go.Proofs.Ytfllhakmjookkaa
open Go Go.RowKit

/-- Block g is a row of cells of type e, whole. -/
structure Row (w : World) (g : Nat) (e : TypeId) (cur : List Value) : Prop where mk ::
  out : w.heap[g]? = some (.cells cur.toArray e (0, 0))
theorem Row.lt {w g e cur} (h : Row w g e cur) : g < w.heap.size := (Array.getElem?_eq_some_iff.1 h.out).1
theorem Row.cell {w g e cur} (h : Row w g e cur) (j : Nat) : w.cell? ⟨g, j, none⟩ = cur[j]? := by
  simp [World.cell?, h.out]
theorem Row.cellA {w g e cur} (h : Row w g e cur) (o j : Nat) (u : Value) (hu : cur[o + j]? = some u) : w.cell? ((⟨g, o, none⟩ : Addr).add j) = some u := by
  rw [Addr.add_lit, h.cell, hu]
theorem Row.kept {w w' : World} {g e cur row} (h : Row w g e cur) (hg : w.grownBy w' row) (hne : some g ≠ row) : Row w' g e cur := ⟨(hg.block g h.lt hne).trans h.out⟩
theorem Row.below {w w' : World} {g e cur} (h : Row w g e cur) (hb : Below w.heap.size w w') : Row w' g e cur := ⟨(hb.block g h.lt).trans h.out⟩
theorem Row.drewN {w g e cur} (h : Row w g e cur) (n : Nat) : Row (w.drewN n) g e cur := ⟨h.out⟩
theorem Row.drew {w g e cur} (h : Row w g e cur) : Row w.drew g e cur := ⟨h.out⟩
theorem Row.new (w : World) (e : TypeId) (cur : List Value) : Row (w.alloc (.cells cur.toArray e)) w.heap.size e cur := ⟨heap_alloc_new w _⟩
theorem Row.set {w g e cur} (h : Row w g e cur) (cs : List Value) : Row (w.setRow g cs.toArray) g e cs := ⟨setRow_heap w g _ _ e _ h.out⟩
theorem grown_setRow {w g e cur} (h : Row w g e cur) (cs : List Value) : w.grownBy (w.setRow g cs.toArray) (some g) :=
  ⟨rfl, rfl, rfl, by simp [World.setRow], fun k hk hne => setRow_other w g k _ (fun e => hne (by rw [e]))⟩
theorem grownBy_refl (w : World) (row : Option Nat) : w.grownBy w row := ⟨rfl, rfl, rfl, Nat.le_refl _, fun _ _ _ => rfl⟩
theorem grownBy_drew (w : World) (row : Option Nat) : w.grownBy w.drew row := ⟨rfl, rfl, rfl, Nat.le_refl _, fun _ _ _ => rfl⟩
theorem grownBy_drewN (w : World) (n : Nat) (row : Option Nat) : w.grownBy (w.drewN n) row := ⟨rfl, rfl, rfl, Nat.le_refl _, fun _ _ _ => rfl⟩
theorem grownBy_trans' {w w1 w2 : World} {row : Option Nat} (h : w.grownBy w1 row) (k : w1.grownBy w2 row) : w.grownBy w2 row :=
  ⟨k.os.trans h.os, k.tape.trans h.tape, k.output.trans h.output, Nat.le_trans h.size k.size, fun i hi hr => (k.block i (Nat.lt_of_lt_of_le hi h.size) hr).trans (h.block i hi hr)⟩
/-- A later new row is not an old one. -/
theorem grownBy_newrow {w w1 w2 : World} {g : Nat} {row : Option Nat} (h : w.grownBy w1 row) (hg : w.heap.size ≤ g) (k : w1.grownBy w2 (some g)) : w.grownBy w2 row :=
  ⟨k.os.trans h.os, k.tape.trans h.tape, k.output.trans h.output, Nat.le_trans h.size k.size, fun i hi hr => (k.block i (Nat.lt_of_lt_of_le hi h.size) (by intro e; injection e with e; omega)).trans (h.block i hi hr)⟩

theorem splice_at {α : Type} (P X C : List α) : splice (P ++ X) P.length C = P ++ (C ++ X.drop C.length) := by
  unfold splice
  rw [List.take_left, List.drop_append, List.drop_eq_nil_of_le (by omega)]
  simp
theorem splice_nil {α : Type} (L : List α) (o : Nat) : splice L o [] = L := by simp [splice]

section
variable {P : Program} (w : World)
theorem run_copy_gen (dT sT ty elem : TypeId) (sz g o dLen dCap : Nat) (a : Addr) (sLen sCap : Nat) (cur : List Value) (t : TypeId) (cs : List Value)
    (hu : P.underlying dT = some (.slice elem)) (hs : (P.info? elem).map (·.size) = some sz)
    (hg : Row w g t cur) (hn : cs.length = Nat.min sLen dLen * sz)
    (hsrc : ∀ j v, cs[j]? = some v → w.cell? (a.add j) = some v) (hfit : o + cs.length ≤ cur.length) (h1 : ∀ v ∈ cs, v.oneCell' = true) :
    (Builtin.copy_ #[dT, sT] ty #[.slice (some ⟨g, o, none⟩) dLen dCap, .slice (some a) sLen sCap]).run P w =
      .ok (goInt (Nat.min sLen dLen)) (w.setRow g (splice cur o cs).toArray) := by
  have hl := run_loadCells_list (P := P) w a cs hsrc
  have hst := run_storeCells_at P g o t cs 0 cur.toArray w hg.out (by simpa using hfit) h1
  simp only [Nat.add_zero, List.toList_toArray, List.append_assoc] at hst
  cases hq : P.info? elem with
  | none => simp [hq] at hs
  | some i =>
    have hi : i.size = sz := by simpa [hq] using hs
    simp [Builtin.copy_, run_underlying hu, Builtin.lenOf, Builtin.firstCells, sizeOf, typeInfo, hq, hi, ← hn, hl, hst, splice]
theorem run_copy_none_gen (dT sT ty elem : TypeId) (sz : Nat) (d a : Option Addr) (dLen dCap sLen sCap : Nat) (hu : P.underlying dT = some (.slice elem)) (hs : (P.info? elem).map (·.size) = some sz) (hn : Nat.min sLen dLen = 0) :
    (Builtin.copy_ #[dT, sT] ty #[.slice d dLen dCap, .slice a sLen sCap]).run P w = .ok (goInt 0) w := by
  cases hq : P.info? elem with
  | none => simp [hq] at hs
  | some i =>
    have hi : i.size = sz := by simpa [hq] using hs
    cases a <;> cases d <;> simp [Builtin.copy_, run_underlying hu, Builtin.lenOf, Builtin.firstCells, sizeOf, typeInfo, hq, hi, hn, loadCells, loadCellsFrom, storeCells]
theorem zeroCells_len (z : Array Value) (n : Nat) : (Builtin.zeroCells z n).toList.length = n * z.size := by simp [Builtin.zeroCells]
theorem zeroCells_one (z : Array Value) (n : Nat) (h : ∀ v ∈ z.toList, v.oneCell' = true) : ∀ v ∈ (Builtin.zeroCells z n).toList, v.oneCell' = true := by
  intro v hv
  simp only [Builtin.zeroCells, Array.toList_map, List.mem_map, Array.toList_range, List.mem_range] at hv
  obtain ⟨i, hi, rfl⟩ := hv
  have hz : 0 < z.size := Nat.pos_of_ne_zero (by rintro e; rw [e] at hi; omega)
  have hlt : i % z.size < z.size := Nat.mod_lt _ hz
  rw [getElem!_pos z _ hlt]
  exact h _ (by rw [← Array.getElem_toList]; exact List.getElem_mem _)
theorem run_clear_gen (t ty elem : TypeId) (z : Value) (g o n c : Nat) (cur : List Value) (e : TypeId) (hu : P.underlying t = some (.slice elem)) (hz : ∀ w, (zeroValue elem).run P w = .ok z w)
    (h1 : ∀ v ∈ z.cells.toList, v.oneCell' = true) (hg : Row w g e cur) (hfit : o + n * z.cells.size ≤ cur.length) :
    ∃ cs, cs.length = n * z.cells.size ∧ (Builtin.clear_ #[t] ty #[.slice (some ⟨g, o, none⟩) n c]).run P w = .ok (.tuple #[]) (w.setRow g (splice cur o cs).toArray) := by
  have hst := run_storeCells_at P g o e (Builtin.zeroCells z.cells n).toList 0 cur.toArray w hg.out (by rw [zeroCells_len]; simpa using hfit) (zeroCells_one _ _ h1)
  simp only [Nat.add_zero, List.toList_toArray, List.append_assoc] at hst
  refine ⟨(Builtin.zeroCells z.cells n).toList, zeroCells_len _ _, ?_⟩
  cases n with
  | zero =>
    have : Builtin.zeroCells z.cells 0 = #[] := by simp [Builtin.zeroCells]
    rw [this]
    simp [Builtin.clear_, run_underlying hu, splice, setRow_self w g _ _ _ hg.out]
  | succ n => simp [Builtin.clear_, run_underlying hu, hz, hst, splice]
theorem run_append_zeros_grow (t tn ty e : TypeId) (i : TypeInfo) (z : Value) (k kn : IntKind) (ht : P.underlying t = some (.slice e)) (htn : P.underlying tn = some (.int kn)) (hi : P.info? e = some i) (hz : i.zero = some z)
    (b : Addr) (sLen sCap n : Nat) (olds : List Value) (hlo : olds.length = sLen * i.size) (holds : ∀ j v, olds[j]? = some v → w.cell? (b.add j) = some v) (h0 : 0 < n) (hs : 0 < i.size) (hb : 0 < i.bytes)
    (hg : sCap < sLen + n) (h48 : (sLen + n) * i.bytes ≤ 140737488355328) :
    (Builtin.append_ #[t, tn] ty #[.slice (some b) sLen sCap, .int k n]).run P w =
      .ok (.slice (some ⟨w.heap.size, 0, none⟩) (sLen + n) (grownCap w (sLen + n) sCap e)) (w.drew.alloc (.cells (olds.toArray ++ (Builtin.zeroCells z.cells n ++ Builtin.zeroCells z.cells (grownCap w (sLen + n) sCap e - (sLen + n)))) e)) := by
  have hbn : sLen + n ≤ 140737488355328 := Nat.le_trans (Nat.le_mul_of_pos_right _ hb) h48
  have hn : ¬ (sLen + n ≤ sCap) := by omega
  have hw : IntKind.i64.wrap (n : Int) = n := by rw [IntKind.wrap_i64]; omega
  have h63' : ¬ (9223372036854775807 < ((sLen : Int) + (n : Int))) := by omega
  have hnx := Nat.mul_le_mul_right i.bytes (nextslicecap_le hg)
  have h48' : ¬ (281474976710656 < Builtin.nextslicecap (sLen + n) sCap * i.bytes) := by
    have : 2 * (sLen + n) * i.bytes = 2 * ((sLen + n) * i.bytes) := by rw [Nat.mul_assoc]
    omega
  have hni : n * i.bytes ≤ (sLen + n) * i.bytes := Nat.mul_le_mul_right _ (by omega)
  have h48i : ¬ (281474976710656 < (n : Int) * (i.bytes : Int)) := by
    have : ((n * i.bytes : Nat) : Int) = (n : Int) * (i.bytes : Int) := by simp
    omega
  have hneg : ¬ ((n : Int) < 0) := by omega
  have hns : ¬ (n * i.size = 0) := Nat.mul_ne_zero (by omega) (by omega)
  have hfo := run_firstCells_some (P := P) w.drew i.size sLen b sLen sCap olds hlo (by simpa using holds)
  simp [Builtin.append_, run_underlying ht, run_underlying htn, sizeOf, typeInfo, zeroValue, hi, hz, asInt, asIntOf, hw, hneg, h48i, hn, h63', h48', hns, Question.forced, hfo, newRow, grownCap]
  try (congr 2; apply Array.ext'; simp [List.append_assoc])
end
section
variable {P : Program} {ops : Array Oper} {rest : List Oper} {o : Oper} {a : Act} {w : World}
/-- copy into a row known whole, at elements of any size, as a law at the call. -/
theorem wpList_copy_row {Q : Exit → Act → World → Prop} (hgd : o.guard = none) (d s : Operand) (dT sT : TypeId)
    (ho : o.op = .call { callee := .builtin .copy, args := #[d, s], argTypes := #[dT, sT] }) (elem : TypeId) (sz : Nat) (hu : P.underlying dT = some (.slice elem)) (hsz : (P.info? elem).map (·.size) = some sz)
    (g off dLen dCap : Nat) (ad : Addr) (sLen sCap : Nat) (hd : a.eval d = .slice (some ⟨g, off, none⟩) dLen dCap) (hs : a.eval s = .slice (some ad) sLen sCap)
    (cur : List Value) (t : TypeId) (hg : Row w g t cur) (cs : List Value) (hn : cs.length = Nat.min sLen dLen * sz)
    (hsrc : ∀ j v, cs[j]? = some v → w.cell? (ad.add j) = some v) (hfit : off + cs.length ≤ cur.length) (h1 : ∀ v ∈ cs, v.oneCell' = true)
    (h : ∀ w', Hid (Row w' g t (splice cur off cs)) → Hid (w.grownBy w' (some g)) → wpList P ops Q rest (a.put o.dst (goInt (Nat.min sLen dLen))) w') : wpList P ops Q (o :: rest) a w := by
  refine wpList_plain hgd fun K hK => ?_
  have hrun := run_copy_gen (P := P) w dT sT o.type elem sz g off dLen dCap ad sLen sCap cur t cs hu hsz hg hn hsrc hfit h1
  unfold Oper.wp
  simp only [execOp, ho, resolve, invoke, builtin, List.map_toArray, List.map_cons, List.map_nil, hd, hs, Sem.run_bind, Sem.run_pure, Result.andThen_ok, hrun]
  exact hK _ _ (h _ (show Row _ _ _ _ from hg.set _) (show World.grownBy _ _ _ from grown_setRow hg _))
/-- The same as a step of a region that draws. -/
theorem step_copy_row {K : Act → World → Prop} {Q : Exit → Act → World → Prop} {E : Prop} (hgd : o.guard = none) (d s : Operand) (dT sT : TypeId)
    (ho : o.op = .call { callee := .builtin .copy, args := #[d, s], argTypes := #[dT, sT] }) (elem : TypeId) (sz : Nat) (hu : P.underlying dT = some (.slice elem)) (hsz : (P.info? elem).map (·.size) = some sz)
    (g off dLen dCap : Nat) (ad : Addr) (sLen sCap : Nat) (hd : a.eval d = .slice (some ⟨g, off, none⟩) dLen dCap) (hs : a.eval s = .slice (some ad) sLen sCap)
    (cur : List Value) (t : TypeId) (hg : Row w g t cur) (cs : List Value) (hn : cs.length = Nat.min sLen dLen * sz)
    (hsrc : ∀ j v, cs[j]? = some v → w.cell? (ad.add j) = some v) (hfit : off + cs.length ≤ cur.length) (h1 : ∀ v ∈ cs, v.oneCell' = true)
    (h : ∀ w', Hid (Row w' g t (splice cur off cs)) → Hid (w.grownBy w' (some g)) → K (a.put o.dst (goInt (Nat.min sLen dLen))) w') :
    if Region.wanted o (yielded ops a.tmps) = true then Oper.wp P o a w K Q else E := by
  have hw : Region.wanted o (yielded ops a.tmps) = true := by simp [Region.wanted, hgd]
  rw [if_pos hw]
  have hrun := run_copy_gen (P := P) w dT sT o.type elem sz g off dLen dCap ad sLen sCap cur t cs hu hsz hg hn hsrc hfit h1
  unfold Oper.wp
  simp only [execOp, ho, resolve, invoke, builtin, List.map_toArray, List.map_cons, List.map_nil, hd, hs, Sem.run_bind, Sem.run_pure, Result.andThen_ok, hrun]
  exact h _ (show Row _ _ _ _ from hg.set _) (show World.grownBy _ _ _ from grown_setRow hg _)
/-- clear of a piece of a row known whole. -/
theorem wpList_clear_row {Q : Exit → Act → World → Prop} (hgd : o.guard = none) (d : Operand) (t : TypeId)
    (ho : o.op = .call { callee := .builtin .clear, args := #[d], argTypes := #[t] }) (hdst : o.dst = none) (elem : TypeId) (z : Value) (hu : P.underlying t = some (.slice elem)) (hz : ∀ w, (zeroValue elem).run P w = .ok z w)
    (h1 : ∀ v ∈ z.cells.toList, v.oneCell' = true) (g off n c : Nat) (hd : a.eval d = .slice (some ⟨g, off, none⟩) n c) (cur : List Value) (e : TypeId) (hg : Row w g e cur) (hfit : off + n * z.cells.size ≤ cur.length)
    (h : ∀ w' cs, cs.length = n * z.cells.size → Hid (Row w' g e (splice cur off cs)) → Hid (w.grownBy w' (some g)) → wpList P ops Q rest a w') : wpList P ops Q (o :: rest) a w := by
  refine wpList_plain hgd fun K hK => ?_
  obtain ⟨cs, hcl, hrun⟩ := run_clear_gen (P := P) w t o.type elem z g off n c cur e hu hz h1 hg hfit
  unfold Oper.wp
  simp only [execOp, ho, resolve, invoke, builtin, List.map_toArray, List.map_cons, List.map_nil, hd, Sem.run_bind, Sem.run_pure, Result.andThen_ok, hrun]
  have hp : a.put o.dst (.tuple #[]) = a := by rw [hdst]; rfl
  show K (a.put o.dst (.tuple #[])) _
  rw [hp]
  exact hK _ _ (h _ cs hcl (show Row _ _ _ _ from hg.set _) (show World.grownBy _ _ _ from grown_setRow hg _))
/-- append(s, make([]T, n)...) that grows: a new row, whose cells are known up to the zeros. -/
theorem wpList_append_zeros_row {Q : Exit → Act → World → Prop} (hgd : o.guard = none) (s x : Operand) (t tn e : TypeId)
    (ho : o.op = .call { callee := .builtin .append, args := #[s, x], argTypes := #[t, tn] }) (z : Value) (sz bytes : Nat) (kn : IntKind) (ht : P.underlying t = some (.slice e)) (htn : P.underlying tn = some (.int kn))
    (hinfo : (P.info? e).map (fun i => (i.zero, i.size, i.bytes)) = some (some z, sz, bytes)) (hz : z.cells.size = sz) (hs0 : 0 < sz) (hb0 : 0 < bytes)
    (b : Addr) (sLen sCap n : Nat) (k : IntKind) (hs : a.eval s = .slice (some b) sLen sCap) (hx : a.eval x = .int k n)
    (olds : List Value) (hlo : olds.length = sLen * sz) (holds : ∀ j v, olds[j]? = some v → w.cell? (b.add j) = some v) (h0 : 0 < n) (hg : sCap < sLen + n) (h48 : (sLen + n) * bytes ≤ 140737488355328) (m : Nat) (hm : sLen + n = m)
    (h : ∀ w' g cap Z, Hid (Row w' g e (olds ++ Z)) → Hid (Z.length = (cap - sLen) * sz) → Hid (w.grownBy w' none) → w.heap.size ≤ g → m ≤ cap → cap ≤ 9223372036854775807 → wpList P ops Q rest (a.put o.dst (.slice (some ⟨g, 0, none⟩) m cap)) w') : wpList P ops Q (o :: rest) a w := by
  obtain ⟨i, hi, hzz⟩ := Option.map_eq_some_iff.1 hinfo
  simp only [Prod.mk.injEq] at hzz
  obtain ⟨hz0, hz1, hz2⟩ := hzz
  subst hz1 hz2
  have hrun := run_append_zeros_grow (P := P) w t tn o.type e i z k kn ht htn hi hz0 b sLen sCap n olds hlo holds h0 hs0 hb0 hg h48
  have hge := grownCap_ge w (sLen + n) sCap e
  have hbn : sLen + n ≤ 140737488355328 := Nat.le_trans (Nat.le_mul_of_pos_right _ hb0) h48
  have hle := grownCap_le_maxLen w (sLen + n) sCap e (by simp only [maxLen]; omega)
  refine wpList_plain hgd fun K hK => ?_
  unfold Oper.wp
  simp only [execOp, ho, resolve, invoke, builtin, List.map_toArray, List.map_cons, List.map_nil, hs, hx, Sem.run_bind, Sem.run_pure, Result.andThen_ok, hrun]
  subst hm
  refine hK _ _ (h _ _ _ ((Builtin.zeroCells z.cells n).toList ++ (Builtin.zeroCells z.cells (grownCap w (sLen + n) sCap e - (sLen + n))).toList) ?_ ?_ ?_ (Nat.le_refl _) hge (by simpa [maxLen] using hle))
  · show Row _ _ _ _
    have := Row.new w.drew e (olds ++ ((Builtin.zeroCells z.cells n).toList ++ (Builtin.zeroCells z.cells (grownCap w (sLen + n) sCap e - (sLen + n))).toList))
    have he : (olds ++ ((Builtin.zeroCells z.cells n).toList ++ (Builtin.zeroCells z.cells (grownCap w (sLen + n) sCap e - (sLen + n))).toList)).toArray = olds.toArray ++ (Builtin.zeroCells z.cells n ++ Builtin.zeroCells z.cells (grownCap w (sLen + n) sCap e - (sLen + n))) := by
      apply Array.ext'; simp
    rw [he] at this
    exact ⟨this.out⟩
  · show _ = _
    rw [List.length_append, zeroCells_len, zeroCells_len, hz, ← Nat.add_mul]
    congr 1; omega
  · show World.grownBy _ _ _
    exact grownBy_trans' (grownBy_drew w none) (World.grownBy_alloc w.drew _ none)
theorem wpList_copy_none {Q : Exit → Act → World → Prop} (hgd : o.guard = none) (d s : Operand) (dT sT : TypeId)
    (ho : o.op = .call { callee := .builtin .copy, args := #[d, s], argTypes := #[dT, sT] }) (elem : TypeId) (sz : Nat) (hu : P.underlying dT = some (.slice elem)) (hsz : (P.info? elem).map (·.size) = some sz)
    (dp sp : Option Addr) (dLen dCap sLen sCap : Nat) (hd : a.eval d = .slice dp dLen dCap) (hs : a.eval s = .slice sp sLen sCap) (hn : Nat.min sLen dLen = 0)
    (h : wpList P ops Q rest (a.put o.dst (goInt 0)) w) : wpList P ops Q (o :: rest) a w := by
  refine wpList_plain hgd fun K hK => ?_
  have hrun := run_copy_none_gen (P := P) w dT sT o.type elem sz dp sp dLen dCap sLen sCap hu hsz hn
  unfold Oper.wp
  simp only [execOp, ho, resolve, invoke, builtin, List.map_toArray, List.map_cons, List.map_nil, hd, hs, Sem.run_bind, Sem.run_pure, Result.andThen_ok, hrun]
  exact hK _ _ h
theorem wpList_clear_none {Q : Exit → Act → World → Prop} (hgd : o.guard = none) (d : Operand) (t : TypeId)
    (ho : o.op = .call { callee := .builtin .clear, args := #[d], argTypes := #[t] }) (hdst : o.dst = none) (elem : TypeId) (z : Value) (hu : P.underlying t = some (.slice elem)) (hz : ∀ w, (zeroValue elem).run P w = .ok z w)
    (dp : Option Addr) (n c : Nat) (hd : a.eval d = .slice dp n c) (hn : n = 0)
    (h : wpList P ops Q rest a w) : wpList P ops Q (o :: rest) a w := by
  subst hn
  refine wpList_plain hgd fun K hK => ?_
  have hrun : (Builtin.clear_ #[t] o.type #[.slice dp 0 c]).run P w = .ok (.tuple #[]) w := by
    cases dp <;> simp [Builtin.clear_, run_underlying hu, hz]
  unfold Oper.wp
  simp only [execOp, ho, resolve, invoke, builtin, List.map_toArray, List.map_cons, List.map_nil, hd, Sem.run_bind, Sem.run_pure, Result.andThen_ok, hrun]
  have hp : a.put o.dst (.tuple #[]) = a := by rw [hdst]; rfl
  show K (a.put o.dst (.tuple #[])) _
  rw [hp]
  exact hK _ _ h
end
end Go.Proofs.Ytfllhakmjookkaa
