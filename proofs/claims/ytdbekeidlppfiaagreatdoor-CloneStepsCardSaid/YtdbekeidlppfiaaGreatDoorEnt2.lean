/- Texts joined by a program of mine (pack.py): Ent2. -/
import Derived.Test.YtdbekeidlppfiaaGreatDoorEnt1
import Derived.Lib.AppendZeros
import Derived.Laws.CopyOwn
import Derived.Deep.RegionLaw
import Derived.Lib.Overlaps
set_option linter.unusedVariables false
set_option linter.unusedSimpArgs false
namespace Go.Proofs.YtdbekeidlppfiaaGreatDoor
open Go Go.RowKit
structure Row (w : World) (g : Nat) (e : TypeId) (cur : List Value) : Prop where mk ::
 out : w.heap[g]? = some (.cells cur.toArray e (0, 0))
theorem Row.lt {w g e cur} (h : Row w g e cur) : g < w.heap.size := (Array.getElem?_eq_some_iff.1 h.out).1
theorem Row.cell {w g e cur} (h : Row w g e cur) (j : Nat) : w.cell? ⟨g, j, none⟩ = cur[j]? := by
 simp [World.cell?, h.out]
theorem Row.cellA {w g e cur} (h : Row w g e cur) (o j : Nat) (u : Value) (hu : cur[o + j]? = some u) : w.cell? ((⟨g, o, none⟩ : Addr).add j) = some u := by
 rw [Addr.add_lit, h.cell, hu]
theorem Row.kept {w w' : World} {g e cur row} (h : Row w g e cur) (hg : w.grownBy w' row) (hne : some g ≠ row) : Row w' g e cur := ⟨(hg.block g h.lt hne).trans h.out⟩
theorem Row.below {w w' : World} {g e cur} (h : Row w g e cur) (hb : Below w.heap.size w w') : Row w' g e cur := ⟨(hb.block g h.lt).trans h.out⟩
theorem Row.drewN {w g e cur} (h : Row w g e cur) (n : Nat) : Row (w.drewN n) g e cur := ⟨h.out⟩
theorem Row.drew {w g e cur} (h : Row w g e cur) : Row w.drew g e cur := ⟨h.out⟩
theorem Row.new (w : World) (e : TypeId) (cur : List Value) : Row (w.alloc (.cells cur.toArray e)) w.heap.size e cur := ⟨heap_alloc_new w _⟩
theorem Row.set {w g e cur} (h : Row w g e cur) (cs : List Value) : Row (w.setRow g cs.toArray) g e cs := ⟨setRow_heap w g _ _ e _ h.out⟩
theorem grown_setRow {w g e cur} (h : Row w g e cur) (cs : List Value) : w.grownBy (w.setRow g cs.toArray) (some g) :=
 ⟨rfl, rfl, rfl, by simp [World.setRow], fun k hk hne => setRow_other w g k _ (fun e => hne (by rw [e]))⟩
theorem grownBy_drew (w : World) (row : Option Nat) : w.grownBy w.drew row := ⟨rfl, rfl, rfl, Nat.le_refl _, fun _ _ _ => rfl⟩
theorem grownBy_trans' {w w1 w2 : World} {row : Option Nat} (h : w.grownBy w1 row) (k : w1.grownBy w2 row) : w.grownBy w2 row :=
 ⟨k.os.trans h.os, k.tape.trans h.tape, k.output.trans h.output, Nat.le_trans h.size k.size, fun i hi hr => (k.block i (Nat.lt_of_lt_of_le hi h.size) hr).trans (h.block i hi hr)⟩
theorem grownBy_newrow {w w1 w2 : World} {g : Nat} {row : Option Nat} (h : w.grownBy w1 row) (hg : w.heap.size ≤ g) (k : w1.grownBy w2 (some g)) : w.grownBy w2 row :=
 ⟨k.os.trans h.os, k.tape.trans h.tape, k.output.trans h.output, Nat.le_trans h.size k.size, fun i hi hr => (k.block i (Nat.lt_of_lt_of_le hi h.size) (by intro e; injection e with e; omega)).trans (h.block i hi hr)⟩
theorem splice_at {α : Type} (P X C : List α) : splice (P ++ X) P.length C = P ++ (C ++ X.drop C.length) := by
 unfold splice
 rw [List.take_left, List.drop_append, List.drop_eq_nil_of_le (by omega)]
 simp
section
variable {P : Program} (w : World)
theorem run_copy_gen (dT sT ty elem : TypeId) (sz g o dLen dCap : Nat) (a : Addr) (sLen sCap : Nat) (cur : List Value) (t : TypeId) (cs : List Value)
  (hu : P.underlying dT = some (.slice elem)) (hs : (P.info? elem).map (·.size) = some sz)
  (hg : Row w g t cur) (hn : cs.length = Nat.min sLen dLen * sz)
  (hsrc : ∀ j v, cs[j]? = some v → w.cell? (a.add j) = some v) (hfit : o + cs.length ≤ cur.length) (h1 : ∀ v ∈ cs, v.oneCell' = true) :
  (Builtin.copy_ #[dT, sT] ty #[.slice (some ⟨g, o, none⟩) dLen dCap, .slice (some a) sLen sCap]).run P w =
   .ok (goInt (Nat.min sLen dLen)) (w.setRow g (splice cur o cs).toArray) := by
 have hl := run_loadCells_list (P := P) w a cs hsrc
 have hst := run_storeCells_at P g o t cs 0 cur.toArray w hg.out (by simpa using hfit) h1
 simp only [Nat.add_zero, List.toList_toArray, List.append_assoc] at hst
 cases hq : P.info? elem with
 | none => simp [hq] at hs
 | some i =>
  have hi : i.size = sz := by simpa [hq] using hs
  simp [Builtin.copy_, run_underlying hu, Builtin.lenOf, Builtin.firstCells, sizeOf, typeInfo, hq, hi, ← hn, hl, hst, splice]
theorem run_copy_none_gen (dT sT ty elem : TypeId) (sz : Nat) (d a : Option Addr) (dLen dCap sLen sCap : Nat) (hu : P.underlying dT = some (.slice elem)) (hs : (P.info? elem).map (·.size) = some sz) (hn : Nat.min sLen dLen = 0) :
  (Builtin.copy_ #[dT, sT] ty #[.slice d dLen dCap, .slice a sLen sCap]).run P w = .ok (goInt 0) w := by
 cases hq : P.info? elem with
 | none => simp [hq] at hs
 | some i =>
  have hi : i.size = sz := by simpa [hq] using hs
  cases a <;> cases d <;> simp [Builtin.copy_, run_underlying hu, Builtin.lenOf, Builtin.firstCells, sizeOf, typeInfo, hq, hi, hn, loadCells, loadCellsFrom, storeCells]
theorem zeroCells_len (z : Array Value) (n : Nat) : (Builtin.zeroCells z n).toList.length = n * z.size := by simp [Builtin.zeroCells]
theorem zeroCells_one (z : Array Value) (n : Nat) (h : ∀ v ∈ z.toList, v.oneCell' = true) : ∀ v ∈ (Builtin.zeroCells z n).toList, v.oneCell' = true := by
 intro v hv
 simp only [Builtin.zeroCells, Array.toList_map, List.mem_map, Array.toList_range, List.mem_range] at hv
 obtain ⟨i, hi, rfl⟩ := hv
 have hz : 0 < z.size := Nat.pos_of_ne_zero (by rintro e; rw [e] at hi; omega)
 have hlt : i % z.size < z.size := Nat.mod_lt _ hz
 rw [getElem!_pos z _ hlt]
 exact h _ (by rw [← Array.getElem_toList]; exact List.getElem_mem _)
theorem run_clear_gen (t ty elem : TypeId) (z : Value) (g o n c : Nat) (cur : List Value) (e : TypeId) (hu : P.underlying t = some (.slice elem)) (hz : ∀ w, (zeroValue elem).run P w = .ok z w)
  (h1 : ∀ v ∈ z.cells.toList, v.oneCell' = true) (hg : Row w g e cur) (hfit : o + n * z.cells.size ≤ cur.length) :
  ∃ cs, cs.length = n * z.cells.size ∧ (Builtin.clear_ #[t] ty #[.slice (some ⟨g, o, none⟩) n c]).run P w = .ok (.tuple #[]) (w.setRow g (splice cur o cs).toArray) := by
 have hst := run_storeCells_at P g o e (Builtin.zeroCells z.cells n).toList 0 cur.toArray w hg.out (by rw [zeroCells_len]; simpa using hfit) (zeroCells_one _ _ h1)
 simp only [Nat.add_zero, List.toList_toArray, List.append_assoc] at hst
 refine ⟨(Builtin.zeroCells z.cells n).toList, zeroCells_len _ _, ?_⟩
 cases n with
 | zero =>
  have : Builtin.zeroCells z.cells 0 = #[] := by simp [Builtin.zeroCells]
  rw [this]
  simp [Builtin.clear_, run_underlying hu, splice, setRow_self w g _ _ _ hg.out]
 | succ n => simp [Builtin.clear_, run_underlying hu, hz, hst, splice]
theorem run_append_zeros_grow (t tn ty e : TypeId) (i : TypeInfo) (z : Value) (k kn : IntKind) (ht : P.underlying t = some (.slice e)) (htn : P.underlying tn = some (.int kn)) (hi : P.info? e = some i) (hz : i.zero = some z)
  (b : Addr) (sLen sCap n : Nat) (olds : List Value) (hlo : olds.length = sLen * i.size) (holds : ∀ j v, olds[j]? = some v → w.cell? (b.add j) = some v) (h0 : 0 < n) (hs : 0 < i.size) (hb : 0 < i.bytes)
  (hg : sCap < sLen + n) (h48 : (sLen + n) * i.bytes ≤ 140737488355328) :
  (Builtin.append_ #[t, tn] ty #[.slice (some b) sLen sCap, .int k n]).run P w =
   .ok (.slice (some ⟨w.heap.size, 0, none⟩) (sLen + n) (grownCap w (sLen + n) sCap e)) (w.drew.alloc (.cells (olds.toArray ++ (Builtin.zeroCells z.cells n ++ Builtin.zeroCells z.cells (grownCap w (sLen + n) sCap e - (sLen + n)))) e)) := by
 have hbn : sLen + n ≤ 140737488355328 := Nat.le_trans (Nat.le_mul_of_pos_right _ hb) h48
 have hn : ¬ (sLen + n ≤ sCap) := by omega
 have hw : IntKind.i64.wrap (n : Int) = n := by rw [IntKind.wrap_i64]; omega
 have h63' : ¬ (9223372036854775807 < ((sLen : Int) + (n : Int))) := by omega
 have hnx := Nat.mul_le_mul_right i.bytes (nextslicecap_le hg)
 have h48' : ¬ (281474976710656 < Builtin.nextslicecap (sLen + n) sCap * i.bytes) := by
  have : 2 * (sLen + n) * i.bytes = 2 * ((sLen + n) * i.bytes) := by rw [Nat.mul_assoc]
  omega
 have hni : n * i.bytes ≤ (sLen + n) * i.bytes := Nat.mul_le_mul_right _ (by omega)
 have h48i : ¬ (281474976710656 < (n : Int) * (i.bytes : Int)) := by
  have : ((n * i.bytes : Nat) : Int) = (n : Int) * (i.bytes : Int) := by simp
  omega
 have hneg : ¬ ((n : Int) < 0) := by omega
 have hns : ¬ (n * i.size = 0) := Nat.mul_ne_zero (by omega) (by omega)
 have hfo := run_firstCells_some (P := P) w.drew i.size sLen b sLen sCap olds hlo (by simpa using holds)
 simp [Builtin.append_, run_underlying ht, run_underlying htn, sizeOf, typeInfo, zeroValue, hi, hz, asInt, asIntOf, hw, hneg, h48i, hn, h63', h48', hns, Question.forced, hfo, newRow, grownCap]
 try (congr 2; apply Array.ext'; simp [List.append_assoc])
end
section
variable {P : Program} {ops : Array Oper} {rest : List Oper} {o : Oper} {a : Act} {w : World}
theorem wpList_copy_row {Q : Exit → Act → World → Prop} (hgd : o.guard = none) (d s : Operand) (dT sT : TypeId)
  (ho : o.op = .call { callee := .builtin .copy, args := #[d, s], argTypes := #[dT, sT] }) (elem : TypeId) (sz : Nat) (hu : P.underlying dT = some (.slice elem)) (hsz : (P.info? elem).map (·.size) = some sz)
  (g off dLen dCap : Nat) (ad : Addr) (sLen sCap : Nat) (hd : a.eval d = .slice (some ⟨g, off, none⟩) dLen dCap) (hs : a.eval s = .slice (some ad) sLen sCap)
  (cur : List Value) (t : TypeId) (hg : Row w g t cur) (cs : List Value) (hn : cs.length = Nat.min sLen dLen * sz)
  (hsrc : ∀ j v, cs[j]? = some v → w.cell? (ad.add j) = some v) (hfit : off + cs.length ≤ cur.length) (h1 : ∀ v ∈ cs, v.oneCell' = true)
  (h : ∀ w', Hid (Row w' g t (splice cur off cs)) → Hid (w.grownBy w' (some g)) → wpList P ops Q rest (a.put o.dst (goInt (Nat.min sLen dLen))) w') : wpList P ops Q (o :: rest) a w := by
 refine wpList_plain hgd fun K hK => ?_
 have hrun := run_copy_gen (P := P) w dT sT o.type elem sz g off dLen dCap ad sLen sCap cur t cs hu hsz hg hn hsrc hfit h1
 unfold Oper.wp
 simp only [execOp, ho, resolve, invoke, builtin, List.map_toArray, List.map_cons, List.map_nil, hd, hs, Sem.run_bind, Sem.run_pure, Result.andThen_ok, hrun]
 exact hK _ _ (h _ (show Row _ _ _ _ from hg.set _) (show World.grownBy _ _ _ from grown_setRow hg _))
theorem step_copy_row {K : Act → World → Prop} {Q : Exit → Act → World → Prop} {E : Prop} (hgd : o.guard = none) (d s : Operand) (dT sT : TypeId)
  (ho : o.op = .call { callee := .builtin .copy, args := #[d, s], argTypes := #[dT, sT] }) (elem : TypeId) (sz : Nat) (hu : P.underlying dT = some (.slice elem)) (hsz : (P.info? elem).map (·.size) = some sz)
  (g off dLen dCap : Nat) (ad : Addr) (sLen sCap : Nat) (hd : a.eval d = .slice (some ⟨g, off, none⟩) dLen dCap) (hs : a.eval s = .slice (some ad) sLen sCap)
  (cur : List Value) (t : TypeId) (hg : Row w g t cur) (cs : List Value) (hn : cs.length = Nat.min sLen dLen * sz)
  (hsrc : ∀ j v, cs[j]? = some v → w.cell? (ad.add j) = some v) (hfit : off + cs.length ≤ cur.length) (h1 : ∀ v ∈ cs, v.oneCell' = true)
  (h : ∀ w', Hid (Row w' g t (splice cur off cs)) → Hid (w.grownBy w' (some g)) → K (a.put o.dst (goInt (Nat.min sLen dLen))) w') :
  if Region.wanted o (yielded ops a.tmps) = true then Oper.wp P o a w K Q else E := by
 have hw : Region.wanted o (yielded ops a.tmps) = true := by simp [Region.wanted, hgd]
 rw [if_pos hw]
 have hrun := run_copy_gen (P := P) w dT sT o.type elem sz g off dLen dCap ad sLen sCap cur t cs hu hsz hg hn hsrc hfit h1
 unfold Oper.wp
 simp only [execOp, ho, resolve, invoke, builtin, List.map_toArray, List.map_cons, List.map_nil, hd, hs, Sem.run_bind, Sem.run_pure, Result.andThen_ok, hrun]
 exact h _ (show Row _ _ _ _ from hg.set _) (show World.grownBy _ _ _ from grown_setRow hg _)
theorem wpList_clear_row {Q : Exit → Act → World → Prop} (hgd : o.guard = none) (d : Operand) (t : TypeId)
  (ho : o.op = .call { callee := .builtin .clear, args := #[d], argTypes := #[t] }) (hdst : o.dst = none) (elem : TypeId) (z : Value) (hu : P.underlying t = some (.slice elem)) (hz : ∀ w, (zeroValue elem).run P w = .ok z w)
  (h1 : ∀ v ∈ z.cells.toList, v.oneCell' = true) (g off n c : Nat) (hd : a.eval d = .slice (some ⟨g, off, none⟩) n c) (cur : List Value) (e : TypeId) (hg : Row w g e cur) (hfit : off + n * z.cells.size ≤ cur.length)
  (h : ∀ w' cs, cs.length = n * z.cells.size → Hid (Row w' g e (splice cur off cs)) → Hid (w.grownBy w' (some g)) → wpList P ops Q rest a w') : wpList P ops Q (o :: rest) a w := by
 refine wpList_plain hgd fun K hK => ?_
 obtain ⟨cs, hcl, hrun⟩ := run_clear_gen (P := P) w t o.type elem z g off n c cur e hu hz h1 hg hfit
 unfold Oper.wp
 simp only [execOp, ho, resolve, invoke, builtin, List.map_toArray, List.map_cons, List.map_nil, hd, Sem.run_bind, Sem.run_pure, Result.andThen_ok, hrun]
 have hp : a.put o.dst (.tuple #[]) = a := by rw [hdst]; rfl
 show K (a.put o.dst (.tuple #[])) _
 rw [hp]
 exact hK _ _ (h _ cs hcl (show Row _ _ _ _ from hg.set _) (show World.grownBy _ _ _ from grown_setRow hg _))
theorem wpList_append_zeros_row {Q : Exit → Act → World → Prop} (hgd : o.guard = none) (s x : Operand) (t tn e : TypeId)
  (ho : o.op = .call { callee := .builtin .append, args := #[s, x], argTypes := #[t, tn] }) (z : Value) (sz bytes : Nat) (kn : IntKind) (ht : P.underlying t = some (.slice e)) (htn : P.underlying tn = some (.int kn))
  (hinfo : (P.info? e).map (fun i => (i.zero, i.size, i.bytes)) = some (some z, sz, bytes)) (hz : z.cells.size = sz) (hs0 : 0 < sz) (hb0 : 0 < bytes)
  (b : Addr) (sLen sCap n : Nat) (k : IntKind) (hs : a.eval s = .slice (some b) sLen sCap) (hx : a.eval x = .int k n)
  (olds : List Value) (hlo : olds.length = sLen * sz) (holds : ∀ j v, olds[j]? = some v → w.cell? (b.add j) = some v) (h0 : 0 < n) (hg : sCap < sLen + n) (h48 : (sLen + n) * bytes ≤ 140737488355328) (m : Nat) (hm : sLen + n = m)
  (h : ∀ w' g cap Z, Hid (Row w' g e (olds ++ Z)) → Hid (Z.length = (cap - sLen) * sz) → Hid (w.grownBy w' none) → w.heap.size ≤ g → m ≤ cap → cap ≤ 9223372036854775807 → wpList P ops Q rest (a.put o.dst (.slice (some ⟨g, 0, none⟩) m cap)) w') : wpList P ops Q (o :: rest) a w := by
 obtain ⟨i, hi, hzz⟩ := Option.map_eq_some_iff.1 hinfo
 simp only [Prod.mk.injEq] at hzz
 obtain ⟨hz0, hz1, hz2⟩ := hzz
 subst hz1 hz2
 have hrun := run_append_zeros_grow (P := P) w t tn o.type e i z k kn ht htn hi hz0 b sLen sCap n olds hlo holds h0 hs0 hb0 hg h48
 have hge := grownCap_ge w (sLen + n) sCap e
 have hbn : sLen + n ≤ 140737488355328 := Nat.le_trans (Nat.le_mul_of_pos_right _ hb0) h48
 have hle := grownCap_le_maxLen w (sLen + n) sCap e (by simp only [maxLen]; omega)
 refine wpList_plain hgd fun K hK => ?_
 unfold Oper.wp
 simp only [execOp, ho, resolve, invoke, builtin, List.map_toArray, List.map_cons, List.map_nil, hs, hx, Sem.run_bind, Sem.run_pure, Result.andThen_ok, hrun]
 subst hm
 refine hK _ _ (h _ _ _ ((Builtin.zeroCells z.cells n).toList ++ (Builtin.zeroCells z.cells (grownCap w (sLen + n) sCap e - (sLen + n))).toList) ?_ ?_ ?_ (Nat.le_refl _) hge (by simpa [maxLen] using hle))
 ·show Row _ _ _ _
  have := Row.new w.drew e (olds ++ ((Builtin.zeroCells z.cells n).toList ++ (Builtin.zeroCells z.cells (grownCap w (sLen + n) sCap e - (sLen + n))).toList))
  have he : (olds ++ ((Builtin.zeroCells z.cells n).toList ++ (Builtin.zeroCells z.cells (grownCap w (sLen + n) sCap e - (sLen + n))).toList)).toArray = olds.toArray ++ (Builtin.zeroCells z.cells n ++ Builtin.zeroCells z.cells (grownCap w (sLen + n) sCap e - (sLen + n))) := by
   apply Array.ext'; simp
  rw [he] at this
  exact ⟨this.out⟩
 ·show _ = _
  rw [List.length_append, zeroCells_len, zeroCells_len, hz, ← Nat.add_mul]
  congr 1; omega
 ·show World.grownBy _ _ _
  exact grownBy_trans' (grownBy_drew w none) (World.grownBy_alloc w.drew _ none)
theorem wpList_copy_none {Q : Exit → Act → World → Prop} (hgd : o.guard = none) (d s : Operand) (dT sT : TypeId)
  (ho : o.op = .call { callee := .builtin .copy, args := #[d, s], argTypes := #[dT, sT] }) (elem : TypeId) (sz : Nat) (hu : P.underlying dT = some (.slice elem)) (hsz : (P.info? elem).map (·.size) = some sz)
  (dp sp : Option Addr) (dLen dCap sLen sCap : Nat) (hd : a.eval d = .slice dp dLen dCap) (hs : a.eval s = .slice sp sLen sCap) (hn : Nat.min sLen dLen = 0)
  (h : wpList P ops Q rest (a.put o.dst (goInt 0)) w) : wpList P ops Q (o :: rest) a w := by
 refine wpList_plain hgd fun K hK => ?_
 have hrun := run_copy_none_gen (P := P) w dT sT o.type elem sz dp sp dLen dCap sLen sCap hu hsz hn
 unfold Oper.wp
 simp only [execOp, ho, resolve, invoke, builtin, List.map_toArray, List.map_cons, List.map_nil, hd, hs, Sem.run_bind, Sem.run_pure, Result.andThen_ok, hrun]
 exact hK _ _ h
theorem wpList_clear_none {Q : Exit → Act → World → Prop} (hgd : o.guard = none) (d : Operand) (t : TypeId)
  (ho : o.op = .call { callee := .builtin .clear, args := #[d], argTypes := #[t] }) (hdst : o.dst = none) (elem : TypeId) (z : Value) (hu : P.underlying t = some (.slice elem)) (hz : ∀ w, (zeroValue elem).run P w = .ok z w)
  (dp : Option Addr) (n c : Nat) (hd : a.eval d = .slice dp n c) (hn : n = 0)
  (h : wpList P ops Q rest a w) : wpList P ops Q (o :: rest) a w := by
 subst hn
 refine wpList_plain hgd fun K hK => ?_
 have hrun : (Builtin.clear_ #[t] o.type #[.slice dp 0 c]).run P w = .ok (.tuple #[]) w := by
  cases dp <;> simp [Builtin.clear_, run_underlying hu, hz]
 unfold Oper.wp
 simp only [execOp, ho, resolve, invoke, builtin, List.map_toArray, List.map_cons, List.map_nil, hd, Sem.run_bind, Sem.run_pure, Result.andThen_ok, hrun]
 have hp : a.put o.dst (.tuple #[]) = a := by rw [hdst]; rfl
 show K (a.put o.dst (.tuple #[])) _
 rw [hp]
 exact hK _ _ h
end
section
variable {α : Type} {d : Kind α} {e : TypeId} {base : Nat} {w w' : World} {v : Value} {xs : List α}
theorem Own.parts (h : d.Own e base w v xs) : (v = .slice none 0 0 ∧ xs = []) ∨ ∃ g cap cells rest, v = .slice (some ⟨g, 0, none⟩) xs.length cap ∧ base ≤ g ∧ xs.length ≤ cap ∧ cap ≤ 9223372036854775807 ∧
  Row w g e (cells ++ rest) ∧ cells.length = xs.length * d.sz ∧ rest.length = (cap - xs.length) * d.sz ∧ Reps (d.At (fun k => k < w.heap.size ∧ some k ≠ some g) w) d.sz xs cells := by
 obtain ⟨cells, ho, hr⟩ := h
 rcases ho.2 with ⟨rfl, h0⟩ | ⟨g, cap, cur, rfl, hb, hg, hnc, hcm, hcs, htake⟩
 ·exact Or.inl ⟨rfl, List.eq_nil_of_length_eq_zero h0⟩
 ·refine Or.inr ⟨g, cap, cells, cur.toList.drop (xs.length * d.sz), rfl, hb, hnc, by simpa [maxLen] using hcm, ⟨?_⟩, hr.1, ?_, hr⟩
  ·rw [← htake, List.take_append_drop]; simpa using hg
  ·rw [List.length_drop, Array.length_toList, hcs, ← Nat.sub_mul]
theorem Own.close {g cap : Nat} {cells rest : List Value} (hrow : Row w g e (cells ++ rest)) (hb : base ≤ g) (hn : xs.length ≤ cap) (hc : cap ≤ 9223372036854775807) (hl : cells.length + rest.length = cap * d.sz)
  (hr : Reps (d.At (fun k => k < w.heap.size ∧ some k ≠ some g) w) d.sz xs cells) : d.Own e base w (.slice (some ⟨g, 0, none⟩) xs.length cap) xs := by
 refine ⟨cells, ⟨hr.1, Or.inr ⟨g, cap, _, rfl, hb, hrow.out, hn, by simpa [maxLen] using hc, by simpa using hl, ?_⟩⟩, hr⟩
 rw [← hr.1]; simp
end
theorem Sl.parts {α : Type} {d : Kind α} {S : Nat → Prop} {w : World} {v : Value} {xs : List α} (h : d.Sl S w v xs) : (v = .slice none 0 0 ∧ xs = []) ∨ ∃ g off cap cells, v = .slice (some ⟨g, off, none⟩) xs.length cap ∧ xs.length ≤ cap ∧ cap ≤ 9223372036854775807 ∧
  Reps (d.At S w) d.sz xs cells ∧ ∀ j u, cells[j]? = some u → w.cell? ((⟨g, off, none⟩ : Addr).add j) = some u := by
 obtain ⟨a, cap, cells, rfl, h2, h3, h4, h5, h6⟩ := h
 cases a with
 | none =>
  have := h5 rfl
  subst this
  have hx : xs = [] := List.eq_nil_of_length_eq_zero (by omega)
  subst hx
  exact Or.inl ⟨rfl, rfl⟩
 | some ad =>
  obtain ⟨g, off, rfl, _, e3⟩ := h6 _ rfl
  exact Or.inr ⟨g, off, cap, cells, rfl, h2, h3, h4, fun j u hu => by rw [Addr.add_lit]; exact e3 j u hu⟩
theorem infoEn : (Tryz.prog.info? 188).map (fun i => (i.zero, i.size, i.bytes)) = some (some (.agg #[.string ⟨#[]⟩, .int .i64 0]), 2, 24) := by kernel_rfl
theorem cloneE_any (l : List Ent) (v : Value) (w : World) (h : entK.Sl (Old w) w v l) (hl : l.length ≤ 2000) :
  Calls Tryz.prog 299 #[v] w (Made entK 188 w l) := by
 rcases Sl.parts h with ⟨rfl, rfl⟩ | ⟨g, off, cap, cells, rfl, hcap, hcm, hr, hcells⟩
 ·have hz := fun a n c n' c' (W : World) => Lib.run_eql_slice_nil (P := Tryz.prog) W 120 188 a n c n' c' Tryz.underlying120
  go_enter Tryz.func299, Tryz.ntmps299
  go_wp2
  go_ret
  exact ⟨_, rfl, Own.nil _ _ _ _, Below.refl _ _⟩
 ·have hz := fun a n c n' c' (W : World) => Lib.run_eql_slice_nil (P := Tryz.prog) W 120 188 a n c n' c' Tryz.underlying120
  have hr' : Reps (entK.At (fun k => k < (w.alloc (.cells #[] 188)).heap.size ∧ some k ≠ (Value.slice (some ⟨w.heap.size, 0, none⟩) 0 0).ownBlock) (w.alloc (.cells #[] 188))) entK.sz l cells :=
   hr.imp fun x cs hx => entK.mono (fun k hk => ⟨by have : k < w.heap.size := hk; simp; omega, by have : k < w.heap.size := hk; simp [Value.ownBlock]; omega⟩) (entK.keep (Agree.below (balloc w _)) hx)
  have hn' : ∀ j u, cells[j]? = some u → (w.alloc (.cells #[] 188)).cell? ((⟨g, off, none⟩ : Addr).add j) = some u := fun j u hu =>
   ((balloc w _).cell (World.block_lt_of_cell? w _ (hcells j u hu))).trans (hcells j u hu)
  have HR := Lib.hid hr'
  have HC := Lib.hid hn'
  have hbs : w.heap.size ≤ (w.alloc (.cells #[] 188)).heap.size := by simp
  have hll : (([] : List Ent).length + l.length) * 24 ≤ 140737488355328 := by simp only [List.length_nil]; omega
  have hO := Own.lit0 entK 188 w.heap.size w (Nat.le_refl _)
  have HO := Lib.hid hO
  have HBS := Lib.hid hbs
  have HLL := Lib.hid hll
  clear h hr hcells hr' hn' hbs hll hO
  go_enter Tryz.func299, Tryz.ntmps299
  go_wp2_with (at_builtin; refine wp_append entK w.heap.size rfl _ _ 120 188 _ 24 rfl Tryz.underlying120 infoEn rfl (by decide) (by decide) _ [] rfl HO.out _ _ l cells rfl HR.out HC.out HBS.out HLL.out ?_; intro v1 w1 hown hg hat)
  have HB := Lib.hid ((balloc w (.cells #[] 188)).grown hg HBS.out (fun k hk => (Own.row HO.out k hk).1))
  have HO1 := Lib.hid hown
  clear hown hg hat
  go_wp2
  go_ret
  exact ⟨_, rfl, HO1.out, HB.out⟩
theorem put_room (P D R Y : List Value) (hR : Y.length ≤ R.length) : splice (splice (P ++ (D ++ R)) (P.length + Y.length) D) P.length Y = (P ++ (Y ++ D)) ++ R.drop Y.length := by
 have h1 : P ++ (D ++ R) = (P ++ (D ++ R).take Y.length) ++ (D ++ R).drop Y.length := by rw [List.append_assoc, List.take_append_drop]
 have h2 : P.length + Y.length = (P ++ (D ++ R).take Y.length).length := by
  rw [List.length_append, List.length_take, Nat.min_eq_left]
  rw [List.length_append]; omega
 rw [h2]
 conv => lhs; arg 1; arg 1; rw [h1]
 rw [splice_at, List.append_assoc, splice_at]
 have hl : (List.take Y.length (D ++ R)).length = Y.length := by rw [List.length_take, List.length_append, Nat.min_eq_left]; omega
 have e1 : (List.take Y.length (D ++ R) ++ (D ++ List.drop D.length (List.drop Y.length (D ++ R)))).drop Y.length = D ++ List.drop D.length (List.drop Y.length (D ++ R)) := by
  conv => lhs; arg 1; rw [← hl]
  rw [List.drop_left]
 have e2 : List.drop D.length (List.drop Y.length (D ++ R)) = R.drop Y.length := by
  rw [List.drop_drop, Nat.add_comm, ← List.drop_drop, List.drop_left]
 rw [e1, e2]
 simp only [List.append_assoc]
theorem insert0_any (v : Value) (l : List Ent) (i : Int) (w : World) (base : Nat) (h : entK.Own 188 base w v l) (h0 : 0 ≤ i) (hi : i ≤ l.length) (hl : l.length ≤ 2000) :
  Calls Tryz.prog 302 #[v, .int .i64 i, .slice none 0 0] w fun e w' => e = .returned v ∧ w = w' := by
 rcases Own.parts h with ⟨rfl, rfl⟩ | ⟨g, cap, cells, rest, rfl, _, hc, hcm, _⟩
 ·have hi0 : i = 0 := by simp at hi; omega
  subst hi0
  clear h h0 hi hl
  go_enter Tryz.func302, Tryz.ntmps302
  go_wp2
  go_ret
  exact ⟨rfl, rfl⟩
 ·generalize l.length = n at *
  have hic : i ≤ (cap : Int) := by omega
  clear h
  go_enter Tryz.func302, Tryz.ntmps302
  go_wp2
  all_goals
   go_ret
   exact ⟨rfl, rfl⟩
def Put1 (w : World) (base : Nat) (v : Value) (r : List Ent) (e : Ending) (w' : World) : Prop := ∃ u, e = .returned u ∧ entK.Own 188 base w' u r ∧ w.grownBy w' v.ownBlock
theorem insert1_end (v : Value) (l : List Ent) (y : Ent) (w : World) (base : Nat) (h : entK.Own 188 base w v l) (vb : Nat) (hbox : Row w vb 188 [.string y.name, .int .i64 y.ino])
  (hyn : y.name.size ≤ maxLen) (hbase : base ≤ w.heap.size) (hl : l.length ≤ 2000) :
  Calls Tryz.prog 302 #[v, .int .i64 (l.length : Int), .slice (some ⟨vb, 0, none⟩) 1 1] w (Put1 w base v (l.take l.length ++ [y] ++ l.drop l.length)) := by
 rw [List.take_length, List.drop_length, List.append_nil]
 have HN := Lib.hid (fun j u (hu : ([.string y.name, .int .i64 y.ino] : List Value)[j]? = some u) => hbox.cellA 0 j u (by rw [Nat.zero_add]; exact hu))
 have HR := Lib.hid (Reps.one (R := entK.At (fun k => k < w.heap.size ∧ some k ≠ v.ownBlock) w) (size := entK.sz) (p := y) (c := [.string y.name, .int .i64 y.ino]) ⟨rfl, hyn⟩ rfl)
 have HB := Lib.hid hbase
 have HLL := Lib.hid (show (l.length + [y].length) * 24 ≤ 140737488355328 by simp; omega)
 have HO := Lib.hid h
 rcases Own.parts h with ⟨rfl, rfl⟩ | ⟨g, cap, cells, rest, rfl, _, hc, hcm, _⟩
 ·clear h hbox hyn hbase hl
  go_enter Tryz.func302, Tryz.ntmps302
  go_wp2_with (at_builtin; refine wp_append entK base rfl _ _ 120 188 _ 24 rfl Tryz.underlying120 infoEn rfl (by decide) (by decide) _ [] rfl HO.out _ _ [y] [.string y.name, .int .i64 y.ino] rfl HR.out HN.out HB.out HLL.out ?_; intro v1 w1 hown hg hat)
  have HG := Lib.hid hg
  have HO1 := Lib.hid hown
  clear hown hg hat
  go_wp2
  go_ret
  exact ⟨_, rfl, HO1.out, HG.out⟩
 ·have hln : (l.length : Int) ≤ (cap : Int) := by omega
  clear h hbox hyn hbase
  clear hc hcm
  go_enter Tryz.func302, Tryz.ntmps302
  go_wp2_with (at_builtin; refine wp_append entK base rfl _ _ 120 188 _ 24 rfl Tryz.underlying120 infoEn rfl (by decide) (by decide) _ l rfl HO.out _ _ [y] [.string y.name, .int .i64 y.ino] rfl HR.out HN.out HB.out HLL.out ?_; intro v1 w1 hown hg hat; have HG := Lib.hid hg; have HO1 := Lib.hid hown; clear hown hg hat)
  all_goals
   go_wp2
   go_ret
   exact ⟨_, rfl, HO1.out, HG.out⟩
theorem szE : (Tryz.prog.info? 188).map (·.size) = some 2 := by kernel_rfl
theorem Row.shape {w : World} {g e cur} (h : Row w g e cur) : w.shape? g = some (e, cur.length) := by simp [World.shape?, h.out]
theorem Row.frozen {w : World} {g e cur} (h : Row w g e cur) (o : Nat) : w.frozen? ⟨g, o, none⟩ = false := by simp [World.frozen?, h.out]
theorem parts_at {α : Type} {R : α → List Value → Prop} {l : List α} {cells : List Value} (h : Reps R 2 l cells) (k : Nat) (hk : k ≤ l.length) :
  ∃ A D, cells = A ++ D ∧ A.length = k * 2 ∧ D.length = (l.length - k) * 2 ∧ Reps R 2 (l.take k) A ∧ Reps R 2 (l.drop k) D := by
 have hl := h.1
 refine ⟨cells.take (k * 2), cells.drop (k * 2), (List.take_append_drop _ _).symm, by rw [List.length_take]; omega, by rw [List.length_drop]; omega, ?_, ?_⟩
 ·have := Reps.sub h 0 k (by omega)
  simpa using this
 ·have := Reps.sub h k (l.length - k) (by omega)
  rw [List.take_of_length_le (by rw [List.length_drop]; exact Nat.le_refl _), List.take_of_length_le (by rw [List.length_drop]; omega)] at this
  exact this
theorem cells_one {S : Nat → Prop} {w : World} {l : List Ent} {cells : List Value} (h : Reps (entK.At S w) 2 l cells) : ∀ v ∈ cells, v.oneCell' = true := by
 intro u hu
 obtain ⟨j, hj⟩ := List.mem_iff_getElem?.1 hu
 obtain ⟨hjl, _⟩ := List.getElem?_eq_some_iff.1 hj
 rw [h.1] at hjl
 have hq : j / 2 < l.length := by omega
 refine entK.one (h.2 _ _ (List.getElem?_eq_getElem hq)) u ?_
 refine List.mem_iff_getElem?.2 ⟨j % 2, ?_⟩
 rw [List.getElem?_take, if_pos (Nat.mod_lt _ (by decide)), List.getElem?_drop, show j / 2 * 2 + j % 2 = j by omega]
 exact hj
theorem room_done {w w2 : World} {base g cap k n : Nat} {l : List Ent} {y : Ent} {A D R2 : List Value} (hgb : base ≤ g) (hc : n < cap) (hcm : cap ≤ 9223372036854775807)
  (h2 : Row w2 g 188 (A ++ ([.string y.name, .int .i64 y.ino] ++ D) ++ R2)) (hR2 : R2.length = (cap - (l.length + 1)) * 2) (hAD : A.length = k * 2 ∧ D.length = (l.length - k) * 2) (hn : l.length = n) (hk : k < l.length) (hyn : y.name.size ≤ maxLen)
  (hr : Reps (entK.At (fun k => k < w.heap.size ∧ some k ≠ some g) w) 2 (l.take k) A ∧ Reps (entK.At (fun k => k < w.heap.size ∧ some k ≠ some g) w) 2 (l.drop k) D) (hg : w.grownBy w2 (some g)) :
  Put1 w base (.slice (some ⟨g, 0, none⟩) n cap) (l.take k ++ y :: l.drop k) (.returned (.slice (some ⟨g, 0, none⟩) (n + 1) cap)) w2 := by
 have hlen : (l.take k ++ y :: l.drop k).length = n + 1 := by simp; omega
 refine ⟨_, rfl, ?_, hg⟩
 have up : ∀ (l : List Ent) (cells : List Value), Reps (entK.At (fun k => k < w.heap.size ∧ some k ≠ some g) w) 2 l cells → Reps (entK.At (fun k => k < w2.heap.size ∧ some k ≠ some g) w2) 2 l cells := fun l cells h =>
  h.imp fun p c hp => entK.mono (fun k hk => ⟨Nat.lt_of_lt_of_le hk.1 hg.size, hk.2⟩) (entK.keep (Agree.grown hg) hp)
 have hone : Reps (entK.At (fun k => k < w2.heap.size ∧ some k ≠ some g) w2) 2 [y] [.string y.name, .int .i64 y.ino] := Reps.one (R := entK.At _ w2) ⟨rfl, hyn⟩ rfl
 have hall := (up _ _ hr.1).append (hone.append (up _ _ hr.2))
 have hO := Own.close (d := entK) (xs := l.take k ++ ([y] ++ l.drop k)) (cap := cap) h2 hgb (by simp; omega) hcm (by rw [hR2, List.length_append, List.length_append, hAD.1, hAD.2]; show _ = cap * 2; simp; omega) hall
 have e : (l.take k ++ ([y] ++ l.drop k)) = l.take k ++ y :: l.drop k := by simp
 rw [e, hlen] at hO
 exact hO
set_option maxRecDepth 100000 in
set_option maxHeartbeats 1000000 in
theorem insert1_room (v : Value) (l : List Ent) (y : Ent) (k : Nat) (w : World) (base : Nat) (vb : Nat) (hbox : Row w vb 188 [.string y.name, .int .i64 y.ino]) (hvb : vb < base)
  (hyn : y.name.size ≤ maxLen) (hbase : base ≤ w.heap.size) (hl : l.length ≤ 2000) (hk : k < l.length)
  (g cap : Nat) (cells rest : List Value) (hgb : base ≤ g) (hc : l.length < cap) (hcm : cap ≤ 9223372036854775807) (hrow : Row w g 188 (cells ++ rest)) (hrl : rest.length = (cap - l.length) * 2)
  (hr : Reps (entK.At (fun k => k < w.heap.size ∧ some k ≠ some g) w) 2 l cells) :
  Calls Tryz.prog 302 #[.slice (some ⟨g, 0, none⟩) l.length cap, .int .i64 (k : Int), .slice (some ⟨vb, 0, none⟩) 1 1] w (Put1 w base (.slice (some ⟨g, 0, none⟩) l.length cap) (l.take k ++ y :: l.drop k)) := by
 obtain ⟨A, D, rfl, hA, hD, hRA, hRD⟩ := parts_at hr k (Nat.le_of_lt hk)
 have hov : ∀ la ca lb cb o1, (callFunc 303 #[.slice (some ⟨vb, 0, none⟩) la ca, .slice (some ⟨g, o1, none⟩) lb cb]).run Tryz.prog w = .ok (.value (.bool false)) w := by
  intro la ca lb cb o1
  rw [run_callFunc_extern Tryz.func303 (by kernel_rfl) (by kernel_rfl) (by kernel_rfl) (e := Extern.SlicesOverlaps.overlaps #[120, 120] #[4]) (by kernel_rfl)]
  rw [Lib.run_overlaps_apart (P := Tryz.prog) w 120 4 188 Tryz.underlying120 2 (by intro w; go_simp) ⟨vb, 0, none⟩ ⟨g, o1, none⟩ la ca lb cb (by show vb ≠ g; omega) _ _ _ _ hbox.shape hrow.shape (by rw [List.length_append, List.length_append]; omega) (hbox.frozen 0) (hbox.frozen _)]
  rfl
 obtain ⟨R1, R2, rfl, hR1, hR2⟩ : ∃ R1 R2, rest = R1 ++ R2 ∧ R1.length = 2 ∧ R2.length = (cap - (l.length + 1)) * 2 := ⟨rest.take 2, rest.drop 2, (List.take_append_drop _ _).symm, by rw [List.length_take]; omega, by rw [List.length_drop]; omega⟩
 have hput := put_room A D (R1 ++ R2) [.string y.name, .int .i64 y.ino] (by simp; omega)
 rw [show (R1 ++ R2).drop ([.string y.name, .int .i64 y.ino] : List Value).length = R2 from by rw [show ([.string y.name, .int .i64 y.ino] : List Value).length = R1.length from hR1.symm]; exact List.drop_left] at hput
 have hone := cells_one hr
 have HROW := Lib.hid hrow
 have HPUT := Lib.hid hput
 have HD1 := Lib.hid (fun v hv => hone v (List.mem_append_right A hv))
 have HBOX := Lib.hid hbox
 have HSRC := Lib.hid (show ∀ j u, D[j]? = some u → w.cell? ((⟨g, k * 2, none⟩ : Addr).add j) = some u from fun j u hu => hrow.cellA _ _ _ (by
  rw [← hA, List.append_assoc, List.getElem?_append_right (by omega), Nat.add_sub_cancel_left]
  rw [List.getElem?_append_left (List.getElem?_eq_some_iff.1 hu).1]; exact hu))
 obtain ⟨n, hn⟩ : ∃ n, l.length = n := ⟨_, rfl⟩
 rw [hn] at hk hl hD hc hR2 ⊢
 have HLN := Lib.hid hn
 have HRES := Lib.hid (And.intro hRA hRD)
 have HR2 := Lib.hid (And.intro hR2 (And.intro hR1 (And.intro hA hD)))
 clear hn hput hbox hrow hr hone hRA hRD hrl hR2 hA hD hR1
 have hw1 : IntKind.i64.wrap ((k : Int) + 1) = (k : Int) + 1 := by rw [IntKind.wrap_i64]; omega
 have hw2 : IntKind.i64.wrap ((n : Int) + 1) = (n : Int) + 1 := by rw [IntKind.wrap_i64]; omega
 have hne : ¬ ((k : Int) = (n : Int)) := by omega
 go_enter Tryz.func302, Tryz.ntmps302
 have hg0 : (0 : Int) ≤ (k : Int) + 1 := by omega
 have hkn1 : (k : Int) ≤ (n : Int) + 1 := by omega
 have hkn : k ≤ n := by omega
 have hck : ¬ (cap = k + 1) := by omega
 have hck0 : ¬ (cap = k) := by omega
 have htn : ((k : Int) + 1).toNat = k + 1 := by omega
 go_wp2_with fail
 go_region_law (refine step_copy_row rfl _ _ 120 120 rfl 188 2 Tryz.underlying120 szE g ((k + 1) * 2) (n - k) (cap - (k + 1)) ⟨g, k * 2, none⟩ (n + 1 - k) (cap - k) (by simp [Act.eval, Act.put]) (by simp [Act.eval, Act.put]) (A ++ D ++ (R1 ++ R2)) 188 HROW.out.drew D ?hn HSRC.out ?hf HD1.out ?_; (case hn => rw [HR2.out.2.2.2, show Nat.min (n + 1 - k) (n - k) = n - k from Nat.min_eq_right (by omega)]); (case hf => simp [HR2.out.2.2.2, HR2.out.2.2.1, HR2.out.2.1]; omega); intro w1 HW1 HG1)
 have HB1 := Lib.hid (show Row w1 vb 188 [.string y.name, .int .i64 y.ino] from (HBOX.out.drew).kept HG1.out (by simp; omega))
 have HG1' := Lib.hid (grownBy_trans' (grownBy_drew w (some g)) HG1.out)
 clear HG1
 go_wp2_with (show wpList _ _ _ ({ dst := _, op := .call { callee := .builtin .copy, args := _, argTypes := _ }, type := _, pos := _, after := _, guard := _ } :: _) _ _; refine wpList_copy_row rfl _ _ 120 120 rfl 188 2 Tryz.underlying120 szE g (k * 2) (n + 1 - k) (cap - k) ⟨vb, 0, none⟩ 1 1 rfl rfl _ 188 HW1.out [.string y.name, .int .i64 y.ino] ?hn (fun j u hu => HB1.out.cellA 0 j u (by rw [Nat.zero_add]; exact hu)) ?hf ?ho ?_; (case hn => rw [show Nat.min 1 (n + 1 - k) = 1 from Nat.min_eq_left (by omega)]; rfl); (case hf => rw [length_splice]; (simp [HR2.out.2.2.2, HR2.out.2.2.1, HR2.out.2.1]; omega); (simp [HR2.out.2.2.2, HR2.out.2.2.1, HR2.out.2.1]; omega)); (case ho => simp [Value.oneCell']); intro w2 HW2 HG2)
 go_wp2
 go_ret
 have h2 := HW2.out
 have h3 := HPUT.out
 rw [HR2.out.2.2.1, show k * 2 + ([.string y.name, .int .i64 y.ino] : List Value).length = (k + 1) * 2 from by simp; omega, ← List.append_assoc] at h3
 rw [h3] at h2
 exact room_done hgb (by omega) hcm h2 (by rw [HR2.out.1, HLN.out]) ⟨HR2.out.2.2.1, by rw [HLN.out]; exact HR2.out.2.2.2⟩ (by rw [HLN.out]) (by rw [HLN.out]; exact hk) hyn HRES.out (grownBy_trans' HG1'.out HG2.out)
theorem splice2 {α : Type} (A Y D Z : List α) : splice (splice (A ++ Z) A.length Y) (A.length + Y.length) D = (A ++ (Y ++ D)) ++ (Z.drop Y.length).drop D.length := by
 rw [splice_at, show A ++ (Y ++ Z.drop Y.length) = (A ++ Y) ++ Z.drop Y.length by simp, ← List.length_append, splice_at]
 simp only [List.append_assoc]
theorem grow_done {w w2 : World} {base g g0 cap c k : Nat} {l : List Ent} {y : Ent} {A D R2 : List Value} (hgb : base ≤ w.heap.size) (hgw : w.heap.size ≤ g) (hc : l.length + 1 ≤ cap) (hcm : cap ≤ 9223372036854775807)
  (h2 : Row w2 g 188 (A ++ ([.string y.name, .int .i64 y.ino] ++ D) ++ R2)) (hR2 : R2.length = (cap - (l.length + 1)) * 2) (hAD : A.length = k * 2 ∧ D.length = (l.length - k) * 2) (hk : k < l.length) (hyn : y.name.size ≤ maxLen)
  (hr : Reps (entK.At (fun k => k < w.heap.size ∧ some k ≠ some g0) w) 2 (l.take k) A ∧ Reps (entK.At (fun k => k < w.heap.size ∧ some k ≠ some g0) w) 2 (l.drop k) D) (hg : w.grownBy w2 (some g0)) :
  Put1 w base (.slice (some ⟨g0, 0, none⟩) l.length c) (l.take k ++ y :: l.drop k) (.returned (.slice (some ⟨g, 0, none⟩) (l.length + 1) cap)) w2 := by
 have hlen : (l.take k ++ y :: l.drop k).length = l.length + 1 := by simp; omega
 refine ⟨_, rfl, ?_, hg⟩
 have up : ∀ (l : List Ent) (cells : List Value), Reps (entK.At (fun k => k < w.heap.size ∧ some k ≠ some g0) w) 2 l cells → Reps (entK.At (fun k => k < w2.heap.size ∧ some k ≠ some g) w2) 2 l cells := fun l cells h =>
  h.imp fun p c hp => entK.mono (fun k hk => ⟨Nat.lt_of_lt_of_le hk.1 hg.size, by simp; omega⟩) (entK.keep (Agree.grown hg) hp)
 have hone : Reps (entK.At (fun k => k < w2.heap.size ∧ some k ≠ some g) w2) 2 [y] [.string y.name, .int .i64 y.ino] := Reps.one (R := entK.At _ w2) ⟨rfl, hyn⟩ rfl
 have hall := (up _ _ hr.1).append (hone.append (up _ _ hr.2))
 have hO := Own.close (d := entK) (xs := l.take k ++ ([y] ++ l.drop k)) (cap := cap) h2 (Nat.le_trans hgb hgw) (by simp; omega) hcm (by rw [hR2, List.length_append, List.length_append, hAD.1, hAD.2]; show _ = cap * 2; simp; omega) hall
 have e : (l.take k ++ ([y] ++ l.drop k)) = l.take k ++ y :: l.drop k := by simp
 rw [e, hlen] at hO
 exact hO
set_option maxRecDepth 100000 in
set_option maxHeartbeats 1000000 in
theorem insert1_grow (l : List Ent) (y : Ent) (k : Nat) (w : World) (base : Nat) (vb : Nat) (hbox : Row w vb 188 [.string y.name, .int .i64 y.ino])
  (hyn : y.name.size ≤ maxLen) (hbase : base ≤ w.heap.size) (hl : l.length ≤ 2000) (hk : k < l.length)
  (g : Nat) (cells : List Value) (hgb : base ≤ g) (hrow : Row w g 188 cells)
  (hr : Reps (entK.At (fun k => k < w.heap.size ∧ some k ≠ some g) w) 2 l cells) :
  Calls Tryz.prog 302 #[.slice (some ⟨g, 0, none⟩) l.length l.length, .int .i64 (k : Int), .slice (some ⟨vb, 0, none⟩) 1 1] w (Put1 w base (.slice (some ⟨g, 0, none⟩) l.length l.length) (l.take k ++ y :: l.drop k)) := by
 obtain ⟨A, D, rfl, hA, hD, hRA, hRD⟩ := parts_at hr k (Nat.le_of_lt hk)
 have hone := cells_one hr
 have HROW := Lib.hid hrow
 have HD1 := Lib.hid (fun v hv => hone v (List.mem_append_right A hv))
 have HBOX := Lib.hid hbox
 have HSRC := Lib.hid (show ∀ j u, D[j]? = some u → w.cell? ((⟨g, k * 2, none⟩ : Addr).add j) = some u from fun j u hu => hrow.cellA _ _ _ (by
  rw [← hA, List.getElem?_append_right (by omega), Nat.add_sub_cancel_left]; exact hu))
 have HOLD := Lib.hid (show ∀ j u, A[j]? = some u → w.cell? ((⟨g, 0, none⟩ : Addr).add j) = some u from fun j u hu => hrow.cellA _ _ _ (by
  rw [Nat.zero_add, List.getElem?_append_left (List.getElem?_eq_some_iff.1 hu).1]; exact hu))
 obtain ⟨n, hn⟩ : ∃ n, l.length = n := ⟨_, rfl⟩
 rw [hn] at hk hl hD ⊢
 have HLN := Lib.hid hn
 have HRES := Lib.hid (And.intro hRA hRD)
 have HR2 := Lib.hid (And.intro hA hD)
 have HG0 := Lib.hid hrow.lt
 have HY := Lib.hid (And.intro hyn (And.intro hbase hl))
 clear hn hbox hrow hr hone hRA hRD hA hD hyn hbase hl hgb
 have hw1 : IntKind.i64.wrap ((k : Int) + 1) = (k : Int) + 1 := by have := HY.out.2.2; rw [IntKind.wrap_i64]; omega
 have hw2 : IntKind.i64.wrap ((n : Int) + 1) = (n : Int) + 1 := by have := HY.out.2.2; rw [IntKind.wrap_i64]; omega
 have hw3 : IntKind.i64.wrap ((n : Int) + 1 - (k : Int)) = ((n + 1 - k : Nat) : Int) := by have := HY.out.2.2; rw [IntKind.wrap_i64]; omega
 have hne : ¬ ((k : Int) = (n : Int)) := by omega
 have hlt : ((n : Int) < (n : Int) + 1) := by omega
 have hg0 : (0 : Int) ≤ (k : Int) + 1 := by omega
 have hkn1 : (k : Int) ≤ (n : Int) + 1 := by omega
 have hkn : k ≤ n := by omega
 have hck0 : ¬ (n = k) := by omega
 have htn : ((k : Int) + 1).toNat = k + 1 := by omega
 go_enter Tryz.func302, Tryz.ntmps302
 go_wp2_with (first | (show wpList _ _ _ ({ dst := _, op := .call { callee := .builtin .append, args := _, argTypes := _ }, type := _, pos := _, after := _, guard := _ } :: _) _ _; refine wpList_append_zeros_row rfl _ _ 120 3 188 rfl (.agg #[.string ⟨#[]⟩, .int .i64 0]) 2 24 .i64 Tryz.underlying120 Tryz.underlying3 infoEn rfl (by decide) (by decide) ⟨g, 0, none⟩ k n (n + 1 - k) .i64 rfl rfl A HR2.out.1 HOLD.out (by omega) (by omega) (by have := HY.out.2.2; omega) (n + 1) (by omega) ?_; intro w1 g1 cap1 Z1 HW1 HZ1 HG1 hg1 hcap1 hcm1; have hc1 : ¬ (cap1 = k) := (by omega); have hc2 : ¬ (cap1 = k + 1) := (by omega); have HB1 := Lib.hid (show Row w1 vb 188 [.string y.name, .int .i64 y.ino] from (HBOX.out).kept HG1.out (by simp)); have HROW1 := Lib.hid (HROW.out.kept HG1.out (by simp)); have HLT := Lib.hid (And.intro HG0.out (And.intro hg1 HBOX.out.lt))) | (show wpList _ _ _ ({ dst := _, op := .call { callee := .builtin .copy, args := _, argTypes := _ }, type := _, pos := _, after := _, guard := _ } :: _) _ _; refine wpList_copy_row rfl _ _ 120 120 rfl 188 2 Tryz.underlying120 szE g1 (k * 2) (n + 1 - k) (cap1 - k) ⟨vb, 0, none⟩ 1 1 rfl rfl _ 188 HW1.out [.string y.name, .int .i64 y.ino] ?hn (fun j u hu => HB1.out.cellA 0 j u (by rw [Nat.zero_add]; exact hu)) ?hf ?ho ?_; (case hn => rw [show Nat.min 1 (n + 1 - k) = 1 from Nat.min_eq_left (by omega)]; rfl); (case hf => rw [List.length_append, HR2.out.1, HZ1.out]; simp; omega); (case ho => simp [Value.oneCell']); intro w2 HW2 HG2))
 have HROW2 := Lib.hid (HROW1.out.kept HG2.out (by simp; have := HLT.out; omega))
 have HSRC2 := Lib.hid (show ∀ j u, D[j]? = some u → w2.cell? ((⟨g, k * 2, none⟩ : Addr).add j) = some u from fun j u hu => HROW2.out.cellA _ _ _ (by
  rw [← HR2.out.1, List.getElem?_append_right (by omega), Nat.add_sub_cancel_left]; exact hu))
 go_wp2
 go_region_law (refine step_copy_row rfl _ _ 120 120 rfl 188 2 Tryz.underlying120 szE g1 ((k + 1) * 2) (n - k) (cap1 - (k + 1)) ⟨g, k * 2, none⟩ (n - k) (n - k) (by simp [Act.eval, Act.put]) (by simp [Act.eval, Act.put]) _ 188 HW2.out.drew D ?hn HSRC2.out ?hf HD1.out ?_; (case hn => rw [HR2.out.2, show Nat.min (n - k) (n - k) = n - k from Nat.min_self _]); (case hf => rw [length_splice]; (rw [List.length_append, HR2.out.1, HR2.out.2, HZ1.out]; omega); (rw [List.length_append, HR2.out.1, HZ1.out]; simp; omega)); intro w3 HW3 HG3)
 go_wp2
 go_ret
 have h3 := HW3.out
 rw [← HR2.out.1, show (k + 1) * 2 = A.length + ([.string y.name, .int .i64 y.ino] : List Value).length by simp [HR2.out.1]; omega, splice2] at h3
 have hgg : w.grownBy w3 (some g) := grownBy_newrow (grownBy_newrow ⟨HG1.out.os, HG1.out.tape, HG1.out.output, HG1.out.size, fun i hi hr => HG1.out.block i hi (by simp)⟩ HLT.out.2.1 HG2.out) HLT.out.2.1 (grownBy_trans' (grownBy_drew w2 _) HG3.out)
 have hd := grow_done (base := base) (c := l.length) HY.out.2.1 HLT.out.2.1 (by rw [HLN.out]; exact hcap1) hcm1 h3 (by rw [List.length_drop, List.length_drop, HZ1.out, HR2.out.2, HLN.out]; simp; omega) ⟨HR2.out.1, by rw [HLN.out]; exact HR2.out.2⟩ (by rw [HLN.out]; exact hk) HY.out.1 HRES.out hgg
 rw [HLN.out] at hd
 exact hd
theorem insert1_any (v : Value) (l : List Ent) (y : Ent) (k : Nat) (w : World) (base : Nat) (h : entK.Own 188 base w v l) (vb : Nat) (hbox : Row w vb 188 [Value.string y.name, Value.int .i64 y.ino]) (hvb : vb < base)
  (hyn : y.name.size ≤ maxLen) (hbase : base ≤ w.heap.size) (hl : l.length ≤ 2000) (hk : k ≤ l.length) :
  Calls Tryz.prog 302 #[v, .int .i64 (k : Int), .slice (some ⟨vb, 0, none⟩) 1 1] w (Put1 w base v (l.take k ++ y :: l.drop k)) := by
 rcases Nat.lt_or_ge k l.length with hlt | hge
 ·rcases Own.parts h with ⟨_, rfl⟩ | ⟨g, cap, cells, rest, rfl, hgb, hc, hcm, hrow, hcl, hrl, hr⟩
  ·simp at hlt
  ·rcases Nat.lt_or_ge l.length cap with hroom | hfull
   ·exact insert1_room (.slice none 0 0) l y k w base vb hbox hvb hyn hbase hl hlt g cap cells rest hgb hroom hcm hrow hrl hr
   ·obtain rfl : cap = l.length := by omega
    have hr0 : rest = [] := List.eq_nil_of_length_eq_zero (by rw [hrl]; simp)
    subst hr0
    rw [List.append_nil] at hrow
    exact insert1_grow l y k w base vb hbox hyn hbase hl hlt g cells hgb hrow hr
 ·obtain rfl : k = l.length := by omega
  have := insert1_end v l y w base h vb hbox hyn hbase hl
  rw [show l.take l.length ++ [y] ++ l.drop l.length = l.take l.length ++ y :: l.drop l.length by simp] at this
  exact this
theorem put_done {w w2 : World} {base g cap n : Nat} {r : List Ent} {cs R : List Value} (hgb : base ≤ g) (hc : r.length ≤ cap) (hcm : cap ≤ 9223372036854775807)
  (h2 : Row w2 g 188 (cs ++ R)) (hl : cs.length + R.length = cap * 2) (hr : Reps (entK.At (fun k => k < w.heap.size ∧ some k ≠ some g) w) 2 r cs) (hg : w.grownBy w2 (some g)) :
  Put1 w base (.slice (some ⟨g, 0, none⟩) n cap) r (.returned (.slice (some ⟨g, 0, none⟩) r.length cap)) w2 :=
 ⟨_, rfl, Own.close (d := entK) h2 hgb hc hcm hl (hr.imp fun p c hp => entK.mono (fun k hk => ⟨Nat.lt_of_lt_of_le hk.1 hg.size, hk.2⟩) (entK.keep (Agree.grown hg) hp)), hg⟩
set_option maxRecDepth 100000 in
set_option maxHeartbeats 1000000 in
theorem replace_ins (v : Value) (l : List Ent) (y : Ent) (k : Nat) (w : World) (base : Nat) (h : entK.Own 188 base w v l) (vb : Nat) (hbox : Row w vb 188 [Value.string y.name, Value.int .i64 y.ino]) (hvb : vb < base)
  (hyn : y.name.size ≤ maxLen) (hbase : base ≤ w.heap.size) (hl : l.length ≤ 2000) (hk : k ≤ l.length) :
  Calls Tryz.prog 298 #[v, .int .i64 (k : Int), .int .i64 (k : Int), .slice (some ⟨vb, 0, none⟩) 1 1] w (Put1 w base v (l.take k ++ y :: l.drop k)) := by
 have H := Lib.hid (insert1_any v l y k w base h vb hbox hvb hyn hbase hl hk)
 obtain ⟨a, cap, hv, hcap⟩ := Sl.val (Own.sl h)
 subst hv
 clear h hbox
 obtain ⟨n, hn⟩ : ∃ n, l.length = n := ⟨_, rfl⟩
 rw [hn] at hk hl hcap H ⊢
 clear hn
 have hkc : (k : Int) ≤ (cap : Int) := by omega
 go_enter Tryz.func298, Tryz.ntmps298
 go_wp2_with fail
 case inl =>
  obtain rfl : cap = k := by omega
  refine H.out.mono ?_
  rintro e w' ⟨u, rfl, h1, h2⟩
  have H1 := Lib.hid h1
  have H2 := Lib.hid h2
  clear h1 h2
  go_wp2
  go_ret
  exact ⟨_, rfl, H1.out, H2.out⟩
 case inr =>
  refine H.out.mono ?_
  rintro e w' ⟨u, rfl, h1, h2⟩
  have H1 := Lib.hid h1
  have H2 := Lib.hid h2
  clear h1 h2
  go_wp2
  go_ret
  exact ⟨_, rfl, H1.out, H2.out⟩
set_option maxRecDepth 100000 in
set_option maxHeartbeats 1000000 in
theorem replace_none (v : Value) (l : List Ent) (k : Nat) (w : World) (base : Nat) (h : entK.Own 188 base w v l) (hl : l.length ≤ 2000) (hk : k ≤ l.length) :
  Calls Tryz.prog 298 #[v, .int .i64 (k : Int), .int .i64 (k : Int), .slice none 0 0] w fun e w' => e = .returned v ∧ w = w' := by
 have H := Lib.hid (insert0_any v l k w base h (by omega) (by omega) hl)
 obtain ⟨a, cap, hv, hcap⟩ := Sl.val (Own.sl h)
 subst hv
 clear h
 obtain ⟨n, hn⟩ : ∃ n, l.length = n := ⟨_, rfl⟩
 rw [hn] at hk hl hcap H ⊢
 clear hn
 have hkc : (k : Int) ≤ (cap : Int) := by omega
 go_enter Tryz.func298, Tryz.ntmps298
 go_wp2_with fail
 case inl =>
  obtain rfl : cap = k := by omega
  refine H.out.mono ?_
  rintro e w' ⟨rfl, rfl⟩
  go_wp2
  go_ret
  exact ⟨rfl, rfl⟩
 case inr =>
  refine H.out.mono ?_
  rintro e w' ⟨rfl, rfl⟩
  go_wp2
  go_ret
  exact ⟨rfl, rfl⟩
set_option maxRecDepth 100000 in
set_option maxHeartbeats 1000000 in
theorem replace_last (v : Value) (l : List Ent) (y : Ent) (k : Nat) (w : World) (base : Nat) (h : entK.Own 188 base w v l) (vb : Nat) (hbox : Row w vb 188 [Value.string y.name, Value.int .i64 y.ino]) (hvb : vb < base)
  (hyn : y.name.size ≤ maxLen) (hbase : base ≤ w.heap.size) (hl : l.length ≤ 2000) (hk : k + 1 = l.length) :
  Calls Tryz.prog 298 #[v, .int .i64 (k : Int), .int .i64 ((k + 1 : Nat) : Int), .slice (some ⟨vb, 0, none⟩) 1 1] w (Put1 w base v (l.take k ++ y :: l.drop (k + 1))) := by
 rw [show l.take k ++ y :: l.drop (k + 1) = l.take k ++ [y] by rw [hk, List.drop_length]]
 rcases Own.parts h with ⟨_, rfl⟩ | ⟨g, cap, cells, rest, rfl, hgb, hc, hcm, hrow, hcl, hrl, hr⟩
 ·simp at hk
 rw [← hk] at hc hrl ⊢
 obtain ⟨A, X, rfl, hA, hX, hRA, hRX⟩ := parts_at hr k (by omega)
 have htl : (l.take k).length = k := by simp; omega
 have hO := Own.close (d := entK) (base := base) (xs := l.take k) (cells := A) (rest := X ++ rest) (cap := cap) (by rw [← List.append_assoc]; exact hrow) hgb (by omega) hcm (by rw [List.length_append, hA, hX, ← hk]; have : rest.length = (cap - (k + 1)) * 2 := hrl; rw [this]; show _ = cap * 2; omega) hRA
 rw [htl] at hO
 have HO := Lib.hid hO
 have HN := Lib.hid (fun j u (hu : ([Value.string y.name, Value.int .i64 y.ino] : List Value)[j]? = some u) => hbox.cellA 0 j u (by rw [Nat.zero_add]; exact hu))
 have HR := Lib.hid (Reps.one (R := entK.At (fun k => k < w.heap.size ∧ some k ≠ some g) w) (size := entK.sz) (p := y) (c := [Value.string y.name, Value.int .i64 y.ino]) ⟨rfl, hyn⟩ rfl)
 have HB := Lib.hid hbase
 have HLL := Lib.hid (show ((l.take k).length + [y].length) * 24 ≤ 140737488355328 by rw [htl]; simp; omega)
 have hck : ¬ (cap = k) := by omega
 have hck1 : k + 1 ≤ cap := by omega
 have HTL := Lib.hid (show (l.take k ++ [y]).length = k + 1 by rw [List.length_append, htl]; rfl)
 have HK := Lib.hid hk
 clear h hrow hr hRA hRX hO htl hbox hbase hyn hA hX hrl hl hk hcl
 go_enter Tryz.func298, Tryz.ntmps298
 go_wp2_with (show wpList _ _ _ ({ dst := _, op := .call { callee := .builtin .append, args := _, argTypes := _ }, type := _, pos := _, after := _, guard := _ } :: _) _ _; refine wp_append entK base rfl _ _ 120 188 _ 24 rfl Tryz.underlying120 infoEn rfl (by decide) (by decide) _ (l.take k) rfl HO.out _ _ [y] [Value.string y.name, Value.int .i64 y.ino] rfl HR.out HN.out HB.out HLL.out ?_; intro v1 w1 hown hg hat; have HG := Lib.hid hg; have HO1 := Lib.hid hown; obtain ⟨a1, cap1, hv1, hcap1⟩ := Sl.val (Own.sl hown); rw [HTL.out] at hv1 hcap1; subst hv1; clear hown hg hat)
 go_wp2
 go_ret
 exact ⟨_, rfl, HO1.out, HG.out⟩
set_option maxRecDepth 100000 in
set_option maxHeartbeats 1000000 in
theorem replace_droplast (v : Value) (l : List Ent) (k : Nat) (w : World) (base : Nat) (h : entK.Own 188 base w v l) (hbase : base ≤ w.heap.size) (hl : l.length ≤ 2000) (hk : k + 1 = l.length) :
  Calls Tryz.prog 298 #[v, .int .i64 (k : Int), .int .i64 ((k + 1 : Nat) : Int), .slice none 0 0] w (Put1 w base v (l.take k ++ l.drop (k + 1))) := by
 rw [show l.take k ++ l.drop (k + 1) = l.take k by rw [hk, List.drop_length, List.append_nil]]
 rcases Own.parts h with ⟨_, rfl⟩ | ⟨g, cap, cells, rest, rfl, hgb, hc, hcm, hrow, hcl, hrl, hr⟩
 ·simp at hk
 rw [← hk] at hc hrl ⊢
 obtain ⟨A, X, rfl, hA, hX, hRA, hRX⟩ := parts_at hr k (by omega)
 have htl : (l.take k).length = k := by simp; omega
 have hX2 : X.length = 2 := by rw [hX, ← hk]; simp
 have HROW := Lib.hid hrow
 have HR2 := Lib.hid (And.intro hA (And.intro hX2 (show rest.length = (cap - (k + 1)) * 2 from hrl)))
 have HRA := Lib.hid (And.intro htl hRA)
 have hck : ¬ (cap = k) := by omega
 have hck1 : k + 1 ≤ cap := by omega
 have HK := Lib.hid hk
 clear h hrow hr hRA hRX htl hbase hA hX hX2 hrl hl hcl hk
 go_enter Tryz.func298, Tryz.ntmps298
 go_wp2_with (show wpList _ _ _ ({ dst := _, op := .call { callee := .builtin .clear, args := _, argTypes := _ }, type := _, pos := _, after := _, guard := _ } :: _) _ _; refine wpList_clear_row rfl _ 120 rfl rfl 188 (.agg #[.string ⟨#[]⟩, .int .i64 0]) Tryz.underlying120 (by intro w; go_simp) (by simp [Value.cells, Value.oneCell']) g (k * 2) 1 (cap - k) rfl _ 188 HROW.out ?hf ?_; (case hf => simp [HR2.out.1, HR2.out.2.1, Value.cells]); intro w1 C hC HW1 HG1)
 go_wp2
 go_ret
 have h2 := HW1.out
 have hC2 : C.length = 2 := hC
 rw [show A ++ X ++ rest = A ++ (X ++ rest) by simp, ← HR2.out.1, splice_at] at h2
 have hd := put_done (base := base) (n := k + 1) hgb (by rw [HRA.out.1]; omega) hcm h2 (by rw [List.length_append, List.length_drop, List.length_append, HR2.out.1, hC2, HR2.out.2.1, HR2.out.2.2]; omega) HRA.out.2 HG1.out
 rw [HRA.out.1] at hd
 exact hd
set_option maxRecDepth 100000 in
set_option maxHeartbeats 1000000 in
theorem replace_drop (v : Value) (l : List Ent) (k : Nat) (w : World) (base : Nat) (h : entK.Own 188 base w v l) (hbase : base ≤ w.heap.size) (hl : l.length ≤ 2000) (hk : k + 1 < l.length) :
  Calls Tryz.prog 298 #[v, .int .i64 (k : Int), .int .i64 ((k + 1 : Nat) : Int), .slice none 0 0] w (Put1 w base v (l.take k ++ l.drop (k + 1))) := by
 rcases Own.parts h with ⟨_, rfl⟩ | ⟨g, cap, cells, rest, rfl, hgb, hc, hcm, hrow, hcl, hrl, hr⟩
 ·simp at hk
 obtain ⟨A, XD, rfl, hA, hXD, hRA, hRXD⟩ := parts_at hr k (by omega)
 obtain ⟨X, D, rfl, hX, hD, hRX, hRD⟩ := parts_at hRXD 1 (by rw [List.length_drop]; omega)
 rw [List.drop_drop, List.length_drop] at *
 have htl : (l.take k).length = k := by simp; omega
 have htd : (l.drop (k + 1)).length = l.length - (k + 1) := by simp
 have hX2 : X.length = 2 := by rw [hX]
 have hD2 : D.length = (l.length - (k + 1)) * 2 := by rw [hD, Nat.sub_sub]
 have hone := cells_one hr
 have HROW := Lib.hid hrow
 have HD1 := Lib.hid (fun v hv => hone v (List.mem_append_right A (List.mem_append_right X hv)))
 have HRES := Lib.hid (And.intro hRA hRD)
 obtain ⟨n, hn⟩ : ∃ n, l.length = n := ⟨_, rfl⟩
 rw [hn] at hk hl hD2 hc hrl htd ⊢
 have hrl2 : rest.length = (cap - n) * 2 := hrl
 have HR2 := Lib.hid (And.intro hA (And.intro hX2 (And.intro hD2 (And.intro hrl2 (And.intro htl htd)))))
 have HL := Lib.hid (And.intro hl (And.intro hbase hn))
 clear h hrow hr hRA hRD hRX hRXD htl htd hbase hA hX hX2 hXD hD hD2 hrl hrl2 hl hcl hn hone
 have hw1 : IntKind.i64.wrap ((k : Int) + ((n - (k + 1) : Nat) : Int)) = ((n - 1 : Nat) : Int) := by have := HL.out.1; rw [IntKind.wrap_i64]; omega
 have hw0 : IntKind.i64.wrap (k : Int) = (k : Int) := by have := HL.out.1; rw [IntKind.wrap_i64]; omega
 have hkn2 : (k : Int) ≤ ((n - 1 : Nat) : Int) := by omega
 have hne : ¬ ((k : Int) + 1 = (n : Int)) := by omega
 have hkn : (k : Int) + 1 ≤ (n : Int) := by omega
 have hg0 : (0 : Int) ≤ (k : Int) + 1 := by omega
 have hkk : (k : Int) ≤ (k : Int) + 1 := by omega
 have hkl : k + 1 ≤ n := by omega
 have hcn : k + 1 ≤ cap := by omega
 have hck0 : ¬ (cap = k) := by omega
 have hck1 : ¬ (cap = k + 1) := by omega
 have hn1 : n - 1 ≤ cap := by omega
 go_enter Tryz.func298, Tryz.ntmps298
 go_wp2
 go_region
 have HSRC := Lib.hid (show ∀ j u, D[j]? = some u → w.cell? ((⟨g, (k + 1) * 2, none⟩ : Addr).add j) = some u from fun j u hu => HROW.out.cellA _ _ _ (by
  rw [List.append_assoc, show (k + 1) * 2 + j = A.length + (2 + j) by rw [HR2.out.1]; omega, List.getElem?_append_right (by omega), Nat.add_sub_cancel_left, List.append_assoc, ← HR2.out.2.1, List.getElem?_append_right (by omega), Nat.add_sub_cancel_left, List.getElem?_append_left (List.getElem?_eq_some_iff.1 hu).1]; exact hu))
 go_wp2_with (show wpList _ _ _ ({ dst := _, op := .call { callee := .builtin .copy, args := _, argTypes := _ }, type := _, pos := _, after := _, guard := _ } :: _) _ _; refine wpList_copy_none rfl _ _ 120 120 rfl 188 2 Tryz.underlying120 szE _ _ _ _ _ _ rfl rfl (by simp) ?_)
 go_region_law (refine step_copy_row rfl _ _ 120 120 rfl 188 2 Tryz.underlying120 szE g (k * 2) (n - 1 - k) (cap - k) ⟨g, (k + 1) * 2, none⟩ (n - (k + 1)) (cap - (k + 1)) (by simp [Act.eval, Act.put]) (by simp [Act.eval, Act.put]) _ 188 HROW.out.drew.drew D ?hn HSRC.out ?hf HD1.out ?_; (case hn => rw [HR2.out.2.2.1, show Nat.min (n - (k + 1)) (n - 1 - k) = n - (k + 1) from Nat.min_eq_left (by omega)]); (case hf => simp only [List.length_append, HR2.out.1, HR2.out.2.1, HR2.out.2.2.1]; omega); intro w3 HW3 HG3)
 have h3 := HW3.out
 obtain ⟨E, hE⟩ : ∃ E, (X ++ (D ++ rest)).drop D.length = E := ⟨_, rfl⟩
 have hEl : E.length = (cap - (n - 1)) * 2 := by rw [← hE, List.length_drop, List.length_append, List.length_append, HR2.out.2.1, HR2.out.2.2.1, HR2.out.2.2.2.1]; omega
 rw [show A ++ (X ++ D) ++ rest = A ++ (X ++ (D ++ rest)) by simp only [List.append_assoc], ← HR2.out.1, splice_at, hE] at h3
 have HW4 := Lib.hid h3
 have HE := Lib.hid hEl
 clear h3 hE hEl HW3
 go_wp2_with (show wpList _ _ _ ({ dst := _, op := .call { callee := .builtin .clear, args := _, argTypes := _ }, type := _, pos := _, after := _, guard := _ } :: _) _ _; refine wpList_clear_row rfl _ 120 rfl rfl 188 (.agg #[.string ⟨#[]⟩, .int .i64 0]) Tryz.underlying120 (by intro w; go_simp) (by simp [Value.cells, Value.oneCell']) g ((n - 1) * 2) (n - (n - 1)) (cap - (n - 1)) rfl _ 188 HW4.out ?hf ?_; (case hf => simp only [List.length_append, HR2.out.1, HR2.out.2.2.1, HE.out]; simp [Value.cells]; omega); intro w5 C hC HW5 HG5)
 go_wp2
 go_ret
 have h5 := HW5.out
 have hC2 : C.length = 2 := by rw [hC]; simp [Value.cells]; omega
 rw [show A ++ (D ++ E) = (A ++ D) ++ E by simp only [List.append_assoc], show (n - 1) * 2 = (A ++ D).length by rw [List.length_append, HR2.out.1, HR2.out.2.2.1]; omega, splice_at] at h5
 have hrl : (l.take k ++ l.drop (k + 1)).length = n - 1 := by rw [List.length_append, HR2.out.2.2.2.2.1, HR2.out.2.2.2.2.2]; omega
 have hd := put_done (w := w) (base := base) (n := n) hgb (by rw [hrl]; omega) hcm h5 (by rw [List.length_append, List.length_append, List.length_drop, HR2.out.1, HR2.out.2.2.1, hC2, HE.out]; omega) (HRES.out.1.append HRES.out.2) (grownBy_trans' (grownBy_trans' (grownBy_trans' (grownBy_drew w _) (grownBy_drew _ _)) HG3.out) HG5.out)
 rw [hrl] at hd
 exact hd
set_option maxRecDepth 100000 in
set_option maxHeartbeats 1000000 in
theorem replace_put (v : Value) (l : List Ent) (y : Ent) (k : Nat) (w : World) (base : Nat) (h : entK.Own 188 base w v l) (vb : Nat) (hbox : Row w vb 188 [Value.string y.name, Value.int .i64 y.ino]) (hvb : vb < base)
  (hyn : y.name.size ≤ maxLen) (hbase : base ≤ w.heap.size) (hl : l.length ≤ 2000) (hk : k + 1 < l.length) :
  Calls Tryz.prog 298 #[v, .int .i64 (k : Int), .int .i64 ((k + 1 : Nat) : Int), .slice (some ⟨vb, 0, none⟩) 1 1] w (Put1 w base v (l.take k ++ y :: l.drop (k + 1))) := by
 rcases Own.parts h with ⟨_, rfl⟩ | ⟨g, cap, cells, rest, rfl, hgb, hc, hcm, hrow, hcl, hrl, hr⟩
 ·simp at hk
 obtain ⟨A, XD, rfl, hA, hXD, hRA, hRXD⟩ := parts_at hr k (by omega)
 obtain ⟨X, D, rfl, hX, hD, hRX, hRD⟩ := parts_at hRXD 1 (by rw [List.length_drop]; omega)
 rw [List.drop_drop, List.length_drop] at *
 have htl : (l.take k).length = k := by simp; omega
 have htd : (l.drop (k + 1)).length = l.length - (k + 1) := by simp
 have hX2 : X.length = 2 := by rw [hX]
 have hD2 : D.length = (l.length - (k + 1)) * 2 := by rw [hD, Nat.sub_sub]
 have hone := cells_one hr
 have HROW := Lib.hid hrow
 have HD1 := Lib.hid (fun v hv => hone v (List.mem_append_right A (List.mem_append_right X hv)))
 have HRES := Lib.hid (And.intro hRA hRD)
 obtain ⟨n, hn⟩ : ∃ n, l.length = n := ⟨_, rfl⟩
 rw [hn] at hk hl hD2 hc hrl htd ⊢
 have hrl2 : rest.length = (cap - n) * 2 := hrl
 have HR2 := Lib.hid (And.intro hA (And.intro hX2 (And.intro hD2 (And.intro hrl2 (And.intro htl htd)))))
 have HL := Lib.hid (And.intro hl (And.intro hbase hn))
 have HY := Lib.hid (And.intro hyn (And.intro hvb hbox))
 clear h hrow hr hRA hRD hRX hRXD htl htd hbase hA hX hX2 hXD hD hD2 hrl hrl2 hl hcl hn hone hyn hbox
 have hw0 : IntKind.i64.wrap (k : Int) = (k : Int) := by have := HL.out.1; rw [IntKind.wrap_i64]; omega
 have hw1 : IntKind.i64.wrap ((k : Int) + 1) = (k : Int) + 1 := by have := HL.out.1; rw [IntKind.wrap_i64]; omega
 have hw2 : IntKind.i64.wrap ((k : Int) + 1 + ((n - (k + 1) : Nat) : Int)) = (n : Int) := by have := HL.out.1; rw [IntKind.wrap_i64]; omega
 have hkn2 : (k : Int) ≤ ((n - 1 : Nat) : Int) := by omega
 have hne : ¬ ((k : Int) + 1 = (n : Int)) := by omega
 have hkn : (k : Int) + 1 ≤ (n : Int) := by omega
 have hg0 : (0 : Int) ≤ (k : Int) + 1 := by omega
 have hkk : (k : Int) ≤ (k : Int) + 1 := by omega
 have hkl : k + 1 ≤ n := by omega
 have hkl0 : k ≤ n := by omega
 have hcn : k + 1 ≤ cap := by omega
 have hck0 : ¬ (cap = k) := by omega
 have hck1 : ¬ (cap = k + 1) := by omega
 have hkt : ((k : Int) + 1).toNat = k + 1 := by omega
 go_enter Tryz.func298, Tryz.ntmps298
 go_wp2
 go_region
 have HB1 := Lib.hid (show Row w.drew vb 188 [Value.string y.name, Value.int .i64 y.ino] from HY.out.2.2.drew)
 go_wp2_with (show wpList _ _ _ ({ dst := _, op := .call { callee := .builtin .copy, args := _, argTypes := _ }, type := _, pos := _, after := _, guard := _ } :: _) _ _; refine wpList_copy_row rfl _ _ 120 120 rfl 188 2 Tryz.underlying120 szE g (k * 2) (n - k) (cap - k) ⟨vb, 0, none⟩ 1 1 rfl rfl _ 188 HROW.out.drew [Value.string y.name, Value.int .i64 y.ino] ?hn (fun j u hu => HB1.out.cellA 0 j u (by rw [Nat.zero_add]; exact hu)) ?hf ?ho ?_; (case hn => rw [show Nat.min 1 (n - k) = 1 from Nat.min_eq_left (by omega)]; rfl); (case hf => simp only [List.length_append, HR2.out.1, HR2.out.2.1, HR2.out.2.2.1]; simp; omega); (case ho => simp [Value.oneCell']); intro w2 HW2 HG2)
 have h3 := HW2.out
 rw [show A ++ (X ++ D) ++ rest = A ++ (X ++ (D ++ rest)) by simp only [List.append_assoc], ← HR2.out.1, splice_at, show ([Value.string y.name, Value.int .i64 y.ino] : List Value).length = X.length from HR2.out.2.1.symm, List.drop_left] at h3
 have HW3 := Lib.hid h3
 have HSRC := Lib.hid (show ∀ j u, D[j]? = some u → w2.cell? ((⟨g, (k + 1) * 2, none⟩ : Addr).add j) = some u from fun j u hu => h3.cellA _ _ _ (by
  rw [show (k + 1) * 2 + j = A.length + (2 + j) by rw [HR2.out.1]; omega, List.getElem?_append_right (by omega), Nat.add_sub_cancel_left, show 2 + j = ([Value.string y.name, Value.int .i64 y.ino] : List Value).length + j from rfl, List.getElem?_append_right (by omega), Nat.add_sub_cancel_left, List.getElem?_append_left (List.getElem?_eq_some_iff.1 hu).1]; exact hu))
 clear h3 HW2
 go_wp2
 go_region_law (refine step_copy_row rfl _ _ 120 120 rfl 188 2 Tryz.underlying120 szE g ((k + 1) * 2) (n - (k + 1)) (cap - (k + 1)) ⟨g, (k + 1) * 2, none⟩ (n - (k + 1)) (cap - (k + 1)) (by simp [Act.eval, Act.put]) (by simp [Act.eval, Act.put]) _ 188 HW3.out.drew D ?hn HSRC.out ?hf HD1.out ?_; (case hn => rw [HR2.out.2.2.1, show Nat.min (n - (k + 1)) (n - (k + 1)) = n - (k + 1) from Nat.min_self _]); (case hf => simp only [List.length_append, HR2.out.1, HR2.out.2.1, HR2.out.2.2.1]; simp; omega); intro w3 HW4 HG4)
 have h4 := HW4.out
 rw [show A ++ ([Value.string y.name, Value.int .i64 y.ino] ++ (D ++ rest)) = (A ++ [Value.string y.name, Value.int .i64 y.ino]) ++ (D ++ rest) by simp only [List.append_assoc], show (k + 1) * 2 = (A ++ [Value.string y.name, Value.int .i64 y.ino]).length by simp [HR2.out.1]; omega, splice_at, List.drop_left] at h4
 have HW5 := Lib.hid h4
 clear h4 HW4
 go_wp2_with (show wpList _ _ _ ({ dst := _, op := .call { callee := .builtin .clear, args := _, argTypes := _ }, type := _, pos := _, after := _, guard := _ } :: _) _ _; refine wpList_clear_none rfl _ 120 rfl rfl 188 (.agg #[.string ⟨#[]⟩, .int .i64 0]) Tryz.underlying120 (by intro w; go_simp) _ _ _ rfl ?hn ?_; (case hn => first | rfl | omega))
 case inl =>
  obtain rfl : n = cap := by omega
  go_wp2
  go_ret
  have hrl : (l.take k ++ ([y] ++ l.drop (k + 1))).length = n := by rw [List.length_append, List.length_append, HR2.out.2.2.2.2.1, HR2.out.2.2.2.2.2]; simp; omega
  have hone : Reps (entK.At (fun k => k < w.heap.size ∧ some k ≠ some g) w) 2 [y] [Value.string y.name, Value.int .i64 y.ino] := Reps.one (R := entK.At _ w) ⟨rfl, HY.out.1⟩ rfl
  have hd := put_done (w := w) (base := base) (n := n) (cs := A ++ ([Value.string y.name, Value.int .i64 y.ino] ++ D)) (R := rest) hgb (by rw [hrl]; exact hc) hcm (by have := HW5.out; simpa only [List.append_assoc] using this) (by simp only [List.length_append, HR2.out.1, HR2.out.2.2.1, HR2.out.2.2.2.1]; simp; omega) (HRES.out.1.append (hone.append HRES.out.2)) (grownBy_trans' (grownBy_trans' (grownBy_drew w _) HG2.out) (grownBy_trans' (grownBy_drew w2 _) HG4.out))
  rw [hrl] at hd
  exact hd
 case inr =>
  go_wp2
  go_ret
  have hrl : (l.take k ++ ([y] ++ l.drop (k + 1))).length = n := by rw [List.length_append, List.length_append, HR2.out.2.2.2.2.1, HR2.out.2.2.2.2.2]; simp; omega
  have hone : Reps (entK.At (fun k => k < w.heap.size ∧ some k ≠ some g) w) 2 [y] [Value.string y.name, Value.int .i64 y.ino] := Reps.one (R := entK.At _ w) ⟨rfl, HY.out.1⟩ rfl
  have hd := put_done (w := w) (base := base) (n := n) (cs := A ++ ([Value.string y.name, Value.int .i64 y.ino] ++ D)) (R := rest) hgb (by rw [hrl]; exact hc) hcm (by have := HW5.out; simpa only [List.append_assoc] using this) (by simp only [List.length_append, HR2.out.1, HR2.out.2.2.1, HR2.out.2.2.2.1]; simp; omega) (HRES.out.1.append (hone.append HRES.out.2)) (grownBy_trans' (grownBy_trans' (grownBy_drew w _) HG2.out) (grownBy_trans' (grownBy_drew w2 _) HG4.out))
  rw [hrl] at hd
  exact hd
theorem made_put {w w1 w2 : World} {r : Value} {l res : List Ent} {e : Ending} (ho : entK.Own 188 w.heap.size w1 r l) (hb : Below w.heap.size w w1) (hp : Put1 w1 w.heap.size r res e w2) : Made entK 188 w res e w2 := by
 obtain ⟨u, he, h1, h2⟩ := hp
 exact ⟨u, he, h1, hb.grown h2 hb.size (fun k hk => (Own.row ho k hk).1)⟩
theorem made_same {w w1 : World} {r : Value} {l : List Ent} (ho : entK.Own 188 w.heap.size w1 r l) (hb : Below w.heap.size w w1) : Made entK 188 w l (.returned r) w1 := ⟨r, rfl, ho, hb⟩
set_option maxRecDepth 100000 in
set_option maxHeartbeats 1000000 in
theorem spliced_ins (v : Value) (l : List Ent) (k : Nat) (w : World) (y : Ent) (vb : Nat) (hbox : Row w vb 188 [Value.string y.name, Value.int .i64 y.ino]) (hyn : y.name.size ≤ maxLen) (h : entK.Sl (Old w) w v l) (hl : l.length ≤ 2000) (hk : k ≤ l.length) :
  Calls Tryz.prog 286 #[v, .int .i64 (k : Int), .int .i64 (k : Int), .slice (some ⟨vb, 0, none⟩) 1 1] w (Made entK 188 w (l.take k ++ y :: l.drop k)) := by
 have H := Lib.hid (cloneE_any l v w h hl)
 have HB := Lib.hid hbox
 have HK := Lib.hid (And.intro hl hk)
 clear h hk hl hbox
 go_enter Tryz.func286, Tryz.ntmps286
 go_wp2_with fail
 refine H.out.mono ?_
 rintro e1 w1 ⟨r, rfl, ho, hb⟩
 have HO := Lib.hid ho
 have HW := Lib.hid hb
 clear ho hb
 go_wp2_with fail
 refine (replace_ins r l y k w1 w.heap.size HO.out vb (HB.out.below HW.out) HB.out.lt hyn HW.out.size HK.out.1 HK.out.2).mono ?_
 intro e2 w2 hp
 obtain ⟨u, rfl, ho2, hb2⟩ := made_put HO.out HW.out hp
 have HO2 := Lib.hid ho2
 have HB2 := Lib.hid hb2
 clear ho2 hb2 hp
 go_wp2
 go_ret
 exact ⟨_, rfl, HO2.out, HB2.out⟩
set_option maxRecDepth 100000 in
set_option maxHeartbeats 1000000 in
theorem spliced_none (v : Value) (l : List Ent) (k : Nat) (w : World) (h : entK.Sl (Old w) w v l) (hl : l.length ≤ 2000) (hk : k ≤ l.length) :
  Calls Tryz.prog 286 #[v, .int .i64 (k : Int), .int .i64 (k : Int), .slice none 0 0] w (Made entK 188 w (l)) := by
 have H := Lib.hid (cloneE_any l v w h hl)
 have HK := Lib.hid (And.intro hl hk)
 clear h hk hl
 go_enter Tryz.func286, Tryz.ntmps286
 go_wp2_with fail
 refine H.out.mono ?_
 rintro e1 w1 ⟨r, rfl, ho, hb⟩
 have HO := Lib.hid ho
 have HW := Lib.hid hb
 clear ho hb
 go_wp2_with fail
 refine (replace_none r l k w1 w.heap.size HO.out HK.out.1 HK.out.2).mono ?_
 intro e2 w2 hp
 obtain ⟨rfl, rfl⟩ := hp
 go_wp2
 go_ret
 exact made_same HO.out HW.out
theorem replace_put1 (v : Value) (l : List Ent) (y : Ent) (k : Nat) (w : World) (base : Nat) (h : entK.Own 188 base w v l) (vb : Nat) (hbox : Row w vb 188 [Value.string y.name, Value.int .i64 y.ino]) (hvb : vb < base)
  (hyn : y.name.size ≤ maxLen) (hbase : base ≤ w.heap.size) (hl : l.length ≤ 2000) (hk : k < l.length) :
  Calls Tryz.prog 298 #[v, .int .i64 (k : Int), .int .i64 ((k + 1 : Nat) : Int), .slice (some ⟨vb, 0, none⟩) 1 1] w (Put1 w base v (l.take k ++ y :: l.drop (k + 1))) := by
 rcases Nat.lt_or_ge (k + 1) l.length with hlt | hge
 ·exact replace_put v l y k w base h vb hbox hvb hyn hbase hl hlt
 ·exact replace_last v l y k w base h vb hbox hvb hyn hbase hl (by omega)
theorem replace_drop1 (v : Value) (l : List Ent) (k : Nat) (w : World) (base : Nat) (h : entK.Own 188 base w v l) (hbase : base ≤ w.heap.size) (hl : l.length ≤ 2000) (hk : k < l.length) :
  Calls Tryz.prog 298 #[v, .int .i64 (k : Int), .int .i64 ((k + 1 : Nat) : Int), .slice none 0 0] w (Put1 w base v (l.take k ++ l.drop (k + 1))) := by
 rcases Nat.lt_or_ge (k + 1) l.length with hlt | hge
 ·exact replace_drop v l k w base h hbase hl hlt
 ·exact replace_droplast v l k w base h hbase hl (by omega)
set_option maxRecDepth 100000 in
set_option maxHeartbeats 1000000 in
theorem spliced_put (v : Value) (l : List Ent) (k : Nat) (w : World) (y : Ent) (vb : Nat) (hbox : Row w vb 188 [Value.string y.name, Value.int .i64 y.ino]) (hyn : y.name.size ≤ maxLen) (h : entK.Sl (Old w) w v l) (hl : l.length ≤ 2000) (hk : k < l.length) :
  Calls Tryz.prog 286 #[v, .int .i64 (k : Int), .int .i64 ((k + 1 : Nat) : Int), .slice (some ⟨vb, 0, none⟩) 1 1] w (Made entK 188 w (l.take k ++ y :: l.drop (k + 1))) := by
 have H := Lib.hid (cloneE_any l v w h hl)
 have HB := Lib.hid hbox
 have HK := Lib.hid (And.intro hl hk)
 clear h hk hl hbox
 go_enter Tryz.func286, Tryz.ntmps286
 go_wp2_with fail
 refine H.out.mono ?_
 rintro e1 w1 ⟨r, rfl, ho, hb⟩
 have HO := Lib.hid ho
 have HW := Lib.hid hb
 clear ho hb
 go_wp2_with fail
 refine (replace_put1 r l y k w1 w.heap.size HO.out vb (HB.out.below HW.out) HB.out.lt hyn HW.out.size HK.out.1 HK.out.2).mono ?_
 intro e2 w2 hp
 obtain ⟨u, rfl, ho2, hb2⟩ := made_put HO.out HW.out hp
 have HO2 := Lib.hid ho2
 have HB2 := Lib.hid hb2
 clear ho2 hb2 hp
 go_wp2
 go_ret
 exact ⟨_, rfl, HO2.out, HB2.out⟩
set_option maxRecDepth 100000 in
set_option maxHeartbeats 1000000 in
theorem spliced_drop (v : Value) (l : List Ent) (k : Nat) (w : World) (h : entK.Sl (Old w) w v l) (hl : l.length ≤ 2000) (hk : k < l.length) :
  Calls Tryz.prog 286 #[v, .int .i64 (k : Int), .int .i64 ((k + 1 : Nat) : Int), .slice none 0 0] w (Made entK 188 w (l.take k ++ l.drop (k + 1))) := by
 have H := Lib.hid (cloneE_any l v w h hl)
 have HK := Lib.hid (And.intro hl hk)
 clear h hk hl
 go_enter Tryz.func286, Tryz.ntmps286
 go_wp2_with fail
 refine H.out.mono ?_
 rintro e1 w1 ⟨r, rfl, ho, hb⟩
 have HO := Lib.hid ho
 have HW := Lib.hid hb
 clear ho hb
 go_wp2_with fail
 refine (replace_drop1 r l k w1 w.heap.size HO.out HW.out.size HK.out.1 HK.out.2).mono ?_
 intro e2 w2 hp
 obtain ⟨u, rfl, ho2, hb2⟩ := made_put HO.out HW.out hp
 have HO2 := Lib.hid ho2
 have HB2 := Lib.hid hb2
 clear ho2 hb2 hp
 go_wp2
 go_ret
 exact ⟨_, rfl, HO2.out, HB2.out⟩
theorem place_any (l : List Ent) (v : Value) (n : ByteArray) (w : World) (h : entK.Sl (Old w) w v l) (hl : l.length ≤ 1000) (hs : Sorts l) :
  Calls Tryz.prog 285 #[v, .string n] w (Placed l n w) := by
 have H := Lib.hid (bsearch_any l v n w h hl (sorts_parts hs n))
 clear h hl hs
 go_enter Tryz.func285, Tryz.ntmps285
 go_wp2_with fail
 refine H.out.mono ?_
 rintro e w' ⟨i, hi, rfl, hp, hb⟩
 have HP := Lib.hid (And.intro hi (And.intro hp hb))
 clear hi hp hb
 go_wp2
 go_ret2
 exact ⟨i, HP.out.1, rfl, HP.out.2.1, HP.out.2.2⟩
theorem found_lt {l : List Ent} {n : ByteArray} {i : Nat} (h : foundAt l n i = true) : i < l.length := by
 unfold foundAt at h
 cases hx : l[i]? with
 | none => rw [hx] at h; cases h
 | some x => exact (List.getElem?_eq_some_iff.1 hx).1
theorem made_up {α : Type} {d : Kind α} {e : TypeId} {w w1 w2 : World} {l : List α} {en : Ending} (hb : Below w.heap.size w w1) (h : Made d e w1 l en w2) : Made d e w l en w2 := by
 obtain ⟨r, hr, ho, hb2⟩ := h
 exact ⟨r, hr, Own.lower ho hb.size, bthen hb hb2⟩
theorem drop_any (l : List Ent) (v : Value) (n : ByteArray) (w : World) (h : entK.Sl (Old w) w v l) (hl : l.length ≤ 1000) (hs : Sorts l) :
  Calls Tryz.prog 265 #[v, .string n] w (Made entK 188 w (dropE l n)) := by
 have H := Lib.hid (place_any l v n w h hl hs)
 have HH := Lib.hid (And.intro h (And.intro hs hl))
 clear h hl hs
 go_enter Tryz.func265, Tryz.ntmps265
 go_wp2_with fail
 refine H.out.mono ?_
 rintro e w' ⟨i, hi, rfl, hp, hb⟩
 have hf := drop_split HH.out.2.1 hp
 have HS := Lib.hid (Sl.below hb HH.out.1)
 have hw : IntKind.i64.wrap ((i : Int) + 1) = ((i + 1 : Nat) : Int) := by have := HH.out.2.2; rw [IntKind.wrap_i64]; omega
 cases hfo : foundAt l n i with
 | false =>
  have HR := Lib.hid (And.intro (show dropE l n = l by rw [hf, hfo]; rfl) (And.intro hb hi))
  clear hf hb hp hfo hi
  go_wp2_with fail
  refine (spliced_none v l i w' HS.out (by have := HH.out.2.2; omega) HR.out.2.2).mono ?_
  intro e2 w2 hm
  obtain ⟨u, rfl, ho2, hb2⟩ := made_up HR.out.2.1 hm
  have HM := Lib.hid (And.intro ho2 hb2)
  clear ho2 hb2 hm
  go_wp2
  go_ret
  rw [HR.out.1]
  exact ⟨_, rfl, HM.out.1, HM.out.2⟩
 | true =>
  have HR := Lib.hid (And.intro (show dropE l n = l.take i ++ l.drop (i + 1) by rw [hf, hfo]; rfl) (And.intro hb (found_lt hfo)))
  clear hf hb hp hfo hi
  go_wp2_with fail
  refine (spliced_drop v l i w' HS.out (by have := HH.out.2.2; omega) HR.out.2.2).mono ?_
  intro e2 w2 hm
  obtain ⟨u, rfl, ho2, hb2⟩ := made_up HR.out.2.1 hm
  have HM := Lib.hid (And.intro ho2 hb2)
  clear ho2 hb2 hm
  go_wp2
  go_ret
  rw [HR.out.1]
  exact ⟨_, rfl, HM.out.1, HM.out.2⟩
theorem put_any (l : List Ent) (v : Value) (y : Ent) (w : World) (hyn : y.name.size ≤ maxLen) (h : entK.Sl (Old w) w v l) (hl : l.length ≤ 1000) (hs : Sorts l) :
  Calls Tryz.prog 267 #[v, .agg #[.string y.name, .int .i64 y.ino]] w (Made entK 188 w (putE l y)) := by
 have H := Lib.hid (place_any l v y.name (w.alloc (.cells #[Value.string y.name, Value.int .i64 y.ino] 188)) (Sl.below (balloc w _) h) hl hs)
 have HH := Lib.hid (And.intro h (And.intro hs hl))
 clear h hl hs
 go_enter Tryz.func267, Tryz.ntmps267
 go_wp2_with fail
 refine H.out.mono ?_
 rintro e w' ⟨i, hi, rfl, hp, hb⟩
 have hf := put_split HH.out.2.1 hp
 have HS := Lib.hid (Sl.below hb (Sl.below (balloc w _) HH.out.1))
 have hw : IntKind.i64.wrap ((i : Int) + 1) = ((i + 1 : Nat) : Int) := by have := HH.out.2.2; rw [IntKind.wrap_i64]; omega
 cases hfo : foundAt l y.name i with
 | false =>
  have HR := Lib.hid (And.intro (show putE l y = l.take i ++ y :: l.drop i by rw [hf, hfo]; rfl) (And.intro hb hi))
  have c0 : w'.cell? ⟨w.heap.size, 0, none⟩ = some (.string y.name) := by rw [hb.cell (p := ⟨w.heap.size, 0, none⟩) (by simp)]; go_simp
  have c1 : w'.cell? ⟨w.heap.size, 1, none⟩ = some (.int .i64 y.ino) := by rw [hb.cell (p := ⟨w.heap.size, 1, none⟩) (by simp)]; go_simp
  clear hf hb hp hfo hi
  go_wp2_with fail
  refine (spliced_ins v l i _ y w'.heap.size (Row.new w' 188 [Value.string y.name, Value.int .i64 y.ino]) hyn (Sl.below (balloc w' _) HS.out) (by have := HH.out.2.2; omega) HR.out.2.2).mono ?_
  intro e2 w2 hm
  obtain ⟨u, rfl, ho2, hb2⟩ := made_up (bthen (balloc w _) (bthen HR.out.2.1 (balloc w' _))) hm
  have HM := Lib.hid (And.intro ho2 hb2)
  clear ho2 hb2 hm
  go_wp2
  go_ret
  rw [HR.out.1]
  exact ⟨_, rfl, HM.out.1, HM.out.2⟩
 | true =>
  have HR := Lib.hid (And.intro (show putE l y = l.take i ++ y :: l.drop (i + 1) by rw [hf, hfo]; rfl) (And.intro hb (found_lt hfo)))
  have c0 : w'.cell? ⟨w.heap.size, 0, none⟩ = some (.string y.name) := by rw [hb.cell (p := ⟨w.heap.size, 0, none⟩) (by simp)]; go_simp
  have c1 : w'.cell? ⟨w.heap.size, 1, none⟩ = some (.int .i64 y.ino) := by rw [hb.cell (p := ⟨w.heap.size, 1, none⟩) (by simp)]; go_simp
  clear hf hb hp hfo hi
  go_wp2_with fail
  refine (spliced_put v l i _ y w'.heap.size (Row.new w' 188 [Value.string y.name, Value.int .i64 y.ino]) hyn (Sl.below (balloc w' _) HS.out) (by have := HH.out.2.2; omega) HR.out.2.2).mono ?_
  intro e2 w2 hm
  obtain ⟨u, rfl, ho2, hb2⟩ := made_up (bthen (balloc w _) (bthen HR.out.2.1 (balloc w' _))) hm
  have HM := Lib.hid (And.intro ho2 hb2)
  clear ho2 hb2 hm
  go_wp2
  go_ret
  rw [HR.out.1]
  exact ⟨_, rfl, HM.out.1, HM.out.2⟩
end Go.Proofs.YtdbekeidlppfiaaGreatDoor
