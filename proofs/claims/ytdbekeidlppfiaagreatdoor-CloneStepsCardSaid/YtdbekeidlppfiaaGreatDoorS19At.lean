/- Texts joined by a program of mine (pack.py): S19At. -/
import Derived.Test.YtdbekeidlppfiaaGreatDoorS19As
import Derived.WalkKit
set_option linter.unusedVariables false
set_option linter.unusedSimpArgs false
namespace Go.Proofs.YtdbekeidlppfiaaGreatDoor.Den
open Go Go.RowKit Go.Extern.Stop Go.Stop Go.Extern
theorem asT_valueOf27 (t : Addr) (w : World) : (ReflectliteValue.unpack (.iface 257 (.pointer (some t)))).run Tryz.prog w
  = .ok (.agg #[.pointer (some ⟨10, 257, none⟩), .pointer (some ⟨w.heap.size, 0, none⟩), .int .u64 150]) (w.alloc (.cells #[.pointer (some t)] 257)) := by kernel_rfl
theorem asT_type27 (a : Addr) (w : World) : (ReflectliteValue.methodAny (ReflectliteValue.valueError "reflectlite.Value.Type" 0) (fun t _ _ _ => ReflectliteType.toType t) #[.agg #[.pointer (some ⟨10, 257, none⟩), .pointer (some a), .int .u64 150]]).run Tryz.prog w
  = .ok (.iface 264 (.agg #[.pointer (some ⟨10, 257, none⟩)])) w := by kernel_rfl
theorem asT_methodKind (h : Value) (w : World) : (Go.method 535 264 (.agg #[h]) "Kind").run Tryz.prog w = .ok (323, h) w := by kernel_rfl
theorem asT_kind27 (w : World) : ((ReflectliteType.abiMethod fun t => (fun a : Nat => Value.int IntKind.u8 (a : Int)) <$> Rtype.kind t) #[.pointer (some ⟨10, 257, none⟩)]).run Tryz.prog w = .ok (.int .u8 22) w := by kernel_rfl
theorem asT_kind25 (w : World) : ((ReflectliteType.abiMethod fun t => (fun a : Nat => Value.int IntKind.u8 (a : Int)) <$> Rtype.kind t) #[.pointer (some ⟨10, 211, none⟩)]).run Tryz.prog w = .ok (.int .u8 25) w := by kernel_rfl
theorem asT_parts27 (a : Addr) (w : World) : (ReflectliteValue.parts (.agg #[.pointer (some ⟨10, 257, none⟩), .pointer (some a), .int .u64 150])).run Tryz.prog w = .ok (some (257, a, 150)) w := by kernel_rfl
theorem asT_isNil27 (a p : Addr) (W : World) (ha : W.cell? a = some (.pointer (some p))) :
  (ReflectliteValue.method (ReflectliteValue.valueError "reflectlite.Value.IsNil" 0) ReflectliteValue.isNil #[.agg #[.pointer (some ⟨10, 257, none⟩), .pointer (some a), .int .u64 150]]).run Tryz.prog W = .ok (.bool false) W := by
 rw [rlm]
 simp only [Sem.run_bind, asT_parts27, Result.andThen]
 simp [ReflectliteValue.isNil, loadVar, isAgg, underlying, Tryz.underlying257, ha, Result.andThen]
theorem asT_methodElem (h : Value) (w : World) : (Go.method 535 264 (.agg #[h]) "Elem").run Tryz.prog w = .ok (332, .agg #[h]) w := by kernel_rfl
theorem asT_methodImplements (h : Value) (w : World) : (Go.method 535 264 (.agg #[h]) "Implements").run Tryz.prog w = .ok (333, .agg #[h]) w := by kernel_rfl
theorem asT_methodAssignableTo (h : Value) (w : World) : (Go.method 535 264 (.agg #[h]) "AssignableTo").run Tryz.prog w = .ok (330, .agg #[h]) w := by kernel_rfl
theorem asT_elem27 (w : World) : (ReflectliteType.method ReflectliteType.elem #[.agg #[.pointer (some ⟨10, 257, none⟩)]]).run Tryz.prog w = .ok (.iface 264 (.agg #[.pointer (some ⟨10, 211, none⟩)])) w := by kernel_rfl
theorem asT_implements25 (w : World) : (ReflectliteType.relation "Implements" ReflectliteType.implements_ #[.agg #[.pointer (some ⟨10, 211, none⟩)], .iface 264 (.agg #[.pointer (some ⟨10, 145, none⟩)])]).run Tryz.prog w = .ok (.bool true) w := by kernel_rfl
theorem asT_typeOf25 (v : Value) (w : World) : (ReflectliteType.typeOf #[.iface 211 v]).run Tryz.prog w = .ok (.iface 264 (.agg #[.pointer (some ⟨10, 211, none⟩)])) w := by kernel_rfl
theorem asT_assignable25 (w : World) : (ReflectliteType.relation "AssignableTo" ReflectliteType.assignableTo #[.agg #[.pointer (some ⟨10, 211, none⟩)], .iface 264 (.agg #[.pointer (some ⟨10, 211, none⟩)])]).run Tryz.prog w = .ok (.bool true) w := by kernel_rfl
theorem asT_valueOf25 (e : Int) (w : World) : (ReflectliteValue.unpack (.iface 211 (.agg #[.int .i64 e]))).run Tryz.prog w
  = .ok (.agg #[.pointer (some ⟨10, 211, none⟩), .pointer (some ⟨w.heap.size, 0, none⟩), .int .u64 153]) (w.alloc (.cells #[.int .i64 e] 211)) := by kernel_rfl
theorem asT_elemOf27 (w : World) : (Rtype.elem? 257).run Tryz.prog w = .ok (some 211) w := by kernel_rfl
theorem asT_mk25 (p : Addr) (w : World) : (ReflectliteValue.mk 211 p ReflectliteValue.flagAddr).run Tryz.prog w = .ok (.agg #[.pointer (some ⟨10, 211, none⟩), .pointer (some p), .int .u64 409]) w := by kernel_rfl
theorem asT_elemV27 (a p : Addr) (W : World) (ha : W.cell? a = some (.pointer (some p))) :
  (ReflectliteValue.method (ReflectliteValue.valueError "reflectlite.Value.Elem" 0) ReflectliteValue.elem #[.agg #[.pointer (some ⟨10, 257, none⟩), .pointer (some a), .int .u64 150]]).run Tryz.prog W
   = .ok (.agg #[.pointer (some ⟨10, 211, none⟩), .pointer (some p), .int .u64 409]) W := by
 rw [rlm]
 simp only [Sem.run_bind, asT_parts27, Result.andThen]
 simp [ReflectliteValue.elem, loadVar, isAgg, underlying, Tryz.underlying257, ha, Result.andThen, asT_elemOf27, asT_mk25]
theorem asT_parts25a (a : Addr) (w : World) : (ReflectliteValue.parts (.agg #[.pointer (some ⟨10, 211, none⟩), .pointer (some a), .int .u64 409])).run Tryz.prog w = .ok (some (211, a, 409)) w := by kernel_rfl
theorem asT_parts25 (a : Addr) (w : World) : (ReflectliteValue.parts (.agg #[.pointer (some ⟨10, 211, none⟩), .pointer (some a), .int .u64 153])).run Tryz.prog w = .ok (some (211, a, 153)) w := by kernel_rfl
theorem asT_direct25 (w : World) : (Rtype.directlyAssignable 211 211).run Tryz.prog w = .ok true w := by kernel_rfl
theorem asT_set25 (ta b : Addr) (e : Int) (old : Value) (W : World) (hb : W.cell? b = some (.int .i64 e)) (ht : W.cell? ta = some old) (hf : W.frozen? ta = false) :
  (ReflectliteValue.set #[.agg #[.pointer (some ⟨10, 211, none⟩), .pointer (some ta), .int .u64 409], .agg #[.pointer (some ⟨10, 211, none⟩), .pointer (some b), .int .u64 153]]).run Tryz.prog W
   = .ok (.tuple #[]) (W.setCell ta (.int .i64 e)) := by
 rw [rls]
 simp only [Sem.run_bind, asT_parts25a, asT_parts25, Result.andThen]
 simp [ReflectliteValue.flagAddr, loadVar, loadCells, loadCellsFrom, isAgg, underlying, Tryz.underlying211, hb, Result.andThen, asT_direct25, storeVar, Value.cells, storeCells, Addr.add]
 rw [run_store Tryz.prog W ta _ _ (by rfl)]
 simp [ht, hf]
set_option maxHeartbeats 4000000 in
theorem as_hitT (e : Int) (t : Addr) (old : Value) (w : World) (hg : w.cell? ⟨3, 0, none⟩ = some (.iface 264 (.agg #[.pointer (some ⟨10, 145, none⟩)]))) (ht0 : w.cell? t = some old) (hf0 : w.frozen? t = false) :
  Calls Tryz.prog 171 #[.iface 211 (.agg #[.int .i64 e]), .iface 257 (.pointer (some t))] w fun ev w' => ev = .returned (.bool true) ∧ w' = ((((w.alloc (.cells #[.pointer (some t)] 257)).alloc (.cells #[.pointer (some ⟨10, 257, none⟩), .pointer (some ⟨w.heap.size, 0, none⟩), .int .u64 150] 334)).alloc (.cells #[.pointer (some ⟨10, 257, none⟩), .pointer (some ⟨w.heap.size, 0, none⟩), .int .u64 150] 334)).alloc (.cells #[.int .i64 e] 211)).setCell t (.int .i64 e) := by
 have h6 := @run_callFunc_extern Tryz.prog 232 _ (fun args => ReflectliteValue.unpack (args.getD 0 (.tuple #[]))) Tryz.func232 (by kernel_rfl) (by kernel_rfl) (by kernel_rfl) (by kernel_rfl)
 have h7 := @run_callFunc_extern Tryz.prog 233 _ (ReflectliteValue.methodAny (ReflectliteValue.valueError "reflectlite.Value.Type" 0) (fun t _ _ _ => ReflectliteType.toType t)) Tryz.func233 (by kernel_rfl) (by kernel_rfl) (by kernel_rfl) (by kernel_rfl)
 have h8 := @run_callFunc_extern Tryz.prog 234 _ (ReflectliteValue.method (ReflectliteValue.valueError "reflectlite.Value.IsNil" 0) ReflectliteValue.isNil) Tryz.func234 (by kernel_rfl) (by kernel_rfl) (by kernel_rfl) (by kernel_rfl)
 have h27 := @run_callFunc_extern Tryz.prog 323 _ (ReflectliteType.abiMethod fun t => do pure (.int .u8 (← Rtype.kind t))) Tryz.func323 (by kernel_rfl) (by kernel_rfl) (by kernel_rfl) (by kernel_rfl)
 have h37 := @run_callFunc_extern Tryz.prog 332 _ (ReflectliteType.method ReflectliteType.elem) Tryz.func332 (by kernel_rfl) (by kernel_rfl) (by kernel_rfl) (by kernel_rfl)
 have h38 := @run_callFunc_extern Tryz.prog 333 _ (ReflectliteType.relation "Implements" ReflectliteType.implements_) Tryz.func333 (by kernel_rfl) (by kernel_rfl) (by kernel_rfl) (by kernel_rfl)
 have h10 := @run_callFunc_extern Tryz.prog 116 _ ReflectliteType.typeOf Tryz.func116 (by kernel_rfl) (by kernel_rfl) (by kernel_rfl) (by kernel_rfl)
 have h35 := @run_callFunc_extern Tryz.prog 330 _ (ReflectliteType.relation "AssignableTo" ReflectliteType.assignableTo) Tryz.func330 (by kernel_rfl) (by kernel_rfl) (by kernel_rfl) (by kernel_rfl)
 have h11 := @run_callFunc_extern Tryz.prog 268 _ (ReflectliteValue.method (ReflectliteValue.valueError "reflectlite.Value.Elem" 0) ReflectliteValue.elem) Tryz.func268 (by kernel_rfl) (by kernel_rfl) (by kernel_rfl) (by kernel_rfl)
 have h12 := @run_callFunc_extern Tryz.prog 269 _ ReflectliteValue.set Tryz.func269 (by kernel_rfl) (by kernel_rfl) (by kernel_rfl) (by kernel_rfl)
 have tO := asT_typeOf25
 have mA := asT_methodAssignableTo
 have a25 := asT_assignable25
 have v25 := asT_valueOf25
 have f6 := asT_valueOf27
 have f7 := asT_type27
 have mK := asT_methodKind
 have mE := asT_methodElem
 have mI := asT_methodImplements
 have k27 := asT_kind27
 have k25 := asT_kind25
 have e27 := asT_elem27
 have i25 := asT_implements25
 have n8 := asT_isNil27 ⟨w.heap.size, 0, none⟩ t ((w.alloc (.cells #[.pointer (some t)] 257)).alloc (.cells #[.pointer (some ⟨10, 257, none⟩), .pointer (some ⟨w.heap.size, 0, none⟩), .int .u64 150] 334)) (by simp)
 have hlt : 3 < w.heap.size := by
  rcases Nat.lt_or_ge 3 w.heap.size with h | h
  ·exact h
  ·simp [World.cell?, Array.getElem?_eq_none h] at hg
 have hg2 : ((w.alloc (.cells #[.pointer (some t)] 257)).alloc (.cells #[.pointer (some ⟨10, 257, none⟩), .pointer (some ⟨w.heap.size, 0, none⟩), .int .u64 150] 334)).cell? ⟨3, 0, none⟩ = some (.iface 264 (.agg #[.pointer (some ⟨10, 145, none⟩)])) := by
  rw [World.cell?_alloc_lt _ _ ⟨3, 0, none⟩ (by simp; omega), World.cell?_alloc_lt _ _ ⟨3, 0, none⟩ hlt]; exact hg
 have htl : t.block < w.heap.size := by
  rcases Nat.lt_or_ge t.block w.heap.size with h | h
  ·exact h
  ·simp [World.cell?, Array.getElem?_eq_none h] at ht0
 have el := asT_elemV27 ⟨w.heap.size, 0, none⟩ t (((w.alloc (.cells #[.pointer (some t)] 257)).alloc (.cells #[.pointer (some ⟨10, 257, none⟩), .pointer (some ⟨w.heap.size, 0, none⟩), .int .u64 150] 334)).alloc (.cells #[.pointer (some ⟨10, 257, none⟩), .pointer (some ⟨w.heap.size, 0, none⟩), .int .u64 150] 334)) (by rw [World.cell?_alloc_lt _ _ ⟨w.heap.size, 0, none⟩ (by simp; omega)]; simp)
 have st := asT_set25 t ⟨w.heap.size + 1 + 1 + 1, 0, none⟩ e old ((((w.alloc (.cells #[.pointer (some t)] 257)).alloc (.cells #[.pointer (some ⟨10, 257, none⟩), .pointer (some ⟨w.heap.size, 0, none⟩), .int .u64 150] 334)).alloc (.cells #[.pointer (some ⟨10, 257, none⟩), .pointer (some ⟨w.heap.size, 0, none⟩), .int .u64 150] 334)).alloc (.cells #[.int .i64 e] 211))
  (by rw [World.cell?_alloc_at _ _ _ _ (by simp)]; rfl)
  (by rw [World.cell?_alloc_lt _ _ t (by simp; omega), World.cell?_alloc_lt _ _ t (by simp; omega), World.cell?_alloc_lt _ _ t (by simp; omega), World.cell?_alloc_lt _ _ t htl]; exact ht0)
  (by rw [World.frozen?_alloc_old _ _ t (by simp; omega), World.frozen?_alloc_old _ _ t (by simp; omega), World.frozen?_alloc_old _ _ t (by simp; omega), World.frozen?_alloc_old _ _ t (Nat.ne_of_lt htl)]; exact hf0)
 go_enter Tryz.func171, Tryz.ntmps171
 go_wp2
 refine wp_loop_rounds 1 ?_
 rw [rounds_succ]
 go_wp2
 go_ret
 exact ⟨rfl, rfl⟩
end Go.Proofs.YtdbekeidlppfiaaGreatDoor.Den
