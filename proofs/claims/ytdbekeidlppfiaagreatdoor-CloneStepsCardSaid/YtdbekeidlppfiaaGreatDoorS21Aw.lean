/- Texts joined by a program of mine (pack.py): S21Aw. -/
import Derived.Test.YtdbekeidlppfiaaGreatDoorS19As
import Derived.WalkKit
set_option linter.unusedVariables false
set_option linter.unusedSimpArgs false
namespace Go.Proofs.YtdbekeidlppfiaaGreatDoor.Den
open Go Go.RowKit Go.Extern.Stop Go.Stop Go.Extern
theorem asH_valueOf27 (t : Addr) (w : World) : (ReflectliteValue.unpack (.iface 293 (.pointer (some t)))).run Tryz.prog w
  = .ok (.agg #[.pointer (some ⟨10, 293, none⟩), .pointer (some ⟨w.heap.size, 0, none⟩), .int .u64 150]) (w.alloc (.cells #[.pointer (some t)] 293)) := by kernel_rfl
theorem asH_type27 (a : Addr) (w : World) : (ReflectliteValue.methodAny (ReflectliteValue.valueError "reflectlite.Value.Type" 0) (fun t _ _ _ => ReflectliteType.toType t) #[.agg #[.pointer (some ⟨10, 293, none⟩), .pointer (some a), .int .u64 150]]).run Tryz.prog w
  = .ok (.iface 264 (.agg #[.pointer (some ⟨10, 293, none⟩)])) w := by kernel_rfl
theorem asH_methodKind (h : Value) (w : World) : (Go.method 535 264 (.agg #[h]) "Kind").run Tryz.prog w = .ok (323, h) w := by kernel_rfl
theorem asH_kind27 (w : World) : ((ReflectliteType.abiMethod fun t => (fun a : Nat => Value.int IntKind.u8 (a : Int)) <$> Rtype.kind t) #[.pointer (some ⟨10, 293, none⟩)]).run Tryz.prog w = .ok (.int .u8 22) w := by kernel_rfl
theorem asH_kind25 (w : World) : ((ReflectliteType.abiMethod fun t => (fun a : Nat => Value.int IntKind.u8 (a : Int)) <$> Rtype.kind t) #[.pointer (some ⟨10, 292, none⟩)]).run Tryz.prog w = .ok (.int .u8 22) w := by kernel_rfl
theorem asH_parts27 (a : Addr) (w : World) : (ReflectliteValue.parts (.agg #[.pointer (some ⟨10, 293, none⟩), .pointer (some a), .int .u64 150])).run Tryz.prog w = .ok (some (293, a, 150)) w := by kernel_rfl
theorem asH_isNil27 (a p : Addr) (W : World) (ha : W.cell? a = some (.pointer (some p))) :
  (ReflectliteValue.method (ReflectliteValue.valueError "reflectlite.Value.IsNil" 0) ReflectliteValue.isNil #[.agg #[.pointer (some ⟨10, 293, none⟩), .pointer (some a), .int .u64 150]]).run Tryz.prog W = .ok (.bool false) W := by
 rw [rlm]
 simp only [Sem.run_bind, asH_parts27, Result.andThen]
 simp [ReflectliteValue.isNil, loadVar, isAgg, underlying, Tryz.underlying293, ha, Result.andThen]
theorem asH_methodElem (h : Value) (w : World) : (Go.method 535 264 (.agg #[h]) "Elem").run Tryz.prog w = .ok (332, .agg #[h]) w := by kernel_rfl
theorem asH_methodImplements (h : Value) (w : World) : (Go.method 535 264 (.agg #[h]) "Implements").run Tryz.prog w = .ok (333, .agg #[h]) w := by kernel_rfl
theorem asH_methodAssignableTo (h : Value) (w : World) : (Go.method 535 264 (.agg #[h]) "AssignableTo").run Tryz.prog w = .ok (330, .agg #[h]) w := by kernel_rfl
theorem asH_elem27 (w : World) : (ReflectliteType.method ReflectliteType.elem #[.agg #[.pointer (some ⟨10, 293, none⟩)]]).run Tryz.prog w = .ok (.iface 264 (.agg #[.pointer (some ⟨10, 292, none⟩)])) w := by kernel_rfl
theorem asH_implements25 (w : World) : (ReflectliteType.relation "Implements" ReflectliteType.implements_ #[.agg #[.pointer (some ⟨10, 292, none⟩)], .iface 264 (.agg #[.pointer (some ⟨10, 145, none⟩)])]).run Tryz.prog w = .ok (.bool true) w := by kernel_rfl
theorem asH_typeOf25 (v : Value) (w : World) : (ReflectliteType.typeOf #[.iface 292 v]).run Tryz.prog w = .ok (.iface 264 (.agg #[.pointer (some ⟨10, 292, none⟩)])) w := by kernel_rfl
theorem asH_assignable25 (w : World) : (ReflectliteType.relation "AssignableTo" ReflectliteType.assignableTo #[.agg #[.pointer (some ⟨10, 292, none⟩)], .iface 264 (.agg #[.pointer (some ⟨10, 292, none⟩)])]).run Tryz.prog w = .ok (.bool true) w := by kernel_rfl
theorem asH_valueOf25 (e : Addr) (w : World) : (ReflectliteValue.unpack (.iface 292 (.pointer (some e)))).run Tryz.prog w
  = .ok (.agg #[.pointer (some ⟨10, 292, none⟩), .pointer (some ⟨w.heap.size, 0, none⟩), .int .u64 150]) (w.alloc (.cells #[.pointer (some e)] 292)) := by kernel_rfl
theorem asH_elemOf27 (w : World) : (Rtype.elem? 293).run Tryz.prog w = .ok (some 292) w := by kernel_rfl
theorem asH_mk25 (p : Addr) (w : World) : (ReflectliteValue.mk 292 p ReflectliteValue.flagAddr).run Tryz.prog w = .ok (.agg #[.pointer (some ⟨10, 292, none⟩), .pointer (some p), .int .u64 406]) w := by kernel_rfl
theorem asH_elemV27 (a p : Addr) (W : World) (ha : W.cell? a = some (.pointer (some p))) :
  (ReflectliteValue.method (ReflectliteValue.valueError "reflectlite.Value.Elem" 0) ReflectliteValue.elem #[.agg #[.pointer (some ⟨10, 293, none⟩), .pointer (some a), .int .u64 150]]).run Tryz.prog W
   = .ok (.agg #[.pointer (some ⟨10, 292, none⟩), .pointer (some p), .int .u64 406]) W := by
 rw [rlm]
 simp only [Sem.run_bind, asH_parts27, Result.andThen]
 simp [ReflectliteValue.elem, loadVar, isAgg, underlying, Tryz.underlying293, ha, Result.andThen, asH_elemOf27, asH_mk25]
theorem asH_parts25a (a : Addr) (w : World) : (ReflectliteValue.parts (.agg #[.pointer (some ⟨10, 292, none⟩), .pointer (some a), .int .u64 406])).run Tryz.prog w = .ok (some (292, a, 406)) w := by kernel_rfl
theorem asH_parts25 (a : Addr) (w : World) : (ReflectliteValue.parts (.agg #[.pointer (some ⟨10, 292, none⟩), .pointer (some a), .int .u64 150])).run Tryz.prog w = .ok (some (292, a, 150)) w := by kernel_rfl
theorem asH_direct25 (w : World) : (Rtype.directlyAssignable 292 292).run Tryz.prog w = .ok true w := by kernel_rfl
theorem asH_set25 (ta b e : Addr) (old : Value) (W : World) (hb : W.cell? b = some (.pointer (some e))) (ht : W.cell? ta = some old) (hf : W.frozen? ta = false) :
  (ReflectliteValue.set #[.agg #[.pointer (some ⟨10, 292, none⟩), .pointer (some ta), .int .u64 406], .agg #[.pointer (some ⟨10, 292, none⟩), .pointer (some b), .int .u64 150]]).run Tryz.prog W
   = .ok (.tuple #[]) (W.setCell ta (.pointer (some e))) := by
 rw [rls]
 simp only [Sem.run_bind, asH_parts25a, asH_parts25, Result.andThen]
 simp [ReflectliteValue.flagAddr, loadVar, isAgg, underlying, Tryz.underlying292, hb, Result.andThen, asH_direct25, storeVar, Value.cells, storeCells, Addr.add]
 rw [run_store Tryz.prog W ta _ _ (by rfl)]
 simp [ht, hf]
set_option maxHeartbeats 4000000 in
set_option maxRecDepth 100000 in
theorem as_hitH (e t : Addr) (old : Value) (w : World) (hg : w.cell? ⟨3, 0, none⟩ = some (.iface 264 (.agg #[.pointer (some ⟨10, 145, none⟩)]))) (ht0 : w.cell? t = some old) (hf0 : w.frozen? t = false) :
  Calls Tryz.prog 171 #[.iface 292 (.pointer (some e)), .iface 293 (.pointer (some t))] w fun ev w' => ev = .returned (.bool true) ∧ w' = ((((w.alloc (.cells #[.pointer (some t)] 293)).alloc (.cells #[.pointer (some ⟨10, 293, none⟩), .pointer (some ⟨w.heap.size, 0, none⟩), .int .u64 150] 334)).alloc (.cells #[.pointer (some ⟨10, 293, none⟩), .pointer (some ⟨w.heap.size, 0, none⟩), .int .u64 150] 334)).alloc (.cells #[.pointer (some e)] 292)).setCell t (.pointer (some e)) := by
 have h6 := @run_callFunc_extern Tryz.prog 232 _ (fun args => ReflectliteValue.unpack (args.getD 0 (.tuple #[]))) Tryz.func232 (by kernel_rfl) (by kernel_rfl) (by kernel_rfl) (by kernel_rfl)
 have h7 := @run_callFunc_extern Tryz.prog 233 _ (ReflectliteValue.methodAny (ReflectliteValue.valueError "reflectlite.Value.Type" 0) (fun t _ _ _ => ReflectliteType.toType t)) Tryz.func233 (by kernel_rfl) (by kernel_rfl) (by kernel_rfl) (by kernel_rfl)
 have h8 := @run_callFunc_extern Tryz.prog 234 _ (ReflectliteValue.method (ReflectliteValue.valueError "reflectlite.Value.IsNil" 0) ReflectliteValue.isNil) Tryz.func234 (by kernel_rfl) (by kernel_rfl) (by kernel_rfl) (by kernel_rfl)
 have h27 := @run_callFunc_extern Tryz.prog 323 _ (ReflectliteType.abiMethod fun t => do pure (.int .u8 (← Rtype.kind t))) Tryz.func323 (by kernel_rfl) (by kernel_rfl) (by kernel_rfl) (by kernel_rfl)
 have h37 := @run_callFunc_extern Tryz.prog 332 _ (ReflectliteType.method ReflectliteType.elem) Tryz.func332 (by kernel_rfl) (by kernel_rfl) (by kernel_rfl) (by kernel_rfl)
 have h38 := @run_callFunc_extern Tryz.prog 333 _ (ReflectliteType.relation "Implements" ReflectliteType.implements_) Tryz.func333 (by kernel_rfl) (by kernel_rfl) (by kernel_rfl) (by kernel_rfl)
 have h10 := @run_callFunc_extern Tryz.prog 116 _ ReflectliteType.typeOf Tryz.func116 (by kernel_rfl) (by kernel_rfl) (by kernel_rfl) (by kernel_rfl)
 have h35 := @run_callFunc_extern Tryz.prog 330 _ (ReflectliteType.relation "AssignableTo" ReflectliteType.assignableTo) Tryz.func330 (by kernel_rfl) (by kernel_rfl) (by kernel_rfl) (by kernel_rfl)
 have h11 := @run_callFunc_extern Tryz.prog 268 _ (ReflectliteValue.method (ReflectliteValue.valueError "reflectlite.Value.Elem" 0) ReflectliteValue.elem) Tryz.func268 (by kernel_rfl) (by kernel_rfl) (by kernel_rfl) (by kernel_rfl)
 have h12 := @run_callFunc_extern Tryz.prog 269 _ ReflectliteValue.set Tryz.func269 (by kernel_rfl) (by kernel_rfl) (by kernel_rfl) (by kernel_rfl)
 have tO := asH_typeOf25
 have mA := asH_methodAssignableTo
 have a25 := asH_assignable25
 have v25 := asH_valueOf25
 have f6 := asH_valueOf27
 have f7 := asH_type27
 have mK := asH_methodKind
 have mE := asH_methodElem
 have mI := asH_methodImplements
 have k27 := asH_kind27
 have k25 := asH_kind25
 have e27 := asH_elem27
 have i25 := asH_implements25
 have n8 := asH_isNil27 ⟨w.heap.size, 0, none⟩ t ((w.alloc (.cells #[.pointer (some t)] 293)).alloc (.cells #[.pointer (some ⟨10, 293, none⟩), .pointer (some ⟨w.heap.size, 0, none⟩), .int .u64 150] 334)) (by simp)
 have hlt : 3 < w.heap.size := by
  rcases Nat.lt_or_ge 3 w.heap.size with h | h
  ·exact h
  ·simp [World.cell?, Array.getElem?_eq_none h] at hg
 have hg2 : ((w.alloc (.cells #[.pointer (some t)] 293)).alloc (.cells #[.pointer (some ⟨10, 293, none⟩), .pointer (some ⟨w.heap.size, 0, none⟩), .int .u64 150] 334)).cell? ⟨3, 0, none⟩ = some (.iface 264 (.agg #[.pointer (some ⟨10, 145, none⟩)])) := by
  rw [World.cell?_alloc_lt _ _ ⟨3, 0, none⟩ (by simp; omega), World.cell?_alloc_lt _ _ ⟨3, 0, none⟩ hlt]; exact hg
 have htl : t.block < w.heap.size := by
  rcases Nat.lt_or_ge t.block w.heap.size with h | h
  ·exact h
  ·simp [World.cell?, Array.getElem?_eq_none h] at ht0
 have el := asH_elemV27 ⟨w.heap.size, 0, none⟩ t (((w.alloc (.cells #[.pointer (some t)] 293)).alloc (.cells #[.pointer (some ⟨10, 293, none⟩), .pointer (some ⟨w.heap.size, 0, none⟩), .int .u64 150] 334)).alloc (.cells #[.pointer (some ⟨10, 293, none⟩), .pointer (some ⟨w.heap.size, 0, none⟩), .int .u64 150] 334)) (by rw [World.cell?_alloc_lt _ _ ⟨w.heap.size, 0, none⟩ (by simp; omega)]; simp)
 have st := asH_set25 t ⟨w.heap.size + 1 + 1 + 1, 0, none⟩ e old ((((w.alloc (.cells #[.pointer (some t)] 293)).alloc (.cells #[.pointer (some ⟨10, 293, none⟩), .pointer (some ⟨w.heap.size, 0, none⟩), .int .u64 150] 334)).alloc (.cells #[.pointer (some ⟨10, 293, none⟩), .pointer (some ⟨w.heap.size, 0, none⟩), .int .u64 150] 334)).alloc (.cells #[.pointer (some e)] 292))
  (by rw [World.cell?_alloc_at _ _ _ _ (by simp)]; rfl)
  (by rw [World.cell?_alloc_lt _ _ t (by simp; omega), World.cell?_alloc_lt _ _ t (by simp; omega), World.cell?_alloc_lt _ _ t (by simp; omega), World.cell?_alloc_lt _ _ t htl]; exact ht0)
  (by rw [World.frozen?_alloc_old _ _ t (by simp; omega), World.frozen?_alloc_old _ _ t (by simp; omega), World.frozen?_alloc_old _ _ t (by simp; omega), World.frozen?_alloc_old _ _ t (Nat.ne_of_lt htl)]; exact hf0)
 go_enter Tryz.func171, Tryz.ntmps171
 go_wp2
 refine wp_loop_rounds 1 ?_
 rw [rounds_succ]
 go_wp2
 go_ret
 exact ⟨rfl, rfl⟩
theorem asW_typeOf (v : Value) (w : World) : (ReflectliteType.typeOf #[.iface 354 v]).run Tryz.prog w = .ok (.iface 264 (.agg #[.pointer (some ⟨10, 354, none⟩)])) w := by kernel_rfl
theorem asW_assignable (w : World) : (ReflectliteType.relation "AssignableTo" ReflectliteType.assignableTo #[.agg #[.pointer (some ⟨10, 354, none⟩)], .iface 264 (.agg #[.pointer (some ⟨10, 292, none⟩)])]).run Tryz.prog w = .ok (.bool false) w := by kernel_rfl
theorem asW_lacksAs (v : Value) (xT : TypeId) (w : World) : (Instr.typeAssert (.iface 354 v) xT 368 true).run Tryz.prog w = .ok (.tuple #[.nilIface, .bool false]) w := run_typeAssert_lacksB Tryz.underlying368 (by kernel_rfl) (by kernel_rfl) v xT w
theorem asW_hasUnwrap (v : Value) (xT : TypeId) (w : World) : (Instr.typeAssert (.iface 354 v) xT 269 true).run Tryz.prog w = .ok (.tuple #[.iface 354 v, .bool true]) w := run_typeAssert_hasB Tryz.underlying269 (by kernel_rfl) v xT w
theorem asW_method (v : Value) (w : World) : (Go.method 535 354 v "Unwrap").run Tryz.prog w = .ok (346, v) w := by kernel_rfl
theorem unwrap_ok (p : Addr) (u : Value) (w : World) (hp : w.cell? ⟨p.block, p.off + 1, none⟩ = some u) :
  Calls Tryz.prog 346 #[.pointer (some p)] w fun e w' => e = .returned u ∧ w' = w := by
 go_enter Tryz.func346, Tryz.ntmps346
 go_wp2
 go_ret
 exact ⟨rfl, rfl⟩
set_option maxHeartbeats 4000000 in
set_option maxRecDepth 100000 in
theorem as_hitW (p e t : Addr) (part : Value) (old : Value) (w : World) (hg : w.cell? ⟨3, 0, none⟩ = some (.iface 264 (.agg #[.pointer (some ⟨10, 145, none⟩)]))) (ht0 : w.cell? t = some old) (hf0 : w.frozen? t = false) (hp : w.cell? ⟨p.block, p.off + 1, none⟩ = some (.iface 292 (.pointer (some e)))) :
  Calls Tryz.prog 171 #[.iface 354 (.pointer (some p)), .iface 293 (.pointer (some t))] w fun ev w' => ev = .returned (.bool true) ∧ w' = ((((w.alloc (.cells #[.pointer (some t)] 293)).alloc (.cells #[.pointer (some ⟨10, 293, none⟩), .pointer (some ⟨w.heap.size, 0, none⟩), .int .u64 150] 334)).alloc (.cells #[.pointer (some ⟨10, 293, none⟩), .pointer (some ⟨w.heap.size, 0, none⟩), .int .u64 150] 334)).alloc (.cells #[.pointer (some e)] 292)).setCell t (.pointer (some e)) := by
 have h6 := @run_callFunc_extern Tryz.prog 232 _ (fun args => ReflectliteValue.unpack (args.getD 0 (.tuple #[]))) Tryz.func232 (by kernel_rfl) (by kernel_rfl) (by kernel_rfl) (by kernel_rfl)
 have h7 := @run_callFunc_extern Tryz.prog 233 _ (ReflectliteValue.methodAny (ReflectliteValue.valueError "reflectlite.Value.Type" 0) (fun t _ _ _ => ReflectliteType.toType t)) Tryz.func233 (by kernel_rfl) (by kernel_rfl) (by kernel_rfl) (by kernel_rfl)
 have h8 := @run_callFunc_extern Tryz.prog 234 _ (ReflectliteValue.method (ReflectliteValue.valueError "reflectlite.Value.IsNil" 0) ReflectliteValue.isNil) Tryz.func234 (by kernel_rfl) (by kernel_rfl) (by kernel_rfl) (by kernel_rfl)
 have h27 := @run_callFunc_extern Tryz.prog 323 _ (ReflectliteType.abiMethod fun t => do pure (.int .u8 (← Rtype.kind t))) Tryz.func323 (by kernel_rfl) (by kernel_rfl) (by kernel_rfl) (by kernel_rfl)
 have h37 := @run_callFunc_extern Tryz.prog 332 _ (ReflectliteType.method ReflectliteType.elem) Tryz.func332 (by kernel_rfl) (by kernel_rfl) (by kernel_rfl) (by kernel_rfl)
 have h38 := @run_callFunc_extern Tryz.prog 333 _ (ReflectliteType.relation "Implements" ReflectliteType.implements_) Tryz.func333 (by kernel_rfl) (by kernel_rfl) (by kernel_rfl) (by kernel_rfl)
 have h10 := @run_callFunc_extern Tryz.prog 116 _ ReflectliteType.typeOf Tryz.func116 (by kernel_rfl) (by kernel_rfl) (by kernel_rfl) (by kernel_rfl)
 have h35 := @run_callFunc_extern Tryz.prog 330 _ (ReflectliteType.relation "AssignableTo" ReflectliteType.assignableTo) Tryz.func330 (by kernel_rfl) (by kernel_rfl) (by kernel_rfl) (by kernel_rfl)
 have h11 := @run_callFunc_extern Tryz.prog 268 _ (ReflectliteValue.method (ReflectliteValue.valueError "reflectlite.Value.Elem" 0) ReflectliteValue.elem) Tryz.func268 (by kernel_rfl) (by kernel_rfl) (by kernel_rfl) (by kernel_rfl)
 have h12 := @run_callFunc_extern Tryz.prog 269 _ ReflectliteValue.set Tryz.func269 (by kernel_rfl) (by kernel_rfl) (by kernel_rfl) (by kernel_rfl)
 have tO := asH_typeOf25
 have mA := asH_methodAssignableTo
 have a25 := asH_assignable25
 have v25 := asH_valueOf25
 have f6 := asH_valueOf27
 have f7 := asH_type27
 have mK := asH_methodKind
 have mE := asH_methodElem
 have mI := asH_methodImplements
 have k27 := asH_kind27
 have k25 := asH_kind25
 have e27 := asH_elem27
 have i25 := asH_implements25
 have n8 := asH_isNil27 ⟨w.heap.size, 0, none⟩ t ((w.alloc (.cells #[.pointer (some t)] 293)).alloc (.cells #[.pointer (some ⟨10, 293, none⟩), .pointer (some ⟨w.heap.size, 0, none⟩), .int .u64 150] 334)) (by simp)
 have hlt : 3 < w.heap.size := by
  rcases Nat.lt_or_ge 3 w.heap.size with h | h
  ·exact h
  ·simp [World.cell?, Array.getElem?_eq_none h] at hg
 have hg2 : ((w.alloc (.cells #[.pointer (some t)] 293)).alloc (.cells #[.pointer (some ⟨10, 293, none⟩), .pointer (some ⟨w.heap.size, 0, none⟩), .int .u64 150] 334)).cell? ⟨3, 0, none⟩ = some (.iface 264 (.agg #[.pointer (some ⟨10, 145, none⟩)])) := by
  rw [World.cell?_alloc_lt _ _ ⟨3, 0, none⟩ (by simp; omega), World.cell?_alloc_lt _ _ ⟨3, 0, none⟩ hlt]; exact hg
 have htl : t.block < w.heap.size := by
  rcases Nat.lt_or_ge t.block w.heap.size with h | h
  ·exact h
  ·simp [World.cell?, Array.getElem?_eq_none h] at ht0
 have el := asH_elemV27 ⟨w.heap.size, 0, none⟩ t (((w.alloc (.cells #[.pointer (some t)] 293)).alloc (.cells #[.pointer (some ⟨10, 293, none⟩), .pointer (some ⟨w.heap.size, 0, none⟩), .int .u64 150] 334)).alloc (.cells #[.pointer (some ⟨10, 293, none⟩), .pointer (some ⟨w.heap.size, 0, none⟩), .int .u64 150] 334)) (by rw [World.cell?_alloc_lt _ _ ⟨w.heap.size, 0, none⟩ (by simp; omega)]; simp)
 have st := asH_set25 t ⟨w.heap.size + 1 + 1 + 1, 0, none⟩ e old ((((w.alloc (.cells #[.pointer (some t)] 293)).alloc (.cells #[.pointer (some ⟨10, 293, none⟩), .pointer (some ⟨w.heap.size, 0, none⟩), .int .u64 150] 334)).alloc (.cells #[.pointer (some ⟨10, 293, none⟩), .pointer (some ⟨w.heap.size, 0, none⟩), .int .u64 150] 334)).alloc (.cells #[.pointer (some e)] 292))
  (by rw [World.cell?_alloc_at _ _ _ _ (by simp)]; rfl)
  (by rw [World.cell?_alloc_lt _ _ t (by simp; omega), World.cell?_alloc_lt _ _ t (by simp; omega), World.cell?_alloc_lt _ _ t (by simp; omega), World.cell?_alloc_lt _ _ t htl]; exact ht0)
  (by rw [World.frozen?_alloc_old _ _ t (by simp; omega), World.frozen?_alloc_old _ _ t (by simp; omega), World.frozen?_alloc_old _ _ t (by simp; omega), World.frozen?_alloc_old _ _ t (Nat.ne_of_lt htl)]; exact hf0)
 have tP := asW_typeOf
 have aP := asW_assignable
 have nA := asW_lacksAs
 have hU := asW_hasUnwrap
 have mU := asW_method
 have hpl : p.block < w.heap.size := by
  rcases Nat.lt_or_ge p.block w.heap.size with h | h
  ·exact h
  ·simp [World.cell?, Array.getElem?_eq_none h] at hp
 have hp3 : (((w.alloc (.cells #[.pointer (some t)] 293)).alloc (.cells #[.pointer (some ⟨10, 293, none⟩), .pointer (some ⟨w.heap.size, 0, none⟩), .int .u64 150] 334)).alloc (.cells #[.pointer (some ⟨10, 293, none⟩), .pointer (some ⟨w.heap.size, 0, none⟩), .int .u64 150] 334)).cell? ⟨p.block, p.off + 1, none⟩ = some (.iface 292 (.pointer (some e))) := by
  rw [World.cell?_alloc_lt _ _ ⟨p.block, p.off + 1, none⟩ (by simp; omega), World.cell?_alloc_lt _ _ ⟨p.block, p.off + 1, none⟩ (by simp; omega), World.cell?_alloc_lt _ _ ⟨p.block, p.off + 1, none⟩ hpl]; exact hp
 go_enter Tryz.func171, Tryz.ntmps171
 go_wp2
 refine wp_loop_rounds 2 ?_
 rw [rounds_succ]
 go_wp2_with (go_at_call 346; refine (unwrap_ok p _ _ hp3).mono ?_)
 rintro ev w4 ⟨rfl, rfl⟩
 go_wp2
 rw [rounds_succ]
 go_wp2
 go_ret
 exact ⟨rfl, rfl⟩
end Go.Proofs.YtdbekeidlppfiaaGreatDoor.Den
