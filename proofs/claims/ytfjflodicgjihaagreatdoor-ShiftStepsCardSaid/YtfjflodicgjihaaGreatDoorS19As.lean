/- errors.As at a refusal, after the kit's worked example, turned to this seat's numbers. (Printed by gen/as_s19.py.) -/
import Derived.Test.YtfjflodicgjihaaGreatDoorS19Is
import Derived.WalkKit
set_option linter.unusedVariables false
set_option linter.unusedSimpArgs false
namespace Go.Proofs.YtfjflodicgjihaaGreatDoor.Den
open Go Go.RowKit Go.Extern.Stop Go.Stop Go.Extern

/-- errors.As(nil, target). -/
theorem as_nil (t : Value) (w : World) :
    Calls Tryz.prog 161 #[.nilIface, t] w fun e w' => e = .returned (.bool false) ∧ w' = w := by
  go_enter Tryz.func161, Tryz.ntmps161
  go_wp2
  go_ret
  exact ⟨rfl, rfl⟩

/-! ### CLOSED FACTS ON THE MODEL's ENTRIES FOR internal/reflectlite, at this program's types: 25: *p.E · 27: **p.E · 23: error · 45: reflectlite's rtype · 1: how many package-level variables the dump has -/
theorem asR_valueOf27 (t : Addr) (w : World) : (ReflectliteValue.unpack (.iface 379 (.pointer (some t)))).run Tryz.prog w
    = .ok (.agg #[.pointer (some ⟨10, 379, none⟩), .pointer (some ⟨w.heap.size, 0, none⟩), .int .u64 150]) (w.alloc (.cells #[.pointer (some t)] 379)) := by kernel_rfl
theorem asR_type27 (a : Addr) (w : World) : (ReflectliteValue.methodAny (ReflectliteValue.valueError "reflectlite.Value.Type" 0) (fun t _ _ _ => ReflectliteType.toType t) #[.agg #[.pointer (some ⟨10, 379, none⟩), .pointer (some a), .int .u64 150]]).run Tryz.prog w
    = .ok (.iface 264 (.agg #[.pointer (some ⟨10, 379, none⟩)])) w := by kernel_rfl
theorem asR_methodKind (h : Value) (w : World) : (Go.method 533 264 (.agg #[h]) "Kind").run Tryz.prog w = .ok (315, h) w := by kernel_rfl
theorem asR_kind27 (w : World) : ((ReflectliteType.abiMethod fun t => (fun a : Nat => Value.int IntKind.u8 (a : Int)) <$> Rtype.kind t) #[.pointer (some ⟨10, 379, none⟩)]).run Tryz.prog w = .ok (.int .u8 22) w := by kernel_rfl
theorem asR_kind25 (w : World) : ((ReflectliteType.abiMethod fun t => (fun a : Nat => Value.int IntKind.u8 (a : Int)) <$> Rtype.kind t) #[.pointer (some ⟨10, 309, none⟩)]).run Tryz.prog w = .ok (.int .u8 2) w := by kernel_rfl

/-! ### THE ENTRIES THAT READ OR WRITE MEMORY: laws with a premise on the cell (after Derived/Lib/ReflectliteSlice.lean's manner: each unfolding a lemma of its own, by rfl) -/
theorem rlm (z : Sem Value) (f : TypeId → Addr → Nat → Nat → Sem Value) (v : Value) :
    ReflectliteValue.method z f #[v] = (do match ← ReflectliteValue.parts v with | none => z | some (t, a, fl) => f t a fl (fl % 32)) := rfl
theorem asR_parts27 (a : Addr) (w : World) : (ReflectliteValue.parts (.agg #[.pointer (some ⟨10, 379, none⟩), .pointer (some a), .int .u64 150])).run Tryz.prog w = .ok (some (379, a, 150)) w := by kernel_rfl
/-- (Value).IsNil at the Value of a **p.E that is not nil. -/
theorem asR_isNil27 (a p : Addr) (W : World) (ha : W.cell? a = some (.pointer (some p))) :
    (ReflectliteValue.method (ReflectliteValue.valueError "reflectlite.Value.IsNil" 0) ReflectliteValue.isNil #[.agg #[.pointer (some ⟨10, 379, none⟩), .pointer (some a), .int .u64 150]]).run Tryz.prog W = .ok (.bool false) W := by
  rw [rlm]
  simp only [Sem.run_bind, asR_parts27, Result.andThen]
  simp [ReflectliteValue.isNil, loadVar, isAgg, underlying, Tryz.underlying379, ha, Result.andThen]

theorem asR_methodElem (h : Value) (w : World) : (Go.method 533 264 (.agg #[h]) "Elem").run Tryz.prog w = .ok (324, .agg #[h]) w := by kernel_rfl
theorem asR_methodImplements (h : Value) (w : World) : (Go.method 533 264 (.agg #[h]) "Implements").run Tryz.prog w = .ok (325, .agg #[h]) w := by kernel_rfl
theorem asR_methodAssignableTo (h : Value) (w : World) : (Go.method 533 264 (.agg #[h]) "AssignableTo").run Tryz.prog w = .ok (322, .agg #[h]) w := by kernel_rfl
theorem asR_elem27 (w : World) : (ReflectliteType.method ReflectliteType.elem #[.agg #[.pointer (some ⟨10, 379, none⟩)]]).run Tryz.prog w = .ok (.iface 264 (.agg #[.pointer (some ⟨10, 309, none⟩)])) w := by kernel_rfl
theorem asR_implements25 (w : World) : (ReflectliteType.relation "Implements" ReflectliteType.implements_ #[.agg #[.pointer (some ⟨10, 309, none⟩)], .iface 264 (.agg #[.pointer (some ⟨10, 141, none⟩)])]).run Tryz.prog w = .ok (.bool true) w := by kernel_rfl
theorem asR_typeOf25 (v : Value) (w : World) : (ReflectliteType.typeOf #[.iface 309 v]).run Tryz.prog w = .ok (.iface 264 (.agg #[.pointer (some ⟨10, 309, none⟩)])) w := by kernel_rfl
theorem asR_assignable25 (w : World) : (ReflectliteType.relation "AssignableTo" ReflectliteType.assignableTo #[.agg #[.pointer (some ⟨10, 309, none⟩)], .iface 264 (.agg #[.pointer (some ⟨10, 309, none⟩)])]).run Tryz.prog w = .ok (.bool true) w := by kernel_rfl
theorem asR_valueOf25 (e : Int) (w : World) : (ReflectliteValue.unpack (.iface 309 (.int .i64 e))).run Tryz.prog w
    = .ok (.agg #[.pointer (some ⟨10, 309, none⟩), .pointer (some ⟨w.heap.size, 0, none⟩), .int .u64 130]) (w.alloc (.cells #[.int .i64 e] 309)) := by kernel_rfl

theorem asR_elemOf27 (w : World) : (Rtype.elem? 379).run Tryz.prog w = .ok (some 309) w := by kernel_rfl
theorem asR_mk25 (p : Addr) (w : World) : (ReflectliteValue.mk 309 p ReflectliteValue.flagAddr).run Tryz.prog w = .ok (.agg #[.pointer (some ⟨10, 309, none⟩), .pointer (some p), .int .u64 386]) w := by kernel_rfl
/-- (Value).Elem at the Value of a **p.E that is not nil: the Value of the *p.E variable that it points to, addressable. -/
theorem asR_elemV27 (a p : Addr) (W : World) (ha : W.cell? a = some (.pointer (some p))) :
    (ReflectliteValue.method (ReflectliteValue.valueError "reflectlite.Value.Elem" 0) ReflectliteValue.elem #[.agg #[.pointer (some ⟨10, 379, none⟩), .pointer (some a), .int .u64 150]]).run Tryz.prog W
      = .ok (.agg #[.pointer (some ⟨10, 309, none⟩), .pointer (some p), .int .u64 386]) W := by
  rw [rlm]
  simp only [Sem.run_bind, asR_parts27, Result.andThen]
  simp [ReflectliteValue.elem, loadVar, isAgg, underlying, Tryz.underlying379, ha, Result.andThen, asR_elemOf27, asR_mk25]
theorem rls (v x : Value) : ReflectliteValue.set #[v, x] = (do
    let (some (dst, a, fl), some (src, b, _)) := (← ReflectliteValue.parts v, ← ReflectliteValue.parts x)
      | unsupported (.noEntry "extern/(internal/reflectlite.Value).Set.zeroValue")
    if fl / ReflectliteValue.flagAddr % 2 == 0 then unsupported (.noEntry "extern/(internal/reflectlite.Value).Set.unaddressable")
    let val ← loadVar src b
    if ← Rtype.directlyAssignable dst src then storeVar dst a val
    else if ← Rtype.implements dst src then
      if (← Rtype.kind src) == 20 then
        match val with
        | .nilIface => unsupported (.noEntry "extern/reflectlite: a nil value of one interface type handed on as a value of another")
        | _ => storeVar dst a val
      else storeVar dst a (.iface src val)
    else panicString ("reflectlite.Set: value of type " ++ (← Rtype.spelt src) ++ " is not assignable to type " ++ (← Rtype.spelt dst))
    pure (.tuple #[])) := rfl
theorem asR_parts25a (a : Addr) (w : World) : (ReflectliteValue.parts (.agg #[.pointer (some ⟨10, 309, none⟩), .pointer (some a), .int .u64 386])).run Tryz.prog w = .ok (some (309, a, 386)) w := by kernel_rfl
theorem asR_parts25 (a : Addr) (w : World) : (ReflectliteValue.parts (.agg #[.pointer (some ⟨10, 309, none⟩), .pointer (some a), .int .u64 130])).run Tryz.prog w = .ok (some (309, a, 130)) w := by kernel_rfl
theorem asR_direct25 (w : World) : (Rtype.directlyAssignable 309 309).run Tryz.prog w = .ok true w := by kernel_rfl
theorem asR_size25 (w : World) : (sizeOf 309).run Tryz.prog w = .ok 1 w := by kernel_rfl
/-- (Value).Set: the *p.E variable at 'ta' gets what the Value's own variable 'b' holds. -/
theorem asR_set25 (ta b : Addr) (e : Int) (old : Value) (W : World) (hb : W.cell? b = some (.int .i64 e)) (ht : W.cell? ta = some old) (hf : W.frozen? ta = false) :
    (ReflectliteValue.set #[.agg #[.pointer (some ⟨10, 309, none⟩), .pointer (some ta), .int .u64 386], .agg #[.pointer (some ⟨10, 309, none⟩), .pointer (some b), .int .u64 130]]).run Tryz.prog W
      = .ok (.tuple #[]) (W.setCell ta (.int .i64 e)) := by
  rw [rls]
  simp only [Sem.run_bind, asR_parts25a, asR_parts25, Result.andThen]
  simp [ReflectliteValue.flagAddr, loadVar, isAgg, underlying, Tryz.underlying309, hb, Result.andThen, asR_direct25, storeVar, Value.cells, storeCells, Addr.add]
  rw [run_store Tryz.prog W ta _ _ (by rfl)]
  simp [ht, hf]

set_option maxHeartbeats 4000000 in
theorem as_hit (e : Int) (t : Addr) (old : Value) (w : World) (hg : w.cell? ⟨4, 0, none⟩ = some (.iface 264 (.agg #[.pointer (some ⟨10, 141, none⟩)]))) (ht0 : w.cell? t = some old) (hf0 : w.frozen? t = false) :
    Calls Tryz.prog 161 #[.iface 309 (.int .i64 e), .iface 379 (.pointer (some t))] w fun ev w' => ev = .returned (.bool true) ∧ w' = ((((w.alloc (.cells #[.pointer (some t)] 379)).alloc (.cells #[.pointer (some ⟨10, 379, none⟩), .pointer (some ⟨w.heap.size, 0, none⟩), .int .u64 150] 329)).alloc (.cells #[.pointer (some ⟨10, 379, none⟩), .pointer (some ⟨w.heap.size, 0, none⟩), .int .u64 150] 329)).alloc (.cells #[.int .i64 e] 309)).setCell t (.int .i64 e) := by
  have h6 := @run_callFunc_extern Tryz.prog 221 _ (fun args => ReflectliteValue.unpack (args.getD 0 (.tuple #[]))) Tryz.func221 (by kernel_rfl) (by kernel_rfl) (by kernel_rfl) (by kernel_rfl)
  have h7 := @run_callFunc_extern Tryz.prog 222 _ (ReflectliteValue.methodAny (ReflectliteValue.valueError "reflectlite.Value.Type" 0) (fun t _ _ _ => ReflectliteType.toType t)) Tryz.func222 (by kernel_rfl) (by kernel_rfl) (by kernel_rfl) (by kernel_rfl)
  have h8 := @run_callFunc_extern Tryz.prog 223 _ (ReflectliteValue.method (ReflectliteValue.valueError "reflectlite.Value.IsNil" 0) ReflectliteValue.isNil) Tryz.func223 (by kernel_rfl) (by kernel_rfl) (by kernel_rfl) (by kernel_rfl)
  have h27 := @run_callFunc_extern Tryz.prog 315 _ (ReflectliteType.abiMethod fun t => do pure (.int .u8 (← Rtype.kind t))) Tryz.func315 (by kernel_rfl) (by kernel_rfl) (by kernel_rfl) (by kernel_rfl)
  have h37 := @run_callFunc_extern Tryz.prog 324 _ (ReflectliteType.method ReflectliteType.elem) Tryz.func324 (by kernel_rfl) (by kernel_rfl) (by kernel_rfl) (by kernel_rfl)
  have h38 := @run_callFunc_extern Tryz.prog 325 _ (ReflectliteType.relation "Implements" ReflectliteType.implements_) Tryz.func325 (by kernel_rfl) (by kernel_rfl) (by kernel_rfl) (by kernel_rfl)
  have h10 := @run_callFunc_extern Tryz.prog 107 _ ReflectliteType.typeOf Tryz.func107 (by kernel_rfl) (by kernel_rfl) (by kernel_rfl) (by kernel_rfl)
  have h35 := @run_callFunc_extern Tryz.prog 322 _ (ReflectliteType.relation "AssignableTo" ReflectliteType.assignableTo) Tryz.func322 (by kernel_rfl) (by kernel_rfl) (by kernel_rfl) (by kernel_rfl)
  have h11 := @run_callFunc_extern Tryz.prog 255 _ (ReflectliteValue.method (ReflectliteValue.valueError "reflectlite.Value.Elem" 0) ReflectliteValue.elem) Tryz.func255 (by kernel_rfl) (by kernel_rfl) (by kernel_rfl) (by kernel_rfl)
  have h12 := @run_callFunc_extern Tryz.prog 256 _ ReflectliteValue.set Tryz.func256 (by kernel_rfl) (by kernel_rfl) (by kernel_rfl) (by kernel_rfl)
  have tO := asR_typeOf25
  have mA := asR_methodAssignableTo
  have a25 := asR_assignable25
  have v25 := asR_valueOf25
  have f6 := asR_valueOf27
  have f7 := asR_type27
  have mK := asR_methodKind
  have mE := asR_methodElem
  have mI := asR_methodImplements
  have k27 := asR_kind27
  have k25 := asR_kind25
  have e27 := asR_elem27
  have i25 := asR_implements25
  have n8 := asR_isNil27 ⟨w.heap.size, 0, none⟩ t ((w.alloc (.cells #[.pointer (some t)] 379)).alloc (.cells #[.pointer (some ⟨10, 379, none⟩), .pointer (some ⟨w.heap.size, 0, none⟩), .int .u64 150] 329)) (by simp)
  have hlt : 4 < w.heap.size := by
    rcases Nat.lt_or_ge 4 w.heap.size with h | h
    · exact h
    · simp [World.cell?, Array.getElem?_eq_none h] at hg
  have hg2 : ((w.alloc (.cells #[.pointer (some t)] 379)).alloc (.cells #[.pointer (some ⟨10, 379, none⟩), .pointer (some ⟨w.heap.size, 0, none⟩), .int .u64 150] 329)).cell? ⟨4, 0, none⟩ = some (.iface 264 (.agg #[.pointer (some ⟨10, 141, none⟩)])) := by
    rw [World.cell?_alloc_lt _ _ ⟨4, 0, none⟩ (by simp; omega), World.cell?_alloc_lt _ _ ⟨4, 0, none⟩ hlt]; exact hg
  have htl : t.block < w.heap.size := by
    rcases Nat.lt_or_ge t.block w.heap.size with h | h
    · exact h
    · simp [World.cell?, Array.getElem?_eq_none h] at ht0
  have el := asR_elemV27 ⟨w.heap.size, 0, none⟩ t (((w.alloc (.cells #[.pointer (some t)] 379)).alloc (.cells #[.pointer (some ⟨10, 379, none⟩), .pointer (some ⟨w.heap.size, 0, none⟩), .int .u64 150] 329)).alloc (.cells #[.pointer (some ⟨10, 379, none⟩), .pointer (some ⟨w.heap.size, 0, none⟩), .int .u64 150] 329)) (by rw [World.cell?_alloc_lt _ _ ⟨w.heap.size, 0, none⟩ (by simp; omega)]; simp)
  have st := asR_set25 t ⟨w.heap.size + 1 + 1 + 1, 0, none⟩ e old ((((w.alloc (.cells #[.pointer (some t)] 379)).alloc (.cells #[.pointer (some ⟨10, 379, none⟩), .pointer (some ⟨w.heap.size, 0, none⟩), .int .u64 150] 329)).alloc (.cells #[.pointer (some ⟨10, 379, none⟩), .pointer (some ⟨w.heap.size, 0, none⟩), .int .u64 150] 329)).alloc (.cells #[.int .i64 e] 309))
    (by rw [World.cell?_alloc_at _ _ _ _ (by simp)]; rfl)
    (by rw [World.cell?_alloc_lt _ _ t (by simp; omega), World.cell?_alloc_lt _ _ t (by simp; omega), World.cell?_alloc_lt _ _ t (by simp; omega), World.cell?_alloc_lt _ _ t htl]; exact ht0)
    (by rw [World.frozen?_alloc_old _ _ t (by simp; omega), World.frozen?_alloc_old _ _ t (by simp; omega), World.frozen?_alloc_old _ _ t (by simp; omega), World.frozen?_alloc_old _ _ t (Nat.ne_of_lt htl)]; exact hf0)
  go_enter Tryz.func161, Tryz.ntmps161
  go_wp2
  refine wp_loop_rounds 1 ?_
  rw [rounds_succ]
  go_wp2
  go_ret
  exact ⟨rfl, rfl⟩
end Go.Proofs.YtfjflodicgjihaaGreatDoor.Den
