/- Texts joined by a program of mine (pack.py): S19Is. -/
import Derived.Test.YtdbekeidlppfiaaGreatDoorS19C
import Derived.LaidEql
import Derived.Stop.Asserts
set_option linter.unusedVariables false
set_option linter.unusedSimpArgs false
namespace Go.Proofs.YtdbekeidlppfiaaGreatDoor.Den
open Go Go.RowKit Go.Extern.Stop Go.Stop Go.Extern
theorem isTypeOf (v : Value) (w : World) : (Extern.ReflectliteType.typeOf #[.iface 403 v]).run Tryz.prog w = .ok (.iface 264 (.agg #[.pointer (some ⟨10, 403, none⟩)])) w := by kernel_rfl
theorem isComparable (w : World) : ((Extern.ReflectliteType.method fun t => do Extern.Rtype.noPackHeld "Comparable" t; (fun a => Value.bool a.comparable) <$> typeInfo t) #[.agg #[.pointer (some ⟨10, 403, none⟩)]]).run Tryz.prog w = .ok (.bool true) w := by kernel_rfl
theorem isMethodComparable (v : Value) (w : World) : (Go.method 535 264 v "Comparable").run Tryz.prog w = .ok (331, v) w := by kernel_rfl
theorem isComp : (Tryz.prog.info? 403).map (·.comparable) = some true := by kernel_rfl
theorem isSize : (Tryz.prog.info? 423).map (·.size) = some 1 := by kernel_rfl
theorem noIsE (v : Value) (xT : TypeId) (w : World) : (Instr.typeAssert (.iface 403 v) xT 266 true).run Tryz.prog w = .ok (.tuple #[.nilIface, .bool false]) w := run_typeAssert_lacksB Tryz.underlying266 (by kernel_rfl) (by kernel_rfl) v xT w
theorem noUnwrapE (v : Value) (xT : TypeId) (w : World) : (Instr.typeAssert (.iface 403 v) xT 269 true).run Tryz.prog w = .ok (.tuple #[.nilIface, .bool false]) w := run_typeAssert_lacksB Tryz.underlying269 (by kernel_rfl) (by kernel_rfl) v xT w
theorem noUnwrapsE (v : Value) (xT : TypeId) (w : World) : (Instr.typeAssert (.iface 403 v) xT 270 true).run Tryz.prog w = .ok (.tuple #[.nilIface, .bool false]) w := run_typeAssert_lacksB Tryz.underlying270 (by kernel_rfl) (by kernel_rfl) v xT w
set_option maxRecDepth 100000 in
theorem is_same (a : Addr) (w : World) :
  Calls Tryz.prog 68 #[.iface 403 (.pointer (some a)), .iface 403 (.pointer (some a))] w fun e w' => e = .returned (.bool true) ∧ w' = w := by
 obtain ⟨i, hi, hcmp⟩ := Option.map_eq_some_iff.1 isComp
 obtain ⟨j, hj, hjs⟩ := Option.map_eq_some_iff.1 isSize
 have h8 := @run_callFunc_extern Tryz.prog 116 _ Extern.ReflectliteType.typeOf Tryz.func116 (by kernel_rfl) (by kernel_rfl) (by kernel_rfl) (by kernel_rfl)
 have h32 := @run_callFunc_extern Tryz.prog 331 _ (Extern.ReflectliteType.method fun t => do Extern.Rtype.noPackHeld "Comparable" t; pure (.bool (← typeInfo t).comparable)) Tryz.func331 (by kernel_rfl) (by kernel_rfl) (by kernel_rfl) (by kernel_rfl)
 have tT := isTypeOf
 have cT := isComparable
 have mR := isMethodComparable
 have heq := run_eql_iface_ptr_same (P := Tryz.prog) w a Tryz.underlying145 Tryz.underlying403 hi hcmp hj
 go_enter Tryz.func68, Tryz.ntmps68
 go_wp2
 refine wp_loop_rounds 1 ?_
 rw [rounds_succ]
 go_wp2
 go_ret
 exact ⟨rfl, rfl⟩
set_option maxRecDepth 100000 in
theorem is_nil (b : Addr) (w : World) :
  Calls Tryz.prog 68 #[.nilIface, .iface 403 (.pointer (some b))] w fun e w' => e = .returned (.bool false) ∧ w' = w := by
 have hn := run_eql_iface_nil_left (P := Tryz.prog) w 403 (.pointer (some b)) Tryz.underlying145
 go_enter Tryz.func68, Tryz.ntmps68
 go_wp2
 go_ret
 exact ⟨rfl, rfl⟩
set_option maxRecDepth 100000 in
theorem is_other (a b : Addr) (ca cb : Array Value) (ta tb : TypeId) (w : World) (hne : a ≠ b) (ha : w.heap[a.block]? = some (.cells ca ta (0, 0))) (hb : w.heap[b.block]? = some (.cells cb tb (0, 0))) :
  Calls Tryz.prog 68 #[.iface 403 (.pointer (some a)), .iface 403 (.pointer (some b))] w fun e w' => e = .returned (.bool false) ∧ w' = w := by
 obtain ⟨i, hi, hcmp⟩ := Option.map_eq_some_iff.1 isComp
 obtain ⟨j, hj, hjs⟩ := Option.map_eq_some_iff.1 isSize
 have h8 := @run_callFunc_extern Tryz.prog 116 _ Extern.ReflectliteType.typeOf Tryz.func116 (by kernel_rfl) (by kernel_rfl) (by kernel_rfl) (by kernel_rfl)
 have h32 := @run_callFunc_extern Tryz.prog 331 _ (Extern.ReflectliteType.method fun t => do Extern.Rtype.noPackHeld "Comparable" t; pure (.bool (← typeInfo t).comparable)) Tryz.func331 (by kernel_rfl) (by kernel_rfl) (by kernel_rfl) (by kernel_rfl)
 have tT := isTypeOf
 have cT := isComparable
 have mR := isMethodComparable
 have nE := noIsE
 have uE := noUnwrapE
 have vE := noUnwrapsE
 have heq := run_eql_iface_ptr_other (P := Tryz.prog) w Tryz.underlying145 Tryz.underlying403 hi hcmp hj (by rw [hjs]; decide) hne ha hb
 go_enter Tryz.func68, Tryz.ntmps68
 go_wp2
 refine wp_loop_rounds 1 ?_
 rw [rounds_succ]
 go_wp2
 go_ret
 exact ⟨rfl, rfl⟩
theorem noIsR (v : Value) (xT : TypeId) (w : World) : (Instr.typeAssert (.iface 312 v) xT 266 true).run Tryz.prog w = .ok (.tuple #[.nilIface, .bool false]) w := run_typeAssert_lacksB Tryz.underlying266 (by kernel_rfl) (by kernel_rfl) v xT w
theorem noUnwrapR (v : Value) (xT : TypeId) (w : World) : (Instr.typeAssert (.iface 312 v) xT 269 true).run Tryz.prog w = .ok (.tuple #[.nilIface, .bool false]) w := run_typeAssert_lacksB Tryz.underlying269 (by kernel_rfl) (by kernel_rfl) v xT w
theorem noUnwrapsR (v : Value) (xT : TypeId) (w : World) : (Instr.typeAssert (.iface 312 v) xT 270 true).run Tryz.prog w = .ok (.tuple #[.nilIface, .bool false]) w := run_typeAssert_lacksB Tryz.underlying270 (by kernel_rfl) (by kernel_rfl) v xT w
theorem eqR (n : Int) (a : Addr) (w : World) : (binOp .eql 145 (.iface 312 (.int .i64 n)) (.iface 403 (.pointer (some a)))).run Tryz.prog w = .ok (.bool false) w := by
 have h : ∀ d : Nat, (Op.equalIn (d + 1) 145 (.iface 312 (.int .i64 n)) (.iface 403 (.pointer (some a)))).run Tryz.prog w = .ok false w := fun d => by simp [Op.equalIn, run_underlying Tryz.underlying145]
 simp only [binOp]
 simp [Op.equal, Op.maxDepth, h 9999]
set_option maxRecDepth 100000 in
theorem is_val (n : Int) (a : Addr) (w : World) :
  Calls Tryz.prog 68 #[.iface 312 (.int .i64 n), .iface 403 (.pointer (some a))] w fun e w' => e = .returned (.bool false) ∧ w' = w := by
 have h8 := @run_callFunc_extern Tryz.prog 116 _ Extern.ReflectliteType.typeOf Tryz.func116 (by kernel_rfl) (by kernel_rfl) (by kernel_rfl) (by kernel_rfl)
 have h32 := @run_callFunc_extern Tryz.prog 331 _ (Extern.ReflectliteType.method fun t => do Extern.Rtype.noPackHeld "Comparable" t; pure (.bool (← typeInfo t).comparable)) Tryz.func331 (by kernel_rfl) (by kernel_rfl) (by kernel_rfl) (by kernel_rfl)
 have tT := isTypeOf
 have cT := isComparable
 have mR := isMethodComparable
 have nE := noIsR
 have uE := noUnwrapR
 have vE := noUnwrapsR
 have heq := eqR n a w
 go_enter Tryz.func68, Tryz.ntmps68
 go_wp2
 refine wp_loop_rounds 1 ?_
 rw [rounds_succ]
 go_wp2
 go_ret
 exact ⟨rfl, rfl⟩
end Go.Proofs.YtdbekeidlppfiaaGreatDoor.Den
