/- What calls of functions with a contract answer: the seat of law 03. -/
import Derived.Test.YtbidfkibpjjghaaDoorOptCl
import Derived.Test.YtbidfkibpjjghaaDoorShelf
import Derived.Test.YtbidfkibpjjghaaDoorChecked
import Derived.LaidEql
import Derived.Stop.Asserts
import Derived.RowKitTokens
set_option linter.unusedVariables false
set_option linter.unusedSimpArgs false
namespace Go.Proofs.YtbidfkibpjjghaaDoor.Den
open Go Go.RowKit Go.Extern.Stop Go.Stop Go.Extern

/-! ### errors.Is, at sentinels (after the kit's worked example) -/
theorem isTypeOf (v : Value) (w : World) : (Extern.ReflectliteType.typeOf #[.iface 87 v]).run Tryd.prog w = .ok (.iface 71 (.agg #[.pointer (some ⟨3, 87, none⟩)])) w := by kernel_rfl
theorem isComparable (w : World) : ((Extern.ReflectliteType.method fun t => do Extern.Rtype.noPackHeld "Comparable" t; (fun a => Value.bool a.comparable) <$> typeInfo t) #[.agg #[.pointer (some ⟨3, 87, none⟩)]]).run Tryd.prog w = .ok (.bool true) w := by kernel_rfl
theorem isMethodComparable (v : Value) (w : World) : (Go.method 222 71 v "Comparable").run Tryd.prog w = .ok (63, v) w := by kernel_rfl
theorem isComp : (Tryd.prog.info? 87).map (·.comparable) = some true := by kernel_rfl
theorem isSize : (Tryd.prog.info? 111).map (·.size) = some 1 := by kernel_rfl
theorem noIsE (v : Value) (xT : TypeId) (w : World) : (Instr.typeAssert (.iface 87 v) xT 73 true).run Tryd.prog w = .ok (.tuple #[.nilIface, .bool false]) w := run_typeAssert_lacksB Tryd.underlying73 (by kernel_rfl) (by kernel_rfl) v xT w
theorem noUnwrapE (v : Value) (xT : TypeId) (w : World) : (Instr.typeAssert (.iface 87 v) xT 76 true).run Tryd.prog w = .ok (.tuple #[.nilIface, .bool false]) w := run_typeAssert_lacksB Tryd.underlying76 (by kernel_rfl) (by kernel_rfl) v xT w
theorem noUnwrapsE (v : Value) (xT : TypeId) (w : World) : (Instr.typeAssert (.iface 87 v) xT 77 true).run Tryd.prog w = .ok (.tuple #[.nilIface, .bool false]) w := run_typeAssert_lacksB Tryd.underlying77 (by kernel_rfl) (by kernel_rfl) v xT w
theorem is_same (a : Addr) (w : World) :
    Calls Tryd.prog 22 #[.iface 87 (.pointer (some a)), .iface 87 (.pointer (some a))] w fun e w' => e = .returned (.bool true) ∧ w' = w := by
  obtain ⟨i, hi, hcmp⟩ := Option.map_eq_some_iff.1 isComp
  obtain ⟨j, hj, hjs⟩ := Option.map_eq_some_iff.1 isSize
  have h8 := @run_callFunc_extern Tryd.prog 29 _ Extern.ReflectliteType.typeOf Tryd.func29 (by kernel_rfl) (by kernel_rfl) (by kernel_rfl) (by kernel_rfl)
  have h32 := @run_callFunc_extern Tryd.prog 63 _ (Extern.ReflectliteType.method fun t => do Extern.Rtype.noPackHeld "Comparable" t; pure (.bool (← typeInfo t).comparable)) Tryd.func63 (by kernel_rfl) (by kernel_rfl) (by kernel_rfl) (by kernel_rfl)
  have tT := isTypeOf
  have cT := isComparable
  have mR := isMethodComparable
  have heq := run_eql_iface_ptr_same (P := Tryd.prog) w a Tryd.underlying53 Tryd.underlying87 hi hcmp hj
  go_enter Tryd.func22, Tryd.ntmps22
  go_wp2
  refine wp_loop_rounds 1 ?_
  rw [rounds_succ]
  go_wp2
  go_ret
  exact ⟨rfl, rfl⟩
theorem is_nil (b : Addr) (w : World) :
    Calls Tryd.prog 22 #[.nilIface, .iface 87 (.pointer (some b))] w fun e w' => e = .returned (.bool false) ∧ w' = w := by
  have hn := run_eql_iface_nil_left (P := Tryd.prog) w 87 (.pointer (some b)) Tryd.underlying53
  go_enter Tryd.func22, Tryd.ntmps22
  go_wp2
  go_ret
  exact ⟨rfl, rfl⟩
theorem is_other (a b : Addr) (ca cb : Array Value) (ta tb : TypeId) (w : World) (hne : a ≠ b) (ha : w.heap[a.block]? = some (.cells ca ta (0, 0))) (hb : w.heap[b.block]? = some (.cells cb tb (0, 0))) :
    Calls Tryd.prog 22 #[.iface 87 (.pointer (some a)), .iface 87 (.pointer (some b))] w fun e w' => e = .returned (.bool false) ∧ w' = w := by
  obtain ⟨i, hi, hcmp⟩ := Option.map_eq_some_iff.1 isComp
  obtain ⟨j, hj, hjs⟩ := Option.map_eq_some_iff.1 isSize
  have h8 := @run_callFunc_extern Tryd.prog 29 _ Extern.ReflectliteType.typeOf Tryd.func29 (by kernel_rfl) (by kernel_rfl) (by kernel_rfl) (by kernel_rfl)
  have h32 := @run_callFunc_extern Tryd.prog 63 _ (Extern.ReflectliteType.method fun t => do Extern.Rtype.noPackHeld "Comparable" t; pure (.bool (← typeInfo t).comparable)) Tryd.func63 (by kernel_rfl) (by kernel_rfl) (by kernel_rfl) (by kernel_rfl)
  have tT := isTypeOf
  have cT := isComparable
  have mR := isMethodComparable
  have nE := noIsE
  have uE := noUnwrapE
  have vE := noUnwrapsE
  have heq := run_eql_iface_ptr_other (P := Tryd.prog) w Tryd.underlying53 Tryd.underlying87 hi hcmp hj (by rw [hjs]; decide) hne ha hb
  go_enter Tryd.func22, Tryd.ntmps22
  go_wp2
  refine wp_loop_rounds 1 ?_
  rw [rounds_succ]
  go_wp2
  go_ret
  exact ⟨rfl, rfl⟩

/-! ### as Den has them -/
def G0 : Glo := fun g => if g = 0 then some [.ifc 87 (.far 0)] else if g = 1 then some [.ifc 87 (.far 1)] else if g = 2 then some [.unk] else none
theorem G0_at {k : Nat} (h : k < 2) : G0 k = some [.ifc 87 (.far k)] := by
  match k, h with
  | 0, _ => rfl
  | 1, _ => rfl
def xIs : Ans := fun l => match l with
  | [.v .nilIface, .ifc t (.far b)] => if t = 87 then some (pB0 false) else none
  | [.ifc t (.far a), .ifc t' (.far b)] => if t = 87 ∧ t' = 87 ∧ a < 2 ∧ b < 2 then some (pB0 (a == b)) else none
  | _ => none
where pB0 (b : Bool) : PV := .v (.bool b)
theorem ifc_inv {c : Ctx} {t : TypeId} {x : PV} {u : Value} (h : VR c (.ifc t x) u) : ∃ v, u = .iface t v ∧ VR c x v := by cases h with | ifc _ _ v hx => exact ⟨v, rfl, hx⟩
theorem far_inv {c : Ctx} {k : Nat} {u : Value} (h : VR c (.far k) u) : u = .pointer (some (c.F k)) := by cases h; rfl
theorem xIs_ok : PlainOk Tryd.prog G0 22 xIs := by
  intro cargs r h c vs hcl hl ha hg hS
  unfold xIs at h
  split at h
  · split at h
    case isFalse => cases h
    rename_i ht
    subst ht
    cases h
    obtain ⟨u, v, rfl⟩ := args2 hl
    have hu := v_inv (ha 0 _ u rfl rfl)
    obtain ⟨z, rfl, hz⟩ := ifc_inv (ha 1 _ v rfl rfl)
    have hz := far_inv hz
    subst hu hz
    exact out_v (fun c => .v _) rfl ((is_nil _ c.w).mono fun e w' ⟨he, hw⟩ => ⟨he, by rw [hw]; exact Below.refl _ _⟩)
  · rename_i t a t' b
    split at h
    case isFalse => cases h
    rename_i ht
    obtain ⟨rfl, rfl, ha2, hb2⟩ := ht
    cases h
    obtain ⟨u, v, rfl⟩ := args2 hl
    obtain ⟨y, rfl, hy⟩ := ifc_inv (ha 0 _ u rfl rfl)
    obtain ⟨z, rfl, hz⟩ := ifc_inv (ha 1 _ v rfl rfl)
    have hy := far_inv hy
    have hz := far_inv hz
    subst hy hz
    by_cases hab : a = b
    · subst hab
      have e1 : (a == a) = true := by simp
      rw [e1]
      exact out_v (fun c => .v _) rfl ((is_same _ c.w).mono fun e w' ⟨he, hw⟩ => ⟨he, by rw [hw]; exact Below.refl _ _⟩)
    · have e1 : (a == b) = false := by simpa using hab
      rw [e1]
      obtain ⟨ca, ta, h1⟩ := hg.far _ _ _ (G0_at ha2)
      obtain ⟨cb, tb, h2⟩ := hg.far _ _ _ (G0_at hb2)
      exact out_v (fun c => .v _) rfl ((is_other _ _ ca cb ta tb c.w (fun e => hab (hg.inj _ _ _ _ _ _ (G0_at ha2) (G0_at hb2) e)) h1 h2).mono fun e w' ⟨he, hw⟩ => ⟨he, by rw [hw]; exact Below.refl _ _⟩)
  · cases h

/-! ### texts -/
def ixbV (s : ByteArray) (c : Int) : Int := Lib.indexByte s.data.toList c.toNat.toUInt8
def conV (s t : ByteArray) : Bool := Lib.contains s.data.toList t.data.toList
def xIxb : Ans := fun l => match l with
  | [.v (.string s), .v (.int .u8 c)] => some (.v (.int .i64 (ixbV s c)))
  | _ => none
theorem xIxb_ok (G : Glo) : PlainOk Tryd.prog G 35 xIxb := by
  intro cargs r h c vs hcl hl ha hg hS
  unfold xIxb at h
  split at h
  case h_2 => cases h
  cases h
  obtain ⟨u, v, rfl⟩ := args2 hl
  have hu := v_inv (ha 0 _ u rfl rfl)
  have hv := v_inv (ha 1 _ v rfl rfl)
  subst hu hv
  exact out_v (fun c => .v _) rfl ((Tryd.strings_IndexByte _ _ c.w).mono fun e w' ⟨he, hw⟩ => ⟨he, by rw [hw]; exact Below.refl _ _⟩)
def xCon : Ans := fun l => match l with
  | [.v (.string s), .v (.string t)] => if s.size < 4294967281 then some (.v (.bool (conV s t))) else none
  | _ => none
theorem xCon_ok : PlainOk Tryd.prog G0 36 xCon := by
  intro cargs r h c vs hcl hl ha hg hS
  unfold xCon at h
  split at h
  case h_2 => cases h
  split at h
  case isFalse => cases h
  rename_i hs
  cases h
  obtain ⟨u, v, rfl⟩ := args2 hl
  have hu := v_inv (ha 0 _ u rfl rfl)
  have hv := v_inv (ha 1 _ v rfl rfl)
  subst hu hv
  obtain ⟨m, hm⟩ := hg.num 2 rfl
  exact out_v (fun c => .v _) rfl ((Tryd.strings_Contains _ _ m c.w hs hm.2).mono fun e w' ⟨he, hw⟩ => ⟨he, by rw [hw]; exact Below.refl _ _⟩)
end Go.Proofs.YtbidfkibpjjghaaDoor.Den
