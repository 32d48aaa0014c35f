/- Texts joined by a program of mine (pack.py): S19S. -/
import Derived.Test.YtdbekeidlppfiaaGreatDoorS19Z
import Derived.Lib.QuietBelow
set_option linter.unusedVariables false
set_option linter.unusedSimpArgs false
namespace Go.Proofs.YtdbekeidlppfiaaGreatDoor.Den
open Go Go.RowKit
theorem var_of {P : Program} {w : World} {name : String} {g : Nat} {vs : Array Value} {E : TypeId} (hn : P.globalNamed name = some g) (h : w.heap[g]? = some (.cells vs E (0, 0))) : w.var? P name = some vs := by
 unfold World.var?
 simp [hn, h]
theorem tab_of {c : Ctx} {k : IntKind} {l : List Int} {g : Nat} (h : VR c (.eptr (tabP k l)) (.pointer (some ⟨g, 0, none⟩))) {vs : Array Value} {E : TypeId} (hv : c.w.heap[g]? = some (.cells vs E (0, 0))) (hs : vs.size = l.length) :
  vs = (l.map fun z => Value.int k z).toArray := by
 apply Array.ext
 ·simp [hs]
 ·intro i h1 h2
  have hi : i < l.length := by rw [← hs]; exact h1
  cases h with
  | eptr cs g off us hcl hx hw =>
   obtain ⟨q1, q2⟩ := hw i (by simpa [tabP] using hi)
   have q3 := v_inv (hx i (.v (.int k l[i])) (by simp [tabP, List.getElem?_map, List.getElem?_eq_getElem hi]))
   have q4 : c.w.cell? ⟨g, i, none⟩ = vs[i]? := by simp [World.cell?, hv]
   rw [Nat.zero_add, q4, Array.getElem?_eq_getElem h1, q3] at q2
   simp only [Option.some.injEq] at q2
   rw [q2]
   simp
theorem pow10_tab {c : Ctx} (hg : GOk c G0) : Lib.TabIs Tryz.prog c.w "internal/strconv.uint64pow10" .u64 Lib.pow10Tab := by
 have e : G0 5 = some (tabP .u64 Lib.pow10Tab) := rfl
 obtain ⟨vs, E, h1, h2⟩ := hg.sz 5 (.v (.int .u64 1)) (.v (.int .u64 10)) (tabP .u64 (Lib.pow10Tab.drop 2)) rfl
 have h3 := tab_of (hg.rel _ _ e) h1 (by rw [h2]; rfl)
 unfold Lib.TabIs
 rw [← h3]
 exact var_of (by kernel_rfl) h1
noncomputable def xItoa : Ans := fun l => match l with
 | [.v (.int .i64 n)] => if -9223372036854775808 ≤ n ∧ n ≤ 9223372036854775807 then some (.v (.string ⟨(Lib.itoa n).toArray⟩)) else none
 | _ => none
theorem xItoa_ok : PlainOk Tryz.prog G0 69 xItoa := by
 intro cargs r h c vs hcl hl ha hg hS
 unfold xItoa at h
 split at h
 case h_2 => cases h
 rename_i n
 split at h
 case isFalse => cases h
 rename_i hn
 cases h
 obtain ⟨u, rfl⟩ := args1 hl
 have hu := v_inv (ha 0 _ u rfl rfl)
 subst hu
 refine out_v (fun c => .v _) rfl ((Tryz.strconv_Itoa n hn.1 hn.2 c.w (pow10_tab hg)).mono ?_)
 rintro e w' ⟨rfl, k, os, rfl⟩
 exact ⟨rfl, rfl, rfl, rfl, by simp [Go.Sort.grow, World.drewN], fun k hk => by simp [Go.Sort.grow, World.drewN, Array.getElem?_append, hk]⟩
noncomputable def xTrimR : Ans := fun l => match l with
 | [.v (.string s), .v (.string t)] => match t.data.toList with
  | [c] => if c.toNat < 128 ∧ s.size ≤ 9223372036854775807 then some (.v (.string ⟨(Lib.trimRightB s.data.toList c).toArray⟩)) else none
  | _ => none
 | _ => none
theorem one_byte {t : ByteArray} {c : UInt8} (h : t.data.toList = [c]) : t = ⟨#[c]⟩ := by
 apply ByteArray.ext
 apply Array.ext'
 rw [h]
theorem xTrimR_ok (G : Glo) : PlainOk Tryz.prog G 124 xTrimR := by
 intro cargs r h c vs hcl hl ha hg hS
 unfold xTrimR at h
 split at h
 case h_2 => cases h
 rename_i s t
 split at h
 case h_2 => cases h
 rename_i b ht
 split at h
 case isFalse => cases h
 rename_i hn
 cases h
 obtain rfl := one_byte ht
 obtain ⟨u, v, rfl⟩ := args2 hl
 have hu := v_inv (ha 0 _ u rfl rfl)
 have hv := v_inv (ha 1 _ v rfl rfl)
 subst hu hv
 exact out_v (fun c => .v _) rfl ((Tryz.strings_TrimRight_one s b hn.1 c.w hn.2).mono fun e w' ⟨he, hw⟩ => ⟨he, by rw [hw]; exact Below.refl _ _⟩)
noncomputable def xLastIx : Ans := fun l => match l with
 | [.v (.string s), .v (.string t)] => match t.data.toList with
  | [c] => if s.size < 4611686018427387904 then some (.v (.int .i64 (Lib.lastIndexByte s (c.toNat : Int)))) else none
  | _ => none
 | _ => none
theorem xLastIx_ok (G : Glo) : PlainOk Tryz.prog G 125 xLastIx := by
 intro cargs r h c vs hcl hl ha hg hS
 unfold xLastIx at h
 split at h
 case h_2 => cases h
 rename_i s t
 split at h
 case h_2 => cases h
 rename_i b ht
 split at h
 case isFalse => cases h
 rename_i hn
 cases h
 obtain rfl := one_byte ht
 obtain ⟨u, v, rfl⟩ := args2 hl
 have hu := v_inv (ha 0 _ u rfl rfl)
 have hv := v_inv (ha 1 _ v rfl rfl)
 subst hu hv
 exact out_v (fun c => .v _) rfl ((Tryz.strings_LastIndex_one s ⟨#[b]⟩ rfl hn c.w).mono fun e w' ⟨he, hw⟩ => ⟨he, by rw [hw]; exact Below.refl _ _⟩)
end Go.Proofs.YtdbekeidlppfiaaGreatDoor.Den
