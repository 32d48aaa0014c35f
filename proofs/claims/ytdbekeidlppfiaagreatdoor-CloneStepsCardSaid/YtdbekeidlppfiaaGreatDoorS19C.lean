/- Texts joined by a program of mine (pack.py): S19C. -/
import Derived.Test.YtdbekeidlppfiaaGreatDoorS19Cl
import Derived.Test.YtdbekeidlppfiaaGreatDoorShelf
import Derived.Test.YtdbekeidlppfiaaGreatDoorChecked
import Derived.RowKitTokens
set_option linter.unusedVariables false
set_option linter.unusedSimpArgs false
namespace Go.Proofs.YtdbekeidlppfiaaGreatDoor.Den
open Go Go.RowKit
def ixbV (s : ByteArray) (c : Int) : Int := Lib.indexByte s.data.toList c.toNat.toUInt8
def conV (s t : ByteArray) : Bool := Lib.contains s.data.toList t.data.toList
def cmpV (s t : ByteArray) : Int := Lib.compareBytes s.data.toList t.data.toList
def xIxb : Ans := fun l => match l with
 | [.v (.string s), .v (.int .u8 c)] => some (.v (.int .i64 (ixbV s c)))
 | _ => none
theorem xIxb_ok (G : Glo) : PlainOk Tryz.prog G 70 xIxb := by
 intro cargs r h c vs hcl hl ha hg hS
 unfold xIxb at h
 split at h
 case h_2 => cases h
 cases h
 obtain ⟨u, v, rfl⟩ := args2 hl
 have hu := v_inv (ha 0 _ u rfl rfl)
 have hv := v_inv (ha 1 _ v rfl rfl)
 subst hu hv
 exact out_v (fun c => .v _) rfl ((Tryz.strings_IndexByte _ _ c.w).mono fun e w' ⟨he, hw⟩ => ⟨he, by rw [hw]; exact Below.refl _ _⟩)
def xCon : Ans := fun l => match l with
 | [.v (.string s), .v (.string t)] => if s.size < 4294967281 then some (.v (.bool (conV s t))) else none
 | _ => none
theorem xCon_ok {G : Glo} (hG : G 4 = some [.unk]) : PlainOk Tryz.prog G 238 xCon := by
 intro cargs r h c vs hcl hl ha hg hS
 unfold xCon at h
 split at h
 case h_2 => cases h
 split at h
 case isFalse => cases h
 rename_i hs
 cases h
 obtain ⟨u, v, rfl⟩ := args2 hl
 have hu := v_inv (ha 0 _ u rfl rfl)
 have hv := v_inv (ha 1 _ v rfl rfl)
 subst hu hv
 obtain ⟨m, hm⟩ := hg.num 4 hG
 exact out_v (fun c => .v _) rfl ((Tryz.strings_Contains _ _ m c.w hs hm.2).mono fun e w' ⟨he, hw⟩ => ⟨he, by rw [hw]; exact Below.refl _ _⟩)
def xCmp : Ans := fun l => match l with
 | [.v (.string s), .v (.string t)] => some (.v (.int .i64 (cmpV s t)))
 | _ => none
theorem xCmp_ok (G : Glo) : PlainOk Tryz.prog G 297 xCmp := by
 intro cargs r h c vs hcl hl ha hg hS
 unfold xCmp at h
 split at h
 case h_2 => cases h
 cases h
 obtain ⟨u, v, rfl⟩ := args2 hl
 have hu := v_inv (ha 0 _ u rfl rfl)
 have hv := v_inv (ha 1 _ v rfl rfl)
 subst hu hv
 exact out_v (fun c => .v _) rfl ((Tryz.strings_Compare _ _ c.w).mono fun e w' ⟨he, hw⟩ => ⟨he, by rw [hw]; exact Below.refl _ _⟩)
end Go.Proofs.YtdbekeidlppfiaaGreatDoor.Den
