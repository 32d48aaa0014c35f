/- A plain reading of Go's text: places, slices, appends. -/
import Derived.Test.YtfjflodicgjihaaGreatDoorDenC
import Derived.Laws.Append
import Derived.Laws.MakeOwn
import Derived.Laws.Tables
import Derived.Maps.AppendAt
set_option linter.unusedVariables false
set_option linter.unusedSimpArgs false
namespace Go.Proofs.YtfjflodicgjihaaGreatDoor.Den
open Go Go.RowKit

/-! ### places -/
/-- A field's type, size and place. -/
def fldI (P : Program) (t : TypeId) (f : Nat) : Option (TypeId × Nat × Nat) :=
  match P.underlying t with
  | some (.struct fs) => match fs[f]? with
    | some x => match tsz P x.type with
      | some (n + 1) => some (x.type, n + 1, x.offset)
      | _ => none
    | none => none
  | _ => none
def fldA (P : Program) (t : TypeId) (f : Nat) (p : PV) : Option PV :=
  match fldI P t f, p with
  | some (_, _, o), .ptr n k i off => some (.ptr n k i (off + o))
  | some (_, _, o), .eptr cs => if o ≤ cs.length then some (.eptr (cs.drop o)) else none
  | _, _ => none
theorem fldI_run {P : Program} {t : TypeId} {f : Nat} {ft sz o : Nat} (h : fldI P t f = some (ft, sz, o)) (w : World) (a : Addr) :
    (Instr.fieldAt t (.pointer (some a)) f).run P w = .ok (.pointer (some (a.add o))) w := by
  unfold fldI at h
  split at h
  case h_2 => cases h
  rename_i fs hu
  split at h
  case h_2 => cases h
  rename_i x hx
  split at h
  case h_2 => cases h
  rename_i n hz
  cases h
  simp [Instr.fieldAt, run_underlying hu, hx, Instr.sureAddr, fieldPlace, run_sizeOf hz]
theorem fldA_ok {P : Program} {B : Base} {m : Name → Nat} {s : HS} {w : World} {t : TypeId} {f : Nat} {p x : PV} {u : Value} (h : fldA P t f p = some x) (hp : VR (ctx B s m w) p u) :
    ∃ v, (Instr.fieldAt t u f).run P w = .ok v w ∧ VR (ctx B s m w) x v := by
  unfold fldA at h
  split at h
  · rename_i ft sz o n k i off hf
    cases h
    cases hp with
    | ptr _ _ _ _ a hk ha =>
      refine ⟨_, fldI_run hf w a, .ptr _ _ _ _ _ hk fun b hb => ?_⟩
      rw [ha b hb, add_lit, Nat.add_assoc]
  · rename_i ft sz o cs hf
    split at h
    case isFalse => cases h
    rename_i hle
    cases h
    cases hp with
    | eptr _ g off us hcl hx hw =>
      refine ⟨_, fldI_run hf w _, ?_⟩
      rw [add_lit]
      refine .eptr _ g (off + o) (fun j => us (o + j)) (closedL_sub hcl fun x hx => List.mem_of_mem_drop hx) (fun j y hy => hx _ _ (by rwa [List.getElem?_drop] at hy)) fun j hj => ?_
      have := hw (o + j) (by rw [List.length_drop] at hj; omega)
      rw [Nat.add_assoc]; exact this
  · cases h
/-- A field of a value. -/
def fldV (P : Program) (t : TypeId) (f : Nat) (x : PV) : Option PV :=
  match fldI P t f, x with
  | some (ft, sz, o), .agg cs => match isA P ft with
    | some ag => if o + sz ≤ cs.length then mkv ag ((cs.drop o).take sz) else none
    | none => none
  | _, _ => none
theorem run_part {P : Program} {t : TypeId} {ag : Bool} {sz : Nat} {w : World} (hA : isA P t = some ag) (hz : tsz P t = some sz) (vs : Array Value) (o : Nat) (h1 : ag = false → sz = 1) (hl : o + sz ≤ vs.size) (h0 : 0 < sz) :
    (part t vs o).run P w = .ok (mkV ag ((vs.toList.drop o).take sz)) w := by
  simp only [part, Sem.run_bind, run_isAgg hA, Result.andThen_ok]
  cases ag with
  | true =>
    simp only [if_true, Sem.run_bind, run_sizeOf hz, Result.andThen_ok, Sem.run_pure, mkV]
    congr 2
    apply Array.ext'
    simp [List.extract_eq_take_drop]
  | false =>
    obtain rfl := h1 rfl
    have hlt : o < vs.size := by omega
    simp [mkV, hlt, List.getD, List.getElem?_drop]
theorem fldV_ok {P : Program} {c : Ctx} {w : World} {t : TypeId} {f : Nat} {p x : PV} {u : Value} (h : fldV P t f p = some x) (hp : VR c p u) :
    ∃ v, (Instr.field t u f).run P w = .ok v w ∧ VR c x v := by
  unfold fldV at h
  split at h
  case h_2 => cases h
  rename_i ft sz o cs hf
  split at h
  case h_2 => cases h
  rename_i ag hA
  split at h
  case isFalse => cases h
  rename_i hle
  cases hp with
  | agg _ vs hl hx =>
    unfold fldI at hf
    split at hf
    case h_2 => cases hf
    rename_i fs hu
    split at hf
    case h_2 => cases hf
    rename_i y hy
    split at hf
    case h_2 => cases hf
    rename_i n hz
    cases hf
    have hlen : ((vs.toList.drop y.offset).take (n + 1)).length = ((cs.drop y.offset).take (n + 1)).length := by simp [hl]
    have hk := mkv_ok (c := c) (us := (vs.toList.drop y.offset).take (n + 1)) h hlen (fun j z q h1 h2 => by
      rw [List.getElem?_take] at h1 h2
      split at h1
      · rename_i hj
        rw [if_pos hj, List.getElem?_drop] at h2
        rw [List.getElem?_drop] at h1
        exact hx _ z q h1 (by simpa using h2)
      · cases h1)
    refine ⟨_, ?_, hk.1⟩
    have h1 : ag = false → n + 1 = 1 := fun e => by have := hk.2 e; rw [List.length_take, List.length_drop] at this; omega
    simp [Instr.field, run_underlying hu, hy, asAgg, run_part hA hz vs y.offset h1 (by omega) (by omega)]

def intOfPV : PV → Option Int
  | .v (.int _ n) => some n
  | _ => none
/-- The place of an element. -/
def idxA (P : Program) (s : HS) (t : TypeId) (x ix : PV) : Option PV :=
  match P.underlying t, intOfPV ix with
  | some (.slice e), some j => match tsz P e with
    | some sz => match x with
      | .row n k i len => match s.h n with
        | (k', some b) => if k' = k ∧ b.sz = sz ∧ 0 ≤ j ∧ j < len then some (.ptr n k (i + j.toNat) 0) else none
        | _ => none
      | .list sz' _ xs => if sz' = sz ∧ 0 ≤ j then match xs[j.toNat]? with
        | some y => some (.eptr y)
        | none => none else none
      | _ => none
    | none => none
  | some (.array len e), some j => match tsz P e with
    | some sz => if 0 ≤ j ∧ j < len then match x with
      | .ptr n k i off => some (.ptr n k i (off + j.toNat * sz))
      | .eptr cs => if j.toNat * sz ≤ cs.length then some (.eptr (cs.drop (j.toNat * sz))) else none
      | _ => none else none
    | none => none
  | _, _ => none
theorem intOfPV_ok {c : Ctx} {x : PV} {u : Value} {j : Int} (h : intOfPV x = some j) (hx : VR c x u) : ∃ k, u = .int k j := by
  unfold intOfPV at h
  split at h
  · cases h; cases hx; exact ⟨_, rfl⟩
  · cases h
theorem idxA_ok {P : Program} {B : Base} {m : Name → Nat} {s : HS} {w : World} {t : TypeId} {x ix y : PV} {u v : Value} (h : idxA P s t x ix = some y) (hx : VR (ctx B s m w) x u) (hi : VR (ctx B s m w) ix v) :
    ∃ z, (Instr.indexAt t u v).run P w = .ok z w ∧ VR (ctx B s m w) y z := by
  unfold idxA at h
  split at h
  · rename_i e j hu hj
    obtain ⟨k0, rfl⟩ := intOfPV_ok hj hi
    split at h
    case h_2 => cases h
    rename_i sz hz
    split at h
    · rename_i n k i len
      split at h
      case h_2 => cases h
      rename_i k' b hn
      split at h
      case isFalse => cases h
      rename_i hc
      obtain ⟨rfl, hbz, h0, hlt⟩ := hc
      cases h
      cases hx with
      | row _ _ _ _ a cap hk hc hm ha =>
        obtain ⟨rfl, hcap⟩ := ha b hn
        refine ⟨.pointer (some (Addr.add ⟨m n, i * b.sz, none⟩ (j.toNat * sz))), ?_, ?_⟩
        · simp [Instr.indexAt, asIntOf, run_underlying hu, h0, hlt, run_sizeOf hz, ctx]
        · rw [add_lit]
          refine .ptr _ _ _ _ _ hk fun b' hb' => ?_
          have : b' = b := by simp [ctx, hn] at hb'; exact hb'.symm
          subst this
          rw [hbz]; simp [ctx, Nat.add_mul]
    · rename_i sz' full xs
      split at h
      case isFalse => cases h
      rename_i hc
      obtain ⟨rfl, h0⟩ := hc
      split at h
      case h_2 => cases h
      rename_i y hy
      cases h
      cases hx with
      | lnil => simp at hy
      | list _ _ _ g off cap us hcl hc hm hf hl ho hxx hw =>
        have hlt := (List.getElem?_eq_some_iff.1 hy).1
        have hlt' : j < (xs.length : Int) := by omega
        refine ⟨.pointer (some (Addr.add ⟨g, off, none⟩ (j.toNat * sz'))), ?_, ?_⟩
        · simp [Instr.indexAt, asIntOf, run_underlying hu, h0, hlt', run_sizeOf hz]
        · rw [add_lit]
          refine .eptr _ g _ (us j.toNat) (closedL_iff.2 fun z hz => closedLL_iff.1 hcl y (List.mem_of_getElem? hy) z hz) (fun q z hq => hxx _ _ _ _ hy hq) fun q hq => ?_
          rw [hl _ _ hy] at hq
          have := hw j.toNat q hlt hq
          rw [Nat.add_assoc]; exact this
    · cases h
  · rename_i len e j hu hj
    obtain ⟨k0, rfl⟩ := intOfPV_ok hj hi
    split at h
    case h_2 => cases h
    rename_i sz hz
    split at h
    case isFalse => cases h
    rename_i hc
    obtain ⟨h0, hlt⟩ := hc
    split at h
    · rename_i n k i off
      cases h
      cases hx with
      | ptr _ _ _ _ a hk ha =>
        refine ⟨.pointer (some (a.add (j.toNat * sz))), ?_, ?_⟩
        · simp [Instr.indexAt, asIntOf, run_underlying hu, h0, hlt, run_sizeOf hz, Instr.sureAddr]
        · refine .ptr _ _ _ _ _ hk fun b hb => ?_
          rw [ha b hb, add_lit, Nat.add_assoc]
    · rename_i cs
      split at h
      case isFalse => cases h
      rename_i hle
      cases h
      cases hx with
      | eptr _ g off us hcl hxx hw =>
        refine ⟨.pointer (some (Addr.add ⟨g, off, none⟩ (j.toNat * sz))), ?_, ?_⟩
        · simp [Instr.indexAt, asIntOf, run_underlying hu, h0, hlt, run_sizeOf hz, Instr.sureAddr]
        · rw [add_lit]
          refine .eptr _ g _ (fun q => us (j.toNat * sz + q)) (closedL_sub hcl fun x hx => List.mem_of_mem_drop hx) (fun q z hq => hxx _ _ (by rwa [List.getElem?_drop] at hq)) fun q hq => ?_
          have := hw (j.toNat * sz + q) (by rw [List.length_drop] at hq; omega)
          rw [Nat.add_assoc]; exact this
    · cases h
  · cases h
/-- An element of an array's value. -/
def idxV (P : Program) (t : TypeId) (x ix : PV) : Option PV :=
  match P.underlying t, intOfPV ix, x with
  | some (.array len e), some j, .agg cs => match tsz P e, isA P e with
    | some (sz + 1), some ag => if 0 ≤ j ∧ j < len ∧ j.toNat * (sz + 1) + (sz + 1) ≤ cs.length then mkv ag ((cs.drop (j.toNat * (sz + 1))).take (sz + 1)) else none
    | _, _ => none
  | _, _, _ => none
theorem idxV_ok {P : Program} {c : Ctx} {w : World} {t : TypeId} {x ix y : PV} {u v : Value} (h : idxV P t x ix = some y) (hx : VR c x u) (hi : VR c ix v) :
    ∃ z, (Instr.index t u v).run P w = .ok z w ∧ VR c y z := by
  unfold idxV at h
  split at h
  case h_2 => cases h
  rename_i len e j cs hu hj
  obtain ⟨k0, rfl⟩ := intOfPV_ok hj hi
  split at h
  case h_2 => cases h
  rename_i sz ag hz hA
  split at h
  case isFalse => cases h
  rename_i hc
  obtain ⟨h0, hlt, hle⟩ := hc
  cases hx with
  | agg _ vs hl hx =>
    have hlen : ((vs.toList.drop (j.toNat * (sz + 1))).take (sz + 1)).length = ((cs.drop (j.toNat * (sz + 1))).take (sz + 1)).length := by simp [hl]
    have hk := mkv_ok (c := c) (us := (vs.toList.drop (j.toNat * (sz + 1))).take (sz + 1)) h hlen (fun q z p h1 h2 => by
      rw [List.getElem?_take] at h1 h2
      split at h1
      · rename_i hj
        rw [if_pos hj, List.getElem?_drop] at h2
        rw [List.getElem?_drop] at h1
        exact hx _ z p h1 (by simpa using h2)
      · cases h1)
    refine ⟨_, ?_, hk.1⟩
    have h1 : ag = false → sz + 1 = 1 := fun e => by have := hk.2 e; rw [List.length_take, List.length_drop] at this; omega
    simp [Instr.index, asIntOf, run_underlying hu, h0, hlt, run_sizeOf hz, run_part hA hz vs (j.toNat * (sz + 1)) h1 (by omega) (by omega)]

/-! ### what a slice holds -/
def els (s : HS) : PV → Option (Nat × List (List PV))
  | .row n k i len => match s.h n with
    | (k', some b) => if k' = k ∧ i + len ≤ b.xs.length then some (b.sz, (b.xs.drop i).take len) else none
    | _ => none
  | .list sz _ xs => some (sz, xs)
  | _ => none
/-- The cells that stand for elements. -/
structure Els (c : Ctx) (w : World) (sz : Nat) (ys : List (List PV)) (a : Addr) (news : List Value) : Prop where
  len : news.length = ys.length * sz
  cell : ∀ j u, news[j]? = some u → w.cell? (a.add j) = some u
  one : ∀ u ∈ news, u.oneCell' = true
  el : ∀ (i : Nat) (x : List PV), ys[i]? = some x → x.length = sz ∧ ∀ (j : Nat) (y : PV), x[j]? = some y → ∃ u, news[i * sz + j]? = some u ∧ VR c y u
theorem div_lt {j n sz : Nat} (h : j < n * sz) : j / sz < n := Nat.div_lt_of_lt_mul (by rw [Nat.mul_comm]; exact h)
theorem els_ok {B : Base} {m : Name → Nat} {s : HS} {w : World} (r : RelH B m s w) {x : PV} {u : Value} {sz : Nat} {ys : List (List PV)} (h : els s x = some (sz, ys)) (hx : VR (ctx B s m w) x u) :
    (∃ a cap news, u = .slice (some a) ys.length cap ∧ ys.length ≤ cap ∧ cap ≤ 9223372036854775807 ∧ Els (ctx B s m w) w sz ys a news) ∨ (ys = [] ∧ u = .slice none 0 0) := by
  unfold els at h
  split at h
  · rename_i n k i len
    split at h
    case h_2 => cases h
    rename_i k' b hn
    split at h
    case isFalse => cases h
    rename_i hc
    obtain ⟨rfl, hle⟩ := hc
    cases h
    cases hx with
    | row _ _ _ _ a cap hk hc hm ha =>
      obtain ⟨rfl, hcap⟩ := ha b hn
      obtain ⟨⟨cells, hg, hcs, hall, _⟩, _, _⟩ := r.blk n _ b hn
      have hg : w.heap[m n]? = some (.cells cells b.E (0, 0)) := hg
      have hl : ((b.xs.drop i).take len).length = len := by rw [List.length_take, List.length_drop]; omega
      have hmul : i * b.sz + len * b.sz ≤ b.xs.length * b.sz := by rw [← Nat.add_mul]; exact Nat.mul_le_mul_right _ hle
      refine .inl ⟨_, cap, (cells.toList.drop (i * b.sz)).take (len * b.sz), by rw [hl], by rw [hl]; exact hc, hm, ?_, fun j u hu => ?_, fun u hu => ?_, fun q x hx => ?_⟩
      · rw [hl, List.length_take, List.length_drop]; simp; omega
      · rw [List.getElem?_take] at hu
        split at hu
        · rw [List.getElem?_drop] at hu
          rw [add_lit]
          show w.cell? ⟨m n, i * b.sz + j, none⟩ = some u
          rw [cell_of_row w _ _ _ _ _ hg]; simpa using hu
        · cases hu
      · obtain ⟨j, hj⟩ := List.mem_iff_getElem?.1 hu
        rw [List.getElem?_take] at hj
        split at hj
        · rename_i hjl
          rw [List.getElem?_drop] at hj
          have hq : j / b.sz < len := div_lt hjl
          have hz0 : 0 < b.sz := Nat.pos_of_ne_zero (fun e => by rw [e] at hjl; omega)
          have hxq := List.getElem?_eq_getElem (l := b.xs) (i := i + j / b.sz) (by omega)
          obtain ⟨hl1, hj1⟩ := hall _ _ hxq
          have hlt : j % b.sz < b.xs[i + j / b.sz].length := by rw [hl1]; exact Nat.mod_lt _ hz0
          obtain ⟨z, p1, p2, _⟩ := hj1 (j % b.sz) _ (List.getElem?_eq_getElem hlt)
          have e1 : (i + j / b.sz) * b.sz + j % b.sz = i * b.sz + j := by rw [Nat.add_mul, Nat.add_assoc, Nat.div_add_mod']
          rw [e1] at p1
          have : cells[i * b.sz + j]? = some u := by simpa using hj
          rw [this] at p1; cases p1; exact p2
        · cases hj
      · rw [List.getElem?_take] at hx
        split at hx
        · rename_i hq
          rw [List.getElem?_drop] at hx
          obtain ⟨hl1, hj1⟩ := hall _ _ hx
          refine ⟨hl1, fun j y hy => ?_⟩
          obtain ⟨z, p1, _, p3⟩ := hj1 j y hy
          have hjz : j < b.sz := by rw [← hl1]; exact (List.getElem?_eq_some_iff.1 hy).1
          have : q * b.sz + b.sz ≤ len * b.sz := by rw [← Nat.succ_mul]; exact Nat.mul_le_mul_right _ hq
          refine ⟨z, ?_, p3⟩
          rw [List.getElem?_take, if_pos (by omega), List.getElem?_drop]
          rw [show i * b.sz + (q * b.sz + j) = (i + q) * b.sz + j by rw [Nat.add_mul]; omega]
          simpa using p1
        · cases hx
  · rename_i sz' full xs
    cases h
    cases hx with
    | lnil _ _ a =>
      cases a with
      | none => exact .inr ⟨rfl, rfl⟩
      | some a => exact .inl ⟨a, 0, [], rfl, Nat.le_refl _, by omega, ⟨by simp, fun j u h => by simp at h, fun u h => by simp at h, fun i x h => by simp at h⟩⟩
    | list _ _ _ g off cap us hcl hc hm hf hl ho hxx hw =>
      left
      have key : ∀ j, j < ys.length * sz → j / sz < ys.length ∧ j % sz < sz ∧ j / sz * sz + j % sz = j := fun j hj => ⟨div_lt hj, Nat.mod_lt _ (Nat.pos_of_ne_zero fun e => by rw [e] at hj; omega), Nat.div_add_mod' _ _⟩
      refine ⟨_, cap, (List.range (ys.length * sz)).map (fun j => us (j / sz) (j % sz)), rfl, hc, hm, by simp, fun j u hu => ?_, fun u hu => ?_, fun q x hx => ?_⟩
      · rw [List.getElem?_map] at hu
        obtain ⟨j', hj', rfl⟩ := Option.map_eq_some_iff.1 hu
        obtain ⟨hlt, rfl⟩ := List.getElem?_eq_some_iff.1 hj'
        simp at hlt ⊢
        obtain ⟨k1, k2, k3⟩ := key j hlt
        have := (hw _ _ k1 k2).2
        rw [k3] at this
        rw [add_lit]; exact this
      · obtain ⟨j, hj, rfl⟩ := List.mem_map.1 hu
        obtain ⟨k1, k2, k3⟩ := key j (List.mem_range.1 hj)
        exact ho _ _ k1 k2
      · refine ⟨hl q x hx, fun j y hy => ?_⟩
        have hq := (List.getElem?_eq_some_iff.1 hx).1
        have hjz : j < sz := by rw [← hl q x hx]; exact (List.getElem?_eq_some_iff.1 hy).1
        have hmul : q * sz + sz ≤ ys.length * sz := by rw [← Nat.succ_mul]; exact Nat.mul_le_mul_right _ hq
        refine ⟨us q j, ?_, hxx _ _ _ _ hx hy⟩
        rw [List.getElem?_map, List.getElem?_range (by omega)]
        have e1 : (q * sz + j) / sz = q := by rw [Nat.mul_comm, Nat.mul_add_div (by omega), Nat.div_eq_of_lt hjz, Nat.add_zero]
        have e2 : (q * sz + j) % sz = j := by rw [Nat.mul_comm, Nat.mul_add_mod, Nat.mod_eq_of_lt hjz]
        simp [e1, e2]
  · cases h
end Go.Proofs.YtfjflodicgjihaaGreatDoor.Den
