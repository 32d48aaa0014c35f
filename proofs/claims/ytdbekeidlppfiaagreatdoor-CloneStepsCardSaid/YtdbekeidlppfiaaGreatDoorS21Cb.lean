/- Texts joined by a program of mine (pack.py): S21Cb. -/
import Derived.Test.YtdbekeidlppfiaaGreatDoorS19S
import Derived.Test.YtdbekeidlppfiaaGreatDoorS21Aw
import Derived.Test.YtdbekeidlppfiaaGreatDoorRep
set_option linter.unusedVariables false
set_option linter.unusedSimpArgs false
namespace Go.Proofs.YtdbekeidlppfiaaGreatDoor.Den
open Go Go.RowKit
theorem hsL_setj (bs : List (Option Blk)) (fs : List Nat) (j : Nat) (hj : j < bs.length) (b' : Option Blk) : hsL (bs.set j b') fs = { h := upd (hsL bs fs).h [j, TAG] (1, b'), fz := (hsL bs fs).fz } := by
 have e : hpL (bs.set j b') = upd (hpL bs) [j, TAG] (1, b') := by
  funext n
  unfold upd
  by_cases hn : n = [j, TAG]
  ·subst hn
   rw [if_pos rfl]
   simp [hpL, hj]
  ·rw [if_neg hn]
   unfold hpL
   split
   ·rename_i i t
    by_cases ht : t = TAG
    ·rw [if_pos ht, if_pos ht]
     have hij : j ≠ i := fun e => hn (by rw [e, ht])
     rw [List.getElem?_set_ne hij]
    ·rw [if_neg ht, if_neg ht]
   ·rfl
 unfold hsL
 rw [e]
theorem stD_at {P : Program} {t : TypeId} {x : PV} {b : Blk} {bs : List (Option Blk)} {fs : List Nat} {s1 : HS} {j : Nat} (hj : bs[j]? = some (some b)) (h : stD P [] (hsL bs fs) t (.ptr [j, TAG] 1 0 0) x = some s1) : s1 = hsL (bs.set j (s1.h [j, TAG]).2) fs := by
 have hlt := (List.getElem?_eq_some_iff.1 hj).1
 unfold stD at h
 split at h
 case h_2 => cases h
 rename_i sz cs n k i off e1 e2 e3
 cases e3
 have hn : (hsL bs fs).h [j, TAG] = (1, some b) := by
  show hpL bs [j, TAG] = _
  simp [hpL, hj]
 rw [hn] at h
 simp only at h
 split at h
 case isFalse => cases h
 split at h
 case h_2 => cases h
 split at h
 case isFalse => cases h
 cases h
 simp only [upd_same]
 exact (hsL_setj bs fs j hlt _).symm
theorem as_state2 {T : TypeId} {x : PV} {c1 : Value} {b : Blk} {bs : List (Option Blk)} {fs : List Nat} {s1 : HS} {j : Nat} (hj : bs[j]? = some (some b)) (hs : tsz Tryz.prog T = some 1) (hu : c1.cells = #[c1]) (hc1 : c1.oneCell' = true)
  (h : stD Tryz.prog [] (hsL bs fs) T (.ptr [j, TAG] 1 0 0) x = some s1) {B : Base} {m : Name → Nat} {w : World} {vs : Array Value} (r : RelH B m (hsL bs fs) w) (hx : VR (ctx B (hsL bs fs) m w) x c1)
  (hcall : ∀ old : Value, w.cell? ⟨m [j, TAG], 0, none⟩ = some old → w.frozen? ⟨m [j, TAG], 0, none⟩ = false →
   Calls Tryz.prog 171 vs w fun ev w' => ev = .returned (.bool true) ∧ ∃ w4, Below w.heap.size w w4 ∧ w' = w4.setCell ⟨m [j, TAG], 0, none⟩ c1) :
  Calls Tryz.prog 171 vs w fun e w' => ∃ v m', e = .returned v ∧ RelH B m' (hsL (bs.set j (s1.h [j, TAG]).2) fs) w' ∧ SEvol (ctx B (hsL bs fs) m w) (ctx B (hsL (bs.set j (s1.h [j, TAG]).2) fs) m' w') ∧ VR (ctx B (hsL (bs.set j (s1.h [j, TAG]).2) fs) m' w') (.v (.bool true)) v := by
 have hn : (hsL bs fs).h [j, TAG] = (1, some b) := by
  show hpL bs [j, TAG] = _
  simp [hpL, hj]
 obtain ⟨⟨cells, hc, hlen, hel, hcl⟩, hbase, hfz, hO⟩ := r.blk [j, TAG] 1 b hn
 have hc' : CellsOf w (m [j, TAG]) cells b.E := hc
 have hcell : ∃ old, w.cell? ⟨m [j, TAG], 0, none⟩ = some old := by
  unfold stD at h
  split at h
  case h_2 => cases h
  rename_i sz cs n k i off e1 e2 e3
  cases e3
  rw [hs] at e1
  cases e1
  rw [hn] at h
  simp only at h
  split at h
  case isFalse => cases h
  split at h
  case h_2 => cases h
  rename_i e he
  split at h
  case isFalse => cases h
  rename_i hle
  obtain ⟨q1, q2⟩ := hel 0 e he
  have hlt : 0 < e.length := by omega
  obtain ⟨u0, hu0, _⟩ := q2 0 _ (List.getElem?_eq_getElem hlt)
  refine ⟨u0, ?_⟩
  rw [hc'.cell]
  simpa using hu0
 obtain ⟨old, hold⟩ := hcell
 have hfr : w.frozen? ⟨m [j, TAG], 0, none⟩ = false := by
  refine hc'.frozen ?_
  rw [hc'.cell] at hold
  exact (Array.getElem?_eq_some_iff.1 hold).1
 have hz' : VR (ctx B (hsL bs fs) m w) (.ptr [j, TAG] 1 0 0) (.pointer (some ⟨m [j, TAG], 0, none⟩)) := .ptr _ _ _ _ _ (by show 1 ≤ ((hsL bs fs).h [j, TAG]).1; rw [hn]; exact Nat.le_refl _) fun b' hb' => by simp [ctx]
 refine (hcall old hold hfr).mono ?_
 rintro e w' ⟨rfl, w4, hb4, rfl⟩
 obtain ⟨ev4, r4⟩ := r.grown hb4
 obtain ⟨w5, hrun, r5, ev5⟩ := stD_ok r4 h (hz'.evol ev4) (hx.evol ev4)
 have hlt : m [j, TAG] < w.heap.size := r.lt hn
 have hrun' := run_storeOne (P := Tryz.prog) (w := w4) (T := T) hs hu hc1 ((World.cell?_of_block (a := ⟨m [j, TAG], 0, none⟩) (hb4.block _ hlt)).trans hold) ((World.frozen?_of_block (a := ⟨m [j, TAG], 0, none⟩) (hb4.block _ hlt)).trans hfr)
 rw [hrun'] at hrun
 cases hrun
 have e1 := stD_at hj h
 rw [← e1]
 exact ⟨_, m, rfl, r5, (ev4.trans ev5).sev, .v _⟩
abbrev tHalt : TypeId := 292
noncomputable def putH (bs : List (Option Blk)) (fs : List Nat) (x : PV) : Option (PV × List (Option Blk) × List Nat) := match stD Tryz.prog [] (hsL bs fs) tHalt (.ptr [1, TAG] 1 0 0) x with
 | some s1 => some (.v (.bool true), bs.set 1 (s1.h [1, TAG]).2, fs)
 | none => none
noncomputable def yAs2 : SFun := fun args bs fs => match args, bs with
 | [.ifc t (.ptr n0 1 0 0), .ifc t' (.ptr n 1 0 0)], some b0 :: some b :: bs' => if t' = 293 ∧ n0 = [0, TAG] ∧ n = [1, TAG] then
   if t = tHalt then putH bs fs (.ptr [0, TAG] 1 0 0)
   else if t = 354 then match b0.xs with
    | [[y, .ifc t2 (.ptr n2 k2 i2 o2)]] => if t2 = tHalt ∧ b0.sz = 2 then putH bs fs (.ptr n2 k2 i2 o2) else none
    | _ => none
   else none
  else none
 | args, bs => yAs args bs fs
theorem below4 (w : World) (a b c d : Obj) : Below w.heap.size w ((((w.alloc a).alloc b).alloc c).alloc d) := ((((Below.refl _ w).alloc (Nat.le_refl _) a).alloc (by simp) b).alloc (by simp; omega) c).alloc (by simp; omega) d
theorem errT_at {B : Base} {m : Name → Nat} {s : HS} {w : World} (hG : GOk (ctx B s m w) G0) : w.cell? ⟨3, 0, none⟩ = some (.iface 264 (.agg #[.pointer (some ⟨10, 145, none⟩)])) := by
 have := hG.rel 3 _ rfl
 cases this with
 | eptr cs g off us _ hx' hw =>
  have q1 := hw 0 (by simp)
  have q2 := v_inv (hx' 0 _ rfl)
  rw [← q2]
  exact q1.2
theorem ptr_inv {c : Ctx} {n : Name} {k i off : Nat} {u : Value} (h : VR c (.ptr n k i off) u) : ∃ a, u = .pointer (some a) := by cases h; exact ⟨_, rfl⟩
theorem ptr_inv0 {c : Ctx} {n : Name} {u : Value} {b : Blk} (h : VR c (.ptr n 1 0 0) u) (hn : c.h n = (1, some b)) : u = .pointer (some ⟨c.m n, 0, none⟩) := by
 cases h with
 | ptr _ _ _ _ a hk ha => have := ha b hn; simp only [Nat.zero_mul, Nat.zero_add] at this; rw [this]
theorem yAs2_ok : StateOk Tryz.prog G0 171 yAs2 := by
 intro args bs fs x bs' fs' h
 unfold yAs2 at h
 split at h
 case h_2 => exact yAs_ok args bs fs x bs' fs' h
 rename_i t n0 t' n b0 b rest
 split at h
 case isFalse => cases h
 rename_i hc
 obtain ⟨rfl, rfl, rfl⟩ := hc
 have hput : ∀ y, putH (some b0 :: some b :: rest) fs y = some (x, bs', fs') → ∃ s1, stD Tryz.prog [] (hsL (some b0 :: some b :: rest) fs) tHalt (.ptr [1, TAG] 1 0 0) y = some s1 ∧ x = .v (.bool true) ∧ bs' = (some b0 :: some b :: rest).set 1 (s1.h [1, TAG]).2 ∧ fs' = fs := by
  intro y hy
  unfold putH at hy
  split at hy
  case h_2 => cases hy
  rename_i s1 hs1
  simp only [Option.some.injEq, Prod.mk.injEq] at hy
  obtain ⟨e1, e2, e3⟩ := hy
  exact ⟨s1, hs1, e1.symm, e2.symm, e3.symm⟩
 have hh0 : (hsL (some b0 :: some b :: rest) fs).h [0, TAG] = (1, some b0) := rfl
 have hh1 : (hsL (some b0 :: some b :: rest) fs).h [1, TAG] = (1, some b) := rfl
 split at h
 ·rename_i ht
  subst ht
  obtain ⟨s1, hs1, rfl, rfl, rfl⟩ := hput _ h
  refine ⟨by simp, fun B m w vs hb r hG hl ha => ?_⟩
  obtain ⟨u, v, rfl⟩ := args2 hl
  obtain ⟨z, rfl, hz⟩ := ifc_inv (ha 0 _ u rfl rfl)
  obtain ⟨z', rfl, hz'⟩ := ifc_inv (ha 1 _ v rfl rfl)
  obtain rfl := ptr_inv0 hz hh0
  obtain rfl := ptr_inv0 hz' hh1
  exact as_state2 (j := 1) (b := b) rfl (by kernel_rfl) rfl rfl hs1 r hz fun old ho hf => (as_hitH _ _ old w (errT_at hG) ho hf).mono fun e w' ⟨he, hw⟩ => ⟨he, _, below4 w _ _ _ _, hw⟩
 ·split at h
  case isFalse => cases h
  rename_i hne ht
  subst ht
  split at h
  case h_2 => cases h
  rename_i y t2 n2 k2 i2 o2 hxs
  split at h
  case isFalse => cases h
  rename_i hc2
  obtain ⟨rfl, hsz⟩ := hc2
  obtain ⟨s1, hs1, rfl, rfl, rfl⟩ := hput _ h
  refine ⟨by simp, fun B m w vs hb r hG hl ha => ?_⟩
  obtain ⟨u, v, rfl⟩ := args2 hl
  obtain ⟨z, rfl, hz⟩ := ifc_inv (ha 0 _ u rfl rfl)
  obtain ⟨z', rfl, hz'⟩ := ifc_inv (ha 1 _ v rfl rfl)
  obtain rfl := ptr_inv0 hz hh0
  obtain rfl := ptr_inv0 hz' hh1
  obtain ⟨⟨cells, hcl, hlen, hel, _⟩, _⟩ := r.blk [0, TAG] 1 b0 hh0
  have hcl : CellsOf w (m [0, TAG]) cells b0.E := hcl
  obtain ⟨q1, q2⟩ := hel 0 [y, .ifc tHalt (.ptr n2 k2 i2 o2)] (by rw [hxs]; rfl)
  obtain ⟨u1, p1, p2, p3⟩ := q2 1 (.ifc tHalt (.ptr n2 k2 i2 o2)) rfl
  obtain ⟨z1, rfl, hz1⟩ := ifc_inv p3
  obtain ⟨a1, rfl⟩ := ptr_inv hz1
  have hp : w.cell? ⟨m [0, TAG], 0 + 1, none⟩ = some (.iface tHalt (.pointer (some a1))) := by
   rw [hcl.cell]
   simpa [hsz] using p1
  exact as_state2 (j := 1) (b := b) rfl (by kernel_rfl) rfl rfl hs1 r hz1 fun old ho hf => (as_hitW _ a1 _ (.bool true) old w (errT_at hG) ho hf hp).mono fun e w' ⟨he, hw⟩ => ⟨he, _, below4 w _ _ _ _, hw⟩
set_option maxRecDepth 100000 in
theorem row_out (a1 fa : Option Addr) (n1 c1 n cap : Nat) (p : Int) (w : World) (hp : p < 0 ∨ (n : Int) ≤ p) :
  Calls Tryz.prog 65 #[.agg #[.slice a1 n1 c1, .slice fa n cap], .int .i64 p] w fun e w' => e = .returned (.slice none 0 0) ∧ Below w.heap.size w w' := by
 go_enter Tryz.func65, Tryz.ntmps65
 have hb := (Below.refl w.heap.size w).alloc (Nat.le_refl _) (.cells #[.slice a1 n1 c1, .slice fa n cap] 61)
 by_cases h : p < 0
 ·go_wp2
  all_goals (go_ret; exact ⟨rfl, hb⟩)
 ·have h2 : (n : Int) ≤ p := by omega
  go_wp2
  all_goals (go_ret; exact ⟨rfl, hb⟩)
set_option maxRecDepth 100000 in
theorem row_in (a1 : Option Addr) (g off n1 c1 n cap k : Nat) (v : Value) (w : World) (hk : k < n) (hc : w.cell? ⟨g, off + k, none⟩ = some v) (hv : v.oneCell' = true) :
  Calls Tryz.prog 65 #[.agg #[.slice a1 n1 c1, .slice (some ⟨g, off, none⟩) n cap], .int .i64 k] w fun e w' => e = .returned v ∧ Below w.heap.size w w' := by
 have hg : g < w.heap.size := by
  rcases Nat.lt_or_ge g w.heap.size with h' | h'
  ·exact h'
  ·simp [World.cell?, Array.getElem?_eq_none h'] at hc
 have hb := (Below.refl w.heap.size w).alloc (Nat.le_refl _) (.cells #[.slice a1 n1 c1, .slice (some ⟨g, off, none⟩) n cap] 61)
 have hc2 : (w.alloc (.cells #[.slice a1 n1 c1, .slice (some ⟨g, off, none⟩) n cap] 61)).cell? ⟨g, off + k, none⟩ = some v := (World.cell?_alloc_lt w _ ⟨g, off + k, none⟩ hg).trans hc
 have h0 : ¬ ((k : Int) < 0) := by omega
 have h1 : ¬ ((n : Int) ≤ (k : Int)) := by omega
 have h2 : (k : Int) < (n : Int) := by omega
 go_enter Tryz.func65, Tryz.ntmps65
 go_wp2
 go_ret
 exact ⟨rfl, hb⟩
def yRow : SFun := fun args bs fs => match args with
 | [.agg [.list s1 f1 x1, .list 1 f xs], .v (.int .i64 p)] => if 0 ≤ p ∧ p < xs.length then (match xs[p.toNat]? with | some [x] => some (x, bs, fs) | _ => none) else some (.v (.slice none 0 0), bs, fs)
 | _ => none
theorem list_inv {c : Ctx} {sz : Nat} {f : Bool} {xs : List (List PV)} {u : Value} (h : VR c (.list sz f xs) u) : ∃ a cap, u = .slice a xs.length cap ∧ ∀ i x, xs[i]? = some x → ∃ g off, a = some ⟨g, off, none⟩ ∧ ∀ j y, x[j]? = some y → ∃ z, c.w.cell? ⟨g, off + (i * sz + j), none⟩ = some z ∧ z.oneCell' = true ∧ VR c y z := by
 cases h with
 | list _ _ _ g off cap us hcl hc hm hf hl ho hx hw =>
  refine ⟨_, _, rfl, fun i x hi => ⟨g, off, rfl, fun j y hj => ?_⟩⟩
  have hil := (List.getElem?_eq_some_iff.1 hi).1
  have hjl : j < sz := by rw [← hl i x hi]; exact (List.getElem?_eq_some_iff.1 hj).1
  exact ⟨_, (hw i j hil hjl).2, ho i j hil hjl, hx i j x y hi hj⟩
 | lnil _ _ a => exact ⟨a, 0, rfl, fun i x hi => by simp at hi⟩
theorem agg_inv {c : Ctx} {cs : List PV} {u : Value} (h : VR c (.agg cs) u) : ∃ vs, u = .agg vs ∧ vs.size = cs.length ∧ ∀ (j : Nat) (y : PV) (u : Value), cs[j]? = some y → vs[j]? = some u → VR c y u := by
 cases h with
 | agg _ vs hl hx => exact ⟨vs, rfl, hl, hx⟩
theorem yRow_ok (G : Glo) : StateOk Tryz.prog G 65 yRow := by
 intro args bs fs x bs' fs' h
 unfold yRow at h
 split at h
 case h_2 => cases h
 rename_i s1 f1 x1 f xs p
 split at h
 ·rename_i hp
  split at h
  case h_2 => cases h
  rename_i y hy
  cases h
  refine ⟨Nat.le_refl _, fun B m w vs hb r hG hl ha => ?_⟩
  obtain ⟨u, v, rfl⟩ := args2 hl
  obtain ⟨vs, rfl, hvl, hvx⟩ := agg_inv (ha 0 _ u rfl rfl)
  obtain ⟨u1, u2, rfl⟩ := args2 (x := PV.unk) (y := PV.unk) hvl
  obtain ⟨a1, c1, rfl, _⟩ := list_inv (hvx 0 _ u1 rfl rfl)
  obtain ⟨a2, c2, rfl, hx2⟩ := list_inv (hvx 1 _ u2 rfl rfl)
  have hv := v_inv (ha 1 _ v rfl rfl)
  subst hv
  obtain ⟨g, off, rfl, hz⟩ := hx2 _ _ hy
  obtain ⟨z, hz1, hz2, hz3⟩ := hz 0 x rfl
  have hk : p.toNat < xs.length := by omega
  have e1 : p = ((p.toNat : Nat) : Int) := by omega
  rw [e1]
  rw [Nat.mul_one, Nat.add_zero] at hz1
  refine (row_in a1 g off x1.length c1 xs.length c2 p.toNat z w hk hz1 hz2).mono ?_
  rintro e w' ⟨rfl, hb4⟩
  obtain ⟨ev4, r4⟩ := r.grown hb4
  exact ⟨_, m, rfl, r4, ev4.sev, hz3.evol ev4⟩
 ·rename_i hp
  cases h
  refine ⟨Nat.le_refl _, fun B m w vs hb r hG hl ha => ?_⟩
  obtain ⟨u, v, rfl⟩ := args2 hl
  obtain ⟨vs, rfl, hvl, hvx⟩ := agg_inv (ha 0 _ u rfl rfl)
  obtain ⟨u1, u2, rfl⟩ := args2 (x := PV.unk) (y := PV.unk) hvl
  obtain ⟨a1, c1, rfl, _⟩ := list_inv (hvx 0 _ u1 rfl rfl)
  obtain ⟨a2, c2, rfl, hx2⟩ := list_inv (hvx 1 _ u2 rfl rfl)
  have hv := v_inv (ha 1 _ v rfl rfl)
  subst hv
  refine (row_out a1 a2 x1.length c1 xs.length c2 p w (by omega)).mono ?_
  rintro e w' ⟨rfl, hb4⟩
  obtain ⟨ev4, r4⟩ := r.grown hb4
  exact ⟨_, m, rfl, r4, ev4.sev, .v _⟩
def xRep : Ans := fun l => match l with
 | [.list 1 f [[.v (.int .u8 0)]], .v (.int .i64 n)] => if 1 ≤ n ∧ n ≤ 1000000 then some (.list 1 true (List.replicate n.toNat [.v (.int .u8 0)])) else none
 | _ => none
theorem xRep_ok (G : Glo) : PlainOk Tryz.prog G 258 xRep := by
  intro cargs r h c vs hcl hl ha hg hS
  unfold xRep at h
  split at h
  case h_2 => cases h
  rename_i f n
  split at h
  case isFalse => cases h
  rename_i hn
  cases h
  obtain ⟨u, v, rfl⟩ := args2 hl
  obtain ⟨a, cap, rfl, hx⟩ := list_inv (ha 0 _ u rfl rfl)
  have hv := v_inv (ha 1 _ v rfl rfl)
  subst hv
  obtain ⟨g, off, rfl, hz⟩ := hx 0 _ rfl
  obtain ⟨z, hz1, _, hz3⟩ := hz 0 _ rfl
  have hz3 := v_inv hz3
  subst hz3
  obtain ⟨k, rfl⟩ : ∃ k : Nat, n = (k : Int) := ⟨n.toNat, by omega⟩
  rw [Int.toNat_natCast]
  refine (repeat_ok ⟨g, off, none⟩ cap k (by omega) (by omega) c.w hz1).mono ?_
  rintro e w' ⟨g', rfl, hge, hb, hcell⟩
  have hlt : g' < w'.heap.size := by
    have := hcell 0 (by omega)
    rcases Nat.lt_or_ge g' w'.heap.size with h' | h'
    · exact h'
    · simp [World.cell?, Array.getElem?_eq_none h'] at this
  refine ⟨_, [], rfl, hb, .inl (.inl (.inl ⟨rfl, ?_, rfl⟩)), List.nodup_nil, by simp⟩
  have hL := VR.list (c := outC c w' []) 1 true (List.replicate k [.v (.int .u8 0)]) g' 0 k (fun _ _ => .int .u8 0) (closedLL_iff.2 fun x hx y hy => by rw [List.eq_of_mem_replicate hx] at hy; simp at hy; subst hy; rfl) (by simp) (by omega) (by simp)
    (fun i x hx => by rw [List.getElem?_replicate] at hx; split at hx; · cases hx; rfl
                      · cases hx)
    (fun i j hi hj => rfl) (fun i j x y hx hy => by
      rw [List.getElem?_replicate] at hx
      split at hx
      · cases hx
        cases j with
        | zero => simp at hy; subst hy; exact .v _
        | succ j => simp at hy
      · cases hx)
    (fun i j hi hj => by
      rw [List.length_replicate] at hi
      obtain rfl : j = 0 := by omega
      have hh := hcell i hi
      exact ⟨.inr ⟨hge, hlt, by simp⟩, by rw [Nat.mul_one, Nat.add_zero, Nat.zero_add]; exact hh⟩)
  rw [List.length_replicate] at hL
  exact hL
end Go.Proofs.YtdbekeidlppfiaaGreatDoor.Den
