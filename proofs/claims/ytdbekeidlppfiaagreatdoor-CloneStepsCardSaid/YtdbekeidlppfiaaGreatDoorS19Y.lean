/- Texts joined by a program of mine (pack.py): S19Y. -/
import Derived.Test.YtdbekeidlppfiaaGreatDoorS19X
set_option linter.unusedVariables false
set_option linter.unusedSimpArgs false
namespace Go.Proofs.YtdbekeidlppfiaaGreatDoor.Den
open Go Go.RowKit
theorem hsL_set (b b' : Option Blk) (bs : List (Option Blk)) (fs : List Nat) : hsL (b' :: bs) fs = { h := upd (hsL (b :: bs) fs).h [0, TAG] (1, b'), fz := (hsL (b :: bs) fs).fz } := by
 have e : hpL (b' :: bs) = upd (hpL (b :: bs)) [0, TAG] (1, b') := by
  funext n
  unfold upd
  by_cases hn : n = [0, TAG]
  ·subst hn; rfl
  ·rw [if_neg hn]
   unfold hpL
   split
   ·rename_i j t
    by_cases ht : t = TAG
    ·rw [if_pos ht, if_pos ht]
     cases j with
     | zero => exact absurd (by rw [ht]) hn
     | succ j => rfl
    ·rw [if_neg ht, if_neg ht]
   ·rfl
 unfold hsL
 rw [e]
noncomputable def yAs : SFun := fun args bs fs => match args, bs with
 | [.v .nilIface, _], _ => some (.v (.bool false), bs, fs)
 | [.ifc t (.v (.int .i64 e)), .ifc t' (.ptr n 1 0 0)], some b :: bs' => if t = 312 ∧ t' = 381 ∧ n = [0, TAG] then
   match stD Tryz.prog [] (hsL bs fs) 312 (.ptr [0, TAG] 1 0 0) (.v (.int .i64 e)) with
   | some s1 => match s1.h [0, TAG] with
    | (_, b1) => some (.v (.bool true), b1 :: bs', fs)
   | none => none
  else none
 | [.ifc t (.agg [.v (.int .i64 e)]), .ifc t' (.ptr n 1 0 0)], some b :: bs' => if t = 211 ∧ t' = 257 ∧ n = [0, TAG] then
   match stD Tryz.prog [] (hsL bs fs) 211 (.ptr [0, TAG] 1 0 0) (.agg [.v (.int .i64 e)]) with
   | some s1 => match s1.h [0, TAG] with
    | (_, b1) => some (.v (.bool true), b1 :: bs', fs)
   | none => none
  else none
 | _, _ => none
theorem stD_first {P : Program} {t : TypeId} {x : PV} {b : Blk} {bs : List (Option Blk)} {fs : List Nat} {s1 : HS} (h : stD P [] (hsL (some b :: bs) fs) t (.ptr [0, TAG] 1 0 0) x = some s1) : s1 = hsL ((s1.h [0, TAG]).2 :: bs) fs := by
 unfold stD at h
 split at h
 case h_2 => cases h
 rename_i sz cs n k i off e1 e2 e3
 cases e3
 have hn : (hsL (some b :: bs) fs).h [0, TAG] = (1, some b) := rfl
 rw [hn] at h
 simp only at h
 split at h
 case isFalse => cases h
 split at h
 case h_2 => cases h
 split at h
 case isFalse => cases h
 cases h
 simp only [upd_same]
 exact (hsL_set (some b) _ bs fs).symm
theorem run_setObj1 {P : Program} {w : World} {a : Addr} {old v : Value} (h1 : v.oneCell' = true) (hc : w.cell? a = some old) (hf : w.frozen? a = false) : (store a v).run P w = .ok () (w.setCell a v) := by
 rw [run_store P w _ v _ h1]; simp [hc, hf]
theorem run_storeOne {P : Program} {w : World} {T : TypeId} {g : Nat} {old u v : Value} (hs : tsz P T = some 1) (hu : u.cells = #[v]) (hv : v.oneCell' = true) (hc : w.cell? ⟨g, 0, none⟩ = some old) (hf : w.frozen? ⟨g, 0, none⟩ = false) :
  (Instr.storeAt T (.pointer (some ⟨g, 0, none⟩)) u).run P w = .ok () (w.setCell ⟨g, 0, none⟩ v) := by
 have h1 := run_sizeOf hs w
 have e1 : (⟨g, 0, none⟩ : Addr).add 0 = ⟨g, 0, none⟩ := rfl
 unfold Instr.storeAt storeVar
 simp [Instr.sureAddr, Sem.run_bind, Result.andThen, h1, hu, storeCells, e1, run_setObj1 hv hc hf]
theorem as_state {T T' : TypeId} {x : PV} {u c1 : Value} (hx : ∀ c, VR c x u) (hs : tsz Tryz.prog T = some 1) (hu : u.cells = #[c1]) (hc1 : c1.oneCell' = true)
  (hcall : ∀ (t : Addr) (old : Value) (w : World), w.cell? ⟨3, 0, none⟩ = some (.iface 264 (.agg #[.pointer (some ⟨10, 145, none⟩)])) → w.cell? t = some old → w.frozen? t = false →
   Calls Tryz.prog 171 #[.iface T u, .iface T' (.pointer (some t))] w fun ev w' => ev = .returned (.bool true) ∧ ∃ w4, Below w.heap.size w w4 ∧ w' = w4.setCell t c1)
  {b : Blk} {bs : List (Option Blk)} {fs : List Nat} {s1 : HS} (h : stD Tryz.prog [] (hsL (some b :: bs) fs) T (.ptr [0, TAG] 1 0 0) x = some s1)
  {B : Base} {m : Name → Nat} {w : World} {vs : Array Value} (r : RelH B m (hsL (some b :: bs) fs) w) (hG : GOk (ctx B (hsL (some b :: bs) fs) m w) G0) (hl : vs.size = 2)
  (h0 : ∀ v, vs[0]? = some v → VR (ctx B (hsL (some b :: bs) fs) m w) (.ifc T x) v) (h1 : ∀ v, vs[1]? = some v → VR (ctx B (hsL (some b :: bs) fs) m w) (.ifc T' (.ptr [0, TAG] 1 0 0)) v)
  (hux : ∀ c v, VR c x v → v = u) :
  Calls Tryz.prog 171 vs w fun e w' => ∃ v m', e = .returned v ∧ RelH B m' (hsL ((s1.h [0, TAG]).2 :: bs) fs) w' ∧ SEvol (ctx B (hsL (some b :: bs) fs) m w) (ctx B (hsL ((s1.h [0, TAG]).2 :: bs) fs) m' w') ∧ VR (ctx B (hsL ((s1.h [0, TAG]).2 :: bs) fs) m' w') (.v (.bool true)) v := by
 obtain ⟨p, q, rfl⟩ : ∃ p q, vs = #[p, q] := by
  obtain ⟨l⟩ := vs
  match l, hl with
  | [p, q], _ => exact ⟨p, q, rfl⟩
 obtain ⟨z, rfl, hz⟩ := ifc_inv (h0 p rfl)
 obtain rfl := hux _ _ hz
 obtain ⟨z, rfl, hz'⟩ := ifc_inv (h1 q rfl)
 have hn : (hsL (some b :: bs) fs).h [0, TAG] = (1, some b) := rfl
 obtain ⟨a, rfl, ha⟩ : ∃ a, z = .pointer (some a) ∧ a = ⟨m [0, TAG], 0, none⟩ := by
  cases hz' with
  | ptr n k i off a hk ha => exact ⟨a, rfl, by have := ha b hn; simp only [Nat.zero_mul, Nat.zero_add] at this; exact this⟩
 subst ha
 obtain ⟨⟨cells, hc, hlen, hel, hcl⟩, hbase, hfz, hO⟩ := r.blk [0, TAG] 1 b hn
 have hcell : ∃ old, w.cell? ⟨m [0, TAG], 0, none⟩ = some old := by
  unfold stD at h
  split at h
  case h_2 => cases h
  rename_i sz cs n k i off e1 e2 e3
  cases e3
  rw [hs] at e1
  cases e1
  rw [hn] at h
  simp only at h
  split at h
  case isFalse => cases h
  split at h
  case h_2 => cases h
  rename_i e he
  split at h
  case isFalse => cases h
  rename_i hle
  obtain ⟨q1, q2⟩ := hel 0 e he
  have hlt : 0 < e.length := by omega
  obtain ⟨u0, hu0, _⟩ := q2 0 _ (List.getElem?_eq_getElem hlt)
  refine ⟨u0, ?_⟩
  have hc' : CellsOf w (m [0, TAG]) cells b.E := hc
  rw [hc'.cell]
  simpa using hu0
 obtain ⟨old, hold⟩ := hcell
 have hfr : w.frozen? ⟨m [0, TAG], 0, none⟩ = false := by
  have hc' : CellsOf w (m [0, TAG]) cells b.E := hc
  refine hc'.frozen ?_
  rw [hc'.cell] at hold
  exact (Array.getElem?_eq_some_iff.1 hold).1
 have hg4 : w.cell? ⟨3, 0, none⟩ = some (.iface 264 (.agg #[.pointer (some ⟨10, 145, none⟩)])) := by
  have := hG.rel 3 _ rfl
  cases this with
  | eptr cs g off us _ hx' hw =>
   have q1 := hw 0 (by simp)
   have q2 := v_inv (hx' 0 _ rfl)
   rw [← q2]
   exact q1.2
 refine (hcall _ old w hg4 hold hfr).mono ?_
 rintro e w' ⟨rfl, w4, hb4, rfl⟩
 obtain ⟨ev4, r4⟩ := r.grown hb4
 have hz4 : VR (ctx B (hsL (some b :: bs) fs) m w4) (.ptr [0, TAG] 1 0 0) (.pointer (some ⟨m [0, TAG], 0, none⟩)) := hz'.evol ev4
 obtain ⟨w5, hrun, r5, ev5⟩ := stD_ok r4 h hz4 (hx _)
 have hlt : m [0, TAG] < w.heap.size := r.lt hn
 have hrun' := run_storeOne (P := Tryz.prog) (w := w4) (T := T) hs hu hc1 ((World.cell?_of_block (a := ⟨m [0, TAG], 0, none⟩) (hb4.block _ hlt)).trans hold) ((World.frozen?_of_block (a := ⟨m [0, TAG], 0, none⟩) (hb4.block _ hlt)).trans hfr)
 rw [hrun'] at hrun
 cases hrun
 have e1 := stD_first h
 rw [← e1]
 exact ⟨_, m, rfl, r5, (ev4.trans ev5).sev, .v _⟩
theorem yAs_ok : StateOk Tryz.prog G0 171 yAs := by
 intro args bs fs x bs' fs' h
 unfold yAs at h
 split at h
 ·cases h
  refine ⟨Nat.le_refl _, fun B m w vs hb r hG hl ha => ?_⟩
  obtain ⟨u, v, rfl⟩ := args2 hl
  have hu := v_inv (ha 0 _ u rfl rfl)
  subst hu
  exact (as_nil v w).mono fun e w' ⟨he, hw⟩ => ⟨_, m, he, by rw [hw]; exact r, by rw [hw]; exact SEvol.refl _, .v _⟩
 ·split at h
  case isFalse => cases h
  rename_i hc
  obtain ⟨rfl, rfl, rfl⟩ := hc
  split at h
  case h_2 => cases h
  rename_i s1 hs1
  split at h
  rename_i b1 hb1
  cases h
  refine ⟨Nat.le_refl _, fun B m w vs hb r hG hl ha => ?_⟩
  have := as_state (T := 312) (T' := 381) (fun c => .v _) (by kernel_rfl) rfl rfl (fun t old w hg ht hf => (as_hit _ t old w hg ht hf).mono fun e w' ⟨he, hw⟩ => ⟨he, _, (((balloc' w _).alloc (by simp) _).alloc (by simp; omega) _).alloc (by simp; omega) _, hw⟩) hs1 r hG hl (fun v hv => ha 0 _ v rfl hv) (fun v hv => ha 1 _ v rfl hv) (fun c v hv => v_inv hv)
  rw [hb1] at this
  exact this
 ·split at h
  case isFalse => cases h
  rename_i hc
  obtain ⟨rfl, rfl, rfl⟩ := hc
  split at h
  case h_2 => cases h
  rename_i s1 hs1
  split at h
  rename_i b1 hb1
  cases h
  refine ⟨Nat.le_refl _, fun B m w vs hb r hG hl ha => ?_⟩
  have := as_state (T := 211) (T' := 257) (fun c => VR.ofV c (.agg #[.int .i64 _])) (by kernel_rfl) rfl rfl (fun t old w hg ht hf => (as_hitT _ t old w hg ht hf).mono fun e w' ⟨he, hw⟩ => ⟨he, _, (((balloc' w _).alloc (by simp) _).alloc (by simp; omega) _).alloc (by simp; omega) _, hw⟩) hs1 r hG hl (fun v hv => ha 0 _ v rfl hv) (fun v hv => ha 1 _ v rfl hv) (fun c v hv => VR.toV _ hv rfl)
  rw [hb1] at this
  exact this
 ·cases h
end Go.Proofs.YtdbekeidlppfiaaGreatDoor.Den
