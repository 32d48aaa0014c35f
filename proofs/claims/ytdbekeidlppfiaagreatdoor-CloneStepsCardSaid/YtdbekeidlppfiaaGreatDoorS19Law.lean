/- Texts joined by a program of mine (pack.py): S19Law. -/
import Derived.Test.YtdbekeidlppfiaaGreatDoorRows
import Derived.Test.YtdbekeidlppfiaaGreatDoorLawKit
import Derived.Test.YtdbekeidlppfiaaGreatDoorPlClone
import Derived.Lib.LaidTab
import Derived.Stop.LaidTwo
import Derived.LaidLaws
import Derived.LaidHandle
import Derived.RowKitTokens
import Derived.Handed
import Derived.SevenTiedAt
set_option linter.unusedVariables false
set_option linter.unusedSimpArgs false
namespace Go.Proofs.YtdbekeidlppfiaaGreatDoor.Den
open Go Go.RowKit Go.ChangeShapes Go.WideShapes
abbrev laidD : List (String × DataW Unit) := [("math/bits.deBruijn32tab", Rows.laid_math_bits_deBruijn32tab), ("math/bits.deBruijn64tab", Rows.laid_math_bits_deBruijn64tab), ("internal/strconv.uint64pow10", Rows.laid_internal_strconv_uint64pow10), ("unicode/utf8.acceptRanges", Rows.laid_unicode_utf8_acceptRanges), ("flagstone/option.errLetter", Rows.laid_flagstone_option_errLetter), ("flagstone/option.errValue", Rows.laid_flagstone_option_errValue), ("flagstone/change.errSame", Rows.laid_flagstone_change_errSame), ("unicode/utf8.first", Rows.laid_unicode_utf8_first)]
abbrev laidL : List (String × DataW Unit) := [("math/bits.deBruijn32tab", Rows.laid_math_bits_deBruijn32tab), ("math/bits.deBruijn64tab", Rows.laid_math_bits_deBruijn64tab), ("internal/strconv.uint64pow10", Rows.laid_internal_strconv_uint64pow10), ("unicode/utf8.acceptRanges", Rows.laid_unicode_utf8_acceptRanges), ("errors.errorType", Rows.laid_errors_errorType), ("flagstone/option.errLetter", Rows.laid_flagstone_option_errLetter), ("flagstone/option.errValue", Rows.laid_flagstone_option_errValue), ("flagstone/change.errSame", Rows.laid_flagstone_change_errSame), ("unicode/utf8.first", Rows.laid_unicode_utf8_first)]
theorem laid_parts (w : World) : laidMetH Tryz.prog laidL w = (laidMet Tryz.prog laidD w ∧ handlesMet Tryz.prog [("errors.errorType", Rows.laid_errors_errorType)] w) := by kernel_rfl
theorem gl0 : Tryz.prog.globalNamed "flagstone/option.errLetter" = some 0 := by kernel_rfl
theorem gl1 : Tryz.prog.globalNamed "flagstone/option.errValue" = some 1 := by kernel_rfl
theorem gl2 : Tryz.prog.globalNamed "flagstone/change.errSame" = some 2 := by kernel_rfl
theorem gl3 : Tryz.prog.globalNamed "internal/strconv.uint64pow10" = some 5 := by kernel_rfl
theorem gl4 : Tryz.prog.globalNamed "errors.errorType" = some 3 := by kernel_rfl
theorem glt0 : (Tryz.prog.globals[0]?).map (·.type) = some 145 := by kernel_rfl
theorem glt1 : (Tryz.prog.globals[1]?).map (·.type) = some 145 := by kernel_rfl
theorem glt2 : (Tryz.prog.globals[2]?).map (·.type) = some 145 := by kernel_rfl
theorem star : "*" ++ "errors.errorString" = "*errors.errorString" := by decide
theorem rowE (u : TypeId) (h : Tryz.prog.typeName? 3 u = some "*errors.errorString") : u = 403 :=
 typeName_ptr_named (nm := "errors.errorString") (by rw [star]; kernel_rfl) (by kernel_rfl) (by decide) u (by rw [star]; exact h)
theorem laid_tail {P : Program} {x : String × DataW Unit} {r : List (String × DataW Unit)} {w : World} (h : laidMet P (x :: r) w) : laidMet P r w := by
 obtain ⟨ps, ⟨g, t, cs, f, p, q, _, _, _, _, h2, rfl⟩, hnd, hr⟩ := h
 exact ⟨q, h2, (List.nodup_append.1 hnd).2.1, fun b off hb => hr b off (List.mem_append_right _ hb)⟩
theorem laid_skip {P : Program} {x y : String × DataW Unit} {r : List (String × DataW Unit)} {w : World} (h : laidMet P (x :: y :: r) w) : laidMet P (x :: r) w := by
 obtain ⟨ps, ⟨g, t, cs, f, p, q, h1, h2, h3, h4, ⟨g', t', cs', f', p', q', _, _, _, _, h5, rfl⟩, rfl⟩, hnd, hr⟩ := h
 refine ⟨_, ⟨g, t, cs, f, p, q', h1, h2, h3, h4, h5, rfl⟩, hnd.sublist (List.Sublist.append_left (List.sublist_append_right _ _) _), fun b off hb => hr b off ?_⟩
 rcases List.mem_append.1 hb with hb | hb
 ·exact List.mem_append_left _ hb
 ·exact List.mem_append_right _ (List.mem_append_right _ hb)
theorem laid_head {P : Program} {n : String} {d : DataW Unit} {r : List (String × DataW Unit)} {w : World} {g : Nat} {cs : Array Value} (h : laidMet P ((n, d) :: r) w) (hg : P.globalNamed n = some g) (hv : w.var? P n = some cs) (h0 : 0 < cs.size) : ∃ t, w.heap[g]? = some (.cells cs t (0, 0)) := by
 obtain ⟨ps, ⟨g', t, cs', f, p, q, h1, _, h3, _, _, rfl⟩, _, hr⟩ := h
 obtain rfl := Option.some.inj (hg.symm.trans h1)
 obtain rfl := Option.some.inj (hv.symm.trans h3)
 obtain ⟨c, t', hc⟩ := (hr g 0 (by
  refine List.mem_append_left _ (List.mem_append_left _ ?_)
  simp only [MemPlace.row, List.mem_map, List.mem_range]
  exact ⟨0, h0, rfl⟩)).1
 unfold World.var? at hv
 rw [hg, Option.bind_some, hc] at hv
 cases hv
 exact ⟨t', hc⟩
theorem cell_lt {w : World} {g o : Nat} {v : Value} (h : w.cell? ⟨g, o, none⟩ = some v) : g < w.heap.size := by
 unfold World.cell? at h
 cases hg : w.heap[g]? with
 | none => simp [hg] at h
 | some o => exact (Array.getElem?_eq_some_iff.1 hg).1
theorem far_eq {w : World} {g : Nat} {t : TypeId} {a : Addr} (h : w.cell? ⟨g, 0, none⟩ = some (.iface t (.pointer (some a)))) : (topC w).F g = a := by
 show farOf w g = a
 unfold farOf
 rw [h]
theorem eptr1 {w : World} {g : Nat} {x : PV} {u : Value} (h : w.cell? ⟨g, 0, none⟩ = some u) (hc : closedB x = true) (hx : VR (topC w) x u) : VR (topC w) (.eptr [x]) (.pointer (some ⟨g, 0, none⟩)) :=
 VR.eptr [x] g 0 (fun _ => u) (by simp [closedL, hc]) (fun j y hy => by
  cases j with
  | zero => simp at hy; subst hy; exact hx
  | succ j => simp at hy) (fun j hj => by
  obtain rfl : j = 0 := by simp at hj; exact hj
  exact ⟨cell_lt h, h⟩)
abbrev gA : Nat := 0
abbrev gB : Nat := 1
abbrev gC : Nat := 2
abbrev gM : Nat := 4
abbrev gT : Nat := 3
abbrev gP : Nat := 5
abbrev tE : TypeId := 403
theorem G0_inv {g : Nat} {cs : List PV} (h : G0 g = some cs) : (∃ k, sentB k = true ∧ g = k ∧ cs = [.ifc tE (.far k)]) ∨ (g = gM ∧ cs = [.unk]) ∨ (g = gT ∧ cs = [.v (.iface 264 (.agg #[.pointer (some ⟨10, 145, none⟩)]))]) ∨ (g = gP ∧ cs = tabP .u64 Lib.pow10Tab) := by
 unfold G0 at h
 split at h
 ·rename_i e; cases h; exact .inl ⟨_, rfl, e, rfl⟩
 split at h
 ·rename_i e; cases h; exact .inl ⟨_, rfl, e, rfl⟩
 split at h
 ·rename_i e; cases h; exact .inl ⟨_, rfl, e, rfl⟩
 split at h
 ·rename_i e; cases h; exact .inr (.inl ⟨e, rfl⟩)
 split at h
 ·rename_i e; cases h; exact .inr (.inr (.inl ⟨e, rfl⟩))
 split at h
 ·rename_i e; cases h; exact .inr (.inr (.inr ⟨e, rfl⟩))
 ·cases h
theorem sent_cases {k : Nat} (h : sentB k = true) : k = gA ∨ k = gB ∨ k = gC := by
 simp only [sentB, Bool.or_eq_true, beq_iff_eq] at h
 rcases h with (rfl | rfl) | rfl
 ·exact .inl rfl
 ·exact .inr (.inl rfl)
 ·exact .inr (.inr rfl)
theorem tab_cell (j : Nat) (y : PV) (h : (tabP .u64 Lib.pow10Tab)[j]? = some y) : y = .v (.int .u64 (Lib.pow10Tab.getD j 0)) := by
 unfold tabP at h
 rw [List.getElem?_map] at h
 cases hz : Lib.pow10Tab[j]? with
 | none => rw [hz] at h; cases h
 | some z => rw [hz] at h; cases h; rw [List.getD_eq_getElem?_getD, hz]; rfl
structure Sent (w : World) (g : Nat) (a : Addr) : Prop where
 cell : w.cell? ⟨g, 0, none⟩ = some (.iface tE (.pointer (some a)))
 block : ∃ c t, w.heap[a.block]? = some (.cells c t (0, 0))
theorem tab_len : (tabP .u64 Lib.pow10Tab).length = 20 := by kernel_rfl
theorem gok {w : World} {aA aB aC : Addr} (hA : Sent w gA aA) (hB : Sent w gB aB) (hC : Sent w gC aC) (hAB : aA ≠ aB) (hAC : aA ≠ aC) (hBC : aB ≠ aC) (hm : ∃ m, w.cell? ⟨gM, 0, none⟩ = some (.int .i64 m))
  (hT : w.cell? ⟨gT, 0, none⟩ = some (.iface 264 (.agg #[.pointer (some ⟨10, 145, none⟩)]))) (hP : ∀ i, i < 20 → w.cell? ⟨gP, i, none⟩ = some (.int .u64 (Lib.pow10Tab.getD i 0))) (hPs : ∃ vs t, w.heap[gP]? = some (.cells vs t (0, 0)) ∧ vs.size = 20) : GOk (topC w) G0 where
 rel g cs hg := by
  rcases G0_inv hg with ⟨k, hk, rfl, rfl⟩ | ⟨rfl, rfl⟩ | ⟨rfl, rfl⟩ | ⟨rfl, rfl⟩
  ·rcases sent_cases hk with rfl | rfl | rfl
   ·refine eptr1 hA.cell rfl (.ifc _ _ _ ?_)
    rw [← far_eq hA.cell]; exact .far _
   ·refine eptr1 hB.cell rfl (.ifc _ _ _ ?_)
    rw [← far_eq hB.cell]; exact .far _
   ·refine eptr1 hC.cell rfl (.ifc _ _ _ ?_)
    rw [← far_eq hC.cell]; exact .far _
  ·obtain ⟨m, hm⟩ := hm
   exact eptr1 hm rfl (.unk _)
  ·exact eptr1 hT rfl (.v _)
  ·refine VR.eptr _ _ 0 (fun j => .int .u64 (Lib.pow10Tab.getD j 0)) (by kernel_rfl) (fun j y hy => by rw [tab_cell j y hy]; exact .v _) fun j hj => ?_
   rw [tab_len] at hj
   have := hP j hj
   rw [Nat.zero_add]
   exact ⟨cell_lt this, this⟩
 closed g cs hg := by
  rcases G0_inv hg with ⟨k, hk, rfl, rfl⟩ | ⟨rfl, rfl⟩ | ⟨rfl, rfl⟩ | ⟨rfl, rfl⟩
  ·rfl
  ·rfl
  ·rfl
  ·kernel_rfl
 inj g g' t t' k k' hg hg' hF := by
  have e : ∀ {g t k}, G0 g = some [.ifc t (.far k)] → sentB k = true := by
   intro g t k h
   rcases G0_inv h with ⟨k', hk, _, h⟩ | ⟨_, h⟩ | ⟨_, h⟩ | ⟨_, h⟩
   ·injection h with h _; injection h with _ h; injection h with h; subst h; exact hk
   ·injection h with h _; cases h
   ·injection h with h _; cases h
   ·have := congrArg List.length h; rw [tab_len] at this; cases this
  rcases sent_cases (e hg) with rfl | rfl | rfl <;> rcases sent_cases (e hg') with rfl | rfl | rfl
  ·rfl
  ·rw [far_eq hA.cell, far_eq hB.cell] at hF; exact absurd hF hAB
  ·rw [far_eq hA.cell, far_eq hC.cell] at hF; exact absurd hF hAC
  ·rw [far_eq hA.cell, far_eq hB.cell] at hF; exact absurd hF.symm hAB
  ·rfl
  ·rw [far_eq hB.cell, far_eq hC.cell] at hF; exact absurd hF hBC
  ·rw [far_eq hA.cell, far_eq hC.cell] at hF; exact absurd hF.symm hAC
  ·rw [far_eq hB.cell, far_eq hC.cell] at hF; exact absurd hF.symm hBC
  ·rfl
 far g t k hg := by
  rcases G0_inv hg with ⟨k', hk, _, h⟩ | ⟨_, h⟩ | ⟨_, h⟩ | ⟨_, h⟩
  ·injection h with h _; injection h with _ h; injection h with h; subst h
   rcases sent_cases hk with rfl | rfl | rfl
   ·rw [far_eq hA.cell]; exact hA.block
   ·rw [far_eq hB.cell]; exact hB.block
   ·rw [far_eq hC.cell]; exact hC.block
  ·injection h with h _; cases h
  ·injection h with h _; cases h
  ·have := congrArg List.length h; rw [tab_len] at this; cases this
 num g hg := by
  rcases G0_inv hg with ⟨k', hk, _, h⟩ | ⟨rfl, h⟩ | ⟨_, h⟩ | ⟨_, h⟩
  ·injection h with h _; cases h
  ·obtain ⟨m, hm⟩ := hm
   exact ⟨m, cell_lt hm, hm⟩
  ·injection h with h _; cases h
  ·have := congrArg List.length h; rw [tab_len] at this; cases this
 sz g x y cs hg := by
  rcases G0_inv hg with ⟨k', hk, _, h⟩ | ⟨_, h⟩ | ⟨_, h⟩ | ⟨rfl, h⟩
  ·injection h with _ h; cases h
  ·injection h with _ h; cases h
  ·injection h with _ h; cases h
  ·obtain ⟨vs, t, h1, h2⟩ := hPs
   have := congrArg List.length h
   rw [tab_len] at this
   simp only [List.length_cons] at this
   exact ⟨vs, t, h1, by omega⟩
theorem row_type (t : TypeId) (h1 : t < Tryz.prog.types.size) (h2 : Tryz.prog.rowNamed t [101, 114, 114, 111, 114] = true) : t = 145 := by
 have h : ((List.range Tryz.prog.types.size).all fun t => !Tryz.prog.rowNamed t [101, 114, 114, 111, 114] || t == 145) = true := by kernel_rfl
 have := List.all_eq_true.1 h t (List.mem_range.2 h1)
 rw [h2] at this
 simpa using this
set_option maxRecDepth 100000 in
theorem gok_laid {w : World} (hs : w.ShapedOpen Tryz.prog) (h : laidMetH Tryz.prog laidL w) : GOk (topC w) G0 := by
 rw [laid_parts] at h
 obtain ⟨h1, h2⟩ := h
 have hp := laid_tail (laid_tail h1)
 have hs2 := laid_tail (laid_tail hp)
 obtain ⟨a0, a1, s0, s1, c0, c1, t0, t1, hv0, hv1, _, _, _, _, _, _, hne, hb0, hb1⟩ := laid_sentinels2 hs2 gl0 glt0 gl1 glt1 Tryz.underlying145 rowE Tryz.underlying403 Tryz.underlying423 rfl rfl Tryz.underlying9 (by kernel_rfl) (by kernel_rfl)
 obtain ⟨a1', a2, _, _, _, c2, _, t2, hv1', hv2, _, _, _, _, _, _, hne2, _, hb2⟩ := laid_sentinels2 (laid_tail hs2) gl1 glt1 gl2 glt2 Tryz.underlying145 rowE Tryz.underlying403 Tryz.underlying423 rfl rfl Tryz.underlying9 (by kernel_rfl) (by kernel_rfl)
 obtain ⟨a0', a2', _, _, _, _, _, _, hv0', hv2', _, _, _, _, _, _, hne3, _, _⟩ := laid_sentinels2 (laid_skip hs2) gl0 glt0 gl2 glt2 Tryz.underlying145 rowE Tryz.underlying403 Tryz.underlying423 rfl rfl Tryz.underlying9 (by kernel_rfl) (by kernel_rfl)
 rw [hv1] at hv1'
 rw [hv0] at hv0'
 rw [hv2] at hv2'
 cases hv1'
 cases hv0'
 cases hv2'
 have hA : w.cell? ⟨gA, 0, none⟩ = some (.iface tE (.pointer (some a0))) := by simpa using World.var?_cell gl0 hv0 0
 have hB : w.cell? ⟨gB, 0, none⟩ = some (.iface tE (.pointer (some a1))) := by simpa using World.var?_cell gl1 hv1 0
 have hC : w.cell? ⟨gC, 0, none⟩ = some (.iface tE (.pointer (some a2))) := by simpa using World.var?_cell gl2 hv2 0
 have hTab : Lib.TabIs Tryz.prog w "internal/strconv.uint64pow10" .u64 Lib.pow10Tab := Lib.tabIs_of_head (t := 373) (e := 202) (n := 20) gl3 (by kernel_rfl) (by kernel_rfl) (by kernel_rfl) (by kernel_rfl) (by kernel_rfl) hp
 obtain ⟨tp, hPs⟩ := laid_head hp gl3 hTab (Nat.lt_of_lt_of_eq (by decide : 0 < 20) (by kernel_rfl))
 obtain ⟨name, u, ty, hn, hu, hty, hrow, hvT⟩ := h2 _ (List.mem_singleton.2 rfl)
 have hn : some [101, 114, 114, 111, 114] = some name := hn
 cases hn
 obtain rfl := row_type ty hty hrow
 have hu : some 264 = some u := by rw [← hu]; kernel_rfl
 cases hu
 have hT : w.cell? ⟨gT, 0, none⟩ = some (.iface 264 (.agg #[typeHandle Tryz.prog 145])) := by simpa using World.var?_cell gl4 hvT 0
 have hTe : typeHandle Tryz.prog 145 = .pointer (some ⟨10, 145, none⟩) := by kernel_rfl
 rw [hTe] at hT
 exact gok ⟨hA, _, _, hb0⟩ ⟨hB, _, _, hb1⟩ ⟨hC, _, _, hb2⟩ hne hne3 hne2 (Tryz.laysM144.s1_3 w hs) hT (fun i hi => hTab.cell gl3 i hi) ⟨_, _, hPs, by kernel_rfl⟩
def datC : DataW Unit → List Value
 | .lit (.int k z) => [.int k z]
 | .agg l => l.flatMap fun
  | .lit (.int k z) => [.int k z]
  | .agg m => m.flatMap fun
   | .lit (.int k z) => [.int k z]
   | _ => []
  | _ => []
 | _ => []
abbrev letterS : ByteArray := { data := #[110, 111, 32, 115, 117, 99, 104, 32, 108, 101, 116, 116, 101, 114] }
abbrev valueS : ByteArray := { data := #[97, 32, 118, 97, 108, 117, 101, 32, 108, 97, 99, 107, 115] }
abbrev sameS : ByteArray := { data := #[98, 111, 116, 104, 32, 97, 114, 101, 32, 111, 110, 101] }
noncomputable def low : Nat := (World.holding Tryz.prog default ⟨#[], #[], []⟩).heap.size
def putC (cs : List Value) : Obj → Obj
 | .cells _ t frozen => .cells cs.toArray t frozen
 | o => o
noncomputable def laidWorld (os : Os) : World :=
 let w0 := World.holding Tryz.prog os ⟨#[.cells #[.string letterS] 423, .cells #[.string valueS] 423, .cells #[.string sameS] 423], #[], []⟩
 { w0 with heap := ((((((((w0.heap.modify gA (putC [.iface tE (.pointer (some ⟨low, 0, none⟩))])).modify gB (putC [.iface tE (.pointer (some ⟨low + 1, 0, none⟩))])).modify gC (putC [.iface tE (.pointer (some ⟨low + 2, 0, none⟩))])).modify gT (putC [.iface 264 (.agg #[typeHandle Tryz.prog 145])])).modify gP (putC (datC Rows.laid_internal_strconv_uint64pow10))).modify 6 (putC (datC Rows.laid_unicode_utf8_first))).modify 7 (putC (datC Rows.laid_unicode_utf8_acceptRanges))).modify 8 (putC (datC Rows.laid_math_bits_deBruijn32tab))).modify 9 (putC (datC Rows.laid_math_bits_deBruijn64tab)) }
set_option maxRecDepth 100000 in
theorem laidWorld_met (os : Os) (args : Array Value) : laidMetH Tryz.prog laidL ((laidWorld os).forCall (fun _ _ => 0) ⟨#[], args, []⟩).memory :=
 laidMetH_of_parts (laidMet_of_run' 8 (by kernel_rfl) (by kernel_rfl)) (by kernel_rfl)
theorem stand_of {P : Program} {ps : Array TypeId} (h : (ps.all fun t => !P.wantsStandIn t) = true) : ∀ (j : Nat) (t : TypeId), ps[j]? = some t → P.wantsStandIn t = false := by
 intro j t ht
 obtain ⟨hj, rfl⟩ := Array.getElem?_eq_some_iff.1 ht
 have := Array.all_eq_true.1 h j hj
 simpa using this
structure Told (w : World) (c : PV) (v : Value) : Prop where
 vr : VR (topC w) c v
 cl : closedB c = true
theorem Told.int (w : World) (k : IntKind) (n : Int) : Told w (.v (.int k n)) (.int k n) := ⟨.v _, rfl⟩
theorem Told.bool (w : World) (b : Bool) : Told w (pB b) (.bool b) := ⟨.v _, rfl⟩
inductive ToldL (w : World) : List PV → List Value → Prop
 | nil : ToldL w [] []
 | cons {c : PV} {v : Value} {l : List PV} {m : List Value} (h : Told w c v) (t : ToldL w l m) : ToldL w (c :: l) (v :: m)
theorem ToldL.closed {w : World} {l : List PV} {m : List Value} (h : ToldL w l m) : closedL l = true := by
 induction h with
 | nil => rfl
 | cons h _ ih => simp only [closedL, h.cl, ih, Bool.and_self]
theorem ToldL.len {w : World} {l : List PV} {m : List Value} (h : ToldL w l m) : m.length = l.length := by
 induction h with
 | nil => rfl
 | cons h _ ih => simp [ih]
theorem ToldL.get {w : World} {l : List PV} {m : List Value} (h : ToldL w l m) : ∀ (j : Nat) (x : PV) (u : Value), l[j]? = some x → m[j]? = some u → VR (topC w) x u := by
 induction h with
 | nil => intro j x u h; simp at h
 | cons h _ ih =>
  intro j x u hx hu
  cases j with
  | zero => simp at hx hu; subst hx hu; exact h.vr
  | succ j => exact ih j x u (by simpa using hx) (by simpa using hu)
theorem law_told {k : Nat} {f : FuncId} {cargs : List PV} {w : World} {vs : Array Value} (hg : GOk (topC w) G0) (hf : run0 k f cargs = some (pB true)) (ht : ToldL w cargs vs.toList) :
  Calls PR f vs w fun e w' => e = .returned (.bool true) ∧ Below w.heap.size w w' :=
 law_true hf ht.closed (by have := ht.len; simpa using this) (fun j x u hx hu => ht.get j x u hx (by simpa using hu)) hg
section
variable {H : Type} {enc : TypeId × Value → H} {w : World} {held : Bool}
def RS (c : List PV) : Prop := ∃ s : ByteArray, c = [.v (.string s)] ∧ s.size ≤ maxLen
theorem rs_of : ∀ {xs : List (List PV)}, (∀ x ∈ xs, RS x) → ∃ l : List ByteArray, xs = l.map cS ∧ ∀ y ∈ l, y.size ≤ maxLen
 | [], _ => ⟨[], rfl, by simp⟩
 | x :: xs, h => by
  obtain ⟨y, rfl, hy⟩ := h x (by simp)
  obtain ⟨l, rfl, hl⟩ := rs_of fun z hz => h z (List.mem_cons_of_mem _ hz)
  exact ⟨y :: l, rfl, fun z hz => by
   rcases List.mem_cons.1 hz with rfl | hz
   ·exact hy
   ·exact hl z hz⟩
def RI (c : List PV) : Prop := ∃ n, c = [.v (.int .i64 n)] ∧ (Lit.int .i64 n).wf = true
theorem ri_of : ∀ {xs : List (List PV)}, (∀ x ∈ xs, RI x) → ∃ l : List Int, xs = l.map cI
 | [], _ => ⟨[], rfl⟩
 | x :: xs, h => by
  obtain ⟨y, rfl, hy⟩ := h x (by simp)
  obtain ⟨l, rfl⟩ := ri_of fun z hz => h z (List.mem_cons_of_mem _ hz)
  exact ⟨y :: l, rfl⟩
end
end Go.Proofs.YtdbekeidlppfiaaGreatDoor.Den
