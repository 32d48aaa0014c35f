/- The laws of options: the world they start in, and how their arguments come in. -/
import Derived.Test.YtbidfkibpjjghaaDoorRows
import Derived.Test.YtbidfkibpjjghaaDoorLawKit
import Derived.Test.YtbidfkibpjjghaaDoorPlOptG
import Derived.Stop.LaidTwo
import Derived.LaidLaws
import Derived.LaidHandle
import Derived.RowKitTokens
import Derived.Handed
import Derived.SevenTiedAt
set_option linter.unusedVariables false
set_option linter.unusedSimpArgs false
namespace Go.Proofs.YtbidfkibpjjghaaDoor.Den
open Go Go.RowKit Go.ChangeShapes Go.WideShapes

/-! ### the wrap: what is laid, and the world's shape (after the kit's two wraps) -/
theorem wrap_both {H : Type} {enc : TypeId × Value → H} {a : Assume} {C : Checked} {os : Os} {f : FuncId} {fn : Func} {s : ChangeSpec} {conds : List PathCond} {apart fresh handsOn again : Bool} {X : World → Array Value → Prop}
    (hX : ∀ (w w' : World) (args : Array Value), w.heap = w'.heap → X w args → X w' args)
    (own : ownKnob C.prog.godebug = none) (started : os.Started) (noInit : C.prog.inits.idxOf? f = none) (hfn : C.prog.funcs[f]? = some fn)
    (witness : ∃ (w : World) (tape : Tape) (i : Input), w.os = os ∧ (w.forCall tape i).Shaped C.prog ∧ i.vars = [] ∧ Input.okWide C.prog (w.forCall tape i) .any w.heap.size f i ∧
      ((s.pre enc C.prog fn conds apart (w.forCall tape i).memory i.args ∧ X (w.forCall tape i).memory i.args) ∧ sizedMet enc C.prog fn (OpenSpec.ofChange s) apart (w.forCall tape i).memory i.args) ∧ a.holds C.prog (lone (Frame.enter C.prog f i.args .normal) [] (w.forCall tape i)))
    (contract : ∀ (W : World) (base : Nat) (args : Array Value) (ds gs : List (DataW H)) (before : List MemPlace),
      (∀ (j : Nat) t v, fn.params[j]? = some t → args[j]? = some v → Value.okWide C.prog W .any base t v) →
      DataW.Whole enc C.prog fn.params.toList s.vars apart W args.toList ds gs before →
      conds.all (PathCond.test C.prog ⟨fn.params.toList, ds, s.plain.varTypes C.prog, gs⟩) = true →
      W.ShapedOpen C.prog → X W args →
      Calls C.prog f args W fun e W' => ∃ v, e = .returned v ∧ s.post enc C.prog fn apart fresh handsOn again W args v W') :
    ReturnsInHanded a C os f .any (fun w args => (s.pre enc C.prog fn conds apart w args ∧ X w args) ∧ sizedMet enc C.prog fn (OpenSpec.ofChange s) apart w args) (s.post enc C.prog fn apart fresh handsOn again) := by
  refine returnsInHanded_of_calls own started noInit witness ?_
  intro w tape i _ hsh _ hok hpre hholds
  obtain ⟨_, _, _, fn', hfn', _, _, _, _, hval⟩ := hok
  have e : fn' = fn := Option.some.inj (hfn'.symm.trans hfn)
  subst e
  obtain ⟨⟨⟨ds, gs, before, hw, hc⟩, hx⟩, hz⟩ := hpre
  have hw' := DataW.Whole.of_heap (w' := w.forCall tape i) (by rfl) hw
  refine (contract (w.forCall tape i) w.heap.size i.args ds gs before hval hw' hc hsh (hX _ _ _ (by rfl) hx)).mono fun e W' ⟨v, he, hp⟩ => ?_
  subst he
  exact ChangeSpec.post_blind hp

/-! ### what is laid -/
abbrev laidL : List (String × DataW Unit) := [("flagstone/option.errLetter", Rows.laid_flagstone_option_errLetter), ("flagstone/option.errValue", Rows.laid_flagstone_option_errValue)]
theorem gl0 : Tryd.prog.globalNamed "flagstone/option.errLetter" = some 0 := by kernel_rfl
theorem gl1 : Tryd.prog.globalNamed "flagstone/option.errValue" = some 1 := by kernel_rfl
theorem glt0 : (Tryd.prog.globals[0]?).map (·.type) = some 53 := by kernel_rfl
theorem glt1 : (Tryd.prog.globals[1]?).map (·.type) = some 53 := by kernel_rfl
theorem star : "*" ++ "errors.errorString" = "*errors.errorString" := by decide
theorem rowE (u : TypeId) (h : Tryd.prog.typeName? 3 u = some "*errors.errorString") : u = 87 :=
  typeName_ptr_named (nm := "errors.errorString") (by rw [star]; kernel_rfl) (by kernel_rfl) (by decide) u (by rw [star]; exact h)
theorem cell_lt {w : World} {g o : Nat} {v : Value} (h : w.cell? ⟨g, o, none⟩ = some v) : g < w.heap.size := by
  unfold World.cell? at h
  cases hg : w.heap[g]? with
  | none => simp [hg] at h
  | some o => exact (Array.getElem?_eq_some_iff.1 hg).1
theorem far_eq {w : World} {g : Nat} {t : TypeId} {a : Addr} (h : w.cell? ⟨g, 0, none⟩ = some (.iface t (.pointer (some a)))) : (topC w).F g = a := by
  show farOf w g = a
  unfold farOf
  rw [h]
theorem eptr1 {w : World} {g : Nat} {x : PV} {u : Value} (h : w.cell? ⟨g, 0, none⟩ = some u) (hc : closedB x = true) (hx : VR (topC w) x u) : VR (topC w) (.eptr [x]) (.pointer (some ⟨g, 0, none⟩)) :=
  VR.eptr [x] g 0 (fun _ => u) (by simp [closedL, hc]) (fun j y hy => by
    cases j with
    | zero => simp at hy; subst hy; exact hx
    | succ j => simp at hy) (fun j hj => by
    obtain rfl : j = 0 := by simp at hj; exact hj
    exact ⟨cell_lt h, h⟩)
theorem G0_inv {g : Nat} {cs : List PV} (h : G0 g = some cs) : (g = 0 ∧ cs = [.ifc 87 (.far 0)]) ∨ (g = 1 ∧ cs = [.ifc 87 (.far 1)]) ∨ (g = 2 ∧ cs = [.unk]) := by
  unfold G0 at h
  split at h
  · rename_i e; cases h; exact .inl ⟨e, rfl⟩
  · split at h
    · rename_i e; cases h; exact .inr (.inl ⟨e, rfl⟩)
    · split at h
      · rename_i e; cases h; exact .inr (.inr ⟨e, rfl⟩)
      · cases h
theorem gok {w : World} {a0 a1 : Addr} {c0 c1 : Array Value} {t0 t1 : TypeId} (h0 : w.cell? ⟨0, 0, none⟩ = some (.iface 87 (.pointer (some a0)))) (h1 : w.cell? ⟨1, 0, none⟩ = some (.iface 87 (.pointer (some a1)))) (hne : a0 ≠ a1)
    (hb0 : w.heap[a0.block]? = some (.cells c0 t0 (0, 0))) (hb1 : w.heap[a1.block]? = some (.cells c1 t1 (0, 0))) (hm : ∃ m, w.cell? ⟨2, 0, none⟩ = some (.int .i64 m)) : GOk (topC w) G0 where
  rel g cs hg := by
    rcases G0_inv hg with ⟨rfl, rfl⟩ | ⟨rfl, rfl⟩ | ⟨rfl, rfl⟩
    · refine eptr1 h0 rfl (.ifc _ _ _ ?_)
      rw [← far_eq h0]; exact .far 0
    · refine eptr1 h1 rfl (.ifc _ _ _ ?_)
      rw [← far_eq h1]; exact .far 1
    · obtain ⟨m, hm⟩ := hm
      exact eptr1 hm rfl (.unk _)
  closed g cs hg := by rcases G0_inv hg with ⟨rfl, rfl⟩ | ⟨rfl, rfl⟩ | ⟨rfl, rfl⟩ <;> rfl
  inj g g' t t' k k' hg hg' hF := by
    have e : ∀ {g t k}, G0 g = some [.ifc t (.far k)] → k = 0 ∨ k = 1 := by
      intro g t k h
      rcases G0_inv h with ⟨_, h⟩ | ⟨_, h⟩ | ⟨_, h⟩
      · injection h with h _; injection h with _ h; injection h with h; exact .inl h
      · injection h with h _; injection h with _ h; injection h with h; exact .inr h
      · injection h with h _; cases h
    rcases e hg with rfl | rfl <;> rcases e hg' with rfl | rfl
    · rfl
    · rw [far_eq h0, far_eq h1] at hF; exact absurd hF hne
    · rw [far_eq h0, far_eq h1] at hF; exact absurd hF.symm hne
    · rfl
  far g t k hg := by
    rcases G0_inv hg with ⟨_, h⟩ | ⟨_, h⟩ | ⟨_, h⟩
    · injection h with h _; injection h with _ h; injection h with h; subst h
      exact ⟨c0, t0, by rw [far_eq h0]; exact hb0⟩
    · injection h with h _; injection h with _ h; injection h with h; subst h
      exact ⟨c1, t1, by rw [far_eq h1]; exact hb1⟩
    · injection h with h _; cases h
  num g hg := by
    rcases G0_inv hg with ⟨_, h⟩ | ⟨_, h⟩ | ⟨rfl, h⟩
    · injection h with h _; cases h
    · injection h with h _; cases h
    · obtain ⟨m, hm⟩ := hm
      exact ⟨m, cell_lt hm, hm⟩
set_option maxRecDepth 100000 in
theorem gok_laid {w : World} (hs : w.ShapedOpen Tryd.prog) (h : laidMetH Tryd.prog laidL w) : GOk (topC w) G0 := by
  have h' : laidMet Tryd.prog laidL w := h
  obtain ⟨a0, a1, s0, s1, c0, c1, t0, t1, hv0, hv1, _, _, _, _, _, _, hne, hb0, hb1⟩ := laid_sentinels2 h' gl0 glt0 gl1 glt1 Tryd.underlying53 rowE Tryd.underlying87 Tryd.underlying111 rfl rfl Tryd.underlying9 (by kernel_rfl) (by kernel_rfl)
  have hg0 : w.cell? ⟨0, 0, none⟩ = some (.iface 87 (.pointer (some a0))) := by simpa using World.var?_cell gl0 hv0 0
  have hg1 : w.cell? ⟨1, 0, none⟩ = some (.iface 87 (.pointer (some a1))) := by simpa using World.var?_cell gl1 hv1 0
  exact gok hg0 hg1 hne hb0 hb1 (Tryd.laysM144.s1_3 w hs)

/-! ### a world that meets the condition -/
abbrev letterS : ByteArray := { data := #[110, 111, 32, 115, 117, 99, 104, 32, 108, 101, 116, 116, 101, 114] }
abbrev valueS : ByteArray := { data := #[97, 32, 118, 97, 108, 117, 101, 32, 108, 97, 99, 107, 115] }
noncomputable def low : Nat := (World.holding Tryd.prog default ⟨#[], #[], []⟩).heap.size
noncomputable def laidWorld (os : Os) : World :=
  let w0 := World.holding Tryd.prog os ⟨#[.cells #[.string letterS] 111, .cells #[.string valueS] 111], #[], []⟩
  { w0 with heap := (w0.heap.modify 0 fun
      | .cells _ t frozen => .cells #[.iface 87 (.pointer (some ⟨low, 0, none⟩))] t frozen
      | o => o).modify 1 fun
      | .cells _ t frozen => .cells #[.iface 87 (.pointer (some ⟨low + 1, 0, none⟩))] t frozen
      | o => o }
set_option maxRecDepth 100000 in
theorem laidWorld_met (os : Os) (args : Array Value) : laidMetH Tryd.prog laidL ((laidWorld os).forCall (fun _ _ => 0) ⟨#[], args, []⟩).memory :=
  (show laidMet Tryd.prog laidL ((laidWorld os).forCall (fun _ _ => 0) ⟨#[], args, []⟩).memory from laidMet_of_run (ps := [.cell 0 0, .cell low 0, .cell 1 0, .cell (low + 1) 0]) 8 (by kernel_rfl) (by kernel_rfl) (by kernel_rfl))

theorem stand_of {P : Program} {ps : Array TypeId} (h : (ps.all fun t => !P.wantsStandIn t) = true) : ∀ (j : Nat) (t : TypeId), ps[j]? = some t → P.wantsStandIn t = false := by
  intro j t ht
  obtain ⟨hj, rfl⟩ := Array.getElem?_eq_some_iff.1 ht
  have := Array.all_eq_true.1 h j hj
  simpa using this
/-! ### arguments -/
structure Told (w : World) (c : PV) (v : Value) : Prop where
  vr : VR (topC w) c v
  cl : closedB c = true
theorem Told.int (w : World) (k : IntKind) (n : Int) : Told w (.v (.int k n)) (.int k n) := ⟨.v _, rfl⟩
theorem Told.bool (w : World) (b : Bool) : Told w (pB b) (.bool b) := ⟨.v _, rfl⟩
theorem Told.str (w : World) (b : ByteArray) : Told w (pS b) (.string b) := ⟨.v _, rfl⟩
inductive ToldL (w : World) : List PV → List Value → Prop
  | nil : ToldL w [] []
  | cons {c : PV} {v : Value} {l : List PV} {m : List Value} (h : Told w c v) (t : ToldL w l m) : ToldL w (c :: l) (v :: m)
theorem ToldL.closed {w : World} {l : List PV} {m : List Value} (h : ToldL w l m) : closedL l = true := by
  induction h with
  | nil => rfl
  | cons h _ ih => simp only [closedL, h.cl, ih, Bool.and_self]
theorem ToldL.len {w : World} {l : List PV} {m : List Value} (h : ToldL w l m) : m.length = l.length := by
  induction h with
  | nil => rfl
  | cons h _ ih => simp [ih]
theorem ToldL.get {w : World} {l : List PV} {m : List Value} (h : ToldL w l m) : ∀ (j : Nat) (x : PV) (u : Value), l[j]? = some x → m[j]? = some u → VR (topC w) x u := by
  induction h with
  | nil => intro j x u h; simp at h
  | cons h _ ih =>
    intro j x u hx hu
    cases j with
    | zero => simp at hx hu; subst hx hu; exact h.vr
    | succ j => exact ih j x u (by simpa using hx) (by simpa using hu)
/-- A law that answers true, of what was told. -/
theorem law_told {k : Nat} {f : FuncId} {cargs : List PV} {w : World} {vs : Array Value} (hg : GOk (topC w) G0) (hf : run0 k f cargs = some (pB true)) (ht : ToldL w cargs vs.toList) :
    Calls PR f vs w fun e w' => e = .returned (.bool true) ∧ Below w.heap.size w w' :=
  law_true hf ht.closed (by have := ht.len; simpa using this) (fun j x u hx hu => ht.get j x u hx (by simpa using hu)) hg
section
variable {H : Type} {enc : TypeId × Value → H} {w : World} {held : Bool}
set_option maxRecDepth 100000 in
/-- A slice that came in. -/
theorem arg_slice {t e : TypeId} {sz : Nat} {R : List PV → Prop} {r : Reach} {b0 : Nat} {v : Value} {d : DataW H} {ps : List MemPlace} (ht : Tryd.prog.underlying t = some (.slice e)) (hs : Tryd.prog.cellsOf e = sz) (h0 : 0 < sz) (hval : Value.okWide Tryd.prog w r b0 t v)
    (h : DataW.Trod enc Tryd.prog w 0 (fun _ => true) held t v d ps) (ho : Opens enc Tryd.prog w held e R) : ∃ xs, Told w (.list sz false xs) v ∧ ∀ x ∈ xs, R x := by
  obtain ⟨fuel, hf⟩ := h
  obtain ⟨a, n, c, rfl⟩ := okWide_slice ht hval
  obtain ⟨cells, s, xs, rfl, _, hr⟩ := opens_slice ht hs h0 ho hf
  have := s.2 0 _ _ rfl rfl
  exact ⟨xs, ⟨this.1.1, this.2⟩, hr⟩
def RS (c : List PV) : Prop := ∃ s : ByteArray, c = [.v (.string s)] ∧ s.size ≤ maxLen
theorem rs_of : ∀ {xs : List (List PV)}, (∀ x ∈ xs, RS x) → ∃ l : List ByteArray, xs = l.map cS
  | [], _ => ⟨[], rfl⟩
  | x :: xs, h => by
    obtain ⟨y, rfl, hy⟩ := h x (by simp)
    obtain ⟨l, rfl⟩ := rs_of fun z hz => h z (List.mem_cons_of_mem _ hz)
    exact ⟨y :: l, rfl⟩
def RU (c : List PV) : Prop := ∃ n, c = [.v (.int .u8 n)] ∧ (Lit.int .u8 n).wf = true
theorem ru_of : ∀ {xs : List (List PV)}, (∀ x ∈ xs, RU x) → ∃ l : List Int, xs = l.map (cK .u8) ∧ ∀ y ∈ l, 0 ≤ y ∧ y ≤ 255
  | [], _ => ⟨[], rfl, by simp⟩
  | x :: xs, h => by
    obtain ⟨y, rfl, hy⟩ := h x (by simp)
    obtain ⟨l, rfl, hl⟩ := ru_of fun z hz => h z (List.mem_cons_of_mem _ hz)
    exact ⟨y :: l, rfl, fun z hz => (List.mem_cons.1 hz).elim (fun e => e ▸ u8_le hy) (hl z)⟩
def RF (c : List PV) : Prop := ∃ y : FlagD, c = y.c
theorem rf_of : ∀ {xs : List (List PV)}, (∀ x ∈ xs, RF x) → ∃ l : List FlagD, xs = l.map FlagD.c
  | [], _ => ⟨[], rfl⟩
  | x :: xs, h => by
    obtain ⟨y, rfl⟩ := h x (by simp)
    obtain ⟨l, rfl⟩ := rf_of fun z hz => h z (List.mem_cons_of_mem _ hz)
    exact ⟨y :: l, rfl⟩
set_option maxRecDepth 100000 in
theorem opens_flag : Opens enc Tryd.prog w held 58 RF := by
  intro fuel cs x h
  obtain ⟨cells, s, r⟩ := opens_struct (enc := enc) (held := held) Tryd.underlying58 (by kernel_rfl) (.cons (opens_int (k := .u8) (by kernel_rfl)) (.cons (opens_str (by kernel_rfl)) .nil)) h
  obtain ⟨p, q, rfl, ⟨n, rfl, hn⟩, p2, q2, rfl, ⟨k, rfl, hk⟩, rfl⟩ := r
  exact ⟨_, s, ⟨n, k⟩, rfl⟩
set_option maxRecDepth 100000 in
theorem open_strs {r : Reach} {b0 : Nat} {v : Value} {d : DataW H} {ps : List MemPlace} (hval : Value.okWide Tryd.prog w r b0 22 v) (h : DataW.Trod enc Tryd.prog w 0 (fun _ => true) held 22 v d ps) :
    ∃ l : List ByteArray, Told w (.list 1 false (l.map cS)) v := by
  obtain ⟨xs, h1, h2⟩ := arg_slice (sz := 1) (R := RS) Tryd.underlying22 (by kernel_rfl) (by omega) hval h (opens_str (by kernel_rfl))
  obtain ⟨l, rfl⟩ := rs_of h2
  exact ⟨l, h1⟩
set_option maxRecDepth 100000 in
theorem open_u8s {r : Reach} {b0 : Nat} {v : Value} {d : DataW H} {ps : List MemPlace} (hval : Value.okWide Tryd.prog w r b0 41 v) (h : DataW.Trod enc Tryd.prog w 0 (fun _ => true) held 41 v d ps) :
    ∃ l : List Int, Told w (.list 1 false (l.map (cK .u8))) v ∧ ∀ y ∈ l, 0 ≤ y ∧ y ≤ 255 := by
  obtain ⟨xs, h1, h2⟩ := arg_slice (sz := 1) (R := RU) Tryd.underlying41 (by kernel_rfl) (by omega) hval h (opens_int (by kernel_rfl))
  obtain ⟨l, rfl, hl⟩ := ru_of h2
  exact ⟨l, h1, hl⟩
set_option maxRecDepth 100000 in
theorem open_flags {r : Reach} {b0 : Nat} {v : Value} {d : DataW H} {ps : List MemPlace} (hval : Value.okWide Tryd.prog w r b0 25 v) (h : DataW.Trod enc Tryd.prog w 0 (fun _ => true) held 25 v d ps) :
    ∃ l : List FlagD, Told w (.list 2 false (l.map FlagD.c)) v := by
  obtain ⟨xs, h1, h2⟩ := arg_slice (sz := 2) (R := RF) Tryd.underlying25 (by kernel_rfl) (by omega) hval h opens_flag
  obtain ⟨l, rfl⟩ := rf_of h2
  exact ⟨l, h1⟩
end
end Go.Proofs.YtbidfkibpjjghaaDoor.Den
