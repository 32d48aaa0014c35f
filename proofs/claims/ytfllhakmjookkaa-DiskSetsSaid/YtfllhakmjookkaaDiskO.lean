/- Disks and nodes: how they come in. -/
import Derived.Test.YtfllhakmjookkaaDenTy
set_option linter.unusedVariables false
set_option linter.unusedSimpArgs false
namespace Go.Proofs.Ytfllhakmjookkaa.Den
open Go Go.RowKit Go.ChangeShapes

def okI (n : Int) : Prop := (Lit.int .i64 n).wf = true
def EntOk (y : Ent) : Prop := y.name.size ≤ maxLen ∧ okI y.ino
structure NodeD.Ok (n : NodeD) : Prop where
  kind : okI n.kind
  mode : okI n.modeF
  owner : okI n.owner
  links : okI n.links
  opn : okI n.openF
  up : okI n.up
  data : n.data.size ≤ maxLen
  len : n.names.length ≤ maxLen
  names : ∀ y ∈ n.names, EntOk y
structure DiskD.Ok (d : DiskD) : Prop where
  len : d.nodes.length ≤ maxLen
  nodes : ∀ n ∈ d.nodes, n.Ok
  most : okI d.most
  room : okI d.room
theorem GOk0 (c : Ctx) : GOk c G0 := ⟨fun _ _ h => (by cases h), fun _ _ h => (by cases h)⟩
/-- A Go value that is told by cells, closed. -/
structure Told (w : World) (c : PV) (v : Value) : Prop where
  vr : VR (topC w) c v
  cl : closedB c = true
theorem Told.int (w : World) (k : IntKind) (n : Int) : Told w (.v (.int k n)) (.int k n) := ⟨.v _, rfl⟩
theorem Told.bool (w : World) (b : Bool) : Told w (pB b) (.bool b) := ⟨.v _, rfl⟩
theorem Told.str (w : World) (b : ByteArray) : Told w (pS b) (.string b) := ⟨.v _, rfl⟩
inductive ToldL (w : World) : List PV → List Value → Prop
  | nil : ToldL w [] []
  | cons {c : PV} {v : Value} {l : List PV} {m : List Value} (h : Told w c v) (t : ToldL w l m) : ToldL w (c :: l) (v :: m)
theorem ToldL.closed {w : World} {l : List PV} {m : List Value} (h : ToldL w l m) : closedL l = true := by
  induction h with
  | nil => rfl
  | cons h _ ih => simp only [closedL, h.cl, ih, Bool.and_self]
theorem ToldL.len {w : World} {l : List PV} {m : List Value} (h : ToldL w l m) : m.length = l.length := by
  induction h with
  | nil => rfl
  | cons h _ ih => simp [ih]
theorem ToldL.get {w : World} {l : List PV} {m : List Value} (h : ToldL w l m) : ∀ (j : Nat) (x : PV) (u : Value), l[j]? = some x → m[j]? = some u → VR (topC w) x u := by
  induction h with
  | nil => intro j x u h; simp at h
  | cons h _ ih =>
    intro j x u hx hu
    cases j with
    | zero => simp at hx hu; subst hx hu; exact h.vr
    | succ j => exact ih j x u (by simpa using hx) (by simpa using hu)
/-- A law that answers true, of what was told. -/
theorem law_told {k : Nat} {f : FuncId} {cargs : List PV} {w : World} {vs : Array Value} (hf : run0 k f cargs = some (pB true)) (ht : ToldL w cargs vs.toList) :
    Calls PR f vs w fun e w' => e = .returned (.bool true) ∧ Below w.heap.size w w' :=
  law_true hf ht.closed (by have := ht.len; simpa using this) (fun j x u hx hu => ht.get j x u hx (by simpa using hu)) (GOk0 _)
theorem entP_closed (y : Ent) : closedL (entP y) = true := rfl
theorem entsP_cl (l : List Ent) : closedLL (l.map entP) = true := closedLL_iff.2 fun x hx y hy => by
  obtain ⟨n, _, rfl⟩ := List.mem_map.1 hx
  exact closedL_iff.1 (entP_closed n) y hy
theorem nodeC_cl (n : NodeD) : closedL n.c = true := by simp [NodeD.c, closedL, closedB, entsP_cl]
theorem nodesC_cl (l : List NodeD) : closedLL (l.map NodeD.c) = true := closedLL_iff.2 fun x hx y hy => by
  obtain ⟨n, _, rfl⟩ := List.mem_map.1 hx
  exact closedL_iff.1 (nodeC_cl n) y hy
theorem diskC_cl (d : DiskD) : closedB (.agg d.c) = true := by simp [DiskD.c, closedL, closedB, nodesC_cl]
theorem nodeP_cl (n : NodeD) : closedB (.agg n.c) = true := by simp [closedB, nodeC_cl]

/-! ### how they come in -/
section
variable {H : Type} {enc : TypeId × Value → H} {w : World} {held : Bool}
def REnt (c : List PV) : Prop := ∃ y : Ent, c = entP y ∧ EntOk y
set_option maxRecDepth 100000 in
theorem opens_ent : Opens enc Try.prog w held 72 REnt := by
  intro fuel cs x h
  obtain ⟨cells, s, r⟩ := opens_struct (enc := enc) (held := held) Try.underlying72 (by kernel_rfl) (.cons (opens_str (by kernel_rfl)) (.cons (opens_int (k := .i64) (by kernel_rfl)) .nil)) h
  obtain ⟨p, q, rfl, ⟨n, rfl, hn⟩, p2, q2, rfl, ⟨k, rfl, hk⟩, rfl⟩ := r
  exact ⟨_, s, ⟨n, k⟩, rfl, hn, hk⟩
theorem ents_of : ∀ {xs : List (List PV)}, (∀ x ∈ xs, REnt x) → ∃ l : List Ent, xs = l.map entP ∧ ∀ y ∈ l, EntOk y
  | [], _ => ⟨[], rfl, by simp⟩
  | x :: xs, h => by
    obtain ⟨y, rfl, hy⟩ := h x (by simp)
    obtain ⟨l, rfl, hl⟩ := ents_of fun z hz => h z (List.mem_cons_of_mem _ hz)
    exact ⟨y :: l, rfl, fun z hz => (List.mem_cons.1 hz).elim (fun e => e ▸ hy) (hl z)⟩
def RNode (c : List PV) : Prop := ∃ n : NodeD, c = n.c ∧ n.Ok
set_option maxRecDepth 100000 in
theorem opens_node : Opens enc Try.prog w held 43 RNode := by
  intro fuel cs x h
  have oi : Opens enc Try.prog w held 3 _ := opens_int (k := .i64) (by kernel_rfl)
  obtain ⟨cells, s, r⟩ := opens_struct (enc := enc) (held := held) Try.underlying43 (by kernel_rfl)
    (.cons oi (.cons oi (.cons oi (.cons oi (.cons oi (.cons oi (.cons (opens_str (by kernel_rfl)) (.cons (opens_slice (e := 72) (sz := 2) (by kernel_rfl) (by kernel_rfl) (by omega) opens_ent) .nil)))))))) h
  obtain ⟨_, _, rfl, ⟨k1, rfl, h1⟩, _, _, rfl, ⟨k2, rfl, h2⟩, _, _, rfl, ⟨k3, rfl, h3⟩, _, _, rfl, ⟨k4, rfl, h4⟩, _, _, rfl, ⟨k5, rfl, h5⟩, _, _, rfl, ⟨k6, rfl, h6⟩, _, _, rfl, ⟨d, rfl, h7⟩, _, _, rfl, ⟨xs, rfl, h8, h9⟩, rfl⟩ := r
  obtain ⟨l, rfl, hl⟩ := ents_of h9
  exact ⟨_, s, ⟨k1, k2, k3, k4, k5, k6, d, l⟩, rfl, h1, h2, h3, h4, h5, h6, h7, by simpa using h8, hl⟩
theorem nodes_of : ∀ {xs : List (List PV)}, (∀ x ∈ xs, RNode x) → ∃ l : List NodeD, xs = l.map NodeD.c ∧ ∀ y ∈ l, y.Ok
  | [], _ => ⟨[], rfl, by simp⟩
  | x :: xs, h => by
    obtain ⟨y, rfl, hy⟩ := h x (by simp)
    obtain ⟨l, rfl, hl⟩ := nodes_of fun z hz => h z (List.mem_cons_of_mem _ hz)
    exact ⟨y :: l, rfl, fun z hz => (List.mem_cons.1 hz).elim (fun e => e ▸ hy) (hl z)⟩
def RDisk (c : List PV) : Prop := ∃ d : DiskD, c = d.c ∧ d.Ok
set_option maxRecDepth 100000 in
theorem opens_disk : Opens enc Try.prog w held 24 RDisk := by
  intro fuel cs x h
  have oi : Opens enc Try.prog w held 3 _ := opens_int (k := .i64) (by kernel_rfl)
  obtain ⟨cells, s, r⟩ := opens_struct (enc := enc) (held := held) Try.underlying24 (by kernel_rfl)
    (.cons (opens_slice (e := 43) (sz := 8) (by kernel_rfl) (by kernel_rfl) (by omega) opens_node) (.cons oi (.cons oi .nil))) h
  obtain ⟨_, _, rfl, ⟨xs, rfl, h8, h9⟩, _, _, rfl, ⟨k1, rfl, h1⟩, _, _, rfl, ⟨k2, rfl, h2⟩, rfl⟩ := r
  obtain ⟨l, rfl, hl⟩ := nodes_of h9
  exact ⟨_, s, ⟨l, k1, k2⟩, rfl, by simpa using h8, hl, h1, h2⟩
set_option maxRecDepth 100000 in
/-- A struct that came in. -/
theorem arg_struct {t : TypeId} {fs : Array Field} {R : List PV → Prop} {r : Reach} {b0 : Nat} {v : Value} {d : DataW H} {ps : List MemPlace} (ht : Try.prog.underlying t = some (.struct fs)) (hval : Value.okWide Try.prog w r b0 t v)
    (h : DataW.Trod enc Try.prog w 0 (fun _ => true) held t v d ps) (ho : Opens enc Try.prog w held t R) : ∃ cells, VR (topC w) (.agg cells) v ∧ R cells := by
  obtain ⟨fuel, hf⟩ := h
  unfold Value.okWide at hval
  rw [ht] at hval
  obtain ⟨cs, rfl, _⟩ := hval
  obtain ⟨cells, s, hr⟩ := ho hf
  exact ⟨cells, .agg cells cs (by have := s.1; simp [Value.cells] at this; omega) fun j y u hy hu => (s.2 j y u hy (by simpa [Value.cells] using hu)).1.1, hr⟩
set_option maxRecDepth 100000 in
theorem open_disk {r : Reach} {b0 : Nat} {v : Value} {d : DataW H} {ps : List MemPlace} (hval : Value.okWide Try.prog w r b0 24 v) (h : DataW.Trod enc Try.prog w 0 (fun _ => true) held 24 v d ps) :
    ∃ d : DiskD, Told w (.agg d.c) v ∧ d.Ok := by
  obtain ⟨cells, h1, d, rfl, hd⟩ := arg_struct Try.underlying24 hval h opens_disk
  exact ⟨d, ⟨h1, diskC_cl d⟩, hd⟩
set_option maxRecDepth 100000 in
theorem open_node {r : Reach} {b0 : Nat} {v : Value} {d : DataW H} {ps : List MemPlace} (hval : Value.okWide Try.prog w r b0 43 v) (h : DataW.Trod enc Try.prog w 0 (fun _ => true) held 43 v d ps) :
    ∃ n : NodeD, Told w (.agg n.c) v ∧ n.Ok := by
  obtain ⟨cells, h1, d, rfl, hd⟩ := arg_struct Try.underlying43 hval h opens_node
  exact ⟨d, ⟨h1, nodeP_cl d⟩, hd⟩
end
end Go.Proofs.Ytfllhakmjookkaa.Den
