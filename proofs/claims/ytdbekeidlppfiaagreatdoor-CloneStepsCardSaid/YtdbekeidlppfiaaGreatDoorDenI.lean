/- Texts joined by a program of mine (pack.py): DenI. -/
import Derived.Test.YtdbekeidlppfiaaGreatDoorDenH
set_option linter.unusedVariables false
set_option linter.unusedSimpArgs false
namespace Go.Proofs.YtdbekeidlppfiaaGreatDoor.Den
open Go Go.RowKit
theorem foldl_push (ns : List Int) : ∀ (s : ByteArray), (ns.foldl (fun r n => r.push (UInt8.ofNat n.toNat)) s).data.toList = s.data.toList ++ ns.map (fun n => UInt8.ofNat n.toNat) := by
 induction ns with
 | nil => intro s; simp
 | cons n ns ih => intro s; simp only [List.foldl_cons]; rw [ih]; simp [ByteArray.push]
theorem bsStr_ok {P : Program} {B : Base} {m : Name → Nat} {s : HS} {w : World} (r : RelH B m s w) {src dst : TypeId} {x z : PV} {u : Value} (h : bsStr P s src dst x = some z) (hx : VR (ctx B s m w) x u) :
  ∃ v, (convert src dst u).run P w = .ok v w ∧ VR (ctx B s m w) z v := by
 unfold bsStr at h
 split at h
 case h_2 => cases h
 rename_i e hs hd
 split at h
 case h_2 => cases h
 rename_i ys he hys
 obtain ⟨l, hl, rfl⟩ := Option.map_eq_some_iff.1 h
 rcases els_ok r hys hx with ⟨a, cap, news, rfl, h1, h2, h3⟩ | ⟨rfl, rfl⟩
 case inr =>
  have : l = [] := by simpa [bytesOf] using hl.symm
  subst this
  refine ⟨.string ⟨#[]⟩, ?_, .v _⟩
  simp [convert, run_underlying hs, run_underlying hd, run_underlying he, Conv.bytesToString]
  rfl
 obtain ⟨g1, g2⟩ := bytesOf_get ys l hl
 -- the cells are bytes
 have hnum : ∃ ns : List Int, news = ns.map (Value.int .u8) ∧ ns.map (fun n => UInt8.ofNat n.toNat) = l := by
  have key : ∀ (j : Nat), j < news.length → ∃ n, news[j]? = some (Value.int .u8 n) ∧ l[j]? = some (UInt8.ofNat n.toNat) := by
   intro j hj
   have hjl : j < ys.length := by have := h3.len; omega
   have hy := List.getElem?_eq_getElem hjl
   obtain ⟨n, e1, e2⟩ := g2 j _ hy
   obtain ⟨u, p, q⟩ := (h3.el j _ hy).2 0 (.v (.int .u8 n)) (by rw [e1]; rfl)
   cases q
   exact ⟨n, by simpa using p, e2⟩
  have hll : l.length = news.length := by rw [g1, h3.len]; simp
  clear h3 hl g1 g2 hx h1 h2 h hys
  induction news generalizing l with
  | nil => exact ⟨[], rfl, by simp at hll; simp [hll]⟩
  | cons u news ih =>
   cases l with
   | nil => simp at hll
   | cons b l =>
    obtain ⟨n, e1, e2⟩ := key 0 (by simp)
    simp at e1 e2
    obtain ⟨ns, q1, q2⟩ := ih l (fun j hj => by simpa using key (j + 1) (by simpa using hj)) (by simpa using hll)
    exact ⟨n :: ns, by simp [e1, q1], by simp [e2, q2]⟩
 obtain ⟨ns, rfl, rfl⟩ := hnum
 have hlen : ys.length = (ns.map (Value.int .u8)).length := by rw [h3.len]; simp
 have hload := run_loadCells_list (P := P) w a (ns.map (Value.int .u8)) h3.cell
 rw [← hlen] at hload
 have hrun := run_bytesToString (P := P) w a ys.length cap ns hload
 have hstr : ns.foldl (fun r n => r.push (UInt8.ofNat n.toNat)) ByteArray.empty = ⟨(ns.map fun n => UInt8.ofNat n.toNat).toArray⟩ := by
  have := foldl_push ns ByteArray.empty
  generalize ns.foldl (fun r n => r.push (UInt8.ofNat n.toNat)) ByteArray.empty = q at *
  obtain ⟨d⟩ := q
  congr 1
  apply Array.ext'
  exact this
 rw [hstr] at hrun
 refine ⟨_, ?_, .v _⟩
 rename_i hee
 simp [convert, run_underlying hs, run_underlying hd, run_underlying he, hrun]
def taD (P : Program) (x : PV) (asserted : TypeId) (ok : Bool) : Option PV :=
 match x with
 | .ifc t y => match P.underlying asserted with
  | some (.interface want) => match P.info? t with
   | some i => match Instr.missingMethod want i.methods with
    | none => some (if ok then .tup [.ifc t y, .v (.bool true)] else .ifc t y)
    | some _ => if ok then match P.info? asserted with
     | some j => match j.zero with
      | some z => if z.oneCell' then some (.tup [.v z, .v (.bool false)]) else none
      | none => none
     | none => none else none
   | none => none
  | some _ => if t = asserted then some (if ok then .tup [y, .v (.bool true)] else y) else if ok then match P.info? asserted with
     | some j => match j.zero with
      | some z => some (.tup [PV.ofV z, .v (.bool false)])
      | none => none
     | none => none else none
  | none => none
 | _ => none
theorem tup2 {c : Ctx} {x y : PV} {u v : Value} (h : VR c x u) (k : VR c y v) : VR c (.tup [x, y]) (.tuple #[u, v]) :=
 .tup _ _ rfl fun j a b h1 h2 => by
  rcases j with _ | _ | j
  ·simp at h1 h2; rw [← h1, ← h2]; exact h
  ·simp at h1 h2; rw [← h1, ← h2]; exact k
  ·simp at h1
theorem taD_ok {P : Program} {c : Ctx} {w : World} {x z : PV} {t asserted : TypeId} {ok : Bool} {u : Value} (h : taD P x asserted ok = some z) (hx : VR c x u) :
  ∃ v, (Instr.typeAssert u t asserted ok).run P w = .ok v w ∧ VR c z v := by
 unfold taD at h
 split at h
 case h_2 => cases h
 rename_i t0 y
 cases hx with
 | ifc _ _ v hy =>
  split at h
  ·rename_i want hu
   split at h
   case h_2 => cases h
   rename_i i hi
   split at h
   ·rename_i hm
    cases h
    cases ok with
    | true => exact ⟨.tuple #[.iface t0 v, .bool true], by simp [Instr.typeAssert, run_underlying hu, typeInfo, hi, hm], tup2 (.ifc _ _ _ hy) (.v _)⟩
    | false => exact ⟨.iface t0 v, by simp [Instr.typeAssert, run_underlying hu, typeInfo, hi, hm], .ifc _ _ _ hy⟩
   ·rename_i mm hm
    split at h
    case isFalse => cases h
    rename_i hok
    subst hok
    split at h
    case h_2 => cases h
    rename_i j hj
    split at h
    case h_2 => cases h
    rename_i z0 hz
    split at h
    case isFalse => cases h
    cases h
    exact ⟨.tuple #[z0, .bool false], by simp [Instr.typeAssert, run_underlying hu, typeInfo, hi, hm, zeroValue, hj, hz], tup2 (.v _) (.v _)⟩
  ·rename_i d hni hu
   split at h
   ·rename_i e
    subst e
    cases h
    cases ok with
    | true =>
     refine ⟨.tuple #[v, .bool true], ?_, tup2 hy (.v _)⟩
     cases d <;> first | exact absurd rfl (hni _) | simp [Instr.typeAssert, run_underlying hu]
    | false =>
     refine ⟨v, ?_, hy⟩
     cases d <;> first | exact absurd rfl (hni _) | simp [Instr.typeAssert, run_underlying hu]
   ·rename_i hne
    split at h
    case isFalse => cases h
    rename_i hok
    subst hok
    split at h
    case h_2 => cases h
    rename_i j hj
    split at h
    case h_2 => cases h
    rename_i z0 hz
    cases h
    refine ⟨.tuple #[z0, .bool false], ?_, tup2 (VR.ofV c z0) (.v _)⟩
    cases d <;> first | exact absurd rfl (hni _) | simp [Instr.typeAssert, run_underlying hu, hne, zeroValue, typeInfo, hj, hz]
  ·cases h
def notIface (P : Program) (t : TypeId) : Bool := match P.underlying t with | some (.interface _) => false | some _ => true | none => false
def lenD (P : Program) (t : TypeId) (x : PV) : Option Nat :=
 match P.underlying t with
 | some (.slice _) => match x with
  | .row _ _ _ len => some len
  | .list _ _ xs => some xs.length
  | _ => none
 | _ => none
theorem lenD_ok {P : Program} {c : Ctx} {w : World} {t ty : TypeId} {x : PV} {u : Value} {k : Nat} (h : lenD P t x = some k) (hx : VR c x u) : (Builtin.len_ #[t] ty #[u]).run P w = .ok (.int .i64 k) w := by
 unfold lenD at h
 split at h
 case h_2 => cases h
 rename_i e hu
 split at h
 ·cases h; cases hx; simp [Builtin.len_, run_underlying hu, goInt]
 ·cases h; cases hx <;> simp [Builtin.len_, run_underlying hu, goInt]
 ·cases h
def bD (P : Program) (prot n : Name) (s : HS) (e : Operand → PV) (o : Oper) (c : Call) : Option (PV × HS) :=
 match c.callee with
 | .builtin .append => match c.args.toList, c.argTypes.toList with
  | [x, y], [t, t2] => appD P prot n s t t2 (e x) (e y)
  | _, _ => none
 | .builtin .copy => match c.args.toList, c.argTypes.toList with
  | [x, y], [t, t2] => cpD P prot s t t2 (e x) (e y)
  | _, _ => none
 | .builtin .len => match c.args.toList, c.argTypes.toList with
  | [x], [t] => match lenD P t (e x) with
   | some k => some (.v (.int .i64 k), s)
   | none => (quietD P e o).map (·, s)
  | _, _ => none
 | .builtin _ => (quietD P e o).map (·, s)
 | _ => none
def opD (P : Program) (prot n : Name) (s : HS) (e : Operand → PV) (o : Oper) : Option (PV × HS) :=
 match o.op with
 | .move x => some (e x, s)
 | .assign x => some (e x, s)
 | .pick c x y => match e c with
  | .v (.bool t) => some (if t then e x else e y, s)
  | _ => none
 | .alloc E => match inf P E with
  | some (_, _, z) => some (.ptr n ((s.h n).1 + 1) 0 0, newS s n ⟨z.length, E, [z.map .v], true, false⟩)
  | none => none
 | .box E x => match (e x).celled with
  | some cs => some (.ptr n ((s.h n).1 + 1) 0 0, newS s n ⟨cs.length, E, [cs], closedLL [cs], false⟩)
  | none => none
 | .build t ps => (bldD P t (ps.toList.map fun p => (p.1, e p.2))).map (·, s)
 | .buildSlice t len ps => bsD P n s t len (ps.toList.map fun p => (p.1, e p.2))
 | .load t a => (ldD P s t (e a)).map (·, s)
 | .store t a x => (stD P prot s t (e a) (e x)).map (.v undef, ·)
 | .nilCheck x => match e x with
  | .ptr k i j l => some (.ptr k i j l, s)
  | .eptr cs => some (.eptr cs, s)
  | .far k => some (.far k, s)
  | .clo f cs => some (.clo f cs, s)
  | _ => none
 | .field t x f => (fldV P t f (e x)).map (·, s)
 | .fieldAddr t x f => (fldA P t f (e x)).map (·, s)
 | .indexAddr t x i => (idxA P s t (e x) (e i)).map (·, s)
 | .index t x i => match idxV P t (e x) (e i) with
  | some y => some (y, s)
  | none => (quietD P e o).map (·, s)
 | .slice t x lo hi mx => match slD P s t (e x) (lo.map e) (hi.map e) (mx.map e) with
  | some y => some (y, s)
  | none => (quietD P e o).map (·, s)
 | .makeSlice t l c => mkD P n s t (e l) (e c)
 | .extract x i => match e x with
  | .tup cs => match cs[i]? with
   | some y => some (y, s)
   | none => none
  | _ => none
 | .makeInterface t x => if notIface P t then some (.ifc t (e x), s) else none
 | .makeFunc (.func f) fs cs => if fs.isEmpty then some (.clo f (cs.toList.map e), s) else if cs.isEmpty then some (.mth f (fs.toList.map e), s) else none
 | .convert src dst x => match bsStr P s src dst (e x) with
  | some y => some (y, s)
  | none => if toSl P src dst then sbD P n s dst (e x) else (quietD P e o).map (·, s)
 | .typeAssert x t a ok => match taD P (e x) a ok with
  | some y => some (y, s)
  | none => (quietD P e o).map (·, s)
 | .binOp .eql t x y _ => match eqD P t (e x) (e y) with
  | some b => some (.v (.bool b), s)
  | none => (quietD P e o).map (·, s)
 | .binOp .neq t x y _ => match eqD P t (e x) (e y) with
  | some b => some (.v (.bool (!b)), s)
  | none => (quietD P e o).map (·, s)
 | .call c => bD P prot n s e o c
 | _ => (quietD P e o).map (·, s)
def OpOk (P : Program) (B : Base) (m : Name → Nat) (s : HS) (w : World) (a : Act) (o : Oper) (r : PV) (s1 : HS) : Prop :=
 ∃ nx w' m', (execOp a.eval o).run P w = .ok nx w' ∧ RelH B m' s1 w' ∧ Evol (ctx B s m w) (ctx B s1 m' w') ∧ ((∃ v, nx = .value v ∧ VR (ctx B s1 m' w') r v) ∨ (nx = .skip ∧ r = .v undef))
theorem opOk_value {P : Program} {B : Base} {m m' : Name → Nat} {s s1 : HS} {w w' : World} {a : Act} {o : Oper} {r : PV} {v : Value} {q : Sem Value} (he : execOp a.eval o = (do pure (.value (← q)))) (hr : q.run P w = .ok v w')
  (h1 : RelH B m' s1 w') (h2 : Evol (ctx B s m w) (ctx B s1 m' w')) (h3 : VR (ctx B s1 m' w') r v) : OpOk P B m s w a o r s1 :=
 ⟨.value v, w', m', by rw [he]; simp [hr], h1, h2, .inl ⟨v, rfl, h3⟩⟩
theorem opOk_same {P : Program} {B : Base} {m : Name → Nat} {s : HS} {w : World} {a : Act} {o : Oper} {r : PV} {v : Value} {q : Sem Value} (R : RelH B m s w) (he : execOp a.eval o = (do pure (.value (← q)))) (hr : q.run P w = .ok v w)
  (h3 : VR (ctx B s m w) r v) : OpOk P B m s w a o r s := opOk_value he hr R (Evol.refl _) h3
theorem opOk_quiet {P : Program} {B : Base} {m : Name → Nat} {s s1 : HS} {w : World} {a : Act} {e : Operand → PV} {o : Oper} {r : PV} (R : RelH B m s w) (hE : ∀ x, VR (ctx B s m w) (e x) (a.eval x)) (h : (quietD P e o).map (·, s) = some (r, s1)) : OpOk P B m s w a o r s1 := by
 obtain ⟨y, hy, he⟩ := Option.map_eq_some_iff.1 h
 cases he
 obtain ⟨v, h1, h2⟩ := quietD_ok (w := w) hy hE
 exact ⟨.value v, w, m, h1, R, Evol.refl _, .inl ⟨v, rfl, h2⟩⟩
theorem parts_fst {α β γ : Type} (f : β → γ) (ps : Array (Nat × β)) (g : β → α) : (ps.toList.map fun p => (p.1, g p.2)).map (·.1) = (ps.map fun (i, x) => (i, f x)).toList.map (·.1) := by
 simp [List.map_map, Function.comp_def]
theorem parts_get {c : Ctx} {e : Operand → PV} {a : Act} (hE : ∀ x, VR c (e x) (a.eval x)) (ps : Array (Nat × Operand)) :
  ∀ (j : Nat) (p : Nat × PV) (q : Nat × Value), (ps.toList.map fun p => (p.1, e p.2))[j]? = some p → (ps.map fun (i, x) => (i, a.eval x))[j]? = some q → VR c p.2 q.2 := by
 intro j p q hp hq
 rw [List.getElem?_map] at hp
 obtain ⟨x, hx, rfl⟩ := Option.map_eq_some_iff.1 hp
 rw [Array.getElem?_map] at hq
 obtain ⟨y, hy, rfl⟩ := Option.map_eq_some_iff.1 hq
 rw [Array.getElem?_toList] at hx
 rw [hx] at hy; cases hy
 exact hE _
theorem opD_ok {P : Program} {B : Base} {m : Name → Nat} {s s1 : HS} {w : World} {prot n : Name} (R : RelH B m s w) {e : Operand → PV} {a : Act} {o : Oper} {r : PV} (hE : ∀ x, VR (ctx B s m w) (e x) (a.eval x)) (h : opD P prot n s e o = some (r, s1)) :
  OpOk P B m s w a o r s1 := by
 obtain ⟨dst, op, ty, pos, after, guard⟩ := o
 unfold opD at h
 simp only at h
 split at h
 ·cases h; exact ⟨_, w, m, rfl, R, Evol.refl _, .inl ⟨_, rfl, hE _⟩⟩
 ·cases h; exact ⟨_, w, m, rfl, R, Evol.refl _, .inl ⟨_, rfl, hE _⟩⟩
 ·-- pick
  rename_i c x y
  split at h
  case h_2 => cases h
  rename_i t ht
  cases h
  have hc := hE c
  rw [ht] at hc
  generalize hcv : a.eval c = cv at hc
  cases hc
  refine ⟨.value (if t then a.eval x else a.eval y), w, m, by simp [execOp, hcv, asBool], R, Evol.refl _, .inl ⟨_, rfl, ?_⟩⟩
  cases t
  ·exact hE y
  ·exact hE x
 ·-- alloc
  rename_i E
  split at h
  case h_2 => cases h
  rename_i sz by_ z hinf
  obtain ⟨i, zv, hi, hz, _, _, hzs, rfl, hz1⟩ := inf_is hinf
  cases h
  have hv : VR (ctx B s m w) (.agg (zv.cells.toList.map .v)) (.agg zv.cells) := .agg _ _ (by simp) fun j y u hy hu => by
   rw [List.getElem?_map] at hy
   obtain ⟨q, hq, rfl⟩ := Option.map_eq_some_iff.1 hy
   rw [Array.getElem?_toList] at hq
   rw [hq] at hu; cases hu; exact .v _
  have hb := box_ok R n E hv (cs := zv.cells.toList.map .v) (by
   simp only [PV.celled]
   rw [if_pos]
   rw [List.all_eq_true]
   intro q hq
   obtain ⟨u, hu, rfl⟩ := List.mem_map.1 hq
   exact hz1 u hu)
  have hcl : closedLL [zv.cells.toList.map PV.v] = true := closedLL_iff.2 fun x hx y hy => by
   rw [List.mem_singleton.1 hx] at hy
   obtain ⟨z, _, rfl⟩ := List.mem_map.1 hy
   rfl
  rw [hcl] at hb
  simp only [List.length_map] at hb
  exact opOk_value (q := Instr.alloc E true (.tuple #[])) rfl (by simp [Instr.alloc, run_zeroValue hi hz, newVar, newRow]; rfl) hb.1 hb.2 (VR.newPtr n _ _)
 ·-- box
  rename_i E x
  split at h
  case h_2 => cases h
  rename_i cs hcs
  cases h
  have hb := box_ok R n E (hE x) hcs
  exact opOk_value (q := Instr.box E (a.eval x)) rfl (by simp [Instr.box, newVar, newRow]) hb.1 hb.2 (VR.newPtr n _ _)
 ·-- build
  rename_i t ps
  obtain ⟨y, hy, he⟩ := Option.map_eq_some_iff.1 h
  cases he
  obtain ⟨v, h1, h2⟩ := bldD_ok (w := w) hy (parts_fst a.eval ps e) (parts_get hE ps)
  exact opOk_same R rfl h1 h2
 ·-- buildSlice
  rename_i t len ps
  obtain ⟨v, w', m', h1, h2, h3, h4⟩ := bsD_ok R h (parts_fst a.eval ps e) (parts_get hE ps)
  exact opOk_value rfl h1 h2 h3 h4
 ·-- load
  rename_i t x
  obtain ⟨y, hy, he⟩ := Option.map_eq_some_iff.1 h
  cases he
  obtain ⟨v, h1, h2⟩ := ldD_ok R hy (hE x)
  exact opOk_same R rfl h1 h2
 ·-- store
  rename_i t x y
  obtain ⟨s2, hs, he⟩ := Option.map_eq_some_iff.1 h
  cases he
  obtain ⟨w', h1, h2, h3⟩ := stD_ok R hs (hE x) (hE y)
  exact ⟨.skip, w', m, by simp [execOp, h1], h2, h3, .inr ⟨rfl, rfl⟩⟩
 ·-- nilCheck
  rename_i x
  have hx := hE x
  split at h <;> first | cases h | skip
  all_goals
   rename_i hx0
   rw [hx0] at hx
   generalize hcv : a.eval x = cv at hx
   refine ⟨.value cv, w, m, ?_, R, Evol.refl _, .inl ⟨_, rfl, hx⟩⟩
   cases hx <;> simp [execOp, hcv]
 ·-- field
  rename_i t x f
  obtain ⟨y, hy, he⟩ := Option.map_eq_some_iff.1 h
  cases he
  obtain ⟨v, h1, h2⟩ := fldV_ok (w := w) hy (hE x)
  exact opOk_same R rfl h1 h2
 ·rename_i t x f
  obtain ⟨y, hy, he⟩ := Option.map_eq_some_iff.1 h
  cases he
  obtain ⟨v, h1, h2⟩ := fldA_ok (w := w) hy (hE x)
  exact opOk_same R rfl h1 h2
 ·rename_i t x i
  obtain ⟨y, hy, he⟩ := Option.map_eq_some_iff.1 h
  cases he
  obtain ⟨v, h1, h2⟩ := idxA_ok hy (hE x) (hE i)
  exact opOk_same R rfl h1 h2
 ·rename_i t x i
  split at h
  ·rename_i y hy
   cases h
   obtain ⟨v, h1, h2⟩ := idxV_ok (w := w) hy (hE x) (hE i)
   exact opOk_same R rfl h1 h2
  ·exact opOk_quiet R hE h
 ·rename_i t x lo hi mx
  split at h
  ·rename_i y hy
   cases h
   have hopt : ∀ (o : Option Operand), (∀ y, o.map e = some y → ∃ z, o.map a.eval = some z ∧ VR (ctx B s m w) y z) ∧ (o.map e = none → o.map a.eval = none) := by
    intro o
    cases o with
    | none => exact ⟨fun y h => (by simp at h), fun _ => rfl⟩
    | some x => exact ⟨fun y h => (by simp at h; subst h; exact ⟨_, rfl, hE x⟩), fun h => (by simp at h)⟩
   obtain ⟨v, h1, h2⟩ := slD_ok (w := w) hy (hE x) (hopt lo).1 (hopt lo).2 (hopt hi).1 (hopt hi).2 (hopt mx).1 (hopt mx).2
   exact opOk_same R rfl h1 h2
  ·exact opOk_quiet R hE h
 ·rename_i t l c
  obtain ⟨v, w', m', h1, h2, h3, h4⟩ := mkD_ok R h (hE l) (hE c)
  exact opOk_value rfl h1 h2 h3 h4
 ·-- extract
  rename_i x i
  split at h
  case h_2 => cases h
  rename_i cs hx0
  split at h
  case h_2 => cases h
  rename_i y hy
  cases h
  have hx := hE x
  rw [hx0] at hx
  generalize hcv : a.eval x = cv at hx
  cases hx with
  | tup _ vs hl hxx =>
   have hi : i < vs.size := by rw [hl]; exact (List.getElem?_eq_some_iff.1 hy).1
   exact opOk_same (q := Instr.extract (.tuple vs) i) R (by simp [execOp, hcv]) (by simp [Instr.extract, hi]) (hxx i _ _ hy (Array.getElem?_eq_getElem hi))
 ·-- makeInterface
  rename_i t x
  split at h
  case isFalse => cases h
  rename_i hn
  cases h
  unfold notIface at hn
  split at hn
  ·simp at hn
  ·rename_i d hni hu
   refine opOk_same (v := .iface t (a.eval x)) (q := Instr.makeInterface t (a.eval x)) R rfl ?_ (.ifc _ _ _ (hE x))
   cases d <;> first | exact absurd rfl (hni _) | simp [Instr.makeInterface, run_underlying hu]
  ·simp at hn
 ·-- makeFunc
  rename_i f fs cs
  split at h
  case isFalse =>
   split at h
   case isFalse => cases h
   rename_i hf
   cases h
   have hf' : cs = #[] := by simpa [Array.isEmpty] using hf
   subst hf'
   refine opOk_same (v := .func (.func f) (fs.map a.eval) #[]) (q := Instr.makeFunc (.func f) (fs.map a.eval) (#[].map a.eval)) R rfl (by simp [Instr.makeFunc]) (.mth _ _ _ (by simp) fun j y u hy hu => ?_)
   rw [List.getElem?_map] at hy
   obtain ⟨x, hx, rfl⟩ := Option.map_eq_some_iff.1 hy
   rw [Array.getElem?_map] at hu
   obtain ⟨x', hx', rfl⟩ := Option.map_eq_some_iff.1 hu
   rw [Array.getElem?_toList] at hx
   rw [hx] at hx'; cases hx'
   exact hE x
  rename_i hf
  cases h
  have hf' : fs = #[] := by simpa [Array.isEmpty] using hf
  subst hf'
  refine opOk_same (v := .func (.func f) #[] (cs.map a.eval)) (q := Instr.makeFunc (.func f) (#[].map a.eval) (cs.map a.eval)) R rfl (by simp [Instr.makeFunc]) (.clo _ _ _ (by simp) fun j y u hy hu => ?_)
  rw [List.getElem?_map] at hy
  obtain ⟨x, hx, rfl⟩ := Option.map_eq_some_iff.1 hy
  rw [Array.getElem?_map] at hu
  obtain ⟨x', hx', rfl⟩ := Option.map_eq_some_iff.1 hu
  rw [Array.getElem?_toList] at hx
  rw [hx] at hx'; cases hx'
  exact hE x
 ·-- convert
  rename_i src dst' x
  split at h
  ·rename_i y hy
   cases h
   obtain ⟨v, h1, h2⟩ := bsStr_ok R hy (hE x)
   exact opOk_same R rfl h1 h2
  ·split at h
   ·rename_i hts
    obtain ⟨v, w', m', h1, h2, h3, h4⟩ := sbD_ok R hts h (hE x)
    exact opOk_value rfl h1 h2 h3 h4
   ·exact opOk_quiet R hE h
 ·rename_i x t as ok
  split at h
  ·rename_i y hy
   cases h
   obtain ⟨v, h1, h2⟩ := taD_ok (w := w) (t := t) hy (hE x)
   exact opOk_same R rfl h1 h2
  ·exact opOk_quiet R hE h
 ·rename_i t x y yt
  split at h
  ·rename_i b hb
   cases h
   obtain ⟨g1, g2, g3, g4⟩ := eqD_ok (w := w) hb (hE x) (hE y)
   exact opOk_same (q := do eqGuard .eql t x y (a.eval x) (a.eval y); binOp .eql t (a.eval x) (a.eval y)) R rfl (by simp [(g2 x y).1, g3]) (.v _)
  ·exact opOk_quiet R hE h
 ·rename_i t x y yt
  split at h
  ·rename_i b hb
   cases h
   obtain ⟨g1, g2, g3, g4⟩ := eqD_ok (w := w) hb (hE x) (hE y)
   exact opOk_same (q := do eqGuard .neq t x y (a.eval x) (a.eval y); binOp .neq t (a.eval x) (a.eval y)) R rfl (by simp [(g2 x y).2, g4]) (.v _)
  ·exact opOk_quiet R hE h
 ·-- builtins
  rename_i c
  obtain ⟨callee, ⟨args⟩, ⟨ats⟩⟩ := c
  unfold bD at h
  simp only at h
  split at h
  ·rename_i hcal
   split at h
   case h_2 => cases h
   rename_i x y t t2
   obtain ⟨v, w', m', h1, h2, h3, h4⟩ := appD_ok (ty := ty) R h (hE x) (hE y)
   exact ⟨.value v, w', m', by simp [execOp, resolve, invoke, builtin, h1], h2, h3, .inl ⟨v, rfl, h4⟩⟩
  ·rename_i hcal
   split at h
   case h_2 => cases h
   rename_i x y t t2
   obtain ⟨v, w', h1, h2, h3, h4⟩ := cpD_ok (ty := ty) R h (hE x) (hE y)
   exact ⟨.value v, w', m, by simp [execOp, resolve, invoke, builtin, h1], h2, h3, .inl ⟨v, rfl, h4⟩⟩
  ·rename_i hcal
   split at h
   case h_2 => cases h
   rename_i x t
   split at h
   ·rename_i k hk
    cases h
    have := lenD_ok (w := w) (ty := ty) hk (hE x)
    exact ⟨.value (.int .i64 k), w, m, by simp [execOp, resolve, invoke, builtin, this], R, Evol.refl _, .inl ⟨_, rfl, .v _⟩⟩
   ·exact opOk_quiet R hE h
  ·exact opOk_quiet R hE h
  ·cases h
 ·exact opOk_quiet R hE h
end Go.Proofs.YtdbekeidlppfiaaGreatDoor.Den
