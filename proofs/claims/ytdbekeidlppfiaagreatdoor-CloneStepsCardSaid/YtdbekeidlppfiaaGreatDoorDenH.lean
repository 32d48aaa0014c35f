/- Texts joined by a program of mine (pack.py): DenH. -/
import Derived.Test.YtdbekeidlppfiaaGreatDoorDenG
import Derived.Laws.BytesString
import Derived.Laws.StructEq
import Derived.Lib.ConvBytes
set_option linter.unusedVariables false
set_option linter.unusedSimpArgs false
namespace Go.Proofs.YtdbekeidlppfiaaGreatDoor.Den
open Go Go.RowKit
def cpD0 (P : Program) (prot : Name) (s : HS) (t t2 : TypeId) (x y : PV) : Option (PV × HS) :=
 match P.underlying t with
 | some (.slice e) => match tsz P e with
  | some sz => match x, elsN s sz y with
   | .row n k i len, some ys => match s.h n with
    | (k', some b) =>
     let c := min ys.length len
     if k' = k ∧ b.sz = sz ∧ i + len ≤ b.xs.length ∧ s.fz n ≤ i ∧ okName prot n = true then
      some (.v (.int .i64 c), { h := upd s.h n (k, some { b with xs := b.xs.take i ++ ys.take c ++ b.xs.drop (i + c), cl := b.cl && clN s y }), fz := s.fz }) else none
    | _ => none
   | _, _ => none
  | none => none
 | _ => none
theorem cp_core {P : Program} {B : Base} {m : Name → Nat} {s : HS} {w : World} (r : RelH B m s w) {t t2 ty e : TypeId} {n : Name} {k k' i len : Nat} {b : Blk} {ys : List (List PV)} {y : Bool} {u v : Value} (hu : P.underlying t = some (.slice e)) (hz : tsz P e = some b.sz)
  (hn : s.h n = (k', some b)) (hc : k' = k ∧ i + len ≤ b.xs.length ∧ s.fz n ≤ i)
  (hx : VR (ctx B s m w) (.row n k i len) u) {news : List Value} (hlenN : news.length = ys.length * b.sz) (hone : ∀ u ∈ news, u.oneCell' = true) (hE : ElN (ctx B s m w) b.sz ys news)
  (hfirst : ∀ c, c ≤ ys.length → (Builtin.firstCells b.sz c v).run P w = .ok (news.take (c * b.sz)).toArray w) (hlen : (Builtin.lenOf v).run P w = .ok ys.length w) (hcly : y = true → closedLL ys = true) :
  ∃ q w', (Builtin.copy_ #[t, t2] ty #[u, v]).run P w = .ok q w' ∧ RelH B m { h := upd s.h n (k, some { b with xs := b.xs.take i ++ ys.take (min ys.length len) ++ b.xs.drop (i + min ys.length len), cl := b.cl && y }), fz := s.fz } w' ∧
   Evol (ctx B s m w) (ctx B { h := upd s.h n (k, some { b with xs := b.xs.take i ++ ys.take (min ys.length len) ++ b.xs.drop (i + min ys.length len), cl := b.cl && y }), fz := s.fz } m w') ∧ VR (ctx B { h := upd s.h n (k, some { b with xs := b.xs.take i ++ ys.take (min ys.length len) ++ b.xs.drop (i + min ys.length len), cl := b.cl && y }), fz := s.fz } m w') (.v (.int .i64 (min ys.length len : Nat))) q := by
 obtain ⟨rfl, hle, hfz⟩ := hc
 obtain ⟨c, hcdef⟩ : ∃ c, c = min ys.length len := ⟨_, rfl⟩
 rw [← hcdef]
 cases hx with
 | row _ _ _ _ a cap hk hcc hm ha =>
  obtain ⟨rfl, hcap⟩ := ha b hn
  obtain ⟨⟨cells, hg, hcs, hall, hclo⟩, hge, hfl, _⟩ := r.blk n _ b hn
  have hg : CellsOf w (m n) cells b.E := hg
  have hmul : i * b.sz + len * b.sz ≤ b.xs.length * b.sz := by rw [← Nat.add_mul]; exact Nat.mul_le_mul_right _ hle
  have hcl : c * b.sz ≤ len * b.sz := Nat.mul_le_mul_right _ (by omega)
  have hnl : (news.take (c * b.sz)).length = c * b.sz := by
   rw [List.length_take, hlenN]
   exact Nat.min_eq_left (Nat.mul_le_mul_right _ (by omega))
  obtain ⟨w', cells', hr, ht, hj⟩ := storeCells_turn (P := P) (m n) (i * b.sz) b.E (news.take (c * b.sz)) 0 w cells hg (fun u hu => hone u (List.mem_of_mem_take hu)) (by rw [hnl]; omega)
  have hfirst := hfirst c (by omega)
  have hmin : Nat.min ys.length len = c := hcdef.symm
  refine ⟨goInt c, w', ?_, ?_⟩
  ·simp [Builtin.copy_, run_underlying hu, hlen, hmin, run_sizeOf hz, hfirst, ctx] at hr ⊢
   rw [hr]; rfl
  ·have ht' : Turned w w' (m n) (s.fz n * b.sz) (i * b.sz + c * b.sz) cells cells' b.E := { ht with keep := fun o ho => ht.keep o (by
    rw [hnl]
    have := Nat.mul_le_mul_right b.sz hfz
    omega) }
   have hlx : (b.xs.take i ++ ys.take c ++ b.xs.drop (i + c)).length = b.xs.length := by simp; omega
   obtain ⟨ev, hR⟩ := r.turn (b1 := { b with xs := b.xs.take i ++ ys.take c ++ b.xs.drop (i + c), cl := b.cl && y }) hn ht' (Nat.le_refl _) rfl (by simp only; rw [hlx]; exact hfl) _ m (.inl ⟨rfl, rfl, rfl⟩)
   refine ⟨hR ⟨cells', ht.now, by simp only; rw [hlx, ht.csize]; exact hcs, fun q x' hx' => ?_, fun h => by
    simp only [Bool.and_eq_true] at h
    have h1 := closedLL_iff.1 (hclo h.1)
    have h2 := closedLL_iff.1 (hcly h.2)
    refine closedLL_iff.2 fun x hx => ?_
    rcases List.mem_append.1 hx with hx | hx
    ·rcases List.mem_append.1 hx with hx | hx
     ·exact h1 x (List.mem_of_mem_take hx)
     ·exact h2 x (List.mem_of_mem_take hx)
    ·exact h1 x (List.mem_of_mem_drop hx)⟩, ev, .v _⟩
   simp only at hx' ⊢
   by_cases c1 : q < i ∨ i + c ≤ q
   ·have hx0 : b.xs[q]? = some x' := by
     rcases c1 with c1 | c1
     ·rw [List.append_assoc, List.getElem?_append_left (by rw [List.length_take]; omega), List.getElem?_take, if_pos c1] at hx'; exact hx'
     ·rw [List.getElem?_append_right (by simp; omega), List.getElem?_drop] at hx'
      rw [← hx']; congr 1; simp; omega
    obtain ⟨p1, p2⟩ := hall q x' hx0
    refine ⟨p1, fun j y hy => ?_⟩
    obtain ⟨u, q1, q2, q3⟩ := p2 j y hy
    have hjz : j < b.sz := by rw [← p1]; exact (List.getElem?_eq_some_iff.1 hy).1
    refine ⟨u, ?_, q2, q3.evol ev⟩
    rw [ht.keep _ ?_]
    ·exact q1
    ·rw [hnl]
     rcases c1 with c1 | c1
     ·left
      have : q * b.sz + b.sz ≤ i * b.sz := by rw [← Nat.succ_mul]; exact Nat.mul_le_mul_right _ c1
      omega
     ·right
      have : i * b.sz + c * b.sz ≤ q * b.sz := by rw [← Nat.add_mul]; exact Nat.mul_le_mul_right _ c1
      omega
   ·have hx0 : ys[q - i]? = some x' := by
     rw [List.append_assoc, List.getElem?_append_right (by rw [List.length_take]; omega), List.length_take, Nat.min_eq_left (by omega), List.getElem?_append_left (by rw [List.length_take]; omega), List.getElem?_take, if_pos (by omega)] at hx'
     exact hx'
    obtain ⟨p1, p2⟩ := hE _ x' hx0
    refine ⟨p1, fun j y hy => ?_⟩
    obtain ⟨u, q1, q3⟩ := p2 j y hy
    have hjz : j < b.sz := by rw [← p1]; exact (List.getElem?_eq_some_iff.1 hy).1
    have e1 : q * b.sz = i * b.sz + (q - i) * b.sz := by rw [← Nat.add_mul]; congr 1; omega
    have e2 : (q - i) * b.sz + b.sz ≤ c * b.sz := by rw [← Nat.succ_mul]; exact Nat.mul_le_mul_right _ (by omega)
    refine ⟨u, ?_, hone u (List.mem_of_getElem? q1), q3.evol ev⟩
    rw [e1, Nat.add_assoc]
    exact hj _ u (by rw [List.getElem?_take, if_pos (by omega)]; exact q1)
def byP (s : ByteArray) : List (List PV) := s.data.toList.map fun b => [.v (.int .u8 b.toNat)]
theorem byP_len (s : ByteArray) : (byP s).length = s.size := by simp [byP]
theorem byP_closed (s : ByteArray) : closedLL (byP s) = true := closedLL_iff.2 fun x hx y hy => by
 obtain ⟨b, _, rfl⟩ := List.mem_map.1 hx
 simp at hy; subst hy; rfl
theorem byP_el (c : Ctx) (s : ByteArray) : ElN c 1 (byP s) (s.data.toList.map fun b => Value.int .u8 b.toNat) := by
 intro i x hi
 unfold byP at hi
 rw [List.getElem?_map] at hi
 obtain ⟨b, hb, rfl⟩ := Option.map_eq_some_iff.1 hi
 refine ⟨rfl, fun j y hj => ?_⟩
 cases j with
 | zero => simp at hj; subst hj; exact ⟨.int .u8 b.toNat, by rw [Nat.mul_one, Nat.add_zero, List.getElem?_map, hb]; rfl, .v _⟩
 | succ j => simp at hj
def csD (P : Program) (prot : Name) (s : HS) (t : TypeId) (x y : PV) : Option (PV × HS) :=
 match P.underlying t, y with
 | some (.slice e), .v (.string str) => match tsz P e, x with
  | some 1, .row n k i len => match s.h n with
   | (k', some b) =>
    if k' = k ∧ b.sz = 1 ∧ i + len ≤ b.xs.length ∧ s.fz n ≤ i ∧ okName prot n = true then
     some (.v (.int .i64 (min (byP str).length len : Nat)), { h := upd s.h n (k, some { b with xs := b.xs.take i ++ (byP str).take (min (byP str).length len) ++ b.xs.drop (i + min (byP str).length len), cl := b.cl && true }), fz := s.fz }) else none
   | _ => none
  | _, _ => none
 | _, _ => none
def cpD (P : Program) (prot : Name) (s : HS) (t t2 : TypeId) (x y : PV) : Option (PV × HS) := match cpD0 P prot s t t2 x y with
 | some z => some z
 | none => csD P prot s t x y
theorem cpD_ok {P : Program} {B : Base} {m : Name → Nat} {s s1 : HS} {w : World} {prot : Name} (r : RelH B m s w) {t t2 ty : TypeId} {x y z : PV} {u v : Value} (h : cpD P prot s t t2 x y = some (z, s1)) (hx : VR (ctx B s m w) x u) (hy : VR (ctx B s m w) y v) :
  ∃ q w', (Builtin.copy_ #[t, t2] ty #[u, v]).run P w = .ok q w' ∧ RelH B m s1 w' ∧ Evol (ctx B s m w) (ctx B s1 m w') ∧ VR (ctx B s1 m w') z q := by
 unfold cpD at h
 split at h
 ·rename_i z0 h0
  cases h
  unfold cpD0 at h0
  split at h0
  case h_2 => cases h0
  rename_i e hu
  split at h0
  case h_2 => cases h0
  rename_i sz hz
  split at h0
  case h_2 => cases h0
  rename_i n k i len ys hys
  split at h0
  case h_2 => cases h0
  rename_i k' b hn
  simp only at h0
  split at h0
  case isFalse => cases h0
  rename_i hc
  obtain ⟨e1, e2, hle, hfz, _⟩ := hc
  simp only [Option.some.injEq, Prod.mk.injEq] at h0
  obtain ⟨rfl, rfl⟩ := h0
  subst e2
  obtain ⟨news, hA, hE⟩ := elsN_ok r hys hy
  refine cp_core r hu hz hn ⟨e1, hle, hfz⟩ hx hA.len hA.one hE (fun c hcl => ?_) ?_ (clN_ok r hys hy)
  ·cases hA with
   | none h hn0 => subst hn0; simp [Builtin.firstCells]
   | some a' c' hl hc' h1 =>
    exact run_firstCells_some (P := P) w b.sz c a' _ c' (news.take (c * b.sz)) (by rw [List.length_take, hl]; exact Nat.min_eq_left (Nat.mul_le_mul_right _ hcl)) (fun j u hu => hc' j u (by
     rw [List.getElem?_take] at hu
     split at hu
     ·exact hu
     ·cases hu))
  ·cases hA with
   | none h hn0 => simp [Builtin.lenOf, h]
   | some a' c' hl hc' h1 => simp [Builtin.lenOf]
 ·unfold csD at h
  split at h
  case h_2 => cases h
  rename_i e str hu hcp
  split at h
  case h_2 => cases h
  rename_i n k i len hz
  split at h
  case h_2 => cases h
  rename_i k' b hn
  split at h
  case isFalse => cases h
  rename_i hc
  obtain ⟨e1, e2, hle, hfz, _⟩ := hc
  cases h
  have hv := v_inv' hy
  subst hv
  refine cp_core r hu (by rw [hz, e2]) hn ⟨e1, hle, hfz⟩ hx (news := str.data.toList.map fun b => Value.int .u8 b.toNat) (by rw [e2, byP_len]; simp) (fun u hu => by obtain ⟨b, _, rfl⟩ := List.mem_map.1 hu; rfl) (by rw [e2]; exact byP_el _ str) (fun c hcl => ?_) ?_ (fun _ => byP_closed str)
  ·rw [byP_len] at hcl
   simp only [Builtin.firstCells, Sem.run_pure, e2, Nat.mul_one]
   congr 1
   apply Array.ext'
   simp [ByteArray.data_extract, Array.toList_extract, List.extract, List.map_take]
  ·rw [byP_len]; simp [Builtin.lenOf]
where
 v_inv' {c : Ctx} {x u : Value} (h : VR c (.v x) u) : u = x := by cases h; rfl
def toSl (P : Program) (src dst : TypeId) : Bool := match P.underlying src, P.underlying dst with
 | some .string, some (.slice _) => true
 | _, _ => false
def sbD (P : Program) (n : Name) (s : HS) (dst : TypeId) (x : PV) : Option (PV × HS) :=
 match P.underlying dst, x with
 | some (.slice e), .v (.string t) => match P.underlying e with
  | some (.int .u8) => if t.size ≤ 140737488355328 then some (.row n ((s.h n).1 + 1) 0 t.size, newS s n ⟨1, e, byP t, true, true⟩) else none
  | _ => none
 | _, _ => none
theorem sbD_ok {P : Program} {B : Base} {m : Name → Nat} {s s1 : HS} {w : World} {n : Name} (r : RelH B m s w) {src dst : TypeId} {x z : PV} {u : Value} (hs : toSl P src dst = true) (h : sbD P n s dst x = some (z, s1)) (hx : VR (ctx B s m w) x u) :
  ∃ q w' m', (convert src dst u).run P w = .ok q w' ∧ RelH B m' s1 w' ∧ Evol (ctx B s m w) (ctx B s1 m' w') ∧ VR (ctx B s1 m' w') z q := by
 unfold sbD at h
 split at h
 case h_2 => cases h
 rename_i e t hd
 split at h
 case h_2 => cases h
 rename_i he
 split at h
 case isFalse => cases h
 rename_i hl
 cases h
 have hsrc : P.underlying src = some .string := by
  unfold toSl at hs
  split at hs
  ·rename_i h1 _; exact h1
  ·cases hs
 cases hx
 have hr := Lib.run_convert_string_bytes (P := P) w src dst e t hsrc hd he
 have hge := grownCap_ge w t.size 0 e
 have hcm := grownCap_le_maxLen w t.size 0 e (by simp only [maxLen]; omega)
 have hcs : (Lib.bytesCells w e t).size = grownCap w t.size 0 e := by
  simp [Lib.bytesCells]; omega
 have hC : CellsOf (Lib.bytesWorld w e t) w.heap.size (Lib.bytesCells w e t) e := ⟨_, Lib.bytesWorld_at_new w e t, .inr (Nat.le_refl _)⟩
 have hb : Below w.heap.size w (Lib.bytesWorld w e t) := ⟨by simp [Lib.bytesWorld, World.freeze]; rfl, by simp [Lib.bytesWorld, World.freeze], by simp [Lib.bytesWorld, World.freeze]; rfl, by rw [Lib.bytesWorld_size]; omega, fun k hk => Lib.bytesWorld_at_old w e t k hk⟩
 have hn := r.new (w' := Lib.bytesWorld w e t) n ⟨1, e, byP t, true, true⟩ w.heap.size hb (Nat.le_refl _) (Lib.bytesCells w e t) hC (by simp only [byP_len, Nat.mul_one]; rw [hcs]; exact hge) (fun i x hi => by
  obtain ⟨p1, p2⟩ := byP_el (ctx B s m w) t i x hi
  refine ⟨p1, fun j y hj => ?_⟩
  obtain ⟨u, q1, q2⟩ := p2 j y hj
  refine ⟨u, ?_, ?_, q2⟩
  ·show (Lib.bytesCells w e t)[i * 1 + j]? = some u
   unfold Lib.bytesCells
   have hlt := (List.getElem?_eq_some_iff.1 q1).1
   rw [Array.getElem?_append_left (by simpa using hlt)]
   simpa using q1
  ·obtain ⟨b, _, rfl⟩ := List.mem_map.1 (List.mem_of_getElem? q1); rfl) (fun _ => byP_closed t)
 exact ⟨_, _, _, hr, hn.1, hn.2, VR.newRow n _ _ _ _ _ e hC hge (by simpa [maxLen] using hcm) (by rw [hcs, Nat.mul_one])⟩
def byteOf : List PV → Option UInt8
 | [.v (.int .u8 n)] => some (UInt8.ofNat n.toNat)
 | _ => none
def bytesOf : List (List PV) → Option (List UInt8)
 | [] => some []
 | x :: l => match byteOf x, bytesOf l with
  | some b, some r => some (b :: r)
  | _, _ => none
def bsStr (P : Program) (s : HS) (src dst : TypeId) (x : PV) : Option PV :=
 match P.underlying src, P.underlying dst with
 | some (.slice e), some .string => match P.underlying e, els s x with
  | some (.int .u8), some (1, ys) => (bytesOf ys).map fun l => .v (.string ⟨l.toArray⟩)
  | _, _ => none
 | _, _ => none
theorem bytesOf_get : ∀ (ys : List (List PV)) (l : List UInt8), bytesOf ys = some l → l.length = ys.length ∧ ∀ (i : Nat) (x : List PV), ys[i]? = some x → ∃ n, x = [.v (.int .u8 n)] ∧ l[i]? = some (UInt8.ofNat n.toNat)
 | [], l, h => by simp [bytesOf] at h; subst h; exact ⟨rfl, fun i x hi => by simp at hi⟩
 | x :: ys, l, h => by
  simp only [bytesOf] at h
  split at h
  case h_2 => cases h
  rename_i b r hb hr
  cases h
  obtain ⟨h1, h2⟩ := bytesOf_get ys r hr
  refine ⟨by simp [h1], fun i y hi => ?_⟩
  cases i with
  | zero =>
   simp at hi; subst hi
   unfold byteOf at hb
   split at hb
   ·cases hb; exact ⟨_, rfl, rfl⟩
   ·cases hb
  | succ i => exact h2 i y (by simpa using hi)
def valOf (e : Operand → PV) (x : Operand) : Value := (e x).toV.getD undef
def quietD (P : Program) (e : Operand → PV) (o : Oper) : Option PV :=
 match o.op with
 | .select .. => none
 | _ => if o.op.operands.toList.all (fun x => (e x).toV.isSome) then match quiet P (execOp (valOf e) o) with
  | some (.value v) => some (PV.ofV v)
  | _ => none else none
theorem quietD_ok {P : Program} {c : Ctx} {w : World} {e : Operand → PV} {a : Act} {o : Oper} {x : PV} (h : quietD P e o = some x) (he : ∀ y, VR c (e y) (a.eval y)) :
  ∃ v, (execOp a.eval o).run P w = .ok (.value v) w ∧ VR c x v := by
 unfold quietD at h
 split at h
 ·cases h
 rename_i hsel
 split at h
 case isFalse => cases h
 rename_i hall
 split at h
 case h_2 => cases h
 rename_i v hq
 cases h
 have hc : execOp a.eval o = execOp (valOf e) o := execOp_congr o (fun cs b hb => hsel cs b hb) fun y hy => by
  have := List.all_eq_true.1 hall y (by simpa using hy)
  obtain ⟨z, hz⟩ := Option.isSome_iff_exists.1 this
  rw [valOf, hz]
  exact VR.toV _ (he y) hz
 exact ⟨v, by rw [hc]; exact quiet_run _ w hq, VR.ofV c v⟩
def eqD0 (P : Program) (t : TypeId) (x y : PV) : Option Bool :=
 match P.underlying t, x, y with
 | some (.slice _), .row .., .v (.slice none 0 0) => some false
 | some (.slice _), .list _ _ (_ :: _), .v (.slice none 0 0) => some false
 | some (.slice _), .v (.slice none 0 0), .row .. => some false
 | some (.slice _), .v (.slice none 0 0), .list _ _ (_ :: _) => some false
 | some (.interface _), .ifc .., .v .nilIface => some false
 | some (.interface _), .v .nilIface, .ifc .. => some false
 | some (.interface _), .ifc t1 _, .ifc t2 _ => if t1 = t2 then none else some false
 | some (.func ..), .clo .., .v .nilFunc => some false
 | some (.func ..), .v .nilFunc, .clo .. => some false
 | some (.pointer _), .ptr .., .v (.pointer none) => some false
 | some (.pointer _), .eptr .., .v (.pointer none) => some false
 | _, _, _ => none
theorem eqS {P : Program} {w : World} {t : TypeId} {u v : Value} {b : Bool} (h : ∀ d, (Op.equalIn (d + 1) t u v).run P w = .ok b w) : (Op.equal t u v).run P w = .ok b w := by
 have h1 : Op.maxDepth = 9999 + 1 := rfl
 unfold Op.equal
 rw [h1]
 exact h 9999
theorem eqD0_ok {P : Program} {c : Ctx} {w : World} {t : TypeId} {x y : PV} {u v : Value} {b : Bool} (h : eqD0 P t x y = some b) (hx : VR c x u) (hy : VR c y v) :
  (Op.equal t u v).run P w = .ok b w ∧ (∀ (p q : Operand), (eqGuard .eql t p q u v).run P w = .ok () w ∧ (eqGuard .neq t p q u v).run P w = .ok () w) ∧ (binOp .eql t u v).run P w = .ok (.bool b) w ∧ (binOp .neq t u v).run P w = .ok (.bool (!b)) w := by
 have fin : ∀ {u v : Value} {b : Bool}, (Op.equal t u v).run P w = .ok b w → (∀ (p q : Operand), eqGuard .eql t p q u v = pure () ∧ eqGuard .neq t p q u v = pure ()) →
   (binOp .eql t u v = (do pure (.bool (← Op.equal t u v)))) → (binOp .neq t u v = (do pure (.bool (!(← Op.equal t u v))))) →
   (Op.equal t u v).run P w = .ok b w ∧ (∀ (p q : Operand), (eqGuard .eql t p q u v).run P w = .ok () w ∧ (eqGuard .neq t p q u v).run P w = .ok () w) ∧ (binOp .eql t u v).run P w = .ok (.bool b) w ∧ (binOp .neq t u v).run P w = .ok (.bool (!b)) w := by
  intro u v b h1 h2 h3 h4
  refine ⟨h1, fun p q => ⟨by rw [(h2 p q).1]; rfl, by rw [(h2 p q).2]; rfl⟩, by rw [h3]; simp [h1], by rw [h4]; simp [h1]⟩
 unfold eqD0 at h
 split at h
 case h_12 => cases h
 case h_7 =>
  rename_i ms t1 x1 t2 y1 hu
  split at h
  ·cases h
  ·rename_i hne
   cases h
   cases hx
   cases hy
   exact fin (eqS fun d => by simp [Op.equalIn, run_underlying hu, hne]) (fun p q => ⟨rfl, rfl⟩) rfl rfl
 all_goals
  rename_i hu
  cases h
  cases hx
  cases hy
  exact fin (eqS fun d => by simp [Op.equalIn, run_underlying hu]) (fun p q => ⟨rfl, rfl⟩) rfl rfl
def seq (a b : ByteArray) : Bool := a.toList == b.toList
def eqLoop (D : Nat) (e : TypeId) (sz : Nat) (us vs : Array Value) : List Nat → Sem Bool
 | [] => pure true
 | i :: l => do
  let a ← part e us (i * sz)
  let b ← part e vs (i * sz)
  let r ← Op.equalIn D e a b
  if (!r) = true then pure false else eqLoop D e sz us vs l
theorem eqLoop_run {P : Program} (w : World) (D : Nat) (t e : TypeId) (n sz : Nat) (us vs : Array Value) (hu : P.underlying t = some (.array n e)) (hz : (sizeOf e).run P w = .ok sz w) :
  (Op.equalIn (D + 1) t (.agg us) (.agg vs)).run P w = (eqLoop D e sz us vs (List.range n)).run P w := by
 simp only [Op.equalIn, Sem.run_bind, run_underlying hu, Result.andThen_ok, hz]
 simp only [Std.Legacy.Range.forIn_eq_forIn_range', Std.Legacy.Range.size]
 have e0 : List.range' 0 ((n - 0 + 1 - 1) / 1) 1 = List.range n := by simp [List.range_eq_range']
 rw [e0]
 generalize List.range n = l
 clear hz
 induction l generalizing w with
 | nil => simp [eqLoop]
 | cons f fs ih =>
  simp only [List.forIn_cons, eqLoop, Sem.run_bind, Sem.run_ite]
  generalize (part e us (f * sz)).run P w = r1
  cases r1 with
  | ok a w1 =>
   simp only [Result.andThen_ok]
   generalize (part e vs (f * sz)).run P w1 = r2
   cases r2 with
   | ok b w2 =>
    simp only [Result.andThen_ok]
    generalize (Op.equalIn D e a b).run P w2 = r3
    cases r3 with
    | ok r w3 =>
     cases r
     ·simp only [Result.andThen_ok, Bool.not_false, if_true, Sem.run_pure]
     ·simp only [Result.andThen_ok, Bool.not_true, Bool.false_eq_true, if_false, Sem.run_pure]
      exact ih w3
    | halt x w3 => simp [Result.andThen]
   | halt x w2 => simp [Result.andThen]
  | halt x w1 => simp [Result.andThen]
def partD (P : Program) (t : TypeId) (o : Nat) (cs : List PV) : Option PV :=
 match isA P t, tsz P t with
 | some ag, some (sz + 1) => if o + (sz + 1) ≤ cs.length then mkv ag ((cs.drop o).take (sz + 1)) else none
 | _, _ => none
theorem partD_ok {P : Program} {c : Ctx} {w : World} {t : TypeId} {o : Nat} {cs : List PV} {vs : Array Value} {x : PV} (h : partD P t o cs = some x) (hc : VR c (.agg cs) (.agg vs)) : ∃ v, (part t vs o).run P w = .ok v w ∧ VR c x v := by
 unfold partD at h
 split at h
 case h_2 => cases h
 rename_i ag n hA hz
 split at h
 case isFalse => cases h
 rename_i hle
 cases hc with
 | agg _ _ hl hx =>
  have hlen : ((vs.toList.drop o).take (n + 1)).length = ((cs.drop o).take (n + 1)).length := by simp [hl]
  have hk := mkv_ok (c := c) (us := (vs.toList.drop o).take (n + 1)) h hlen (fun j z q h1 h2 => by
   rw [List.getElem?_take] at h1 h2
   split at h1
   ·rename_i hj
    rw [if_pos hj, List.getElem?_drop] at h2
    rw [List.getElem?_drop] at h1
    exact hx _ z q h1 (by simpa using h2)
   ·cases h1)
  have h1 : ag = false → n + 1 = 1 := fun e => by have := hk.2 e; rw [List.length_take, List.length_drop] at this; omega
  exact ⟨_, run_part hA hz vs o h1 (by omega) (by omega), hk.1⟩
def eqFs (P : Program) (g : TypeId → PV → PV → Option Bool) (xs ys : List PV) : List Field → Option Bool
 | [] => some true
 | f :: l => if f.name = "_" then eqFs P g xs ys l else match partD P f.type f.offset xs, partD P f.type f.offset ys with
  | some a, some b => match g f.type a b, eqFs P g xs ys l with
   | some p, some q => some (p && q)
   | _, _ => none
  | _, _ => none
def eqEs (P : Program) (g : TypeId → PV → PV → Option Bool) (e : TypeId) (sz : Nat) (xs ys : List PV) : List Nat → Option Bool
 | [] => some true
 | i :: l => match partD P e (i * sz) xs, partD P e (i * sz) ys with
  | some a, some b => match g e a b, eqEs P g e sz xs ys l with
   | some p, some q => some (p && q)
   | _, _ => none
  | _, _ => none
def eqP (P : Program) : Nat → TypeId → PV → PV → Option Bool
 | 0, _, _, _ => none
 | d + 1, t, x, y => match P.underlying t, x, y with
  | some .bool, .v (.bool a), .v (.bool b) => some (a == b)
  | some (.int _), .v (.int k a), .v (.int k' b) => if k = k' then some (a == b) else none
  | some .string, .v (.string a), .v (.string b) => some (seq a b)
  | some (.struct fs), .agg xs, .agg ys => if P.stoodInHeld t then none else eqFs P (eqP P d) xs ys fs.toList
  | some (.array n e), .agg xs, .agg ys => match tsz P e with
   | some sz => eqEs P (eqP P d) e sz xs ys (List.range n)
   | none => none
  | _, _, _ => none
theorem eqP_ok {P : Program} {c : Ctx} {w : World} : ∀ (d : Nat) (t : TypeId) (x y : PV) (u v : Value) (b : Bool), eqP P d t x y = some b → VR c x u → VR c y v → ∀ D, d ≤ D → (Op.equalIn D t u v).run P w = .ok b w
 | 0, t, x, y, u, v, b, h, hx, hy, D, hD => by simp [eqP] at h
 | d + 1, t, x, y, u, v, b, h, hx, hy, D, hD => by
  obtain ⟨D, rfl⟩ : ∃ D', D = D' + 1 := ⟨D - 1, by omega⟩
  unfold eqP at h
  split at h
  ·rename_i a b' hu
   cases h; cases hx; cases hy
   exact run_equalIn_bool' w D t _ _ hu
  ·rename_i k0 k a k' b' hu
   split at h
   case isFalse => cases h
   rename_i hk; subst hk
   cases h; cases hx; cases hy
   exact run_equalIn_int w D t _ _ _ _ hu
  ·rename_i a b' hu
   cases h; cases hx; cases hy
   exact run_equalIn_string w D t _ _ hu
  ·rename_i fs xs ys hu
   split at h
   ·cases h
   rename_i hst
   have hst : P.stoodInHeld t = false := by simpa using hst
   have hf : P.fieldsOf t = fs := by simp [Program.fieldsOf, hu]
   cases hx with
   | agg _ us hl1 hx1 =>
    cases hy with
    | agg _ vs hl2 hy1 =>
     rw [run_equalIn_struct w D t us vs (by rw [hf]; exact hu) hst, hf]
     have key : ∀ (l : List Field) (b : Bool), eqFs P (eqP P d) xs ys l = some b → (Op.eqFields D us vs l).run P w = .ok b w := by
      intro l
      induction l with
      | nil => intro b h; simp [eqFs] at h; subst h; simp [Op.eqFields]
      | cons f l ih =>
       intro b h
       simp only [eqFs] at h
       simp only [Op.eqFields]
       split at h
       ·rename_i hn
        simp only [hn, ne_eq, not_true_eq_false, if_false]
        exact ih b h
       ·rename_i hn
        simp only [ne_eq, hn, not_false_eq_true, if_true]
        split at h
        case h_2 => cases h
        rename_i a1 b1 ha hb
        split at h
        case h_2 => cases h
        rename_i p q hp hq
        cases h
        obtain ⟨v1, r1, vr1⟩ := partD_ok (w := w) ha (.agg _ us hl1 hx1)
        obtain ⟨v2, r2, vr2⟩ := partD_ok (w := w) hb (.agg _ vs hl2 hy1)
        have r3 := eqP_ok (w := w) d f.type a1 b1 v1 v2 p hp vr1 vr2 D (by omega)
        simp only [Sem.run_bind, r1, r2, r3, Result.andThen_ok]
        cases p with
        | false => simp
        | true => simpa using ih q hq
     exact key _ b h
  ·rename_i n e xs ys hu
   split at h
   case h_2 => cases h
   rename_i sz hz
   cases hx with
   | agg _ us hl1 hx1 =>
    cases hy with
    | agg _ vs hl2 hy1 =>
     rw [eqLoop_run w D t e n sz us vs hu (run_sizeOf hz w)]
     have key : ∀ (l : List Nat) (b : Bool), eqEs P (eqP P d) e sz xs ys l = some b → (eqLoop D e sz us vs l).run P w = .ok b w := by
      intro l
      induction l with
      | nil => intro b h; simp [eqEs] at h; subst h; simp [eqLoop]
      | cons i l ih =>
       intro b h
       simp only [eqEs] at h
       split at h
       case h_2 => cases h
       rename_i a1 b1 ha hb
       split at h
       case h_2 => cases h
       rename_i p q hp hq
       cases h
       obtain ⟨v1, r1, vr1⟩ := partD_ok (w := w) ha (.agg _ us hl1 hx1)
       obtain ⟨v2, r2, vr2⟩ := partD_ok (w := w) hb (.agg _ vs hl2 hy1)
       have r3 := eqP_ok (w := w) d e a1 b1 v1 v2 p hp vr1 vr2 D (by omega)
       simp only [eqLoop, Sem.run_bind, r1, r2, r3, Result.andThen_ok]
       cases p with
       | false => simp
       | true => simpa using ih q hq
     exact key _ b h
  ·cases h
def eqA (P : Program) (t : TypeId) (x y : PV) : Option Bool := match x, y with
 | .agg _, .agg _ => if P.eqGuardType P.depth t then none else eqP P 64 t x y
 | _, _ => none
def eqD (P : Program) (t : TypeId) (x y : PV) : Option Bool := match eqD0 P t x y with
 | some b => some b
 | none => eqA P t x y
theorem eqD_ok {P : Program} {c : Ctx} {w : World} {t : TypeId} {x y : PV} {u v : Value} {b : Bool} (h : eqD P t x y = some b) (hx : VR c x u) (hy : VR c y v) :
  (Op.equal t u v).run P w = .ok b w ∧ (∀ (p q : Operand), (eqGuard .eql t p q u v).run P w = .ok () w ∧ (eqGuard .neq t p q u v).run P w = .ok () w) ∧ (binOp .eql t u v).run P w = .ok (.bool b) w ∧ (binOp .neq t u v).run P w = .ok (.bool (!b)) w := by
 unfold eqD at h
 split at h
 ·rename_i h0; cases h; exact eqD0_ok h0 hx hy
 ·unfold eqA at h
  split at h
  case h_2 => cases h
  split at h
  ·cases h
  rename_i hg
  have hg : P.eqGuardType P.depth t = false := by simpa using hg
  have hq := eqP_ok (w := w) 64 t _ _ u v b h hx hy 10000 (by omega)
  cases hx with
  | agg _ us hl1 hx1 =>
   cases hy with
   | agg _ vs hl2 hy1 =>
    refine ⟨hq, fun p q => ⟨run_eqGuard_agg w .eql t p q us vs hg, run_eqGuard_agg w .neq t p q us vs hg⟩, ?_, ?_⟩
    ·rw [run_eql_struct, hq]; rfl
    ·rw [run_neq_struct, hq]; rfl
end Go.Proofs.YtdbekeidlppfiaaGreatDoor.Den
