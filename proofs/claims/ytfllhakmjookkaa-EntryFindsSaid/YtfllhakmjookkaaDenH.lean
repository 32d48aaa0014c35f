/- A plain reading of Go's text: one operation. -/
import Derived.Test.YtfllhakmjookkaaDenG
import Derived.Laws.BytesString
set_option linter.unusedVariables false
set_option linter.unusedSimpArgs false
namespace Go.Proofs.Ytfllhakmjookkaa.Den
open Go Go.RowKit

/-! ### copy -/
def cpD (P : Program) (prot : Name) (s : HS) (t t2 : TypeId) (x y : PV) : Option (PV × HS) :=
  match P.underlying t with
  | some (.slice e) => match tsz P e with
    | some sz => match x, elsN s sz y with
      | .row n k i len, some ys => match s.h n with
        | (k', some b) =>
          let c := min ys.length len
          if k' = k ∧ b.sz = sz ∧ i + len ≤ b.xs.length ∧ s.fz n ≤ i ∧ okName prot n = true then
            some (.v (.int .i64 c), { h := upd s.h n (k, some { b with xs := b.xs.take i ++ ys.take c ++ b.xs.drop (i + c) }), fz := s.fz }) else none
        | _ => none
      | _, _ => none
    | none => none
  | _ => none
theorem cpD_ok {P : Program} {B : Base} {m : Name → Nat} {s s1 : HS} {w : World} {prot : Name} (r : RelH B m s w) {t t2 ty : TypeId} {x y z : PV} {u v : Value} (h : cpD P prot s t t2 x y = some (z, s1)) (hx : VR (ctx B s m w) x u) (hy : VR (ctx B s m w) y v) :
    ∃ q w', (Builtin.copy_ #[t, t2] ty #[u, v]).run P w = .ok q w' ∧ RelH B m s1 w' ∧ Evol (ctx B s m w) (ctx B s1 m w') ∧ VR (ctx B s1 m w') z q := by
  unfold cpD at h
  split at h
  case h_2 => cases h
  rename_i e hu
  split at h
  case h_2 => cases h
  rename_i sz hz
  split at h
  case h_2 => cases h
  rename_i n k i len ys hys
  split at h
  case h_2 => cases h
  rename_i k' b hn
  simp only at h
  split at h
  case isFalse => cases h
  rename_i hc
  obtain ⟨rfl, rfl, hle, hfz, _⟩ := hc
  simp only [Option.some.injEq, Prod.mk.injEq] at h
  obtain ⟨rfl, rfl⟩ := h
  obtain ⟨news, hA, hE⟩ := elsN_ok r hys hy
  obtain ⟨c, hcdef⟩ : ∃ c, c = min ys.length len := ⟨_, rfl⟩
  rw [← hcdef]
  cases hx with
  | row _ _ _ _ a cap hk hcc hm ha =>
    obtain ⟨rfl, hcap⟩ := ha b hn
    obtain ⟨⟨cells, hg, hcs, hall⟩, hge, hfl⟩ := r.blk n _ b hn
    have hg : w.heap[m n]? = some (.cells cells b.E (0, 0)) := hg
    have hmul : i * b.sz + len * b.sz ≤ b.xs.length * b.sz := by rw [← Nat.add_mul]; exact Nat.mul_le_mul_right _ hle
    have hcl : c * b.sz ≤ len * b.sz := Nat.mul_le_mul_right _ (by omega)
    have hnl : (news.take (c * b.sz)).length = c * b.sz := by
      rw [List.length_take, hA.len]
      exact Nat.min_eq_left (Nat.mul_le_mul_right _ (by omega))
    obtain ⟨w', cells', hr, ht, hj⟩ := storeCells_turn (P := P) (m n) (i * b.sz) b.E (news.take (c * b.sz)) 0 w cells hg (fun u hu => hA.one u (List.mem_of_mem_take hu)) (by rw [hnl]; omega)
    have hfirst : (Builtin.firstCells b.sz c v).run P w = .ok (news.take (c * b.sz)).toArray w := by
      cases hA with
      | none h hn0 => subst hn0; simp [Builtin.firstCells]
      | some a' c' hl hc' h1 =>
        exact run_firstCells_some (P := P) w b.sz c a' _ c' (news.take (c * b.sz)) hnl (fun j u hu => hc' j u (by
          rw [List.getElem?_take] at hu
          split at hu
          · exact hu
          · cases hu))
    have hlen : (Builtin.lenOf v).run P w = .ok ys.length w := by
      cases hA with
      | none h hn0 => simp [Builtin.lenOf, h]
      | some a' c' hl hc' h1 => simp [Builtin.lenOf]
    have hmin : Nat.min ys.length len = c := hcdef.symm
    refine ⟨goInt c, w', ?_, ?_⟩
    · simp [Builtin.copy_, run_underlying hu, hlen, hmin, run_sizeOf hz, hfirst, ctx] at hr ⊢
      rw [hr]; rfl
    · have ht' : Turned w w' (m n) (s.fz n * b.sz) (i * b.sz + c * b.sz) cells cells' b.E := { ht with keep := fun o ho => ht.keep o (by
        rw [hnl]
        have := Nat.mul_le_mul_right b.sz hfz
        omega) }
      have hlx : (b.xs.take i ++ ys.take c ++ b.xs.drop (i + c)).length = b.xs.length := by simp; omega
      obtain ⟨ev, hR⟩ := r.turn (b1 := { b with xs := b.xs.take i ++ ys.take c ++ b.xs.drop (i + c) }) hn ht' (Nat.le_refl _) rfl (by simp only; rw [hlx]; exact hfl) _ m (.inl ⟨rfl, rfl, rfl⟩)
      refine ⟨hR ⟨cells', ht.now, by simp only; rw [hlx, ht.csize]; exact hcs, fun q x' hx' => ?_⟩, ev, .v _⟩
      simp only at hx' ⊢
      by_cases c1 : q < i ∨ i + c ≤ q
      · have hx0 : b.xs[q]? = some x' := by
          rcases c1 with c1 | c1
          · rw [List.append_assoc, List.getElem?_append_left (by rw [List.length_take]; omega), List.getElem?_take, if_pos c1] at hx'; exact hx'
          · rw [List.getElem?_append_right (by simp; omega), List.getElem?_drop] at hx'
            rw [← hx']; congr 1; simp; omega
        obtain ⟨p1, p2⟩ := hall q x' hx0
        refine ⟨p1, fun j y hy => ?_⟩
        obtain ⟨u, q1, q2, q3⟩ := p2 j y hy
        have hjz : j < b.sz := by rw [← p1]; exact (List.getElem?_eq_some_iff.1 hy).1
        refine ⟨u, ?_, q2, q3.evol ev⟩
        rw [ht.keep _ ?_]
        · exact q1
        · rw [hnl]
          rcases c1 with c1 | c1
          · left
            have : q * b.sz + b.sz ≤ i * b.sz := by rw [← Nat.succ_mul]; exact Nat.mul_le_mul_right _ c1
            omega
          · right
            have : i * b.sz + c * b.sz ≤ q * b.sz := by rw [← Nat.add_mul]; exact Nat.mul_le_mul_right _ c1
            omega
      · have hx0 : ys[q - i]? = some x' := by
          rw [List.append_assoc, List.getElem?_append_right (by rw [List.length_take]; omega), List.length_take, Nat.min_eq_left (by omega), List.getElem?_append_left (by rw [List.length_take]; omega), List.getElem?_take, if_pos (by omega)] at hx'
          exact hx'
        obtain ⟨p1, p2⟩ := hE _ x' hx0
        refine ⟨p1, fun j y hy => ?_⟩
        obtain ⟨u, q1, q3⟩ := p2 j y hy
        have hjz : j < b.sz := by rw [← p1]; exact (List.getElem?_eq_some_iff.1 hy).1
        have e1 : q * b.sz = i * b.sz + (q - i) * b.sz := by rw [← Nat.add_mul]; congr 1; omega
        have e2 : (q - i) * b.sz + b.sz ≤ c * b.sz := by rw [← Nat.succ_mul]; exact Nat.mul_le_mul_right _ (by omega)
        refine ⟨u, ?_, hA.one u (List.mem_of_getElem? q1), q3.evol ev⟩
        rw [e1, Nat.add_assoc]
        exact hj _ u (by rw [List.getElem?_take, if_pos (by omega)]; exact q1)

/-! ### bytes and strings -/
def byteOf : List PV → Option UInt8
  | [.v (.int .u8 n)] => some (UInt8.ofNat n.toNat)
  | _ => none
def bytesOf : List (List PV) → Option (List UInt8)
  | [] => some []
  | x :: l => match byteOf x, bytesOf l with
    | some b, some r => some (b :: r)
    | _, _ => none
def bsStr (P : Program) (s : HS) (src dst : TypeId) (x : PV) : Option PV :=
  match P.underlying src, P.underlying dst with
  | some (.slice e), some .string => match P.underlying e, els s x with
    | some (.int .u8), some (1, ys) => (bytesOf ys).map fun l => .v (.string ⟨l.toArray⟩)
    | _, _ => none
  | _, _ => none
theorem bytesOf_get : ∀ (ys : List (List PV)) (l : List UInt8), bytesOf ys = some l → l.length = ys.length ∧ ∀ (i : Nat) (x : List PV), ys[i]? = some x → ∃ n, x = [.v (.int .u8 n)] ∧ l[i]? = some (UInt8.ofNat n.toNat)
  | [], l, h => by simp [bytesOf] at h; subst h; exact ⟨rfl, fun i x hi => by simp at hi⟩
  | x :: ys, l, h => by
    simp only [bytesOf] at h
    split at h
    case h_2 => cases h
    rename_i b r hb hr
    cases h
    obtain ⟨h1, h2⟩ := bytesOf_get ys r hr
    refine ⟨by simp [h1], fun i y hi => ?_⟩
    cases i with
    | zero =>
      simp at hi; subst hi
      unfold byteOf at hb
      split at hb
      · cases hb; exact ⟨_, rfl, rfl⟩
      · cases hb
    | succ i => exact h2 i y (by simpa using hi)

/-! ### what asks nothing of memory -/
def valOf (e : Operand → PV) (x : Operand) : Value := (e x).toV.getD undef
def quietD (P : Program) (e : Operand → PV) (o : Oper) : Option PV :=
  match o.op with
  | .select .. => none
  | _ => if o.op.operands.toList.all (fun x => (e x).toV.isSome) then match quiet P (execOp (valOf e) o) with
    | some (.value v) => some (PV.ofV v)
    | _ => none else none
theorem quietD_ok {P : Program} {c : Ctx} {w : World} {e : Operand → PV} {a : Act} {o : Oper} {x : PV} (h : quietD P e o = some x) (he : ∀ y, VR c (e y) (a.eval y)) :
    ∃ v, (execOp a.eval o).run P w = .ok (.value v) w ∧ VR c x v := by
  unfold quietD at h
  split at h
  · cases h
  rename_i hsel
  split at h
  case isFalse => cases h
  rename_i hall
  split at h
  case h_2 => cases h
  rename_i v hq
  cases h
  have hc : execOp a.eval o = execOp (valOf e) o := execOp_congr o (fun cs b hb => hsel cs b hb) fun y hy => by
    have := List.all_eq_true.1 hall y (by simpa using hy)
    obtain ⟨z, hz⟩ := Option.isSome_iff_exists.1 this
    rw [valOf, hz]
    exact VR.toV _ (he y) hz
  exact ⟨v, by rw [hc]; exact quiet_run _ w hq, VR.ofV c v⟩

/-! ### equality of what bears addresses -/
def eqD (P : Program) (t : TypeId) (x y : PV) : Option Bool :=
  match P.underlying t, x, y with
  | some (.slice _), .row .., .v (.slice none 0 0) => some false
  | some (.slice _), .list _ _ (_ :: _), .v (.slice none 0 0) => some false
  | some (.slice _), .v (.slice none 0 0), .row .. => some false
  | some (.slice _), .v (.slice none 0 0), .list _ _ (_ :: _) => some false
  | some (.interface _), .ifc .., .v .nilIface => some false
  | some (.interface _), .v .nilIface, .ifc .. => some false
  | some (.interface _), .ifc t1 _, .ifc t2 _ => if t1 = t2 then none else some false
  | some (.func ..), .clo .., .v .nilFunc => some false
  | some (.func ..), .v .nilFunc, .clo .. => some false
  | some (.pointer _), .ptr .., .v (.pointer none) => some false
  | some (.pointer _), .eptr .., .v (.pointer none) => some false
  | _, _, _ => none
theorem eqS {P : Program} {w : World} {t : TypeId} {u v : Value} {b : Bool} (h : ∀ d, (Op.equalIn (d + 1) t u v).run P w = .ok b w) : (Op.equal t u v).run P w = .ok b w := by
  have h1 : Op.maxDepth = 9999 + 1 := rfl
  unfold Op.equal
  rw [h1]
  exact h 9999
theorem eqD_ok {P : Program} {c : Ctx} {w : World} {t : TypeId} {x y : PV} {u v : Value} {b : Bool} (h : eqD P t x y = some b) (hx : VR c x u) (hy : VR c y v) :
    (Op.equal t u v).run P w = .ok b w ∧ (∀ (p q : Operand), (eqGuard .eql t p q u v).run P w = .ok () w ∧ (eqGuard .neq t p q u v).run P w = .ok () w) ∧ (binOp .eql t u v).run P w = .ok (.bool b) w ∧ (binOp .neq t u v).run P w = .ok (.bool (!b)) w := by
  have fin : ∀ {u v : Value} {b : Bool}, (Op.equal t u v).run P w = .ok b w → (∀ (p q : Operand), eqGuard .eql t p q u v = pure () ∧ eqGuard .neq t p q u v = pure ()) →
      (binOp .eql t u v = (do pure (.bool (← Op.equal t u v)))) → (binOp .neq t u v = (do pure (.bool (!(← Op.equal t u v))))) →
      (Op.equal t u v).run P w = .ok b w ∧ (∀ (p q : Operand), (eqGuard .eql t p q u v).run P w = .ok () w ∧ (eqGuard .neq t p q u v).run P w = .ok () w) ∧ (binOp .eql t u v).run P w = .ok (.bool b) w ∧ (binOp .neq t u v).run P w = .ok (.bool (!b)) w := by
    intro u v b h1 h2 h3 h4
    refine ⟨h1, fun p q => ⟨by rw [(h2 p q).1]; rfl, by rw [(h2 p q).2]; rfl⟩, by rw [h3]; simp [h1], by rw [h4]; simp [h1]⟩
  unfold eqD at h
  split at h
  case h_12 => cases h
  case h_7 =>
    rename_i ms t1 x1 t2 y1 hu
    split at h
    · cases h
    · rename_i hne
      cases h
      cases hx
      cases hy
      exact fin (eqS fun d => by simp [Op.equalIn, run_underlying hu, hne]) (fun p q => ⟨rfl, rfl⟩) rfl rfl
  all_goals
    rename_i hu
    cases h
    cases hx
    cases hy
    exact fin (eqS fun d => by simp [Op.equalIn, run_underlying hu]) (fun p q => ⟨rfl, rfl⟩) rfl rfl
end Go.Proofs.Ytfllhakmjookkaa.Den
