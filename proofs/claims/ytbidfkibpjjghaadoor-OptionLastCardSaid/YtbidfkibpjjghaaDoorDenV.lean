/- Small laws that printed proofs lean on. -/
import Derived.Test.YtbidfkibpjjghaaDoorDenS
set_option linter.unusedVariables false
set_option linter.unusedSimpArgs false
namespace Go.Proofs.YtbidfkibpjjghaaDoor.Den
open Go Go.RowKit

/-! ### plain texts -/
abbrev pI (n : Int) : PV := .v (.int .i64 n)
abbrev pB (b : Bool) : PV := .v (.bool b)
abbrev pS (s : ByteArray) : PV := .v (.string s)
/-- a text by its bytes -/
abbrev bs (l : List UInt8) : ByteArray := ⟨⟨l⟩⟩
def cI (n : Int) : List PV := [pI n]
def cK (k : IntKind) (n : Int) : List PV := [.v (.int k n)]
def cB (b : Bool) : List PV := [pB b]
def cS (s : ByteArray) : List PV := [pS s]
def cL {α : Type} (sz : Nat) (c : α → List PV) (l : List α) : List PV := [.list sz false (l.map c)]
/-- bits of whole numbers -/
def bits (o : BinOp) (k : IntKind) (x y : Int) : Int :=
  let a := BitVec.ofInt k.bits x
  let b := BitVec.ofInt k.bits y
  k.wrap (match o with | .and => (a &&& b).toNat | .or => (a ||| b).toNat | .xor => (a ^^^ b).toNat | _ => (a &&& ~~~b).toNat)
def grd {α : Type} (p : Prop) [Decidable p] (x : Option α) : Option α := if p then x else none
theorem grd_some {α : Type} {p : Prop} [Decidable p] {x : Option α} {r : α} (h : grd p x = some r) : p ∧ x = some r := by
  unfold grd at h
  split at h
  · rename_i hp; exact ⟨hp, h⟩
  · cases h
theorem bnd_some {α β : Type} {x : Option α} {f : α → Option β} {r : β} (h : x.bind f = some r) : ∃ a, x = some a ∧ f a = some r := by
  cases x with
  | none => cases h
  | some a => exact ⟨a, rfl, h⟩
theorem bif_some {α : Type} {c : Bool} {a b : Option α} {r : α} (h : (bif c then a else b) = some r) : (c = true ∧ a = some r) ∨ (c = false ∧ b = some r) := by
  cases c with
  | true => exact .inl ⟨rfl, h⟩
  | false => exact .inr ⟨rfl, h⟩
/-- An element. -/
def gt {α : Type} (l : List α) (i : Int) : Option α := if 0 ≤ i then l[i.toNat]? else none
theorem gt_some {α : Type} {l : List α} {i : Int} {y : α} (h : gt l i = some y) : 0 ≤ i ∧ l[i.toNat]? = some y := by
  unfold gt at h
  split at h
  · rename_i hp; exact ⟨hp, h⟩
  · cases h
theorem gt_lt {α : Type} {l : List α} {i : Int} {y : α} (h : gt l i = some y) : 0 ≤ i ∧ i < (l.length : Int) := by
  obtain ⟨h1, h2⟩ := gt_some h
  have := (List.getElem?_eq_some_iff.1 h2).1
  exact ⟨h1, by omega⟩
/-- wrap-round of int -/
abbrev w64 (n : Int) : Int := IntKind.i64.wrap n
theorem wrap_i64 {a : Int} (h1 : -9223372036854775808 ≤ a) (h2 : a ≤ 9223372036854775807) : IntKind.i64.wrap a = a := by
  have e1 : (2 : Int) ^ 64 = 18446744073709551616 := by decide
  have e2 : (2 : Int) ^ (64 - 1) = 9223372036854775808 := by decide
  simp only [IntKind.wrap, IntKind.bits, IntKind.signed, e1, e2, Bool.true_and, decide_eq_true_eq]
  split <;> omega
/-- There is room for so many elements. -/
def room (n b : Nat) : Prop := n ≤ 140737488355328 ∧ n * b ≤ 140737488355328
instance (n b : Nat) : Decidable (room n b) := by unfold room; infer_instance
theorem room_lo {n b : Nat} (h : n ≤ 1000000) (hb : b ≤ 1000) : room n b := ⟨by omega, Nat.le_trans (Nat.mul_le_mul h hb) (by omega)⟩

/-! ### what obligations are -/
theorem cg {a b : Bool} (h : a = b) : PV.v (.bool a) = PV.v (.bool b) := by rw [h]
theorem gt_list {α : Type} {c : α → List PV} {l : List α} {i : Int} {y : α} (h : gt l i = some y) : 0 ≤ i ∧ (l.map c)[i.toNat]? = some (c y) := by
  obtain ⟨h1, h2⟩ := gt_some h
  exact ⟨h1, by rw [List.getElem?_map, h2]; rfl⟩
theorem gt_raw {α : Type} {c : α → List PV} {l : List α} {xs : List (List PV)} {i : Int} {y : α} (h : gt l i = some y) (hx : xs = l.map c) : 0 ≤ i ∧ xs[i.toNat]? = some (c y) := by rw [hx]; exact gt_list h
theorem gt_row {α : Type} {n : Nat} {l : List α} {i : Int} {y : α} (h : gt l i = some y) (hn : n = l.length) : 0 ≤ i ∧ i < (n : Int) := hn ▸ gt_lt h
theorem gt_load {α : Type} {c : α → List PV} {l : List α} {xs : List (List PV)} {i : Int} {y : α} (h : gt l i = some y) (hx : xs = l.map c) : xs[0 + i.toNat]? = some (c y) := by
  rw [hx, Nat.zero_add]; exact (gt_list h).2
theorem gt_store {α : Type} {c : α → List PV} {l : List α} {xs : List (List PV)} {i : Int} {y : α} (h : gt l i = some y) (hx : xs = l.map c) : 0 ≤ 0 + i.toNat ∧ xs[0 + i.toNat]? = some (c y) := ⟨Nat.zero_le _, gt_load h hx⟩
theorem enc_len {α : Type} {c : α → List PV} {l : List α} {xs : List (List PV)} (hx : xs = l.map c) : xs.length = l.length := by rw [hx]; simp
theorem enc_app {α : Type} {c : α → List PV} {l : List α} {xs : List (List PV)} (hx : xs = l.map c) (v : α) : xs ++ [c v] = (l ++ [v]).map c := by rw [hx]; simp
theorem enc_cat {α : Type} {c : α → List PV} {l m : List α} {xs ys : List (List PV)} (hx : xs = l.map c) (hy : ys = m.map c) : xs ++ ys = (l ++ m).map c := by rw [hx, hy]; simp
theorem enc_set {α : Type} {c : α → List PV} {l : List α} {xs : List (List PV)} (hx : xs = l.map c) (i : Nat) (v : α) : xs.set (0 + i) (c v) = (l.set i v).map c := by rw [hx, Nat.zero_add, List.map_set]
theorem enc_sub {α : Type} {c : α → List PV} {l : List α} {xs : List (List PV)} (hx : xs = l.map c) (a n : Nat) : (xs.drop a).take n = ((l.drop a).take n).map c := by rw [hx, List.map_take, List.map_drop]
theorem app_ok {α : Type} {c : α → List PV} {l : List α} {xs : List (List PV)} {n k b : Nat} (hx : xs = l.map c) (hn : n = l.length) (h : room (l.length + k) b) : n = xs.length ∧ n + k ≤ 140737488355328 ∧ (n + k) * b ≤ 140737488355328 := by
  subst hn
  exact ⟨(enc_len hx).symm, h.1, h.2⟩
theorem row_ok {α : Type} {c : α → List PV} {l : List α} {xs : List (List PV)} {n : Nat} (hx : xs = l.map c) (hn : n = l.length) : (0 : Nat) = 0 ∧ n = xs.length := ⟨rfl, hn.trans (enc_len hx).symm⟩
theorem len_ob {α : Type} {c : α → List PV} {l : List α} {xs : List (List PV)} (hx : xs = l.map c) : PV.v (.int .i64 ((xs.length : Nat) : Int)) = pI (l.length : Int) := by rw [enc_len hx]
theorem app_new {α : Type} {c : α → List PV} {l : List α} {xs : List (List PV)} {n b : Nat} (hx : xs = l.map c) (hn : n = l.length) (h : room l.length b) : xs.length ≤ 140737488355328 ∧ xs.length * b ≤ 140737488355328 := by rw [enc_len hx]; exact h
theorem app_new0 {α : Type} {c : α → List PV} {l : List α} {xs : List (List PV)} {n b : Nat} (hx : xs = l.map c) (hn : n = l.length) (h : room l.length b) : 0 + xs.length ≤ 140737488355328 ∧ (0 + xs.length) * b ≤ 140737488355328 := by rw [Nat.zero_add]; exact app_new hx hn h
theorem app_ok2 {α : Type} {c : α → List PV} {l m : List α} {xs ys : List (List PV)} {n b : Nat} (hx : xs = l.map c) (hn : n = l.length) (hy : ys = m.map c) (h : room (l.length + m.length) b) : n = xs.length ∧ n + ys.length ≤ 140737488355328 ∧ (n + ys.length) * b ≤ 140737488355328 := by
  rw [enc_len hy]
  exact app_ok hx hn h
theorem len_cat {α : Type} {n k : Nat} {m : List α} {l : List α} (hn : n = l.length) (l' : List α) (hl : k = m.length) : n + k = (l ++ m).length := by simp [hn, hl]
theorem enc_rep {α : Type} {c : α → List PV} (n : Nat) (v : α) : List.replicate n (c v) = (List.replicate n v).map c := by simp
theorem enc_drop {α : Type} {c : α → List PV} {l : List α} {xs : List (List PV)} (hx : xs = l.map c) (a : Nat) : (xs.drop a).take (xs.length - a) = (l.drop a).map c := by
  rw [hx, List.take_of_length_le (by simp), List.map_drop]
theorem sub_ok2 {α : Type} {c : α → List PV} {l : List α} {a h : Int} (q : 0 ≤ a ∧ a ≤ h ∧ h ≤ (l.length : Int)) : SubOk (l.map c).length (some a) (some h) := by
  unfold SubOk; simpa using q
theorem sub_ok3 {α : Type} {c : α → List PV} {l : List α} {a h m : Int} (q : 0 ≤ a ∧ a ≤ h ∧ h ≤ (l.length : Int) ∧ m = h) : SubOk (l.map c).length (some a) (some h) ∧ m = h := ⟨sub_ok2 ⟨q.1, q.2.1, q.2.2.1⟩, q.2.2.2⟩
theorem sub_ok1 {α : Type} {c : α → List PV} {l : List α} {a : Int} (q : 0 ≤ a ∧ a ≤ (l.length : Int) ∧ (l.length : Int) ≤ (l.length : Int)) : SubOk (l.map c).length (some a) none := by
  unfold SubOk; simpa using q
theorem len_set {α : Type} {l : List α} {n : Nat} (hn : n = l.length) (i : Nat) (v : α) : n = (l.set i v).length := by simp [hn]
theorem len_app {α : Type} {l : List α} {n : Nat} (hn : n = l.length) (v : α) : n + 1 = (l ++ [v]).length := by simp [hn]

theorem rem_raw {P : Program} {e : Operand → PV} {o : Oper} {t yt : TypeId} {x y : Operand} {a b : Int} {nm : Name} {s : HS} (ho : o.op = .binOp .rem t x y yt) (hx : e x = pI a) (hy : e y = pI b) (hb : b ≠ 0) : opD P [] nm s e o = some (pI (Int.tmod a b), s) := by
  have hq : quietD P e o = some (pI (Int.tmod a b)) := by
    unfold quietD
    rw [ho]
    simp only
    rw [if_pos (by simp [Op.operands, hx, hy, PV.toV])]
    have e1 : valOf e x = .int .i64 a := by unfold valOf; rw [hx]; rfl
    have e2 : valOf e y = .int .i64 b := by unfold valOf; rw [hy]; rfl
    have h : quiet P (execOp (valOf e) o) = some (.value (.int .i64 (Int.tmod a b))) := by
      unfold execOp
      rw [ho]
      simp only [e1, e2]
      have h3 : Op.intDiv .rem .i64 a b = pure (.int .i64 (Int.tmod a b)) := by unfold Op.intDiv; rw [if_neg hb]
      have h4 : binOp .rem t (.int .i64 a) (.int .i64 b) = pure (.int .i64 (Int.tmod a b)) := by rw [← h3]; rfl
      simp only [h4]
      rfl
    rw [h]; rfl
  unfold opD
  rw [ho]
  simp only [hq]
  rfl

end Go.Proofs.YtbidfkibpjjghaaDoor.Den
