/- Texts joined by a program of mine (pack.py): DenL. -/
import Derived.Test.YtdbekeidlppfiaaGreatDoorDenJ
set_option linter.unusedVariables false
set_option linter.unusedSimpArgs false
namespace Go.Proofs.YtdbekeidlppfiaaGreatDoor.Den
open Go Go.RowKit
def maskOf (acc : List Nat) (o : Oper) : Nat := o.after.toList.foldl (fun s e => if Region.binds .any e then s ||| 2 ^ e.on ||| acc.getD e.on 0 else s) 0
def masks (ops : Array Oper) : Nat → List Nat
 | 0 => []
 | n + 1 => masks ops n ++ [match ops[n]? with | some o => maskOf (masks ops n) o | none => 0]
theorem masks_length (ops : Array Oper) : ∀ n, (masks ops n).length = n
 | 0 => rfl
 | n + 1 => by simp [masks, masks_length ops n]
theorem masks_get (ops : Array Oper) : ∀ (n i : Nat), i < n → (masks ops n).getD i 0 = match ops[i]? with | some o => maskOf (masks ops i) o | none => 0
 | 0, i, h => by omega
 | n + 1, i, h => by
  rw [masks, List.getD_eq_getElem?_getD]
  rcases Nat.lt_or_ge i n with hlt | hge
  ·rw [List.getElem?_append_left (by rw [masks_length]; exact hlt), ← List.getD_eq_getElem?_getD]
   exact masks_get ops n i hlt
  ·obtain rfl : i = n := by omega
   rw [List.getElem?_append_right (by rw [masks_length]; omega), masks_length, Nat.sub_self]
   rfl
theorem mask_bit (acc : List Nat) (o : Oper) {j : Nat} (h : (maskOf acc o).testBit j = true) : ∃ e ∈ o.after.toList, Region.binds .any e = true ∧ (e.on = j ∨ (acc.getD e.on 0).testBit j = true) := by
 unfold maskOf at h
 have key : ∀ (l : List Edge) (s : Nat), (l.foldl (fun s e => if Region.binds .any e then s ||| 2 ^ e.on ||| acc.getD e.on 0 else s) s).testBit j = true → s.testBit j = true ∨ ∃ e ∈ l, Region.binds .any e = true ∧ (e.on = j ∨ (acc.getD e.on 0).testBit j = true) := by
  intro l
  induction l with
  | nil => intro s h; exact .inl h
  | cons e l ih =>
   intro s h
   simp only [List.foldl_cons] at h
   rcases ih _ h with h1 | ⟨e', he', h1⟩
   ·split at h1
    ·rename_i hb
     simp only [Nat.testBit_or, Bool.or_eq_true, Nat.testBit_two_pow, decide_eq_true_eq] at h1
     rcases h1 with (h1 | h1) | h1
     ·exact .inl h1
     ·exact .inr ⟨e, by simp, hb, .inl h1⟩
     ·exact .inr ⟨e, by simp, hb, .inr h1⟩
    ·exact .inl h1
   ·exact .inr ⟨e', by simp [he'], h1⟩
 rcases key _ _ h with h1 | h1
 ·simp at h1
 ·exact h1
inductive Cls where
 | pure | read | new | call | eff
def isStr (P : Program) (t : TypeId) : Bool := match P.underlying t with | some .string => true | _ => false
def isSl (P : Program) (t : TypeId) : Bool := match P.underlying t with | some (.slice _) => true | _ => false
theorem isStr_iff {P : Program} {t : TypeId} (h : isStr P t = true) : P.underlying t = some .string := by
 unfold isStr at h; split at h <;> first | assumption | cases h
def cls (P : Program) (pf : FuncId → Bool) (o : Oper) : Cls :=
 match o.op with
 | .move _ | .assign _ | .pick .. | .build .. | .nilCheck _ | .field .. | .fieldAddr .. | .index .. | .extract .. | .makeInterface .. | .makeFunc .. | .typeAssert .. | .binOp .. | .unOp .. => .pure
 | .slice t _ _ _ _ => if isStr P t then .pure else .read
 | .convert t d _ => if isSl P t then .read else if toSl P t d then .new else .pure
 | .load .. | .indexAddr .. => .read
 | .alloc _ | .box .. | .buildSlice .. | .makeSlice .. => .new
 | .call c => match c.callee with
  | .builtin .len => .pure
  | .builtin .min => .pure
  | .builtin .max => .pure
  | .value (.func f) => if pf f then .call else .eff
  | _ => .eff
 | _ => .eff
def calm : Cls → Bool
 | .read | .new | .call => true
 | _ => false
def maker : Cls → Bool
 | .new | .call | .eff => true
 | _ => false
def isEff : Cls → Bool
 | .eff => true
 | _ => false
def compat : Cls → Cls → Bool
 | .pure, _ => true
 | _, .pure => true
 | .eff, .eff => false
 | .call, .call => false
 | _, _ => true
def pairOk (P : Program) (pf : FuncId → Bool) (ops : Array Oper) (j i : Nat) : Bool :=
 match ops[j]?, ops[i]? with
 | some a, some b => a.apart ops b && b.apart ops a && compat (cls P pf a) (cls P pf b)
 | _, _ => true
def drawOk (P : Program) (pf : FuncId → Bool) (ops : Array Oper) : Bool :=
 let ms := masks ops ops.size
 (List.range ops.size).all fun i => (match ops[i]? with
  | some o => o.after.toList.all (fun e => !Region.binds .any e || decide (e.on < i)) && (match o.op with | .select .. => false | _ => true)
  | none => true) && (List.range i).all fun j => !(ms.getD j 0).testBit i && ((ms.getD i 0).testBit j || pairOk P pf ops j i)
def open2 (ops : Array Oper) (j i : Nat) : Bool := !((masks ops ops.size).getD i 0).testBit j && !((masks ops ops.size).getD j 0).testBit i && j != i
def ownN (nm : Name) (n : Name) : Bool := nm.isSuffixOf n
theorem ownN_ne {i j : Nat} {p n : Name} (hi : ownN (i :: p) n = true) (hj : ownN (j :: p) n = true) : i = j := by
 simp only [ownN, List.isSuffixOf_iff_suffix] at hi hj
 obtain ⟨a, rfl⟩ := hi
 obtain ⟨b, hb⟩ := hj
 have e1 : (a ++ [i]) ++ p = (b ++ [j]) ++ p := by simpa using hb.symm
 have e2 := List.append_cancel_right e1
 have e3 := congrArg List.getLast? e2
 simpa using e3
structure Sees (nm : Name) (s t : HS) : Prop where
 own : ∀ n, ownN nm n = true → s.h n = t.h n
 live : ∀ n k b, s.h n = (k, some b) → t.h n = (k, some b)
theorem ownN_self (nm : Name) : ownN nm nm = true := by simp [ownN, List.isSuffixOf_iff_suffix]
section
variable {P : Program} {nm : Name} {s t : HS}
theorem ldD_mono (hs : Sees nm s t) {ty : TypeId} {p x : PV} (h : ldD P s ty p = some x) : ldD P t ty p = some x := by
 unfold ldD at h ⊢
 split at h
 case h_2 => cases h
 rename_i ag sz hA hz
 split at h
 ·rename_i n k i off
  try simp only
  split at h
  ·rename_i k' b hn
   rw [hs.live _ _ _ hn]; exact h
  ·cases h
 ·exact h
 ·cases h
theorem els_mono (hs : Sees nm s t) {x : PV} {r : Nat × List (List PV)} (h : els s x = some r) : els t x = some r := by
 unfold els at h ⊢
 split at h
 ·try simp only
  split at h
  ·rename_i k' b hn
   rw [hs.live _ _ _ hn]; exact h
  ·cases h
 ·exact h
 ·cases h
theorem idxA_mono (hs : Sees nm s t) {ty : TypeId} {x ix y : PV} (h : idxA P s ty x ix = some y) : idxA P t ty x ix = some y := by
 unfold idxA at h ⊢
 split at h
 ·try simp only
  split at h
  case h_2 => cases h
  try simp only
  split at h
  ·try simp only
   split at h
   ·rename_i k' b hn
    rw [hs.live _ _ _ hn]; exact h
   ·cases h
  ·exact h
  ·cases h
 ·exact h
 ·cases h
theorem slD_mono (hs : Sees nm s t) {ty : TypeId} {x y : PV} {lo hi mx : Option PV} (h : slD P s ty x lo hi mx = some y) : slD P t ty x lo hi mx = some y := by
 unfold slD at h ⊢
 split at h
 case h_2 => cases h
 try simp only
 split at h
 case h_2 => cases h
 simp only at h ⊢
 split at h
 ·try simp only
  split at h
  ·cases h
  ·try simp only
   split at h
   ·rename_i k' b hn
    rw [hs.live _ _ _ hn]; exact h
   ·cases h
 ·exact h
 ·cases h
theorem slD_none {ty : TypeId} {x : PV} {lo hi mx : Option PV} {z : Value} (hx : x.toV = some z) : slD P s ty x lo hi mx = none := by
 unfold slD
 split
 ·split
  ·cases x <;> simp [PV.toV] at hx <;> rfl
  ·rfl
 ·rfl
theorem bsStr_mono (hs : Sees nm s t) {src dst : TypeId} {x y : PV} (h : bsStr P s src dst x = some y) : bsStr P t src dst x = some y := by
 unfold bsStr at h ⊢
 split at h
 case h_2 => cases h
 try simp only
 split at h
 case h_2 => cases h
 rename_i ys he hys
 rw [els_mono hs hys]
 simp only [he]
 exact h
theorem bsStr_none {src dst : TypeId} {x : PV} {z : Value} (hx : x.toV = some z) : bsStr P s src dst x = none := by
 unfold bsStr
 split
 ·split
  ·rename_i h; cases x <;> simp [PV.toV] at hx <;> simp [els] at h
  ·rfl
 ·rfl
end
theorem quietD_vals {P : Program} {e : Operand → PV} {o : Oper} {x : PV} (h : quietD P e o = some x) : ∀ y ∈ o.op.operands, ∃ z, (e y).toV = some z := by
 unfold quietD at h
 split at h
 ·cases h
 split at h
 case isFalse => cases h
 rename_i hall
 intro y hy
 exact Option.isSome_iff_exists.1 (List.all_eq_true.1 hall y (by simpa using hy))
theorem map_some_pair {α β : Type} {x : Option α} {s : β} {r : α} {s1 : β} (h : x.map (·, s) = some (r, s1)) : x = some r ∧ s1 = s := by
 cases x with
 | none => simp at h
 | some y => simp at h; exact ⟨by rw [h.1], h.2.symm⟩
theorem opD_pure {P : Program} {pf : FuncId → Bool} {nm : Name} {s t : HS} {e : Operand → PV} {o : Oper} {r : PV} {s1 : HS} (hc : cls P pf o = .pure) (h : opD P [] nm s e o = some (r, s1)) : s1 = s ∧ opD P [] nm t e o = some (r, t) := by
  obtain ⟨dst, op, ty, pos, after, guard⟩ := o
  unfold opD at h ⊢
  unfold cls at hc
  cases op <;> simp only at hc h ⊢ <;> first | cases hc | skip
  case move x => cases h; exact ⟨rfl, rfl⟩
  case assign x => cases h; exact ⟨rfl, rfl⟩
  case pick c x y => split at h <;> first | (cases h; exact ⟨rfl, rfl⟩) | cases h
  case build => obtain ⟨h1, rfl⟩ := map_some_pair h; exact ⟨rfl, by rw [h1]; rfl⟩
  case nilCheck x => split at h <;> first | (cases h; exact ⟨rfl, rfl⟩) | cases h
  case field => obtain ⟨h1, rfl⟩ := map_some_pair h; exact ⟨rfl, by rw [h1]; rfl⟩
  case fieldAddr => obtain ⟨h1, rfl⟩ := map_some_pair h; exact ⟨rfl, by rw [h1]; rfl⟩
  case index =>
    split at h
    · cases h; exact ⟨rfl, rfl⟩
    · obtain ⟨h1, rfl⟩ := map_some_pair h; exact ⟨rfl, by rw [h1]; rfl⟩
  case extract x i =>
    split at h
    case h_2 => cases h
    split at h
    case h_2 => cases h
    cases h; exact ⟨rfl, rfl⟩
  case makeInterface => split at h <;> first | (rename_i hn; cases h; exact ⟨rfl, by rw [if_pos hn]⟩) | cases h
  case makeFunc fn fs cs =>
    cases fn <;> simp only at h ⊢
    case func f =>
      split at h
      · rename_i hn; cases h; exact ⟨rfl, by rw [if_pos hn]⟩
      · rename_i hn
        split at h
        · rename_i hn2; cases h; exact ⟨rfl, by rw [if_neg hn, if_pos hn2]⟩
        · cases h
    all_goals (obtain ⟨h1, rfl⟩ := map_some_pair h; exact ⟨rfl, by rw [h1]; rfl⟩)
  case slice ty x lo hi mx =>
    split at hc
    case isFalse => cases hc
    rename_i hs
    have hn : ∀ s, slD P s ty (e x) (lo.map e) (hi.map e) (mx.map e) = none := fun s => by unfold slD; rw [isStr_iff hs]
    simp only [hn] at h ⊢
    obtain ⟨h1, rfl⟩ := map_some_pair h; exact ⟨rfl, by rw [h1]; rfl⟩
  case convert src dst' x =>
    split at hc
    case isTrue => cases hc
    rename_i hs
    split at hc
    case isTrue => cases hc
    rename_i hts
    rw [if_neg hts] at h ⊢
    have hn : ∀ s, bsStr P s src dst' (e x) = none := fun s => by
      unfold bsStr
      split
      · rename_i hu _; exact absurd (by unfold isSl; rw [hu]) hs
      · rfl
    simp only [hn] at h ⊢
    obtain ⟨h1, rfl⟩ := map_some_pair h; exact ⟨rfl, by rw [h1]; rfl⟩
  case typeAssert =>
    split at h
    · cases h; exact ⟨rfl, rfl⟩
    · obtain ⟨h1, rfl⟩ := map_some_pair h; exact ⟨rfl, by rw [h1]; rfl⟩
  case binOp bop t x y yt =>
    cases bop <;> simp only at h ⊢ <;> first
      | (obtain ⟨h1, rfl⟩ := map_some_pair h; exact ⟨rfl, by rw [h1]; rfl⟩)
      | (split at h
         · cases h; exact ⟨rfl, rfl⟩
         · obtain ⟨h1, rfl⟩ := map_some_pair h; exact ⟨rfl, by rw [h1]; rfl⟩)
  case unOp => obtain ⟨h1, rfl⟩ := map_some_pair h; exact ⟨rfl, by rw [h1]; rfl⟩
  case call c =>
    obtain ⟨callee, args, ats⟩ := c
    simp only at hc
    unfold bD at h ⊢
    cases callee <;> simp only at hc h ⊢
    case builtin b =>
      cases b <;> simp only at hc h ⊢ <;> first | cases hc | skip
      case len =>
        split at h
        · split at h
          · cases h; exact ⟨rfl, rfl⟩
          · obtain ⟨h1, rfl⟩ := map_some_pair h; exact ⟨rfl, by rw [h1]; rfl⟩
        · cases h
      all_goals (obtain ⟨h1, rfl⟩ := map_some_pair h; exact ⟨rfl, by rw [h1]; rfl⟩)
    all_goals cases h
theorem opD_calm {P : Program} {pf : FuncId → Bool} {nm : Name} {s t : HS} {e : Operand → PV} {o : Oper} {r : PV} {s1 : HS} (hc : cls P pf o = .read ∨ cls P pf o = .new) (hs : Sees nm s t) (h : opD P [] nm s e o = some (r, s1)) :
  (cls P pf o = .read ∧ s1 = s ∧ opD P [] nm t e o = some (r, t)) ∨ (cls P pf o = .new ∧ ∃ b, s1 = newS s nm b ∧ opD P [] nm t e o = some (r, newS t nm b)) := by
 have hown := hs.own nm (ownN_self nm)
 obtain ⟨dst, op, ty, pos, after, guard⟩ := o
 unfold opD at h ⊢
 unfold cls at hc ⊢
 cases op <;> simp only at hc h ⊢ <;> first | (rcases hc with hc | hc <;> cases hc) | skip
 case load =>
  obtain ⟨h1, rfl⟩ := map_some_pair h
  exact .inl ⟨by first | rfl | trivial, rfl, by rw [ldD_mono hs h1]; rfl⟩
 case indexAddr =>
  obtain ⟨h1, rfl⟩ := map_some_pair h
  exact .inl ⟨by first | rfl | trivial, rfl, by rw [idxA_mono hs h1]; rfl⟩
 case slice x lo hi mx =>
  split at hc
  case isTrue => rcases hc with hc | hc <;> cases hc
  rename_i hns
  rw [if_neg hns]
  split at h
  ·rename_i y hy
   cases h
   exact .inl ⟨by first | rfl | trivial, rfl, by rw [slD_mono hs hy]⟩
  ·obtain ⟨h1, rfl⟩ := map_some_pair h
   obtain ⟨z, hz⟩ := quietD_vals h1 x (by simp [Op.operands])
   exact .inl ⟨by first | rfl | trivial, rfl, by rw [slD_none hz, h1]; rfl⟩
 case convert src dst' x =>
  by_cases hns : isSl P src = true
  ·rw [if_pos hns]
   have hts : toSl P src dst' = false := by
    unfold isSl at hns
    unfold toSl
    split at hns
    ·rename_i e he; rw [he]
    ·cases hns
   simp only [hts, Bool.false_eq_true, if_false] at h ⊢
   split at h
   ·rename_i y hy
    cases h
    exact .inl ⟨by first | rfl | trivial, rfl, by rw [bsStr_mono hs hy]⟩
   ·obtain ⟨h1, rfl⟩ := map_some_pair h
    obtain ⟨z, hz⟩ := quietD_vals h1 x (by simp [Op.operands])
    exact .inl ⟨by first | rfl | trivial, rfl, by rw [bsStr_none hz, h1]; rfl⟩
  ·rw [if_neg hns] at hc ⊢
   split at hc
   case isFalse => rcases hc with hc | hc <;> cases hc
   rename_i hts
   rw [if_pos hts]
   have hn : ∀ s, bsStr P s src dst' (e x) = none := fun s => by
    unfold bsStr
    split
    ·rename_i hu _; exact absurd (by unfold isSl; rw [hu]) hns
    ·rfl
   simp only [hn, hts, if_true] at h ⊢
   unfold sbD at h ⊢
   split at h
   case h_2 => cases h
   split at h
   case h_2 => cases h
   rename_i he2
   split at h
   case isFalse => cases h
   rename_i hle
   cases h
   refine .inr ⟨by first | rfl | trivial, _, rfl, ?_⟩
   simp only [he2, hle, if_true]
   rw [hown]
 case alloc E =>
  split at h
  case h_2 => cases h
  cases h
  exact .inr ⟨by first | rfl | trivial, _, rfl, by rw [hown]⟩
 case box E x =>
  split at h
  case h_2 => cases h
  cases h
  exact .inr ⟨by first | rfl | trivial, _, rfl, by rw [hown]⟩
 case buildSlice t' len ps =>
  unfold bsD at h ⊢
  split at h
  case h_2 => cases h
  try simp only
  split at h
  case h_2 => cases h
  try simp only
  split at h
  case isFalse => cases h
  rename_i hlen
  rw [if_pos hlen]
  split at h
  case h_2 => cases h
  cases h
  exact .inr ⟨by first | rfl | trivial, _, rfl, by rw [hown]⟩
 case makeSlice t' l c =>
  unfold mkD at h ⊢
  split at h
  case h_2 => cases h
  try simp only
  split at h
  case h_2 => cases h
  try simp only
  split at h
  case isFalse => cases h
  rename_i hlen
  rw [if_pos hlen]
  cases h
  exact .inr ⟨by first | rfl | trivial, _, rfl, by rw [hown]⟩
 case call c =>
  obtain ⟨callee, args, ats⟩ := c
  simp only at hc
  cases callee <;> (try simp only at hc)
  case builtin b => cases b <;> rcases hc with hc | hc <;> cases hc
  case value f => cases f <;> first | (rcases hc with hc | hc <;> cases hc; done) | (simp only at hc; split at hc <;> rcases hc with hc | hc <;> cases hc)
  case invoke => rcases hc with hc | hc <;> cases hc
theorem quietD_congr {P : Program} {e e' : Operand → PV} {o : Oper} (h : ∀ x ∈ o.op.operands, e x = e' x) : quietD P e o = quietD P e' o := by
 unfold quietD
 split
 ·rfl
 ·rename_i hsel
  have h1 : o.op.operands.toList.all (fun x => (e x).toV.isSome) = o.op.operands.toList.all (fun x => (e' x).toV.isSome) := by
   rw [Bool.eq_iff_iff, List.all_eq_true, List.all_eq_true]
   constructor <;> intro hh x hx
   ·rw [← h x (by simpa using hx)]; exact hh x hx
   ·rw [h x (by simpa using hx)]; exact hh x hx
  have h2 : execOp (valOf e) o = execOp (valOf e') o := execOp_congr o (fun cs b hb => hsel cs b hb) fun x hx => by unfold valOf; rw [h x hx]
  rw [h1, h2]
theorem opD_congr {P : Program} {prot nm : Name} {s : HS} {e e' : Operand → PV} {o : Oper} (h : ∀ x ∈ o.op.operands, e x = e' x) : opD P prot nm s e o = opD P prot nm s e' o := by
 have hq := quietD_congr (P := P) h
 have parts : ∀ ps : Array (Nat × Operand), (∀ x ∈ ps.toList.map (·.2), e x = e' x) → (ps.toList.map fun p => (p.1, e p.2)) = (ps.toList.map fun p => (p.1, e' p.2)) := fun ps hp =>
  List.map_congr_left fun p hm => by rw [hp p.2 (List.mem_map.2 ⟨p, hm, rfl⟩)]
 obtain ⟨dst, op, ty, pos, after, guard⟩ := o
 unfold opD
 cases op <;> simp only [Op.operands] at h <;> simp only [hq]
 case move x => rw [h x (by simp)]
 case assign x => rw [h x (by simp)]
 case pick c x y => rw [h c (by simp), h x (by simp), h y (by simp)]
 case box E x => rw [h x (by simp)]
 case build t ps => rw [parts ps fun x hx => h x (by simpa using hx)]
 case buildSlice t n ps => rw [parts ps fun x hx => h x (by simpa using hx)]
 case load t a => rw [h a (by simp)]
 case store t a x => rw [h a (by simp), h x (by simp)]
 case nilCheck x => rw [h x (by simp)]
 case field t x f => rw [h x (by simp)]
 case fieldAddr t x f => rw [h x (by simp)]
 case indexAddr t x i => rw [h x (by simp), h i (by simp)]
 case index t x i => rw [h x (by simp), h i (by simp)]
 case slice t x lo hi mx =>
  rw [h x (by simp)]
  have hl : lo.map e = lo.map e' := by cases lo <;> simp_all
  have hh : hi.map e = hi.map e' := by cases hi <;> simp_all
  have hm : mx.map e = mx.map e' := by cases mx <;> simp_all
  rw [hl, hh, hm]
 case makeSlice t l c => rw [h l (by simp), h c (by simp)]
 case extract x i => rw [h x (by simp)]
 case makeInterface t x => rw [h x (by simp)]
 case makeFunc fn fs cs =>
  cases fn <;> simp only []
  rw [List.map_congr_left (l := cs.toList) fun x hx => h x (by simp at hx ⊢; exact .inr hx), List.map_congr_left (l := fs.toList) fun x hx => h x (by simp at hx ⊢; exact .inl hx)]
 case convert s d x => rw [h x (by simp)]
 case typeAssert x t a ok => rw [h x (by simp)]
 case binOp op t x y yt => cases op <;> simp only [] <;> rw [h x (by simp), h y (by simp)]
 case call c =>
  obtain ⟨callee, args, ats⟩ := c
  unfold bD
  cases callee <;> simp only []
  rename_i b
  cases b <;> simp only [hq]
  case append =>
   split
   ·rename_i x y t t2 ha ht
    rw [h x (by simp [Call.operands, ← Array.mem_toList_iff, ha]), h y (by simp [Call.operands, ← Array.mem_toList_iff, ha])]
   ·rfl
  case copy =>
   split
   ·rename_i x y t t2 ha ht
    rw [h x (by simp [Call.operands, ← Array.mem_toList_iff, ha]), h y (by simp [Call.operands, ← Array.mem_toList_iff, ha])]
   ·rfl
  case len =>
   split
   ·rename_i x t ha ht
    rw [h x (by simp [Call.operands, ← Array.mem_toList_iff, ha])]
   ·rfl
theorem callOf_congr {P : Program} {e e' : Operand → PV} {o : Oper} (h : ∀ x ∈ o.op.operands, e x = e' x) : callOf P e o = callOf P e' o := by
 unfold callOf
 split
 ·rename_i c hop
  rw [hop] at h
  split
  ·rename_i f hf
   rw [h f (by simp [Op.operands, Call.operands, hf]), List.map_congr_left (l := c.args.toList) fun x hx => h x (by simp only [Op.operands, Call.operands]; simp at hx ⊢; exact .inr hx)]
  ·rename_i f name hf
   rw [h f (by simp [Op.operands, Call.operands, hf]), List.map_congr_left (l := c.args.toList) fun x hx => h x (by simp only [Op.operands, Call.operands]; simp at hx ⊢; exact .inr hx)]
  ·rfl
 ·rfl
end Go.Proofs.YtdbekeidlppfiaaGreatDoor.Den
