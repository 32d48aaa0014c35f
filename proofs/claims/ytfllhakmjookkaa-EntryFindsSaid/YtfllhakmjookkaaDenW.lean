/- A plain reading of Go's text: lists of entries, and what the contracts over them tell. -/
import Derived.Test.YtfllhakmjookkaaDenQ
import Derived.Test.YtfllhakmjookkaaEntryM
set_option linter.unusedVariables false
set_option linter.unusedSimpArgs false
namespace Go.Proofs.Ytfllhakmjookkaa.Den
open Go Go.RowKit

def entP (y : Ent) : List PV := [.v (.string y.name), .v (.int .i64 y.ino)]
def entsP (l : List Ent) : List (List PV) := l.map entP
def decE : List (List PV) → Option (List Ent)
  | [] => some []
  | [.v (.string n), .v (.int .i64 k)] :: l => match decE l with
    | some r => some (⟨n, k⟩ :: r)
    | none => none
  | _ => none
theorem decE_entsP : ∀ l, decE (entsP l) = some l
  | [] => rfl
  | y :: l => by
    have := decE_entsP l
    show (match decE (entsP l) with | some r => some ((⟨y.name, y.ino⟩ : Ent) :: r) | none => none) = _
    rw [this]
theorem decE_is : ∀ {xs : List (List PV)} {l : List Ent}, decE xs = some l → xs = entsP l
  | xs, l, h => by
    unfold decE at h
    split at h
    · cases h; rfl
    · rename_i n k r
      split at h
      · rename_i r' hr
        cases h
        rw [decE_is hr]; rfl
      · cases h
    · cases h
def okE (l : List Ent) : Bool := l.all fun y => decide (y.name.size ≤ maxLen)
theorem okE_iff {l : List Ent} : okE l = true ↔ ∀ y ∈ l, y.name.size ≤ maxLen := by simp [okE]
theorem entsP_closed (l : List Ent) : closedLL (entsP l) = true := by
  rw [closedLL_iff]
  intro x hx y hy
  obtain ⟨e, _, rfl⟩ := List.mem_map.1 hx
  simp [entP] at hy
  rcases hy with rfl | rfl <;> rfl
theorem entsP_take (l : List Ent) {i : Nat} (hi : i < l.length) : entsP (l.take (i + 1)) = entsP (l.take i) ++ [entP l[i]] := by
  unfold entsP
  rw [List.take_succ_eq_append_getElem hi, List.map_append]; rfl
theorem entsP_len (l : List Ent) : (entsP l).length = l.length := by simp [entsP]
theorem entsP_get (l : List Ent) {i : Nat} (hi : i < l.length) : (entsP l)[i]? = some (entP l[i]) := by
  unfold entsP; rw [List.getElem?_map, List.getElem?_eq_getElem hi]; rfl

def cellsE (l : List Ent) : List Value := l.flatMap fun y => [.string y.name, .int .i64 y.ino]
theorem cellsE_reps {S : Nat → Prop} {w : World} : ∀ (l : List Ent), (∀ y ∈ l, y.name.size ≤ maxLen) → Reps (entK.At S w) 2 l (cellsE l)
  | [], _ => Reps.nil _ _
  | y :: l, h => by
    have h1 : Reps (entK.At S w) 2 [y] [.string y.name, .int .i64 y.ino] := Reps.one (R := entK.At S w) ⟨rfl, h y (by simp)⟩ rfl
    exact h1.append (cellsE_reps l fun z hz => h z (List.mem_cons_of_mem _ hz))
theorem cellsE_cell : ∀ (l : List Ent) (j : Nat) (u : Value), (cellsE l)[j]? = some u → ∃ y, l[j / 2]? = some y ∧ u = if j % 2 = 0 then .string y.name else .int .i64 y.ino
  | [], j, u, h => by simp [cellsE] at h
  | y :: l, j, u, h => by
    have he : cellsE (y :: l) = .string y.name :: .int .i64 y.ino :: cellsE l := rfl
    rw [he] at h
    match j, h with
    | 0, h => exact ⟨y, rfl, by simpa using h.symm⟩
    | 1, h => exact ⟨y, rfl, by simpa using h.symm⟩
    | j + 2, h =>
      obtain ⟨z, h1, h2⟩ := cellsE_cell l j u (by simpa using h)
      exact ⟨z, by rw [show (j + 2) / 2 = j / 2 + 1 by omega]; exact h1, by rw [show (j + 2) % 2 = j % 2 by omega]; exact h2⟩
/-- What stands for a list of entries reads as one. -/
theorem sl_of_vr {c : Ctx} {full : Bool} {l : List Ent} {u : Value} (h : VR c (.list 2 full (entsP l)) u) (hS : ∀ g o, c.S g o → g < c.w.heap.size) (hsz : ∀ y ∈ l, y.name.size ≤ maxLen) : entK.Sl (Old c.w) c.w u l := by
  generalize hx : entsP l = xs at h
  cases h with
  | lnil =>
    have : l = [] := by cases l with | nil => rfl | cons y l => cases hx
    subst this
    exact Sl.nil _ _ _
  | list _ _ _ g off cap us hc hm hf hl ho hxx hw =>
    subst hx
    have hn := entsP_len l
    rw [hn] at hc hw ⊢
    refine ⟨some ⟨g, off, none⟩, cap, cellsE l, rfl, hc, hm, cellsE_reps l hsz, (fun h => by cases h), fun ad had => ?_⟩
    cases had
    refine ⟨g, off, rfl, fun hp => hS g _ (hw 0 0 hp (by omega)).1, fun j u hu => ?_⟩
    obtain ⟨y, hy, hu'⟩ := cellsE_cell l j u hu
    obtain ⟨hj, rfl⟩ := List.getElem?_eq_some_iff.1 hy
    have hg := entsP_get l hj
    have h1 := hw (j / 2) (j % 2) hj (by omega)
    have e1 : j / 2 * 2 + j % 2 = j := by omega
    rw [e1] at h1
    rw [h1.2]
    congr 1
    rcases Nat.mod_two_eq_zero_or_one j with h0 | h0
    · have := hxx (j / 2) 0 _ (.v (.string l[j/2].name)) hg rfl
      rw [h0]; rw [h0, if_pos rfl] at hu'
      rw [hu']; generalize us (j / 2) 0 = q at this; cases this; rfl
    · have := hxx (j / 2) 1 _ (.v (.int .i64 l[j/2].ino)) hg rfl
      rw [h0]; rw [h0, if_neg (by decide)] at hu'
      rw [hu']; generalize us (j / 2) 1 = q at this; cases this; rfl
/-- What reads as a list of entries stands for one. -/
theorem vr_of_sl {c : Ctx} {S : Nat → Prop} {l : List Ent} {u : Value} (h : entK.Sl S c.w u l) (hS : ∀ g, S g → u.ownBlock = some g → ∀ o, c.S g o) : VR c (.list 2 false (entsP l)) u := by
  cases l with
  | nil =>
    obtain ⟨a, cap, cells, rfl, h2, h3, h4, h5, h6⟩ := h
    cases a with
    | none => rw [h5 rfl]; exact .lnil _ _
    | some ad =>
      obtain ⟨g, off, rfl, _, _⟩ := h6 ad rfl
      exact .list 2 false [] g off cap (fun _ _ => undef) (by simp) h3 (by simp) (by simp) (by simp) (by simp) (by simp)
  | cons y0 l0 =>
    obtain ⟨g, off, cap, rfl, h1, h2, h3, h4, h5⟩ := ent_at h (i := 0) rfl
    generalize hl : y0 :: l0 = l at h h1 ⊢
    have hn := entsP_len l
    have := VR.list (c := c) 2 false (entsP l) g off cap (fun i j => match l[i]? with | some y => if j = 0 then .string y.name else .int .i64 y.ino | none => undef) (by rw [hn]; exact h1) h2 (by simp)
      (fun i x hx => by
        have hi := (List.getElem?_eq_some_iff.1 hx).1
        rw [hn] at hi
        rw [entsP_get l hi] at hx; cases hx; rfl)
      (fun i j hi hj => by
        rw [hn] at hi
        simp only [List.getElem?_eq_getElem hi]
        split <;> rfl)
      (fun i j x z hx hz => by
        have hi := (List.getElem?_eq_some_iff.1 hx).1
        rw [hn] at hi
        rw [entsP_get l hi] at hx; cases hx
        simp only [List.getElem?_eq_getElem hi]
        match j, hz with
        | 0, hz => simp [entP] at hz; subst hz; exact .v _
        | 1, hz => simp [entP] at hz; subst hz; exact .v _)
      (fun i j hi hj => by
        rw [hn] at hi
        refine ⟨hS g h3.1 rfl _, ?_⟩
        obtain ⟨g', off', cap', he, _, _, _, e4, e5⟩ := ent_at h (List.getElem?_eq_getElem hi)
        cases he
        simp only [List.getElem?_eq_getElem hi]
        match j, hj with
        | 0, _ => exact e4
        | 1, _ => exact e5)
    rw [hn] at this; exact this
theorem vr_made {c : Ctx} {w' : World} {e : TypeId} {l : List Ent} {r : Value} (h : entK.Own e c.w.heap.size w' r l) : VR (outC c w' []) (.list 2 false (entsP l)) r :=
  vr_of_sl (c := outC c w' []) (Own.sl h) fun g _ hg o => .inr ⟨(Own.row h g hg).1, (Own.row h g hg).2, by simp⟩

/-! ### lists of texts -/
def strsP (l : List ByteArray) : List (List PV) := l.map fun x => [.v (.string x)]
theorem strsP_len (l : List ByteArray) : (strsP l).length = l.length := by simp [strsP]
theorem strsP_get (l : List ByteArray) {i : Nat} (hi : i < l.length) : (strsP l)[i]? = some [.v (.string l[i])] := by
  unfold strsP; rw [List.getElem?_map, List.getElem?_eq_getElem hi]; rfl
theorem strsP_closed (l : List ByteArray) : closedLL (strsP l) = true := by
  rw [closedLL_iff]
  intro x hx y hy
  obtain ⟨e, _, rfl⟩ := List.mem_map.1 hx
  simp at hy
  subst hy; rfl
theorem str_at {S : Nat → Prop} {w : World} {v : Value} {xs : List ByteArray} (h : strK.Sl S w v xs) {i : Nat} {x : ByteArray} (hx : xs[i]? = some x) :
    ∃ g off cap, v = .slice (some ⟨g, off, none⟩) xs.length cap ∧ xs.length ≤ cap ∧ cap ≤ 9223372036854775807 ∧ S g ∧ w.cell? ⟨g, off + i, none⟩ = some (.string x) := by
  obtain ⟨g, off, cap, cs, rfl, h1, h2, h3, h5, h4⟩ := Sl.get h hx
  have h5 : cs = [.string x] := h5
  subst h5
  have := h4 0 _ rfl
  exact ⟨g, off, cap, rfl, h1, h2, h3, by simpa [strK, scalar] using this⟩
theorem vr_of_slS {c : Ctx} {S : Nat → Prop} {l : List ByteArray} {u : Value} (h : strK.Sl S c.w u l) (hS : ∀ g, S g → u.ownBlock = some g → ∀ o, c.S g o) : VR c (.list 1 false (strsP l)) u := by
  cases l with
  | nil =>
    obtain ⟨a, cap, cells, rfl, h2, h3, h4, h5, h6⟩ := h
    cases a with
    | none => rw [h5 rfl]; exact .lnil _ _
    | some ad =>
      obtain ⟨g, off, rfl, _, _⟩ := h6 ad rfl
      exact .list 1 false [] g off cap (fun _ _ => undef) (by simp) h3 (by simp) (by simp) (by simp) (by simp) (by simp)
  | cons y0 l0 =>
    obtain ⟨g, off, cap, rfl, h1, h2, h3, h4⟩ := str_at h (i := 0) rfl
    generalize hl : y0 :: l0 = l at h h1 ⊢
    have hn := strsP_len l
    have := VR.list (c := c) 1 false (strsP l) g off cap (fun i j => match l[i]? with | some y => .string y | none => undef) (by rw [hn]; exact h1) h2 (by simp)
      (fun i x hx => by
        have hi := (List.getElem?_eq_some_iff.1 hx).1
        rw [hn] at hi
        rw [strsP_get l hi] at hx; cases hx; rfl)
      (fun i j hi hj => by
        rw [hn] at hi
        simp only [List.getElem?_eq_getElem hi]
        rfl)
      (fun i j x z hx hz => by
        have hi := (List.getElem?_eq_some_iff.1 hx).1
        rw [hn] at hi
        rw [strsP_get l hi] at hx; cases hx
        simp only [List.getElem?_eq_getElem hi]
        match j, hz with
        | 0, hz => simp at hz; subst hz; exact .v _)
      (fun i j hi hj => by
        rw [hn] at hi
        refine ⟨hS g h3 rfl _, ?_⟩
        obtain ⟨g', off', cap', he, _, _, _, e4⟩ := str_at h (List.getElem?_eq_getElem hi)
        cases he
        simp only [List.getElem?_eq_getElem hi]
        obtain rfl : j = 0 := by omega
        simpa using e4)
    rw [hn] at this; exact this

/-! ### the table of contracts -/
abbrev Ans := List PV → Option PV
def xShown : Ans := fun l => match l with
  | [] => some (.v (.bool true))
  | _ => none
def xFine : Ans := fun l => match l with
  | [.list 2 _ xs] => match decE xs with
    | some l => if okE l then some (.v (.bool (fineE l))) else none
    | none => none
  | _ => none
def xLegal : Ans := fun l => match l with
  | [.v (.string n)] => if n.size ≤ maxLen then some (.v (.int .i64 (legalE n))) else none
  | _ => none
def xSame : Ans := fun l => match l with
  | [.list 2 _ xs, .list 2 _ ys] => match decE xs, decE ys with
    | some l, some m => if okE l && okE m && decide (l.length ≤ 1000) then some (.v (.bool (sameE l m))) else none
    | _, _ => none
  | _ => none
def xPut : Ans := fun l => match l with
  | [.list 2 _ xs, .agg [.v (.string n), .v (.int .i64 k)]] => match decE xs with
    | some l => if okE l && decide (n.size ≤ maxLen) && decide (l.length ≤ 1000) && sortedE l then some (.list 2 false (entsP (putE l ⟨n, k⟩))) else none
    | none => none
  | _ => none
def xFind : Ans := fun l => match l with
  | [.list 2 _ xs, .v (.string n)] => match decE xs with
    | some l => if okE l && decide (l.length ≤ 1000) && sortedE l then some (.tup [.v (.int .i64 (findE l n).1), .v (.bool (findE l n).2)]) else none
    | none => none
  | _ => none

def xNames : Ans := fun l => match l with
  | [.list 2 _ xs] => match decE xs with
    | some l => if okE l && decide (l.length ≤ 1000) then some (.list 1 false (strsP (l.map Ent.name))) else none
    | none => none
  | _ => none
theorem out_v {P : Program} {f : FuncId} {vs : Array Value} {c : Ctx} {r : PV} {v : Value} (hv : ∀ c, VR c r v) (hr : closedB r = true) (h : Calls P f vs c.w fun e w' => e = .returned v ∧ Below c.w.heap.size c.w w') :
    Calls P f vs c.w fun e w' => ∃ v gs, e = .returned v ∧ Below c.w.heap.size c.w w' ∧ RV2 (outC c w' gs) r v gs ∧ gs.Nodup ∧ ∀ g ∈ gs, c.w.heap.size ≤ g ∧ g < w'.heap.size :=
  h.mono fun e w' ⟨he, hb⟩ => ⟨v, [], he, hb, .inl (.inl (.inl ⟨hr, hv _, rfl⟩)), List.nodup_nil, by simp⟩
theorem out_made {P : Program} {f : FuncId} {vs : Array Value} {c : Ctx} {t : TypeId} {l : List Ent} (h : Calls P f vs c.w (Made entK t c.w l)) :
    Calls P f vs c.w fun e w' => ∃ v gs, e = .returned v ∧ Below c.w.heap.size c.w w' ∧ RV2 (outC c w' gs) (.list 2 false (entsP l)) v gs ∧ gs.Nodup ∧ ∀ g ∈ gs, c.w.heap.size ≤ g ∧ g < w'.heap.size :=
  h.mono fun e w' ⟨r, he, ho, hb⟩ => ⟨r, [], he, hb, .inl (.inl (.inl ⟨by simpa [closedB] using entsP_closed l, vr_made ho, rfl⟩)), List.nodup_nil, by simp⟩
theorem v_inv {c : Ctx} {x u : Value} (h : VR c (.v x) u) : u = x := by cases h; rfl
theorem args1 {vs : Array Value} {x : PV} (h : vs.size = [x].length) : ∃ u, vs = #[u] := by
  obtain ⟨l⟩ := vs
  match l, h with
  | [u], _ => exact ⟨u, rfl⟩
theorem args2 {vs : Array Value} {x y : PV} (h : vs.size = [x, y].length) : ∃ u v, vs = #[u, v] := by
  obtain ⟨l⟩ := vs
  match l, h with
  | [u, v], _ => exact ⟨u, v, rfl⟩
theorem agg2 {c : Ctx} {x y : Value} {u : Value} (h : VR c (.agg [.v x, .v y]) u) : u = .agg #[x, y] :=
  VR.toV (.agg [.v x, .v y]) h rfl
theorem xShown_ok (G : Glo) : PlainOk Try.prog G 31 xShown := by
  intro cargs r h c vs hcl hl ha hg hS
  unfold xShown at h
  split at h
  case h_2 => cases h
  cases h
  have : vs = #[] := by obtain ⟨l⟩ := vs; cases l with | nil => rfl | cons _ _ => simp at hl
  subst this
  exact out_v (fun c => .v _) rfl (shown_any c.w)
theorem xFine_ok (G : Glo) : PlainOk Try.prog G 37 xFine := by
  intro cargs r h c vs hcl hl ha hg hS
  unfold xFine at h
  split at h
  case h_2 => cases h
  split at h
  case h_2 => cases h
  rename_i l hd
  split at h
  case isFalse => cases h
  rename_i hok
  cases h
  obtain ⟨u, rfl⟩ := args1 hl
  have hu := ha 0 _ u rfl rfl
  rw [decE_is hd] at hu
  exact out_v (fun c => .v _) rfl (fine_any l u c.w (sl_of_vr hu hS (okE_iff.1 hok)))
theorem xLegal_ok (G : Glo) : PlainOk Try.prog G 33 xLegal := by
  intro cargs r h c vs hcl hl ha hg hS
  unfold xLegal at h
  split at h
  case h_2 => cases h
  split at h
  case isFalse => cases h
  rename_i hok
  cases h
  obtain ⟨u, rfl⟩ := args1 hl
  have hu := v_inv (ha 0 _ u rfl rfl)
  subst hu
  exact out_v (fun c => .v _) rfl ((legalr_any _ hok c.w).mono fun e w' ⟨he, hw⟩ => ⟨he, by rw [← hw]; exact Below.refl _ _⟩)
theorem xLegalE_ok (G : Glo) : PlainOk Try.prog G 32 xLegal := by
  intro cargs r h c vs hcl hl ha hg hS
  unfold xLegal at h
  split at h
  case h_2 => cases h
  split at h
  case isFalse => cases h
  rename_i hok
  cases h
  obtain ⟨u, rfl⟩ := args1 hl
  have hu := v_inv (ha 0 _ u rfl rfl)
  subst hu
  exact out_v (fun c => .v _) rfl (legal_any _ hok c.w)
theorem xSame_ok (G : Glo) : PlainOk Try.prog G 40 xSame := by
  intro cargs r h c vs hcl hl ha hg hS
  unfold xSame at h
  split at h
  case h_2 => cases h
  split at h
  case h_2 => cases h
  rename_i l m hd hd2
  split at h
  case isFalse => cases h
  rename_i hok
  simp only [Bool.and_eq_true, decide_eq_true_eq] at hok
  cases h
  obtain ⟨u, v, rfl⟩ := args2 hl
  have hu := ha 0 _ u rfl rfl
  have hv := ha 1 _ v rfl rfl
  rw [decE_is hd] at hu
  rw [decE_is hd2] at hv
  exact out_v (fun c => .v _) rfl ((same_any l m u v c.w (sl_of_vr hu hS (okE_iff.1 hok.1.1)) (sl_of_vr hv hS (okE_iff.1 hok.1.2)) hok.2).mono fun e w' ⟨he, n, hw⟩ => ⟨he, by rw [hw]; exact bdrawn _ _⟩)
theorem xPut_ok (G : Glo) : PlainOk Try.prog G 46 xPut := by
  intro cargs r h c vs hcl hl ha hg hS
  unfold xPut at h
  split at h
  case h_2 => cases h
  split at h
  case h_2 => cases h
  rename_i l hd
  split at h
  case isFalse => cases h
  rename_i hok
  simp only [Bool.and_eq_true, decide_eq_true_eq] at hok
  cases h
  obtain ⟨u, v, rfl⟩ := args2 hl
  have hu := ha 0 _ u rfl rfl
  have hv := agg2 (ha 1 _ v rfl rfl)
  rw [decE_is hd] at hu
  subst hv
  exact out_made (put_any l u ⟨_, _⟩ c.w hok.1.1.2 (sl_of_vr hu hS (okE_iff.1 hok.1.1.1)) hok.1.2 (sorts_of hok.2))
theorem xFind_ok (G : Glo) : PlainOk Try.prog G 38 xFind := by
  intro cargs r h c vs hcl hl ha hg hS
  unfold xFind at h
  split at h
  case h_2 => cases h
  split at h
  case h_2 => cases h
  rename_i l hd
  split at h
  case isFalse => cases h
  rename_i hok
  simp only [Bool.and_eq_true, decide_eq_true_eq] at hok
  cases h
  obtain ⟨u, v, rfl⟩ := args2 hl
  have hu := ha 0 _ u rfl rfl
  have hv := v_inv (ha 1 _ v rfl rfl)
  rw [decE_is hd] at hu
  subst hv
  exact out_v (v := .tuple #[.int .i64 (findE l _).1, .bool (findE l _).2]) (fun c => .tup _ _ rfl fun j y u h1 h2 => by
    match j, h1, h2 with
    | 0, h1, h2 => cases h1; cases h2; exact .v _
    | 1, h1, h2 => cases h1; cases h2; exact .v _) rfl (find_any l u _ c.w (sl_of_vr hu hS (okE_iff.1 hok.1.1)) hok.1.2 (sorts_of hok.2))
theorem xNames_ok (G : Glo) : PlainOk Try.prog G 44 xNames := by
  intro cargs r h c vs hcl hl ha hg hS
  unfold xNames at h
  split at h
  case h_2 => cases h
  split at h
  case h_2 => cases h
  rename_i l hd
  split at h
  case isFalse => cases h
  rename_i hok
  simp only [Bool.and_eq_true, decide_eq_true_eq] at hok
  cases h
  obtain ⟨u, rfl⟩ := args1 hl
  have hu := ha 0 _ u rfl rfl
  rw [decE_is hd] at hu
  refine (names_any l u c.w (sl_of_vr hu hS (okE_iff.1 hok.1)) hok.2).mono ?_
  rintro e w' ⟨r, rfl, ho, hb⟩
  exact ⟨r, [], rfl, hb, .inl (.inl (.inl ⟨by simpa [closedB] using strsP_closed _, vr_of_slS (c := outC c w' []) (Own.sl ho) fun g _ hg o => .inr ⟨(Own.row ho g hg).1, (Own.row ho g hg).2, by simp⟩, rfl⟩)), List.nodup_nil, by simp⟩
end Go.Proofs.Ytfllhakmjookkaa.Den
