/- A plain reading of Go's text: cells, loads, stores, new blocks. -/
import Derived.Test.YtfjflodicgjihaaGreatDoorDenB
import Derived.Laws.AppendOwn
import Derived.Laws.IdiomCopy
import Derived.Laws.Entries
set_option linter.unusedVariables false
set_option linter.unusedSimpArgs false
namespace Go.Proofs.YtfjflodicgjihaaGreatDoor.Den
open Go Go.RowKit

def tsz (P : Program) (t : TypeId) : Option Nat := (P.info? t).map (·.size)
def aggD : TypeDesc → Bool
  | .struct _ | .array _ _ => true
  | _ => false
def isA (P : Program) (t : TypeId) : Option Bool := (P.underlying t).map aggD

def PV.one : PV → Bool
  | .v x => x.oneCell'
  | .agg _ | .tup _ | .own _ _ _ | .unk => false
  | _ => true
def PV.celled : PV → Option (List PV)
  | .agg cs => if cs.all PV.one then some cs else none
  | .tup _ | .own _ _ _ | .unk => none
  | x => if x.one then some [x] else none
theorem one_ok {c : Ctx} {x : PV} {u : Value} (h : VR c x u) (h1 : x.one = true) : u.oneCell' = true := by
  cases h <;> simp_all [PV.one, Value.oneCell']
theorem celled_ok {c : Ctx} {x : PV} {u : Value} {l : List PV} (h : VR c x u) (h1 : x.celled = some l) :
    u.cells.size = l.length ∧ (∀ (j : Nat) (y : PV) (z : Value), l[j]? = some y → u.cells[j]? = some z → VR c y z) ∧ ∀ z ∈ u.cells.toList, z.oneCell' = true := by
  have base : ∀ {x : PV} {u : Value}, VR c x u → x.one = true → l = [x] → u.cells.size = l.length ∧ (∀ (j : Nat) (y : PV) (z : Value), l[j]? = some y → u.cells[j]? = some z → VR c y z) ∧ ∀ z ∈ u.cells.toList, z.oneCell' = true := by
    intro x u h h2 hl
    have h3 := one_ok h h2
    have h4 : u.cells = #[u] := by cases u <;> first | rfl | simp [Value.oneCell'] at h3
    subst hl
    rw [h4]
    refine ⟨rfl, fun j y z hy hz => ?_, fun z hz => ?_⟩
    · cases j with
      | zero => simp at hy hz; rw [← hy, ← hz]; exact h
      | succ j => simp at hy
    · simp at hz; rw [hz]; exact h3
  cases x with
  | agg cs =>
    simp only [PV.celled] at h1
    split at h1
    · rename_i hall
      cases h1
      cases h with
      | agg _ vs hl hx =>
        refine ⟨hl, fun j y z hy hz => hx j y z hy hz, fun z hz => ?_⟩
        obtain ⟨j, hj⟩ := List.mem_iff_getElem?.1 hz
        have hj' : vs[j]? = some z := by simpa [Value.cells] using hj
        have hlt : j < l.length := by rw [← hl]; exact (Array.getElem?_eq_some_iff.1 hj').1
        exact one_ok (hx j _ z (List.getElem?_eq_getElem hlt) hj') (List.all_eq_true.1 hall _ (List.getElem_mem hlt))
    · cases h1
  | tup cs => simp [PV.celled] at h1
  | own sz E xs => simp [PV.celled] at h1
  | unk => simp [PV.celled] at h1
  | v y => simp only [PV.celled] at h1; split at h1 <;> simp_all; subst h1; exact base h (by assumption) rfl
  | ptr n k i off => simp only [PV.celled] at h1; split at h1 <;> simp_all; subst h1; exact base h (by assumption) rfl
  | row n k i len => simp only [PV.celled] at h1; split at h1 <;> simp_all; subst h1; exact base h (by assumption) rfl
  | list sz full xs => simp only [PV.celled] at h1; split at h1 <;> simp_all; subst h1; exact base h (by assumption) rfl
  | eptr cs => simp only [PV.celled] at h1; split at h1 <;> simp_all; subst h1; exact base h (by assumption) rfl
  | clo f cs => simp only [PV.celled] at h1; split at h1 <;> simp_all; subst h1; exact base h (by assumption) rfl
  | mth f cs => simp only [PV.celled] at h1; split at h1 <;> simp_all; subst h1; exact base h (by assumption) rfl
  | ifc t x => simp only [PV.celled] at h1; split at h1 <;> simp_all; subst h1; exact base h (by assumption) rfl
  | far k => simp only [PV.celled] at h1; split at h1 <;> simp_all; subst h1; exact base h (by assumption) rfl

def mkv (ag : Bool) (cs : List PV) : Option PV := if ag then some (.agg cs) else match cs with | [x] => some x | _ => none
/-- What is made of cells. -/
def mkV (ag : Bool) (us : List Value) : Value := if ag then .agg us.toArray else us.getD 0 undef
theorem mkv_ok {c : Ctx} {ag : Bool} {cs : List PV} {us : List Value} {x : PV} (h : mkv ag cs = some x) (hl : us.length = cs.length) (hx : ∀ (j : Nat) (y : PV) (u : Value), cs[j]? = some y → us[j]? = some u → VR c y u) :
    VR c x (mkV ag us) ∧ (ag = false → cs.length = 1) := by
  unfold mkv at h
  cases ag with
  | true =>
    simp at h; subst h
    exact ⟨.agg cs us.toArray (by simpa using hl) fun j y u h1 h2 => hx j y u h1 (by simpa using h2), by simp⟩
  | false =>
    simp at h
    split at h
    · rename_i y
      cases h
      refine ⟨?_, fun _ => rfl⟩
      cases us with
      | nil => simp at hl
      | cons u us => exact hx 0 _ u rfl rfl
    · cases h

theorem add_lit (g o j : Nat) : (⟨g, o, none⟩ : Addr).add j = ⟨g, o + j, none⟩ := by unfold Addr.add; split <;> simp_all
section
variable {P : Program}
theorem run_sizeOf {t : TypeId} {sz : Nat} (h : tsz P t = some sz) (w : World) : (sizeOf t).run P w = .ok sz w := by
  obtain ⟨i, hi, rfl⟩ := Option.map_eq_some_iff.1 h
  simp [sizeOf, typeInfo, hi]
theorem run_isAgg {t : TypeId} {ag : Bool} (h : isA P t = some ag) (w : World) : (isAgg t).run P w = .ok ag w := by
  obtain ⟨d, hd, rfl⟩ := Option.map_eq_some_iff.1 h
  simp only [isAgg, Sem.run_bind, run_underlying hd, Result.andThen_ok]
  cases d <;> simp [aggD]
theorem run_loadAt {t : TypeId} {ag : Bool} {sz : Nat} {w : World} (hA : isA P t = some ag) (hz : tsz P t = some sz) (g o : Nat) (us : List Value) (hl : us.length = sz) (h1 : ag = false → sz = 1)
    (hc : ∀ j u, us[j]? = some u → w.cell? ⟨g, o + j, none⟩ = some u) : (Instr.loadAt t (.pointer (some ⟨g, o, none⟩))).run P w = .ok (mkV ag us) w := by
  simp only [Instr.loadAt, Instr.sureAddr, loadVar, Sem.run_bind, Sem.run_pure, Result.andThen_ok, run_isAgg hA]
  cases ag with
  | true =>
    have := run_loadCells_list (P := P) w ⟨g, o, none⟩ us (fun j v hj => by rw [add_lit]; exact hc j v hj)
    rw [hl] at this
    simp [run_sizeOf hz, this, mkV]
  | false =>
    obtain rfl := h1 rfl
    match us, hl with
    | [u], _ =>
      have := hc 0 u rfl
      simp at this
      simp [this, mkV]
theorem run_zeroValue {t : TypeId} {i : TypeInfo} {z : Value} (hi : P.info? t = some i) (hz : i.zero = some z) (w : World) : (zeroValue t).run P w = .ok z w := by
  simp [zeroValue, typeInfo, hi, hz]
end

/-! ### load -/
def ldD (P : Program) (s : HS) (t : TypeId) (p : PV) : Option PV :=
  match isA P t, tsz P t with
  | some ag, some sz =>
    match p with
    | .ptr n k i off =>
      match s.h n with
      | (k', some b) => if k' = k then match b.xs[i]? with
        | some x => if off + sz ≤ x.length then mkv ag ((x.drop off).take sz) else none
        | none => none else none
      | _ => none
    | .eptr cs => if sz ≤ cs.length then mkv ag (cs.take sz) else none
    | _ => none
  | _, _ => none

theorem ldD_ok {P : Program} {B : Base} {m : Name → Nat} {s : HS} {w : World} (r : RelH B m s w) {t : TypeId} {p x : PV} {u : Value} (h : ldD P s t p = some x) (hp : VR (ctx B s m w) p u) :
    ∃ v, (Instr.loadAt t u).run P w = .ok v w ∧ VR (ctx B s m w) x v := by
  unfold ldD at h
  split at h
  case h_2 => cases h
  rename_i ag sz hA hz
  split at h
  · rename_i n k i off
    split at h
    · rename_i k' b hn
      split at h
      case isFalse => cases h
      rename_i hk; subst hk
      split at h
      case h_2 => cases h
      rename_i e he
      split at h
      case isFalse => cases h
      rename_i hle
      cases hp with
      | ptr _ _ _ _ a hk ha =>
        have ha' := ha b hn
        subst ha'
        obtain ⟨⟨cells, hg, hcs, hall, _⟩, _, _⟩ := r.blk n _ b hn
        obtain ⟨hel, hej⟩ := hall i e he
        have hil : i * b.sz + b.sz ≤ b.xs.length * b.sz := by rw [← Nat.succ_mul]; exact Nat.mul_le_mul_right _ (List.getElem?_eq_some_iff.1 he).1
        have hlen : ((e.drop off).take sz).length = sz := by rw [List.length_take, List.length_drop]; omega
        have hus : ((cells.toList.drop (i * b.sz + off)).take sz).length = sz := by rw [List.length_take, List.length_drop]; simp; omega
        have hk := mkv_ok (c := ctx B s m w) (us := (cells.toList.drop (i * b.sz + off)).take sz) h (by rw [hus, hlen]) (fun j y z h1 h2 => by
          rw [List.getElem?_take] at h1 h2
          split at h1
          · rename_i hj
            rw [if_pos hj] at h2
            rw [List.getElem?_drop] at h1 h2
            obtain ⟨z', p1, p2, p3⟩ := hej _ y h1
            have : cells[i * b.sz + (off + j)]? = some z := by rw [← Nat.add_assoc]; simpa using h2
            rw [this] at p1; cases p1; exact p3
          · cases h1)
        refine ⟨_, run_loadAt hA hz (m n) _ _ hus (fun e => by have := hk.2 e; omega) (fun j z hj => ?_), hk.1⟩
        rw [List.getElem?_take] at hj
        split at hj
        · rw [List.getElem?_drop] at hj
          show w.cell? _ = _
          have hg' : w.heap[m n]? = some (.cells cells b.E (0, 0)) := hg
          rw [cell_of_row w _ _ _ _ _ hg']
          simpa using hj
        · cases hj
    · cases h
  · rename_i cs
    split at h
    case isFalse => cases h
    rename_i hle
    cases hp with
    | eptr _ g off us hcl hx hw =>
      have hlen : (cs.take sz).length = sz := by rw [List.length_take]; omega
      have hk := mkv_ok (c := ctx B s m w) (us := (List.range sz).map us) h (by simp; omega) (fun j y z h1 h2 => by
        rw [List.getElem?_take] at h1
        split at h1
        · rename_i hj
          rw [List.getElem?_map, List.getElem?_range hj] at h2
          cases h2
          exact hx j y h1
        · cases h1)
      refine ⟨_, run_loadAt hA hz g off _ (by simp) (fun e => by have := hk.2 e; omega) (fun j z hj => ?_), hk.1⟩
      rw [List.getElem?_map] at hj
      obtain ⟨j', hj', rfl⟩ := Option.map_eq_some_iff.1 hj
      obtain ⟨hlt, rfl⟩ := List.getElem?_eq_some_iff.1 hj'
      simp at hlt ⊢
      exact (hw j (by omega)).2
  · cases h

/-! ### nil slices as empty lists -/
def normC (P : Program) (fl : Bool) (t : TypeId) (x : PV) : PV := match x with
  | .v (.slice none 0 0) => match P.underlying t with
    | some (.slice e) => match tsz P e with
      | some sz => .list sz fl []
      | none => x
    | _ => x
  | .list sz full xs => .list sz (full && fl) xs
  | x => x
def normL (P : Program) (fl : Bool) : List TypeId → List PV → List PV
  | t :: ts, x :: l => normC P fl t x :: normL P fl ts l
  | _, l => l
theorem normC_ok {P : Program} {fl : Bool} {c : Ctx} {t : TypeId} {x : PV} {u : Value} (h : VR c x u) : VR c (normC P fl t x) u := by
  unfold normC
  split
  · cases h
    split
    · split
      · exact .lnil _ _ _
      · exact .v _
    · exact .v _
  · cases h with
    | lnil _ _ a => exact .lnil _ _ a
    | list _ _ _ g off cap us hcl hc hm hf hl ho hx hw => exact .list _ _ _ g off cap us hcl hc hm (fun h => hf (by rw [Bool.and_eq_true] at h; exact h.1)) hl ho hx hw
  · exact h
theorem normC_closed {P : Program} {fl : Bool} {t : TypeId} {x : PV} (h : closedB x = true) : closedB (normC P fl t x) = true := by
  unfold normC
  split
  · split
    · split <;> rfl
    · rfl
  · rfl
  · exact h
theorem normL_at {P : Program} {fl : Bool} : ∀ {ts : List TypeId} {l : List PV} {j : Nat} {y : PV}, (normL P fl ts l)[j]? = some y → ∃ x, l[j]? = some x ∧ (y = x ∨ ∃ t, y = normC P fl t x)
  | [], l, j, y, h => ⟨y, by simpa [normL] using h, .inl rfl⟩
  | t :: ts, [], j, y, h => by simp [normL] at h
  | t :: ts, x :: l, 0, y, h => by simp [normL] at h; exact ⟨x, rfl, .inr ⟨t, h.symm⟩⟩
  | t :: ts, x :: l, j + 1, y, h => by
    obtain ⟨z, h1, h2⟩ := normL_at (ts := ts) (l := l) (j := j) (by simpa [normL] using h)
    exact ⟨z, by simpa using h1, h2⟩
theorem normL_len {P : Program} {fl : Bool} : ∀ (ts : List TypeId) (l : List PV), (normL P fl ts l).length = l.length
  | [], l => by simp [normL]
  | t :: ts, [] => by simp [normL]
  | t :: ts, x :: l => by simp [normL, normL_len ts l]
def nrm (P : Program) (rw : Bool) (t : TypeId) (cs : List PV) : List PV := if rw then (match P.cellTypes P.depth t with
  | some ts => normL P false ts cs
  | none => cs) else cs
theorem nrm_len {P : Program} {rw : Bool} {t : TypeId} {cs : List PV} : (nrm P rw t cs).length = cs.length := by
  unfold nrm; split
  · split
    · exact normL_len _ _
    · rfl
  · rfl
theorem nrm_at {P : Program} {rw : Bool} {t : TypeId} {cs : List PV} {j : Nat} {y : PV} (h : (nrm P rw t cs)[j]? = some y) : ∃ x, cs[j]? = some x ∧ (∀ c u, VR c x u → VR c y u) ∧ (closedB x = true → closedB y = true) := by
  have key : ∀ ts, (normL P false ts cs)[j]? = some y → ∃ x, cs[j]? = some x ∧ (∀ c u, VR c x u → VR c y u) ∧ (closedB x = true → closedB y = true) := by
    intro ts h
    obtain ⟨x, h1, h2⟩ := normL_at h
    rcases h2 with rfl | ⟨t, rfl⟩
    · exact ⟨y, h1, fun _ _ h => h, id⟩
    · exact ⟨x, h1, fun _ _ h => normC_ok h, normC_closed⟩
  unfold nrm at h
  split at h
  · split at h
    · exact key _ h
    · exact ⟨y, h, fun _ _ h => h, id⟩
  · exact ⟨y, h, fun _ _ h => h, id⟩
theorem nrm_closed {P : Program} {rw : Bool} {t : TypeId} {cs : List PV} (h : closedL cs = true) : closedL (nrm P rw t cs) = true := by
  rw [closedL_iff] at h ⊢
  intro y hy
  obtain ⟨j, hj⟩ := List.mem_iff_getElem?.1 hy
  obtain ⟨x, h1, _, h2⟩ := nrm_at hj
  exact h2 (h x (List.mem_of_getElem? h1))
/-! ### stores -/
theorem storeCells_turn {P : Program} (g o : Nat) (E : TypeId) : ∀ (us : List Value) (i : Nat) (w : World) (cells : Array Value), w.heap[g]? = some (.cells cells E (0, 0)) → (∀ u ∈ us, u.oneCell' = true) → o + i + us.length ≤ cells.size →
    ∃ w' cells', (storeCells ⟨g, o, none⟩ us i).run P w = .ok () w' ∧ Turned w w' g (o + i) (o + i + us.length) cells cells' E ∧ ∀ j u, us[j]? = some u → cells'[o + i + j]? = some u
  | [], i, w, cells, hg, _, _ => ⟨w, cells, rfl, ⟨rfl, rfl, rfl, rfl, hg, hg, rfl, fun _ _ => rfl, fun _ _ => rfl⟩, fun j u h => by simp at h⟩
  | u :: us, i, w, cells, hg, h1, hl => by
    simp only [List.length_cons] at hl
    have hc : w.cell? ⟨g, o + i, none⟩ = some cells[o + i] := by rw [cell_of_row w _ _ _ _ _ hg]; exact Array.getElem?_eq_getElem (by omega)
    have hg2 := heap_setCell_same w g (o + i) cells E u hg
    have hf : w.frozen? ⟨g, o + i, none⟩ = false := frozen_of_row w g _ cells E hg
    have hst : (store ((⟨g, o, none⟩ : Addr).add i) u).run P w = .ok () (w.setCell ⟨g, o + i, none⟩ u) := by
      rw [add_lit, run_store P w _ u _ (h1 u (by simp))]; simp [hc, hf]
    obtain ⟨w', cells', hr, ht, hj⟩ := storeCells_turn (P := P) g o E us (i + 1) (w.setCell ⟨g, o + i, none⟩ u) (cells.setIfInBounds (o + i) u) hg2 (fun v hv => h1 v (by simp [hv])) (by simp; omega)
    refine ⟨w', cells', by simp [storeCells, hst, hr], ⟨ht.os, ht.tape, ht.output, by rw [ht.size]; simp, hg, ht.now, by rw [ht.csize]; simp, fun k hk => ?_, fun p hp => ?_⟩, fun j v hv => ?_⟩
    · rw [ht.other k hk]; exact heap_setCell_other w _ k u hk
    · rw [ht.keep p (by simp only [List.length_cons] at hp; omega)]
      rw [Array.getElem?_setIfInBounds]; simp only [List.length_cons] at hp
      rw [if_neg (by omega)]
    · cases j with
      | zero =>
        simp at hv; subst hv
        rw [ht.keep _ (by omega)]
        simp [Array.getElem?_setIfInBounds]; omega
      | succ j =>
        have := hj j v (by simpa using hv)
        rw [show o + i + (j + 1) = o + (i + 1) + j by omega]; exact this

def okName (prot : Name) (n : Name) : Bool := prot.isSuffixOf n
def stD (P : Program) (prot : Name) (s : HS) (t : TypeId) (p x : PV) : Option HS :=
  match tsz P t, x.celled, p with
  | some sz, some cs, .ptr n k i off =>
    match s.h n with
    | (k', some b) => if k' = k ∧ cs.length = sz ∧ s.fz n ≤ i ∧ okName prot n = true then match b.xs[i]? with
      | some e => if off + sz ≤ e.length then some { h := upd s.h n (k, some { b with xs := b.xs.set i (e.take off ++ nrm P b.rw t cs ++ e.drop (off + sz)), cl := b.cl && closedL (nrm P b.rw t cs) }), fz := s.fz } else none
      | none => none else none
    | _ => none
  | _, _, _ => none

theorem stD_ok {P : Program} {B : Base} {m : Name → Nat} {s s1 : HS} {w : World} {prot : Name} (r : RelH B m s w) {t : TypeId} {p x : PV} {u v : Value} (h : stD P prot s t p x = some s1) (hp : VR (ctx B s m w) p u) (hx : VR (ctx B s m w) x v) :
    ∃ w', (Instr.storeAt t u v).run P w = .ok () w' ∧ RelH B m s1 w' ∧ Evol (ctx B s m w) (ctx B s1 m w') := by
  unfold stD at h
  split at h
  case h_2 => cases h
  rename_i sz cs n k i off hz hc
  split at h
  case h_2 => cases h
  rename_i k' b hn
  split at h
  case isFalse => cases h
  rename_i hk
  obtain ⟨rfl, hcl, hfz, _⟩ := hk
  split at h
  case h_2 => cases h
  rename_i e he
  split at h
  case isFalse => cases h
  rename_i hle
  cases h
  cases hp with
  | ptr _ _ _ _ a hk ha =>
    have ha' := ha b hn
    subst ha'
    obtain ⟨⟨cells, hg, hcs, hall, hclo⟩, hge, hfl, _⟩ := r.blk n _ b hn
    have hg : w.heap[m n]? = some (.cells cells b.E (0, 0)) := hg
    obtain ⟨hel, hej⟩ := hall i e he
    have hi : i < b.xs.length := (List.getElem?_eq_some_iff.1 he).1
    have hil : i * b.sz + b.sz ≤ b.xs.length * b.sz := by rw [← Nat.succ_mul]; exact Nat.mul_le_mul_right _ hi
    obtain ⟨q1, q2', q3⟩ := celled_ok hx hc
    obtain ⟨cs0, hcs0⟩ : ∃ z, nrm P b.rw t cs = z := ⟨_, rfl⟩
    rw [hcs0]
    have q2 : ∀ (j : Nat) (y : PV) (z : Value), cs0[j]? = some y → v.cells[j]? = some z → VR (ctx B s m w) y z := fun j y z h1 h2 => by
      rw [← hcs0] at h1
      obtain ⟨x', g1, g2, _⟩ := nrm_at h1
      exact g2 _ _ (q2' j x' z g1 h2)
    have hcl0 : cs0.length = cs.length := by rw [← hcs0, nrm_len]
    rw [← hcl0] at q1 hcl
    have q1' : v.cells.toList.length = sz := by rw [Array.length_toList, q1, hcl]
    obtain ⟨w', cells', hr, ht, hj⟩ := storeCells_turn (P := P) (m n) (i * b.sz + off) b.E v.cells.toList 0 w cells hg q3 (by rw [q1']; omega)
    refine ⟨w', ?_, ?_⟩
    · have hvs : v.cells.size = sz := by rw [← q1']; simp
      simp [Instr.storeAt, Instr.sureAddr, storeVar, run_sizeOf hz, hvs, ctx] at hr ⊢
      exact hr
    · have ht' : Turned w w' (m n) (s.fz n * b.sz) (i * b.sz + off + sz) cells cells' b.E := { ht with keep := fun o ho => ht.keep o (by
        rw [q1']
        rcases ho with ho | ho
        · left; have := Nat.mul_le_mul_right b.sz hfz; omega
        · right; omega) }
      obtain ⟨ev, hR⟩ := r.turn (b1 := { b with xs := b.xs.set i (e.take off ++ cs0 ++ e.drop (off + sz)), cl := b.cl && closedL cs0 }) hn ht' (Nat.le_refl _) rfl (by simpa using hfl) _ m (.inl ⟨rfl, rfl, rfl⟩)
      refine ⟨hR ⟨cells', ht.now, by rw [ht.csize]; simpa using hcs, fun i' x' hx' => ?_, fun hc2 => ?_⟩, ev⟩
      case refine_2 =>
        simp only [Bool.and_eq_true] at hc2
        have h1 := closedLL_iff.1 (hclo hc2.1)
        have h2 := closedL_iff.1 hc2.2
        refine closedLL_iff.2 fun x hx y hy => ?_
        rcases List.mem_or_eq_of_mem_set hx with hx | rfl
        · exact h1 x hx y hy
        · have he' := List.mem_of_getElem? he
          rcases List.mem_append.1 hy with hy | hy
          · rcases List.mem_append.1 hy with hy | hy
            · exact h1 e he' y (List.mem_of_mem_take hy)
            · exact h2 y hy
          · exact h1 e he' y (List.mem_of_mem_drop hy)
      simp only [List.getElem?_set] at hx'
      split at hx'
      · rename_i hii
        subst hii
        first | (rw [if_pos hi] at hx'; cases hx') | cases hx'
        refine ⟨by simp [hel]; omega, fun j y hy => ?_⟩
        by_cases h1 : j < off
        · have hy' : e[j]? = some y := by
            rw [List.append_assoc, List.getElem?_append_left (by rw [List.length_take]; omega), List.getElem?_take, if_pos h1] at hy; exact hy
          obtain ⟨z, p1, p2, p3⟩ := hej j y hy'
          exact ⟨z, by show cells'[i * b.sz + j]? = _; rw [ht.keep _ (by omega)]; exact p1, p2, p3.evol ev⟩
        · by_cases h2 : j < off + sz
          · have hy' : cs0[j - off]? = some y := by
              rw [List.append_assoc, List.getElem?_append_right (by rw [List.length_take]; omega), List.length_take, Nat.min_eq_left (by omega), List.getElem?_append_left (by omega)] at hy; exact hy
            have hlt : j - off < v.cells.size := by rw [q1, hcl]; omega
            have hz' := hj (j - off) v.cells[j - off] (by simp [hlt])
            exact ⟨v.cells[j - off], by show cells'[i * b.sz + j]? = _; rw [← hz']; congr 1; omega, q3 _ (by simp), (q2 _ y _ hy' (by simp [hlt])).evol ev⟩
          · have hy' : e[j]? = some y := by
              rw [List.append_assoc, List.getElem?_append_right (by rw [List.length_take]; omega), List.length_take, Nat.min_eq_left (by omega), List.getElem?_append_right (by omega), List.getElem?_drop] at hy
              rw [← hy]; congr 1; omega
            obtain ⟨z, p1, p2, p3⟩ := hej j y hy'
            exact ⟨z, by show cells'[i * b.sz + j]? = _; rw [ht.keep _ (by rw [q1']; omega)]; exact p1, p2, p3.evol ev⟩
      · rename_i hii
        obtain ⟨hl', hj'⟩ := hall i' x' hx'
        refine ⟨hl', fun j y hy => ?_⟩
        obtain ⟨z, p1, p2, p3⟩ := hj' j y hy
        have hjl : j < b.sz := by rw [← hl']; exact (List.getElem?_eq_some_iff.1 hy).1
        refine ⟨z, ?_, p2, p3.evol ev⟩
        show cells'[i' * b.sz + j]? = _
        rw [ht.keep _ ?_]
        · exact p1
        · rw [q1']
          rcases Nat.lt_or_gt_of_ne hii with hlt | hgt
          · right
            have : i * b.sz + b.sz ≤ i' * b.sz := by rw [← Nat.succ_mul]; exact Nat.mul_le_mul_right _ hlt
            omega
          · left
            have : i' * b.sz + b.sz ≤ i * b.sz := by rw [← Nat.succ_mul]; exact Nat.mul_le_mul_right _ hgt
            omega

/-! ### new blocks -/
def newS (s : HS) (n : Name) (b : Blk) : HS := { h := upd s.h n ((s.h n).1 + 1, some b), fz := upd s.fz n 0 }
theorem addS_one (s : HS) (n : Name) (g : Nat) (b : Blk) : addS s [(n, g, b)] = newS s n b := by
  unfold addS newS upd lk
  congr 1 <;> (funext n'; by_cases h : n' = n <;> simp [h, List.find?, eq_comm] <;> (have : (n == n') = false := by simp; exact fun e => h e.symm) <;> simp [this])
theorem addM_one (m : Name → Nat) (n : Name) (g : Nat) (b : Blk) : addM m [(n, g, b)] = upd m n g := by
  unfold addM upd lk
  funext n'; by_cases h : n' = n
  · simp [h, List.find?]
  · have : (n == n') = false := by simp; exact fun e => h e.symm
    simp [h, List.find?, this]
/-- One new block. -/
theorem RelH.new {B : Base} {m : Name → Nat} {s : HS} {w w' : World} (r : RelH B m s w) (n : Name) (b : Blk) (g : Nat) (hb : Below w.heap.size w w') (hg : w.heap.size ≤ g) (cells : Array Value) (hc : w'.heap[g]? = some (.cells cells b.E (0, 0)))
    (hl : b.xs.length * b.sz ≤ cells.size) (hx : ∀ i x, b.xs[i]? = some x → x.length = b.sz ∧ ∀ j y, x[j]? = some y → ∃ u, cells[i * b.sz + j]? = some u ∧ u.oneCell' = true ∧ VR (ctx B s m w) y u) (hcl : b.cl = true → closedLL b.xs = true) :
    RelH B (upd m n g) (newS s n b) w' ∧ Evol (ctx B s m w) (ctx B (newS s n b) (upd m n g) w') := by
  have h := r.extend hb [(n, g, b)] (by simp [hg]) (by simp)
  rw [addS_one, addM_one] at h
  refine ⟨h.2 fun e he => ?_, h.1⟩
  simp at he; subst he
  exact ⟨cells, hc, hl, fun i x hi => ⟨(hx i x hi).1, fun j y hy => by
    obtain ⟨u, p1, p2, p3⟩ := (hx i x hi).2 j y hy
    exact ⟨u, p1, p2, p3.evol h.1⟩⟩, hcl⟩
theorem VR.newPtr {B : Base} {m : Name → Nat} {s : HS} {w' : World} (n : Name) (b : Blk) (g : Nat) : VR (ctx B (newS s n b) (upd m n g) w') (.ptr n ((s.h n).1 + 1) 0 0) (.pointer (some ⟨g, 0, none⟩)) :=
  .ptr _ _ _ _ _ (by simp [ctx, newS]) fun b' hb => by
    simp [ctx, newS] at hb; subst hb; simp [ctx]
theorem VR.newRow {B : Base} {m : Name → Nat} {s : HS} {w' : World} (n : Name) (b : Blk) (g len cap : Nat) (cells : Array Value) (E : TypeId) (hc : w'.heap[g]? = some (.cells cells E (0, 0))) (h1 : len ≤ cap) (h2 : cap ≤ 9223372036854775807) (h3 : cells.size = cap * b.sz) :
    VR (ctx B (newS s n b) (upd m n g) w') (.row n ((s.h n).1 + 1) 0 len) (.slice (some ⟨g, 0, none⟩) len cap) :=
  .row _ _ _ _ _ _ (by simp [ctx, newS]) h1 h2 fun b' hb => by
    simp [ctx, newS] at hb; subst hb
    simp [ctx, bsize, hc, h3]
theorem below_alloc (w : World) (o : Obj) : Below w.heap.size w (w.alloc o) := (Below.refl _ _).alloc (Nat.le_refl _) o
/-- A box of one value. -/
theorem box_ok {B : Base} {m : Name → Nat} {s : HS} {w : World} (r : RelH B m s w) (n : Name) (E : TypeId) {x : PV} {cs : List PV} {u : Value} (hx : VR (ctx B s m w) x u) (hc : x.celled = some cs) :
    RelH B (upd m n w.heap.size) (newS s n ⟨cs.length, E, [cs], closedLL [cs], false⟩) (w.alloc (.cells u.cells E)) ∧ Evol (ctx B s m w) (ctx B (newS s n ⟨cs.length, E, [cs], closedLL [cs], false⟩) (upd m n w.heap.size) (w.alloc (.cells u.cells E))) := by
  obtain ⟨q1, q2, q3⟩ := celled_ok hx hc
  refine r.new n ⟨cs.length, E, [cs], closedLL [cs], false⟩ w.heap.size (below_alloc w _) (Nat.le_refl _) u.cells (heap_alloc_new w _) (by simp [q1]) (fun i x hi => ?_) id
  cases i with
  | succ i => simp at hi
  | zero =>
    simp at hi; subst hi
    refine ⟨rfl, fun j y hy => ?_⟩
    have hlt : j < u.cells.size := by rw [q1]; exact (List.getElem?_eq_some_iff.1 hy).1
    exact ⟨u.cells[j], by simp [hlt], q3 _ (by simp), q2 j y _ hy (by simp [hlt])⟩
end Go.Proofs.YtfjflodicgjihaaGreatDoor.Den
