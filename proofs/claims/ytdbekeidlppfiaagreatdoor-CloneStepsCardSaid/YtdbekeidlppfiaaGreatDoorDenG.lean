/- Texts joined by a program of mine (pack.py): DenG. -/
import Derived.Test.YtdbekeidlppfiaaGreatDoorDenF
set_option linter.unusedVariables false
set_option linter.unusedSimpArgs false
namespace Go.Proofs.YtdbekeidlppfiaaGreatDoor.Den
open Go Go.RowKit
def optInt : Option PV → Option (Option Int)
 | none => some none
 | some x => (intOfPV x).map some
def slD (P : Program) (s : HS) (t : TypeId) (x : PV) (lo hi mx : Option PV) : Option PV :=
 match P.underlying t with
 | some (.slice e) => match tsz P e, optInt lo, optInt hi, optInt mx with
  | some sz, some lo, some hi, some mx =>
   let l := lo.getD 0
   match x with
   | .row n k i len => match mx with
    | some _ => none
    | none => match s.h n with
     | (k', some b) =>
      let h := hi.getD len
      if k' = k ∧ b.sz = sz ∧ 0 ≤ l ∧ l ≤ h ∧ h ≤ len then (if l = h then some (.list sz false []) else some (.row n k (i + l.toNat) (h.toNat - l.toNat))) else none
     | _ => none
   | .list sz' full xs =>
    let h := hi.getD xs.length
    if sz' = sz ∧ 0 ≤ l ∧ l ≤ h ∧ h ≤ xs.length ∧ (∀ m, mx = some m → hi ≠ none ∧ m = h) then
     some (.list sz ((mx.isSome) || (full && decide (h = xs.length))) ((xs.drop l.toNat).take (h.toNat - l.toNat))) else none
   | _ => none
  | _, _, _, _ => none
 | _ => none
theorem optInt_ok {c : Ctx} {x : Option PV} {u : Option Value} {j : Option Int} (h : optInt x = some j) (hx : ∀ y, x = some y → ∃ z, u = some z ∧ VR c y z) (hn : x = none → u = none) :
  (j = none ∧ u = none) ∨ ∃ k i, j = some i ∧ u = some (.int k i) := by
 cases x with
 | none => simp [optInt] at h; exact .inl ⟨h.symm, hn rfl⟩
 | some y =>
  simp only [optInt] at h
  obtain ⟨i, hi, rfl⟩ := Option.map_eq_some_iff.1 h
  obtain ⟨z, hz, hv⟩ := hx y rfl
  obtain ⟨k, rfl⟩ := intOfPV_ok hi hv
  exact .inr ⟨k, i, rfl, hz⟩
theorem run_slice {P : Program} {t e : TypeId} {sz : Nat} (hu : P.underlying t = some (.slice e)) (hz : tsz P e = some sz) (w : World) (a : Addr) (len cap : Nat) {lo hi : Option Value} {lj hj : Option Int}
  (hlo : (lj = none ∧ lo = none) ∨ ∃ k i, lj = some i ∧ lo = some (.int k i)) (hhi : (hj = none ∧ hi = none) ∨ ∃ k i, hj = some i ∧ hi = some (.int k i)) (hlc : len ≤ cap)
  (h0 : 0 ≤ lj.getD 0) (h1 : lj.getD 0 ≤ hj.getD len) (h2 : hj.getD len ≤ len) :
  (Instr.sliceAt t (.slice (some a) len cap) lo hi none).run P w =
   .ok (.slice (some (if cap = (lj.getD 0).toNat then a else a.add ((lj.getD 0).toNat * sz))) ((hj.getD len).toNat - (lj.getD 0).toNat) (cap - (lj.getD 0).toNat)) w := by
 have hsl : ∀ (l h : Nat), (lj.getD 0) = l → (hj.getD len) = h → (Instr.sliceBounds true len cap lo hi none).run P w = .ok (l, h, cap) w := by
  intro l h hl hh
  rcases hlo with ⟨rfl, rfl⟩ | ⟨k, i, rfl, rfl⟩ <;> rcases hhi with ⟨rfl, rfl⟩ | ⟨k', i', rfl, rfl⟩ <;> simp only [Option.getD_none, Option.getD_some] at h0 h1 h2 hl hh
  ·have e1 : l = 0 := by omega
   have e2 : h = len := by omega
   simp [Instr.sliceBounds, e1, e2]
  ·have e1 : l = 0 := by omega
   subst hh
   have c1 : h ≤ cap := by omega
   simp [Instr.sliceBounds, Instr.sliceBound, asIntOf, c1, e1]
  ·subst hl
   have e2 : h = len := by omega
   have c2 : l ≤ len := by omega
   simp [Instr.sliceBounds, Instr.sliceBound, asIntOf, c2, e2]
  ·subst hl hh
   have c1 : h ≤ cap := by omega
   have c2 : l ≤ h := by omega
   simp [Instr.sliceBounds, Instr.sliceBound, asIntOf, c1, c2]
 obtain ⟨l, hl⟩ := Int.eq_ofNat_of_zero_le h0
 obtain ⟨h, hh⟩ := Int.eq_ofNat_of_zero_le (Int.le_trans h0 h1)
 simp only [Instr.sliceAt, Sem.run_bind, run_underlying hu, Result.andThen_ok, Instr.slice, hsl l h hl hh, run_sizeOf hz, Sem.run_pure]
 rw [hl, hh]
 simp only [Int.toNat_natCast, Option.map_some]
 split <;> rfl
theorem run_slice3 {P : Program} {t e : TypeId} {sz : Nat} (hu : P.underlying t = some (.slice e)) (hz : tsz P e = some sz) (w : World) (a : Addr) (len cap : Nat) {lo : Option Value} {lj : Option Int} {kh km : IntKind} {hj : Int}
  (hlo : (lj = none ∧ lo = none) ∨ ∃ k i, lj = some i ∧ lo = some (.int k i)) (hlc : len ≤ cap)
  (h0 : 0 ≤ lj.getD 0) (h1 : lj.getD 0 ≤ hj) (h2 : hj ≤ len) :
  (Instr.sliceAt t (.slice (some a) len cap) lo (some (.int kh hj)) (some (.int km hj))).run P w =
   .ok (.slice (some (if hj.toNat = (lj.getD 0).toNat then a else a.add ((lj.getD 0).toNat * sz))) (hj.toNat - (lj.getD 0).toNat) (hj.toNat - (lj.getD 0).toNat)) w := by
 obtain ⟨l, hl⟩ := Int.eq_ofNat_of_zero_le h0
 obtain ⟨h, rfl⟩ := Int.eq_ofNat_of_zero_le (Int.le_trans h0 h1)
 have hsl : (Instr.sliceBounds true len cap lo (some (.int kh h)) (some (.int km h))).run P w = .ok (l, h, h) w := by
  have c1 : h ≤ cap := by omega
  rcases hlo with ⟨rfl, rfl⟩ | ⟨k, i, rfl, rfl⟩ <;> simp only [Option.getD_none, Option.getD_some] at h0 h1 hl
  ·have e1 : l = 0 := by omega
   simp [Instr.sliceBounds, Instr.sliceBound, asIntOf, c1, e1]
  ·subst hl
   have c2 : l ≤ h := by omega
   simp [Instr.sliceBounds, Instr.sliceBound, asIntOf, c1, c2]
 simp only [Instr.sliceAt, Sem.run_bind, run_underlying hu, Result.andThen_ok, Instr.slice, hsl, run_sizeOf hz, Sem.run_pure]
 rw [hl]
 simp only [Int.toNat_natCast, Option.map_some]
 split <;> rfl
theorem slD_ok {P : Program} {B : Base} {m : Name → Nat} {s : HS} {w : World} {t : TypeId} {x z : PV} {lo hi mx : Option PV} {u : Value} {vlo vhi vmx : Option Value} (h : slD P s t x lo hi mx = some z) (hx : VR (ctx B s m w) x u)
  (h1 : ∀ y, lo = some y → ∃ z, vlo = some z ∧ VR (ctx B s m w) y z) (n1 : lo = none → vlo = none)
  (h2 : ∀ y, hi = some y → ∃ z, vhi = some z ∧ VR (ctx B s m w) y z) (n2 : hi = none → vhi = none)
  (h3 : ∀ y, mx = some y → ∃ z, vmx = some z ∧ VR (ctx B s m w) y z) (n3 : mx = none → vmx = none) :
  ∃ q, (Instr.sliceAt t u vlo vhi vmx).run P w = .ok q w ∧ VR (ctx B s m w) z q := by
 unfold slD at h
 split at h
 case h_2 => cases h
 rename_i e hu
 split at h
 case h_2 => cases h
 rename_i sz lj hj mj hz hlj hhj hmj
 have g1 := optInt_ok hlj h1 n1
 have g2 := optInt_ok hhj h2 n2
 have g3 := optInt_ok hmj h3 n3
 simp only at h
 split at h
 ·rename_i n k i len
  split at h
  ·cases h
  rcases g3 with ⟨_, rfl⟩ | ⟨_, _, hh, _⟩
  case inr => cases hh
  split at h
  case h_2 => cases h
  rename_i k' b hn
  split at h
  case isFalse => cases h
  rename_i hc
  obtain ⟨rfl, rfl, c0, c1, c2⟩ := hc
  cases hx with
  | row _ _ _ _ a cap hk hcc hm ha =>
   obtain ⟨rfl, hcap⟩ := ha b hn
   have hr := run_slice hu hz w ⟨m n, i * b.sz, none⟩ len cap g1 g2 hcc c0 c1 c2
   split at h
   ·rename_i heq
    cases h
    refine ⟨_, hr, ?_⟩
    have e1 : (hj.getD (len : Int)).toNat - (lj.getD 0).toNat = 0 := by rw [heq]; omega
    rw [e1]
    have hl : VR (ctx B s m w) (.list b.sz false []) (.slice (some (if cap = (lj.getD 0).toNat then ⟨m n, i * b.sz, none⟩ else ⟨m n, i * b.sz + (lj.getD 0).toNat * b.sz, none⟩)) 0 (cap - (lj.getD 0).toNat)) := by
     split <;> exact .list _ _ _ _ _ _ (fun _ _ => undef) rfl (by simp) (by omega) (by simp) (fun i x h => by simp at h) (fun i j h => by simp at h) (fun i j x y h => by simp at h) (fun i j h => by simp at h)
    rw [add_lit]; exact hl
   ·rename_i hne
    cases h
    refine ⟨_, hr, ?_⟩
    rw [if_neg (by omega), add_lit]
    refine .row _ _ _ _ _ _ hk (by omega) (by omega) fun b' hb' => ?_
    have : b' = b := by simp [ctx, hn] at hb'; exact hb'.symm
    subst this
    refine ⟨by simp [ctx, Nat.add_mul], ?_⟩
    rw [← hcap]; congr 1; omega
 ·rename_i sz' full xs
  split at h
  case isFalse => cases h
  rename_i hc
  obtain ⟨rfl, c0, c1, c2, c3⟩ := hc
  cases h
  cases hx with
  | lnil _ _ a =>
   have c1' : lj.getD 0 ≤ hj.getD 0 := by simpa using c1
   have c2' : hj.getD 0 ≤ 0 := by simpa using c2
   have c3' : ∀ m, mj = some m → hj ≠ none ∧ m = hj.getD 0 := by simpa using c3
   have e0 : lj.getD 0 = 0 := by omega
   have e1 : hj.getD 0 = 0 := by omega
   clear c1 c2 c3 c1' c2' h1 n1 h2 n2 h3 n3 hlj hhj hmj
   refine ⟨.slice a 0 0, ?_, ?_⟩
   ·have hb : (Instr.sliceBounds true 0 0 vlo vhi vmx).run P w = .ok (0, 0, 0) w := by
     rcases g1 with ⟨rfl, rfl⟩ | ⟨k1, i1, rfl, rfl⟩ <;> rcases g2 with ⟨rfl, rfl⟩ | ⟨k2, i2, rfl, rfl⟩ <;> rcases g3 with ⟨rfl, rfl⟩ | ⟨k3, i3, rfl, rfl⟩ <;> simp only [Option.getD_none, Option.getD_some] at e0 e1
     all_goals try subst e0
     all_goals try subst e1
     all_goals try (have c4 := (c3' _ rfl).1; exact absurd rfl c4)
     all_goals try (have c5 := (c3' _ rfl).2; simp only [Option.getD_some] at c5; subst c5)
     all_goals simp [Instr.sliceBounds, Instr.sliceBound, asIntOf]
    simp [Instr.sliceAt, run_underlying hu, Instr.slice, hb, run_sizeOf hz]
   ·have e2 : ((([] : List (List PV)).drop (lj.getD 0).toNat).take ((hj.getD ((([] : List (List PV)).length : Nat) : Int)).toNat - (lj.getD 0).toNat)) = [] := by simp
    rw [e2]; exact .lnil _ _ a
  | list _ _ _ g off cap us hcl hcc hm hf hl ho hxx hw =>
   have hlen : ((xs.drop (lj.getD 0).toNat).take ((hj.getD xs.length).toNat - (lj.getD 0).toNat)).length = (hj.getD xs.length).toNat - (lj.getD 0).toNat := by rw [List.length_take, List.length_drop]; omega
   have key : ∀ (cap' : Nat) (a' : Addr) (f : Bool), (hj.getD xs.length).toNat - (lj.getD 0).toNat ≤ cap' → cap' ≤ 9223372036854775807 → (f = true → cap' = (hj.getD xs.length).toNat - (lj.getD 0).toNat) →
     (a' = ⟨g, off + (lj.getD 0).toNat * sz', none⟩ ∨ ((hj.getD xs.length).toNat - (lj.getD 0).toNat = 0 ∧ a' = ⟨g, off, none⟩)) →
     VR (ctx B s m w) (.list sz' f ((xs.drop (lj.getD 0).toNat).take ((hj.getD xs.length).toNat - (lj.getD 0).toNat))) (.slice (some a') ((hj.getD xs.length).toNat - (lj.getD 0).toNat) cap') := by
    intro cap' a' f k1 k2 k3 k4
    have hget : ∀ (i : Nat) (x : List PV), ((xs.drop (lj.getD 0).toNat).take ((hj.getD xs.length).toNat - (lj.getD 0).toNat))[i]? = some x → xs[(lj.getD 0).toNat + i]? = some x := by
     intro i x h
     rw [List.getElem?_take] at h
     split at h
     ·rw [List.getElem?_drop] at h; exact h
     ·cases h
    have hr : ∀ o', (a' = ⟨g, o', none⟩) → (o' = off + (lj.getD 0).toNat * sz' ∨ (hj.getD xs.length).toNat - (lj.getD 0).toNat = 0) →
      VR (ctx B s m w) (.list sz' f ((xs.drop (lj.getD 0).toNat).take ((hj.getD xs.length).toNat - (lj.getD 0).toNat))) (.slice (some a') ((hj.getD xs.length).toNat - (lj.getD 0).toNat) cap') := by
     rintro o' rfl hor
     have := VR.list (c := ctx B s m w) sz' f ((xs.drop (lj.getD 0).toNat).take ((hj.getD xs.length).toNat - (lj.getD 0).toNat)) g o' cap' (fun i j => us ((lj.getD 0).toNat + i) j) (closedLL_sub hcl fun x hx => List.mem_of_mem_drop (List.mem_of_mem_take hx)) (by rw [hlen]; exact k1) k2 (by rw [hlen]; exact k3)
      (fun i x h => hl _ _ (hget i x h)) (fun i j h1 h2 => ho _ _ (by rw [hlen] at h1; omega) h2) (fun i j x y h1 h2 => hxx _ _ _ _ (hget i x h1) h2) (fun i j h1 h2 => by
       rw [hlen] at h1
       have h3 := hw ((lj.getD 0).toNat + i) j (by omega) h2
       rcases hor with rfl | h0
       ·rw [show off + (lj.getD 0).toNat * sz' + (i * sz' + j) = off + (((lj.getD 0).toNat + i) * sz' + j) by rw [Nat.add_mul]; omega]; exact h3
       ·omega)
     rw [hlen] at this; exact this
    rcases k4 with h | ⟨h0, h⟩
    ·exact hr _ h (.inl rfl)
    ·exact hr _ h (.inr h0)
   rcases g3 with ⟨rfl, rfl⟩ | ⟨km, mi, rfl, rfl⟩
   ·have hr := run_slice hu hz w ⟨g, off, none⟩ xs.length cap g1 g2 hcc c0 c1 c2
    refine ⟨_, hr, key _ _ _ (by omega) (by omega) (fun h => ?_) ?_⟩
    ·simp at h
     have := hf h.1
     omega
    ·split
     ·rename_i e; right; exact ⟨by omega, rfl⟩
     ·left; rw [add_lit]
   ·obtain ⟨c4, c5⟩ := c3 mi rfl
    rcases g2 with ⟨e, _⟩ | ⟨kh, hi', rfl, rfl⟩
    ·exact absurd e c4
    ·simp only [Option.getD_some] at *
     subst c5
     have hr := run_slice3 (kh := kh) (km := km) hu hz w ⟨g, off, none⟩ xs.length cap g1 hcc c0 c1 c2
     refine ⟨_, hr, key _ _ _ (Nat.le_refl _) (by omega) (fun _ => rfl) ?_⟩
     split
     ·rename_i e; right; exact ⟨by omega, rfl⟩
     ·left; rw [add_lit]
 ·cases h
theorem VR.closed {c c' : Ctx} (hF : c'.F = c.F) (hS : ∀ g o, c.S g o → c'.S g o ∧ ∀ u, c.w.cell? ⟨g, o, none⟩ = some u → c'.w.cell? ⟨g, o, none⟩ = some u) {x : PV} {u : Value} (h : VR c x u) : closedB x = true → VR c' x u := by
 induction h with
 | v x => exact fun _ => .v x
 | ptr n k i off a hk ha => intro h; simp [closedB] at h
 | row n k i len a cap hk hc hm ha => intro h; simp [closedB] at h
 | list sz full xs g off cap us hcl hc hm hf hl ho hx hw ih =>
  intro h
  have h' := closedLL_iff.1 hcl
  exact .list sz full xs g off cap us hcl hc hm hf hl ho (fun i j x y h1 h2 => ih i j x y h1 h2 (h' x (List.mem_of_getElem? h1) y (List.mem_of_getElem? h2))) (fun i j h1 h2 => ⟨(hS _ _ (hw i j h1 h2).1).1, (hS _ _ (hw i j h1 h2).1).2 _ (hw i j h1 h2).2⟩)
 | lnil sz full a => intro _; exact .lnil sz full a
 | eptr cs g off us hcl hx hw ih =>
  intro h
  have h' := closedL_iff.1 hcl
  exact .eptr cs g off us hcl (fun j y h1 => ih j y h1 (h' y (List.mem_of_getElem? h1))) (fun j h1 => ⟨(hS _ _ (hw j h1).1).1, (hS _ _ (hw j h1).1).2 _ (hw j h1).2⟩)
 | agg cs vs hl hx ih => intro h; have h' := closedL_iff.1 (by simpa [closedB] using h); exact .agg cs vs hl fun j y u h1 h2 => ih j y u h1 h2 (h' y (List.mem_of_getElem? h1))
 | tup cs vs hl hx ih => intro h; have h' := closedL_iff.1 (by simpa [closedB] using h); exact .tup cs vs hl fun j y u h1 h2 => ih j y u h1 h2 (h' y (List.mem_of_getElem? h1))
 | clo f cs vs hl hx ih => intro h; have h' := closedL_iff.1 (by simpa [closedB] using h); exact .clo f cs vs hl fun j y u h1 h2 => ih j y u h1 h2 (h' y (List.mem_of_getElem? h1))
 | mth f cs vs hl hx ih => intro h; have h' := closedL_iff.1 (by simpa [closedB] using h); exact .mth f cs vs hl fun j y u h1 h2 => ih j y u h1 h2 (h' y (List.mem_of_getElem? h1))
 | ifc t x u hx ih => intro h; exact .ifc t x u (ih (by simpa [closedB] using h))
 | far k => intro _; rw [← hF]; exact .far k
 | unk u => intro _; exact .unk u
def mapS (f : HS → PV → Option (PV × HS)) : HS → List PV → Option (List PV × HS)
 | s, [] => some ([], s)
 | s, x :: l => match f s x with
  | some (y, s1) => match mapS f s1 l with
   | some (l', s2) => some (y :: l', s2)
   | none => none
  | none => none
def mapSS (f : HS → PV → Option (PV × HS)) : HS → List (List PV) → Option (List (List PV) × HS)
 | s, [] => some ([], s)
 | s, x :: l => match mapS f s x with
  | some (y, s1) => match mapSS f s1 l with
   | some (l', s2) => some (y :: l', s2)
   | none => none
  | none => none
def dr : Nat → HS → PV → Option (PV × HS)
 | 0, s, x => if closedB x then some (x, s) else none
 | k + 1, s, x => if closedB x then some (x, s) else match x with
  | .row n kk i len => match s.h n with
   | (kk', some b) => if kk' = kk ∧ i + len ≤ b.xs.length then
     if b.cl || closedLL ((b.xs.drop i).take len) then some (.list b.sz false ((b.xs.drop i).take len), { s with fz := upd s.fz n (max (s.fz n) (i + len)) })
     else match mapSS (dr k) { s with fz := upd s.fz n (max (s.fz n) (i + len)) } ((b.xs.drop i).take len) with
      | some (ys, s') => some (.list b.sz false ys, s')
      | none => none
    else none
   | _ => none
  | .agg cs => match mapS (dr k) s cs with
   | some (ys, s') => some (.agg ys, s')
   | none => none
  | _ => none
structure DrOk (B : Base) (m : Name → Nat) (s s1 : HS) (w : World) : Prop where
 rel : RelH B m s1 w
 ev : Evol (ctx B s m w) (ctx B s1 m w)
 h : s1.h = s.h
theorem DrOk.refl {B : Base} {m : Name → Nat} {s : HS} {w : World} (r : RelH B m s w) : DrOk B m s s w := ⟨r, Evol.refl _, rfl⟩
theorem DrOk.trans {B : Base} {m : Name → Nat} {s s1 s2 : HS} {w : World} (a : DrOk B m s s1 w) (b : DrOk B m s1 s2 w) : DrOk B m s s2 w := ⟨b.rel, a.ev.trans b.ev, b.h.trans a.h⟩
def FnOk (B : Base) (m : Name → Nat) (w : World) (f : HS → PV → Option (PV × HS)) : Prop :=
 ∀ s x y s1, RelH B m s w → f s x = some (y, s1) → DrOk B m s s1 w ∧ closedB y = true ∧ y.one = x.one ∧ ∀ u, VR (ctx B s m w) x u → VR (ctx B s1 m w) y u
theorem mapS_ok {B : Base} {m : Name → Nat} {w : World} {f : HS → PV → Option (PV × HS)} (hf : FnOk B m w f) : ∀ (l : List PV) (s : HS) (l' : List PV) (s1 : HS), RelH B m s w → mapS f s l = some (l', s1) →
  DrOk B m s s1 w ∧ closedL l' = true ∧ l'.length = l.length ∧ ∀ (j : Nat) (x y : PV), l[j]? = some x → l'[j]? = some y → ∀ u, VR (ctx B s m w) x u → VR (ctx B s1 m w) y u
 | [], s, l', s1, r, h => by
  simp [mapS] at h; obtain ⟨rfl, rfl⟩ := h
  exact ⟨DrOk.refl r, rfl, rfl, fun j x y hx => by simp at hx⟩
 | x :: l, s, l', s1, r, h => by
  simp only [mapS] at h
  split at h
  case h_2 => cases h
  rename_i y s2 h1
  split at h
  case h_2 => cases h
  rename_i l2 s3 h2
  cases h
  obtain ⟨d1, c1, _, v1⟩ := hf s x y s2 r h1
  obtain ⟨d2, c2, e2, v2⟩ := mapS_ok hf l s2 l2 s1 d1.rel h2
  refine ⟨d1.trans d2, by simp [closedL, c1, c2], by simp [e2], fun j a b ha hb u hu => ?_⟩
  cases j with
  | zero => simp at ha hb; subst ha hb; exact (v1 u hu).evol d2.ev
  | succ j => exact v2 j a b (by simpa using ha) (by simpa using hb) u (hu.evol d1.ev)
theorem mapSS_ok {B : Base} {m : Name → Nat} {w : World} {f : HS → PV → Option (PV × HS)} (hf : FnOk B m w f) : ∀ (l : List (List PV)) (s : HS) (l' : List (List PV)) (s1 : HS), RelH B m s w → mapSS f s l = some (l', s1) →
  DrOk B m s s1 w ∧ closedLL l' = true ∧ l'.length = l.length ∧ ∀ (i : Nat) (x y : List PV), l[i]? = some x → l'[i]? = some y → y.length = x.length ∧ ∀ (j : Nat) (a b : PV), x[j]? = some a → y[j]? = some b → ∀ u, VR (ctx B s m w) a u → VR (ctx B s1 m w) b u
 | [], s, l', s1, r, h => by
  simp [mapSS] at h; obtain ⟨rfl, rfl⟩ := h
  exact ⟨DrOk.refl r, rfl, rfl, fun j x y hx => by simp at hx⟩
 | x :: l, s, l', s1, r, h => by
  simp only [mapSS] at h
  split at h
  case h_2 => cases h
  rename_i y s2 h1
  split at h
  case h_2 => cases h
  rename_i l2 s3 h2
  cases h
  obtain ⟨d1, c1, e1, v1⟩ := mapS_ok hf x s y s2 r h1
  obtain ⟨d2, c2, e2, v2⟩ := mapSS_ok hf l s2 l2 s1 d1.rel h2
  refine ⟨d1.trans d2, by simp [closedLL, c1, c2], by simp [e2], fun i a b ha hb => ?_⟩
  cases i with
  | zero => simp at ha hb; subst ha hb; exact ⟨e1, fun j p q hp hq u hu => (v1 j p q hp hq u hu).evol d2.ev⟩
  | succ i =>
   obtain ⟨g1, g2⟩ := v2 i a b (by simpa using ha) (by simpa using hb)
   exact ⟨g1, fun j p q hp hq u hu => g2 j p q hp hq u (hu.evol d1.ev)⟩
theorem row_list {B : Base} {m : Name → Nat} {s s1 : HS} {w : World} (r : RelH B m s w) {n : Name} {k i len : Nat} {b : Blk} (hn : s.h n = (k, some b)) (hle : i + len ≤ b.xs.length) (hd : DrOk B m s s1 w) (hfz : i + len ≤ s1.fz n)
  {ys : List (List PV)} (hcl : closedLL ys = true) (hl : ys.length = len) (hy : ∀ (q : Nat) (x y : List PV), (b.xs.drop i)[q]? = some x → ys[q]? = some y → y.length = x.length ∧ ∀ (j : Nat) (a c : PV), x[j]? = some a → y[j]? = some c → ∀ u, VR (ctx B s m w) a u → VR (ctx B s1 m w) c u)
  {u : Value} (hx : VR (ctx B s m w) (.row n k i len) u) : VR (ctx B s1 m w) (.list b.sz false ys) u := by
 cases hx with
 | row _ _ _ _ a cap hk hc hm ha =>
  obtain ⟨rfl, hcap⟩ := ha b hn
  obtain ⟨⟨cells, hg, hcs, hall, _⟩, hge, _, hnO⟩ := r.blk n _ b hn
  have hg : CellsOf w (m n) cells b.E := hg
  have hlt := r.lt hn
  subst hl
  have hget : ∀ q, q < ys.length → ∃ x, b.xs[i + q]? = some x ∧ (b.xs.drop i)[q]? = some x := fun q hq => ⟨_, List.getElem?_eq_getElem (by omega), by rw [List.getElem?_drop]; exact List.getElem?_eq_getElem (by omega)⟩
  have hbound : ∀ q j, q < ys.length → j < b.sz → (i + q) * b.sz + j < cells.size := by
   intro q j hq hj
   have : (i + q) * b.sz + b.sz ≤ b.xs.length * b.sz := by rw [← Nat.succ_mul]; exact Nat.mul_le_mul_right _ (by omega)
   omega
  refine .list _ _ _ (m n) (i * b.sz) cap (fun q j => cells.getD ((i + q) * b.sz + j) undef) hcl hc hm (by simp) (fun q y hy' => ?_) (fun q j hq hj => ?_) (fun q j x y hx hyj => ?_) (fun q j hq hj => ?_)
  ·have hq := (List.getElem?_eq_some_iff.1 hy').1
   obtain ⟨x, h1, h2⟩ := hget q hq
   rw [(hy q x y h2 hy').1, (hall _ _ h1).1]
  ·obtain ⟨x, h1, h2⟩ := hget q hq
   obtain ⟨p1, p2⟩ := hall _ _ h1
   obtain ⟨u, q1, q2, _⟩ := p2 j _ (List.getElem?_eq_getElem (by omega))
   rw [Array.getD_eq_getD_getElem?, q1]; exact q2
  ·have hq := (List.getElem?_eq_some_iff.1 hx).1
   obtain ⟨x0, h1, h2⟩ := hget q hq
   obtain ⟨p1, p2⟩ := hall _ _ h1
   obtain ⟨e1, e2⟩ := hy q x0 x h2 hx
   have hj : j < x0.length := by rw [← e1]; exact (List.getElem?_eq_some_iff.1 hyj).1
   obtain ⟨u, q1, _, q3⟩ := p2 j _ (List.getElem?_eq_getElem hj)
   rw [Array.getD_eq_getD_getElem?, q1]
   exact e2 j _ _ (List.getElem?_eq_getElem hj) hyj u q3
  ·refine ⟨.inr ⟨hge, hlt, fun h => absurd h hnO, fun n' k' b' hn' hm' => ?_⟩, ?_⟩
   ·rw [hd.h] at hn'
    obtain rfl := r.inj _ _ _ _ _ _ hn' hn hm'
    have : b' = b := by rw [hn] at hn'; cases hn'; rfl
    subst this
    have h1 : (i + q) * b'.sz + b'.sz ≤ s1.fz n' * b'.sz := by rw [← Nat.succ_mul]; exact Nat.mul_le_mul_right _ (by omega)
    rw [Nat.add_mul] at h1; omega
   ·show w.cell? ⟨m n, i * b.sz + (q * b.sz + j), none⟩ = _
    rw [hg.cell, Array.getD_eq_getD_getElem?]
    have h1 := hbound q j hq hj
    rw [show i * b.sz + (q * b.sz + j) = (i + q) * b.sz + j by rw [Nat.add_mul]; omega, Array.getElem?_eq_getElem h1]; rfl
theorem dr_ok {B : Base} {m : Name → Nat} {w : World} : ∀ k, FnOk B m w (dr k)
 | 0, s, x, y, s1, r, h => by
  simp only [dr] at h
  split at h
  ·cases h; exact ⟨DrOk.refl r, by assumption, rfl, fun _ h => h⟩
  ·cases h
 | k + 1, s, x, y, s1, r, h => by
  simp only [dr] at h
  split at h
  ·cases h; exact ⟨DrOk.refl r, by assumption, rfl, fun _ h => h⟩
  split at h
  ·rename_i n kk i len hnc
   split at h
   case h_2 => cases h
   rename_i kk' b hn
   split at h
   case isFalse => cases h
   rename_i hc
   obtain ⟨rfl, hle⟩ := hc
   have hfr := r.freeze (upd s.fz n (max (s.fz n) (i + len))) (fun n' => by simp only [upd]; split <;> simp_all; omega) (fun n' k' b' hb' => by
    simp only [upd]
    split
    ·rename_i e; subst e
     rw [hn] at hb'; cases hb'
     have := (r.blk _ _ _ hn).2.2.1
     omega
    ·exact (r.blk _ _ _ hb').2.2.1)
   have d0 : DrOk B m s { s with fz := upd s.fz n (max (s.fz n) (i + len)) } w := ⟨hfr.2, hfr.1, rfl⟩
   split at h
   ·rename_i hcl
    cases h
    have hcl2 : closedLL ((b.xs.drop i).take len) = true := by
     rcases Bool.or_eq_true _ _ ▸ hcl with h | h
     ·obtain ⟨⟨_, _, _, _, h4⟩, _⟩ := r.blk n _ b hn
      exact closedLL_sub (h4 h) fun x hx => List.mem_of_mem_drop (List.mem_of_mem_take hx)
     ·exact h
    refine ⟨d0, by simp [closedB], rfl, fun u hu => ?_⟩
    refine row_list r hn hle d0 (by simp; omega) hcl2 (by rw [List.length_take, List.length_drop]; omega) (fun q x y hx hy => ?_) hu
    rw [List.getElem?_take] at hy
    split at hy
    ·rw [hx] at hy; cases hy
     exact ⟨rfl, fun j a c ha hc u hu => by rw [ha] at hc; cases hc; exact hu.evol d0.ev⟩
    ·cases hy
   ·split at h
    case h_2 => cases h
    rename_i ys s' hm
    cases h
    obtain ⟨d1, c1, e1, v1⟩ := mapSS_ok (dr_ok k) _ _ _ _ d0.rel hm
    have hmono : ∀ s s1, DrOk B m s s1 w → True := fun _ _ _ => trivial
    refine ⟨d0.trans d1, by simp [closedB], rfl, fun u hu => ?_⟩
    -- what is frozen stays frozen: through the first step's context
    have hlen : ys.length = len := by rw [e1, List.length_take, List.length_drop]; omega
    cases hu with
    | row _ _ _ _ a cap hk hc hm' ha =>
     obtain ⟨rfl, hcap⟩ := ha b hn
     obtain ⟨⟨cells, hg, hcs, hall, _⟩, hge, _, hnO⟩ := r.blk n _ b hn
     have hg : CellsOf w (m n) cells b.E := hg
     have hlt := r.lt hn
     subst hlen
     have hget : ∀ q, q < ys.length → ∃ x, b.xs[i + q]? = some x ∧ ((b.xs.drop i).take ys.length)[q]? = some x := fun q hq => ⟨_, List.getElem?_eq_getElem (by omega), by rw [List.getElem?_take, if_pos hq, List.getElem?_drop]; exact List.getElem?_eq_getElem (by omega)⟩
     have hbound : ∀ q j, q < ys.length → j < b.sz → (i + q) * b.sz + j < cells.size := by
      intro q j hq hj
      have : (i + q) * b.sz + b.sz ≤ b.xs.length * b.sz := by rw [← Nat.succ_mul]; exact Nat.mul_le_mul_right _ (by omega)
      omega
     refine .list _ _ _ (m n) (i * b.sz) cap (fun q j => cells.getD ((i + q) * b.sz + j) undef) c1 hc hm' (by simp) (fun q y hy' => ?_) (fun q j hq hj => ?_) (fun q j x y hx hyj => ?_) (fun q j hq hj => ?_)
     ·have hq := (List.getElem?_eq_some_iff.1 hy').1
      obtain ⟨x, h1, h2⟩ := hget q hq
      rw [(v1 q x y h2 hy').1, (hall _ _ h1).1]
     ·obtain ⟨x, h1, h2⟩ := hget q hq
      obtain ⟨p1, p2⟩ := hall _ _ h1
      obtain ⟨u, q1, q2, _⟩ := p2 j _ (List.getElem?_eq_getElem (by omega))
      rw [Array.getD_eq_getD_getElem?, q1]; exact q2
     ·have hq := (List.getElem?_eq_some_iff.1 hx).1
      obtain ⟨x0, h1, h2⟩ := hget q hq
      obtain ⟨p1, p2⟩ := hall _ _ h1
      obtain ⟨e1, e2⟩ := v1 q x0 x h2 hx
      have hj : j < x0.length := by rw [← e1]; exact (List.getElem?_eq_some_iff.1 hyj).1
      obtain ⟨u, q1, _, q3⟩ := p2 j _ (List.getElem?_eq_getElem hj)
      rw [Array.getD_eq_getD_getElem?, q1]
      exact e2 j _ _ (List.getElem?_eq_getElem hj) hyj u (q3.evol d0.ev)
     ·refine ⟨d1.ev.S _ _ (.inr ⟨hge, hlt, fun h => absurd h hnO, fun n' k' b' hn' hm'' => ?_⟩), ?_⟩
      ·obtain rfl := r.inj _ _ _ _ _ _ hn' hn hm''
       have : b' = b := by rw [hn] at hn'; cases hn'; rfl
       subst this
       simp only [upd_same]
       have h1 : (i + q) * b'.sz + b'.sz ≤ max (s.fz n') (i + ys.length) * b'.sz := by rw [← Nat.succ_mul]; exact Nat.mul_le_mul_right _ (by omega)
       rw [Nat.add_mul] at h1; omega
      ·show w.cell? ⟨m n, i * b.sz + (q * b.sz + j), none⟩ = _
       rw [hg.cell, Array.getD_eq_getD_getElem?]
       have h1 := hbound q j hq hj
       rw [show i * b.sz + (q * b.sz + j) = (i + q) * b.sz + j by rw [Nat.add_mul]; omega, Array.getElem?_eq_getElem h1]; rfl
  ·rename_i cs hnc
   split at h
   case h_2 => cases h
   rename_i ys s' hm
   cases h
   obtain ⟨d1, c1, e1, v1⟩ := mapS_ok (dr_ok k) _ _ _ _ r hm
   refine ⟨d1, by simp [closedB, c1], rfl, fun u hu => ?_⟩
   cases hu with
   | agg _ vs hl hx =>
    refine .agg _ vs (by rw [hl, e1]) fun j y u h1 h2 => ?_
    have hj : j < cs.length := by rw [← e1]; exact (List.getElem?_eq_some_iff.1 h1).1
    exact v1 j _ y (List.getElem?_eq_getElem hj) h1 u (hx j _ u (List.getElem?_eq_getElem hj) h2)
  ·cases h
end Go.Proofs.YtdbekeidlppfiaaGreatDoor.Den
