/- A plain reading of Go's text: states are laid anew at the head of a loop. -/
import Derived.Test.YtfllhakmjookkaaDenK
set_option linter.unusedVariables false
set_option linter.unusedSimpArgs false
namespace Go.Proofs.Ytfllhakmjookkaa.Den
open Go Go.RowKit

/-! ### names, and how they are changed -/
mutual
def nmB : PV → List (Name × Nat)
  | .ptr n k _ _ => [(n, k)]
  | .row n k _ _ => [(n, k)]
  | .list _ _ xs => nmLL xs
  | .eptr cs => nmL cs
  | .agg cs => nmL cs
  | .tup cs => nmL cs
  | .clo _ cs => nmL cs
  | .ifc _ x => nmB x
  | _ => []
def nmL : List PV → List (Name × Nat)
  | [] => []
  | x :: l => nmB x ++ nmL l
def nmLL : List (List PV) → List (Name × Nat)
  | [] => []
  | x :: l => nmL x ++ nmLL l
end
def TAG : Nat := 4294967295
def idx (d : List (Name × Nat)) (n : Name) (k : Nat) : Option Nat := d.findIdx? fun p => p.1 == n && p.2 == k
mutual
def renB (d : List (Name × Nat)) : PV → PV
  | .ptr n k i off => match idx d n k with
    | some j => .ptr [j, TAG] 1 i off
    | none => .unk
  | .row n k i len => match idx d n k with
    | some j => .row [j, TAG] 1 i len
    | none => .unk
  | .list sz full xs => .list sz full (renLL d xs)
  | .eptr cs => .eptr (renL d cs)
  | .agg cs => .agg (renL d cs)
  | .tup cs => .tup (renL d cs)
  | .clo f cs => .clo f (renL d cs)
  | .ifc t x => .ifc t (renB d x)
  | .v x => .v x
  | .far k => .far k
  | .own .. => .unk
  | .unk => .unk
def renL (d : List (Name × Nat)) : List PV → List PV
  | [] => []
  | x :: l => renB d x :: renL d l
def renLL (d : List (Name × Nat)) : List (List PV) → List (List PV)
  | [] => []
  | x :: l => renL d x :: renLL d l
end
theorem renL_map (d : List (Name × Nat)) : ∀ l, renL d l = l.map (renB d)
  | [] => by simp [renL]
  | x :: l => by simp [renL, renL_map d l]
theorem renLL_map (d : List (Name × Nat)) : ∀ l, renLL d l = l.map (renL d)
  | [] => by simp [renLL]
  | x :: l => by simp [renLL, renLL_map d l]
mutual
theorem renB_closed (d : List (Name × Nat)) : ∀ x, closedB x = true → renB d x = x
  | .ptr .., h => by simp [closedB] at h
  | .row .., h => by simp [closedB] at h
  | .list sz full xs, h => by simp only [renB]; rw [renLL_closed d xs (by simpa [closedB] using h)]
  | .eptr cs, h => by simp only [renB]; rw [renL_closed d cs (by simpa [closedB] using h)]
  | .agg cs, h => by simp only [renB]; rw [renL_closed d cs (by simpa [closedB] using h)]
  | .tup cs, h => by simp only [renB]; rw [renL_closed d cs (by simpa [closedB] using h)]
  | .clo f cs, h => by simp only [renB]; rw [renL_closed d cs (by simpa [closedB] using h)]
  | .ifc t x, h => by simp only [renB]; rw [renB_closed d x (by simpa [closedB] using h)]
  | .v x, h => by simp only [renB]
  | .far k, h => by simp only [renB]
  | .own .., h => by simp [closedB] at h
  | .unk, h => by simp only [renB]
theorem renL_closed (d : List (Name × Nat)) : ∀ l, closedL l = true → renL d l = l
  | [], h => by simp only [renL]
  | x :: l, h => by
    simp only [closedL, Bool.and_eq_true] at h
    simp only [renL]; rw [renB_closed d x h.1, renL_closed d l h.2]
theorem renLL_closed (d : List (Name × Nat)) : ∀ l, closedLL l = true → renLL d l = l
  | [], h => by simp only [renLL]
  | x :: l, h => by
    simp only [closedLL, Bool.and_eq_true] at h
    simp only [renLL]; rw [renL_closed d x h.1, renLL_closed d l h.2]
end
mutual
theorem nmB_closed : ∀ x, closedB x = true → nmB x = []
  | .ptr .., h => by simp [closedB] at h
  | .row .., h => by simp [closedB] at h
  | .list sz full xs, h => by simp only [nmB]; rw [nmLL_closed xs (by simpa [closedB] using h)]
  | .eptr cs, h => by simp only [nmB]; rw [nmL_closed cs (by simpa [closedB] using h)]
  | .agg cs, h => by simp only [nmB]; rw [nmL_closed cs (by simpa [closedB] using h)]
  | .tup cs, h => by simp only [nmB]; rw [nmL_closed cs (by simpa [closedB] using h)]
  | .clo f cs, h => by simp only [nmB]; rw [nmL_closed cs (by simpa [closedB] using h)]
  | .ifc t x, h => by simp only [nmB]; rw [nmB_closed x (by simpa [closedB] using h)]
  | .v x, h => by simp only [nmB]
  | .far k, h => by simp only [nmB]
  | .own .., h => by simp [closedB] at h
  | .unk, h => by simp only [nmB]
theorem nmL_closed : ∀ l, closedL l = true → nmL l = []
  | [], h => by simp only [nmL]
  | x :: l, h => by
    simp only [closedL, Bool.and_eq_true] at h
    simp only [nmL]; rw [nmB_closed x h.1, nmL_closed l h.2]; rfl
theorem nmLL_closed : ∀ l, closedLL l = true → nmLL l = []
  | [], h => by simp only [nmLL]
  | x :: l, h => by
    simp only [closedLL, Bool.and_eq_true] at h
    simp only [nmLL]; rw [nmL_closed x h.1, nmLL_closed l h.2]; rfl
end

/-! ### a heap that is laid anew -/
def hpL (bs : List Blk) : Hp := fun n => match n with
  | [j, t] => if t = TAG then (match bs[j]? with | some b => (1, some b) | none => (0, none)) else (0, none)
  | _ => (0, none)
def fzL (fs : List Nat) : Name → Nat := fun n => match n with
  | [j, t] => if t = TAG then fs.getD j 0 else 0
  | _ => 0
def envL (l : List (Nat × PV)) : Nat → PV := fun t => match l.lookup t with
  | some x => x
  | none => .unk
def liveB (s : HS) (p : Name × Nat) : Bool := match s.h p.1 with
  | (k, some _) => k == p.2
  | _ => false
def blkOf (s : HS) (p : Name × Nat) : Blk := match s.h p.1 with
  | (_, some b) => b
  | _ => ⟨0, 0, []⟩
def coll (s : HS) : Nat → List (Name × Nat) → List (Name × Nat) → List (Name × Nat)
  | 0, _, d => d
  | _ + 1, [], d => d
  | k + 1, p :: t, d => if liveB s p && !(d.any fun q => q.1 == p.1) then coll s k (t ++ nmLL (blkOf s p).xs) (d ++ [p]) else coll s k t d
def canonH (s : HS) (d : List (Name × Nat)) : HS := ⟨hpL (d.map fun p => ⟨(blkOf s p).sz, (blkOf s p).E, renLL d (blkOf s p).xs⟩), fzL (d.map fun p => s.fz p.1)⟩
def canonM (m : Name → Nat) (d : List (Name × Nat)) : Name → Nat := fun n => match n with
  | [j, t] => if t = TAG then (match d[j]? with | some p => m p.1 | none => 0) else 0
  | _ => 0
def goodD (s : HS) (d : List (Name × Nat)) : Bool := d.all (liveB s) && nodupN (d.map (·.1))
where nodupN : List Name → Bool
  | [] => true
  | x :: l => !(l.contains x) && nodupN l
theorem nodupN_ok : ∀ {l : List Name}, goodD.nodupN l = true → l.Nodup
  | [], _ => List.nodup_nil
  | x :: l, h => by
    simp [goodD.nodupN] at h
    exact List.nodup_cons.2 ⟨h.1, nodupN_ok h.2⟩
def canonS (keep : List Nat) (σ : St) : Option St :=
  let d := coll σ.hs 60 (keep.flatMap fun t => nmB (σ.env t)) []
  if goodD σ.hs d then some ⟨envL (keep.map fun t => (t, renB d (σ.env t))), canonH σ.hs d⟩ else none

/-- How contexts go on when names are laid anew. -/
structure SEvol (c c' : Ctx) : Prop where
  F : c'.F = c.F
  S : ∀ g o, c.S g o → c'.S g o
  cell : ∀ g o u, c.S g o → c.w.cell? ⟨g, o, none⟩ = some u → c'.w.cell? ⟨g, o, none⟩ = some u
theorem SEvol.refl (c : Ctx) : SEvol c c := ⟨rfl, fun _ _ h => h, fun _ _ _ _ h => h⟩
theorem SEvol.trans {a b c : Ctx} (h : SEvol a b) (k : SEvol b c) : SEvol a c := ⟨k.F.trans h.F, fun g o hs => k.S _ _ (h.S _ _ hs), fun g o u hs hc => k.cell _ _ _ (h.S _ _ hs) (h.cell _ _ _ hs hc)⟩
theorem Evol.sev {a b : Ctx} (h : Evol a b) : SEvol a b := ⟨h.F, h.S, h.cell⟩
theorem VR.sev {c c' : Ctx} (e : SEvol c c') {x : PV} {u : Value} (h : VR c x u) (hc : closedB x = true) : VR c' x u := VR.closed e.F (fun g o hs => ⟨e.S g o hs, fun u hu => e.cell g o u hs hu⟩) h hc
theorem GOk.sev {c c' : Ctx} {G : Glo} (e : SEvol c c') (h : GOk c G) : GOk c' G := ⟨fun g cs hg => (h.rel g cs hg).sev e (by simp [closedB, h.closed g cs hg]), h.closed⟩

section
variable {B : Base} {m : Name → Nat} {s : HS} {w : World} {d : List (Name × Nat)}
theorem good_at (hg : goodD s d = true) {j : Nat} {p : Name × Nat} (hj : d[j]? = some p) : ∃ b, s.h p.1 = (p.2, some b) ∧ blkOf s p = b := by
  unfold goodD at hg
  rw [Bool.and_eq_true] at hg
  have := List.all_eq_true.1 hg.1 p (List.mem_of_getElem? hj)
  unfold liveB at this
  unfold blkOf
  split at this
  · rename_i k b hb
    simp at this; subst this
    exact ⟨b, hb, by first | rfl | rw [hb]⟩
  · cases this
theorem canon_h {j : Nat} : (canonH s d).h [j, TAG] = match d[j]? with | some p => (1, some ⟨(blkOf s p).sz, (blkOf s p).E, renLL d (blkOf s p).xs⟩) | none => (0, none) := by
  simp only [canonH, hpL, if_true, List.getElem?_map]
  cases d[j]? <;> rfl
theorem canon_live {n : Name} {k : Nat} {b : Blk} (h : (canonH s d).h n = (k, some b)) : ∃ j p, n = [j, TAG] ∧ k = 1 ∧ d[j]? = some p ∧ b = ⟨(blkOf s p).sz, (blkOf s p).E, renLL d (blkOf s p).xs⟩ := by
  have h0 := h
  simp only [canonH, hpL] at h
  split at h
  · rename_i j t
    split at h
    · rename_i ht
      subst ht
      rw [canon_h] at h0
      split at h0
      · rename_i p hp
        cases h0
        exact ⟨j, p, rfl, rfl, hp, rfl⟩
      · cases h0
    · cases h
  · cases h
theorem canon_m {j : Nat} {p : Name × Nat} (h : d[j]? = some p) : canonM m d [j, TAG] = m p.1 := by simp [canonM, h]
theorem canon_fz {j : Nat} {p : Name × Nat} (h : d[j]? = some p) : (canonH s d).fz [j, TAG] = s.fz p.1 := by
  simp only [canonH, fzL, if_true]
  rw [List.getD_eq_getElem?_getD, List.getElem?_map, h]; rfl
theorem canon_sev (hg : goodD s d = true) : SEvol (ctx B s m w) (ctx B (canonH s d) (canonM m d) w) := by
  refine ⟨rfl, fun g o hs => ?_, fun _ _ _ _ h => h⟩
  rcases hs with hs | ⟨h1, h2, h3⟩
  · exact .inl hs
  · refine .inr ⟨h1, h2, fun n k b hn hm => ?_⟩
    obtain ⟨j, p, rfl, rfl, hp, rfl⟩ := canon_live hn
    obtain ⟨b, hb, hb2⟩ := good_at hg hp
    rw [canon_m hp] at hm
    rw [canon_fz hp, hb2]
    exact h3 p.1 p.2 b hb hm
theorem idx_some {n : Name} {k j : Nat} (h : idx d n k = some j) : d[j]? = some (n, k) := by
  unfold idx at h
  obtain ⟨hj, h1, _⟩ := List.findIdx?_eq_some_iff_getElem.1 h
  simp at h1
  rw [List.getElem?_eq_getElem hj]
  congr 1
  exact Prod.ext h1.1 h1.2
theorem ren_ok (hg : goodD s d = true) {x : PV} {u : Value} (h : VR (ctx B s m w) x u) : VR (ctx B (canonH s d) (canonM m d) w) (renB d x) u := by
  have e := canon_sev (B := B) (m := m) (w := w) hg
  have hL : ∀ (l : List PV) (j : Nat) (y : PV), (renL d l)[j]? = some y → ∃ z, l[j]? = some z ∧ y = renB d z := by
    intro l j y hy
    rw [renL_map, List.getElem?_map] at hy
    obtain ⟨z, hz, rfl⟩ := Option.map_eq_some_iff.1 hy
    exact ⟨z, hz, rfl⟩
  have hLL : ∀ (l : List (List PV)) (j : Nat) (y : List PV), (renLL d l)[j]? = some y → ∃ z, l[j]? = some z ∧ y = renL d z := by
    intro l j y hy
    rw [renLL_map, List.getElem?_map] at hy
    obtain ⟨z, hz, rfl⟩ := Option.map_eq_some_iff.1 hy
    exact ⟨z, hz, rfl⟩
  have lenL : ∀ l : List PV, (renL d l).length = l.length := fun l => by rw [renL_map]; simp
  have lenLL : ∀ l : List (List PV), (renLL d l).length = l.length := fun l => by rw [renLL_map]; simp
  induction h with
  | v x => simp only [renB]; exact .v x
  | unk u => simp only [renB]; exact .unk u
  | far k => simp only [renB]; exact .far (c := ctx B (canonH s d) (canonM m d) w) k
  | lnil sz full => simp only [renB, renLL]; exact .lnil sz full
  | ptr n k i off a hk ha =>
    simp only [renB]
    split
    · rename_i j hj
      have hp := idx_some hj
      obtain ⟨b, hb, hb2⟩ := good_at hg hp
      refine .ptr _ _ _ _ a (by simp [ctx, canon_h, hp]) fun b' hb' => ?_
      have hb' : (canonH s d).h [j, TAG] = (1, some b') := hb'
      rw [canon_h, hp] at hb'
      cases hb'
      rw [ha b hb, hb2]
      show (⟨m n, _, none⟩ : Addr) = ⟨canonM m d [j, TAG], _, none⟩
      rw [canon_m hp]
    · exact .unk _
  | row n k i len a cap hk hc hm ha =>
    simp only [renB]
    split
    · rename_i j hj
      have hp := idx_some hj
      obtain ⟨b, hb, hb2⟩ := good_at hg hp
      refine .row _ _ _ _ a cap (by simp [ctx, canon_h, hp]) hc hm fun b' hb' => ?_
      have hb' : (canonH s d).h [j, TAG] = (1, some b') := hb'
      rw [canon_h, hp] at hb'
      cases hb'
      obtain ⟨p, q⟩ := ha b hb
      simp only [hb2]
      refine ⟨?_, ?_⟩
      · rw [p]
        show (⟨m n, _, none⟩ : Addr) = ⟨canonM m d [j, TAG], _, none⟩
        rw [canon_m hp]
      · rw [q]
        show bsize w (m n) = bsize w (canonM m d [j, TAG])
        rw [canon_m hp]
    · exact .unk _
  | list sz full xs g off cap us hc hm hf hl ho hx hw ih =>
    simp only [renB]
    have := VR.list (c := ctx B (canonH s d) (canonM m d) w) sz full (renLL d xs) g off cap us (by rw [lenLL]; exact hc) hm (by rw [lenLL]; exact hf)
      (fun i y hy => by obtain ⟨z, hz, rfl⟩ := hLL _ _ _ hy; rw [lenL]; exact hl i z hz) (by rw [lenLL]; exact ho)
      (fun i j y z hy hz => by
        obtain ⟨y', hy', rfl⟩ := hLL _ _ _ hy
        obtain ⟨z', hz', rfl⟩ := hL _ _ _ hz
        exact ih i j y' z' hy' hz')
      (fun i j h1 h2 => by rw [lenLL] at h1; exact ⟨e.S _ _ (hw i j h1 h2).1, (hw i j h1 h2).2⟩)
    rw [lenLL] at this; exact this
  | eptr cs g off us hx hw ih =>
    simp only [renB]
    exact .eptr _ g off us (fun j y hy => by obtain ⟨z, hz, rfl⟩ := hL _ _ _ hy; exact ih j z hz) (fun j hj => by rw [lenL] at hj; exact ⟨e.S _ _ (hw j hj).1, (hw j hj).2⟩)
  | agg cs vs hl hx ih =>
    simp only [renB]
    exact .agg _ vs (by rw [lenL]; exact hl) fun j y u hy hu => by obtain ⟨z, hz, rfl⟩ := hL _ _ _ hy; exact ih j z u hz hu
  | tup cs vs hl hx ih =>
    simp only [renB]
    exact .tup _ vs (by rw [lenL]; exact hl) fun j y u hy hu => by obtain ⟨z, hz, rfl⟩ := hL _ _ _ hy; exact ih j z u hz hu
  | clo f cs vs hl hx ih =>
    simp only [renB]
    exact .clo f _ vs (by rw [lenL]; exact hl) fun j y u hy hu => by obtain ⟨z, hz, rfl⟩ := hL _ _ _ hy; exact ih j z u hz hu
  | ifc t x u hx ih => simp only [renB]; exact .ifc t _ u ih
theorem canon_rel (hg : goodD s d = true) (r : RelH B m s w) : RelH B (canonM m d) (canonH s d) w := by
  refine ⟨r.base, r.below, fun n k b hn => ?_, fun n n' k k' b b' hn hn' he => ?_⟩
  · obtain ⟨j, p, rfl, rfl, hp, rfl⟩ := canon_live hn
    obtain ⟨b, hb, hb2⟩ := good_at hg hp
    obtain ⟨⟨cells, h1, h2, h3⟩, h4, h5⟩ := r.blk p.1 p.2 b hb
    rw [canon_m hp, canon_fz hp, hb2]
    refine ⟨⟨cells, h1, by simp only [renLL_map, List.length_map]; exact h2, fun i x hx => ?_⟩, h4, by simp only [renLL_map, List.length_map]; exact h5⟩
    simp only at hx
    rw [renLL_map, List.getElem?_map] at hx
    obtain ⟨z, hz, rfl⟩ := Option.map_eq_some_iff.1 hx
    refine ⟨by rw [renL_map]; simpa using (h3 i z hz).1, fun q y hy => ?_⟩
    rw [renL_map, List.getElem?_map] at hy
    obtain ⟨y', hy', rfl⟩ := Option.map_eq_some_iff.1 hy
    obtain ⟨u, p1, p2, p3⟩ := (h3 i z hz).2 q y' hy'
    exact ⟨u, p1, p2, ren_ok hg p3⟩
  · obtain ⟨j, p, rfl, rfl, hp, rfl⟩ := canon_live hn
    obtain ⟨j', p', rfl, rfl, hp', rfl⟩ := canon_live hn'
    obtain ⟨b, hb, _⟩ := good_at hg hp
    obtain ⟨b', hb', _⟩ := good_at hg hp'
    rw [canon_m hp, canon_m hp'] at he
    have := r.inj _ _ _ _ _ _ hb hb' he
    unfold goodD at hg
    rw [Bool.and_eq_true] at hg
    have hnd := nodupN_ok hg.2
    have e1 : (d.map (·.1))[j]? = some p.1 := by rw [List.getElem?_map, hp]; rfl
    have e2 : (d.map (·.1))[j']? = some p.1 := by rw [List.getElem?_map, hp', this]; rfl
    have hlt := (List.getElem?_eq_some_iff.1 e1).1
    have := (List.getElem?_inj hlt hnd).1 (e1.trans e2.symm)
    rw [this]
end
theorem canonS_ok {B : Base} {G : Glo} {nt : Nat} {m : Name → Nat} {keep : List Nat} {σ σ' : St} {a : Act} {w : World} (h : canonS keep σ = some σ') (r : Rel B G nt m σ a w) : ∃ m', Rel B G nt m' σ' a w ∧ SEvol (ctx B σ.hs m w) (ctx B σ'.hs m' w) := by
  unfold canonS at h
  simp only at h
  split at h
  case isFalse => cases h
  rename_i hg
  cases h
  refine ⟨_, ⟨canon_rel hg r.heap, fun t => ?_, r.size, r.defers, r.glo.sev (canon_sev hg)⟩, canon_sev hg⟩
  simp only [envL]
  split
  · rename_i x hx
    have : ∀ (l : List Nat), (l.map fun t => (t, renB (coll σ.hs 60 (keep.flatMap fun t => nmB (σ.env t)) []) (σ.env t))).lookup t = some x → x = renB (coll σ.hs 60 (keep.flatMap fun t => nmB (σ.env t)) []) (σ.env t) := by
      intro l
      induction l with
      | nil => intro h; simp at h
      | cons q l ih =>
        intro h
        rw [List.map_cons, List.lookup_cons] at h
        split at h
        · rename_i e; cases h; simp at e; subst e; rfl
        · exact ih h
    rw [this keep hx]
    exact ren_ok hg (r.env t)
  · exact .unk _

/-! ### code, loops laid anew -/
def keyOf : Code → Nat
  | .region id _ _ => id
  | .seq x _ => keyOf x
  | .block _ c => keyOf c
  | .loop c => keyOf c
  | .cond _ x _ => keyOf x
  | _ => 0
def loopK (keep : List Nat) (f : St → Option (Ex × St)) : Nat → St → Option (Ex × St)
  | 0, _ => none
  | k + 1, σ => match canonS keep σ with
    | none => none
    | some σ0 => match f σ0 with
      | some (.normal, σ') => loopK keep f k σ'
      | r => r
def loopX (keep : Option (List Nat)) (f : St → Option (Ex × St)) (lf : Nat) (σ : St) : Option (Ex × St) := match keep with
  | some keep => loopK keep f lf σ
  | none => loopD f lf σ
def codeP (R : RegD) (G : Glo) (lf : Nat) (kt : Nat → Option (List Nat)) : Code → St → Option (Ex × St)
  | .skip, σ => some (.normal, σ)
  | .label _, σ => some (.normal, σ)
  | .region id ops draw, σ => match R id ops draw σ with
    | some σ' => some (.normal, σ')
    | none => none
  | .seq x y, σ => match codeP R G lf kt x σ with
    | some (.normal, σ') => codeP R G lf kt y σ'
    | r => r
  | .cond c x y, σ => match ev G σ.env c with
    | .v (.bool true) => codeP R G lf kt x σ
    | .v (.bool false) => codeP R G lf kt y σ
    | _ => none
  | .block id c, σ => match codeP R G lf kt c σ with
    | some (.exit id', σ') => if id' = id then some (.normal, σ') else some (.exit id', σ')
    | r => r
  | .loop c, σ => loopX (kt (keyOf c)) (codeP R G lf kt c) lf σ
  | .exit id, σ => some (.exit id, σ)
  | .ret, σ => some (.ret, σ)
  | _, _ => none
def PostP (B : Base) (G : Glo) (nt : Nat) (m : Name → Nat) (σ : St) (w : World) (ex : Ex) (σ' : St) : Exit → Act → World → Prop :=
  fun e a' w' => e = ex.out ∧ ∃ m', Rel B G nt m' σ' a' w' ∧ SEvol (ctx B σ.hs m w) (ctx B σ'.hs m' w')
def CodePOk (P : Program) (G : Glo) (nt : Nat) (c : Code) (f : St → Option (Ex × St)) : Prop :=
  ∀ σ ex σ', f σ = some (ex, σ') → ∀ (B : Base) (m : Name → Nat) (a : Act) (w : World), Rel B G nt m σ a w → c.wp P (PostP B G nt m σ w ex σ') a w
theorem PostP.from {B : Base} {G : Glo} {nt : Nat} {m m1 : Name → Nat} {σ σ1 σ' : St} {w w1 : World} {ex : Ex} {e : Exit} {a' : Act} {w' : World} (ev : SEvol (ctx B σ.hs m w) (ctx B σ1.hs m1 w1)) (h : PostP B G nt m1 σ1 w1 ex σ' e a' w') : PostP B G nt m σ w ex σ' e a' w' := by
  obtain ⟨h1, m', h2, h3⟩ := h
  exact ⟨h1, m', h2, ev.trans h3⟩
theorem loopP_ok {P : Program} {G : Glo} {nt : Nat} {c : Code} {f : St → Option (Ex × St)} (hc : CodePOk P G nt c f) : ∀ (k : Nat) (σ : St) (ex : Ex) (σ' : St), loopD f k σ = some (ex, σ') → ∀ (B : Base) (m : Name → Nat) (a : Act) (w : World), Rel B G nt m σ a w →
    Code.rounds P c (PostP B G nt m σ w ex σ') k a w
  | 0, σ, ex, σ', h, B, m, a, w, r => by simp [loopD] at h
  | k + 1, σ, ex, σ', h, B, m, a, w, r => by
    rw [rounds_succ]
    simp only [loopD] at h
    split at h
    · rename_i σ1 h1
      refine wp_mono (hc σ .normal σ1 h1 B m a w r) ?_
      rintro e a1 w1 ⟨rfl, m1, r1, e1⟩
      show Code.rounds P c _ k a1 w1
      exact loop_ok.rounds_mono k a1 w1 (loopP_ok hc k σ1 ex σ' h B m1 a1 w1 r1) fun e a' w' hp => PostP.from e1 hp
    · rename_i hne
      refine wp_mono (hc σ ex σ' h B m a w r) ?_
      rintro e a1 w1 ⟨rfl, m1, r1, e1⟩
      cases ex with
      | normal => exact absurd h (hne _)
      | exit id => exact ⟨rfl, m1, r1, e1⟩
      | ret => exact ⟨rfl, m1, r1, e1⟩
theorem loopK_ok {P : Program} {G : Glo} {nt : Nat} {c : Code} {f : St → Option (Ex × St)} {keep : List Nat} (hc : CodePOk P G nt c f) : ∀ (k : Nat) (σ : St) (ex : Ex) (σ' : St), loopK keep f k σ = some (ex, σ') → ∀ (B : Base) (m : Name → Nat) (a : Act) (w : World), Rel B G nt m σ a w →
    Code.rounds P c (PostP B G nt m σ w ex σ') k a w
  | 0, σ, ex, σ', h, B, m, a, w, r => by simp [loopK] at h
  | k + 1, σ, ex, σ', h, B, m, a, w, r => by
    rw [rounds_succ]
    simp only [loopK] at h
    split at h
    · cases h
    rename_i σ0 h0
    obtain ⟨m0, r0, e0⟩ := canonS_ok h0 r
    split at h
    · rename_i σ1 h1
      refine wp_mono (hc σ0 .normal σ1 h1 B m0 a w r0) ?_
      rintro e a1 w1 ⟨rfl, m1, r1, e1⟩
      show Code.rounds P c _ k a1 w1
      exact loop_ok.rounds_mono k a1 w1 (loopK_ok hc k σ1 ex σ' h B m1 a1 w1 r1) fun e a' w' hp => PostP.from (e0.trans e1) hp
    · rename_i hne
      refine wp_mono (hc σ0 ex σ' h B m0 a w r0) ?_
      rintro e a1 w1 ⟨rfl, m1, r1, e1⟩
      cases ex with
      | normal => exact absurd h (hne _)
      | exit id => exact ⟨rfl, m1, r1, e0.trans e1⟩
      | ret => exact ⟨rfl, m1, r1, e0.trans e1⟩
theorem codeP_ok {P : Program} {G : Glo} {nt : Nat} {R : RegD} (hR : RegOk P G nt R) (lf : Nat) (kt : Nat → Option (List Nat)) : ∀ c : Code, CodePOk P G nt c (codeP R G lf kt c)
  | .skip, σ, ex, σ', h, B, m, a, w, r => by simp [codeP] at h; obtain ⟨rfl, rfl⟩ := h; exact wp_skip ⟨rfl, m, r, SEvol.refl _⟩
  | .label l, σ, ex, σ', h, B, m, a, w, r => by simp [codeP] at h; obtain ⟨rfl, rfl⟩ := h; exact wp_label ⟨rfl, m, r, SEvol.refl _⟩
  | .region id ops draw, σ, ex, σ', h, B, m, a, w, r => by
    simp only [codeP] at h
    split at h
    case h_2 => cases h
    rename_i σ1 h1
    cases h
    exact wp_mono (hR id ops draw σ σ' h1 B m a w r) fun e a' w' ⟨h1, m', h2, h3⟩ => ⟨h1, m', h2, h3.sev⟩
  | .seq x y, σ, ex, σ', h, B, m, a, w, r => by
    simp only [codeP] at h
    refine wp_seq ?_
    split at h
    · rename_i σ1 h1
      refine wp_mono (codeP_ok hR lf kt x σ _ _ h1 B m a w r) ?_
      rintro e a1 w1 ⟨rfl, m1, r1, e1⟩
      exact wp_mono (codeP_ok hR lf kt y σ1 ex σ' h B m1 a1 w1 r1) fun e a' w' hp => PostP.from e1 hp
    · rename_i hne
      refine wp_mono (codeP_ok hR lf kt x σ _ _ h B m a w r) ?_
      rintro e a1 w1 ⟨rfl, m1, r1, e1⟩
      cases ex with
      | normal => exact absurd h (hne _)
      | exit id => exact ⟨rfl, m1, r1, e1⟩
      | ret => exact ⟨rfl, m1, r1, e1⟩
  | .cond c x y, σ, ex, σ', h, B, m, a, w, r => by
    simp only [codeP] at h
    have hc := r.ev c
    split at h
    · rename_i hcv
      have := VR.toV _ hc (by rw [hcv]; rfl)
      exact wp_cond_true this (codeP_ok hR lf kt x σ ex σ' h B m a w r)
    · rename_i hcv
      have := VR.toV _ hc (by rw [hcv]; rfl)
      exact wp_cond_false this (codeP_ok hR lf kt y σ ex σ' h B m a w r)
    · cases h
  | .block id c, σ, ex, σ', h, B, m, a, w, r => by
    simp only [codeP] at h
    refine wp_block ?_
    split at h
    · rename_i id' σ1 h1
      refine wp_mono (codeP_ok hR lf kt c σ _ _ h1 B m a w r) ?_
      rintro e a1 w1 ⟨rfl, m1, r1, e1⟩
      show if id' = id then _ else _
      split at h
      · rename_i hid
        cases h
        rw [if_pos hid]; exact ⟨rfl, m1, r1, e1⟩
      · rename_i hid
        cases h
        rw [if_neg hid]; exact ⟨rfl, m1, r1, e1⟩
    · rename_i hne
      refine wp_mono (codeP_ok hR lf kt c σ _ _ h B m a w r) ?_
      rintro e a1 w1 ⟨rfl, m1, r1, e1⟩
      cases ex with
      | normal => exact ⟨rfl, m1, r1, e1⟩
      | exit id' => exact absurd h (hne _ _)
      | ret => exact ⟨rfl, m1, r1, e1⟩
  | .loop c, σ, ex, σ', h, B, m, a, w, r => by
    simp only [codeP, loopX] at h
    split at h
    · exact wp_loop_rounds lf (loopK_ok (codeP_ok hR lf kt c) lf σ ex σ' h B m a w r)
    · exact wp_loop_rounds lf (loopP_ok (codeP_ok hR lf kt c) lf σ ex σ' h B m a w r)
  | .exit id, σ, ex, σ', h, B, m, a, w, r => by simp [codeP] at h; obtain ⟨rfl, rfl⟩ := h; exact wp_exit ⟨rfl, m, r, SEvol.refl _⟩
  | .ret, σ, ex, σ', h, B, m, a, w, r => by simp [codeP] at h; obtain ⟨rfl, rfl⟩ := h; exact wp_ret ⟨rfl, m, r, SEvol.refl _⟩
  | .scope _, σ, ex, σ', h, B, m, a, w, r => by simp [codeP] at h
  | .goto _, σ, ex, σ', h, B, m, a, w, r => by simp [codeP] at h
  | .rangeFunc .., σ, ex, σ', h, B, m, a, w, r => by simp [codeP] at h
  | .refuse _, σ, ex, σ', h, B, m, a, w, r => by simp [codeP] at h

/-! ### bodies -/
def bodyP (P : Program) (G : Glo) (R : Nat → RegD) (lf : Nat) (kt : Nat → Option (List Nat)) (f : FuncId) (args : List PV) (s : HS) : Option (PV × HS) :=
  match P.funcs[f]? with
  | some fn => match fn.body with
    | some c => if args.length ≤ fn.ntmps then
        match codeP (R fn.ntmps) G lf kt c ⟨fun t => args.getD t (.v undef), s⟩ with
        | some (.exit _, _) => none
        | some (_, σ) => match resD P σ fn.results.toList with
          | some xs => some (oneOr xs, σ.hs)
          | none => none
        | none => none
      else none
    | none => none
  | none => none
theorem bodyP_ok {P : Program} {G : Glo} {R : Nat → RegD} (hR : ∀ nt, RegOk P G nt (R nt)) {lf : Nat} {kt : Nat → Option (List Nat)} {f : FuncId} {args : List PV} {s s1 : HS} {r : PV} (h : bodyP P G R lf kt f args s = some (r, s1)) {B : Base} {m : Name → Nat} {w : World} {vs : Array Value} (hr : RelH B m s w) (hg : GOk (ctx B s m w) G)
    (hl : vs.size = args.length) (ha : ∀ (j : Nat) (x : PV) (u : Value), args[j]? = some x → vs[j]? = some u → VR (ctx B s m w) x u) :
    Calls P f vs w fun e w' => ∃ v m', e = .returned v ∧ RelH B m' s1 w' ∧ VR (ctx B s1 m' w') r v := by
  unfold bodyP at h
  split at h
  case h_2 => cases h
  rename_i fn hf
  split at h
  case h_2 => cases h
  rename_i c hc
  split at h
  case isFalse => cases h
  rename_i hle
  refine calls_of_wp hf hc ?_
  have hrel : Rel B G fn.ntmps m ⟨fun t => args.getD t (.v undef), s⟩ { tmps := vs ++ Array.replicate (fn.ntmps - vs.size) undef, defers := [] } w := by
    refine ⟨hr, fun t => ?_, by simp; omega, rfl, hg⟩
    simp only
    rw [Array.getD_eq_getD_getElem?, List.getD_eq_getElem?_getD]
    rcases Nat.lt_or_ge t args.length with hlt | hge
    · rw [List.getElem?_eq_getElem hlt, Array.getElem?_append_left (by omega), Array.getElem?_eq_getElem (by omega)]
      exact ha t _ _ (List.getElem?_eq_getElem hlt) (Array.getElem?_eq_getElem (by omega))
    · rw [List.getElem?_eq_none hge, Array.getElem?_append_right (by omega), Array.getElem?_replicate]
      split <;> exact .v _
  have fin : ∀ (ex : Ex) (σ : St), codeP (R fn.ntmps) G lf kt c ⟨fun t => args.getD t (.v undef), s⟩ = some (ex, σ) → (∀ id, ex ≠ .exit id) → (match resD P σ fn.results.toList with | some xs => some (oneOr xs, σ.hs) | none => none) = some (r, s1) →
      c.wp P (bodyPost P fn fun e w' => ∃ v m', e = .returned v ∧ RelH B m' s1 w' ∧ VR (ctx B s1 m' w') r v) { tmps := vs ++ Array.replicate (fn.ntmps - vs.size) undef, defers := [] } w := by
    intro ex σ hcd hex hres
    refine wp_mono (codeP_ok (hR fn.ntmps) lf kt c _ ex σ hcd B m _ w hrel) ?_
    rintro e a' w' ⟨rfl, m', r', e'⟩
    split at hres
    case h_2 => cases hres
    rename_i xs hxs
    cases hres
    obtain ⟨us, g1, g2, g3⟩ := resD_ok r' _ _ hxs
    have hrun := results_run fn a'.tmps w' us g1
    have hv : VR (ctx B σ.hs m' w') (oneOr xs) (oneOrV us) := by
      match xs, us, g2 with
      | [], [], _ => exact .tup [] #[] rfl fun j y u h => by simp at h
      | [x], [u], _ => exact g3 0 x u rfl rfl
      | x :: y :: l, u :: v :: l', hl => exact .tup _ _ (by simpa using hl) fun j a b h1 h2 => g3 j a b h1 (by simpa using h2)
    cases ex with
    | exit id => exact absurd rfl (hex id)
    | normal => exact ⟨r'.defers, _, hrun, _, m', rfl, r'.heap, hv⟩
    | ret => exact ⟨r'.defers, _, hrun, _, m', rfl, r'.heap, hv⟩
  split at h
  · cases h
  · rename_i ex σ hne hcd
    exact fin ex σ hcd (fun id e => by first | exact hne _ e | exact hne _ _ e | (subst e; exact hne _ rfl)) h
  · cases h
end Go.Proofs.Ytfllhakmjookkaa.Den
