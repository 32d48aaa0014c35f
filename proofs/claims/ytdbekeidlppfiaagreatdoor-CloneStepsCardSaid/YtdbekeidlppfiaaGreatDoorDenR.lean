/- Texts joined by a program of mine (pack.py): DenR. -/
import Derived.Test.YtdbekeidlppfiaaGreatDoorDenMn
import Derived.Test.YtdbekeidlppfiaaGreatDoorDenK
set_option linter.unusedVariables false
set_option linter.unusedSimpArgs false
namespace Go.Proofs.YtdbekeidlppfiaaGreatDoor.Den
open Go Go.RowKit
abbrev Ren := Name → Nat → Option (Name × Nat)
mutual
def renB (φ : Ren) : PV → PV
 | .ptr n k i off => match φ n k with
  | some p => .ptr p.1 p.2 i off
  | none => .unk
 | .row n k i len => match φ n k with
  | some p => .row p.1 p.2 i len
  | none => .unk
 | .list sz full xs => .list sz full xs
 | .eptr cs => .eptr cs
 | .agg cs => .agg (renL φ cs)
 | .tup cs => .tup (renL φ cs)
 | .clo f cs => .clo f (renL φ cs)
 | .mth f cs => .mth f (renL φ cs)
 | .ifc t x => .ifc t (renB φ x)
 | .v x => .v x
 | .far k => .far k
 | .own .. => .unk
 | .unk => .unk
def renL (φ : Ren) : List PV → List PV
 | [] => []
 | x :: l => renB φ x :: renL φ l
end
def renLL (φ : Ren) : List (List PV) → List (List PV)
 | [] => []
 | x :: l => renL φ x :: renLL φ l
def renBlk (φ : Ren) (b : Blk) : Blk := ⟨b.sz, b.E, if b.cl then b.xs else renLL φ b.xs, b.cl, b.rw⟩
theorem renL_map (φ : Ren) : ∀ l, renL φ l = l.map (renB φ)
 | [] => by simp only [renL, List.map]
 | x :: l => by simp only [renL, List.map_cons]; rw [renL_map φ l]
theorem renLL_map (φ : Ren) : ∀ l, renLL φ l = l.map (renL φ)
 | [] => by simp only [renLL, List.map]
 | x :: l => by simp only [renLL, List.map_cons]; rw [renLL_map φ l]
structure SEvol (c c' : Ctx) : Prop where
 F : c'.F = c.F
 S : ∀ g o, c.S g o → c'.S g o
 cell : ∀ g o u, c.S g o → c.w.cell? ⟨g, o, none⟩ = some u → c'.w.cell? ⟨g, o, none⟩ = some u
 kind : ∀ (g : Nat) (cs : Array Value) (t : TypeId), c.w.heap[g]? = some (.cells cs t (0, 0)) → ∃ cs' : Array Value, c'.w.heap[g]? = some (.cells cs' t (0, 0)) ∧ cs'.size = cs.size
theorem SEvol.refl (c : Ctx) : SEvol c c := ⟨rfl, fun _ _ h => h, fun _ _ _ _ h => h, fun _ cs _ h => ⟨cs, h, rfl⟩⟩
theorem SEvol.trans {a b c : Ctx} (h : SEvol a b) (k : SEvol b c) : SEvol a c := ⟨k.F.trans h.F, fun g o hs => k.S _ _ (h.S _ _ hs), fun g o u hs hc => k.cell _ _ _ (h.S _ _ hs) (h.cell _ _ _ hs hc), fun g cs t hg => by
  obtain ⟨cs1, h1, e1⟩ := h.kind g cs t hg
  obtain ⟨cs2, h2, e2⟩ := k.kind g cs1 t h1
  exact ⟨cs2, h2, e2.trans e1⟩⟩
theorem Evol.sev {a b : Ctx} (h : Evol a b) : SEvol a b := ⟨h.F, h.S, h.cell, h.kind⟩
theorem VR.sev {c c' : Ctx} (e : SEvol c c') {x : PV} {u : Value} (h : VR c x u) (hc : closedB x = true) : VR c' x u := VR.closed e.F (fun g o hs => ⟨e.S g o hs, fun u hu => e.cell g o u hs hu⟩) h hc
theorem GOk.sev {c c' : Ctx} {G : Glo} (e : SEvol c c') (h : GOk c G) : GOk c' G := ⟨fun g cs hg => (h.rel g cs hg).sev e (by simp [closedB]), h.closed, fun g g' t t' k k' h1 h2 hf => h.inj g g' t t' k k' h1 h2 (by rw [e.F] at hf; exact hf), fun g t k hg => by
 obtain ⟨cs, E, h1⟩ := h.far g t k hg
 obtain ⟨cs', h2, _⟩ := e.kind _ cs E h1
 exact ⟨cs', E, by rw [e.F]; exact h2⟩, fun g hg => by
 obtain ⟨m, h1, h2⟩ := h.num g hg
 exact ⟨m, e.S _ _ h1, e.cell _ _ _ h1 h2⟩, fun g x y cs hg => by
 obtain ⟨vs, E, h1, h2⟩ := h.sz g x y cs hg
 obtain ⟨vs', h3, h4⟩ := e.kind _ vs E h1
 exact ⟨vs', E, h3, h4.trans h2⟩⟩
structure RenOk (c c' : Ctx) (φ : Ren) : Prop where
 sev : SEvol c c'
 nm : ∀ n k p, φ n k = some p → p.2 ≤ (c'.h p.1).1 ∧ ∀ b', c'.h p.1 = (p.2, some b') → ∃ b, c.h n = (k, some b) ∧ b.sz = b'.sz ∧ c'.m p.1 = c.m n ∧ bsize c'.w (c'.m p.1) = bsize c.w (c.m n)
theorem ren_ok {c c' : Ctx} {φ : Ren} (R : RenOk c c' φ) {x : PV} {u : Value} (h : VR c x u) : VR c' (renB φ x) u := by
 have hL : ∀ (l : List PV) (j : Nat) (y : PV), (renL φ l)[j]? = some y → ∃ z, l[j]? = some z ∧ y = renB φ z := by
  intro l j y hy
  rw [renL_map, List.getElem?_map] at hy
  obtain ⟨z, hz, rfl⟩ := Option.map_eq_some_iff.1 hy
  exact ⟨z, hz, rfl⟩
 have lenL : ∀ l : List PV, (renL φ l).length = l.length := fun l => by rw [renL_map]; simp
 induction h with
 | v x => simp only [renB]; exact .v x
 | unk u => simp only [renB]; exact .unk u
 | far k => simp only [renB]; rw [← R.sev.F]; exact .far k
 | lnil sz full a => simp only [renB]; exact .lnil sz full a
 | list sz full xs g off cap us hcl hc hm hf hl ho hx hw ih => simp only [renB]; exact (VR.list sz full xs g off cap us hcl hc hm hf hl ho hx hw).sev R.sev (by simp [closedB])
 | eptr cs g off us hcl hx hw ih => simp only [renB]; exact (VR.eptr cs g off us hcl hx hw).sev R.sev (by simp [closedB])
 | ptr n k i off a hk ha =>
  simp only [renB]
  split
  ·rename_i p hp
   obtain ⟨h1, h2⟩ := R.nm n k p hp
   refine .ptr _ _ _ _ a h1 fun b' hb' => ?_
   obtain ⟨b, g1, g2, g3, g4⟩ := h2 b' hb'
   rw [ha b g1, g2, g3]
  ·exact .unk _
 | row n k i len a cap hk hc hm ha =>
  simp only [renB]
  split
  ·rename_i p hp
   obtain ⟨h1, h2⟩ := R.nm n k p hp
   refine .row _ _ _ _ a cap h1 hc hm fun b' hb' => ?_
   obtain ⟨b, g1, g2, g3, g4⟩ := h2 b' hb'
   obtain ⟨e1, e2⟩ := ha b g1
   exact ⟨by rw [e1, g2, g3], by rw [← g2, e2, g4]⟩
  ·exact .unk _
 | agg cs vs hl hx ih =>
  simp only [renB]
  exact .agg _ vs (by rw [lenL]; exact hl) fun j y u hy hu => by obtain ⟨z, hz, rfl⟩ := hL _ _ _ hy; exact ih j z u hz hu
 | tup cs vs hl hx ih =>
  simp only [renB]
  exact .tup _ vs (by rw [lenL]; exact hl) fun j y u hy hu => by obtain ⟨z, hz, rfl⟩ := hL _ _ _ hy; exact ih j z u hz hu
 | clo f cs vs hl hx ih =>
  simp only [renB]
  exact .clo f _ vs (by rw [lenL]; exact hl) fun j y u hy hu => by obtain ⟨z, hz, rfl⟩ := hL _ _ _ hy; exact ih j z u hz hu
 | mth f cs vs hl hx ih =>
  simp only [renB]
  exact .mth f _ vs (by rw [lenL]; exact hl) fun j y u hy hu => by obtain ⟨z, hz, rfl⟩ := hL _ _ _ hy; exact ih j z u hz hu
 | ifc t x u hx ih => simp only [renB]; exact .ifc t _ u ih
theorem BlkOk.ren {c c' : Ctx} {φ : Ren} (R : RenOk c c' φ) {b : Blk} {g : Nat} (hg : c'.w.heap[g]? = c.w.heap[g]?) (h : BlkOk c b g) : BlkOk c' (renBlk φ b) g := by
 obtain ⟨cells, h1, h2, h3, h4⟩ := h
 cases hcl : b.cl with
 | true =>
  have hcc := closedLL_iff.1 (h4 hcl)
  refine ⟨cells, h1.of_block hg, by simpa [renBlk, hcl] using h2, fun i x hx => ?_, fun _ => by simpa [renBlk, hcl] using h4 hcl⟩
  have hx' : b.xs[i]? = some x := by simpa [renBlk, hcl] using hx
  refine ⟨(h3 i x hx').1, fun j y hy => ?_⟩
  obtain ⟨u, p1, p2, p3⟩ := (h3 i x hx').2 j y hy
  exact ⟨u, p1, p2, p3.sev R.sev (hcc x (List.mem_of_getElem? hx') y (List.mem_of_getElem? hy))⟩
 | false =>
  refine ⟨cells, h1.of_block hg, by simpa [renBlk, hcl, renLL_map] using h2, fun i x hx => ?_, fun h => by simp [renBlk, hcl] at h⟩
  have hx' : (renLL φ b.xs)[i]? = some x := by simpa [renBlk, hcl] using hx
  rw [renLL_map, List.getElem?_map] at hx'
  obtain ⟨z, hz, rfl⟩ := Option.map_eq_some_iff.1 hx'
  refine ⟨by rw [renL_map]; simpa [renBlk] using (h3 i z hz).1, fun q y hy => ?_⟩
  rw [renL_map, List.getElem?_map] at hy
  obtain ⟨y', hy', rfl⟩ := Option.map_eq_some_iff.1 hy
  obtain ⟨u, p1, p2, p3⟩ := (h3 i z hz).2 q y' hy'
  exact ⟨u, p1, p2, ren_ok R p3⟩
theorem renBlk_len (φ : Ren) (b : Blk) : (renBlk φ b).xs.length = b.xs.length := by
 unfold renBlk; simp only; split
 ·rfl
 ·rw [renLL_map]; simp
def hpL (bs : List (Option Blk)) : Hp := fun n => match n with
 | [j, t] => if t = TAG then (match bs[j]? with | some b => (1, b) | none => (0, none)) else (0, none)
 | _ => (0, none)
def fzL (fs : List Nat) : Name → Nat := fun n => match n with
 | [j, t] => if t = TAG then fs.getD j 0 else 0
 | _ => 0
def hsL (bs : List (Option Blk)) (fs : List Nat) : HS := ⟨hpL bs, fzL fs⟩
def envL (l : List (Nat × PV)) : Nat → PV := fun t => match l.lookup t with
 | some x => x
 | none => .unk
theorem coll_prefix (s : HS) : ∀ (k : Nat) (t d : List (Name × Nat)), ∃ e, coll s k t d = d ++ e
 | 0, _, d => ⟨[], by simp [coll]⟩
 | k + 1, [], d => ⟨[], by simp [coll]⟩
 | k + 1, p :: t, d => by
  simp only [coll]
  split
  ·obtain ⟨e, he⟩ := coll_prefix s k (t ++ nmBlk (blkOf s p)) (d ++ [p])
   exact ⟨p :: e, by rw [he]; simp⟩
  ·exact coll_prefix s k t d
def rootsD (r : Nat) : List (Name × Nat) := (List.range r).map fun j => ([j, TAG], 1)
def collR (r : Nat) (s : HS) (ns : List (Name × Nat)) : List (Name × Nat) := coll s 60 (ns ++ (rootsD r).flatMap fun p => if liveB s p then nmBlk (blkOf s p) else []) (rootsD r)
theorem collR_root {r : Nat} {s : HS} {ns : List (Name × Nat)} {j : Nat} (hj : j < r) : (collR r s ns)[j]? = some ([j, TAG], 1) := by
 obtain ⟨e, he⟩ := coll_prefix s 60 (ns ++ (rootsD r).flatMap fun p => if liveB s p then nmBlk (blkOf s p) else []) (rootsD r)
 unfold collR
 rw [he, List.getElem?_append_left (by simp [rootsD, hj])]
 simp [rootsD, hj]
theorem collR_len {r : Nat} {s : HS} {ns : List (Name × Nat)} : r ≤ (collR r s ns).length := by
 obtain ⟨e, he⟩ := coll_prefix s 60 (ns ++ (rootsD r).flatMap fun p => if liveB s p then nmBlk (blkOf s p) else []) (rootsD r)
 unfold collR
 rw [he]; simp [rootsD]
def idx (d : List (Name × Nat)) (n : Name) (k : Nat) : Option Nat := d.findIdx? fun p => p.1 == n && p.2 == k
theorem idx_some {d : List (Name × Nat)} {n : Name} {k j : Nat} (h : idx d n k = some j) : d[j]? = some (n, k) := by
 unfold idx at h
 obtain ⟨hj, h1, _⟩ := List.findIdx?_eq_some_iff_getElem.1 h
 simp at h1
 rw [List.getElem?_eq_getElem hj]
 congr 1
 exact Prod.ext h1.1 h1.2
def idR (d : List (Name × Nat)) : Ren := fun n k => (idx d n k).map fun j => ([j, TAG], 1)
def obs (s : HS) (d : List (Name × Nat)) : List (Option Blk) := d.map fun p => if liveB s p then some (renBlk (idR d) (blkOf s p)) else none
def fzs (s : HS) (d : List (Name × Nat)) : List Nat := d.map fun p => s.fz p.1
def canonM (m : Name → Nat) (d : List (Name × Nat)) : Name → Nat := fun n => match n with
 | [j, t] => if t = TAG then (match d[j]? with | some p => m p.1 | none => 0) else 0
 | _ => 0
def nodupN : List Name → Bool
 | [] => true
 | x :: l => !(l.contains x) && nodupN l
theorem nodupN_ok : ∀ {l : List Name}, nodupN l = true → l.Nodup
 | [], _ => List.nodup_nil
 | x :: l, h => by
  simp [nodupN] at h
  exact List.nodup_cons.2 ⟨h.1, nodupN_ok h.2⟩
def goodD (d : List (Name × Nat)) : Bool := nodupN (d.map (·.1))
theorem hpL_at (bs : List (Option Blk)) (j : Nat) : hpL bs [j, TAG] = match bs[j]? with | some b => (1, b) | none => (0, none) := by simp [hpL]
theorem hpL_live {bs : List (Option Blk)} {n : Name} {k : Nat} {b : Blk} (h : hpL bs n = (k, some b)) : ∃ j, n = [j, TAG] ∧ k = 1 ∧ bs[j]? = some (some b) := by
 have h0 := h
 simp only [hpL] at h
 split at h
 ·rename_i j t
  split at h
  ·rename_i ht
   subst ht
   split at h
   ·rename_i b0 hb
    simp only [Prod.mk.injEq] at h
    obtain ⟨rfl, rfl⟩ := h
    exact ⟨j, rfl, rfl, hb⟩
   ·cases h
  ·cases h
 ·cases h
theorem live_at {s : HS} {p : Name × Nat} (h : liveB s p = true) : s.h p.1 = (p.2, some (blkOf s p)) := by
 unfold liveB at h
 unfold blkOf
 split at h
 ·rename_i k b hb
  simp at h; subst h
  rw [hb]
 ·cases h
structure Rebase (B B' : Base) (m : Name → Nat) (s : HS) (w : World) (d : List (Name × Nat)) : Prop where
 base : B'.base = B.base
 S0 : B'.S0 = B.S0
 F : B'.F = B.F
 w0 : B'.w0 = B.w0
 free : ∀ (j : Nat) (p : Name × Nat), d[j]? = some p → liveB s p = true → ¬ B'.O (m p.1)
 keep : ∀ g, B'.O g → g < w.heap.size ∧ w.heap[g]? = B'.wO.heap[g]?
 stay : ∀ g o, B.base ≤ g → Simm B s m w g o → B'.O g → B'.SO g o
 roots : ∀ (j ρ z β : Nat), B'.roots[j]? = some (ρ, z, β) → ∃ p : Name × Nat, d[j]? = some p ∧ (liveB s p = true → m p.1 = ρ ∧ (blkOf s p).sz = z ∧ bsize w ρ = β)
section
variable {B B' : Base} {m : Name → Nat} {s : HS} {w : World} {d : List (Name × Nat)}
theorem obs_at {j : Nat} : (hsL (obs s d) (fzs s d)).h [j, TAG] = match d[j]? with | some p => (1, if liveB s p then some (renBlk (idR d) (blkOf s p)) else none) | none => (0, none) := by
 show hpL (obs s d) [j, TAG] = _
 rw [hpL_at]
 unfold obs
 rw [List.getElem?_map]
 cases d[j]? <;> rfl
theorem obs_live {n : Name} {k : Nat} {b : Blk} (h : (hsL (obs s d) (fzs s d)).h n = (k, some b)) : ∃ j p, n = [j, TAG] ∧ k = 1 ∧ d[j]? = some p ∧ liveB s p = true ∧ b = renBlk (idR d) (blkOf s p) := by
 obtain ⟨j, rfl, rfl, hj⟩ := hpL_live h
 unfold obs at hj
 rw [List.getElem?_map] at hj
 obtain ⟨p, hp, he⟩ := Option.map_eq_some_iff.1 hj
 split at he
 ·rename_i hl
  cases he
  exact ⟨j, p, rfl, rfl, hp, hl, rfl⟩
 ·cases he
theorem canon_m {j : Nat} {p : Name × Nat} (h : d[j]? = some p) : canonM m d [j, TAG] = m p.1 := by simp [canonM, h]
theorem canon_fz {j : Nat} {p : Name × Nat} (h : d[j]? = some p) : (hsL (obs s d) (fzs s d)).fz [j, TAG] = s.fz p.1 := by
 simp only [hsL, fzL, if_true, fzs]
 rw [List.getD_eq_getElem?_getD, List.getElem?_map, h]; rfl
theorem canon_sev (R : Rebase B B' m s w d) : SEvol (ctx B s m w) (ctx B' (hsL (obs s d) (fzs s d)) (canonM m d) w) := by
 refine ⟨R.F, fun g o hs => ?_, fun _ _ _ _ h => h, fun _ cs _ h => ⟨cs, h, rfl⟩⟩
 have hs0 := hs
 rcases hs with hs | ⟨h1, h2, hO, h3⟩
 ·left; rw [R.base, R.S0]; exact hs
 ·refine .inr ⟨by rw [R.base]; exact h1, h2, R.stay g o h1 hs0, fun n k b hn hm => ?_⟩
  obtain ⟨j, p, rfl, rfl, hp, hl, rfl⟩ := obs_live hn
  rw [canon_m hp] at hm
  rw [canon_fz hp]
  have := h3 p.1 p.2 _ (live_at hl) hm
  exact this
theorem canon_ren (R : Rebase B B' m s w d) : RenOk (ctx B s m w) (ctx B' (hsL (obs s d) (fzs s d)) (canonM m d) w) (idR d) := by
 refine ⟨canon_sev R, fun n k p hp => ?_⟩
 obtain ⟨j, hj, rfl⟩ := Option.map_eq_some_iff.1 hp
 have hd := idx_some hj
 refine ⟨by simp only [ctx]; rw [obs_at, hd]; simp, fun b' hb' => ?_⟩
 simp only [ctx] at hb' ⊢
 rw [obs_at, hd] at hb'
 simp only [Prod.mk.injEq, true_and] at hb'
 split at hb'
 case isFalse => cases hb'
 rename_i hl
 cases hb'
 exact ⟨_, live_at hl, rfl, canon_m hd, by rw [canon_m hd]⟩
theorem canon_rel (hg : goodD d = true) (r : RelH B m s w) (R : Rebase B B' m s w d) : RelH B' (canonM m d) (hsL (obs s d) (fzs s d)) w := by
 refine ⟨by rw [R.base, R.w0]; exact r.base, by rw [R.base, R.w0]; exact r.below, fun n k b hn => ?_, fun n n' k k' b b' hn hn' he => ?_, R.keep, fun j ρ z β hj => ?_⟩
 ·obtain ⟨j, p, rfl, rfl, hp, hl, rfl⟩ := obs_live hn
  obtain ⟨h1, h4, h5, _⟩ := r.blk p.1 p.2 _ (live_at hl)
  rw [canon_m hp, canon_fz hp, R.base, renBlk_len]
  exact ⟨h1.ren (canon_ren R) rfl, h4, h5, R.free j p hp hl⟩
 ·obtain ⟨j, p, rfl, rfl, hp, hl, rfl⟩ := obs_live hn
  obtain ⟨j', p', rfl, rfl, hp', hl', rfl⟩ := obs_live hn'
  rw [canon_m hp, canon_m hp'] at he
  have := r.inj _ _ _ _ _ _ (live_at hl) (live_at hl') he
  have hnd := nodupN_ok hg
  have e1 : (d.map (·.1))[j]? = some p.1 := by rw [List.getElem?_map, hp]; rfl
  have e2 : (d.map (·.1))[j']? = some p.1 := by rw [List.getElem?_map, hp', this]; rfl
  have hlt := (List.getElem?_eq_some_iff.1 e1).1
  have := (List.getElem?_inj hlt hnd).1 (e1.trans e2.symm)
  rw [this]
 ·obtain ⟨p, hp, h1⟩ := R.roots j ρ z β hj
  refine ⟨by rw [obs_at, hp]; exact Nat.le_refl _, fun b hb => ?_⟩
  rw [obs_at, hp] at hb
  simp only [Prod.mk.injEq, true_and] at hb
  split at hb
  case isFalse => cases hb
  rename_i hl
  cases hb
  rw [canon_m hp]
  exact h1 hl
end
theorem rebase_same {B : Base} {m : Name → Nat} {s : HS} {w : World} (r : RelH B m s w) {n : Nat} (hn : B.roots.length ≤ n) (ns : List (Name × Nat)) : Rebase B B m s w (collR n s ns) where
 base := rfl
 S0 := rfl
 F := rfl
 w0 := rfl
 free j p hp hl := (r.blk p.1 p.2 _ (live_at hl)).2.2.2
 keep := r.keep
 stay g o hb hs hO := by
  rcases hs with ⟨h, _⟩ | ⟨_, _, h, _⟩
  ·omega
  ·exact h hO
 roots j ρ z β hj := by
  have hlt := (List.getElem?_eq_some_iff.1 hj).1
  refine ⟨_, collR_root (by omega), fun hl => ?_⟩
  have h2 := (r.root j ρ z β hj).2 _ (live_at hl)
  exact h2
def canonS (r : Nat) (keep : List Nat) (σ : St) : Option St :=
 let d := collR r σ.hs (keep.flatMap fun t => nmB (σ.env t))
 if goodD d then some ⟨envL (keep.map fun t => (t, renB (idR d) (σ.env t))), hsL (obs σ.hs d) (fzs σ.hs d)⟩ else none
theorem canonS_ok {B : Base} {G : Glo} {nt r : Nat} {m : Name → Nat} {keep : List Nat} {σ σ' : St} {a : Act} {w : World} (h : canonS r keep σ = some σ') (hr : B.roots.length ≤ r) (R : Rel B G nt m σ a w) : ∃ m', Rel B G nt m' σ' a w ∧ SEvol (ctx B σ.hs m w) (ctx B σ'.hs m' w) := by
 unfold canonS at h
 simp only at h
 split at h
 case isFalse => cases h
 rename_i hg
 cases h
 have hb := rebase_same R.heap hr (keep.flatMap fun t => nmB (σ.env t))
 refine ⟨_, ⟨canon_rel hg R.heap hb, fun t => ?_, R.size, R.defers, R.glo.sev (canon_sev hb)⟩, canon_sev hb⟩
 simp only [envL]
 split
 ·rename_i x hx
  have : ∀ (φ : Ren) (l : List Nat), (l.map fun t => (t, renB φ (σ.env t))).lookup t = some x → x = renB φ (σ.env t) := by
   intro φ l
   induction l with
   | nil => intro h; simp at h
   | cons q l ih =>
    intro h
    rw [List.map_cons, List.lookup_cons] at h
    split at h
    ·rename_i e; cases h; simp at e; subst e; rfl
    ·exact ih h
  rw [this _ keep hx]
  exact ren_ok (canon_ren hb) (R.env t)
 ·exact .unk _
def canonV (r : Nat) (x : PV) (s : HS) : Option (PV × List (Option Blk) × List Nat) :=
 let d := collR r s (nmB x)
 if goodD d then some (renB (idR d) x, obs s d, fzs s d) else none
def keyOf : Code → Nat
 | .region id _ _ => id
 | .seq x _ => keyOf x
 | .block _ c => keyOf c
 | .loop c => keyOf c
 | .cond _ x _ => keyOf x
 | _ => 0
def loopK (r : Nat) (keep : List Nat) (f : St → Option (Ex × St)) : Nat → St → Option (Ex × St)
 | 0, _ => none
 | k + 1, σ => match canonS r keep σ with
  | none => none
  | some σ0 => match f σ0 with
   | some (.normal, σ') => loopK r keep f k σ'
   | r => r
def loopX (r : Nat) (keep : Option (List Nat)) (f : St → Option (Ex × St)) (lf : Nat) (σ : St) : Option (Ex × St) := match keep with
 | some keep => loopK r keep f lf σ
 | none => loopD f lf σ
def codeP (R : RegD) (G : Glo) (lf : Nat) (kt : Nat → Option (List Nat)) (r : Nat) : Code → St → Option (Ex × St)
 | .skip, σ => some (.normal, σ)
 | .label _, σ => some (.normal, σ)
 | .region id ops draw, σ => match R id ops draw σ with
  | some σ' => some (.normal, σ')
  | none => none
 | .seq x y, σ => match codeP R G lf kt r x σ with
  | some (.normal, σ') => codeP R G lf kt r y σ'
  | r => r
 | .cond c x y, σ => match ev G σ.env c with
  | .v (.bool true) => codeP R G lf kt r x σ
  | .v (.bool false) => codeP R G lf kt r y σ
  | _ => none
 | .block id c, σ => match codeP R G lf kt r c σ with
  | some (.exit id', σ') => if id' = id then some (.normal, σ') else some (.exit id', σ')
  | r => r
 | .loop c, σ => loopX r (kt (keyOf c)) (codeP R G lf kt r c) lf σ
 | .exit id, σ => some (.exit id, σ)
 | .ret, σ => some (.ret, σ)
 | _, _ => none
def PostP (B : Base) (G : Glo) (nt : Nat) (m : Name → Nat) (σ : St) (w : World) (ex : Ex) (σ' : St) : Exit → Act → World → Prop :=
 fun e a' w' => e = ex.out ∧ ∃ m', Rel B G nt m' σ' a' w' ∧ SEvol (ctx B σ.hs m w) (ctx B σ'.hs m' w')
def CodePOk (P : Program) (G : Glo) (nt r : Nat) (c : Code) (f : St → Option (Ex × St)) : Prop :=
 ∀ σ ex σ', f σ = some (ex, σ') → ∀ (B : Base) (m : Name → Nat) (a : Act) (w : World), B.roots.length ≤ r → Rel B G nt m σ a w → c.wp P (PostP B G nt m σ w ex σ') a w
theorem PostP.from {B : Base} {G : Glo} {nt : Nat} {m m1 : Name → Nat} {σ σ1 σ' : St} {w w1 : World} {ex : Ex} {e : Exit} {a' : Act} {w' : World} (ev : SEvol (ctx B σ.hs m w) (ctx B σ1.hs m1 w1)) (h : PostP B G nt m1 σ1 w1 ex σ' e a' w') : PostP B G nt m σ w ex σ' e a' w' := by
 obtain ⟨h1, m', h2, h3⟩ := h
 exact ⟨h1, m', h2, ev.trans h3⟩
theorem loopP_ok {P : Program} {G : Glo} {nt r0 : Nat} {c : Code} {f : St → Option (Ex × St)} (hc : CodePOk P G nt r0 c f) : ∀ (k : Nat) (σ : St) (ex : Ex) (σ' : St), loopD f k σ = some (ex, σ') → ∀ (B : Base) (m : Name → Nat) (a : Act) (w : World), B.roots.length ≤ r0 → Rel B G nt m σ a w →
  Code.rounds P c (PostP B G nt m σ w ex σ') k a w
 | 0, σ, ex, σ', h, B, m, a, w, hb, r => by simp [loopD] at h
 | k + 1, σ, ex, σ', h, B, m, a, w, hb, r => by
  rw [rounds_succ]
  simp only [loopD] at h
  split at h
  ·rename_i σ1 h1
   refine wp_mono (hc σ .normal σ1 h1 B m a w hb r) ?_
   rintro e a1 w1 ⟨rfl, m1, r1, e1⟩
   show Code.rounds P c _ k a1 w1
   exact loop_ok.rounds_mono k a1 w1 (loopP_ok hc k σ1 ex σ' h B m1 a1 w1 hb r1) fun e a' w' hp => PostP.from e1 hp
  ·rename_i hne
   refine wp_mono (hc σ ex σ' h B m a w hb r) ?_
   rintro e a1 w1 ⟨rfl, m1, r1, e1⟩
   cases ex with
   | normal => exact absurd h (hne _)
   | exit id => exact ⟨rfl, m1, r1, e1⟩
   | ret => exact ⟨rfl, m1, r1, e1⟩
theorem loopK_ok {P : Program} {G : Glo} {nt r0 : Nat} {c : Code} {f : St → Option (Ex × St)} {keep : List Nat} (hc : CodePOk P G nt r0 c f) : ∀ (k : Nat) (σ : St) (ex : Ex) (σ' : St), loopK r0 keep f k σ = some (ex, σ') → ∀ (B : Base) (m : Name → Nat) (a : Act) (w : World), B.roots.length ≤ r0 → Rel B G nt m σ a w →
  Code.rounds P c (PostP B G nt m σ w ex σ') k a w
 | 0, σ, ex, σ', h, B, m, a, w, hb, r => by simp [loopK] at h
 | k + 1, σ, ex, σ', h, B, m, a, w, hb, r => by
  rw [rounds_succ]
  simp only [loopK] at h
  split at h
  ·cases h
  rename_i σ0 h0
  obtain ⟨m0, r0, e0⟩ := canonS_ok h0 hb r
  split at h
  ·rename_i σ1 h1
   refine wp_mono (hc σ0 .normal σ1 h1 B m0 a w hb r0) ?_
   rintro e a1 w1 ⟨rfl, m1, r1, e1⟩
   show Code.rounds P c _ k a1 w1
   exact loop_ok.rounds_mono k a1 w1 (loopK_ok hc k σ1 ex σ' h B m1 a1 w1 hb r1) fun e a' w' hp => PostP.from (e0.trans e1) hp
  ·rename_i hne
   refine wp_mono (hc σ0 ex σ' h B m0 a w hb r0) ?_
   rintro e a1 w1 ⟨rfl, m1, r1, e1⟩
   cases ex with
   | normal => exact absurd h (hne _)
   | exit id => exact ⟨rfl, m1, r1, e0.trans e1⟩
   | ret => exact ⟨rfl, m1, r1, e0.trans e1⟩
theorem codeP_ok {P : Program} {G : Glo} {nt : Nat} {R : RegD} (hR : RegOk P G nt R) (lf : Nat) (kt : Nat → Option (List Nat)) (r0 : Nat) : ∀ c : Code, CodePOk P G nt r0 c (codeP R G lf kt r0 c)
 | .skip, σ, ex, σ', h, B, m, a, w, hb, r => by simp [codeP] at h; obtain ⟨rfl, rfl⟩ := h; exact wp_skip ⟨rfl, m, r, SEvol.refl _⟩
 | .label l, σ, ex, σ', h, B, m, a, w, hb, r => by simp [codeP] at h; obtain ⟨rfl, rfl⟩ := h; exact wp_label ⟨rfl, m, r, SEvol.refl _⟩
 | .region id ops draw, σ, ex, σ', h, B, m, a, w, hb, r => by
  simp only [codeP] at h
  split at h
  case h_2 => cases h
  rename_i σ1 h1
  cases h
  exact wp_mono (hR id ops draw σ σ' h1 B m a w r) fun e a' w' ⟨h1, m', h2, h3⟩ => ⟨h1, m', h2, h3.sev⟩
 | .seq x y, σ, ex, σ', h, B, m, a, w, hb, r => by
  simp only [codeP] at h
  refine wp_seq ?_
  split at h
  ·rename_i σ1 h1
   refine wp_mono (codeP_ok hR lf kt r0 x σ _ _ h1 B m a w hb r) ?_
   rintro e a1 w1 ⟨rfl, m1, r1, e1⟩
   exact wp_mono (codeP_ok hR lf kt r0 y σ1 ex σ' h B m1 a1 w1 hb r1) fun e a' w' hp => PostP.from e1 hp
  ·rename_i hne
   refine wp_mono (codeP_ok hR lf kt r0 x σ _ _ h B m a w hb r) ?_
   rintro e a1 w1 ⟨rfl, m1, r1, e1⟩
   cases ex with
   | normal => exact absurd h (hne _)
   | exit id => exact ⟨rfl, m1, r1, e1⟩
   | ret => exact ⟨rfl, m1, r1, e1⟩
 | .cond c x y, σ, ex, σ', h, B, m, a, w, hb, r => by
  simp only [codeP] at h
  have hc := r.ev c
  split at h
  ·rename_i hcv
   have := VR.toV _ hc (by rw [hcv]; rfl)
   exact wp_cond_true this (codeP_ok hR lf kt r0 x σ ex σ' h B m a w hb r)
  ·rename_i hcv
   have := VR.toV _ hc (by rw [hcv]; rfl)
   exact wp_cond_false this (codeP_ok hR lf kt r0 y σ ex σ' h B m a w hb r)
  ·cases h
 | .block id c, σ, ex, σ', h, B, m, a, w, hb, r => by
  simp only [codeP] at h
  refine wp_block ?_
  split at h
  ·rename_i id' σ1 h1
   refine wp_mono (codeP_ok hR lf kt r0 c σ _ _ h1 B m a w hb r) ?_
   rintro e a1 w1 ⟨rfl, m1, r1, e1⟩
   show if id' = id then _ else _
   split at h
   ·rename_i hid
    cases h
    rw [if_pos hid]; exact ⟨rfl, m1, r1, e1⟩
   ·rename_i hid
    cases h
    rw [if_neg hid]; exact ⟨rfl, m1, r1, e1⟩
  ·rename_i hne
   refine wp_mono (codeP_ok hR lf kt r0 c σ _ _ h B m a w hb r) ?_
   rintro e a1 w1 ⟨rfl, m1, r1, e1⟩
   cases ex with
   | normal => exact ⟨rfl, m1, r1, e1⟩
   | exit id' => exact absurd h (hne _ _)
   | ret => exact ⟨rfl, m1, r1, e1⟩
 | .loop c, σ, ex, σ', h, B, m, a, w, hb, r => by
  simp only [codeP, loopX] at h
  split at h
  ·exact wp_loop_rounds lf (loopK_ok (codeP_ok hR lf kt r0 c) lf σ ex σ' h B m a w hb r)
  ·exact wp_loop_rounds lf (loopP_ok (codeP_ok hR lf kt r0 c) lf σ ex σ' h B m a w hb r)
 | .exit id, σ, ex, σ', h, B, m, a, w, hb, r => by simp [codeP] at h; obtain ⟨rfl, rfl⟩ := h; exact wp_exit ⟨rfl, m, r, SEvol.refl _⟩
 | .ret, σ, ex, σ', h, B, m, a, w, hb, r => by simp [codeP] at h; obtain ⟨rfl, rfl⟩ := h; exact wp_ret ⟨rfl, m, r, SEvol.refl _⟩
 | .scope _, σ, ex, σ', h, B, m, a, w, hb, r => by simp [codeP] at h
 | .goto _, σ, ex, σ', h, B, m, a, w, hb, r => by simp [codeP] at h
 | .rangeFunc .., σ, ex, σ', h, B, m, a, w, hb, r => by simp [codeP] at h
 | .refuse _, σ, ex, σ', h, B, m, a, w, hb, r => by simp [codeP] at h
def bodyP (P : Program) (G : Glo) (R : Nat → RegD) (lf : Nat) (kt : Nat → Option (List Nat)) (r0 : Nat) (f : FuncId) (args : List PV) (s : HS) : Option (PV × HS) :=
 match P.funcs[f]? with
 | some fn => match fn.body with
  | some c => if args.length ≤ fn.ntmps then
    match codeP (R fn.ntmps) G lf kt r0 c ⟨fun t => args.getD t (.v undef), s⟩ with
    | some (.exit _, _) => none
    | some (_, σ) => match resD P σ fn.results.toList with
     | some xs => some (oneOr xs, σ.hs)
     | none => none
    | none => none
   else none
  | none => none
 | none => none
theorem bodyP_ok {P : Program} {G : Glo} {R : Nat → RegD} (hR : ∀ nt, RegOk P G nt (R nt)) {lf : Nat} {kt : Nat → Option (List Nat)} {r0 : Nat} {f : FuncId} {args : List PV} {s s1 : HS} {r : PV} (h : bodyP P G R lf kt r0 f args s = some (r, s1)) {B : Base} (hb : B.roots.length ≤ r0) {m : Name → Nat} {w : World} {vs : Array Value} (hr : RelH B m s w) (hg : GOk (ctx B s m w) G)
  (hl : vs.size = args.length) (ha : ∀ (j : Nat) (x : PV) (u : Value), args[j]? = some x → vs[j]? = some u → VR (ctx B s m w) x u) :
  Calls P f vs w fun e w' => ∃ v m', e = .returned v ∧ RelH B m' s1 w' ∧ SEvol (ctx B s m w) (ctx B s1 m' w') ∧ VR (ctx B s1 m' w') r v := by
 unfold bodyP at h
 split at h
 case h_2 => cases h
 rename_i fn hf
 split at h
 case h_2 => cases h
 rename_i c hc
 split at h
 case isFalse => cases h
 rename_i hle
 refine calls_of_wp hf hc ?_
 have hrel : Rel B G fn.ntmps m ⟨fun t => args.getD t (.v undef), s⟩ { tmps := vs ++ Array.replicate (fn.ntmps - vs.size) undef, defers := [] } w := by
  refine ⟨hr, fun t => ?_, by simp; omega, rfl, hg⟩
  simp only
  rw [Array.getD_eq_getD_getElem?, List.getD_eq_getElem?_getD]
  rcases Nat.lt_or_ge t args.length with hlt | hge
  ·rw [List.getElem?_eq_getElem hlt, Array.getElem?_append_left (by omega), Array.getElem?_eq_getElem (by omega)]
   exact ha t _ _ (List.getElem?_eq_getElem hlt) (Array.getElem?_eq_getElem (by omega))
  ·rw [List.getElem?_eq_none hge, Array.getElem?_append_right (by omega), Array.getElem?_replicate]
   split <;> exact .v _
 have fin : ∀ (ex : Ex) (σ : St), codeP (R fn.ntmps) G lf kt r0 c ⟨fun t => args.getD t (.v undef), s⟩ = some (ex, σ) → (∀ id, ex ≠ .exit id) → (match resD P σ fn.results.toList with | some xs => some (oneOr xs, σ.hs) | none => none) = some (r, s1) →
   c.wp P (bodyPost P fn fun e w' => ∃ v m', e = .returned v ∧ RelH B m' s1 w' ∧ SEvol (ctx B s m w) (ctx B s1 m' w') ∧ VR (ctx B s1 m' w') r v) { tmps := vs ++ Array.replicate (fn.ntmps - vs.size) undef, defers := [] } w := by
  intro ex σ hcd hex hres
  refine wp_mono (codeP_ok (hR fn.ntmps) lf kt r0 c _ ex σ hcd B m _ w hb hrel) ?_
  rintro e a' w' ⟨rfl, m', r', e'⟩
  split at hres
  case h_2 => cases hres
  rename_i xs hxs
  cases hres
  obtain ⟨us, g1, g2, g3⟩ := resD_ok r' _ _ hxs
  have hrun := results_run fn a'.tmps w' us g1
  have hv : VR (ctx B σ.hs m' w') (oneOr xs) (oneOrV us) := by
   match xs, us, g2 with
   | [], [], _ => exact .tup [] #[] rfl fun j y u h => by simp at h
   | [x], [u], _ => exact g3 0 x u rfl rfl
   | x :: y :: l, u :: v :: l', hl => exact .tup _ _ (by simpa using hl) fun j a b h1 h2 => g3 j a b h1 (by simpa using h2)
  cases ex with
  | exit id => exact absurd rfl (hex id)
  | normal => exact ⟨r'.defers, _, hrun, _, m', rfl, r'.heap, e', hv⟩
  | ret => exact ⟨r'.defers, _, hrun, _, m', rfl, r'.heap, e', hv⟩
 split at h
 ·cases h
 ·rename_i ex σ hne hcd
  exact fin ex σ hcd (fun id e => by first | exact hne _ e | exact hne _ _ e | (subst e; exact hne _ rfl)) h
 ·cases h
end Go.Proofs.YtdbekeidlppfiaaGreatDoor.Den
