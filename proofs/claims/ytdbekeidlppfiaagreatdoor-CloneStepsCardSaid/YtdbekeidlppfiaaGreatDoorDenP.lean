/- Texts joined by a program of mine (pack.py): DenP. -/
import Derived.Test.YtdbekeidlppfiaaGreatDoorDenR
set_option linter.unusedVariables false
set_option linter.unusedSimpArgs false
namespace Go.Proofs.YtdbekeidlppfiaaGreatDoor.Den
open Go Go.RowKit
abbrev SFun := List PV → List (Option Blk) → List Nat → Option (PV × List (Option Blk) × List Nat)
def StateOk (P : Program) (G : Glo) (f : FuncId) (g : SFun) : Prop :=
 ∀ args bs fs x bs' fs', g args bs fs = some (x, bs', fs') → bs.length ≤ bs'.length ∧ ∀ (B : Base) (m : Name → Nat) (w : World) (vs : Array Value), B.roots.length ≤ bs.length → RelH B m (hsL bs fs) w → GOk (ctx B (hsL bs fs) m w) G → vs.size = args.length →
  (∀ (j : Nat) (y : PV) (u : Value), args[j]? = some y → vs[j]? = some u → VR (ctx B (hsL bs fs) m w) y u) →
  Calls P f vs w fun e w' => ∃ v m', e = .returned v ∧ RelH B m' (hsL bs' fs') w' ∧ SEvol (ctx B (hsL bs fs) m w) (ctx B (hsL bs' fs') m' w') ∧ VR (ctx B (hsL bs' fs') m' w') x v
def tgtOf (d : List (Name × Nat)) (nm : Name) (s : HS) (j : Nat) : Name × Nat := match d[j]? with
 | some p => p
 | none => ((j - d.length) :: (s.h nm).1 :: nm, (s.h ((j - d.length) :: (s.h nm).1 :: nm)).1 + 1)
def backR (n0 : Nat) (tg : Nat → Name × Nat) : Ren := fun n k => match n with
 | [j, t] => if t = TAG ∧ k = 1 ∧ j < n0 then some (tg j) else none
 | _ => none
def findJ (n0 : Nat) (tg : Nat → Name × Nat) (n : Name) : Option Nat := (List.range n0).find? fun j => (tg j).1 == n
def backS (s : HS) (nm : Name) (tg : Nat → Name × Nat) (bs : List (Option Blk)) (fs : List Nat) : HS where
 h n := match findJ bs.length tg n with
  | some j => ((tg j).2, ((bs[j]?).getD none).map (renBlk (backR bs.length tg)))
  | none => if n = nm then ((s.h nm).1 + 1, none) else s.h n
 fz n := match findJ bs.length tg n with
  | some j => fs.getD j 0
  | none => s.fz n
def rootsOf (s : HS) (args : List PV) : List (Name × Nat) := coll s 60 (nmL args) []
def backX (d : List (Name × Nat)) (nm : Name) (s : HS) (r : PV × List (Option Blk) × List Nat) : Option (PV × HS) :=
 let tg := tgtOf d nm s
 if nodupN ((List.range r.2.1.length).map fun j => (tg j).1) && d.all (fun p => p.1 != nm) then some (renB (backR r.2.1.length tg) r.1, backS s nm tg r.2.1 r.2.2) else none
def callS (g : SFun) (args : List PV) (nm : Name) (s : HS) : Option (PV × HS) :=
 let d := rootsOf s args
 if goodD d && d.all (liveB s) then match g (renL (idR d) args) (obs s d) (fzs s d) with
  | some r => backX d nm s r
  | none => none
 else none
theorem findJ_some {n0 : Nat} {tg : Nat → Name × Nat} {n : Name} {j : Nat} (h : findJ n0 tg n = some j) : j < n0 ∧ (tg j).1 = n := by
 unfold findJ at h
 have h1 := List.mem_of_find?_eq_some h
 have h2 := List.find?_some h
 simp at h1 h2
 exact ⟨h1, h2⟩
theorem findJ_none {n0 : Nat} {tg : Nat → Name × Nat} {n : Name} (h : findJ n0 tg n = none) : ∀ j, j < n0 → (tg j).1 ≠ n := by
 intro j hj e
 unfold findJ at h
 have := List.find?_eq_none.1 h j (List.mem_range.2 hj)
 simp [e] at this
theorem findJ_at {n0 : Nat} {tg : Nat → Name × Nat} (hn : nodupN ((List.range n0).map fun j => (tg j).1) = true) {j : Nat} (hj : j < n0) : findJ n0 tg (tg j).1 = some j := by
 cases h : findJ n0 tg (tg j).1 with
 | none => exact absurd rfl (findJ_none h j hj)
 | some i =>
  obtain ⟨h1, h2⟩ := findJ_some h
  have hnd := nodupN_ok hn
  have e1 : ((List.range n0).map fun j => (tg j).1)[i]? = some (tg j).1 := by simp [h1, h2]
  have e2 : ((List.range n0).map fun j => (tg j).1)[j]? = some (tg j).1 := by simp [hj]
  have := (List.getElem?_inj (List.getElem?_eq_some_iff.1 e1).1 hnd).1 (e1.trans e2.symm)
  rw [this]
theorem callS_ok {P : Program} {G : Glo} {f : FuncId} {g : SFun} (hg : StateOk P G f g) {args : List PV} {nm : Name} {s s1 : HS} {r : PV} (h : callS g args nm s = some (r, s1)) {B : Base} {m : Name → Nat} {w : World} {vs : Array Value} (hr : RelH B m s w) (hG : GOk (ctx B s m w) G)
  (hl : vs.size = args.length) (ha : ∀ (j : Nat) (x : PV) (u : Value), args[j]? = some x → vs[j]? = some u → VR (ctx B s m w) x u) :
  Calls P f vs w fun e w' => ∃ v m', e = .returned v ∧ RelH B m' s1 w' ∧ Evol (ctx B s m w) (ctx B s1 m' w') ∧ VR (ctx B s1 m' w') r v := by
 unfold callS at h
 simp only at h
 split at h
 case isFalse => cases h
 rename_i hgd
 rw [Bool.and_eq_true] at hgd
 obtain ⟨hgood, hlive⟩ := hgd
 split at h
 case h_2 => cases h
 rename_i r0 hr0
 obtain ⟨x, bs', fs'⟩ := r0
 unfold backX at h
 simp only at h
 split at h
 case isFalse => cases h
 rename_i hnd
 rw [Bool.and_eq_true] at hnd
 obtain ⟨hnod, hnm⟩ := hnd
 cases h
 obtain ⟨d, hd⟩ : ∃ d, rootsOf s args = d := ⟨_, rfl⟩
 rw [hd] at hgood hlive hr0 hnod hnm ⊢
 have hlv : ∀ (j : Nat) (p : Name × Nat), d[j]? = some p → liveB s p = true := fun j p hp => List.all_eq_true.1 hlive p (List.mem_of_getElem? hp)
 have hnn : ∀ (j : Nat) (p : Name × Nat), d[j]? = some p → p.1 ≠ nm := fun j p hp => by
  have := List.all_eq_true.1 hnm p (List.mem_of_getElem? hp)
  simpa using this
 -- the other blocks
 let Oth : Nat → Prop := fun q => ∃ n k b, s.h n = (k, some b) ∧ m n = q ∧ ∀ (j : Nat) (p : Name × Nat), d[j]? = some p → p.1 ≠ n
 let B' : Base := { B with O := fun q => B.O q ∨ Oth q, wO := w, SO := Simm B s m w, roots := d.map fun p => (m p.1, (blkOf s p).sz, bsize w (m p.1)) }
 have hreb : Rebase B B' m s w d := by
  refine ⟨rfl, rfl, rfl, rfl, fun j p hp hpl hO => ?_, fun q hq => ?_, fun q o _ hs _ => hs, fun j ρ z β hj => ?_⟩
  ·rcases hO with hO | ⟨n, k, b, h1, h2, h3⟩
   ·exact (hr.blk p.1 p.2 _ (live_at hpl)).2.2.2 hO
   ·exact h3 j p hp (hr.inj _ _ _ _ _ _ (live_at hpl) h1 h2.symm)
  ·refine ⟨?_, rfl⟩
   rcases hq with hq | ⟨n, k, b, h1, rfl, _⟩
   ·exact (hr.keep q hq).1
   ·exact hr.lt h1
  ·simp only [B', List.getElem?_map] at hj
   obtain ⟨p, hp, he⟩ := Option.map_eq_some_iff.1 hj
   simp only [Prod.mk.injEq] at he
   exact ⟨p, hp, fun _ => ⟨he.1, he.2.1, he.1 ▸ he.2.2⟩⟩
 have hrel := canon_rel hgood hr hreb
 have hlen0 : (obs s d).length = d.length := by simp [obs]
 obtain ⟨hle, hcall⟩ := hg _ _ _ x bs' fs' hr0
 have hrl : B'.roots.length = d.length := by simp [B']
 refine (hcall B' (canonM m d) w vs (by rw [hlen0, hrl]; exact Nat.le_refl _) hrel (hG.sev (canon_sev hreb)) (by rw [hl, renL_map]; simp) (fun j y u hy hu => ?_)).mono ?_
 ·rw [renL_map, List.getElem?_map] at hy
  obtain ⟨z, hz, rfl⟩ := Option.map_eq_some_iff.1 hy
  exact ren_ok (canon_ren hreb) (ha j z u hz hu)
 ·rintro e w1 ⟨v, m1, rfl, r1, se, hv⟩
  rw [hlen0] at hle
  obtain ⟨tg, htg⟩ : ∃ tg, tgtOf d nm s = tg := ⟨_, rfl⟩
  rw [htg] at hnod ⊢
  have tg_old : ∀ (j : Nat) (p : Name × Nat), d[j]? = some p → tg j = p := fun j p hp => by rw [← htg]; simp [tgtOf, hp]
  have tg_new : ∀ j, d[j]? = none → tg j = ((j - d.length) :: (s.h nm).1 :: nm, (s.h ((j - d.length) :: (s.h nm).1 :: nm)).1 + 1) := fun j hj => by rw [← htg]; simp [tgtOf, hj]
  let m' : Name → Nat := fun n => match findJ bs'.length tg n with | some j => m1 [j, TAG] | none => m n
  have hin : ∀ j, j < bs'.length → ∃ ob, bs'[j]? = some ob := fun j hj => ⟨_, List.getElem?_eq_getElem hj⟩
  have sev1 : SEvol (ctx B s m w) (ctx B' (hsL bs' fs') m1 w1) := (canon_sev hreb).trans se
  -- names that are not handed in stay
  have hoth : ∀ n k b, findJ bs'.length tg n = none → s.h n = (k, some b) → B'.O (m n) := by
   intro n k b hf hn
   exact .inr ⟨n, k, b, hn, rfl, fun j p hp => by
    have := findJ_none hf j (by have := (List.getElem?_eq_some_iff.1 hp).1; omega)
    rw [tg_old j p hp] at this
    exact this⟩
  have hS : ∀ q o, Simm B' (hsL bs' fs') m1 w1 q o → (B'.O q → Simm B s m w q o) → Simm B (backS s nm tg bs' fs') m' w1 q o := by
   intro q o h1 h2
   rcases h1 with h1 | ⟨b1, b2, b3, b4⟩
   ·exact .inl h1
   ·refine .inr ⟨b1, b2, fun hO => ?_, fun n k b hn hm => ?_⟩
    ·rcases h2 (.inl hO) with ⟨h, _⟩ | ⟨_, _, h, _⟩
     ·exact absurd b1 (Nat.not_le.2 h)
     ·exact h hO
    ·simp only [backS] at hn ⊢
     simp only [m'] at hm
     cases hf : findJ bs'.length tg n with
     | some j =>
      rw [hf] at hn hm
      simp only at hn hm ⊢
      obtain ⟨hj, _⟩ := findJ_some hf
      obtain ⟨ob, hob⟩ := hin j hj
      rw [hob] at hn
      simp only [Option.getD_some, Prod.mk.injEq] at hn
      obtain ⟨_, hb⟩ := hn
      obtain ⟨b0, rfl, rfl⟩ := Option.map_eq_some_iff.1 hb
      have := b4 [j, TAG] 1 b0 (by show hpL bs' [j, TAG] = _; rw [hpL_at, hob]) hm
      simpa [hsL, fzL, renBlk] using this
     | none =>
      rw [hf] at hn hm
      simp only at hn hm ⊢
      split at hn
      ·simp at hn
      ·rcases h2 (hm ▸ hoth n k b hf hn) with ⟨h, _⟩ | ⟨_, _, _, h⟩
       ·exact absurd b1 (Nat.not_le.2 h)
       ·exact h n k b hn hm
  have ev : Evol (ctx B s m w) (ctx B (backS s nm tg bs' fs') m' w1) := by
   refine ⟨rfl, fun n => ?_, fun n b' hb => ?_, fun q o hs => hS q o (sev1.S q o hs) (fun _ => hs), fun q o u hs hc => sev1.cell q o u hs hc, sev1.kind⟩
   ·simp only [ctx, backS]
    cases hf : findJ bs'.length tg n with
    | some j =>
     simp only
     obtain ⟨hj, he⟩ := findJ_some hf
     cases hd' : d[j]? with
     | some p =>
      rw [tg_old j p hd'] at he ⊢
      rw [← he, live_at (hlv j p hd')]
      exact Nat.le_refl _
     | none =>
      rw [tg_new j hd'] at he ⊢
      simp only at he ⊢
      rw [← he]; omega
    | none =>
     simp only
     split
     ·rename_i e; subst e; simp
     ·exact Nat.le_refl _
   ·simp only [ctx, backS] at hb ⊢
    cases hf : findJ bs'.length tg n with
    | some j =>
     rw [hf] at hb
     simp only [Prod.mk.injEq] at hb
     obtain ⟨hver, hb⟩ := hb
     obtain ⟨hj, he⟩ := findJ_some hf
     cases hd' : d[j]? with
     | some p =>
      rw [tg_old j p hd'] at he hver
      obtain ⟨b0, hb0, rfl⟩ := Option.map_eq_some_iff.1 hb
      obtain ⟨ob, hob⟩ := hin j hj
      rw [hob] at hb0
      simp only [Option.getD_some] at hb0
      subst hb0
      have hroot := (r1.root j (m p.1) (blkOf s p).sz (bsize w (m p.1)) (by simp [B', hd'])).2 b0 (by show hpL bs' [j, TAG] = _; rw [hpL_at, hob])
      obtain ⟨q1, q2, q3⟩ := hroot
      refine ⟨blkOf s p, ?_, q2.symm, ?_, ?_⟩
      ·rw [← he, live_at (hlv j p hd')]
      ·simp only [m', hf]; rw [q1, he]
      ·simp only [m', hf]; rw [q1, q3, he]
     | none =>
      rw [tg_new j hd'] at he hver
      simp only at he hver
      rw [← he] at hver
      omega
    | none =>
     rw [hf] at hb
     simp only at hb
     split at hb
     ·simp at hb
     ·rename_i hne
      have hbk := hoth n _ b' hf hb
      refine ⟨b', hb, rfl, by simp only [m', hf], ?_⟩
      simp only [m', hf]
      exact bsize_of_block (r1.keep _ hbk).2
  have hR : RenOk (ctx B' (hsL bs' fs') m1 w1) (ctx B (backS s nm tg bs' fs') m' w1) (backR bs'.length tg) := by
   refine ⟨⟨rfl, fun q o hs => hS q o hs (fun hO => ?_), fun _ _ _ _ h => h, fun _ cs _ h => ⟨cs, h, rfl⟩⟩, fun n k p hp => ?_⟩
   ·rcases hs with ⟨h, h'⟩ | ⟨_, _, h, _⟩
    ·exact .inl ⟨h, h'⟩
    ·exact h hO
   ·unfold backR at hp
    split at hp
    case h_2 => cases hp
    rename_i j t
    split at hp
    case isFalse => cases hp
    rename_i hc
    obtain ⟨rfl, rfl, hj⟩ := hc
    cases hp
    have hf := findJ_at hnod hj
    obtain ⟨ob, hob⟩ := hin j hj
    simp only [ctx, backS, hf, hob, Option.getD_some]
    refine ⟨Nat.le_refl _, fun b' hb' => ?_⟩
    simp only [Prod.mk.injEq, true_and] at hb'
    obtain ⟨b0, rfl, rfl⟩ := Option.map_eq_some_iff.1 hb'
    refine ⟨b0, by show hpL bs' [j, TAG] = _; rw [hpL_at, hob], rfl, ?_, ?_⟩
    ·simp only [m', hf]
    ·simp only [m', hf]
  refine ⟨v, m', rfl, ?_, ev, ren_ok hR hv⟩
  refine ⟨r1.base, r1.below, fun n k b hn => ?_, fun n n' k k' b b' hn hn' he => ?_, fun q hq => ?_, hr.root_evol ev⟩
  ·simp only [backS] at hn ⊢
   cases hf : findJ bs'.length tg n with
   | some j =>
    rw [hf] at hn
    simp only at hn ⊢
    obtain ⟨hj, _⟩ := findJ_some hf
    obtain ⟨ob, hob⟩ := hin j hj
    rw [hob] at hn
    simp only [Option.getD_some, Prod.mk.injEq] at hn
    obtain ⟨_, hb⟩ := hn
    obtain ⟨b0, rfl, rfl⟩ := Option.map_eq_some_iff.1 hb
    obtain ⟨h1, h2, h3, h4⟩ := r1.blk [j, TAG] 1 b0 (by show hpL bs' [j, TAG] = _; rw [hpL_at, hob])
    have em : m' n = m1 [j, TAG] := by simp only [m', hf]
    rw [em, renBlk_len]
    exact ⟨h1.ren hR rfl, h2, by simpa [hsL, fzL] using h3, fun hO => h4 (.inl hO)⟩
   | none =>
    rw [hf] at hn
    simp only at hn ⊢
    split at hn
    ·simp at hn
    ·rename_i hne
     have em : m' n = m n := by simp only [m', hf]
     rw [em]
     obtain ⟨h1, h2, h3, h4⟩ := hr.blk n k b hn
     exact ⟨h1.evol ev (r1.keep _ (hoth n k b hf hn)).2, h2, h3, h4⟩
  ·have key : ∀ n k b, (backS s nm tg bs' fs').h n = (k, some b) → (∃ j b0, findJ bs'.length tg n = some j ∧ (hsL bs' fs').h [j, TAG] = (1, some b0) ∧ m' n = m1 [j, TAG] ∧ ¬ B'.O (m' n)) ∨ (findJ bs'.length tg n = none ∧ s.h n = (k, some b) ∧ m' n = m n ∧ B'.O (m' n)) := by
    intro n k b hn
    simp only [backS] at hn
    cases hf : findJ bs'.length tg n with
    | some j =>
     rw [hf] at hn
     simp only at hn
     obtain ⟨hj, _⟩ := findJ_some hf
     obtain ⟨ob, hob⟩ := hin j hj
     rw [hob] at hn
     simp only [Option.getD_some, Prod.mk.injEq] at hn
     obtain ⟨_, hb⟩ := hn
     obtain ⟨b0, rfl, rfl⟩ := Option.map_eq_some_iff.1 hb
     have hl0 : (hsL bs' fs').h [j, TAG] = (1, some b0) := by show hpL bs' [j, TAG] = _; rw [hpL_at, hob]
     have em : m' n = m1 [j, TAG] := by simp only [m', hf]
     exact .inl ⟨j, b0, rfl, hl0, em, by rw [em]; exact (r1.blk _ _ _ hl0).2.2.2⟩
    | none =>
     rw [hf] at hn
     simp only at hn
     split at hn
     ·simp at hn
     ·have em : m' n = m n := by simp only [m', hf]
      exact .inr ⟨rfl, hn, em, by rw [em]; exact hoth n k b hf hn⟩
   rcases key n k b hn with ⟨j, b0, hf, hl0, em, hO⟩ | ⟨hf, hl0, em, hO⟩ <;> rcases key n' k' b' hn' with ⟨j', b0', hf', hl0', em', hO'⟩ | ⟨hf', hl0', em', hO'⟩
   ·have := r1.inj _ _ _ _ _ _ hl0 hl0' (by rw [← em, ← em', he])
    simp only [List.cons.injEq, and_true] at this
    rw [← (findJ_some hf).2, ← (findJ_some hf').2, this]
   ·exact absurd (he ▸ hO') hO
   ·exact absurd (he ▸ hO) hO'
   ·exact hr.inj _ _ _ _ _ _ hl0 hl0' (by rw [← em, ← em', he])
  ·have h1 := r1.keep q (.inl hq)
   exact ⟨h1.1, h1.2.trans (hr.keep q hq).2⟩
def runSD (P : Program) (G : Glo) (R : Nat → RegD) (nrm : List PV → List PV) (fin : PV → PV) (lf : Nat) (kt : Nat → Option (List Nat)) (f : FuncId) : SFun := fun args bs fs =>
 match bodyP P G R lf kt bs.length f (nrm args) (hsL bs fs) with
 | some (x, s1) => canonV bs.length (fin x) s1
 | none => none
theorem runSD_ok {P : Program} {G : Glo} {R : Nat → RegD} (hR : ∀ nt, RegOk P G nt (R nt)) {nrm : List PV → List PV} {fin : PV → PV} {lf : Nat} {kt : Nat → Option (List Nat)} {f : FuncId}
  (hn : ∀ l, (nrm l).length = l.length) (hn2 : ∀ (c : Ctx) (l : List PV) (j : Nat) (y : PV) (u : Value), (nrm l)[j]? = some y → (∀ z, l[j]? = some z → VR c z u) → VR c y u) (hf : ∀ (c : Ctx) (x : PV) (u : Value), VR c x u → VR c (fin x) u) :
  StateOk P G f (runSD P G R nrm fin lf kt f) := by
 intro args bs fs x bs' fs' h
 unfold runSD at h
 split at h
 case h_2 => cases h
 rename_i x0 s1 hb
 unfold canonV at h
 simp only at h
 split at h
 case isFalse => cases h
 rename_i hg
 cases h
 refine ⟨by simp only [obs, List.length_map]; exact collR_len, fun B m w vs hrl hr hG hl ha => ?_⟩
 refine (bodyP_ok hR hb hrl hr hG (by rw [hl, hn]) (fun j y u hy hu => ?_)).mono ?_
 ·exact hn2 _ args j y u hy fun z hz => ha j z u hz hu
 ·rintro e w' ⟨v, m', rfl, r1, se, hv⟩
  have hb := rebase_same r1 hrl (nmB (fin x0))
  exact ⟨v, _, rfl, canon_rel hg r1 hb, se.trans (canon_sev hb), ren_ok (canon_ren hb) (hf _ _ _ hv)⟩
end Go.Proofs.YtdbekeidlppfiaaGreatDoor.Den
