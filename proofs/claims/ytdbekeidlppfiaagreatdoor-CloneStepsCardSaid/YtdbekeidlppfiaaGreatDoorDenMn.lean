/- Texts joined by a program of mine (pack.py): DenMn. -/
import Derived.Test.YtdbekeidlppfiaaGreatDoorDenJ
set_option linter.unusedVariables false
set_option linter.unusedSimpArgs false
namespace Go.Proofs.YtdbekeidlppfiaaGreatDoor.Den
open Go Go.RowKit
mutual
def nmB : PV → List (Name × Nat)
 | .ptr n k _ _ => [(n, k)]
 | .row n k _ _ => [(n, k)]
 | .agg cs => nmL cs
 | .tup cs => nmL cs
 | .clo _ cs => nmL cs
 | .mth _ cs => nmL cs
 | .ifc _ x => nmB x
 | _ => []
def nmL : List PV → List (Name × Nat)
 | [] => []
 | x :: l => nmB x ++ nmL l
end
def nmLL : List (List PV) → List (Name × Nat)
 | [] => []
 | x :: l => nmL x ++ nmLL l
def nmBlk (b : Blk) : List (Name × Nat) := if b.cl then [] else nmLL b.xs
def liveB (s : HS) (p : Name × Nat) : Bool := match s.h p.1 with
 | (k, some _) => k == p.2
 | _ => false
def blkOf (s : HS) (p : Name × Nat) : Blk := match s.h p.1 with
 | (_, some b) => b
 | _ => ⟨0, 0, [], true, true⟩
def coll (s : HS) : Nat → List (Name × Nat) → List (Name × Nat) → List (Name × Nat)
 | 0, _, d => d
 | _ + 1, [], d => d
 | k + 1, p :: t, d => if liveB s p && !(d.any fun q => q.1 == p.1) then coll s k (t ++ nmBlk (blkOf s p)) (d ++ [p]) else coll s k t d
def collF (s : HS) : Nat → List (Name × Nat) → List (Name × Nat) → Option (List (Name × Nat))
 | 0, _, _ => none
 | _ + 1, [], d => some d
 | k + 1, p :: t, d => if d.any fun q => q.1 == p.1 then collF s k t d else if liveB s p then collF s k (t ++ nmBlk (blkOf s p)) (d ++ [p]) else none
theorem collF_coll (s : HS) : ∀ (k : Nat) (t d e : List (Name × Nat)), collF s k t d = some e → coll s k t d = e
 | 0, t, d, e, h => by simp [collF] at h
 | k + 1, [], d, e, h => by simp only [collF, Option.some.injEq] at h; simp [coll, h]
 | k + 1, p :: t, d, e, h => by
  simp only [collF] at h
  simp only [coll]
  split at h
  ·rename_i ha
   rw [if_neg (by simp [ha])]
   exact collF_coll s k t d e h
  ·rename_i ha
   split at h
   ·rename_i hl
    rw [if_pos (by simp [hl, ha])]
    exact collF_coll s k _ _ e h
   ·cases h
theorem collF_sub (s : HS) : ∀ (k : Nat) (t d e : List (Name × Nat)), collF s k t d = some e → ∀ p ∈ d, p ∈ e
 | 0, t, d, e, h => by simp [collF] at h
 | k + 1, [], d, e, h => by simp only [collF, Option.some.injEq] at h; subst h; exact fun p hp => hp
 | k + 1, p :: t, d, e, h => by
  simp only [collF] at h
  split at h
  ·exact collF_sub s k t d e h
  ·split at h
   ·intro q hq
    exact collF_sub s k _ _ e h q (by simp [hq])
   ·cases h
theorem live_congr {s t : HS} {p : Name × Nat} (h : t.h p.1 = s.h p.1) : liveB t p = liveB s p ∧ blkOf t p = blkOf s p := by
 unfold liveB blkOf; rw [h]; exact ⟨rfl, rfl⟩
theorem collF_congr (s t : HS) : ∀ (k : Nat) (l d e : List (Name × Nat)), collF s k l d = some e → (∀ p ∈ e, t.h p.1 = s.h p.1) → collF t k l d = some e
 | 0, l, d, e, h, ha => by simp [collF] at h
 | k + 1, [], d, e, h, ha => by simpa [collF] using h
 | k + 1, p :: l, d, e, h, ha => by
  simp only [collF] at h ⊢
  split at h
  ·rename_i hd
   rw [if_pos hd]
   exact collF_congr s t k l d e h ha
  ·rename_i hd
   rw [if_neg hd]
   split at h
   ·rename_i hl
    have hp : t.h p.1 = s.h p.1 := ha p (collF_sub s k _ _ e h p (by simp))
    rw [(live_congr hp).1, (live_congr hp).2, if_pos hl]
    exact collF_congr s t k _ _ e h ha
   ·cases h
def Loc {α : Type} (f : HS → α → Option (α × HS)) : Prop := ∀ s x y s1, f s x = some (y, s1) → ∃ κ : Name → Nat, (∀ n, (s.h n).2 = none → κ n = 0) ∧ s1 = ⟨s.h, fun n => max (s.fz n) (κ n)⟩ ∧
 ∀ t : HS, (∀ n k b, s.h n = (k, some b) → t.h n = (k, some b)) → f t x = some (y, ⟨t.h, fun n => max (t.fz n) (κ n)⟩)
theorem mapS_loc {f : HS → PV → Option (PV × HS)} (hf : Loc f) : ∀ (l : List PV) (s : HS) (l' : List PV) (s1 : HS), mapS f s l = some (l', s1) → ∃ κ : Name → Nat, (∀ n, (s.h n).2 = none → κ n = 0) ∧ s1 = ⟨s.h, fun n => max (s.fz n) (κ n)⟩ ∧
  ∀ t : HS, (∀ n k b, s.h n = (k, some b) → t.h n = (k, some b)) → mapS f t l = some (l', ⟨t.h, fun n => max (t.fz n) (κ n)⟩)
 | [], s, l', s1, h => by
  simp [mapS] at h; obtain ⟨rfl, rfl⟩ := h
  exact ⟨fun _ => 0, fun _ _ => rfl, by simp, fun t ht => by simp [mapS]⟩
 | x :: l, s, l', s1, h => by
  simp only [mapS] at h
  split at h
  case h_2 => cases h
  rename_i y s2 h1
  split at h
  case h_2 => cases h
  rename_i l2 s3 h2
  cases h
  obtain ⟨κ1, a1, rfl, c1⟩ := hf s x y s2 h1
  obtain ⟨κ2, a2, b2, c2⟩ := mapS_loc hf l _ l2 s1 h2
  refine ⟨fun n => max (κ1 n) (κ2 n), fun n hn => by simp [a1 n hn, a2 n hn], by rw [b2]; simp [Nat.max_assoc], fun t ht => ?_⟩
  simp only [mapS, c1 t ht]
  have c3 := c2 ⟨t.h, fun n => max (t.fz n) (κ1 n)⟩ ht
  simp only [c3, Nat.max_assoc]
theorem mapSS_loc {f : HS → PV → Option (PV × HS)} (hf : Loc f) : ∀ (l : List (List PV)) (s : HS) (l' : List (List PV)) (s1 : HS), mapSS f s l = some (l', s1) → ∃ κ : Name → Nat, (∀ n, (s.h n).2 = none → κ n = 0) ∧ s1 = ⟨s.h, fun n => max (s.fz n) (κ n)⟩ ∧
  ∀ t : HS, (∀ n k b, s.h n = (k, some b) → t.h n = (k, some b)) → mapSS f t l = some (l', ⟨t.h, fun n => max (t.fz n) (κ n)⟩)
 | [], s, l', s1, h => by
  simp [mapSS] at h; obtain ⟨rfl, rfl⟩ := h
  exact ⟨fun _ => 0, fun _ _ => rfl, by simp, fun t ht => by simp [mapSS]⟩
 | x :: l, s, l', s1, h => by
  simp only [mapSS] at h
  split at h
  case h_2 => cases h
  rename_i y s2 h1
  split at h
  case h_2 => cases h
  rename_i l2 s3 h2
  cases h
  obtain ⟨κ1, a1, rfl, c1⟩ := mapS_loc hf x s y s2 h1
  obtain ⟨κ2, a2, b2, c2⟩ := mapSS_loc hf l _ l2 s1 h2
  refine ⟨fun n => max (κ1 n) (κ2 n), fun n hn => by simp [a1 n hn, a2 n hn], by rw [b2]; simp [Nat.max_assoc], fun t ht => ?_⟩
  simp only [mapSS, c1 t ht]
  have c3 := c2 ⟨t.h, fun n => max (t.fz n) (κ1 n)⟩ ht
  simp only [c3, Nat.max_assoc]
theorem dr_loc : ∀ k, Loc (dr k)
 | 0, s, x, y, s1, h => by
  simp only [dr] at h
  split at h
  ·cases h; exact ⟨fun _ => 0, fun _ _ => rfl, by simp, fun t ht => by simp [dr, *]⟩
  ·cases h
 | k + 1, s, x, y, s1, h => by
  simp only [dr] at h
  split at h
  ·cases h; exact ⟨fun _ => 0, fun _ _ => rfl, by simp, fun t ht => by simp [dr, *]⟩
  rename_i hcl
  split at h
  ·rename_i n kk i len
   split at h
   case h_2 => cases h
   rename_i kk' b hn
   split at h
   case isFalse => cases h
   rename_i hc
   have e0 : ∀ t : HS, (⟨t.h, fun n' => max (t.fz n') (if n' = n then i + len else 0)⟩ : HS) = { t with fz := upd t.fz n (max (t.fz n) (i + len)) } := by
    intro t
    congr 1
    funext n'
    simp only [upd]
    split
    ·rename_i e; rw [e]
    ·simp
   split at h
   ·rename_i hcl2
    cases h
    refine ⟨fun n' => if n' = n then i + len else 0, fun n' hn' => by
     simp only
     split
     ·rename_i e; subst e; rw [hn] at hn'; cases hn'
     ·rfl, (e0 s).symm, fun t ht => ?_⟩
    rw [e0 t]
    simp only [dr, hcl, ht _ _ _ hn, hc, hcl2, and_self, if_true, if_false, Bool.false_eq_true]
   ·rename_i hcl2
    split at h
    case h_2 => cases h
    rename_i ys s' hm
    cases h
    obtain ⟨κ2, a2, b2, c2⟩ := mapSS_loc (dr_loc k) _ _ _ _ hm
    refine ⟨fun n' => max (if n' = n then i + len else 0) (κ2 n'), fun n' hn' => ?_, ?_, fun t ht => ?_⟩
    ·simp only
     rw [a2 n' hn']
     split
     ·rename_i e; subst e; rw [hn] at hn'; cases hn'
     ·rfl
    ·rw [b2, ← e0 s]; simp [Nat.max_assoc]
    ·have c3 := c2 { t with fz := upd t.fz n (max (t.fz n) (i + len)) } ht
     simp only [dr, hcl, ht _ _ _ hn, hc, hcl2, and_self, if_true, if_false, Bool.false_eq_true, c3]
     have e1 := congrArg HS.fz (e0 t)
     simp only at e1
     rw [← e1]; simp only [Nat.max_assoc]
  ·rename_i cs
   split at h
   case h_2 => cases h
   rename_i ys s' hm
   cases h
   obtain ⟨κ2, a2, b2, c2⟩ := mapS_loc (dr_loc k) _ _ _ _ hm
   exact ⟨κ2, a2, b2, fun t ht => by simp only [dr, hcl, if_false, c2 t ht, Bool.false_eq_true]⟩
  ·cases h
def samV : Value → Value → Bool
 | .bool a, .bool b => a == b
 | .int k n, .int k' n' => decide (k = k') && decide (n = n')
 | .string a, .string b => decide (a = b)
 | .pointer a, .pointer b => decide (a = b)
 | .slice a l c, .slice a' l' c' => decide (a = a') && decide (l = l') && decide (c = c')
 | .nilFunc, .nilFunc => true
 | .nilIface, .nilIface => true
 | .iface t v, .iface t' v' => decide (t = t') && samV v v'
 | _, _ => false
theorem samV_ok : ∀ (a b : Value), samV a b = true → a = b
 | .bool a, b, h => by cases b <;> simp [samV] at h; rw [h]
 | .int k n, b, h => by cases b <;> simp [samV] at h; rw [h.1, h.2]
 | .string a, b, h => by cases b <;> simp [samV] at h; rw [h]
 | .pointer a, b, h => by cases b <;> simp [samV] at h; rw [h]
 | .slice a l c, b, h => by cases b <;> simp [samV] at h; rw [h.1.1, h.1.2, h.2]
 | .nilFunc, b, h => by cases b <;> simp [samV] at h; rfl
 | .nilIface, b, h => by cases b <;> simp [samV] at h; rfl
 | .iface t v, b, h => by cases b <;> simp [samV] at h; rw [h.1, samV_ok _ _ h.2]
 | .float .., b, h => by cases b <;> simp [samV] at h
 | .complex .., b, h => by cases b <;> simp [samV] at h
 | .map .., b, h => by cases b <;> simp [samV] at h
 | .chan .., b, h => by cases b <;> simp [samV] at h
 | .func .., b, h => by cases b <;> simp [samV] at h
 | .agg .., b, h => by cases b <;> simp [samV] at h
 | .tuple .., b, h => by cases b <;> simp [samV] at h
mutual
def samP : PV → PV → Bool
 | .v a, .v b => samV a b
 | .ptr n k i o, .ptr n' k' i' o' => decide (n = n') && decide (k = k') && decide (i = i') && decide (o = o')
 | .row n k i o, .row n' k' i' o' => decide (n = n') && decide (k = k') && decide (i = i') && decide (o = o')
 | .list z f xs, .list z' f' xs' => decide (z = z') && decide (f = f') && samLL xs xs'
 | .eptr cs, .eptr cs' => samL cs cs'
 | .agg cs, .agg cs' => samL cs cs'
 | .tup cs, .tup cs' => samL cs cs'
 | .clo f cs, .clo f' cs' => decide (f = f') && samL cs cs'
 | .mth f cs, .mth f' cs' => decide (f = f') && samL cs cs'
 | .ifc t x, .ifc t' x' => decide (t = t') && samP x x'
 | .far k, .far k' => decide (k = k')
 | _, _ => false
def samL : List PV → List PV → Bool
 | [], [] => true
 | x :: l, y :: m => samP x y && samL l m
 | _, _ => false
def samLL : List (List PV) → List (List PV) → Bool
 | [], [] => true
 | x :: l, y :: m => samL x y && samLL l m
 | _, _ => false
end
mutual
theorem samP_ok : ∀ (a b : PV), samP a b = true → a = b
 | .v a, b, h => by cases b <;> simp [samP] at h; rw [samV_ok _ _ h]
 | .ptr .., b, h => by cases b <;> simp [samP] at h; obtain ⟨⟨⟨rfl, rfl⟩, rfl⟩, rfl⟩ := h; rfl
 | .row .., b, h => by cases b <;> simp [samP] at h; obtain ⟨⟨⟨rfl, rfl⟩, rfl⟩, rfl⟩ := h; rfl
 | .list z f xs, b, h => by cases b <;> simp [samP] at h; obtain ⟨⟨rfl, rfl⟩, h⟩ := h; rw [samLL_ok _ _ h]
 | .eptr cs, b, h => by cases b <;> simp [samP] at h; rw [samL_ok _ _ h]
 | .agg cs, b, h => by cases b <;> simp [samP] at h; rw [samL_ok _ _ h]
 | .tup cs, b, h => by cases b <;> simp [samP] at h; rw [samL_ok _ _ h]
 | .clo f cs, b, h => by cases b <;> simp [samP] at h; obtain ⟨rfl, h⟩ := h; rw [samL_ok _ _ h]
 | .mth f cs, b, h => by cases b <;> simp [samP] at h; obtain ⟨rfl, h⟩ := h; rw [samL_ok _ _ h]
 | .ifc t x, b, h => by cases b <;> simp [samP] at h; obtain ⟨rfl, h⟩ := h; rw [samP_ok _ _ h]
 | .far k, b, h => by cases b <;> simp [samP] at h; rw [h]
 | .own .., b, h => by cases b <;> simp [samP] at h
 | .unk, b, h => by cases b <;> simp [samP] at h
theorem samL_ok : ∀ (a b : List PV), samL a b = true → a = b
 | [], b, h => by cases b <;> simp [samL] at h; rfl
 | x :: l, b, h => by
  cases b with
  | nil => simp [samL] at h
  | cons y m => simp only [samL, Bool.and_eq_true] at h; rw [samP_ok _ _ h.1, samL_ok _ _ h.2]
theorem samLL_ok : ∀ (a b : List (List PV)), samLL a b = true → a = b
 | [], b, h => by cases b <;> simp [samLL] at h; rfl
 | x :: l, b, h => by
  cases b with
  | nil => simp [samLL] at h
  | cons y m => simp only [samLL, Bool.and_eq_true] at h; rw [samL_ok _ _ h.1, samLL_ok _ _ h.2]
end
def samB (a b : Blk) : Bool := decide (a.sz = b.sz) && decide (a.E = b.E) && samLL a.xs b.xs && decide (a.cl = b.cl) && decide (a.rw = b.rw)
theorem samB_ok {a b : Blk} (h : samB a b = true) : a = b := by
 obtain ⟨s, e, x, c, r⟩ := a
 obtain ⟨s', e', x', c', r'⟩ := b
 simp only [samB, Bool.and_eq_true, decide_eq_true_eq] at h
 obtain ⟨⟨⟨⟨rfl, rfl⟩, h⟩, rfl⟩, rfl⟩ := h
 rw [samLL_ok _ _ h]
def samO : Nat × Option Blk → Nat × Option Blk → Bool
 | (k, some a), (k', some b) => decide (k = k') && samB a b
 | (k, none), (k', none) => decide (k = k')
 | _, _ => false
theorem samO_ok {a b : Nat × Option Blk} (h : samO a b = true) : a = b := by
 obtain ⟨k, a⟩ := a
 obtain ⟨k', b⟩ := b
 cases a <;> cases b <;> simp only [samO, Bool.and_eq_true, decide_eq_true_eq] at h
 ·rw [h]
 ·cases h
 ·cases h
 ·rw [h.1, samB_ok h.2]
def samN (s t : HS) (n : Name) : Bool := samO (s.h n) (t.h n) && decide (s.fz n = t.fz n)
theorem samN_ok {s t : HS} {n : Name} (h : samN s t n = true) : s.h n = t.h n ∧ s.fz n = t.fz n := by
 simp only [samN, Bool.and_eq_true, decide_eq_true_eq] at h
 exact ⟨samO_ok h.1, h.2⟩
end Go.Proofs.YtdbekeidlppfiaaGreatDoor.Den
