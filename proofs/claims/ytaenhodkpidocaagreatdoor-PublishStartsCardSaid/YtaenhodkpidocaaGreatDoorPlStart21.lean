/- Texts joined by a program of mine (pack.py): PlDir PlMake PlPars PlStart21. -/
import Derived.Test.YtaenhodkpidocaaGreatDoorPlChk
set_option linter.unusedVariables false
set_option linter.unusedSimpArgs false
namespace Go.Proofs.YtaenhodkpidocaaGreatDoor.Den
open Go Go.RowKit
def headS (l : List UInt8) : List UInt8 := (l.reverse.dropWhile (· != 47)).reverse
theorem headS_snoc {l : List UInt8} {c : UInt8} (h : c ≠ 47) : headS (l ++ [c]) = headS l := by
 unfold headS
 rw [List.reverse_append]
 simp [List.dropWhile_cons, h]
theorem headS_slash (l : List UInt8) : headS (l ++ [47]) = l ++ [47] := by
 unfold headS
 rw [List.reverse_append]
 simp [List.dropWhile_cons]
theorem head_tail (l : List UInt8) : headS l ++ tailS l = l := by
 unfold headS tailS
 rw [← List.reverse_append, List.takeWhile_append_dropWhile, List.reverse_reverse]
theorem take_head {l : List UInt8} {k : Nat} (h : l.drop k = tailS l) : l.take k = headS l := by
 have h1 := List.take_append_drop k l
 rw [h] at h1
 exact List.append_cancel_right (h1.trans (head_tail l).symm)
theorem headS_le (l : List UInt8) : (headS l).length ≤ l.length := by
 unfold headS
 rw [List.length_reverse]
 exact Nat.le_trans (List.dropWhile_sublist _).length_le (by simp)
theorem last_at (l : List UInt8) (z : UInt8) (hl : l.length ≤ 1000000) : w64 (((bs (l ++ [z])).size : Int) - 1) = (l.length : Int) ∧ gtS (bs (l ++ [z])) (l.length : Int) = some z ∧ (bs (l ++ [z])).extract 0 ((l.length : Int)).toNat = bs l ∧ (0 ≤ (0 : Int) ∧ (0 : Int) ≤ (l.length : Int) ∧ (l.length : Int) ≤ ((bs (l ++ [z])).size : Int)) := by
 have hsz : (bs (l ++ [z])).size = l.length + 1 := by rw [size_by, by_bs]; simp
 refine ⟨by rw [hsz, w64_eq (by omega) (by omega)]; omega, by rw [gtS_by, by_bs]; simp, ?_, by rw [hsz]; omega⟩
 apply by_inj
 rw [Int.toNat_natCast, by_take, by_bs, by_bs]
 simp
theorem bare_loop : ∀ (n : Nat) (l : List UInt8), l.length ≤ n → l.length ≤ 1000000 → ∃ x, iterN ref01Bare_b1 (n + 1) (bs l) = some x ∧ ((∃ b, x = .inl (bs (Lib.trimRightB l 47), b)) ∨ x = .inr (bs (Lib.trimRightB l 47))) := by
 intro n
 induction n with
 | zero =>
  intro l hn hl
  obtain rfl : l = [] := List.length_eq_zero_iff.1 (by omega)
  exact ⟨.inr (bs []), iterN_done (by simp only [ref01Bare_b1, seq_nilB]; rfl), .inr rfl⟩
 | succ n ih =>
  intro l hn hl
  by_cases hq : l = []
  ·subst hq; exact ⟨.inr (bs []), iterN_done (by simp only [ref01Bare_b1, seq_nilB]; rfl), .inr rfl⟩
  ·obtain ⟨a, z, rfl⟩ := snoc_of hq
   have ha : a.length ≤ n := by simp at hn; omega
   obtain ⟨w1, w2, w3, w4⟩ := last_at a z (by simp at hl; omega)
   have e0 : (!seq (bs (a ++ [z])) (bs [])) = true := by rw [seq_nilB]; simp
   by_cases hz : z = 47
   ·have e1 : ((z.toNat : Int) == 47) = true := by rw [hz]; rfl
    obtain ⟨x, h1, h2⟩ := ih a ha (by simp at hl; omega)
    refine ⟨x, iterN_step (a' := bs a) ?_ h1, ?_⟩
    ·simp only [ref01Bare_b1, e0, cond_true, w1, w2, Option.bind_some, e1, grd_pos w4, w3]
    ·rw [hz, trim_slash]; exact h2
   ·have e1 : ((z.toNat : Int) == 47) = false := by
     simp only [beq_eq_false_iff_ne, ne_eq]
     intro h
     exact hz (UInt8.toNat_inj.1 (by show z.toNat = 47; omega))
    refine ⟨.inl (bs (a ++ [z]), z), iterN_done ?_, .inl ⟨z, by rw [trim_snoc hz]⟩⟩
    simp only [ref01Bare_b1, e0, cond_true, w1, w2, Option.bind_some, e1, cond_false]
theorem bare_eq (l : List UInt8) (hl : l.length ≤ 1000000) : ref01Bare (bs l) = some (bs (Lib.trimRightB l 47)) := by
 obtain ⟨x, h1, h2⟩ := bare_loop l.length l (Nat.le_refl _) hl
 unfold ref01Bare
 rw [iterN_LF h1 (by omega), Option.bind_some]
 rcases h2 with ⟨b, rfl⟩ | rfl <;> rfl
theorem dir_loop (p : ByteArray) : ∀ (n : Nat) (l : List UInt8), l.length ≤ n → l.length ≤ 1000000 → ∃ x, iterN (ref01Dir_b6 p) (n + 1) (bs l) = some x ∧ ((∃ b, x = .inl (bs (headS l), b)) ∨ x = .inr (bs (headS l))) := by
 intro n
 induction n with
 | zero =>
  intro l hn hl
  obtain rfl : l = [] := List.length_eq_zero_iff.1 (by omega)
  exact ⟨.inr (bs []), iterN_done (by simp only [ref01Dir_b6, seq_nilB]; rfl), .inr rfl⟩
 | succ n ih =>
  intro l hn hl
  by_cases hq : l = []
  ·subst hq; exact ⟨.inr (bs []), iterN_done (by simp only [ref01Dir_b6, seq_nilB]; rfl), .inr rfl⟩
  ·obtain ⟨a, z, rfl⟩ := snoc_of hq
   have ha : a.length ≤ n := by simp at hn; omega
   obtain ⟨w1, w2, w3, w4⟩ := last_at a z (by simp at hl; omega)
   have e0 : (!seq (bs (a ++ [z])) (bs [])) = true := by rw [seq_nilB]; simp
   by_cases hz : z = 47
   ·have e1 : ((z.toNat : Int) != 47) = false := by rw [hz]; rfl
    refine ⟨.inl (bs (a ++ [z]), z), iterN_done ?_, .inl ⟨z, by rw [hz, headS_slash]⟩⟩
    simp only [ref01Dir_b6, e0, cond_true, w1, w2, Option.bind_some, e1, cond_false]
   ·have e1 : ((z.toNat : Int) != 47) = true := by
     simp only [bne_iff_ne, ne_eq]
     intro h
     exact hz (UInt8.toNat_inj.1 (by show z.toNat = 47; omega))
    obtain ⟨x, h1, h2⟩ := ih a ha (by simp at hl; omega)
    refine ⟨x, iterN_step (a' := bs a) ?_ h1, ?_⟩
    ·simp only [ref01Dir_b6, e0, cond_true, w1, w2, Option.bind_some, e1, grd_pos w4, w3]
    ·rw [headS_snoc hz]; exact h2
def dirX (p : List UInt8) : List UInt8 := if Lib.trimRightB (headS (Lib.trimRightB p 47)) 47 = [] then (match p with | [] => [46] | c :: _ => if c = 47 then [47] else [46]) else Lib.trimRightB (headS (Lib.trimRightB p 47)) 47
theorem trimRX_eq (p : List UInt8) (hp : p.length ≤ 1000000) : trimRX (bs p) (bs [47]) = some (bs (Lib.trimRightB p 47)) := by
 unfold trimRX
 show (if (47 : UInt8).toNat < 128 ∧ (bs p).size ≤ 9223372036854775807 then _ else _) = _
 rw [if_pos ⟨by decide, by show p.length ≤ _; omega⟩]
theorem dirX_le (p : List UInt8) : (dirX p).length ≤ p.length + 1 := by
 unfold dirX
 split
 ·split
  ·simp
  ·split <;> simp
 ·exact Nat.le_trans (trim_le _) (Nat.le_trans (headS_le _) (Nat.le_trans (trim_le _) (by omega)))
theorem routeDir_eq (p : List UInt8) (hp : p.length ≤ 1000000) : routeDir (bs p) = some (bs (dirX p)) := by
 have hr := trim_le p
 obtain ⟨k, h1, h2, h3⟩ := last_eq (Lib.trimRightB p 47) (by omega)
 have hw : w64 ((k : Int) - 1 + 1) = (k : Int) := by rw [w64_eq (by omega) (by omega)]; omega
 have hsz : (bs (Lib.trimRightB p 47)).size = (Lib.trimRightB p 47).length := rfl
 have hx : (bs (Lib.trimRightB p 47)).extract 0 ((k : Int)).toNat = bs (headS (Lib.trimRightB p 47)) := by
  apply by_inj
  rw [Int.toNat_natCast, by_take, by_bs, by_bs, take_head h3]
 have hh := headS_le (Lib.trimRightB p 47)
 unfold routeDir
 rw [trimRX_eq p hp, Option.bind_some, h1, Option.bind_some, hw, grd_pos ⟨by omega, by omega, by rw [hsz]; omega⟩, hx, trimRX_eq _ (by omega), Option.bind_some]
 unfold routeDir1
 simp only [seq_nilB, pre_eq]
 unfold dirX
 by_cases hd : Lib.trimRightB (headS (Lib.trimRightB p 47)) 47 = []
 ·rw [decide_eq_true hd, if_pos hd]
  cases p with
  | nil => rfl
  | cons c g =>
   by_cases hc : c = 47
   ·subst hc; rfl
   ·have e1 : (c == 47) = false := by simp [hc]
    simp only [Bool.not_true, cond_false, Option.bind_some, e1, if_neg hc]
 ·rw [decide_eq_false hd, if_neg hd]; rfl
theorem trim_all : ∀ (n : Nat) (p : List UInt8), p.length ≤ n → p ≠ [] → Lib.trimRightB p 47 = [] → ∃ g, p = 47 :: g := by
 intro n
 induction n with
 | zero => intro p h hq; exact absurd (List.length_eq_zero_iff.1 (by omega)) hq
 | succ n ih =>
  intro p h hq ht
  obtain ⟨a, z, rfl⟩ := snoc_of hq
  by_cases hz : z = 47
  ·subst hz
   by_cases ha : a = []
   ·subst ha; exact ⟨[], rfl⟩
   ·rw [trim_slash] at ht
    obtain ⟨g, rfl⟩ := ih a (by simp at h; omega) ha ht
    exact ⟨g ++ [47], rfl⟩
  ·rw [trim_snoc hz] at ht; simp at ht
theorem ref01Dir_eq (p : List UInt8) (hp : p.length ≤ 1000000) : ref01Dir (bs p) = some (bs (dirX p)) := by
 have hr := trim_le p
 have hh := headS_le (Lib.trimRightB p 47)
 unfold ref01Dir
 rw [seq_nilB, bare_eq p hp]
 by_cases hq : p = []
 ·subst hq; rfl
 rw [decide_eq_false hq, cond_false, Option.bind_some, seq_nilB]
 by_cases ht : Lib.trimRightB p 47 = []
 ·obtain ⟨g, rfl⟩ := trim_all p.length p (Nat.le_refl _) hq ht
  rw [decide_eq_true ht, cond_true]
  unfold dirX
  rw [ht]
  rfl
 ·rw [decide_eq_false ht, cond_false]
  obtain ⟨x, h1, h2⟩ := dir_loop (bs p) (Lib.trimRightB p 47).length (Lib.trimRightB p 47) (Nat.le_refl _) (by omega)
  rw [iterN_LF h1 (by omega), Option.bind_some]
  obtain ⟨c, g, rfl⟩ : ∃ c g, p = c :: g := by cases p with | nil => exact absurd rfl hq | cons c g => exact ⟨c, g, rfl⟩
  have g0 : gtS (bs (c :: g)) 0 = some c := by
   rw [show (0 : Int) = ((0 : Nat) : Int) from rfl, gtS_by, by_bs]; rfl
  have hfin : ((ref01Bare (bs (headS (Lib.trimRightB (c :: g) 47)))).bind fun r_2 =>
    bif (seq r_2 (bs [])) then (
     (gtS (bs (c :: g)) (0 : Int)).bind fun b_2 =>
     bif ((b_2.toNat : Int) == (47 : Int)) then (
      some (bs [47])
     ) else (
      bif (seq r_2 (bs [])) then (
       some (bs [46])
      ) else (
       some r_2
      )
     )
    ) else (
     bif (seq r_2 (bs [])) then (
      some (bs [46])
     ) else (
      some r_2
     )
    )) = some (bs (dirX (c :: g))) := by
   rw [bare_eq _ (by omega), Option.bind_some, seq_nilB, g0]
   unfold dirX
   by_cases hd : Lib.trimRightB (headS (Lib.trimRightB (c :: g) 47)) 47 = []
   ·rw [decide_eq_true hd, if_pos hd]
    by_cases hc : c = 47
    ·subst hc; rfl
    ·have e1 : ((c.toNat : Int) == 47) = false := by
      simp only [beq_eq_false_iff_ne, ne_eq]
      intro h
      exact hc (UInt8.toNat_inj.1 (by show c.toNat = 47; omega))
     simp only [cond_true, Option.bind_some, e1, cond_false, if_neg hc]
   ·rw [decide_eq_false hd, if_neg hd]; rfl
  rcases h2 with ⟨b, rfl⟩ | rfl
  ·exact hfin
  ·exact hfin
theorem join_size (a b : List UInt8) (ha : a.length ≤ 1000000) {x : ByteArray} (h : routeJoin (bs a) (bs b) = some x) : x.size ≤ a.length + b.length + 1 := by
 obtain ⟨q, hpre⟩ : ∃ q, stringsHasPrefix (bs b) (bs [47]) = some q := ⟨_, pre_eq b⟩
 unfold routeJoin at h
 simp only [seq_nilB, hpre, Option.bind_some] at h
 have hb : (bs b).size = b.length := rfl
 have hsa : (bs a).size = a.length := rfl
 have hcat : ∀ (x y : ByteArray), (x ++ y).size = x.size + y.size := fun x y => by rw [size_by, by_append, List.length_append, ← size_by, ← size_by]
 by_cases hq : a = []
 ·rw [decide_eq_true hq, cond_true] at h
  cases h; omega
 rw [decide_eq_false hq, cond_false] at h
 cases q with
 | true => cases h; omega
 | false =>
  rw [cond_false] at h
  by_cases hz : b = []
  ·rw [decide_eq_true hz, cond_true] at h
   cases h; omega
  rw [decide_eq_false hz, cond_false] at h
  obtain ⟨l, z, rfl⟩ := snoc_of hq
  rw [suf_eq l z (by simp at ha; omega), Option.bind_some] at h
  obtain rfl := Option.some.inj ((grd_some (grd_some h).2).2)
  rw [hcat, hcat, hb]
  have : (bs [47]).size = 1 := rfl
  rw [this]
  split
  ·have : (bs l).size = l.length := rfl
   simp; omega
  ·rw [hsa]; omega
theorem hasPre (l : List UInt8) : stringsHasPrefix (bs l) (bs [116, 109, 112]) = some (decide (3 ≤ l.length) && seq ((bs l).extract 0 3) (bs [116, 109, 112])) := by
 unfold stringsHasPrefix stringsliteHasPrefix
 have h0 : (bs l).size = l.length := rfl
 have h1 : (bs [116, 109, 112]).size = 3 := rfl
 rw [h0, h1]
 by_cases h : 3 ≤ l.length
 ·have e1 : decide ((l.length : Int) ≥ ((3 : Nat) : Int)) = true := by simp; omega
  rw [e1, cond_true, grd_pos ⟨by omega, by omega, by omega⟩, decide_eq_true h]
  rfl
 ·have e1 : decide ((l.length : Int) ≥ ((3 : Nat) : Int)) = false := by simp; omega
  rw [e1, cond_false, decide_eq_false h]
  rfl
theorem stem_both (p : List UInt8) (hp : p.length ≤ 1000) : ∃ x, publishStem (bs p) = some x ∧ ref21Stem (bs p) = some x ∧ x.size ≤ 1000000 := by
 have hd := dirX_le p
 obtain ⟨y1, a1, a2⟩ := join_both (dirX p) [112, 109, 116, 88, 88, 88] (by omega) (by simp)
 obtain ⟨y2, b1, b2⟩ := join_both (dirX p) [116, 109, 112, 88, 88, 88] (by omega) (by simp)
 have s1 := join_size _ _ (by omega) a1
 have s2 := join_size _ _ (by omega) b1
 simp only [List.length_cons, List.length_nil] at s1 s2
 unfold publishStem ref21Stem
 rw [routeBase_eq p (by omega), ref01Base_eq p (by omega), Option.bind_some, Option.bind_some, hasPre, Option.bind_some, routeDir_eq p (by omega), ref01Dir_eq p (by omega)]
 simp only [Option.bind_some, a1, a2, b1, b2]
 have h0 : (bs (baseX p)).size = (baseX p).length := rfl
 rw [h0]
 by_cases h : 3 ≤ (baseX p).length
 ·have e1 : decide (((baseX p).length : Int) ≥ 3) = true := by simp; omega
  rw [e1, cond_true, grd_pos ⟨by omega, by omega, by omega⟩, decide_eq_true h, Bool.true_and]
  show ∃ x, (bif seq ((bs (baseX p)).extract 0 3) (bs [116, 109, 112]) then some y1 else some y2) = some x ∧ (bif seq ((bs (baseX p)).extract 0 3) (bs [116, 109, 112]) then some y1 else some y2) = some x ∧ x.size ≤ 1000000
  cases seq ((bs (baseX p)).extract 0 3) (bs [116, 109, 112])
  ·exact ⟨y2, rfl, rfl, by omega⟩
  ·exact ⟨y1, rfl, rfl, by omega⟩
 ·have e1 : decide (((baseX p).length : Int) ≥ 3) = false := by simp; omega
  rw [e1, cond_false, decide_eq_false h, Bool.false_and]
  exact ⟨y2, rfl, rfl, by omega⟩
end Go.Proofs.YtaenhodkpidocaaGreatDoor.Den
namespace Go.Proofs.YtaenhodkpidocaaGreatDoor.Den
open Go Go.RowKit
theorem trimc_snoc {l : List UInt8} {c z : UInt8} (h : z ≠ c) : Lib.trimRightB (l ++ [z]) c = l ++ [z] := by
 unfold Lib.trimRightB
 rw [List.reverse_append]
 simp [List.dropWhile_cons, h]
theorem trimc_same (l : List UInt8) (c : UInt8) : Lib.trimRightB (l ++ [c]) c = Lib.trimRightB l c := by
 unfold Lib.trimRightB
 rw [List.reverse_append]
 simp [List.dropWhile_cons]
theorem count_loop (t : ByteArray) (ht : t.size ≤ 1000000) : ∀ (n : Nat) (l : List UInt8) (i : Nat), l.length = n → by_ t = l ++ List.replicate i 88 → ∃ x, iterN (ref02Count_b2 t) (n + 1) (i : Int) = some x ∧
  ((∃ b, x = .inl (((t.size - (Lib.trimRightB l 88).length : Nat) : Int), b)) ∨ x = .inr ((t.size - (Lib.trimRightB l 88).length : Nat) : Int)) := by
 intro n
 induction n with
 | zero =>
  intro l i hn h
  obtain rfl := List.length_eq_zero_iff.1 hn
  have hs : t.size = i := by rw [size_by, h]; simp
  refine ⟨.inr (i : Int), iterN_done ?_, .inr ?_⟩
  ·have : decide ((i : Int) < (t.size : Int)) = false := by rw [hs]; exact ltf
   simp only [ref02Count_b2, this, cond_false]
  ·show _ = Sum.inr (((t.size - ([] : List UInt8).length : Nat) : Int))
   rw [hs]; rfl
 | succ n ih =>
  intro l i hn h
  obtain ⟨a, z, rfl⟩ := snoc_of (l := l) (by intro e; rw [e] at hn; cases hn)
  have ha : a.length = n := by simp at hn; exact hn
  have hs : t.size = a.length + 1 + i := by rw [size_by, h]; simp <;> omega
  have e0 : decide ((i : Int) < (t.size : Int)) = true := by rw [hs]; exact ltd (by omega)
  have hw : w64 (w64 ((t.size : Int) - 1) - (i : Int)) = (a.length : Int) := by
   rw [w64_eq (a := (t.size : Int) - 1) (by omega) (by omega), w64_eq (by omega) (by omega)]; omega
  have hg : gtS t (a.length : Int) = some z := by rw [gtS_by, h]; simp
  by_cases hz : z = 88
  ·subst hz
   obtain ⟨x, h1, h2⟩ := ih a (i + 1) ha (by rw [h, List.append_assoc]; rfl)
   refine ⟨x, iterN_step (a' := ((i + 1 : Nat) : Int)) ?_ h1, ?_⟩
   ·have e1 : (((88 : UInt8).toNat : Int) == 88) = true := rfl
    simp only [ref02Count_b2, e0, cond_true, hw, hg, Option.bind_some, e1, w64_succ (i := i) (by omega)]
   ·rw [trimc_same]; exact h2
  ·have e1 : ((z.toNat : Int) == 88) = false := by
    simp only [beq_eq_false_iff_ne, ne_eq]
    intro h
    exact hz (UInt8.toNat_inj.1 (by show z.toNat = 88; omega))
   refine ⟨.inl ((i : Int), z), iterN_done ?_, .inl ⟨z, ?_⟩⟩
   ·simp only [ref02Count_b2, e0, cond_true, hw, hg, Option.bind_some, e1, cond_false]
   ·rw [trimc_snoc hz]
    have : t.size - (a ++ [z]).length = i := by rw [hs]; simp
    rw [this]
theorem count_eq (t : ByteArray) (ht : t.size ≤ 1000000) : ref02Count t = some ((t.size - (stemL t).length : Nat) : Int) := by
 obtain ⟨x, h1, h2⟩ := count_loop t ht (by_ t).length (by_ t) 0 rfl (by simp)
 have h3 := iterN_LF h1 (by rw [← size_by]; omega)
 rw [show ((0 : Nat) : Int) = (0 : Int) from rfl] at h3
 unfold ref02Count
 rw [h3, Option.bind_some]
 rcases h2 with ⟨b, rfl⟩ | rfl <;> rfl
theorem let_ext (i : Nat) (h : i < 36) : (bs lets).extract i (i + 1) = bs [lets.getD i 0] := by
 have hl : lets.length = 36 := rfl
 rw [ext_one (l := lets) (i := i) (by omega)]
 congr 2
 rw [List.getD_eq_getElem?_getD, List.getElem?_eq_getElem (by omega)]
 rfl
theorem letter_eq (n : Int) : ref02Letter n = some (bs [letV n]) := by
 have h1 := Int.tmod_lt_of_pos n (show (0 : Int) < 36 by decide)
 have h2 := tmod36 n
 have hs : (bs lets).size = 36 := rfl
 have key : ∀ m : Int, 0 ≤ m → m < 36 → ltrI n = m.toNat → (grd (0 ≤ m ∧ m ≤ w64 (m + 1) ∧ w64 (m + 1) ≤ ((bs lets).size : Int)) <| some ((bs lets).extract m.toNat (w64 (m + 1)).toNat)) = some (bs [letV n]) := by
  intro m a b e
  have hw : w64 (m + 1) = m + 1 := w64_eq (by omega) (by omega)
  have e2 : (m + 1).toNat = m.toNat + 1 := by omega
  rw [hw, grd_pos ⟨a, by omega, by rw [hs]; omega⟩, e2, let_ext _ (by omega)]
  unfold letV
  rw [e]
 unfold ref02Letter
 by_cases hn : Int.tmod n 36 < 0
 ·have hw : w64 (Int.tmod n 36 + 36) = Int.tmod n 36 + 36 := w64_eq (by omega) (by omega)
  rw [decide_eq_true hn, cond_true, hw]
  exact key (Int.tmod n 36 + 36) (by omega) (by omega) (by unfold ltrI; rw [if_pos hn])
 ·rw [decide_eq_false hn, cond_false]
  exact key (Int.tmod n 36) (by omega) (by omega) (by unfold ltrI; rw [if_neg hn])
theorem make_loop (t : ByteArray) (ht : t.size ≤ 1000000) (ds : List Int) (c : Nat) (hc : c ≤ 1000000) : ∀ (k i : Nat), i + k = c → iterN (ref02Make_b4 ds (c : Int)) (k + 1) (bs (makeL t ds i), (i : Int)) = some (bs (makeL t ds c), (c : Int))
 | 0, i, h => by
  obtain rfl : i = c := by omega
  refine iterN_done ?_
  simp only [ref02Make_b4, ltf, cond_false]
 | k + 1, i, h => by
  have hm : (IntKind.i64.max : Int) = 9223372036854775807 := by decide
  refine iterN_step (a' := (bs (makeL t ds (i + 1)), ((i + 1 : Nat) : Int))) ?_ (make_loop t ht ds c hc k (i + 1) (by omega))
  have hlen := makeL_len t ds i
  have hst := stem_le t
  have hcat : bs (makeL t ds i) ++ bs [letV (ds.getD i 0)] = bs (makeL t ds (i + 1)) := by
   apply by_inj
   rw [by_append, by_bs, by_bs, by_bs, makeL_succ]
  have g : ¬ ((((bs (makeL t ds i)).size + (bs [letV (ds.getD i 0)]).size : Nat) : Int) > IntKind.i64.max) := by
   rw [hm]; show ¬ ((((makeL t ds i).length + 1 : Nat) : Int) > _); omega
  by_cases hi : i < ds.length
  ·have e : ds.getD i 0 = ds[i] := by rw [List.getD_eq_getElem?_getD, List.getElem?_eq_getElem hi]; rfl
   have e1 : decide ((i : Int) < (ds.length : Int)) = true := ltd hi
   rw [e] at hcat g
   simp only [ref02Make_b4, ltd (show i < c by omega), cond_true, e1, gt_nat hi, Option.bind_some, letter_eq, grd_pos g, hcat, w64_succ (i := i) (by omega)]
  ·have e : ds.getD i 0 = 0 := by rw [List.getD_eq_getElem?_getD, List.getElem?_eq_none (by omega)]; rfl
   have e1 : decide ((i : Int) < (ds.length : Int)) = false := by simp; omega
   rw [e] at hcat g
   simp only [ref02Make_b4, ltd (show i < c by omega), cond_true, e1, cond_false, Option.bind_some, letter_eq, grd_pos g, hcat, w64_succ (i := i) (by omega)]
theorem make_both (t : ByteArray) (ht : t.size ≤ 1000000) (ds : List Int) : makeX t ds = some (makeV t ds) ∧ ref02Make t ds = some (makeV t ds) := by
 constructor
 ·unfold makeX
  rw [if_pos (by omega)]
 ·have hst := stem_le t
  have hw : w64 ((t.size : Int) - ((t.size - (stemL t).length : Nat) : Int)) = ((stemL t).length : Int) := by rw [w64_eq (by omega) (by omega)]; omega
  have hx : t.extract 0 (((stemL t).length : Int)).toNat = bs (makeL t ds 0) := by
   apply by_inj
   obtain ⟨n, hn⟩ := trim_split 88 (by_ t)
   rw [Int.toNat_natCast, by_take, by_bs]
   have e0 : makeL t ds 0 = stemL t := by simp [makeL]
   rw [e0]
   have e1 : stemL t = Lib.trimRightB (by_ t) 88 := rfl
   rw [e1]
   exact (congrArg (List.take _) hn).trans List.take_left
  have h := iterN_LF (make_loop t ht ds (t.size - (stemL t).length) (by omega) (t.size - (stemL t).length) 0 (by omega)) (by omega)
  rw [show ((0 : Nat) : Int) = (0 : Int) from rfl] at h
  unfold ref02Make
  rw [count_eq t ht, Option.bind_some, hw, grd_pos ⟨by omega, by omega, by omega⟩, hx, h, Option.bind_some]
  rfl
theorem draw_step {n : Int} (hn : n = 3) {a0 a1 a2 a3 a4 a5 a6 : Int} {k : Nat} {a8 : Int} {t0 t1 t2 : ByteArray} {ns : List ByteArray} {st : List FrameD} (dr : List Int) {dn : Bool} {ex : Int} {out : ByteArray} {er : Int} (hk : k ≤ 1000000) {i : Nat} (hi : i < 3) {v : List Int} (hv : v.length ≤ 3) :
  ref15Draw_b3 n a0 a1 a2 a3 a4 a5 a6 (k : Int) a8 t0 t1 t2 ns st dr dn ex out er (((k + i : Nat) : Int), v) = some (.inl (((k + i + 1 : Nat) : Int), v ++ [dr.getD (k + i) 0])) := by
 subst hn
 have hw : w64 ((k : Int) + 3) = ((k + 3 : Nat) : Int) := by rw [w64_eq (by omega) (by omega)]; omega
 have hr : room (v.length + 1) 8 := ⟨by omega, by omega⟩
 by_cases h : k + i < dr.length
 ·have e : dr.getD (k + i) 0 = dr[k + i] := by rw [List.getD_eq_getElem?_getD, List.getElem?_eq_getElem h]; rfl
  simp only [ref15Draw_b3, hw, ltd (show k + i < k + 3 by omega), cond_true, ltd h, gt_nat h, Option.bind_some, grd_pos hr, e, w64_succ (i := k + i) (by omega)]
 ·have e : dr.getD (k + i) 0 = 0 := by rw [List.getD_eq_getElem?_getD, List.getElem?_eq_none (by omega)]; rfl
  have e1 : decide (((k + i : Nat) : Int) < (dr.length : Int)) = false := by simp; omega
  simp only [ref15Draw_b3, hw, ltd (show k + i < k + 3 by omega), cond_true, e1, cond_false, grd_pos hr, e, w64_succ (i := k + i) (by omega)]
theorem draw_done {n : Int} (hn : n = 3) {a0 a1 a2 a3 a4 a5 a6 : Int} {k : Nat} {a8 : Int} {t0 t1 t2 : ByteArray} {ns : List ByteArray} {st : List FrameD} (dr : List Int) {dn : Bool} {ex : Int} {out : ByteArray} {er : Int} (hk : k ≤ 1000000) {v : List Int} :
  ref15Draw_b3 n a0 a1 a2 a3 a4 a5 a6 (k : Int) a8 t0 t1 t2 ns st dr dn ex out er (((k + 3 : Nat) : Int), v) = some (.inr (((k + 3 : Nat) : Int), v)) := by
 subst hn
 have hw : w64 ((k : Int) + 3) = ((k + 3 : Nat) : Int) := by rw [w64_eq (by omega) (by omega)]; omega
 simp only [ref15Draw_b3, hw, ltf, cond_false]
theorem copy3 (dr : List Int) (k : Nat) : copyL (List.replicate 3 (0 : Int)) (dr.drop k) = [dr.getD k 0, dr.getD (k + 1) 0, dr.getD (k + 2) 0] := by
 have h : ∀ i, dr.getD (k + i) 0 = (dr.drop k).getD i 0 := by
  intro i
  rw [List.getD_eq_getElem?_getD, List.getD_eq_getElem?_getD, List.getElem?_drop]
 have h0 := h 0
 rw [Nat.add_zero] at h0
 rw [h0, h 1, h 2]
 generalize dr.drop k = m
 match m with
 | [] => rfl
 | [a] => rfl
 | [a, b] => rfl
 | a :: b :: c :: l =>
  unfold copyL
  have : min (a :: b :: c :: l).length (List.replicate 3 (0 : Int)).length = 3 := by simp
  rw [this]
  rfl
theorem draw_both (j : JobD) (h0 : 0 ≤ j.atF) (h1 : j.atF ≤ 1000000) : ∃ d, jobDraw j 3 = some (d, JobD.mk j.kind j.p j.phase j.fd j.nF j.modeF j.tries (w64 (j.atF + 3)) j.flags j.path j.path2 j.text j.names j.stack j.draws j.done j.exit j.out j.e) ∧
  ref15Draw j 3 = some (d, JobD.mk j.kind j.p j.phase j.fd j.nF j.modeF j.tries (w64 (j.atF + 3)) j.flags j.path j.path2 j.text j.names j.stack j.draws j.done j.exit j.out j.e) := by
 obtain ⟨k, hk⟩ := Int.eq_ofNat_of_zero_le h0
 have hk1 : k ≤ 1000000 := by omega
 refine ⟨[j.draws.getD k 0, j.draws.getD (k + 1) 0, j.draws.getD (k + 2) 0], ?_, ?_⟩
 ·unfold jobDraw
  have e0 : (if (0 : Int) > 3 then (0 : Int) else 3) = 3 := rfl
  rw [e0, grd_pos (by decide), hk]
  have e3 : (3 : Int).toNat = 3 := rfl
  rw [e3, Int.toNat_natCast, ← copy3]
  by_cases h : k < j.draws.length
  ·rw [ltd h, cond_true, grd_pos ⟨by omega, by omega, by omega⟩]
  ·have e : decide ((k : Int) < (j.draws.length : Int)) = false := by simp; omega
   rw [e, cond_false, List.drop_eq_nil_of_le (by omega)]
   rfl
 ·unfold ref15Draw
  rw [hk]
  have s0 := draw_step (n := 3) rfl (a0 := j.kind) (a1 := j.p) (a2 := j.phase) (a3 := j.fd) (a4 := j.nF) (a5 := j.modeF) (a6 := j.tries) (k := k) (a8 := j.flags) (t0 := j.path) (t1 := j.path2) (t2 := j.text) (ns := j.names) (st := j.stack) j.draws (dn := j.done) (ex := j.exit) (out := j.out) (er := j.e) hk1 (i := 0) (by omega) (v := []) (by simp)
  have s1 := draw_step (n := 3) rfl (a0 := j.kind) (a1 := j.p) (a2 := j.phase) (a3 := j.fd) (a4 := j.nF) (a5 := j.modeF) (a6 := j.tries) (k := k) (a8 := j.flags) (t0 := j.path) (t1 := j.path2) (t2 := j.text) (ns := j.names) (st := j.stack) j.draws (dn := j.done) (ex := j.exit) (out := j.out) (er := j.e) hk1 (i := 1) (by omega) (v := [j.draws.getD k 0]) (by simp)
  have s2 := draw_step (n := 3) rfl (a0 := j.kind) (a1 := j.p) (a2 := j.phase) (a3 := j.fd) (a4 := j.nF) (a5 := j.modeF) (a6 := j.tries) (k := k) (a8 := j.flags) (t0 := j.path) (t1 := j.path2) (t2 := j.text) (ns := j.names) (st := j.stack) j.draws (dn := j.done) (ex := j.exit) (out := j.out) (er := j.e) hk1 (i := 2) (by omega) (v := [j.draws.getD k 0, j.draws.getD (k + 1) 0]) (by simp)
  have s3 := draw_done (n := 3) rfl (a0 := j.kind) (a1 := j.p) (a2 := j.phase) (a3 := j.fd) (a4 := j.nF) (a5 := j.modeF) (a6 := j.tries) (k := k) (a8 := j.flags) (t0 := j.path) (t1 := j.path2) (t2 := j.text) (ns := j.names) (st := j.stack) j.draws (dn := j.done) (ex := j.exit) (out := j.out) (er := j.e) hk1 (v := [j.draws.getD k 0, j.draws.getD (k + 1) 0, j.draws.getD (k + 2) 0])
  have hall := iterN_LF (iterN_step s0 (iterN_step s1 (iterN_step s2 (iterN_done (n := 0) s3)))) (by omega)
  rw [Nat.add_zero] at hall
  rw [hall, Option.bind_some]
theorem named_both (j : JobD) (h0 : 0 ≤ j.atF) (h1 : j.atF ≤ 1000000) (hp : j.path.size ≤ 1000) : ∃ x, publishNamed j = some x ∧ ref21Named j = some x ∧ Kept j x := by
 obtain ⟨d, d1, d2⟩ := draw_both j h0 h1
 obtain ⟨y, y1, y2, y3⟩ := stem_both (by_ j.path) (by rw [← size_by]; exact hp)
 rw [bs_by] at y1 y2
 obtain ⟨m1, m2⟩ := make_both y y3 d
 unfold publishNamed ref21Named
 rw [d1, d2, y1, y2]
 simp only [Option.bind_some, m1, m2]
 exact ⟨_, rfl, rfl, rfl, rfl, rfl⟩
end Go.Proofs.YtaenhodkpidocaaGreatDoor.Den
namespace Go.Proofs.YtaenhodkpidocaaGreatDoor.Den
open Go Go.RowKit
theorem par_le (sp : List UInt8) : ∀ (n : Nat) (av : List ByteArray) (fl : List FlagD), (parF sp n av fl).2.1.length ≤ av.length ∧ (parF sp n av fl).2.2.length + tot (parF sp n av fl).2.1 ≤ fl.length + tot av
 | 0, av, fl => by simp [parF]
 | n + 1, [], fl => by simp [parF]
 | n + 1, a :: av, fl => by
  have ht : tot (a :: av) = a.size + tot av := by simp [tot]
  unfold parF
  split
  ·simp only [ht]; exact ⟨Nat.le_refl _, by omega⟩
  ·rename_i c g hc
   have hsz : a.size = g.length + 1 := by rw [size_by, hc]; rfl
   split
   ·cases g with
    | nil => simp only [ht]; exact ⟨Nat.le_refl _, by omega⟩
    | cons d g' =>
     simp only
     split
     ·simp only [ht, List.length_cons]; exact ⟨by omega, by omega⟩
     ·split
      ·obtain ⟨h1, h2⟩ := grpF_le sp (d :: g') av fl (grpF sp (d :: g') av fl).1 (grpF sp (d :: g') av fl).2.1 (grpF sp (d :: g') av fl).2.2 rfl
       obtain ⟨h3, h4⟩ := par_le sp n (grpF sp (d :: g') av fl).2.1 (grpF sp (d :: g') av fl).2.2
       rw [ht, List.length_cons]
       simp only [List.length_cons] at h2 hsz
       refine ⟨Nat.le_trans h3 ?_, Nat.le_trans h4 ?_⟩
       ·omega
       ·omega
      ·simp [tot]
   ·simp only [ht]; exact ⟨Nat.le_refl _, by omega⟩
theorem ans_le (sp : List UInt8) (n : Nat) (av : List ByteArray) : (ansP (parF sp n av [])).1.length + tot (ansP (parF sp n av [])).2.1 ≤ tot av ∧ (ansP (parF sp n av [])).2.1.length ≤ av.length := by
 obtain ⟨h1, h2⟩ := par_le sp n av []
 unfold ansP
 split
 ·exact ⟨by simpa using h2, h1⟩
 ·simp [tot]
theorem grp_err (sp : List UInt8) : ∀ (g : List UInt8) (av : List ByteArray) (fl : List FlagD), 0 ≤ (grpF sp g av fl).1 ∧ (grpF sp g av fl).1 ≤ 31
 | [], av, fl => by simp [grpF]
 | c :: g, av, fl => by
  unfold grpF
  split
  ·simp
  ·split
   ·cases g with
    | nil => cases av with
     | nil => simp
     | cons a av' => simp
    | cons d g' => simp
   ·exact grp_err sp g av _
theorem par_err (sp : List UInt8) : ∀ (n : Nat) (av : List ByteArray) (fl : List FlagD), 0 ≤ (parF sp n av fl).1 ∧ (parF sp n av fl).1 ≤ 31
 | 0, av, fl => by simp [parF]
 | n + 1, [], fl => by simp [parF]
 | n + 1, a :: av, fl => by
  unfold parF
  split
  ·simp
  ·rename_i c g hc
   split
   ·cases g with
    | nil => simp
    | cons d g' =>
     simp only
     split
     ·simp
     ·split
      ·exact par_err sp n _ _
      ·exact grp_err sp _ _ _
   ·simp
theorem ans_err (sp : List UInt8) (n : Nat) (av : List ByteArray) : 0 ≤ (ansP (parF sp n av [])).2.2 ∧ (ansP (parF sp n av [])).2.2 ≤ 31 := by
 unfold ansP
 split
 ·simp
 ·exact par_err sp n av []
theorem parse_gen (sp : List UInt8) (hs : sp.length ≤ 1000000) (argv : List ByteArray) (hn : argv.length ≤ 10) (ha : ∀ a ∈ argv, a.size ≤ 150) : ∃ f o e, optionParse (bs sp) argv = some (f, o, e) ∧ ref03Parse (bs sp) argv = some (f, o, e) ∧ f.length + tot o ≤ 1500 ∧ 0 ≤ e ∧ e ≤ 31 := by
 have ht : tot argv ≤ 1500 := by have := tot_le ha; omega
 have h1 := optionParse_eq (bs sp) argv (by show sp.length < _; omega) (by omega) (by omega)
 have h2 := ref03Parse_eq (bs sp) argv (by show sp.length ≤ _; omega) (by omega) (by omega)
 have h3 := (ans_le (by_ (bs sp)) (argv.length + 1) argv).1
 have h4 := ans_err (by_ (bs sp)) (argv.length + 1) argv
 generalize ansP (parF (by_ (bs sp)) (argv.length + 1) argv []) = X at h1 h2 h3 h4
 obtain ⟨f, o, e⟩ := X
 simp only at h3 h4
 exact ⟨f, o, e, h1, h2, by omega, h4.1, h4.2⟩
theorem tot_at {l : List ByteArray} {a : ByteArray} (h : a ∈ l) : a.size ≤ tot l := by
 induction l with
 | nil => cases h
 | cons b l ih =>
  have e : tot (b :: l) = b.size + tot l := by simp [tot]
  rcases List.mem_cons.1 h with rfl | h
  ·omega
  ·have := ih h; omega
theorem two_of {α : Type} {l : List α} (h : l.length = 2) : ∃ a b, l = [a, b] := by
 match l, h with
 | [a, b], _ => exact ⟨a, b, rfl⟩
end Go.Proofs.YtaenhodkpidocaaGreatDoor.Den
namespace Go.Proofs.YtaenhodkpidocaaGreatDoor.Den
open Go Go.RowKit
theorem start_eq (p : Int) (argv : List ByteArray) (draws : List Int) (hn : argv.length ≤ 10) (ha : ∀ a ∈ argv, a.size ≤ 150) :
  ∃ r, publishStart p argv draws = some r ∧ ref21Start p argv draws = some r ∧ r.names = [] ∧ r.stack = [] ∧ r.draws = draws := by
 unfold publishStart ref21Start jobNew ref15New
 obtain ⟨f, o, e, p1, p2, hf, he0, he1⟩ := parse_gen [] (by simp) argv hn ha
 simp only [p1, p2, Option.bind_some]
 by_cases h0 : e = 0
 ·subst h0
  have z1 : ((0 : Int) == 0) = true := rfl
  have z2 : ((0 : Int) != 0) = false := rfl
  by_cases h2 : o.length = 2
  ·obtain ⟨y1, y2, rfl⟩ := two_of h2
   have z3 : (([y1, y2].length : Int) != 2) = false := rfl
   have g1 : gt [y1, y2] 0 = some y1 := rfl
   have g2 : gt [y1, y2] 1 = some y2 := rfl
   have hy1 : y1.size ≤ 1500 := by have := tot_at (l := [y1, y2]) (a := y1) (by simp); omega
   have hc := check_eq (by_ y1)
   rw [bs_by] at hc
   have hv : checkX y1 = some (checkV y1) := rfl
   have hr := checkV_le y1
   simp only [z1, z2, z3, cond_true, cond_false, g1, g2, Option.bind_some, hc, hv]
   by_cases hcv : checkV y1 = 0
   ·have z4 : (checkV y1 != 0) = false := by simp [hcv]
    have hs : y1.size ≤ 1000 := by
     unfold checkV at hcv
     split at hcv
     ·cases hcv
     ·split at hcv
      ·cases hcv
      ·omega
    obtain ⟨x, x1, x2, x3⟩ := named_both ⟨9, p, 0, -1, 0, 0, 0, 0, 0, y1, bs [], y2, [], [], draws, false, 0, bs [], 0⟩ (by show (0 : Int) ≤ 0; omega) (by show (0 : Int) ≤ _; omega) hs
    simp only [z4, cond_false, x1, x2, Option.bind_some]
    exact ⟨x, rfl, rfl, x3.names, x3.stack, x3.draws⟩
   ·have z4 : (checkV y1 != 0) = true := by simp [hcv]
    simp only [z4, cond_true]
    rw [fail_eq _ _ _ hr.1 (by omega)]
    obtain ⟨x, hx⟩ := fail_some ⟨9, p, 0, -1, 0, 0, 0, 0, 0, bs [], bs [], bs [], [], [], draws, false, 0, bs [], 0⟩ y1 (checkV y1) hr.1 (by omega) (by omega)
    rw [hx]
    exact ⟨_, rfl, rfl, rfl, rfl, rfl⟩
  ·have z3 : ((o.length : Int) != 2) = true := by simp; omega
   simp only [z1, z2, z3, cond_true, cond_false]
   rw [fail_eq _ _ _ (by omega) (by omega)]
   obtain ⟨x, hx⟩ := fail_some ⟨9, p, 0, -1, 0, 0, 0, 0, 0, bs [], bs [], bs [], [], [], draws, false, 0, bs [], 0⟩ (bs [112, 117, 98, 108, 105, 115, 104]) 1 (by omega) (by omega) (by show 7 ≤ _; omega)
   rw [hx]
   exact ⟨_, rfl, rfl, rfl, rfl, rfl⟩
 ·have z1 : (e == 0) = false := by simp [h0]
  have z2 : (e != 0) = true := by simp [h0]
  simp only [z1, z2, cond_true, cond_false]
  rw [fail_eq _ _ _ he0 (by omega)]
  obtain ⟨x, hx⟩ := fail_some ⟨9, p, 0, -1, 0, 0, 0, 0, 0, bs [], bs [], bs [], [], [], draws, false, 0, bs [], 0⟩ (bs [112, 117, 98, 108, 105, 115, 104]) e he0 (by omega) (by show 7 ≤ _; omega)
  rw [hx]
  exact ⟨_, rfl, rfl, rfl, rfl, rfl⟩
theorem PublishStarts_true (p : Int) (argv : List ByteArray) (draws : List Int) (path : ByteArray) : law21PublishStarts p argv draws path = some true := by
 unfold law21PublishStarts shownX
 obtain ⟨b, hb, hb2⟩ := texts19_eq argv
 rw [hb, Option.bind_some]
 cases b with
 | false => rfl
 | true =>
  obtain ⟨hn, ha⟩ := hb2 rfl
  simp only [Bool.not_true, cond_false, Option.bind_some]
  by_cases hd : draws.length > 100
  ·have e : decide ((draws.length : Int) > 100) = true := by simp; omega
   rw [e, cond_true]
  ·have e : decide ((draws.length : Int) > 100) = false := by simp; omega
   by_cases hq : path.size > 200
   ·have e9 : decide ((path.size : Int) > 200) = true := by simp; omega
    rw [e, cond_false, e9, cond_true]
   ·have e9 : decide ((path.size : Int) > 200) = false := by simp; omega
    obtain ⟨r, h1, h2, h3, h4, h5⟩ := start_eq p argv draws hn ha
    obtain ⟨y, y1, y2, y3⟩ := stem_both (by_ path) (by rw [← size_by]; omega)
    rw [bs_by] at y1 y2
    have e1 : decide ((r.names.length : Int) ≤ 200) = true := by rw [h3]; rfl
    have e2 : decide ((r.stack.length : Int) ≤ 20) = true := by rw [h4]; rfl
    have ht : Tame r := ⟨by rw [h3]; simp, by rw [h4]; simp, by rw [h4]; simp, by rw [h5]; omega⟩
    simp only [e, e9, cond_false, h1, h2, Option.bind_some, e1, e2, cond_true, work_eq r ht.stack, job_self r ht, y1, y2, seq_self]
end Go.Proofs.YtaenhodkpidocaaGreatDoor.Den
