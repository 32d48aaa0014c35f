/- Plain laws of options: letters in one group, in words of their own, and with the value set against. -/
import Derived.Test.YtbidfkibpjjghaaDoorPlOptB
set_option linter.unusedVariables false
set_option linter.unusedSimpArgs false
namespace Go.Proofs.YtbidfkibpjjghaaDoor.Den
open Go Go.RowKit

def letG (y : Int) : UInt8 := if y.toNat % 3 = 0 then 112 else if y.toNat % 3 = 1 then 114 else 102
theorem letG_eq (y : Int) (h0 : 0 ≤ y) (h1 : y ≤ 255) : gtS (bs [112, 114, 102]) (Int.tmod (IntKind.wrap .i64 y) (3 : Int)) = some (letG y) := by
  rw [gtS_mod _ _ h0 h1]
  unfold letG
  have : y.toNat % 3 = 0 ∨ y.toNat % 3 = 1 ∨ y.toNat % 3 = 2 := by omega
  rcases this with h | h | h <;> rw [h] <;> rfl
theorem kG (y : Int) : kindF [112, 114, 102, 109, 58] (letG y) = 1 ∧ letG y ≠ 45 := by
  unfold letG; split
  · exact ⟨rfl, by decide⟩
  · split
    · exact ⟨rfl, by decide⟩
    · exact ⟨rfl, by decide⟩
theorem kG_m : kindF [112, 114, 102, 109, 58] 109 = 2 := rfl
def flG (w : List Int) : List FlagD := w.map fun y => ⟨((letG y).toNat : Int), bs []⟩
theorem size_app (a b : ByteArray) : (a ++ b).size = a.size + b.size := by rw [size_by, by_append, List.length_append, ← size_by, ← size_by]
theorem not_big {n : Nat} (h : n ≤ 1000000) : ¬ ((n : Int) > IntKind.i64.max) := by
  have : IntKind.i64.max = 9223372036854775807 := by decide
  rw [this]; omega
theorem group_loop (w : List Int) (a b : ByteArray) (hw : w.length ≤ 20) (hr : ∀ y ∈ w, 0 ≤ y ∧ y ≤ 255) : ∀ (t : List Int) (i : Nat) (s : List UInt8) (o : List ByteArray), w.drop i = t → i ≤ w.length → s.length ≤ 1 + i → o.length ≤ i →
    iterN (law03OptionGroups_b6 w a b) (t.length + 1) (bs s, (i : Int), o) = some (bs (s ++ t.map letG), (w.length : Int), o ++ t.map fun y => bs [45, letG y])
  | [], i, s, o, h, hi, hs, ho => by
    obtain rfl := drop_end h hi
    refine iterN_done ?_
    simp only [law03OptionGroups_b6, ltf, cond_false, List.map_nil, List.append_nil]
  | y :: t, i, s, o, h, hi, hs, ho => by
    obtain ⟨hlt, hx, ht⟩ := drop_at h
    obtain ⟨r0, r1⟩ := hr y (by rw [← hx]; exact List.getElem_mem hlt)
    refine iterN_step (a' := (bs (s ++ [letG y]), ((i + 1 : Nat) : Int), o ++ [bs [45, letG y]])) ?_ ?_
    · simp only [law03OptionGroups_b6, ltd hlt, cond_true, gt_nat hlt, hx, Option.bind_some, letG_eq y r0 r1, mk1]
      rw [grd_pos (not_big (by rw [size_bs, size_bs]; simp; omega)), grd_pos (not_big (by rw [size_bs, size_bs]; simp)), grd_pos (room16 (n := o.length + 1) (by omega)), w64_succ (i := i) (by omega), bs_app, bs_app]
      rfl
    · refine (group_loop w a b hw hr t (i + 1) (s ++ [letG y]) (o ++ [bs [45, letG y]]) ht hlt (by simp; omega) (by simp; omega)).trans ?_
      simp
/-! ### the three parses -/
theorem grp_letters (g : List UInt8) (av : List ByteArray) : ∀ (w : List Int) (fl : List FlagD), grpF [112, 114, 102, 109, 58] (w.map letG ++ g) av fl = grpF [112, 114, 102, 109, 58] g av (fl ++ flG w)
  | [], fl => by simp [flG]
  | y :: w, fl => by
    show grpF _ (letG y :: (w.map letG ++ g)) av fl = _
    rw [show grpF [112, 114, 102, 109, 58] (letG y :: (w.map letG ++ g)) av fl = grpF [112, 114, 102, 109, 58] (w.map letG ++ g) av (fl ++ [⟨((letG y).toNat : Int), bs []⟩]) from by
      conv => lhs; unfold grpF
      rw [if_neg (by rw [(kG y).1]; decide), if_neg (by rw [(kG y).1]; decide)]]
    rw [grp_letters g av w]
    simp [flG]
/-- One word of letters, at least one. -/
theorem parF_group (y : Int) (w : List Int) (g : List UInt8) (n : Nat) (av av' : List ByteArray) (fl : List FlagD) (h : grpF [112, 114, 102, 109, 58] g av (flG (y :: w)) = (0, av', fl)) :
    parF [112, 114, 102, 109, 58] (n + 1) (bs (45 :: ((y :: w).map letG ++ g)) :: av) [] = parF [112, 114, 102, 109, 58] n av' fl := by
  have e : grpF [112, 114, 102, 109, 58] (letG y :: (w.map letG ++ g)) av [] = (0, av', fl) := by
    have := grp_letters g av (y :: w) []
    rw [List.nil_append, h] at this
    exact this
  rw [parF, by_bs]
  simp only [if_true, List.map_cons, List.cons_append]
  rw [if_neg (by intro h; exact (kG y).2 h.1), e]
  simp only [if_true]
theorem parF_apart (v o : ByteArray) (ho : o.size ≤ 1 ∨ (by_ o)[0]? ≠ some 45) : ∀ (w : List Int) (n : Nat) (fl : List FlagD), w.length + 1 < n →
    parF [112, 114, 102, 109, 58] n ((w.map fun y => bs [45, letG y]) ++ [bs [45, 109], v, o]) fl = (0, [o], fl ++ flG w ++ [⟨109, v⟩])
  | [], n, fl, hn => by
    obtain ⟨m, rfl⟩ : ∃ m, n = m + 1 + 1 := ⟨n - 2, by simp at hn; omega⟩
    show parF _ (m + 1 + 1) [bs [45, 109], v, o] fl = _
    rw [parF_val _ 109 (by decide) kG_m, parF_op _ _ _ _ _ ho]
    simp [flG]
  | y :: w, n, fl, hn => by
    simp only [List.length_cons] at hn
    obtain ⟨m, rfl⟩ : ∃ m, n = m + 1 := ⟨n - 1, by omega⟩
    show parF _ (m + 1) (bs [45, letG y] :: ((w.map fun y => bs [45, letG y]) ++ [bs [45, 109], v, o])) fl = _
    rw [parF_one _ _ (kG y).2 (kG y).1, parF_apart v o ho w m _ (by omega)]
    simp [flG]
theorem grp_m1 (v : ByteArray) (av : List ByteArray) (fl : List FlagD) : grpF [112, 114, 102, 109, 58] [109] (v :: av) fl = (0, av, fl ++ [⟨109, v⟩]) := by
  unfold grpF
  rw [if_neg (by rw [kG_m]; decide), if_pos kG_m]; rfl
theorem grp_m2 (c : UInt8) (g : List UInt8) (av : List ByteArray) (fl : List FlagD) : grpF [112, 114, 102, 109, 58] (109 :: c :: g) av fl = (0, av, fl ++ [⟨109, bs (c :: g)⟩]) := by
  unfold grpF
  rw [if_neg (by rw [kG_m]; decide), if_pos kG_m]; rfl
theorem OptionGroups_true (w : List Int) (v o : ByteArray) (hr : ∀ y ∈ w, 0 ≤ y ∧ y ≤ 255) : law03OptionGroups w v o = some true := by
  unfold law03OptionGroups
  rw [shown_true]
  cases h1 : decide ((w.length : Int) > (20 : Int)) with
  | true => rfl
  | false =>
  have h1 : w.length ≤ 20 := by simp at h1; omega
  rw [cond_false]
  cases w with
  | nil => rfl
  | cons y w =>
  have e0 : (((y :: w).length : Int) == (0 : Int)) = false := by simp <;> omega
  rw [e0, cond_false]
  cases h2 : decide ((v.size : Int) > (50 : Int)) with
  | true => rfl
  | false =>
  have h2 : v.size ≤ 50 := by simp at h2; omega
  rw [cond_false]
  cases h3 : decide ((o.size : Int) > (50 : Int)) with
  | true => rfl
  | false =>
  have h3 : o.size ≤ 50 := by simp at h3; omega
  rw [cond_false]
  cases h4 : by_ o with
  | nil =>
    have : seq o (bs []) = true := by rw [seq_by, h4]; rfl
    rw [this]; rfl
  | cons c g =>
  have : seq o (bs []) = false := by rw [seq_by, h4]; rfl
  rw [this, cond_false, show gtS o (0 : Int) = some c from (gtS_by o 0).trans (by rw [h4]; rfl), Option.bind_some, show ((c.toNat : Int) == (45 : Int)) = (c == UInt8.ofNat 45) from u8_lit c 45 (by omega)]
  cases h5 : (c == UInt8.ofNat 45) with
  | true => rfl
  | false =>
  have ho : o.size ≤ 1 ∨ (by_ o)[0]? ≠ some 45 := .inr (by
    rw [h4]
    intro h
    injection h with h
    subst h
    exact absurd h5 (by decide))
  have hlp := iterN_LF (group_loop (y :: w) v o h1 hr (y :: w) 0 [45] [] rfl (Nat.zero_le _) (by simp) (by simp)) (by omega)
  rw [show ((0 : Nat) : Int) = (0 : Int) from rfl] at hlp
  have hlen : ((y :: w).map letG).length = (y :: w).length := by simp
  have hlen2 : ((y :: w).map fun y => bs [45, letG y]).length = (y :: w).length := by simp
  have hfl : (flG (y :: w) ++ [(⟨109, v⟩ : FlagD)]).length = (y :: w).length + 1 := by simp [flG]
  have htot : tot ((y :: w).map fun y => bs [45, letG y]) ≤ (y :: w).length * 2 := by
    have := tot_le (l := (y :: w).map fun y => bs [45, letG y]) (m := 2) (fun x hx => by
      obtain ⟨z, _, rfl⟩ := List.mem_map.1 hx
      exact Nat.le_refl 2)
    rwa [hlen2] at this
  have hm : (bs [45, 109]).size = 2 := rfl
  have em : bs ([45] ++ (y :: w).map letG) ++ bs [109] = bs (45 :: ((y :: w).map letG ++ [109])) := by rw [bs_app]; rfl
  have sm : (bs (45 :: ((y :: w).map letG ++ [109]))).size = (y :: w).length + 2 := by rw [size_bs]; simp
  have p1 : optionParse (bs [112, 114, 102, 109, 58]) [bs (45 :: ((y :: w).map letG ++ [109])), v, o] = some (flG (y :: w) ++ [⟨109, v⟩], [o], 0) :=
    parse_of (r := (0, [o], flG (y :: w) ++ [⟨109, v⟩])) (by decide) (by simp) (by rw [tot_cons, tot_cons, tot_cons, tot_nil, sm]; omega) (by
      show parF _ (3 + 1) _ [] = _
      rw [by_bs, parF_group y w [109] 3 [v, o] [o] _ (grp_m1 v [o] _), parF_op _ _ _ _ _ ho])
  have p2 : optionParse (bs [112, 114, 102, 109, 58]) (((y :: w).map fun y => bs [45, letG y]) ++ [bs [45, 109], v, o]) = some (flG (y :: w) ++ [⟨109, v⟩], [o], 0) :=
    parse_of (r := (0, [o], flG (y :: w) ++ [⟨109, v⟩])) (by decide) (by rw [List.length_append, hlen2]; simp at h1 ⊢; omega) (by rw [tot_append, tot_cons, tot_cons, tot_cons, tot_nil, hm]; omega) (by
      rw [by_bs, parF_apart v o ho (y :: w) _ [] (by rw [List.length_append, hlen2]; simp)]; rfl)
  have ew : w64 (((y :: w).length : Int) + (1 : Int)) = (((y :: w).length + 1 : Nat) : Int) := w64_succ (by omega)
  have hsame := same_self (flG (y :: w) ++ [(⟨109, v⟩ : FlagD)]) (by rw [hfl]; omega)
  have hits := its_eq (flG (y :: w) ++ [(⟨109, v⟩ : FlagD)]) (by rw [hfl]; omega)
  have htx := texts_self [o] (by simp)
  simp only [cond_false, Option.bind_some, Bool.not_true]
  rw [hlp, Option.bind_some]
  simp only [List.nil_append]
  have sz1 : (bs ([45] ++ (y :: w).map letG)).size = (y :: w).length + 1 := by rw [size_bs]; simp
  have sz2 : (bs [109]).size = 1 := rfl
  rw [grd_pos (not_big (by rw [sz1, sz2]; omega)), em, p1, Option.bind_some]
  simp only
  rw [grd_pos (room16 (by rw [hlen2]; omega)), p2, Option.bind_some]
  simp only
  cases h6 : by_ v with
  | nil =>
    have : seq v (bs []) = true := by rw [seq_by, h6]; rfl
    rw [this, Bool.not_true, cond_false]
    simp only [hits, hsame, htx, hfl, ew, Option.bind_some, cond_true, beq_self_eq_true, gt_head, seq_self]
    rfl
  | cons d k =>
    have : seq v (bs []) = false := by rw [seq_by, h6]; rfl
    have ev : bs (45 :: ((y :: w).map letG ++ [109])) ++ v = bs (45 :: ((y :: w).map letG ++ (109 :: d :: k))) := by
      apply by_inj
      rw [by_append, h6, by_bs, by_bs]; simp
    have sv : v.size = k.length + 1 := by rw [size_by, h6]; rfl
    have hv : bs (d :: k) = v := by rw [← h6, bs_by]
    have p3 : optionParse (bs [112, 114, 102, 109, 58]) [bs (45 :: ((y :: w).map letG ++ (109 :: d :: k))), o] = some (flG (y :: w) ++ [⟨109, v⟩], [o], 0) :=
      parse_of (r := (0, [o], flG (y :: w) ++ [⟨109, v⟩])) (by decide) (by simp) (by rw [tot_cons, tot_cons, tot_nil, ← ev, size_app, sm]; omega) (by
        show parF _ (2 + 1) _ [] = _
        rw [by_bs, parF_group y w (109 :: d :: k) 2 [o] [o] _ (grp_m2 d k [o] _), parF_op _ _ _ _ _ ho, hv])
    rw [this, Bool.not_false, cond_true, grd_pos (not_big (by rw [sz1, sz2]; omega)), grd_pos (not_big (by rw [sm]; omega)), ev, p3, Option.bind_some]
    simp only [hits, hsame, htx, hfl, ew, Option.bind_some, cond_true, cond_false, Bool.not_true, bne_self_eq_false, beq_self_eq_true, gt_head, seq_self]
    rfl
end Go.Proofs.YtbidfkibpjjghaaDoor.Den
