/- Entries: comparisons; the reference's list functions. -/
import Derived.Test.YtfllhakmjookkaaEntryB
import Derived.Laws.StructEq
set_option linter.unusedVariables false
set_option linter.unusedSimpArgs false
namespace Go.Proofs.Ytfllhakmjookkaa
open Go Go.RowKit

def eqEnt (x y : Ent) : Bool := x.name.toList == y.name.toList && x.ino == y.ino
def sameE : List Ent → List Ent → Bool
  | [], [] => true
  | x :: l, y :: m => if eqEnt x y = true then sameE l m else false
  | _, _ => false
theorem sameE_len : ∀ (l m : List Ent), l.length ≠ m.length → sameE l m = false
  | [], [], h => absurd rfl h
  | [], _ :: _, _ => rfl
  | _ :: _, [], _ => rfl
  | x :: l, y :: m, h => by
    unfold sameE
    rw [sameE_len l m (fun e => h (by simp [e]))]
    split <;> rfl
theorem neq_ent (a b : ByteArray) (i j : Int) (w : World) : (binOp .neq 74 (.agg #[.string a, .int .i64 i]) (.agg #[.string b, .int .i64 j])).run Try.prog w = .ok (.bool (!(a.toList == b.toList && i == j))) w := by
  have u3 := Try.underlying3
  have a3 := Try.isAgg3
  have z3 := Try.sizeOf3
  have u9 := Try.underlying9
  have a9 := Try.isAgg9
  have z9 := Try.sizeOf9
  have hS : Try.prog.underlying 74 = some (.struct (Try.prog.fieldsOf 74)) := by kernel_rfl
  have hp : Try.prog.stoodInHeld 74 = false := by kernel_rfl
  rw [run_neq_struct, show (10000 : Nat) = 9999 + 1 from rfl, run_equalIn_agg w 9999 74 _ _ hS hp]
  simp only [Program.fieldsOf, Try.underlying74]
  go_simp
  by_cases h1 : a.toList = b.toList <;> by_cases h2 : i = j <;> simp [h1, h2]
theorem same_any (l m : List Ent) (v u : Value) (w : World) (h : entK.Sl (Old w) w v l) (hh : entK.Sl (Old w) w u m) (hl : l.length ≤ 1000) :
    Calls Try.prog 40 #[v, u] w fun e w' => e = .returned (.bool (sameE l m)) ∧ ∃ n, w' = w.drewN n := by
  by_cases hlm : l.length = m.length
  · obtain ⟨au, cu, hvu, hcu⟩ := Sl.val hh
    subst hvu
    generalize hR : sameE l m = R
    have HR := Lib.hid hR
    clear hR
    have HLM := Lib.hid hlm
    rw [← hlm] at hcu ⊢
    clear hlm
    have HH := Lib.hid hh
    clear hh
    obtain ⟨av, cap, hvv, hcapv⟩ := Sl.val h
    subst hvv
    have H := Lib.hid h
    clear h
    obtain ⟨L, hL⟩ : ∃ n, l.length = n := ⟨_, rfl⟩
    rw [hL] at hcapv ⊢
    try rw [hL] at hl
    have HL := Lib.hid hL
    clear hL
    go_enter Try.func40, Try.ntmps40
    try rw [HL.out] at hcu
    go_wp2
    go_loopw [5] (fun i wr => ∃ (k n : Nat), k ≤ L ∧ i = .int .i64 k ∧ wr = w.drewN n ∧ Hid (sameE (l.drop k) (m.drop k) = R)) (fun i _ => L - (intOf i).toNat)
    case atStart => exact ⟨0, 0, by omega, rfl, rfl, HR.out⟩
    case round =>
      obtain ⟨k, n, hk, rfl, rfl, hr⟩ := hrel
      by_cases hlt : k < L
      · obtain ⟨x, hx⟩ : ∃ x, l[k]? = some x := ⟨_, List.getElem?_eq_getElem (by rw [HL.out]; exact hlt)⟩
        obtain ⟨g, off, cap', he, _, _, hS, c0, c1⟩ := ent_at H.out hx
        rw [HL.out] at he
        injection he with he1 he2 he3
        subst he1 he3
        clear he2
        obtain ⟨y, hy⟩ : ∃ y, m[k]? = some y := ⟨_, List.getElem?_eq_getElem (by rw [← HLM.out, HL.out]; exact hlt)⟩
        obtain ⟨g2, off2, cap2', he2, _, _, hS2, d0, d1⟩ := ent_at HH.out hy
        injection he2 with he21 he22 he23
        subst he21 he23
        clear he22
        have hr' := hr.out
        rw [drop_cons hx, drop_cons hy] at hr'
        unfold sameE at hr'
        clear hr hx hy
        have hne := fun W => neq_ent x.name y.name x.ino y.ino W
        have hkc : (k : Int) < (cu : Int) := by omega
        cases hb : eqEnt x y
        · rw [hb] at hr'
          simp only [Bool.false_eq_true, if_false, if_true] at hr'
          have HR' := Lib.hid hr'
          have hb' : (x.name.toList == y.name.toList && x.ino == y.ino) = false := hb
          clear hr' hb
          rw [hb'] at hne
          clear hb'
          go_wp2
          go_quiet (fail)
          go_wp2
          go_ret
          exact ⟨ret_bool HR'.out, by first | exact ⟨_, rfl⟩ | exact ⟨_, World.drewN_drewN ..⟩⟩
        · rw [hb] at hr'
          simp only [Bool.false_eq_true, if_false, if_true] at hr'
          have HR' := Lib.hid hr'
          have hb' : (x.name.toList == y.name.toList && x.ino == y.ino) = true := hb
          clear hr' hb
          rw [hb'] at hne
          clear hb'
          go_wp2
          go_quiet (fail)
          go_wp2
          go_roundw
          case rel => exact ⟨k + 1, _, by omega, by go_num, by first | rfl | exact World.drewN_drewN .., HR'⟩
          case measure => simp [intOf]; omega
      · obtain rfl : k = L := by omega
        have HR' := Lib.hid (show sameE [] [] = R by have := hr.out; rwa [← HL.out, drop_end, HLM.out, drop_end] at this)
        clear hr
        go_wp2
        go_ret
        exact ⟨ret_bool HR'.out, _, rfl⟩
  · obtain ⟨av, cv, hvv, hcv⟩ := Sl.val h
    obtain ⟨au, cu, hvu, hcu⟩ := Sl.val hh
    subst hvu hvv
    rw [sameE_len l m hlm]
    have hlz : ((l.length : Int) != (m.length : Int)) = true := by rw [bne_iff_ne]; omega
    clear h hh hlm
    go_enter Try.func40, Try.ntmps40
    go_wp2
    go_ret
    exact ⟨rfl, 0, rfl⟩

def dropE (l : List Ent) (n : ByteArray) : List Ent := l.filter fun x => !(x.name.toList == n.toList)
theorem dropE_len (l : List Ent) (n : ByteArray) : (dropE l n).length ≤ l.length := List.length_filter_le _ _
theorem filter_snoc {α : Type} (p : α → Bool) (l : List α) (x : α) : (l ++ [x]).filter p = l.filter p ++ if p x = true then [x] else [] := by
  rw [List.filter_append]; by_cases h : p x = true <;> simp [h]
theorem dropr_any (l : List Ent) (v : Value) (n : ByteArray) (w : World) (h : entK.Sl (Old w) w v l) (hl : l.length ≤ 1000) :
    Calls Try.prog 42 #[v, .string n] w (Made entK 74 w (dropE l n)) := by
  obtain ⟨av, cap, hvv, hcapv⟩ := Sl.val h
  subst hvv
  have H := Lib.hid h
  clear h
  obtain ⟨L, hL⟩ : ∃ n, l.length = n := ⟨_, rfl⟩
  rw [hL] at hcapv ⊢
  try rw [hL] at hl
  have HL := Lib.hid hL
  clear hL
  go_enter Try.func42, Try.ntmps42
  go_wp2
  go_loopw [5, 6] (fun o i wr => ∃ k : Nat, k ≤ L ∧ i = .int .i64 k ∧ Hid (entK.Own 74 w.heap.size wr o (dropE (l.take k) n)) ∧ Hid (Below w.heap.size w wr)) (fun _ i _ => L - (intOf i).toNat)
  case atStart => exact ⟨0, by omega, rfl, Own.lit0 _ _ _ _ (Nat.le_refl _), balloc _ _⟩
  case round =>
    obtain ⟨k, hk, rfl, ho, hb⟩ := hrel
    by_cases hlt : k < L
    · obtain ⟨x, hx⟩ : ∃ x, l[k]? = some x := ⟨_, List.getElem?_eq_getElem (by rw [HL.out]; exact hlt)⟩
      obtain ⟨g, off, cap', he, _, _, hS, c0, c1⟩ := ent_at (Sl.keep (Agree.below hb.out) H.out) hx
      rw [HL.out] at he
      injection he with he1 he2 he3
      subst he1 he3
      clear he2
      obtain ⟨hSg, hnm⟩ := hS
      have HT := Lib.hid (show dropE (l.take (k + 1)) n = dropE (l.take k) n ++ if (!(x.name.toList == n.toList)) = true then [x] else [] by rw [take_snoc1 hx]; exact filter_snoc _ _ _)
      clear hx
      have hbs : w.heap.size ≤ wr.heap.size := hb.out.size
      have htl : ((dropE (l.take k) n).length + 1) * 24 ≤ 140737488355328 := by
        have := dropE_len (l.take k) n
        rw [List.length_take, HL.out] at this
        omega
      cases hq : (x.name.toList == n.toList)
      · rw [hq] at HT
        have hq2 : (x.name.toList != n.toList) = true := by unfold bne; rw [hq]; rfl
        go_wp2_with (at_builtin; refine wp_append1 entK w.heap.size rfl _ _ 49 74 _ 24 rfl Try.underlying49 infoE rfl (by decide) (by decide) _ _ rfl ho.out x [.string x.name, .int .i64 x.ino] _ rfl ?cg ⟨rfl, hnm⟩ ?c1 htl ?_; (case cg => first | rfl | simp); (case c1 => exact hbs); intro v1 w1 hown hg hat)
        have HO := Lib.hid (show entK.Own 74 w.heap.size w1 v1 (dropE (l.take (k + 1)) n) by rw [HT.out]; exact hown)
        have HB := Lib.hid (hb.out.grown hg hbs (fun k hk => (Own.row ho.out k hk).1))
        clear hown hg hat
        go_wp2
        go_roundw
        case rel => exact ⟨k + 1, by omega, by go_num, HO, HB⟩
        case measure => simp [intOf]; omega
      · rw [hq] at HT
        have hq2 : (x.name.toList != n.toList) = false := by unfold bne; rw [hq]; rfl
        have HO := Lib.hid ho.out
        rw [show dropE (l.take k) n = dropE (l.take (k + 1)) n by rw [HT.out]; simp] at HO
        clear htl
        go_wp2
        go_roundw
        case rel => exact ⟨k + 1, by omega, by go_num, HO, hb⟩
        case measure => simp [intOf]; omega
    · obtain rfl : k = L := by omega
      have HO := Lib.hid ho.out
      rw [List.take_of_length_le (by rw [HL.out]; exact Nat.le_refl _)] at HO
      clear ho
      go_wp2
      go_ret
      exact ⟨_, rfl, HO.out, hb.out⟩


theorem str_at {S : Nat → Prop} {w : World} {v : Value} {xs : List ByteArray} (h : strK.Sl S w v xs) {i : Nat} {x : ByteArray} (hx : xs[i]? = some x) :
    ∃ g off cap, v = .slice (some ⟨g, off, none⟩) xs.length cap ∧ xs.length ≤ cap ∧ cap ≤ 9223372036854775807 ∧ S g ∧ w.cell? ⟨g, off + i, none⟩ = some (.string x) := by
  obtain ⟨g, off, cap, cs, rfl, h1, h2, h3, rfl, h4⟩ := Sl.get h hx
  have := h4 0 _ rfl
  exact ⟨g, off, cap, rfl, h1, h2, h3, by simpa [strK, scalar] using this⟩
def textsE : List ByteArray → List ByteArray → Bool
  | [], [] => true
  | x :: l, y :: m => if (x.toList == y.toList) = true then textsE l m else false
  | _, _ => false
theorem textsE_len : ∀ (l m : List ByteArray), l.length ≠ m.length → textsE l m = false
  | [], [], h => absurd rfl h
  | [], _ :: _, _ => rfl
  | _ :: _, [], _ => rfl
  | x :: l, y :: m, h => by
    unfold textsE
    rw [textsE_len l m (fun e => h (by simp [e]))]
    split <;> rfl
theorem texts_any (l m : List ByteArray) (v u : Value) (w : World) (h : strK.Sl (Old w) w v l) (hh : strK.Sl (Old w) w u m) (hl : l.length ≤ 1000) :
    Calls Try.prog 43 #[v, u] w fun e w' => e = .returned (.bool (textsE l m)) ∧ ∃ n, w' = w.drewN n := by
  by_cases hlm : l.length = m.length
  · obtain ⟨au, cu, hvu, hcu⟩ := Sl.val hh
    subst hvu
    generalize hR : textsE l m = R
    have HR := Lib.hid hR
    clear hR
    have HLM := Lib.hid hlm
    rw [← hlm] at hcu ⊢
    clear hlm
    have HH := Lib.hid hh
    clear hh
    obtain ⟨av, cap, hvv, hcapv⟩ := Sl.val h
    subst hvv
    have H := Lib.hid h
    clear h
    obtain ⟨L, hL⟩ : ∃ n, l.length = n := ⟨_, rfl⟩
    rw [hL] at hcapv ⊢
    try rw [hL] at hl
    have HL := Lib.hid hL
    clear hL
    try rw [HL.out] at hcu
    go_enter Try.func43, Try.ntmps43
    go_wp2
    go_loopw [5] (fun i wr => ∃ (k n : Nat), k ≤ L ∧ i = .int .i64 k ∧ wr = w.drewN n ∧ Hid (textsE (l.drop k) (m.drop k) = R)) (fun i _ => L - (intOf i).toNat)
    case atStart => exact ⟨0, 0, by omega, rfl, rfl, HR.out⟩
    case round =>
      obtain ⟨k, n, hk, rfl, rfl, hr⟩ := hrel
      by_cases hlt : k < L
      · obtain ⟨x, hx⟩ : ∃ x, l[k]? = some x := ⟨_, List.getElem?_eq_getElem (by rw [HL.out]; exact hlt)⟩
        obtain ⟨g, off, cap', he, _, _, hS, c0⟩ := str_at H.out hx
        rw [HL.out] at he
        injection he with he1 he2 he3
        subst he1 he3
        clear he2
        obtain ⟨y, hy⟩ : ∃ y, m[k]? = some y := ⟨_, List.getElem?_eq_getElem (by rw [← HLM.out, HL.out]; exact hlt)⟩
        obtain ⟨g2, off2, cap2', he2, _, _, hS2, d0⟩ := str_at HH.out hy
        injection he2 with he21 he22 he23
        subst he21 he23
        clear he22
        have hr' := hr.out
        rw [drop_cons hx, drop_cons hy] at hr'
        unfold textsE at hr'
        clear hr hx hy
        have hkc : (k : Int) < (cu : Int) := by omega
        cases hb : (x.toList == y.toList)
        · rw [hb] at hr'
          simp only [Bool.false_eq_true, if_false, if_true] at hr'
          have HR' := Lib.hid hr'
          have hb' : (x.toList != y.toList) = true := by unfold bne; rw [hb]; rfl
          clear hr'
          go_wp2
          go_quiet (fail)
          go_wp2
          go_ret
          exact ⟨ret_bool HR'.out, by first | exact ⟨_, rfl⟩ | exact ⟨_, World.drewN_drewN ..⟩⟩
        · rw [hb] at hr'
          simp only [Bool.false_eq_true, if_false, if_true] at hr'
          have HR' := Lib.hid hr'
          have hb' : (x.toList != y.toList) = false := by unfold bne; rw [hb]; rfl
          clear hr'
          go_wp2
          go_quiet (fail)
          go_wp2
          go_roundw
          case rel => exact ⟨k + 1, _, by omega, by go_num, by first | rfl | exact World.drewN_drewN .., HR'⟩
          case measure => simp [intOf]; omega
      · obtain rfl : k = L := by omega
        have HR' := Lib.hid (show textsE [] [] = R by have := hr.out; rwa [← HL.out, drop_end, HLM.out, drop_end] at this)
        clear hr
        go_wp2
        go_ret
        exact ⟨ret_bool HR'.out, _, rfl⟩
  · obtain ⟨av, cv, hvv, hcv⟩ := Sl.val h
    obtain ⟨au, cu, hvu, hcu⟩ := Sl.val hh
    subst hvu hvv
    rw [textsE_len l m hlm]
    have hlz : ((l.length : Int) != (m.length : Int)) = true := by rw [bne_iff_ne]; omega
    clear h hh hlm
    go_enter Try.func43, Try.ntmps43
    go_wp2
    go_ret
    exact ⟨rfl, 0, rfl⟩
end Go.Proofs.Ytfllhakmjookkaa
