/- Entries: sortedness, copies, lists of names. -/
import Derived.Test.YtfllhakmjookkaaEntry
set_option linter.unusedVariables false
set_option linter.unusedSimpArgs false
namespace Go.Proofs.Ytfllhakmjookkaa
open Go Go.RowKit

theorem quiet_left {P : Program} {f : FuncId} {args : Array Value} {w : World} {n : Nat} {v : Value}
    (h : Calls P f args (w.drewN n) fun e w' => e = .returned v ∧ w.drewN n = w') : Calls P f args (w.drewN n) fun e w'' => e = .returned v ∧ ∃ m, w'' = w.drewN m :=
  h.mono fun _ _ ⟨he, hm⟩ => ⟨he, n, hm.symm⟩
theorem quiet_add_left {P : Program} {f : FuncId} {args : Array Value} {w : World} {a n : Nat} {v : Value}
    (h : Calls P f args (w.drewN (a + n)) fun e w' => e = .returned v ∧ w.drewN (a + n) = w') :
    Calls P f args (w.drewN (a + n)) fun e w'' => e = .returned v ∧ ∃ m, w'' = w.drewN (a + m) :=
  h.mono fun _ _ ⟨he, hm⟩ => ⟨he, n, hm.symm⟩

/-! ### Sorted -/
theorem sorted_any (l : List Ent) (v : Value) (w : World) (h : entK.Sl (Old w) w v l) (hl : l.length ≤ 1000) :
    Calls Try.prog 34 #[v] w fun e w' => e = .returned (.bool (sortedE l)) ∧ Below w.heap.size w w' := by
  unfold sortedE
  generalize hR : sortedF ⟨#[]⟩ l = R
  have HR := Lib.hid hR
  clear hR
  obtain ⟨av, cap, hvv, hcapv⟩ := Sl.val h
  subst hvv
  have H := Lib.hid h
  clear h
  obtain ⟨L, hL⟩ : ∃ n, l.length = n := ⟨_, rfl⟩
  rw [hL] at hcapv ⊢
  try rw [hL] at hl
  have HL := Lib.hid hL
  clear hL
  go_enter Try.func34, Try.ntmps34
  go_wp2
  go_loopw [3, 8] (fun la i wr => ∃ (k : Nat) (s : ByteArray), k ≤ L ∧ i = .int .i64 k ∧ la = .string s ∧ Hid (sortedF s (l.drop k) = R) ∧ Below w.heap.size w wr) (fun _ i _ => L - (intOf i).toNat)
  case atStart => exact ⟨0, _, by omega, rfl, rfl, HR.out, Below.refl _ _⟩
  case round =>
    obtain ⟨k, s, hk, rfl, rfl, hr, hb⟩ := hrel
    by_cases hlt : k < L
    · obtain ⟨x, hx⟩ : ∃ x, l[k]? = some x := ⟨_, List.getElem?_eq_getElem (by rw [HL.out]; exact hlt)⟩
      obtain ⟨g, off, cap', he, _, _, hS, c0, c1⟩ := ent_at (Sl.keep (Agree.below hb) H.out) hx
      rw [HL.out] at he
      injection he with he1 he2 he3
      subst he1 he3
      clear he2
      obtain ⟨hSg, hnm⟩ := hS
      have hr' := hr.out
      rw [drop_cons hx] at hr'
      unfold sortedF at hr'
      clear hr hx
      cases hb1 : (legalE x.name != 0)
      · rw [hb1] at hr'
        simp only [Bool.false_eq_true, if_false, if_true] at hr'
        cases hb2 : leS x.name s
        · rw [hb2] at hr'
          simp only [Bool.false_eq_true, if_false, if_true] at hr'
          have HR' := Lib.hid hr'
          have HL2 := Lib.hid hb2
          clear hr' hb2
          go_wp2_with fail
          refine (legal_any x.name hnm _).mono ?_
          rintro e w2 ⟨rfl, hb3⟩
          have hb2 : (Op.bytesLess x.name.toList s.toList || x.name.toList == s.toList) = false := HL2.out
          have HB := Lib.hid (bthen (bthen hb (balloc _ _)) hb3)
          obtain ⟨bc, bf⟩ := bcell hb3
          go_wp2
          go_roundw
          case rel => exact ⟨k + 1, _, by omega, by go_num, rfl, HR', HB.out⟩
          case measure => simp [intOf]; omega
        · rw [hb2] at hr'
          simp only [Bool.false_eq_true, if_false, if_true] at hr'
          have HR' := Lib.hid hr'
          have HL2 := Lib.hid hb2
          clear hr' hb2
          go_wp2_with fail
          refine (legal_any x.name hnm _).mono ?_
          rintro e w2 ⟨rfl, hb3⟩
          have hb2 : (Op.bytesLess x.name.toList s.toList || x.name.toList == s.toList) = true := HL2.out
          have HB := Lib.hid (bthen (bthen hb (balloc _ _)) hb3)
          obtain ⟨bc, bf⟩ := bcell hb3
          go_wp2
          go_ret
          exact ⟨ret_bool HR'.out, HB.out⟩
      · rw [hb1] at hr'
        simp only [Bool.false_eq_true, if_false, if_true] at hr'
        have HR' := Lib.hid hr'
        clear hr'
        go_wp2_with fail
        refine (legal_any x.name hnm _).mono ?_
        rintro e w2 ⟨rfl, hb3⟩
        have HB := Lib.hid (bthen (bthen hb (balloc _ _)) hb3)
        go_wp2
        go_ret
        exact ⟨ret_bool HR'.out, HB.out⟩
    · obtain rfl : k = L := by omega
      have HR' := Lib.hid (show sortedF s [] = R by have := hr.out; rwa [← HL.out, drop_end] at this)
      clear hr
      go_wp2
      go_ret
      exact ⟨ret_bool HR'.out, hb⟩


/-! ### Copies -/
theorem infoE : (Try.prog.info? 74).map (fun i => (i.zero, i.size, i.bytes)) = some (some (.agg #[.string ⟨#[]⟩, .int .i64 0]), 2, 24) := by kernel_rfl
theorem infoS : (Try.prog.info? 9).map (fun i => (i.zero, i.size, i.bytes)) = some (some (.string ⟨#[]⟩), 1, 16) := by kernel_rfl
def Made {α : Type} (d : Kind α) (e : TypeId) (w : World) (l : List α) (en : Ending) (w' : World) : Prop := ∃ r, en = .returned r ∧ d.Own e w.heap.size w' r l ∧ Below w.heap.size w w'
theorem its_any (l : List Ent) (v : Value) (w : World) (h : entK.Sl (Old w) w v l) (hl : l.length ≤ 1000) :
    Calls Try.prog 36 #[v] w (Made entK 74 w (l)) := by
  obtain ⟨av, cap, hvv, hcapv⟩ := Sl.val h
  subst hvv
  have H := Lib.hid h
  clear h
  obtain ⟨L, hL⟩ : ∃ n, l.length = n := ⟨_, rfl⟩
  rw [hL] at hcapv ⊢
  try rw [hL] at hl
  have HL := Lib.hid hL
  clear hL
  go_enter Try.func36, Try.ntmps36
  go_wp2
  go_loopw [3, 4] (fun o i wr => ∃ k : Nat, k ≤ L ∧ i = .int .i64 k ∧ Hid (entK.Own 74 w.heap.size wr o ((l.take k))) ∧ Hid (Below w.heap.size w wr)) (fun _ i _ => L - (intOf i).toNat)
  case atStart => exact ⟨0, by omega, rfl, Own.lit0 _ _ _ _ (Nat.le_refl _), balloc _ _⟩
  case round =>
    obtain ⟨k, hk, rfl, ho, hb⟩ := hrel
    by_cases hlt : k < L
    · obtain ⟨x, hx⟩ : ∃ x, l[k]? = some x := ⟨_, List.getElem?_eq_getElem (by rw [HL.out]; exact hlt)⟩
      obtain ⟨g, off, cap', he, _, _, hS, c0, c1⟩ := ent_at (Sl.keep (Agree.below hb.out) H.out) hx
      rw [HL.out] at he
      injection he with he1 he2 he3
      subst he1 he3
      clear he2
      obtain ⟨hSg, hnm⟩ := hS
      have HT := Lib.hid (take_snoc1 hx)
      clear hx
      have hbs : w.heap.size ≤ wr.heap.size := hb.out.size
      have htl : (((l.take k)).length + 1) * 24 ≤ 140737488355328 := by rw [List.length_take, HL.out]; omega
      go_wp2_with (at_builtin; refine wp_append1 entK w.heap.size rfl _ _ 49 74 _ 24 rfl Try.underlying49 infoE rfl (by decide) (by decide) _ _ rfl ho.out (x) [.string x.name, .int .i64 x.ino] _ rfl rfl ⟨rfl, hnm⟩ hbs htl ?_; intro v1 w1 hown hg hat)
      have HB := Lib.hid (hb.out.grown hg hbs (fun k hk => (Own.row ho.out k hk).1))
      have HO := Lib.hid (show entK.Own 74 w.heap.size w1 v1 ((l.take (k + 1))) by rw [HT.out]; exact hown)
      clear hown hg hat
      go_wp2
      go_roundw
      case rel => exact ⟨k + 1, by omega, by go_num, HO, HB⟩
      case measure => simp [intOf]; omega
    · obtain rfl : k = L := by omega
      have HO := Lib.hid ho.out
      rw [List.take_of_length_le (by rw [HL.out]; exact Nat.le_refl _)] at HO
      clear ho
      go_wp2
      go_ret
      exact ⟨_, rfl, HO.out, hb.out⟩

theorem names_any (l : List Ent) (v : Value) (w : World) (h : entK.Sl (Old w) w v l) (hl : l.length ≤ 1000) :
    Calls Try.prog 44 #[v] w (Made strK 9 w (l.map Ent.name)) := by
  obtain ⟨av, cap, hvv, hcapv⟩ := Sl.val h
  subst hvv
  have H := Lib.hid h
  clear h
  obtain ⟨L, hL⟩ : ∃ n, l.length = n := ⟨_, rfl⟩
  rw [hL] at hcapv ⊢
  try rw [hL] at hl
  have HL := Lib.hid hL
  clear hL
  go_enter Try.func44, Try.ntmps44
  go_wp2
  go_loopw [2, 7] (fun o i wr => ∃ k : Nat, k ≤ L ∧ i = .int .i64 k ∧ Hid (strK.Own 9 w.heap.size wr o ((l.take k).map Ent.name)) ∧ Hid (Below w.heap.size w wr)) (fun _ i _ => L - (intOf i).toNat)
  case atStart => exact ⟨0, by omega, rfl, Own.nil _ _ _ _, Below.refl _ _⟩
  case round =>
    obtain ⟨k, hk, rfl, ho, hb⟩ := hrel
    by_cases hlt : k < L
    · obtain ⟨x, hx⟩ : ∃ x, l[k]? = some x := ⟨_, List.getElem?_eq_getElem (by rw [HL.out]; exact hlt)⟩
      obtain ⟨g, off, cap', he, _, _, hS, c0, c1⟩ := ent_at (Sl.keep (Agree.below hb.out) H.out) hx
      rw [HL.out] at he
      injection he with he1 he2 he3
      subst he1 he3
      clear he2
      obtain ⟨hSg, hnm⟩ := hS
      have HT := Lib.hid (take_snoc1 hx)
      clear hx
      have hbs : w.heap.size ≤ wr.heap.size := hb.out.size
      have htl : (((l.take k).map Ent.name).length + 1) * 16 ≤ 140737488355328 := by rw [List.length_map]; rw [List.length_take, HL.out]; omega
      go_wp2_with (at_builtin; refine wp_append1 strK w.heap.size rfl _ _ 67 9 _ 16 rfl Try.underlying67 infoS rfl (by decide) (by decide) _ _ rfl (Own.alloc ho.out _) (x.name) [.string x.name] _ rfl ?cg rfl ?c1 htl ?_; (case cg => simp); (case c1 => exact Nat.le_trans hbs (by simp)); intro v1 w1 hown hg hat)
      have HB := Lib.hid (((hb.out.alloc hbs _)).grown hg (Nat.le_trans hbs (by simp)) (fun k hk => (Own.row ho.out k hk).1))
      have HO := Lib.hid (show strK.Own 9 w.heap.size w1 v1 ((l.take (k + 1)).map Ent.name) by rw [HT.out]; rw [List.map_append]; exact hown)
      clear hown hg hat
      go_wp2
      go_roundw
      case rel => exact ⟨k + 1, by omega, by go_num, HO, HB⟩
      case measure => simp [intOf]; omega
    · obtain rfl : k = L := by omega
      have HO := Lib.hid ho.out
      rw [List.take_of_length_le (by rw [HL.out]; exact Nat.le_refl _)] at HO
      clear ho
      go_wp2
      go_ret
      exact ⟨_, rfl, HO.out, hb.out⟩

theorem namesr_any (l : List Ent) (v : Value) (w : World) (h : entK.Sl (Old w) w v l) (hl : l.length ≤ 1000) :
    Calls Try.prog 45 #[v] w (Made strK 9 w (l.map Ent.name)) := by
  obtain ⟨av, cap, hvv, hcapv⟩ := Sl.val h
  subst hvv
  have H := Lib.hid h
  clear h
  obtain ⟨L, hL⟩ : ∃ n, l.length = n := ⟨_, rfl⟩
  rw [hL] at hcapv ⊢
  try rw [hL] at hl
  have HL := Lib.hid hL
  clear hL
  go_enter Try.func45, Try.ntmps45
  go_wp2
  go_loopw [3, 4] (fun o i wr => ∃ k : Nat, k ≤ L ∧ i = .int .i64 k ∧ Hid (strK.Own 9 w.heap.size wr o ((l.take k).map Ent.name)) ∧ Hid (Below w.heap.size w wr)) (fun _ i _ => L - (intOf i).toNat)
  case atStart => exact ⟨0, by omega, rfl, Own.lit0 _ _ _ _ (Nat.le_refl _), balloc _ _⟩
  case round =>
    obtain ⟨k, hk, rfl, ho, hb⟩ := hrel
    by_cases hlt : k < L
    · obtain ⟨x, hx⟩ : ∃ x, l[k]? = some x := ⟨_, List.getElem?_eq_getElem (by rw [HL.out]; exact hlt)⟩
      obtain ⟨g, off, cap', he, _, _, hS, c0, c1⟩ := ent_at (Sl.keep (Agree.below hb.out) H.out) hx
      rw [HL.out] at he
      injection he with he1 he2 he3
      subst he1 he3
      clear he2
      obtain ⟨hSg, hnm⟩ := hS
      have HT := Lib.hid (take_snoc1 hx)
      clear hx
      have hbs : w.heap.size ≤ wr.heap.size := hb.out.size
      have htl : (((l.take k).map Ent.name).length + 1) * 16 ≤ 140737488355328 := by rw [List.length_map]; rw [List.length_take, HL.out]; omega
      go_wp2_with (at_builtin; refine wp_append1 strK w.heap.size rfl _ _ 67 9 _ 16 rfl Try.underlying67 infoS rfl (by decide) (by decide) _ _ rfl ho.out (x.name) [.string x.name] _ rfl rfl rfl hbs htl ?_; intro v1 w1 hown hg hat)
      have HB := Lib.hid (hb.out.grown hg hbs (fun k hk => (Own.row ho.out k hk).1))
      have HO := Lib.hid (show strK.Own 9 w.heap.size w1 v1 ((l.take (k + 1)).map Ent.name) by rw [HT.out]; rw [List.map_append]; exact hown)
      clear hown hg hat
      go_wp2
      go_roundw
      case rel => exact ⟨k + 1, by omega, by go_num, HO, HB⟩
      case measure => simp [intOf]; omega
    · obtain rfl : k = L := by omega
      have HO := Lib.hid ho.out
      rw [List.take_of_length_le (by rw [HL.out]; exact Nat.le_refl _)] at HO
      clear ho
      go_wp2
      go_ret
      exact ⟨_, rfl, HO.out, hb.out⟩

end Go.Proofs.Ytfllhakmjookkaa
