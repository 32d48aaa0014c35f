/- Entries: the reference's Put and Sorted. -/
import Derived.Test.YtfllhakmjookkaaEntryC
import Derived.IntWalk
set_option linter.unusedVariables false
set_option linter.unusedSimpArgs false
namespace Go.Proofs.Ytfllhakmjookkaa
open Go Go.RowKit

def ltS (a b : ByteArray) : Bool := Op.bytesLess a.toList b.toList
def gtS (a b : ByteArray) : Bool := !(Op.bytesLess a.toList b.toList || a.toList == b.toList)
def putE (l : List Ent) (e : Ent) : List Ent := (dropE l e.name).filter (fun x => ltS x.name e.name) ++ [e] ++ (dropE l e.name).filter (fun x => gtS x.name e.name)
theorem filter_take {α : Type} (p : α → Bool) {l : List α} {k : Nat} {x : α} (hx : l[k]? = some x) : (l.take (k + 1)).filter p = (l.take k).filter p ++ if p x = true then [x] else [] := by
  rw [take_snoc1 hx]; exact filter_snoc _ _ _
theorem filter_take_len {α : Type} (p : α → Bool) (l : List α) (k : Nat) : ((l.take k).filter p).length ≤ l.length :=
  Nat.le_trans (List.length_filter_le _ _) (by rw [List.length_take]; exact Nat.min_le_right _ _)
set_option maxHeartbeats 400000 in
theorem putr_any (l : List Ent) (v : Value) (e : Ent) (w : World) (h : entK.Sl (Old w) w v l) (hl : l.length ≤ 1000) (hen : e.name.size ≤ maxLen) :
    Calls Try.prog 47 #[v, .agg #[.string e.name, .int .i64 e.ino]] w (Made entK 74 w (putE l e)) := by
  have hval : ∃ a n cap, v = .slice a n cap := by obtain ⟨a, cap, hv, _⟩ := Sl.val h; exact ⟨a, _, cap, hv⟩
  obtain ⟨a0, n0, c0', rfl⟩ := hval
  have H0 := Lib.hid (Sl.below (balloc w (.cells #[.string e.name, .int .i64 e.ino] 74)) h)
  clear h
  generalize hP : putE l e = Pl
  unfold putE at hP
  have HP := Lib.hid hP
  clear hP
  have hdl := dropE_len l e.name
  go_enter Try.func47, Try.ntmps47
  go_wp2_with fail
  refine (dropr_any l _ e.name _ H0.out hl).mono ?_
  rintro en wA ⟨r, rfl, hown, hbA⟩
  have HR := Lib.hid (Own.sl hown)
  have HBA := Lib.hid (bthen (balloc w _) hbA)
  have hwA : w.heap.size < wA.heap.size := by have := hbA.size; simp at this; omega
  obtain ⟨bc, bf⟩ := bcell hbA
  have b0 : wA.cell? ⟨w.heap.size, 0, none⟩ = some (.string e.name) := by rw [bc _ _ (by simp)]; simp
  have b1 : wA.cell? ⟨w.heap.size, 1, none⟩ = some (.int .i64 e.ino) := by rw [bc _ _ (by simp)]; simp
  clear bc bf hown hbA H0
  generalize dropE l e.name = rest at *
  have hrl : rest.length ≤ 1000 := by omega
  clear hl hdl
  have hh := HR.out
  clear HR
  obtain ⟨ar, cr, hvr, hcr⟩ := Sl.val hh
  subst hvr
  have HH := Lib.hid hh
  clear hh
  obtain ⟨L, hL⟩ : ∃ n, rest.length = n := ⟨_, rfl⟩
  rw [hL] at hcr hrl ⊢
  have HL := Lib.hid hL
  clear hL
  go_wp2
  go_loopw [6, 7] (fun o i wr => ∃ k : Nat, k ≤ L ∧ i = .int .i64 k ∧ Hid (entK.Own 74 wA.heap.size wr o ((rest.take k).filter (fun x => ltS x.name e.name))) ∧ Hid (Below wA.heap.size wA wr)) (fun _ i _ => L - (intOf i).toNat)
  case atStart => exact ⟨0, by omega, rfl, Own.lit0 _ _ _ _ (Nat.le_refl _), balloc _ _⟩
  case round =>
    obtain ⟨k, hk, rfl, ho, hb⟩ := hrel
    have hbs : wA.heap.size ≤ wr.heap.size := hb.out.size
    have e0 : wr.cell? ⟨w.heap.size, 0, none⟩ = some (.string e.name) := (hb.out.cell hwA).trans b0
    have e1 : wr.cell? ⟨w.heap.size, 1, none⟩ = some (.int .i64 e.ino) := (hb.out.cell hwA).trans b1
    by_cases hlt : k < L
    · obtain ⟨x, hx⟩ : ∃ x, rest[k]? = some x := ⟨_, List.getElem?_eq_getElem (by rw [HL.out]; exact hlt)⟩
      obtain ⟨g, off, cap', he, _, _, hS, c0, c1⟩ := ent_at (Sl.keep (Agree.below hb.out) HH.out) hx
      rw [HL.out] at he
      injection he with he1 he2 he3
      subst he1 he3
      clear he2
      obtain ⟨hSg, hnm⟩ := hS
      have HT := Lib.hid (filter_take (fun x => ltS x.name e.name) hx)
      clear hx
      have htl : (((rest.take k).filter (fun x => ltS x.name e.name)).length + 1) * 24 ≤ 140737488355328 := by
        have := filter_take_len (fun x => ltS x.name e.name) rest k
        rw [HL.out] at this
        omega
      cases hq : ltS x.name e.name
      · have hq1 : Op.bytesLess x.name.toList e.name.toList = false := hq
        have HO := Lib.hid ho.out
        rw [show (rest.take k).filter (fun x => ltS x.name e.name) = (rest.take (k + 1)).filter (fun x => ltS x.name e.name) by rw [HT.out, hq]; simp] at HO
        clear htl hq
        go_wp2
        go_quiet (fail)
        go_wp2
        go_roundw
        case rel => exact ⟨k + 1, by omega, by go_num, Own.drewN HO.out _, below_drewN hb.out _⟩
        case measure => simp [intOf]; omega
      · have hq1 : Op.bytesLess x.name.toList e.name.toList = true := hq
        rw [show (if (fun x => ltS x.name e.name) x = true then [x] else []) = [x] by rw [if_pos hq]] at HT
        clear hq
        go_wp2
        go_quiet (fail)
        have HO1 := Lib.hid (Own.drewN ho.out nq)
        have HB1 := Lib.hid (below_drewN hb.out nq)
        go_wp2_with (at_builtin; refine wp_append1 entK wA.heap.size rfl _ _ 49 74 _ 24 rfl Try.underlying49 infoE rfl (by decide) (by decide) _ _ rfl HO1.out x [.string x.name, .int .i64 x.ino] _ rfl ?cg ⟨rfl, hnm⟩ ?c1 htl ?_; (case cg => first | rfl | simp); (case c1 => exact hbs); intro v1 w1 hown hg hat)
        have HO := Lib.hid (show entK.Own 74 wA.heap.size w1 v1 ((rest.take (k + 1)).filter (fun x => ltS x.name e.name)) by rw [HT.out]; exact hown)
        have HB := Lib.hid (HB1.out.grown hg hbs (fun k hk => (Own.row HO1.out k hk).1))
        clear hown hg hat
        go_wp2
        go_roundw
        case rel => exact ⟨k + 1, by omega, by go_num, HO, HB⟩
        case measure => simp [intOf]; omega
    · obtain rfl : k = L := by omega
      have HO := Lib.hid ho.out
      rw [List.take_of_length_le (by rw [HL.out]; exact Nat.le_refl _)] at HO
      clear ho
      have htl : ((rest.filter (fun x => ltS x.name e.name)).length + 1) * 24 ≤ 140737488355328 := by
        have := List.length_filter_le (fun x => ltS x.name e.name) rest
        rw [HL.out] at this
        omega
      have hAl := List.length_filter_le (fun x : Ent => ltS x.name e.name) rest
      rw [HL.out] at hAl
      go_wp2_with (at_builtin; refine wp_append1 entK wA.heap.size rfl _ _ 49 74 _ 24 rfl Try.underlying49 infoE rfl (by decide) (by decide) _ _ rfl HO.out e [.string e.name, .int .i64 e.ino] _ rfl ?cg ⟨rfl, hen⟩ ?c1 htl ?_; (case cg => first | rfl | simp); (case c1 => exact hbs); intro v1 w1 hown hg hat)
      have HO2 := Lib.hid hown
      have HB2 := Lib.hid (hb.out.grown hg hbs (fun k hk => (Own.row HO.out k hk).1))
      clear hown hg hat HO e0 e1 hbs htl hb
      generalize hA : rest.filter (fun x => ltS x.name e.name) ++ [e] = A at *
      have hAl2 : A.length ≤ k + 1 := by rw [← hA]; simp; omega
      clear hA hAl hk hlt
      go_wp2
      go_loopw [6, 8] (fun o i wr => ∃ j : Nat, j ≤ k ∧ i = .int .i64 j ∧ Hid (entK.Own 74 wA.heap.size wr o (A ++ (rest.take j).filter (fun x => gtS x.name e.name))) ∧ Hid (Below wA.heap.size wA wr)) (fun _ i _ => k - (intOf i).toNat)
      case atStart => exact ⟨0, by omega, rfl, Lib.hid (by simpa using HO2.out), HB2.out⟩
      case round =>
        obtain ⟨j, hj, rfl, ho, hb⟩ := hrel
        have hbs : wA.heap.size ≤ wr.heap.size := hb.out.size
        have e0 : wr.cell? ⟨w.heap.size, 0, none⟩ = some (.string e.name) := (hb.out.cell hwA).trans b0
        have e1 : wr.cell? ⟨w.heap.size, 1, none⟩ = some (.int .i64 e.ino) := (hb.out.cell hwA).trans b1
        by_cases hlt : j < k
        · obtain ⟨x, hx⟩ : ∃ x, rest[j]? = some x := ⟨_, List.getElem?_eq_getElem (by rw [HL.out]; exact hlt)⟩
          obtain ⟨g, off, cap', he, _, _, hS, c0, c1⟩ := ent_at (Sl.keep (Agree.below hb.out) HH.out) hx
          rw [HL.out] at he
          injection he with he1 he2 he3
          subst he1 he3
          clear he2
          obtain ⟨hSg, hnm⟩ := hS
          have HT := Lib.hid (filter_take (fun x => gtS x.name e.name) hx)
          clear hx
          have htl : ((A ++ (rest.take j).filter (fun x => gtS x.name e.name)).length + 1) * 24 ≤ 140737488355328 := by
            have := filter_take_len (fun x => gtS x.name e.name) rest j
            rw [HL.out] at this
            rw [List.length_append]
            omega
          cases hq : gtS x.name e.name
          · have hq1 : (!(Op.bytesLess x.name.toList e.name.toList || x.name.toList == e.name.toList)) = false := hq
            have HO := Lib.hid ho.out
            rw [show (rest.take j).filter (fun x => gtS x.name e.name) = (rest.take (j + 1)).filter (fun x => gtS x.name e.name) by rw [HT.out, hq]; simp] at HO
            clear htl hq
            go_wp2
            go_quiet (fail)
            go_wp2
            go_roundw
            case rel => exact ⟨j + 1, by omega, by go_num, Own.drewN HO.out _, below_drewN hb.out _⟩
            case measure => simp [intOf]; omega
          · have hq1 : (!(Op.bytesLess x.name.toList e.name.toList || x.name.toList == e.name.toList)) = true := hq
            rw [show (if (fun x => gtS x.name e.name) x = true then [x] else []) = [x] by rw [if_pos hq]] at HT
            clear hq
            go_wp2
            go_quiet (fail)
            have HO1 := Lib.hid (Own.drewN ho.out nq)
            have HB1 := Lib.hid (below_drewN hb.out nq)
            go_wp2_with (at_builtin; refine wp_append1 entK wA.heap.size rfl _ _ 49 74 _ 24 rfl Try.underlying49 infoE rfl (by decide) (by decide) _ _ rfl HO1.out x [.string x.name, .int .i64 x.ino] _ rfl ?cg ⟨rfl, hnm⟩ ?c1 htl ?_; (case cg => first | rfl | simp); (case c1 => exact hbs); intro v1 w1 hown hg hat)
            have HO := Lib.hid (show entK.Own 74 wA.heap.size w1 v1 (A ++ (rest.take (j + 1)).filter (fun x => gtS x.name e.name)) by rw [HT.out, ← List.append_assoc]; exact hown)
            have HB := Lib.hid (HB1.out.grown hg hbs (fun k hk => (Own.row HO1.out k hk).1))
            clear hown hg hat
            go_wp2
            go_roundw
            case rel => exact ⟨j + 1, by omega, by go_num, HO, HB⟩
            case measure => simp [intOf]; omega
        · obtain rfl : j = k := by omega
          have HO := Lib.hid ho.out
          rw [List.take_of_length_le (by rw [HL.out]; exact Nat.le_refl _)] at HO
          clear ho
          go_wp2
          go_ret
          exact ⟨_, rfl, Own.lower (by rw [← HP.out]; exact HO.out) (Nat.le_of_lt hwA), bthen HBA.out hb.out⟩

/-! ### the reference's Sorted -/
def lastN (l : List Ent) (k : Nat) : ByteArray := match k with | 0 => ⟨#[]⟩ | k + 1 => match l[k]? with | some x => x.name | none => ⟨#[]⟩
theorem lastN_succ {l : List Ent} {k : Nat} {x : Ent} (h : l[k]? = some x) : lastN l (k + 1) = x.name := by simp [lastN, h]
theorem leS_empty (a : ByteArray) (h : a.toList.isEmpty = false) : leS a ⟨#[]⟩ = false := by
  unfold leS
  have e : (⟨#[]⟩ : ByteArray).toList = [] := by rw [ByteArray.toList_eq]
  rw [e]
  cases ha : a.toList with
  | nil => rw [ha] at h; simp at h
  | cons c l => rfl
theorem legal_nonempty {n : ByteArray} (h : (legalE n != 0) = false) : n.toList.isEmpty = false := by
  unfold legalE at h
  cases hn : n.toList.isEmpty
  · rfl
  · rw [hn] at h; simp at h
set_option maxHeartbeats 400000 in
theorem sortedr_any (l : List Ent) (v : Value) (w : World) (h : entK.Sl (Old w) w v l) (hl : l.length ≤ 1000) :
    Calls Try.prog 35 #[v] w fun e w' => e = .returned (.bool (sortedE l)) ∧ ∃ n, w' = w.drewN n := by
  unfold sortedE
  generalize hR : sortedF ⟨#[]⟩ l = R
  have HR := Lib.hid hR
  clear hR
  obtain ⟨av, cap, hvv, hcapv⟩ := Sl.val h
  subst hvv
  have H := Lib.hid h
  clear h
  obtain ⟨L, hL⟩ : ∃ n, l.length = n := ⟨_, rfl⟩
  rw [hL] at hcapv ⊢
  try rw [hL] at hl
  have HL := Lib.hid hL
  clear hL
  go_enter Try.func35, Try.ntmps35
  go_wp2
  go_loopw [3] (fun i wr => ∃ (k n : Nat), k ≤ L ∧ i = .int .i64 k ∧ wr = w.drewN n ∧ Hid (sortedF (lastN l k) (l.drop k) = R)) (fun i _ => L - (intOf i).toNat)
  case atStart => exact ⟨0, 0, by omega, rfl, rfl, HR.out⟩
  case round =>
    obtain ⟨k, n, hk, rfl, rfl, hr⟩ := hrel
    by_cases hlt : k < L
    · obtain ⟨x, hx⟩ : ∃ x, l[k]? = some x := ⟨_, List.getElem?_eq_getElem (by rw [HL.out]; exact hlt)⟩
      obtain ⟨g, off, cap', he, _, _, hS, c0, c1⟩ := ent_at H.out hx
      rw [HL.out] at he
      injection he with he1 he2 he3
      subst he1 he3
      clear he2
      obtain ⟨hSg, hnm⟩ := hS
      have hr' := hr.out
      rw [drop_cons hx] at hr'
      unfold sortedF at hr'
      have HLN := Lib.hid (lastN_succ hx)
      clear hr
      cases hb1 : (legalE x.name != 0)
      · rw [hb1] at hr'
        simp only [Bool.false_eq_true, if_false, if_true] at hr'
        by_cases hk0 : k = 0
        · subst hk0
          rw [show lastN l 0 = ⟨#[]⟩ from rfl, leS_empty _ (legal_nonempty hb1)] at hr'
          simp only [Bool.false_eq_true, if_false, if_true] at hr'
          have HR' := Lib.hid hr'
          clear hr' hx
          simp only [Nat.zero_mul, Nat.add_zero, Nat.zero_add] at c0 c1
          go_wp2
          go_quiet ((go_at_call 33; first | exact quiet_left (legalr_any x.name hnm _) | exact quiet_add_left (legalr_any x.name hnm _)))
          go_wp2
          go_roundw
          case rel => exact ⟨1, _, by omega, rfl, by first | rfl | exact World.drewN_drewN .., by rw [HLN.out]; exact HR'⟩
          case measure => simp [intOf]; omega
        · obtain ⟨y, hy⟩ : ∃ y, l[k - 1]? = some y := ⟨_, List.getElem?_eq_getElem (by rw [HL.out]; omega)⟩
          obtain ⟨g2, off2, cap2', he2, _, _, hS2, d0, d1⟩ := ent_at H.out hy
          injection he2 with he21 he22 he23
          injection he21 with he21
          injection he21 with he24 he25
          subst he24 he25
          clear he22 he23
          have hln : lastN l k = y.name := by
            have := lastN_succ hy
            rwa [show k - 1 + 1 = k by omega] at this
          rw [hln] at hr'
          have hkc : (k : Int) - 1 < (L : Int) := by omega
          have hk1 : 0 ≤ (k : Int) - 1 := by omega
          have hk2 : (0 : Int) < (k : Int) := by omega
          have hk3 : 1 ≤ (k : Int) := by omega
          have hk4 : decide (0 < k) = true := by simp; omega
          have htn : ((k : Int) - 1).toNat = k - 1 := by omega
          have hwr : IntKind.i64.wrap ((k : Int) - 1) = (k : Int) - 1 := IntWalk.i64_in _ (by omega)
          cases hb2 : leS x.name y.name
          · rw [hb2] at hr'
            simp only [Bool.false_eq_true, if_false, if_true] at hr'
            have HR' := Lib.hid hr'
            have hb3 : (Op.bytesLess x.name.toList y.name.toList || x.name.toList == y.name.toList) = false := hb2
            clear hr' hx hy hln hb2
            go_wp2
            go_quiet ((go_at_call 33; first | exact quiet_left (legalr_any x.name hnm _) | exact quiet_add_left (legalr_any x.name hnm _)))
            clear hwr htn
            go_wp2
            go_roundw
            case rel => exact ⟨k + 1, _, by omega, by go_num, by first | rfl | exact World.drewN_drewN .., by rw [HLN.out]; exact HR'⟩
            case measure => simp [intOf]; omega
          · rw [hb2] at hr'
            simp only [Bool.false_eq_true, if_false, if_true] at hr'
            have HR' := Lib.hid hr'
            have hb3 : (Op.bytesLess x.name.toList y.name.toList || x.name.toList == y.name.toList) = true := hb2
            clear hr' hx hy hln hb2
            go_wp2
            go_quiet ((go_at_call 33; first | exact quiet_left (legalr_any x.name hnm _) | exact quiet_add_left (legalr_any x.name hnm _)))
            clear hwr htn
            go_wp2
            go_ret
            exact ⟨ret_bool HR'.out, by first | exact ⟨_, rfl⟩ | exact ⟨_, World.drewN_drewN ..⟩⟩
      · rw [hb1] at hr'
        simp only [Bool.false_eq_true, if_false, if_true] at hr'
        have HR' := Lib.hid hr'
        clear hr' hx
        go_wp2
        go_quiet ((go_at_call 33; first | exact quiet_left (legalr_any x.name hnm _) | exact quiet_add_left (legalr_any x.name hnm _)))
        go_wp2
        go_ret
        exact ⟨ret_bool HR'.out, by first | exact ⟨_, rfl⟩ | exact ⟨_, World.drewN_drewN ..⟩⟩
    · obtain rfl : k = L := by omega
      have HR' := Lib.hid (show sortedF (lastN l k) [] = R by have := hr.out; rwa [← HL.out, drop_end, HL.out] at this)
      clear hr
      go_wp2
      go_ret
      exact ⟨ret_bool (by rw [← HR'.out]; unfold sortedF; rfl), _, rfl⟩

end Go.Proofs.Ytfllhakmjookkaa
