/- Texts joined by a program of mine (pack.py): S19Z. -/
import Derived.Test.YtdbekeidlppfiaaGreatDoorS19Y
import Derived.Test.YtdbekeidlppfiaaGreatDoorRouteE
import Derived.Test.YtdbekeidlppfiaaGreatDoorEnt2
set_option linter.unusedVariables false
set_option linter.unusedSimpArgs false
namespace Go.Proofs.YtdbekeidlppfiaaGreatDoor.Den
open Go Go.RowKit
def xCheck : Ans := fun l => match l with
 | [.v (.string s)] => some (.v (.int .i64 (checkV s)))
 | _ => none
theorem xCheck_ok (G : Glo) : PlainOk Tryz.prog G 27 xCheck := by
 intro cargs r h c vs hcl hl ha hg hS
 unfold xCheck at h
 split at h
 case h_2 => cases h
 cases h
 obtain ⟨u, rfl⟩ := args1 hl
 have hu := v_inv (ha 0 _ u rfl rfl)
 subst hu
 exact out_v (fun c => .v _) rfl ((callsIn_wide (n := 8)).1 (check_in 8 _ c.w))
def strP (x : ByteArray) : List PV := [.v (.string x)]
noncomputable def xSplit : Ans := fun l => match l with
 | [.v (.string s)] => if s.size ≤ 1000000000 then some (.tup [match partsB s with | [] => .list 1 false [] | x :: l => .own 1 9 ((x :: l).map fun x => strP x.2), .v (.bool (preSl s)), .v (.bool (sufSl s))]) else none
 | _ => none
theorem xSplit_ok (G : Glo) : PlainOk Tryz.prog G 192 xSplit := by
 intro cargs r h c vs hcl hl ha hg hS
 unfold xSplit at h
 split at h
 case h_2 => cases h
 rename_i s
 split at h
 case isFalse => cases h
 rename_i hs
 cases h
 obtain ⟨u, rfl⟩ := args1 hl
 have hu := v_inv (ha 0 _ u rfl rfl)
 subst hu
 refine ((callsIn_wide (n := 8)).1 (split_in 8 s hs c.w)).mono ?_
 rintro e w' ⟨v, rfl, hown, hnil, hb⟩
 have hrest : ∀ gs, RVs (RV1 (outC c w' gs)) [PV.v (.bool (preSl s)), PV.v (.bool (sufSl s))] [.bool (preSl s), .bool (sufSl s)] [] := fun gs =>
  .cons (g := []) (.inl (.inl ⟨rfl, .v _, rfl⟩)) (.cons (g := []) (.inl (.inl ⟨rfl, .v _, rfl⟩)) .nil)
 cases hp : partsB s with
 | nil =>
  obtain rfl := hnil.2 hp
  exact ⟨_, [], rfl, hb, .inr ⟨_, #[_, _, _], rfl, rfl, .cons (g := []) (.inl (.inl ⟨rfl, .lnil 1 false none, rfl⟩)) (hrest _)⟩, List.nodup_nil, by simp⟩
 | cons x l =>
  rw [hp] at hown
  obtain ⟨hlen, hw | ⟨g, cap, cur, rfl, hg1, hg2, hg3, hg4, hg5, hg6⟩⟩ := hown
  ·simp at hw
  refine ⟨_, [g], rfl, hb, .inr ⟨_, #[_, _, _], rfl, rfl, .cons (g := [g]) (.inl (.inr ⟨1, 9, _, g, cap, cur, rfl, by simp, rfl, .mk0 hg2, by simpa using hg3, by simpa [maxLen] using hg4, hg5, ⟨by simpa [hg5] using hg3, fun i y hy => ?_⟩, ?_⟩)) (hrest _)⟩, by simp, ?_⟩
  ·rw [List.getElem?_map] at hy
   obtain ⟨z, hz, rfl⟩ := Option.map_eq_some_iff.1 hy
   refine ⟨rfl, fun j q hq => ?_⟩
   cases j with
   | succ j => simp [strP] at hq
   | zero =>
    simp only [strP, List.getElem?_cons_zero, Option.some.injEq] at hq
    subst hq
    refine ⟨.string z.2, ?_, rfl, .v _⟩
    have h1 : ((x :: l).map fun x => Value.string x.2)[i]? = some (.string z.2) := by rw [List.getElem?_map, hz]; rfl
    rw [← hg6, List.getElem?_take] at h1
    split at h1
    ·simpa using h1
    ·cases h1
  ·exact closedLL_iff.2 fun y hy z hz => by
    obtain ⟨q, _, rfl⟩ := List.mem_map.1 hy
    simp [strP] at hz
    subst hz
    rfl
  ·intro k hk
   simp only [List.mem_singleton] at hk
   subst hk
   exact ⟨hg1, (Array.getElem?_eq_some_iff.1 hg2).1⟩
def entP (x : Ent) : List PV := [.v (.string x.name), .v (.int .i64 x.ino)]
def entOf : List PV → Option Ent
 | [.v (.string s), .v (.int .i64 n)] => if s.size ≤ 9223372036854775807 then some ⟨s, n⟩ else none
 | _ => none
def entsOf : List (List PV) → Option (List Ent)
 | [] => some []
 | x :: l => match entOf x, entsOf l with
  | some e, some es => some (e :: es)
  | _, _ => none
theorem entOf_some {x : List PV} {e : Ent} (h : entOf x = some e) : x = entP e ∧ e.name.size ≤ maxLen := by
 unfold entOf at h
 split at h
 case h_2 => cases h
 split at h
 case isFalse => cases h
 rename_i hs
 cases h
 exact ⟨rfl, by simpa [maxLen] using hs⟩
theorem entsOf_some : ∀ {xs : List (List PV)} {l : List Ent}, entsOf xs = some l → xs = l.map entP ∧ ∀ e ∈ l, e.name.size ≤ maxLen
 | [], l, h => by simp [entsOf] at h; subst h; exact ⟨rfl, by simp⟩
 | x :: xs, l, h => by
  simp only [entsOf] at h
  split at h
  case h_2 => cases h
  rename_i e es h1 h2
  cases h
  obtain ⟨e1, e2⟩ := entOf_some h1
  obtain ⟨e3, e4⟩ := entsOf_some h2
  exact ⟨by rw [e1, e3]; rfl, fun y hy => by rcases List.mem_cons.1 hy with rfl | hy; exact e2; exact e4 y hy⟩
def sortsB : List Ent → Bool
 | [] => true
 | x :: l => l.all (fun y => ltS x.name y.name) && sortsB l
theorem sortsB_ok : ∀ {l : List Ent}, sortsB l = true → Sorts l
 | [], _ => List.Pairwise.nil
 | x :: l, h => by
  simp only [sortsB, Bool.and_eq_true] at h
  exact List.Pairwise.cons (fun y hy => List.all_eq_true.1 h.1 y hy) (sortsB_ok h.2)
theorem ent_cells (l : List Ent) : Reps (fun x cs => cs = [Value.string x.name, Value.int .i64 x.ino]) 2 l (l.flatMap fun x => [Value.string x.name, Value.int .i64 x.ino]) := by
 induction l with
 | nil => exact Reps.nil _ _
 | cons x l ih => exact Reps.append (Reps.one (p := x) (c := [Value.string x.name, Value.int .i64 x.ino]) rfl rfl) ih
theorem list_sl {c : Ctx} {full : Bool} {x : Ent} {l : List Ent} {v : Value} (hS : ∀ g o, c.S g o → g < c.w.heap.size) (hn : ∀ e ∈ x :: l, e.name.size ≤ maxLen) (h : VR c (.list 2 full ((x :: l).map entP)) v) : entK.Sl (Old c.w) c.w v (x :: l) := by
 generalize hL : x :: l = L at h hn ⊢
 have hpos : 0 < L.length := by rw [← hL]; simp
 generalize hX : L.map entP = X at h
 have hlX : X.length = L.length := by rw [← hX]; simp
 cases h with
 | lnil => simp at hlX; omega
 | list sz full xs g off cap us hcl hc hm hf hl ho hx hw =>
  have hget : ∀ i e, L[i]? = some e → us i 0 = .string e.name ∧ us i 1 = .int .i64 e.ino := fun i e he => by
   have h1 : X[i]? = some (entP e) := by rw [← hX, List.getElem?_map, he]; rfl
   exact ⟨v_inv (hx i 0 _ _ h1 rfl), v_inv (hx i 1 _ _ h1 rfl)⟩
  refine ⟨some ⟨g, off, none⟩, cap, L.flatMap fun x => [Value.string x.name, Value.int .i64 x.ino], by rw [hlX], by rw [← hlX]; exact hc, hm, ?_, by simp, fun ad he => ?_⟩
  ·have hr := ent_cells L
   refine ⟨hr.1, fun j p hj => ⟨hr.2 j p hj, hn p (List.mem_of_getElem? hj)⟩⟩
  ·cases he
   refine ⟨g, off, rfl, fun _ => hS g _ (hw 0 0 (by rw [hlX]; exact hpos) (by omega)).1, fun j u hu => ?_⟩
   have hr := ent_cells L
   have hj := (List.getElem?_eq_some_iff.1 hu).1
   rw [hr.1] at hj
   have hd : j / 2 < L.length := by omega
   obtain ⟨e, he⟩ : ∃ e, L[j / 2]? = some e := ⟨_, List.getElem?_eq_getElem hd⟩
   have h2 := hr.2 _ e he
   have h3 := (hw (j / 2) (j % 2) (by rw [hlX]; exact hd) (by omega)).2
   obtain ⟨g0, g1⟩ := hget _ e he
   have e0 : j / 2 * 2 + j % 2 = j := by omega
   rw [e0] at h3
   have h4 : (List.take 2 (List.drop (j / 2 * 2) (L.flatMap fun x => [Value.string x.name, Value.int .i64 x.ino])))[j % 2]? = some u := by
    rw [List.getElem?_take, if_pos (by omega), List.getElem?_drop, e0]; exact hu
   rw [h2] at h4
   rcases Nat.mod_two_eq_zero_or_one j with e | e
   ·rw [e] at h4 h3
    simp at h4
    rw [h3, ← h4, g0]
   ·rw [e] at h4 h3
    simp at h4
    rw [h3, ← h4, g1]
noncomputable def entsP (l : List Ent) : PV := match l with | [] => .list 2 false [] | x :: t => .own 2 188 ((x :: t).map entP)
theorem made_rv {c : Ctx} {w' : World} {l : List Ent} {e : Ending} (h : Made entK 188 c.w l e w') :
  ∃ v gs, e = .returned v ∧ Below c.w.heap.size c.w w' ∧ RV2 (outC c w' gs) (entsP l) v gs ∧ gs.Nodup ∧ ∀ g ∈ gs, c.w.heap.size ≤ g ∧ g < w'.heap.size := by
 obtain ⟨v, rfl, ⟨cells, ⟨hlen, hown⟩, hr⟩, hb⟩ := h
 cases l with
 | nil =>
  rcases hown with ⟨rfl, _⟩ | ⟨g, cap, cur, rfl, hg1, hg2, hg3, hg4, hg5, hg6⟩
  ·exact ⟨_, [], rfl, hb, .inl (.inl (.inl ⟨rfl, .lnil 2 false none, rfl⟩)), List.nodup_nil, by simp⟩
  ·refine ⟨_, [], rfl, hb, .inl (.inl (.inl ⟨rfl, ?_, rfl⟩)), List.nodup_nil, by simp⟩
   have := VR.list (c := outC c w' []) 2 false [] g 0 cap (fun _ _ => undef) rfl (by simp) (by simpa [maxLen] using hg4) (by simp) (by simp) (by simp) (by simp) (by simp)
   exact this
 | cons x l =>
  rcases hown with ⟨_, hw⟩ | ⟨g, cap, cur, rfl, hg1, hg2, hg3, hg4, hg5, hg6⟩
  ·simp at hw
  refine ⟨_, [g], rfl, hb, .inl (.inl (.inr ⟨2, 188, _, g, cap, cur, rfl, by simp, rfl, .mk0 hg2, by simpa using hg3, by simpa [maxLen] using hg4, hg5, ⟨by rw [hg5]; exact Nat.mul_le_mul_right _ (by simpa using hg3), fun i y hy => ?_⟩, ?_⟩)), by simp, ?_⟩
  ·rw [List.getElem?_map] at hy
   obtain ⟨z, hz, rfl⟩ := Option.map_eq_some_iff.1 hy
   refine ⟨rfl, fun j q hq => ?_⟩
   have h1 : List.take 2 (List.drop (i * 2) cells) = _ := (hr.2 i z hz).1
   have hjt : j < 2 := (List.getElem?_eq_some_iff.1 hq).1
   have h2 : cells[i * 2 + j]? = [Value.string z.name, Value.int .i64 z.ino][j]? := by
    rw [← h1, List.getElem?_take, if_pos hjt, List.getElem?_drop]
   have hcur : ∀ u, cells[i * 2 + j]? = some u → cur[i * 2 + j]? = some u := fun u hu => by
    rw [← hg6, List.getElem?_take] at hu
    split at hu
    ·simpa using hu
    ·cases hu
   match j, hjt with
   | 0, _ =>
    simp [entP] at hq
    subst hq
    exact ⟨.string z.name, hcur _ (h2.trans rfl), rfl, .v _⟩
   | 1, _ =>
    simp [entP] at hq
    subst hq
    exact ⟨.int .i64 z.ino, hcur _ (h2.trans rfl), rfl, .v _⟩
  ·exact closedLL_iff.2 fun y hy z hz => by
    obtain ⟨q, _, rfl⟩ := List.mem_map.1 hy
    simp [entP] at hz
    rcases hz with rfl | rfl <;> rfl
  ·intro k hk
   simp only [List.mem_singleton] at hk
   subst hk
   exact ⟨hg1, (Array.getElem?_eq_some_iff.1 hg2).1⟩
noncomputable def xPut1 : Ans := fun l => match l with
 | [.list 2 _ (z :: xs), .agg [.v (.string s), .v (.int .i64 n)]] => match entsOf (z :: xs) with
  | some l => if sortsB l = true ∧ l.length ≤ 1000 ∧ s.size ≤ 9223372036854775807 then some (entsP (putE l ⟨s, n⟩)) else none
  | none => none
 | _ => none
theorem xPut1_ok (G : Glo) : PlainOk Tryz.prog G 267 xPut1 := by
 intro cargs r h c vs hcl hl ha hg hS
 unfold xPut1 at h
 split at h
 case h_2 => cases h
 rename_i full z xs s n
 split at h
 case h_2 => cases h
 rename_i l hl'
 split at h
 case isFalse => cases h
 rename_i hc
 obtain ⟨h1, h2, h3⟩ := hc
 cases h
 obtain ⟨e1, e2⟩ := entsOf_some hl'
 obtain ⟨u, v, rfl⟩ := args2 hl
 obtain ⟨x, t, rfl⟩ : ∃ x t, l = x :: t := by
  cases l with
  | nil => simp at e1
  | cons x t => exact ⟨x, t, rfl⟩
 have hu := ha 0 _ u rfl rfl
 rw [e1] at hu
 have hv := VR.toV _ (ha 1 _ v rfl rfl) (z := .agg #[.string s, .int .i64 n]) rfl
 subst hv
 exact (put_any _ u ⟨s, n⟩ c.w (by simpa [maxLen] using h3) (list_sl hS e2 hu) h2 (sortsB_ok h1)).mono fun e w' h => made_rv h
noncomputable def xDrop : Ans := fun l => match l with
 | [.list 2 _ (z :: xs), .v (.string s)] => match entsOf (z :: xs) with
  | some l => if sortsB l = true ∧ l.length ≤ 1000 then some (entsP (dropE l s)) else none
  | none => none
 | _ => none
theorem xDrop_ok (G : Glo) : PlainOk Tryz.prog G 265 xDrop := by
 intro cargs r h c vs hcl hl ha hg hS
 unfold xDrop at h
 split at h
 case h_2 => cases h
 rename_i full z xs s
 split at h
 case h_2 => cases h
 rename_i l hl'
 split at h
 case isFalse => cases h
 rename_i hc
 obtain ⟨h1, h2⟩ := hc
 cases h
 obtain ⟨e1, e2⟩ := entsOf_some hl'
 obtain ⟨u, v, rfl⟩ := args2 hl
 obtain ⟨x, t, rfl⟩ : ∃ x t, l = x :: t := by
  cases l with
  | nil => simp at e1
  | cons x t => exact ⟨x, t, rfl⟩
 have hu := ha 0 _ u rfl rfl
 rw [e1] at hu
 have hv := v_inv (ha 1 _ v rfl rfl)
 subst hv
 exact (drop_any _ u s c.w (list_sl hS e2 hu) h2 (sortsB_ok h1)).mono fun e w' h => made_rv h
theorem cloneE_lnil (A : Addr) (w : World) :
  Calls Tryz.prog 299 #[.slice (some A) 0 0] w (Made entK 188 w []) := by
 have hz := fun a n c n' c' (W : World) => Lib.run_eql_slice_nil (P := Tryz.prog) W 120 188 a n c n' c' Tryz.underlying120
 have hB := balloc' w (.cells #[] 188)
 have hO := Lib.hid (Own.lit0 entK 188 w.heap.size w (Nat.le_refl _))
 go_enter Tryz.func299, Tryz.ntmps299
 go_wp2_with (at_builtin; refine wp_append0 rfl _ _ 120 188 rfl Tryz.underlying120 (by kernel_rfl) ⟨w.heap.size, 0, none⟩ _ _ rfl rfl ?_)
 go_ret
 exact ⟨_, rfl, hO.out, hB⟩
theorem bsearch_lnil (A : Addr) (n : ByteArray) (w : World) :
  Calls Tryz.prog 295 #[.slice (some A) 0 0, .string n, .func (.func 296) #[] #[]] w fun e w' => e = .returned (.tuple #[.int .i64 0, .bool false]) ∧ Below w.heap.size w w' := by
 go_enter Tryz.func295, Tryz.ntmps295
 go_wp2
 refine wp_loop_rounds 1 ?_
 rw [rounds_succ]
 go_wp2
 go_ret2
 exact ⟨rfl, Below.refl _ _⟩
theorem place_lnil (A : Addr) (n : ByteArray) (w : World) :
  Calls Tryz.prog 285 #[.slice (some A) 0 0, .string n] w fun e w' => e = .returned (.tuple #[.int .i64 0, .bool false]) ∧ Below w.heap.size w w' := by
 go_enter Tryz.func285, Tryz.ntmps285
 go_wp2_with fail
 refine (bsearch_lnil A n _).mono ?_
 rintro e w' ⟨rfl, hb⟩
 have HB := Lib.hid hb
 clear hb
 go_wp2
 go_ret2
 exact ⟨rfl, HB.out⟩
theorem spliced_lnil (A : Addr) (w : World) (y : Ent) (vb : Nat) (hbox : Row w vb 188 [Value.string y.name, Value.int .i64 y.ino]) (hyn : y.name.size ≤ maxLen) :
  Calls Tryz.prog 286 #[.slice (some A) 0 0, .int .i64 0, .int .i64 0, .slice (some ⟨vb, 0, none⟩) 1 1] w (Made entK 188 w [y]) := by
 have H := Lib.hid (cloneE_lnil A w)
 have HB := Lib.hid hbox
 clear hbox
 go_enter Tryz.func286, Tryz.ntmps286
 go_wp2_with fail
 refine H.out.mono ?_
 rintro e1 w1 ⟨r, rfl, ho, hb⟩
 have HO := Lib.hid ho
 have HW := Lib.hid hb
 clear ho hb
 go_wp2_with fail
 refine (replace_ins r [] y 0 w1 w.heap.size HO.out vb (HB.out.below HW.out) HB.out.lt hyn HW.out.size (by simp) (by simp)).mono ?_
 intro e2 w2 hp
 obtain ⟨u, rfl, ho2, hb2⟩ := made_put HO.out HW.out hp
 have HO2 := Lib.hid ho2
 have HB2 := Lib.hid hb2
 clear ho2 hb2 hp
 go_wp2
 go_ret
 exact ⟨_, rfl, HO2.out, HB2.out⟩
theorem put_lnil (A : Addr) (y : Ent) (w : World) (hyn : y.name.size ≤ maxLen) :
  Calls Tryz.prog 267 #[.slice (some A) 0 0, .agg #[.string y.name, .int .i64 y.ino]] w (Made entK 188 w [y]) := by
 go_enter Tryz.func267, Tryz.ntmps267
 go_wp2_with fail
 refine (place_lnil A y.name _).mono ?_
 rintro e w' ⟨rfl, hb⟩
 have HR := Lib.hid hb
 have c0 : w'.cell? ⟨w.heap.size, 0, none⟩ = some (.string y.name) := by rw [hb.cell (p := ⟨w.heap.size, 0, none⟩) (by simp)]; go_simp
 have c1 : w'.cell? ⟨w.heap.size, 1, none⟩ = some (.int .i64 y.ino) := by rw [hb.cell (p := ⟨w.heap.size, 1, none⟩) (by simp)]; go_simp
 clear hb
 go_wp2_with fail
 refine (spliced_lnil A _ y w'.heap.size (Row.new w' 188 [Value.string y.name, Value.int .i64 y.ino]) hyn).mono ?_
 intro e2 w2 hm
 obtain ⟨u, rfl, ho2, hb2⟩ := made_up (bthen (balloc w _) (bthen HR.out (balloc w' _))) hm
 have HM := Lib.hid (And.intro ho2 hb2)
 clear ho2 hb2 hm
 go_wp2
 go_ret
 exact ⟨_, rfl, HM.out.1, HM.out.2⟩
theorem list_sl0 {c : Ctx} {full : Bool} {v : Value} (h : VR c (.list 2 full []) v) : entK.Sl (Old c.w) c.w v [] ∨ ∃ A, v = .slice (some A) 0 0 := by
 cases h with
 | lnil _ _ a =>
  cases a with
  | none => exact .inl (Sl.nil _ _ _)
  | some A => exact .inr ⟨A, rfl⟩
 | list sz full xs g off cap us hcl hc hm hf hl ho hx hw =>
  exact .inl ⟨some ⟨g, off, none⟩, cap, [], rfl, hc, hm, Reps.nil _ _, by simp, fun ad he => by cases he; exact ⟨g, off, rfl, by simp, fun j u hu => by simp at hu⟩⟩
noncomputable def xPut : Ans := fun l => match l with
 | [.list 2 _ [], .agg [.v (.string s), .v (.int .i64 n)]] => if s.size ≤ 9223372036854775807 then some (entsP [⟨s, n⟩]) else none
 | l => xPut1 l
theorem xPut_ok (G : Glo) : PlainOk Tryz.prog G 267 xPut := by
 intro cargs r h c vs hcl hl ha hg hS
 unfold xPut at h
 split at h
 ·rename_i full s n
  split at h
  case isFalse => cases h
  rename_i hs
  cases h
  have hsm : s.size ≤ maxLen := by simpa [maxLen] using hs
  obtain ⟨u, v, rfl⟩ := args2 hl
  have hv := VR.toV _ (ha 1 _ v rfl rfl) (z := .agg #[.string s, .int .i64 n]) rfl
  subst hv
  rcases list_sl0 (ha 0 _ u rfl rfl) with h | ⟨A, rfl⟩
  ·exact (put_any [] u ⟨s, n⟩ c.w hsm h (by simp) List.Pairwise.nil).mono fun e w' h => made_rv h
  ·exact (put_lnil A ⟨s, n⟩ c.w hsm).mono fun e w' h => made_rv h
 ·exact xPut1_ok G _ _ h c vs hcl hl ha hg hS
end Go.Proofs.YtdbekeidlppfiaaGreatDoor.Den
