/- Entries: the plain functions, and the contracts of the reference's and the program's functions over lists of entries. -/
import Derived.Test.YtfllhakmjookkaaAny
set_option linter.unusedVariables false
set_option linter.unusedSimpArgs false
namespace Go.Proofs.Ytfllhakmjookkaa
open Go Go.RowKit

structure Ent where
  name : ByteArray
  ino : Int
/-- An entry's two cells. -/
def entK : Kind Ent where
  sz := 2
  At _ _ x cs := cs = [.string x.name, .int .i64 x.ino] ∧ x.name.size ≤ maxLen
  len h := by rw [h.1]; rfl
  one h := by rw [h.1]; intro v hv; simp at hv; rcases hv with rfl | rfl <;> rfl
  mono _ h := h
  keep _ h := h

theorem ent_at {S : Nat → Prop} {w : World} {v : Value} {xs : List Ent} (h : entK.Sl S w v xs) {i : Nat} {x : Ent} (hx : xs[i]? = some x) :
    ∃ g off cap, v = .slice (some ⟨g, off, none⟩) xs.length cap ∧ xs.length ≤ cap ∧ cap ≤ 9223372036854775807 ∧ (S g ∧ x.name.size ≤ maxLen) ∧ w.cell? ⟨g, off + i * 2, none⟩ = some (.string x.name) ∧ w.cell? ⟨g, off + i * 2 + 1, none⟩ = some (.int .i64 x.ino) := by
  obtain ⟨g, off, cap, cs, rfl, h1, h2, h3, ⟨rfl, h5⟩, h4⟩ := Sl.get h hx
  exact ⟨g, off, cap, rfl, h1, h2, ⟨h3, h5⟩, h4 0 _ rfl, h4 1 _ rfl⟩

theorem drop_cons {α : Type} {l : List α} {k : Nat} {x : α} (h : l[k]? = some x) : l.drop k = x :: l.drop (k + 1) := by
  obtain ⟨hk, rfl⟩ := List.getElem?_eq_some_iff.1 h
  exact List.drop_eq_getElem_cons hk
theorem drop_end {α : Type} (l : List α) : l.drop l.length = [] := List.drop_length
theorem take_snoc1 {α : Type} {l : List α} {k : Nat} {x : α} (h : l[k]? = some x) : l.take (k + 1) = l.take k ++ [x] := by
  obtain ⟨hk, rfl⟩ := List.getElem?_eq_some_iff.1 h
  rw [List.take_succ_eq_append_getElem hk]

/-! ### The plain functions -/
def findE : List Ent → ByteArray → Int × Bool
  | [], _ => (-1, false)
  | x :: l, n => if (x.name.toList == n.toList) = true then (x.ino, true) else findE l n
def legalE (n : ByteArray) : Int :=
  if n.toList.isEmpty = true then 1 else if (n.toList == [46]) = true then 1 else if (n.toList == [46, 46]) = true then 1 else if hasBad n = true then 1 else if 12 < n.size then 9 else 0
def leS (a b : ByteArray) : Bool := Op.bytesLess a.toList b.toList || a.toList == b.toList
def sortedF : ByteArray → List Ent → Bool
  | _, [] => true
  | last, x :: l => if (legalE x.name != 0) = true then false else if leS x.name last = true then false else sortedF x.name l
def sortedE (l : List Ent) : Bool := sortedF ⟨#[]⟩ l

theorem findr_any (l : List Ent) (v : Value) (n : ByteArray) (w : World) (h : entK.Sl (Old w) w v l) (hl : l.length ≤ 1000) :
    Calls Try.prog 39 #[v, .string n] w fun e w' => e = .returned (.tuple #[.int .i64 (findE l n).1, .bool (findE l n).2]) ∧ w = w' := by
  have hfin : ∀ a b, findE l n = (a, b) → Ending.returned (.tuple #[.int .i64 a, .bool b]) = Ending.returned (.tuple #[.int .i64 (findE l n).1, .bool (findE l n).2]) := fun a b h => by rw [h]
  generalize hR : findE l n = R at hfin ⊢
  have HR := Lib.hid hR
  have HF := Lib.hid hfin
  clear hR hfin
  generalize hE : (Ending.returned (.tuple #[.int .i64 R.1, .bool R.2])) = E at *
  clear hE
  obtain ⟨av, cap, hvv, hcapv⟩ := Sl.val h
  subst hvv
  have H := Lib.hid h
  clear h
  obtain ⟨L, hL⟩ : ∃ n, l.length = n := ⟨_, rfl⟩
  rw [hL] at hcapv ⊢
  try rw [hL] at hl
  have HL := Lib.hid hL
  clear hL
  go_enter Try.func39, Try.ntmps39
  go_wp2
  go_loop [6] (fun i => ∃ k : Nat, k ≤ L ∧ i = .int .i64 k ∧ Hid (findE (l.drop k) n = R)) (fun i => L - (intOf i).toNat)
  case atStart => exact ⟨0, by omega, rfl, HR.out⟩
  case round =>
    obtain ⟨k, hk, rfl, hr⟩ := hrel
    by_cases hlt : k < L
    · obtain ⟨x, hx⟩ : ∃ x, l[k]? = some x := ⟨_, List.getElem?_eq_getElem (by rw [HL.out]; exact hlt)⟩
      obtain ⟨g, off, cap', he, _, _, hS, c0, c1⟩ := ent_at H.out hx
      rw [HL.out] at he
      injection he with he1 he2 he3
      subst he1 he3
      clear he2
      have hr' := hr.out
      rw [drop_cons hx] at hr'
      unfold findE at hr'
      clear hr hx
      cases hb : (x.name.toList == n.toList)
      · rw [hb] at hr'
        simp only [Bool.false_eq_true, if_false, if_true] at hr'
        have HR' := Lib.hid hr'
        clear hr'
        go_wp2
        go_round
        case rel => exact ⟨k + 1, by omega, by go_num, HR'⟩
        case measure => simp [intOf]; omega
      · rw [hb] at hr'
        simp only [Bool.false_eq_true, if_false, if_true] at hr'
        have HR' := Lib.hid hr'
        clear hr'
        go_wp2
        go_ret2
        exact ⟨HF.out _ _ HR'.out.symm, rfl⟩
    · obtain rfl : k = L := by omega
      have HR' := Lib.hid (show findE [] n = R by have := hr.out; rwa [← HL.out, drop_end] at this)
      clear hr
      go_wp2
      go_ret2
      exact ⟨HF.out _ _ HR'.out.symm, rfl⟩

/-! ### Legal -/
theorem str_cases (n : ByteArray) : (n.toList.isEmpty = true ∧ legalE n = 1) ∨ (n.toList.isEmpty = false ∧ (n.toList == [46]) = true ∧ legalE n = 1) ∨
    (n.toList.isEmpty = false ∧ (n.toList == [46]) = false ∧ (n.toList == [46, 46]) = true ∧ legalE n = 1) ∨
    (n.toList.isEmpty = false ∧ (n.toList == [46]) = false ∧ (n.toList == [46, 46]) = false ∧ hasBad n = true ∧ legalE n = 1) ∨
    (n.toList.isEmpty = false ∧ (n.toList == [46]) = false ∧ (n.toList == [46, 46]) = false ∧ hasBad n = false ∧ 12 < n.size ∧ legalE n = 9) ∨
    (n.toList.isEmpty = false ∧ (n.toList == [46]) = false ∧ (n.toList == [46, 46]) = false ∧ hasBad n = false ∧ ¬ 12 < n.size ∧ legalE n = 0) := by
  unfold legalE
  cases n.toList.isEmpty <;> cases (n.toList == [46]) <;> cases (n.toList == [46, 46]) <;> cases hasBad n <;> by_cases h : 12 < n.size <;> simp [h]
theorem legal_any (n : ByteArray) (hn : n.size ≤ maxLen) (w : World) :
    Calls Try.prog 32 #[.string n] w fun e w' => e = .returned (.int .i64 (legalE n)) ∧ Below w.heap.size w w' := by
  have hc := str_cases n
  generalize legalE n = R at *
  rcases hc with ⟨h1, rfl⟩ | ⟨h1, h2, rfl⟩ | ⟨h1, h2, h3, rfl⟩ | ⟨h1, h2, h3, h4, rfl⟩ | ⟨h1, h2, h3, h4, h5, rfl⟩ | ⟨h1, h2, h3, h4, h5, rfl⟩
  · go_enter Try.func32, Try.ntmps32
    go_wp2
    go_ret
    exact ⟨rfl, Below.refl _ _⟩
  · go_enter Try.func32, Try.ntmps32
    go_wp2
    go_ret
    exact ⟨rfl, Below.refl _ _⟩
  · go_enter Try.func32, Try.ntmps32
    go_wp2
    go_ret
    exact ⟨rfl, Below.refl _ _⟩
  · go_enter Try.func32, Try.ntmps32
    go_wp2_with fail
    refine (containsAny_any n hn _).mono ?_
    rintro e w' ⟨rfl, hb⟩
    rw [h4]
    go_wp2
    go_ret
    exact ⟨rfl, hb⟩
  all_goals
    go_enter Try.func32, Try.ntmps32
    go_wp2_with fail
    refine (containsAny_any n hn _).mono ?_
    rintro e w' ⟨rfl, hb⟩
    rw [h4]
    go_wp2
    go_ret
    exact ⟨rfl, hb⟩

theorem legalr_any (n : ByteArray) (hn : n.size ≤ maxLen) (w : World) :
    Calls Try.prog 33 #[.string n] w fun e w' => e = .returned (.int .i64 (legalE n)) ∧ w = w' := by
  unfold maxLen at hn
  have hc := str_cases n
  generalize legalE n = R at *
  have h0 := Lib.hid (show NoBad n 0 from fun j h hj => by omega)
  have HEND := Lib.hid (@hasBad_not n)
  have HST := Lib.hid (fun (pos : Nat) (hp : pos < n.size) => @hasBad_of n pos hp)
  rcases hc with ⟨h1, rfl⟩ | ⟨h1, h2, rfl⟩ | ⟨h1, h2, h3, rfl⟩ | ⟨h1, h2, h3, h4, rfl⟩ | ⟨h1, h2, h3, h4, h5, rfl⟩ | ⟨h1, h2, h3, h4, h5, rfl⟩
  · go_enter Try.func33, Try.ntmps33
    go_wp2
    go_ret
    exact ⟨rfl, rfl⟩
  · go_enter Try.func33, Try.ntmps33
    go_wp2
    go_ret
    exact ⟨rfl, rfl⟩
  · go_enter Try.func33, Try.ntmps33
    go_wp2
    go_ret
    exact ⟨rfl, rfl⟩
  all_goals
    have H4 := Lib.hid h4
    clear h4
    go_enter Try.func33, Try.ntmps33
    go_wp2
    go_loop [3] (fun i => ∃ k : Nat, k ≤ n.size ∧ i = .int .i64 k ∧ NoBad n k) (fun i => n.size - (intOf i).toNat)
    case atStart => exact ⟨0, by omega, rfl, h0.out⟩
    case round =>
      obtain ⟨k, hk, rfl, hno⟩ := hrel
      by_cases hlt : k < n.size
      · cases hb : bad n[k]
        · have HN := Lib.hid (noBad_step hno hlt hb)
          rw [bad_int] at hb
          simp only [Bool.or_eq_false_iff] at hb
          obtain ⟨hb1, hb2⟩ := hb
          clear hno
          go_wp2
          go_round
          case rel => exact ⟨k + 1, by omega, by go_num, HN.out⟩
          case measure => simp [intOf]; omega
        · have HB := Lib.hid (HST.out k hlt hb)
          rw [bad_int] at hb
          clear hno
          cases hb1 : ((n[k].toNat : Int) == 47)
          · rw [hb1, Bool.false_or] at hb
            go_wp2
            go_ret
            exact ⟨by first | rfl | exact absurd (HB.out.symm.trans H4.out) (by simp), rfl⟩
          · clear hb
            go_wp2
            go_ret
            exact ⟨by first | rfl | exact absurd (HB.out.symm.trans H4.out) (by simp), rfl⟩
      · obtain rfl : k = n.size := by omega
        have HB := Lib.hid (HEND.out hno)
        clear hno
        go_wp2
        all_goals
          go_ret
          exact ⟨by first | rfl | exact absurd (HB.out.symm.trans H4.out) (by simp), rfl⟩
end Go.Proofs.Ytfllhakmjookkaa
