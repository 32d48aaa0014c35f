/- Entries: the laws' own helpers. -/
import Derived.Test.YtfllhakmjookkaaEntryJ
import Derived.Test.YtfllhakmjookkaaEntryD
set_option linter.unusedVariables false
set_option linter.unusedSimpArgs false
namespace Go.Proofs.Ytfllhakmjookkaa
open Go Go.RowKit

def fineE (l : List Ent) : Bool := decide ((l.length : Int) ≤ 100) && sortedE l
theorem fine_any (l : List Ent) (v : Value) (w : World) (h : entK.Sl (Old w) w v l) :
    Calls Try.prog 37 #[v] w fun e w' => e = .returned (.bool (fineE l)) ∧ Below w.heap.size w w' := by
  unfold fineE
  have HH := Lib.hid h
  generalize hR : sortedE l = R
  obtain ⟨a, cap, hv, hcap⟩ := Sl.val h
  subst hv
  clear h
  obtain ⟨L, hL⟩ : ∃ L, l.length = L := ⟨_, rfl⟩
  rw [hL] at hcap ⊢
  have HL := Lib.hid (And.intro hL hR)
  clear hL hR
  by_cases hlt : (L : Int) ≤ 100
  · have hd : decide ((L : Int) ≤ 100) = true := by simpa using hlt
    go_enter Try.func37, Try.ntmps37
    go_wp2_with fail
    have h1 := its_any l _ w HH.out (by have := HL.out.1; omega)
    rw [HL.out.1] at h1
    refine h1.mono ?_
    rintro e w' ⟨r, rfl, ho, hb⟩
    have HO := Lib.hid (And.intro ho hb)
    clear ho hb h1
    go_wp2_with fail
    refine (sortedr_any l r w' (Own.sl HO.out.1) (by have := HL.out.1; omega)).mono ?_
    rintro e w2 ⟨rfl, n, rfl⟩
    rw [HL.out.2]
    go_wp2
    go_ret
    refine ⟨by rw [hd]; rfl, bthen HO.out.2 (bdrawn _ _)⟩
  · have hd : decide ((L : Int) ≤ 100) = false := by simpa using hlt
    go_enter Try.func37, Try.ntmps37
    go_wp2_with fail
    go_ret
    exact ⟨rfl, Below.refl _ _⟩
def l0 : List Ent := [⟨⟨#[97]⟩, 1⟩, ⟨⟨#[99]⟩, 2⟩]
def p0 : List Ent := [⟨⟨#[97]⟩, 1⟩, ⟨⟨#[98]⟩, 3⟩, ⟨⟨#[99]⟩, 2⟩]
theorem put0 : putE l0 ⟨⟨#[98]⟩, 3⟩ = p0 := by
  simp [putE, dropE, l0, p0, ltS, gtS, ByteArray.toList_eq, Op.bytesLess]
theorem drop0 : dropE p0 ⟨#[98]⟩ = l0 := by
  simp [dropE, l0, p0, ByteArray.toList_eq]
theorem find0 : findE p0 ⟨#[98]⟩ = (3, true) := by
  simp [findE, p0, ByteArray.toList_eq]
theorem find1 : findE l0 ⟨#[98]⟩ = (-1, false) := by
  simp [findE, l0, ByteArray.toList_eq]
theorem sorted0 : sortedE l0 = true := by
  simp [sortedE, sortedF, l0, legalE, hasBad, bad, ByteArray.size, leS, ByteArray.toList_eq, Op.bytesLess]
theorem sorted1 : sortedE p0 = true := by
  simp [sortedE, sortedF, p0, legalE, hasBad, bad, ByteArray.size, leS, ByteArray.toList_eq, Op.bytesLess]
theorem legal0 : legalE ⟨#[46, 46]⟩ = 1 := by
  simp [legalE, ByteArray.toList_eq]
theorem lit_sl (w : World) : entK.Sl (Old (w.alloc (.cells #[.string ⟨#[97]⟩, .int .i64 1, .string ⟨#[99]⟩, .int .i64 2] 72))) (w.alloc (.cells #[.string ⟨#[97]⟩, .int .i64 1, .string ⟨#[99]⟩, .int .i64 2] 72)) (.slice (some ⟨w.heap.size, 0, none⟩) 2 2) l0 := by
  refine ⟨_, 2, [.string ⟨#[97]⟩, .int .i64 1, .string ⟨#[99]⟩, .int .i64 2], rfl, Nat.le_refl _, by decide, ?_, (fun h => by cases h), fun ad h => ?_⟩
  · have h1 : Reps (entK.At (Old (w.alloc (.cells #[.string ⟨#[97]⟩, .int .i64 1, .string ⟨#[99]⟩, .int .i64 2] 72))) (w.alloc (.cells #[.string ⟨#[97]⟩, .int .i64 1, .string ⟨#[99]⟩, .int .i64 2] 72))) 2 [(⟨⟨#[97]⟩, 1⟩ : Ent)] [.string ⟨#[97]⟩, .int .i64 1] := Reps.one (R := entK.At _ _) ⟨rfl, by decide⟩ rfl
    have h2 : Reps (entK.At (Old (w.alloc (.cells #[.string ⟨#[97]⟩, .int .i64 1, .string ⟨#[99]⟩, .int .i64 2] 72))) (w.alloc (.cells #[.string ⟨#[97]⟩, .int .i64 1, .string ⟨#[99]⟩, .int .i64 2] 72))) 2 [(⟨⟨#[99]⟩, 2⟩ : Ent)] [.string ⟨#[99]⟩, .int .i64 2] := Reps.one (R := entK.At _ _) ⟨rfl, by decide⟩ rfl
    exact h1.append h2
  · cases h
    refine ⟨w.heap.size, 0, rfl, fun _ => by simp [Old], fun j u hu => ?_⟩
    have := (Row.new w 72 [.string ⟨#[97]⟩, .int .i64 1, .string ⟨#[99]⟩, .int .i64 2]).cell (0 + j)
    rw [this]; rw [Nat.zero_add]; exact hu
set_option maxRecDepth 100000 in
set_option maxHeartbeats 1000000 in
theorem shown_any (w : World) : Calls Try.prog 31 #[] w fun e w' => e = .returned (.bool true) ∧ Below w.heap.size w w' := by
  have h1 := put_any l0 _ ⟨⟨#[98]⟩, 3⟩ _ (by decide) (lit_sl w) (by decide) (sorts_of sorted0)
  rw [put0] at h1
  have H1 := Lib.hid h1
  clear h1
  go_enter Try.func31, Try.ntmps31
  go_wp2_with fail
  refine H1.out.mono ?_
  rintro e1 w1 ⟨p, rfl, ho1, hb1⟩
  have HB1 := Lib.hid (bthen (balloc w _) hb1)
  have HP1 := Lib.hid (Own.sl ho1)
  obtain ⟨ap, capp, hvp, hcapp⟩ := Sl.val (Own.sl ho1)
  subst hvp
  clear ho1 hb1
  have h2 := find_any p0 _ ⟨#[98]⟩ w1 HP1.out (by decide) (sorts_of sorted1)
  rw [find0] at h2
  go_wp2_with fail
  refine h2.mono ?_
  rintro e2 w2 ⟨rfl, hb2⟩
  have HB2 := Lib.hid (bthen HB1.out hb2)
  have HP2 := Lib.hid (Sl.below hb2 HP1.out)
  clear hb2 h2
  have h3 := drop_any p0 _ ⟨#[98]⟩ w2 HP2.out (by decide) (sorts_of sorted1)
  rw [drop0] at h3
  go_wp2_with fail
  refine h3.mono ?_
  rintro e3 w3 ⟨d, rfl, ho3, hb3⟩
  have HB3 := Lib.hid (bthen HB2.out hb3)
  have HP3 := Lib.hid (Sl.below hb3 HP2.out)
  have HD3 := Lib.hid (Own.sl ho3)
  clear hb3 ho3 h3
  have h4 := find_any l0 _ ⟨#[98]⟩ w3 HD3.out (by decide) (sorts_of sorted0)
  rw [find1] at h4
  go_wp2_with fail
  refine h4.mono ?_
  rintro e4 w4 ⟨rfl, hb4⟩
  have HB4 := Lib.hid (bthen HB3.out hb4)
  have HP4 := Lib.hid (Sl.below hb4 HP3.out)
  clear hb4 h4
  obtain ⟨g, off, cap', he, _, _, hS, c0, c1⟩ := ent_at HP4.out (i := 1) (x := ⟨⟨#[98]⟩, 3⟩) rfl
  injection he with he1 he2 he3
  subst he1 he3
  clear he2 hS
  have h5 := sorted_any p0 _ w4 HP4.out (by decide)
  rw [sorted1] at h5
  have H5 := Lib.hid h5
  clear h5
  have hlen : p0.length = 3 := rfl
  rw [hlen]
  go_wp2_with fail
  rw [hlen] at H5
  refine H5.out.mono ?_
  rintro e5 w5 ⟨rfl, hb5⟩
  have HB5 := Lib.hid (bthen HB4.out hb5)
  have HP5 := Lib.hid (Sl.below hb5 HP4.out)
  clear hb5
  have h6 := legal_any ⟨#[46, 46]⟩ (by decide) w5
  rw [legal0] at h6
  go_wp2_with fail
  refine h6.mono ?_
  rintro e6 w6 ⟨rfl, hb6⟩
  have HB6 := Lib.hid (bthen HB5.out hb6)
  have HP6 := Lib.hid (Sl.below hb6 HP5.out)
  clear hb6 h6
  have h7 := names_any p0 _ w6 HP6.out (by decide)
  rw [hlen] at h7
  go_wp2_with fail
  refine h7.mono ?_
  rintro e7 w7 ⟨r, rfl, ho7, hb7⟩
  have HB7 := Lib.hid (bthen HB6.out hb7)
  obtain ⟨an, capn, hvn, hcapn⟩ := Sl.val (Own.sl ho7)
  rw [show (p0.map Ent.name).length = 3 from rfl] at hvn
  subst hvn
  clear hb7 ho7 h7
  go_wp2
  go_ret
  exact ⟨rfl, HB7.out⟩
end Go.Proofs.Ytfllhakmjookkaa
