/- Entries: the laws' walks. -/
import Derived.Test.YtfllhakmjookkaaEntryK
set_option linter.unusedVariables false
set_option linter.unusedSimpArgs false
namespace Go.Proofs.Ytfllhakmjookkaa
open Go Go.RowKit

set_option maxRecDepth 100000 in
set_option maxHeartbeats 1000000 in
theorem entryLegal_walk (n : ByteArray) (hn : n.size ≤ maxLen) (v : Value) (l : List Ent) (w : World) (h : entK.Sl (Old w) w v l) :
    Calls Try.prog 8 #[.string n, v] w fun e w' => e = .returned (.bool true) ∧ Below w.heap.size w w' := by
  have H0 := Lib.hid h
  obtain ⟨a, cap, hv, hcap⟩ := Sl.val h
  subst hv
  clear h
  obtain ⟨k, hk⟩ : ∃ k, l.length = k := ⟨_, rfl⟩
  rw [hk] at hcap ⊢
  have HK := Lib.hid hk
  clear hk
  by_cases h1 : 100 < n.size
  · have t1 : decide ((100 : Int) < (n.size : Int)) = true := by simp; omega
    clear h1 hn
    go_enter Try.func8, Try.ntmps8
    go_wp2_with fail
    refine (shown_any _).mono ?_
    rintro e1 w1 ⟨rfl, hb1⟩
    have HB1 := Lib.hid (hb1)
    clear hb1
    go_wp2
    go_ret
    exact ⟨rfl, HB1.out⟩

  · have t1 : decide ((100 : Int) < (n.size : Int)) = false := by simp; omega
    by_cases h2 : 100 < k
    · have t2 : decide ((100 : Int) < (k : Int)) = true := by simp; omega
      clear h1 h2 hn
      go_enter Try.func8, Try.ntmps8
      go_wp2_with fail
      refine (shown_any _).mono ?_
      rintro e1 w1 ⟨rfl, hb1⟩
      have HB1 := Lib.hid (hb1)
      clear hb1
      go_wp2
      go_ret
      exact ⟨rfl, HB1.out⟩

    · have t2 : decide ((100 : Int) < (k : Int)) = false := by simp; omega
      have HN := Lib.hid (And.intro hn (show l.length ≤ 1000 by rw [HK.out]; omega))
      clear h1 h2 hn
      generalize hR : legalE n = R
      have HE := Lib.hid hR
      generalize hS : sortedE l = S
      have HS := Lib.hid hS
      clear hR hS
      go_enter Try.func8, Try.ntmps8
      go_wp2_with fail
      refine (shown_any _).mono ?_
      rintro e1 w1 ⟨rfl, hb1⟩
      have HB1 := Lib.hid (hb1)
      clear hb1
      have H1 := Lib.hid (Sl.below HB1.out H0.out)
      rw [HK.out] at H1
      go_wp2_with fail
      refine (legal_any n HN.out.1 w1).mono ?_
      rintro e2 w2 ⟨rfl, hb2⟩
      have HB2 := Lib.hid (bthen HB1.out hb2)
      have H2 := Lib.hid (Sl.below hb2 H1.out)
      clear hb2
      go_wp2_with fail
      refine (legalr_any n HN.out.1 w2).mono ?_
      rintro e3 w3 ⟨rfl, rfl⟩
      go_wp2_with fail
      refine (sorted_any l _ w2 H2.out HN.out.2).mono ?_
      rintro e4 w4 ⟨rfl, hb4⟩
      have HB4 := Lib.hid (bthen HB2.out hb4)
      have H4 := Lib.hid (Sl.below hb4 H2.out)
      clear hb4
      go_wp2_with fail
      refine (its_any l _ w4 H4.out HN.out.2).mono ?_
      rintro e5 w5 ⟨r, rfl, ho5, hb5⟩
      have HB5 := Lib.hid (bthen HB4.out hb5)
      have HO := Lib.hid (Own.sl ho5)
      clear ho5
      clear hb5
      go_wp2_with fail
      refine (sortedr_any l r w5 HO.out HN.out.2).mono ?_
      rintro e6 w6 ⟨rfl, m, rfl⟩
      go_wp2
      go_ret
      exact ⟨rfl, bthen HB5.out (bdrawn _ _)⟩

theorem eqEnt_refl (x : Ent) : eqEnt x x = true := by simp [eqEnt]
theorem sameE_refl : ∀ l : List Ent, sameE l l = true
  | [] => rfl
  | x :: l => by
    show (if eqEnt x x = true then sameE l l else false) = true
    rw [if_pos (eqEnt_refl x)]; exact sameE_refl l
theorem textsE_refl : ∀ l : List ByteArray, textsE l l = true
  | [] => rfl
  | x :: l => by
    show (if (x.toList == x.toList) = true then textsE l l else false) = true
    rw [if_pos (by simp)]; exact textsE_refl l
theorem putE_len (l : List Ent) (e : Ent) : (putE l e).length ≤ 2 * l.length + 1 := by
  unfold putE
  rw [List.length_append, List.length_append]
  have h1 := List.length_filter_le (fun x => ltS x.name e.name) (dropE l e.name)
  have h2 := List.length_filter_le (fun x => gtS x.name e.name) (dropE l e.name)
  have h3 := dropE_len l e.name
  simp; omega
theorem fine_is {l : List Ent} (h : fineE l = true) : l.length ≤ 100 ∧ Sorts l ∧ sortedE l = true := by
  unfold fineE at h
  rw [Bool.and_eq_true, decide_eq_true_eq] at h
  exact ⟨by omega, sorts_of h.2, h.2⟩
set_option maxRecDepth 100000 in
set_option maxHeartbeats 1000000 in
theorem entryActs_walk (v : Value) (l : List Ent) (n : ByteArray) (hn : n.size ≤ maxLen) (i : Int) (hi : (Lit.int .i64 i).wf = true) (w : World) (h : entK.Sl (Old w) w v l) :
    Calls Try.prog 9 #[v, .string n, .int .i64 i] w fun e w' => e = .returned (.bool true) ∧ Below w.heap.size w w' := by
  have H0 := Lib.hid h
  clear h
  cases hf : fineE l with
  | false =>
    go_enter Try.func9, Try.ntmps9
    go_wp2_with fail
    refine (fine_any l v w H0.out).mono ?_
    rintro e1 w1 ⟨rfl, hb1⟩
    have Kl1 := Lib.hid (Sl.below hb1 H0.out)
    have HB1 := Lib.hid (hb1)
    clear hb1
    rw [hf]
    go_wp2_with fail
    refine (shown_any w1).mono ?_
    rintro e2 w2 ⟨rfl, hb2⟩
    have Kl2 := Lib.hid (Sl.below hb2 Kl1.out)
    have HB2 := Lib.hid (bthen HB1.out (hb2))
    clear hb2
    go_wp2
    go_ret
    exact ⟨rfl, HB2.out⟩
  | true =>
    have HL := Lib.hid (fine_is hf)
    by_cases h1 : 100 < n.size
    · have t1 : decide ((100 : Int) < (n.size : Int)) = true := by simp; omega
      clear h1 hn
      go_enter Try.func9, Try.ntmps9
      go_wp2_with fail
      refine (fine_any l v w H0.out).mono ?_
      rintro e1 w1 ⟨rfl, hb1⟩
      have Kl1 := Lib.hid (Sl.below hb1 H0.out)
      have HB1 := Lib.hid (hb1)
      clear hb1
      rw [hf]
      go_wp2_with fail
      refine (shown_any w1).mono ?_
      rintro e2 w2 ⟨rfl, hb2⟩
      have Kl2 := Lib.hid (Sl.below hb2 Kl1.out)
      have HB2 := Lib.hid (bthen HB1.out (hb2))
      clear hb2
      go_wp2
      go_ret
      exact ⟨rfl, HB2.out⟩
    · have t1 : decide ((100 : Int) < (n.size : Int)) = false := by simp; omega
      have HN := Lib.hid hn
      clear h1 hn
      generalize hF : findE l n = F
      have HF := Lib.hid hF
      clear hF
      cases hg : (legalE n == 0) with
      | false =>
        have hleg : (legalE n != 0) = true := by simp [bne, hg]
        go_enter Try.func9, Try.ntmps9
        go_wp2_with fail
        refine (fine_any l v w H0.out).mono ?_
        rintro e1 w1 ⟨rfl, hb1⟩
        have Kl1 := Lib.hid (Sl.below hb1 H0.out)
        have HB1 := Lib.hid (hb1)
        clear hb1
        rw [hf]
        go_wp2_with fail
        refine (shown_any w1).mono ?_
        rintro e2 w2 ⟨rfl, hb2⟩
        have Kl2 := Lib.hid (Sl.below hb2 Kl1.out)
        have HB2 := Lib.hid (bthen HB1.out (hb2))
        clear hb2
        go_wp2_with fail
        refine (its_any l _ w2 Kl2.out (by have := HL.out.1; omega)).mono ?_
        rintro e3 w3 ⟨rm, rfl, ho3, hb3⟩
        have Kl3 := Lib.hid (Sl.below hb3 Kl2.out)
        have HB3 := Lib.hid (bthen HB2.out (hb3))
        have Km3 := Lib.hid (Own.sl ho3)
        clear ho3 hb3
        go_wp2_with fail
        refine (find_any l _ n w3 Kl3.out (by have := HL.out.1; omega) HL.out.2.1).mono ?_
        rintro e4 w4 ⟨rfl, hb4⟩
        have Kl4 := Lib.hid (Sl.below hb4 Kl3.out)
        have Km4 := Lib.hid (Sl.below hb4 Km3.out)
        have HB4 := Lib.hid (bthen HB3.out (hb4))
        clear hb4
        go_wp2_with fail
        refine (findr_any l _ n w4 Km4.out (by have := HL.out.1; omega)).mono ?_
        rintro e5 w5 ⟨rfl, rfl⟩
        rw [HF.out]
        go_wp2_with fail
        refine (drop_any l _ n w4 Kl4.out (by have := HL.out.1; omega) HL.out.2.1).mono ?_
        rintro e6 w6 ⟨rd, rfl, ho6, hb6⟩
        have Kl6 := Lib.hid (Sl.below hb6 Kl4.out)
        have Km6 := Lib.hid (Sl.below hb6 Km4.out)
        have HB6 := Lib.hid (bthen HB4.out (hb6))
        have Kd6 := Lib.hid (Own.sl ho6)
        clear ho6 hb6
        go_wp2_with fail
        refine (its_any (dropE l n) _ w6 Kd6.out (by have := HL.out.1; have := dropE_len l n; omega)).mono ?_
        rintro e7 w7 ⟨rdi, rfl, ho7, hb7⟩
        have Kl7 := Lib.hid (Sl.below hb7 Kl6.out)
        have Km7 := Lib.hid (Sl.below hb7 Km6.out)
        have Kd7 := Lib.hid (Sl.below hb7 Kd6.out)
        have HB7 := Lib.hid (bthen HB6.out (hb7))
        have Kdi7 := Lib.hid (Own.sl ho7)
        clear ho7 hb7
        go_wp2_with fail
        refine (dropr_any l _ n w7 Km7.out (by have := HL.out.1; omega)).mono ?_
        rintro e8 w8 ⟨rdr, rfl, ho8, hb8⟩
        have Kl8 := Lib.hid (Sl.below hb8 Kl7.out)
        have Km8 := Lib.hid (Sl.below hb8 Km7.out)
        have Kd8 := Lib.hid (Sl.below hb8 Kd7.out)
        have Kdi8 := Lib.hid (Sl.below hb8 Kdi7.out)
        have HB8 := Lib.hid (bthen HB7.out (hb8))
        have Kdr8 := Lib.hid (Own.sl ho8)
        clear ho8 hb8
        go_wp2_with fail
        refine (same_any (dropE l n) (dropE l n) _ _ w8 Kdi8.out Kdr8.out (by have := HL.out.1; have := dropE_len l n; omega)).mono ?_
        rintro e9 w9 ⟨rfl, m9, rfl⟩
        have Kl9 := Lib.hid (Sl.below (bdrawn w8 m9) Kl8.out)
        have Km9 := Lib.hid (Sl.below (bdrawn w8 m9) Km8.out)
        have Kd9 := Lib.hid (Sl.below (bdrawn w8 m9) Kd8.out)
        have Kdi9 := Lib.hid (Sl.below (bdrawn w8 m9) Kdi8.out)
        have Kdr9 := Lib.hid (Sl.below (bdrawn w8 m9) Kdr8.out)
        have HB9 := Lib.hid (bthen HB8.out ((bdrawn w8 m9)))
        rw [sameE_refl]
        go_wp2_with fail
        refine (names_any l _ (w8.drewN m9) Kl9.out (by have := HL.out.1; omega)).mono ?_
        rintro e10 w10 ⟨rna, rfl, ho10, hb10⟩
        have Kl10 := Lib.hid (Sl.below hb10 Kl9.out)
        have Km10 := Lib.hid (Sl.below hb10 Km9.out)
        have Kd10 := Lib.hid (Sl.below hb10 Kd9.out)
        have Kdi10 := Lib.hid (Sl.below hb10 Kdi9.out)
        have Kdr10 := Lib.hid (Sl.below hb10 Kdr9.out)
        have HB10 := Lib.hid (bthen HB9.out (hb10))
        have Kna10 := Lib.hid (Own.sl ho10)
        clear ho10 hb10
        go_wp2_with fail
        refine (namesr_any l _ w10 Km10.out (by have := HL.out.1; omega)).mono ?_
        rintro e11 w11 ⟨rnr, rfl, ho11, hb11⟩
        have Kl11 := Lib.hid (Sl.below hb11 Kl10.out)
        have Km11 := Lib.hid (Sl.below hb11 Km10.out)
        have Kd11 := Lib.hid (Sl.below hb11 Kd10.out)
        have Kdi11 := Lib.hid (Sl.below hb11 Kdi10.out)
        have Kdr11 := Lib.hid (Sl.below hb11 Kdr10.out)
        have Kna11 := Lib.hid (Sl.below hb11 Kna10.out)
        have HB11 := Lib.hid (bthen HB10.out (hb11))
        have Knr11 := Lib.hid (Own.sl ho11)
        clear ho11 hb11
        go_wp2_with fail
        refine (texts_any (l.map Ent.name) (l.map Ent.name) _ _ w11 Kna11.out Knr11.out (by have := HL.out.1; rw [List.length_map]; omega)).mono ?_
        rintro e12 w12 ⟨rfl, m12, rfl⟩
        have Kl12 := Lib.hid (Sl.below (bdrawn w11 m12) Kl11.out)
        have Km12 := Lib.hid (Sl.below (bdrawn w11 m12) Km11.out)
        have Kd12 := Lib.hid (Sl.below (bdrawn w11 m12) Kd11.out)
        have Kdi12 := Lib.hid (Sl.below (bdrawn w11 m12) Kdi11.out)
        have Kdr12 := Lib.hid (Sl.below (bdrawn w11 m12) Kdr11.out)
        have Kna12 := Lib.hid (Sl.below (bdrawn w11 m12) Kna11.out)
        have Knr12 := Lib.hid (Sl.below (bdrawn w11 m12) Knr11.out)
        have HB12 := Lib.hid (bthen HB11.out ((bdrawn w11 m12)))
        rw [textsE_refl]
        go_wp2_with fail
        refine (legalr_any n HN.out (w11.drewN m12)).mono ?_
        rintro e13 w13 ⟨rfl, rfl⟩
        go_wp2
        go_ret
        exact ⟨rfl, HB12.out⟩
      | true =>
        have hleg : (legalE n != 0) = false := by simp [bne, hg]
        go_enter Try.func9, Try.ntmps9
        go_wp2_with fail
        refine (fine_any l v w H0.out).mono ?_
        rintro e1 w1 ⟨rfl, hb1⟩
        have Kl1 := Lib.hid (Sl.below hb1 H0.out)
        have HB1 := Lib.hid (hb1)
        clear hb1
        rw [hf]
        go_wp2_with fail
        refine (shown_any w1).mono ?_
        rintro e2 w2 ⟨rfl, hb2⟩
        have Kl2 := Lib.hid (Sl.below hb2 Kl1.out)
        have HB2 := Lib.hid (bthen HB1.out (hb2))
        clear hb2
        go_wp2_with fail
        refine (its_any l _ w2 Kl2.out (by have := HL.out.1; omega)).mono ?_
        rintro e3 w3 ⟨rm, rfl, ho3, hb3⟩
        have Kl3 := Lib.hid (Sl.below hb3 Kl2.out)
        have HB3 := Lib.hid (bthen HB2.out (hb3))
        have Km3 := Lib.hid (Own.sl ho3)
        clear ho3 hb3
        go_wp2_with fail
        refine (find_any l _ n w3 Kl3.out (by have := HL.out.1; omega) HL.out.2.1).mono ?_
        rintro e4 w4 ⟨rfl, hb4⟩
        have Kl4 := Lib.hid (Sl.below hb4 Kl3.out)
        have Km4 := Lib.hid (Sl.below hb4 Km3.out)
        have HB4 := Lib.hid (bthen HB3.out (hb4))
        clear hb4
        go_wp2_with fail
        refine (findr_any l _ n w4 Km4.out (by have := HL.out.1; omega)).mono ?_
        rintro e5 w5 ⟨rfl, rfl⟩
        rw [HF.out]
        go_wp2_with fail
        refine (drop_any l _ n w4 Kl4.out (by have := HL.out.1; omega) HL.out.2.1).mono ?_
        rintro e6 w6 ⟨rd, rfl, ho6, hb6⟩
        have Kl6 := Lib.hid (Sl.below hb6 Kl4.out)
        have Km6 := Lib.hid (Sl.below hb6 Km4.out)
        have HB6 := Lib.hid (bthen HB4.out (hb6))
        have Kd6 := Lib.hid (Own.sl ho6)
        clear ho6 hb6
        go_wp2_with fail
        refine (its_any (dropE l n) _ w6 Kd6.out (by have := HL.out.1; have := dropE_len l n; omega)).mono ?_
        rintro e7 w7 ⟨rdi, rfl, ho7, hb7⟩
        have Kl7 := Lib.hid (Sl.below hb7 Kl6.out)
        have Km7 := Lib.hid (Sl.below hb7 Km6.out)
        have Kd7 := Lib.hid (Sl.below hb7 Kd6.out)
        have HB7 := Lib.hid (bthen HB6.out (hb7))
        have Kdi7 := Lib.hid (Own.sl ho7)
        clear ho7 hb7
        go_wp2_with fail
        refine (dropr_any l _ n w7 Km7.out (by have := HL.out.1; omega)).mono ?_
        rintro e8 w8 ⟨rdr, rfl, ho8, hb8⟩
        have Kl8 := Lib.hid (Sl.below hb8 Kl7.out)
        have Km8 := Lib.hid (Sl.below hb8 Km7.out)
        have Kd8 := Lib.hid (Sl.below hb8 Kd7.out)
        have Kdi8 := Lib.hid (Sl.below hb8 Kdi7.out)
        have HB8 := Lib.hid (bthen HB7.out (hb8))
        have Kdr8 := Lib.hid (Own.sl ho8)
        clear ho8 hb8
        go_wp2_with fail
        refine (same_any (dropE l n) (dropE l n) _ _ w8 Kdi8.out Kdr8.out (by have := HL.out.1; have := dropE_len l n; omega)).mono ?_
        rintro e9 w9 ⟨rfl, m9, rfl⟩
        have Kl9 := Lib.hid (Sl.below (bdrawn w8 m9) Kl8.out)
        have Km9 := Lib.hid (Sl.below (bdrawn w8 m9) Km8.out)
        have Kd9 := Lib.hid (Sl.below (bdrawn w8 m9) Kd8.out)
        have Kdi9 := Lib.hid (Sl.below (bdrawn w8 m9) Kdi8.out)
        have Kdr9 := Lib.hid (Sl.below (bdrawn w8 m9) Kdr8.out)
        have HB9 := Lib.hid (bthen HB8.out ((bdrawn w8 m9)))
        rw [sameE_refl]
        go_wp2_with fail
        refine (names_any l _ (w8.drewN m9) Kl9.out (by have := HL.out.1; omega)).mono ?_
        rintro e10 w10 ⟨rna, rfl, ho10, hb10⟩
        have Kl10 := Lib.hid (Sl.below hb10 Kl9.out)
        have Km10 := Lib.hid (Sl.below hb10 Km9.out)
        have Kd10 := Lib.hid (Sl.below hb10 Kd9.out)
        have Kdi10 := Lib.hid (Sl.below hb10 Kdi9.out)
        have Kdr10 := Lib.hid (Sl.below hb10 Kdr9.out)
        have HB10 := Lib.hid (bthen HB9.out (hb10))
        have Kna10 := Lib.hid (Own.sl ho10)
        clear ho10 hb10
        go_wp2_with fail
        refine (namesr_any l _ w10 Km10.out (by have := HL.out.1; omega)).mono ?_
        rintro e11 w11 ⟨rnr, rfl, ho11, hb11⟩
        have Kl11 := Lib.hid (Sl.below hb11 Kl10.out)
        have Km11 := Lib.hid (Sl.below hb11 Km10.out)
        have Kd11 := Lib.hid (Sl.below hb11 Kd10.out)
        have Kdi11 := Lib.hid (Sl.below hb11 Kdi10.out)
        have Kdr11 := Lib.hid (Sl.below hb11 Kdr10.out)
        have Kna11 := Lib.hid (Sl.below hb11 Kna10.out)
        have HB11 := Lib.hid (bthen HB10.out (hb11))
        have Knr11 := Lib.hid (Own.sl ho11)
        clear ho11 hb11
        go_wp2_with fail
        refine (texts_any (l.map Ent.name) (l.map Ent.name) _ _ w11 Kna11.out Knr11.out (by have := HL.out.1; rw [List.length_map]; omega)).mono ?_
        rintro e12 w12 ⟨rfl, m12, rfl⟩
        have Kl12 := Lib.hid (Sl.below (bdrawn w11 m12) Kl11.out)
        have Km12 := Lib.hid (Sl.below (bdrawn w11 m12) Km11.out)
        have Kd12 := Lib.hid (Sl.below (bdrawn w11 m12) Kd11.out)
        have Kdi12 := Lib.hid (Sl.below (bdrawn w11 m12) Kdi11.out)
        have Kdr12 := Lib.hid (Sl.below (bdrawn w11 m12) Kdr11.out)
        have Kna12 := Lib.hid (Sl.below (bdrawn w11 m12) Kna11.out)
        have Knr12 := Lib.hid (Sl.below (bdrawn w11 m12) Knr11.out)
        have HB12 := Lib.hid (bthen HB11.out ((bdrawn w11 m12)))
        rw [textsE_refl]
        go_wp2_with fail
        refine (legalr_any n HN.out (w11.drewN m12)).mono ?_
        rintro e13 w13 ⟨rfl, rfl⟩
        go_wp2_with fail
        refine (put_any l _ ⟨n, i⟩ (w11.drewN m12) HN.out Kl12.out (by have := HL.out.1; omega) HL.out.2.1).mono ?_
        rintro e14 w14 ⟨rp, rfl, ho14, hb14⟩
        have Kl14 := Lib.hid (Sl.below hb14 Kl12.out)
        have Km14 := Lib.hid (Sl.below hb14 Km12.out)
        have Kd14 := Lib.hid (Sl.below hb14 Kd12.out)
        have Kdi14 := Lib.hid (Sl.below hb14 Kdi12.out)
        have Kdr14 := Lib.hid (Sl.below hb14 Kdr12.out)
        have Kna14 := Lib.hid (Sl.below hb14 Kna12.out)
        have Knr14 := Lib.hid (Sl.below hb14 Knr12.out)
        have HB14 := Lib.hid (bthen HB12.out (hb14))
        have Kp14 := Lib.hid (Own.sl ho14)
        clear ho14 hb14
        go_wp2_with fail
        refine (its_any (putE l ⟨n, i⟩) _ w14 Kp14.out (by have := HL.out.1; have := putE_len l ⟨n, i⟩; omega)).mono ?_
        rintro e15 w15 ⟨rpi, rfl, ho15, hb15⟩
        have Kl15 := Lib.hid (Sl.below hb15 Kl14.out)
        have Km15 := Lib.hid (Sl.below hb15 Km14.out)
        have Kd15 := Lib.hid (Sl.below hb15 Kd14.out)
        have Kdi15 := Lib.hid (Sl.below hb15 Kdi14.out)
        have Kdr15 := Lib.hid (Sl.below hb15 Kdr14.out)
        have Kna15 := Lib.hid (Sl.below hb15 Kna14.out)
        have Knr15 := Lib.hid (Sl.below hb15 Knr14.out)
        have Kp15 := Lib.hid (Sl.below hb15 Kp14.out)
        have HB15 := Lib.hid (bthen HB14.out (hb15))
        have Kpi15 := Lib.hid (Own.sl ho15)
        clear ho15 hb15
        go_wp2_with fail
        refine (putr_any l _ ⟨n, i⟩ w15 Km15.out (by have := HL.out.1; omega) HN.out).mono ?_
        rintro e16 w16 ⟨rpr, rfl, ho16, hb16⟩
        have Kl16 := Lib.hid (Sl.below hb16 Kl15.out)
        have Km16 := Lib.hid (Sl.below hb16 Km15.out)
        have Kd16 := Lib.hid (Sl.below hb16 Kd15.out)
        have Kdi16 := Lib.hid (Sl.below hb16 Kdi15.out)
        have Kdr16 := Lib.hid (Sl.below hb16 Kdr15.out)
        have Kna16 := Lib.hid (Sl.below hb16 Kna15.out)
        have Knr16 := Lib.hid (Sl.below hb16 Knr15.out)
        have Kp16 := Lib.hid (Sl.below hb16 Kp15.out)
        have Kpi16 := Lib.hid (Sl.below hb16 Kpi15.out)
        have HB16 := Lib.hid (bthen HB15.out (hb16))
        have Kpr16 := Lib.hid (Own.sl ho16)
        clear ho16 hb16
        go_wp2_with fail
        refine (same_any (putE l ⟨n, i⟩) (putE l ⟨n, i⟩) _ _ w16 Kpi16.out Kpr16.out (by have := HL.out.1; have := putE_len l ⟨n, i⟩; omega)).mono ?_
        rintro e17 w17 ⟨rfl, m17, rfl⟩
        have Kl17 := Lib.hid (Sl.below (bdrawn w16 m17) Kl16.out)
        have Km17 := Lib.hid (Sl.below (bdrawn w16 m17) Km16.out)
        have Kd17 := Lib.hid (Sl.below (bdrawn w16 m17) Kd16.out)
        have Kdi17 := Lib.hid (Sl.below (bdrawn w16 m17) Kdi16.out)
        have Kdr17 := Lib.hid (Sl.below (bdrawn w16 m17) Kdr16.out)
        have Kna17 := Lib.hid (Sl.below (bdrawn w16 m17) Kna16.out)
        have Knr17 := Lib.hid (Sl.below (bdrawn w16 m17) Knr16.out)
        have Kp17 := Lib.hid (Sl.below (bdrawn w16 m17) Kp16.out)
        have Kpi17 := Lib.hid (Sl.below (bdrawn w16 m17) Kpi16.out)
        have Kpr17 := Lib.hid (Sl.below (bdrawn w16 m17) Kpr16.out)
        have HB17 := Lib.hid (bthen HB16.out ((bdrawn w16 m17)))
        rw [sameE_refl]
        go_wp2_with fail
        refine (its_any l _ (w16.drewN m17) Kl17.out (by have := HL.out.1; omega)).mono ?_
        rintro e18 w18 ⟨rli, rfl, ho18, hb18⟩
        have Kl18 := Lib.hid (Sl.below hb18 Kl17.out)
        have Km18 := Lib.hid (Sl.below hb18 Km17.out)
        have Kd18 := Lib.hid (Sl.below hb18 Kd17.out)
        have Kdi18 := Lib.hid (Sl.below hb18 Kdi17.out)
        have Kdr18 := Lib.hid (Sl.below hb18 Kdr17.out)
        have Kna18 := Lib.hid (Sl.below hb18 Kna17.out)
        have Knr18 := Lib.hid (Sl.below hb18 Knr17.out)
        have Kp18 := Lib.hid (Sl.below hb18 Kp17.out)
        have Kpi18 := Lib.hid (Sl.below hb18 Kpi17.out)
        have Kpr18 := Lib.hid (Sl.below hb18 Kpr17.out)
        have HB18 := Lib.hid (bthen HB17.out (hb18))
        have Kli18 := Lib.hid (Own.sl ho18)
        clear ho18 hb18
        go_wp2_with fail
        refine (same_any l l _ _ w18 Kli18.out Km18.out (by have := HL.out.1; omega)).mono ?_
        rintro e19 w19 ⟨rfl, m19, rfl⟩
        have Kl19 := Lib.hid (Sl.below (bdrawn w18 m19) Kl18.out)
        have Km19 := Lib.hid (Sl.below (bdrawn w18 m19) Km18.out)
        have Kd19 := Lib.hid (Sl.below (bdrawn w18 m19) Kd18.out)
        have Kdi19 := Lib.hid (Sl.below (bdrawn w18 m19) Kdi18.out)
        have Kdr19 := Lib.hid (Sl.below (bdrawn w18 m19) Kdr18.out)
        have Kna19 := Lib.hid (Sl.below (bdrawn w18 m19) Kna18.out)
        have Knr19 := Lib.hid (Sl.below (bdrawn w18 m19) Knr18.out)
        have Kp19 := Lib.hid (Sl.below (bdrawn w18 m19) Kp18.out)
        have Kpi19 := Lib.hid (Sl.below (bdrawn w18 m19) Kpi18.out)
        have Kpr19 := Lib.hid (Sl.below (bdrawn w18 m19) Kpr18.out)
        have Kli19 := Lib.hid (Sl.below (bdrawn w18 m19) Kli18.out)
        have HB19 := Lib.hid (bthen HB18.out ((bdrawn w18 m19)))
        rw [sameE_refl]
        go_wp2
        go_ret
        exact ⟨rfl, HB19.out⟩
end Go.Proofs.Ytfllhakmjookkaa
