/- Entries: the laws' walks. -/
import Derived.Test.YtfllhakmjookkaaEntryK
set_option linter.unusedVariables false
set_option linter.unusedSimpArgs false
namespace Go.Proofs.Ytfllhakmjookkaa
open Go Go.RowKit

set_option maxRecDepth 100000 in
set_option maxHeartbeats 1000000 in
theorem entryLegal_walk (n : ByteArray) (hn : n.size ≤ maxLen) (v : Value) (l : List Ent) (w : World) (h : entK.Sl (Old w) w v l) :
    Calls Try.prog 8 #[.string n, v] w fun e w' => e = .returned (.bool true) ∧ Below w.heap.size w w' := by
  have H0 := Lib.hid h
  obtain ⟨a, cap, hv, hcap⟩ := Sl.val h
  subst hv
  clear h
  obtain ⟨k, hk⟩ : ∃ k, l.length = k := ⟨_, rfl⟩
  rw [hk] at hcap ⊢
  have HK := Lib.hid hk
  clear hk
  by_cases h1 : 100 < n.size
  · have t1 : decide ((100 : Int) < (n.size : Int)) = true := by simp; omega
    clear h1 hn
    go_enter Try.func8, Try.ntmps8
    go_wp2_with fail
    refine (shown_any _).mono ?_
    rintro e1 w1 ⟨rfl, hb1⟩
    have HB1 := Lib.hid (hb1)
    clear hb1
    go_wp2
    go_ret
    exact ⟨rfl, HB1.out⟩

  · have t1 : decide ((100 : Int) < (n.size : Int)) = false := by simp; omega
    by_cases h2 : 100 < k
    · have t2 : decide ((100 : Int) < (k : Int)) = true := by simp; omega
      clear h1 h2 hn
      go_enter Try.func8, Try.ntmps8
      go_wp2_with fail
      refine (shown_any _).mono ?_
      rintro e1 w1 ⟨rfl, hb1⟩
      have HB1 := Lib.hid (hb1)
      clear hb1
      go_wp2
      go_ret
      exact ⟨rfl, HB1.out⟩

    · have t2 : decide ((100 : Int) < (k : Int)) = false := by simp; omega
      have HN := Lib.hid (And.intro hn (show l.length ≤ 1000 by rw [HK.out]; omega))
      clear h1 h2 hn
      generalize hR : legalE n = R
      have HE := Lib.hid hR
      generalize hS : sortedE l = S
      have HS := Lib.hid hS
      clear hR hS
      go_enter Try.func8, Try.ntmps8
      go_wp2_with fail
      refine (shown_any _).mono ?_
      rintro e1 w1 ⟨rfl, hb1⟩
      have HB1 := Lib.hid (hb1)
      clear hb1
      have H1 := Lib.hid (Sl.below HB1.out H0.out)
      rw [HK.out] at H1
      go_wp2_with fail
      refine (legal_any n HN.out.1 w1).mono ?_
      rintro e2 w2 ⟨rfl, hb2⟩
      have HB2 := Lib.hid (bthen HB1.out hb2)
      have H2 := Lib.hid (Sl.below hb2 H1.out)
      clear hb2
      go_wp2_with fail
      refine (legalr_any n HN.out.1 w2).mono ?_
      rintro e3 w3 ⟨rfl, rfl⟩
      go_wp2_with fail
      refine (sorted_any l _ w2 H2.out HN.out.2).mono ?_
      rintro e4 w4 ⟨rfl, hb4⟩
      have HB4 := Lib.hid (bthen HB2.out hb4)
      have H4 := Lib.hid (Sl.below hb4 H2.out)
      clear hb4
      go_wp2_with fail
      refine (its_any l _ w4 H4.out HN.out.2).mono ?_
      rintro e5 w5 ⟨r, rfl, ho5, hb5⟩
      have HB5 := Lib.hid (bthen HB4.out hb5)
      have HO := Lib.hid (Own.sl ho5)
      clear ho5
      clear hb5
      go_wp2_with fail
      refine (sortedr_any l r w5 HO.out HN.out.2).mono ?_
      rintro e6 w6 ⟨rfl, m, rfl⟩
      go_wp2
      go_ret
      exact ⟨rfl, bthen HB5.out (bdrawn _ _)⟩

end Go.Proofs.Ytfllhakmjookkaa
