/- Entries: the laws' walks, the second part. -/
import Derived.Test.YtfllhakmjookkaaEntryL
import Derived.Test.YtfllhakmjookkaaEntryQ
set_option linter.unusedVariables false
set_option linter.unusedSimpArgs false
namespace Go.Proofs.Ytfllhakmjookkaa
open Go Go.RowKit

set_option maxRecDepth 100000 in
set_option maxHeartbeats 1000000 in
theorem entryKeeps_walk (v : Value) (l : List Ent) (n : ByteArray) (hn : n.size ≤ maxLen) (o : ByteArray) (ho : o.size ≤ maxLen) (i : Int) (hi : (Lit.int .i64 i).wf = true) (w : World) (h : entK.Sl (Old w) w v l) :
    Calls Try.prog 10 #[v, .string n, .string o, .int .i64 i] w fun e w' => e = .returned (.bool true) ∧ Below w.heap.size w w' := by
  have H0 := Lib.hid h
  clear h
  have HN := Lib.hid hn
  clear hn ho
  cases hf : fineE l with
  | false =>
    go_enter Try.func10, Try.ntmps10
    go_wp2_with fail
    refine (fine_any l v w H0.out).mono ?_
    rintro e1 w1 ⟨rfl, hb1⟩
    have Kl1 := Lib.hid (Sl.below hb1 H0.out)
    have HB1 := Lib.hid (hb1)
    clear hb1
    rw [hf]
    go_wp2_with fail
    refine (shown_any w1).mono ?_
    rintro e2 w2 ⟨rfl, hb2⟩
    have Kl2 := Lib.hid (Sl.below hb2 Kl1.out)
    have HB2 := Lib.hid (bthen HB1.out (hb2))
    clear hb2
    go_wp2
    go_ret
    exact ⟨rfl, HB2.out⟩
  | true =>
    have HL := Lib.hid (fine_is hf)
    cases hg : (legalE n != 0) with
    | true =>
      go_enter Try.func10, Try.ntmps10
      go_wp2_with fail
      refine (fine_any l v w H0.out).mono ?_
      rintro e1 w1 ⟨rfl, hb1⟩
      have Kl1 := Lib.hid (Sl.below hb1 H0.out)
      have HB1 := Lib.hid (hb1)
      clear hb1
      rw [hf]
      go_wp2_with fail
      refine (legalr_any n HN.out w1).mono ?_
      rintro e2 w2 ⟨rfl, rfl⟩
      go_wp2_with fail
      refine (shown_any w1).mono ?_
      rintro e3 w3 ⟨rfl, hb3⟩
      have Kl3 := Lib.hid (Sl.below hb3 Kl1.out)
      have HB3 := Lib.hid (bthen HB1.out (hb3))
      clear hb3
      go_wp2
      go_ret
      exact ⟨rfl, HB3.out⟩
    | false =>
      have HS := Lib.hid (put_sorted HL.out.2.2 ⟨n, i⟩ hg)
      have HD := Lib.hid (drop_sorted HS.out n)
      have HF := Lib.hid (find_of_put HL.out.2.1 ⟨n, i⟩)
      have HFD := Lib.hid (find_of_drop (sorts_of HS.out) n)
      have HDD := Lib.hid (drop_of_put HL.out.2.1 ⟨n, i⟩)
      by_cases h1 : 100 < o.size
      · have t1 : decide ((100 : Int) < (o.size : Int)) = true := by simp; omega
        clear h1
        go_enter Try.func10, Try.ntmps10
        go_wp2_with fail
        refine (fine_any l v w H0.out).mono ?_
        rintro e1 w1 ⟨rfl, hb1⟩
        have Kl1 := Lib.hid (Sl.below hb1 H0.out)
        have HB1 := Lib.hid (hb1)
        clear hb1
        rw [hf]
        go_wp2_with fail
        refine (legalr_any n HN.out w1).mono ?_
        rintro e2 w2 ⟨rfl, rfl⟩
        go_wp2_with fail
        refine (shown_any w1).mono ?_
        rintro e3 w3 ⟨rfl, hb3⟩
        have Kl3 := Lib.hid (Sl.below hb3 Kl1.out)
        have HB3 := Lib.hid (bthen HB1.out (hb3))
        clear hb3
        go_wp2
        go_ret
        exact ⟨rfl, HB3.out⟩
      · have t1 : decide ((100 : Int) < (o.size : Int)) = false := by simp; omega
        clear h1
        cases hon : (o.toList == n.toList) with
        | true =>
          go_enter Try.func10, Try.ntmps10
          go_wp2_with fail
          refine (fine_any l v w H0.out).mono ?_
          rintro e1 w1 ⟨rfl, hb1⟩
          have Kl1 := Lib.hid (Sl.below hb1 H0.out)
          have HB1 := Lib.hid (hb1)
          clear hb1
          rw [hf]
          go_wp2_with fail
          refine (legalr_any n HN.out w1).mono ?_
          rintro e2 w2 ⟨rfl, rfl⟩
          go_wp2_with fail
          refine (shown_any w1).mono ?_
          rintro e3 w3 ⟨rfl, hb3⟩
          have Kl3 := Lib.hid (Sl.below hb3 Kl1.out)
          have HB3 := Lib.hid (bthen HB1.out (hb3))
          clear hb3
          go_wp2_with fail
          refine (put_any l _ ⟨n, i⟩ w3 HN.out Kl3.out (by have := HL.out.1; omega) HL.out.2.1).mono ?_
          rintro e4 w4 ⟨rp, rfl, ho4, hb4⟩
          have Kl4 := Lib.hid (Sl.below hb4 Kl3.out)
          have HB4 := Lib.hid (bthen HB3.out (hb4))
          have Kp4 := Lib.hid (Own.sl ho4)
          clear ho4 hb4
          go_wp2_with fail
          refine (find_any (putE l ⟨n, i⟩) _ n w4 Kp4.out (by have := HL.out.1; have := putE_len l ⟨n, i⟩; omega) (sorts_of HS.out)).mono ?_
          rintro e5 w5 ⟨rfl, hb5⟩
          have Kl5 := Lib.hid (Sl.below hb5 Kl4.out)
          have Kp5 := Lib.hid (Sl.below hb5 Kp4.out)
          have HB5 := Lib.hid (bthen HB4.out (hb5))
          clear hb5
          rw [HF.out]
          go_wp2_with fail
          refine (find_any l _ o w5 Kl5.out (by have := HL.out.1; omega) HL.out.2.1).mono ?_
          rintro e6 w6 ⟨rfl, hb6⟩
          have Kl6 := Lib.hid (Sl.below hb6 Kl5.out)
          have Kp6 := Lib.hid (Sl.below hb6 Kp5.out)
          have HB6 := Lib.hid (bthen HB5.out (hb6))
          clear hb6
          go_wp2_with fail
          refine (find_any (putE l ⟨n, i⟩) _ o w6 Kp6.out (by have := HL.out.1; have := putE_len l ⟨n, i⟩; omega) (sorts_of HS.out)).mono ?_
          rintro e7 w7 ⟨rfl, hb7⟩
          have Kl7 := Lib.hid (Sl.below hb7 Kl6.out)
          have Kp7 := Lib.hid (Sl.below hb7 Kp6.out)
          have HB7 := Lib.hid (bthen HB6.out (hb7))
          clear hb7
          go_wp2_with fail
          refine (drop_any (putE l ⟨n, i⟩) _ n w7 Kp7.out (by have := HL.out.1; have := putE_len l ⟨n, i⟩; omega) (sorts_of HS.out)).mono ?_
          rintro e8 w8 ⟨rd, rfl, ho8, hb8⟩
          have Kl8 := Lib.hid (Sl.below hb8 Kl7.out)
          have Kp8 := Lib.hid (Sl.below hb8 Kp7.out)
          have HB8 := Lib.hid (bthen HB7.out (hb8))
          have Kd8 := Lib.hid (Own.sl ho8)
          clear ho8 hb8
          go_wp2_with fail
          refine (find_any (dropE (putE l ⟨n, i⟩) n) _ n w8 Kd8.out (by have := HL.out.1; have := putE_len l ⟨n, i⟩; have := dropE_len (putE l ⟨n, i⟩) n; omega) (sorts_of HD.out)).mono ?_
          rintro e9 w9 ⟨rfl, hb9⟩
          have Kl9 := Lib.hid (Sl.below hb9 Kl8.out)
          have Kp9 := Lib.hid (Sl.below hb9 Kp8.out)
          have Kd9 := Lib.hid (Sl.below hb9 Kd8.out)
          have HB9 := Lib.hid (bthen HB8.out (hb9))
          clear hb9
          rw [HFD.out]
          go_wp2_with fail
          refine (sorted_any (putE l ⟨n, i⟩) _ w9 Kp9.out (by have := HL.out.1; have := putE_len l ⟨n, i⟩; omega)).mono ?_
          rintro e10 w10 ⟨rfl, hb10⟩
          have Kl10 := Lib.hid (Sl.below hb10 Kl9.out)
          have Kp10 := Lib.hid (Sl.below hb10 Kp9.out)
          have Kd10 := Lib.hid (Sl.below hb10 Kd9.out)
          have HB10 := Lib.hid (bthen HB9.out (hb10))
          clear hb10
          rw [HS.out]
          go_wp2_with fail
          refine (sorted_any (dropE (putE l ⟨n, i⟩) n) _ w10 Kd10.out (by have := HL.out.1; have := putE_len l ⟨n, i⟩; have := dropE_len (putE l ⟨n, i⟩) n; omega)).mono ?_
          rintro e11 w11 ⟨rfl, hb11⟩
          have Kl11 := Lib.hid (Sl.below hb11 Kl10.out)
          have Kp11 := Lib.hid (Sl.below hb11 Kp10.out)
          have Kd11 := Lib.hid (Sl.below hb11 Kd10.out)
          have HB11 := Lib.hid (bthen HB10.out (hb11))
          clear hb11
          rw [HD.out]
          go_wp2_with fail
          refine (its_any (dropE (putE l ⟨n, i⟩) n) _ w11 Kd11.out (by have := HL.out.1; have := putE_len l ⟨n, i⟩; have := dropE_len (putE l ⟨n, i⟩) n; omega)).mono ?_
          rintro e12 w12 ⟨rdi, rfl, ho12, hb12⟩
          have Kl12 := Lib.hid (Sl.below hb12 Kl11.out)
          have Kp12 := Lib.hid (Sl.below hb12 Kp11.out)
          have Kd12 := Lib.hid (Sl.below hb12 Kd11.out)
          have HB12 := Lib.hid (bthen HB11.out (hb12))
          have Kdi12 := Lib.hid (Own.sl ho12)
          clear ho12 hb12
          go_wp2_with fail
          refine (drop_any l _ n w12 Kl12.out (by have := HL.out.1; omega) HL.out.2.1).mono ?_
          rintro e13 w13 ⟨re, rfl, ho13, hb13⟩
          have Kl13 := Lib.hid (Sl.below hb13 Kl12.out)
          have Kp13 := Lib.hid (Sl.below hb13 Kp12.out)
          have Kd13 := Lib.hid (Sl.below hb13 Kd12.out)
          have Kdi13 := Lib.hid (Sl.below hb13 Kdi12.out)
          have HB13 := Lib.hid (bthen HB12.out (hb13))
          have Ke13 := Lib.hid (Own.sl ho13)
          clear ho13 hb13
          go_wp2_with fail
          refine (its_any (dropE l n) _ w13 Ke13.out (by have := HL.out.1; have := dropE_len l n; omega)).mono ?_
          rintro e14 w14 ⟨rei, rfl, ho14, hb14⟩
          have Kl14 := Lib.hid (Sl.below hb14 Kl13.out)
          have Kp14 := Lib.hid (Sl.below hb14 Kp13.out)
          have Kd14 := Lib.hid (Sl.below hb14 Kd13.out)
          have Kdi14 := Lib.hid (Sl.below hb14 Kdi13.out)
          have Ke14 := Lib.hid (Sl.below hb14 Ke13.out)
          have HB14 := Lib.hid (bthen HB13.out (hb14))
          have Kei14 := Lib.hid (Own.sl ho14)
          clear ho14 hb14
          go_wp2_with fail
          refine (same_any (dropE (putE l ⟨n, i⟩) n) (dropE l n) _ _ w14 Kdi14.out Kei14.out (by have := HL.out.1; have := putE_len l ⟨n, i⟩; have := dropE_len (putE l ⟨n, i⟩) n; omega)).mono ?_
          rintro e15 w15 ⟨rfl, m15, rfl⟩
          have Kl15 := Lib.hid (Sl.below (bdrawn w14 m15) Kl14.out)
          have Kp15 := Lib.hid (Sl.below (bdrawn w14 m15) Kp14.out)
          have Kd15 := Lib.hid (Sl.below (bdrawn w14 m15) Kd14.out)
          have Kdi15 := Lib.hid (Sl.below (bdrawn w14 m15) Kdi14.out)
          have Ke15 := Lib.hid (Sl.below (bdrawn w14 m15) Ke14.out)
          have Kei15 := Lib.hid (Sl.below (bdrawn w14 m15) Kei14.out)
          have HB15 := Lib.hid (bthen HB14.out ((bdrawn w14 m15)))
          rw [HDD.out, sameE_refl]
          go_wp2
          go_ret
          exact ⟨rfl, HB15.out⟩
        | false =>
          have HO := Lib.hid (find_of_put_other HL.out.2.1 ⟨n, i⟩ o hon)
          go_enter Try.func10, Try.ntmps10
          go_wp2_with fail
          refine (fine_any l v w H0.out).mono ?_
          rintro e1 w1 ⟨rfl, hb1⟩
          have Kl1 := Lib.hid (Sl.below hb1 H0.out)
          have HB1 := Lib.hid (hb1)
          clear hb1
          rw [hf]
          go_wp2_with fail
          refine (legalr_any n HN.out w1).mono ?_
          rintro e2 w2 ⟨rfl, rfl⟩
          go_wp2_with fail
          refine (shown_any w1).mono ?_
          rintro e3 w3 ⟨rfl, hb3⟩
          have Kl3 := Lib.hid (Sl.below hb3 Kl1.out)
          have HB3 := Lib.hid (bthen HB1.out (hb3))
          clear hb3
          go_wp2_with fail
          refine (put_any l _ ⟨n, i⟩ w3 HN.out Kl3.out (by have := HL.out.1; omega) HL.out.2.1).mono ?_
          rintro e4 w4 ⟨rp, rfl, ho4, hb4⟩
          have Kl4 := Lib.hid (Sl.below hb4 Kl3.out)
          have HB4 := Lib.hid (bthen HB3.out (hb4))
          have Kp4 := Lib.hid (Own.sl ho4)
          clear ho4 hb4
          go_wp2_with fail
          refine (find_any (putE l ⟨n, i⟩) _ n w4 Kp4.out (by have := HL.out.1; have := putE_len l ⟨n, i⟩; omega) (sorts_of HS.out)).mono ?_
          rintro e5 w5 ⟨rfl, hb5⟩
          have Kl5 := Lib.hid (Sl.below hb5 Kl4.out)
          have Kp5 := Lib.hid (Sl.below hb5 Kp4.out)
          have HB5 := Lib.hid (bthen HB4.out (hb5))
          clear hb5
          rw [HF.out]
          go_wp2_with fail
          refine (find_any l _ o w5 Kl5.out (by have := HL.out.1; omega) HL.out.2.1).mono ?_
          rintro e6 w6 ⟨rfl, hb6⟩
          have Kl6 := Lib.hid (Sl.below hb6 Kl5.out)
          have Kp6 := Lib.hid (Sl.below hb6 Kp5.out)
          have HB6 := Lib.hid (bthen HB5.out (hb6))
          clear hb6
          go_wp2_with fail
          refine (find_any (putE l ⟨n, i⟩) _ o w6 Kp6.out (by have := HL.out.1; have := putE_len l ⟨n, i⟩; omega) (sorts_of HS.out)).mono ?_
          rintro e7 w7 ⟨rfl, hb7⟩
          have Kl7 := Lib.hid (Sl.below hb7 Kl6.out)
          have Kp7 := Lib.hid (Sl.below hb7 Kp6.out)
          have HB7 := Lib.hid (bthen HB6.out (hb7))
          clear hb7
          rw [HO.out]
          go_wp2_with fail
          refine (drop_any (putE l ⟨n, i⟩) _ n w7 Kp7.out (by have := HL.out.1; have := putE_len l ⟨n, i⟩; omega) (sorts_of HS.out)).mono ?_
          rintro e8 w8 ⟨rd, rfl, ho8, hb8⟩
          have Kl8 := Lib.hid (Sl.below hb8 Kl7.out)
          have Kp8 := Lib.hid (Sl.below hb8 Kp7.out)
          have HB8 := Lib.hid (bthen HB7.out (hb8))
          have Kd8 := Lib.hid (Own.sl ho8)
          clear ho8 hb8
          go_wp2_with fail
          refine (find_any (dropE (putE l ⟨n, i⟩) n) _ n w8 Kd8.out (by have := HL.out.1; have := putE_len l ⟨n, i⟩; have := dropE_len (putE l ⟨n, i⟩) n; omega) (sorts_of HD.out)).mono ?_
          rintro e9 w9 ⟨rfl, hb9⟩
          have Kl9 := Lib.hid (Sl.below hb9 Kl8.out)
          have Kp9 := Lib.hid (Sl.below hb9 Kp8.out)
          have Kd9 := Lib.hid (Sl.below hb9 Kd8.out)
          have HB9 := Lib.hid (bthen HB8.out (hb9))
          clear hb9
          rw [HFD.out]
          go_wp2_with fail
          refine (sorted_any (putE l ⟨n, i⟩) _ w9 Kp9.out (by have := HL.out.1; have := putE_len l ⟨n, i⟩; omega)).mono ?_
          rintro e10 w10 ⟨rfl, hb10⟩
          have Kl10 := Lib.hid (Sl.below hb10 Kl9.out)
          have Kp10 := Lib.hid (Sl.below hb10 Kp9.out)
          have Kd10 := Lib.hid (Sl.below hb10 Kd9.out)
          have HB10 := Lib.hid (bthen HB9.out (hb10))
          clear hb10
          rw [HS.out]
          go_wp2_with fail
          refine (sorted_any (dropE (putE l ⟨n, i⟩) n) _ w10 Kd10.out (by have := HL.out.1; have := putE_len l ⟨n, i⟩; have := dropE_len (putE l ⟨n, i⟩) n; omega)).mono ?_
          rintro e11 w11 ⟨rfl, hb11⟩
          have Kl11 := Lib.hid (Sl.below hb11 Kl10.out)
          have Kp11 := Lib.hid (Sl.below hb11 Kp10.out)
          have Kd11 := Lib.hid (Sl.below hb11 Kd10.out)
          have HB11 := Lib.hid (bthen HB10.out (hb11))
          clear hb11
          rw [HD.out]
          go_wp2_with fail
          refine (its_any (dropE (putE l ⟨n, i⟩) n) _ w11 Kd11.out (by have := HL.out.1; have := putE_len l ⟨n, i⟩; have := dropE_len (putE l ⟨n, i⟩) n; omega)).mono ?_
          rintro e12 w12 ⟨rdi, rfl, ho12, hb12⟩
          have Kl12 := Lib.hid (Sl.below hb12 Kl11.out)
          have Kp12 := Lib.hid (Sl.below hb12 Kp11.out)
          have Kd12 := Lib.hid (Sl.below hb12 Kd11.out)
          have HB12 := Lib.hid (bthen HB11.out (hb12))
          have Kdi12 := Lib.hid (Own.sl ho12)
          clear ho12 hb12
          go_wp2_with fail
          refine (drop_any l _ n w12 Kl12.out (by have := HL.out.1; omega) HL.out.2.1).mono ?_
          rintro e13 w13 ⟨re, rfl, ho13, hb13⟩
          have Kl13 := Lib.hid (Sl.below hb13 Kl12.out)
          have Kp13 := Lib.hid (Sl.below hb13 Kp12.out)
          have Kd13 := Lib.hid (Sl.below hb13 Kd12.out)
          have Kdi13 := Lib.hid (Sl.below hb13 Kdi12.out)
          have HB13 := Lib.hid (bthen HB12.out (hb13))
          have Ke13 := Lib.hid (Own.sl ho13)
          clear ho13 hb13
          go_wp2_with fail
          refine (its_any (dropE l n) _ w13 Ke13.out (by have := HL.out.1; have := dropE_len l n; omega)).mono ?_
          rintro e14 w14 ⟨rei, rfl, ho14, hb14⟩
          have Kl14 := Lib.hid (Sl.below hb14 Kl13.out)
          have Kp14 := Lib.hid (Sl.below hb14 Kp13.out)
          have Kd14 := Lib.hid (Sl.below hb14 Kd13.out)
          have Kdi14 := Lib.hid (Sl.below hb14 Kdi13.out)
          have Ke14 := Lib.hid (Sl.below hb14 Ke13.out)
          have HB14 := Lib.hid (bthen HB13.out (hb14))
          have Kei14 := Lib.hid (Own.sl ho14)
          clear ho14 hb14
          go_wp2_with fail
          refine (same_any (dropE (putE l ⟨n, i⟩) n) (dropE l n) _ _ w14 Kdi14.out Kei14.out (by have := HL.out.1; have := putE_len l ⟨n, i⟩; have := dropE_len (putE l ⟨n, i⟩) n; omega)).mono ?_
          rintro e15 w15 ⟨rfl, m15, rfl⟩
          have Kl15 := Lib.hid (Sl.below (bdrawn w14 m15) Kl14.out)
          have Kp15 := Lib.hid (Sl.below (bdrawn w14 m15) Kp14.out)
          have Kd15 := Lib.hid (Sl.below (bdrawn w14 m15) Kd14.out)
          have Kdi15 := Lib.hid (Sl.below (bdrawn w14 m15) Kdi14.out)
          have Ke15 := Lib.hid (Sl.below (bdrawn w14 m15) Ke14.out)
          have Kei15 := Lib.hid (Sl.below (bdrawn w14 m15) Kei14.out)
          have HB15 := Lib.hid (bthen HB14.out ((bdrawn w14 m15)))
          rw [HDD.out, sameE_refl]
          go_wp2
          go_ret
          exact ⟨rfl, HB15.out⟩

set_option maxRecDepth 100000 in
set_option maxHeartbeats 1000000 in
theorem entryCounts_walk (v : Value) (l : List Ent) (n : ByteArray) (hn : n.size ≤ maxLen) (w : World) (h : entK.Sl (Old w) w v l) :
    Calls Try.prog 12 #[v, .string n] w fun e w' => e = .returned (.bool true) ∧ Below w.heap.size w w' := by
  have H0 := Lib.hid h
  clear h
  have HN := Lib.hid hn
  clear hn
  cases hf : fineE l with
  | false =>
    go_enter Try.func12, Try.ntmps12
    go_wp2_with fail
    refine (fine_any l v w H0.out).mono ?_
    rintro e1 w1 ⟨rfl, hb1⟩
    have Kl1 := Lib.hid (Sl.below hb1 H0.out)
    have HB1 := Lib.hid (hb1)
    clear hb1
    rw [hf]
    go_wp2_with fail
    refine (shown_any w1).mono ?_
    rintro e2 w2 ⟨rfl, hb2⟩
    have Kl2 := Lib.hid (Sl.below hb2 Kl1.out)
    have HB2 := Lib.hid (bthen HB1.out (hb2))
    clear hb2
    go_wp2
    go_ret
    exact ⟨rfl, HB2.out⟩
  | true =>
    have HL := Lib.hid (fine_is hf)
    cases hg : (legalE n != 0) with
    | true =>
      go_enter Try.func12, Try.ntmps12
      go_wp2_with fail
      refine (fine_any l v w H0.out).mono ?_
      rintro e1 w1 ⟨rfl, hb1⟩
      have Kl1 := Lib.hid (Sl.below hb1 H0.out)
      have HB1 := Lib.hid (hb1)
      clear hb1
      rw [hf]
      go_wp2_with fail
      refine (legalr_any n HN.out w1).mono ?_
      rintro e2 w2 ⟨rfl, rfl⟩
      go_wp2_with fail
      refine (shown_any w1).mono ?_
      rintro e3 w3 ⟨rfl, hb3⟩
      have Kl3 := Lib.hid (Sl.below hb3 Kl1.out)
      have HB3 := Lib.hid (bthen HB1.out (hb3))
      clear hb3
      go_wp2
      go_ret
      exact ⟨rfl, HB3.out⟩
    | false =>
      obtain ⟨a, cap, hv, hcap⟩ := Sl.val H0.out
      subst hv
      have hpl := put_len HL.out.2.1 ⟨n, 0⟩
      have hdl := drop_len HL.out.2.1 n
      have hnl : (l.map Ent.name).length = l.length := by simp
      have hpos : (findE l n).2 = true → 0 < l.length := by
        intro h
        cases l with
        | nil => simp [findE] at h
        | cons x l => simp
      generalize hF : findE l n = F at hpl hdl hpos
      obtain ⟨fi, fb⟩ := F
      have hk100 : l.length ≤ 100 := HL.out.1
      have HF := Lib.hid hF
      have HNL := Lib.hid hnl
      clear hF hnl
      cases fb with
      | false =>
        have HPL := Lib.hid hpl
        have HDL := Lib.hid hdl
        clear hpl hdl hpos
        have hw : IntKind.i64.wrap ((l.length : Int) + 1) = (l.length : Int) + 1 := by rw [IntKind.wrap_i64]; omega
        go_enter Try.func12, Try.ntmps12
        go_wp2_with fail
        refine (fine_any l _ w H0.out).mono ?_
        rintro e1 w1 ⟨rfl, hb1⟩
        have Kl1 := Lib.hid (Sl.below hb1 H0.out)
        have HB1 := Lib.hid (hb1)
        clear hb1
        rw [hf]
        go_wp2_with fail
        refine (legalr_any n HN.out w1).mono ?_
        rintro e2 w2 ⟨rfl, rfl⟩
        go_wp2_with fail
        refine (shown_any w1).mono ?_
        rintro e3 w3 ⟨rfl, hb3⟩
        have Kl3 := Lib.hid (Sl.below hb3 Kl1.out)
        have HB3 := Lib.hid (bthen HB1.out (hb3))
        clear hb3
        go_wp2_with fail
        refine (its_any l _ w3 Kl3.out (by have := HL.out.1; omega)).mono ?_
        rintro e4 w4 ⟨rm, rfl, ho4, hb4⟩
        have Kl4 := Lib.hid (Sl.below hb4 Kl3.out)
        have HB4 := Lib.hid (bthen HB3.out (hb4))
        have Km4 := Lib.hid (Own.sl ho4)
        clear ho4 hb4
        go_wp2_with fail
        refine (findr_any l _ n w4 Km4.out (by have := HL.out.1; omega)).mono ?_
        rintro e5 w5 ⟨rfl, rfl⟩
        rw [HF.out]
        go_wp2_with fail
        refine (put_any l _ ⟨n, 0⟩ w4 HN.out Kl4.out (by have := HL.out.1; omega) HL.out.2.1).mono ?_
        rintro e6 w6 ⟨rp, rfl, ho6, hb6⟩
        have Kl6 := Lib.hid (Sl.below hb6 Kl4.out)
        have Km6 := Lib.hid (Sl.below hb6 Km4.out)
        have HB6 := Lib.hid (bthen HB4.out (hb6))
        have Kp6 := Lib.hid (Own.sl ho6)
        obtain ⟨ap, capp, hvp, hcapp⟩ := Sl.val (Own.sl ho6)
        rw [HPL.out] at hvp
        subst hvp
        clear ho6 hb6
        go_wp2_with fail
        refine (drop_any l _ n w6 Kl6.out (by have := HL.out.1; omega) HL.out.2.1).mono ?_
        rintro e7 w7 ⟨rd, rfl, ho7, hb7⟩
        have Kl7 := Lib.hid (Sl.below hb7 Kl6.out)
        have Km7 := Lib.hid (Sl.below hb7 Km6.out)
        have Kp7 := Lib.hid (Sl.below hb7 Kp6.out)
        have HB7 := Lib.hid (bthen HB6.out (hb7))
        have Kd7 := Lib.hid (Own.sl ho7)
        obtain ⟨ad, capd, hvd, hcapd⟩ := Sl.val (Own.sl ho7)
        rw [HDL.out] at hvd
        subst hvd
        clear ho7 hb7
        go_wp2_with fail
        refine (names_any l _ w7 Kl7.out (by have := HL.out.1; omega)).mono ?_
        rintro e8 w8 ⟨rna, rfl, ho8, hb8⟩
        have Kl8 := Lib.hid (Sl.below hb8 Kl7.out)
        have Km8 := Lib.hid (Sl.below hb8 Km7.out)
        have Kp8 := Lib.hid (Sl.below hb8 Kp7.out)
        have Kd8 := Lib.hid (Sl.below hb8 Kd7.out)
        have HB8 := Lib.hid (bthen HB7.out (hb8))
        have Kna8 := Lib.hid (Own.sl ho8)
        obtain ⟨ana, capna, hvna, hcapna⟩ := Sl.val (Own.sl ho8)
        rw [HNL.out] at hvna
        subst hvna
        clear ho8 hb8
        go_wp2
        go_ret
        exact ⟨rfl, HB8.out⟩
      | true =>
        have hk0 : 0 < l.length := hpos rfl
        have HPL := Lib.hid (show (putE l ⟨n, 0⟩).length = l.length by rw [hpl]; simp; omega)
        have HDL := Lib.hid hdl
        clear hpl hdl hpos
        have hw : IntKind.i64.wrap ((l.length : Int) - 1) = (l.length : Int) - 1 := by rw [IntKind.wrap_i64]; omega
        have hw2 : IntKind.i64.wrap ((l.length : Int)) = (l.length : Int) := by rw [IntKind.wrap_i64]; omega
        go_enter Try.func12, Try.ntmps12
        go_wp2_with fail
        refine (fine_any l _ w H0.out).mono ?_
        rintro e1 w1 ⟨rfl, hb1⟩
        have Kl1 := Lib.hid (Sl.below hb1 H0.out)
        have HB1 := Lib.hid (hb1)
        clear hb1
        rw [hf]
        go_wp2_with fail
        refine (legalr_any n HN.out w1).mono ?_
        rintro e2 w2 ⟨rfl, rfl⟩
        go_wp2_with fail
        refine (shown_any w1).mono ?_
        rintro e3 w3 ⟨rfl, hb3⟩
        have Kl3 := Lib.hid (Sl.below hb3 Kl1.out)
        have HB3 := Lib.hid (bthen HB1.out (hb3))
        clear hb3
        go_wp2_with fail
        refine (its_any l _ w3 Kl3.out (by have := HL.out.1; omega)).mono ?_
        rintro e4 w4 ⟨rm, rfl, ho4, hb4⟩
        have Kl4 := Lib.hid (Sl.below hb4 Kl3.out)
        have HB4 := Lib.hid (bthen HB3.out (hb4))
        have Km4 := Lib.hid (Own.sl ho4)
        clear ho4 hb4
        go_wp2_with fail
        refine (findr_any l _ n w4 Km4.out (by have := HL.out.1; omega)).mono ?_
        rintro e5 w5 ⟨rfl, rfl⟩
        rw [HF.out]
        go_wp2_with fail
        refine (put_any l _ ⟨n, 0⟩ w4 HN.out Kl4.out (by have := HL.out.1; omega) HL.out.2.1).mono ?_
        rintro e6 w6 ⟨rp, rfl, ho6, hb6⟩
        have Kl6 := Lib.hid (Sl.below hb6 Kl4.out)
        have Km6 := Lib.hid (Sl.below hb6 Km4.out)
        have HB6 := Lib.hid (bthen HB4.out (hb6))
        have Kp6 := Lib.hid (Own.sl ho6)
        obtain ⟨ap, capp, hvp, hcapp⟩ := Sl.val (Own.sl ho6)
        rw [HPL.out] at hvp
        subst hvp
        clear ho6 hb6
        go_wp2_with fail
        refine (drop_any l _ n w6 Kl6.out (by have := HL.out.1; omega) HL.out.2.1).mono ?_
        rintro e7 w7 ⟨rd, rfl, ho7, hb7⟩
        have Kl7 := Lib.hid (Sl.below hb7 Kl6.out)
        have Km7 := Lib.hid (Sl.below hb7 Km6.out)
        have Kp7 := Lib.hid (Sl.below hb7 Kp6.out)
        have HB7 := Lib.hid (bthen HB6.out (hb7))
        have Kd7 := Lib.hid (Own.sl ho7)
        obtain ⟨ad, capd, hvd, hcapd⟩ := Sl.val (Own.sl ho7)
        rw [HDL.out] at hvd
        subst hvd
        clear ho7 hb7
        go_wp2_with fail
        refine (names_any l _ w7 Kl7.out (by have := HL.out.1; omega)).mono ?_
        rintro e8 w8 ⟨rna, rfl, ho8, hb8⟩
        have Kl8 := Lib.hid (Sl.below hb8 Kl7.out)
        have Km8 := Lib.hid (Sl.below hb8 Km7.out)
        have Kp8 := Lib.hid (Sl.below hb8 Kp7.out)
        have Kd8 := Lib.hid (Sl.below hb8 Kd7.out)
        have HB8 := Lib.hid (bthen HB7.out (hb8))
        have Kna8 := Lib.hid (Own.sl ho8)
        obtain ⟨ana, capna, hvna, hcapna⟩ := Sl.val (Own.sl ho8)
        rw [HNL.out] at hvna
        subst hvna
        clear ho8 hb8
        go_wp2
        go_ret
        exact ⟨rfl, HB8.out⟩
end Go.Proofs.Ytfllhakmjookkaa
