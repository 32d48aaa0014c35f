/- Entries: entry.spliced, entry.place, Find, Put, Drop. -/
import Derived.Test.YtfllhakmjookkaaEntryI
import Derived.Test.YtfllhakmjookkaaEntryP
set_option linter.unusedVariables false
set_option linter.unusedSimpArgs false
namespace Go.Proofs.Ytfllhakmjookkaa
open Go Go.RowKit

/-- A splice of a list that the call owns, with what the call has done ahead of it. -/
theorem made_put {w w1 w2 : World} {r : Value} {l res : List Ent} {e : Ending} (ho : entK.Own 72 w.heap.size w1 r l) (hb : Below w.heap.size w w1) (hp : Put1 w1 w.heap.size r res e w2) : Made entK 72 w res e w2 := by
  obtain ⟨u, he, h1, h2⟩ := hp
  exact ⟨u, he, h1, hb.grown h2 hb.size (fun k hk => (Own.row ho k hk).1)⟩
theorem made_same {w w1 : World} {r : Value} {l : List Ent} (ho : entK.Own 72 w.heap.size w1 r l) (hb : Below w.heap.size w w1) : Made entK 72 w l (.returned r) w1 := ⟨r, rfl, ho, hb⟩
set_option maxRecDepth 100000 in
set_option maxHeartbeats 1000000 in
theorem spliced_ins (v : Value) (l : List Ent) (k : Nat) (w : World) (y : Ent) (vb : Nat) (hbox : Row w vb 72 [Value.string y.name, Value.int .i64 y.ino]) (hyn : y.name.size ≤ maxLen) (h : entK.Sl (Old w) w v l) (hl : l.length ≤ 2000) (hk : k ≤ l.length) :
    Calls Try.prog 70 #[v, .int .i64 (k : Int), .int .i64 (k : Int), .slice (some ⟨vb, 0, none⟩) 1 1] w (Made entK 72 w (l.take k ++ y :: l.drop k)) := by
  have H := Lib.hid (cloneE_any l v w h hl)
  have HB := Lib.hid hbox
  have HK := Lib.hid (And.intro hl hk)
  clear h hk hl hbox
  go_enter Try.func70, Try.ntmps70
  go_wp2_with fail
  refine H.out.mono ?_
  rintro e1 w1 ⟨r, rfl, ho, hb⟩
  have HO := Lib.hid ho
  have HW := Lib.hid hb
  clear ho hb
  go_wp2_with fail
  refine (replace_ins r l y k w1 w.heap.size HO.out vb (HB.out.below HW.out) HB.out.lt hyn HW.out.size HK.out.1 HK.out.2).mono ?_
  intro e2 w2 hp
  obtain ⟨u, rfl, ho2, hb2⟩ := made_put HO.out HW.out hp
  have HO2 := Lib.hid ho2
  have HB2 := Lib.hid hb2
  clear ho2 hb2 hp
  go_wp2
  go_ret
  exact ⟨_, rfl, HO2.out, HB2.out⟩
set_option maxRecDepth 100000 in
set_option maxHeartbeats 1000000 in
theorem spliced_none (v : Value) (l : List Ent) (k : Nat) (w : World) (h : entK.Sl (Old w) w v l) (hl : l.length ≤ 2000) (hk : k ≤ l.length) :
    Calls Try.prog 70 #[v, .int .i64 (k : Int), .int .i64 (k : Int), .slice none 0 0] w (Made entK 72 w (l)) := by
  have H := Lib.hid (cloneE_any l v w h hl)
  have HK := Lib.hid (And.intro hl hk)
  clear h hk hl
  go_enter Try.func70, Try.ntmps70
  go_wp2_with fail
  refine H.out.mono ?_
  rintro e1 w1 ⟨r, rfl, ho, hb⟩
  have HO := Lib.hid ho
  have HW := Lib.hid hb
  clear ho hb
  go_wp2_with fail
  refine (replace_none r l k w1 w.heap.size HO.out HK.out.1 HK.out.2).mono ?_
  intro e2 w2 hp
  obtain ⟨rfl, rfl⟩ := hp
  go_wp2
  go_ret
  exact made_same HO.out HW.out
theorem replace_put1 (v : Value) (l : List Ent) (y : Ent) (k : Nat) (w : World) (base : Nat) (h : entK.Own 72 base w v l) (vb : Nat) (hbox : Row w vb 72 [Value.string y.name, Value.int .i64 y.ino]) (hvb : vb < base)
    (hyn : y.name.size ≤ maxLen) (hbase : base ≤ w.heap.size) (hl : l.length ≤ 2000) (hk : k < l.length) :
    Calls Try.prog 79 #[v, .int .i64 (k : Int), .int .i64 ((k + 1 : Nat) : Int), .slice (some ⟨vb, 0, none⟩) 1 1] w (Put1 w base v (l.take k ++ y :: l.drop (k + 1))) := by
  rcases Nat.lt_or_ge (k + 1) l.length with hlt | hge
  · exact replace_put v l y k w base h vb hbox hvb hyn hbase hl hlt
  · exact replace_last v l y k w base h vb hbox hvb hyn hbase hl (by omega)
theorem replace_drop1 (v : Value) (l : List Ent) (k : Nat) (w : World) (base : Nat) (h : entK.Own 72 base w v l) (hbase : base ≤ w.heap.size) (hl : l.length ≤ 2000) (hk : k < l.length) :
    Calls Try.prog 79 #[v, .int .i64 (k : Int), .int .i64 ((k + 1 : Nat) : Int), .slice none 0 0] w (Put1 w base v (l.take k ++ l.drop (k + 1))) := by
  rcases Nat.lt_or_ge (k + 1) l.length with hlt | hge
  · exact replace_drop v l k w base h hbase hl hlt
  · exact replace_droplast v l k w base h hbase hl (by omega)
set_option maxRecDepth 100000 in
set_option maxHeartbeats 1000000 in
theorem spliced_put (v : Value) (l : List Ent) (k : Nat) (w : World) (y : Ent) (vb : Nat) (hbox : Row w vb 72 [Value.string y.name, Value.int .i64 y.ino]) (hyn : y.name.size ≤ maxLen) (h : entK.Sl (Old w) w v l) (hl : l.length ≤ 2000) (hk : k < l.length) :
    Calls Try.prog 70 #[v, .int .i64 (k : Int), .int .i64 ((k + 1 : Nat) : Int), .slice (some ⟨vb, 0, none⟩) 1 1] w (Made entK 72 w (l.take k ++ y :: l.drop (k + 1))) := by
  have H := Lib.hid (cloneE_any l v w h hl)
  have HB := Lib.hid hbox
  have HK := Lib.hid (And.intro hl hk)
  clear h hk hl hbox
  go_enter Try.func70, Try.ntmps70
  go_wp2_with fail
  refine H.out.mono ?_
  rintro e1 w1 ⟨r, rfl, ho, hb⟩
  have HO := Lib.hid ho
  have HW := Lib.hid hb
  clear ho hb
  go_wp2_with fail
  refine (replace_put1 r l y k w1 w.heap.size HO.out vb (HB.out.below HW.out) HB.out.lt hyn HW.out.size HK.out.1 HK.out.2).mono ?_
  intro e2 w2 hp
  obtain ⟨u, rfl, ho2, hb2⟩ := made_put HO.out HW.out hp
  have HO2 := Lib.hid ho2
  have HB2 := Lib.hid hb2
  clear ho2 hb2 hp
  go_wp2
  go_ret
  exact ⟨_, rfl, HO2.out, HB2.out⟩
set_option maxRecDepth 100000 in
set_option maxHeartbeats 1000000 in
theorem spliced_drop (v : Value) (l : List Ent) (k : Nat) (w : World) (h : entK.Sl (Old w) w v l) (hl : l.length ≤ 2000) (hk : k < l.length) :
    Calls Try.prog 70 #[v, .int .i64 (k : Int), .int .i64 ((k + 1 : Nat) : Int), .slice none 0 0] w (Made entK 72 w (l.take k ++ l.drop (k + 1))) := by
  have H := Lib.hid (cloneE_any l v w h hl)
  have HK := Lib.hid (And.intro hl hk)
  clear h hk hl
  go_enter Try.func70, Try.ntmps70
  go_wp2_with fail
  refine H.out.mono ?_
  rintro e1 w1 ⟨r, rfl, ho, hb⟩
  have HO := Lib.hid ho
  have HW := Lib.hid hb
  clear ho hb
  go_wp2_with fail
  refine (replace_drop1 r l k w1 w.heap.size HO.out HW.out.size HK.out.1 HK.out.2).mono ?_
  intro e2 w2 hp
  obtain ⟨u, rfl, ho2, hb2⟩ := made_put HO.out HW.out hp
  have HO2 := Lib.hid ho2
  have HB2 := Lib.hid hb2
  clear ho2 hb2 hp
  go_wp2
  go_ret
  exact ⟨_, rfl, HO2.out, HB2.out⟩
theorem place_any (l : List Ent) (v : Value) (n : ByteArray) (w : World) (h : entK.Sl (Old w) w v l) (hl : l.length ≤ 1000) (hs : Sorts l) :
    Calls Try.prog 69 #[v, .string n] w (Placed l n w) := by
  have H := Lib.hid (bsearch_any l v n w h hl (sorts_parts hs n))
  clear h hl hs
  go_enter Try.func69, Try.ntmps69
  go_wp2_with fail
  refine H.out.mono ?_
  rintro e w' ⟨i, hi, rfl, hp, hb⟩
  have HP := Lib.hid (And.intro hi (And.intro hp hb))
  clear hi hp hb
  go_wp2
  go_ret2
  exact ⟨i, HP.out.1, rfl, HP.out.2.1, HP.out.2.2⟩
theorem found_lt {l : List Ent} {n : ByteArray} {i : Nat} (h : foundAt l n i = true) : i < l.length := by
  unfold foundAt at h
  cases hx : l[i]? with
  | none => rw [hx] at h; cases h
  | some x => exact (List.getElem?_eq_some_iff.1 hx).1
theorem find_any (l : List Ent) (v : Value) (n : ByteArray) (w : World) (h : entK.Sl (Old w) w v l) (hl : l.length ≤ 1000) (hs : Sorts l) :
    Calls Try.prog 38 #[v, .string n] w fun e w' => e = .returned (.tuple #[.int .i64 (findE l n).1, .bool (findE l n).2]) ∧ Below w.heap.size w w' := by
  have H := Lib.hid (place_any l v n w h hl hs)
  have HH := Lib.hid (And.intro h hs)
  obtain ⟨a, cap, hv, hcap⟩ := Sl.val h
  subst hv
  clear h hl hs
  obtain ⟨L, hL⟩ : ∃ L, l.length = L := ⟨_, rfl⟩
  rw [hL] at hcap H ⊢
  have HL := Lib.hid hL
  clear hL
  go_enter Try.func38, Try.ntmps38
  go_wp2_with fail
  refine H.out.mono ?_
  rintro e w' ⟨i, hi, rfl, hp, hb⟩
  have hf := find_split HH.out.2 hp
  cases hfo : foundAt l n i with
  | false =>
    have hr : findE l n = (-1, false) := by
      rw [hf, hfo]; cases l[i]? <;> rfl
    have HR := Lib.hid (And.intro hr hb)
    clear hf hr hb hp hfo
    go_wp2
    go_ret2
    rw [HR.out.1]
    exact ⟨rfl, HR.out.2⟩
  | true =>
    have hlt := found_lt hfo
    obtain ⟨x, hx⟩ : ∃ x, l[i]? = some x := ⟨_, List.getElem?_eq_getElem hlt⟩
    have hr : findE l n = (x.ino, true) := by rw [hf, hfo, hx]; rfl
    have HR := Lib.hid (And.intro hr hb)
    obtain ⟨g, off, cap', he, _, _, hS, c0, c1⟩ := ent_at (Sl.keep (Agree.below hb) HH.out.1) hx
    injection he with he1 he2 he3
    subst he1 he3
    rw [HL.out] at hlt
    clear he2 hf hr hb hp hfo hx hS hi
    go_wp2
    go_ret2
    rw [HR.out.1]
    exact ⟨rfl, HR.out.2⟩
theorem made_up {α : Type} {d : Kind α} {e : TypeId} {w w1 w2 : World} {l : List α} {en : Ending} (hb : Below w.heap.size w w1) (h : Made d e w1 l en w2) : Made d e w l en w2 := by
  obtain ⟨r, hr, ho, hb2⟩ := h
  exact ⟨r, hr, Own.lower ho hb.size, bthen hb hb2⟩
theorem drop_any (l : List Ent) (v : Value) (n : ByteArray) (w : World) (h : entK.Sl (Old w) w v l) (hl : l.length ≤ 1000) (hs : Sorts l) :
    Calls Try.prog 41 #[v, .string n] w (Made entK 72 w (dropE l n)) := by
  have H := Lib.hid (place_any l v n w h hl hs)
  have HH := Lib.hid (And.intro h (And.intro hs hl))
  clear h hl hs
  go_enter Try.func41, Try.ntmps41
  go_wp2_with fail
  refine H.out.mono ?_
  rintro e w' ⟨i, hi, rfl, hp, hb⟩
  have hf := drop_split HH.out.2.1 hp
  have HS := Lib.hid (Sl.below hb HH.out.1)
  have hw : IntKind.i64.wrap ((i : Int) + 1) = ((i + 1 : Nat) : Int) := by have := HH.out.2.2; rw [IntKind.wrap_i64]; omega
  cases hfo : foundAt l n i with
  | false =>
    have HR := Lib.hid (And.intro (show dropE l n = l by rw [hf, hfo]; rfl) (And.intro hb hi))
    clear hf hb hp hfo hi
    go_wp2_with fail
    refine (spliced_none v l i w' HS.out (by have := HH.out.2.2; omega) HR.out.2.2).mono ?_
    intro e2 w2 hm
    obtain ⟨u, rfl, ho2, hb2⟩ := made_up HR.out.2.1 hm
    have HM := Lib.hid (And.intro ho2 hb2)
    clear ho2 hb2 hm
    go_wp2
    go_ret
    rw [HR.out.1]
    exact ⟨_, rfl, HM.out.1, HM.out.2⟩
  | true =>
    have HR := Lib.hid (And.intro (show dropE l n = l.take i ++ l.drop (i + 1) by rw [hf, hfo]; rfl) (And.intro hb (found_lt hfo)))
    clear hf hb hp hfo hi
    go_wp2_with fail
    refine (spliced_drop v l i w' HS.out (by have := HH.out.2.2; omega) HR.out.2.2).mono ?_
    intro e2 w2 hm
    obtain ⟨u, rfl, ho2, hb2⟩ := made_up HR.out.2.1 hm
    have HM := Lib.hid (And.intro ho2 hb2)
    clear ho2 hb2 hm
    go_wp2
    go_ret
    rw [HR.out.1]
    exact ⟨_, rfl, HM.out.1, HM.out.2⟩
theorem put_any (l : List Ent) (v : Value) (y : Ent) (w : World) (hyn : y.name.size ≤ maxLen) (h : entK.Sl (Old w) w v l) (hl : l.length ≤ 1000) (hs : Sorts l) :
    Calls Try.prog 46 #[v, .agg #[.string y.name, .int .i64 y.ino]] w (Made entK 72 w (putE l y)) := by
  have H := Lib.hid (place_any l v y.name (w.alloc (.cells #[Value.string y.name, Value.int .i64 y.ino] 72)) (Sl.below (balloc w _) h) hl hs)
  have HH := Lib.hid (And.intro h (And.intro hs hl))
  clear h hl hs
  go_enter Try.func46, Try.ntmps46
  go_wp2_with fail
  refine H.out.mono ?_
  rintro e w' ⟨i, hi, rfl, hp, hb⟩
  have hf := put_split HH.out.2.1 hp
  have HS := Lib.hid (Sl.below hb (Sl.below (balloc w _) HH.out.1))
  have hw : IntKind.i64.wrap ((i : Int) + 1) = ((i + 1 : Nat) : Int) := by have := HH.out.2.2; rw [IntKind.wrap_i64]; omega
  cases hfo : foundAt l y.name i with
  | false =>
    have HR := Lib.hid (And.intro (show putE l y = l.take i ++ y :: l.drop i by rw [hf, hfo]; rfl) (And.intro hb hi))
    have c0 : w'.cell? ⟨w.heap.size, 0, none⟩ = some (.string y.name) := by rw [hb.cell (p := ⟨w.heap.size, 0, none⟩) (by simp)]; go_simp
    have c1 : w'.cell? ⟨w.heap.size, 1, none⟩ = some (.int .i64 y.ino) := by rw [hb.cell (p := ⟨w.heap.size, 1, none⟩) (by simp)]; go_simp
    clear hf hb hp hfo hi
    go_wp2_with fail
    refine (spliced_ins v l i _ y w'.heap.size (Row.new w' 72 [Value.string y.name, Value.int .i64 y.ino]) hyn (Sl.below (balloc w' _) HS.out) (by have := HH.out.2.2; omega) HR.out.2.2).mono ?_
    intro e2 w2 hm
    obtain ⟨u, rfl, ho2, hb2⟩ := made_up (bthen (balloc w _) (bthen HR.out.2.1 (balloc w' _))) hm
    have HM := Lib.hid (And.intro ho2 hb2)
    clear ho2 hb2 hm
    go_wp2
    go_ret
    rw [HR.out.1]
    exact ⟨_, rfl, HM.out.1, HM.out.2⟩
  | true =>
    have HR := Lib.hid (And.intro (show putE l y = l.take i ++ y :: l.drop (i + 1) by rw [hf, hfo]; rfl) (And.intro hb (found_lt hfo)))
    have c0 : w'.cell? ⟨w.heap.size, 0, none⟩ = some (.string y.name) := by rw [hb.cell (p := ⟨w.heap.size, 0, none⟩) (by simp)]; go_simp
    have c1 : w'.cell? ⟨w.heap.size, 1, none⟩ = some (.int .i64 y.ino) := by rw [hb.cell (p := ⟨w.heap.size, 1, none⟩) (by simp)]; go_simp
    clear hf hb hp hfo hi
    go_wp2_with fail
    refine (spliced_put v l i _ y w'.heap.size (Row.new w' 72 [Value.string y.name, Value.int .i64 y.ino]) hyn (Sl.below (balloc w' _) HS.out) (by have := HH.out.2.2; omega) HR.out.2.2).mono ?_
    intro e2 w2 hm
    obtain ⟨u, rfl, ho2, hb2⟩ := made_up (bthen (balloc w _) (bthen HR.out.2.1 (balloc w' _))) hm
    have HM := Lib.hid (And.intro ho2 hb2)
    clear ho2 hb2 hm
    go_wp2
    go_ret
    rw [HR.out.1]
    exact ⟨_, rfl, HM.out.1, HM.out.2⟩
end Go.Proofs.Ytfllhakmjookkaa
