/- Entries: slices.Replace. -/
import Derived.Test.YtfllhakmjookkaaEntryH
set_option linter.unusedVariables false
set_option linter.unusedSimpArgs false
namespace Go.Proofs.Ytfllhakmjookkaa
open Go Go.RowKit

theorem insert1_any (v : Value) (l : List Ent) (y : Ent) (k : Nat) (w : World) (base : Nat) (h : entK.Own 72 base w v l) (vb : Nat) (hbox : Row w vb 72 [Value.string y.name, Value.int .i64 y.ino]) (hvb : vb < base)
    (hyn : y.name.size ≤ maxLen) (hbase : base ≤ w.heap.size) (hl : l.length ≤ 2000) (hk : k ≤ l.length) :
    Calls Try.prog 86 #[v, .int .i64 (k : Int), .slice (some ⟨vb, 0, none⟩) 1 1] w (Put1 w base v (l.take k ++ y :: l.drop k)) := by
  rcases Nat.lt_or_ge k l.length with hlt | hge
  · rcases Own.parts h with ⟨_, rfl⟩ | ⟨g, cap, cells, rest, rfl, hgb, hc, hcm, hrow, hcl, hrl, hr⟩
    · simp at hlt
    · rcases Nat.lt_or_ge l.length cap with hroom | hfull
      · exact insert1_room (.slice none 0 0) l y k w base vb hbox hvb hyn hbase hl hlt g cap cells rest hgb hroom hcm hrow hrl hr
      · obtain rfl : cap = l.length := by omega
        have hr0 : rest = [] := List.eq_nil_of_length_eq_zero (by rw [hrl]; simp)
        subst hr0
        rw [List.append_nil] at hrow
        exact insert1_grow l y k w base vb hbox hyn hbase hl hlt g cells hgb hrow hr
  · obtain rfl : k = l.length := by omega
    have := insert1_end v l y w base h vb hbox hyn hbase hl
    rw [show l.take l.length ++ [y] ++ l.drop l.length = l.take l.length ++ y :: l.drop l.length by simp] at this
    exact this
theorem put_done {w w2 : World} {base g cap n : Nat} {r : List Ent} {cs R : List Value} (hgb : base ≤ g) (hc : r.length ≤ cap) (hcm : cap ≤ 9223372036854775807)
    (h2 : Row w2 g 72 (cs ++ R)) (hl : cs.length + R.length = cap * 2) (hr : Reps (entK.At (fun k => k < w.heap.size ∧ some k ≠ some g) w) 2 r cs) (hg : w.grownBy w2 (some g)) :
    Put1 w base (.slice (some ⟨g, 0, none⟩) n cap) r (.returned (.slice (some ⟨g, 0, none⟩) r.length cap)) w2 :=
  ⟨_, rfl, Own.close (d := entK) h2 hgb hc hcm hl (hr.imp fun p c hp => entK.mono (fun k hk => ⟨Nat.lt_of_lt_of_le hk.1 hg.size, hk.2⟩) (entK.keep (Agree.grown hg) hp)), hg⟩
theorem wrapS (k n : Nat) (h : k + n ≤ 100000) : IntKind.i64.wrap ((k : Int) + (n : Int)) = ((k + n : Nat) : Int) := by rw [IntKind.wrap_i64]; omega

set_option maxRecDepth 100000 in
set_option maxHeartbeats 1000000 in
/-- i = j: an insertion. -/
theorem replace_ins (v : Value) (l : List Ent) (y : Ent) (k : Nat) (w : World) (base : Nat) (h : entK.Own 72 base w v l) (vb : Nat) (hbox : Row w vb 72 [Value.string y.name, Value.int .i64 y.ino]) (hvb : vb < base)
    (hyn : y.name.size ≤ maxLen) (hbase : base ≤ w.heap.size) (hl : l.length ≤ 2000) (hk : k ≤ l.length) :
    Calls Try.prog 79 #[v, .int .i64 (k : Int), .int .i64 (k : Int), .slice (some ⟨vb, 0, none⟩) 1 1] w (Put1 w base v (l.take k ++ y :: l.drop k)) := by
  have H := Lib.hid (insert1_any v l y k w base h vb hbox hvb hyn hbase hl hk)
  obtain ⟨a, cap, hv, hcap⟩ := Sl.val (Own.sl h)
  subst hv
  clear h hbox
  obtain ⟨n, hn⟩ : ∃ n, l.length = n := ⟨_, rfl⟩
  rw [hn] at hk hl hcap H ⊢
  clear hn
  have hkc : (k : Int) ≤ (cap : Int) := by omega
  go_enter Try.func79, Try.ntmps79
  go_wp2_with fail
  case inl =>
    obtain rfl : cap = k := by omega
    refine H.out.mono ?_
    rintro e w' ⟨u, rfl, h1, h2⟩
    have H1 := Lib.hid h1
    have H2 := Lib.hid h2
    clear h1 h2
    go_wp2
    go_ret
    exact ⟨_, rfl, H1.out, H2.out⟩
  case inr =>
    refine H.out.mono ?_
    rintro e w' ⟨u, rfl, h1, h2⟩
    have H1 := Lib.hid h1
    have H2 := Lib.hid h2
    clear h1 h2
    go_wp2
    go_ret
    exact ⟨_, rfl, H1.out, H2.out⟩
set_option maxRecDepth 100000 in
set_option maxHeartbeats 1000000 in
theorem replace_none (v : Value) (l : List Ent) (k : Nat) (w : World) (base : Nat) (h : entK.Own 72 base w v l) (hl : l.length ≤ 2000) (hk : k ≤ l.length) :
    Calls Try.prog 79 #[v, .int .i64 (k : Int), .int .i64 (k : Int), .slice none 0 0] w fun e w' => e = .returned v ∧ w = w' := by
  have H := Lib.hid (insert0_any v l k w base h (by omega) (by omega) hl)
  obtain ⟨a, cap, hv, hcap⟩ := Sl.val (Own.sl h)
  subst hv
  clear h
  obtain ⟨n, hn⟩ : ∃ n, l.length = n := ⟨_, rfl⟩
  rw [hn] at hk hl hcap H ⊢
  clear hn
  have hkc : (k : Int) ≤ (cap : Int) := by omega
  go_enter Try.func79, Try.ntmps79
  go_wp2_with fail
  case inl =>
    obtain rfl : cap = k := by omega
    refine H.out.mono ?_
    rintro e w' ⟨rfl, rfl⟩
    go_wp2
    go_ret
    exact ⟨rfl, rfl⟩
  case inr =>
    refine H.out.mono ?_
    rintro e w' ⟨rfl, rfl⟩
    go_wp2
    go_ret
    exact ⟨rfl, rfl⟩
set_option maxRecDepth 100000 in
set_option maxHeartbeats 1000000 in
/-- The last one is put anew. -/
theorem replace_last (v : Value) (l : List Ent) (y : Ent) (k : Nat) (w : World) (base : Nat) (h : entK.Own 72 base w v l) (vb : Nat) (hbox : Row w vb 72 [Value.string y.name, Value.int .i64 y.ino]) (hvb : vb < base)
    (hyn : y.name.size ≤ maxLen) (hbase : base ≤ w.heap.size) (hl : l.length ≤ 2000) (hk : k + 1 = l.length) :
    Calls Try.prog 79 #[v, .int .i64 (k : Int), .int .i64 ((k + 1 : Nat) : Int), .slice (some ⟨vb, 0, none⟩) 1 1] w (Put1 w base v (l.take k ++ y :: l.drop (k + 1))) := by
  rw [show l.take k ++ y :: l.drop (k + 1) = l.take k ++ [y] by rw [hk, List.drop_length]]
  rcases Own.parts h with ⟨_, rfl⟩ | ⟨g, cap, cells, rest, rfl, hgb, hc, hcm, hrow, hcl, hrl, hr⟩
  · simp at hk
  rw [← hk] at hc hrl ⊢
  obtain ⟨A, X, rfl, hA, hX, hRA, hRX⟩ := parts_at hr k (by omega)
  have htl : (l.take k).length = k := by simp; omega
  have hO := Own.close (d := entK) (base := base) (xs := l.take k) (cells := A) (rest := X ++ rest) (cap := cap) (by rw [← List.append_assoc]; exact hrow) hgb (by omega) hcm (by rw [List.length_append, hA, hX, ← hk]; have : rest.length = (cap - (k + 1)) * 2 := hrl; rw [this]; show _ = cap * 2; omega) hRA
  rw [htl] at hO
  have HO := Lib.hid hO
  have HN := Lib.hid (fun j u (hu : ([Value.string y.name, Value.int .i64 y.ino] : List Value)[j]? = some u) => hbox.cellA 0 j u (by rw [Nat.zero_add]; exact hu))
  have HR := Lib.hid (Reps.one (R := entK.At (fun k => k < w.heap.size ∧ some k ≠ some g) w) (size := entK.sz) (p := y) (c := [Value.string y.name, Value.int .i64 y.ino]) ⟨rfl, hyn⟩ rfl)
  have HB := Lib.hid hbase
  have HLL := Lib.hid (show ((l.take k).length + [y].length) * 24 ≤ 140737488355328 by rw [htl]; simp; omega)
  have hck : ¬ (cap = k) := by omega
  have hck1 : k + 1 ≤ cap := by omega
  have HTL := Lib.hid (show (l.take k ++ [y]).length = k + 1 by rw [List.length_append, htl]; rfl)
  have HK := Lib.hid hk
  clear h hrow hr hRA hRX hO htl hbox hbase hyn hA hX hrl hl hk hcl
  go_enter Try.func79, Try.ntmps79
  go_wp2_with (show wpList _ _ _ ({ dst := _, op := .call { callee := .builtin .append, args := _, argTypes := _ }, type := _, pos := _, after := _, guard := _ } :: _) _ _; refine wp_append entK base rfl _ _ 41 72 _ 24 rfl Try.underlying41 infoEn rfl (by decide) (by decide) _ (l.take k) rfl HO.out _ _ [y] [Value.string y.name, Value.int .i64 y.ino] rfl HR.out HN.out HB.out HLL.out ?_; intro v1 w1 hown hg hat; have HG := Lib.hid hg; have HO1 := Lib.hid hown; obtain ⟨a1, cap1, hv1, hcap1⟩ := Sl.val (Own.sl hown); rw [HTL.out] at hv1 hcap1; subst hv1; clear hown hg hat)
  go_wp2
  go_ret
  exact ⟨_, rfl, HO1.out, HG.out⟩
set_option maxRecDepth 100000 in
set_option maxHeartbeats 1000000 in
/-- The last one is dropped. -/
theorem replace_droplast (v : Value) (l : List Ent) (k : Nat) (w : World) (base : Nat) (h : entK.Own 72 base w v l) (hbase : base ≤ w.heap.size) (hl : l.length ≤ 2000) (hk : k + 1 = l.length) :
    Calls Try.prog 79 #[v, .int .i64 (k : Int), .int .i64 ((k + 1 : Nat) : Int), .slice none 0 0] w (Put1 w base v (l.take k ++ l.drop (k + 1))) := by
  rw [show l.take k ++ l.drop (k + 1) = l.take k by rw [hk, List.drop_length, List.append_nil]]
  rcases Own.parts h with ⟨_, rfl⟩ | ⟨g, cap, cells, rest, rfl, hgb, hc, hcm, hrow, hcl, hrl, hr⟩
  · simp at hk
  rw [← hk] at hc hrl ⊢
  obtain ⟨A, X, rfl, hA, hX, hRA, hRX⟩ := parts_at hr k (by omega)
  have htl : (l.take k).length = k := by simp; omega
  have hX2 : X.length = 2 := by rw [hX, ← hk]; simp
  have HROW := Lib.hid hrow
  have HR2 := Lib.hid (And.intro hA (And.intro hX2 (show rest.length = (cap - (k + 1)) * 2 from hrl)))
  have HRA := Lib.hid (And.intro htl hRA)
  have hck : ¬ (cap = k) := by omega
  have hck1 : k + 1 ≤ cap := by omega
  have HK := Lib.hid hk
  clear h hrow hr hRA hRX htl hbase hA hX hX2 hrl hl hcl hk
  go_enter Try.func79, Try.ntmps79
  go_wp2_with (show wpList _ _ _ ({ dst := _, op := .call { callee := .builtin .clear, args := _, argTypes := _ }, type := _, pos := _, after := _, guard := _ } :: _) _ _; refine wpList_clear_row rfl _ 41 rfl rfl 72 (.agg #[.string ⟨#[]⟩, .int .i64 0]) Try.underlying41 (by intro w; go_simp) (by simp [Value.cells, Value.oneCell']) g (k * 2) 1 (cap - k) rfl _ 72 HROW.out ?hf ?_; (case hf => simp [HR2.out.1, HR2.out.2.1, Value.cells]); intro w1 C hC HW1 HG1)
  go_wp2
  go_ret
  have h2 := HW1.out
  have hC2 : C.length = 2 := hC
  rw [show A ++ X ++ rest = A ++ (X ++ rest) by simp, ← HR2.out.1, splice_at] at h2
  have hd := put_done (base := base) (n := k + 1) hgb (by rw [HRA.out.1]; omega) hcm h2 (by rw [List.length_append, List.length_drop, List.length_append, HR2.out.1, hC2, HR2.out.2.1, HR2.out.2.2]; omega) HRA.out.2 HG1.out
  rw [HRA.out.1] at hd
  exact hd
set_option maxRecDepth 100000 in
set_option maxHeartbeats 1000000 in
/-- One that is not the last is dropped. -/
theorem replace_drop (v : Value) (l : List Ent) (k : Nat) (w : World) (base : Nat) (h : entK.Own 72 base w v l) (hbase : base ≤ w.heap.size) (hl : l.length ≤ 2000) (hk : k + 1 < l.length) :
    Calls Try.prog 79 #[v, .int .i64 (k : Int), .int .i64 ((k + 1 : Nat) : Int), .slice none 0 0] w (Put1 w base v (l.take k ++ l.drop (k + 1))) := by
  rcases Own.parts h with ⟨_, rfl⟩ | ⟨g, cap, cells, rest, rfl, hgb, hc, hcm, hrow, hcl, hrl, hr⟩
  · simp at hk
  obtain ⟨A, XD, rfl, hA, hXD, hRA, hRXD⟩ := parts_at hr k (by omega)
  obtain ⟨X, D, rfl, hX, hD, hRX, hRD⟩ := parts_at hRXD 1 (by rw [List.length_drop]; omega)
  rw [List.drop_drop, List.length_drop] at *
  have htl : (l.take k).length = k := by simp; omega
  have htd : (l.drop (k + 1)).length = l.length - (k + 1) := by simp
  have hX2 : X.length = 2 := by rw [hX]
  have hD2 : D.length = (l.length - (k + 1)) * 2 := by rw [hD, Nat.sub_sub]
  have hone := cells_one hr
  have HROW := Lib.hid hrow
  have HD1 := Lib.hid (fun v hv => hone v (List.mem_append_right A (List.mem_append_right X hv)))
  have HRES := Lib.hid (And.intro hRA hRD)
  obtain ⟨n, hn⟩ : ∃ n, l.length = n := ⟨_, rfl⟩
  rw [hn] at hk hl hD2 hc hrl htd ⊢
  have hrl2 : rest.length = (cap - n) * 2 := hrl
  have HR2 := Lib.hid (And.intro hA (And.intro hX2 (And.intro hD2 (And.intro hrl2 (And.intro htl htd)))))
  have HL := Lib.hid (And.intro hl (And.intro hbase hn))
  clear h hrow hr hRA hRD hRX hRXD htl htd hbase hA hX hX2 hXD hD hD2 hrl hrl2 hl hcl hn hone
  have hw1 : IntKind.i64.wrap ((k : Int) + ((n - (k + 1) : Nat) : Int)) = ((n - 1 : Nat) : Int) := by have := HL.out.1; rw [IntKind.wrap_i64]; omega
  have hw0 : IntKind.i64.wrap (k : Int) = (k : Int) := by have := HL.out.1; rw [IntKind.wrap_i64]; omega
  have hkn2 : (k : Int) ≤ ((n - 1 : Nat) : Int) := by omega
  have hne : ¬ ((k : Int) + 1 = (n : Int)) := by omega
  have hkn : (k : Int) + 1 ≤ (n : Int) := by omega
  have hg0 : (0 : Int) ≤ (k : Int) + 1 := by omega
  have hkk : (k : Int) ≤ (k : Int) + 1 := by omega
  have hkl : k + 1 ≤ n := by omega
  have hcn : k + 1 ≤ cap := by omega
  have hck0 : ¬ (cap = k) := by omega
  have hck1 : ¬ (cap = k + 1) := by omega
  have hn1 : n - 1 ≤ cap := by omega
  go_enter Try.func79, Try.ntmps79
  go_wp2
  go_region
  have HSRC := Lib.hid (show ∀ j u, D[j]? = some u → w.cell? ((⟨g, (k + 1) * 2, none⟩ : Addr).add j) = some u from fun j u hu => HROW.out.cellA _ _ _ (by
    rw [List.append_assoc, show (k + 1) * 2 + j = A.length + (2 + j) by rw [HR2.out.1]; omega, List.getElem?_append_right (by omega), Nat.add_sub_cancel_left, List.append_assoc, ← HR2.out.2.1, List.getElem?_append_right (by omega), Nat.add_sub_cancel_left, List.getElem?_append_left (List.getElem?_eq_some_iff.1 hu).1]; exact hu))
  go_wp2_with (show wpList _ _ _ ({ dst := _, op := .call { callee := .builtin .copy, args := _, argTypes := _ }, type := _, pos := _, after := _, guard := _ } :: _) _ _; refine wpList_copy_none rfl _ _ 41 41 rfl 72 2 Try.underlying41 szE _ _ _ _ _ _ rfl rfl (by simp) ?_)
  go_region_law (refine step_copy_row rfl _ _ 41 41 rfl 72 2 Try.underlying41 szE g (k * 2) (n - 1 - k) (cap - k) ⟨g, (k + 1) * 2, none⟩ (n - (k + 1)) (cap - (k + 1)) (by simp [Act.eval, Act.put]) (by simp [Act.eval, Act.put]) _ 72 HROW.out.drew.drew D ?hn HSRC.out ?hf HD1.out ?_; (case hn => rw [HR2.out.2.2.1, show Nat.min (n - (k + 1)) (n - 1 - k) = n - (k + 1) from Nat.min_eq_left (by omega)]); (case hf => simp only [List.length_append, HR2.out.1, HR2.out.2.1, HR2.out.2.2.1]; omega); intro w3 HW3 HG3)
  have h3 := HW3.out
  obtain ⟨E, hE⟩ : ∃ E, (X ++ (D ++ rest)).drop D.length = E := ⟨_, rfl⟩
  have hEl : E.length = (cap - (n - 1)) * 2 := by rw [← hE, List.length_drop, List.length_append, List.length_append, HR2.out.2.1, HR2.out.2.2.1, HR2.out.2.2.2.1]; omega
  rw [show A ++ (X ++ D) ++ rest = A ++ (X ++ (D ++ rest)) by simp only [List.append_assoc], ← HR2.out.1, splice_at, hE] at h3
  have HW4 := Lib.hid h3
  have HE := Lib.hid hEl
  clear h3 hE hEl HW3
  go_wp2_with (show wpList _ _ _ ({ dst := _, op := .call { callee := .builtin .clear, args := _, argTypes := _ }, type := _, pos := _, after := _, guard := _ } :: _) _ _; refine wpList_clear_row rfl _ 41 rfl rfl 72 (.agg #[.string ⟨#[]⟩, .int .i64 0]) Try.underlying41 (by intro w; go_simp) (by simp [Value.cells, Value.oneCell']) g ((n - 1) * 2) (n - (n - 1)) (cap - (n - 1)) rfl _ 72 HW4.out ?hf ?_; (case hf => simp only [List.length_append, HR2.out.1, HR2.out.2.2.1, HE.out]; simp [Value.cells]; omega); intro w5 C hC HW5 HG5)
  go_wp2
  go_ret
  have h5 := HW5.out
  have hC2 : C.length = 2 := by rw [hC]; simp [Value.cells]; omega
  rw [show A ++ (D ++ E) = (A ++ D) ++ E by simp only [List.append_assoc], show (n - 1) * 2 = (A ++ D).length by rw [List.length_append, HR2.out.1, HR2.out.2.2.1]; omega, splice_at] at h5
  have hrl : (l.take k ++ l.drop (k + 1)).length = n - 1 := by rw [List.length_append, HR2.out.2.2.2.2.1, HR2.out.2.2.2.2.2]; omega
  have hd := put_done (w := w) (base := base) (n := n) hgb (by rw [hrl]; omega) hcm h5 (by rw [List.length_append, List.length_append, List.length_drop, HR2.out.1, HR2.out.2.2.1, hC2, HE.out]; omega) (HRES.out.1.append HRES.out.2) (grownBy_trans' (grownBy_trans' (grownBy_trans' (grownBy_drew w _) (grownBy_drew _ _)) HG3.out) HG5.out)
  rw [hrl] at hd
  exact hd
set_option maxRecDepth 100000 in
set_option maxHeartbeats 1000000 in
/-- One that is not the last is put anew. -/
theorem replace_put (v : Value) (l : List Ent) (y : Ent) (k : Nat) (w : World) (base : Nat) (h : entK.Own 72 base w v l) (vb : Nat) (hbox : Row w vb 72 [Value.string y.name, Value.int .i64 y.ino]) (hvb : vb < base)
    (hyn : y.name.size ≤ maxLen) (hbase : base ≤ w.heap.size) (hl : l.length ≤ 2000) (hk : k + 1 < l.length) :
    Calls Try.prog 79 #[v, .int .i64 (k : Int), .int .i64 ((k + 1 : Nat) : Int), .slice (some ⟨vb, 0, none⟩) 1 1] w (Put1 w base v (l.take k ++ y :: l.drop (k + 1))) := by
  rcases Own.parts h with ⟨_, rfl⟩ | ⟨g, cap, cells, rest, rfl, hgb, hc, hcm, hrow, hcl, hrl, hr⟩
  · simp at hk
  obtain ⟨A, XD, rfl, hA, hXD, hRA, hRXD⟩ := parts_at hr k (by omega)
  obtain ⟨X, D, rfl, hX, hD, hRX, hRD⟩ := parts_at hRXD 1 (by rw [List.length_drop]; omega)
  rw [List.drop_drop, List.length_drop] at *
  have htl : (l.take k).length = k := by simp; omega
  have htd : (l.drop (k + 1)).length = l.length - (k + 1) := by simp
  have hX2 : X.length = 2 := by rw [hX]
  have hD2 : D.length = (l.length - (k + 1)) * 2 := by rw [hD, Nat.sub_sub]
  have hone := cells_one hr
  have HROW := Lib.hid hrow
  have HD1 := Lib.hid (fun v hv => hone v (List.mem_append_right A (List.mem_append_right X hv)))
  have HRES := Lib.hid (And.intro hRA hRD)
  obtain ⟨n, hn⟩ : ∃ n, l.length = n := ⟨_, rfl⟩
  rw [hn] at hk hl hD2 hc hrl htd ⊢
  have hrl2 : rest.length = (cap - n) * 2 := hrl
  have HR2 := Lib.hid (And.intro hA (And.intro hX2 (And.intro hD2 (And.intro hrl2 (And.intro htl htd)))))
  have HL := Lib.hid (And.intro hl (And.intro hbase hn))
  have HY := Lib.hid (And.intro hyn (And.intro hvb hbox))
  clear h hrow hr hRA hRD hRX hRXD htl htd hbase hA hX hX2 hXD hD hD2 hrl hrl2 hl hcl hn hone hyn hbox
  have hw0 : IntKind.i64.wrap (k : Int) = (k : Int) := by have := HL.out.1; rw [IntKind.wrap_i64]; omega
  have hw1 : IntKind.i64.wrap ((k : Int) + 1) = (k : Int) + 1 := by have := HL.out.1; rw [IntKind.wrap_i64]; omega
  have hw2 : IntKind.i64.wrap ((k : Int) + 1 + ((n - (k + 1) : Nat) : Int)) = (n : Int) := by have := HL.out.1; rw [IntKind.wrap_i64]; omega
  have hkn2 : (k : Int) ≤ ((n - 1 : Nat) : Int) := by omega
  have hne : ¬ ((k : Int) + 1 = (n : Int)) := by omega
  have hkn : (k : Int) + 1 ≤ (n : Int) := by omega
  have hg0 : (0 : Int) ≤ (k : Int) + 1 := by omega
  have hkk : (k : Int) ≤ (k : Int) + 1 := by omega
  have hkl : k + 1 ≤ n := by omega
  have hkl0 : k ≤ n := by omega
  have hcn : k + 1 ≤ cap := by omega
  have hck0 : ¬ (cap = k) := by omega
  have hck1 : ¬ (cap = k + 1) := by omega
  have hkt : ((k : Int) + 1).toNat = k + 1 := by omega
  go_enter Try.func79, Try.ntmps79
  go_wp2
  go_region
  have HB1 := Lib.hid (show Row w.drew vb 72 [Value.string y.name, Value.int .i64 y.ino] from HY.out.2.2.drew)
  go_wp2_with (show wpList _ _ _ ({ dst := _, op := .call { callee := .builtin .copy, args := _, argTypes := _ }, type := _, pos := _, after := _, guard := _ } :: _) _ _; refine wpList_copy_row rfl _ _ 41 41 rfl 72 2 Try.underlying41 szE g (k * 2) (n - k) (cap - k) ⟨vb, 0, none⟩ 1 1 rfl rfl _ 72 HROW.out.drew [Value.string y.name, Value.int .i64 y.ino] ?hn (fun j u hu => HB1.out.cellA 0 j u (by rw [Nat.zero_add]; exact hu)) ?hf ?ho ?_; (case hn => rw [show Nat.min 1 (n - k) = 1 from Nat.min_eq_left (by omega)]; rfl); (case hf => simp only [List.length_append, HR2.out.1, HR2.out.2.1, HR2.out.2.2.1]; simp; omega); (case ho => simp [Value.oneCell']); intro w2 HW2 HG2)
  have h3 := HW2.out
  rw [show A ++ (X ++ D) ++ rest = A ++ (X ++ (D ++ rest)) by simp only [List.append_assoc], ← HR2.out.1, splice_at, show ([Value.string y.name, Value.int .i64 y.ino] : List Value).length = X.length from HR2.out.2.1.symm, List.drop_left] at h3
  have HW3 := Lib.hid h3
  have HSRC := Lib.hid (show ∀ j u, D[j]? = some u → w2.cell? ((⟨g, (k + 1) * 2, none⟩ : Addr).add j) = some u from fun j u hu => h3.cellA _ _ _ (by
    rw [show (k + 1) * 2 + j = A.length + (2 + j) by rw [HR2.out.1]; omega, List.getElem?_append_right (by omega), Nat.add_sub_cancel_left, show 2 + j = ([Value.string y.name, Value.int .i64 y.ino] : List Value).length + j from rfl, List.getElem?_append_right (by omega), Nat.add_sub_cancel_left, List.getElem?_append_left (List.getElem?_eq_some_iff.1 hu).1]; exact hu))
  clear h3 HW2
  go_wp2
  go_region_law (refine step_copy_row rfl _ _ 41 41 rfl 72 2 Try.underlying41 szE g ((k + 1) * 2) (n - (k + 1)) (cap - (k + 1)) ⟨g, (k + 1) * 2, none⟩ (n - (k + 1)) (cap - (k + 1)) (by simp [Act.eval, Act.put]) (by simp [Act.eval, Act.put]) _ 72 HW3.out.drew D ?hn HSRC.out ?hf HD1.out ?_; (case hn => rw [HR2.out.2.2.1, show Nat.min (n - (k + 1)) (n - (k + 1)) = n - (k + 1) from Nat.min_self _]); (case hf => simp only [List.length_append, HR2.out.1, HR2.out.2.1, HR2.out.2.2.1]; simp; omega); intro w3 HW4 HG4)
  have h4 := HW4.out
  rw [show A ++ ([Value.string y.name, Value.int .i64 y.ino] ++ (D ++ rest)) = (A ++ [Value.string y.name, Value.int .i64 y.ino]) ++ (D ++ rest) by simp only [List.append_assoc], show (k + 1) * 2 = (A ++ [Value.string y.name, Value.int .i64 y.ino]).length by simp [HR2.out.1]; omega, splice_at, List.drop_left] at h4
  have HW5 := Lib.hid h4
  clear h4 HW4
  go_wp2_with (show wpList _ _ _ ({ dst := _, op := .call { callee := .builtin .clear, args := _, argTypes := _ }, type := _, pos := _, after := _, guard := _ } :: _) _ _; refine wpList_clear_none rfl _ 41 rfl rfl 72 (.agg #[.string ⟨#[]⟩, .int .i64 0]) Try.underlying41 (by intro w; go_simp) _ _ _ rfl ?hn ?_; (case hn => first | rfl | omega))
  case inl =>
    obtain rfl : n = cap := by omega
    go_wp2
    go_ret
    have hrl : (l.take k ++ ([y] ++ l.drop (k + 1))).length = n := by rw [List.length_append, List.length_append, HR2.out.2.2.2.2.1, HR2.out.2.2.2.2.2]; simp; omega
    have hone : Reps (entK.At (fun k => k < w.heap.size ∧ some k ≠ some g) w) 2 [y] [Value.string y.name, Value.int .i64 y.ino] := Reps.one (R := entK.At _ w) ⟨rfl, HY.out.1⟩ rfl
    have hd := put_done (w := w) (base := base) (n := n) (cs := A ++ ([Value.string y.name, Value.int .i64 y.ino] ++ D)) (R := rest) hgb (by rw [hrl]; exact hc) hcm (by have := HW5.out; simpa only [List.append_assoc] using this) (by simp only [List.length_append, HR2.out.1, HR2.out.2.2.1, HR2.out.2.2.2.1]; simp; omega) (HRES.out.1.append (hone.append HRES.out.2)) (grownBy_trans' (grownBy_trans' (grownBy_drew w _) HG2.out) (grownBy_trans' (grownBy_drew w2 _) HG4.out))
    rw [hrl] at hd
    exact hd
  case inr =>
    go_wp2
    go_ret
    have hrl : (l.take k ++ ([y] ++ l.drop (k + 1))).length = n := by rw [List.length_append, List.length_append, HR2.out.2.2.2.2.1, HR2.out.2.2.2.2.2]; simp; omega
    have hone : Reps (entK.At (fun k => k < w.heap.size ∧ some k ≠ some g) w) 2 [y] [Value.string y.name, Value.int .i64 y.ino] := Reps.one (R := entK.At _ w) ⟨rfl, HY.out.1⟩ rfl
    have hd := put_done (w := w) (base := base) (n := n) (cs := A ++ ([Value.string y.name, Value.int .i64 y.ino] ++ D)) (R := rest) hgb (by rw [hrl]; exact hc) hcm (by have := HW5.out; simpa only [List.append_assoc] using this) (by simp only [List.length_append, HR2.out.1, HR2.out.2.2.1, HR2.out.2.2.2.1]; simp; omega) (HRES.out.1.append (hone.append HRES.out.2)) (grownBy_trans' (grownBy_trans' (grownBy_drew w _) HG2.out) (grownBy_trans' (grownBy_drew w2 _) HG4.out))
    rw [hrl] at hd
    exact hd
end Go.Proofs.Ytfllhakmjookkaa
