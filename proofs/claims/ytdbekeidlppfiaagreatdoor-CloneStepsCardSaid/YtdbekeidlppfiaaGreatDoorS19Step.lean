/- Texts joined by a program of mine (pack.py): S19Step. -/
import Derived.Test.YtdbekeidlppfiaaGreatDoorS19Law
import Derived.Test.YtdbekeidlppfiaaGreatDoorPlClone
set_option linter.unusedVariables false
set_option linter.unusedSimpArgs false
namespace Go.Proofs.YtdbekeidlppfiaaGreatDoor.Den
open Go Go.RowKit Go.ChangeShapes Go.WideShapes
theorem i64_le {a : Int} (h : (Lit.int .i64 a).wf = true) : a ≤ 9223372036854775807 := by
 simp only [Lit.wf, Bool.and_eq_true, decide_eq_true_eq] at h
 have h2 : IntKind.i64.max = 9223372036854775807 := by decide
 omega
theorem strC_cl (l : List ByteArray) : closedLL (l.map cS) = true := closedLL_iff.2 fun x hx y hy => by
 obtain ⟨n, _, rfl⟩ := List.mem_map.1 hx
 exact closedL_iff.1 (show closedL (cS n) = true from rfl) y hy
theorem intC_cl (l : List Int) : closedLL (l.map cI) = true := closedLL_iff.2 fun x hx y hy => by
 obtain ⟨n, _, rfl⟩ := List.mem_map.1 hx
 exact closedL_iff.1 (show closedL (cI n) = true from rfl) y hy
theorem frameC_cl (f : FrameD) : closedL f.c = true := by simp [FrameD.c, closedL, closedB, strC_cl]
theorem framesC_cl (l : List FrameD) : closedLL (l.map FrameD.c) = true := closedLL_iff.2 fun x hx y hy => by
 obtain ⟨n, _, rfl⟩ := List.mem_map.1 hx
 exact closedL_iff.1 (frameC_cl n) y hy
theorem jobC_cl (j : JobD) : closedB (.agg j.c) = true := by simp [JobD.c, closedL, closedB, strC_cl, framesC_cl, intC_cl]
theorem replyC_cl (r : ReplyD) : closedB (.agg r.c) = true := by simp [ReplyD.c, closedL, closedB, strC_cl]
section
variable {H : Type} {enc : TypeId × Value → H} {w : World} {held : Bool}
def RFrame (c : List PV) : Prop := ∃ f : FrameD, c = f.c
theorem rfr_of : ∀ {xs : List (List PV)}, (∀ x ∈ xs, RFrame x) → ∃ l : List FrameD, xs = l.map FrameD.c
 | [], _ => ⟨[], rfl⟩
 | x :: xs, h => by
  obtain ⟨y, rfl⟩ := h x (by simp)
  obtain ⟨l, rfl⟩ := rfr_of fun z hz => h z (List.mem_cons_of_mem _ hz)
  exact ⟨y :: l, rfl⟩
set_option maxRecDepth 100000 in
theorem opens_strs : Opens enc Tryz.prog w held 22 fun c => ∃ l : List ByteArray, c = [.list 1 false (l.map cS)] ∧ ∀ y ∈ l, y.size ≤ maxLen := by
 intro fuel cs x h
 obtain ⟨cells, s, xs, rfl, _, h2⟩ := opens_slice (e := 9) (sz := 1) (R := RS) Tryz.underlying22 (by kernel_rfl) (by omega) (opens_str (by kernel_rfl)) h
 obtain ⟨l, rfl, hl⟩ := rs_of h2
 exact ⟨_, s, l, rfl, hl⟩
set_option maxRecDepth 100000 in
theorem opens_ints : Opens enc Tryz.prog w held 23 fun c => ∃ l : List Int, c = [.list 1 false (l.map cI)] := by
 intro fuel cs x h
 obtain ⟨cells, s, xs, rfl, _, h2⟩ := opens_slice (e := 3) (sz := 1) (R := RI) Tryz.underlying23 (by kernel_rfl) (by omega) (opens_int (by kernel_rfl)) h
 obtain ⟨l, rfl⟩ := ri_of h2
 exact ⟨_, s, l, rfl⟩
set_option maxRecDepth 100000 in
theorem opens_frame : Opens enc Tryz.prog w held 97 RFrame := by
 intro fuel cs x h
 obtain ⟨cells, s, r⟩ := opens_struct (enc := enc) (held := held) Tryz.underlying97 (by kernel_rfl) (.cons (opens_int (k := .i64) (by kernel_rfl)) (.cons (opens_str (by kernel_rfl)) (.cons opens_strs .nil))) h
 obtain ⟨_, _, rfl, ⟨n, rfl, _⟩, _, _, rfl, ⟨k, rfl, _⟩, _, _, rfl, ⟨l, rfl, _⟩, rfl⟩ := r
 exact ⟨_, s, ⟨n, k, l⟩, rfl⟩
set_option maxRecDepth 100000 in
theorem opens_frames : Opens enc Tryz.prog w held 26 fun c => ∃ l : List FrameD, c = [.list 3 false (l.map FrameD.c)] := by
 intro fuel cs x h
 obtain ⟨cells, s, xs, rfl, _, h2⟩ := opens_slice (e := 97) (sz := 3) (R := RFrame) Tryz.underlying26 (by kernel_rfl) (by omega) opens_frame h
 obtain ⟨l, rfl⟩ := rfr_of h2
 exact ⟨_, s, l, rfl⟩
def RJob (c : List PV) : Prop := ∃ j : JobD, c = j.c ∧ j.nF ≤ 9223372036854775807 ∧ ∀ y ∈ j.names, y.size ≤ maxLen
set_option maxRecDepth 100000 in
theorem opens_job : Opens enc Tryz.prog w held 29 RJob := by
 intro fuel cs x h
 have oi : Opens enc Tryz.prog w held 3 _ := opens_int (k := .i64) (by kernel_rfl)
 have os : Opens enc Tryz.prog w held 9 _ := opens_str (by kernel_rfl)
 obtain ⟨cells, s, r⟩ := opens_struct (enc := enc) (held := held) Tryz.underlying29 (by kernel_rfl)
  (.cons oi (.cons oi (.cons oi (.cons oi (.cons (opens_int (k := .i64) (by kernel_rfl)) (.cons oi (.cons oi (.cons oi (.cons oi (.cons os (.cons os (.cons os (.cons opens_strs (.cons opens_frames (.cons opens_ints (.cons (opens_bool (by kernel_rfl)) (.cons oi (.cons os (.cons (opens_int (k := .i64) (by kernel_rfl)) .nil))))))))))))))))))) h
 obtain ⟨_, _, rfl, ⟨k1, rfl, _⟩, _, _, rfl, ⟨k2, rfl, _⟩, _, _, rfl, ⟨k3, rfl, _⟩, _, _, rfl, ⟨k4, rfl, _⟩, _, _, rfl, ⟨k5, rfl, h5⟩, _, _, rfl, ⟨k6, rfl, _⟩, _, _, rfl, ⟨k7, rfl, _⟩, _, _, rfl, ⟨k8, rfl, _⟩, _, _, rfl, ⟨k9, rfl, _⟩, _, _, rfl, ⟨s1, rfl, _⟩, _, _, rfl, ⟨s2, rfl, _⟩, _, _, rfl, ⟨s3, rfl, _⟩, _, _, rfl, ⟨l1, rfl, hl1⟩, _, _, rfl, ⟨l2, rfl⟩, _, _, rfl, ⟨l3, rfl⟩, _, _, rfl, ⟨b, rfl⟩, _, _, rfl, ⟨k10, rfl, _⟩, _, _, rfl, ⟨s4, rfl, _⟩, _, _, rfl, ⟨k11, rfl, _⟩, rfl⟩ := r
 exact ⟨_, s, ⟨k1, k2, k3, k4, k5, k6, k7, k8, k9, s1, s2, s3, l1, l2, l3, b, k10, s4, k11⟩, rfl, i64_le h5, hl1⟩
def RInfo (c : List PV) : Prop := ∃ i : InfD, c = i.c
set_option maxRecDepth 100000 in
theorem opens_info : Opens enc Tryz.prog w held 39 RInfo := by
 intro fuel cs x h
 have oi : Opens enc Tryz.prog w held 3 _ := opens_int (k := .i64) (by kernel_rfl)
 obtain ⟨cells, s, r⟩ := opens_struct (enc := enc) (held := held) Tryz.underlying39 (by kernel_rfl) (.cons oi (.cons oi (.cons oi (.cons oi (.cons oi (.cons oi .nil)))))) h
 obtain ⟨_, _, rfl, ⟨k1, rfl, _⟩, _, _, rfl, ⟨k2, rfl, _⟩, _, _, rfl, ⟨k3, rfl, _⟩, _, _, rfl, ⟨k4, rfl, _⟩, _, _, rfl, ⟨k5, rfl, _⟩, _, _, rfl, ⟨k6, rfl, _⟩, rfl⟩ := r
 exact ⟨_, s, ⟨k1, k2, k3, k4, k5, k6⟩, rfl⟩
def RReply (c : List PV) : Prop := ∃ r : ReplyD, c = r.c ∧ r.e ≤ 9223372036854775807 ∧ ∀ y ∈ r.l, y.size ≤ maxLen
set_option maxRecDepth 100000 in
theorem opens_reply : Opens enc Tryz.prog w held 41 RReply := by
 intro fuel cs x h
 have oi : Opens enc Tryz.prog w held 3 _ := opens_int (k := .i64) (by kernel_rfl)
 obtain ⟨cells, s, r⟩ := opens_struct (enc := enc) (held := held) Tryz.underlying41 (by kernel_rfl) (.cons (opens_int (k := .i64) (by kernel_rfl)) (.cons oi (.cons (opens_str (by kernel_rfl)) (.cons opens_strs (.cons opens_info .nil))))) h
 obtain ⟨_, _, rfl, ⟨k1, rfl, h1⟩, _, _, rfl, ⟨k2, rfl, _⟩, _, _, rfl, ⟨s1, rfl, _⟩, _, _, rfl, ⟨l, rfl, hl⟩, _, _, rfl, ⟨i, rfl⟩, rfl⟩ := r
 exact ⟨_, s, ⟨k1, k2, s1, l, i⟩, rfl, i64_le h1, hl⟩
set_option maxRecDepth 100000 in
theorem arg_struct {t : TypeId} {fs : Array Field} {R : List PV → Prop} {r : Reach} {b0 : Nat} {v : Value} {d : DataW H} {ps : List MemPlace} (ht : Tryz.prog.underlying t = some (.struct fs)) (hval : Value.okWide Tryz.prog w r b0 t v)
  (h : DataW.Trod enc Tryz.prog w 0 (fun _ => true) held t v d ps) (ho : Opens enc Tryz.prog w held t R) : ∃ cells, VR (topC w) (.agg cells) v ∧ R cells := by
 obtain ⟨fuel, hf⟩ := h
 unfold Value.okWide at hval
 rw [ht] at hval
 obtain ⟨cs, rfl, _⟩ := hval
 obtain ⟨cells, s, hr⟩ := ho hf
 exact ⟨cells, .agg cells cs (by have := s.1; simp [Value.cells] at this; omega) fun j y u hy hu => (s.2 j y u hy (by simpa [Value.cells] using hu)).1.1, hr⟩
set_option maxRecDepth 100000 in
theorem open_job {r : Reach} {b0 : Nat} {v : Value} {d : DataW H} {ps : List MemPlace} (hval : Value.okWide Tryz.prog w r b0 29 v) (h : DataW.Trod enc Tryz.prog w 0 (fun _ => true) held 29 v d ps) :
  ∃ j : JobD, Told w (.agg j.c) v := by
 obtain ⟨cells, h1, j, rfl, hj⟩ := arg_struct Tryz.underlying29 hval h opens_job
 exact ⟨j, ⟨h1, jobC_cl j⟩⟩
set_option maxRecDepth 100000 in
theorem open_reply {r : Reach} {b0 : Nat} {v : Value} {d : DataW H} {ps : List MemPlace} (hval : Value.okWide Tryz.prog w r b0 41 v) (h : DataW.Trod enc Tryz.prog w 0 (fun _ => true) held 41 v d ps) :
  ∃ x : ReplyD, Told w (.agg x.c) v ∧ x.e ≤ 9223372036854775807 := by
 obtain ⟨cells, h1, x, rfl, hx⟩ := arg_struct Tryz.underlying41 hval h opens_reply
 exact ⟨x, ⟨h1, replyC_cl x⟩, hx.1⟩
end
end Go.Proofs.YtdbekeidlppfiaaGreatDoor.Den
