/- Disks: whether any is right, by both. -/
import Derived.Test.YtfllhakmjookkaaPlNamed
set_option linter.unusedVariables false
set_option linter.unusedSimpArgs false
namespace Go.Proofs.Ytfllhakmjookkaa.Den
open Go Go.RowKit

theorem bs1 (x : Bool) (y : Bool) : (bif x then some y else some false) = some (x && y) := by cases x <;> rfl
theorem bs2 (x : Bool) (y : Bool) : (bif x then some true else some y) = some (x || y) := by cases x <;> rfl
theorem bs3 (x : Bool) (y : Bool) : (bif x then some false else some y) = some (!x && y) := by cases x <;> rfl
theorem bs4 (x : Bool) (y z : Bool) : (bif x then some y else some z) = some (bif x then y else z) := by cases x <;> rfl

theorem beqd (a b : Int) : (a == b) = decide (a = b) := by by_cases h : a = b <;> simp [h]
theorem bned (a b : Int) : (a != b) = decide (a ≠ b) := by by_cases h : a = b <;> simp [h]
theorem bool_not {α : Type} (p : Prop) [Decidable p] (x y : α) : (bif !decide p then x else y) = if p then y else x := by by_cases h : p <;> simp [h]
def inoOk (l : List NodeD) (e : Ent) : Bool := (getP l e.ino).2 && e.ino != 0
def zeroP (n : NodeD) : Prop := n.kind = 0 ∧ n.modeF = 0 ∧ n.owner = 0 ∧ n.links = 0 ∧ n.openF = 0 ∧ n.up = 0 ∧ seq n.data ⟨#[]⟩ = true ∧ n.names.length = 0
instance (n : NodeD) : Decidable (zeroP n) := by unfold zeroP; infer_instance
theorem nodeZero_eq (n : NodeD) : diskNodeZero n = some (decide (zeroP n)) := by
  unfold diskNodeZero
  rw [bs1, bs1]
  congr 1
  rw [Bool.eq_iff_iff, decide_eq_true_iff]
  unfold zeroP
  simp only [Bool.and_eq_true, beq_iff_eq, decide_eq_true_eq, Bool.and_true]
  constructor <;> (intro h; simp_all <;> omega)
theorem same_nil (l : List Ent) : ref05Same l [] = some (decide (l.length = 0)) := by
  unfold ref05Same
  cases l with
  | nil => kernel_rfl
  | cons a t => rfl
theorem alikeZero_eq (n : NodeD) : ref06Alike n zeroN = some (decide (zeroP n)) := by
  unfold ref06Alike zeroN
  simp only [same_nil, Option.bind_some, bs1]
  congr 1
  rw [Bool.eq_iff_iff, decide_eq_true_iff]
  unfold zeroP
  simp only [Bool.and_eq_true, beq_iff_eq, decide_eq_true_eq]
theorem zeroP_kind {n : NodeD} (h : zeroP n) : n.kind = 0 := h.1
theorem zeroP_names {n : NodeD} (h : zeroP n) : n.names = [] := List.eq_nil_of_length_eq_zero h.2.2.2.2.2.2.2

theorem contains_eq (es : List Ent) (l : List NodeD) (m r : Int) (hes : es.length ≤ 1000000000) (hl : l.length ≤ 1000000) : slicesContainsFunc es l m r = some (!(es.all (inoOk l)), l, m, r) := by
  unfold slicesContainsFunc slicesIndexFunc2
  obtain ⟨b, h1, h2⟩ := iter_val (f := slicesIndexFunc2_b2 es (es.length : Int)) (fun j a => a = ((j : Int), l, m, r)) es.length (fun a => (es.drop a.1.toNat).all (inoOk l))
    (fun b x => (∃ v y z, b = .inl (v, l, m, r, y, z, l, m, r) ∧ 0 ≤ v ∧ x = false) ∨ ∃ v, b = .inr (v, l, m, r) ∧ x = true) (by
      rintro j a hj rfl
      have hF : ((es.drop ((j : Int)).toNat).all (inoOk l)) = (inoOk l es[j] && (es.drop (j + 1)).all (inoOk l)) := by
        rw [Int.toNat_natCast, List.drop_eq_getElem_cons hj]; rfl
      simp only [hF]
      unfold slicesIndexFunc2_b2
      have e : diskRight31 es[j].name es[j].ino l m r = some (!(inoOk l es[j]), l, m, r) := by
        unfold diskRight31 inoOk
        rw [diskGet_eq _ _ (by simp only; omega)]
        simp only [Option.bind_some]
        cases (getP l es[j].ino).2
        · rfl
        · simp [bne]
      simp only [lt_true hj, cond_true, gt_nat hj, Option.bind_some, e, w64_succ (i := j) (by omega)]
      cases h : inoOk l es[j] with
      | true => exact .inl ⟨_, rfl, rfl, by simp⟩
      | false => exact .inr ⟨_, rfl, .inl ⟨_, _, _, rfl, by omega, by simp⟩⟩) (by
      rintro a rfl
      unfold slicesIndexFunc2_b2
      simp only [lt_false, cond_false]
      exact ⟨_, rfl, .inr ⟨_, rfl, by simp⟩⟩) (lt_LF hes) (a := ((0 : Int), l, m, r)) rfl
  rw [h1]
  simp only [Int.toNat_zero, List.drop_zero] at h2
  rcases h2 with ⟨v, y, z, rfl, hv, h⟩ | ⟨v, rfl, h⟩
  · rw [h]
    have : decide (v ≥ 0) = true := by simp [hv]
    simp [this]
  · rw [h]; rfl
theorem inames_eq (i q1 q2 q3 q4 q5 q6 q7 q8 : Int) (q9 : ByteArray) (es : List Ent) (l : List NodeD) (hes : es.length ≤ 1000000000) :
    ∃ b, iterN (ref06Right2_b9 i l q1 q2 q3 q4 q5 q6 q7 q8 q9 es) LF (0 : Int) = some b ∧ ((((∃ v, b = .inl v) ∨ ∃ v, b = .inr (.inl v)) ∧ es.all (inoOk l) = false) ∨ ∃ v, b = .inr (.inr v) ∧ es.all (inoOk l) = true) := by
  obtain ⟨b, h1, h2⟩ := iter_val (f := ref06Right2_b9 i l q1 q2 q3 q4 q5 q6 q7 q8 q9 es) (fun j a => a = (j : Int)) es.length (fun a => (es.drop a.toNat).all (inoOk l))
    (fun b x => ((((∃ v, b = .inl v) ∨ ∃ v, b = .inr (.inl v)) ∧ x = false) ∨ ∃ v, b = .inr (.inr v) ∧ x = true)) (by
      rintro j a hj rfl
      have hF : ((es.drop ((j : Int)).toNat).all (inoOk l)) = (inoOk l es[j] && (es.drop (j + 1)).all (inoOk l)) := by
        rw [Int.toNat_natCast, List.drop_eq_getElem_cons hj]; rfl
      simp only [hF]
      unfold ref06Right2_b9
      simp only [lt_true hj, cond_true, gt_nat hj, Option.bind_some, ref06Get_eq, w64_succ (i := j) (by omega)]
      unfold inoOk
      cases h : (getP l es[j].ino).2 with
      | false => exact .inr ⟨_, rfl, .inl ⟨.inl ⟨_, rfl⟩, rfl⟩⟩
      | true =>
        simp only [Bool.not_true, cond_false]
        cases h2 : (es[j].ino == 0) with
        | true => exact .inr ⟨_, rfl, .inl ⟨.inr ⟨_, rfl⟩, by simp [bne, h2]⟩⟩
        | false => exact .inl ⟨_, rfl, rfl, by simp [bne, h2]⟩) (by
      rintro a rfl
      unfold ref06Right2_b9
      simp only [lt_false, cond_false]
      exact ⟨_, rfl, .inr ⟨_, rfl, by simp⟩⟩) (lt_LF hes) (a := (0 : Int)) rfl
  exact ⟨b, h1, by simpa using h2⟩

/-! ### the looks -/
def shapeB (l : List NodeD) (n : NodeD) : Bool := decide (1 ≤ n.kind ∧ n.kind ≤ 3 ∧ 0 ≤ n.modeF ∧ n.modeF ≤ 63 ∧ 0 ≤ n.openF) && (decide ((n.kind = 2 ∧ seq n.data ⟨#[]⟩ = true) ∨ (n.kind ≠ 2 ∧ n.names.length = 0)) && (sortedE n.names && n.names.all (inoOk l)))
def tailB (l : List NodeD) (i : Int) (n : NodeD) (c dr : Int) : Bool := decide (n.links = c ∧ (n.links > 0 ∨ n.openF > 0)) && (decide (n.kind ≠ 2 ∨ c ≠ 0 ∨ (n.up = 0 ∧ n.names.length = 0)) && (decide (n.kind ≠ 2 ∨ i = 0 ∨ c = 0) || (decide (c = 1 ∧ n.up = dr) && walk l l.length i)))
def lookD (l : List NodeD) (i : Int) (n : NodeD) (c dr : Int) : Bool := decide (zeroP n) || (shapeB l n && tailB l i n c dr)
def lookR (l : List NodeD) (i : Int) (n : NodeD) (c dr : Int) : Bool := decide (zeroP n) || (shapeB l n && (if i = 0 then decide (n.kind = 2 ∧ n.up = 0 ∧ n.links = 1) else (decide (n.links = c ∧ ¬ (c = 0 ∧ n.openF < 1)) && (decide (n.kind ≠ 2) || (if c = 0 then decide (n.names.length = 0 ∧ n.up = 0) else decide (c = 1 ∧ n.up = dr) && walk l l.length i)))))
theorem look1_eq (q0 kind mode q3 q4 opn q6 : Int) (q7 : ByteArray) (q8 : List Ent) : diskRight1 q0 kind mode q3 q4 opn q6 q7 q8 = some (decide (1 ≤ kind ∧ kind ≤ 3 ∧ 0 ≤ mode ∧ mode ≤ 63 ∧ 0 ≤ opn)) := by
  unfold diskRight1
  simp only [between_eq, Option.bind_some, bs1]
  congr 1
  rw [Bool.eq_iff_iff]
  simp only [Bool.and_eq_true, decide_eq_true_eq]
  omega
theorem look2_eq (q0 kind q2 q3 q4 q5 q6 : Int) (data : ByteArray) (es : List Ent) : diskRight2 q0 kind q2 q3 q4 q5 q6 data es = some (decide ((kind = 2 ∧ seq data ⟨#[]⟩ = true) ∨ (kind ≠ 2 ∧ es.length = 0))) := by
  unfold diskRight2
  by_cases h : kind = 2
  · subst h
    cases h2 : seq data ⟨#[]⟩ <;> simp [h2]
  · simp only [beqd, bned, bool_if, if_neg h, if_pos h]
    congr 1
    rw [Bool.eq_iff_iff, decide_eq_true_iff, decide_eq_true_iff]
    simp [h]
theorem look3_eq (q0 q1 q2 q3 q4 q5 q6 : Int) (q7 : ByteArray) (es : List Ent) (l : List NodeD) (m r : Int) (hes : es.length ≤ 1000000000) (hok : ∀ y ∈ es, EntOk y) (hl : l.length ≤ 1000000) : diskRight3 q0 q1 q2 q3 q4 q5 q6 q7 es l m r = some (sortedE es && es.all (inoOk l), l, m, r) := by
  unfold diskRight3
  simp only [entrySorted_eq es hes hok, contains_eq es l m r hes hl, Option.bind_some, Bool.not_not]
  cases sortedE es <;> rfl
theorem look4_eq (i q1 q2 q3 links opn q6 : Int) (q7 : ByteArray) (q8 : List Ent) (cs : List Int) (c : Int) (h : gt cs i = some c) : diskRight4 i q1 q2 q3 links opn q6 q7 q8 cs = some (decide (links = c ∧ (links > 0 ∨ opn > 0)), cs) := by
  unfold diskRight4
  rw [h]
  simp only [Option.bind_some, beqd, bool_if]
  by_cases h1 : links = c
  · subst h1
    by_cases h2 : links > 0
    · rw [if_pos rfl, if_pos h2]; simp [h2]
    · rw [if_pos rfl, if_neg h2]; simp only [true_and, h2, false_or]
  · rw [if_neg h1]; simp [h1]
theorem look5_eq (i kind q2 q3 q4 q5 up : Int) (q7 : ByteArray) (es : List Ent) (cs : List Int) (c : Int) (h : gt cs i = some c) : diskRight5 i kind q2 q3 q4 q5 up q7 es cs = some (decide (kind ≠ 2 ∨ c ≠ 0 ∨ (up = 0 ∧ es.length = 0)), cs) := by
  unfold diskRight5
  rw [h]
  simp only [Option.bind_some, beqd, bned, bool_if]
  by_cases h1 : kind = 2 <;> by_cases h2 : c = 0 <;> by_cases h3 : up = 0 <;> simp [h1, h2, h3]
theorem look6_eq (i kind q2 q3 q4 q5 up : Int) (q7 : ByteArray) (es : List Ent) (l : List NodeD) (m r : Int) (cs ds : List Int) (c d : Int) (h : gt cs i = some c) (hd : gt ds i = some d) (hl : l.length ≤ 1000000) :
    diskRight6 i kind q2 q3 q4 q5 up q7 es l m r cs ds = some (decide (kind ≠ 2 ∨ i = 0 ∨ c = 0) || (decide (c = 1 ∧ up = d) && walk l l.length i), l, m, r, cs, ds) := by
  unfold diskRight6
  rw [h, hd]
  simp only [diskRooted_eq ⟨l, m, r⟩ i hl, Option.bind_some, beqd, bned, bool_if]
  by_cases h1 : kind = 2 <;> by_cases h0 : i = 0 <;> by_cases h2 : c = 0 <;> by_cases h3 : c = 1 <;> by_cases h4 : up = d <;> simp [h1, h0, h2, h3, h4] <;> omega
end Go.Proofs.Ytfllhakmjookkaa.Den
