/- route.Split, route.Check: what they answer. -/
import Derived.Test.YtfjflodicgjihaaGreatDoorRouteB
set_option linter.unusedVariables false
set_option linter.unusedSimpArgs false
namespace Go.Proofs.YtfjflodicgjihaaGreatDoor.Den
open Go Go.RowKit Go.Shelf

attribute [local go_sem] Oper.semAt_some

/-- Does a text begin, or end, with a slash? -/
def preSl (p : ByteArray) : Bool := p.data.toList.head? == some 47
def sufSl (p : ByteArray) : Bool := p.data.toList.getLast? == some 47
set_option maxHeartbeats 1000000 in
theorem parts_in (n : Nat) (p : ByteArray) (w : World) :
    CallsIn Fence.wide n Tryz.prog 236 #[.string p] w fun e w' =>
      e = .returned (.func (.func 268) #[] #[.pointer (some ⟨w.heap.size, 0, none⟩)]) ∧ w' = w.alloc (.cells #[.string p] 9) := by
  refine callsIn_of_wp Tryz.func236 rfl trivial ?_ rfl
  simp only [Tryz.ntmps236, List.size_toArray, List.length_cons, List.length_nil, Nat.reduceAdd, Nat.reduceSub, Array.replicate_succ, Array.replicate_zero, List.push_toArray, List.append_toArray, List.nil_append, List.cons_append]
  gi_wp2
  go_ret
  exact ⟨rfl, rfl⟩
theorem head_of {l : List UInt8} : ((l.take 1) == [47]) = (l.head? == some 47) := by
  cases l with
  | nil => rfl
  | cons c l =>
    rw [Bool.eq_iff_iff]
    simp
theorem ext_data (p : ByteArray) (i j : Nat) : (p.extract i j).toList = (p.data.toList.drop i).take (j - i) := by
  rw [ByteArray.toList_eq]
  simp [ByteArray.data_extract, List.extract_eq_take_drop]
theorem last_of : ∀ {l : List UInt8}, 0 < l.length → ((l.drop (l.length - 1)).take 1 == [47]) = (l.getLast? == some 47)
  | [c], _ => by rw [Bool.eq_iff_iff]; simp
  | c :: d :: l, _ => by
    have ih := last_of (l := d :: l) (by simp)
    simp only [List.length_cons, Nat.add_sub_cancel] at ih ⊢
    rw [List.drop_succ_cons, List.getLast?_cons_cons]
    exact ih
theorem slHasPrefix_in (n : Nat) (p : ByteArray) (w : World) :
    CallsIn Fence.wide n Tryz.prog 111 #[.string p, .string ⟨#[47]⟩] w fun e w' => e = .returned (.bool (preSl p)) ∧ w' = w := by
  refine callsIn_of_wp Tryz.func111 rfl trivial ?_ rfl
  simp only [Tryz.ntmps111, List.size_toArray, List.length_cons, List.length_nil, Nat.reduceAdd, Nat.reduceSub, Array.replicate_succ, Array.replicate_zero, List.push_toArray, List.append_toArray, List.nil_append, List.cons_append]
  rcases Nat.eq_zero_or_pos p.size with hp | hp
  · have hh : p.data.toList.head? = none := by
      have : p.data.toList.length = 0 := by rw [Array.length_toList]; exact hp
      rw [List.eq_nil_of_length_eq_zero this]; rfl
    gi_wp2
    go_ret
    refine ⟨?_, rfl⟩
    first | (unfold preSl; rw [hh]; rfl) | (unfold sufSl; rw [hh]; rfl)
  · have h1 : (1 : Int) ≤ (p.size : Int) := by omega
    gi_wp2
    go_ret
    refine ⟨?_, rfl⟩
    show Ending.returned (Value.bool ((p.extract 0 1).toList == [47])) = _
    unfold preSl
    rw [ext_data, ← head_of]
    rfl
theorem hasPrefix_in (n : Nat) (p : ByteArray) (w : World) :
    CallsIn Fence.wide n Tryz.prog 66 #[.string p, .string ⟨#[47]⟩] w fun e w' => e = .returned (.bool (preSl p)) ∧ w' = w := by
  refine callsIn_of_wp Tryz.func66 rfl trivial ?_ rfl
  simp only [Tryz.ntmps66, List.size_toArray, List.length_cons, List.length_nil, Nat.reduceAdd, Nat.reduceSub, Array.replicate_succ, Array.replicate_zero, List.push_toArray, List.append_toArray, List.nil_append, List.cons_append]
  gi_wp2_with (refine ⟨trivial, (fun h => by cases h), ?_⟩; gi_at_call 111; refine (slHasPrefix_in _ _ _).mono ?_; rintro e w' ⟨rfl, rfl⟩)
  go_ret
  exact ⟨rfl, rfl⟩
theorem slHasSuffix_in (n : Nat) (p : ByteArray) (hm : p.size ≤ maxLen) (w : World) :
    CallsIn Fence.wide n Tryz.prog 171 #[.string p, .string ⟨#[47]⟩] w fun e w' => e = .returned (.bool (sufSl p)) ∧ w' = w := by
  refine callsIn_of_wp Tryz.func171 rfl trivial ?_ rfl
  simp only [Tryz.ntmps171, List.size_toArray, List.length_cons, List.length_nil, Nat.reduceAdd, Nat.reduceSub, Array.replicate_succ, Array.replicate_zero, List.push_toArray, List.append_toArray, List.nil_append, List.cons_append]
  have hl : p.data.toList.length = p.size := Array.length_toList
  rcases Nat.eq_zero_or_pos p.size with hp | hp
  · have hh : p.data.toList.getLast? = none := by
      rw [List.eq_nil_of_length_eq_zero (hl.trans hp)]; rfl
    gi_wp2
    go_ret
    refine ⟨?_, rfl⟩
    first | (unfold preSl; rw [hh]; rfl) | (unfold sufSl; rw [hh]; rfl)
  · have h1 : (1 : Int) ≤ (p.size : Int) := by omega
    have hm' : p.size ≤ 9223372036854775807 := hm
    have w1 : wrap64 ((p.size : Int) - 1) = (p.size : Int) - 1 := Go.IntWalk.wrap64_in _ (by omega)
    have h0 : (0 : Int) ≤ (p.size : Int) - 1 := by omega
    have h2 : (p.size : Int) - 1 ≤ (p.size : Int) := by omega
    clear hm hm'
    gi_wp2
    go_ret
    refine ⟨?_, rfl⟩
    show Ending.returned (Value.bool ((p.extract (p.size - 1) p.size).toList == [47])) = _
    have e1 : p.size - (p.size - 1) = 1 := by omega
    unfold sufSl
    rw [ext_data, e1, ← last_of (by omega), hl]
theorem hasSuffix_in (n : Nat) (p : ByteArray) (hp : p.size ≤ maxLen) (w : World) :
    CallsIn Fence.wide n Tryz.prog 237 #[.string p, .string ⟨#[47]⟩] w fun e w' => e = .returned (.bool (sufSl p)) ∧ w' = w := by
  refine callsIn_of_wp Tryz.func237 rfl trivial ?_ rfl
  simp only [Tryz.ntmps237, List.size_toArray, List.length_cons, List.length_nil, Nat.reduceAdd, Nat.reduceSub, Array.replicate_succ, Array.replicate_zero, List.push_toArray, List.append_toArray, List.nil_append, List.cons_append]
  gi_wp2_with (refine ⟨trivial, (fun h => by cases h), ?_⟩; gi_at_call 171; refine (slHasSuffix_in _ _ hp _).mono ?_; rintro e w' ⟨rfl, rfl⟩)
  go_ret
  exact ⟨rfl, rfl⟩

end Go.Proofs.YtfjflodicgjihaaGreatDoor.Den
