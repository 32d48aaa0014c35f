/- Plain laws of texts: what is done to them, in the words of their bytes; steps that are taken again and again, counted. -/
import Derived.Test.YtbidfkibpjjghaaDoorPl
import Derived.Lib.Index
set_option linter.unusedVariables false
set_option linter.unusedSimpArgs false
namespace Go.Proofs.YtbidfkibpjjghaaDoor.Den
open Go Go.RowKit

/-- the bytes of a text -/
def by_ (s : ByteArray) : List UInt8 := s.data.toList
theorem by_bs (l : List UInt8) : by_ (bs l) = l := rfl
theorem bs_by (s : ByteArray) : bs (by_ s) = s := rfl
theorem by_inj {a b : ByteArray} (h : by_ a = by_ b) : a = b := by rw [← bs_by a, ← bs_by b, h]
theorem size_by (s : ByteArray) : s.size = (by_ s).length := by
  unfold by_; rw [Array.length_toList]; rfl
theorem toList_loop (b : ByteArray) : ∀ (k i : Nat) (r : List UInt8), b.size - i = k → ByteArray.toList.loop b i r = r.reverse ++ (by_ b).drop i
  | 0, i, r, h => by
    unfold ByteArray.toList.loop
    rw [if_neg (by omega), List.drop_eq_nil_of_le (by rw [← size_by]; omega)]; simp
  | k + 1, i, r, h => by
    unfold ByteArray.toList.loop
    have hi : i < b.size := by omega
    rw [if_pos hi, toList_loop b k (i + 1) _ (by omega)]
    have hl : i < (by_ b).length := by rw [← size_by]; exact hi
    rw [List.drop_eq_getElem_cons hl, List.reverse_cons, List.append_assoc]
    congr 2
    have hi2 : i < b.data.size := hi
    simp only [by_, ByteArray.get!, Array.getElem_toList]
    rw [getElem!_pos b.data i hi2]; rfl
theorem toList_by (b : ByteArray) : b.toList = by_ b := by
  unfold ByteArray.toList
  rw [toList_loop b b.size 0 [] (by omega)]; simp
theorem seq_by (a b : ByteArray) : seq a b = (by_ a == by_ b) := by unfold seq; rw [toList_by, toList_by]
theorem seq_eq (a b : ByteArray) : seq a b = decide (a = b) := by
  rw [seq_by]
  by_cases h : a = b
  · subst h; simp
  · simp [h]; exact fun e => h (by_inj e)
theorem by_extract (s : ByteArray) (i j : Nat) : by_ (s.extract i j) = ((by_ s).take j).drop i := by
  simp [by_, List.extract_eq_take_drop, List.drop_take]
theorem by_drop (s : ByteArray) (i : Nat) : by_ (s.extract i s.size) = (by_ s).drop i := by
  rw [by_extract, List.take_of_length_le (by rw [← size_by]; exact Nat.le_refl _)]
theorem by_take (s : ByteArray) (j : Nat) : by_ (s.extract 0 j) = (by_ s).take j := by rw [by_extract]; rfl
theorem by_append (a b : ByteArray) : by_ (a ++ b) = by_ a ++ by_ b := by simp [by_]
theorem gtS_by (s : ByteArray) (i : Nat) : gtS s (i : Int) = (by_ s)[i]? := by
  unfold gtS
  rw [if_pos (by omega), Int.toNat_natCast]
  have key : ∀ {α : Type} (x : α) (y : Option α), True := fun _ _ => trivial
  by_cases h : i < s.size
  · have h2 : i < (by_ s).length := by rw [← size_by]; exact h
    rw [List.getElem?_eq_getElem h2, getElem?_pos s i h]
    congr 1
  · rw [List.getElem?_eq_none (by rw [← size_by]; omega), getElem?_neg s i h]

/-! ### steps -/
theorem iterN_more {α β : Type} {f : α → Option (α ⊕ β)} : ∀ {n m : Nat} {a : α} {b : β}, iterN f n a = some b → n ≤ m → iterN f m a = some b
  | 0, m, a, b, h, _ => by simp [iterN] at h
  | n + 1, 0, a, b, h, hm => by omega
  | n + 1, m + 1, a, b, h, hm => by
    simp only [iterN] at h ⊢
    split at h
    · rename_i a' h1; exact iterN_more h (by omega)
    · exact h
    · cases h
theorem iterN_step {α β : Type} {f : α → Option (α ⊕ β)} {n : Nat} {a a' : α} {r : Option β} (h : f a = some (.inl a')) (k : iterN f n a' = r) : iterN f (n + 1) a = r := by simp only [iterN, h]; exact k
theorem iterN_done {α β : Type} {f : α → Option (α ⊕ β)} {n : Nat} {a : α} {b : β} (h : f a = some (.inr b)) : iterN f (n + 1) a = some b := by simp only [iterN, h]
theorem iterN_LF {α β : Type} {f : α → Option (α ⊕ β)} {n : Nat} {a : α} {b : β} (h : iterN f n a = some b) (hn : n ≤ 1000000000) : iterN f LF a = some b := iterN_more h (Nat.le_of_lt (lt_LF hn))
end Go.Proofs.YtbidfkibpjjghaaDoor.Den
