/- Texts joined by a program of mine (pack.py): GrowW. -/
import Derived.Test.YtdbekeidlppfiaaGreatDoorGrow
import Derived.Test.YtdbekeidlppfiaaGreatDoorChecked
import Derived.WalkKit
import Derived.Lib.Walk
import Derived.Lib.SliceRun
import Derived.Lib.AppendZerosOnto
set_option linter.unusedVariables false
set_option linter.unusedSimpArgs false
namespace Go.Proofs.YtdbekeidlppfiaaGreatDoor.Den
open Go Go.RowKit Go.Lib
theorem grow_nil (w : World) : Calls Tryz.prog 128 #[.slice none 0 0, .int .i64 0] w fun e w' => e = .returned (.slice none 0 0) ∧ w' = w := by
 go_enter Tryz.func128, Tryz.ntmps128
 go_wp2
 go_ret
 exact ⟨rfl, rfl⟩
set_option maxHeartbeats 4000000 in
set_option maxRecDepth 100000 in
theorem grow_new (n : Nat) (w : World) (h1 : 1 ≤ n) (h2 : n ≤ 1000000) : Calls Tryz.prog 128 #[.slice none 0 0, .int .i64 n] w fun e w' =>
   e = .returned (.slice (some ⟨w.heap.size, 0, none⟩) 0 (grownCap w (0 + n) 0 9)) ∧ w' = w.drew.alloc (.cells (#[] ++ Builtin.zeroCells (Value.string ⟨#[]⟩).cells (0 + n - 0) ++ Builtin.zeroCells (Value.string ⟨#[]⟩).cells (grownCap w (0 + n) 0 9 - (0 + n))) 9) := by
 have a1 : ¬ ((n : Int) < 0) := by omega
 have a4 : (n : Int) > 0 := by omega
 obtain ⟨i0, hi0⟩ : ∃ i, Tryz.prog.info? 9 = some i := ⟨_, rfl⟩
 have hi := hi0
 rw [show Tryz.prog.info? 9 = some (_ : TypeInfo) from rfl] at hi
 have hi := Option.some.inj hi
 have hz : i0.zero = some (Value.string ⟨#[]⟩) := by rw [← hi]; rfl
 have hs : i0.size = 1 := by rw [← hi]; rfl
 have hb : i0.bytes = 16 := by rw [← hi]; rfl
 have hold : (Builtin.firstCells i0.size 0 (.slice none 0 0)).run Tryz.prog w.drew = .ok ([] : List Value).toArray w.drew := run_firstCells_none w.drew i0.size 0 0 0
 have hrz : ∀ ty, (Builtin.append_ #[22, 3] ty #[.slice none 0 0, .int .i64 (n : Int)]).run Tryz.prog w =
   .ok (.slice (some ⟨w.heap.size, 0, none⟩) (0 + n) (grownCap w (0 + n) 0 9)) (w.drew.alloc (.cells (([] : List Value).toArray ++ Builtin.zeroCells (Value.string ⟨#[]⟩).cells (0 + n - 0) ++ Builtin.zeroCells (Value.string ⟨#[]⟩).cells (grownCap w (0 + n) 0 9 - (0 + n))) 9)) := fun ty => by
  have h := Lib.run_append_grow_zeros w 22 3 ty 9 i0 (Value.string ⟨#[]⟩) .i64 .i64 Tryz.underlying22 Tryz.underlying3 hi0 hz none 0 0 [] hold n h1 (by omega) (by omega) (by omega)
   (by rw [hb]; omega)
   (growslice_fits (by omega) (by rw [hb]; omega))
  simpa using h
 have hGn : 0 + n ≤ grownCap w (0 + n) 0 9 := grownCap_ge w _ _ _
 obtain ⟨G, hG⟩ : ∃ G, G = grownCap w (0 + n) 0 9 := ⟨_, rfl⟩
 rw [← hG] at hrz hGn ⊢
 have hG63 : G ≤ 9223372036854775807 := by
  have := grownCap_le_maxLen w (0 + n) 0 9 (by unfold maxLen; omega)
  rw [← hG] at this
  unfold maxLen at this
  omega
 clear hold hG
 go_enter Tryz.func128, Tryz.ntmps128
 go_wp2_with (at_builtin; refine Lib.wpList_append_run _ rfl _ _ _ _ rfl _ _ rfl rfl _ _ (hrz _) ?_)
 all_goals (go_ret; exact ⟨rfl, rfl⟩)
def xGrow : Ans := xGrowT 9
theorem xGrow_ok (G : Glo) : PlainOk Tryz.prog G 128 xGrow := xGrow_of G (z := Value.string ⟨#[]⟩) rfl grow_nil grow_new
end Go.Proofs.YtdbekeidlppfiaaGreatDoor.Den
