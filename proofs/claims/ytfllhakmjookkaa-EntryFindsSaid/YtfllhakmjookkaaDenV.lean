/- The entries' functions, by a plain reading of the text. -/
import Derived.Test.YtfllhakmjookkaaDenS
set_option linter.unusedVariables false
set_option linter.unusedSimpArgs false
namespace Go.Proofs.Ytfllhakmjookkaa.Den
open Go Go.RowKit

/-! ### numbers -/
theorem wrap_i64 {a : Int} (h1 : -9223372036854775808 ≤ a) (h2 : a ≤ 9223372036854775807) : IntKind.i64.wrap a = a := by
  have e1 : (2 : Int) ^ 64 = 18446744073709551616 := by decide
  have e2 : (2 : Int) ^ (64 - 1) = 9223372036854775808 := by decide
  simp only [IntKind.wrap, IntKind.bits, IntKind.signed, e1, e2, Bool.true_and, decide_eq_true_eq]
  split <;> omega

noncomputable def L36 : Code := cAt (codeOf Try.f36) [true,true,false,true,false,false]
def S36 (xs ys : List (List PV)) (i : Nat) : St := ⟨envL [(0, .list 2 false xs), (3, .row [0, TAG] 1 0 i), (4, .v (.int .i64 i))], ⟨hpL [⟨2, 74, ys⟩], fzL [0]⟩⟩
theorem its05 (k : Nat) (l : List Ent) (hl : l.length ≤ 1000) : run0 (k + 1) 36 [.list 2 false (entsP l)] = some (.list 2 false (entsP l)) := by
  have hlen : (entsP l).length = l.length := by simp [entsP]
  have hloop : loopX (KT0 36 3) (codeP (regD PR G0 (C0 (k + 1)) pf0 [] 20) G0 LF (KT0 36) L36) LF (stOf (goStop k 36 20 (adv []) 3 (codeOf Try.f36) (argS [.list 2 false (entsP l)])))
      = some (.exit 0, stOf (go k 36 20 (adv [(3, 3, .eq (.v (.bool false)))]) L36 (S36 (entsP l) (entsP l) l.length))) := by
    have hk : KT0 36 3 = some [0, 3, 4] := by kernel_rfl
    rw [hk]
    obtain ⟨ex, σ', h1, h2⟩ := loop_up (f := codeP (regD PR G0 (C0 (k + 1)) pf0 [] 20) G0 LF (KT0 36) L36) (keep := [0, 3, 4]) l.length (fun i => S36 (entsP l) (entsP (l.take i)) i) (fun r => r = (.exit 0, stOf (go k 36 20 (adv [(3, 3, .eq (.v (.bool false)))]) L36 (S36 (entsP l) (entsP l) l.length))))
      (fun i hi _ => by
        left
        have hi' : i < 1000 := by omega
        refine ⟨_, run_go (adv [(3, 3, .eq (.v (.bool true))), (5, 3, .elem [.v (.string l[i].name), .v (.int .i64 l[i].ino)]), (5, 6, .ok), (4, 1, .eq (.v (.int .i64 ((i + 1 : Nat) : Int))))]) .normal
          [PV.v (.bool (decide ((i : Int) < ((entsP l).length : Int)))) = PV.v (.bool true), 0 ≤ (i : Int) ∧ (entsP l)[(i : Int).toNat]? = some [.v (.string l[i].name), .v (.int .i64 l[i].ino)], i = (entsP (l.take i)).length ∧ i + 1 ≤ 140737488355328 ∧ (i + 1) * 24 ≤ 140737488355328,
            PV.v (.int .i64 (IntKind.i64.wrap ((i + 1 : Nat) : Int))) = PV.v (.int .i64 ((i + 1 : Nat) : Int))]
          (by kernel_rfl) (by kernel_rfl) ⟨?_, ?_, ?_, ?_, trivial⟩, ?_⟩
        · rw [hlen]; simp; omega
        · refine ⟨by omega, ?_⟩
          have : (entsP l)[(i : Int).toNat]? = some (entP l[i]) := by unfold entsP; rw [List.getElem?_map, Int.toNat_natCast, List.getElem?_eq_getElem hi]; rfl
          exact this
        · refine ⟨by simp [entsP]; omega, by omega, by omega⟩
        · rw [wrap_i64 (by omega) (by omega)]
        · rw [entsP_take l hi]
          exact canonA_ok (ft := fun t => t == 0) (fb := fun _ => true) (l := [closedB (.list 2 false (entsP l)) = true, closedLL (entsP (l.take i) ++ [[.v (.string l[i].name), .v (.int .i64 l[i].ino)]]) = true]) (by kernel_rfl)
            ⟨by simpa [closedB] using entsP_closed l, by have := entsP_closed (l.take (i + 1)); rw [entsP_take l hi] at this; exact this, trivial⟩)
      ⟨_, _, by simp, run_go (adv [(3, 3, .eq (.v (.bool false)))]) (.exit 0) [PV.v (.bool (decide ((l.length : Int) < ((entsP l).length : Int)))) = PV.v (.bool false)] (by kernel_rfl) (by kernel_rfl) ⟨by rw [hlen]; simp, trivial⟩, by simp only [List.take_length]⟩ (lf := LF) (by unfold LF; omega)
      (σ := stOf (goStop k 36 20 (adv []) 3 (codeOf Try.f36) (argS [.list 2 false (entsP l)])))
      (canonA_ok (ft := fun t => t == 0) (fb := fun _ => false) (l := [closedB (.list 2 false (entsP l)) = true]) (by kernel_rfl) ⟨by simpa [closedB] using entsP_closed l, trivial⟩)
    rw [h2] at h1
    exact h1
  exact ret_go Try.func36 Try.ntmps36 (by kernel_rfl) (by kernel_rfl) (by simp) (adv [] [(3, .exit 0, stOf (go k 36 20 (adv [(3, 3, .eq (.v (.bool false)))]) L36 (S36 (entsP l) (entsP l) l.length)))]) .ret
    [loopX (KT0 36 3) (codeP (regD PR G0 (C0 (k + 1)) pf0 [] 20) G0 LF (KT0 36) L36) LF (stOf (goStop k 36 20 (adv []) 3 (codeOf Try.f36) (argS [.list 2 false (entsP l)]))) = some (.exit 0, stOf (go k 36 20 (adv [(3, 3, .eq (.v (.bool false)))]) L36 (S36 (entsP l) (entsP l) l.length)))]
    [(0 : Nat) = 0 ∧ l.length = (entsP l).length, closedLL (entsP l) = true] _ (by kernel_rfl) rfl (by kernel_rfl) ⟨hloop, trivial⟩ (by kernel_rfl) ⟨⟨rfl, hlen.symm⟩, entsP_closed l, trivial⟩
#print axioms its05
end Go.Proofs.Ytfllhakmjookkaa.Den
