/- EntryTwice, by a plain reading of the text. -/
import Derived.Test.YtfllhakmjookkaaDenV
set_option linter.unusedVariables false
set_option linter.unusedSimpArgs false
namespace Go.Proofs.Ytfllhakmjookkaa.Den
open Go Go.RowKit

theorem two_put {l : List Ent} (hs : sortedE l = true) (e f : Ent) (hn : (e.name.toList == f.name.toList) = false) (he : (legalE e.name != 0) = false) : 2 ≤ (putE (putE l e) f).length := by
  have h1 := put_sorted hs e he
  rw [put_len (sorts_of h1) f]
  have h2 := put_len (sorts_of hs) e
  have h3 := find_of_put_other (sorts_of hs) e f.name (ne_symm hn)
  cases hb : (findE (putE l e) f.name).2 with
  | false => simp; omega
  | true =>
    rw [h3] at hb
    simp only [if_true]
    cases l with
    | nil => simp [findE] at hb
    | cons x l =>
      split at h2
      · rename_i hc
        -- both are there: at least two
        cases l with
        | nil =>
          have e1 : (x.name.toList == f.name.toList) = true := by
            cases hx : (x.name.toList == f.name.toList) with
            | true => rfl
            | false => simp [findE, hx] at hb
          have e2 : (x.name.toList == e.name.toList) = true := by
            cases hx : (x.name.toList == e.name.toList) with
            | true => rfl
            | false => simp [findE, hx] at hc
          rw [← eq_of_beq e1, ← eq_of_beq e2] at hn
          simp at hn
        | cons y l => simp at h2 ⊢; omega
      · simp at h2; omega

def lp (l : List Ent) : PV := .list 2 false (entsP l)
theorem lp_closed (l : List Ent) : closedB (lp l) = true := by simpa [lp, closedB] using entsP_closed l
theorem okE_put {l : List Ent} {e : Ent} (h : okE l = true) (he : e.name.size ≤ maxLen) : okE (putE l e) = true := by
  rw [okE_iff] at h ⊢
  intro y hy
  simp only [putE, dropE, List.mem_append, List.mem_filter, List.mem_singleton] at hy
  rcases hy with (hy | rfl) | hy
  · exact h y hy.1.1
  · exact he
  · exact h y hy.1.1
theorem xPut_at {l : List Ent} {n : ByteArray} {k : Int} (h1 : okE l = true) (h2 : n.size ≤ maxLen) (h3 : l.length ≤ 1000) (h4 : sortedE l = true) : xPut [lp l, .agg [.v (.string n), .v (.int .i64 k)]] = some (lp (putE l ⟨n, k⟩)) := by
  simp [xPut, lp, decE_entsP, h1, h2, h3, h4]
theorem xFine_at {l : List Ent} (h1 : okE l = true) : xFine [lp l] = some (.v (.bool (fineE l))) := by
  simp [xFine, lp, decE_entsP, h1]
theorem xLegal_at {n : ByteArray} (h : n.size ≤ maxLen) : xLegal [.v (.string n)] = some (.v (.int .i64 (legalE n))) := by
  simp [xLegal, h]
theorem xSame_at {l m : List Ent} (h1 : okE l = true) (h2 : okE m = true) (h3 : l.length ≤ 1000) : xSame [lp l, lp m] = some (.v (.bool (sameE l m))) := by
  simp [xSame, lp, decE_entsP, h1, h2, h3]

theorem eqB {a b : ByteArray} (h : (a.toList == b.toList) = true) : a = b := name_inj (eq_of_beq h)
set_option maxRecDepth 100000 in
theorem twice_den (k : Nat) (l : List Ent) (a b : ByteArray) (i j : Int) (hok : okE l = true) (ha : a.size ≤ maxLen) (hb : b.size ≤ maxLen) : run0 (k + 2) 11 [lp l, .v (.string a), .v (.string b), .v (.int .i64 i), .v (.int .i64 j)] = some (.v (.bool true)) := by
  cases hf : fineE l with
  | false =>
    exact ret_go (k := k + 1) Try.func11 Try.ntmps11 (by kernel_rfl) (by kernel_rfl) (by simp) (adv [(1, 1, .ret (.v (.bool false)))]) .ret [closedLL (entsP l) = true, xFine [lp l] = some (.v (.bool false))] [] (.v (.bool true)) (by kernel_rfl) rfl (by kernel_rfl) ⟨entsP_closed _, by rw [xFine_at hok, hf], trivial⟩ (by kernel_rfl) trivial
  | true =>
    obtain ⟨hlen, _, hs⟩ := fine_is hf
    cases hla : (legalE a != 0) with
    | true =>
      exact ret_go (k := k + 1) Try.func11 Try.ntmps11 (by kernel_rfl) (by kernel_rfl) (by simp) (adv [(1, 1, .ret (.v (.bool true))), (1, 5, .ret (.v (.int .i64 (legalE a)))), (1, 6, .eq (.v (.bool true)))]) .ret [closedLL (entsP l) = true, xFine [lp l] = some (.v (.bool true)), xLegal [.v (.string a)] = some (.v (.int .i64 (legalE a))), PV.v (.bool (legalE a != 0)) = PV.v (.bool true)] [] (.v (.bool true)) (by kernel_rfl) rfl (by kernel_rfl) ⟨entsP_closed _, by rw [xFine_at hok, hf], xLegal_at ha, by rw [hla], trivial⟩ (by kernel_rfl) trivial
    | false =>
      cases hlb : (legalE b != 0) with
      | true =>
        exact ret_go (k := k + 1) Try.func11 Try.ntmps11 (by kernel_rfl) (by kernel_rfl) (by simp) (adv [(1, 1, .ret (.v (.bool true))), (1, 5, .ret (.v (.int .i64 (legalE a)))), (1, 6, .eq (.v (.bool false))), (1, 10, .ret (.v (.int .i64 (legalE b)))), (1, 11, .eq (.v (.bool true)))]) .ret [closedLL (entsP l) = true, xFine [lp l] = some (.v (.bool true)), xLegal [.v (.string a)] = some (.v (.int .i64 (legalE a))), PV.v (.bool (legalE a != 0)) = PV.v (.bool false), xLegal [.v (.string b)] = some (.v (.int .i64 (legalE b))), PV.v (.bool (legalE b != 0)) = PV.v (.bool true)] [] (.v (.bool true)) (by kernel_rfl) rfl (by kernel_rfl) ⟨entsP_closed _, by rw [xFine_at hok, hf], xLegal_at ha, by rw [hla], xLegal_at hb, by rw [hlb], trivial⟩ (by kernel_rfl) trivial
      | false =>
        have hok1 : okE (putE l ⟨a, i⟩) = true := okE_put hok ha
        have hok2 : okE (putE l ⟨b, j⟩) = true := okE_put hok hb
        have hok12 : okE (putE (putE l ⟨a, i⟩) ⟨b, j⟩) = true := okE_put hok1 hb
        have hok21 : okE (putE (putE l ⟨b, j⟩) ⟨a, i⟩) = true := okE_put hok2 ha
        have hs1 := put_sorted hs ⟨a, i⟩ hla
        have hs2 := put_sorted hs ⟨b, j⟩ hlb
        have g1 := putE_len l ⟨a, i⟩
        have g2 := putE_len l ⟨b, j⟩
        have g12 := putE_len (putE l ⟨a, i⟩) ⟨b, j⟩
        have g21 := putE_len (putE l ⟨b, j⟩) ⟨a, i⟩
        cases hab : (a.toList == b.toList) with
        | false =>
          have h2 := two_put hs ⟨a, i⟩ ⟨b, j⟩ hab hla
          have hd : decide (((entsP (putE (putE l ⟨a, i⟩) ⟨b, j⟩)).length : Int) ≥ 2) = true := by rw [entsP_len, decide_eq_true_eq]; omega
          rw [← hd]
          exact ret_go (k := k + 1) Try.func11 Try.ntmps11 (by kernel_rfl) (by kernel_rfl) (by simp) (adv [(1, 1, .ret (.v (.bool true))), (1, 5, .ret (.v (.int .i64 (legalE a)))), (1, 6, .eq (.v (.bool false))), (1, 10, .ret (.v (.int .i64 (legalE b)))), (1, 11, .eq (.v (.bool false))), (5, 2, .ret (lp (putE l ⟨a, i⟩))), (5, 4, .ret (lp (putE (putE l ⟨a, i⟩) ⟨b, j⟩))), (6, 2, .eq (.v (.bool true))), (7, 1, .ret (lp (putE (putE l ⟨a, i⟩) ⟨b, j⟩))), (7, 4, .ret (lp (putE l ⟨b, j⟩))), (7, 6, .ret (lp (putE (putE l ⟨b, j⟩) ⟨a, i⟩))), (7, 7, .ret (lp (putE (putE l ⟨b, j⟩) ⟨a, i⟩))), (7, 8, .ret (.v (.bool true)))]) .ret [closedLL (entsP l) = true, xFine [lp l] = some (.v (.bool true)), xLegal [.v (.string a)] = some (.v (.int .i64 (legalE a))), PV.v (.bool (legalE a != 0)) = PV.v (.bool false), xLegal [.v (.string b)] = some (.v (.int .i64 (legalE b))), PV.v (.bool (legalE b != 0)) = PV.v (.bool false), closedLL (entsP l) = true, xPut [lp l, PV.agg [.v (.string a), .v (.int .i64 i)]] = some (lp (putE l ⟨a, i⟩)), closedLL (entsP (putE l ⟨a, i⟩)) = true, xPut [lp (putE l ⟨a, i⟩), PV.agg [.v (.string b), .v (.int .i64 j)]] = some (lp (putE (putE l ⟨a, i⟩) ⟨b, j⟩)), PV.v (.bool (!(a.toList == b.toList))) = PV.v (.bool true), closedLL (entsP (putE (putE l ⟨a, i⟩) ⟨b, j⟩)) = true, run0 (k + 1) 36 [lp (putE (putE l ⟨a, i⟩) ⟨b, j⟩)] = some (lp (putE (putE l ⟨a, i⟩) ⟨b, j⟩)), closedLL (entsP l) = true, xPut [lp l, PV.agg [.v (.string b), .v (.int .i64 j)]] = some (lp (putE l ⟨b, j⟩)), closedLL (entsP (putE l ⟨b, j⟩)) = true, xPut [lp (putE l ⟨b, j⟩), PV.agg [.v (.string a), .v (.int .i64 i)]] = some (lp (putE (putE l ⟨b, j⟩) ⟨a, i⟩)), closedLL (entsP (putE (putE l ⟨b, j⟩) ⟨a, i⟩)) = true, run0 (k + 1) 36 [lp (putE (putE l ⟨b, j⟩) ⟨a, i⟩)] = some (lp (putE (putE l ⟨b, j⟩) ⟨a, i⟩)), closedLL (entsP (putE (putE l ⟨a, i⟩) ⟨b, j⟩)) = true, closedLL (entsP (putE (putE l ⟨b, j⟩) ⟨a, i⟩)) = true, xSame [lp (putE (putE l ⟨a, i⟩) ⟨b, j⟩), lp (putE (putE l ⟨b, j⟩) ⟨a, i⟩)] = some (.v (.bool true))] [] (.v (.bool (decide (((entsP (putE (putE l ⟨a, i⟩) ⟨b, j⟩)).length : Int) ≥ 2)))) (by kernel_rfl) rfl (by kernel_rfl) ⟨entsP_closed _, by rw [xFine_at hok, hf], xLegal_at ha, by rw [hla], xLegal_at hb, by rw [hlb], entsP_closed _, xPut_at hok ha (by omega) hs, entsP_closed _, xPut_at hok1 hb (by omega) hs1, by rw [hab]; rfl, entsP_closed _, its05 _ _ (by omega), entsP_closed _, xPut_at hok hb (by omega) hs, entsP_closed _, xPut_at hok2 ha (by omega) hs2, entsP_closed _, its05 _ _ (by omega), entsP_closed _, entsP_closed _, by rw [xSame_at hok12 hok21 (by omega), put_put_comm hs ⟨a, i⟩ ⟨b, j⟩ hab hla hlb, sameE_refl], trivial⟩ (by kernel_rfl) trivial
        | true =>
          exact ret_go (k := k + 1) Try.func11 Try.ntmps11 (by kernel_rfl) (by kernel_rfl) (by simp) (adv [(1, 1, .ret (.v (.bool true))), (1, 5, .ret (.v (.int .i64 (legalE a)))), (1, 6, .eq (.v (.bool false))), (1, 10, .ret (.v (.int .i64 (legalE b)))), (1, 11, .eq (.v (.bool false))), (5, 2, .ret (lp (putE l ⟨a, i⟩))), (5, 4, .ret (lp (putE (putE l ⟨a, i⟩) ⟨b, j⟩))), (6, 2, .eq (.v (.bool false))), (8, 1, .ret (lp (putE (putE l ⟨a, i⟩) ⟨b, j⟩))), (8, 4, .ret (lp (putE l ⟨b, j⟩))), (8, 5, .ret (lp (putE l ⟨b, j⟩))), (8, 6, .ret (.v (.bool true)))]) .ret [closedLL (entsP l) = true, xFine [lp l] = some (.v (.bool true)), xLegal [.v (.string a)] = some (.v (.int .i64 (legalE a))), PV.v (.bool (legalE a != 0)) = PV.v (.bool false), xLegal [.v (.string b)] = some (.v (.int .i64 (legalE b))), PV.v (.bool (legalE b != 0)) = PV.v (.bool false), closedLL (entsP l) = true, xPut [lp l, PV.agg [.v (.string a), .v (.int .i64 i)]] = some (lp (putE l ⟨a, i⟩)), closedLL (entsP (putE l ⟨a, i⟩)) = true, xPut [lp (putE l ⟨a, i⟩), PV.agg [.v (.string b), .v (.int .i64 j)]] = some (lp (putE (putE l ⟨a, i⟩) ⟨b, j⟩)), PV.v (.bool (!(a.toList == b.toList))) = PV.v (.bool false), closedLL (entsP (putE (putE l ⟨a, i⟩) ⟨b, j⟩)) = true, run0 (k + 1) 36 [lp (putE (putE l ⟨a, i⟩) ⟨b, j⟩)] = some (lp (putE (putE l ⟨a, i⟩) ⟨b, j⟩)), closedLL (entsP l) = true, xPut [lp l, PV.agg [.v (.string b), .v (.int .i64 j)]] = some (lp (putE l ⟨b, j⟩)), closedLL (entsP (putE l ⟨b, j⟩)) = true, run0 (k + 1) 36 [lp (putE l ⟨b, j⟩)] = some (lp (putE l ⟨b, j⟩)), closedLL (entsP (putE (putE l ⟨a, i⟩) ⟨b, j⟩)) = true, closedLL (entsP (putE l ⟨b, j⟩)) = true, xSame [lp (putE (putE l ⟨a, i⟩) ⟨b, j⟩), lp (putE l ⟨b, j⟩)] = some (.v (.bool true))] [] (.v (.bool true)) (by kernel_rfl) rfl (by kernel_rfl) ⟨entsP_closed _, by rw [xFine_at hok, hf], xLegal_at ha, by rw [hla], xLegal_at hb, by rw [hlb], entsP_closed _, xPut_at hok ha (by omega) hs, entsP_closed _, xPut_at hok1 hb (by omega) hs1, by rw [hab]; rfl, entsP_closed _, its05 _ _ (by omega), entsP_closed _, xPut_at hok hb (by omega) hs, entsP_closed _, its05 _ _ (by omega), entsP_closed _, entsP_closed _, by rw [xSame_at hok12 hok2 (by omega), put_put_same hs ⟨a, i⟩ ⟨b, j⟩ (eqB hab) hla, sameE_refl], trivial⟩ (by kernel_rfl) trivial
theorem sl_ok {S : Nat → Prop} {w : World} {v : Value} {l : List Ent} (h : entK.Sl S w v l) : okE l = true := by
  rw [okE_iff]
  intro y hy
  obtain ⟨i, hi⟩ := List.mem_iff_getElem?.1 hy
  obtain ⟨_, _, _, _, _, _, h3, _⟩ := ent_at h hi
  exact h3.2
theorem entryTwice_den (v : Value) (l : List Ent) (a : ByteArray) (ha : a.size ≤ maxLen) (b : ByteArray) (hb : b.size ≤ maxLen) (i : Int) (hi : (Lit.int .i64 i).wf = true) (j : Int) (hj : (Lit.int .i64 j).wf = true) (w : World) (h : entK.Sl (Old w) w v l) :
    Calls Try.prog 11 #[v, .string a, .string b, .int .i64 i, .int .i64 j] w fun e w' => e = .returned (.bool true) ∧ Below w.heap.size w w' := by
  refine law_true (twice_den 0 l a b i j (sl_ok h) ha hb) (by simp [closedL, lp_closed, closedB]) rfl fun q x u hx hu => ?_
  match q, hx, hu with
  | 0, hx, hu => cases hx; cases hu; exact top_ents h
  | 1, hx, hu => cases hx; cases hu; exact .v _
  | 2, hx, hu => cases hx; cases hu; exact .v _
  | 3, hx, hu => cases hx; cases hu; exact .v _
  | 4, hx, hu => cases hx; cases hu; exact .v _
#print axioms entryTwice_den
end Go.Proofs.Ytfllhakmjookkaa.Den
