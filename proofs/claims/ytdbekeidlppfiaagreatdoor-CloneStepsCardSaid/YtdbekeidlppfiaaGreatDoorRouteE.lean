/- Texts joined by a program of mine (pack.py): RangeT Route RouteB RouteC RouteD RouteE. -/
import Derived.RangeFuncNested
import Derived.RangeFuncBound
import Derived.RangeFuncCalls
import Derived.RangeFuncLeaves
import Derived.RangeFuncBox
import Derived.Shelf.Abstract
import Derived.Shelf.RegionOpen
import Derived.WalkKit
import Derived.OwnWalkIn
import Derived.TacticsInMore
import Derived.LoopNIn
import Derived.LoopIn
import Derived.Maps.AppendAt
import Derived.Lib.IndexLaws
import Derived.Test.YtdbekeidlppfiaaGreatDoorShelf
set_option linter.unusedVariables false
set_option linter.unusedSimpArgs false
namespace Go.Proofs.YtdbekeidlppfiaaGreatDoor.Den
open Go Go.RowKit
def StabT (T : Nat → Prop) (J : World → Prop) : Prop := ∀ A B row, J A → A.grownBy B row → (∀ r, row = some r → T r) → J B
theorem StabT.alloc {T : Nat → Prop} {J : World → Prop} (h : StabT T J) {W : World} (o : Obj) (hj : J W) : J (W.alloc o) := h W _ none hj (World.grownBy_alloc W o none) (fun r e => by cases e)
theorem StabT.set {T : Nat → Prop} {J : World → Prop} (h : StabT T J) {W : World} {b : Nat} (v : Value) (hj : J W) (h1 : T b) : J (W.setCell ⟨b, 0, none⟩ v) := h W _ (some b) hj (grownBy_setCell' W b v) (fun r e => by cases e; exact h1)
theorem StabT.put {T : Nat → Prop} {J : World → Prop} (h : StabT T J) {W : World} {b : Nat} (o : Obj) (hj : J W) (h1 : T b) : J (W.putObj b o) := h W _ (some b) hj (grownBy_putObj' W b o) (fun r e => by cases e; exact h1)
theorem StabT.sub {T T' : Nat → Prop} {J : World → Prop} (h : StabT T J) (hs : ∀ k, T' k → T k) : StabT T' J := fun A B row hj hg hr => h A B row hj hg fun r e => hs r (hr r e)
theorem StabT.and {T : Nat → Prop} {J K : World → Prop} (h : StabT T J) (k : StabT T K) : StabT T (fun W => J W ∧ K W) := fun A B row hj hg hr => ⟨h A B row hj.1 hg hr, k A B row hj.2 hg hr⟩
theorem StabT.const {T : Nat → Prop} (p : Prop) : StabT T (fun _ => p) := fun _ _ _ hj _ _ => hj
theorem StabT.block {T : Nat → Prop} {b : Nat} {o : Obj} (hb : ¬ T b) : StabT T (fun W => W.heap[b]? = some o) := fun A B row hj hg hr => (hg.block b (Array.getElem?_eq_some_iff.1 hj).1 (fun e => hb (hr b e.symm))).trans hj
theorem StabT.boxed {T : Nat → Prop} {b : Nat} {t : TypeId} {v : Value} (hb : ¬ T b) : StabT T (fun W => Boxed W b t v) := StabT.block hb
theorem StabT.below {T : Nat → Prop} {n : Nat} {w : World} (h0 : n ≤ w.heap.size) (hn : ∀ k, T k → n ≤ k) : StabT T (fun W => Below n w W) := fun A B row hj hg hr => hj.grown hg (Nat.le_trans h0 hj.size) fun k e => hn k (hr k e)
theorem StabT.ex {T : Nat → Prop} {α : Type} {J : α → World → Prop} (h : ∀ x, StabT T (J x)) : StabT T (fun W => ∃ x, J x W) := fun A B row ⟨x, hj⟩ hg hr => ⟨x, h x A B row hj hg hr⟩
theorem YieldAt.wide {n m : Nat} {P : Program} {l : Nat} {args : Array Value} {W : World} {R : Ending → World → Prop} (h : YieldAt Fence.wide n P l args W R) : YieldAt Fence.wide m P l args W R := by
 obtain ⟨fn, tmps, assign, body, hy, hf, hR⟩ := h
 exact ⟨fn, tmps, assign, body, hy, hf, fun c cs _ => hR c cs (fun d hd => by cases hd)⟩
def SeqT {α : Type} (n : Nat) (P : Program) (gf : Nat) (lb : Array Value) (encs : α → Array Value) (S : List α) (T : Nat → Prop) (W1 : World) : Prop :=
 ∀ (l : Nat) (J : List α → World → Prop) (Jx : World → Prop), (∀ pre, StabT T (J pre)) → StabT T Jx →
  (∀ pre x more A, J pre A → S = pre ++ x :: more → (∀ k, T k → k < A.heap.size) → YieldAt Fence.wide (n - 1) P l (encs x) A fun e B =>
   (∀ k, T k → B.heap[k]? = A.heap[k]?) ∧ ((e = .returned (.bool true) ∧ J (pre ++ [x]) B) ∨ (e = .returned (.bool false) ∧ Jx B))) →
  J [] W1 → CallsIn Fence.wide n P gf (#[.func (.yield l) #[] #[]] ++ lb) W1 fun e W' => (∃ v, e = .returned v) ∧ (J S W' ∨ Jx W')
theorem SeqT.congr {α : Type} {n : Nat} {P : Program} {gf : Nat} {lb : Array Value} {encs : α → Array Value} {S : List α} {T T' : Nat → Prop} {W1 : World} (h : SeqT n P gf lb encs S T W1) (e : ∀ k, T' k ↔ T k) : SeqT n P gf lb encs S T' W1 := by
 have : T' = T := funext fun k => propext (e k)
 rw [this]; exact h
def bodyT {α : Type} (T : Nat → Prop) (I : List α → World → Prop) (Ix : Code → World → Prop) (pre : List α) (A : World) : Exit → Act → World → Prop
 | .normal, _, A' => (∀ k, T k → A'.heap[k]? = A.heap[k]?) ∧ I pre A'
 | .ret, _, A' => (∀ k, T k → A'.heap[k]? = A.heap[k]?) ∧ Ix .ret A'
 | .exit id, _, A' => (∀ k, T k → A'.heap[k]? = A.heap[k]?) ∧ Ix (.exit id) A'
 | .goto t, _, A' => (∀ k, T k → A'.heap[k]? = A.heap[k]?) ∧ Ix (.goto t) A'
 | _, _, _ => False
theorem wpIn_nopanic {F : Fence} {n : Nat} {P : Program} {c : Code} {K : Act → World → Prop} {Q' : Exit → Act → World → Prop} {a : Act} {w : World} (h : c.wpIn F n P (Exit.then K (fun _ _ _ => False)) a w) : c.wpIn F n P (Exit.then K Q') a w :=
 wpIn_mono h fun e a w hq => by cases e <;> first | exact hq | exact hq.elim
theorem wpIn_rangeT {α : Type} {n : Nat} {P : Program} {g : Operand} {ps : Array Tmp} {assign body : Code} {Q : Exit → Act → World → Prop} {a : Act} {w : World}
  {gf : Nat} {lb : Array Value} (hg : a.eval g = .func (.func gf) #[] lb) (eg : ∀ args w, (callFunc gf args).run P w = .ok (.enter gf args) w)
  {encs : α → Array Value} {S : List α} {T : Nat → Prop} (hT0 : T w.heap.size) (hT1 : T (w.heap.size + 1))
  (hseq : ∀ W1, W1.heap.size = w.heap.size + 2 → w.grownBy W1 none → SeqT (n - 1) P gf lb encs S (fun k => T k ∧ k ≠ w.heap.size ∧ k ≠ w.heap.size + 1) W1) (hps : ∀ x, (encs x).size = ps.size)
  (I : List α → World → Prop) (Ix : Code → World → Prop) (hI : ∀ pre, StabT T (I pre)) (hIx : ∀ c, StabT T (Ix c)) (h0 : I [] w) (a₁ : α → Act)
  (hassign : ∀ (l : Nat) (x : α) (W : World) (K : Act → World → Prop), K (a₁ x) W →
   assign.wpIn (Fence.wide.inRound l) (n - 1 - 1) P (Exit.then K (fun _ _ _ => False)) { tmps := (ps.zip (encs x)).foldl (fun t (p, v) => t.setIfInBounds p v) a.tmps, defers := [] } W)
  (hbody : ∀ (l : Nat) (pre : List α) (x : α) (more : List α) (A : World), I pre A → S = pre ++ x :: more → (∀ k, T k → k < A.heap.size) → body.wpIn (Fence.wide.inRound l) (n - 1 - 1) P (bodyT T I Ix (pre ++ [x]) A) (a₁ x) A)
  (hdone : ∀ A, I S A → A.heap[w.heap.size]? = some (.deferred (some [])) → Q .normal { a with defers := { target := .collected w.heap.size, args := #[] } :: a.defers } A)
  (hstop : ∀ c A, Ix c A → A.heap[w.heap.size]? = some (.deferred (some [])) → c.wpIn Fence.wide n P Q { a with defers := { target := .collected w.heap.size, args := #[] } :: a.defers } A) :
  (Code.rangeFunc g ps assign body).wpIn Fence.wide n P Q a w := by
 refine wpIn_rangeFunc ?_
 intro fn hfn
 show ∃ (l : Nat) (mark : List Deferred) (w₁ : World) (d : Deferred) (w₁' : World) (f : FuncId) (args : Array Value) (w₂ : World), (Instr.enterLoop fn a.tmps ps assign body none).run P w = .ok (l, mark) w₁ ∧ _
 obtain ⟨rec, hrec⟩ : ∃ rec : LoopState → Option Code → Loop, rec = fun st pe => { state := st, pending := pe, fn, tmps := a.tmps, params := ps, assign, body, defers := w.heap.size } := ⟨_, rfl⟩
 obtain ⟨W1, hW1⟩ : ∃ W1, (w.alloc (.deferred (some []))).alloc (.loop (rec .ready none)) = W1 := ⟨_, rfl⟩
 have hL1 : W1.heap[w.heap.size + 1]? = some (.loop (rec .ready none)) := by
  rw [← hW1]; have := World.alloc_heap_new (w.alloc (.deferred (some []))) (.loop (rec .ready none)); rwa [World.size_alloc] at this
 have hK1 : W1.heap[w.heap.size]? = some (.deferred (some [])) := by
  rw [← hW1]; exact (Below.heap_alloc _ _ _ (by simp)).trans (World.alloc_heap_new w _)
 have hI1 : I [] W1 := by rw [← hW1]; exact (hI _).alloc _ ((hI _).alloc _ h0)
 have hsz : W1.heap.size = w.heap.size + 2 := by rw [← hW1]; simp
 have hgr : w.grownBy W1 none := by
  rw [← hW1]
  have g1 := World.grownBy_alloc w (.deferred (some [])) none
  have g2 := World.grownBy_alloc (w.alloc (.deferred (some []))) (.loop (rec .ready none)) none
  exact ⟨g2.os.trans g1.os, g2.tape.trans g1.tape, g2.output.trans g1.output, Nat.le_trans g1.size g2.size, fun k hk hr => (g2.block k (Nat.lt_of_lt_of_le hk g1.size) hr).trans (g1.block k hk hr)⟩
 refine ⟨w.heap.size + 1, [{ target := .collected w.heap.size, args := #[] }], W1, { target := .fn (.func gf) lb, args := #[.func (.yield (w.heap.size + 1)) #[] #[]] }, W1, gf,
  #[.func (.yield (w.heap.size + 1)) #[] #[]] ++ lb, W1, ?_, ?_, ?_, ?_, (fun h => by cases h), ?_⟩
 ·rw [← hW1, hrec]; exact run_enterLoop_outer _ _ _ _ _
 ·simp only [resolve, hg]
  simp [go_sem]
 ·intro f' hf'; exact trivial
 ·simp [invoke, go_sem, eg]
 refine (hseq W1 hsz hgr (w.heap.size + 1)
  (fun pre A => I pre A ∧ A.heap[w.heap.size + 1]? = some (.loop (rec .ready none)) ∧ A.heap[w.heap.size]? = some (.deferred (some [])))
  (fun A => ∃ c, Ix c A ∧ A.heap[w.heap.size + 1]? = some (.loop (rec .done (some c))) ∧ A.heap[w.heap.size]? = some (.deferred (some [])))
  (fun pre => ((hI pre).sub fun k h => h.1).and ((StabT.block (by simp)).and (StabT.block (by simp))))
  (StabT.ex fun c => ((hIx c).sub fun k h => h.1).and ((StabT.block (by simp)).and (StabT.block (by simp)))) ?_ ⟨hI1, hL1, hK1⟩).mono ?_
 ·rintro pre x more A ⟨hi, hl, hk⟩ hS hTA
  have hlt : w.heap.size + 1 < A.heap.size := (Array.getElem?_eq_some_iff.1 hl).1
  have hy := run_yield (P := P) (args := encs x) hl (by rw [hrec]; exact hps x)
  rw [hrec] at hy
  refine ⟨fn, _, assign, body, hy, roundIn_of_wpIn hfn (hassign _ x A _ ⟨_, run_beginRound hl (by rw [hrec]), ?_⟩)⟩
  have hl2 : (A.putObj (w.heap.size + 1) (.loop { rec .ready none with state := .busy })).heap[w.heap.size + 1]? = some (.loop { rec .ready none with state := .busy }) := World.putObj_heap_same hlt
  have hk2 : (A.putObj (w.heap.size + 1) (.loop { rec .ready none with state := .busy })).heap[w.heap.size]? = some (.deferred (some [])) := (World.putObj_heap_other (by omega)).trans hk
  refine wpIn_mono (hbody _ pre x more _ ((hI _).put _ hi hT1) hS fun k hk => ?_) ?_
  ·rw [World.putObj_size]
   by_cases e0 : k = w.heap.size
   ·omega
   by_cases e1 : k = w.heap.size + 1
   ·omega
   exact hTA k ⟨hk, e0, e1⟩
  have fin : ∀ (jump : Option Code) (A3 : World), (∀ k, T k → A3.heap[k]? = (A.putObj (w.heap.size + 1) (.loop { rec .ready none with state := .busy })).heap[k]?) →
    (Instr.endRound (w.heap.size + 1) jump).run P A3 = .ok (.bool jump.isNone) (A3.putObj (w.heap.size + 1) (.loop (rec (if jump.isNone then .ready else .done) jump))) ∧
    (A3.putObj (w.heap.size + 1) (.loop (rec (if jump.isNone then .ready else .done) jump))).heap[w.heap.size + 1]? = some (.loop (rec (if jump.isNone then .ready else .done) jump)) ∧
    (A3.putObj (w.heap.size + 1) (.loop (rec (if jump.isNone then .ready else .done) jump))).heap[w.heap.size]? = some (.deferred (some [])) ∧
    (∀ k, (T k ∧ k ≠ w.heap.size ∧ k ≠ w.heap.size + 1) → (A3.putObj (w.heap.size + 1) (.loop (rec (if jump.isNone then .ready else .done) jump))).heap[k]? = A.heap[k]?) := fun jump A3 hk3 => by
   have hl3 := (hk3 _ hT1).trans hl2
   have := run_endRound (P := P) jump hl3
   rw [hrec] at this ⊢
   exact ⟨this, World.putObj_heap_same (Array.getElem?_eq_some_iff.1 hl3).1, (World.putObj_heap_other (by omega)).trans ((hk3 _ hT0).trans hk2),
    fun k hk => (World.putObj_heap_other hk.2.2).trans ((hk3 k hk.1).trans (World.putObj_heap_other hk.2.2))⟩
  rintro e a3 A3 hp
  cases e with
  | normal =>
   obtain ⟨hk3, hi3⟩ := hp
   obtain ⟨hr, hl4, hk4, hT4⟩ := fin none A3 hk3
   exact ⟨_, _, hr, hT4, .inl ⟨rfl, (hI _).put _ hi3 hT1, hl4, hk4⟩⟩
  | ret =>
   obtain ⟨hk3, hi3⟩ := hp
   obtain ⟨hr, hl4, hk4, hT4⟩ := fin (some .ret) A3 hk3
   exact ⟨_, _, hr, hT4, .inr ⟨rfl, .ret, (hIx _).put _ hi3 hT1, hl4, hk4⟩⟩
  | exit id =>
   obtain ⟨hk3, hi3⟩ := hp
   obtain ⟨hr, hl4, hk4, hT4⟩ := fin (some (.exit id)) A3 hk3
   exact ⟨_, _, hr, hT4, .inr ⟨rfl, .exit id, (hIx _).put _ hi3 hT1, hl4, hk4⟩⟩
  | goto t =>
   obtain ⟨hk3, hi3⟩ := hp
   obtain ⟨hr, hl4, hk4, hT4⟩ := fin (some (.goto t)) A3 hk3
   exact ⟨_, _, hr, hT4, .inr ⟨rfl, .goto t, (hIx _).put _ hi3 hT1, hl4, hk4⟩⟩
  | panic ch => exact hp.elim
  | outgrown => exact hp.elim
 ·rintro e W2 ⟨⟨v, rfl⟩, (⟨hi, hl, hk⟩ | ⟨c, hi, hl, hk⟩)⟩
  ·exact ⟨none, _, by have := run_endLoop (P := P) hl (by rw [hrec]; simp); rw [hrec] at this; exact this, hdone _ ((hI _).put _ hi hT1) ((World.putObj_heap_other (by omega)).trans hk)⟩
  ·exact ⟨some c, _, by have := run_endLoop (P := P) hl (by rw [hrec]; simp); rw [hrec] at this; exact this, hstop c _ ((hIx c).put _ hi hT1) ((World.putObj_heap_other (by omega)).trans hk)⟩
end Go.Proofs.YtdbekeidlppfiaaGreatDoor.Den
namespace Go.Proofs.YtdbekeidlppfiaaGreatDoor.Den
open Go Go.RowKit Go.Shelf
attribute [local go_sem] Oper.semAt_some
def pieces : List UInt8 → List (List UInt8)
 | [] => [[]]
 | c :: l => if c = 47 then [] :: pieces l else match pieces l with
  | x :: t => (c :: x) :: t
  | [] => [[c]]
theorem pieces_none : ∀ {l : List UInt8}, (∀ k : Nat, l[k]? ≠ some 47) → pieces l = [l]
 | [], _ => rfl
 | c :: l, h => by
  have hc : c ≠ 47 := fun e => h 0 (by simp [e])
  have ih := pieces_none (l := l) fun k => by simpa using h (k + 1)
  simp only [pieces, if_neg hc, ih]
theorem pieces_some : ∀ {l : List UInt8} {o : Nat}, l[o]? = some 47 → (∀ k : Nat, k < o → l[k]? ≠ some 47) → pieces l = l.take o :: pieces (l.drop (o + 1))
 | [], o, h, _ => by simp at h
 | c :: l, 0, h, _ => by
  simp only [List.getElem?_cons_zero, Option.some.injEq] at h
  subst h
  simp [pieces]
 | c :: l, o + 1, h, hk => by
  have hc : c ≠ 47 := fun e => hk 0 (by omega) (by simp [e])
  have ih := pieces_some (l := l) (o := o) (by simpa using h) fun k hlt => by simpa using hk (k + 1) (by omega)
  simp only [pieces, if_neg hc, ih, List.take_succ_cons, List.drop_succ_cons]
theorem pieces_ne (l : List UInt8) : pieces l ≠ [] := by
 cases l with
 | nil => simp [pieces]
 | cons c l =>
  simp only [pieces]
  split
  ·simp
  ·split <;> simp
def piecesB (s : ByteArray) : List ByteArray := (pieces s.data.toList).map fun l => ⟨⟨l⟩⟩
theorem piecesB_none {s : ByteArray} (h : Lib.indexByte s.data.toList 47 = -1) : piecesB s = [s] := by
 unfold piecesB
 rw [pieces_none (Lib.indexByte_none h)]
 rfl
theorem piecesB_some {s : ByteArray} {o : Nat} (h : Lib.indexByte s.data.toList 47 = o) : piecesB s = s.extract 0 o :: piecesB (s.extract (o + 1) s.size) := by
 obtain ⟨h1, h2⟩ := Lib.indexByte_some h
 unfold piecesB
 rw [pieces_some h1 h2, List.map_cons]
 congr 1
 ·apply ByteArray.ext
  apply Array.ext'
  simp [ByteArray.data_extract, List.take_eq_take_min]
 ·congr 2
  simp only [ByteArray.data_extract, Array.toList_extract, List.extract_eq_take_drop]
  rw [List.take_of_length_le]
  rw [List.length_drop, Array.length_toList]
  exact Nat.le_refl _
def lenAt (b : Nat) (w : World) : Nat := match w.cell? ⟨b, 0, none⟩ with
 | some (.string s) => s.size
 | _ => 0
theorem lenAt_eq {b : Nat} {w : World} {s : ByteArray} (h : w.cell? ⟨b, 0, none⟩ = some (.string s)) : lenAt b w = s.size := by
 unfold lenAt; rw [h]
theorem boxed_set_other {W : World} {B C : Nat} {t : TypeId} {v u : Value} (h : Boxed W B t v) (hne : C ≠ B) : Boxed (W.setCell ⟨C, 0, none⟩ u) B t v := h.kept (grownBy_setCell' W C u) (by simpa using fun e => hne e.symm)
theorem indexByte_lt {l : List UInt8} {c : UInt8} {o : Nat} (h : Lib.indexByte l c = o) : o < l.length := (List.getElem?_eq_some_iff.1 (Lib.indexByte_some h).1).1
set_option maxRecDepth 100000 in
set_option maxHeartbeats 2000000 in
theorem splitSeq1_in (n l bs bp bv : Nat) (s : ByteArray) (J : List ByteArray → World → Prop) (Jx : World → Prop) (hs : s.size ≤ maxLen)
  (hJ : ∀ pre W v v', J pre W → Boxed W bs 9 v → J pre (W.setCell ⟨bs, 0, none⟩ v'))
  (hY : ∀ pre x more W, J pre W → piecesB s = pre ++ x :: more → (bs < W.heap.size ∧ bp < W.heap.size ∧ bv < W.heap.size) → YieldAt Fence.wide (n - 1) Tryz.prog l #[.string x] W fun e W' =>
   (W'.heap[bs]? = W.heap[bs]? ∧ W'.heap[bp]? = W.heap[bp]? ∧ W'.heap[bv]? = W.heap[bv]?) ∧ ((e = .returned (.bool true) ∧ J (pre ++ [x]) W') ∨ (e = .returned (.bool false) ∧ Jx W')))
  (W : World) (h1 : Boxed W bs 9 (.string s)) (h2 : Boxed W bp 9 (.string ⟨#[47]⟩)) (h3 : Boxed W bv 3 (.int .i64 0)) (hd1 : bs ≠ bp) (hd2 : bs ≠ bv) (h0 : J [] W) :
  CallsIn Fence.wide n Tryz.prog 243 #[.func (.yield l) #[] #[], .pointer (some ⟨bp, 0, none⟩), .pointer (some ⟨bs, 0, none⟩), .pointer (some ⟨bv, 0, none⟩)] W fun e W' => (∃ v, e = .returned v) ∧ (J (piecesB s) W' ∨ Jx W') := by
 refine callsIn_of_wp Tryz.func243 rfl trivial ?_ rfl
 simp only [Tryz.ntmps243, List.size_toArray, List.length_cons, List.length_nil, Nat.reduceAdd, Nat.reduceSub, Array.replicate_succ, Array.replicate_zero, List.push_toArray, List.append_toArray, List.nil_append, List.cons_append]
 have c2 := h2.cell
 gi_wp2
 gi_loopw [] (fun wr => ∃ (pre : List ByteArray) (r : ByteArray), r.size ≤ s.size ∧ piecesB s = pre ++ piecesB r ∧ Boxed wr bs 9 (.string r) ∧ Boxed wr bp 9 (.string ⟨#[47]⟩) ∧ Boxed wr bv 3 (.int .i64 0) ∧ J pre wr) (fun wr => lenAt bs wr)
 case atStart => exact ⟨[], s, Nat.le_refl _, rfl, h1, h2, h3, h0⟩
 case round =>
  obtain ⟨pre, r, hr, hp, b1, b2, b3, hj⟩ := hrel
  have c1 := b1.cell
  have c2 := b2.cell
  have c3 := b3.cell
  have f1 := b1.frozen
  rcases Int.lt_or_le (Lib.indexByte r.data.toList 47) 0 with hneg | hpos
  ·have hi : Lib.indexByte r.data.toList 47 = -1 := by have := Lib.indexByte_ge r.data.toList 47; omega
   have hq := piecesB_none hi
   obtain ⟨fn, tmps, assign, body, hy, hR⟩ := hY pre r [] wr hj (by rw [hp, hq]) ⟨b1.lt, b2.lt, b3.lt⟩
   gi_wp2_with (refine ⟨trivial, (fun h => by cases h), ?_⟩; gi_at_call 245; refine (callsIn_wide.2 (Tryz.strings_Index_one _ _ _)).mono ?_; rintro e w' ⟨rfl, rfl⟩; rw [hi])
   refine ⟨(fun h => by cases h), hR.mono ?_⟩
   rintro e W3 ⟨_, (⟨rfl, hJ3⟩ | ⟨rfl, hJx3⟩)⟩
   ·gi_wp2
    go_end0
    exact ⟨⟨_, rfl⟩, .inl (by rw [hp, hq]; exact hJ3)⟩
   ·gi_wp2
    go_end0
    exact ⟨⟨_, rfl⟩, .inr hJx3⟩
  ·obtain ⟨o, hi⟩ : ∃ o : Nat, Lib.indexByte r.data.toList 47 = o := ⟨_, (Int.toNat_of_nonneg hpos).symm⟩
   have hq := piecesB_some hi
   have ho : o < r.size := by have := indexByte_lt hi; simpa using this
   have hm : (o : Int) < 9223372036854775807 := by have : s.size ≤ 2 ^ 63 - 1 := hs; omega
   have w0 : wrap64 (o : Int) = o := Go.IntWalk.wrap64_in _ (by omega)
   have w1 : wrap64 ((o : Int) + 1) = o + 1 := Go.IntWalk.wrap64_in _ (by omega)
   have hle : (o : Int) ≤ (r.size : Int) := by omega
   have hle1 : (o : Int) + 1 ≤ (r.size : Int) := by omega
   obtain ⟨fn, tmps, assign, body, hy, hR⟩ := hY pre (r.extract 0 o) _ wr hj (by rw [hp, hq]) ⟨b1.lt, b2.lt, b3.lt⟩
   have hpq := hp.trans (congrArg (pre ++ ·) hq)
   clear hq hp hm hY hs
   gi_wp2_with (refine ⟨trivial, (fun h => by cases h), ?_⟩; gi_at_call 245; refine (callsIn_wide.2 (Tryz.strings_Index_one _ _ _)).mono ?_; rintro e w' ⟨rfl, rfl⟩; rw [hi])
   refine ⟨(fun h => by cases h), hR.mono ?_⟩
   rintro e W3 ⟨⟨k1, k2, k3⟩, (⟨rfl, hJ3⟩ | ⟨rfl, hJx3⟩)⟩
   ·have b1' : Boxed W3 bs 9 (.string r) := k1.trans b1
    have b2' : Boxed W3 bp 9 (.string ⟨#[47]⟩) := k2.trans b2
    have b3' : Boxed W3 bv 3 (.int .i64 0) := k3.trans b3
    have c1' := b1'.cell
    have c2' := b2'.cell
    have c3' := b3'.cell
    have f1' := b1'.frozen
    gi_wp2
    go_roundw
    case rel => exact ⟨pre ++ [r.extract 0 o], r.extract (o + 1) r.size, by simp; omega, by rw [hpq]; simp, b1'.set _, boxed_set_other b2' hd1, boxed_set_other b3' hd2, hJ _ _ _ _ hJ3 b1'⟩
    case measure =>
     rw [lenAt_eq (b1'.set _).cell, lenAt_eq c1]
     simp
     omega
   ·gi_wp2
    refine bodyPost_ret (results_none rfl _ _ _) rfl ?_
    exact ⟨⟨_, rfl⟩, .inr hJx3⟩
theorem splitSeq1_seq (n bs bp bv : Nat) (s : ByteArray) (hs : s.size ≤ maxLen) (W : World) (h1 : Boxed W bs 9 (.string s)) (h2 : Boxed W bp 9 (.string ⟨#[47]⟩)) (h3 : Boxed W bv 3 (.int .i64 0)) (hd1 : bs ≠ bp) (hd2 : bs ≠ bv) :
  SeqT n Tryz.prog 243 #[.pointer (some ⟨bp, 0, none⟩), .pointer (some ⟨bs, 0, none⟩), .pointer (some ⟨bv, 0, none⟩)] (fun x : ByteArray => #[.string x]) (piecesB s) (fun k => k = bs ∨ k = bp ∨ k = bv) W :=
 fun l J Jx hJ hJx hY h0 => splitSeq1_in n l bs bp bv s J Jx hs (fun pre A v v' hj _ => (hJ pre).set v' hj (.inl rfl))
  (fun pre x more A hj hS hlt => (hY pre x more A hj hS fun k hk => by rcases hk with rfl | rfl | rfl <;> first | exact hlt.1 | exact hlt.2.1 | exact hlt.2.2).mono fun e B h => ⟨⟨h.1 _ (.inl rfl), h.1 _ (.inr (.inl rfl)), h.1 _ (.inr (.inr rfl))⟩, h.2⟩) W h1 h2 h3 hd1 hd2 h0
set_option maxHeartbeats 1000000 in
theorem splitSeq_in (n : Nat) (s : ByteArray) (w : World) :
  CallsIn Fence.wide n Tryz.prog 181 #[.string s, .string ⟨#[47]⟩, .int .i64 0] w fun e w' =>
   e = .returned (.func (.func 243) #[] #[.pointer (some ⟨w.heap.size + 1, 0, none⟩), .pointer (some ⟨w.heap.size, 0, none⟩), .pointer (some ⟨w.heap.size + 1 + 1, 0, none⟩)]) ∧
   w' = ((w.alloc (.cells #[.string s] 9)).alloc (.cells #[.string ⟨#[47]⟩] 9)).alloc (.cells #[.int .i64 0] 3) := by
 refine callsIn_of_wp Tryz.func181 rfl trivial ?_ rfl
 simp only [Tryz.ntmps181, List.size_toArray, List.length_cons, List.length_nil, Nat.reduceAdd, Nat.reduceSub, Array.replicate_succ, Array.replicate_zero, List.push_toArray, List.append_toArray, List.nil_append, List.cons_append]
 gi_wp2
 go_ret
 exact ⟨rfl, rfl⟩
set_option maxHeartbeats 1000000 in
theorem SplitSeq_in (n : Nat) (s : ByteArray) (w : World) :
  CallsIn Fence.wide n Tryz.prog 121 #[.string s, .string ⟨#[47]⟩] w fun e w' =>
   e = .returned (.func (.func 243) #[] #[.pointer (some ⟨w.heap.size + 1, 0, none⟩), .pointer (some ⟨w.heap.size, 0, none⟩), .pointer (some ⟨w.heap.size + 1 + 1, 0, none⟩)]) ∧
   w' = ((w.alloc (.cells #[.string s] 9)).alloc (.cells #[.string ⟨#[47]⟩] 9)).alloc (.cells #[.int .i64 0] 3) := by
 refine callsIn_of_wp Tryz.func121 rfl trivial ?_ rfl
 simp only [Tryz.ntmps121, List.size_toArray, List.length_cons, List.length_nil, Nat.reduceAdd, Nat.reduceSub, Array.replicate_succ, Array.replicate_zero, List.push_toArray, List.append_toArray, List.nil_append, List.cons_append]
 gi_wp2_with (refine ⟨trivial, (fun h => by cases h), ?_⟩; gi_at_call 181; refine (splitSeq_in _ _ _).mono ?_; rintro e w' ⟨rfl, rfl⟩)
 go_ret
 exact ⟨rfl, rfl⟩
def emit : Nat → List ByteArray → List (Int × ByteArray)
 | _, [] => []
 | a, x :: l => if x.size = 0 then emit (a + 1) l else ((a + x.size : Nat), x) :: emit (a + x.size + 1) l
def total : List ByteArray → Nat
 | [] => 0
 | x :: l => x.size + 1 + total l
theorem total_snoc (pre : List ByteArray) (x : ByteArray) : total (pre ++ [x]) = total pre + x.size + 1 := by
 induction pre with
 | nil => simp [total]
 | cons y l ih => simp only [List.cons_append, total, ih]; omega
theorem emit_snoc (x : ByteArray) : ∀ (pre : List ByteArray) (a : Nat), emit a (pre ++ [x]) = emit a pre ++ (if x.size = 0 then [] else [(((a + total pre + x.size : Nat) : Int), x)])
 | [], a => by simp only [List.nil_append, emit, total]; split <;> simp
 | y :: l, a => by
  simp only [List.cons_append, emit, total]
  split
  ·rename_i hy
   rw [emit_snoc x l (a + 1), hy]
   congr 4
   all_goals (try omega)
  ·rw [emit_snoc x l (a + y.size + 1)]
   simp only [List.cons_append]
   congr 5
   all_goals (try omega)
theorem total_pieces : ∀ l : List UInt8, total ((pieces l).map fun l => ⟨⟨l⟩⟩) = l.length + 1
 | [] => rfl
 | c :: l => by
  have ih := total_pieces l
  simp only [pieces]
  split
  ·simp only [List.map_cons, total, ih, List.length_cons]
   show (0 : Nat) + 1 + _ = _
   omega
  ·have hne := pieces_ne l
   split
   ·rename_i x t h
    rw [h] at ih
    simp only [List.map_cons, total, List.length_cons] at ih ⊢
    have e1 : (⟨⟨c :: x⟩⟩ : ByteArray).size = x.length + 1 := rfl
    have e2 : (⟨⟨x⟩⟩ : ByteArray).size = x.length := rfl
    rw [e1]; rw [e2] at ih
    omega
   ·rename_i h
    exact absurd h hne
theorem total_piecesB (s : ByteArray) : total (piecesB s) = s.size + 1 := by
 unfold piecesB
 rw [total_pieces, Array.length_toList]
 rfl
theorem total_le {s : ByteArray} {pre more : List ByteArray} {x : ByteArray} (h : piecesB s = pre ++ x :: more) : total pre + x.size ≤ s.size := by
 have h1 := total_piecesB s
 rw [h] at h1
 have : ∀ (a b : List ByteArray), total (a ++ b) = total a + total b := by
  intro a b
  induction a with
  | nil => simp [total]
  | cons y l ih => simp only [List.cons_append, total, ih]; omega
 rw [this] at h1
 simp only [total] at h1
 omega
def partsB (s : ByteArray) : List (Int × ByteArray) := emit 0 (piecesB s)
end Go.Proofs.YtdbekeidlppfiaaGreatDoor.Den
namespace Go.Proofs.YtdbekeidlppfiaaGreatDoor.Den
open Go Go.RowKit Go.Shelf
attribute [local go_sem] Oper.semAt_some
theorem emit_app : ∀ (pre l : List ByteArray) (a : Nat), emit a (pre ++ l) = emit a pre ++ emit (a + total pre) l
 | [], l, a => by simp [emit, total]
 | y :: t, l, a => by
  simp only [List.cons_append, emit, total]
  split
  ·rename_i hy
   rw [emit_app t l (a + 1), hy]
   congr 2
   omega
  ·rw [emit_app t l (a + y.size + 1), List.cons_append]
   congr 3
   omega
theorem emit_cons {x : ByteArray} (hx : x.size ≠ 0) (l : List ByteArray) (a : Nat) : emit a (x :: l) = (((a + x.size : Nat) : Int), x) :: emit (a + x.size + 1) l := by
 simp only [emit]; rw [if_neg hx]
set_option maxRecDepth 100000 in
set_option maxHeartbeats 4000000 in
theorem parts1_seq (n bq : Nat) (p : ByteArray) (hp : p.size < maxLen) (W : World) (hb : Boxed W bq 9 (.string p)) :
    SeqT n Tryz.prog 120 #[.pointer (some ⟨bq, 0, none⟩)] (fun x : Int × ByteArray => #[.int .i64 x.1, .string x.2]) (partsB p) (fun k => W.heap.size ≤ k ∧ k < W.heap.size + 7) W := by
  intro l0 J Jx hJ hJx hY h0
  refine callsIn_of_wp_marks Tryz.func120 rfl trivial ?_ rfl
  simp only [Tryz.ntmps120, List.size_toArray, List.length_cons, List.length_nil, Nat.reduceAdd, Nat.reduceSub, Array.replicate_succ, Array.replicate_zero, List.push_toArray, List.append_toArray, List.nil_append, List.cons_append]
  have cb : ((W.alloc (.cells #[.func (.yield l0) #[] #[]] 196)).alloc (.cells #[.int .i64 0] 3)).cell? ⟨bq, 0, none⟩ = some (.string p) := ((hb.alloc _).alloc _).cell
  have hY' := hY
  clear hY
  gi_wp2_with (refine ⟨trivial, (fun h => by cases h), ?_⟩; gi_at_call 121; refine (SplitSeq_in _ _ _).mono ?_; rintro e w' ⟨rfl, rfl⟩)
  have b0 : Boxed (((((W.alloc (.cells #[.func (.yield l0) #[] #[]] 196)).alloc (.cells #[.int .i64 0] 3)).alloc (.cells #[.string p] 9)).alloc (.cells #[.string ⟨#[47]⟩] 9)).alloc (.cells #[.int .i64 0] 3)) W.heap.size 196 (.func (.yield l0) #[] #[]) :=
    ((((Boxed.new W _ _).alloc _).alloc _).alloc _).alloc _
  have b1 : Boxed (((((W.alloc (.cells #[.func (.yield l0) #[] #[]] 196)).alloc (.cells #[.int .i64 0] 3)).alloc (.cells #[.string p] 9)).alloc (.cells #[.string ⟨#[47]⟩] 9)).alloc (.cells #[.int .i64 0] 3)) (W.heap.size + 1) 3 (.int .i64 0) := by
    have := (((Boxed.new (W.alloc (.cells #[.func (.yield l0) #[] #[]] 196)) 3 (.int .i64 0)).alloc (.cells #[.string p] 9)).alloc (.cells #[.string ⟨#[47]⟩] 9)).alloc (.cells #[.int .i64 0] 3)
    simpa only [World.size_alloc] using this
  have b2 : Boxed (((((W.alloc (.cells #[.func (.yield l0) #[] #[]] 196)).alloc (.cells #[.int .i64 0] 3)).alloc (.cells #[.string p] 9)).alloc (.cells #[.string ⟨#[47]⟩] 9)).alloc (.cells #[.int .i64 0] 3)) (W.heap.size + 1 + 1) 9 (.string p) := by
    have := ((Boxed.new ((W.alloc (.cells #[.func (.yield l0) #[] #[]] 196)).alloc (.cells #[.int .i64 0] 3)) 9 (.string p)).alloc (.cells #[.string ⟨#[47]⟩] 9)).alloc (.cells #[.int .i64 0] 3)
    simpa only [World.size_alloc] using this
  have b3 : Boxed (((((W.alloc (.cells #[.func (.yield l0) #[] #[]] 196)).alloc (.cells #[.int .i64 0] 3)).alloc (.cells #[.string p] 9)).alloc (.cells #[.string ⟨#[47]⟩] 9)).alloc (.cells #[.int .i64 0] 3)) (W.heap.size + 1 + 1 + 1) 9 (.string ⟨#[47]⟩) := by
    have := (Boxed.new (((W.alloc (.cells #[.func (.yield l0) #[] #[]] 196)).alloc (.cells #[.int .i64 0] 3)).alloc (.cells #[.string p] 9)) 9 (.string ⟨#[47]⟩)).alloc (.cells #[.int .i64 0] 3)
    simpa only [World.size_alloc] using this
  have b4 : Boxed (((((W.alloc (.cells #[.func (.yield l0) #[] #[]] 196)).alloc (.cells #[.int .i64 0] 3)).alloc (.cells #[.string p] 9)).alloc (.cells #[.string ⟨#[47]⟩] 9)).alloc (.cells #[.int .i64 0] 3)) (W.heap.size + 1 + 1 + 1 + 1) 3 (.int .i64 0) := by
    have := Boxed.new ((((W.alloc (.cells #[.func (.yield l0) #[] #[]] 196)).alloc (.cells #[.int .i64 0] 3)).alloc (.cells #[.string p] 9)).alloc (.cells #[.string ⟨#[47]⟩] 9)) 3 (.int .i64 0)
    simpa only [World.size_alloc] using this
  have hj0 : J [] (((((W.alloc (.cells #[.func (.yield l0) #[] #[]] 196)).alloc (.cells #[.int .i64 0] 3)).alloc (.cells #[.string p] 9)).alloc (.cells #[.string ⟨#[47]⟩] 9)).alloc (.cells #[.int .i64 0] 3)) :=
    (hJ _).alloc _ ((hJ _).alloc _ ((hJ _).alloc _ ((hJ _).alloc _ ((hJ _).alloc _ h0))))
  have hsz : (((((W.alloc (.cells #[.func (.yield l0) #[] #[]] 196)).alloc (.cells #[.int .i64 0] 3)).alloc (.cells #[.string p] 9)).alloc (.cells #[.string ⟨#[47]⟩] 9)).alloc (.cells #[.int .i64 0] 3)).heap.size = W.heap.size + 5 := by simp
  revert b0 b1 b2 b3 b4 hj0 hsz
  generalize (((((W.alloc (.cells #[.func (.yield l0) #[] #[]] 196)).alloc (.cells #[.int .i64 0] 3)).alloc (.cells #[.string p] 9)).alloc (.cells #[.string ⟨#[47]⟩] 9)).alloc (.cells #[.int .i64 0] 3)) = W0
  intro b0 b1 b2 b3 b4 hj0 hsz
  refine wpIn_rangeT (gf := 243) rfl (enters_of Tryz.func243 (by kernel_rfl) rfl) (encs := fun x : ByteArray => #[.string x]) (S := piecesB p)
    (T := fun k => W.heap.size + 2 ≤ k ∧ k < W.heap.size + 7) (by omega) (by omega)
    (fun W1 h1 h2 => (splitSeq1_seq _ _ _ _ p (by omega) W1 (b2.kept h2 (by simp)) (b3.kept h2 (by simp)) (b4.kept h2 (by simp)) (by omega) (by omega)).congr fun k => by omega)
    (fun x => rfl)
    (fun pre A => J (emit 0 pre) A ∧ Boxed A (W.heap.size + 1) 3 (.int .i64 (total pre)) ∧ Boxed A W.heap.size 196 (.func (.yield l0) #[] #[]))
    (fun c A => c = .ret ∧ Jx A)
    (fun pre => ((hJ _).sub fun k h => by omega).and ((StabT.boxed (by omega)).and (StabT.boxed (by omega))))
    (fun c => (StabT.const _).and (hJx.sub fun k h => by omega))
    ⟨hj0, b1, b0⟩
    (fun x => { tmps := #[.func (.yield l0) #[] #[], .pointer (some ⟨bq, 0, none⟩), .pointer (some ⟨W.heap.size, 0, none⟩), .pointer (some ⟨W.heap.size + 1, 0, none⟩), .string x, .string p,
      .func (.func 243) #[] #[.pointer (some ⟨W.heap.size + 1 + 1 + 1, 0, none⟩), .pointer (some ⟨W.heap.size + 1 + 1, 0, none⟩), .pointer (some ⟨W.heap.size + 1 + 1 + 1 + 1, 0, none⟩)],
      .string x, undef, undef, undef, undef, undef, undef, undef, undef, undef, undef, undef, undef, undef, undef, undef], defers := [] }) ?assign ?body ?done ?stop
  case assign =>
    intro l x A K hK
    gi_wp2
    exact hK
  case body =>
    rintro l pre x more A ⟨hj, b1, b0⟩ hS hTA
    have hTB : ∀ k, W.heap.size ≤ k ∧ k < W.heap.size + 7 → k < A.heap.size := fun k hk => by
      have h6 := hTA (W.heap.size + 6) (by omega)
      omega
    have htot := total_le hS
    have c1 := b1.cell
    have f1 := b1.frozen
    have c0 := b0.cell
    have hm : p.size < 9223372036854775807 := hp
    have w1 : wrap64 ((total pre : Int) + (x.size : Int)) = ((total pre + x.size : Nat) : Int) := by rw [Go.IntWalk.wrap64_in _ (by omega)]; omega
    have w2 : wrap64 (((total pre + x.size : Nat) : Int) + 1) = ((total (pre ++ [x]) : Nat) : Int) := by rw [Go.IntWalk.wrap64_in _ (by omega), total_snoc]; omega
    rcases Nat.eq_zero_or_pos x.size with hx | hx
    · obtain rfl : x = ByteArray.empty := by
        apply ByteArray.ext
        apply Array.eq_empty_of_size_eq_zero
        exact hx
      have he : emit 0 (pre ++ [ByteArray.empty]) = emit 0 pre := by rw [emit_snoc, if_pos hx]; simp
      have w1' : wrap64 (total pre : Int) = (total pre : Int) := Go.IntWalk.wrap64_in _ (by omega)
      have e2 : ((total (pre ++ [ByteArray.empty]) : Nat) : Int) = (total pre : Int) + 1 := by rw [total_snoc, hx]; omega
      have w2' : wrap64 ((total pre : Int) + 1) = (total pre : Int) + 1 := Go.IntWalk.wrap64_in _ (by omega)
      have b1s : Boxed (A.setCell ⟨W.heap.size + 1, 0, none⟩ (.int .i64 (total pre : Int))) (W.heap.size + 1) 3 _ := b1.set _
      have b0s : Boxed (A.setCell ⟨W.heap.size + 1, 0, none⟩ (.int .i64 (total pre : Int))) W.heap.size 196 _ := boxed_set_other b0 (by omega)
      have c1s := b1s.cell
      have f1s := b1s.frozen
      clear hY' w1 w2
      gi_wp2
      refine ⟨fun _ h => (by cases h), ?_⟩
      gi_wp2
      refine ⟨fun k hk => ?_, ?_, by rw [e2]; exact b1s.set _, boxed_set_other b0s (by omega)⟩
      · exact (Below.heap_setCell _ _ _ k (by show k ≠ W.heap.size + 1; omega)).trans (Below.heap_setCell _ _ _ k (by show k ≠ W.heap.size + 1; omega))
      · rw [he]; exact (hJ _).set _ ((hJ _).set _ hj (by omega)) (by omega)
    · have hne : x.toList.isEmpty = false := by
        rw [ByteArray.toList_eq]
        cases hd : x.data.toList with
        | nil =>
          have : x.data.toList.length = x.size := Array.length_toList
          rw [hd] at this
          simp at this
          omega
        | cons => rfl
      have e1 : ((total pre + x.size : Nat) : Int) = (total pre : Int) + (x.size : Int) := by omega
      have e2 : ((total (pre ++ [x]) : Nat) : Int) = (total pre : Int) + (x.size : Int) + 1 := by rw [total_snoc]; omega
      have he : emit 0 (pre ++ [x]) = emit 0 pre ++ [((total pre : Int) + (x.size : Int), x)] := by rw [emit_snoc, if_neg (by omega), Nat.zero_add, e1]
      have hS' : partsB p = emit 0 pre ++ ((total pre : Int) + (x.size : Int), x) :: emit (total pre + x.size + 1) more := by
        unfold partsB
        rw [hS, emit_app, emit_cons (by omega), Nat.zero_add, e1]
      have w3 : wrap64 ((total pre : Int) + (x.size : Int) + 1) = (total pre : Int) + (x.size : Int) + 1 := Go.IntWalk.wrap64_in _ (by omega)
      rw [e1] at w1
      have b1s : Boxed (A.setCell ⟨W.heap.size + 1, 0, none⟩ (.int .i64 ((total pre : Int) + (x.size : Int)))) (W.heap.size + 1) 3 _ := b1.set _
      have b0s : Boxed (A.setCell ⟨W.heap.size + 1, 0, none⟩ (.int .i64 ((total pre : Int) + (x.size : Int)))) W.heap.size 196 _ := boxed_set_other b0 (by omega)
      obtain ⟨fn, tmps, assign, body, hy, hR⟩ := YieldAt.wide (m := n - 1 - 1 - 1) (hY' (emit 0 pre) ((total pre : Int) + (x.size : Int), x) _ (A.setCell ⟨W.heap.size + 1, 0, none⟩ (.int .i64 ((total pre : Int) + (x.size : Int)))) ((hJ _).set _ hj (by omega)) hS' (fun k hk => Nat.lt_of_lt_of_le (hTB k hk) (KeepsWalks.setCell A _ _).size))
      dsimp only at hy
      have c1s := b1s.cell
      have c0s := b0s.cell
      have f1s := b1s.frozen
      clear hY' hS' w2 hS htot hp hm
      gi_wp2
      refine ⟨(fun h => by cases h), hR.mono ?_⟩
      rintro e A3 ⟨hk, (⟨rfl, hJ3⟩ | ⟨rfl, hJx3⟩)⟩
      · have b1t : Boxed A3 (W.heap.size + 1) 3 (.int .i64 ((total pre : Int) + (x.size : Int))) := (hk _ (by omega)).trans b1s
        have b0t : Boxed A3 W.heap.size 196 (.func (.yield l0) #[] #[]) := (hk _ (by omega)).trans b0s
        have c1t := b1t.cell
        have f1t := b1t.frozen
        gi_wp2
        refine ⟨fun k hk' => ?_, ?_, by rw [e2]; exact b1t.set _, boxed_set_other b0t (by omega)⟩
        · exact (Below.heap_setCell _ _ _ k (by show k ≠ W.heap.size + 1; omega)).trans ((hk k (by omega)).trans (Below.heap_setCell _ _ _ k (by show k ≠ W.heap.size + 1; omega)))
        · rw [he]; exact (hJ _).set _ hJ3 (by omega)
      · gi_wp2
        exact ⟨fun k hk' => (hk k (by omega)).trans (Below.heap_setCell _ _ _ k (by show k ≠ W.heap.size + 1; omega)), rfl, hJx3⟩
  case done =>
    rintro A ⟨hj, _, _⟩ hK
    gi_wp2
    refine ⟨by simp, .inl ⟨_, _, rfl, run_takeDeferred hK, ?_⟩⟩
    exact ⟨_, results_none rfl _ _ _, ⟨_, rfl⟩, .inl ((hJ _).put _ hj (by omega))⟩
  case stop =>
    rintro c A ⟨rfl, hjx⟩ hK
    gi_wp2
    refine ⟨by simp, .inl ⟨_, _, rfl, run_takeDeferred hK, ?_⟩⟩
    exact ⟨_, results_none rfl _ _ _, ⟨_, rfl⟩, .inr (hJx.put _ hjx (by omega))⟩
end Go.Proofs.YtdbekeidlppfiaaGreatDoor.Den
namespace Go.Proofs.YtdbekeidlppfiaaGreatDoor.Den
open Go Go.RowKit Go.Shelf
attribute [local go_sem] Oper.semAt_some
def preSl (p : ByteArray) : Bool := p.data.toList.head? == some 47
def sufSl (p : ByteArray) : Bool := p.data.toList.getLast? == some 47
set_option maxHeartbeats 1000000 in
theorem parts_in (n : Nat) (p : ByteArray) (w : World) :
  CallsIn Fence.wide n Tryz.prog 71 #[.string p] w fun e w' =>
   e = .returned (.func (.func 120) #[] #[.pointer (some ⟨w.heap.size, 0, none⟩)]) ∧ w' = w.alloc (.cells #[.string p] 9) := by
 refine callsIn_of_wp Tryz.func71 rfl trivial ?_ rfl
 simp only [Tryz.ntmps71, List.size_toArray, List.length_cons, List.length_nil, Nat.reduceAdd, Nat.reduceSub, Array.replicate_succ, Array.replicate_zero, List.push_toArray, List.append_toArray, List.nil_append, List.cons_append]
 gi_wp2
 go_ret
 exact ⟨rfl, rfl⟩
theorem head_of {l : List UInt8} : ((l.take 1) == [47]) = (l.head? == some 47) := by
 cases l with
 | nil => rfl
 | cons c l =>
  rw [Bool.eq_iff_iff]
  simp
theorem ext_data (p : ByteArray) (i j : Nat) : (p.extract i j).toList = (p.data.toList.drop i).take (j - i) := by
 rw [ByteArray.toList_eq]
 simp [ByteArray.data_extract, List.extract_eq_take_drop]
theorem last_of : ∀ {l : List UInt8}, 0 < l.length → ((l.drop (l.length - 1)).take 1 == [47]) = (l.getLast? == some 47)
 | [c], _ => by rw [Bool.eq_iff_iff]; simp
 | c :: d :: l, _ => by
  have ih := last_of (l := d :: l) (by simp)
  simp only [List.length_cons, Nat.add_sub_cancel] at ih ⊢
  rw [List.drop_succ_cons, List.getLast?_cons_cons]
  exact ih
theorem slHasPrefix_in (n : Nat) (p : ByteArray) (w : World) :
  CallsIn Fence.wide n Tryz.prog 126 #[.string p, .string ⟨#[47]⟩] w fun e w' => e = .returned (.bool (preSl p)) ∧ w' = w := by
 refine callsIn_of_wp Tryz.func126 rfl trivial ?_ rfl
 simp only [Tryz.ntmps126, List.size_toArray, List.length_cons, List.length_nil, Nat.reduceAdd, Nat.reduceSub, Array.replicate_succ, Array.replicate_zero, List.push_toArray, List.append_toArray, List.nil_append, List.cons_append]
 rcases Nat.eq_zero_or_pos p.size with hp | hp
 ·have hh : p.data.toList.head? = none := by
   have : p.data.toList.length = 0 := by rw [Array.length_toList]; exact hp
   rw [List.eq_nil_of_length_eq_zero this]; rfl
  gi_wp2
  go_ret
  refine ⟨?_, rfl⟩
  first | (unfold preSl; rw [hh]; rfl) | (unfold sufSl; rw [hh]; rfl)
 ·have h1 : (1 : Int) ≤ (p.size : Int) := by omega
  gi_wp2
  go_ret
  refine ⟨?_, rfl⟩
  show Ending.returned (Value.bool ((p.extract 0 1).toList == [47])) = _
  unfold preSl
  rw [ext_data, ← head_of]
  rfl
theorem hasPrefix_in (n : Nat) (p : ByteArray) (w : World) :
  CallsIn Fence.wide n Tryz.prog 80 #[.string p, .string ⟨#[47]⟩] w fun e w' => e = .returned (.bool (preSl p)) ∧ w' = w := by
 refine callsIn_of_wp Tryz.func80 rfl trivial ?_ rfl
 simp only [Tryz.ntmps80, List.size_toArray, List.length_cons, List.length_nil, Nat.reduceAdd, Nat.reduceSub, Array.replicate_succ, Array.replicate_zero, List.push_toArray, List.append_toArray, List.nil_append, List.cons_append]
 gi_wp2_with (refine ⟨trivial, (fun h => by cases h), ?_⟩; gi_at_call 126; refine (slHasPrefix_in _ _ _).mono ?_; rintro e w' ⟨rfl, rfl⟩)
 go_ret
 exact ⟨rfl, rfl⟩
theorem slHasSuffix_in (n : Nat) (p : ByteArray) (hm : p.size ≤ maxLen) (w : World) :
  CallsIn Fence.wide n Tryz.prog 188 #[.string p, .string ⟨#[47]⟩] w fun e w' => e = .returned (.bool (sufSl p)) ∧ w' = w := by
 refine callsIn_of_wp Tryz.func188 rfl trivial ?_ rfl
 simp only [Tryz.ntmps188, List.size_toArray, List.length_cons, List.length_nil, Nat.reduceAdd, Nat.reduceSub, Array.replicate_succ, Array.replicate_zero, List.push_toArray, List.append_toArray, List.nil_append, List.cons_append]
 have hl : p.data.toList.length = p.size := Array.length_toList
 rcases Nat.eq_zero_or_pos p.size with hp | hp
 ·have hh : p.data.toList.getLast? = none := by
   rw [List.eq_nil_of_length_eq_zero (hl.trans hp)]; rfl
  gi_wp2
  go_ret
  refine ⟨?_, rfl⟩
  first | (unfold preSl; rw [hh]; rfl) | (unfold sufSl; rw [hh]; rfl)
 ·have h1 : (1 : Int) ≤ (p.size : Int) := by omega
  have hm' : p.size ≤ 9223372036854775807 := hm
  have w1 : wrap64 ((p.size : Int) - 1) = (p.size : Int) - 1 := Go.IntWalk.wrap64_in _ (by omega)
  have h0 : (0 : Int) ≤ (p.size : Int) - 1 := by omega
  have h2 : (p.size : Int) - 1 ≤ (p.size : Int) := by omega
  clear hm hm'
  gi_wp2
  go_ret
  refine ⟨?_, rfl⟩
  show Ending.returned (Value.bool ((p.extract (p.size - 1) p.size).toList == [47])) = _
  have e1 : p.size - (p.size - 1) = 1 := by omega
  unfold sufSl
  rw [ext_data, e1, ← last_of (by omega), hl]
theorem hasSuffix_in (n : Nat) (p : ByteArray) (hp : p.size ≤ maxLen) (w : World) :
  CallsIn Fence.wide n Tryz.prog 250 #[.string p, .string ⟨#[47]⟩] w fun e w' => e = .returned (.bool (sufSl p)) ∧ w' = w := by
 refine callsIn_of_wp Tryz.func250 rfl trivial ?_ rfl
 simp only [Tryz.ntmps250, List.size_toArray, List.length_cons, List.length_nil, Nat.reduceAdd, Nat.reduceSub, Array.replicate_succ, Array.replicate_zero, List.push_toArray, List.append_toArray, List.nil_append, List.cons_append]
 gi_wp2_with (refine ⟨trivial, (fun h => by cases h), ?_⟩; gi_at_call 188; refine (slHasSuffix_in _ _ hp _).mono ?_; rintro e w' ⟨rfl, rfl⟩)
 go_ret
 exact ⟨rfl, rfl⟩
end Go.Proofs.YtdbekeidlppfiaaGreatDoor.Den
namespace Go.Proofs.YtdbekeidlppfiaaGreatDoor.Den
open Go Go.RowKit Go.Shelf
attribute [local go_sem] Oper.semAt_some
theorem emit_len : ∀ (l : List ByteArray) (a : Nat), (emit a l).length ≤ total l
 | [], _ => Nat.le_refl _
 | x :: l, a => by
  simp only [emit, total]
  split
  ·have := emit_len l (a + 1); omega
  ·have := emit_len l (a + x.size + 1)
   simp only [List.length_cons]
   omega
theorem parts_len (p : ByteArray) : (partsB p).length ≤ p.size + 1 := by
 have := emit_len (piecesB p) 0
 rw [total_piecesB] at this
 exact this
theorem infoStr : (Tryz.prog.info? 9).map (fun i => (i.zero, i.size, i.bytes)) = some (some (.string ByteArray.empty), 1, 16) := by kernel_rfl
theorem ownsRow_stab {T : Nat → Prop} {base : Nat} {e : TypeId} {size : Nat} {v : Value} {k : Nat} {xs : List Value} (hT : ∀ j, T j → j < base) : StabT T (fun W => W.ownsRow base e size v k xs) := fun A B row hj hg hr => by
 refine hj.kept hg ?_
 cases hv : v.ownBlock with
 | none => exact .inl rfl
 | some g =>
  refine .inr fun e => ?_
  have h1 := hr g e.symm
  have h2 := (hj.lt g hv).1
  have := hT g h1
  omega
theorem ownsRow_down {W : World} {b b' : Nat} {e : TypeId} {size : Nat} {v : Value} {k : Nat} {xs : List Value} (h : W.ownsRow b e size v k xs) (hb : b' ≤ b) : W.ownsRow b' e size v k xs := by
 refine ⟨h.1, ?_⟩
 rcases h.2 with h | ⟨g, cap, cur, h1, h2, h3⟩
 ·exact .inl h
 ·exact .inr ⟨g, cap, cur, h1, Nat.le_trans hb h2, h3⟩
set_option maxRecDepth 100000 in
set_option maxHeartbeats 4000000 in
theorem split_in (n : Nat) (p : ByteArray) (hp : p.size ≤ 1000000000) (w : World) :
  CallsIn Fence.wide n Tryz.prog 192 #[.string p] w fun e W' => ∃ v, e = .returned (.tuple #[v, .bool (preSl p), .bool (sufSl p)]) ∧
   W'.ownsRow w.heap.size 9 1 v (partsB p).length ((partsB p).map fun x => .string x.2) ∧ (v = .slice none 0 0 ↔ partsB p = []) ∧ Below w.heap.size w W' := by
 obtain ⟨i0, hi, hz0, hz1, hz2⟩ := info_parts infoStr
 have hmx : p.size ≤ maxLen := Nat.le_trans hp (by decide)
 have hpl := parts_len p
 refine callsIn_of_wp_marks Tryz.func192 rfl trivial ?_ rfl
 simp only [Tryz.ntmps192, List.size_toArray, List.length_cons, List.length_nil, Nat.reduceAdd, Nat.reduceSub, Array.replicate_succ, Array.replicate_zero, List.push_toArray, List.append_toArray, List.nil_append, List.cons_append]
 gi_wp2_with (refine ⟨trivial, (fun h => by cases h), ?_⟩; gi_at_call 71; refine (parts_in _ _ _).mono ?_; rintro e w' ⟨rfl, rfl⟩)
 have bO := (Boxed.new w 22 (.slice none 0 0)).alloc (.cells #[.string p] 9)
 have bP := Boxed.new (w.alloc (.cells #[.slice none 0 0] 22)) 9 (.string p)
 rw [World.size_alloc] at bP
 have hB0 : Below w.heap.size w ((w.alloc (.cells #[.slice none 0 0] 22)).alloc (.cells #[.string p] 9)) := ((Below.refl _ w).alloc (Nat.le_refl _) _).alloc (by simp) _
 have hsz : ((w.alloc (.cells #[.slice none 0 0] 22)).alloc (.cells #[.string p] 9)).heap.size = w.heap.size + 2 := by simp
 revert bO bP hB0 hsz
 generalize (w.alloc (.cells #[.slice none 0 0] 22)).alloc (.cells #[.string p] 9) = W0
 intro bO bP hB0 hsz
 refine wpIn_rangeT (gf := 120) rfl (enters_of Tryz.func120 (by kernel_rfl) rfl) (encs := fun x : Int × ByteArray => #[.int .i64 x.1, .string x.2]) (S := partsB p)
  (T := fun k => w.heap.size + 2 ≤ k ∧ k < w.heap.size + 11) (by omega) (by omega)
  (fun W1 h1 h2 => (parts1_seq _ _ p (by show p.size < 9223372036854775807; omega) W1 (bP.kept h2 (by simp))).congr fun k => by omega)
  (fun x => rfl)
  (fun pre A => (∃ v, Boxed A w.heap.size 22 v ∧ A.ownsRow (w.heap.size + 11) 9 1 v pre.length (pre.map fun x => .string x.2) ∧ (v = .slice none 0 0 ↔ pre = [])) ∧ Below w.heap.size w A)
  (fun _ _ => False)
  (fun pre => (StabT.ex fun v => (StabT.boxed (by omega)).and ((ownsRow_stab fun j hj => by omega).and (StabT.const _))).and (StabT.below (Nat.le_refl _) fun k hk => by omega))
  (fun c => StabT.const _)
  ⟨⟨_, bO, World.ownsRow_nil _ _ _ _, by simp⟩, hB0⟩
  (fun x => { tmps := #[.string p, undef, .pointer (some ⟨w.heap.size, 0, none⟩), .bool false, .bool false, undef, .string x.2, .string p, .func (.func 120) #[] #[.pointer (some ⟨w.heap.size + 1, 0, none⟩)], .int .i64 x.1, .string x.2, undef, undef, undef, undef, undef, undef, undef, undef, undef], defers := [] }) ?assign ?body ?done ?stop
 case assign =>
  intro l x A K hK
  gi_wp2
  exact hK
 case body =>
  rintro l pre x more A ⟨⟨v, hv, hrow, hnil⟩, hB⟩ hS hTA
  have hc := hv.cell
  have hlt : w.heap.size + 11 ≤ A.heap.size := by have := hTA (w.heap.size + 10) (by omega); omega
  have hprl : pre.length + 1 ≤ p.size + 1 := by
   rw [hS] at hpl
   simp at hpl
   omega
  have k1 : pre.length + 1 ≤ maxLen := by show _ ≤ 9223372036854775807; omega
  clear hS hpl hTA
  gi_wp2_with (gi_at_builtin; refine wpListIn_append_own _ rfl _ _ 22 rfl (w.heap.size + 11) 9 i0 (.string ByteArray.empty) 1 16 Tryz.underlying22 hi hz0 hz1 hz2 rfl (by decide) _ _ _ rfl (hrow.alloc _) ⟨A.heap.size, 0, none⟩ 1 1 [.string x.2] rfl rfl (cell_one_new _ _ _) (by simp [Value.oneCell']) k1 (by omega) (by simp; omega) ?_; intro v' w1 hown' hgrow _; obtain ⟨g', cap', rfl⟩ := ownsRow_succ hown'; have hv1 : Boxed w1 w.heap.size 22 v := (hv.alloc _).kept hgrow (hv.not_row (by decide) hrow); have hc1 := hv1.cell; have hf1 := hv1.frozen)
  have hg' := hown'.lt g' rfl
  have hrow1 := hrow.lt
  refine ⟨fun k hk => ?_, ⟨_, hv1.set _, ?_, by simp⟩, ?_⟩
  ·refine (Below.heap_setCell _ _ _ k (by show k ≠ w.heap.size; omega)).trans ((hgrow.block k (by simp; omega) fun e => ?_).trans (heap_alloc_old _ _ _ (by omega)))
   have := (hrow.lt k e.symm).1
   omega
  ·have := hown'.kept (grownBy_setCell' w1 w.heap.size (.slice (some ⟨g', 0, none⟩) (pre.length + 1) cap')) (.inr (by show some g' ≠ some w.heap.size; intro e; cases e; omega))
   simpa using this
  ·exact ((hB.alloc (Nat.le_of_lt hv.lt) _).grown hgrow (by simp; exact Nat.le_of_lt (Nat.lt_succ_of_lt hv.lt)) fun k e => by have := (hrow.lt k e).1; omega).setCell (p := ⟨w.heap.size, 0, none⟩) (Nat.le_refl _) _
 case done =>
  rintro A ⟨⟨v, hv, hrow, hnil⟩, hB⟩ hK
  obtain ⟨a0, n0, c0, rfl⟩ : ∃ a0 n0 c0, v = .slice a0 n0 c0 := by
   rcases hrow.2 with ⟨rfl, _⟩ | ⟨g, cap, cur, rfl, _⟩
   ·exact ⟨_, _, _, rfl⟩
   ·exact ⟨_, _, _, rfl⟩
  have hc := hv.cell
  have hf := hv.frozen
  have hown0 : (Value.slice a0 n0 c0).ownBlock = none ∨ (Value.slice a0 n0 c0).ownBlock ≠ some w.heap.size := by
   cases hv : (Value.slice a0 n0 c0).ownBlock with
   | none => exact .inl rfl
   | some g => have := (hrow.lt g hv).1; exact .inr (fun e => by cases e; omega)
  have hown2 : (Value.slice a0 n0 c0).ownBlock = none ∨ (Value.slice a0 n0 c0).ownBlock ≠ some (w.heap.size + 2) := by
   cases hv : (Value.slice a0 n0 c0).ownBlock with
   | none => exact .inl rfl
   | some g => have := (hrow.lt g hv).1; exact .inr (fun e => by cases e; omega)
  gi_wp2
  refine wpIn_nopanic ?_
  have hmixed : Tryz.prog.follows .mixedOrders = true := by kernel_rfl
  gi_region_with_o (first | (refine ⟨trivial, (fun h => by cases h), ?_⟩; gi_at_call 80; refine (hasPrefix_in _ _ _).mono ?_; rintro e w' ⟨rfl, rfl⟩) | (refine ⟨trivial, (fun h => by cases h), ?_⟩; gi_at_call 250; refine (hasSuffix_in _ _ hmx _).mono ?_; rintro e w' ⟨rfl, rfl⟩))
  all_goals
   have hv2 : Boxed (A.setCell ⟨w.heap.size, 0, none⟩ (.slice a0 n0 c0)).drew w.heap.size 22 (.slice a0 n0 c0) := hv.set (.slice a0 n0 c0)
   have hK2 : (A.setCell ⟨w.heap.size, 0, none⟩ (.slice a0 n0 c0)).drew.heap[w.heap.size + 2]? = some (.deferred (some [])) := (Below.heap_setCell A _ _ _ (by show w.heap.size + 2 ≠ w.heap.size; omega)).trans (by rw [← hsz]; exact hK)
   have hv3 := hv2.kept (grownBy_putObj' _ (w.heap.size + 2) (.deferred none)) (by simp)
   have hc3 := hv3.cell
   gi_wp2
   refine ⟨by simp, .inl ⟨_, _, rfl, run_takeDeferred hK2, ?_⟩⟩
   show ∃ v, (results Tryz.f192 #[.string p, undef, .pointer (some ⟨w.heap.size, 0, none⟩), .bool (preSl p), .bool (sufSl p), undef, undef, .string p, .func (.func 120) #[] #[.pointer (some ⟨w.heap.size + 1, 0, none⟩)], undef, undef, undef, undef, undef, undef, .slice a0 n0 c0, .string p, .bool (preSl p), .string p, .bool (sufSl p)]).run Tryz.prog _ = .ok v _ ∧ _
   refine ⟨.tuple #[.slice a0 n0 c0, .bool (preSl p), .bool (sufSl p)], by simp [results, Tryz.results192, go_sem, hc3]; try rfl, .slice a0 n0 c0, rfl, ?_, hnil, ?_⟩
  all_goals first | exact ownsRow_down ((((hrow.kept (grownBy_setCell' A w.heap.size _) (hown0)).drew).kept (grownBy_putObj' _ (w.heap.size + 2) (.deferred none)) hown2)) (Nat.le_add_right _ _) | exact ((hB.setCell (p := ⟨w.heap.size, 0, none⟩) (Nat.le_refl _) _).drew).grown (grownBy_putObj' _ (w.heap.size + 2) (.deferred none)) (by show w.heap.size ≤ (A.setCell _ _).heap.size; exact Nat.le_trans hB.size (KeepsWalks.setCell A _ _).size) (fun k e => by cases e; omega)
 case stop =>
  rintro c A h
  exact h.elim
end Go.Proofs.YtdbekeidlppfiaaGreatDoor.Den
namespace Go.Proofs.YtdbekeidlppfiaaGreatDoor.Den
open Go Go.RowKit Go.Shelf
attribute [local go_sem] Oper.semAt_some
def checkV (p : ByteArray) : Int :=
 if p.size = 0 then 2 else if 100 < p.size then 9 else if 0 ≤ Lib.indexByte p.data.toList 0 then 1 else if (partsB p).any (fun x => decide (12 < x.2.size)) then 9 else 0
def Shorts (l : List (Int × ByteArray)) : Prop := ∀ x ∈ l, x.2.size ≤ 12
theorem Shorts.no {l : List (Int × ByteArray)} (h : Shorts l) : l.any (fun x => decide (12 < x.2.size)) = false := by
 rw [List.any_eq_false]
 intro x hx hd
 have := h x hx
 have := of_decide_eq_true hd
 omega
theorem Shorts.snoc {l : List (Int × ByteArray)} (h : Shorts l) {x : Int × ByteArray} (hx : ¬ 12 < x.2.size) : Shorts (l ++ [x]) := by
 intro y hy
 rcases List.mem_append.1 hy with hy | hy
 ·exact h y hy
 ·rw [List.mem_singleton] at hy
  subst hy
  omega
set_option maxRecDepth 100000 in
set_option maxHeartbeats 4000000 in
theorem check_in (n : Nat) (p : ByteArray) (w : World) :
    CallsIn Fence.wide n Tryz.prog 27 #[.string p] w fun e W' => e = .returned (.int .i64 (checkV p)) ∧ Below w.heap.size w W' := by
  refine callsIn_of_wp_marks Tryz.func27 rfl trivial ?_ rfl
  simp only [Tryz.ntmps27, List.size_toArray, List.length_cons, List.length_nil, Nat.reduceAdd, Nat.reduceSub, Array.replicate_succ, Array.replicate_zero, List.push_toArray, List.append_toArray, List.nil_append, List.cons_append]
  have hB1 : Below w.heap.size w (w.alloc (.cells #[.int .i64 0] 27)) := (Below.refl _ w).alloc (Nat.le_refl _) _
  have b0 := Boxed.new w 27 (.int .i64 0)
  have c0 := b0.cell
  have f0 := b0.frozen
  have hend : ∀ k : Int, Boxed ((w.alloc (.cells #[.int .i64 0] 27)).setCell ⟨w.heap.size, 0, none⟩ (.int .i64 k)) w.heap.size 27 (.int .i64 k) ∧ Below w.heap.size w ((w.alloc (.cells #[.int .i64 0] 27)).setCell ⟨w.heap.size, 0, none⟩ (.int .i64 k)) := fun k =>
    ⟨b0.set _, hB1.setCell (p := ⟨w.heap.size, 0, none⟩) (Nat.le_refl _) _⟩
  by_cases h0 : p.size = 0
  · have hv : checkV p = 2 := by unfold checkV; rw [if_pos h0]
    obtain rfl : p = ByteArray.empty := by
      apply ByteArray.ext
      apply Array.eq_empty_of_size_eq_zero
      exact h0
    gi_wp2
    refine ⟨.int .i64 2, by simp [results, Tryz.results27, go_sem]; try rfl, by rw [hv], (Below.refl _ w).alloc (Nat.le_refl _) _⟩
  have hne : p.toList.isEmpty = false := by
    rw [ByteArray.toList_eq]
    cases hd : p.data.toList with
    | nil =>
      have : p.data.toList.length = p.size := Array.length_toList
      rw [hd] at this
      simp at this
      omega
    | cons => rfl
  by_cases h1 : 100 < p.size
  · have hv : checkV p = 9 := by unfold checkV; rw [if_neg h0, if_pos h1]
    have h1' : (100 : Int) < (p.size : Int) := by omega
    gi_wp2
    refine ⟨.int .i64 9, by simp [results, Tryz.results27, go_sem]; try rfl, by rw [hv], (Below.refl _ w).alloc (Nat.le_refl _) _⟩
  have h1' : ¬ (100 : Int) < (p.size : Int) := by omega
  by_cases h2 : 0 ≤ Lib.indexByte p.data.toList 0
  · have hv : checkV p = 1 := by unfold checkV; rw [if_neg h0, if_neg h1, if_pos h2]
    gi_wp2_with (refine ⟨trivial, (fun h => by cases h), ?_⟩; gi_at_call 70; refine (callsIn_wide.2 (Tryz.strings_IndexByte _ _ _)).mono ?_; rintro e w' ⟨rfl, rfl⟩; have e0 : (Int.toNat 0).toUInt8 = 0 := rfl; rw [e0])
    refine ⟨.int .i64 1, by simp [results, Tryz.results27, go_sem]; try rfl, by rw [hv], (Below.refl _ w).alloc (Nat.le_refl _) _⟩
  have hvY : (partsB p).any (fun x => decide (12 < x.2.size)) = true → checkV p = 9 := fun h => by unfold checkV; rw [if_neg h0, if_neg h1, if_neg h2, if_pos h]
  have hvN : (partsB p).any (fun x => decide (12 < x.2.size)) = false → checkV p = 0 := fun h => by unfold checkV; rw [if_neg h0, if_neg h1, if_neg h2, if_neg (by rw [h]; exact Bool.false_ne_true)]
  gi_wp2_with first | (refine ⟨trivial, (fun h => by cases h), ?_⟩; gi_at_call 70; refine (callsIn_wide.2 (Tryz.strings_IndexByte _ _ _)).mono ?_; rintro e w' ⟨rfl, rfl⟩; have e0 : (Int.toNat 0).toUInt8 = 0 := rfl; rw [e0]) | (refine ⟨trivial, (fun h => by cases h), ?_⟩; gi_at_call 71; refine (parts_in _ _ _).mono ?_; rintro e w' ⟨rfl, rfl⟩)
  have hB2 : Below w.heap.size w ((w.alloc (.cells #[.int .i64 0] 27)).alloc (.cells #[.string p] 9)) := hB1.alloc (by simp) _
  have b02 : Boxed ((w.alloc (.cells #[.int .i64 0] 27)).alloc (.cells #[.string p] 9)) w.heap.size 27 (.int .i64 0) := b0.alloc _
  have bP := Boxed.new (w.alloc (.cells #[.int .i64 0] 27)) 9 (.string p)
  rw [World.size_alloc] at bP
  have hsz : ((w.alloc (.cells #[.int .i64 0] 27)).alloc (.cells #[.string p] 9)).heap.size = w.heap.size + 2 := by simp
  clear hend hB1 b0 c0 f0
  revert b02 bP hB2 hsz
  generalize (w.alloc (.cells #[.int .i64 0] 27)).alloc (.cells #[.string p] 9) = W0
  intro hB0 bO bP hsz
  refine wpIn_rangeT (gf := 120) rfl (enters_of Tryz.func120 (by kernel_rfl) rfl) (encs := fun x : Int × ByteArray => #[.int .i64 x.1, .string x.2]) (S := partsB p)
    (T := fun k => w.heap.size + 2 ≤ k ∧ k < w.heap.size + 11) (by omega) (by omega)
    (fun W1 g1 g2 => (parts1_seq _ _ p (by show p.size < 9223372036854775807; omega) W1 (bP.kept g2 (by simp))).congr fun k => by omega)
    (fun x => rfl)
    (fun pre A => (Boxed A w.heap.size 27 (.int .i64 0) ∧ Shorts pre) ∧ Below w.heap.size w A)
    (fun c A => (Boxed A w.heap.size 27 (.int .i64 9) ∧ (c = .ret ∧ (partsB p).any (fun x => decide (12 < x.2.size)) = true)) ∧ Below w.heap.size w A)
    (fun pre => ((StabT.boxed (by omega)).and (StabT.const _)).and (StabT.below (Nat.le_refl _) fun k hk => by omega))
    (fun c => ((StabT.boxed (by omega)).and (StabT.const _)).and (StabT.below (Nat.le_refl _) fun k hk => by omega))
    ⟨⟨bO, fun x hx => by cases hx⟩, hB0⟩
    (fun x => { tmps := #[.string p, undef, .pointer (some ⟨w.heap.size, 0, none⟩), undef, .string x.2,
          .bool false, .string p, .bool false, .bool false, .string p, .int .i64 p.size, .bool false, .bool (decide (0 ≤ Lib.indexByte p.data.toList 0)),
          .string p, .int .i64 (Lib.indexByte p.data.toList 0), .bool (decide (0 ≤ Lib.indexByte p.data.toList 0)), .string p,
          .func (.func 120) #[] #[.pointer (some ⟨w.heap.size + 1, 0, none⟩)], .int .i64 x.1, .string x.2, undef, undef, undef], defers := [] }) ?assign ?body ?done ?stop
  case assign =>
    intro l x A K hK
    gi_wp2
    exact hK
  case body =>
    rintro l pre x more A ⟨⟨hv, hall⟩, hB⟩ hS hTA
    have hc := hv.cell
    have hf := hv.frozen
    by_cases hx : 12 < x.2.size
    · have hx' : (12 : Int) < (x.2.size : Int) := by omega
      have hany : (partsB p).any (fun x => decide (12 < x.2.size)) = true := List.any_eq_true.2 ⟨x, by rw [hS]; simp, decide_eq_true hx⟩
      clear hS hTA
      gi_wp2
      exact ⟨fun k hk => Below.heap_setCell _ _ _ k (by show k ≠ w.heap.size; omega), ⟨hv.set _, rfl, hany⟩, hB.setCell (p := ⟨w.heap.size, 0, none⟩) (Nat.le_refl _) _⟩
    · have hx' : ¬ (12 : Int) < (x.2.size : Int) := by omega
      have hsn := hall.snoc hx
      clear hS hTA
      gi_wp2
      exact ⟨fun k hk => rfl, ⟨hv, hsn⟩, hB⟩
  case done =>
    rintro A ⟨⟨hv, hall⟩, hB⟩ hK
    have hc := hv.cell
    have hf := hv.frozen
    have hval := hvN hall.no
    have hv2 : Boxed (A.setCell ⟨w.heap.size, 0, none⟩ (.int .i64 0)) w.heap.size 27 (.int .i64 0) := hv.set _
    have hK2 : (A.setCell ⟨w.heap.size, 0, none⟩ (.int .i64 0)).heap[w.heap.size + 2]? = some (.deferred (some [])) := (Below.heap_setCell A _ _ _ (by show w.heap.size + 2 ≠ w.heap.size; omega)).trans (by rw [← hsz]; exact hK)
    have hv3 := hv2.kept (grownBy_putObj' _ (w.heap.size + 2) (.deferred none)) (by simp)
    have hc3 := hv3.cell
    gi_wp2
    refine ⟨by simp, .inl ⟨_, _, rfl, by rw [hsz]; exact run_takeDeferred hK2, ?_⟩⟩
    exact ⟨.int .i64 0, by simp [results, Tryz.results27, go_sem, hc3]; try rfl, by rw [hval],
      (hB.setCell (p := ⟨w.heap.size, 0, none⟩) (Nat.le_refl _) _).grown (grownBy_putObj' _ (w.heap.size + 2) (.deferred none)) (by show w.heap.size ≤ (A.setCell _ _).heap.size; exact Nat.le_trans hB.size (KeepsWalks.setCell A _ _).size) (fun k e => by cases e; omega)⟩
  case stop =>
    rintro c A ⟨⟨hv, rfl, hany⟩, hB⟩ hK
    have hval := hvY hany
    have hv3 := hv.kept (grownBy_putObj' _ (w.heap.size + 2) (.deferred none)) (by simp)
    have hc3 := hv3.cell
    gi_wp2
    refine ⟨by simp, .inl ⟨_, _, rfl, by rw [hsz]; exact run_takeDeferred (by rw [← hsz]; exact hK), ?_⟩⟩
    exact ⟨.int .i64 9, by simp [results, Tryz.results27, go_sem, hc3]; try rfl, by rw [hval],
      hB.grown (grownBy_putObj' _ (w.heap.size + 2) (.deferred none)) hB.size (fun k e => by cases e; omega)⟩
end Go.Proofs.YtdbekeidlppfiaaGreatDoor.Den
