/- A range over a function whose iterator keeps state in blocks of its own: one law for the caller. -/
import Derived.RangeFuncNested
import Derived.RangeFuncBound
import Derived.RangeFuncCalls
import Derived.RangeFuncLeaves
import Derived.RangeFuncBox
set_option linter.unusedVariables false
set_option linter.unusedSimpArgs false
namespace Go.Proofs.YtfjflodicgjihaaGreatDoor.Den
open Go Go.RowKit

/-- Does not mind new blocks, nor turns of blocks of T. -/
def StabT (T : Nat → Prop) (J : World → Prop) : Prop := ∀ A B row, J A → A.grownBy B row → (∀ r, row = some r → T r) → J B
theorem StabT.alloc {T : Nat → Prop} {J : World → Prop} (h : StabT T J) {W : World} (o : Obj) (hj : J W) : J (W.alloc o) := h W _ none hj (World.grownBy_alloc W o none) (fun r e => by cases e)
theorem StabT.set {T : Nat → Prop} {J : World → Prop} (h : StabT T J) {W : World} {b : Nat} (v : Value) (hj : J W) (h1 : T b) : J (W.setCell ⟨b, 0, none⟩ v) := h W _ (some b) hj (grownBy_setCell' W b v) (fun r e => by cases e; exact h1)
theorem StabT.put {T : Nat → Prop} {J : World → Prop} (h : StabT T J) {W : World} {b : Nat} (o : Obj) (hj : J W) (h1 : T b) : J (W.putObj b o) := h W _ (some b) hj (grownBy_putObj' W b o) (fun r e => by cases e; exact h1)
theorem StabT.sub {T T' : Nat → Prop} {J : World → Prop} (h : StabT T J) (hs : ∀ k, T' k → T k) : StabT T' J := fun A B row hj hg hr => h A B row hj hg fun r e => hs r (hr r e)
theorem StabT.and {T : Nat → Prop} {J K : World → Prop} (h : StabT T J) (k : StabT T K) : StabT T (fun W => J W ∧ K W) := fun A B row hj hg hr => ⟨h A B row hj.1 hg hr, k A B row hj.2 hg hr⟩
theorem StabT.const {T : Nat → Prop} (p : Prop) : StabT T (fun _ => p) := fun _ _ _ hj _ _ => hj
theorem StabT.block {T : Nat → Prop} {b : Nat} {o : Obj} (hb : ¬ T b) : StabT T (fun W => W.heap[b]? = some o) := fun A B row hj hg hr => (hg.block b (Array.getElem?_eq_some_iff.1 hj).1 (fun e => hb (hr b e.symm))).trans hj
theorem StabT.boxed {T : Nat → Prop} {b : Nat} {t : TypeId} {v : Value} (hb : ¬ T b) : StabT T (fun W => Boxed W b t v) := StabT.block hb
theorem StabT.below {T : Nat → Prop} {n : Nat} {w : World} (h0 : n ≤ w.heap.size) (hn : ∀ k, T k → n ≤ k) : StabT T (fun W => Below n w W) := fun A B row hj hg hr => hj.grown hg (Nat.le_trans h0 hj.size) fun k e => hn k (hr k e)
theorem StabT.ex {T : Nat → Prop} {α : Type} {J : α → World → Prop} (h : ∀ x, StabT T (J x)) : StabT T (fun W => ∃ x, J x W) := fun A B row ⟨x, hj⟩ hg hr => ⟨x, h x A B row hj hg hr⟩

theorem YieldAt.wide {n m : Nat} {P : Program} {l : Nat} {args : Array Value} {W : World} {R : Ending → World → Prop} (h : YieldAt Fence.wide n P l args W R) : YieldAt Fence.wide m P l args W R := by
  obtain ⟨fn, tmps, assign, body, hy, hf, hR⟩ := h
  exact ⟨fn, tmps, assign, body, hy, hf, fun c cs _ => hR c cs (fun d hd => by cases hd)⟩
/-- What an iterator promises: all of S comes, or a round says 'no more'; it turns no blocks but its own (T), and lays new ones; the rounds leave its own blocks alone. -/
def SeqT {α : Type} (n : Nat) (P : Program) (gf : Nat) (lb : Array Value) (encs : α → Array Value) (S : List α) (T : Nat → Prop) (W1 : World) : Prop :=
  ∀ (l : Nat) (J : List α → World → Prop) (Jx : World → Prop), (∀ pre, StabT T (J pre)) → StabT T Jx →
    (∀ pre x more A, J pre A → S = pre ++ x :: more → (∀ k, T k → k < A.heap.size) → YieldAt Fence.wide (n - 1) P l (encs x) A fun e B =>
      (∀ k, T k → B.heap[k]? = A.heap[k]?) ∧ ((e = .returned (.bool true) ∧ J (pre ++ [x]) B) ∨ (e = .returned (.bool false) ∧ Jx B))) →
    J [] W1 → CallsIn Fence.wide n P gf (#[.func (.yield l) #[] #[]] ++ lb) W1 fun e W' => (∃ v, e = .returned v) ∧ (J S W' ∨ Jx W')

theorem SeqT.congr {α : Type} {n : Nat} {P : Program} {gf : Nat} {lb : Array Value} {encs : α → Array Value} {S : List α} {T T' : Nat → Prop} {W1 : World} (h : SeqT n P gf lb encs S T W1) (e : ∀ k, T' k ↔ T k) : SeqT n P gf lb encs S T' W1 := by
  have : T' = T := funext fun k => propext (e k)
  rw [this]; exact h
def bodyT {α : Type} (T : Nat → Prop) (I : List α → World → Prop) (Ix : Code → World → Prop) (pre : List α) (A : World) : Exit → Act → World → Prop
  | .normal, _, A' => (∀ k, T k → A'.heap[k]? = A.heap[k]?) ∧ I pre A'
  | .ret, _, A' => (∀ k, T k → A'.heap[k]? = A.heap[k]?) ∧ Ix .ret A'
  | .exit id, _, A' => (∀ k, T k → A'.heap[k]? = A.heap[k]?) ∧ Ix (.exit id) A'
  | .goto t, _, A' => (∀ k, T k → A'.heap[k]? = A.heap[k]?) ∧ Ix (.goto t) A'
  | _, _, _ => False

theorem wpIn_nopanic {F : Fence} {n : Nat} {P : Program} {c : Code} {K : Act → World → Prop} {Q' : Exit → Act → World → Prop} {a : Act} {w : World} (h : c.wpIn F n P (Exit.then K (fun _ _ _ => False)) a w) : c.wpIn F n P (Exit.then K Q') a w :=
  wpIn_mono h fun e a w hq => by cases e <;> first | exact hq | exact hq.elim
theorem wpIn_rangeT {α : Type} {n : Nat} {P : Program} {g : Operand} {ps : Array Tmp} {assign body : Code} {Q : Exit → Act → World → Prop} {a : Act} {w : World}
    {gf : Nat} {lb : Array Value} (hg : a.eval g = .func (.func gf) #[] lb) (eg : ∀ args w, (callFunc gf args).run P w = .ok (.enter gf args) w)
    {encs : α → Array Value} {S : List α} {T : Nat → Prop} (hT0 : T w.heap.size) (hT1 : T (w.heap.size + 1))
    (hseq : ∀ W1, W1.heap.size = w.heap.size + 2 → w.grownBy W1 none → SeqT (n - 1) P gf lb encs S (fun k => T k ∧ k ≠ w.heap.size ∧ k ≠ w.heap.size + 1) W1) (hps : ∀ x, (encs x).size = ps.size)
    (I : List α → World → Prop) (Ix : Code → World → Prop) (hI : ∀ pre, StabT T (I pre)) (hIx : ∀ c, StabT T (Ix c)) (h0 : I [] w) (a₁ : α → Act)
    (hassign : ∀ (l : Nat) (x : α) (W : World) (K : Act → World → Prop), K (a₁ x) W →
      assign.wpIn (Fence.wide.inRound l) (n - 1 - 1) P (Exit.then K (fun _ _ _ => False)) { tmps := (ps.zip (encs x)).foldl (fun t (p, v) => t.setIfInBounds p v) a.tmps, defers := [] } W)
    (hbody : ∀ (l : Nat) (pre : List α) (x : α) (more : List α) (A : World), I pre A → S = pre ++ x :: more → (∀ k, T k → k < A.heap.size) → body.wpIn (Fence.wide.inRound l) (n - 1 - 1) P (bodyT T I Ix (pre ++ [x]) A) (a₁ x) A)
    (hdone : ∀ A, I S A → A.heap[w.heap.size]? = some (.deferred (some [])) → Q .normal { a with defers := { target := .collected w.heap.size, args := #[] } :: a.defers } A)
    (hstop : ∀ c A, Ix c A → A.heap[w.heap.size]? = some (.deferred (some [])) → c.wpIn Fence.wide n P Q { a with defers := { target := .collected w.heap.size, args := #[] } :: a.defers } A) :
    (Code.rangeFunc g ps assign body).wpIn Fence.wide n P Q a w := by
  refine wpIn_rangeFunc ?_
  intro fn hfn
  show ∃ (l : Nat) (mark : List Deferred) (w₁ : World) (d : Deferred) (w₁' : World) (f : FuncId) (args : Array Value) (w₂ : World), (Instr.enterLoop fn a.tmps ps assign body none).run P w = .ok (l, mark) w₁ ∧ _
  obtain ⟨rec, hrec⟩ : ∃ rec : LoopState → Option Code → Loop, rec = fun st pe => { state := st, pending := pe, fn, tmps := a.tmps, params := ps, assign, body, defers := w.heap.size } := ⟨_, rfl⟩
  obtain ⟨W1, hW1⟩ : ∃ W1, (w.alloc (.deferred (some []))).alloc (.loop (rec .ready none)) = W1 := ⟨_, rfl⟩
  have hL1 : W1.heap[w.heap.size + 1]? = some (.loop (rec .ready none)) := by
    rw [← hW1]; have := World.alloc_heap_new (w.alloc (.deferred (some []))) (.loop (rec .ready none)); rwa [World.size_alloc] at this
  have hK1 : W1.heap[w.heap.size]? = some (.deferred (some [])) := by
    rw [← hW1]; exact (Below.heap_alloc _ _ _ (by simp)).trans (World.alloc_heap_new w _)
  have hI1 : I [] W1 := by rw [← hW1]; exact (hI _).alloc _ ((hI _).alloc _ h0)
  have hsz : W1.heap.size = w.heap.size + 2 := by rw [← hW1]; simp
  have hgr : w.grownBy W1 none := by
    rw [← hW1]
    have g1 := World.grownBy_alloc w (.deferred (some [])) none
    have g2 := World.grownBy_alloc (w.alloc (.deferred (some []))) (.loop (rec .ready none)) none
    exact ⟨g2.os.trans g1.os, g2.tape.trans g1.tape, g2.output.trans g1.output, Nat.le_trans g1.size g2.size, fun k hk hr => (g2.block k (Nat.lt_of_lt_of_le hk g1.size) hr).trans (g1.block k hk hr)⟩
  refine ⟨w.heap.size + 1, [{ target := .collected w.heap.size, args := #[] }], W1, { target := .fn (.func gf) lb, args := #[.func (.yield (w.heap.size + 1)) #[] #[]] }, W1, gf,
    #[.func (.yield (w.heap.size + 1)) #[] #[]] ++ lb, W1, ?_, ?_, ?_, ?_, (fun h => by cases h), ?_⟩
  · rw [← hW1, hrec]; exact run_enterLoop_outer _ _ _ _ _
  · simp only [resolve, hg]
    simp [go_sem]
  · intro f' hf'; exact trivial
  · simp [invoke, go_sem, eg]
  refine (hseq W1 hsz hgr (w.heap.size + 1)
    (fun pre A => I pre A ∧ A.heap[w.heap.size + 1]? = some (.loop (rec .ready none)) ∧ A.heap[w.heap.size]? = some (.deferred (some [])))
    (fun A => ∃ c, Ix c A ∧ A.heap[w.heap.size + 1]? = some (.loop (rec .done (some c))) ∧ A.heap[w.heap.size]? = some (.deferred (some [])))
    (fun pre => ((hI pre).sub fun k h => h.1).and ((StabT.block (by simp)).and (StabT.block (by simp))))
    (StabT.ex fun c => ((hIx c).sub fun k h => h.1).and ((StabT.block (by simp)).and (StabT.block (by simp)))) ?_ ⟨hI1, hL1, hK1⟩).mono ?_
  · rintro pre x more A ⟨hi, hl, hk⟩ hS hTA
    have hlt : w.heap.size + 1 < A.heap.size := (Array.getElem?_eq_some_iff.1 hl).1
    have hy := run_yield (P := P) (args := encs x) hl (by rw [hrec]; exact hps x)
    rw [hrec] at hy
    refine ⟨fn, _, assign, body, hy, roundIn_of_wpIn hfn (hassign _ x A _ ⟨_, run_beginRound hl (by rw [hrec]), ?_⟩)⟩
    have hl2 : (A.putObj (w.heap.size + 1) (.loop { rec .ready none with state := .busy })).heap[w.heap.size + 1]? = some (.loop { rec .ready none with state := .busy }) := World.putObj_heap_same hlt
    have hk2 : (A.putObj (w.heap.size + 1) (.loop { rec .ready none with state := .busy })).heap[w.heap.size]? = some (.deferred (some [])) := (World.putObj_heap_other (by omega)).trans hk
    refine wpIn_mono (hbody _ pre x more _ ((hI _).put _ hi hT1) hS fun k hk => ?_) ?_
    · rw [World.putObj_size]
      by_cases e0 : k = w.heap.size
      · omega
      by_cases e1 : k = w.heap.size + 1
      · omega
      exact hTA k ⟨hk, e0, e1⟩
    have fin : ∀ (jump : Option Code) (A3 : World), (∀ k, T k → A3.heap[k]? = (A.putObj (w.heap.size + 1) (.loop { rec .ready none with state := .busy })).heap[k]?) →
        (Instr.endRound (w.heap.size + 1) jump).run P A3 = .ok (.bool jump.isNone) (A3.putObj (w.heap.size + 1) (.loop (rec (if jump.isNone then .ready else .done) jump))) ∧
        (A3.putObj (w.heap.size + 1) (.loop (rec (if jump.isNone then .ready else .done) jump))).heap[w.heap.size + 1]? = some (.loop (rec (if jump.isNone then .ready else .done) jump)) ∧
        (A3.putObj (w.heap.size + 1) (.loop (rec (if jump.isNone then .ready else .done) jump))).heap[w.heap.size]? = some (.deferred (some [])) ∧
        (∀ k, (T k ∧ k ≠ w.heap.size ∧ k ≠ w.heap.size + 1) → (A3.putObj (w.heap.size + 1) (.loop (rec (if jump.isNone then .ready else .done) jump))).heap[k]? = A.heap[k]?) := fun jump A3 hk3 => by
      have hl3 := (hk3 _ hT1).trans hl2
      have := run_endRound (P := P) jump hl3
      rw [hrec] at this ⊢
      exact ⟨this, World.putObj_heap_same (Array.getElem?_eq_some_iff.1 hl3).1, (World.putObj_heap_other (by omega)).trans ((hk3 _ hT0).trans hk2),
        fun k hk => (World.putObj_heap_other hk.2.2).trans ((hk3 k hk.1).trans (World.putObj_heap_other hk.2.2))⟩
    rintro e a3 A3 hp
    cases e with
    | normal =>
      obtain ⟨hk3, hi3⟩ := hp
      obtain ⟨hr, hl4, hk4, hT4⟩ := fin none A3 hk3
      exact ⟨_, _, hr, hT4, .inl ⟨rfl, (hI _).put _ hi3 hT1, hl4, hk4⟩⟩
    | ret =>
      obtain ⟨hk3, hi3⟩ := hp
      obtain ⟨hr, hl4, hk4, hT4⟩ := fin (some .ret) A3 hk3
      exact ⟨_, _, hr, hT4, .inr ⟨rfl, .ret, (hIx _).put _ hi3 hT1, hl4, hk4⟩⟩
    | exit id =>
      obtain ⟨hk3, hi3⟩ := hp
      obtain ⟨hr, hl4, hk4, hT4⟩ := fin (some (.exit id)) A3 hk3
      exact ⟨_, _, hr, hT4, .inr ⟨rfl, .exit id, (hIx _).put _ hi3 hT1, hl4, hk4⟩⟩
    | goto t =>
      obtain ⟨hk3, hi3⟩ := hp
      obtain ⟨hr, hl4, hk4, hT4⟩ := fin (some (.goto t)) A3 hk3
      exact ⟨_, _, hr, hT4, .inr ⟨rfl, .goto t, (hIx _).put _ hi3 hT1, hl4, hk4⟩⟩
    | panic ch => exact hp.elim
    | outgrown => exact hp.elim
  · rintro e W2 ⟨⟨v, rfl⟩, (⟨hi, hl, hk⟩ | ⟨c, hi, hl, hk⟩)⟩
    · exact ⟨none, _, by have := run_endLoop (P := P) hl (by rw [hrec]; simp); rw [hrec] at this; exact this, hdone _ ((hI _).put _ hi hT1) ((World.putObj_heap_other (by omega)).trans hk)⟩
    · exact ⟨some c, _, by have := run_endLoop (P := P) hl (by rw [hrec]; simp); rw [hrec] at this; exact this, hstop c _ ((hIx c).put _ hi hT1) ((World.putObj_heap_other (by omega)).trans hk)⟩
end Go.Proofs.YtfjflodicgjihaaGreatDoor.Den
