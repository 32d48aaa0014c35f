/- Texts joined by a program of mine (pack.py): DenE. -/
import Derived.Test.YtdbekeidlppfiaaGreatDoorDenD
set_option linter.unusedVariables false
set_option linter.unusedSimpArgs false
namespace Go.Proofs.YtdbekeidlppfiaaGreatDoor.Den
open Go Go.RowKit
def inf (P : Program) (e : TypeId) : Option (Nat × Nat × List Value) :=
 match P.info? e with
 | some i => match i.zero with
  | some z => if z.cells.size = i.size ∧ z.cells.all Value.oneCell' = true then some (i.size, i.bytes, z.cells.toList) else none
  | none => none
 | none => none
theorem inf_is {P : Program} {e : TypeId} {sz by_ : Nat} {zl : List Value} (h : inf P e = some (sz, by_, zl)) : ∃ i z, P.info? e = some i ∧ i.zero = some z ∧ i.size = sz ∧ i.bytes = by_ ∧ z.cells.size = sz ∧ z.cells.toList = zl ∧ ∀ u ∈ zl, u.oneCell' = true := by
 unfold inf at h
 split at h
 case h_2 => cases h
 rename_i i hi
 split at h
 case h_2 => cases h
 rename_i z hz
 split at h
 case isFalse => cases h
 rename_i hc
 cases h
 refine ⟨i, z, hi, hz, rfl, rfl, hc.1, rfl, fun u hu => ?_⟩
 have := hc.2
 rw [Array.all_eq_true_iff_forall_mem] at this
 exact this u (by simpa using hu)
section
variable {P : Program}
theorem run_append_none {t ty e : TypeId} (ht : P.underlying t = some (.slice e)) {i : TypeInfo} (hi : P.info? e = some i) (w : World) (b : Option Addr) (n cap : Nat) (h : n ≤ cap) :
  (Builtin.append_ #[t, t] ty #[.slice b n cap, .slice none 0 0]).run P w = .ok (.slice b n cap) w := by
 cases b <;> simp [Builtin.append_, run_underlying ht, sizeOf, typeInfo, hi, Builtin.lenOf, Builtin.firstCells, loadCells, loadCellsFrom, h, storeCells]
inductive App (w : World) (m sz : Nat) (news : List Value) : Value → Prop
 | none (h : m = 0) (hn : news = []) : App w m sz news (.slice none 0 0)
 | some (a : Addr) (c : Nat) (hl : news.length = m * sz) (hc : ∀ j u, news[j]? = some u → w.cell? (a.add j) = some u) (h1 : ∀ u ∈ news, u.oneCell' = true) : App w m sz news (.slice (some a) m c)
theorem App.len {w : World} {m sz : Nat} {news : List Value} {y : Value} (h : App w m sz news y) : news.length = m * sz := by
 cases h with
 | none h hn => subst h hn; simp
 | some a c hl _ _ => exact hl
theorem App.one {w : World} {m sz : Nat} {news : List Value} {y : Value} (h : App w m sz news y) : ∀ u ∈ news, u.oneCell' = true := by
 cases h with
 | none h hn => subst hn; simp
 | some a c hl _ h1 => exact h1
structure Regrown (w w' : World) (e : TypeId) (sz n cap : Nat) (old news : List Value) (cells : Array Value) : Prop where
 below : Below w.heap.size w w'
 now : CellsOf w' w.heap.size cells e
 le : n ≤ cap
 max : cap ≤ 9223372036854775807
 size : cells.size = cap * sz
 old : ∀ (j : Nat) (u : Value), (old ++ news)[j]? = some u → cells[j]? = some u
theorem regrown_of {w : World} {e : TypeId} {sz n old_ : Nat} {old news : List Value} {z : Array Value} (hz : z.size = sz) (hl : (old ++ news).length = n * sz) (hm : n ≤ maxLen) :
  Regrown w (w.drew.alloc (.cells (old.toArray ++ news.toArray ++ Builtin.zeroCells z (grownCap w n old_ e - n)) e)) e sz n (grownCap w n old_ e) old news (old.toArray ++ news.toArray ++ Builtin.zeroCells z (grownCap w n old_ e - n)) := by
 have hge := grownCap_ge w n old_ e
 have hcm := grownCap_le_maxLen w n old_ e hm
 refine ⟨below_drewN_alloc, .mk0 (heap_alloc_new w.drew _), hge, by simpa [maxLen] using hcm, ?_, fun j u hj => ?_⟩
 ·rw [List.length_append] at hl
  simp only [Array.size_append, List.size_toArray, size_zeroCells, hz, hl, ← Nat.add_mul]
  congr 1; omega
 ·have hlt := (List.getElem?_eq_some_iff.1 hj).1
  rw [Array.getElem?_append_left (by simp only [Array.size_append, List.size_toArray]; rw [List.length_append] at hlt; exact hlt)]
  simpa using hj
where
 below_drewN_alloc {w : World} {o : Obj} : Below w.heap.size w (w.drew.alloc o) := ⟨rfl, rfl, rfl, by simp, fun k hk => heap_alloc_old w.drew _ k hk⟩
theorem run_append_row {t ty e : TypeId} {i : TypeInfo} {z : Value} {sz : Nat} (ht : P.underlying t = some (.slice e)) (hi : P.info? e = some i) (hz : i.zero = some z) (hsz : i.size = sz) (hzs : z.cells.size = sz) (h0 : 0 < sz)
  (w : World) (g n cap m : Nat) (cells : Array Value) (hg : CellsOf w g cells e) (hcap : cells.size = cap * sz) (hn : n ≤ cap) (hcm : cap ≤ 9223372036854775807) {news : List Value} {y : Value} (ha : App w m sz news y)
  (h63 : n + m ≤ 140737488355328) (hby : (n + m) * i.bytes ≤ 140737488355328) :
  (∃ w' cells', (Builtin.append_ #[t, t] ty #[.slice (some ⟨g, 0, none⟩) n cap, y]).run P w = .ok (.slice (some ⟨g, 0, none⟩) (n + m) cap) w' ∧ n + m ≤ cap ∧
   Turned w w' g (n * sz) ((n + m) * sz) cells cells' e ∧ ∀ j u, news[j]? = some u → cells'[n * sz + j]? = some u) ∨
  (∃ w' cap' cells', (Builtin.append_ #[t, t] ty #[.slice (some ⟨g, 0, none⟩) n cap, y]).run P w = .ok (.slice (some ⟨w.heap.size, 0, none⟩) (n + m) cap') w' ∧
   Regrown w w' e sz (n + m) cap' (cells.toList.take (n * sz)) news cells') := by
 subst hsz
 have hle : n * i.size ≤ cap * i.size := Nat.mul_le_mul_right _ hn
 cases ha with
 | none hm hn0 =>
  obtain rfl := hm
  obtain rfl := hn0
  exact .inl ⟨w, cells, run_append_none ht hi w _ _ _ hn, by simpa using hn, ⟨rfl, rfl, rfl, rfl, by obtain ⟨f, h, hf⟩ := hg; exact ⟨f, h, h, hf⟩, rfl, fun _ _ => rfl, fun _ _ => rfl⟩, fun j u h => by simp at h⟩
 | some a c hl hc h1 =>
  by_cases hroom : n + m ≤ cap
  ·left
   have hmul : n * i.size + m * i.size ≤ cap * i.size := by rw [← Nat.add_mul]; exact Nat.mul_le_mul_right _ hroom
   have hcl : cells.toList.length = cap * i.size := by rw [← hcap]; simp
   obtain ⟨w', cells', hr, ht', hj⟩ := storeCells_turn (P := P) g (n * i.size) e news 0 w cells hg h1 (by rw [hl, hcap]; omega)
   have hfirst : (Builtin.firstCells i.size m (.slice (some a) m c)).run P w = .ok news.toArray w := run_firstCells_some (P := P) w i.size m a m c news hl hc
   refine ⟨w', cells', ?_, hroom, { ht' with keep := fun o ho => ht'.keep o (by rw [hl]; rw [Nat.add_mul] at ho; omega) }, fun j u hu => hj j u hu⟩
   simp [Builtin.append_, run_underlying ht, sizeOf, typeInfo, hi, Builtin.lenOf, hfirst, hroom] at hr ⊢
   rw [add_lit, Nat.zero_add, hr]
   rfl
  ·right
   have holds : ∀ (j : Nat) (u : Value), (cells.toList.take (n * i.size))[j]? = some u → w.cell? ((⟨g, 0, none⟩ : Addr).add j) = some u := by
    intro j u hj
    rw [List.getElem?_take] at hj
    split at hj
    ·rw [add_lit, Nat.zero_add, hg.cell]; simpa using hj
    ·cases hj
   have hlo : (cells.toList.take (n * i.size)).length = n * i.size := by rw [List.length_take]; simp; omega
   have hr := run_append_grow (P := P) w t ty e i z ht hi hz ⟨g, 0, none⟩ n cap _ hlo holds a m c news hl hc (by omega) (by omega) (growslice_fits (by omega) hby)
   exact ⟨_, _, _, hr, regrown_of hzs (by rw [List.length_append, hlo, hl, Nat.add_mul]) (by simp only [maxLen]; omega)⟩
theorem run_append_full {t ty e : TypeId} {i : TypeInfo} {z : Value} {sz : Nat} (ht : P.underlying t = some (.slice e)) (hi : P.info? e = some i) (hz : i.zero = some z) (hsz : i.size = sz) (hzs : z.cells.size = sz)
  (w : World) (n m : Nat) {olds news : List Value} {x y : Value} (hx : App w n sz olds x) (hcap : ∀ a l c, x = .slice (some a) l c → c = n) (ha : App w m sz news y) (hm : 0 < m)
  (h63 : n + m ≤ 140737488355328) (hby : (n + m) * i.bytes ≤ 140737488355328) :
  ∃ w' cap' cells', (Builtin.append_ #[t, t] ty #[x, y]).run P w = .ok (.slice (some ⟨w.heap.size, 0, none⟩) (n + m) cap') w' ∧ Regrown w w' e sz (n + m) cap' olds news cells' := by
 subst hsz
 cases ha with
 | none h => omega
 | some a c hl hc h1 =>
  cases hx with
  | none h hn =>
   subst h hn
   have hr := run_append_nil (P := P) w t ty e i z ht hi hz a m c news hl hc hm (by omega) (by simp at hby; omega)
   refine ⟨_, _, news.toArray ++ Builtin.zeroCells z.cells (grownCap w m 0 e - m), by rw [hr, Nat.zero_add], ?_⟩
   have := regrown_of (w := w) (e := e) (old_ := 0) (old := []) (news := news) (n := 0 + m) hzs (by simp [hl]) (by simp only [maxLen]; omega)
   simpa using this
  | some b c0 hlo hco h10 =>
   have hc0 : c0 = n := hcap _ _ _ rfl
   subst hc0
   have hr := run_append_grow (P := P) w t ty e i z ht hi hz b c0 c0 olds hlo hco a m c news hl hc (by omega) (by omega) (growslice_fits (by omega) hby)
   exact ⟨_, _, _, hr, regrown_of hzs (by rw [List.length_append, hlo, hl, Nat.add_mul]) (by simp only [maxLen]; omega)⟩
end
def elsN (s : HS) (sz : Nat) (y : PV) : Option (List (List PV)) :=
 match y with
 | .v (.slice none 0 0) => some []
 | y => match els s y with
  | some (sz', ys) => if sz' = sz then some ys else none
  | none => none
def ElN (c : Ctx) (sz : Nat) (ys : List (List PV)) (news : List Value) : Prop :=
 ∀ (i : Nat) (x : List PV), ys[i]? = some x → x.length = sz ∧ ∀ (j : Nat) (y : PV), x[j]? = some y → ∃ u, news[i * sz + j]? = some u ∧ VR c y u
theorem elsN_ok {B : Base} {m : Name → Nat} {s : HS} {w : World} (r : RelH B m s w) {y : PV} {u : Value} {sz : Nat} {ys : List (List PV)} (h : elsN s sz y = some ys) (hy : VR (ctx B s m w) y u) :
  ∃ news, App w ys.length sz news u ∧ ElN (ctx B s m w) sz ys news := by
 unfold elsN at h
 split at h
 ·cases h
  cases hy
  exact ⟨[], .none rfl rfl, fun i x hi => by simp at hi⟩
 ·split at h
  case h_2 => cases h
  rename_i sz' ys' he
  split at h
  case isFalse => cases h
  rename_i hz
  cases h
  subst hz
  rcases els_ok r he hy with ⟨a, cap, news, rfl, h1, h2, h3⟩ | ⟨rfl, rfl⟩
  ·exact ⟨news, .some a cap h3.len h3.cell h3.one, h3.el⟩
  ·exact ⟨[], .none rfl rfl, fun i x hi => by simp at hi⟩
def clN (s : HS) (y : PV) : Bool := match y with
 | .row n _ _ _ => match s.h n with
  | (_, some b) => b.cl
  | _ => false
 | _ => true
theorem clN_ok {B : Base} {m : Name → Nat} {s : HS} {w : World} (r : RelH B m s w) {y : PV} {u : Value} {sz : Nat} {ys : List (List PV)} (h : elsN s sz y = some ys) (hy : VR (ctx B s m w) y u) (hc : clN s y = true) : closedLL ys = true := by
 unfold elsN at h
 split at h
 ·cases h; rfl
 ·split at h
  case h_2 => cases h
  rename_i sz' ys' he
  split at h
  case isFalse => cases h
  cases h
  cases y with
  | row n k i len =>
   simp only [els] at he
   split at he
   case h_2 => cases he
   rename_i k' b hn
   split at he
   case isFalse => cases he
   cases he
   simp only [clN, hn] at hc
   obtain ⟨⟨_, _, _, _, h4⟩, _⟩ := r.blk n _ b hn
   exact closedLL_sub (h4 hc) fun x hx => List.mem_of_mem_drop (List.mem_of_mem_take hx)
  | list sz2 full xs =>
   simp only [els] at he
   cases he
   cases hy with
   | lnil => rfl
   | list _ _ _ g off cap us hcl => exact hcl
  | _ => simp [els] at he
def appD (P : Program) (prot n : Name) (s : HS) (t t2 : TypeId) (x y : PV) : Option (PV × HS) :=
 if t2 ≠ t then none else
 match P.underlying t with
 | some (.slice e) => match inf P e with
  | some (sz + 1, by_, _) => match elsN s (sz + 1) y with
   | some ys => match x with
    | .row n0 k 0 len => match s.h n0 with
     | (k', some b) => if k' = k ∧ len = b.xs.length ∧ b.sz = sz + 1 ∧ b.E = e ∧ okName prot n0 = true ∧ len + ys.length ≤ 140737488355328 ∧ (len + ys.length) * by_ ≤ 140737488355328 then
       some (.row n ((s.h n).1 + 1) 0 (len + ys.length), { h := upd (upd s.h n0 (k, none)) n ((s.h n).1 + 1, some { b with xs := b.xs ++ ys, cl := b.cl && clN s y }), fz := upd s.fz n (s.fz n0) })
      else none
     | _ => none
    | .v (.slice none 0 0) => match ys with
     | [] => some (x, s)
     | y0 :: ys0 => if (y0 :: ys0).length ≤ 140737488355328 ∧ (y0 :: ys0).length * by_ ≤ 140737488355328 then some (.row n ((s.h n).1 + 1) 0 (y0 :: ys0).length, newS s n ⟨sz + 1, e, y0 :: ys0, clN s y, true⟩) else none
    | .list sz' true xs => match ys with
     | [] => some (x, s)
     | y0 :: ys0 => if sz' = sz + 1 ∧ xs.length + (y0 :: ys0).length ≤ 140737488355328 ∧ (xs.length + (y0 :: ys0).length) * by_ ≤ 140737488355328 then
       some (.row n ((s.h n).1 + 1) 0 (xs.length + (y0 :: ys0).length), newS s n ⟨sz + 1, e, xs ++ (y0 :: ys0), clN s y, true⟩) else none
    | _ => none
   | none => none
  | _ => none
 | _ => none
theorem joined {c : Ctx} {sz : Nat} {xs ys : List (List PV)} {olds news : List Value} (hx : ElN c sz xs olds) (hy : ElN c sz ys news) (hlo : olds.length = xs.length * sz) : ElN c sz (xs ++ ys) (olds ++ news) := by
 intro i x hi
 rcases Nat.lt_or_ge i xs.length with hlt | hge
 ·rw [List.getElem?_append_left hlt] at hi
  obtain ⟨h1, h2⟩ := hx i x hi
  refine ⟨h1, fun j y hj => ?_⟩
  obtain ⟨u, p, q⟩ := h2 j y hj
  exact ⟨u, by rw [List.getElem?_append_left (List.getElem?_eq_some_iff.1 p).1]; exact p, q⟩
 ·rw [List.getElem?_append_right hge] at hi
  obtain ⟨h1, h2⟩ := hy _ x hi
  refine ⟨h1, fun j y hj => ?_⟩
  obtain ⟨u, p, q⟩ := h2 j y hj
  have e1 : i * sz = xs.length * sz + (i - xs.length) * sz := by rw [← Nat.add_mul]; congr 1; omega
  refine ⟨u, ?_, q⟩
  rw [List.getElem?_append_right (by rw [hlo]; omega), hlo, ← p]; congr 1; omega
theorem Regrown.row {B : Base} {m : Name → Nat} {s : HS} {w w' : World} (r : RelH B m s w) {e : TypeId} {sz cap : Nat} {xs : List (List PV)} {old news : List Value} {cells : Array Value} (g : Regrown w w' e sz xs.length cap old news cells)
  (hx : ElN (ctx B s m w) sz xs (old ++ news)) (h1 : ∀ u ∈ old ++ news, u.oneCell' = true) (n : Name) (cl rw : Bool) (hcl : cl = true → closedLL xs = true) :
  ∃ m', RelH B m' (newS s n ⟨sz, e, xs, cl, rw⟩) w' ∧ Evol (ctx B s m w) (ctx B (newS s n ⟨sz, e, xs, cl, rw⟩) m' w') ∧ VR (ctx B (newS s n ⟨sz, e, xs, cl, rw⟩) m' w') (.row n ((s.h n).1 + 1) 0 xs.length) (.slice (some ⟨w.heap.size, 0, none⟩) xs.length cap) := by
 have h := r.new (w' := w') n ⟨sz, e, xs, cl, rw⟩ w.heap.size g.below (Nat.le_refl _) cells g.now (by rw [g.size]; exact Nat.mul_le_mul_right _ g.le) (fun i x hi => ⟨(hx i x hi).1, fun j y hy => by
  obtain ⟨u, p, q⟩ := (hx i x hi).2 j y hy
  exact ⟨u, g.old _ _ p, h1 u (List.mem_of_getElem? p), q⟩⟩) hcl
 exact ⟨_, h.1, h.2, VR.newRow n _ _ _ _ cells e g.now g.le g.max g.size⟩
theorem appD_ok {P : Program} {B : Base} {m : Name → Nat} {s s1 : HS} {w : World} {prot n : Name} (r : RelH B m s w) {t t2 ty : TypeId} {x y z : PV} {u v : Value} (h : appD P prot n s t t2 x y = some (z, s1)) (hx : VR (ctx B s m w) x u) (hy : VR (ctx B s m w) y v) :
  ∃ q w' m', (Builtin.append_ #[t, t2] ty #[u, v]).run P w = .ok q w' ∧ RelH B m' s1 w' ∧ Evol (ctx B s m w) (ctx B s1 m' w') ∧ VR (ctx B s1 m' w') z q := by
 unfold appD at h
 split at h
 ·cases h
 rename_i htt
 have htt : t2 = t := by simpa using htt
 subst htt
 split at h
 case h_2 => cases h
 rename_i e ht
 split at h
 case h_2 => cases h
 rename_i sz by_ zl hinf
 obtain ⟨i, zv, hi, hz, hsz, hby, hzs, rfl, hz1⟩ := inf_is hinf
 subst hby
 split at h
 case h_2 => cases h
 rename_i ys hys
 obtain ⟨news, hA, hE⟩ := elsN_ok r hys hy
 split at h
 ·rename_i n0 k len
  split at h
  case h_2 => cases h
  rename_i k' b hn
  split at h
  case isFalse => cases h
  rename_i hc
  obtain ⟨bsz, bE, bxs, bcl, brw⟩ := b
  simp only at hc
  obtain ⟨rfl, rfl, rfl, rfl, _, h63, hbytes⟩ := hc
  simp only [Option.some.injEq, Prod.mk.injEq] at h
  obtain ⟨rfl, rfl⟩ := h
  cases hx with
  | row _ _ _ _ a cap hk hcc hm ha =>
   obtain ⟨rfl, hcap⟩ := ha _ hn
   obtain ⟨⟨cells, hg, hcs, hall, hclo⟩, hge, hfl, _⟩ := r.blk n0 _ _ hn
   have hcl2 : (bcl && clN s y) = true → closedLL (bxs ++ ys) = true := fun h => by
    rw [Bool.and_eq_true] at h
    have h1 := closedLL_iff.1 (hclo h.1)
    have h2 := closedLL_iff.1 (clN_ok r hys hy h.2)
    exact closedLL_iff.2 fun x hx => (List.mem_append.1 hx).elim (h1 x) (h2 x)
   have hg : CellsOf w (m n0) cells bE := hg
   simp only [Nat.succ_eq_add_one] at *
   have hcap' : cells.size = cap * (sz + 1) := by
    have : bsize w (m n0) = cells.size := hg.bsize
    rw [Nat.zero_add] at hcap
    rw [← this]; exact hcap.symm
   simp only [Nat.zero_mul] at *
   have hel : ∀ i' x', bxs[i']? = some x' → x'.length = sz + 1 ∧ ∀ j y', x'[j]? = some y' → ∃ u, cells[i' * (sz + 1) + j]? = some u ∧ u.oneCell' = true ∧ VR (ctx B s m w) y' u := by
    exact hall
   rcases run_append_row (ty := ty) ht hi hz hsz hzs (by omega) w (m n0) bxs.length cap ys.length cells hg hcap' hcc hm hA h63 hbytes with ⟨w', cells', hr, hroom, ht', hnew⟩ | ⟨w', cap', cells', hr, hre⟩
   ·refine ⟨_, w', upd m n (m n0), hr, ?_⟩
    have hT := r.turn (n1 := n) (b1 := ⟨sz + 1, bE, bxs ++ ys, bcl && clN s y, brw⟩) hn ht' (Nat.mul_le_mul_right _ hfl) rfl (by simp; omega) _ _ (.inr ⟨rfl, rfl⟩)
    have hsp : (bxs ++ ys).length * (sz + 1) ≤ cells'.size := by rw [ht'.csize, hcap', List.length_append]; exact Nat.mul_le_mul_right _ hroom
    refine ⟨hT.2 ⟨cells', ht'.now, hsp, fun i' x' hi' => ?_, hcl2⟩, hT.1, ?_⟩
    ·simp only at hi' ⊢
     rcases Nat.lt_or_ge i' bxs.length with hlt | hge'
     ·rw [List.getElem?_append_left hlt] at hi'
      obtain ⟨p1, p2⟩ := hel i' x' hi'
      refine ⟨p1, fun j y' hj => ?_⟩
      obtain ⟨u, q1, q2, q3⟩ := p2 j y' hj
      have hjl : j < sz + 1 := by rw [← p1]; exact (List.getElem?_eq_some_iff.1 hj).1
      have : i' * (sz + 1) + (sz + 1) ≤ bxs.length * (sz + 1) := by rw [← Nat.succ_mul]; exact Nat.mul_le_mul_right _ hlt
      exact ⟨u, by rw [ht'.keep _ (.inl (by omega))]; exact q1, q2, q3.evol hT.1⟩
     ·rw [List.getElem?_append_right hge'] at hi'
      obtain ⟨p1, p2⟩ := hE _ x' hi'
      refine ⟨p1, fun j y' hj => ?_⟩
      obtain ⟨u, q1, q3⟩ := p2 j y' hj
      refine ⟨u, ?_, hA.one u (List.mem_of_getElem? q1), q3.evol hT.1⟩
      rw [← hnew _ _ q1]; congr 1
      have e1 : i' * (sz + 1) = bxs.length * (sz + 1) + (i' - bxs.length) * (sz + 1) := by rw [← Nat.add_mul]; congr 1; omega
      omega
    ·refine .row _ _ _ _ _ _ (by simp [ctx]) hroom hm fun b' hb' => ?_
     simp [ctx] at hb'; subst hb'
     refine ⟨by simp [ctx], ?_⟩
     simp only [ctx, upd_same, Nat.zero_add]
     have : bsize w' (m n0) = cells'.size := ht'.now.bsize
     rw [this, ht'.csize, hcap']
   ·-- a new array
    have hk0 := r.kill (fun n' => n' == n0)
    obtain ⟨ev0, r0⟩ := hk0
    have hold1 : ∀ u ∈ cells.toList.take (bxs.length * (sz + 1)), u.oneCell' = true := by
     intro u hu
     obtain ⟨j, hj⟩ := List.mem_iff_getElem?.1 hu
     rw [List.getElem?_take] at hj
     split at hj
     ·rename_i hjl
      have hq : j / (sz + 1) < bxs.length := div_lt hjl
      obtain ⟨p1, p2⟩ := hel _ _ (List.getElem?_eq_getElem hq)
      have hlt : j % (sz + 1) < bxs[j / (sz + 1)].length := by rw [p1]; exact Nat.mod_lt _ (by omega)
      obtain ⟨z, q1, q2, _⟩ := p2 _ _ (List.getElem?_eq_getElem hlt)
      rw [Nat.div_add_mod'] at q1
      have : cells[j]? = some u := by simpa using hj
      rw [this] at q1; cases q1; exact q2
     ·cases hj
    have hEo : ElN (ctx B s m w) (sz + 1) bxs (cells.toList.take (bxs.length * (sz + 1))) := by
     intro i' x' hi'
     obtain ⟨p1, p2⟩ := hel i' x' hi'
     refine ⟨p1, fun j y' hj => ?_⟩
     obtain ⟨u, q1, _, q3⟩ := p2 j y' hj
     have hjl : j < sz + 1 := by rw [← p1]; exact (List.getElem?_eq_some_iff.1 hj).1
     have : i' * (sz + 1) + (sz + 1) ≤ bxs.length * (sz + 1) := by rw [← Nat.succ_mul]; exact Nat.mul_le_mul_right _ (List.getElem?_eq_some_iff.1 hi').1
     exact ⟨u, by rw [List.getElem?_take, if_pos (by omega)]; simpa using q1, q3⟩
    have hlo : (cells.toList.take (bxs.length * (sz + 1))).length = bxs.length * (sz + 1) := by
     rw [List.length_take]; simp; rw [hcap']; exact Nat.min_eq_left (Nat.mul_le_mul_right _ hcc)
    have hJ := joined hEo hE hlo
    have hJ0 : ElN (ctx B { s with h := fun n' => if (n' == n0) = true then ((s.h n').1, none) else s.h n' } m w) (sz + 1) (bxs ++ ys) (cells.toList.take (bxs.length * (sz + 1)) ++ news) := fun i' x' hi' =>
     ⟨(hJ i' x' hi').1, fun j y' hj => by obtain ⟨u, p, q⟩ := (hJ i' x' hi').2 j y' hj; exact ⟨u, p, q.evol ev0⟩⟩
    have hlen : (bxs ++ ys).length = bxs.length + ys.length := List.length_append
    rw [← hlen] at hre hr
    obtain ⟨m', r1, ev1, hv1⟩ := Regrown.row r0 hre hJ0 (fun u hu => by rcases List.mem_append.1 hu with h | h; exact hold1 u h; exact hA.one u h) n (bcl && clN s y) brw hcl2
    have hf := r1.freeze (upd s.fz n (s.fz n0)) (fun n' => by simp only [newS, upd]; split <;> simp) (fun n' k1 b1 hb1 => by
     simp only [newS, upd] at hb1 ⊢
     split at hb1
     ·rename_i e1; subst e1; simp only [Prod.mk.injEq, Option.some.injEq] at hb1; obtain ⟨_, rfl⟩ := hb1
      simp; omega
     ·rename_i e1; rw [if_neg e1]
      split at hb1
      ·simp at hb1
      ·exact (r.blk _ _ _ hb1).2.2.1)
    have hS : ({ newS { s with h := fun n' => if (n' == n0) = true then ((s.h n').1, none) else s.h n' } n ⟨sz + 1, bE, bxs ++ ys, bcl && clN s y, brw⟩ with fz := upd s.fz n (s.fz n0) } : HS) =
      { h := upd (upd s.h n0 (k', none)) n ((s.h n).1 + 1, some ⟨sz + 1, bE, bxs ++ ys, bcl && clN s y, brw⟩), fz := upd s.fz n (s.fz n0) } := by
     show HS.mk _ _ = HS.mk _ _
     refine congrArg (fun f => HS.mk f (upd s.fz n (s.fz n0))) ?_
     funext n'
     simp only [newS, upd]
     by_cases e1 : n' = n
     ·simp only [e1, if_true]
      by_cases e2 : n = n0 <;> simp [e2]
     ·simp only [e1, if_false]
      by_cases e2 : n' = n0
      ·simp [e2, hn]
      ·simp [e2]
    rw [hS] at hf
    have hver : ({ s with h := fun n' => if (n' == n0) = true then ((s.h n').1, none) else s.h n' } : HS).h n = ((s.h n).1, if (n == n0) = true then none else (s.h n).2) := by
     simp only; split <;> rfl
    rw [hver] at hv1
    refine ⟨_, w', m', hr, hf.2, (ev0.trans ev1).trans hf.1, ?_⟩
    have := hv1.evol hf.1
    rwa [hlen] at this ⊢
 ·-- nil
  cases hx
  split at h
  ·simp only [Option.some.injEq, Prod.mk.injEq] at h
   obtain ⟨rfl, rfl⟩ := h
   cases hA with
   | none _ _ => exact ⟨_, w, m, run_append_none ht hi w _ _ _ (Nat.le_refl _), r, Evol.refl _, .v _⟩
   | some a c hl hc h1 =>
    refine ⟨.slice none 0 0, w, m, ?_, r, Evol.refl _, .v _⟩
    simp [Builtin.append_, run_underlying ht, sizeOf, typeInfo, hi, Builtin.lenOf, Builtin.firstCells, loadCells, loadCellsFrom]
  ·rename_i y0 ys0
   split at h
   case isFalse => cases h
   rename_i hc
   simp only [Option.some.injEq, Prod.mk.injEq] at h
   obtain ⟨rfl, rfl⟩ := h
   obtain ⟨w', cap', cells', hr, hre⟩ := run_append_full (ty := ty) ht hi hz hsz hzs w 0 (y0 :: ys0).length (App.none rfl rfl) (fun a l c h => by cases h) hA (by simp) (by simpa using hc.1) (by simpa using hc.2)
   rw [Nat.zero_add] at hre hr
   obtain ⟨m', h1, h2, h3⟩ := Regrown.row r hre (by simpa using hE) (by simpa using hA.one) n (clN s y) true (clN_ok r hys hy)
   exact ⟨_, w', m', hr, h1, h2, h3⟩
 ·-- a list without room
  rename_i sz' xs
  split at h
  ·simp only [Option.some.injEq, Prod.mk.injEq] at h
   obtain ⟨rfl, rfl⟩ := h
   cases hx with
   | lnil _ _ a =>
    refine ⟨.slice a 0 0, w, m, ?_, r, Evol.refl _, .lnil _ _ a⟩
    cases hA with
    | none _ _ => exact run_append_none ht hi w _ _ _ (Nat.le_refl _)
    | some q c hl' hc' h1 => cases a <;> simp [Builtin.append_, run_underlying ht, sizeOf, typeInfo, hi, Builtin.lenOf, Builtin.firstCells, loadCells, loadCellsFrom, storeCells]
   | list _ _ _ g off cap us hcl hc hm hf hl ho hxx hw =>
    refine ⟨.slice (some ⟨g, off, none⟩) xs.length cap, w, m, ?_, r, Evol.refl _, .list _ _ _ g off cap us hcl hc hm hf hl ho hxx hw⟩
    cases hA with
    | none _ _ => exact run_append_none ht hi w _ _ _ hc
    | some a c hl' hc' h1 => simp [Builtin.append_, run_underlying ht, sizeOf, typeInfo, hi, Builtin.lenOf, Builtin.firstCells, loadCells, loadCellsFrom, hc, storeCells]
  ·rename_i y0 ys0
   split at h
   case isFalse => cases h
   rename_i hc
   obtain ⟨rfl, h63, hbytes⟩ := hc
   simp only [Option.some.injEq, Prod.mk.injEq] at h
   obtain ⟨rfl, rfl⟩ := h
   rcases els_ok r (x := .list (sz + 1) true xs) rfl hx with ⟨a, cap, olds, rfl, g1, g2, g3⟩ | ⟨rfl, rfl⟩
   case inr =>
    obtain ⟨w', cap', cells', hr, hre⟩ := run_append_full (ty := ty) ht hi hz hsz hzs w 0 (y0 :: ys0).length (App.none rfl rfl) (fun a l c h => by cases h) hA (by simp) (by simpa using h63) (by simpa using hbytes)
    rw [Nat.zero_add] at hre hr
    obtain ⟨m', h1, h2, h3⟩ := Regrown.row r hre (by simpa using hE) (by simpa using hA.one) n (clN s y) true (clN_ok r hys hy)
    refine ⟨_, w', m', hr, by simpa using h1, by simpa using h2, by simpa using h3⟩
   have hcap : cap = xs.length := by cases hx with | list _ _ _ g off cap us hcl hc hm hf hl ho hxx hw => exact hf rfl | lnil => rfl
   obtain ⟨w', cap', cells', hr, hre⟩ := run_append_full (ty := ty) ht hi hz hsz hzs w xs.length (y0 :: ys0).length (App.some a cap g3.len g3.cell g3.one) (fun a l c h => by cases h; exact hcap) hA (by simp) h63 hbytes
   rw [← List.length_append] at hre hr
   obtain ⟨m', h1, h2, h3⟩ := Regrown.row r hre (joined g3.el hE g3.len) (fun u hu => by rcases List.mem_append.1 hu with h | h; exact g3.one u h; exact hA.one u h) n (clN s y) true (fun h => by
    have h2 := closedLL_iff.1 (clN_ok r hys hy h)
    have h1 : closedLL xs = true := by cases hx with | list _ _ _ g off cap us hcl => exact hcl | lnil => rfl
    exact closedLL_iff.2 fun x hx => (List.mem_append.1 hx).elim (closedLL_iff.1 h1 x) (h2 x))
   rw [List.length_append] at h3
   refine ⟨_, w', m', by rw [hr, List.length_append], h1, h2, h3⟩
 ·cases h
end Go.Proofs.YtdbekeidlppfiaaGreatDoor.Den
