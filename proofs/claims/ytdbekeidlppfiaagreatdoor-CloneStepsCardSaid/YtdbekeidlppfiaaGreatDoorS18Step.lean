/- Texts joined by a program of mine (pack.py): S18Step. -/
import Derived.Test.YtdbekeidlppfiaaGreatDoorS19Step
set_option linter.unusedVariables false
set_option linter.unusedSimpArgs false
namespace Go.Proofs.YtdbekeidlppfiaaGreatDoor.Den
open Go Go.RowKit Go.ChangeShapes Go.WideShapes
theorem wrap_sized {H : Type} {enc : TypeId × Value → H} {a : Assume} {C : Checked} {os : Os} {f : FuncId} {fn : Func} {s : ChangeSpec} {apart fresh handsOn again : Bool} {X : World → Array Value → Prop}
  (hX : ∀ (w w' : World) (args : Array Value), w.heap = w'.heap → X w args → X w' args)
  (own : ownKnob C.prog.godebug = none) (started : os.Started) (noInit : C.prog.inits.idxOf? f = none) (hfn : C.prog.funcs[f]? = some fn)
  (witness : ∃ (w : World) (tape : Tape) (i : Input), w.os = os ∧ (w.forCall tape i).Shaped C.prog ∧ i.vars = [] ∧ Input.okWide C.prog (w.forCall tape i) .any w.heap.size f i ∧
   ((s.pre enc C.prog fn [] apart (w.forCall tape i).memory i.args ∧ X (w.forCall tape i).memory i.args) ∧ sizedMet enc C.prog fn (OpenSpec.ofChange s) apart (w.forCall tape i).memory i.args) ∧ a.holds C.prog (lone (Frame.enter C.prog f i.args .normal) [] (w.forCall tape i)))
  (contract : ∀ (W : World) (base : Nat) (args : Array Value) (ds gs : List (DataW H)) (before : List MemPlace),
   (∀ (j : Nat) t v, fn.params[j]? = some t → args[j]? = some v → Value.okWide C.prog W .any base t v) →
   DataW.Whole enc C.prog fn.params.toList s.vars apart W args.toList ds gs before →
   (DataW.weightsEach C.prog (fn.params.toList ++ (OpenSpec.ofChange s).bare.plain.varTypes C.prog) (ds ++ gs)).all (· ≤ reachBytes) = true →
   W.ShapedOpen C.prog → X W args →
   Calls C.prog f args W fun e W' => ∃ v, e = .returned v ∧ s.post enc C.prog fn apart fresh handsOn again W args v W') :
  ReturnsInHanded a C os f .any (fun w args => (s.pre enc C.prog fn [] apart w args ∧ X w args) ∧ sizedMet enc C.prog fn (OpenSpec.ofChange s) apart w args) (s.post enc C.prog fn apart fresh handsOn again) := by
 refine returnsInHanded_of_calls own started noInit witness ?_
 intro w tape i _ hsh _ hok hpre hholds
 obtain ⟨_, _, _, fn', hfn', _, _, _, _, hval⟩ := hok
 have e : fn' = fn := Option.some.inj (hfn'.symm.trans hfn)
 subst e
 obtain ⟨⟨_, hx⟩, _, ds, gs, before, hw, hz⟩ := hpre
 have hw' := DataW.Whole.of_heap (w' := w.forCall tape i) (by rfl) hw
 refine (contract (w.forCall tape i) w.heap.size i.args ds gs before hval hw' hz hsh (hX _ _ _ (by rfl) hx)).mono fun e W' ⟨v, he, hp⟩ => ?_
 subst he
 exact ChangeSpec.post_blind hp
section
variable {H : Type} {enc : TypeId × Value → H} {P : Program} {w : World} {held : Bool}
theorem each_mem : ∀ {ts : List TypeId} {ds : List (DataW H)} {i : Nat} {t : TypeId} {d : DataW H} {b : Nat}, ts[i]? = some t → ds[i]? = some d → b ∈ d.weights P t → b ∈ DataW.weightsEach P ts ds
 | [], _, i, t, d, b, ht, hd, hb => by simp at ht
 | _ :: _, [], i, t, d, b, ht, hd, hb => by simp at hd
 | t' :: ts, d' :: ds, 0, t, d, b, ht, hd, hb => by
  simp at ht hd
  subst ht hd
  simp only [DataW.weightsEach]
  exact List.mem_append_left _ hb
 | t' :: ts, d' :: ds, i + 1, t, d, b, ht, hd, hb => by
  simp only [DataW.weightsEach]
  exact List.mem_append_right _ (each_mem (by simpa using ht) (by simpa using hd) hb)
theorem all_mem {e : TypeId} : ∀ {ds : List (DataW H)} {d : DataW H} {b : Nat}, d ∈ ds → b ∈ d.weights P e → b ∈ DataW.weightsAll P e ds
 | [], d, b, hd, hb => by simp at hd
 | d' :: ds, d, b, hd, hb => by
  simp only [DataW.weightsAll]
  rcases List.mem_cons.1 hd with rfl | hd
  ·exact List.mem_append_left _ hb
  ·exact List.mem_append_right _ (all_mem hd hb)
theorem strs_small {t e : TypeId} (ht : P.underlying t = some (.slice e)) (he : P.underlying e = some .string) (hc : P.cellsOf e = 1) {fuel : Nat} {u : Value} {x : DataW H × List MemPlace} (h : DataW.trod enc P w 0 (fun _ => true) held fuel t [u] = some x)
  (hw : ∀ b ∈ x.1.weights P t, b ≤ reachBytes) {l : List ByteArray} (hv : VR (topC w) (.list 1 false (l.map cS)) u) : ∀ y ∈ l, y.size ≤ reachBytes := by
 intro y hy
 obtain ⟨i, hi⟩ := List.mem_iff_getElem?.1 hy
 have hil := (List.getElem?_eq_some_iff.1 hi).1
 obtain ⟨a, cap, rfl, hx⟩ := list_inv hv
 rcases Deep.open_slice1 ht hc h with ⟨h0, _⟩ | ⟨a', len, cap', m, n, V, D, Pl, h1, _, hlc, _, hm, rfl, hall⟩
 ·simp only [List.cons.injEq, Value.slice.injEq, List.length_map, and_true] at h0
  omega
 ·simp only [List.cons.injEq, Value.slice.injEq, and_true] at h1
  obtain ⟨rfl, rfl, rfl⟩ := h1
  obtain ⟨g, off, hga, hz⟩ := hx i (cS y) (by rw [List.getElem?_map, hi]; rfl)
  obtain ⟨z, hz1, _, hz3⟩ := hz 0 _ rfl
  have hz3 := v_inv hz3
  subst hz3
  have hga := Option.some.inj hga
  subst hga
  rw [if_pos rfl] at hm
  subst hm
  have him : i < m := by rw [List.length_map] at hlc; omega
  obtain ⟨c1, t1⟩ := hall i him
  have hadd : (⟨g, off, none⟩ : Addr).add i = ⟨g, off + (i * 1 + 0), none⟩ := by rw [add_lit]; congr 1; omega
  rw [hadd] at c1
  have hV : V i = .string y := Option.some.inj (c1.symm.trans hz1)
  obtain ⟨s, hs1, hs2, _⟩ := DataW.trod_string he t1
  rw [hV] at hs1
  have hsy : y = s := by simpa using hs1
  subst hsy
  have hD : D i = .lit (.string y.data.toList) := congrArg Prod.fst hs2
  refine hw y.size ?_
  simp only [DataW.weights, ht]
  refine List.mem_cons_of_mem _ (List.mem_append_left _ (all_mem (d := D i) (List.mem_map.2 ⟨i, by rw [List.length_map]; simpa using hil, rfl⟩) ?_))
  rw [hD]
  simp only [DataW.weights, List.mem_singleton]
  rw [size_by]; rfl
theorem field_small {T e : TypeId} {fs : Array Field} (hT : P.underlying T = some (.struct fs)) {k : Nat} {f : Field} (hk : fs[k]? = some f) (ht : P.underlying f.type = some (.slice e)) (hc1 : P.cellsOf f.type = 1) (he : P.underlying e = some .string) (hc : P.cellsOf e = 1)
  {v : Value} {d : DataW H} {ps : List MemPlace} (h : DataW.Trod enc P w 0 (fun _ => true) held T v d ps) (hw : ∀ b ∈ d.weights P T, b ≤ reachBytes) {cs : Array Value} (hv : v = .agg cs) {u : Value} (hu : cs[f.offset]? = some u)
  {l : List ByteArray} (hl : VR (topC w) (.list 1 false (l.map cS)) u) : ∀ y ∈ l, y.size ≤ reachBytes := by
 subst hv
 obtain ⟨fuel, hf⟩ := h
 obtain ⟨xs, n, _, hx, _, hlen, hfs⟩ := DataW.trod_struct hT hf
 have h1 := hfs k f hk
 have hkl : k < xs.length := by rw [hlen]; exact (Array.getElem?_eq_some_iff.1 hk).1
 rw [List.getElem?_eq_getElem hkl, hc1] at h1
 have hd : d = .agg (xs.map (·.1)) := congrArg Prod.fst hx
 subst hd
 have hone : (((Value.agg cs).cells.toList.drop f.offset).take 1) = [u] := by
  have hu' : cs.toList[f.offset]? = some u := by simpa using hu
  have hlt := (List.getElem?_eq_some_iff.1 hu').1
  show (cs.toList.drop f.offset).take 1 = [u]
  rw [List.drop_eq_getElem_cons hlt, (List.getElem?_eq_some_iff.1 hu').2]
  rfl
 rw [hone] at h1
 refine strs_small ht he hc h1 (fun b hb => hw b ?_) hl
 simp only [DataW.weights, hT]
 exact each_mem (i := k) (t := f.type) (d := xs[k].1) (by simp [hk]) (by simp [List.getElem?_eq_getElem hkl]) hb
end
section
variable {H : Type} {enc : TypeId × Value → H} {w : World} {held : Bool}
theorem reach_le : reachBytes ≤ 281474976710656 := by decide
set_option maxRecDepth 100000 in
theorem job_names {v : Value} {d : DataW H} {ps : List MemPlace} {j : JobD} (ht : Told w (.agg j.c) v) (h : DataW.Trod enc Tryz.prog w 0 (fun _ => true) held 29 v d ps) (hw : ∀ b ∈ d.weights Tryz.prog 29, b ≤ reachBytes) :
  ∀ y ∈ j.names, y.size ≤ 281474976710656 := by
 obtain ⟨vs, hv, hsz, hcs⟩ := agg_inv ht.vr
 have h12 : 12 < vs.size := by rw [hsz]; exact (by decide : 12 < 19)
 have hu : vs[12]? = some vs[12] := Array.getElem?_eq_getElem h12
 exact fun y hy => Nat.le_trans (field_small Tryz.underlying29 (k := 12) rfl Tryz.underlying22 (by kernel_rfl) Tryz.underlying9 (by kernel_rfl) h hw hv hu (hcs 12 _ _ rfl hu) y hy) reach_le
set_option maxRecDepth 100000 in
theorem reply_list {v : Value} {d : DataW H} {ps : List MemPlace} {r : ReplyD} (ht : Told w (.agg r.c) v) (h : DataW.Trod enc Tryz.prog w 0 (fun _ => true) held 41 v d ps) (hw : ∀ b ∈ d.weights Tryz.prog 41, b ≤ reachBytes) :
  ∀ y ∈ r.l, y.size ≤ 281474976710656 := by
 obtain ⟨vs, hv, hsz, hcs⟩ := agg_inv ht.vr
 have h3 : 3 < vs.size := by rw [hsz]; exact (by decide : 3 < 10)
 have hu : vs[3]? = some vs[3] := Array.getElem?_eq_getElem h3
 exact fun y hy => Nat.le_trans (field_small Tryz.underlying41 (k := 3) rfl Tryz.underlying22 (by kernel_rfl) Tryz.underlying9 (by kernel_rfl) h hw hv hu (hcs 3 _ _ rfl hu) y hy) reach_le
end
end Go.Proofs.YtdbekeidlppfiaaGreatDoor.Den
