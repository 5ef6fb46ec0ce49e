/-
  As Open: and how many are in a node is at most the bulk of what is read.
  The second form's builder, the world's shape handed on besides; the bulk of one argument.
-/
import Derived.Test.YtnmebgiiajnnjaaRows
import Derived.Test.YtnmebgiiajnnjaaOpen
import Derived.Test.YtnmebgiiajnnjaaIterA
import Derived.JoinedCond
namespace Go.Proofs.Ytnmebgiiajnnjaa
set_option linter.unusedSimpArgs false
set_option linter.unusedVariables false
open Go.RowKit Go.Joins Go.ChangeShapes Go.WideShapes
section
variable {H : Type} {enc : TypeId × Value → H} {w : World} {base : Nat}

theorem flat_bulk {d : Nat} : ∀ {l : List Nd} {E : List (DataW H)}, l.length = E.length → (∀ j (hj : j < l.length), (walkL d l[j]).length ≤ Rows.uptoBulk (E.getD j .nil)) → (l.flatMap (walkL d)).length ≤ Rows.uptoBulkAll E
  | [], _, _, _ => by simp
  | x :: l, [], h, _ => by simp at h
  | x :: l, e :: E, h, hb => by
    have h0 := hb 0 (by simp)
    have h1 := flat_bulk (l := l) (E := E) (by simpa using h) (fun j hj => hb (j + 1) (Nat.succ_lt_succ hj))
    rw [List.flatMap_cons, List.length_append, Rows.uptoBulkAll]
    simp at h0
    omega

set_option maxRecDepth 100000 in
theorem nd_openB : ∀ (fuel : Nat) (cs : List Value) (y : DataW H × List MemPlace), DataW.trod enc Try.prog w base (fun _ => true) true fuel 24 cs = some y →
    (∀ n, n ∈ y.1.weights Try.prog 24 → n ≤ reachBytes) →
    ∃ (t : Nd) (a : Option Addr) (c : Nat), cs = [.int .i64 t.kind, .string ⟨t.text.toArray⟩, .slice a t.kids.length c, .int .i64 t.pos] ∧ Fits t c ∧ Kids w w.heap.size a t.kids ∧ ∀ d, (walkL d t).length ≤ Rows.uptoBulk y.1 := by
  intro fuel
  induction fuel using Nat.strongRecOn with
  | ind fuel ih =>
    intro cs y h hw
    obtain ⟨xs, n, hn, rfl, hl, hlen, hf⟩ := DataW.trod_struct Try.underlying24 h
    rw [cellsN] at hl
    match xs, hlen, cs, hl with
    | [y0, y1, y2, y3], _, [c0, c1, c2, c3], _ =>
      have h0 := hf 0 _ rfl
      have h1 := hf 1 _ rfl
      have h2 := hf 2 _ rfl
      have h3 := hf 3 _ rfl
      simp [cellsI, cellsS, cellsL] at h0 h1 h2 h3
      obtain ⟨k, e0, rfl, k0⟩ := DataW.trod_int Try.underlying3 h0
      obtain ⟨s, e1, rfl, k1⟩ := DataW.trod_string Try.underlying9 h1
      obtain ⟨p, e3, rfl, k3⟩ := DataW.trod_int Try.underlying3 h3
      simp only [List.cons.injEq, and_true] at e0 e1 e3
      subst e0 e1 e3
      have wt : ∀ n, n ∈ DataW.weightsEach Try.prog [3, 9, 22, 3] [DataW.lit (H := H) (.int .i64 k), .lit (.string s.data.toList), y2.1, .lit (.int .i64 p)] → n ≤ reachBytes := by
        intro n hn
        refine hw n ?_
        simp only [DataW.weights, Try.underlying24]
        exact hn
      have ws : s.size ≤ 140737488351232 := wt s.size (by simp [DataW.weightsEach, DataW.weights])
      have bk := int_bounds k0
      have bp := int_bounds k3
      have es : (⟨s.data.toList.toArray⟩ : ByteArray) = s := by cases s; simp
      have ls : s.data.toList.length = s.size := by simp
      rcases DataW.trod_slice Try.underlying22 h2 with ⟨e2, _⟩ | ⟨a, len, cap, elems, rest, m, hm, e2, hy, _, hlc, hcm, hel, hels, hrest, _⟩
      · simp only [List.cons.injEq, and_true] at e2
        subst e2
        exact ⟨.mk k s.data.toList [] p, none, 0, by simp [es], ⟨bk.1, bk.2, bp.1, bp.2, by simp; omega, by simp, by simp, by simp⟩, Kids.nil _ _ _, fun d => by cases d <;> simp [walkL, Rows.uptoBulk, Rows.uptoBulkAll]⟩
      · simp only [List.cons.injEq, and_true] at e2
        subst e2
        have wl : ∀ n, n ∈ (elems.length + rest.length) * Try.prog.bytesOf 24 :: (DataW.weightsAll Try.prog 24 (elems.map (·.1)) ++ DataW.weightsAll Try.prog 24 (rest.map (·.1))) → n ≤ reachBytes := by
          intro n hn
          refine wt n ?_
          rw [hy]
          simp only [DataW.weightsEach, DataW.weights, Try.underlying22, List.length_map, List.nil_append, List.append_nil, List.mem_append]
          exact .inr hn
        have wn := wl _ (List.mem_cons_self ..)
        rw [bytesN] at wn
        have wn' : (elems.length + rest.length) * 56 ≤ 140737488351232 := wn
        have spot0 : 0 < len → a.spot = none := by
          intro h0
          have h4 := hels 0 h0
          rw [List.getElem?_eq_getElem (by omega), Option.bind_eq_some_iff] at h4
          obtain ⟨cs', g1, _⟩ := h4
          rw [cellsN] at g1
          obtain ⟨b, off, d0, d1, d2, d3, ea, _⟩ := four_cells g1
          have ea' : a = ⟨b, off, none⟩ := by simpa [Addr.add] using ea
          rw [ea']
        have one : ∀ i, i < len → ∃ x : Nd, ∃ b off a' c', a = ⟨b, off, none⟩ ∧ b < w.heap.size ∧ Four w b (off + i * 4) x a' c' ∧ Fits x c' ∧ Kids w w.heap.size a' x.kids ∧ ∀ d, (walkL d x).length ≤ Rows.uptoBulk ((elems.map (·.1)).getD i .nil) := by
          intro i hi
          have hi' : i < elems.length := by omega
          have h4 := hels i hi
          rw [List.getElem?_eq_getElem hi', Option.bind_eq_some_iff] at h4
          obtain ⟨cs', g1, g2⟩ := h4
          obtain ⟨x, a', c', ex, fx, kx, bx⟩ := ih m (by omega) cs' elems[i] g2 (fun n hn => wl n (List.mem_cons_of_mem _ (List.mem_append_left _ (weights_mem (List.mem_map_of_mem (List.getElem_mem hi')) n hn))))
          rw [cellsN] at g1
          obtain ⟨b, off, d0, d1, d2, d3, ea, ecs, q0, q1, q2, q3⟩ := four_cells g1
          rw [ex] at ecs
          simp only [List.cons.injEq, and_true] at ecs
          obtain ⟨rfl, rfl, rfl, rfl⟩ := ecs
          have hsp := spot0 (by omega)
          obtain ⟨ab, aoff, aspot⟩ := a
          simp only at hsp
          subst hsp
          have ea' : ab = b ∧ aoff + i * 4 = off := by
            by_cases hz : i * 4 = 0
            · simpa [Addr.add, hz] using ea
            · simpa [Addr.add, hz] using ea
          obtain ⟨rfl, rfl⟩ := ea'
          exact ⟨x, ab, aoff, a', c', rfl, cell_lt q0, ⟨q0, q1, q2, q3⟩, fx, kx, fun d => by simpa [hi'] using bx d⟩
        obtain ⟨l, hll, hlp⟩ := list_of _ len one
        refine ⟨.mk k s.data.toList l p, some a, cap, by simp [es, hll], ⟨bk.1, bk.2, bp.1, bp.2, by simp; omega, by simp; omega, by unfold maxLen at hcm; exact hcm, by simp; omega⟩, ?_, fun d => ?_⟩
        · rw [kids_iff]
          intro j hj
          obtain ⟨b, off, a', c', ea, hb, h4, hx, hk, _⟩ := hlp j hj
          exact ⟨b, off, a', c', by rw [ea], hb, h4, hx, hk⟩
        · have hsum : ∀ d, (l.flatMap (walkL d)).length ≤ Rows.uptoBulkAll (elems.map (·.1)) := fun d => flat_bulk (by simp [hll, hel]) (fun j hj => by
            obtain ⟨b, off, a', c', _, _, _, _, _, hb⟩ := hlp j hj
            exact hb d)
          cases d with
          | zero => simp [walkL]
          | succ d =>
            have := hsum d
            rw [walkL, List.length_cons, hy]
            simp only [List.map_cons, List.map_nil, Rows.uptoBulk, Rows.uptoBulkAll, Nd.kids_mk]
            omega

/-- An argument of type api.Node, opened. -/
theorem arg_openB {v : Value} {d0 : DataW H} {ps : List MemPlace} (hv : Value.okWide Try.prog w .any base 24 v) (h : DataW.Trod enc Try.prog w 0 (fun _ => true) true 24 v d0 ps)
    (hw : ∀ n, n ∈ d0.weights Try.prog 24 → n ≤ reachBytes) : ∃ (t : Nd) (a : Option Addr) (c : Nat), v = .agg #[.int .i64 t.kind, .string ⟨t.text.toArray⟩, .slice a t.kids.length c, .int .i64 t.pos] ∧ Fits t c ∧ Kids w w.heap.size a t.kids ∧ ∀ d, (walkL d t).length ≤ Rows.uptoBulk d0 := by
  obtain ⟨cs, rfl, hsz⟩ := okWide_struct Try.underlying24 hv
  obtain ⟨fuel, hf⟩ := h
  obtain ⟨t, a, c, e, hfit, hk, hbk⟩ := nd_openB fuel _ _ hf hw
  refine ⟨t, a, c, ?_, hfit, hk, hbk⟩
  have e' : cs.toList = [.int .i64 t.kind, .string ⟨t.text.toArray⟩, .slice a t.kids.length c, .int .i64 t.pos] := e
  have : cs = #[.int .i64 t.kind, .string ⟨t.text.toArray⟩, .slice a t.kids.length c, .int .i64 t.pos] := by rw [← Array.toList_inj, e']
  rw [this]

end
end Go.Proofs.Ytnmebgiiajnnjaa

namespace Go.Proofs.Ytnmebgiiajnnjaa
set_option linter.unusedSimpArgs false
set_option linter.unusedVariables false
open Go.RowKit Go.Joins Go.ChangeShapes Go.WideShapes
section
variable {H : Type} {enc : TypeId × Value → H}

set_option maxRecDepth 100000 in
theorem cond_shaped {os : Os} {f : FuncId} {fn : Func} {s : OpenSpec} {k : (H : Type) → List (DataW H) → Bool} (hk : s.cond = some k) {F : Stop.Interp} {conds : List PathCond} {apart fresh handsOn again : Bool}
    (started : os.Started) (noInit : Try.checked.prog.inits.idxOf? f = none) (hfn : Try.checked.prog.funcs[f]? = some fn)
    (witness : ∃ (w : World) (tape : Tape) (i : Input), w.os = os ∧ (w.forCall tape i).Shaped Try.checked.prog ∧ i.vars = [] ∧ Input.okWide Try.checked.prog (w.forCall tape i) .any w.heap.size f i ∧
      s.pre6 enc Try.checked.prog fn conds apart (w.forCall tape i).memory i.args ∧ Assume.holds {} Try.checked.prog (lone (Frame.enter Try.checked.prog f i.args .normal) [] (w.forCall tape i)))
    (contract : ∀ (W : World) (base : Nat) (args : Array Value) (ds gs : List (DataW H)) (before : List MemPlace),
      (∀ (j : Nat) t v, fn.params[j]? = some t → args[j]? = some v → Value.okWide Try.checked.prog W .any base t v) →
      DataW.Whole enc Try.checked.prog fn.params.toList s.vars apart W args.toList ds gs before → k H (ds ++ gs) = true →
      (DataW.weightsEach Try.checked.prog (fn.params.toList ++ s.bare.plain.varTypes Try.checked.prog) (ds ++ gs)).all (· ≤ reachBytes) = true →
      W.ShapedOpen Try.checked.prog →
      Calls Try.checked.prog f args W fun e W' => ∃ v, e = .returned v ∧ (s.at F).post enc Try.checked.prog fn apart fresh handsOn again W args v W') :
    ReturnsInHanded {} Try.checked os f .any (s.pre6 enc Try.checked.prog fn conds apart) ((s.at F).post enc Try.checked.prog fn apart fresh handsOn again) := by
  refine returnsInHanded_of_calls ownK started noInit witness ?_
  intro w tape i _ hsh _ hok hpre _
  obtain ⟨_, _, _, fn', hfn', _, _, _, _, hval⟩ := hok
  obtain rfl : fn' = fn := Option.some.inj (hfn'.symm.trans hfn)
  obtain ⟨ds, gs, before, hw, _, hkk⟩ := (OpenSpec.pre_some hk conds apart _ _).1 hpre.1
  have hw' := DataW.Whole.of_heap (w' := w.forCall tape i) (by rfl) hw
  refine (contract (w.forCall tape i) w.heap.size i.args ds gs before hval hw' hkk (hpre.2.weights hw) hsh).mono fun e W' ⟨v, he, hp⟩ => ?_
  subst he
  exact ChangeSpec.post_blind hp

theorem bulk_mem {d : DataW H} : ∀ {l : List (DataW H)}, d ∈ l → Rows.uptoBulk d ≤ Rows.uptoBulkAll l
  | [], h => by cases h
  | x :: l, h => by
    rw [Rows.uptoBulkAll]
    rcases List.mem_cons.1 h with rfl | h
    · omega
    · have := bulk_mem h; omega
theorem bulk_of {l : List (DataW H)} (h : Rows.uptoSmall H l = true) : Rows.uptoBulkAll l ≤ 1048576 := of_decide_eq_true h
end
end Go.Proofs.Ytnmebgiiajnnjaa
