/-
  Arguments of the type []api.Node, opened. As Open: and how many are in a node is at most the bulk of what is read.
  The second form's builder, the world's shape handed on besides; the bulk of one argument.
-/
import Derived.Test.YtfcpblclfgkdjaaGreatDoorRows
import Derived.Test.YtfcpblclfgkdjaaGreatDoorOpen
import Derived.Test.YtfcpblclfgkdjaaGreatDoorZA
import Derived.JoinedCond
namespace Go.Proofs.YtfcpblclfgkdjaaGreatDoor
set_option linter.unusedSimpArgs false
set_option linter.unusedVariables false
open Go.RowKit Go.Joins Go.ChangeShapes Go.WideShapes
section
variable {H : Type} {enc : TypeId × Value → H} {w : World} {base : Nat}

theorem flat_bulk {d : Nat} : ∀ {l : List Nd} {E : List (DataW H)}, l.length = E.length → (∀ j (hj : j < l.length), (walkL d l[j]).length ≤ Rows.uptoBulk (E.getD j .nil)) → (l.flatMap (walkL d)).length ≤ Rows.uptoBulkAll E
  | [], _, _, _ => by simp
  | x :: l, [], h, _ => by simp at h
  | x :: l, e :: E, h, hb => by
    have h0 := hb 0 (by simp)
    have h1 := flat_bulk (l := l) (E := E) (by simpa using h) (fun j hj => hb (j + 1) (Nat.succ_lt_succ hj))
    rw [List.flatMap_cons, List.length_append, Rows.uptoBulkAll]
    simp at h0
    omega

set_option maxRecDepth 100000 in
theorem nd_openB : ∀ (fuel : Nat) (cs : List Value) (y : DataW H × List MemPlace), DataW.trod enc Tryz.prog w base (fun _ => true) true fuel 25 cs = some y →
    (∀ n, n ∈ y.1.weights Tryz.prog 25 → n ≤ reachBytes) →
    ∃ (t : Nd) (a : Option Addr) (c : Nat), cs = [.int .i64 t.kind, .string ⟨t.text.toArray⟩, .slice a t.kids.length c, .int .i64 t.pos] ∧ Fits t c ∧ Kids w w.heap.size a t.kids ∧ ∀ d, (walkL d t).length ≤ Rows.uptoBulk y.1 := by
  intro fuel
  induction fuel using Nat.strongRecOn with
  | ind fuel ih =>
    intro cs y h hw
    obtain ⟨xs, n, hn, rfl, hl, hlen, hf⟩ := DataW.trod_struct Tryz.underlying25 h
    rw [cellsN] at hl
    match xs, hlen, cs, hl with
    | [y0, y1, y2, y3], _, [c0, c1, c2, c3], _ =>
      have h0 := hf 0 _ rfl
      have h1 := hf 1 _ rfl
      have h2 := hf 2 _ rfl
      have h3 := hf 3 _ rfl
      simp [cellsI, cellsS, cellsL] at h0 h1 h2 h3
      obtain ⟨k, e0, rfl, k0⟩ := DataW.trod_int Tryz.underlying3 h0
      obtain ⟨s, e1, rfl, k1⟩ := DataW.trod_string Tryz.underlying9 h1
      obtain ⟨p, e3, rfl, k3⟩ := DataW.trod_int Tryz.underlying3 h3
      simp only [List.cons.injEq, and_true] at e0 e1 e3
      subst e0 e1 e3
      have wt : ∀ n, n ∈ DataW.weightsEach Tryz.prog [3, 9, 22, 3] [DataW.lit (H := H) (.int .i64 k), .lit (.string s.data.toList), y2.1, .lit (.int .i64 p)] → n ≤ reachBytes := by
        intro n hn
        refine hw n ?_
        simp only [DataW.weights, Tryz.underlying25]
        exact hn
      have ws : s.size ≤ 140737488351232 := wt s.size (by simp [DataW.weightsEach, DataW.weights])
      have bk := int_bounds k0
      have bp := int_bounds k3
      have es : (⟨s.data.toList.toArray⟩ : ByteArray) = s := by cases s; simp
      have ls : s.data.toList.length = s.size := by simp
      rcases DataW.trod_slice Tryz.underlying22 h2 with ⟨e2, _⟩ | ⟨a, len, cap, elems, rest, m, hm, e2, hy, _, hlc, hcm, hel, hels, hrest, _⟩
      · simp only [List.cons.injEq, and_true] at e2
        subst e2
        exact ⟨.mk k s.data.toList [] p, none, 0, by simp [es], ⟨bk.1, bk.2, bp.1, bp.2, by simp; omega, by simp, by simp, by simp⟩, Kids.nil _ _ _, fun d => by cases d <;> simp [walkL, Rows.uptoBulk, Rows.uptoBulkAll]⟩
      · simp only [List.cons.injEq, and_true] at e2
        subst e2
        have wl : ∀ n, n ∈ (elems.length + rest.length) * Tryz.prog.bytesOf 25 :: (DataW.weightsAll Tryz.prog 25 (elems.map (·.1)) ++ DataW.weightsAll Tryz.prog 25 (rest.map (·.1))) → n ≤ reachBytes := by
          intro n hn
          refine wt n ?_
          rw [hy]
          simp only [DataW.weightsEach, DataW.weights, Tryz.underlying22, List.length_map, List.nil_append, List.append_nil, List.mem_append]
          exact .inr hn
        have wn := wl _ (List.mem_cons_self ..)
        rw [bytesN] at wn
        have wn' : (elems.length + rest.length) * 56 ≤ 140737488351232 := wn
        have spot0 : 0 < len → a.spot = none := by
          intro h0
          have h4 := hels 0 h0
          rw [List.getElem?_eq_getElem (by omega), Option.bind_eq_some_iff] at h4
          obtain ⟨cs', g1, _⟩ := h4
          rw [cellsN] at g1
          obtain ⟨b, off, d0, d1, d2, d3, ea, _⟩ := four_cells g1
          have ea' : a = ⟨b, off, none⟩ := by simpa [Addr.add] using ea
          rw [ea']
        have one : ∀ i, i < len → ∃ x : Nd, ∃ b off a' c', a = ⟨b, off, none⟩ ∧ b < w.heap.size ∧ Four w b (off + i * 4) x a' c' ∧ Fits x c' ∧ Kids w w.heap.size a' x.kids ∧ ∀ d, (walkL d x).length ≤ Rows.uptoBulk ((elems.map (·.1)).getD i .nil) := by
          intro i hi
          have hi' : i < elems.length := by omega
          have h4 := hels i hi
          rw [List.getElem?_eq_getElem hi', Option.bind_eq_some_iff] at h4
          obtain ⟨cs', g1, g2⟩ := h4
          obtain ⟨x, a', c', ex, fx, kx, bx⟩ := ih m (by omega) cs' elems[i] g2 (fun n hn => wl n (List.mem_cons_of_mem _ (List.mem_append_left _ (weights_mem (List.mem_map_of_mem (List.getElem_mem hi')) n hn))))
          rw [cellsN] at g1
          obtain ⟨b, off, d0, d1, d2, d3, ea, ecs, q0, q1, q2, q3⟩ := four_cells g1
          rw [ex] at ecs
          simp only [List.cons.injEq, and_true] at ecs
          obtain ⟨rfl, rfl, rfl, rfl⟩ := ecs
          have hsp := spot0 (by omega)
          obtain ⟨ab, aoff, aspot⟩ := a
          simp only at hsp
          subst hsp
          have ea' : ab = b ∧ aoff + i * 4 = off := by
            by_cases hz : i * 4 = 0
            · simpa [Addr.add, hz] using ea
            · simpa [Addr.add, hz] using ea
          obtain ⟨rfl, rfl⟩ := ea'
          exact ⟨x, ab, aoff, a', c', rfl, cell_lt q0, ⟨q0, q1, q2, q3⟩, fx, kx, fun d => by simpa [hi'] using bx d⟩
        obtain ⟨l, hll, hlp⟩ := list_of _ len one
        refine ⟨.mk k s.data.toList l p, some a, cap, by simp [es, hll], ⟨bk.1, bk.2, bp.1, bp.2, by simp; omega, by simp; omega, by unfold maxLen at hcm; exact hcm, by simp; omega⟩, ?_, fun d => ?_⟩
        · rw [kids_iff]
          intro j hj
          obtain ⟨b, off, a', c', ea, hb, h4, hx, hk, _⟩ := hlp j hj
          exact ⟨b, off, a', c', by rw [ea], hb, h4, hx, hk⟩
        · have hsum : ∀ d, (l.flatMap (walkL d)).length ≤ Rows.uptoBulkAll (elems.map (·.1)) := fun d => flat_bulk (by simp [hll, hel]) (fun j hj => by
            obtain ⟨b, off, a', c', _, _, _, _, _, hb⟩ := hlp j hj
            exact hb d)
          cases d with
          | zero => simp [walkL]
          | succ d =>
            have := hsum d
            rw [walkL, List.length_cons, hy]
            simp only [List.map_cons, List.map_nil, Rows.uptoBulk, Rows.uptoBulkAll, Nd.kids_mk]
            omega

set_option maxRecDepth 100000 in
/-- An argument of type api.Node, opened. -/
theorem arg_openB {v : Value} {d0 : DataW H} {ps : List MemPlace} (hv : Value.okWide Tryz.prog w .any base 25 v) (h : DataW.Trod enc Tryz.prog w 0 (fun _ => true) true 25 v d0 ps)
    (hw : ∀ n, n ∈ d0.weights Tryz.prog 25 → n ≤ reachBytes) : ∃ (t : Nd) (a : Option Addr) (c : Nat), v = .agg #[.int .i64 t.kind, .string ⟨t.text.toArray⟩, .slice a t.kids.length c, .int .i64 t.pos] ∧ Fits t c ∧ Kids w w.heap.size a t.kids ∧ ∀ d, (walkL d t).length ≤ Rows.uptoBulk d0 := by
  obtain ⟨cs, rfl, hsz⟩ := okWide_struct Tryz.underlying25 hv
  obtain ⟨fuel, hf⟩ := h
  obtain ⟨t, a, c, e, hfit, hk, hbk⟩ := nd_openB fuel _ _ hf hw
  refine ⟨t, a, c, ?_, hfit, hk, hbk⟩
  have e' : cs.toList = [.int .i64 t.kind, .string ⟨t.text.toArray⟩, .slice a t.kids.length c, .int .i64 t.pos] := e
  have : cs = #[.int .i64 t.kind, .string ⟨t.text.toArray⟩, .slice a t.kids.length c, .int .i64 t.pos] := by rw [← Array.toList_inj, e']
  rw [this]

end
end Go.Proofs.YtfcpblclfgkdjaaGreatDoor

namespace Go.Proofs.YtfcpblclfgkdjaaGreatDoor
set_option linter.unusedSimpArgs false
set_option linter.unusedVariables false
open Go.RowKit Go.Joins Go.ChangeShapes Go.WideShapes
section
variable {H : Type} {enc : TypeId × Value → H}

theorem bulk_mem {d : DataW H} : ∀ {l : List (DataW H)}, d ∈ l → Rows.uptoBulk d ≤ Rows.uptoBulkAll l
  | [], h => by cases h
  | x :: l, h => by
    rw [Rows.uptoBulkAll]
    rcases List.mem_cons.1 h with rfl | h
    · omega
    · have := bulk_mem h; omega
theorem bulk_of {l : List (DataW H)} (h : Rows.uptoSmall H l = true) : Rows.uptoBulkAll l ≤ 1048576 := of_decide_eq_true h
end

section
variable {H : Type} {enc : TypeId × Value → H} {w : World} {base : Nat}
set_option maxRecDepth 100000 in
/-- An argument of type []api.Node, opened. -/
theorem nds_open {v : Value} {d : DataW H} {ps : List MemPlace} (hv : Value.okWide Tryz.prog w .any base 22 v) (h : DataW.Trod enc Tryz.prog w 0 (fun _ => true) true 22 v d ps)
    (hw : ∀ n, n ∈ d.weights Tryz.prog 22 → n ≤ reachBytes) : ∃ (l : List Nd) (a : Option Addr) (c : Nat), v = .slice a l.length c ∧ Kids w w.heap.size a l ∧ l.length ≤ c ∧ c ≤ 9223372036854775807 ∧ l.length * 56 ≤ 140737488351232 ∧ ∀ k, (l.flatMap (walkL k)).length + 1 ≤ Rows.uptoBulk d := by
  obtain ⟨a, len, cap, rfl⟩ := okWide_slice Tryz.underlying22 hv
  obtain ⟨fuel, hf⟩ := h
  have hf : DataW.trod enc Tryz.prog w 0 (fun _ => true) true fuel 22 [.slice a len cap] = some (d, ps) := hf
  rcases DataW.trod_slice Tryz.underlying22 hf with ⟨e2, hn2⟩ | ⟨a, len, cap, elems, rest, m, hm, e2, hy, _, hlc, hcm, hel, hels, hrest, _⟩
  · simp only [List.cons.injEq, and_true, Value.slice.injEq] at e2
    obtain ⟨rfl, rfl, rfl⟩ := e2
    have hd : d = _ := congrArg Prod.fst hn2
    exact ⟨[], none, 0, rfl, Kids.nil _ _ _, by simp, by simp, by simp, fun k => by rw [hd]; simp [Rows.uptoBulk]⟩
  · simp only [List.cons.injEq, and_true, Value.slice.injEq] at e2
    obtain ⟨rfl, rfl, rfl⟩ := e2
    have hd : d = _ := congrArg Prod.fst hy
    have wl : ∀ n, n ∈ (elems.length + rest.length) * Tryz.prog.bytesOf 25 :: (DataW.weightsAll Tryz.prog 25 (elems.map (·.1)) ++ DataW.weightsAll Tryz.prog 25 (rest.map (·.1))) → n ≤ reachBytes := by
      intro n hn
      refine hw n ?_
      rw [hd]
      simp only [DataW.weights, Tryz.underlying22, List.length_map]
      exact hn
    have wn := wl _ (List.mem_cons_self ..)
    rw [bytesN] at wn
    have wn' : (elems.length + rest.length) * 56 ≤ 140737488351232 := wn
    have spot0 : 0 < len → a.spot = none := by
      intro h0
      have h4 := hels 0 h0
      rw [List.getElem?_eq_getElem (by omega), Option.bind_eq_some_iff] at h4
      obtain ⟨cs', g1, _⟩ := h4
      rw [cellsN] at g1
      obtain ⟨b, off, d0, d1, d2, d3, ea, _⟩ := four_cells g1
      have ea' : a = ⟨b, off, none⟩ := by simpa [Addr.add] using ea
      rw [ea']
    have one : ∀ i, i < len → ∃ x : Nd, ∃ b off a' c', a = ⟨b, off, none⟩ ∧ b < w.heap.size ∧ Four w b (off + i * 4) x a' c' ∧ Fits x c' ∧ Kids w w.heap.size a' x.kids ∧ ∀ d, (walkL d x).length ≤ Rows.uptoBulk ((elems.map (·.1)).getD i .nil) := by
      intro i hi
      have hi' : i < elems.length := by omega
      have h4 := hels i hi
      rw [List.getElem?_eq_getElem hi', Option.bind_eq_some_iff] at h4
      obtain ⟨cs', g1, g2⟩ := h4
      obtain ⟨x, a', c', ex, fx, kx, bx⟩ := nd_openB m cs' elems[i] g2 (fun n hn => wl n (List.mem_cons_of_mem _ (List.mem_append_left _ (weights_mem (List.mem_map_of_mem (List.getElem_mem hi')) n hn))))
      rw [cellsN] at g1
      obtain ⟨b, off, d0, d1, d2, d3, ea, ecs, q0, q1, q2, q3⟩ := four_cells g1
      rw [ex] at ecs
      simp only [List.cons.injEq, and_true] at ecs
      obtain ⟨rfl, rfl, rfl, rfl⟩ := ecs
      have hsp := spot0 (by omega)
      obtain ⟨ab, aoff, aspot⟩ := a
      simp only at hsp
      subst hsp
      have ea' : ab = b ∧ aoff + i * 4 = off := by
        by_cases hz : i * 4 = 0
        · simpa [Addr.add, hz] using ea
        · simpa [Addr.add, hz] using ea
      obtain ⟨rfl, rfl⟩ := ea'
      exact ⟨x, ab, aoff, a', c', rfl, cell_lt q0, ⟨q0, q1, q2, q3⟩, fx, kx, fun d => by simpa [hi'] using bx d⟩
    obtain ⟨l, hll, hlp⟩ := list_of _ len one
    refine ⟨l, some a, cap, by rw [hll], ?_, by rw [hll]; exact hlc, by unfold maxLen at hcm; exact hcm, by omega, fun k => ?_⟩
    · rw [kids_iff]
      intro j hj
      obtain ⟨b, off, a', c', ea, hb, h4, hx, hk, _⟩ := hlp j hj
      exact ⟨b, off, a', c', by rw [ea], hb, h4, hx, hk⟩
    · have hsum : (l.flatMap (walkL k)).length ≤ Rows.uptoBulkAll (elems.map (·.1)) := flat_bulk (by simp [hll, hel]) (fun j hj => by
        obtain ⟨b, off, a', c', _, _, _, _, _, hb⟩ := hlp j hj
        exact hb k)
      rw [hd]
      simp only [Rows.uptoBulk]
      omega
set_option maxRecDepth 100000 in
theorem nds_below {W W' : World} {v : Value} {d : DataW H} {ps : List MemPlace} (h : DataW.Trod enc Tryz.prog W 0 (fun _ => true) true 22 v d ps) (hb : Below W.heap.size W W') :
    DataW.Trod enc Tryz.prog W' 0 (fun b => decide (b < W.heap.size)) true 22 v d ps :=
  Below.trod laidOutK (by kernel_rfl) (of_decide_eq_true (by kernel_rfl)) h hb (by obtain ⟨m, hm⟩ := h; exact DataW.trod_lt m _ _ _ hm)
end
end Go.Proofs.YtfcpblclfgkdjaaGreatDoor
