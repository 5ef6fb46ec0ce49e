/-
  What reads as data at the type api.Node is a node whose kids lie in memory.
-/
import Derived.Test.YtfcpblclfgkdjaaGreatDoorNd
import Derived.HandedShaped
import Derived.Lib.SmallJoins
import Derived.Shelf.Vars
import Derived.ProofKit
import Derived.OpenShut
import Derived.ShutString
import Derived.ChangeOld
namespace Go.Proofs.YtfcpblclfgkdjaaGreatDoor
set_option linter.unusedSimpArgs false
set_option linter.unusedVariables false
open Go.RowKit Go.Joins Go.ChangeShapes Go.WideShapes

theorem cellsI : Tryz.prog.cellsOf 3 = 1 := by kernel_rfl
theorem cellsS : Tryz.prog.cellsOf 9 = 1 := by kernel_rfl
theorem cellsL : Tryz.prog.cellsOf 22 = 1 := by kernel_rfl
theorem cellsN : Tryz.prog.cellsOf 25 = 4 := by kernel_rfl
theorem bytesN : Tryz.prog.bytesOf 25 = 56 := by kernel_rfl
theorem ownK : ownKnob Tryz.prog.godebug = none := by kernel_rfl
theorem laidOutK : laidOutB Tryz.prog = true := by kernel_rfl

theorem list_of {α : Type} (p : Nat → α → Prop) : ∀ (n : Nat), (∀ i, i < n → ∃ x, p i x) → ∃ l : List α, l.length = n ∧ ∀ i (hi : i < l.length), p i l[i]
  | 0, _ => ⟨[], rfl, fun i hi => by simp at hi⟩
  | n + 1, h => by
    obtain ⟨l, hl, hp⟩ := list_of p n (fun i hi => h i (by omega))
    obtain ⟨x, hx⟩ := h n (by omega)
    refine ⟨l ++ [x], by simp [hl], fun i hi => ?_⟩
    by_cases e : i < l.length
    · rw [List.getElem_append_left e]; exact hp i e
    · have e2 : i = n := by simp [hl] at hi; omega
      subst e2
      rw [List.getElem_append_right (by omega)]
      simpa using hx

section
variable {H : Type} {enc : TypeId × Value → H} {w : World} {base : Nat}

theorem weights_mem {P : Program} {e : TypeId} {d : DataW H} : ∀ {l : List (DataW H)}, d ∈ l → ∀ n, n ∈ d.weights P e → n ∈ DataW.weightsAll P e l
  | [], h, _, _ => by cases h
  | x :: r, h, n, hn => by
    rw [DataW.weightsAll, List.mem_append]
    rcases List.mem_cons.1 h with rfl | h
    · exact .inl hn
    · exact .inr (weights_mem h n hn)

theorem four_cells {a : Addr} {cs : List Value} (h : w.cells? base a 4 = some cs) : ∃ b off c0 c1 c2 c3, a = ⟨b, off, none⟩ ∧ cs = [c0, c1, c2, c3] ∧
    w.cell? ⟨b, off, none⟩ = some c0 ∧ w.cell? ⟨b, off + 1, none⟩ = some c1 ∧ w.cell? ⟨b, off + 2, none⟩ = some c2 ∧ w.cell? ⟨b, off + 3, none⟩ = some c3 := by
  obtain ⟨_, hl, hc⟩ := World.cells?_some h
  match cs, hl with
  | [c0, c1, c2, c3], _ =>
    have h0 := hc 0 (by omega)
    have h1 := hc 1 (by omega)
    have h2 := hc 2 (by omega)
    have h3 := hc 3 (by omega)
    obtain ⟨b, off, spot⟩ := a
    have h0' : w.cell? ⟨b, off, spot⟩ = some c0 := by simpa [Addr.add] using h0
    have hs : spot = none := World.cell?_spot h0'
    subst hs
    exact ⟨b, off, c0, c1, c2, c3, rfl, rfl, by simpa [Addr.add] using h0, by simpa [Addr.add] using h1, by simpa [Addr.add] using h2, by simpa [Addr.add] using h3⟩

theorem int_bounds {n : Int} (h : (Lit.int .i64 n).wf = true) : -9223372036854775808 ≤ n ∧ n ≤ 9223372036854775807 := by
  simpa [Lit.wf, IntKind.min, IntKind.max, IntKind.signed, IntKind.bits] using h

set_option maxRecDepth 100000 in
theorem nd_open : ∀ (fuel : Nat) (cs : List Value) (y : DataW H × List MemPlace), DataW.trod enc Tryz.prog w base (fun _ => true) true fuel 25 cs = some y →
    (∀ n, n ∈ y.1.weights Tryz.prog 25 → n ≤ reachBytes) →
    ∃ (t : Nd) (a : Option Addr) (c : Nat), cs = [.int .i64 t.kind, .string ⟨t.text.toArray⟩, .slice a t.kids.length c, .int .i64 t.pos] ∧ Fits t c ∧ Kids w w.heap.size a t.kids := by
  intro fuel
  induction fuel using Nat.strongRecOn with
  | ind fuel ih =>
    intro cs y h hw
    obtain ⟨xs, n, hn, rfl, hl, hlen, hf⟩ := DataW.trod_struct Tryz.underlying25 h
    rw [cellsN] at hl
    match xs, hlen, cs, hl with
    | [y0, y1, y2, y3], _, [c0, c1, c2, c3], _ =>
      have h0 := hf 0 _ rfl
      have h1 := hf 1 _ rfl
      have h2 := hf 2 _ rfl
      have h3 := hf 3 _ rfl
      simp [cellsI, cellsS, cellsL] at h0 h1 h2 h3
      obtain ⟨k, e0, rfl, k0⟩ := DataW.trod_int Tryz.underlying3 h0
      obtain ⟨s, e1, rfl, k1⟩ := DataW.trod_string Tryz.underlying9 h1
      obtain ⟨p, e3, rfl, k3⟩ := DataW.trod_int Tryz.underlying3 h3
      simp only [List.cons.injEq, and_true] at e0 e1 e3
      subst e0 e1 e3
      have wt : ∀ n, n ∈ DataW.weightsEach Tryz.prog [3, 9, 22, 3] [DataW.lit (H := H) (.int .i64 k), .lit (.string s.data.toList), y2.1, .lit (.int .i64 p)] → n ≤ reachBytes := by
        intro n hn
        refine hw n ?_
        simp only [DataW.weights, Tryz.underlying25]
        exact hn
      have ws : s.size ≤ 140737488351232 := wt s.size (by simp [DataW.weightsEach, DataW.weights])
      have bk := int_bounds k0
      have bp := int_bounds k3
      have es : (⟨s.data.toList.toArray⟩ : ByteArray) = s := by cases s; simp
      have ls : s.data.toList.length = s.size := by simp
      rcases DataW.trod_slice Tryz.underlying22 h2 with ⟨e2, _⟩ | ⟨a, len, cap, elems, rest, m, hm, e2, hy, _, hlc, hcm, hel, hels, hrest, _⟩
      · simp only [List.cons.injEq, and_true] at e2
        subst e2
        exact ⟨.mk k s.data.toList [] p, none, 0, by simp [es], ⟨bk.1, bk.2, bp.1, bp.2, by simp; omega, by simp, by simp, by simp⟩, Kids.nil _ _ _⟩
      · simp only [List.cons.injEq, and_true] at e2
        subst e2
        have wl : ∀ n, n ∈ (elems.length + rest.length) * Tryz.prog.bytesOf 25 :: (DataW.weightsAll Tryz.prog 25 (elems.map (·.1)) ++ DataW.weightsAll Tryz.prog 25 (rest.map (·.1))) → n ≤ reachBytes := by
          intro n hn
          refine wt n ?_
          rw [hy]
          simp only [DataW.weightsEach, DataW.weights, Tryz.underlying22, List.length_map, List.nil_append, List.append_nil, List.mem_append]
          exact .inr hn
        have wn := wl _ (List.mem_cons_self ..)
        rw [bytesN] at wn
        have wn' : (elems.length + rest.length) * 56 ≤ 140737488351232 := wn
        have spot0 : 0 < len → a.spot = none := by
          intro h0
          have h4 := hels 0 h0
          rw [List.getElem?_eq_getElem (by omega), Option.bind_eq_some_iff] at h4
          obtain ⟨cs', g1, _⟩ := h4
          rw [cellsN] at g1
          obtain ⟨b, off, d0, d1, d2, d3, ea, _⟩ := four_cells g1
          have ea' : a = ⟨b, off, none⟩ := by simpa [Addr.add] using ea
          rw [ea']
        have one : ∀ i, i < len → ∃ x : Nd, ∃ b off a' c', a = ⟨b, off, none⟩ ∧ b < w.heap.size ∧ Four w b (off + i * 4) x a' c' ∧ Fits x c' ∧ Kids w w.heap.size a' x.kids := by
          intro i hi
          have hi' : i < elems.length := by omega
          have h4 := hels i hi
          rw [List.getElem?_eq_getElem hi', Option.bind_eq_some_iff] at h4
          obtain ⟨cs', g1, g2⟩ := h4
          obtain ⟨x, a', c', ex, fx, kx⟩ := ih m (by omega) cs' elems[i] g2 (fun n hn => wl n (List.mem_cons_of_mem _ (List.mem_append_left _ (weights_mem (List.mem_map_of_mem (List.getElem_mem hi')) n hn))))
          rw [cellsN] at g1
          obtain ⟨b, off, d0, d1, d2, d3, ea, ecs, q0, q1, q2, q3⟩ := four_cells g1
          rw [ex] at ecs
          simp only [List.cons.injEq, and_true] at ecs
          obtain ⟨rfl, rfl, rfl, rfl⟩ := ecs
          have hsp := spot0 (by omega)
          obtain ⟨ab, aoff, aspot⟩ := a
          simp only at hsp
          subst hsp
          have ea' : ab = b ∧ aoff + i * 4 = off := by
            by_cases hz : i * 4 = 0
            · simpa [Addr.add, hz] using ea
            · simpa [Addr.add, hz] using ea
          obtain ⟨rfl, rfl⟩ := ea'
          exact ⟨x, ab, aoff, a', c', rfl, cell_lt q0, ⟨q0, q1, q2, q3⟩, fx, kx⟩
        obtain ⟨l, hll, hlp⟩ := list_of _ len one
        refine ⟨.mk k s.data.toList l p, some a, cap, by simp [es, hll], ⟨bk.1, bk.2, bp.1, bp.2, by simp; omega, by simp; omega, by unfold maxLen at hcm; exact hcm, by simp; omega⟩, ?_⟩
        rw [kids_iff]
        intro j hj
        obtain ⟨b, off, a', c', ea, hb, h4, hx, hk⟩ := hlp j hj
        exact ⟨b, off, a', c', by rw [ea], hb, h4, hx, hk⟩

set_option maxRecDepth 100000 in
/-- An argument of type api.Node, opened. -/
theorem arg_open {v : Value} {d : DataW H} {ps : List MemPlace} (hv : Value.okWide Tryz.prog w .any base 25 v) (h : DataW.Trod enc Tryz.prog w 0 (fun _ => true) true 25 v d ps)
    (hw : ∀ n, n ∈ d.weights Tryz.prog 25 → n ≤ reachBytes) : ∃ (t : Nd) (a : Option Addr) (c : Nat), v = .agg #[.int .i64 t.kind, .string ⟨t.text.toArray⟩, .slice a t.kids.length c, .int .i64 t.pos] ∧ Fits t c ∧ Kids w w.heap.size a t.kids := by
  obtain ⟨cs, rfl, hsz⟩ := okWide_struct Tryz.underlying25 hv
  obtain ⟨fuel, hf⟩ := h
  obtain ⟨t, a, c, e, hfit, hk⟩ := nd_open fuel _ _ hf hw
  refine ⟨t, a, c, ?_, hfit, hk⟩
  have e' : cs.toList = [.int .i64 t.kind, .string ⟨t.text.toArray⟩, .slice a t.kids.length c, .int .i64 t.pos] := e
  have : cs = #[.int .i64 t.kind, .string ⟨t.text.toArray⟩, .slice a t.kids.length c, .int .i64 t.pos] := by rw [← Array.toList_inj, e']
  rw [this]

set_option maxRecDepth 100000 in
theorem glob_of {W : World} (h : W.ShapedOpen Tryz.prog) : Glob W :=
  cell_of_shapedOpen_int (P := Tryz.prog) (g := 0) (t := 3) (zero := #[.int .i64 0]) h (of_decide_eq_true (by kernel_rfl)) (by kernel_rfl) rfl (by kernel_rfl) (by kernel_rfl) Tryz.underlying3
set_option maxRecDepth 100000 in
theorem node_below {W W' : World} {v : Value} {d : DataW H} {ps : List MemPlace} (h : DataW.Trod enc Tryz.prog W 0 (fun _ => true) true 25 v d ps) (hb : Below W.heap.size W W') :
    DataW.Trod enc Tryz.prog W' 0 (fun b => decide (b < W.heap.size)) true 25 v d ps :=
  Below.trod laidOutK (by kernel_rfl) (of_decide_eq_true (by kernel_rfl)) h hb (by obtain ⟨m, hm⟩ := h; exact DataW.trod_lt m _ _ _ hm)
end
end Go.Proofs.YtfcpblclfgkdjaaGreatDoor
