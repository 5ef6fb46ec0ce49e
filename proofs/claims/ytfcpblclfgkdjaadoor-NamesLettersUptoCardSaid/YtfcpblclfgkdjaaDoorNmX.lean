/-
  names: arguments of type []string, opened.
-/
import Derived.HandedShaped
import Derived.Lib.SmallJoins
import Derived.Shelf.Vars
import Derived.ProofKit
import Derived.OpenShut
import Derived.ShutString
import Derived.ChangeOld
import Derived.Carry
import Derived.Test.YtfcpblclfgkdjaaDoorRows
import Derived.Test.YtfcpblclfgkdjaaDoorNmA
namespace Go.Proofs.YtfcpblclfgkdjaaDoor
set_option linter.unusedSimpArgs false
set_option linter.unusedVariables false
open Go.RowKit Go.Joins Go.ChangeShapes Go.WideShapes

theorem cellsS : Tryd.prog.cellsOf 9 = 1 := by kernel_rfl
theorem bytesS : Tryd.prog.bytesOf 9 = 16 := by kernel_rfl
theorem laidOutX : laidOutB Tryd.prog = true := by kernel_rfl

theorem list_of {α : Type} (p : Nat → α → Prop) : ∀ (n : Nat), (∀ i, i < n → ∃ x, p i x) → ∃ l : List α, l.length = n ∧ ∀ i (hi : i < l.length), p i l[i]
  | 0, _ => ⟨[], rfl, fun i hi => by simp at hi⟩
  | n + 1, h => by
    obtain ⟨l, hl, hp⟩ := list_of p n (fun i hi => h i (by omega))
    obtain ⟨x, hx⟩ := h n (by omega)
    refine ⟨l ++ [x], by simp [hl], fun i hi => ?_⟩
    by_cases e : i < l.length
    · rw [List.getElem_append_left e]; exact hp i e
    · have e2 : i = n := by simp [hl] at hi; omega
      subst e2
      rw [List.getElem_append_right (by omega)]
      simpa using hx

section
variable {H : Type} {enc : TypeId × Value → H} {w : World} {base : Nat}

theorem weights_mem {P : Program} {e : TypeId} {d : DataW H} : ∀ {l : List (DataW H)}, d ∈ l → ∀ n, n ∈ d.weights P e → n ∈ DataW.weightsAll P e l
  | [], h, _, _ => by cases h
  | x :: r, h, n, hn => by
    rw [DataW.weightsAll, List.mem_append]
    rcases List.mem_cons.1 h with rfl | h
    · exact .inl hn
    · exact .inr (weights_mem h n hn)

theorem three_cells {a : Addr} {cs : List Value} (h : w.cells? base a 3 = some cs) : ∃ b off c0 c1 c2, a = ⟨b, off, none⟩ ∧ cs = [c0, c1, c2] ∧
    w.cell? ⟨b, off, none⟩ = some c0 ∧ w.cell? ⟨b, off + 1, none⟩ = some c1 ∧ w.cell? ⟨b, off + 2, none⟩ = some c2 := by
  obtain ⟨_, hl, hc⟩ := World.cells?_some h
  match cs, hl with
  | [c0, c1, c2], _ =>
    have h0 := hc 0 (by omega)
    have h1 := hc 1 (by omega)
    have h2 := hc 2 (by omega)
    obtain ⟨b, off, spot⟩ := a
    have h0' : w.cell? ⟨b, off, spot⟩ = some c0 := by simpa [Addr.add] using h0
    have hs : spot = none := World.cell?_spot h0'
    subst hs
    exact ⟨b, off, c0, c1, c2, rfl, rfl, by simpa [Addr.add] using h0, by simpa [Addr.add] using h1, by simpa [Addr.add] using h2⟩
theorem one_cell {a : Addr} {cs : List Value} (h : w.cells? base a 1 = some cs) : ∃ b off c0, a = ⟨b, off, none⟩ ∧ cs = [c0] ∧ w.cell? ⟨b, off, none⟩ = some c0 := by
  obtain ⟨_, hl, hc⟩ := World.cells?_some h
  match cs, hl with
  | [c0], _ =>
    have h0 := hc 0 (by omega)
    obtain ⟨b, off, spot⟩ := a
    have h0' : w.cell? ⟨b, off, spot⟩ = some c0 := by simpa [Addr.add] using h0
    have hs : spot = none := World.cell?_spot h0'
    subst hs
    exact ⟨b, off, c0, rfl, rfl, by simpa [Addr.add] using h0⟩

theorem bulk_mem {d : DataW H} : ∀ {l : List (DataW H)}, d ∈ l → Rows.uptoBulk d ≤ Rows.uptoBulkAll l
  | [], h => by cases h
  | x :: l, h => by
    rw [Rows.uptoBulkAll]
    rcases List.mem_cons.1 h with rfl | h
    · omega
    · have := bulk_mem h; omega
/-- The texts that a slice holds. -/
def StrsB (w : World) (a : Option Addr) (l : List (List UInt8)) : Prop := ∀ j (h : j < l.length), ∃ b off, a = some ⟨b, off, none⟩ ∧ w.cell? ⟨b, off + j, none⟩ = some (.string ⟨l[j].toArray⟩)
set_option maxRecDepth 100000 in
/-- An argument of type []string, opened. -/
theorem open_strs {v : Value} {d : DataW H} {ps : List MemPlace} (hv : Value.okWide Tryd.prog w .any base 22 v) (h : DataW.Trod enc Tryd.prog w 0 (fun _ => true) true 22 v d ps)
    (hw : ∀ n, n ∈ d.weights Tryd.prog 22 → n ≤ reachBytes) : ∃ (l : List (List UInt8)) (a : Option Addr) (c : Nat), v = .slice a l.length c ∧ StrsB w a l ∧ l.length ≤ c ∧ c ≤ 9223372036854775807 ∧ l.length * 16 ≤ 140737488351232 ∧ (∀ s ∈ l, s.length ≤ 140737488351232) := by
  obtain ⟨a, len, cap, rfl⟩ := okWide_slice Tryd.underlying22 hv
  obtain ⟨fuel, hf⟩ := h
  have hf : DataW.trod enc Tryd.prog w 0 (fun _ => true) true fuel 22 [.slice a len cap] = some (d, ps) := hf
  rcases DataW.trod_slice Tryd.underlying22 hf with ⟨e2, hn2⟩ | ⟨a, len, cap, elems, rest, m, hm, e2, hy, _, hlc, hcm, hel, hels, hrest, _⟩
  · simp only [List.cons.injEq, and_true, Value.slice.injEq] at e2
    obtain ⟨rfl, rfl, rfl⟩ := e2
    exact ⟨[], none, 0, rfl, fun j hj => by simp at hj, by simp, by simp, by simp, fun s hs => by cases hs⟩
  · simp only [List.cons.injEq, and_true, Value.slice.injEq] at e2
    obtain ⟨rfl, rfl, rfl⟩ := e2
    have wl : ∀ n, n ∈ (elems.length + rest.length) * Tryd.prog.bytesOf 9 :: (DataW.weightsAll Tryd.prog 9 (elems.map (·.1)) ++ DataW.weightsAll Tryd.prog 9 (rest.map (·.1))) → n ≤ reachBytes := by
      intro n hn
      refine hw n ?_
      rw [show d = _ from congrArg Prod.fst hy]
      simp only [DataW.weights, Tryd.underlying22, List.length_map]
      exact hn
    have wn := wl _ (List.mem_cons_self ..)
    rw [bytesS] at wn
    have wn' : (elems.length + rest.length) * 16 ≤ 140737488351232 := wn
    have spot0 : 0 < len → a.spot = none := by
      intro h0
      have h4 := hels 0 h0
      rw [List.getElem?_eq_getElem (by omega), Option.bind_eq_some_iff] at h4
      obtain ⟨cs', g1, _⟩ := h4
      rw [cellsS] at g1
      obtain ⟨b, off, d0, ea, _⟩ := one_cell g1
      have ea' : a = ⟨b, off, none⟩ := by simpa [Addr.add] using ea
      rw [ea']
    have one : ∀ i, i < len → ∃ x : List UInt8, x.length ≤ 140737488351232 ∧ ∃ b off, some a = some ⟨b, off, none⟩ ∧ w.cell? ⟨b, off + i, none⟩ = some (.string ⟨x.toArray⟩) := by
      intro i hi
      have hi' : i < elems.length := by omega
      have h4 := hels i hi
      rw [List.getElem?_eq_getElem hi', Option.bind_eq_some_iff] at h4
      obtain ⟨cs', g1, g2⟩ := h4
      rw [cellsS] at g1
      obtain ⟨b, off, d0, ea, ecs, q0⟩ := one_cell g1
      obtain ⟨s, e0, e9, k0⟩ := DataW.trod_string Tryd.underlying9 g2
      rw [ecs] at e0
      simp only [List.cons.injEq, and_true] at e0
      subst e0
      have ws : s.size ≤ 140737488351232 := wl s.size (List.mem_cons_of_mem _ (List.mem_append_left _ (weights_mem (List.mem_map_of_mem (List.getElem_mem hi')) _ (by rw [e9]; simp [DataW.weights]))))
      have hsp := spot0 (by omega)
      obtain ⟨ab, aoff, aspot⟩ := a
      simp only at hsp
      subst hsp
      have ea' : ab = b ∧ aoff + i = off := by
        by_cases hz : i = 0
        · subst hz; simpa [Addr.add] using ea
        · simpa [Addr.add, hz] using ea
      obtain ⟨rfl, rfl⟩ := ea'
      exact ⟨s.data.toList, by simp; exact ws, ab, aoff, rfl, by rw [q0]⟩
    obtain ⟨l, hll, hlp⟩ := list_of _ len one
    refine ⟨l, some a, cap, by rw [hll], fun j hj => (hlp j hj).2, by rw [hll]; exact hlc, by unfold maxLen at hcm; exact hcm, by omega, fun s hs => ?_⟩
    obtain ⟨j, hj, rfl⟩ := List.getElem_of_mem hs
    exact (hlp j hj).1
set_option maxRecDepth 100000 in
theorem strs_below {W W' : World} {v : Value} {d : DataW H} {ps : List MemPlace} (h : DataW.Trod enc Tryd.prog W 0 (fun _ => true) true 22 v d ps) (hb : Below W.heap.size W W') :
    DataW.Trod enc Tryd.prog W' 0 (fun b => decide (b < W.heap.size)) true 22 v d ps :=
  Below.trod laidOutX (by kernel_rfl) (of_decide_eq_true (by kernel_rfl)) h hb (by obtain ⟨m, hm⟩ := h; exact DataW.trod_lt m _ _ _ hm)
end
end Go.Proofs.YtfcpblclfgkdjaaDoor
