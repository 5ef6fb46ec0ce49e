/-
  names: arguments of the document's type Type, opened.
-/
import Derived.Test.YtfcpblclfgkdjaaDoorNmX
import Derived.Test.YtfcpblclfgkdjaaDoorNmH
namespace Go.Proofs.YtfcpblclfgkdjaaDoor
set_option linter.unusedSimpArgs false
set_option linter.unusedVariables false
open Go.RowKit Go.Joins Go.ChangeShapes Go.WideShapes

theorem cellsI : Tryd.prog.cellsOf 3 = 1 := by kernel_rfl
theorem cellsL : Tryd.prog.cellsOf 26 = 1 := by kernel_rfl
theorem cellsT : Tryd.prog.cellsOf 28 = 3 := by kernel_rfl
theorem bytesT : Tryd.prog.bytesOf 28 = 48 := by kernel_rfl
theorem int_bounds {n : Int} (h : (Lit.int .i64 n).wf = true) : -9223372036854775808 ≤ n ∧ n ≤ 9223372036854775807 := by
  simpa [Lit.wf, IntKind.min, IntKind.max, IntKind.signed, IntKind.bits] using h
section
variable {H : Type} {enc : TypeId × Value → H} {w : World} {base : Nat}
theorem bulk_sum : ∀ {l : List Ty} {E : List (DataW H)}, l.length = E.length → (∀ j (hj : j < l.length), bulkT l[j] ≤ Rows.uptoBulk (E.getD j .nil)) → bulksT l ≤ Rows.uptoBulkAll E
  | [], _, _, _ => by simp [bulksT]
  | x :: l, [], h, _ => by simp at h
  | x :: l, e :: E, h, hb => by
    have h0 := hb 0 (by simp)
    have h1 := bulk_sum (l := l) (E := E) (by simpa using h) (fun j hj => hb (j + 1) (Nat.succ_lt_succ hj))
    rw [bulksT, Rows.uptoBulkAll]
    simp at h0
    omega

set_option maxRecDepth 100000 in
theorem ty_open : ∀ (fuel : Nat) (cs : List Value) (y : DataW H × List MemPlace), DataW.trod enc Tryd.prog w base (fun _ => true) true fuel 28 cs = some y →
    (∀ n, n ∈ y.1.weights Tryd.prog 28 → n ≤ reachBytes) →
    ∃ (t : Ty) (a : Option Addr) (c : Nat), cs = [.int .i64 t.kind, .string ⟨t.name.toArray⟩, .slice a t.args.length c] ∧ Fity t c ∧ Tids w Any a t.args ∧ bulkT t ≤ Rows.uptoBulk y.1 := by
  intro fuel
  induction fuel using Nat.strongRecOn with
  | ind fuel ih =>
    intro cs y h hw
    obtain ⟨xs, n, hn, rfl, hl, hlen, hf⟩ := DataW.trod_struct Tryd.underlying28 h
    rw [cellsT] at hl
    match xs, hlen, cs, hl with
    | [y0, y1, y2], _, [c0, c1, c2], _ =>
      have h0 := hf 0 _ rfl
      have h1 := hf 1 _ rfl
      have h2 := hf 2 _ rfl
      simp [cellsI, cellsS, cellsL] at h0 h1 h2
      obtain ⟨k, e0, rfl, k0⟩ := DataW.trod_int Tryd.underlying3 h0
      obtain ⟨u, e1, rfl, k1⟩ := DataW.trod_string Tryd.underlying9 h1
      simp only [List.cons.injEq, and_true] at e0 e1
      subst e0 e1
      have wt : ∀ n, n ∈ DataW.weightsEach Tryd.prog [3, 9, 26] [DataW.lit (H := H) (.int .i64 k), .lit (.string u.data.toList), y2.1] → n ≤ reachBytes := by
        intro n hn
        refine hw n ?_
        simp only [DataW.weights, Tryd.underlying28]
        exact hn
      have bk := int_bounds k0
      have wu : u.size ≤ 140737488351232 := wt u.size (by simp [DataW.weightsEach, DataW.weights])
      have eu : (⟨u.data.toList.toArray⟩ : ByteArray) = u := by cases u; simp
      have lu : u.data.toList.length = u.size := by simp
      rcases DataW.trod_slice Tryd.underlying26 h2 with ⟨e2, hn2⟩ | ⟨a, len, cap, elems, rest, m, hm, e2, hy, _, hlc, hcm, hel, hels, hrest, _⟩
      · simp only [List.cons.injEq, and_true] at e2
        subst e2
        refine ⟨.mk k u.data.toList [], none, 0, by simp [eu], ⟨bk, by simp; omega, by simp, by simp, by simp⟩, Tids.nil _ _ _, ?_⟩
        have : y2.1 = .nil := by simpa using congrArg Prod.fst hn2
        simp [bulkT, bulksT, this, Rows.uptoBulk, Rows.uptoBulkAll]; omega
      · simp only [List.cons.injEq, and_true] at e2
        subst e2
        have wl : ∀ n, n ∈ (elems.length + rest.length) * Tryd.prog.bytesOf 28 :: (DataW.weightsAll Tryd.prog 28 (elems.map (·.1)) ++ DataW.weightsAll Tryd.prog 28 (rest.map (·.1))) → n ≤ reachBytes := by
          intro n hn
          refine wt n ?_
          rw [hy]
          simp only [DataW.weightsEach, DataW.weights, Tryd.underlying26, List.length_map, List.nil_append, List.append_nil, List.mem_append]
          exact .inr hn
        have wn := wl _ (List.mem_cons_self ..)
        rw [bytesT] at wn
        have wn' : (elems.length + rest.length) * 48 ≤ 140737488351232 := wn
        have spot0 : 0 < len → a.spot = none := by
          intro h0
          have h4 := hels 0 h0
          rw [List.getElem?_eq_getElem (by omega), Option.bind_eq_some_iff] at h4
          obtain ⟨cs', g1, _⟩ := h4
          rw [cellsT] at g1
          obtain ⟨b, off, d0, d1, d2, ea, _⟩ := three_cells g1
          have ea' : a = ⟨b, off, none⟩ := by simpa [Addr.add] using ea
          rw [ea']
        have one : ∀ i, i < len → ∃ x : Ty, ∃ b off a' c', a = ⟨b, off, none⟩ ∧ TThree w b (off + i * 3) x a' c' ∧ Fity x c' ∧ Tids w Any a' x.args ∧ bulkT x ≤ Rows.uptoBulk ((elems.map (·.1)).getD i .nil) := by
          intro i hi
          have hi' : i < elems.length := by omega
          have h4 := hels i hi
          rw [List.getElem?_eq_getElem hi', Option.bind_eq_some_iff] at h4
          obtain ⟨cs', g1, g2⟩ := h4
          obtain ⟨x, a', c', ex, fx, kx, bx⟩ := ih m (by omega) cs' elems[i] g2 (fun n hn => wl n (List.mem_cons_of_mem _ (List.mem_append_left _ (weights_mem (List.mem_map_of_mem (List.getElem_mem hi')) n hn))))
          rw [cellsT] at g1
          obtain ⟨b, off, d0, d1, d2, ea, ecs, q0, q1, q2⟩ := three_cells g1
          rw [ex] at ecs
          simp only [List.cons.injEq, and_true] at ecs
          obtain ⟨rfl, rfl, rfl⟩ := ecs
          have hsp := spot0 (by omega)
          obtain ⟨ab, aoff, aspot⟩ := a
          simp only at hsp
          subst hsp
          have ea' : ab = b ∧ aoff + i * 3 = off := by
            by_cases hz : i * 3 = 0
            · simpa [Addr.add, hz] using ea
            · simpa [Addr.add, hz] using ea
          obtain ⟨rfl, rfl⟩ := ea'
          exact ⟨x, ab, aoff, a', c', rfl, ⟨q0, q1, q2⟩, fx, kx, by simpa [hi'] using bx⟩
        obtain ⟨l, hll, hlp⟩ := list_of _ len one
        refine ⟨.mk k u.data.toList l, some a, cap, by simp [eu, hll], ⟨bk, by simp; omega, by simp; omega, by unfold maxLen at hcm; exact hcm, by simp; omega⟩, ?_, ?_⟩
        · rw [tids_iff]
          intro j hj
          obtain ⟨b, off, a', c', ea, h4, hx, hk, _⟩ := hlp j hj
          exact ⟨b, off, a', c', by rw [ea], trivial, h4, hx, hk⟩
        · have hsum := bulk_sum (l := l) (E := elems.map (·.1)) (by simp [hll, hel]) (fun j hj => by
            obtain ⟨b, off, a', c', _, _, _, _, hb⟩ := hlp j hj
            exact hb)
          rw [bulkT, hy]
          simp only [List.map_cons, List.map_nil, Rows.uptoBulk, Rows.uptoBulkAll]
          omega

set_option maxRecDepth 100000 in
/-- An argument of the document's type Expr, opened. -/
theorem open_ty {v : Value} {d : DataW H} {ps : List MemPlace} (hv : Value.okWide Tryd.prog w .any base 28 v) (h : DataW.Trod enc Tryd.prog w 0 (fun _ => true) true 28 v d ps)
    (hw : ∀ n, n ∈ d.weights Tryd.prog 28 → n ≤ reachBytes) : ∃ (t : Ty) (a : Option Addr) (c : Nat), v = .agg #[.int .i64 t.kind, .string ⟨t.name.toArray⟩, .slice a t.args.length c] ∧ Fity t c ∧ Tids w Any a t.args ∧ bulkT t ≤ Rows.uptoBulk d := by
  obtain ⟨cs, rfl, hsz⟩ := okWide_struct Tryd.underlying28 hv
  obtain ⟨fuel, hf⟩ := h
  obtain ⟨t, a, c, e, hfit, hk, hb⟩ := ty_open fuel _ _ hf hw
  refine ⟨t, a, c, ?_, hfit, hk, hb⟩
  have e' : cs.toList = [.int .i64 t.kind, .string ⟨t.name.toArray⟩, .slice a t.args.length c] := e
  have : cs = #[.int .i64 t.kind, .string ⟨t.name.toArray⟩, .slice a t.args.length c] := by rw [← Array.toList_inj, e']
  rw [this]
set_option maxRecDepth 100000 in
theorem ty_below {W W' : World} {v : Value} {d : DataW H} {ps : List MemPlace} (h : DataW.Trod enc Tryd.prog W 0 (fun _ => true) true 28 v d ps) (hb : Below W.heap.size W W') :
    DataW.Trod enc Tryd.prog W' 0 (fun b => decide (b < W.heap.size)) true 28 v d ps :=
  Below.trod laidOutX (by kernel_rfl) (of_decide_eq_true (by kernel_rfl)) h hb (by obtain ⟨m, hm⟩ := h; exact DataW.trod_lt m _ _ _ hm)

end
end Go.Proofs.YtfcpblclfgkdjaaDoor
