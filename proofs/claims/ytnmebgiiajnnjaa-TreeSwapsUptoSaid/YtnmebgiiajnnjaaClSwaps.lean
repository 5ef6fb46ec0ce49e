/-
  The statement TreeSwaps, second form: whatever the nodes, the kind and the text, the law returns true, and the argument reads as it did. Condition: what is read is of bulk at most 1048576.
-/
import Derived.Test.YtnmebgiiajnnjaaOpenB
import Derived.Test.YtnmebgiiajnnjaaLawSwaps
namespace Go.Proofs.Ytnmebgiiajnnjaa
set_option linter.unusedSimpArgs false
set_option linter.unusedVariables false
open Go.ChangeShapes Go.WideShapes Go.ChangeAt Go.RowKit

theorem cellsW : Try.prog.cellsOf 32 = 10 := by kernel_rfl

theorem swaps_open {H : Type} {enc : TypeId × Value → H} {w : World} {v : Value} {d0 : DataW H} {ps : List MemPlace} (hv : Value.okWide Try.prog w .any w.heap.size 32 v ∨ True) (hag : ∃ cs, v = .agg cs)
    (h : DataW.Trod enc Try.prog w 0 (fun _ => true) true 32 v d0 ps)
    (hw : ∀ n, n ∈ d0.weights Try.prog 32 → n ≤ reachBytes) : ∃ (x y : Nd) (a1 a2 : Option Addr) (c1 c2 : Nat) (kind : Int) (text : List UInt8),
      v = .agg #[.int .i64 x.kind, .string ⟨x.text.toArray⟩, .slice a1 x.kids.length c1, .int .i64 x.pos, .int .i64 y.kind, .string ⟨y.text.toArray⟩, .slice a2 y.kids.length c2, .int .i64 y.pos, .int .i64 kind, .string ⟨text.toArray⟩] ∧
      (Fits x c1 ∧ Kids w w.heap.size a1 x.kids ∧ ∀ d, (walkL d x).length ≤ Rows.uptoBulk d0) ∧ (Fits y c2 ∧ Kids w w.heap.size a2 y.kids ∧ ∀ d, (walkL d y).length ≤ Rows.uptoBulk d0) := by
  obtain ⟨cs, rfl⟩ := hag
  obtain ⟨fuel, hf⟩ := h
  obtain ⟨xs, n, _, hx, hl, hlen, hff⟩ := DataW.trod_struct Try.underlying32 hf
  rw [cellsW] at hl
  simp only [Prod.mk.injEq] at hx
  obtain ⟨rfl, rfl⟩ := hx
  match xs, hlen with
  | [y0, y1, y2, y3], _ =>
    have h0 := hff 0 _ rfl
    have h1 := hff 1 _ rfl
    have h2 := hff 2 _ rfl
    have h3 := hff 3 _ rfl
    simp [cellsI, cellsS, cellsN, Value.cells] at h0 h1 h2 h3
    have wt : ∀ n, n ∈ DataW.weightsEach Try.prog [24, 24, 3, 9] [y0.1, y1.1, y2.1, y3.1] → n ≤ reachBytes := by
      intro n hn
      refine hw n ?_
      simp only [DataW.weights, Try.underlying32]
      exact hn
    obtain ⟨k, e2, _, k2⟩ := DataW.trod_int Try.underlying3 h2
    obtain ⟨s, e3, _, k3⟩ := DataW.trod_string Try.underlying9 h3
    obtain ⟨x, a1, c1, e0, f0, q0, b0⟩ := nd_openB _ _ _ h0 (fun n hn => wt n (by simp only [DataW.weightsEach, List.mem_append]; exact .inl hn))
    obtain ⟨y, a2, c2, e1, f1, q1, b1⟩ := nd_openB _ _ _ h1 (fun n hn => wt n (by simp only [DataW.weightsEach, List.mem_append]; exact .inr (.inl hn)))
    have es : (⟨s.data.toList.toArray⟩ : ByteArray) = s := by cases s; simp
    refine ⟨x, y, a1, a2, c1, c2, k, s.data.toList, ?_, ⟨f0, q0, fun d => ?_⟩, ⟨f1, q1, fun d => ?_⟩⟩
    · have hcs : cs.toList = [.int .i64 x.kind, .string ⟨x.text.toArray⟩, .slice a1 x.kids.length c1, .int .i64 x.pos, .int .i64 y.kind, .string ⟨y.text.toArray⟩, .slice a2 y.kids.length c2, .int .i64 y.pos, .int .i64 k, .string ⟨s.data.toList.toArray⟩] := by
        have hl' : cs.toList.length = 10 := by simpa [Value.cells] using hl
        generalize cs.toList = L at *
        match L, hl' with
        | [l0, l1, l2, l3, l4, l5, l6, l7, l8, l9], _ =>
          simp at e0 e1 e2 e3
          simp_all
      rw [show cs = cs.toList.toArray by simp, hcs]
    · have := b0 d
      simp only [List.map_cons, List.map_nil, Rows.uptoBulk, Rows.uptoBulkAll]; omega
    · have := b1 d
      simp only [List.map_cons, List.map_nil, Rows.uptoBulk, Rows.uptoBulkAll]; omega

set_option maxRecDepth 100000 in
theorem swaps_lifted (os : Os) (started : os.Started) (H : Type) (enc : TypeId × Value → H) (F : Stop.Interp) :
    ReturnsInHanded {} Try.checked os 5 .any ((Rows.OpenSpec.upto Rows.treeSwapsSpec).pre6 enc Try.prog Try.f5 Rows.treeSwapsUptoRow.domain false) (((Rows.OpenSpec.upto Rows.treeSwapsSpec).at F).post enc Try.prog Try.f5 false true false false) := by
  refine cond_shaped (s := Rows.OpenSpec.upto Rows.treeSwapsSpec) (k := Rows.uptoSmall) rfl started (by kernel_rfl) Try.func5
    (OpenSpec.witness (enc := enc) (C := Try.checked) (s := Rows.OpenSpec.upto Rows.treeSwapsSpec) (k := Rows.uptoSmall) rfl false ⟨#[], #[.agg #[.int .i64 0, .string ⟨#[]⟩, .slice none 0 0, .int .i64 0, .int .i64 0, .string ⟨#[]⟩, .slice none 0 0, .int .i64 0, .int .i64 0, .string ⟨#[]⟩]], []⟩ 8 (by kernel_rfl) (by kernel_rfl) (by kernel_rfl)
      (x := ([.agg [.agg [.lit (.int .i64 0), .lit (.string []), .nil, .lit (.int .i64 0)], .agg [.lit (.int .i64 0), .lit (.string []), .nil, .lit (.int .i64 0)], .lit (.int .i64 0), .lit (.string [])]], [], [])) (by kernel_rfl) rfl (by kernel_rfl)) ?_
  intro W base args ds gs before hval0 hW hk0 hsz0 hsh
  have hval : ∀ (j : Nat) t v, Try.f5.params[j]? = some t → args[j]? = some v → Value.okWide Try.prog W .any base t v := hval0
  have hsz : (DataW.weightsEach Try.prog (Try.f5.params.toList ++ (Rows.OpenSpec.upto Rows.treeSwapsSpec).bare.plain.varTypes Try.prog) (ds ++ gs)).all (· ≤ reachBytes) = true := hsz0
  have hW' := hW
  obtain ⟨p, q, hA0, hV, rfl, hfz, hnd⟩ := hW
  have hA : DataW.TrodAll enc Try.prog W 0 (fun _ => true) true Try.f5.params.toList args.toList ds p := hA0
  rw [Try.params5] at hA hval hsz
  obtain ⟨v0, vs0, d0, ds0, p0, q0, hargs, rfl, rfl, h0, r0⟩ := trodAll_cons hA
  obtain ⟨rfl, rfl, rfl⟩ := trodAll_nil r0
  obtain rfl : args = #[v0] := by cases args; simp_all
  obtain ⟨rfl, rfl⟩ := trodVars_none hV
  have wt : ∀ n, n ∈ d0.weights Try.prog 32 → n ≤ reachBytes := fun n hn => by
    have := List.all_eq_true.1 hsz n (DataW.weights_mem_each (j := 0) rfl rfl n hn)
    simpa using this
  have hbk := Nat.le_trans (bulk_mem (d := d0) (by simp)) (bulk_of hk0)
  obtain ⟨cs, hag, _⟩ := okWide_struct Try.underlying32 (hval 0 32 v0 rfl rfl)
  obtain ⟨x, y, a1, a2, c1, c2, kind, text, rfl, ⟨hf1, hk1, hb1⟩, hf2, hk2, hb2⟩ := swaps_open (.inr trivial) ⟨cs, hag⟩ h0 wt
  have hg := glob_of hsh
  clear hA0 hval0 hsz0 hsh
  refine (swaps_law x y a1 a2 c1 c2 kind text W (Nat.le_trans (hb1 1000) hbk) (Nat.le_trans (hb2 1000) hbk) hg hk1 hf1 hk2 hf2).mono fun e W' ⟨he, bel⟩ => ?_
  subst he
  exact ⟨_, rfl, _, _, _, [], _, [], hW', trodAll_mk1 (shut_bool Try.underlying4 _), (trodAll_cons_mk (Below.trod laidOutK (by kernel_rfl) (of_decide_eq_true (by kernel_rfl)) h0 bel (by obtain ⟨m, hm⟩ := h0; exact DataW.trod_lt m _ _ _ hm)) trodAll_mk0), rfl, bel.frame _, fun h => by cases h⟩

theorem swaps_over : Rows.treeSwapsUptoRow.holds Try.pinned (Rows.OpenSpec.upto Rows.treeSwapsSpec) :=
  OpenClaim.holds_of_cond 5 Try.f5 rfl rfl rfl rfl rfl rfl rfl ⟨rfl, rfl, rfl, rfl, rfl⟩ rfl rfl rfl rfl rfl (by kernel_rfl) Try.func5 (by kernel_rfl)
    (of_decide_eq_true (by kernel_rfl)) (by unfold Func.isWrapper; first | (rw [if_pos (by decide +kernel)]; kernel_rfl) | (rw [if_neg (by decide +kernel)]; exact ⟨rfl, rfl⟩))
    (fun os started H enc _ F => swaps_lifted os started H enc F)

theorem swaps_holds : Rows.TreeSwapsUptoSaid := swaps_over
end Go.Proofs.Ytnmebgiiajnnjaa
