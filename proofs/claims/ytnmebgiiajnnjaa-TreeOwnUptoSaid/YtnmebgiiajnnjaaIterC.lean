/-
  tree.nodes: what comes, in which order
-/
import Derived.Test.YtnmebgiiajnnjaaIterB
namespace Go.Proofs.Ytnmebgiiajnnjaa
set_option linter.unusedSimpArgs false
set_option linter.unusedVariables false
open Go.RowKit Go.Shelf
attribute [local go_sem] Oper.semAt_some

set_option maxHeartbeats 1000000 in
/-- nodes: node and depth are boxed; the function value captures the boxes. -/
theorem nodes_in (F : Fence) (n : Nat) (h22 : F.fn 22) (hro : F.round = none) (t : Nd) (a : Option Addr) (c d : Nat) (w : World) :
    CallsIn F n Try.prog 22 #[.agg #[.int .i64 t.kind, .string ⟨t.text.toArray⟩, .slice a t.kids.length c, .int .i64 t.pos], .int .i64 d] w fun e w' => e = .returned (.func (.func 29) #[] #[.pointer (some ⟨w.heap.size, 0, none⟩), .pointer (some ⟨w.heap.size + 1, 0, none⟩)]) ∧
      w' = (w.alloc (.cells #[.int .i64 t.kind, .string ⟨t.text.toArray⟩, .slice a t.kids.length c, .int .i64 t.pos] 24)).alloc (.cells #[.int .i64 d] 3) := by
  refine callsIn_of_wp Try.func22 rfl h22 ?_ hro
  simp only [Try.ntmps22, List.size_toArray, List.length_cons, List.length_nil, Nat.reduceAdd, Nat.reduceSub, Array.replicate_succ, Array.replicate_zero, List.push_toArray, List.append_toArray, List.nil_append, List.cons_append]
  gi_wp2
  go_ret
  exact ⟨rfl, rfl⟩

set_option maxRecDepth 100000 in
set_option maxHeartbeats 2000000 in
/-- nodes$1 handed whatever loop: all that is in the node comes, in order. -/
theorem nodes1_stops (F : Fence) (hd : F.depth = none) (n : Nat) (h29 : F.fn 29) (h30 : F.fn 30) (hro : F.round = none) (Bn Bd n₀ : Nat) (w0 : World) (mine : World → Nat → Prop)
    (t : Nd) (a : Option Addr) (c d : Nat) (hd1 : d ≤ 101) (w : World) (ht : Kids w0 n₀ a t.kids) (hf : Fits t c) (hs : Sees n₀ w0 w) (hn : n₀ ≤ w.heap.size)
    (hr : ∀ W, Below w.heap.size w W → Rng n₀ mine W) (hmine : ∀ W o b, w.heap.size ≤ W.heap.size → mine (W.alloc o) b → mine W b)
    (hBn : Four w Bn 0 t a c) (hBd : w.cell? ⟨Bd, 0, none⟩ = some (.int .i64 d)) :
    SeqStopsK F n Try.prog 29 #[.pointer (some ⟨Bn, 0, none⟩), .pointer (some ⟨Bd, 0, none⟩)] (encC (n₀ := n₀) (w0 := w0)) (KB n₀ mine) (fun xs => xs.map er = walkL d t) (fun _ => True) (walkL d t).length w := by
  intro l J Jx W hW hJ hJx hY h0
  have hdd : ∀ k : Nat, (F.depth.isSome = true → 1 ≤ k) := fun k h => by rw [hd] at h; cases h
  have hsz := hW.size
  have hp := walk_in F hd h30 hro l n₀ (walkL d t).length W.heap.size w0 mine (fun A o b hA => hmine A o b (by omega)) J Jx hJ (fun m pre x A hj hl => yieldAnyDepth hd m (hY pre x A hj hl)) d hd1 t a c ht hf (n - 1) [] W (Nat.le_refl _) (by omega)
    (fun p v hp hv => (hW.cell (by omega)).trans (hs p v hp hv)) (hr W hW) h0 (by simp)
  have hp' := hp.mono (R' := fun e W' => (∃ v, e = .returned (.bool v)) ∧ ((∃ xs : List (Come n₀ w0), xs.map er = walkL d t ∧ J xs W') ∨ (∃ pre, Jx pre W')))
    (fun e W' h => h.elim (fun ⟨he, ⟨xs, hx, hj⟩, _⟩ => ⟨⟨_, he⟩, .inl ⟨xs, hx, hj⟩⟩) (fun ⟨he, q, hq⟩ => ⟨⟨_, he⟩, .inr ⟨q, hq⟩⟩))
  obtain ⟨c0, c1, c2, c3⟩ := hBn
  have hlt : Bn < w.heap.size := cell_lt c0
  have hlt2 : Bd < w.heap.size := cell_lt hBd
  have d0 : W.cell? ⟨Bn, 0, none⟩ = some (.int .i64 t.kind) := (hW.cell (p := ⟨Bn, 0, none⟩) hlt).trans c0
  have d1 : W.cell? ⟨Bn, 1, none⟩ = some (.string ⟨t.text.toArray⟩) := (hW.cell (p := ⟨Bn, 1, none⟩) hlt).trans c1
  have d2 : W.cell? ⟨Bn, 2, none⟩ = some (.slice a t.kids.length c) := (hW.cell (p := ⟨Bn, 2, none⟩) hlt).trans c2
  have d3 : W.cell? ⟨Bn, 3, none⟩ = some (.int .i64 t.pos) := (hW.cell (p := ⟨Bn, 3, none⟩) hlt).trans c3
  have d4 : W.cell? ⟨Bd, 0, none⟩ = some (.int .i64 d) := (hW.cell (p := ⟨Bd, 0, none⟩) hlt2).trans hBd
  have HP := Lib.hid hp'
  clear hp hp' c0 c1 c2 c3 hBd hs hr hmine hY h0 hJ hJx ht hf hW
  refine callsIn_of_wp Try.func29 rfl h29 ?_ hro
  simp only [Try.ntmps29, List.size_toArray, List.length_cons, List.length_nil, Nat.reduceAdd, Nat.reduceSub, Array.replicate_succ, Array.replicate_zero, List.push_toArray, List.append_toArray, List.nil_append, List.cons_append]
  gi_wp2_with ((try refine ⟨hdd _, ?_⟩); gi_at_call 30; refine HP.out.mono ?_; rintro e W1 ⟨⟨v, rfl⟩, h⟩)
  go_end0
  exact ⟨⟨_, rfl⟩, h.elim .inl (fun ⟨q, hq⟩ => .inr ⟨q, trivial, hq⟩)⟩
end Go.Proofs.Ytnmebgiiajnnjaa
