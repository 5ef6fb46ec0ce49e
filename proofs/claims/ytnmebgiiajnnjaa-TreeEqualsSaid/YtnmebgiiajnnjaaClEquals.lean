/-
  The statement TreeEquals: whatever the three nodes, the law returns true, and each node reads as it did. No condition.
-/
import Derived.Test.YtnmebgiiajnnjaaRows
import Derived.Test.YtnmebgiiajnnjaaOpen
import Derived.Test.YtnmebgiiajnnjaaLawEquals
namespace Go.Proofs.Ytnmebgiiajnnjaa
set_option linter.unusedSimpArgs false
set_option linter.unusedVariables false
open Go.ChangeShapes Go.WideShapes Go.ChangeAt Go.RowKit

set_option maxRecDepth 100000 in
theorem equals_lifted (os : Os) (started : os.Started) (H : Type) (enc : TypeId × Value → H) :
    ReturnsInHanded {} Try.checked os 3 .any (Rows.treeEqualsSpec.pre6 enc Try.prog Try.f3 Rows.treeEqualsRow.domain false) (Rows.treeEqualsSpec.post enc Try.prog Try.f3 false true false false) := by
  refine returnsInHanded_of_change_shaped (C := Try.checked) ownK started (by kernel_rfl) Try.func3
    (ChangeSpec.witness6 (enc := enc) (C := Try.checked) false ⟨#[], #[.agg #[.int .i64 0, .string ⟨#[]⟩, .slice none 0 0, .int .i64 0], .agg #[.int .i64 0, .string ⟨#[]⟩, .slice none 0 0, .int .i64 0], .agg #[.int .i64 0, .string ⟨#[]⟩, .slice none 0 0, .int .i64 0]], []⟩ 8 (by kernel_rfl) (by kernel_rfl) (by kernel_rfl) (by kernel_rfl)) ?_
  intro W base args ds gs before hval0 hW hcnd hsz0 hsh _
  have hval : ∀ (j : Nat) t v, Try.f3.params[j]? = some t → args[j]? = some v → Value.okWide Try.prog W .any base t v := hval0
  have hsz : (DataW.weightsEach Try.prog (Try.f3.params.toList ++ Rows.treeEqualsSpec.plain.varTypes Try.prog) (ds ++ gs)).all (· ≤ reachBytes) = true := hsz0
  have hW' := hW
  obtain ⟨p, q, hA0, hV, rfl, hfz, hnd⟩ := hW
  have hA : DataW.TrodAll enc Try.prog W 0 (fun _ => true) true Try.f3.params.toList args.toList ds p := hA0
  rw [Try.params3] at hA hval hsz
  obtain ⟨v0, vs0, d0, ds0, p0, q0, hargs, rfl, rfl, h0, r0⟩ := trodAll_cons hA
  obtain ⟨v1, vs1, d1, ds1, p1, q1, rfl, rfl, rfl, h1, r1⟩ := trodAll_cons r0
  obtain ⟨v2, vs2, d2, ds2, p2, q2, rfl, rfl, rfl, h2, r2⟩ := trodAll_cons r1
  obtain ⟨rfl, rfl, rfl⟩ := trodAll_nil r2
  obtain rfl : args = #[v0, v1, v2] := by cases args; simp_all
  obtain ⟨rfl, rfl⟩ := trodVars_none hV
  have wt : ∀ j (d : DataW H), [24, 24, 24][j]? = some 24 → [d0, d1, d2][j]? = some d → ∀ n, n ∈ d.weights Try.prog 24 → n ≤ reachBytes := fun j d hj hd n hn => by
    have := List.all_eq_true.1 hsz n (DataW.weights_mem_each (j := j) hj hd n hn)
    simpa using this
  obtain ⟨t0, a0, c0, rfl, hf0, hk0⟩ := arg_open (hval 0 24 v0 rfl rfl) h0 (wt 0 d0 rfl rfl)
  obtain ⟨t1, a1, c1, rfl, hf1, hk1⟩ := arg_open (hval 1 24 v1 rfl rfl) h1 (wt 1 d1 rfl rfl)
  obtain ⟨t2, a2, c2, rfl, hf2, hk2⟩ := arg_open (hval 2 24 v2 rfl rfl) h2 (wt 2 d2 rfl rfl)
  have hg := glob_of hsh
  clear hA0 hval0 hsz0 hsh
  refine (equals_law t0 t1 t2 a0 a1 a2 c0 c1 c2 W hg hk0 hf0 hk1 hf1 hk2 hf2).mono fun e W' ⟨he, bel⟩ => ?_
  subst he
  exact ⟨_, rfl, _, _, _, [], _, [], hW', trodAll_mk1 (shut_bool Try.underlying4 _), (trodAll_cons_mk (node_below h0 bel) (trodAll_cons_mk (node_below h1 bel) (trodAll_cons_mk (node_below h2 bel) trodAll_mk0))), rfl, bel.frame _, fun h => by cases h⟩

theorem equals_over : Rows.treeEqualsRow.holds Try.pinned (OpenSpec.ofChange Rows.treeEqualsSpec) :=
  OpenClaim.holds_of_wide 3 Try.f3 rfl rfl rfl rfl rfl rfl rfl ⟨rfl, rfl, rfl, rfl, rfl⟩ rfl rfl rfl rfl rfl (by kernel_rfl) Try.func3 (by kernel_rfl)
    (of_decide_eq_true (by kernel_rfl)) (by unfold Func.isWrapper; first | (rw [if_pos (by decide +kernel)]; kernel_rfl) | (rw [if_neg (by decide +kernel)]; exact ⟨rfl, rfl⟩))
    (fun os started H enc _ => equals_lifted os started H enc)

theorem equals_holds : Rows.TreeEqualsSaid := equals_over
end Go.Proofs.Ytnmebgiiajnnjaa
