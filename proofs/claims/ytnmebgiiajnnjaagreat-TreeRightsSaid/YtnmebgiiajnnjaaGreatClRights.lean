/-
  The statement TreeRights: whatever the arguments, the law returns true, and each reads as it did. No condition.
-/
import Derived.Test.YtnmebgiiajnnjaaGreatRows
import Derived.Test.YtnmebgiiajnnjaaGreatOpen
import Derived.Test.YtnmebgiiajnnjaaGreatLawRights
namespace Go.Proofs.YtnmebgiiajnnjaaGreat
set_option linter.unusedSimpArgs false
set_option linter.unusedVariables false
open Go.ChangeShapes Go.WideShapes Go.ChangeAt Go.RowKit
open Go.ChangeMaps (open_string shut_string)

set_option maxRecDepth 100000 in
theorem rights_lifted (os : Os) (started : os.Started) (H : Type) (enc : TypeId × Value → H) :
    ReturnsInHanded {} Tryz.checked os 3 .any (Rows.treeRightsSpec.pre6 enc Tryz.prog Tryz.f3 Rows.treeRightsRow.domain false) (Rows.treeRightsSpec.post enc Tryz.prog Tryz.f3 false true false false) := by
  refine returnsInHanded_of_change_shaped (C := Tryz.checked) ownK started (by kernel_rfl) Tryz.func3
    (ChangeSpec.witness6 (enc := enc) (C := Tryz.checked) false ⟨#[], #[.agg #[.int .i64 0, .string ⟨#[]⟩, .slice none 0 0, .int .i64 0], .string ⟨#[]⟩], []⟩ 8 (by kernel_rfl) (by kernel_rfl) (by kernel_rfl) (by kernel_rfl)) ?_
  intro W base args ds gs before hval0 hW _ hsz0 hsh _
  have hval : ∀ (j : Nat) t v, Tryz.f3.params[j]? = some t → args[j]? = some v → Value.okWide Tryz.prog W .any base t v := hval0
  have hsz : (DataW.weightsEach Tryz.prog (Tryz.f3.params.toList ++ Rows.treeRightsSpec.plain.varTypes Tryz.prog) (ds ++ gs)).all (· ≤ reachBytes) = true := hsz0
  have hW' := hW
  obtain ⟨p, q, hA0, hV, rfl, hfz, hnd⟩ := hW
  have hA : DataW.TrodAll enc Tryz.prog W 0 (fun _ => true) true Tryz.f3.params.toList args.toList ds p := hA0
  rw [Tryz.params3] at hA hval hsz
  obtain ⟨v0, vs0, d0, ds0, p0, q0, hargs, rfl, rfl, h0, r0⟩ := trodAll_cons hA
  obtain ⟨v1, vs1, d1, ds1, p1, q1, rfl, rfl, rfl, h1, r1⟩ := trodAll_cons r0
  obtain ⟨rfl, rfl, rfl⟩ := trodAll_nil r1
  obtain rfl : args = #[v0, v1] := by cases args; simp_all
  obtain ⟨rfl, rfl⟩ := trodVars_none hV
  have wt : ∀ j (t : TypeId) (d : DataW H), [24, 9][j]? = some t → [d0, d1][j]? = some d → ∀ n, n ∈ d.weights Tryz.prog t → n ≤ reachBytes := fun j t d hj hd n hn => by
    have := List.all_eq_true.1 hsz n (DataW.weights_mem_each (j := j) hj hd n hn)
    simpa using this
  obtain ⟨t0, a0, c0, rfl, hf0, hk0⟩ := arg_open (hval 0 24 v0 rfl rfl) h0 (wt 0 _ d0 rfl rfl)
  obtain ⟨s1, rfl, rfl, rfl, ws1⟩ := open_string Tryz.underlying9 (hval 1 9 v1 rfl rfl) h1
  have rs1 : s1.size ≤ 140737488351232 := by have := wt 1 _ _ rfl rfl s1.size (by simp [DataW.weights]); exact this
  have es1 : s1 = ⟨s1.data.toList.toArray⟩ := by cases s1; simp
  have hg := glob_of hsh
  clear hA0 hval0 hsz0 hsh
  refine (rights_law_s t0 a0 c0 s1 rs1 W hg hk0 hf0).mono fun e W' ⟨he, bel⟩ => ?_
  subst he
  exact ⟨_, rfl, _, _, _, [], _, [], hW', trodAll_mk1 (shut_bool Tryz.underlying4 _), (trodAll_cons_mk (node_below h0 bel) (trodAll_cons_mk (shut_string Tryz.underlying9 ws1) trodAll_mk0)), rfl, bel.frame _, fun h => by cases h⟩

theorem rights_over : Rows.treeRightsRow.holds Tryz.pinned (OpenSpec.ofChange Rows.treeRightsSpec) :=
  OpenClaim.holds_of_wide 3 Tryz.f3 rfl rfl rfl rfl rfl rfl rfl ⟨rfl, rfl, rfl, rfl, rfl⟩ rfl rfl rfl rfl rfl (by kernel_rfl) Tryz.func3 (by kernel_rfl)
    (of_decide_eq_true (by kernel_rfl)) (by unfold Func.isWrapper; first | (rw [if_pos (by decide +kernel)]; kernel_rfl) | (rw [if_neg (by decide +kernel)]; exact ⟨rfl, rfl⟩))
    (fun os started H enc _ => rights_lifted os started H enc)

theorem rights_holds : Rows.TreeRightsSaid := rights_over
end Go.Proofs.YtnmebgiiajnnjaaGreat
