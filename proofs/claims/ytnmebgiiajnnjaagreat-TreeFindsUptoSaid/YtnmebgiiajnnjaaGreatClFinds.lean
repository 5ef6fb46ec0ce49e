/-
  The statement TreeFinds, second form: whatever the arguments, the law returns true, and each reads as it did. Condition: what is read is of bulk at most 1048576.
-/
import Derived.Test.YtnmebgiiajnnjaaGreatRows
import Derived.Test.YtnmebgiiajnnjaaGreatOpenB
import Derived.Test.YtnmebgiiajnnjaaGreatLawFinds
namespace Go.Proofs.YtnmebgiiajnnjaaGreat
set_option linter.unusedSimpArgs false
set_option linter.unusedVariables false
open Go.ChangeShapes Go.WideShapes Go.ChangeAt Go.RowKit
open Go.ChangeMaps (open_string shut_string)

set_option maxRecDepth 100000 in
theorem finds_lifted (os : Os) (started : os.Started) (H : Type) (enc : TypeId × Value → H) (F : Stop.Interp) :
    ReturnsInHanded {} Tryz.checked os 4 .any ((Rows.OpenSpec.upto Rows.treeFindsSpec).pre6 enc Tryz.prog Tryz.f4 Rows.treeFindsUptoRow.domain false) (((Rows.OpenSpec.upto Rows.treeFindsSpec).at F).post enc Tryz.prog Tryz.f4 false true false false) := by
  refine cond_shaped (s := (Rows.OpenSpec.upto Rows.treeFindsSpec)) (k := Rows.uptoSmall) rfl started (by kernel_rfl) Tryz.func4
    (OpenSpec.witness (enc := enc) (C := Tryz.checked) (s := (Rows.OpenSpec.upto Rows.treeFindsSpec)) (k := Rows.uptoSmall) rfl false ⟨#[], #[.agg #[.int .i64 0, .string ⟨#[]⟩, .slice none 0 0, .int .i64 0], .int .i64 0], []⟩ 8 (by kernel_rfl) (by kernel_rfl) (by kernel_rfl)
      (x := ([.agg [.lit (.int .i64 0), .lit (.string []), .nil, .lit (.int .i64 0)], .lit (.int .i64 0)], [], [])) (by kernel_rfl) rfl (by kernel_rfl)) ?_
  intro W base args ds gs before hval0 hW hkk hsz0 hsh
  have hval : ∀ (j : Nat) t v, Tryz.f4.params[j]? = some t → args[j]? = some v → Value.okWide Tryz.prog W .any base t v := hval0
  have hsz : (DataW.weightsEach Tryz.prog (Tryz.f4.params.toList ++ (Rows.OpenSpec.upto Rows.treeFindsSpec).bare.plain.varTypes Tryz.prog) (ds ++ gs)).all (· ≤ reachBytes) = true := hsz0
  have hW' := hW
  obtain ⟨p, q, hA0, hV, rfl, hfz, hnd⟩ := hW
  have hA : DataW.TrodAll enc Tryz.prog W 0 (fun _ => true) true Tryz.f4.params.toList args.toList ds p := hA0
  rw [Tryz.params4] at hA hval hsz
  obtain ⟨v0, vs0, d0, ds0, p0, q0, hargs, rfl, rfl, h0, r0⟩ := trodAll_cons hA
  obtain ⟨v1, vs1, d1, ds1, p1, q1, rfl, rfl, rfl, h1, r1⟩ := trodAll_cons r0
  obtain ⟨rfl, rfl, rfl⟩ := trodAll_nil r1
  obtain rfl : args = #[v0, v1] := by cases args; simp_all
  obtain ⟨rfl, rfl⟩ := trodVars_none hV
  have wt : ∀ j (t : TypeId) (d : DataW H), [24, 3][j]? = some t → [d0, d1][j]? = some d → ∀ n, n ∈ d.weights Tryz.prog t → n ≤ reachBytes := fun j t d hj hd n hn => by
    have := List.all_eq_true.1 hsz n (DataW.weights_mem_each (j := j) hj hd n hn)
    simpa using this
  have hbk : ∀ d, d ∈ [d0, d1] → Rows.uptoBulk d ≤ 1048576 := fun d hd => Nat.le_trans (bulk_mem hd) (by have := bulk_of hkk; simpa using this)
  obtain ⟨t0, a0, c0, rfl, hf0, hk0, hbn0⟩ := arg_openB (hval 0 24 v0 rfl rfl) h0 (wt 0 _ d0 rfl rfl)
  have hb0 : ∀ d, (walkL d t0).length ≤ 1048576 := fun d => Nat.le_trans (hbn0 d) (hbk d0 (by simp))
  obtain ⟨i1, rfl, rfl, rfl, wi1⟩ := open_int Tryz.underlying3 (hval 1 3 v1 rfl rfl) h1
  have hg := glob_of hsh
  clear hA0 hval0 hsz0 hsh
  refine (finds_law t0 a0 c0 i1 W (hb0 1000) hg hk0 hf0).mono fun e W' ⟨he, bel⟩ => ?_
  subst he
  exact ⟨_, rfl, _, _, _, [], _, [], hW', trodAll_mk1 (shut_bool Tryz.underlying4 _), (trodAll_cons_mk (node_below h0 bel) (trodAll_cons_mk (shut_int Tryz.underlying3 wi1) trodAll_mk0)), rfl, bel.frame _, fun h => by cases h⟩

theorem finds_over : Rows.treeFindsUptoRow.holds Tryz.pinned (Rows.OpenSpec.upto Rows.treeFindsSpec) :=
  OpenClaim.holds_of_cond 4 Tryz.f4 rfl rfl rfl rfl rfl rfl rfl ⟨rfl, rfl, rfl, rfl, rfl⟩ rfl rfl rfl rfl rfl (by kernel_rfl) Tryz.func4 (by kernel_rfl)
    (of_decide_eq_true (by kernel_rfl)) (by unfold Func.isWrapper; first | (rw [if_pos (by decide +kernel)]; kernel_rfl) | (rw [if_neg (by decide +kernel)]; exact ⟨rfl, rfl⟩))
    (fun os started H enc _ F => finds_lifted os started H enc F)

theorem finds_holds : Rows.TreeFindsUptoSaid := finds_over
end Go.Proofs.YtnmebgiiajnnjaaGreat
