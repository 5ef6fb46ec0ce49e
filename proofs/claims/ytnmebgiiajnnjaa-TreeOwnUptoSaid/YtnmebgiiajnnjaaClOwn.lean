/-
  The statement TreeOwn, second form: whatever the arguments, the law returns true, and each reads as it did. Condition: what is read is of bulk at most 1048576.
-/
import Derived.Test.YtnmebgiiajnnjaaRows
import Derived.Test.YtnmebgiiajnnjaaOpenC
import Derived.Test.YtnmebgiiajnnjaaLawOwn
namespace Go.Proofs.Ytnmebgiiajnnjaa
set_option linter.unusedSimpArgs false
set_option linter.unusedVariables false
open Go.ChangeShapes Go.WideShapes Go.ChangeAt Go.RowKit
open Go.ChangeMaps (open_string shut_string)

set_option maxRecDepth 100000 in
theorem own_lifted (os : Os) (started : os.Started) (H : Type) (enc : TypeId × Value → H) (F : Stop.Interp) :
    ReturnsInHanded {} Try.checked os 6 .any ((Rows.OpenSpec.upto Rows.treeOwnSpec).pre6 enc Try.prog Try.f6 Rows.treeOwnUptoRow.domain false) (((Rows.OpenSpec.upto Rows.treeOwnSpec).at F).post enc Try.prog Try.f6 false true false false) := by
  refine cond_shaped (s := (Rows.OpenSpec.upto Rows.treeOwnSpec)) (k := Rows.uptoSmall) rfl started (by kernel_rfl) Try.func6
    (OpenSpec.witness (enc := enc) (C := Try.checked) (s := (Rows.OpenSpec.upto Rows.treeOwnSpec)) (k := Rows.uptoSmall) rfl false ⟨#[], #[.agg #[.int .i64 0, .string ⟨#[]⟩, .slice none 0 0, .int .i64 0]], []⟩ 8 (by kernel_rfl) (by kernel_rfl) (by kernel_rfl)
      (x := ([.agg [.lit (.int .i64 0), .lit (.string []), .nil, .lit (.int .i64 0)]], [], [])) (by kernel_rfl) rfl (by kernel_rfl)) ?_
  intro W base args ds gs before hval0 hW hkk hsz0 hsh
  have hval : ∀ (j : Nat) t v, Try.f6.params[j]? = some t → args[j]? = some v → Value.okWide Try.prog W .any base t v := hval0
  have hsz : (DataW.weightsEach Try.prog (Try.f6.params.toList ++ (Rows.OpenSpec.upto Rows.treeOwnSpec).bare.plain.varTypes Try.prog) (ds ++ gs)).all (· ≤ reachBytes) = true := hsz0
  have hW' := hW
  obtain ⟨p, q, hA0, hV, rfl, hfz, hnd⟩ := hW
  have hA : DataW.TrodAll enc Try.prog W 0 (fun _ => true) true Try.f6.params.toList args.toList ds p := hA0
  rw [Try.params6] at hA hval hsz
  obtain ⟨v0, vs0, d0, ds0, p0, q0, hargs, rfl, rfl, h0, r0⟩ := trodAll_cons hA
  obtain ⟨rfl, rfl, rfl⟩ := trodAll_nil r0
  obtain rfl : args = #[v0] := by cases args; simp_all
  obtain ⟨rfl, rfl⟩ := trodVars_none hV
  have wt : ∀ j (t : TypeId) (d : DataW H), [24][j]? = some t → [d0][j]? = some d → ∀ n, n ∈ d.weights Try.prog t → n ≤ reachBytes := fun j t d hj hd n hn => by
    have := List.all_eq_true.1 hsz n (DataW.weights_mem_each (j := j) hj hd n hn)
    simpa using this
  have hbk : ∀ d, d ∈ [d0] → Rows.uptoBulk d ≤ 1048576 := fun d hd => Nat.le_trans (bulk_mem hd) (by have := bulk_of hkk; simpa using this)
  obtain ⟨t0, a0, c0, rfl, hf0, hk0, hbn0⟩ := arg_openC (hval 0 24 v0 rfl rfl) h0 (wt 0 _ d0 rfl rfl)
  have hb0 : ∀ d, (walkL d t0).length ≤ 1048576 := fun d => Nat.le_trans (hbn0.1 d) (hbk d0 (by simp))
  have hg := glob_of hsh
  clear hA0 hval0 hsz0 hsh
  refine (own_law t0 a0 c0 W (hb0 1000) (fun k hk => Nat.le_trans (hbn0.2.2 k hk) (hbk d0 (by simp))) hg hk0 hf0).mono fun e W' ⟨he, bel⟩ => ?_
  subst he
  exact ⟨_, rfl, _, _, _, [], _, [], hW', trodAll_mk1 (shut_bool Try.underlying4 _), (trodAll_cons_mk (node_below h0 bel) trodAll_mk0), rfl, bel.frame _, fun h => by cases h⟩

theorem own_over : Rows.treeOwnUptoRow.holds Try.pinned (Rows.OpenSpec.upto Rows.treeOwnSpec) :=
  OpenClaim.holds_of_cond 6 Try.f6 rfl rfl rfl rfl rfl rfl rfl ⟨rfl, rfl, rfl, rfl, rfl⟩ rfl rfl rfl rfl rfl (by kernel_rfl) Try.func6 (by kernel_rfl)
    (of_decide_eq_true (by kernel_rfl)) (by unfold Func.isWrapper; first | (rw [if_pos (by decide +kernel)]; kernel_rfl) | (rw [if_neg (by decide +kernel)]; exact ⟨rfl, rfl⟩))
    (fun os started H enc _ F => own_lifted os started H enc F)

theorem own_holds : Rows.TreeOwnUptoSaid := own_over
end Go.Proofs.Ytnmebgiiajnnjaa
