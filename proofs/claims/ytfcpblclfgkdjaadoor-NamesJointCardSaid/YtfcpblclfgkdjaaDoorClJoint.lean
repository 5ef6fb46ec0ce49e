/-
  The statement NamesJoint: the card's first form.
-/
import Derived.Test.YtfcpblclfgkdjaaDoorNmRw
import Derived.Test.YtfcpblclfgkdjaaDoorNmX
import Derived.Test.YtfcpblclfgkdjaaDoorNmLa
namespace Go.Proofs.YtfcpblclfgkdjaaDoor
set_option linter.unusedSimpArgs false
set_option linter.unusedVariables false
open Go.ChangeShapes Go.WideShapes Go.ChangeAt Go.RowKit
open Go.ChangeMaps (open_string shut_string)

set_option maxRecDepth 100000 in
theorem namesJoint_contract (H : Type) (enc : TypeId × Value → H) (W : World) (base : Nat) (args : Array Value) (ds gs : List (DataW H)) (before : List MemPlace)
    (hval : ∀ (j : Nat) t v, Tryd.f3.params[j]? = some t → args[j]? = some v → Value.okWide Tryd.prog W .any base t v)
    (hW : DataW.Whole enc Tryd.prog Tryd.f3.params.toList Rows.namesJointSpec.vars false W args.toList ds gs before) (hsz : (DataW.weightsEach Tryd.prog (Tryd.f3.params.toList ++ (OpenSpec.ofChange Rows.namesJointSpec).bare.plain.varTypes Tryd.prog) (ds ++ gs)).all (· ≤ reachBytes) = true) (hL : laidMetH Tryd.prog Rows.namesJointRow.laid W) :
    Calls Tryd.prog 3 args W fun e W' => ∃ v, e = .returned v ∧ Rows.namesJointSpec.post enc Tryd.prog Tryd.f3 false true false false W args v W' := by
  have hT : Tab W := tab_met hL
  have hW' := hW
  obtain ⟨p, q, hA0, hV, rfl, hfz, hnd⟩ := hW
  have hA : DataW.TrodAll enc Tryd.prog W 0 (fun _ => true) true Tryd.f3.params.toList args.toList ds p := hA0
  rw [Tryd.params3] at hA hval hsz
  obtain ⟨v0, vs0, d0, ds0, p0, q0, hargs, rfl, rfl, h0, r0⟩ := trodAll_cons hA
  obtain ⟨rfl, rfl, rfl⟩ := trodAll_nil r0
  obtain rfl : args = #[v0] := by cases args; simp_all
  obtain ⟨rfl, rfl⟩ := trodVars_none hV
  have wt : ∀ j (t : TypeId) (d : DataW H), [22][j]? = some t → [d0][j]? = some d → ∀ n, n ∈ d.weights Tryd.prog t → n ≤ reachBytes := fun j t d hj hd n hn => by
    have := List.all_eq_true.1 hsz n (DataW.weights_mem_each (j := j) hj hd n hn)
    simpa using this
  obtain ⟨l0, a0, c0, rfl, hs0, hc0, hx0, hl0, hm0⟩ := open_strs (hval 0 22 v0 rfl rfl) h0 (wt 0 _ d0 rfl rfl)
  clear hA0 hval hsz
  have walk : Calls Tryd.prog 3 #[.slice a0 l0.length c0] W (Good W) := by
    skip
    exact joint_law l0 a0 c0 W hT hs0 (by omega) hm0
  refine walk.mono fun e W' ⟨he, bel⟩ => ?_
  subst he
  exact ⟨_, rfl, _, _, _, [], _, [], hW', trodAll_mk1 (shut_bool Tryd.underlying4 _), (trodAll_cons_mk (strs_below h0 bel) trodAll_mk0), rfl, bel.frame _, fun h => by cases h⟩

theorem namesJoint_met (os : Os) : laidMet Tryd.prog Rows.namesJointRow.laid ((laidWorld os).forCall (fun _ _ => 0) ⟨#[], #[.slice none 0 0], []⟩).memory :=
  world_met os _
theorem namesJoint_reads (os : Os) {H : Type} (enc : TypeId × Value → H) : ∃ places, DataW.whole enc Tryd.prog ((laidWorld os).forCall (fun _ _ => 0) ⟨#[], #[.slice none 0 0], []⟩).memory Tryd.f3.params.toList Rows.namesJointSpec.vars false (#[.slice none 0 0] : Array Value).toList 8 = some ([.nil], [], places) :=
  ⟨[], by kernel_rfl⟩

set_option maxRecDepth 100000 in
theorem namesJoint_lifted (os : Os) (started : os.Started) (H : Type) (enc : TypeId × Value → H) (F : Stop.Interp) :
    ReturnsInHanded {} Tryd.checked os 3 .any ((OpenSpec.ofChange Rows.namesJointSpec).preRow enc Tryd.prog Tryd.f3 Rows.namesJointRow.domain false Rows.namesJointRow.laid) (((OpenSpec.ofChange Rows.namesJointSpec).at F).post enc Tryd.prog Tryd.f3 false true false false) := by
  obtain ⟨places, hx⟩ := namesJoint_reads os enc
  refine returnsInHanded_of_row (C := Tryd.checked) (s := (OpenSpec.ofChange Rows.namesJointSpec)) own started (by kernel_rfl) Tryd.func3
    (witness_row_atRef (enc := enc) (C := Tryd.checked) false (laidWorld os) #[.slice none 0 0] rfl (by kernel_rfl) (by kernel_rfl) (by kernel_rfl)
      (OpenSpec.preRow_of_cond 8 hx (by kernel_rfl) (fun k hk => by cases hk) (by kernel_rfl) (namesJoint_met os))) ?_
  intro W base args ds gs before hval hW _ hcond hsz hL _ _
  exact namesJoint_contract H enc W base args ds gs before hval hW hsz hL

theorem namesJoint_said : Rows.NamesJointSaid :=
  OpenClaim.holds_of_cond 3 Tryd.f3 rfl rfl rfl rfl rfl rfl rfl ⟨rfl, rfl, rfl, rfl, rfl⟩ rfl rfl rfl rfl rfl (by kernel_rfl) Tryd.func3 (by kernel_rfl)
    (of_decide_eq_true (by kernel_rfl)) (by unfold Func.isWrapper; first | (rw [if_pos (by decide +kernel)]; kernel_rfl) | (rw [if_neg (by decide +kernel)]; exact ⟨rfl, rfl⟩))
    (fun os started H enc _ F => by rw [OpenClaim.pre_eq_preRow]; exact namesJoint_lifted os started H enc F)

theorem namesJoint_plain (f : FuncId) (fn : Func) (hf : Tryd.pinned.checked.prog.funcNamed "demotic/demoticlaw17.NamesJoint" = some f) (hfn : Tryd.pinned.checked.prog.funcs[f]? = some fn) :
    false = Tryd.pinned.checked.prog.looks [] ∧ ∀ (j : Nat) t, fn.params[j]? = some t → Tryd.pinned.checked.prog.wantsStandIn t = false := by
  obtain rfl : f = 3 := Option.some.inj ((show Tryd.prog.funcNamed "demotic/demoticlaw17.NamesJoint" = some 3 by kernel_rfl).symm.trans hf) |>.symm
  obtain rfl : fn = Tryd.f3 := (Option.some.inj (Tryd.func3.symm.trans hfn)).symm
  refine ⟨by kernel_rfl, fun j t ht => ?_⟩
  rw [Tryd.params3] at ht
  have hm := Array.mem_of_getElem? ht
  have h0 : ∀ x, x ∈ [22] → Tryd.prog.wantsStandIn x = false := by
    intro x hx
    simp only [List.mem_cons, List.not_mem_nil, or_false] at hx
    subst hx; kernel_rfl
  exact h0 t (by simpa using hm)

/-- The card. -/
theorem namesJoint_holds : Rows.NamesJointCardSaid :=
  Claim7.holds_tied_plain_at .later [] _ _ _ _ namesJoint_said (fun _ h => by cases h) (by kernel_rfl) (fun _ h => by cases h) namesJoint_row_tie rfl ⟨rfl, rfl⟩ (by kernel_rfl) rfl namesJoint_plain (by kernel_rfl)
end Go.Proofs.YtfcpblclfgkdjaaDoor
