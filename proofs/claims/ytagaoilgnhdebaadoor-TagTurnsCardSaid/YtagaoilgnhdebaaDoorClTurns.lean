/-
  The statement TagTurns: the card's first form.
-/
import Derived.Test.YtagaoilgnhdebaaDoorTgRw
import Derived.Test.YtagaoilgnhdebaaDoorTgX
import Derived.Test.YtagaoilgnhdebaaDoorTgLg
namespace Go.Proofs.YtagaoilgnhdebaaDoor
set_option linter.unusedSimpArgs false
set_option linter.unusedVariables false
open Go.ChangeShapes Go.WideShapes Go.ChangeAt Go.RowKit
open Go.ChangeMaps (open_string shut_string)

set_option maxRecDepth 100000 in
theorem tagTurns_contract (H : Type) (enc : TypeId × Value → H) (W : World) (base : Nat) (args : Array Value) (ds gs : List (DataW H)) (before : List MemPlace)
    (hval : ∀ (j : Nat) t v, Tryd.f5.params[j]? = some t → args[j]? = some v → Value.okWide Tryd.prog W .any base t v)
    (hW : DataW.Whole enc Tryd.prog Tryd.f5.params.toList Rows.tagTurnsSpec.vars false W args.toList ds gs before) (hsz : (DataW.weightsEach Tryd.prog (Tryd.f5.params.toList ++ (OpenSpec.ofChange Rows.tagTurnsSpec).bare.plain.varTypes Tryd.prog) (ds ++ gs)).all (· ≤ reachBytes) = true) (hL : laidMetH Tryd.prog Rows.tagTurnsRow.laid W) :
    Calls Tryd.prog 5 args W fun e W' => ∃ v, e = .returned v ∧ Rows.tagTurnsSpec.post enc Tryd.prog Tryd.f5 false true false false W args v W' := by
  have hT : Env W := env_met hL
  have hW' := hW
  obtain ⟨p, q, hA0, hV, rfl, hfz, hnd⟩ := hW
  have hA : DataW.TrodAll enc Tryd.prog W 0 (fun _ => true) true Tryd.f5.params.toList args.toList ds p := hA0
  rw [Tryd.params5] at hA hval hsz
  obtain ⟨v0, vs0, d0, ds0, p0, q0, hargs, rfl, rfl, h0, r0⟩ := trodAll_cons hA
  obtain ⟨v1, vs1, d1, ds1, p1, q1, rfl, rfl, rfl, h1, r1⟩ := trodAll_cons r0
  obtain ⟨v2, vs2, d2, ds2, p2, q2, rfl, rfl, rfl, h2, r2⟩ := trodAll_cons r1
  obtain ⟨rfl, rfl, rfl⟩ := trodAll_nil r2
  obtain rfl : args = #[v0, v1, v2] := by cases args; simp_all
  obtain ⟨rfl, rfl⟩ := trodVars_none hV
  have wt : ∀ j (t : TypeId) (d : DataW H), [24, 24, 25][j]? = some t → [d0, d1, d2][j]? = some d → ∀ n, n ∈ d.weights Tryd.prog t → n ≤ reachBytes := fun j t d hj hd n hn => by
    have := List.all_eq_true.1 hsz n (DataW.weights_mem_each (j := j) hj hd n hn)
    simpa using this
  obtain ⟨t0, a0, c0, rfl, hf0, hk0, hbn0⟩ := open_expr (hval 0 24 v0 rfl rfl) h0 (wt 0 _ d0 rfl rfl)
  obtain ⟨t1, a1, c1, rfl, hf1, hk1, hbn1⟩ := open_expr (hval 1 24 v1 rfl rfl) h1 (wt 1 _ d1 rfl rfl)
  obtain ⟨l2, a2, c2, rfl, hs2, hc2, hx2, hl2, hm2⟩ := open_strs (hval 2 25 v2 rfl rfl) h2 (wt 2 _ d2 rfl rfl)
  clear hA0 hval hsz
  have walk : Calls Tryd.prog 5 #[.agg #[.string ⟨t0.op.toArray⟩, .string ⟨t0.tag.toArray⟩, .slice a0 t0.kids.length c0], .agg #[.string ⟨t1.op.toArray⟩, .string ⟨t1.tag.toArray⟩, .slice a1 t1.kids.length c1], .slice a2 l2.length c2] W (Good W) := by
    skip
    exact turns_any t0 t1 a0 a1 c0 c1 l2 a2 c2 W hT hk0 hf0 hk1 hf1 hs2 (by omega)
  refine walk.mono fun e W' ⟨he, bel⟩ => ?_
  subst he
  exact ⟨_, rfl, _, _, _, [], _, [], hW', trodAll_mk1 (shut_bool Tryd.underlying4 _), (trodAll_cons_mk (expr_below h0 bel) (trodAll_cons_mk (expr_below h1 bel) (trodAll_cons_mk (strs_below h2 bel) trodAll_mk0))), rfl, bel.frame _, fun h => by cases h⟩

theorem tagTurns_met (os : Os) : laidMet Tryd.prog Rows.tagTurnsRow.laid ((laidWorld os).forCall (fun _ _ => 0) ⟨#[], #[.agg #[.string ⟨#[]⟩, .string ⟨#[]⟩, .slice none 0 0], .agg #[.string ⟨#[]⟩, .string ⟨#[]⟩, .slice none 0 0], .slice none 0 0], []⟩).memory :=
  world_met os _
theorem tagTurns_reads (os : Os) {H : Type} (enc : TypeId × Value → H) : ∃ places, DataW.whole enc Tryd.prog ((laidWorld os).forCall (fun _ _ => 0) ⟨#[], #[.agg #[.string ⟨#[]⟩, .string ⟨#[]⟩, .slice none 0 0], .agg #[.string ⟨#[]⟩, .string ⟨#[]⟩, .slice none 0 0], .slice none 0 0], []⟩).memory Tryd.f5.params.toList Rows.tagTurnsSpec.vars false (#[.agg #[.string ⟨#[]⟩, .string ⟨#[]⟩, .slice none 0 0], .agg #[.string ⟨#[]⟩, .string ⟨#[]⟩, .slice none 0 0], .slice none 0 0] : Array Value).toList 8 = some ([.agg [.lit (.string []), .lit (.string []), .nil], .agg [.lit (.string []), .lit (.string []), .nil], .nil], [], places) :=
  ⟨[], by kernel_rfl⟩

set_option maxRecDepth 100000 in
theorem tagTurns_lifted (os : Os) (started : os.Started) (H : Type) (enc : TypeId × Value → H) (F : Stop.Interp) :
    ReturnsInHanded {} Tryd.checked os 5 .any ((OpenSpec.ofChange Rows.tagTurnsSpec).preRow enc Tryd.prog Tryd.f5 Rows.tagTurnsRow.domain false Rows.tagTurnsRow.laid) (((OpenSpec.ofChange Rows.tagTurnsSpec).at F).post enc Tryd.prog Tryd.f5 false true false false) := by
  obtain ⟨places, hx⟩ := tagTurns_reads os enc
  refine returnsInHanded_of_row (C := Tryd.checked) (s := (OpenSpec.ofChange Rows.tagTurnsSpec)) own started (by kernel_rfl) Tryd.func5
    (witness_row_atRef (enc := enc) (C := Tryd.checked) false (laidWorld os) #[.agg #[.string ⟨#[]⟩, .string ⟨#[]⟩, .slice none 0 0], .agg #[.string ⟨#[]⟩, .string ⟨#[]⟩, .slice none 0 0], .slice none 0 0] rfl (by kernel_rfl) (by kernel_rfl) (by kernel_rfl)
      (OpenSpec.preRow_of_cond 8 hx (by kernel_rfl) (fun k hk => by cases hk) (by kernel_rfl) (tagTurns_met os))) ?_
  intro W base args ds gs before hval hW _ hcond hsz hL _ _
  exact tagTurns_contract H enc W base args ds gs before hval hW hsz hL

theorem tagTurns_said : Rows.TagTurnsSaid :=
  OpenClaim.holds_of_cond 5 Tryd.f5 rfl rfl rfl rfl rfl rfl rfl ⟨rfl, rfl, rfl, rfl, rfl⟩ rfl rfl rfl rfl rfl (by kernel_rfl) Tryd.func5 (by kernel_rfl)
    (of_decide_eq_true (by kernel_rfl)) (by unfold Func.isWrapper; first | (rw [if_pos (by decide +kernel)]; kernel_rfl) | (rw [if_neg (by decide +kernel)]; exact ⟨rfl, rfl⟩))
    (fun os started H enc _ F => by rw [OpenClaim.pre_eq_preRow]; exact tagTurns_lifted os started H enc F)

theorem tagTurns_plain (f : FuncId) (fn : Func) (hf : Tryd.pinned.checked.prog.funcNamed "demotic/demoticlaw05.TagTurns" = some f) (hfn : Tryd.pinned.checked.prog.funcs[f]? = some fn) :
    true = Tryd.pinned.checked.prog.looks [] ∧ ∀ (j : Nat) t, fn.params[j]? = some t → Tryd.pinned.checked.prog.wantsStandIn t = false := by
  obtain rfl : f = 5 := Option.some.inj ((show Tryd.prog.funcNamed "demotic/demoticlaw05.TagTurns" = some 5 by kernel_rfl).symm.trans hf) |>.symm
  obtain rfl : fn = Tryd.f5 := (Option.some.inj (Tryd.func5.symm.trans hfn)).symm
  refine ⟨by kernel_rfl, fun j t ht => ?_⟩
  rw [Tryd.params5] at ht
  have hm := Array.mem_of_getElem? ht
  have h0 : ∀ x, x ∈ [24, 24, 25] → Tryd.prog.wantsStandIn x = false := by
    intro x hx
    simp only [List.mem_cons, List.not_mem_nil, or_false] at hx
    rcases hx with rfl | rfl | rfl <;> kernel_rfl
  exact h0 t (by simpa using hm)

/-- The card. -/
theorem tagTurns_holds : Rows.TagTurnsCardSaid :=
  Claim7.holds_tied_plain_at .later [] _ _ _ _ tagTurns_said (fun _ h => by cases h) (by kernel_rfl) (fun _ h => by cases h) tagTurns_row_tie rfl ⟨rfl, rfl⟩ (by kernel_rfl) rfl tagTurns_plain (by kernel_rfl)
end Go.Proofs.YtagaoilgnhdebaaDoor
