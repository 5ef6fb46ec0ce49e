/-
  The statement BigInts: the card's first form.
-/
import Derived.Test.YteiipiomcbohnaaDoorBgY
import Derived.Test.YteiipiomcbohnaaDoorBgLc
namespace Go.Proofs.YteiipiomcbohnaaDoor
set_option linter.unusedSimpArgs false
set_option linter.unusedVariables false
open Go.ChangeShapes Go.WideShapes Go.ChangeAt Go.RowKit
open Go.ChangeMaps (open_string shut_string)

set_option maxRecDepth 100000 in
theorem bigInts_contract (H : Type) (enc : TypeId × Value → H) (W : World) (base : Nat) (args : Array Value) (ds gs : List (DataW H)) (before : List MemPlace)
    (hval : ∀ (j : Nat) t v, Tryd.f4.params[j]? = some t → args[j]? = some v → Value.okWide Tryd.prog W .any base t v)
    (hW : DataW.Whole enc Tryd.prog Tryd.f4.params.toList Rows.bigIntsSpec.vars false W args.toList ds gs before) (hL : laidMetH Tryd.prog Rows.bigIntsRow.laid W) :
    Calls Tryd.prog 4 args W fun e W' => ∃ v, e = .returned v ∧ Rows.bigIntsSpec.post enc Tryd.prog Tryd.f4 false true false false W args v W' := by
  have hT : Tab W := tab_met hL
  have hW' := hW
  obtain ⟨p, q, hA0, hV, rfl, hfz, hnd⟩ := hW
  have hA : DataW.TrodAll enc Tryd.prog W 0 (fun _ => true) true Tryd.f4.params.toList args.toList ds p := hA0
  rw [Tryd.params4] at hA hval
  obtain ⟨v0, vs0, d0, ds0, p0, q0, hargs, rfl, rfl, h0, r0⟩ := trodAll_cons hA
  obtain ⟨v1, vs1, d1, ds1, p1, q1, rfl, rfl, rfl, h1, r1⟩ := trodAll_cons r0
  obtain ⟨rfl, rfl, rfl⟩ := trodAll_nil r1
  obtain rfl : args = #[v0, v1] := by cases args; simp_all
  obtain ⟨rfl, rfl⟩ := trodVars_none hV
  obtain ⟨i0, rfl, rfl, rfl, wi0⟩ := open_int Tryd.underlying21 (hval 0 21 v0 rfl rfl) h0
  obtain ⟨i1, rfl, rfl, rfl, wi1⟩ := open_int Tryd.underlying21 (hval 1 21 v1 rfl rfl) h1
  clear hA0 hval
  have walk : Calls Tryd.prog 4 #[.int .i32 i0, .int .i32 i1] W (Good W) := by
    skip
    exact ints_law i0 i1 W hT wi0 wi1
  refine walk.mono fun e W' ⟨he, bel⟩ => ?_
  subst he
  exact ⟨_, rfl, _, _, _, [], _, [], hW', trodAll_mk1 (shut_bool Tryd.underlying4 _), (trodAll_cons_mk (shut_int Tryd.underlying21 wi0) (trodAll_cons_mk (shut_int Tryd.underlying21 wi1) trodAll_mk0)), rfl, bel.frame _, fun h => by cases h⟩

theorem bigInts_met (os : Os) : laidMet Tryd.prog Rows.bigIntsRow.laid ((laidWorld os).forCall (fun _ _ => 0) ⟨#[], #[.int .i32 0, .int .i32 0], []⟩).memory :=
  laidMet_of_run' 8 (by kernel_rfl) (by kernel_rfl)
theorem bigInts_reads (os : Os) {H : Type} (enc : TypeId × Value → H) : ∃ places, DataW.whole enc Tryd.prog ((laidWorld os).forCall (fun _ _ => 0) ⟨#[], #[.int .i32 0, .int .i32 0], []⟩).memory Tryd.f4.params.toList Rows.bigIntsSpec.vars false (#[.int .i32 0, .int .i32 0] : Array Value).toList 8 = some ([.lit (.int .i32 0), .lit (.int .i32 0)], [], places) :=
  ⟨[], by kernel_rfl⟩

set_option maxRecDepth 100000 in
theorem bigInts_lifted (os : Os) (started : os.Started) (H : Type) (enc : TypeId × Value → H) (F : Stop.Interp) :
    ReturnsInHanded {} Tryd.checked os 4 .any ((OpenSpec.ofChange Rows.bigIntsSpec).preRow enc Tryd.prog Tryd.f4 Rows.bigIntsRow.domain false Rows.bigIntsRow.laid) (((OpenSpec.ofChange Rows.bigIntsSpec).at F).post enc Tryd.prog Tryd.f4 false true false false) := by
  obtain ⟨places, hx⟩ := bigInts_reads os enc
  refine returnsInHanded_of_row (C := Tryd.checked) (s := OpenSpec.ofChange Rows.bigIntsSpec) own started (by kernel_rfl) Tryd.func4
    (witness_row_at (enc := enc) (C := Tryd.checked) false (laidWorld os) #[.int .i32 0, .int .i32 0] rfl (by kernel_rfl) (by kernel_rfl) (by kernel_rfl)
      (OpenSpec.preRow_of_cond 8 hx (by kernel_rfl) (fun k hk => by cases hk) (by kernel_rfl) (bigInts_met os))) ?_
  intro W base args ds gs before hval hW _ _ _ hL _ _
  exact bigInts_contract H enc W base args ds gs before hval hW hL

theorem bigInts_said : Rows.BigIntsSaid :=
  OpenClaim.holds_of_cond 4 Tryd.f4 rfl rfl rfl rfl rfl rfl rfl ⟨rfl, rfl, rfl, rfl, rfl⟩ rfl rfl rfl rfl rfl (by kernel_rfl) Tryd.func4 (by kernel_rfl)
    (of_decide_eq_true (by kernel_rfl)) (by unfold Func.isWrapper; first | (rw [if_pos (by decide +kernel)]; kernel_rfl) | (rw [if_neg (by decide +kernel)]; exact ⟨rfl, rfl⟩))
    (fun os started H enc _ F => by rw [OpenClaim.pre_eq_preRow]; exact bigInts_lifted os started H enc F)

theorem bigInts_plain (f : FuncId) (fn : Func) (hf : Tryd.pinned.checked.prog.funcNamed "demotic/demoticlaw09.BigInts" = some f) (hfn : Tryd.pinned.checked.prog.funcs[f]? = some fn) :
    true = Tryd.pinned.checked.prog.looks [] ∧ ∀ (j : Nat) t, fn.params[j]? = some t → Tryd.pinned.checked.prog.wantsStandIn t = false := by
  obtain rfl : f = 4 := Option.some.inj ((show Tryd.prog.funcNamed "demotic/demoticlaw09.BigInts" = some 4 by kernel_rfl).symm.trans hf) |>.symm
  obtain rfl : fn = Tryd.f4 := (Option.some.inj (Tryd.func4.symm.trans hfn)).symm
  refine ⟨by kernel_rfl, fun j t ht => ?_⟩
  rw [Tryd.params4] at ht
  have hm := Array.mem_of_getElem? ht
  have h0 : ∀ x, x ∈ [21, 21] → Tryd.prog.wantsStandIn x = false := by
    intro x hx
    simp only [List.mem_cons, List.not_mem_nil, or_false] at hx
    rcases hx with rfl | rfl <;> kernel_rfl
  exact h0 t (by simpa using hm)

/-- The card. -/
theorem bigInts_holds : Rows.BigIntsCardSaid :=
  Claim7.holds_tied_plain_at .later [] _ _ _ _ bigInts_said (fun _ h => by cases h) (by kernel_rfl) (fun _ h => by cases h) bigInts_row_tie rfl ⟨rfl, rfl⟩ (by kernel_rfl) rfl bigInts_plain (by kernel_rfl)
end Go.Proofs.YteiipiomcbohnaaDoor
