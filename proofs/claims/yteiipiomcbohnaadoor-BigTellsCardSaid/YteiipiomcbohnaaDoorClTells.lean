/-
  The statement BigTells: the card's first form.
-/
import Derived.Test.YteiipiomcbohnaaDoorBgY
import Derived.Test.YteiipiomcbohnaaDoorTenW
import Derived.Test.YteiipiomcbohnaaDoorTenX
namespace Go.Proofs.YteiipiomcbohnaaDoor
set_option linter.unusedSimpArgs false
set_option linter.unusedVariables false
open Go.ChangeShapes Go.WideShapes Go.ChangeAt Go.RowKit
open Go.ChangeMaps (open_string shut_string)

set_option maxRecDepth 100000 in
theorem bigTells_contract (H : Type) (enc : TypeId × Value → H) (W : World) (base : Nat) (args : Array Value) (ds gs : List (DataW H)) (before : List MemPlace)
    (hval : ∀ (j : Nat) t v, Tryd.f10.params[j]? = some t → args[j]? = some v → Value.okWide Tryd.prog W .any base t v)
    (hW : DataW.Whole enc Tryd.prog Tryd.f10.params.toList Rows.bigTellsSpec.vars false W args.toList ds gs before) (hL : laidMetH Tryd.prog Rows.bigTellsRow.laid W) :
    Calls Tryd.prog 10 args W fun e W' => ∃ v, e = .returned v ∧ Rows.bigTellsSpec.post enc Tryd.prog Tryd.f10 false true false false W args v W' := by
  have hT : Tab W ∧ Ten.Vr W := Ten.tabs5_met hL
  have hW' := hW
  obtain ⟨p, q, hA0, hV, rfl, hfz, hnd⟩ := hW
  have hA : DataW.TrodAll enc Tryd.prog W 0 (fun _ => true) true Tryd.f10.params.toList args.toList ds p := hA0
  rw [Tryd.params10] at hA hval
  obtain ⟨v0, vs0, d0, ds0, p0, q0, hargs, rfl, rfl, h0, r0⟩ := trodAll_cons hA
  obtain ⟨v1, vs1, d1, ds1, p1, q1, rfl, rfl, rfl, h1, r1⟩ := trodAll_cons r0
  obtain ⟨v2, vs2, d2, ds2, p2, q2, rfl, rfl, rfl, h2, r2⟩ := trodAll_cons r1
  obtain ⟨rfl, rfl, rfl⟩ := trodAll_nil r2
  obtain rfl : args = #[v0, v1, v2] := by cases args; simp_all
  obtain ⟨rfl, rfl⟩ := trodVars_none hV
  obtain ⟨b0, rfl, rfl, rfl, ws0⟩ := open_string Tryd.underlying9 (hval 0 9 v0 rfl rfl) h0
  have hf0 := fit_of ws0
  obtain ⟨b1, rfl, rfl, rfl, ws1⟩ := open_string Tryd.underlying9 (hval 1 9 v1 rfl rfl) h1
  have hf1 := fit_of ws1
  obtain ⟨i2, rfl, rfl, rfl, wi2⟩ := open_int Tryd.underlying3 (hval 2 3 v2 rfl rfl) h2
  clear hA0 hval
  have walk0 := str_of b0
  obtain ⟨s0, hs0⟩ : ∃ s, b0.data.toList = s := ⟨_, rfl⟩
  rw [hs0] at walk0 hf0
  have walk1 := str_of b1
  obtain ⟨s1, hs1⟩ : ∃ s, b1.data.toList = s := ⟨_, rfl⟩
  rw [hs1] at walk1 hf1
  have walk : Calls Tryd.prog 10 #[.string b0, .string b1, .int .i64 i2] W (Good W) := by
    rw [walk0, walk1]
    exact Ten.tells_law s0 s1 i2 W hT hf0 hf1 wi2
  refine walk.mono fun e W' ⟨he, bel⟩ => ?_
  subst he
  exact ⟨_, rfl, _, _, _, [], _, [], hW', trodAll_mk1 (shut_bool Tryd.underlying4 _), (trodAll_cons_mk (shut_string Tryd.underlying9 ws0) (trodAll_cons_mk (shut_string Tryd.underlying9 ws1) (trodAll_cons_mk (shut_int Tryd.underlying3 wi2) trodAll_mk0))), rfl, bel.frame _, fun h => by cases h⟩

theorem bigTells_met (os : Os) : laidMet Tryd.prog Rows.bigTellsRow.laid ((Ten.laidWorld5 os).forCall (fun _ _ => 0) ⟨#[], #[.string ⟨#[]⟩, .string ⟨#[]⟩, .int .i64 0], []⟩).memory :=
  Ten.world5_met os
theorem bigTells_reads (os : Os) {H : Type} (enc : TypeId × Value → H) : ∃ places, DataW.whole enc Tryd.prog ((Ten.laidWorld5 os).forCall (fun _ _ => 0) ⟨#[], #[.string ⟨#[]⟩, .string ⟨#[]⟩, .int .i64 0], []⟩).memory Tryd.f10.params.toList Rows.bigTellsSpec.vars false (#[.string ⟨#[]⟩, .string ⟨#[]⟩, .int .i64 0] : Array Value).toList 8 = some ([.lit (.string []), .lit (.string []), .lit (.int .i64 0)], [], places) :=
  ⟨[], by kernel_rfl⟩

set_option maxRecDepth 100000 in
theorem bigTells_lifted (os : Os) (started : os.Started) (H : Type) (enc : TypeId × Value → H) (F : Stop.Interp) :
    ReturnsInHanded {} Tryd.checked os 10 .any ((OpenSpec.ofChange Rows.bigTellsSpec).preRow enc Tryd.prog Tryd.f10 Rows.bigTellsRow.domain false Rows.bigTellsRow.laid) (((OpenSpec.ofChange Rows.bigTellsSpec).at F).post enc Tryd.prog Tryd.f10 false true false false) := by
  obtain ⟨places, hx⟩ := bigTells_reads os enc
  refine returnsInHanded_of_row (C := Tryd.checked) (s := OpenSpec.ofChange Rows.bigTellsSpec) own started (by kernel_rfl) Tryd.func10
    (witness_row_atRef (enc := enc) (C := Tryd.checked) false (Ten.laidWorld5 os) #[.string ⟨#[]⟩, .string ⟨#[]⟩, .int .i64 0] rfl (by kernel_rfl) (by kernel_rfl) (by kernel_rfl)
      (OpenSpec.preRow_of_cond 8 hx (by kernel_rfl) (fun k hk => by cases hk) (by kernel_rfl) (bigTells_met os))) ?_
  intro W base args ds gs before hval hW _ _ _ hL _ _
  exact bigTells_contract H enc W base args ds gs before hval hW hL

theorem bigTells_said : Rows.BigTellsSaid :=
  OpenClaim.holds_of_cond 10 Tryd.f10 rfl rfl rfl rfl rfl rfl rfl ⟨rfl, rfl, rfl, rfl, rfl⟩ rfl rfl rfl rfl rfl (by kernel_rfl) Tryd.func10 (by kernel_rfl)
    (of_decide_eq_true (by kernel_rfl)) (by unfold Func.isWrapper; first | (rw [if_pos (by decide +kernel)]; kernel_rfl) | (rw [if_neg (by decide +kernel)]; exact ⟨rfl, rfl⟩))
    (fun os started H enc _ F => by rw [OpenClaim.pre_eq_preRow]; exact bigTells_lifted os started H enc F)

theorem bigTells_plain (f : FuncId) (fn : Func) (hf : Tryd.pinned.checked.prog.funcNamed "demotic/demoticlaw09.BigTells" = some f) (hfn : Tryd.pinned.checked.prog.funcs[f]? = some fn) :
    true = Tryd.pinned.checked.prog.looks [] ∧ ∀ (j : Nat) t, fn.params[j]? = some t → Tryd.pinned.checked.prog.wantsStandIn t = false := by
  obtain rfl : f = 10 := Option.some.inj ((show Tryd.prog.funcNamed "demotic/demoticlaw09.BigTells" = some 10 by kernel_rfl).symm.trans hf) |>.symm
  obtain rfl : fn = Tryd.f10 := (Option.some.inj (Tryd.func10.symm.trans hfn)).symm
  refine ⟨by kernel_rfl, fun j t ht => ?_⟩
  rw [Tryd.params10] at ht
  have hm := Array.mem_of_getElem? ht
  have h0 : ∀ x, x ∈ [9, 9, 3] → Tryd.prog.wantsStandIn x = false := by
    intro x hx
    simp only [List.mem_cons, List.not_mem_nil, or_false] at hx
    rcases hx with rfl | rfl | rfl <;> kernel_rfl
  exact h0 t (by simpa using hm)

/-- The card. -/
theorem bigTells_holds : Rows.BigTellsCardSaid :=
  Claim7.holds_tied_plain_at .later [] _ _ _ _ bigTells_said (fun _ h => by cases h) (by kernel_rfl) (fun _ h => by cases h) bigTells_row_tie rfl ⟨rfl, rfl⟩ (by kernel_rfl) rfl bigTells_plain (by kernel_rfl)
end Go.Proofs.YteiipiomcbohnaaDoor
