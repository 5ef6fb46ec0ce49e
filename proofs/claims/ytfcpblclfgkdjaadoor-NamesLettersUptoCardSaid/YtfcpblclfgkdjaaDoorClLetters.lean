/-
  The statement NamesLetters: the card's second form.
-/
import Derived.Test.YtfcpblclfgkdjaaDoorNmRw
import Derived.Test.YtfcpblclfgkdjaaDoorNmY
import Derived.Test.YtfcpblclfgkdjaaDoorNmLb
namespace Go.Proofs.YtfcpblclfgkdjaaDoor
set_option linter.unusedSimpArgs false
set_option linter.unusedVariables false
open Go.ChangeShapes Go.WideShapes Go.ChangeAt Go.RowKit
open Go.ChangeMaps (open_string shut_string)

set_option maxRecDepth 100000 in
theorem namesLetters_contract (H : Type) (enc : TypeId × Value → H) (W : World) (base : Nat) (args : Array Value) (ds gs : List (DataW H)) (before : List MemPlace)
    (hval : ∀ (j : Nat) t v, Tryd.f4.params[j]? = some t → args[j]? = some v → Value.okWide Tryd.prog W .any base t v)
    (hW : DataW.Whole enc Tryd.prog Tryd.f4.params.toList Rows.namesLettersSpec.vars false W args.toList ds gs before) (hkk : Rows.uptoSmall H (ds ++ gs) = true) (hsz : (DataW.weightsEach Tryd.prog (Tryd.f4.params.toList ++ (Rows.OpenSpec.upto Rows.namesLettersSpec).bare.plain.varTypes Tryd.prog) (ds ++ gs)).all (· ≤ reachBytes) = true) (hL : laidMetH Tryd.prog Rows.namesLettersUptoRow.laid W) :
    Calls Tryd.prog 4 args W fun e W' => ∃ v, e = .returned v ∧ Rows.namesLettersSpec.post enc Tryd.prog Tryd.f4 false true false false W args v W' := by
  have hT : Tab W := tab_met hL
  have hW' := hW
  obtain ⟨p, q, hA0, hV, rfl, hfz, hnd⟩ := hW
  have hA : DataW.TrodAll enc Tryd.prog W 0 (fun _ => true) true Tryd.f4.params.toList args.toList ds p := hA0
  rw [Tryd.params4] at hA hval hsz
  obtain ⟨v0, vs0, d0, ds0, p0, q0, hargs, rfl, rfl, h0, r0⟩ := trodAll_cons hA
  obtain ⟨v1, vs1, d1, ds1, p1, q1, rfl, rfl, rfl, h1, r1⟩ := trodAll_cons r0
  obtain ⟨rfl, rfl, rfl⟩ := trodAll_nil r1
  obtain rfl : args = #[v0, v1] := by cases args; simp_all
  obtain ⟨rfl, rfl⟩ := trodVars_none hV
  have wt : ∀ j (t : TypeId) (d : DataW H), [28, 28][j]? = some t → [d0, d1][j]? = some d → ∀ n, n ∈ d.weights Tryd.prog t → n ≤ reachBytes := fun j t d hj hd n hn => by
    have := List.all_eq_true.1 hsz n (DataW.weights_mem_each (j := j) hj hd n hn)
    simpa using this
  have hbk : ∀ d, d ∈ [d0, d1] → Rows.uptoBulk d ≤ 1048576 := fun d hd => Nat.le_trans (bulk_mem hd) (by have : Rows.uptoBulkAll ([d0, d1] ++ []) ≤ 1048576 := of_decide_eq_true hkk; simpa using this)
  obtain ⟨t0, a0, c0, rfl, hf0, hk0, hbn0⟩ := open_ty (hval 0 28 v0 rfl rfl) h0 (wt 0 _ d0 rfl rfl)
  have hb0 : bulkT t0 ≤ 1048576 := Nat.le_trans hbn0 (hbk d0 (by simp))
  obtain ⟨t1, a1, c1, rfl, hf1, hk1, hbn1⟩ := open_ty (hval 1 28 v1 rfl rfl) h1 (wt 1 _ d1 rfl rfl)
  have hb1 : bulkT t1 ≤ 1048576 := Nat.le_trans hbn1 (hbk d1 (by simp))
  clear hA0 hval hsz
  have walk : Calls Tryd.prog 4 #[.agg #[.int .i64 t0.kind, .string ⟨t0.name.toArray⟩, .slice a0 t0.args.length c0], .agg #[.int .i64 t1.kind, .string ⟨t1.name.toArray⟩, .slice a1 t1.args.length c1]] W (Good W) := by
    skip
    exact letters_law t0 t1 a0 a1 c0 c1 W hT hk0 hf0 hk1 hf1 hb0 hb1
  refine walk.mono fun e W' ⟨he, bel⟩ => ?_
  subst he
  exact ⟨_, rfl, _, _, _, [], _, [], hW', trodAll_mk1 (shut_bool Tryd.underlying4 _), (trodAll_cons_mk (ty_below h0 bel) (trodAll_cons_mk (ty_below h1 bel) trodAll_mk0)), rfl, bel.frame _, fun h => by cases h⟩

theorem namesLetters_met (os : Os) : laidMet Tryd.prog Rows.namesLettersUptoRow.laid ((laidWorld os).forCall (fun _ _ => 0) ⟨#[], #[.agg #[.int .i64 0, .string ⟨#[]⟩, .slice none 0 0], .agg #[.int .i64 0, .string ⟨#[]⟩, .slice none 0 0]], []⟩).memory :=
  world_met os _
theorem namesLetters_reads (os : Os) {H : Type} (enc : TypeId × Value → H) : ∃ places, DataW.whole enc Tryd.prog ((laidWorld os).forCall (fun _ _ => 0) ⟨#[], #[.agg #[.int .i64 0, .string ⟨#[]⟩, .slice none 0 0], .agg #[.int .i64 0, .string ⟨#[]⟩, .slice none 0 0]], []⟩).memory Tryd.f4.params.toList Rows.namesLettersSpec.vars false (#[.agg #[.int .i64 0, .string ⟨#[]⟩, .slice none 0 0], .agg #[.int .i64 0, .string ⟨#[]⟩, .slice none 0 0]] : Array Value).toList 8 = some ([.agg [.lit (.int .i64 0), .lit (.string []), .nil], .agg [.lit (.int .i64 0), .lit (.string []), .nil]], [], places) :=
  ⟨[], by kernel_rfl⟩

set_option maxRecDepth 100000 in
theorem namesLetters_lifted (os : Os) (started : os.Started) (H : Type) (enc : TypeId × Value → H) (F : Stop.Interp) :
    ReturnsInHanded {} Tryd.checked os 4 .any ((Rows.OpenSpec.upto Rows.namesLettersSpec).preRow enc Tryd.prog Tryd.f4 Rows.namesLettersUptoRow.domain false Rows.namesLettersUptoRow.laid) (((Rows.OpenSpec.upto Rows.namesLettersSpec).at F).post enc Tryd.prog Tryd.f4 false true false false) := by
  obtain ⟨places, hx⟩ := namesLetters_reads os enc
  refine returnsInHanded_of_row (C := Tryd.checked) (s := (Rows.OpenSpec.upto Rows.namesLettersSpec)) own started (by kernel_rfl) Tryd.func4
    (witness_row_atRef (enc := enc) (C := Tryd.checked) false (laidWorld os) #[.agg #[.int .i64 0, .string ⟨#[]⟩, .slice none 0 0], .agg #[.int .i64 0, .string ⟨#[]⟩, .slice none 0 0]] rfl (by kernel_rfl) (by kernel_rfl) (by kernel_rfl)
      (OpenSpec.preRow_of_cond 8 hx (by kernel_rfl) (fun k hk => by cases hk; kernel_rfl) (by kernel_rfl) (namesLetters_met os))) ?_
  intro W base args ds gs before hval hW _ hcond hsz hL _ _
  exact namesLetters_contract H enc W base args ds gs before hval hW (hcond _ rfl) hsz hL

theorem namesLetters_said : Rows.NamesLettersUptoSaid :=
  OpenClaim.holds_of_cond 4 Tryd.f4 rfl rfl rfl rfl rfl rfl rfl ⟨rfl, rfl, rfl, rfl, rfl⟩ rfl rfl rfl rfl rfl (by kernel_rfl) Tryd.func4 (by kernel_rfl)
    (of_decide_eq_true (by kernel_rfl)) (by unfold Func.isWrapper; first | (rw [if_pos (by decide +kernel)]; kernel_rfl) | (rw [if_neg (by decide +kernel)]; exact ⟨rfl, rfl⟩))
    (fun os started H enc _ F => by rw [OpenClaim.pre_eq_preRow]; exact namesLetters_lifted os started H enc F)

theorem namesLetters_plain (f : FuncId) (fn : Func) (hf : Tryd.pinned.checked.prog.funcNamed "demotic/demoticlaw17.NamesLetters" = some f) (hfn : Tryd.pinned.checked.prog.funcs[f]? = some fn) :
    false = Tryd.pinned.checked.prog.looks [] ∧ ∀ (j : Nat) t, fn.params[j]? = some t → Tryd.pinned.checked.prog.wantsStandIn t = false := by
  obtain rfl : f = 4 := Option.some.inj ((show Tryd.prog.funcNamed "demotic/demoticlaw17.NamesLetters" = some 4 by kernel_rfl).symm.trans hf) |>.symm
  obtain rfl : fn = Tryd.f4 := (Option.some.inj (Tryd.func4.symm.trans hfn)).symm
  refine ⟨by kernel_rfl, fun j t ht => ?_⟩
  rw [Tryd.params4] at ht
  have hm := Array.mem_of_getElem? ht
  have h0 : ∀ x, x ∈ [28, 28] → Tryd.prog.wantsStandIn x = false := by
    intro x hx
    simp only [List.mem_cons, List.not_mem_nil, or_false] at hx
    rcases hx with rfl | rfl <;> kernel_rfl
  exact h0 t (by simpa using hm)

/-- The card. -/
theorem namesLetters_holds : Rows.NamesLettersUptoCardSaid :=
  Claim7.holds_tied_plain_at .later [] _ _ _ _ namesLetters_said (fun _ h => by cases h) (by kernel_rfl) (fun _ h => by cases h) namesLettersUpto_row_tie rfl ⟨rfl, rfl⟩ (by kernel_rfl) rfl namesLetters_plain (by kernel_rfl)
end Go.Proofs.YtfcpblclfgkdjaaDoor
