/-
  The statement NamesNone: the card's second form.
-/
import Derived.Test.YtfcpblclfgkdjaaGreatDoorNtW
import Derived.Test.YtfcpblclfgkdjaaGreatDoorNtO
import Derived.Test.YtfcpblclfgkdjaaGreatDoorNtU
namespace Go.Proofs.YtfcpblclfgkdjaaGreatDoor
set_option linter.unusedSimpArgs false
set_option linter.unusedVariables false
open Go.ChangeShapes Go.WideShapes Go.ChangeAt Go.RowKit
open Go.ChangeMaps (open_string shut_string)

set_option maxRecDepth 100000 in
theorem namesNone_contract (H : Type) (enc : TypeId × Value → H) (W : World) (base : Nat) (args : Array Value) (ds gs : List (DataW H)) (before : List MemPlace)
    (hval : ∀ (j : Nat) t v, Tryz.f4.params[j]? = some t → args[j]? = some v → Value.okWide Tryz.prog W .any base t v)
    (hW : DataW.Whole enc Tryz.prog Tryz.f4.params.toList Rows.namesNoneSpec.vars false W args.toList ds gs before) (hkk : Rows.uptoSmall H (ds ++ gs) = true) (hsz : (DataW.weightsEach Tryz.prog (Tryz.f4.params.toList ++ (Rows.OpenSpec.upto Rows.namesNoneSpec).bare.plain.varTypes Tryz.prog) (ds ++ gs)).all (· ≤ reachBytes) = true) (hL : laidMetH Tryz.prog Rows.namesNoneUptoRow.laid W) (hSh : W.ShapedOpen Tryz.prog) :
    Calls Tryz.prog 4 args W fun e W' => ∃ v, e = .returned v ∧ Rows.namesNoneSpec.post enc Tryz.prog Tryz.f4 false true false false W args v W' := by
  have hT : Aw.Tab W := tab_met hL
  have hg : Glob W := glob_of hSh
  have hW' := hW
  obtain ⟨p, q, hA0, hV, rfl, hfz, hnd⟩ := hW
  have hA : DataW.TrodAll enc Tryz.prog W 0 (fun _ => true) true Tryz.f4.params.toList args.toList ds p := hA0
  rw [Tryz.params4] at hA hval hsz
  obtain ⟨v0, vs0, d0, ds0, p0, q0, hargs, rfl, rfl, h0, r0⟩ := trodAll_cons hA
  obtain ⟨v1, vs1, d1, ds1, p1, q1, rfl, rfl, rfl, h1, r1⟩ := trodAll_cons r0
  obtain ⟨v2, vs2, d2, ds2, p2, q2, rfl, rfl, rfl, h2, r2⟩ := trodAll_cons r1
  obtain ⟨rfl, rfl, rfl⟩ := trodAll_nil r2
  obtain rfl : args = #[v0, v1, v2] := by cases args; simp_all
  obtain ⟨rfl, rfl⟩ := trodVars_none hV
  have wt : ∀ j (t : TypeId) (d : DataW H), [22, 9, 9][j]? = some t → [d0, d1, d2][j]? = some d → ∀ n, n ∈ d.weights Tryz.prog t → n ≤ reachBytes := fun j t d hj hd n hn => by
    have := List.all_eq_true.1 hsz n (DataW.weights_mem_each (j := j) hj hd n hn)
    simpa using this
  have hbk : ∀ d, d ∈ [d0, d1, d2] → Rows.uptoBulk d ≤ 1048576 := fun d hd => Nat.le_trans (bulk_mem hd) (by have : Rows.uptoBulkAll ([d0, d1, d2] ++ []) ≤ 1048576 := of_decide_eq_true hkk; simpa using this)
  obtain ⟨l0, a0, c0, rfl, hk0, hlc0, hcm0, hx0, hbn0⟩ := nds_open (hval 0 22 v0 rfl rfl) h0 (wt 0 _ d0 rfl rfl)
  have hb0 : ∀ d, (l0.flatMap (walkL d)).length + 1 ≤ 1048576 := fun d => Nat.le_trans (hbn0 d) (hbk d0 (by simp))
  obtain ⟨b1, rfl, rfl, rfl, ws1⟩ := open_string Tryz.underlying9 (hval 1 9 v1 rfl rfl) h1
  have hq1 : b1.data.toList.length ≤ 140737488351232 := by
    have := hbk (.lit (.string b1.data.toList)) (by simp)
    simp only [Rows.uptoBulk] at this
    omega
  obtain ⟨b2, rfl, rfl, rfl, ws2⟩ := open_string Tryz.underlying9 (hval 2 9 v2 rfl rfl) h2
  have hq2 : b2.data.toList.length ≤ 140737488351232 := by
    have := hbk (.lit (.string b2.data.toList)) (by simp)
    simp only [Rows.uptoBulk] at this
    omega
  clear hA0 hval hsz
  have walk1 := str_of b1
  obtain ⟨s1, hsb1⟩ : ∃ s, b1.data.toList = s := ⟨_, rfl⟩
  rw [hsb1] at walk1 hq1
  have walk2 := str_of b2
  obtain ⟨s2, hsb2⟩ : ∃ s, b2.data.toList = s := ⟨_, rfl⟩
  rw [hsb2] at walk2 hq2
  have walk : Calls Tryz.prog 4 #[.slice a0 l0.length c0, .string b1, .string b2] W (Aw.Good W) := by
    rw [walk1, walk2]
    exact none_law l0 a0 c0 s1 s2 W hb0 hq1 hq2 hg hT hk0 hlc0 hcm0
  refine walk.mono fun e W' ⟨he, bel⟩ => ?_
  subst he
  exact ⟨_, rfl, _, _, _, [], _, [], hW', trodAll_mk1 (shut_bool Tryz.underlying4 _), (trodAll_cons_mk (nds_below h0 bel) (trodAll_cons_mk (shut_string Tryz.underlying9 ws1) (trodAll_cons_mk (shut_string Tryz.underlying9 ws2) trodAll_mk0))), rfl, bel.frame _, fun h => by cases h⟩

theorem namesNone_met (os : Os) : laidMet Tryz.prog Rows.namesNoneUptoRow.laid ((laidWorld os).forCall (fun _ _ => 0) ⟨#[], #[.slice none 0 0, .string ⟨#[]⟩, .string ⟨#[]⟩], []⟩).memory :=
  world_met os _
theorem namesNone_reads (os : Os) {H : Type} (enc : TypeId × Value → H) : ∃ places, DataW.whole enc Tryz.prog ((laidWorld os).forCall (fun _ _ => 0) ⟨#[], #[.slice none 0 0, .string ⟨#[]⟩, .string ⟨#[]⟩], []⟩).memory Tryz.f4.params.toList Rows.namesNoneSpec.vars false (#[.slice none 0 0, .string ⟨#[]⟩, .string ⟨#[]⟩] : Array Value).toList 8 = some ([.nil, .lit (.string []), .lit (.string [])], [], places) :=
  ⟨[], by kernel_rfl⟩

set_option maxRecDepth 100000 in
theorem namesNone_lifted (os : Os) (started : os.Started) (H : Type) (enc : TypeId × Value → H) (F : Stop.Interp) :
    ReturnsInHanded {} Tryz.checked os 4 .any ((Rows.OpenSpec.upto Rows.namesNoneSpec).preRow enc Tryz.prog Tryz.f4 Rows.namesNoneUptoRow.domain false Rows.namesNoneUptoRow.laid) (((Rows.OpenSpec.upto Rows.namesNoneSpec).at F).post enc Tryz.prog Tryz.f4 false true false false) := by
  obtain ⟨places, hx⟩ := namesNone_reads os enc
  refine returnsInHanded_of_row (C := Tryz.checked) (s := (Rows.OpenSpec.upto Rows.namesNoneSpec)) own started (by kernel_rfl) Tryz.func4
    (witness_row_atRef (enc := enc) (C := Tryz.checked) false (laidWorld os) #[.slice none 0 0, .string ⟨#[]⟩, .string ⟨#[]⟩] rfl (by kernel_rfl) (by kernel_rfl) (by kernel_rfl)
      (OpenSpec.preRow_of_cond 8 hx (by kernel_rfl) (fun k hk => by cases hk; kernel_rfl) (by kernel_rfl) (namesNone_met os))) ?_
  intro W base args ds gs before hval hW _ hcond hsz hL hSh _
  exact namesNone_contract H enc W base args ds gs before hval hW (hcond _ rfl) hsz hL hSh

theorem namesNone_said : Rows.NamesNoneUptoSaid :=
  OpenClaim.holds_of_cond 4 Tryz.f4 rfl rfl rfl rfl rfl rfl rfl ⟨rfl, rfl, rfl, rfl, rfl⟩ rfl rfl rfl rfl rfl (by kernel_rfl) Tryz.func4 (by kernel_rfl)
    (of_decide_eq_true (by kernel_rfl)) (by unfold Func.isWrapper; first | (rw [if_pos (by decide +kernel)]; kernel_rfl) | (rw [if_neg (by decide +kernel)]; exact ⟨rfl, rfl⟩))
    (fun os started H enc _ F => by rw [OpenClaim.pre_eq_preRow]; exact namesNone_lifted os started H enc F)

theorem namesNone_plain (f : FuncId) (fn : Func) (hf : Tryz.pinned.checked.prog.funcNamed "demotic/demoticlaw17.NamesNone" = some f) (hfn : Tryz.pinned.checked.prog.funcs[f]? = some fn) :
    true = Tryz.pinned.checked.prog.looks [] ∧ ∀ (j : Nat) t, fn.params[j]? = some t → Tryz.pinned.checked.prog.wantsStandIn t = false := by
  obtain rfl : f = 4 := Option.some.inj ((show Tryz.prog.funcNamed "demotic/demoticlaw17.NamesNone" = some 4 by kernel_rfl).symm.trans hf) |>.symm
  obtain rfl : fn = Tryz.f4 := (Option.some.inj (Tryz.func4.symm.trans hfn)).symm
  refine ⟨by kernel_rfl, fun j t ht => ?_⟩
  rw [Tryz.params4] at ht
  have hm := Array.mem_of_getElem? ht
  have h0 : ∀ x, x ∈ [22, 9, 9] → Tryz.prog.wantsStandIn x = false := by
    intro x hx
    simp only [List.mem_cons, List.not_mem_nil, or_false] at hx
    rcases hx with rfl | rfl | rfl <;> kernel_rfl
  exact h0 t (by simpa using hm)

/-- The card. -/
theorem namesNone_holds : Rows.NamesNoneUptoCardSaid :=
  Claim7.holds_tied_plain_at .later [] _ _ _ _ namesNone_said (fun _ h => by cases h) (by kernel_rfl) (fun _ h => by cases h) namesNoneUpto_row_tie rfl ⟨rfl, rfl⟩ (by kernel_rfl) rfl namesNone_plain (by kernel_rfl)
end Go.Proofs.YtfcpblclfgkdjaaGreatDoor
