/-
  The statement NamesTurn: the card's second form.
-/
import Derived.Test.YtfcpblclfgkdjaaGreatDoorNtW
import Derived.Test.YtfcpblclfgkdjaaGreatDoorNtO
import Derived.Test.YtfcpblclfgkdjaaGreatDoorNtT
namespace Go.Proofs.YtfcpblclfgkdjaaGreatDoor
set_option linter.unusedSimpArgs false
set_option linter.unusedVariables false
open Go.ChangeShapes Go.WideShapes Go.ChangeAt Go.RowKit
open Go.ChangeMaps (open_string shut_string)

set_option maxRecDepth 100000 in
theorem namesTurn_contract (H : Type) (enc : TypeId × Value → H) (W : World) (base : Nat) (args : Array Value) (ds gs : List (DataW H)) (before : List MemPlace)
    (hval : ∀ (j : Nat) t v, Tryz.f3.params[j]? = some t → args[j]? = some v → Value.okWide Tryz.prog W .any base t v)
    (hW : DataW.Whole enc Tryz.prog Tryz.f3.params.toList Rows.namesTurnSpec.vars false W args.toList ds gs before) (hkk : Rows.uptoSmall H (ds ++ gs) = true) (hsz : (DataW.weightsEach Tryz.prog (Tryz.f3.params.toList ++ (Rows.OpenSpec.upto Rows.namesTurnSpec).bare.plain.varTypes Tryz.prog) (ds ++ gs)).all (· ≤ reachBytes) = true) (hL : laidMetH Tryz.prog Rows.namesTurnUptoRow.laid W) (hSh : W.ShapedOpen Tryz.prog) :
    Calls Tryz.prog 3 args W fun e W' => ∃ v, e = .returned v ∧ Rows.namesTurnSpec.post enc Tryz.prog Tryz.f3 false true false false W args v W' := by
  have hT : Aw.Tab W := tab_met hL
  have hg : Glob W := glob_of hSh
  have hW' := hW
  obtain ⟨p, q, hA0, hV, rfl, hfz, hnd⟩ := hW
  have hA : DataW.TrodAll enc Tryz.prog W 0 (fun _ => true) true Tryz.f3.params.toList args.toList ds p := hA0
  rw [Tryz.params3] at hA hval hsz
  obtain ⟨v0, vs0, d0, ds0, p0, q0, hargs, rfl, rfl, h0, r0⟩ := trodAll_cons hA
  obtain ⟨v1, vs1, d1, ds1, p1, q1, rfl, rfl, rfl, h1, r1⟩ := trodAll_cons r0
  obtain ⟨rfl, rfl, rfl⟩ := trodAll_nil r1
  obtain rfl : args = #[v0, v1] := by cases args; simp_all
  obtain ⟨rfl, rfl⟩ := trodVars_none hV
  have wt : ∀ j (t : TypeId) (d : DataW H), [22, 9][j]? = some t → [d0, d1][j]? = some d → ∀ n, n ∈ d.weights Tryz.prog t → n ≤ reachBytes := fun j t d hj hd n hn => by
    have := List.all_eq_true.1 hsz n (DataW.weights_mem_each (j := j) hj hd n hn)
    simpa using this
  have hbk : ∀ d, d ∈ [d0, d1] → Rows.uptoBulk d ≤ 1048576 := fun d hd => Nat.le_trans (bulk_mem hd) (by have : Rows.uptoBulkAll ([d0, d1] ++ []) ≤ 1048576 := of_decide_eq_true hkk; simpa using this)
  obtain ⟨l0, a0, c0, rfl, hk0, hlc0, hcm0, hx0, hbn0⟩ := nds_open (hval 0 22 v0 rfl rfl) h0 (wt 0 _ d0 rfl rfl)
  have hb0 : ∀ d, (l0.flatMap (walkL d)).length ≤ 1048576 := fun d => Nat.le_trans (hbn0 d) (hbk d0 (by simp))
  obtain ⟨b1, rfl, rfl, rfl, ws1⟩ := open_string Tryz.underlying9 (hval 1 9 v1 rfl rfl) h1
  have hq1 : b1.data.toList.length ≤ 140737488351232 := by
    have := hbk (.lit (.string b1.data.toList)) (by simp)
    simp only [Rows.uptoBulk] at this
    omega
  clear hA0 hval hsz
  have walk1 := str_of b1
  obtain ⟨s1, hsb1⟩ : ∃ s, b1.data.toList = s := ⟨_, rfl⟩
  rw [hsb1] at walk1 hq1
  have walk : Calls Tryz.prog 3 #[.slice a0 l0.length c0, .string b1] W (Aw.Good W) := by
    rw [walk1]
    exact turn_law l0 a0 c0 s1 W hb0 hq1 hg hT hk0 hlc0 hcm0
  refine walk.mono fun e W' ⟨he, bel⟩ => ?_
  subst he
  exact ⟨_, rfl, _, _, _, [], _, [], hW', trodAll_mk1 (shut_bool Tryz.underlying4 _), (trodAll_cons_mk (nds_below h0 bel) (trodAll_cons_mk (shut_string Tryz.underlying9 ws1) trodAll_mk0)), rfl, bel.frame _, fun h => by cases h⟩

theorem namesTurn_met (os : Os) : laidMet Tryz.prog Rows.namesTurnUptoRow.laid ((laidWorld os).forCall (fun _ _ => 0) ⟨#[], #[.slice none 0 0, .string ⟨#[]⟩], []⟩).memory :=
  world_met os _
theorem namesTurn_reads (os : Os) {H : Type} (enc : TypeId × Value → H) : ∃ places, DataW.whole enc Tryz.prog ((laidWorld os).forCall (fun _ _ => 0) ⟨#[], #[.slice none 0 0, .string ⟨#[]⟩], []⟩).memory Tryz.f3.params.toList Rows.namesTurnSpec.vars false (#[.slice none 0 0, .string ⟨#[]⟩] : Array Value).toList 8 = some ([.nil, .lit (.string [])], [], places) :=
  ⟨[], by kernel_rfl⟩

set_option maxRecDepth 100000 in
theorem namesTurn_lifted (os : Os) (started : os.Started) (H : Type) (enc : TypeId × Value → H) (F : Stop.Interp) :
    ReturnsInHanded {} Tryz.checked os 3 .any ((Rows.OpenSpec.upto Rows.namesTurnSpec).preRow enc Tryz.prog Tryz.f3 Rows.namesTurnUptoRow.domain false Rows.namesTurnUptoRow.laid) (((Rows.OpenSpec.upto Rows.namesTurnSpec).at F).post enc Tryz.prog Tryz.f3 false true false false) := by
  obtain ⟨places, hx⟩ := namesTurn_reads os enc
  refine returnsInHanded_of_row (C := Tryz.checked) (s := (Rows.OpenSpec.upto Rows.namesTurnSpec)) own started (by kernel_rfl) Tryz.func3
    (witness_row_atRef (enc := enc) (C := Tryz.checked) false (laidWorld os) #[.slice none 0 0, .string ⟨#[]⟩] rfl (by kernel_rfl) (by kernel_rfl) (by kernel_rfl)
      (OpenSpec.preRow_of_cond 8 hx (by kernel_rfl) (fun k hk => by cases hk; kernel_rfl) (by kernel_rfl) (namesTurn_met os))) ?_
  intro W base args ds gs before hval hW _ hcond hsz hL hSh _
  exact namesTurn_contract H enc W base args ds gs before hval hW (hcond _ rfl) hsz hL hSh

theorem namesTurn_said : Rows.NamesTurnUptoSaid :=
  OpenClaim.holds_of_cond 3 Tryz.f3 rfl rfl rfl rfl rfl rfl rfl ⟨rfl, rfl, rfl, rfl, rfl⟩ rfl rfl rfl rfl rfl (by kernel_rfl) Tryz.func3 (by kernel_rfl)
    (of_decide_eq_true (by kernel_rfl)) (by unfold Func.isWrapper; first | (rw [if_pos (by decide +kernel)]; kernel_rfl) | (rw [if_neg (by decide +kernel)]; exact ⟨rfl, rfl⟩))
    (fun os started H enc _ F => by rw [OpenClaim.pre_eq_preRow]; exact namesTurn_lifted os started H enc F)

theorem namesTurn_plain (f : FuncId) (fn : Func) (hf : Tryz.pinned.checked.prog.funcNamed "demotic/demoticlaw17.NamesTurn" = some f) (hfn : Tryz.pinned.checked.prog.funcs[f]? = some fn) :
    true = Tryz.pinned.checked.prog.looks [] ∧ ∀ (j : Nat) t, fn.params[j]? = some t → Tryz.pinned.checked.prog.wantsStandIn t = false := by
  obtain rfl : f = 3 := Option.some.inj ((show Tryz.prog.funcNamed "demotic/demoticlaw17.NamesTurn" = some 3 by kernel_rfl).symm.trans hf) |>.symm
  obtain rfl : fn = Tryz.f3 := (Option.some.inj (Tryz.func3.symm.trans hfn)).symm
  refine ⟨by kernel_rfl, fun j t ht => ?_⟩
  rw [Tryz.params3] at ht
  have hm := Array.mem_of_getElem? ht
  have h0 : ∀ x, x ∈ [22, 9] → Tryz.prog.wantsStandIn x = false := by
    intro x hx
    simp only [List.mem_cons, List.not_mem_nil, or_false] at hx
    rcases hx with rfl | rfl <;> kernel_rfl
  exact h0 t (by simpa using hm)

/-- The card. -/
theorem namesTurn_holds : Rows.NamesTurnUptoCardSaid :=
  Claim7.holds_tied_plain_at .later [] _ _ _ _ namesTurn_said (fun _ h => by cases h) (by kernel_rfl) (fun _ h => by cases h) namesTurnUpto_row_tie rfl ⟨rfl, rfl⟩ (by kernel_rfl) rfl namesTurn_plain (by kernel_rfl)
end Go.Proofs.YtfcpblclfgkdjaaGreatDoor
