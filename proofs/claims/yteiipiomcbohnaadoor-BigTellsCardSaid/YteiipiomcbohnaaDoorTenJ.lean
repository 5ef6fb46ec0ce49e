/-
  the document's Amount.
-/
import Derived.Test.YteiipiomcbohnaaDoorTenI
import Derived.Test.YteiipiomcbohnaaDoorBgLe
namespace Go.Proofs.YteiipiomcbohnaaDoor.Ten
set_option linter.unusedSimpArgs false
set_option linter.unusedVariables false
open Go.RowKit

/-- What Amount tells. -/
def amA (s : List UInt8) : Value :=
  match numB s with
  | some z => .tuple #[.string ⟨(Lib.decDigits z.natAbs).toArray⟩, .bool (decide (z < 0)), .bool true]
  | none => .tuple #[.string ⟨#[]⟩, .bool false, .bool false]
set_option maxRecDepth 100000 in
set_option maxHeartbeats 4000000 in
theorem amount_pos (s : List UInt8) (w : World) (hs : s.length ≤ 1000) (h0 : s.head? ≠ some 45) :
    Calls Tryd.prog 39 #[.string ⟨s.toArray⟩] w fun e w' => e = .returned (.tuple #[.string ⟨(if plB s then s else []).toArray⟩, .bool false, .bool (plB s)]) ∧ w = w' := by
  have HP := Lib.hid (plain03_any s w (by omega))
  obtain ⟨V, hV⟩ : ∃ V, Value.tuple #[.string ⟨(if plB s then s else []).toArray⟩, .bool false, .bool (plB s)] = V := ⟨_, rfl⟩
  rw [hV]
  have HV := Lib.hid hV
  clear hV
  cases s with
  | nil =>
    have hp : plainL [] = false := by decide
    rw [hp] at HP
    have H2 := Lib.hid (show plB [] = false by decide)
    go_enter Tryd.func39, Tryd.ntmps39
    go_wp2_with fail
    refine HP.out.mono ?_
    rintro e w' ⟨rfl, h9⟩
    obtain rfl := h9.symm
    go_wp2
    refine bodyPost_ret (v := .tuple #[.string ⟨([] : List UInt8).toArray⟩, .bool false, .bool false]) (by simp [results, Tryd.results39, go_sem]) rfl ?_
    exact ⟨by rw [← HV.out, H2.out]; rfl, rfl⟩
  | cons c t =>
    have hc : ¬ c = 45 := fun h => h0 (by simp [h])
    have e0 : ¬ ((⟨(c :: t).toArray⟩ : ByteArray)[0]'(by simp [ByteArray.size])).toNat = 45 := fun h => hc (UInt8.toNat_inj.1 h)
    have hn : ¬ c.toNat = 45 := fun h => hc (UInt8.toNat_inj.1 h)
    have hcb : ((c.toNat : Int) == 45) = false := by simp only [beq_eq_false_iff_ne, ne_eq]; omega
    cases hp : plainL (c :: t) with
    | false =>
      rw [hp] at HP
      have H2 := Lib.hid (show plB (c :: t) = false by unfold plB; rw [hp]; rfl)
      clear hp h0 hc
      go_enter Tryd.func39, Tryd.ntmps39
      go_wp2_with fail
      refine HP.out.mono ?_
      rintro e w' ⟨rfl, h9⟩
      obtain rfl := h9.symm
      go_wp2
      refine bodyPost_ret (v := .tuple #[.string ⟨([] : List UInt8).toArray⟩, .bool false, .bool false]) (by simp [results, Tryd.results39, go_sem]) rfl ?_
      exact ⟨by rw [← HV.out, H2.out]; rfl, rfl⟩
    | true =>
      rw [hp] at HP
      by_cases hl : (t.length : Int) + 1 ≤ 160
      · have H2 := Lib.hid (show plB (c :: t) = true by unfold plB; rw [hp]; simp; omega)
        clear hp h0 hc
        go_enter Tryd.func39, Tryd.ntmps39
        go_wp2_with fail
        refine HP.out.mono ?_
        rintro e w' ⟨rfl, h9⟩
        obtain rfl := h9.symm
        go_wp2
        refine bodyPost_ret (v := .tuple #[.string ⟨(c :: t).toArray⟩, .bool false, .bool true]) (by simp [results, Tryd.results39, go_sem]) rfl ?_
        exact ⟨by rw [← HV.out, H2.out]; rfl, rfl⟩
      · have H2 := Lib.hid (show plB (c :: t) = false by unfold plB; rw [hp]; simp; omega)
        clear hp h0 hc
        go_enter Tryd.func39, Tryd.ntmps39
        go_wp2_with fail
        refine HP.out.mono ?_
        rintro e w' ⟨rfl, h9⟩
        obtain rfl := h9.symm
        go_wp2
        refine bodyPost_ret (v := .tuple #[.string ⟨([] : List UInt8).toArray⟩, .bool false, .bool false]) (by simp [results, Tryd.results39, go_sem]) rfl ?_
        exact ⟨by rw [← HV.out, H2.out]; rfl, rfl⟩

set_option maxRecDepth 100000 in
set_option maxHeartbeats 4000000 in
theorem amount_neg (t : List UInt8) (w : World) (hs : t.length ≤ 1000) :
    Calls Tryd.prog 39 #[.string ⟨(45 :: t).toArray⟩] w fun e w' => e = .returned (.tuple #[.string ⟨(if plB t && !(t == [48]) then t else []).toArray⟩, .bool (plB t && !(t == [48])), .bool (plB t && !(t == [48]))]) ∧ w = w' := by
  have HP := Lib.hid (plain03_any t w (by omega))
  obtain ⟨V, hV⟩ : ∃ V, Value.tuple #[.string ⟨(if plB t && !(t == [48]) then t else []).toArray⟩, .bool (plB t && !(t == [48])), .bool (plB t && !(t == [48]))] = V := ⟨_, rfl⟩
  rw [hV]
  have HV := Lib.hid hV
  clear hV
  have e0 : ((⟨(45 :: t).toArray⟩ : ByteArray)[0]'(by simp [ByteArray.size])).toNat = 45 := rfl
  have e1 : (⟨(45 :: t).toArray⟩ : ByteArray).extract 1 (t.length + 1) = ⟨t.toArray⟩ := cut_from (45 :: t) 1
  cases hp : plainL t with
  | false =>
    rw [hp] at HP
    have H2 := Lib.hid (show (plB t && !(t == [48])) = false by unfold plB; rw [hp]; rfl)
    clear hp
    go_enter Tryd.func39, Tryd.ntmps39
    go_wp2_with fail
    refine HP.out.mono ?_
    rintro e w' ⟨rfl, h9⟩
    obtain rfl := h9.symm
    go_wp2
    refine bodyPost_ret (v := .tuple #[.string ⟨([] : List UInt8).toArray⟩, .bool false, .bool false]) (by simp [results, Tryd.results39, go_sem]) rfl ?_
    exact ⟨by rw [← HV.out, H2.out]; rfl, rfl⟩
  | true =>
    rw [hp] at HP
    by_cases hl : (t.length : Int) ≤ 160
    · have hpb : plB t = true := by unfold plB; rw [hp]; simp; omega
      by_cases h48 : t = [48]
      · subst h48
        have e3 : (⟨#[45, 48]⟩ : ByteArray).extract 1 2 = ⟨#[48]⟩ := cut_from [45, 48] 1
        have H2 := Lib.hid (show (plB [48] && !(([48] : List UInt8) == [48])) = false by decide)
        clear hp
        go_enter Tryd.func39, Tryd.ntmps39
        go_wp2_with fail
        refine HP.out.mono ?_
        rintro e w' ⟨rfl, h9⟩
        obtain rfl := h9.symm
        go_wp2
        refine bodyPost_ret (v := .tuple #[.string ⟨([] : List UInt8).toArray⟩, .bool false, .bool false]) (by simp [results, Tryd.results39, go_sem]) rfl ?_
        exact ⟨by rw [← HV.out, H2.out]; rfl, rfl⟩
      · have hb : (t == [48]) = false := by simpa using h48
        have H2 := Lib.hid (show (plB t && !(t == [48])) = true by rw [hpb, hb]; rfl)
        clear hpb h48
        clear hp
        go_enter Tryd.func39, Tryd.ntmps39
        go_wp2_with fail
        refine HP.out.mono ?_
        rintro e w' ⟨rfl, h9⟩
        obtain rfl := h9.symm
        go_wp2
        refine bodyPost_ret (v := .tuple #[.string ⟨t.toArray⟩, .bool true, .bool true]) (by simp [results, Tryd.results39, go_sem]) rfl ?_
        exact ⟨by rw [← HV.out, H2.out]; rfl, rfl⟩
    · have H2 := Lib.hid (show (plB t && !(t == [48])) = false by
        have : plB t = false := by unfold plB; rw [hp]; simp; omega
        rw [this]; rfl)
      clear hp
      go_enter Tryd.func39, Tryd.ntmps39
      go_wp2_with fail
      refine HP.out.mono ?_
      rintro e w' ⟨rfl, h9⟩
      obtain rfl := h9.symm
      go_wp2
      refine bodyPost_ret (v := .tuple #[.string ⟨([] : List UInt8).toArray⟩, .bool false, .bool false]) (by simp [results, Tryd.results39, go_sem]) rfl ?_
      exact ⟨by rw [← HV.out, H2.out]; rfl, rfl⟩
end Go.Proofs.YteiipiomcbohnaaDoor.Ten
