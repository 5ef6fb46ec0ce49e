/-
  the document's Right.
-/
import Derived.Test.YteiipiomcbohnaaDoorTenL
namespace Go.Proofs.YteiipiomcbohnaaDoor.Ten
set_option linter.unusedSimpArgs false
set_option linter.unusedVariables false
open Go.RowKit

set_option maxRecDepth 100000 in
set_option maxHeartbeats 4000000 in
theorem right_ref (s : List UInt8) (w : World) (hs : s.length ≤ 1000) :
    Calls Tryd.prog 24 #[.string ⟨s.toArray⟩] w fun e w' => e = .returned (.bool (numR s).isSome) ∧ Hid (Below w.heap.size w w') := by
  have HA := amount_ref s w hs
  unfold amA at HA
  cases hx : numB s with
  | none =>
    have H2 := Lib.hid (show (numR s).isSome = false by unfold numR; rw [hx]; rfl)
    rw [hx] at HA
    have HA := Lib.hid HA
    clear hx
    go_enter Tryd.func24, Tryd.ntmps24
    go_wp2_with fail
    refine HA.out.mono ?_
    rintro e w' ⟨rfl, h9⟩
    obtain rfl := h9.symm
    go_wp2
    go_ret
    exact ⟨by rw [H2.out]; rfl, Lib.hid (Below.refl _ _)⟩
  | some z =>
    rw [hx] at HA
    obtain ⟨-, hlz⟩ := numB_text hx
    have hl5 : (Lib.decDigits (p2 512)).length ≤ 160 := dec_len_le (k := 160) (Nat.lt_of_le_of_lt p2_160 (by decide)) (by decide)
    have H2 := Lib.hid (show (numR s).isSome = decide (z.natAbs < p2 512) by
      unfold numR
      rw [hx]
      simp only
      by_cases hw : z.natAbs < p2 512
      · rw [nw hw]; simp [hw]
      · have : wideB z.natAbs = true := by unfold wideB; simp; omega
        rw [this]; simp [hw])
    have HB : Hid (∀ w1, Calls Tryd.prog 40 #[.string ⟨(Lib.decDigits z.natAbs).toArray⟩, .string ⟨(Lib.decDigits (p2 512)).toArray⟩] w1 fun e w' => e = .returned (.bool (decide (z.natAbs < p2 512))) ∧ w1 = w') := Lib.hid fun w1 => below_any _ _ w1 (by omega) (by omega)
    have HL : Hid (∀ w1, Calls Tryd.prog 41 #[] w1 fun e w' => e = .returned (.string ⟨(Lib.decDigits (p2 512)).toArray⟩) ∧ Hid (Below w1.heap.size w1 w')) := Lib.hid limit_any
    obtain ⟨A, hA⟩ : ∃ A, Lib.decDigits z.natAbs = A := ⟨_, rfl⟩
    obtain ⟨B, hB⟩ : ∃ B, Lib.decDigits (p2 512) = B := ⟨_, rfl⟩
    obtain ⟨r, hr⟩ : ∃ r, decide (z.natAbs < p2 512) = r := ⟨_, rfl⟩
    obtain ⟨m, hm⟩ : ∃ m, decide (z < 0) = m := ⟨_, rfl⟩
    simp only [hA, hB, hr, hm] at HA HB HL H2
    have HA := Lib.hid HA
    clear hx hA hB hr hm hlz hl5
    go_enter Tryd.func24, Tryd.ntmps24
    go_wp2_with fail
    refine HA.out.mono ?_
    rintro e w' ⟨rfl, h9⟩
    obtain rfl := h9.symm
    go_wp2_with fail
    refine (HL.out _).mono ?_
    rintro e w2 ⟨rfl, hw2⟩
    go_wp2_with fail
    refine (HB.out w2).mono ?_
    rintro e w3 ⟨rfl, h9⟩
    obtain rfl := h9
    go_wp2
    go_ret
    exact ⟨by rw [H2.out]; rfl, hw2⟩
end Go.Proofs.YteiipiomcbohnaaDoor.Ten
