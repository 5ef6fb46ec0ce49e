/-
  BigSigns, BigOrders, BigLaws, walked.
-/
import Derived.Test.YteiipiomcbohnaaDoorBgW
namespace Go.Proofs.YteiipiomcbohnaaDoor
set_option linter.unusedSimpArgs false
set_option linter.unusedVariables false
open Go.RowKit

theorem isSome_false {s : List UInt8} (h : numR s = none) : (numR s).isSome = false := by rw [h]; rfl
theorem isSome_true {s : List UInt8} {z : Int} (h : numR s = some z) : (numR s).isSome = true := by rw [h]; rfl
theorem fit_48 : Fit [48] := by simp [Fit]
theorem fit_49 : Fit [49] := by simp [Fit]
theorem fit_m1 : Fit [45, 49] := by simp [Fit]

set_option maxRecDepth 100000 in
set_option maxHeartbeats 4000000 in
theorem signs_law (A : List UInt8) (w : World) (hT : Tab w) (hA : Fit A) : Calls Tryd.prog 7 #[.string ⟨A.toArray⟩] w (Good w) := by
  have HT := Lib.hid hT
  have HFA := Lib.hid hA
  clear hT
  cases hx : numR A with
  | none =>
    have HRA := Lib.hid (isSome_false hx)
    have HS := Lib.hid (op_Sum (s := A) (t := [48]) (r := []) (k := 1) (resD_none (.inl hx)) hA fit_48)
    clear hx hA
    go_enter Tryd.func7, Tryd.ntmps7
    go_wp2_with fail
    refine (right_hid HRA.out w HFA.out).mono ?_
    rintro e w1 ⟨rfl, hw1⟩
    go_wp2_with fail
    refine (HS.out w1 (HT.out.on hw1.out)).mono ?_
    rintro e w2 ⟨rfl, hw2⟩
    go_wp2_with fail
    refine (awake_any w2 hw2.out.2).mono ?_
    rintro e w3 ⟨rfl, hw3⟩
    go_wp2
    go_ret
    exact ⟨rfl, (bext (bext hw1.out hw2.out.1) hw3.out)⟩
  | some x =>
    obtain ⟨hAe, hwx, -⟩ := numR_text hx
    have hwn : wideB (0 - x).natAbs = false := by rw [show (0 - x).natAbs = x.natAbs by omega]; exact hwx
    have hN := numR_itoa hwn
    have fN := fit_itoa hwn
    have HRA := Lib.hid (isSome_true hx)
    have e1 : lessT [48] A = (Lib.itoa (0 - x), 0) := resD_ok numR_0 hx rfl hwn
    have e2 : lessT [48] (Lib.itoa (0 - x)) = (A, 0) := by
      have := resD_ok (F := fun x y => some (x - y)) numR_0 hN rfl (by rw [show (0 - (0 - x)).natAbs = x.natAbs by omega]; exact hwx)
      rw [show 0 - (0 - x) = x by omega, ← hAe] at this
      exact this
    have e3 : timesT [45, 49] A = (Lib.itoa (0 - x), 0) := by
      have := resD_ok (F := fun x y => some (x * y)) numR_m1 hx rfl (by rw [show (-1 * x).natAbs = x.natAbs by omega]; exact hwx)
      rw [show -1 * x = 0 - x by omega] at this
      exact this
    have e4 : timesT [48] A = ([48], 0) := by
      have := resD_ok (F := fun x y => some (x * y)) numR_0 hx rfl (by rw [Int.zero_mul]; exact wide_0)
      rw [Int.zero_mul, itoa_0] at this
      exact this
    have e5 : timesT [49] A = (A, 0) := by
      have := resD_ok (F := fun x y => some (x * y)) numR_1 hx rfl (by rw [Int.one_mul]; exact hwx)
      rw [Int.one_mul, ← hAe] at this
      exact this
    have e6 : sumT A (Lib.itoa (0 - x)) = ([48], 0) := by
      have := resD_ok (F := fun x y => some (x + y)) hx hN rfl (by rw [show x + (0 - x) = 0 by omega]; exact wide_0)
      rw [show x + (0 - x) = 0 by omega, itoa_0] at this
      exact this
    obtain ⟨N, hNe⟩ : ∃ N, Lib.itoa (0 - x) = N := ⟨_, rfl⟩
    rw [hNe] at e1 e2 e3 e6 fN
    have H1 := Lib.hid (op_Less e1 fit_48 hA)
    have H2 := Lib.hid (op_Less e2 fit_48 fN)
    have H3 := Lib.hid (op_Times e3 fit_m1 hA)
    have H4 := Lib.hid (op_Times e4 fit_48 hA)
    have H5 := Lib.hid (op_Times e5 fit_49 hA)
    have H6 := Lib.hid (op_Sum e6 hA fN)
    clear e1 e2 e3 e4 e5 e6 hx hAe hwx hwn hN fN hNe hA
    go_enter Tryd.func7, Tryd.ntmps7
    go_wp2_with fail
    refine (right_hid HRA.out w HFA.out).mono ?_
    rintro e w1 ⟨rfl, hw1⟩
    go_wp2_with fail
    refine (H1.out w1 (HT.out.on hw1.out)).mono ?_
    rintro e w2 ⟨rfl, hw2⟩
    go_wp2_with fail
    refine (H2.out w2 hw2.out.2).mono ?_
    rintro e w3 ⟨rfl, hw3⟩
    go_wp2_with fail
    refine (H3.out w3 hw3.out.2).mono ?_
    rintro e w4 ⟨rfl, hw4⟩
    go_wp2_with fail
    refine (H4.out w4 hw4.out.2).mono ?_
    rintro e w5 ⟨rfl, hw5⟩
    go_wp2_with fail
    refine (H5.out w5 hw5.out.2).mono ?_
    rintro e w6 ⟨rfl, hw6⟩
    go_wp2_with fail
    refine (H6.out w6 hw6.out.2).mono ?_
    rintro e w7 ⟨rfl, hw7⟩
    go_wp2_with fail
    refine (awake_any w7 hw7.out.2).mono ?_
    rintro e w8 ⟨rfl, hw8⟩
    go_wp2
    go_ret
    exact ⟨rfl, (bext (bext (bext (bext (bext (bext (bext hw1.out hw2.out.1) hw3.out.1) hw4.out.1) hw5.out.1) hw6.out.1) hw7.out.1) hw8.out)⟩
end Go.Proofs.YteiipiomcbohnaaDoor
