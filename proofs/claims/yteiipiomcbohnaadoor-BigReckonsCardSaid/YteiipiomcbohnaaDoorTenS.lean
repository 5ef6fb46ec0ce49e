/-
  BigReckons, walked.
-/
import Derived.Test.YteiipiomcbohnaaDoorTenR
namespace Go.Proofs.YteiipiomcbohnaaDoor.Ten
set_option linter.unusedSimpArgs false
set_option linter.unusedVariables false
open Go.RowKit

set_option maxRecDepth 100000 in
theorem told_any (op a b r : List UInt8) (k : Int) (h : Hid (Gr 35 #[.string ⟨op.toArray⟩, .string ⟨a.toArray⟩, .string ⟨b.toArray⟩] (.tuple #[.string ⟨r.toArray⟩, .int .i64 k]))) :
    Hid (Gr 18 #[.string ⟨r.toArray⟩, .int .i64 k, .string ⟨op.toArray⟩, .string ⟨a.toArray⟩, .string ⟨b.toArray⟩] (.bool true)) := by
  refine Lib.hid ?_
  intro w
  go_enter Tryd.func18, Tryd.ntmps18
  go_wp2_with fail
  refine (h.out w).mono ?_
  rintro e w1 ⟨rfl, h1⟩
  go_wp2
  go_ret
  exact ⟨by simp, h1⟩
set_option maxRecDepth 100000 in
set_option maxHeartbeats 4000000 in
theorem reckons_in (A B : List UInt8) (w : World) (hT : Tab w) (hA : A.length ≤ 200) (hB : B.length ≤ 200) : Calls Tryd.prog 5 #[.string ⟨A.toArray⟩, .string ⟨B.toArray⟩] w (Good w) := by
  have HT := Lib.hid hT
  have fA : Fit A := by unfold Fit; omega
  have fB : Fit B := by unfold Fit; omega
  have T1 := Lib.hid (gr_add A B (by omega) (by omega))
  have T2 := Lib.hid (gr_sub A B (by omega) (by omega))
  have T3 := Lib.hid (gr_mul A B (by omega) (by omega))
  have T4 := Lib.hid (gr_quo A B (by omega) (by omega))
  have T5 := Lib.hid (gr_rem A B (by omega) (by omega))
  obtain ⟨⟨r1, k1⟩, e1⟩ : ∃ v, sumT A B = v := ⟨_, rfl⟩
  obtain ⟨⟨r2, k2⟩, e2⟩ : ∃ v, lessT A B = v := ⟨_, rfl⟩
  obtain ⟨⟨r3, k3⟩, e3⟩ : ∃ v, timesT A B = v := ⟨_, rfl⟩
  obtain ⟨⟨r4, k4⟩, e4⟩ : ∃ v, quotT A B = v := ⟨_, rfl⟩
  obtain ⟨⟨r5, k5⟩, e5⟩ : ∃ v, restT A B = v := ⟨_, rfl⟩
  rw [e1] at T1
  rw [e2] at T2
  rw [e3] at T3
  rw [e4] at T4
  rw [e5] at T5
  have G1 := told_any _ _ _ _ _ T1
  have G2 := told_any _ _ _ _ _ T2
  have G3 := told_any _ _ _ _ _ T3
  have G4 := told_any _ _ _ _ _ T4
  have G5 := told_any _ _ _ _ _ T5
  have H1 := Lib.hid (op_Sum e1 fA fB)
  have H2 := Lib.hid (op_Less e2 fA fB)
  have H3 := Lib.hid (op_Times e3 fA fB)
  have H4 := Lib.hid (op_Quotient e4 fA fB)
  have H5 := Lib.hid (op_Rest e5 fA fB)
  clear e1 e2 e3 e4 e5 fA fB T1 T2 T3 T4 T5 hT
  go_enter Tryd.func5, Tryd.ntmps5
  go_wp2_with fail
  refine (H1.out w HT.out).mono ?_
  rintro e w1 ⟨rfl, hw1⟩
  go_wp2_with fail
  refine (H2.out w1 hw1.out.2).mono ?_
  rintro e w2 ⟨rfl, hw2⟩
  go_wp2_with fail
  refine (H3.out w2 hw2.out.2).mono ?_
  rintro e w3 ⟨rfl, hw3⟩
  go_wp2_with fail
  refine (H4.out w3 hw3.out.2).mono ?_
  rintro e w4 ⟨rfl, hw4⟩
  go_wp2_with fail
  refine (H5.out w4 hw4.out.2).mono ?_
  rintro e w5 ⟨rfl, hw5⟩
  go_wp2_with fail
  refine (G1.out w5).mono ?_
  rintro e w6 ⟨rfl, hw6⟩
  go_wp2_with fail
  refine (G2.out w6).mono ?_
  rintro e w7 ⟨rfl, hw7⟩
  go_wp2_with fail
  refine (G3.out w7).mono ?_
  rintro e w8 ⟨rfl, hw8⟩
  go_wp2_with fail
  refine (G4.out w8).mono ?_
  rintro e w9 ⟨rfl, hw9⟩
  go_wp2_with fail
  refine (G5.out w9).mono ?_
  rintro e w10 ⟨rfl, hw10⟩
  go_wp2_with fail
  refine (awake_any w10 (((((hw5.out.2.on hw6.out).on hw7.out).on hw8.out).on hw9.out).on hw10.out)).mono ?_
  rintro e w11 ⟨rfl, hw11⟩
  go_wp2
  go_ret
  exact ⟨rfl, bext (bext (bext (bext (bext (bext (bext (bext (bext (bext hw1.out.1 hw2.out.1) hw3.out.1) hw4.out.1) hw5.out.1) hw6.out) hw7.out) hw8.out) hw9.out) hw10.out) hw11.out⟩
set_option maxRecDepth 100000 in
set_option maxHeartbeats 4000000 in
theorem reckons_law (A B : List UInt8) (w : World) (hT : Tab w) (hA : Fit A) (hB : Fit B) : Calls Tryd.prog 5 #[.string ⟨A.toArray⟩, .string ⟨B.toArray⟩] w (Good w) := by
  unfold Fit at hA hB
  by_cases h1 : 200 < (A.length : Int)
  · go_enter Tryd.func5, Tryd.ntmps5
    go_wp2
    go_ret
    exact ⟨rfl, Below.refl _ _⟩
  · by_cases h2 : 200 < (B.length : Int)
    · go_enter Tryd.func5, Tryd.ntmps5
      go_wp2
      go_ret
      exact ⟨rfl, Below.refl _ _⟩
    · exact reckons_in A B w hT (by omega) (by omega)
end Go.Proofs.YteiipiomcbohnaaDoor.Ten
