/-
  BigLaws, walked.
-/
import Derived.Test.YteiipiomcbohnaaDoorBgLa
namespace Go.Proofs.YteiipiomcbohnaaDoor
set_option linter.unusedSimpArgs false
set_option linter.unusedVariables false
open Go.RowKit

set_option maxRecDepth 100000 in
set_option maxHeartbeats 16000000 in
theorem laws_long0 (A B C : List UInt8) (w : World) (hA : 70 < A.length) : Calls Tryd.prog 6 #[.string ⟨A.toArray⟩, .string ⟨B.toArray⟩, .string ⟨C.toArray⟩] w (Good w) := by
  go_enter Tryd.func6, Tryd.ntmps6
  go_wp2
  go_ret
  exact ⟨rfl, Below.refl _ _⟩
set_option maxRecDepth 100000 in
set_option maxHeartbeats 16000000 in
theorem laws_long1 (A B C : List UInt8) (w : World) (hA : A.length ≤ 70) (hB : 70 < B.length) : Calls Tryd.prog 6 #[.string ⟨A.toArray⟩, .string ⟨B.toArray⟩, .string ⟨C.toArray⟩] w (Good w) := by
  go_enter Tryd.func6, Tryd.ntmps6
  go_wp2
  go_ret
  exact ⟨rfl, Below.refl _ _⟩
set_option maxRecDepth 100000 in
set_option maxHeartbeats 16000000 in
theorem laws_long2 (A B C : List UInt8) (w : World) (hA : A.length ≤ 70) (hB : B.length ≤ 70) (hC : 70 < C.length) : Calls Tryd.prog 6 #[.string ⟨A.toArray⟩, .string ⟨B.toArray⟩, .string ⟨C.toArray⟩] w (Good w) := by
  go_enter Tryd.func6, Tryd.ntmps6
  go_wp2
  go_ret
  exact ⟨rfl, Below.refl _ _⟩
set_option maxRecDepth 100000 in
set_option maxHeartbeats 16000000 in
theorem laws_no0 (A B C : List UInt8) (w : World) (HT : Hid (Tab w)) (hA : A.length ≤ 70) (hB : B.length ≤ 70) (hC : C.length ≤ 70) (HFA : Hid (Fit A)) (HFB : Hid (Fit B)) (HFC : Hid (Fit C)) (HRA : Hid ((numR A).isSome = false)) : Calls Tryd.prog 6 #[.string ⟨A.toArray⟩, .string ⟨B.toArray⟩, .string ⟨C.toArray⟩] w (Good w) := by
  go_enter Tryd.func6, Tryd.ntmps6
  go_wp2_with fail
  refine (right_hid HRA.out w HFA.out).mono ?_
  rintro e w1 ⟨rfl, hw1⟩
  go_wp2_with fail
  refine (awake_any w1 (HT.out.on hw1.out)).mono ?_
  rintro e w2 ⟨rfl, hw2⟩
  go_wp2
  go_ret
  exact ⟨rfl, (bext hw1.out hw2.out)⟩
set_option maxRecDepth 100000 in
set_option maxHeartbeats 16000000 in
theorem laws_no1 (A B C : List UInt8) (w : World) (HT : Hid (Tab w)) (hA : A.length ≤ 70) (hB : B.length ≤ 70) (hC : C.length ≤ 70) (HFA : Hid (Fit A)) (HFB : Hid (Fit B)) (HFC : Hid (Fit C)) (HRA : Hid ((numR A).isSome = true)) (HRB : Hid ((numR B).isSome = false)) : Calls Tryd.prog 6 #[.string ⟨A.toArray⟩, .string ⟨B.toArray⟩, .string ⟨C.toArray⟩] w (Good w) := by
  go_enter Tryd.func6, Tryd.ntmps6
  go_wp2_with fail
  refine (right_hid HRA.out w HFA.out).mono ?_
  rintro e w1 ⟨rfl, hw1⟩
  go_wp2_with fail
  refine (right_hid HRB.out w1 HFB.out).mono ?_
  rintro e w2 ⟨rfl, hw2⟩
  go_wp2_with fail
  refine (awake_any w2 ((HT.out.on hw1.out).on hw2.out)).mono ?_
  rintro e w3 ⟨rfl, hw3⟩
  go_wp2
  go_ret
  exact ⟨rfl, (bext (bext hw1.out hw2.out) hw3.out)⟩
set_option maxRecDepth 100000 in
set_option maxHeartbeats 16000000 in
theorem laws_no2 (A B C : List UInt8) (w : World) (HT : Hid (Tab w)) (hA : A.length ≤ 70) (hB : B.length ≤ 70) (hC : C.length ≤ 70) (HFA : Hid (Fit A)) (HFB : Hid (Fit B)) (HFC : Hid (Fit C)) (HRA : Hid ((numR A).isSome = true)) (HRB : Hid ((numR B).isSome = true)) (HRC : Hid ((numR C).isSome = false)) : Calls Tryd.prog 6 #[.string ⟨A.toArray⟩, .string ⟨B.toArray⟩, .string ⟨C.toArray⟩] w (Good w) := by
  go_enter Tryd.func6, Tryd.ntmps6
  go_wp2_with fail
  refine (right_hid HRA.out w HFA.out).mono ?_
  rintro e w1 ⟨rfl, hw1⟩
  go_wp2_with fail
  refine (right_hid HRB.out w1 HFB.out).mono ?_
  rintro e w2 ⟨rfl, hw2⟩
  go_wp2_with fail
  refine (right_hid HRC.out w2 HFC.out).mono ?_
  rintro e w3 ⟨rfl, hw3⟩
  go_wp2_with fail
  refine (awake_any w3 (((HT.out.on hw1.out).on hw2.out).on hw3.out)).mono ?_
  rintro e w4 ⟨rfl, hw4⟩
  go_wp2
  go_ret
  exact ⟨rfl, (bext (bext (bext hw1.out hw2.out) hw3.out) hw4.out)⟩
set_option maxRecDepth 100000 in
set_option maxHeartbeats 16000000 in
theorem laws_ok0 (A C S P X Y Z : List UInt8) (w : World) (HT : Hid (Tab w)) (hA : A.length ≤ 70) (hC : C.length ≤ 70) (HFA : Hid (Fit A)) (HFB : Hid (Fit [48])) (HFC : Hid (Fit C)) (HRA : Hid ((numR A).isSome = true)) (HRB : Hid ((numR [48]).isSome = true)) (HRC : Hid ((numR C).isSome = true))
    (H1 : Hid (Op2 12 A [48] S 0)) (H2 : Hid (Op2 12 [48] A S 0)) (H3 : Hid (Op2 17 S [48] A 0)) (H4 : Hid (Op2 14 A [48] P 0)) (H5 : Hid (Op2 14 [48] A P 0)) (H6 : Hid (Op2 14 S C X 0)) (H7 : Hid (Op2 14 A C Y 0)) (H8 : Hid (Op2 14 [48] C Z 0)) (H9 : Hid (Op2 12 Y Z X 0)) : Calls Tryd.prog 6 #[.string ⟨A.toArray⟩, .string ⟨[48].toArray⟩, .string ⟨C.toArray⟩] w (Good w) := by
  go_enter Tryd.func6, Tryd.ntmps6
  go_wp2_with fail
  refine (right_hid HRA.out w HFA.out).mono ?_
  rintro e w1 ⟨rfl, hw1⟩
  go_wp2_with fail
  refine (right_hid HRB.out w1 HFB.out).mono ?_
  rintro e w2 ⟨rfl, hw2⟩
  go_wp2_with fail
  refine (right_hid HRC.out w2 HFC.out).mono ?_
  rintro e w3 ⟨rfl, hw3⟩
  go_wp2_with fail
  refine (H1.out w3 (((HT.out.on hw1.out).on hw2.out).on hw3.out)).mono ?_
  rintro e w4 ⟨rfl, hw4⟩
  go_wp2_with fail
  refine (H2.out w4 hw4.out.2).mono ?_
  rintro e w5 ⟨rfl, hw5⟩
  go_wp2_with fail
  refine (H3.out w5 hw5.out.2).mono ?_
  rintro e w6 ⟨rfl, hw6⟩
  go_wp2_with fail
  refine (H4.out w6 hw6.out.2).mono ?_
  rintro e w7 ⟨rfl, hw7⟩
  go_wp2_with fail
  refine (H5.out w7 hw7.out.2).mono ?_
  rintro e w8 ⟨rfl, hw8⟩
  go_wp2_with fail
  refine (H6.out w8 hw8.out.2).mono ?_
  rintro e w9 ⟨rfl, hw9⟩
  go_wp2_with fail
  refine (H7.out w9 hw9.out.2).mono ?_
  rintro e w10 ⟨rfl, hw10⟩
  go_wp2_with fail
  refine (H8.out w10 hw10.out.2).mono ?_
  rintro e w11 ⟨rfl, hw11⟩
  go_wp2_with fail
  refine (H9.out w11 hw11.out.2).mono ?_
  rintro e w12 ⟨rfl, hw12⟩
  go_wp2_with fail
  refine (awake_any w12 hw12.out.2).mono ?_
  rintro e w13 ⟨rfl, hw13⟩
  go_wp2
  go_ret
  exact ⟨rfl, (bext (bext (bext (bext (bext (bext (bext (bext (bext (bext (bext (bext hw1.out hw2.out) hw3.out) hw4.out.1) hw5.out.1) hw6.out.1) hw7.out.1) hw8.out.1) hw9.out.1) hw10.out.1) hw11.out.1) hw12.out.1) hw13.out)⟩
set_option maxRecDepth 100000 in
set_option maxHeartbeats 16000000 in
theorem laws_ok1 (A B C S P X Y Z D R V : List UInt8) (w : World) (HT : Hid (Tab w)) (hA : A.length ≤ 70) (hB : B.length ≤ 70) (hC : C.length ≤ 70) (hb : (B == [48]) = false) (HFA : Hid (Fit A)) (HFB : Hid (Fit B)) (HFC : Hid (Fit C)) (HRA : Hid ((numR A).isSome = true)) (HRB : Hid ((numR B).isSome = true)) (HRC : Hid ((numR C).isSome = true))
    (H1 : Hid (Op2 12 A B S 0)) (H2 : Hid (Op2 12 B A S 0)) (H3 : Hid (Op2 17 S B A 0)) (H4 : Hid (Op2 14 A B P 0)) (H5 : Hid (Op2 14 B A P 0)) (H6 : Hid (Op2 14 S C X 0)) (H7 : Hid (Op2 14 A C Y 0)) (H8 : Hid (Op2 14 B C Z 0)) (H9 : Hid (Op2 12 Y Z X 0)) (H10 : Hid (Op2 15 A B D 0)) (H11 : Hid (Op2 16 A B R 0)) (H12 : Hid (Op2 14 D B V 0)) (H13 : Hid (Op2 12 V R A 0)) : Calls Tryd.prog 6 #[.string ⟨A.toArray⟩, .string ⟨B.toArray⟩, .string ⟨C.toArray⟩] w (Good w) := by
  go_enter Tryd.func6, Tryd.ntmps6
  go_wp2_with fail
  refine (right_hid HRA.out w HFA.out).mono ?_
  rintro e w1 ⟨rfl, hw1⟩
  go_wp2_with fail
  refine (right_hid HRB.out w1 HFB.out).mono ?_
  rintro e w2 ⟨rfl, hw2⟩
  go_wp2_with fail
  refine (right_hid HRC.out w2 HFC.out).mono ?_
  rintro e w3 ⟨rfl, hw3⟩
  go_wp2_with fail
  refine (H1.out w3 (((HT.out.on hw1.out).on hw2.out).on hw3.out)).mono ?_
  rintro e w4 ⟨rfl, hw4⟩
  go_wp2_with fail
  refine (H2.out w4 hw4.out.2).mono ?_
  rintro e w5 ⟨rfl, hw5⟩
  go_wp2_with fail
  refine (H3.out w5 hw5.out.2).mono ?_
  rintro e w6 ⟨rfl, hw6⟩
  go_wp2_with fail
  refine (H4.out w6 hw6.out.2).mono ?_
  rintro e w7 ⟨rfl, hw7⟩
  go_wp2_with fail
  refine (H5.out w7 hw7.out.2).mono ?_
  rintro e w8 ⟨rfl, hw8⟩
  go_wp2_with fail
  refine (H6.out w8 hw8.out.2).mono ?_
  rintro e w9 ⟨rfl, hw9⟩
  go_wp2_with fail
  refine (H7.out w9 hw9.out.2).mono ?_
  rintro e w10 ⟨rfl, hw10⟩
  go_wp2_with fail
  refine (H8.out w10 hw10.out.2).mono ?_
  rintro e w11 ⟨rfl, hw11⟩
  go_wp2_with fail
  refine (H9.out w11 hw11.out.2).mono ?_
  rintro e w12 ⟨rfl, hw12⟩
  go_wp2_with fail
  refine (H10.out w12 hw12.out.2).mono ?_
  rintro e w13 ⟨rfl, hw13⟩
  go_wp2_with fail
  refine (H11.out w13 hw13.out.2).mono ?_
  rintro e w14 ⟨rfl, hw14⟩
  go_wp2_with fail
  refine (H12.out w14 hw14.out.2).mono ?_
  rintro e w15 ⟨rfl, hw15⟩
  go_wp2_with fail
  refine (H13.out w15 hw15.out.2).mono ?_
  rintro e w16 ⟨rfl, hw16⟩
  go_wp2_with fail
  refine (awake_any w16 hw16.out.2).mono ?_
  rintro e w17 ⟨rfl, hw17⟩
  go_wp2
  go_ret
  exact ⟨rfl, (bext (bext (bext (bext (bext (bext (bext (bext (bext (bext (bext (bext (bext (bext (bext (bext hw1.out hw2.out) hw3.out) hw4.out.1) hw5.out.1) hw6.out.1) hw7.out.1) hw8.out.1) hw9.out.1) hw10.out.1) hw11.out.1) hw12.out.1) hw13.out.1) hw14.out.1) hw15.out.1) hw16.out.1) hw17.out)⟩

theorem laws_law (A B C : List UInt8) (w : World) (hT : Tab w) (fA : Fit A) (fB : Fit B) (fC : Fit C) : Calls Tryd.prog 6 #[.string ⟨A.toArray⟩, .string ⟨B.toArray⟩, .string ⟨C.toArray⟩] w (Good w) := by
  have HT := Lib.hid hT
  have HFA := Lib.hid fA
  have HFB := Lib.hid fB
  have HFC := Lib.hid fC
  by_cases hA : A.length ≤ 70
  · by_cases hB : B.length ≤ 70
    · by_cases hC : C.length ≤ 70
      · cases hx : numR A with
        | none => exact laws_no0 A B C w HT hA hB hC HFA HFB HFC (Lib.hid (isSome_false hx))
        | some x =>
          cases hy : numR B with
          | none => exact laws_no1 A B C w HT hA hB hC HFA HFB HFC (Lib.hid (isSome_true hx)) (Lib.hid (isSome_false hy))
          | some y =>
            cases hz : numR C with
            | none => exact laws_no2 A B C w HT hA hB hC HFA HFB HFC (Lib.hid (isSome_true hx)) (Lib.hid (isSome_true hy)) (Lib.hid (isSome_false hz))
            | some z =>
              obtain ⟨S, P, X, Y, Z, ⟨fS, fY, fZ⟩, e1, e2, e3, e4, e5, e6, e7, e8, e9⟩ := laws_plain hx hy hz hA hB hC
              have k1 := Lib.hid (op_Sum e1 fA fB)
              have k2 := Lib.hid (op_Sum e2 fB fA)
              have k3 := Lib.hid (op_Less e3 fS fB)
              have k4 := Lib.hid (op_Times e4 fA fB)
              have k5 := Lib.hid (op_Times e5 fB fA)
              have k6 := Lib.hid (op_Times e6 fS fC)
              have k7 := Lib.hid (op_Times e7 fA fC)
              have k8 := Lib.hid (op_Times e8 fB fC)
              have k9 := Lib.hid (op_Sum e9 fY fZ)
              by_cases h0 : y = 0
              · obtain rfl := (is_nought hy).1 h0
                exact laws_ok0 A C S P X Y Z w HT hA hC HFA HFB HFC (Lib.hid (isSome_true hx)) (Lib.hid (isSome_true hy)) (Lib.hid (isSome_true hz)) k1 k2 k3 k4 k5 k6 k7 k8 k9
              · obtain ⟨D, R, V, ⟨fD, fR, fV⟩, d1, d2, d3, d4⟩ := laws_div hx hy h0
                have k10 := Lib.hid (op_Quotient d1 fA fB)
                have k11 := Lib.hid (op_Rest d2 fA fB)
                have k12 := Lib.hid (op_Times d3 fD fB)
                have k13 := Lib.hid (op_Sum d4 fV fR)
                exact laws_ok1 A B C S P X Y Z D R V w HT hA hB hC ((is_nought hy).2 h0) HFA HFB HFC (Lib.hid (isSome_true hx)) (Lib.hid (isSome_true hy)) (Lib.hid (isSome_true hz)) k1 k2 k3 k4 k5 k6 k7 k8 k9 k10 k11 k12 k13
      · exact laws_long2 A B C w hA hB (by omega)
    · exact laws_long1 A B C w hA (by omega)
  · exact laws_long0 A B C w (by omega)
end Go.Proofs.YteiipiomcbohnaaDoor
