/-
  BigOrders, walked.
-/
import Derived.Test.YteiipiomcbohnaaDoorBgX
namespace Go.Proofs.YteiipiomcbohnaaDoor
set_option linter.unusedSimpArgs false
set_option linter.unusedVariables false
open Go.RowKit

def Cmp2 (s t : List UInt8) (k : Int) : Prop :=
  ∀ w, Calls Tryd.prog 20 #[.string ⟨s.toArray⟩, .string ⟨t.toArray⟩] w fun e w' => e = .returned (.int .i64 k) ∧ Hid (Below w.heap.size w w')
theorem cmp2_of {s t : List UInt8} {k : Int} (h : cmpT s t = k) (hs : Fit s) (ht : Fit t) : Cmp2 s t k := fun w =>
  (compare_any s t w hs ht).mono fun e w' hd => by
    rw [h] at hd
    exact ⟨hd.1, Lib.hid hd.2⟩
def Rt (s : List UInt8) (b : Bool) : Prop := (numR s).isSome = b
theorem ba_ne {A B : List UInt8} (h : A ≠ B) : ¬ (⟨A.toArray⟩ : ByteArray) = ⟨B.toArray⟩ := fun e => h (by injection e with e; injection e)

set_option maxRecDepth 100000 in
set_option maxHeartbeats 4000000 in
theorem ord_mmm (A B C : List UInt8) (w : World) (HT : Hid (Tab w)) (hne : A ≠ B) (HFA : Hid (Fit A)) (HFB : Hid (Fit B)) (HFC : Hid (Fit C)) (HRA : Hid ((numR A).isSome = true)) (HRB : Hid ((numR B).isSome = true)) (HRC : Hid ((numR C).isSome = true))
    (H1 : Hid (Cmp2 A B (-1))) (H2 : Hid (Cmp2 B C (-1))) (H3 : Hid (Cmp2 A C (-1))) (H4 : Hid (Cmp2 B A 1)) : Calls Tryd.prog 8 #[.string ⟨A.toArray⟩, .string ⟨B.toArray⟩, .string ⟨C.toArray⟩] w (Good w) := by
  have hb : (A == B) = false := by simpa using hne
  clear hne
  go_enter Tryd.func8, Tryd.ntmps8
  go_wp2_with fail
  refine (right_hid HRA.out w HFA.out).mono ?_
  rintro e w1 ⟨rfl, hw1⟩
  go_wp2_with fail
  refine (right_hid HRB.out w1 HFB.out).mono ?_
  rintro e w2 ⟨rfl, hw2⟩
  go_wp2_with fail
  refine (right_hid HRC.out w2 HFC.out).mono ?_
  rintro e w3 ⟨rfl, hw3⟩
  go_wp2_with fail
  refine (H1.out w3).mono ?_
  rintro e w4 ⟨rfl, hw4⟩
  go_wp2_with fail
  refine (H2.out w4).mono ?_
  rintro e w5 ⟨rfl, hw5⟩
  go_wp2_with fail
  refine (H3.out w5).mono ?_
  rintro e w6 ⟨rfl, hw6⟩
  go_wp2_with fail
  refine (H4.out w6).mono ?_
  rintro e w7 ⟨rfl, hw7⟩
  go_wp2_with fail
  refine (awake_any w7 (((((((HT.out.on hw1.out).on hw2.out).on hw3.out).on hw4.out).on hw5.out).on hw6.out).on hw7.out)).mono ?_
  rintro e w8 ⟨rfl, hw8⟩
  go_wp2
  go_ret
  exact ⟨rfl, (bext (bext (bext (bext (bext (bext (bext hw1.out hw2.out) hw3.out) hw4.out) hw5.out) hw6.out) hw7.out) hw8.out)⟩
set_option maxRecDepth 100000 in
set_option maxHeartbeats 4000000 in
theorem ord_mzm (A B C : List UInt8) (w : World) (HT : Hid (Tab w)) (hne : A ≠ B) (HFA : Hid (Fit A)) (HFB : Hid (Fit B)) (HFC : Hid (Fit C)) (HRA : Hid ((numR A).isSome = true)) (HRB : Hid ((numR B).isSome = true)) (HRC : Hid ((numR C).isSome = true))
    (H1 : Hid (Cmp2 A B (-1))) (H2 : Hid (Cmp2 B C 0)) (H3 : Hid (Cmp2 A C (-1))) (H4 : Hid (Cmp2 B A 1)) : Calls Tryd.prog 8 #[.string ⟨A.toArray⟩, .string ⟨B.toArray⟩, .string ⟨C.toArray⟩] w (Good w) := by
  have hb : (A == B) = false := by simpa using hne
  clear hne
  go_enter Tryd.func8, Tryd.ntmps8
  go_wp2_with fail
  refine (right_hid HRA.out w HFA.out).mono ?_
  rintro e w1 ⟨rfl, hw1⟩
  go_wp2_with fail
  refine (right_hid HRB.out w1 HFB.out).mono ?_
  rintro e w2 ⟨rfl, hw2⟩
  go_wp2_with fail
  refine (right_hid HRC.out w2 HFC.out).mono ?_
  rintro e w3 ⟨rfl, hw3⟩
  go_wp2_with fail
  refine (H1.out w3).mono ?_
  rintro e w4 ⟨rfl, hw4⟩
  go_wp2_with fail
  refine (H2.out w4).mono ?_
  rintro e w5 ⟨rfl, hw5⟩
  go_wp2_with fail
  refine (H3.out w5).mono ?_
  rintro e w6 ⟨rfl, hw6⟩
  go_wp2_with fail
  refine (H4.out w6).mono ?_
  rintro e w7 ⟨rfl, hw7⟩
  go_wp2_with fail
  refine (awake_any w7 (((((((HT.out.on hw1.out).on hw2.out).on hw3.out).on hw4.out).on hw5.out).on hw6.out).on hw7.out)).mono ?_
  rintro e w8 ⟨rfl, hw8⟩
  go_wp2
  go_ret
  exact ⟨rfl, (bext (bext (bext (bext (bext (bext (bext hw1.out hw2.out) hw3.out) hw4.out) hw5.out) hw6.out) hw7.out) hw8.out)⟩
set_option maxRecDepth 100000 in
set_option maxHeartbeats 4000000 in
theorem ord_mpm (A B C : List UInt8) (w : World) (HT : Hid (Tab w)) (hne : A ≠ B) (HFA : Hid (Fit A)) (HFB : Hid (Fit B)) (HFC : Hid (Fit C)) (HRA : Hid ((numR A).isSome = true)) (HRB : Hid ((numR B).isSome = true)) (HRC : Hid ((numR C).isSome = true))
    (H1 : Hid (Cmp2 A B (-1))) (H2 : Hid (Cmp2 B C 1)) (H3 : Hid (Cmp2 A C (-1))) (H4 : Hid (Cmp2 B A 1)) : Calls Tryd.prog 8 #[.string ⟨A.toArray⟩, .string ⟨B.toArray⟩, .string ⟨C.toArray⟩] w (Good w) := by
  have hb : (A == B) = false := by simpa using hne
  clear hne
  go_enter Tryd.func8, Tryd.ntmps8
  go_wp2_with fail
  refine (right_hid HRA.out w HFA.out).mono ?_
  rintro e w1 ⟨rfl, hw1⟩
  go_wp2_with fail
  refine (right_hid HRB.out w1 HFB.out).mono ?_
  rintro e w2 ⟨rfl, hw2⟩
  go_wp2_with fail
  refine (right_hid HRC.out w2 HFC.out).mono ?_
  rintro e w3 ⟨rfl, hw3⟩
  go_wp2_with fail
  refine (H1.out w3).mono ?_
  rintro e w4 ⟨rfl, hw4⟩
  go_wp2_with fail
  refine (H2.out w4).mono ?_
  rintro e w5 ⟨rfl, hw5⟩
  go_wp2_with fail
  refine (H3.out w5).mono ?_
  rintro e w6 ⟨rfl, hw6⟩
  go_wp2_with fail
  refine (H4.out w6).mono ?_
  rintro e w7 ⟨rfl, hw7⟩
  go_wp2_with fail
  refine (awake_any w7 (((((((HT.out.on hw1.out).on hw2.out).on hw3.out).on hw4.out).on hw5.out).on hw6.out).on hw7.out)).mono ?_
  rintro e w8 ⟨rfl, hw8⟩
  go_wp2
  go_ret
  exact ⟨rfl, (bext (bext (bext (bext (bext (bext (bext hw1.out hw2.out) hw3.out) hw4.out) hw5.out) hw6.out) hw7.out) hw8.out)⟩
set_option maxRecDepth 100000 in
set_option maxHeartbeats 4000000 in
theorem ord_mpz (A B C : List UInt8) (w : World) (HT : Hid (Tab w)) (hne : A ≠ B) (HFA : Hid (Fit A)) (HFB : Hid (Fit B)) (HFC : Hid (Fit C)) (HRA : Hid ((numR A).isSome = true)) (HRB : Hid ((numR B).isSome = true)) (HRC : Hid ((numR C).isSome = true))
    (H1 : Hid (Cmp2 A B (-1))) (H2 : Hid (Cmp2 B C 1)) (H3 : Hid (Cmp2 A C 0)) (H4 : Hid (Cmp2 B A 1)) : Calls Tryd.prog 8 #[.string ⟨A.toArray⟩, .string ⟨B.toArray⟩, .string ⟨C.toArray⟩] w (Good w) := by
  have hb : (A == B) = false := by simpa using hne
  clear hne
  go_enter Tryd.func8, Tryd.ntmps8
  go_wp2_with fail
  refine (right_hid HRA.out w HFA.out).mono ?_
  rintro e w1 ⟨rfl, hw1⟩
  go_wp2_with fail
  refine (right_hid HRB.out w1 HFB.out).mono ?_
  rintro e w2 ⟨rfl, hw2⟩
  go_wp2_with fail
  refine (right_hid HRC.out w2 HFC.out).mono ?_
  rintro e w3 ⟨rfl, hw3⟩
  go_wp2_with fail
  refine (H1.out w3).mono ?_
  rintro e w4 ⟨rfl, hw4⟩
  go_wp2_with fail
  refine (H2.out w4).mono ?_
  rintro e w5 ⟨rfl, hw5⟩
  go_wp2_with fail
  refine (H3.out w5).mono ?_
  rintro e w6 ⟨rfl, hw6⟩
  go_wp2_with fail
  refine (H4.out w6).mono ?_
  rintro e w7 ⟨rfl, hw7⟩
  go_wp2_with fail
  refine (awake_any w7 (((((((HT.out.on hw1.out).on hw2.out).on hw3.out).on hw4.out).on hw5.out).on hw6.out).on hw7.out)).mono ?_
  rintro e w8 ⟨rfl, hw8⟩
  go_wp2
  go_ret
  exact ⟨rfl, (bext (bext (bext (bext (bext (bext (bext hw1.out hw2.out) hw3.out) hw4.out) hw5.out) hw6.out) hw7.out) hw8.out)⟩
set_option maxRecDepth 100000 in
set_option maxHeartbeats 4000000 in
theorem ord_mpp (A B C : List UInt8) (w : World) (HT : Hid (Tab w)) (hne : A ≠ B) (HFA : Hid (Fit A)) (HFB : Hid (Fit B)) (HFC : Hid (Fit C)) (HRA : Hid ((numR A).isSome = true)) (HRB : Hid ((numR B).isSome = true)) (HRC : Hid ((numR C).isSome = true))
    (H1 : Hid (Cmp2 A B (-1))) (H2 : Hid (Cmp2 B C 1)) (H3 : Hid (Cmp2 A C 1)) (H4 : Hid (Cmp2 B A 1)) : Calls Tryd.prog 8 #[.string ⟨A.toArray⟩, .string ⟨B.toArray⟩, .string ⟨C.toArray⟩] w (Good w) := by
  have hb : (A == B) = false := by simpa using hne
  clear hne
  go_enter Tryd.func8, Tryd.ntmps8
  go_wp2_with fail
  refine (right_hid HRA.out w HFA.out).mono ?_
  rintro e w1 ⟨rfl, hw1⟩
  go_wp2_with fail
  refine (right_hid HRB.out w1 HFB.out).mono ?_
  rintro e w2 ⟨rfl, hw2⟩
  go_wp2_with fail
  refine (right_hid HRC.out w2 HFC.out).mono ?_
  rintro e w3 ⟨rfl, hw3⟩
  go_wp2_with fail
  refine (H1.out w3).mono ?_
  rintro e w4 ⟨rfl, hw4⟩
  go_wp2_with fail
  refine (H2.out w4).mono ?_
  rintro e w5 ⟨rfl, hw5⟩
  go_wp2_with fail
  refine (H3.out w5).mono ?_
  rintro e w6 ⟨rfl, hw6⟩
  go_wp2_with fail
  refine (H4.out w6).mono ?_
  rintro e w7 ⟨rfl, hw7⟩
  go_wp2_with fail
  refine (awake_any w7 (((((((HT.out.on hw1.out).on hw2.out).on hw3.out).on hw4.out).on hw5.out).on hw6.out).on hw7.out)).mono ?_
  rintro e w8 ⟨rfl, hw8⟩
  go_wp2
  go_ret
  exact ⟨rfl, (bext (bext (bext (bext (bext (bext (bext hw1.out hw2.out) hw3.out) hw4.out) hw5.out) hw6.out) hw7.out) hw8.out)⟩
set_option maxRecDepth 100000 in
set_option maxHeartbeats 4000000 in
theorem ord_zmm (A C : List UInt8) (w : World) (HT : Hid (Tab w)) (HFA : Hid (Fit A)) (HFC : Hid (Fit C)) (HRA : Hid ((numR A).isSome = true)) (HRC : Hid ((numR C).isSome = true))
    (H1 : Hid (Cmp2 A A 0)) (H2 : Hid (Cmp2 A C (-1))) (H3 : Hid (Cmp2 A C (-1))) (H4 : Hid (Cmp2 A A 0)) : Calls Tryd.prog 8 #[.string ⟨A.toArray⟩, .string ⟨A.toArray⟩, .string ⟨C.toArray⟩] w (Good w) := by
  go_enter Tryd.func8, Tryd.ntmps8
  go_wp2_with fail
  refine (right_hid HRA.out w HFA.out).mono ?_
  rintro e w1 ⟨rfl, hw1⟩
  go_wp2_with fail
  refine (right_hid HRA.out w1 HFA.out).mono ?_
  rintro e w2 ⟨rfl, hw2⟩
  go_wp2_with fail
  refine (right_hid HRC.out w2 HFC.out).mono ?_
  rintro e w3 ⟨rfl, hw3⟩
  go_wp2_with fail
  refine (H1.out w3).mono ?_
  rintro e w4 ⟨rfl, hw4⟩
  go_wp2_with fail
  refine (H2.out w4).mono ?_
  rintro e w5 ⟨rfl, hw5⟩
  go_wp2_with fail
  refine (H3.out w5).mono ?_
  rintro e w6 ⟨rfl, hw6⟩
  go_wp2_with fail
  refine (H4.out w6).mono ?_
  rintro e w7 ⟨rfl, hw7⟩
  go_wp2_with fail
  refine (awake_any w7 (((((((HT.out.on hw1.out).on hw2.out).on hw3.out).on hw4.out).on hw5.out).on hw6.out).on hw7.out)).mono ?_
  rintro e w8 ⟨rfl, hw8⟩
  go_wp2
  go_ret
  exact ⟨rfl, (bext (bext (bext (bext (bext (bext (bext hw1.out hw2.out) hw3.out) hw4.out) hw5.out) hw6.out) hw7.out) hw8.out)⟩
set_option maxRecDepth 100000 in
set_option maxHeartbeats 4000000 in
theorem ord_zzz (A C : List UInt8) (w : World) (HT : Hid (Tab w)) (HFA : Hid (Fit A)) (HFC : Hid (Fit C)) (HRA : Hid ((numR A).isSome = true)) (HRC : Hid ((numR C).isSome = true))
    (H1 : Hid (Cmp2 A A 0)) (H2 : Hid (Cmp2 A C 0)) (H3 : Hid (Cmp2 A C 0)) (H4 : Hid (Cmp2 A A 0)) : Calls Tryd.prog 8 #[.string ⟨A.toArray⟩, .string ⟨A.toArray⟩, .string ⟨C.toArray⟩] w (Good w) := by
  go_enter Tryd.func8, Tryd.ntmps8
  go_wp2_with fail
  refine (right_hid HRA.out w HFA.out).mono ?_
  rintro e w1 ⟨rfl, hw1⟩
  go_wp2_with fail
  refine (right_hid HRA.out w1 HFA.out).mono ?_
  rintro e w2 ⟨rfl, hw2⟩
  go_wp2_with fail
  refine (right_hid HRC.out w2 HFC.out).mono ?_
  rintro e w3 ⟨rfl, hw3⟩
  go_wp2_with fail
  refine (H1.out w3).mono ?_
  rintro e w4 ⟨rfl, hw4⟩
  go_wp2_with fail
  refine (H2.out w4).mono ?_
  rintro e w5 ⟨rfl, hw5⟩
  go_wp2_with fail
  refine (H3.out w5).mono ?_
  rintro e w6 ⟨rfl, hw6⟩
  go_wp2_with fail
  refine (H4.out w6).mono ?_
  rintro e w7 ⟨rfl, hw7⟩
  go_wp2_with fail
  refine (awake_any w7 (((((((HT.out.on hw1.out).on hw2.out).on hw3.out).on hw4.out).on hw5.out).on hw6.out).on hw7.out)).mono ?_
  rintro e w8 ⟨rfl, hw8⟩
  go_wp2
  go_ret
  exact ⟨rfl, (bext (bext (bext (bext (bext (bext (bext hw1.out hw2.out) hw3.out) hw4.out) hw5.out) hw6.out) hw7.out) hw8.out)⟩
set_option maxRecDepth 100000 in
set_option maxHeartbeats 4000000 in
theorem ord_zpp (A C : List UInt8) (w : World) (HT : Hid (Tab w)) (HFA : Hid (Fit A)) (HFC : Hid (Fit C)) (HRA : Hid ((numR A).isSome = true)) (HRC : Hid ((numR C).isSome = true))
    (H1 : Hid (Cmp2 A A 0)) (H2 : Hid (Cmp2 A C 1)) (H3 : Hid (Cmp2 A C 1)) (H4 : Hid (Cmp2 A A 0)) : Calls Tryd.prog 8 #[.string ⟨A.toArray⟩, .string ⟨A.toArray⟩, .string ⟨C.toArray⟩] w (Good w) := by
  go_enter Tryd.func8, Tryd.ntmps8
  go_wp2_with fail
  refine (right_hid HRA.out w HFA.out).mono ?_
  rintro e w1 ⟨rfl, hw1⟩
  go_wp2_with fail
  refine (right_hid HRA.out w1 HFA.out).mono ?_
  rintro e w2 ⟨rfl, hw2⟩
  go_wp2_with fail
  refine (right_hid HRC.out w2 HFC.out).mono ?_
  rintro e w3 ⟨rfl, hw3⟩
  go_wp2_with fail
  refine (H1.out w3).mono ?_
  rintro e w4 ⟨rfl, hw4⟩
  go_wp2_with fail
  refine (H2.out w4).mono ?_
  rintro e w5 ⟨rfl, hw5⟩
  go_wp2_with fail
  refine (H3.out w5).mono ?_
  rintro e w6 ⟨rfl, hw6⟩
  go_wp2_with fail
  refine (H4.out w6).mono ?_
  rintro e w7 ⟨rfl, hw7⟩
  go_wp2_with fail
  refine (awake_any w7 (((((((HT.out.on hw1.out).on hw2.out).on hw3.out).on hw4.out).on hw5.out).on hw6.out).on hw7.out)).mono ?_
  rintro e w8 ⟨rfl, hw8⟩
  go_wp2
  go_ret
  exact ⟨rfl, (bext (bext (bext (bext (bext (bext (bext hw1.out hw2.out) hw3.out) hw4.out) hw5.out) hw6.out) hw7.out) hw8.out)⟩
set_option maxRecDepth 100000 in
set_option maxHeartbeats 4000000 in
theorem ord_pmm (A B C : List UInt8) (w : World) (HT : Hid (Tab w)) (hne : A ≠ B) (HFA : Hid (Fit A)) (HFB : Hid (Fit B)) (HFC : Hid (Fit C)) (HRA : Hid ((numR A).isSome = true)) (HRB : Hid ((numR B).isSome = true)) (HRC : Hid ((numR C).isSome = true))
    (H1 : Hid (Cmp2 A B 1)) (H2 : Hid (Cmp2 B C (-1))) (H3 : Hid (Cmp2 A C (-1))) (H4 : Hid (Cmp2 B A (-1))) : Calls Tryd.prog 8 #[.string ⟨A.toArray⟩, .string ⟨B.toArray⟩, .string ⟨C.toArray⟩] w (Good w) := by
  have hb : (A == B) = false := by simpa using hne
  clear hne
  go_enter Tryd.func8, Tryd.ntmps8
  go_wp2_with fail
  refine (right_hid HRA.out w HFA.out).mono ?_
  rintro e w1 ⟨rfl, hw1⟩
  go_wp2_with fail
  refine (right_hid HRB.out w1 HFB.out).mono ?_
  rintro e w2 ⟨rfl, hw2⟩
  go_wp2_with fail
  refine (right_hid HRC.out w2 HFC.out).mono ?_
  rintro e w3 ⟨rfl, hw3⟩
  go_wp2_with fail
  refine (H1.out w3).mono ?_
  rintro e w4 ⟨rfl, hw4⟩
  go_wp2_with fail
  refine (H2.out w4).mono ?_
  rintro e w5 ⟨rfl, hw5⟩
  go_wp2_with fail
  refine (H3.out w5).mono ?_
  rintro e w6 ⟨rfl, hw6⟩
  go_wp2_with fail
  refine (H4.out w6).mono ?_
  rintro e w7 ⟨rfl, hw7⟩
  go_wp2_with fail
  refine (awake_any w7 (((((((HT.out.on hw1.out).on hw2.out).on hw3.out).on hw4.out).on hw5.out).on hw6.out).on hw7.out)).mono ?_
  rintro e w8 ⟨rfl, hw8⟩
  go_wp2
  go_ret
  exact ⟨rfl, (bext (bext (bext (bext (bext (bext (bext hw1.out hw2.out) hw3.out) hw4.out) hw5.out) hw6.out) hw7.out) hw8.out)⟩
set_option maxRecDepth 100000 in
set_option maxHeartbeats 4000000 in
theorem ord_pmz (A B C : List UInt8) (w : World) (HT : Hid (Tab w)) (hne : A ≠ B) (HFA : Hid (Fit A)) (HFB : Hid (Fit B)) (HFC : Hid (Fit C)) (HRA : Hid ((numR A).isSome = true)) (HRB : Hid ((numR B).isSome = true)) (HRC : Hid ((numR C).isSome = true))
    (H1 : Hid (Cmp2 A B 1)) (H2 : Hid (Cmp2 B C (-1))) (H3 : Hid (Cmp2 A C 0)) (H4 : Hid (Cmp2 B A (-1))) : Calls Tryd.prog 8 #[.string ⟨A.toArray⟩, .string ⟨B.toArray⟩, .string ⟨C.toArray⟩] w (Good w) := by
  have hb : (A == B) = false := by simpa using hne
  clear hne
  go_enter Tryd.func8, Tryd.ntmps8
  go_wp2_with fail
  refine (right_hid HRA.out w HFA.out).mono ?_
  rintro e w1 ⟨rfl, hw1⟩
  go_wp2_with fail
  refine (right_hid HRB.out w1 HFB.out).mono ?_
  rintro e w2 ⟨rfl, hw2⟩
  go_wp2_with fail
  refine (right_hid HRC.out w2 HFC.out).mono ?_
  rintro e w3 ⟨rfl, hw3⟩
  go_wp2_with fail
  refine (H1.out w3).mono ?_
  rintro e w4 ⟨rfl, hw4⟩
  go_wp2_with fail
  refine (H2.out w4).mono ?_
  rintro e w5 ⟨rfl, hw5⟩
  go_wp2_with fail
  refine (H3.out w5).mono ?_
  rintro e w6 ⟨rfl, hw6⟩
  go_wp2_with fail
  refine (H4.out w6).mono ?_
  rintro e w7 ⟨rfl, hw7⟩
  go_wp2_with fail
  refine (awake_any w7 (((((((HT.out.on hw1.out).on hw2.out).on hw3.out).on hw4.out).on hw5.out).on hw6.out).on hw7.out)).mono ?_
  rintro e w8 ⟨rfl, hw8⟩
  go_wp2
  go_ret
  exact ⟨rfl, (bext (bext (bext (bext (bext (bext (bext hw1.out hw2.out) hw3.out) hw4.out) hw5.out) hw6.out) hw7.out) hw8.out)⟩
set_option maxRecDepth 100000 in
set_option maxHeartbeats 4000000 in
theorem ord_pmp (A B C : List UInt8) (w : World) (HT : Hid (Tab w)) (hne : A ≠ B) (HFA : Hid (Fit A)) (HFB : Hid (Fit B)) (HFC : Hid (Fit C)) (HRA : Hid ((numR A).isSome = true)) (HRB : Hid ((numR B).isSome = true)) (HRC : Hid ((numR C).isSome = true))
    (H1 : Hid (Cmp2 A B 1)) (H2 : Hid (Cmp2 B C (-1))) (H3 : Hid (Cmp2 A C 1)) (H4 : Hid (Cmp2 B A (-1))) : Calls Tryd.prog 8 #[.string ⟨A.toArray⟩, .string ⟨B.toArray⟩, .string ⟨C.toArray⟩] w (Good w) := by
  have hb : (A == B) = false := by simpa using hne
  clear hne
  go_enter Tryd.func8, Tryd.ntmps8
  go_wp2_with fail
  refine (right_hid HRA.out w HFA.out).mono ?_
  rintro e w1 ⟨rfl, hw1⟩
  go_wp2_with fail
  refine (right_hid HRB.out w1 HFB.out).mono ?_
  rintro e w2 ⟨rfl, hw2⟩
  go_wp2_with fail
  refine (right_hid HRC.out w2 HFC.out).mono ?_
  rintro e w3 ⟨rfl, hw3⟩
  go_wp2_with fail
  refine (H1.out w3).mono ?_
  rintro e w4 ⟨rfl, hw4⟩
  go_wp2_with fail
  refine (H2.out w4).mono ?_
  rintro e w5 ⟨rfl, hw5⟩
  go_wp2_with fail
  refine (H3.out w5).mono ?_
  rintro e w6 ⟨rfl, hw6⟩
  go_wp2_with fail
  refine (H4.out w6).mono ?_
  rintro e w7 ⟨rfl, hw7⟩
  go_wp2_with fail
  refine (awake_any w7 (((((((HT.out.on hw1.out).on hw2.out).on hw3.out).on hw4.out).on hw5.out).on hw6.out).on hw7.out)).mono ?_
  rintro e w8 ⟨rfl, hw8⟩
  go_wp2
  go_ret
  exact ⟨rfl, (bext (bext (bext (bext (bext (bext (bext hw1.out hw2.out) hw3.out) hw4.out) hw5.out) hw6.out) hw7.out) hw8.out)⟩
set_option maxRecDepth 100000 in
set_option maxHeartbeats 4000000 in
theorem ord_pzp (A B C : List UInt8) (w : World) (HT : Hid (Tab w)) (hne : A ≠ B) (HFA : Hid (Fit A)) (HFB : Hid (Fit B)) (HFC : Hid (Fit C)) (HRA : Hid ((numR A).isSome = true)) (HRB : Hid ((numR B).isSome = true)) (HRC : Hid ((numR C).isSome = true))
    (H1 : Hid (Cmp2 A B 1)) (H2 : Hid (Cmp2 B C 0)) (H3 : Hid (Cmp2 A C 1)) (H4 : Hid (Cmp2 B A (-1))) : Calls Tryd.prog 8 #[.string ⟨A.toArray⟩, .string ⟨B.toArray⟩, .string ⟨C.toArray⟩] w (Good w) := by
  have hb : (A == B) = false := by simpa using hne
  clear hne
  go_enter Tryd.func8, Tryd.ntmps8
  go_wp2_with fail
  refine (right_hid HRA.out w HFA.out).mono ?_
  rintro e w1 ⟨rfl, hw1⟩
  go_wp2_with fail
  refine (right_hid HRB.out w1 HFB.out).mono ?_
  rintro e w2 ⟨rfl, hw2⟩
  go_wp2_with fail
  refine (right_hid HRC.out w2 HFC.out).mono ?_
  rintro e w3 ⟨rfl, hw3⟩
  go_wp2_with fail
  refine (H1.out w3).mono ?_
  rintro e w4 ⟨rfl, hw4⟩
  go_wp2_with fail
  refine (H2.out w4).mono ?_
  rintro e w5 ⟨rfl, hw5⟩
  go_wp2_with fail
  refine (H3.out w5).mono ?_
  rintro e w6 ⟨rfl, hw6⟩
  go_wp2_with fail
  refine (H4.out w6).mono ?_
  rintro e w7 ⟨rfl, hw7⟩
  go_wp2_with fail
  refine (awake_any w7 (((((((HT.out.on hw1.out).on hw2.out).on hw3.out).on hw4.out).on hw5.out).on hw6.out).on hw7.out)).mono ?_
  rintro e w8 ⟨rfl, hw8⟩
  go_wp2
  go_ret
  exact ⟨rfl, (bext (bext (bext (bext (bext (bext (bext hw1.out hw2.out) hw3.out) hw4.out) hw5.out) hw6.out) hw7.out) hw8.out)⟩
set_option maxRecDepth 100000 in
set_option maxHeartbeats 4000000 in
theorem ord_ppp (A B C : List UInt8) (w : World) (HT : Hid (Tab w)) (hne : A ≠ B) (HFA : Hid (Fit A)) (HFB : Hid (Fit B)) (HFC : Hid (Fit C)) (HRA : Hid ((numR A).isSome = true)) (HRB : Hid ((numR B).isSome = true)) (HRC : Hid ((numR C).isSome = true))
    (H1 : Hid (Cmp2 A B 1)) (H2 : Hid (Cmp2 B C 1)) (H3 : Hid (Cmp2 A C 1)) (H4 : Hid (Cmp2 B A (-1))) : Calls Tryd.prog 8 #[.string ⟨A.toArray⟩, .string ⟨B.toArray⟩, .string ⟨C.toArray⟩] w (Good w) := by
  have hb : (A == B) = false := by simpa using hne
  clear hne
  go_enter Tryd.func8, Tryd.ntmps8
  go_wp2_with fail
  refine (right_hid HRA.out w HFA.out).mono ?_
  rintro e w1 ⟨rfl, hw1⟩
  go_wp2_with fail
  refine (right_hid HRB.out w1 HFB.out).mono ?_
  rintro e w2 ⟨rfl, hw2⟩
  go_wp2_with fail
  refine (right_hid HRC.out w2 HFC.out).mono ?_
  rintro e w3 ⟨rfl, hw3⟩
  go_wp2_with fail
  refine (H1.out w3).mono ?_
  rintro e w4 ⟨rfl, hw4⟩
  go_wp2_with fail
  refine (H2.out w4).mono ?_
  rintro e w5 ⟨rfl, hw5⟩
  go_wp2_with fail
  refine (H3.out w5).mono ?_
  rintro e w6 ⟨rfl, hw6⟩
  go_wp2_with fail
  refine (H4.out w6).mono ?_
  rintro e w7 ⟨rfl, hw7⟩
  go_wp2_with fail
  refine (awake_any w7 (((((((HT.out.on hw1.out).on hw2.out).on hw3.out).on hw4.out).on hw5.out).on hw6.out).on hw7.out)).mono ?_
  rintro e w8 ⟨rfl, hw8⟩
  go_wp2
  go_ret
  exact ⟨rfl, (bext (bext (bext (bext (bext (bext (bext hw1.out hw2.out) hw3.out) hw4.out) hw5.out) hw6.out) hw7.out) hw8.out)⟩
set_option maxRecDepth 100000 in
set_option maxHeartbeats 4000000 in
theorem ord_no0 (A B C : List UInt8) (w : World) (HT : Hid (Tab w)) (HFA : Hid (Fit A)) (HFB : Hid (Fit B)) (HFC : Hid (Fit C)) (HRA : Hid ((numR A).isSome = false)) :
    Calls Tryd.prog 8 #[.string ⟨A.toArray⟩, .string ⟨B.toArray⟩, .string ⟨C.toArray⟩] w (Good w) := by
  go_enter Tryd.func8, Tryd.ntmps8
  go_wp2_with fail
  refine (right_hid HRA.out w HFA.out).mono ?_
  rintro e w1 ⟨rfl, hw1⟩
  go_wp2_with fail
  refine (awake_any w1 (HT.out.on hw1.out)).mono ?_
  rintro e w2 ⟨rfl, hw2⟩
  go_wp2
  go_ret
  exact ⟨rfl, (bext hw1.out hw2.out)⟩
set_option maxRecDepth 100000 in
set_option maxHeartbeats 4000000 in
theorem ord_no1 (A B C : List UInt8) (w : World) (HT : Hid (Tab w)) (HFA : Hid (Fit A)) (HFB : Hid (Fit B)) (HFC : Hid (Fit C)) (HRA : Hid ((numR A).isSome = true)) (HRB : Hid ((numR B).isSome = false)) :
    Calls Tryd.prog 8 #[.string ⟨A.toArray⟩, .string ⟨B.toArray⟩, .string ⟨C.toArray⟩] w (Good w) := by
  go_enter Tryd.func8, Tryd.ntmps8
  go_wp2_with fail
  refine (right_hid HRA.out w HFA.out).mono ?_
  rintro e w1 ⟨rfl, hw1⟩
  go_wp2_with fail
  refine (right_hid HRB.out w1 HFB.out).mono ?_
  rintro e w2 ⟨rfl, hw2⟩
  go_wp2_with fail
  refine (awake_any w2 ((HT.out.on hw1.out).on hw2.out)).mono ?_
  rintro e w3 ⟨rfl, hw3⟩
  go_wp2
  go_ret
  exact ⟨rfl, (bext (bext hw1.out hw2.out) hw3.out)⟩
set_option maxRecDepth 100000 in
set_option maxHeartbeats 4000000 in
theorem ord_no2 (A B C : List UInt8) (w : World) (HT : Hid (Tab w)) (HFA : Hid (Fit A)) (HFB : Hid (Fit B)) (HFC : Hid (Fit C)) (HRA : Hid ((numR A).isSome = true)) (HRB : Hid ((numR B).isSome = true)) (HRC : Hid ((numR C).isSome = false)) :
    Calls Tryd.prog 8 #[.string ⟨A.toArray⟩, .string ⟨B.toArray⟩, .string ⟨C.toArray⟩] w (Good w) := by
  go_enter Tryd.func8, Tryd.ntmps8
  go_wp2_with fail
  refine (right_hid HRA.out w HFA.out).mono ?_
  rintro e w1 ⟨rfl, hw1⟩
  go_wp2_with fail
  refine (right_hid HRB.out w1 HFB.out).mono ?_
  rintro e w2 ⟨rfl, hw2⟩
  go_wp2_with fail
  refine (right_hid HRC.out w2 HFC.out).mono ?_
  rintro e w3 ⟨rfl, hw3⟩
  go_wp2_with fail
  refine (awake_any w3 (((HT.out.on hw1.out).on hw2.out).on hw3.out)).mono ?_
  rintro e w4 ⟨rfl, hw4⟩
  go_wp2
  go_ret
  exact ⟨rfl, (bext (bext (bext hw1.out hw2.out) hw3.out) hw4.out)⟩

theorem cmp_of {s t : List UInt8} {x y : Int} (h1 : numR s = some x) (h2 : numR t = some y) : cmpT s t = cmpI x y := by unfold cmpT; rw [h1, h2]
theorem cmpI_m {x y : Int} (h : x < y) : cmpI x y = -1 := by unfold cmpI; rw [if_pos h]
theorem cmpI_z {x y : Int} (h : x = y) : cmpI x y = 0 := by unfold cmpI; rw [if_neg (by omega), if_pos h]
theorem cmpI_p {x y : Int} (h : y < x) : cmpI x y = 1 := by unfold cmpI; rw [if_neg (by omega), if_neg (by omega)]
set_option maxRecDepth 100000 in
set_option maxHeartbeats 8000000 in
theorem orders_law (A B C : List UInt8) (w : World) (hT : Tab w) (hA : Fit A) (hB : Fit B) (hC : Fit C) : Calls Tryd.prog 8 #[.string ⟨A.toArray⟩, .string ⟨B.toArray⟩, .string ⟨C.toArray⟩] w (Good w) := by
  have HT := Lib.hid hT
  have HFA := Lib.hid hA
  have HFB := Lib.hid hB
  have HFC := Lib.hid hC
  cases hx : numR A with
  | none => exact ord_no0 A B C w HT HFA HFB HFC (Lib.hid (isSome_false hx))
  | some x =>
    cases hy : numR B with
    | none => exact ord_no1 A B C w HT HFA HFB HFC (Lib.hid (isSome_true hx)) (Lib.hid (isSome_false hy))
    | some y =>
      cases hz : numR C with
      | none => exact ord_no2 A B C w HT HFA HFB HFC (Lib.hid (isSome_true hx)) (Lib.hid (isSome_true hy)) (Lib.hid (isSome_false hz))
      | some z =>
        have HRA := Lib.hid (isSome_true hx)
        have HRB := Lib.hid (isSome_true hy)
        have HRC := Lib.hid (isSome_true hz)
        have eq : x = y → A = B := fun h => by rw [(numR_text hx).1, (numR_text hy).1, h]
        have eq2 : ¬ x = y → A ≠ B := fun h e => h (by rw [e, hy] at hx; exact (Option.some.inj hx).symm)
        by_cases c0 : x < y ∧ y < z ∧ x < z
        · obtain ⟨h1, h2, h3⟩ := c0
          have k1 := Lib.hid (cmp2_of ((cmp_of hx hy).trans (cmpI_m h1)) hA hB)
          have k2 := Lib.hid (cmp2_of ((cmp_of hy hz).trans (cmpI_m h2)) hB hC)
          have k3 := Lib.hid (cmp2_of ((cmp_of hx hz).trans (cmpI_m h3)) hA hC)
          have k4 := Lib.hid (cmp2_of ((cmp_of hy hx).trans (cmpI_p (by omega))) hB hA)
          exact ord_mmm A B C w HT (eq2 (by omega)) HFA HFB HFC HRA HRB HRC k1 k2 k3 k4
        by_cases c1 : x < y ∧ y = z ∧ x < z
        · obtain ⟨h1, h2, h3⟩ := c1
          have k1 := Lib.hid (cmp2_of ((cmp_of hx hy).trans (cmpI_m h1)) hA hB)
          have k2 := Lib.hid (cmp2_of ((cmp_of hy hz).trans (cmpI_z h2)) hB hC)
          have k3 := Lib.hid (cmp2_of ((cmp_of hx hz).trans (cmpI_m h3)) hA hC)
          have k4 := Lib.hid (cmp2_of ((cmp_of hy hx).trans (cmpI_p (by omega))) hB hA)
          exact ord_mzm A B C w HT (eq2 (by omega)) HFA HFB HFC HRA HRB HRC k1 k2 k3 k4
        by_cases c2 : x < y ∧ z < y ∧ x < z
        · obtain ⟨h1, h2, h3⟩ := c2
          have k1 := Lib.hid (cmp2_of ((cmp_of hx hy).trans (cmpI_m h1)) hA hB)
          have k2 := Lib.hid (cmp2_of ((cmp_of hy hz).trans (cmpI_p h2)) hB hC)
          have k3 := Lib.hid (cmp2_of ((cmp_of hx hz).trans (cmpI_m h3)) hA hC)
          have k4 := Lib.hid (cmp2_of ((cmp_of hy hx).trans (cmpI_p (by omega))) hB hA)
          exact ord_mpm A B C w HT (eq2 (by omega)) HFA HFB HFC HRA HRB HRC k1 k2 k3 k4
        by_cases c3 : x < y ∧ z < y ∧ x = z
        · obtain ⟨h1, h2, h3⟩ := c3
          have k1 := Lib.hid (cmp2_of ((cmp_of hx hy).trans (cmpI_m h1)) hA hB)
          have k2 := Lib.hid (cmp2_of ((cmp_of hy hz).trans (cmpI_p h2)) hB hC)
          have k3 := Lib.hid (cmp2_of ((cmp_of hx hz).trans (cmpI_z h3)) hA hC)
          have k4 := Lib.hid (cmp2_of ((cmp_of hy hx).trans (cmpI_p (by omega))) hB hA)
          exact ord_mpz A B C w HT (eq2 (by omega)) HFA HFB HFC HRA HRB HRC k1 k2 k3 k4
        by_cases c4 : x < y ∧ z < y ∧ z < x
        · obtain ⟨h1, h2, h3⟩ := c4
          have k1 := Lib.hid (cmp2_of ((cmp_of hx hy).trans (cmpI_m h1)) hA hB)
          have k2 := Lib.hid (cmp2_of ((cmp_of hy hz).trans (cmpI_p h2)) hB hC)
          have k3 := Lib.hid (cmp2_of ((cmp_of hx hz).trans (cmpI_p h3)) hA hC)
          have k4 := Lib.hid (cmp2_of ((cmp_of hy hx).trans (cmpI_p (by omega))) hB hA)
          exact ord_mpp A B C w HT (eq2 (by omega)) HFA HFB HFC HRA HRB HRC k1 k2 k3 k4
        by_cases c5 : x = y ∧ y < z ∧ x < z
        · obtain ⟨h1, h2, h3⟩ := c5
          have k1 := Lib.hid (cmp2_of ((cmp_of hx hy).trans (cmpI_z h1)) hA hB)
          have k2 := Lib.hid (cmp2_of ((cmp_of hy hz).trans (cmpI_m h2)) hB hC)
          have k3 := Lib.hid (cmp2_of ((cmp_of hx hz).trans (cmpI_m h3)) hA hC)
          have k4 := Lib.hid (cmp2_of ((cmp_of hy hx).trans (cmpI_z (by omega))) hB hA)
          obtain rfl := eq h1
          exact ord_zmm A C w HT HFA HFC HRA HRC k1 k2 k3 k4
        by_cases c6 : x = y ∧ y = z ∧ x = z
        · obtain ⟨h1, h2, h3⟩ := c6
          have k1 := Lib.hid (cmp2_of ((cmp_of hx hy).trans (cmpI_z h1)) hA hB)
          have k2 := Lib.hid (cmp2_of ((cmp_of hy hz).trans (cmpI_z h2)) hB hC)
          have k3 := Lib.hid (cmp2_of ((cmp_of hx hz).trans (cmpI_z h3)) hA hC)
          have k4 := Lib.hid (cmp2_of ((cmp_of hy hx).trans (cmpI_z (by omega))) hB hA)
          obtain rfl := eq h1
          exact ord_zzz A C w HT HFA HFC HRA HRC k1 k2 k3 k4
        by_cases c7 : x = y ∧ z < y ∧ z < x
        · obtain ⟨h1, h2, h3⟩ := c7
          have k1 := Lib.hid (cmp2_of ((cmp_of hx hy).trans (cmpI_z h1)) hA hB)
          have k2 := Lib.hid (cmp2_of ((cmp_of hy hz).trans (cmpI_p h2)) hB hC)
          have k3 := Lib.hid (cmp2_of ((cmp_of hx hz).trans (cmpI_p h3)) hA hC)
          have k4 := Lib.hid (cmp2_of ((cmp_of hy hx).trans (cmpI_z (by omega))) hB hA)
          obtain rfl := eq h1
          exact ord_zpp A C w HT HFA HFC HRA HRC k1 k2 k3 k4
        by_cases c8 : y < x ∧ y < z ∧ x < z
        · obtain ⟨h1, h2, h3⟩ := c8
          have k1 := Lib.hid (cmp2_of ((cmp_of hx hy).trans (cmpI_p h1)) hA hB)
          have k2 := Lib.hid (cmp2_of ((cmp_of hy hz).trans (cmpI_m h2)) hB hC)
          have k3 := Lib.hid (cmp2_of ((cmp_of hx hz).trans (cmpI_m h3)) hA hC)
          have k4 := Lib.hid (cmp2_of ((cmp_of hy hx).trans (cmpI_m (by omega))) hB hA)
          exact ord_pmm A B C w HT (eq2 (by omega)) HFA HFB HFC HRA HRB HRC k1 k2 k3 k4
        by_cases c9 : y < x ∧ y < z ∧ x = z
        · obtain ⟨h1, h2, h3⟩ := c9
          have k1 := Lib.hid (cmp2_of ((cmp_of hx hy).trans (cmpI_p h1)) hA hB)
          have k2 := Lib.hid (cmp2_of ((cmp_of hy hz).trans (cmpI_m h2)) hB hC)
          have k3 := Lib.hid (cmp2_of ((cmp_of hx hz).trans (cmpI_z h3)) hA hC)
          have k4 := Lib.hid (cmp2_of ((cmp_of hy hx).trans (cmpI_m (by omega))) hB hA)
          exact ord_pmz A B C w HT (eq2 (by omega)) HFA HFB HFC HRA HRB HRC k1 k2 k3 k4
        by_cases c10 : y < x ∧ y < z ∧ z < x
        · obtain ⟨h1, h2, h3⟩ := c10
          have k1 := Lib.hid (cmp2_of ((cmp_of hx hy).trans (cmpI_p h1)) hA hB)
          have k2 := Lib.hid (cmp2_of ((cmp_of hy hz).trans (cmpI_m h2)) hB hC)
          have k3 := Lib.hid (cmp2_of ((cmp_of hx hz).trans (cmpI_p h3)) hA hC)
          have k4 := Lib.hid (cmp2_of ((cmp_of hy hx).trans (cmpI_m (by omega))) hB hA)
          exact ord_pmp A B C w HT (eq2 (by omega)) HFA HFB HFC HRA HRB HRC k1 k2 k3 k4
        by_cases c11 : y < x ∧ y = z ∧ z < x
        · obtain ⟨h1, h2, h3⟩ := c11
          have k1 := Lib.hid (cmp2_of ((cmp_of hx hy).trans (cmpI_p h1)) hA hB)
          have k2 := Lib.hid (cmp2_of ((cmp_of hy hz).trans (cmpI_z h2)) hB hC)
          have k3 := Lib.hid (cmp2_of ((cmp_of hx hz).trans (cmpI_p h3)) hA hC)
          have k4 := Lib.hid (cmp2_of ((cmp_of hy hx).trans (cmpI_m (by omega))) hB hA)
          exact ord_pzp A B C w HT (eq2 (by omega)) HFA HFB HFC HRA HRB HRC k1 k2 k3 k4
        by_cases c12 : y < x ∧ z < y ∧ z < x
        · obtain ⟨h1, h2, h3⟩ := c12
          have k1 := Lib.hid (cmp2_of ((cmp_of hx hy).trans (cmpI_p h1)) hA hB)
          have k2 := Lib.hid (cmp2_of ((cmp_of hy hz).trans (cmpI_p h2)) hB hC)
          have k3 := Lib.hid (cmp2_of ((cmp_of hx hz).trans (cmpI_p h3)) hA hC)
          have k4 := Lib.hid (cmp2_of ((cmp_of hy hx).trans (cmpI_m (by omega))) hB hA)
          exact ord_ppp A B C w HT (eq2 (by omega)) HFA HFB HFC HRA HRB HRC k1 k2 k3 k4
        omega
end Go.Proofs.YteiipiomcbohnaaDoor
