/-
  BigInts, walked.
-/
import Derived.Test.YteiipiomcbohnaaDoorBgLa
namespace Go.Proofs.YteiipiomcbohnaaDoor
set_option linter.unusedSimpArgs false
set_option linter.unusedVariables false
open Go.RowKit

def Txt (n : Int) (r : List UInt8) : Prop :=
  ∀ w, Tab w → Calls Tryd.prog 11 #[.int .i64 n] w fun e w' => e = .returned (.string ⟨r.toArray⟩) ∧ Hid (Below w.heap.size w w')
theorem txt_of {n : Int} {r : List UInt8} (h : Lib.itoa n = r) (h0 : -9223372036854775808 ≤ n) (h1 : n ≤ 9223372036854775807) : Txt n r := fun w hT =>
  (text_any n w h0 h1 hT).mono fun e w' hd => by
    rw [h] at hd
    exact hd
theorem wf32 {x : Int} (h : (Lit.int .i32 x).wf = true) : -2147483648 ≤ x ∧ x ≤ 2147483647 := by
  simp [Lit.wf, IntKind.min, IntKind.max, IntKind.signed, IntKind.bits] at h
  omega
theorem p2_64 : 18446744073709551616 ≤ p2 512 := by decide +kernel
theorem ints_plain {x y : Int} (x0 : -2147483648 ≤ x) (x1 : x ≤ 2147483647) (y0 : -2147483648 ≤ y) (y1 : y ≤ 2147483647) :
    (-4611686018427387904 ≤ x * y ∧ x * y ≤ 4611686018427387904) ∧ (numR (Lib.itoa x) = some x ∧ numR (Lib.itoa y) = some y) ∧ wideB (x + y).natAbs = false ∧ wideB (x * y).natAbs = false := by
  have h := p2_64
  have hm : (x * y).natAbs ≤ 2147483648 * 2147483648 := by
    rw [Int.natAbs_mul]
    exact Nat.mul_le_mul (by omega) (by omega)
  exact ⟨⟨by omega, by omega⟩, ⟨numR_itoa (nw (by omega)), numR_itoa (nw (by omega))⟩, nw (by omega), nw (by omega)⟩
theorem ints_div {x y : Int} (x0 : -2147483648 ≤ x) (x1 : x ≤ 2147483647) : (-2147483648 ≤ x.tdiv y ∧ x.tdiv y ≤ 2147483648) ∧ (-2147483648 ≤ x.tmod y ∧ x.tmod y ≤ 2147483648) ∧ wideB (x.tdiv y).natAbs = false ∧ wideB (x.tmod y).natAbs = false := by
  have h := p2_64
  have q1 : (x.tdiv y).natAbs ≤ x.natAbs := by rw [Int.natAbs_tdiv]; exact Nat.div_le_self _ _
  have r1 : (x.tmod y).natAbs ≤ x.natAbs := by rw [Int.natAbs_tmod]; exact Nat.mod_le _ _
  exact ⟨⟨by omega, by omega⟩, ⟨by omega, by omega⟩, nw (by omega), nw (by omega)⟩
set_option maxRecDepth 100000 in
set_option maxHeartbeats 16000000 in
theorem ints_zero (x : Int) (X Y : List UInt8) (w : World) (HT : Hid (Tab w)) (x0 : -2147483648 ≤ x) (x1 : x ≤ 2147483647) (H1 : Hid (Txt x X)) (H2 : Hid (Txt 0 Y)) (H3 : Hid (Op2 12 X Y X 0)) (H4 : Hid (Op2 14 X Y Y 0)) : Calls Tryd.prog 4 #[.int .i32 x, .int .i32 0] w (Good w) := by
  go_enter Tryd.func4, Tryd.ntmps4
  go_wp2_with fail
  refine (H1.out w HT.out).mono ?_
  rintro e w1 ⟨rfl, hw1⟩
  go_wp2_with fail
  refine (H2.out w1 (HT.out.on hw1.out)).mono ?_
  rintro e w2 ⟨rfl, hw2⟩
  go_wp2_with fail
  refine (H3.out w2 ((HT.out.on hw1.out).on hw2.out)).mono ?_
  rintro e w3 ⟨rfl, hw3⟩
  go_wp2_with fail
  refine (H1.out w3 hw3.out.2).mono ?_
  rintro e w4 ⟨rfl, hw4⟩
  go_wp2_with fail
  refine (H2.out w4 (hw3.out.2.on hw4.out)).mono ?_
  rintro e w5 ⟨rfl, hw5⟩
  go_wp2_with fail
  refine (H4.out w5 ((hw3.out.2.on hw4.out).on hw5.out)).mono ?_
  rintro e w6 ⟨rfl, hw6⟩
  go_wp2_with fail
  refine (H1.out w6 hw6.out.2).mono ?_
  rintro e w7 ⟨rfl, hw7⟩
  go_wp2_with fail
  refine (H2.out w7 (hw6.out.2.on hw7.out)).mono ?_
  rintro e w8 ⟨rfl, hw8⟩
  go_wp2_with fail
  refine (awake_any w8 ((hw6.out.2.on hw7.out).on hw8.out)).mono ?_
  rintro e w9 ⟨rfl, hw9⟩
  go_wp2
  go_ret
  exact ⟨rfl, (bext (bext (bext (bext (bext (bext (bext (bext hw1.out hw2.out) hw3.out.1) hw4.out) hw5.out) hw6.out.1) hw7.out) hw8.out) hw9.out)⟩
set_option maxRecDepth 100000 in
set_option maxHeartbeats 16000000 in
theorem ints_more (x y : Int) (X Y S P Q R : List UInt8) (w : World) (HT : Hid (Tab w)) (x0 : -2147483648 ≤ x) (x1 : x ≤ 2147483647) (y0 : -2147483648 ≤ y) (y1 : y ≤ 2147483647) (m0 : -4611686018427387904 ≤ x * y) (m1 : x * y ≤ 4611686018427387904) (h0 : ¬ y = 0) (d0 : -2147483648 ≤ x.tdiv y) (d1 : x.tdiv y ≤ 2147483648) (e0 : -2147483648 ≤ x.tmod y) (e1 : x.tmod y ≤ 2147483648) (H1 : Hid (Txt x X)) (H2 : Hid (Txt y Y)) (H3 : Hid (Op2 12 X Y S 0)) (H4 : Hid (Op2 14 X Y P 0)) (H5 : Hid (Txt (x + y) S)) (H6 : Hid (Txt (x * y) P)) (H7 : Hid (Op2 15 X Y Q 0)) (H8 : Hid (Op2 16 X Y R 0)) (H9 : Hid (Txt (x.tdiv y) Q)) (H10 : Hid (Txt (x.tmod y) R)) : Calls Tryd.prog 4 #[.int .i32 x, .int .i32 y] w (Good w) := by
  go_enter Tryd.func4, Tryd.ntmps4
  go_wp2_with fail
  refine (H1.out w HT.out).mono ?_
  rintro e w1 ⟨rfl, hw1⟩
  go_wp2_with fail
  refine (H2.out w1 (HT.out.on hw1.out)).mono ?_
  rintro e w2 ⟨rfl, hw2⟩
  go_wp2_with fail
  refine (H3.out w2 ((HT.out.on hw1.out).on hw2.out)).mono ?_
  rintro e w3 ⟨rfl, hw3⟩
  go_wp2_with fail
  refine (H1.out w3 hw3.out.2).mono ?_
  rintro e w4 ⟨rfl, hw4⟩
  go_wp2_with fail
  refine (H2.out w4 (hw3.out.2.on hw4.out)).mono ?_
  rintro e w5 ⟨rfl, hw5⟩
  go_wp2_with fail
  refine (H4.out w5 ((hw3.out.2.on hw4.out).on hw5.out)).mono ?_
  rintro e w6 ⟨rfl, hw6⟩
  go_wp2_with fail
  refine (H5.out w6 hw6.out.2).mono ?_
  rintro e w7 ⟨rfl, hw7⟩
  go_wp2_with fail
  refine (H6.out w7 (hw6.out.2.on hw7.out)).mono ?_
  rintro e w8 ⟨rfl, hw8⟩
  go_wp2_with fail
  refine (H1.out w8 ((hw6.out.2.on hw7.out).on hw8.out)).mono ?_
  rintro e w9 ⟨rfl, hw9⟩
  go_wp2_with fail
  refine (H2.out w9 (((hw6.out.2.on hw7.out).on hw8.out).on hw9.out)).mono ?_
  rintro e w10 ⟨rfl, hw10⟩
  go_wp2_with fail
  refine (H7.out w10 ((((hw6.out.2.on hw7.out).on hw8.out).on hw9.out).on hw10.out)).mono ?_
  rintro e w11 ⟨rfl, hw11⟩
  go_wp2_with fail
  refine (H1.out w11 hw11.out.2).mono ?_
  rintro e w12 ⟨rfl, hw12⟩
  go_wp2_with fail
  refine (H2.out w12 (hw11.out.2.on hw12.out)).mono ?_
  rintro e w13 ⟨rfl, hw13⟩
  go_wp2_with fail
  refine (H8.out w13 ((hw11.out.2.on hw12.out).on hw13.out)).mono ?_
  rintro e w14 ⟨rfl, hw14⟩
  go_wp2_with fail
  refine (H9.out w14 hw14.out.2).mono ?_
  rintro e w15 ⟨rfl, hw15⟩
  go_wp2_with fail
  refine (H10.out w15 (hw14.out.2.on hw15.out)).mono ?_
  rintro e w16 ⟨rfl, hw16⟩
  go_wp2_with fail
  refine (awake_any w16 ((hw14.out.2.on hw15.out).on hw16.out)).mono ?_
  rintro e w17 ⟨rfl, hw17⟩
  go_wp2
  go_ret
  exact ⟨rfl, (bext (bext (bext (bext (bext (bext (bext (bext (bext (bext (bext (bext (bext (bext (bext (bext hw1.out hw2.out) hw3.out.1) hw4.out) hw5.out) hw6.out.1) hw7.out) hw8.out) hw9.out) hw10.out) hw11.out.1) hw12.out) hw13.out) hw14.out.1) hw15.out) hw16.out) hw17.out)⟩

theorem ints_law (x y : Int) (w : World) (hT : Tab w) (hx : (Lit.int .i32 x).wf = true) (hy : (Lit.int .i32 y).wf = true) : Calls Tryd.prog 4 #[.int .i32 x, .int .i32 y] w (Good w) := by
  have HT := Lib.hid hT
  obtain ⟨x0, x1⟩ := wf32 hx
  obtain ⟨y0, y1⟩ := wf32 hy
  obtain ⟨⟨m0, m1⟩, ⟨nx, ny⟩, ws, wp⟩ := ints_plain x0 x1 y0 y1
  have fX := (numR_text nx).2.2
  have fY := (numR_text ny).2.2
  have H1 := Lib.hid (txt_of (n := x) rfl (by omega) (by omega))
  have H2 := Lib.hid (txt_of (n := y) rfl (by omega) (by omega))
  have H3 := Lib.hid (op_Sum (resD_ok nx ny rfl ws) fX fY)
  have H4 := Lib.hid (op_Times (resD_ok nx ny rfl wp) fX fY)
  have H5 := Lib.hid (txt_of (n := x + y) rfl (by omega) (by omega))
  have H6 := Lib.hid (txt_of (n := x * y) rfl (by omega) (by omega))
  by_cases h0 : y = 0
  · subst h0
    rw [show x + 0 = x by omega] at H3
    rw [Int.mul_zero] at H4
    exact ints_zero x _ _ w HT x0 x1 H1 H2 H3 H4
  · obtain ⟨⟨d0, d1⟩, ⟨e0, e1⟩, wq, wr⟩ := ints_div (y := y) x0 x1
    have H7 := Lib.hid (op_Quotient (resD_ok nx ny (by unfold partsF; rw [if_neg h0]; rfl) wq) fX fY)
    have H8 := Lib.hid (op_Rest (resD_ok nx ny (by unfold partsF; rw [if_neg h0]; rfl) wr) fX fY)
    exact ints_more x y _ _ _ _ _ _ w HT x0 x1 y0 y1 m0 m1 h0 d0 d1 e0 e1 H1 H2 H3 H4 H5 H6 H7 H8 (Lib.hid (txt_of (n := x.tdiv y) rfl (by omega) (by omega))) (Lib.hid (txt_of (n := x.tmod y) rfl (by omega) (by omega)))
end Go.Proofs.YteiipiomcbohnaaDoor
