/-
  BigTells, walked.
-/
import Derived.Test.YteiipiomcbohnaaDoorTenV
import Derived.Test.YteiipiomcbohnaaDoorBgLc
namespace Go.Proofs.YteiipiomcbohnaaDoor.Ten
set_option linter.unusedSimpArgs false
set_option linter.unusedVariables false
open Go.RowKit

theorem intT_itoa {n : Int} (h0 : -9223372036854775808 ≤ n) (h1 : n ≤ 9223372036854775807) : intT (Lib.itoa n) = (n, 0) := by
  have hw : wideB n.natAbs = false := nw (Nat.lt_of_lt_of_le (show n.natAbs < 10 ^ 19 by omega) (by decide +kernel))
  unfold intT
  rw [numR_itoa hw]
  simp only
  rw [if_pos (show In64 n from ⟨h0, h1⟩)]
theorem itoa_len {n : Int} (h0 : -9223372036854775808 ≤ n) (h1 : n ≤ 9223372036854775807) : (Lib.itoa n).length ≤ 1000 := itoa_320 (Nat.lt_trans (show n.natAbs < 10 ^ 19 by omega) (by decide +kernel))
def Ints (s : List UInt8) (k : Int × Int) : Prop := ∀ w, Vr w → Calls Tryd.prog 22 #[.string ⟨s.toArray⟩] w (IntPost k w)

set_option maxRecDepth 100000 in
set_option maxHeartbeats 4000000 in
theorem tells_in (A B : List UInt8) (n : Int) (w : World) (hT : Tab w) (hV : Vr w) (hA : A.length ≤ 200) (hB : B.length ≤ 200) (h0 : -9223372036854775808 ≤ n) (h1 : n ≤ 9223372036854775807) :
    Calls Tryd.prog 10 #[.string ⟨A.toArray⟩, .string ⟨B.toArray⟩, .int .i64 n] w (Good w) := by
  have HT := Lib.hid hT
  have HV := Lib.hid hV
  have H1 : Hid (Ints A (intT A)) := Lib.hid fun w2 h2 => big_int A w2 (by omega) h2
  have H2 := Lib.hid (int_ref A (by omega))
  have H3 := Lib.hid (txt_of (n := n) rfl h0 h1)
  have H4 : Hid (Ints (Lib.itoa n) (n, 0)) := Lib.hid fun w2 h2 => by have := big_int (Lib.itoa n) w2 (itoa_len h0 h1) h2; rw [intT_itoa h0 h1] at this; exact this
  have H5 : Hid (∀ w2, Calls Tryd.prog 19 #[.string ⟨A.toArray⟩] w2 fun e w' => e = .returned (.bool (numR A).isSome) ∧ Hid (Below w2.heap.size w2 w')) := Lib.hid fun w2 => right_hid rfl w2 (by omega)
  have H6 := rt_any (a := A) rfl (by omega)
  have H7 : Hid (∀ w2, Calls Tryd.prog 20 #[.string ⟨A.toArray⟩, .string ⟨B.toArray⟩] w2 fun e w' => e = .returned (.int .i64 (cmpT A B)) ∧ Hid (Below w2.heap.size w2 w')) := Lib.hid fun w2 => (compare_any A B w2 (by omega) (by omega)).mono fun e w' h => ⟨h.1, Lib.hid h.2⟩
  have H8 := Lib.hid (cmp_ref A B (by omega) (by omega))
  obtain ⟨⟨z, k⟩, hzk⟩ : ∃ v, intT A = v := ⟨_, rfl⟩
  rw [hzk] at H1 H2
  obtain ⟨b, hb⟩ : ∃ b, (numR A).isSome = b := ⟨_, rfl⟩
  rw [hb] at H5 H6
  obtain ⟨c, hc⟩ : ∃ c, cmpT A B = c := ⟨_, rfl⟩
  rw [hc] at H7 H8
  obtain ⟨N, hN⟩ : ∃ N, Lib.itoa n = N := ⟨_, rfl⟩
  rw [hN] at H3 H4
  clear hzk hb hc hN hT hV h0 h1
  go_enter Tryd.func10, Tryd.ntmps10
  go_wp2_with fail
  refine (H1.out w HV.out).mono ?_
  rintro e w1 ⟨rfl, hw1⟩
  go_wp2_with fail
  refine (H2.out w1).mono ?_
  rintro e w2 ⟨rfl, hw2⟩
  have HT2 := Lib.hid ((HT.out.on hw1.out).on hw2.out)
  have HV2 := Lib.hid ((HV.out.on hw1.out).on hw2.out)
  go_wp2_with fail
  refine (H3.out w2 HT2.out).mono ?_
  rintro e w3 ⟨rfl, hw3⟩
  go_wp2_with fail
  refine (H4.out w3 (HV2.out.on hw3.out)).mono ?_
  rintro e w4 ⟨rfl, hw4⟩
  go_wp2_with fail
  refine (H5.out w4).mono ?_
  rintro e w5 ⟨rfl, hw5⟩
  go_wp2_with fail
  refine (H6.out w5).mono ?_
  rintro e w6 ⟨rfl, hw6⟩
  go_wp2_with fail
  refine (H7.out w6).mono ?_
  rintro e w7 ⟨rfl, hw7⟩
  go_wp2_with fail
  refine (H8.out w7).mono ?_
  rintro e w8 ⟨rfl, hw8⟩
  go_wp2_with fail
  refine (awake_any w8 ((((((HT2.out.on hw3.out).on hw4.out).on hw5.out).on hw6.out).on hw7.out).on hw8.out)).mono ?_
  rintro e w9 ⟨rfl, hw9⟩
  go_wp2
  go_ret
  exact ⟨rfl, bext (bext (bext (bext (bext (bext (bext (bext hw1.out hw2.out) hw3.out) hw4.out) hw5.out) hw6.out) hw7.out) hw8.out) hw9.out⟩
set_option maxRecDepth 100000 in
set_option maxHeartbeats 4000000 in
theorem tells_law (A B : List UInt8) (n : Int) (w : World) (hTV : Tab w ∧ Vr w) (hA : Fit A) (hB : Fit B) (hn : (Lit.int .i64 n).wf = true) : Calls Tryd.prog 10 #[.string ⟨A.toArray⟩, .string ⟨B.toArray⟩, .int .i64 n] w (Good w) := by
  unfold Fit at hA hB
  have hn : -9223372036854775808 ≤ n ∧ n ≤ 9223372036854775807 := by
    simp [Lit.wf, IntKind.min, IntKind.max, IntKind.signed, IntKind.bits] at hn
    omega
  obtain ⟨hT, hV⟩ := hTV
  by_cases h1 : 200 < (A.length : Int)
  · clear hT hV
    go_enter Tryd.func10, Tryd.ntmps10
    go_wp2
    go_ret
    exact ⟨rfl, Below.refl _ _⟩
  · by_cases h2 : 200 < (B.length : Int)
    · clear hT hV
      go_enter Tryd.func10, Tryd.ntmps10
      go_wp2
      go_ret
      exact ⟨rfl, Below.refl _ _⟩
    · exact tells_in A B n w hT hV (by omega) (by omega) hn.1 hn.2
end Go.Proofs.YteiipiomcbohnaaDoor.Ten
