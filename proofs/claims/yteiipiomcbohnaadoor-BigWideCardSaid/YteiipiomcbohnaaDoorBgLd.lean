/-
  BigWide, walked.
-/
import Derived.Test.YteiipiomcbohnaaDoorBgLc
namespace Go.Proofs.YteiipiomcbohnaaDoor
set_option linter.unusedSimpArgs false
set_option linter.unusedVariables false
open Go.RowKit

def tw (n : Int) (k : Nat) : Int := n * (p2 k : Nat)
theorem tw_zero (n : Int) : tw n 0 = n := by simp [tw, p2]
theorem tw_succ (n : Int) (k : Nat) : tw n k + tw n k = tw n (k + 1) := by
  unfold tw
  rw [← p2_succ, ← Int.mul_add]
  congr 1
theorem tw_abs (n : Int) (k : Nat) : (tw n k).natAbs = n.natAbs * p2 k := by unfold tw; rw [Int.natAbs_mul]; rfl
theorem wide_neg {n : Nat} (h : wideB n = true) : p2 512 ≤ n := by unfold wideB at h; simpa using h
theorem p2_lt {k m : Nat} (h : p2 k < p2 m) : k < m := by
  rcases Nat.lt_or_ge k m with h' | h'
  · exact h'
  · have := p2_mono h'; omega
theorem wide_low {n : Int} {k : Nat} (h0 : n ≠ 0) (h : wideB (tw n k).natAbs = false) : k ≤ 511 := by
  have h1 := (not_wide h).1
  rw [tw_abs] at h1
  have h2 : 1 * p2 k ≤ n.natAbs * p2 k := Nat.mul_le_mul_right _ (by omega)
  have := p2_lt (k := k) (m := 512) (by omega)
  omega
theorem wide_high {n : Int} {k : Nat} (b0 : -9223372036854775808 ≤ n) (b1 : n ≤ 9223372036854775807) (h : wideB (tw n (k + 1)).natAbs = true) : 448 ≤ k := by
  have h1 := wide_neg h
  rw [tw_abs] at h1
  have e63 : p2 63 = 9223372036854775808 := by decide +kernel
  have h2 : n.natAbs * p2 (k + 1) ≤ p2 63 * p2 (k + 1) := Nat.mul_le_mul_right _ (by omega)
  have h3 : p2 63 * p2 (k + 1) = p2 (63 + (k + 1)) := by unfold p2; rw [← Nat.pow_add]
  rcases Nat.lt_or_ge k 448 with h' | h'
  · have h4 := p2_mono (i := 63 + (k + 1)) (k := 511) (by omega)
    have h5 : p2 511 + p2 511 = p2 512 := p2_succ 511
    have h6 : 0 < p2 511 := by decide +kernel
    omega
  · exact h'

set_option maxRecDepth 100000 in
set_option maxHeartbeats 16000000 in
theorem wide_more (n : Int) (w : World) (hT : Tab w) (h0 : n ≠ 0) (b0 : -9223372036854775808 ≤ n) (b1 : n ≤ 9223372036854775807) : Calls Tryd.prog 3 #[.int .i64 n] w (Good w) := by
  have HT := Lib.hid hT
  have H1 := Lib.hid (txt_of (n := n) (r := Lib.itoa (tw n 0)) (by rw [tw_zero]) b0 b1)
  have W0 := Lib.hid (show wideB (tw n 0).natAbs = false by rw [tw_zero]; exact nw (by have := p2_64; omega))
  clear hT
  obtain ⟨A0, hA0⟩ : ∃ A, Lib.itoa (tw n 0) = A := ⟨_, rfl⟩
  rw [hA0] at H1
  have HA0 := Lib.hid hA0
  clear hA0
  go_enter Tryd.func3, Tryd.ntmps3
  go_wp2_with fail
  refine (H1.out w HT.out).mono ?_
  rintro e w1 ⟨rfl, hw1⟩
  have HT1 := Lib.hid (HT.out.on hw1.out)
  clear HT
  go_wp2
  go_loopw [3, 4] (fun s i wr => ∃ (k : Nat) (A : List UInt8), s = .string ⟨A.toArray⟩ ∧ i = .int .i64 k ∧ k ≤ 511 ∧ Hid (Lib.itoa (tw n k) = A) ∧ Hid (wideB (tw n k).natAbs = false) ∧ Hid (Tab wr) ∧ Hid (Below w.heap.size w wr))
    (fun s i _ => 600 - (intOf i).toNat)
  case atStart => exact ⟨0, A0, rfl, rfl, by omega, HA0, W0, HT1, hw1⟩
  case round =>
    obtain ⟨k, A, rfl, rfl, hk, hA, hw, hT, hb⟩ := hrel
    have nA : numR A = some (tw n k) := by rw [← hA.out]; exact numR_itoa hw.out
    have fA := (numR_text nA).2.2
    cases hs : wideB (tw n (k + 1)).natAbs with
    | false =>
      have hk1 := wide_low h0 hs
      obtain ⟨B, hB⟩ : ∃ B, Lib.itoa (tw n (k + 1)) = B := ⟨_, rfl⟩
      have e1 : sumT A A = (B, 0) := op_ok (F := fun x y => some (x + y)) (z := tw n (k + 1)) nA nA (by rw [tw_succ]) hs hB
      have HS := Lib.hid (op_Sum e1 fA fA)
      have HB := Lib.hid hB
      have HW := Lib.hid hs
      clear e1 hB hs nA fA hA hw
      go_wp2_with fail
      refine (HS.out wr hT.out).mono ?_
      rintro e w2 ⟨rfl, hw2⟩
      go_wp2
      go_roundw
      case rel => exact ⟨k + 1, B, rfl, by go_num, by omega, HB, HW, Lib.hid hw2.out.2, Lib.hid (hb.out.trans (hw2.out.1.mono hb.out.size))⟩
      case measure => simp [intOf]; omega
    | true =>
      have hk1 := wide_high b0 b1 hs
      have e1 : sumT A A = ([], 10) := resD_big (F := fun x y => some (x + y)) (z := tw n (k + 1)) nA nA (by rw [tw_succ]) hs
      have HS := Lib.hid (op_Sum e1 fA fA)
      clear e1 hs nA fA hA hw
      go_wp2_with fail
      refine (HS.out wr hT.out).mono ?_
      rintro e w2 ⟨rfl, hw2⟩
      have HT2 := Lib.hid hw2.out.2
      have HB2 := Lib.hid (hb.out.trans (hw2.out.1.mono hb.out.size))
      go_wp2_with fail
      refine (awake_any w2 HT2.out).mono ?_
      rintro e w3 ⟨rfl, hw3⟩
      go_wp2
      go_ret
      exact ⟨rfl, HB2.out.trans (hw3.out.mono HB2.out.size)⟩

theorem fit_n : Fit [48] := by simp [Fit]
set_option maxRecDepth 100000 in
set_option maxHeartbeats 16000000 in
theorem wide_none (w : World) (hT : Tab w) : Calls Tryd.prog 3 #[.int .i64 0] w (Good w) := by
  have HT := Lib.hid hT
  have H1 := Lib.hid (txt_of (n := 0) (r := [48]) itoa_0 (by omega) (by omega))
  have e1 : sumT [48] [48] = ([48], 0) := by
    have := resD_ok (F := fun x y => some (x + y)) numR_0 numR_0 rfl wide_0
    rw [show (0 : Int) + 0 = 0 by omega, itoa_0] at this
    exact this
  have HS := Lib.hid (op_Sum e1 fit_n fit_n)
  clear hT e1
  go_enter Tryd.func3, Tryd.ntmps3
  go_wp2_with fail
  refine (H1.out w HT.out).mono ?_
  rintro e w1 ⟨rfl, hw1⟩
  have HT1 := Lib.hid (HT.out.on hw1.out)
  clear HT
  go_wp2
  go_loopw [3, 4] (fun s i wr => ∃ (k : Nat), s = .string ⟨[48].toArray⟩ ∧ i = .int .i64 k ∧ k ≤ 600 ∧ Hid (Tab wr) ∧ Hid (Below w.heap.size w wr))
    (fun s i _ => 600 - (intOf i).toNat)
  case atStart => exact ⟨0, rfl, rfl, by omega, HT1, hw1⟩
  case round =>
    obtain ⟨k, rfl, rfl, hk, hT, hb⟩ := hrel
    by_cases hlt : k < 600
    · go_wp2_with fail
      refine (HS.out wr hT.out).mono ?_
      rintro e w2 ⟨rfl, hw2⟩
      go_wp2
      go_roundw
      case rel => exact ⟨k + 1, rfl, by go_num, by omega, Lib.hid hw2.out.2, Lib.hid (hb.out.trans (hw2.out.1.mono hb.out.size))⟩
      case measure => simp [intOf]; omega
    · obtain rfl : k = 600 := by omega
      go_wp2_with fail
      refine (awake_any wr hT.out).mono ?_
      rintro e w3 ⟨rfl, hw3⟩
      go_wp2
      go_ret
      exact ⟨rfl, hb.out.trans (hw3.out.mono hb.out.size)⟩

theorem wide_law (n : Int) (w : World) (hT : Tab w) (h : (Lit.int .i64 n).wf = true) : Calls Tryd.prog 3 #[.int .i64 n] w (Good w) := by
  have hn : -9223372036854775808 ≤ n ∧ n ≤ 9223372036854775807 := by
    simp [Lit.wf, IntKind.min, IntKind.max, IntKind.signed, IntKind.bits] at h
    omega
  by_cases h0 : n = 0
  · subst h0; exact wide_none w hT
  · exact wide_more n w hT h0 hn.1 hn.2
end Go.Proofs.YteiipiomcbohnaaDoor
