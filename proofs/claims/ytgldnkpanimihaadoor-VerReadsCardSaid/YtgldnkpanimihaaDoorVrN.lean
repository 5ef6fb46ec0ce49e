/-
  VerBack, walked.
-/
import Derived.Test.YtgldnkpanimihaaDoorVrM
namespace Go.Proofs.YtgldnkpanimihaaDoor
set_option linter.unusedSimpArgs false
set_option linter.unusedVariables false
open Go.RowKit

set_option maxRecDepth 100000 in
set_option maxHeartbeats 4000000 in
theorem back_no (s : List UInt8) (m : Int) (w : World) (hE : Env w) (hs : s.length ≤ 300) (hno : ¬ (pathL s = true ∧ 0 ≤ m ∧ m ≤ 99)) : Calls Tryd.prog 9 #[.string ⟨s.toArray⟩, .int .i64 m] w (Good w) := by
  have HW := Lib.hid (show writeT s m = [] by unfold writeT; rw [if_neg hno])
  have hb1 := below_alloc w (.cells #[.string ⟨s.toArray⟩, .int .i64 m] 24)
  have HC0 := write_any s m (w.alloc (.cells #[.string ⟨s.toArray⟩, .int .i64 m] 24)) (by omega)
  rw [HW.out] at HC0
  have HC := Lib.hid HC0
  have HP := Lib.hid fun w2 => path_any s w2 (by omega)
  have HB1 := Lib.hid hb1
  have HE2 := Lib.hid hE
  clear HC0 hb1 hE
  cases hp : pathL s with
  | false =>
    rw [hp] at HP
    have HP2 := Lib.hid HP.out
    clear hno hp HP
    go_enter Tryd.func9, Tryd.ntmps9
    go_wp2_with fail
    refine HC.out.mono ?_
    rintro e w2 ⟨a, c, rfl, h2⟩
    go_wp2_with fail
    refine (HP2.out w2).mono ?_
    rintro e w3 ⟨rfl, h3⟩
    have HB3 := Lib.hid (bext (bext HB1.out h2.out.2) h3.out)
    go_wp2_with fail
    refine (awake_any w3 (HE2.out.on HB3.out)).mono ?_
    rintro e w4 ⟨rfl, h4⟩
    go_wp2
    go_ret
    exact ⟨rfl, bext HB3.out h4.out⟩
  | true =>
    rw [hp] at HP
    have HP2 := Lib.hid HP.out
    have hm : m < 0 ∨ (¬ m < 0 ∧ 99 < m) := by rw [hp] at hno; simp at hno; omega
    clear hno hp HP
    rcases hm with hm | ⟨hm1, hm⟩
    all_goals
      go_enter Tryd.func9, Tryd.ntmps9
      go_wp2_with fail
      refine HC.out.mono ?_
      rintro e w2 ⟨a, c, rfl, h2⟩
      go_wp2_with fail
      refine (HP2.out w2).mono ?_
      rintro e w3 ⟨rfl, h3⟩
      have HB3 := Lib.hid (bext (bext HB1.out h2.out.2) h3.out)
      go_wp2_with fail
      refine (awake_any w3 (HE2.out.on HB3.out)).mono ?_
      rintro e w4 ⟨rfl, h4⟩
      go_wp2
      go_ret
      exact ⟨rfl, bext HB3.out h4.out⟩

set_option maxRecDepth 100000 in
set_option maxHeartbeats 4000000 in
theorem back_yes (s : List UInt8) (k : Nat) (w : World) (hE : Env w) (hs : s.length ≤ 300) (hp : pathL s = true) (hk : k < 100) : Calls Tryd.prog 9 #[.string ⟨s.toArray⟩, .int .i64 k] w (Good w) := by
  have hWT : writeT s k = writeL s k := by unfold writeT; rw [if_pos ⟨hp, by omega, by omega⟩]; simp
  have hb1 := below_alloc w (.cells #[.string ⟨s.toArray⟩, .int .i64 k] 24)
  have HC0 := write_any s k (w.alloc (.cells #[.string ⟨s.toArray⟩, .int .i64 k] 24)) (by omega)
  rw [hWT] at HC0
  have P1 := Pair.new w (.string ⟨s.toArray⟩) (.int .i64 k)
  have HC := Lib.hid (HC0.mono (R' := fun e w2 => ∃ a c, e = .returned (.slice a (writeL s k).length c) ∧ w2.cell? ⟨w.heap.size, 0, none⟩ = some (.string ⟨s.toArray⟩) ∧ w2.cell? ⟨w.heap.size, 1, none⟩ = some (.int .i64 k) ∧ Hid (BAt w2 a (writeL s k) ∧ Below w.heap.size w w2 ∧ Pair w2 w.heap.size (.string ⟨s.toArray⟩) (.int .i64 k)))
    (fun e w2 ⟨a, c, he, h⟩ => ⟨a, c, he, (P1.below h.out.2).c0, (P1.below h.out.2).c1, Lib.hid ⟨h.out.1, bext hb1 h.out.2, P1.below h.out.2⟩⟩))
  have HP0 := fun w2 => path_any s w2 (by omega)
  rw [hp] at HP0
  have HP := Lib.hid HP0
  have hwl : (writeL s k).length ≤ 65536 := by
    have ld : (Lib.decDigits k).length ≤ 2 := dec_len_le (k := 2) (by omega) (by decide)
    simp [writeL]; omega
  have HR0 := fun a c w2 (h : Env w2) (hb : BAt w2 a (writeL s k)) => read_any (writeL s k) a c w2 h hb hwl
  rw [back_plain hp hk] at HR0
  unfold ReadPost at HR0
  dsimp only at HR0
  have HR := Lib.hid HR0
  have hTt : textL (k : Int) = 49 :: 46 :: Lib.decDigits k := by unfold textL; rw [if_pos (by omega), itoa_nat]
  have HT0 := fun w2 => text_any (k : Int) w2
  rw [hTt] at HT0
  have HT := Lib.hid HT0
  have HM0 := fun w2 (h : Env w2) => minor_any (49 :: 46 :: Lib.decDigits k) w2 h (by have ld : (Lib.decDigits k).length ≤ 2 := dec_len_le (k := 2) (by omega) (by decide); simp; omega)
  rw [minor_text k hk] at HM0
  unfold MinPost at HM0
  dsimp only at HM0
  obtain ⟨D, hD⟩ : ∃ D, Lib.decDigits k = D := ⟨_, rfl⟩
  rw [hD] at HM0 HT
  have HM := Lib.hid HM0
  have HE2 := Lib.hid hE
  have c0 := P1.c0
  have c1 := P1.c1
  have k0 : ¬ (k : Int) < 0 := by omega
  have k9 : ¬ 99 < (k : Int) := by omega
  clear HC0 hb1 hE HP0 HR0 HT0 HM0 hTt hwl hWT hp hD P1
  go_enter Tryd.func9, Tryd.ntmps9
  go_wp2_with fail
  refine HC.out.mono ?_
  rintro e w2 ⟨a, c, rfl, y0, y1, h2⟩
  go_wp2_with fail
  refine (HP.out w2).mono ?_
  rintro e w3 ⟨rfl, h3⟩
  have HB3 := Lib.hid (bext h2.out.2.1 h3.out)
  have HX3 := Lib.hid (h2.out.2.2.below h3.out)
  have HA3 := Lib.hid (h2.out.1.on h3.out)
  go_wp2_with fail
  refine (HR.out a c w3 (HE2.out.on HB3.out) HA3.out).mono ?_
  rintro e w4 ⟨rfl, h4⟩
  have hb5 := below_alloc w4 (.cells #[.string ⟨s.toArray⟩, .int .i64 k] 24)
  have x5 := (HX3.out.below h4.out).alloc (.cells #[.string ⟨s.toArray⟩, .int .i64 k] 24)
  have z5 := Pair.new w4 (.string ⟨s.toArray⟩) (.int .i64 k)
  have HB5 := Lib.hid (bext (bext HB3.out h4.out) hb5)
  have HMM := Lib.hid ((HM.out _ (HE2.out.on HB5.out)).mono (R' := fun e w6 => e = .returned (.tuple #[.int .i64 k, .int .i64 0]) ∧ w6.cell? ⟨w.heap.size, 0, none⟩ = some (.string ⟨s.toArray⟩) ∧ w6.cell? ⟨w.heap.size, 1, none⟩ = some (.int .i64 k) ∧ w6.cell? ⟨w4.heap.size, 0, none⟩ = some (.string ⟨s.toArray⟩) ∧ w6.cell? ⟨w4.heap.size, 1, none⟩ = some (.int .i64 k) ∧ Hid (Below w.heap.size w w6))
    (fun e w6 h => ⟨h.1, (x5.below h.2.out).c0, (x5.below h.2.out).c1, (z5.below h.2.out).c0, (z5.below h.2.out).c1, Lib.hid (bext HB5.out h.2.out)⟩))
  clear hb5 x5 z5
  go_wp2_with fail
  refine (HT.out _).mono ?_
  rintro e w' ⟨rfl, h9⟩
  obtain rfl := h9
  go_wp2_with fail
  refine HMM.out.mono ?_
  rintro e w6 ⟨rfl, q0, q1, q2, q3, h6⟩
  go_wp2_with fail
  refine (awake_any w6 (HE2.out.on h6.out)).mono ?_
  rintro e w7 ⟨rfl, h7⟩
  go_wp2
  go_ret
  exact ⟨rfl, bext h6.out h7.out⟩
set_option maxRecDepth 100000 in
set_option maxHeartbeats 4000000 in
theorem back_law (s : List UInt8) (m : Int) (w : World) (hE : Env w) (hs : s.length ≤ 9223372036854775807) : Calls Tryd.prog 9 #[.string ⟨s.toArray⟩, .int .i64 m] w (Good w) := by
  by_cases h1 : 300 < (s.length : Int)
  · clear hE
    go_enter Tryd.func9, Tryd.ntmps9
    go_wp2
    go_ret
    exact ⟨rfl, Below.refl _ _⟩
  · by_cases h : pathL s = true ∧ 0 ≤ m ∧ m ≤ 99
    · obtain ⟨k, rfl⟩ : ∃ k : Nat, m = k := ⟨m.toNat, by omega⟩
      exact back_yes s k w hE (by omega) h.1 (by omega)
    · exact back_no s m w hE (by omega) h
end Go.Proofs.YtgldnkpanimihaaDoor
