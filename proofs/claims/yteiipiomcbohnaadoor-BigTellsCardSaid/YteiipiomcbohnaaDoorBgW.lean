/-
  what the laws' calls give; awake.
-/
import Derived.Test.YteiipiomcbohnaaDoorBgV
namespace Go.Proofs.YteiipiomcbohnaaDoor
set_option linter.unusedSimpArgs false
set_option linter.unusedVariables false
open Go.RowKit

def Op2 (f : Nat) (s t r : List UInt8) (k : Int) : Prop :=
  ∀ w, Tab w → Calls Tryd.prog f #[.string ⟨s.toArray⟩, .string ⟨t.toArray⟩] w fun e w' => e = .returned (.tuple #[.string ⟨r.toArray⟩, .int .i64 k]) ∧ Hid (Below w.heap.size w w' ∧ Tab w')
/-- Lengths that a text may have. -/
def Fit (s : List UInt8) : Prop := s.length ≤ 9223372036854775807
theorem op_Sum {s t r : List UInt8} {k : Int} (h : sumT s t = (r, k)) (hs : Fit s) (ht : Fit t) : Op2 12 s t r k := fun w hT =>
  (sumT_any s t w hs ht hT).mono fun e w' hd => by
    rw [h] at hd
    exact ⟨hd.1, Lib.hid ⟨hd.2.out, hT.on hd.2.out⟩⟩
theorem op_Less {s t r : List UInt8} {k : Int} (h : lessT s t = (r, k)) (hs : Fit s) (ht : Fit t) : Op2 17 s t r k := fun w hT =>
  (lessT_any s t w hs ht hT).mono fun e w' hd => by
    rw [h] at hd
    exact ⟨hd.1, Lib.hid ⟨hd.2.out, hT.on hd.2.out⟩⟩
theorem op_Times {s t r : List UInt8} {k : Int} (h : timesT s t = (r, k)) (hs : Fit s) (ht : Fit t) : Op2 14 s t r k := fun w hT =>
  (timesT_any s t w hs ht hT).mono fun e w' hd => by
    rw [h] at hd
    exact ⟨hd.1, Lib.hid ⟨hd.2.out, hT.on hd.2.out⟩⟩
theorem op_Quotient {s t r : List UInt8} {k : Int} (h : quotT s t = (r, k)) (hs : Fit s) (ht : Fit t) : Op2 15 s t r k := fun w hT =>
  (quotT_any s t w hs ht hT).mono fun e w' hd => by
    rw [h] at hd
    exact ⟨hd.1, Lib.hid ⟨hd.2.out, hT.on hd.2.out⟩⟩
theorem op_Rest {s t r : List UInt8} {k : Int} (h : restT s t = (r, k)) (hs : Fit s) (ht : Fit t) : Op2 16 s t r k := fun w hT =>
  (restT_any s t w hs ht hT).mono fun e w' hd => by
    rw [h] at hd
    exact ⟨hd.1, Lib.hid ⟨hd.2.out, hT.on hd.2.out⟩⟩

theorem resD_ok {F : Int → Int → Option Int} {s t : List UInt8} {x y z : Int} (h1 : numR s = some x) (h2 : numR t = some y) (hF : F x y = some z) (hw : wideB z.natAbs = false) : resD F s t = (Lib.itoa z, 0) := by
  unfold resD
  rw [h1, h2]
  simp only
  rw [hF]
  simp only
  rw [hw]
  rfl
theorem resD_big {F : Int → Int → Option Int} {s t : List UInt8} {x y z : Int} (h1 : numR s = some x) (h2 : numR t = some y) (hF : F x y = some z) (hw : wideB z.natAbs = true) : resD F s t = ([], 10) := by
  unfold resD
  rw [h1, h2]
  simp only
  rw [hF]
  simp only
  rw [hw]
  rfl
theorem resD_none {F : Int → Int → Option Int} {s t : List UInt8} (h : numR s = none ∨ numR t = none) : resD F s t = ([], 1) := by
  unfold resD
  rcases h with h | h
  · rw [h]
  · rw [h]
    cases numR s <;> rfl
theorem numR_text {s : List UInt8} {z : Int} (h : numR s = some z) : s = Lib.itoa z ∧ wideB z.natAbs = false ∧ Fit s := by
  obtain ⟨h1, h2⟩ := numR_some h
  obtain ⟨h3, h4⟩ := numB_text h1
  refine ⟨h3, h2, ?_⟩
  unfold Fit
  rw [h3]
  unfold Lib.itoa
  split
  · simp; omega
  · rename_i hz
    rw [show z.natAbs = z.toNat by omega] at h4
    omega
theorem p2_160 : p2 512 ≤ 10 ^ 155 := by decide +kernel
theorem numR_itoa {z : Int} (h : wideB z.natAbs = false) : numR (Lib.itoa z) = some z := by
  have h1 := (not_wide h).1
  have h2 := p2_160
  unfold numR
  rw [numB_itoa (Nat.le_trans (dec_len_le (k := 155) (by omega) (by decide)) (by decide))]
  simp only
  rw [h]
  rfl
theorem fit_itoa {z : Int} (h : wideB z.natAbs = false) : Fit (Lib.itoa z) := (numR_text (numR_itoa h)).2.2
theorem numR_0 : numR [48] = some 0 := by decide +kernel
theorem numR_1 : numR [49] = some 1 := by decide +kernel
theorem numR_m1 : numR [45, 49] = some (-1) := by decide +kernel
theorem itoa_0 : Lib.itoa 0 = [48] := by decide +kernel
theorem wide_0 : wideB (0 : Int).natAbs = false := by decide +kernel

/-- A law's call ends well. -/
def Good (w : World) (e : Ending) (w' : World) : Prop := e = .returned (.bool true) ∧ Below w.heap.size w w'

set_option maxRecDepth 100000 in
set_option maxHeartbeats 2000000 in
theorem awake_any (w : World) (hT : Tab w) : Calls Tryd.prog 13 #[] w fun e w' => e = .returned (.bool true) ∧ Hid (Below w.heap.size w w') := by
  have H1 := Lib.hid (op_Times (s := [45, 49, 50]) (t := [49, 50]) (r := [45, 49, 52, 52]) (k := 0) (by decide +kernel) (by simp [Fit]) (by simp [Fit]))
  have H2 := Lib.hid (op_Quotient (s := [45, 55]) (t := [50]) (r := [45, 51]) (k := 0) (by decide +kernel) (by simp [Fit]) (by simp [Fit]))
  have H3 := Lib.hid (op_Rest (s := [45, 55]) (t := [50]) (r := [45, 49]) (k := 0) (by decide +kernel) (by simp [Fit]) (by simp [Fit]))
  have HT := Lib.hid hT
  clear hT
  go_enter Tryd.func13, Tryd.ntmps13
  go_wp2_with fail
  refine (H1.out w HT.out).mono ?_
  rintro e w1 ⟨rfl, h1⟩
  go_wp2_with fail
  refine (H2.out w1 h1.out.2).mono ?_
  rintro e w2 ⟨rfl, h2⟩
  go_wp2_with fail
  refine (H3.out w2 h2.out.2).mono ?_
  rintro e w3 ⟨rfl, h3⟩
  go_wp2
  go_ret
  exact ⟨rfl, Lib.hid (bext (bext h1.out.1 h2.out.1) h3.out.1)⟩
end Go.Proofs.YteiipiomcbohnaaDoor
