/-
  the document's Plain (layer 3).
-/
import Derived.Test.YteiipiomcbohnaaDoorTenH
namespace Go.Proofs.YteiipiomcbohnaaDoor.Ten
set_option linter.unusedSimpArgs false
set_option linter.unusedVariables false
open Go.RowKit

theorem plainL_cons (c : UInt8) (t : List UInt8) : plainL (c :: t) = ((c :: t).all figureB && (decide ((c :: t).length ≤ 200) && (decide (t = []) || !(decide (c = 48))))) := by
  unfold plainL
  by_cases hc : c = 48
  · subst hc
    by_cases ht : t = []
    · subst ht; simp
    · simp [ht]
  · have h2 : (c == 48) = false := by simpa using hc
    simp [hc, h2]
set_option maxRecDepth 100000 in
set_option maxHeartbeats 4000000 in
theorem plain03_any (s : List UInt8) (w : World) (hs : s.length ≤ 9223372036854775807) :
    Calls Tryd.prog 61 #[.string ⟨s.toArray⟩] w fun e w' => e = .returned (.bool (plainL s)) ∧ w = w' := by
  cases s with
  | nil =>
    have H := Lib.hid (show plainL [] = false by decide)
    go_enter Tryd.func61, Tryd.ntmps61
    go_wp2
    go_ret
    exact ⟨ret_bool H.out.symm, rfl⟩
  | cons c t =>
    by_cases hl : (c :: t).length ≤ 200
    · by_cases h48 : 1 < (t.length : Int) + 1 ∧ c = 48
      · have H := Lib.hid (show plainL (c :: t) = false by
          rw [plainL_cons]
          have : ¬ t = [] := by rintro rfl; simp at h48
          simp [this, h48.2])
        have hll : t.length + 1 ≤ 200 := by simpa using hl
        have b1 : (((t.length : Int) + 1) == 0) = false := by simp only [beq_eq_false_iff_ne, ne_eq]; omega
        have b2 : decide (200 < (t.length : Int) + 1) = false := by simp only [decide_eq_false_iff_not]; omega
        obtain ⟨h0, rfl⟩ := h48
        have e0 : ((⟨(48 :: t).toArray⟩ : ByteArray)[0]'(by simp [ByteArray.size])).toNat = 48 := rfl
        go_enter Tryd.func61, Tryd.ntmps61
        go_wp2
        go_ret
        exact ⟨ret_bool H.out.symm, rfl⟩
      · have h := plain03_loop c t w hl (by
          rcases Int.lt_or_le 1 ((t.length : Int) + 1) with h1 | h1
          · refine .inr ⟨h1, ?_⟩
            simp only [beq_eq_false_iff_ne, ne_eq]
            intro e
            exact h48 ⟨h1, UInt8.toNat_inj.1 (show c.toNat = (48 : UInt8).toNat by simp; omega)⟩
          · exact .inl (by omega))
        have e : plainL (c :: t) = (c :: t).all figureB := by
          rw [plainL_cons]
          have hor : t = [] ∨ ¬ c = 48 := by
            rcases Nat.eq_zero_or_pos t.length with h0 | h0
            · exact .inl (List.eq_nil_of_length_eq_zero h0)
            · exact .inr fun hc => h48 ⟨by omega, hc⟩
          rcases hor with h | h
          · simp [h]
          · have : t.length + 1 ≤ 200 := by simpa using hl
            simp [h, this]
        rw [e]
        exact h
    · have H := Lib.hid (show plainL (c :: t) = false by
        rw [plainL_cons]
        simp only [hl]
        simp)
      have hll : 200 < (t.length : Int) + 1 := by rw [List.length_cons] at hl; omega
      have b1 : (((t.length : Int) + 1) == 0) = false := by simp only [beq_eq_false_iff_ne, ne_eq]; omega
      go_enter Tryd.func61, Tryd.ntmps61
      go_wp2
      go_ret
      exact ⟨ret_bool H.out.symm, rfl⟩
end Go.Proofs.YteiipiomcbohnaaDoor.Ten
