/-
  Amount by numB.
-/
import Derived.Test.YteiipiomcbohnaaDoorTenJ
namespace Go.Proofs.YteiipiomcbohnaaDoor.Ten
set_option linter.unusedSimpArgs false
set_option linter.unusedVariables false
open Go.RowKit

theorem amA_pos {s : List UInt8} (h0 : s.head? ≠ some 45) : amA s = .tuple #[.string ⟨(if plB s then s else []).toArray⟩, .bool false, .bool (plB s)] := by
  unfold amA numB
  rw [if_neg h0]
  cases hp : plB s with
  | false => simp
  | true =>
    obtain ⟨h1, -, h3⟩ := plB_dec hp
    have hr := (dval_rng _ s rfl h3).1
    simp only [if_true]
    rw [show decide (dval s < 0) = false by simpa using hr, show (dval s).natAbs = (dval s).toNat by omega, ← h1]
theorem amA_neg (t : List UInt8) : amA (45 :: t) = .tuple #[.string ⟨(if plB t && !(t == [48]) then t else []).toArray⟩, .bool (plB t && !(t == [48])), .bool (plB t && !(t == [48]))] := by
  unfold amA numB
  rw [if_pos (by rfl)]
  have h45 : ((45 :: t : List UInt8) == [45, 48]) = (t == [48]) := by simp
  simp only [List.drop_succ_cons, List.drop_zero, h45]
  cases hp : plB t with
  | false => simp
  | true =>
    cases h48 : (t == [48]) with
    | true => simp
    | false =>
      obtain ⟨h1, -, h3⟩ := plB_dec hp
      have hr := (dval_rng _ t rfl h3).1
      have hne : dval t ≠ 0 := by
        intro e
        rw [e] at h1
        have : t = [48] := by rw [h1]; exact dec_zero
        rw [this] at h48
        exact absurd h48 (by decide)
      simp only [Bool.not_false, Bool.and_self, if_true]
      rw [show decide (-dval t < 0) = true by simp; omega, show (-dval t).natAbs = (dval t).toNat by omega, ← h1]
theorem amount_ref (s : List UInt8) (w : World) (hs : s.length ≤ 1000) :
    Calls Tryd.prog 39 #[.string ⟨s.toArray⟩] w fun e w' => e = .returned (amA s) ∧ w = w' := by
  by_cases h : s.head? = some 45
  · cases s with
    | nil => cases h
    | cons c t =>
      obtain rfl : c = 45 := by simpa using h
      rw [amA_neg]
      exact amount_neg t w (by simp at hs; omega)
  · rw [amA_pos h]
    exact amount_pos s w hs h
end Go.Proofs.YteiipiomcbohnaaDoor.Ten
