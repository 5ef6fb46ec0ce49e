/-
  BigRests, walked.
-/
import Derived.Test.YteiipiomcbohnaaDoorBgZ
import Derived.Test.YteiipiomcbohnaaDoorBgLa
namespace Go.Proofs.YteiipiomcbohnaaDoor
set_option linter.unusedSimpArgs false
set_option linter.unusedVariables false
open Go.RowKit

/-- A text without its sign. -/
def amT : List UInt8 → List UInt8
  | [] => []
  | c :: t => if c = 45 then t else c :: t
set_option maxRecDepth 100000 in
theorem amount_any (s : List UInt8) (w : World) (hs : Fit s) : Calls Tryd.prog 21 #[.string ⟨s.toArray⟩] w fun e w' => e = .returned (.string ⟨(amT s).toArray⟩) ∧ Hid (Below w.heap.size w w') := by
  unfold Fit at hs
  cases s with
  | nil =>
    go_enter Tryd.func21, Tryd.ntmps21
    go_wp2
    go_ret
    exact ⟨rfl, Lib.hid (Below.refl _ _)⟩
  | cons c t =>
    by_cases hc : c = 45
    · subst hc
      have e0 : ((⟨(45 :: t).toArray⟩ : ByteArray)[0]'(by simp [ByteArray.size])).toNat = 45 := rfl
      have e1 : (⟨(45 :: t).toArray⟩ : ByteArray).extract 1 (t.length + 1) = ⟨t.toArray⟩ := cut_from (45 :: t) 1
      go_enter Tryd.func21, Tryd.ntmps21
      go_wp2
      go_ret
      exact ⟨by simp [amT], Lib.hid (Below.refl _ _)⟩
    · have e0 : ¬ ((⟨(c :: t).toArray⟩ : ByteArray)[0]'(by simp [ByteArray.size])).toNat = 45 := fun h => hc (UInt8.toNat_inj.1 h)
      go_enter Tryd.func21, Tryd.ntmps21
      go_wp2
      go_ret
      exact ⟨by simp [amT, hc], Lib.hid (Below.refl _ _)⟩
end Go.Proofs.YteiipiomcbohnaaDoor
