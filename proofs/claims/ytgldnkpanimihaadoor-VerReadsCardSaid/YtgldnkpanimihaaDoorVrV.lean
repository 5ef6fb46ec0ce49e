/-
  VerMinors, walked.
-/
import Derived.Test.YtgldnkpanimihaaDoorVrU
namespace Go.Proofs.YtgldnkpanimihaaDoor
set_option linter.unusedSimpArgs false
set_option linter.unusedVariables false
open Go.RowKit

set_option maxRecDepth 100000 in
set_option maxHeartbeats 16000000 in
theorem minors_in (s : List UInt8) (m : Int) (w : World) (hE : Env w) (hs : s.length ≤ 300) : Calls Tryd.prog 7 #[.string ⟨s.toArray⟩, .int .i64 m] w (Good w) := by
  have HE := Lib.hid hE
  have H1 := minor_any s w hE (by omega)
  have H2 := fun w2 => Rf.minor_ref s w2 (by omega)
  unfold MinPost at H1 H2
  obtain ⟨v, hv⟩ : ∃ v, (minorG s).1 = v := ⟨_, rfl⟩
  obtain ⟨u, hu⟩ : ∃ v, (minorG s).2 = v := ⟨_, rfl⟩
  rw [hv, hu] at H1
  simp only [hv, hu] at H2
  have H1 := Lib.hid H1
  have H2 := Lib.hid H2
  clear hE hv hu
  go_enter Tryd.func7, Tryd.ntmps7
  go_wp2_with fail
  refine H1.out.mono ?_
  rintro e w1 ⟨rfl, h1⟩
  go_wp2_with fail
  refine (H2.out w1).mono ?_
  rintro e w2 ⟨rfl, h2⟩
  have HB := Lib.hid (bext h1.out h2.out)
  go_wp2_with fail
  refine (path_any _ _ (by omega)).mono ?_
  rintro e w3 ⟨rfl, h3⟩
  have HB := Lib.hid (bext HB.out h3.out)
  go_wp2_with fail
  refine (Rf.path_ref _ _ (by omega)).mono ?_
  rintro e w' ⟨rfl, h9⟩
  obtain rfl := h9
  go_wp2_with fail
  refine (text_any _ _).mono ?_
  rintro e w' ⟨rfl, h9⟩
  obtain rfl := h9
  go_wp2_with fail
  refine (Rf.text_ref _ _).mono ?_
  rintro e w4 ⟨rfl, h4⟩
  have HB := Lib.hid (bext HB.out h4.out)
  go_wp2_with fail
  refine (awake_any _ (HE.out.on HB.out)).mono ?_
  rintro e w5 ⟨rfl, h5⟩
  go_wp2
  go_ret
  exact ⟨rfl, bext HB.out h5.out⟩
theorem minors_law (s : List UInt8) (m : Int) (w : World) (hE : Env w) (hs : s.length ≤ 9223372036854775807) : Calls Tryd.prog 7 #[.string ⟨s.toArray⟩, .int .i64 m] w (Good w) := by
  by_cases h1 : 300 < (s.length : Int)
  · clear hE
    go_enter Tryd.func7, Tryd.ntmps7
    go_wp2
    go_ret
    exact ⟨rfl, Below.refl _ _⟩
  · exact minors_in s m w hE (by omega)
end Go.Proofs.YtgldnkpanimihaaDoor
