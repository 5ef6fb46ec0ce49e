/-
  the document's Compare.
-/
import Derived.Test.YteiipiomcbohnaaDoorTenR
import Derived.Test.YteiipiomcbohnaaDoorBgZ
namespace Go.Proofs.YteiipiomcbohnaaDoor.Ten
set_option linter.unusedSimpArgs false
set_option linter.unusedVariables false
open Go.RowKit

set_option maxRecDepth 100000 in
theorem cmp_bad1 (a b : List UInt8) (HRA : Hid (Gr 24 #[.string ⟨a.toArray⟩] (.bool false))) :
    Gr 25 #[.string ⟨a.toArray⟩, .string ⟨b.toArray⟩] (.int .i64 0) := by
  intro w
  go_enter Tryd.func25, Tryd.ntmps25
  go_wp2_with fail
  refine (HRA.out w).mono ?_
  rintro e v1 ⟨rfl, hv1⟩
  go_wp2
  go_ret
  exact ⟨rfl, hv1⟩
set_option maxRecDepth 100000 in
theorem cmp_bad2 (a b : List UInt8) (HRA : Hid (Gr 24 #[.string ⟨a.toArray⟩] (.bool true))) (HRB : Hid (Gr 24 #[.string ⟨b.toArray⟩] (.bool false))) :
    Gr 25 #[.string ⟨a.toArray⟩, .string ⟨b.toArray⟩] (.int .i64 0) := by
  intro w
  go_enter Tryd.func25, Tryd.ntmps25
  go_wp2_with fail
  refine (HRA.out w).mono ?_
  rintro e v1 ⟨rfl, hv1⟩
  go_wp2_with fail
  refine (HRB.out v1).mono ?_
  rintro e v2 ⟨rfl, hv2⟩
  go_wp2
  go_ret
  exact ⟨rfl, Lib.hid (bext hv1.out hv2.out)⟩
set_option maxRecDepth 100000 in
theorem cmp_same (a : List UInt8) (HRA : Hid (Gr 24 #[.string ⟨a.toArray⟩] (.bool true))) :
    Gr 25 #[.string ⟨a.toArray⟩, .string ⟨a.toArray⟩] (.int .i64 0) := by
  intro w
  go_enter Tryd.func25, Tryd.ntmps25
  go_wp2_with fail
  refine (HRA.out w).mono ?_
  rintro e v1 ⟨rfl, hv1⟩
  go_wp2_with fail
  refine (HRA.out v1).mono ?_
  rintro e v2 ⟨rfl, hv2⟩
  go_wp2
  go_ret
  exact ⟨rfl, Lib.hid (bext hv1.out hv2.out)⟩
set_option maxRecDepth 100000 in
set_option maxHeartbeats 2000000 in
theorem cmp_sign (a b X Y : List UInt8) (mx : Bool) (k : Int) (HRA : Hid (Gr 24 #[.string ⟨a.toArray⟩] (.bool true))) (HRB : Hid (Gr 24 #[.string ⟨b.toArray⟩] (.bool true)))
    (HA : Hid (Qt 39 #[.string ⟨a.toArray⟩] (.tuple #[.string ⟨X.toArray⟩, .bool mx, .bool true]))) (HB : Hid (Qt 39 #[.string ⟨b.toArray⟩] (.tuple #[.string ⟨Y.toArray⟩, .bool (!mx), .bool true])))
    (hne : (a == b) = false) (hk : Hid ((if mx then -1 else 1) = k)) :
    Gr 25 #[.string ⟨a.toArray⟩, .string ⟨b.toArray⟩] (.int .i64 k) := by
  intro w
  cases mx
  all_goals
    go_enter Tryd.func25, Tryd.ntmps25
    go_wp2_with fail
    refine (HRA.out w).mono ?_
    rintro e v1 ⟨rfl, hv1⟩
    go_wp2_with fail
    refine (HRB.out v1).mono ?_
    rintro e v2 ⟨rfl, hv2⟩
    go_wp2_with fail
    refine (HA.out v2).mono ?_
    rintro e w' ⟨rfl, h9⟩
    obtain rfl := h9
    go_wp2_with fail
    refine (HB.out v2).mono ?_
    rintro e w' ⟨rfl, h9⟩
    obtain rfl := h9
    go_wp2
    go_ret
    exact ⟨by rw [← hk.out]; rfl, Lib.hid (bext hv1.out hv2.out)⟩
set_option maxRecDepth 100000 in
set_option maxHeartbeats 2000000 in
theorem cmp_below (a b X Y : List UInt8) (mx bl : Bool) (k : Int) (HRA : Hid (Gr 24 #[.string ⟨a.toArray⟩] (.bool true))) (HRB : Hid (Gr 24 #[.string ⟨b.toArray⟩] (.bool true)))
    (HA : Hid (Qt 39 #[.string ⟨a.toArray⟩] (.tuple #[.string ⟨X.toArray⟩, .bool mx, .bool true]))) (HB : Hid (Qt 39 #[.string ⟨b.toArray⟩] (.tuple #[.string ⟨Y.toArray⟩, .bool mx, .bool true])))
    (HL : Hid (Qt 40 #[.string ⟨X.toArray⟩, .string ⟨Y.toArray⟩] (.bool bl)))
    (hne : (a == b) = false) (hk : Hid ((if bl != mx then -1 else 1) = k)) :
    Gr 25 #[.string ⟨a.toArray⟩, .string ⟨b.toArray⟩] (.int .i64 k) := by
  intro w
  cases mx <;> cases bl
  all_goals
    go_enter Tryd.func25, Tryd.ntmps25
    go_wp2_with fail
    refine (HRA.out w).mono ?_
    rintro e v1 ⟨rfl, hv1⟩
    go_wp2_with fail
    refine (HRB.out v1).mono ?_
    rintro e v2 ⟨rfl, hv2⟩
    go_wp2_with fail
    refine (HA.out v2).mono ?_
    rintro e w' ⟨rfl, h9⟩
    obtain rfl := h9
    go_wp2_with fail
    refine (HB.out v2).mono ?_
    rintro e w' ⟨rfl, h9⟩
    obtain rfl := h9
    go_wp2_with fail
    refine (HL.out v2).mono ?_
    rintro e w' ⟨rfl, h9⟩
    obtain rfl := h9
    go_wp2
    go_ret
    exact ⟨by rw [← hk.out]; rfl, Lib.hid (bext hv1.out hv2.out)⟩
theorem cmp_ref (a b : List UInt8) (ha : a.length ≤ 1000) (hb : b.length ≤ 1000) :
    Gr 25 #[.string ⟨a.toArray⟩, .string ⟨b.toArray⟩] (.int .i64 (cmpT a b)) := by
  cases h1 : numR a with
  | none =>
    rw [show cmpT a b = 0 by unfold cmpT; rw [h1]]
    exact cmp_bad1 a b (rt_any (by rw [h1]; rfl) ha)
  | some x =>
    have HRA := rt_any (v := true) (by rw [h1]; rfl) ha
    cases h2 : numR b with
    | none =>
      rw [show cmpT a b = 0 by unfold cmpT; rw [h1, h2]]
      exact cmp_bad2 a b HRA (rt_any (by rw [h2]; rfl) hb)
    | some y =>
      rw [cmp_of h1 h2]
      by_cases he : a = b
      · subst he
        rw [h1] at h2
        rw [cmpI_z (Option.some.inj h2)]
        exact cmp_same a HRA
      · have hxy : x ≠ y := by
          rintro rfl
          exact he ((numR_text h1).1.trans (numR_text h2).1.symm)
        have HRB := rt_any (v := true) (by rw [h2]; rfl) hb
        have HA := am_num h1 ha
        have HB := am_num h2 hb
        have hne : (a == b) = false := by simpa using he
        have s1 := small_320 (num_lt h1)
        have s2 := small_320 (num_lt h2)
        by_cases hm : decide (y < 0) = !decide (x < 0)
        · rw [hm] at HB
          refine cmp_sign a b _ _ _ _ HRA HRB HA HB hne (Lib.hid ?_)
          unfold Go.Proofs.YteiipiomcbohnaaDoor.cmpI
          by_cases hx : x < 0 <;> by_cases hy : y < 0 <;> simp [hx, hy] at hm ⊢ <;> omega
        · have hm2 : decide (y < 0) = decide (x < 0) := by cases h3 : decide (y < 0) <;> cases h4 : decide (x < 0) <;> simp [h3, h4] at hm ⊢
          rw [hm2] at HB
          refine cmp_below a b _ _ _ _ _ HRA HRB HA HB (hid_below x.natAbs y.natAbs s1 s2 rfl) hne (Lib.hid ?_)
          unfold Go.Proofs.YteiipiomcbohnaaDoor.cmpI
          by_cases hx : x < 0 <;> by_cases hy : y < 0 <;> simp [hx, hy] at hm2 ⊢ <;> by_cases hl : x.natAbs < y.natAbs <;> first | omega | (simp [hl]; done) | (simp [hl]; omega)
end Go.Proofs.YteiipiomcbohnaaDoor.Ten
