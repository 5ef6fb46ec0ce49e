/-
  VerPaths, walked.
-/
import Derived.Test.YtgldnkpanimihaaDoorVrG
namespace Go.Proofs.YtgldnkpanimihaaDoor
set_option linter.unusedSimpArgs false
set_option linter.unusedVariables false
open Go.RowKit

theorem split_app (c : UInt8) : ∀ (a b : List UInt8), splitL c (a ++ c :: b) = splitL c a ++ splitL c b
  | [], b => by rw [List.nil_append, splitL_cons, if_pos rfl]; rfl
  | x :: t, b => by
    rw [List.cons_append, splitL_cons, splitL_cons, split_app c t b]
    split
    · rfl
    · cases h : splitL c t with
      | nil => exact absurd h (splitL_ne c t)
      | cons l r => rfl
theorem path_app {a b : List UInt8} (ha : a.length ≤ 99) (hb : b.length ≤ 99) : pathL (a ++ 47 :: b) = (pathL a && pathL b) := by
  unfold pathL
  rw [split_app, List.all_append, show decide ((a ++ 47 :: b).length ≤ 200) = true by simp; omega, show decide (a.length ≤ 200) = true by simp; omega, show decide (b.length ≤ 200) = true by simp; omega]
  simp
theorem app3 (a b : List UInt8) : ((⟨a.toArray⟩ : ByteArray) ++ ⟨#[47]⟩ ++ ⟨b.toArray⟩) = ⟨(a ++ 47 :: b).toArray⟩ := by
  apply ByteArray.ext
  simp
set_option maxRecDepth 100000 in
set_option maxHeartbeats 4000000 in
theorem paths_in (A B : List UInt8) (w : World) (hE : Env w) (ha : A.length ≤ 99) (hb : B.length ≤ 99) : Calls Tryd.prog 5 #[.string ⟨A.toArray⟩, .string ⟨B.toArray⟩] w (Good w) := by
  have H1 := Lib.hid fun w2 => path_any (A ++ 47 :: B) w2 (by simp; omega)
  have H2 := Lib.hid fun w2 => path_any A w2 (by omega)
  have H3 := Lib.hid fun w2 => path_any B w2 (by omega)
  rw [path_app ha hb] at H1
  rw [← app3] at H1
  have HE := Lib.hid hE
  clear hE
  cases hpa : pathL A with
  | false =>
    rw [hpa] at H1 H2
    have H1 : Hid (∀ w2, Calls Tryd.prog 13 #[.string ((⟨A.toArray⟩ : ByteArray) ++ ⟨#[47]⟩ ++ ⟨B.toArray⟩)] w2 fun e w' => e = .returned (.bool false) ∧ Hid (Below w2.heap.size w2 w')) := H1
    clear hpa
    go_enter Tryd.func5, Tryd.ntmps5
    go_wp2_with fail
    refine (H1.out w).mono ?_
    rintro e w1 ⟨rfl, h1⟩
    go_wp2_with fail
    refine (H2.out w1).mono ?_
    rintro e w2 ⟨rfl, h2⟩
    go_wp2_with fail
    refine (awake_any w2 ((HE.out.on h1.out).on h2.out)).mono ?_
    rintro e w3 ⟨rfl, h3⟩
    go_wp2
    go_ret
    exact ⟨rfl, bext (bext h1.out h2.out) h3.out⟩
  | true =>
    cases hpb : pathL B with
    | false =>
      rw [hpa, hpb] at H1
      rw [hpa] at H2
      rw [hpb] at H3
      have H1 : Hid (∀ w2, Calls Tryd.prog 13 #[.string ((⟨A.toArray⟩ : ByteArray) ++ ⟨#[47]⟩ ++ ⟨B.toArray⟩)] w2 fun e w' => e = .returned (.bool false) ∧ Hid (Below w2.heap.size w2 w')) := H1
      clear hpa hpb
      go_enter Tryd.func5, Tryd.ntmps5
      go_wp2_with fail
      refine (H1.out w).mono ?_
      rintro e w1 ⟨rfl, h1⟩
      go_wp2_with fail
      refine (H2.out w1).mono ?_
      rintro e w2 ⟨rfl, h2⟩
      go_wp2_with fail
      refine (H3.out w2).mono ?_
      rintro e w3 ⟨rfl, h3⟩
      go_wp2_with fail
      refine (awake_any w3 (((HE.out.on h1.out).on h2.out).on h3.out)).mono ?_
      rintro e w4 ⟨rfl, h4⟩
      go_wp2
      go_ret
      exact ⟨rfl, bext (bext (bext h1.out h2.out) h3.out) h4.out⟩
    | true =>
      rw [hpa, hpb] at H1
      rw [hpa] at H2
      rw [hpb] at H3
      have H1 : Hid (∀ w2, Calls Tryd.prog 13 #[.string ((⟨A.toArray⟩ : ByteArray) ++ ⟨#[47]⟩ ++ ⟨B.toArray⟩)] w2 fun e w' => e = .returned (.bool true) ∧ Hid (Below w2.heap.size w2 w')) := H1
      clear hpa hpb
      go_enter Tryd.func5, Tryd.ntmps5
      go_wp2_with fail
      refine (H1.out w).mono ?_
      rintro e w1 ⟨rfl, h1⟩
      go_wp2_with fail
      refine (H2.out w1).mono ?_
      rintro e w2 ⟨rfl, h2⟩
      go_wp2_with fail
      refine (H3.out w2).mono ?_
      rintro e w3 ⟨rfl, h3⟩
      go_wp2_with fail
      refine (awake_any w3 (((HE.out.on h1.out).on h2.out).on h3.out)).mono ?_
      rintro e w4 ⟨rfl, h4⟩
      go_wp2
      go_ret
      exact ⟨rfl, bext (bext (bext h1.out h2.out) h3.out) h4.out⟩
set_option maxRecDepth 100000 in
set_option maxHeartbeats 4000000 in
theorem paths_law (A B : List UInt8) (w : World) (hE : Env w) (ha : A.length ≤ 9223372036854775807) (hb : B.length ≤ 9223372036854775807) : Calls Tryd.prog 5 #[.string ⟨A.toArray⟩, .string ⟨B.toArray⟩] w (Good w) := by
  by_cases h1 : 99 < (A.length : Int)
  · clear hE
    go_enter Tryd.func5, Tryd.ntmps5
    go_wp2
    go_ret
    exact ⟨rfl, Below.refl _ _⟩
  · by_cases h2 : 99 < (B.length : Int)
    · clear hE
      go_enter Tryd.func5, Tryd.ntmps5
      go_wp2
      go_ret
      exact ⟨rfl, Below.refl _ _⟩
    · exact paths_in A B w hE (by omega) (by omega)
end Go.Proofs.YtgldnkpanimihaaDoor
