import Derived.Test.YtnmebgiiajnnjaaTokW
namespace Go.Proofs.Ytnmebgiiajnnjaa
set_option linter.unusedSimpArgs false
set_option linter.unusedVariables false
open Go.RowKit
set_option maxHeartbeats 400000 in
theorem name_any (l : List UInt8) (w : World) (hl : l.length ≤ 9223372036854775807) :
    Calls Try.prog 32 #[.string ⟨l.toArray⟩] w fun e w' => e = .returned (.bool (nameL l)) ∧ Below w.heap.size w w' := by
  go_enter Try.func32, Try.ntmps32
  by_cases h : l.length ≤ 100
  · have hn : nameL l = nameT l := by simp [nameL, h]
    have Hn := Lib.hid hn
    clear hn
    go_wp2_with (go_at_call 39; refine (tname_any _ _ (by omega)).mono ?_; rintro e w' ⟨rfl, hb⟩)
    go_ret
    exact ⟨ret_bool Hn.out.symm, hb⟩
  · have hn : nameL l = false := by simp [nameL, h]
    have Hn := Lib.hid hn
    clear hn
    go_wp2_with fail
    go_ret
    exact ⟨ret_bool Hn.out.symm, Below.refl _ _⟩

set_option maxHeartbeats 400000 in
theorem bound_any (l : List UInt8) (w : World) (hl : l.length ≤ 9223372036854775807) :
    Calls Try.prog 78 #[.string ⟨l.toArray⟩] w fun e w' => e = .returned (.bool (boundL l)) ∧ Below w.heap.size w w' := by
  go_enter Try.func78, Try.ntmps78
  go_wp2_with (go_at_call 32; refine (name_any _ _ hl).mono ?_; rintro e w' ⟨rfl, hb⟩)
  all_goals
    go_ret
    refine ⟨ret_bool ?_, hb⟩
    simp_all [boundL]

set_option maxHeartbeats 400000 in
theorem unary_any (l : List UInt8) (w : World) :
    Calls Try.prog 54 #[.string ⟨l.toArray⟩] w fun e w' => e = .returned (.bool (unaryL l)) ∧ Below w.heap.size w w' := by
  go_enter Try.func54, Try.ntmps54
  cases h : (l == [45]) <;> go_wp2
  all_goals
    go_ret
    refine ⟨ret_bool ?_, Below.refl _ _⟩
    simp_all [unaryL]

theorem cat2 (a b : List UInt8) : (⟨a.toArray⟩ : ByteArray) ++ ⟨b.toArray⟩ = ⟨(a ++ b).toArray⟩ := by
  apply ByteArray.ext; simp
theorem cat3 (a b c : List UInt8) : (⟨a.toArray⟩ : ByteArray) ++ ⟨b.toArray⟩ ++ ⟨c.toArray⟩ = ⟨(a ++ b ++ c).toArray⟩ := by rw [cat2, cat2]

set_option maxHeartbeats 400000 in
theorem binary_any (l : List UInt8) (w : World) (hg : Glob w) (hl : l.length ≤ 140737488351232) :
    Calls Try.prog 55 #[.string ⟨l.toArray⟩] w fun e w' => e = .returned (.bool (binaryL l)) ∧ Below w.heap.size w w' := by
  obtain ⟨m, hm⟩ := hg
  cases he : l.isEmpty with
  | true =>
    have hb : binaryL l = false := by simp [binaryL, he]
    have Hb := Lib.hid hb
    clear hb
    go_enter Try.func55, Try.ntmps55
    go_wp2_with fail
    go_ret
    exact ⟨ret_bool Hb.out.symm, Below.refl _ _⟩
  | false =>
    cases hc : decide (0 ≤ Lib.indexByte l 32) with
    | true =>
      have hb : binaryL l = false := by simp [binaryL, hc]
      have Hb := Lib.hid hb
      have H := Try.strings_Contains_one ⟨l.toArray⟩ 32 w
      rw [show decide (0 ≤ Lib.indexByte (⟨l.toArray⟩ : ByteArray).data.toList 32) = true from hc] at H
      clear hb hc
      go_enter Try.func55, Try.ntmps55
      go_wp2_with fail
      refine H.mono ?_
      rintro e w' ⟨rfl, rfl⟩
      go_wp2_with fail
      go_ret
      exact ⟨ret_bool Hb.out.symm, Below.refl _ _⟩
    | false =>
      have hb : binaryL l = Lib.contains signsText ([32] ++ l ++ [32]) := by simp [binaryL, hc, he]
      have Hb := Lib.hid hb
      have H := Try.strings_Contains_one ⟨l.toArray⟩ 32 w
      rw [show decide (0 ≤ Lib.indexByte (⟨l.toArray⟩ : ByteArray).data.toList 32) = false from hc] at H
      have H2 : Calls Try.prog 77 #[.string ⟨#[32, 43, 32, 45, 32, 42, 32, 47, 32, 37, 32, 61, 61, 32, 33, 61, 32, 60, 32, 60, 61, 32, 62, 32, 62, 61, 32, 38, 38, 32, 124, 124, 32]⟩, .string ⟨([32] ++ l ++ [32]).toArray⟩] w fun e w' =>
          e = .returned (.bool (Lib.contains signsText ([32] ++ l ++ [32]))) ∧ w' = w :=
        Try.strings_Contains _ _ m w (by decide) hm
      clear hb hc hm
      go_enter Try.func55, Try.ntmps55
      go_wp2_with fail
      refine H.mono ?_
      rintro e w' ⟨rfl, rfl⟩
      go_wp2_with fail
      rw [show (({ data := #[32] } : ByteArray) ++ { data := l.toArray } ++ { data := #[32] }) = ⟨([32] ++ l ++ [32]).toArray⟩ from cat3 [32] l [32]]
      refine H2.mono ?_
      rintro e w' ⟨rfl, rfl⟩
      go_wp2_with fail
      go_ret
      exact ⟨ret_bool Hb.out.symm, Below.refl _ _⟩

set_option maxHeartbeats 400000 in
theorem ranged_any (l : List UInt8) (w : World) (hl : l.length ≤ 140737488351232) :
    Calls Try.prog 63 #[.string ⟨l.toArray⟩] w fun e w' => e = .returned (.bool (rangedL l)) ∧ Below w.heap.size w w' := by
  by_cases hm : 44 ∈ l
  · obtain ⟨pre, post, e, hp⟩ := parts_of hm
    have hb : rangedL l = (nameL pre && boundL post) := by rw [e, ranged_two hp]
    have H := fun w => cut_yes pre post 44 w hp l e (by omega)
    have h1 : pre.length ≤ 140737488351232 := by have := congrArg List.length e; simp at this; omega
    have h2 : post.length ≤ 140737488351232 := by have := congrArg List.length e; simp at this; omega
    have h3 : l.isEmpty = false := by rw [e]; simp
    have Hb := Lib.hid hb
    have HH := Lib.hid H
    clear hb H e hm
    cases e1 : nameL pre <;> cases e2 : boundL post
    all_goals
      go_enter Try.func63, Try.ntmps63
      go_wp2_with fail
      refine (HH.out _).mono ?_
      rintro e w1 ⟨rfl, hb1⟩
      go_wp2_with (first | (go_at_call 32; refine (name_any _ _ (by omega)).mono ?_; rintro e w' ⟨rfl, hb2⟩) | (go_at_call 78; refine (bound_any _ _ (by omega)).mono ?_; rintro e w' ⟨rfl, hb3⟩))
      go_ret
      exact ⟨ret_bool (by rw [Hb.out]; simp_all), by first | exact bext hb1 (bext hb2 hb3) | exact bext hb1 hb2⟩
  · have hb : rangedL l = (l.isEmpty || boundL l) := ranged_one hm
    have H := fun w => cut_no l 44 w hm
    have Hb := Lib.hid hb
    have HH := Lib.hid H
    clear hb H hm
    cases e1 : l.isEmpty <;> cases e2 : boundL l
    all_goals
      go_enter Try.func63, Try.ntmps63
      go_wp2_with fail
      refine (HH.out _).mono ?_
      rintro e w1 ⟨rfl, hb1⟩
      go_wp2_with (first | (go_at_call 32; refine (name_any _ _ (by omega)).mono ?_; rintro e w' ⟨rfl, hb2⟩) | (go_at_call 78; refine (bound_any _ _ (by omega)).mono ?_; rintro e w' ⟨rfl, hb3⟩))
      go_ret
      exact ⟨ret_bool (by rw [Hb.out]; simp_all), by first | exact bext hb1 hb3 | exact hb1⟩
end Go.Proofs.Ytnmebgiiajnnjaa
