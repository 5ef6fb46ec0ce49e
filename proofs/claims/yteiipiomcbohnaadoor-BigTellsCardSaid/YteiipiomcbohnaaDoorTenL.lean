/-
  the document's limit.
-/
import Derived.Test.YteiipiomcbohnaaDoorTenK
namespace Go.Proofs.YteiipiomcbohnaaDoor.Ten
set_option linter.unusedSimpArgs false
set_option linter.unusedVariables false
open Go.RowKit

theorem add_p2 (k : Nat) (hk : k ≤ 512) (A B : List UInt8) (hA : Lib.decDigits (p2 k) = A) (hB : Lib.decDigits (p2 (k + 1)) = B) (w : World) :
    Calls Tryd.prog 52 #[.string ⟨A.toArray⟩, .string ⟨A.toArray⟩] w fun e w' => e = .returned (.string ⟨B.toArray⟩) ∧ Hid (Below w.heap.size w w') := by
  subst hA
  subst hB
  have hl : (Lib.decDigits (p2 k)).length ≤ 160 := dec_len_le (k := 160) (Nat.lt_of_le_of_lt (p2_mono hk) (Nat.lt_of_le_of_lt p2_160 (by decide))) (by decide)
  have h := add_any (Lib.decDigits (p2 k)) (Lib.decDigits (p2 k)) w (dec_all _) (dec_all _) (by omega) (by omega)
  rw [dval_dec, show ((p2 k : Int) + (p2 k : Int)).toNat = p2 (k + 1) by rw [← p2_succ]; omega] at h
  exact h
set_option maxRecDepth 100000 in
set_option maxHeartbeats 4000000 in
theorem limit_any (w : World) : Calls Tryd.prog 41 #[] w fun e w' => e = .returned (.string ⟨(Lib.decDigits (p2 512)).toArray⟩) ∧ Hid (Below w.heap.size w w') := by
  obtain ⟨V, hV⟩ : ∃ V, Lib.decDigits (p2 512) = V := ⟨_, rfl⟩
  rw [hV]
  have HV := Lib.hid hV
  have H0 := Lib.hid (show Lib.decDigits (p2 0) = [49] by decide +kernel)
  clear hV
  go_enter Tryd.func41, Tryd.ntmps41
  go_wp2
  go_loopw [1, 2] (fun s i wr => ∃ (k : Nat) (A : List UInt8), k ≤ 512 ∧ i = .int .i64 k ∧ s = .string ⟨A.toArray⟩ ∧ Hid (Lib.decDigits (p2 k) = A) ∧ Hid (Below w.heap.size w wr))
    (fun _ i _ => 512 - (intOf i).toNat)
  case atStart => exact ⟨0, [49], by omega, rfl, rfl, H0, Lib.hid (Below.refl _ _)⟩
  case round =>
    obtain ⟨k, A, hk, rfl, rfl, hA, hb⟩ := hrel
    by_cases hlt : k < 512
    · obtain ⟨B, hB⟩ : ∃ B, Lib.decDigits (p2 (k + 1)) = B := ⟨_, rfl⟩
      have HS := Lib.hid (add_p2 k hk A B hA.out hB wr)
      have HB := Lib.hid hB
      clear hB
      go_wp2_with fail
      refine HS.out.mono ?_
      rintro e w2 ⟨rfl, hw2⟩
      go_wp2
      go_roundw
      case rel => exact ⟨k + 1, B, by omega, by go_num, rfl, HB, Lib.hid (hb.out.trans (hw2.out.mono hb.out.size))⟩
      case measure => simp [intOf]; omega
    · obtain rfl : k = 512 := by omega
      go_wp2
      go_ret
      exact ⟨by rw [← HV.out, hA.out]; rfl, hb⟩
end Go.Proofs.YteiipiomcbohnaaDoor.Ten
