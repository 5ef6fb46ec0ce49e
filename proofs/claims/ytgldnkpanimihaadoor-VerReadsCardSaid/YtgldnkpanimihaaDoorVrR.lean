/-
  the document's figures, Text, Path.
-/
import Derived.Test.YtgldnkpanimihaaDoorVrN
namespace Go.Proofs.YtgldnkpanimihaaDoor.Rf
set_option linter.unusedSimpArgs false
set_option linter.unusedVariables false
open Go.RowKit

theorem byte_at (s : List UInt8) (i : Nat) (h : i < s.length) : ((⟨s.toArray⟩ : ByteArray)[i]'(by simpa [ByteArray.size] using h)) = s[i] := by simp [ByteArray.getElem_eq_getElem_data]
set_option maxRecDepth 100000 in
set_option maxHeartbeats 2000000 in
theorem figures_any (s : List UInt8) (w : World) (hs : s.length ≤ 1000) :
    Calls Tryd.prog 30 #[.string ⟨s.toArray⟩] w fun e w' => e = .returned (.bool (allB figureI s)) ∧ w = w' := by
  go_enter Tryd.func30, Tryd.ntmps30
  go_wp2
  go_loopw [3] (fun i wr => ∃ k : Nat, k ≤ s.length ∧ i = .int .i64 k ∧ Hid ((s.take k).all figureB = true) ∧ w = wr) (fun i _ => s.length - (intOf i).toNat)
  case atStart => exact ⟨0, by omega, rfl, Lib.hid rfl, rfl⟩
  case round =>
    obtain ⟨k, hk, rfl, HV, rfl⟩ := hrel
    by_cases hlt : k < s.length
    · have e2 := byte_at s k hlt
      have htk : s.take (k + 1) = s.take k ++ [s[k]] := by rw [List.take_add_one, List.getElem?_eq_getElem hlt]; rfl
      obtain ⟨d, hd⟩ : ∃ d, s[k] = d := ⟨_, rfl⟩
      rw [hd] at e2 htk
      have hu := d.toNat_lt
      by_cases hf : 48 ≤ (d.toNat : Int) ∧ (d.toNat : Int) ≤ 57
      · have HV2 := Lib.hid (show (s.take (k + 1)).all figureB = true by rw [htk, List.all_append, HV.out]; simp [figB.2 hf])
        obtain ⟨f0, f1⟩ := hf
        clear htk hd
        go_wp2
        go_roundw
        case rel => exact ⟨k + 1, by omega, by go_num, HV2, by first | trivial | rfl⟩
        case measure => simp [intOf]; omega
      · have HF := Lib.hid (show allB figureI s = false by
          rw [all_figs]
          have : s.all figureB = false := by
            rw [← Bool.not_eq_true, List.all_eq_true]
            intro ha
            exact hf (figB.1 (ha d (by rw [← hd]; exact List.getElem_mem hlt)))
          rw [this]; simp)
        clear htk hd
        rcases (show (d.toNat : Int) < 48 ∨ (¬ (d.toNat : Int) < 48 ∧ 57 < (d.toNat : Int)) by omega) with hq | ⟨hq2, hq⟩
        · clear hf
          go_wp2
          go_ret
          exact ⟨ret_bool HF.out.symm, rfl⟩
        · clear hf
          go_wp2
          go_ret
          exact ⟨ret_bool HF.out.symm, rfl⟩
    · have HT := Lib.hid (show allB figureI s = decide (0 < s.length) by
        have h := HV.out
        rw [List.take_of_length_le (by omega)] at h
        rw [all_figs, h]
        cases s <;> simp)
      go_wp2
      go_ret
      exact ⟨ret_bool HT.out.symm, rfl⟩
theorem ten_cut : ∀ j : Nat, j < 10 → (⟨#[48, 49, 50, 51, 52, 53, 54, 55, 56, 57]⟩ : ByteArray).extract j (j + 1) = ⟨#[UInt8.ofNat (48 + j)]⟩ := by decide +kernel
theorem text_two : ∀ m : Nat, m < 100 → 10 ≤ m → Lib.decDigits m = [UInt8.ofNat (48 + m / 10), UInt8.ofNat (48 + m % 10)] := by decide +kernel

set_option maxRecDepth 100000 in
set_option maxHeartbeats 2000000 in
theorem text_ref (m : Int) (w : World) :
    Calls Tryd.prog 18 #[.int .i64 m] w fun e w' => e = .returned (.string ⟨(textL m).toArray⟩) ∧ Hid (Below w.heap.size w w') := by
  by_cases h0 : m < 0
  · have H := Lib.hid (show textL m = [] by unfold textL; rw [if_neg (by omega)])
    go_enter Tryd.func18, Tryd.ntmps18
    go_wp2
    go_ret
    exact ⟨by rw [H.out]; rfl, Lib.hid (Below.refl _ _)⟩
  · by_cases h1 : 99 < m
    · have H := Lib.hid (show textL m = [] by unfold textL; rw [if_neg (by omega)])
      go_enter Tryd.func18, Tryd.ntmps18
      go_wp2
      go_ret
      exact ⟨by rw [H.out]; rfl, Lib.hid (Below.refl _ _)⟩
    · obtain ⟨k, rfl⟩ : ∃ k : Nat, m = k := ⟨m.toNat, by omega⟩
      have hT : textL (k : Int) = 49 :: 46 :: Lib.decDigits k := by unfold textL; rw [if_pos (by omega), itoa_nat]
      by_cases h10 : (k : Int) < 10
      · have hc := ten_cut k (by omega)
        have H := Lib.hid (show textL (k : Int) = [49, 46, UInt8.ofNat (48 + k)] by rw [hT, dec_small (by omega)])
        obtain ⟨f, hf⟩ : ∃ f, UInt8.ofNat (48 + k) = f := ⟨_, rfl⟩
        rw [hf] at hc H
        clear hT hf
        go_enter Tryd.func18, Tryd.ntmps18
        go_wp2
        go_ret
        exact ⟨by rw [H.out]; rfl, Lib.hid (Below.refl _ _)⟩
      · have hc := ten_cut (k / 10) (by omega)
        have hc2 := ten_cut (k % 10) (by omega)
        have H := Lib.hid (show textL (k : Int) = [49, 46, UInt8.ofNat (48 + k / 10), UInt8.ofNat (48 + k % 10)] by rw [hT, text_two k (by omega) (by omega)])
        obtain ⟨f, hf⟩ : ∃ f, UInt8.ofNat (48 + k / 10) = f := ⟨_, rfl⟩
        obtain ⟨g, hg⟩ : ∃ g, UInt8.ofNat (48 + k % 10) = g := ⟨_, rfl⟩
        rw [hf, hg] at H
        rw [hf] at hc
        rw [hg] at hc2
        obtain ⟨q, hq⟩ : ∃ q : Nat, (k : Int) / 10 = q := ⟨k / 10, by omega⟩
        obtain ⟨r, hr⟩ : ∃ r : Nat, (k : Int) % 10 = r := ⟨k % 10, by omega⟩
        rw [show k / 10 = q by omega] at hc
        rw [show k % 10 = r by omega] at hc2
        have q0 : (q : Int) ≤ 9 := by omega
        have r0 : (r : Int) ≤ 9 := by omega
        clear hT hf hg
        go_enter Tryd.func18, Tryd.ntmps18
        go_wp2_with fail
        go_quiet (fail)
        go_wp2
        go_ret
        exact ⟨by rw [H.out]; rfl, Lib.hid (below_drewN (Below.refl _ _) _)⟩
end Go.Proofs.YtgldnkpanimihaaDoor.Rf
