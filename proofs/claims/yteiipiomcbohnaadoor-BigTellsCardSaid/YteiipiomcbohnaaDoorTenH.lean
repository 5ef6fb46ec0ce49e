/-
  the document's signed and Plain.
-/
import Derived.Test.YteiipiomcbohnaaDoorTenG
namespace Go.Proofs.YteiipiomcbohnaaDoor.Ten
set_option linter.unusedSimpArgs false
set_option linter.unusedVariables false
open Go.RowKit

theorem signed_text (m : Bool) (n : Nat) (h : m = true → n ≠ 0) : Lib.itoa (sg m n) = if m then 45 :: Lib.decDigits n else Lib.decDigits n := by
  unfold Lib.itoa sg
  cases m with
  | false => simp
  | true =>
    have := h rfl
    simp only [if_true]
    rw [if_pos (by omega)]
    simp
set_option maxRecDepth 100000 in
theorem signed_any (m : Bool) (n : Nat) (w : World) (hn : (Lib.decDigits n).length ≤ 900) :
    Calls Tryd.prog 51 #[.string ⟨(Lib.decDigits n).toArray⟩, .bool m] w fun e w' => e = .returned (.string ⟨(Lib.itoa (sg m n)).toArray⟩) ∧ w = w' := by
  cases m with
  | false =>
    have H := Lib.hid (signed_text false n (fun h => by cases h))
    go_enter Tryd.func51, Tryd.ntmps51
    go_wp2
    go_ret
    exact ⟨by rw [H.out]; rfl, rfl⟩
  | true =>
    by_cases h0 : n = 0
    · subst h0
      rw [dec_zero] at hn ⊢
      have H := Lib.hid (show Lib.itoa (sg true (0 : Nat)) = [48] from itoa_0)
      go_enter Tryd.func51, Tryd.ntmps51
      go_wp2
      go_ret
      exact ⟨by rw [H.out]; rfl, rfl⟩
    · have H := Lib.hid (signed_text true n (fun _ => h0))
      have h48 : (Lib.decDigits n == [48]) = false := by
        simp only [beq_eq_false_iff_ne, ne_eq]
        intro e
        have := dec_head h0
        rw [e] at this
        exact this rfl
      obtain ⟨s, hs⟩ : ∃ s, Lib.decDigits n = s := ⟨_, rfl⟩
      rw [hs] at H h48 hn ⊢
      clear hs
      go_enter Tryd.func51, Tryd.ntmps51
      go_wp2
      go_ret
      exact ⟨by rw [H.out]; rfl, rfl⟩

set_option maxRecDepth 100000 in
set_option maxHeartbeats 4000000 in
theorem plain03_loop (c : UInt8) (t : List UInt8) (w : World) (hl : (c :: t).length ≤ 200) (h0 : ¬ 1 < (t.length : Int) + 1 ∨ (1 < (t.length : Int) + 1 ∧ ((c.toNat : Int) == 48) = false)) :
    Calls Tryd.prog 61 #[.string ⟨(c :: t).toArray⟩] w fun e w' => e = .returned (.bool ((c :: t).all figureB)) ∧ w = w' := by
  have e0 : ((⟨(c :: t).toArray⟩ : ByteArray)[0]'(by simp [ByteArray.size])) = c := rfl
  have hll : t.length + 1 ≤ 200 := by simpa using hl
  have b1 : (((t.length : Int) + 1) == 0) = false := by simp only [beq_eq_false_iff_ne, ne_eq]; omega
  have b2 : decide (200 < (t.length : Int) + 1) = false := by simp only [decide_eq_false_iff_not]; omega
  rcases h0 with h0 | ⟨h0, h48⟩
  all_goals
    go_enter Tryd.func61, Tryd.ntmps61
    go_wp2
    go_loopw [3] (fun i wr => ∃ k : Nat, k ≤ (c :: t).length ∧ i = .int .i64 k ∧ Hid (((c :: t).take k).all figureB = true) ∧ w = wr)
      (fun i _ => (c :: t).length - (intOf i).toNat)
    case atStart => exact ⟨0, by omega, rfl, Lib.hid rfl, rfl⟩
    case round =>
      obtain ⟨k, hk, rfl, HV, rfl⟩ := hrel
      by_cases hlt : k < (c :: t).length
      · have hlt2 : (k : Int) < (t.length : Int) + 1 := by rw [List.length_cons] at hlt; omega
        have e2 := byte_at (c :: t) k hlt
        have htk : (c :: t).take (k + 1) = (c :: t).take k ++ [(c :: t)[k]] := by rw [List.take_add_one, List.getElem?_eq_getElem hlt]; rfl
        obtain ⟨d, hd⟩ : ∃ d, (c :: t)[k] = d := ⟨_, rfl⟩
        rw [hd] at e2 htk
        have hu := d.toNat_lt
        by_cases hf : 48 ≤ (d.toNat : Int) ∧ (d.toNat : Int) ≤ 57
        · have HV2 := Lib.hid (show ((c :: t).take (k + 1)).all figureB = true by rw [htk, List.all_append, HV.out]; simp [figB.2 hf])
          obtain ⟨f0, f1⟩ := hf
          clear htk hd
          go_wp2
          go_roundw
          case rel => exact ⟨k + 1, by omega, by go_num, HV2, by first | trivial | rfl⟩
          case measure => simp [intOf]; omega
        · have HF := Lib.hid (show ((c :: t).all figureB) = false by
            rw [← Bool.not_eq_true, List.all_eq_true]
            intro ha
            exact hf (figB.1 (ha d (by rw [← hd]; exact List.getElem_mem hlt))))
          clear htk hd
          rcases (show (d.toNat : Int) < 48 ∨ 57 < (d.toNat : Int) by omega) with hq | hq
          · clear hf
            go_wp2
            go_ret
            exact ⟨ret_bool HF.out.symm, rfl⟩
          · have hq2 : ¬ (d.toNat : Int) < 48 := by omega
            clear hf
            go_wp2
            go_ret
            exact ⟨ret_bool HF.out.symm, rfl⟩
      · have hlt2 : ¬ (k : Int) < (t.length : Int) + 1 := by rw [List.length_cons] at hlt; omega
        have HT := Lib.hid (show ((c :: t).all figureB) = true by have := HV.out; rw [List.take_of_length_le (by omega)] at this; exact this)
        go_wp2
        go_ret
        exact ⟨ret_bool HT.out.symm, rfl⟩
end Go.Proofs.YteiipiomcbohnaaDoor.Ten
