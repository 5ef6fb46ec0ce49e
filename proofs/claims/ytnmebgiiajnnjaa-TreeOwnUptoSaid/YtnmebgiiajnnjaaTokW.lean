/-
  What token.letter, token.figure and token.Word compute, walked.
-/
import Derived.Test.YtnmebgiiajnnjaaProg
import Derived.Test.YtnmebgiiajnnjaaTok
import Derived.Lib.Hide
import Derived.Deep.QuietTactic
import Derived.BigQuiet
namespace Go.Proofs.Ytnmebgiiajnnjaa
set_option linter.unusedSimpArgs false
set_option linter.unusedVariables false
open Go.RowKit

set_option maxHeartbeats 400000 in
theorem letter_any (c : Int) (w : World) :
    Calls Try.prog 64 #[.int .i32 c] w fun e w' => e = .returned (.bool (letterI c)) ∧ w = w' := by
  go_enter Try.func64, Try.ntmps64
  go_wp2
  all_goals
    go_ret
    refine ⟨ret_bool ?_, rfl⟩
    rw [Bool.eq_iff_iff]; simp [letterI]; try omega

set_option maxHeartbeats 400000 in
theorem figure_any (c : Int) (w : World) :
    Calls Try.prog 65 #[.int .i32 c] w fun e w' => e = .returned (.bool (figureI c)) ∧ w = w' := by
  go_enter Try.func65, Try.ntmps65
  go_wp2
  all_goals
    go_ret
    refine ⟨ret_bool ?_, rfl⟩
    rw [Bool.eq_iff_iff]; simp [figureI]; try omega

set_option maxHeartbeats 4000000 in
theorem word_any (l : List UInt8) (w : World) :
    Calls Try.prog 66 #[.string ⟨l.toArray⟩] w fun e w' => e = .returned (.int .i64 (wordI l)) ∧ w = w' := by
  by_cases h1 : l ∈ words1
  · have hw : wordI l = 1 := by simp [wordI, h1]
    rw [hw]
    clear hw
    simp only [words1, List.mem_cons, List.not_mem_nil, or_false] at h1
    rcases h1 with rfl | rfl | rfl | rfl | rfl | rfl | rfl | rfl | rfl | rfl | rfl | rfl | rfl | rfl
    all_goals
      go_enter Try.func66, Try.ntmps66
      go_wp2
      go_ret
      exact ⟨rfl, rfl⟩
  · by_cases h2 : l ∈ words2
    · have hw : wordI l = 2 := by simp [wordI, h1, h2]
      rw [hw]
      clear hw h1
      simp only [words2, List.mem_cons, List.not_mem_nil, or_false] at h2
      rcases h2 with rfl | rfl | rfl | rfl | rfl | rfl | rfl | rfl | rfl | rfl | rfl
      all_goals
        go_enter Try.func66, Try.ntmps66
        go_wp2
        go_ret
        exact ⟨rfl, rfl⟩
    · have hw : wordI l = 0 := by simp [wordI, h1, h2]
      rw [hw]
      clear hw
      simp only [words1, words2, List.mem_cons, List.not_mem_nil, or_false, not_or, ← beq_eq_false_iff_ne] at h1 h2
      obtain ⟨a1, a2, a3, a4, a5, a6, a7, a8, a9, a10, a11, a12, a13, a14⟩ := h1
      obtain ⟨b1, b2, b3, b4, b5, b6, b7, b8, b9, b10, b11⟩ := h2
      go_enter Try.func66, Try.ntmps66
      go_wp2
      go_ret
      exact ⟨rfl, rfl⟩

theorem nameT_of {l : List UInt8} {b : Bool} (h : nameFrom true l = b) : nameT l = (b && (!l.isEmpty && wordI l == 0)) := by rw [nameT, h]

set_option maxHeartbeats 1000000 in
theorem tname_any (l : List UInt8) (w : World) (hl : l.length ≤ 9223372036854775807) :
    Calls Try.prog 39 #[.string ⟨l.toArray⟩] w fun e w' => e = .returned (.bool (nameT l)) ∧ Below w.heap.size w w' := by
  go_enter Try.func39, Try.ntmps39
  go_wp2_with fail
  go_loopw [3] (fun _ wr => ∃ k : Nat, k ≤ l.length ∧ wr = w.iter ⟨l.toArray⟩ k ∧ nameFrom true l = nameFrom (k == 0) (l.drop k)) (fun _ wr => l.length - wr.iterPos w.heap.size)
  case atStart => exact ⟨0, by omega, rfl, by simp⟩
  case round =>
    obtain ⟨k, hk, rfl, hrel⟩ := hrel
    by_cases hlt : k < l.length
    · obtain ⟨r, n, hd, hn, hr, hc⟩ := rune_at l k hlt
      have hnx : ∀ ty, (Instr.next (.pointer (some ⟨w.heap.size, 0, none⟩)) true ty).run Try.prog (w.iter ⟨l.toArray⟩ k) = _ := fun ty => next_at w l k hlt r n hd ty
      have hle : letterI (r : Int) = letterB l[k] := letter_rune (by omega)
      have hfi : figureI (r : Int) = figureB l[k] := figure_rune (by omega)
      rw [nameFrom_at hlt] at hrel
      have Hrel := Lib.hid hrel
      have Hc := Lib.hid hc
      clear hd hrel hc
      cases e1 : letterB l[k] with
      | true =>
        rw [e1] at hle
        have Hn : n = 1 := by have := letterB_lt e1; have := Hc.out; omega
        subst Hn
        have E1 := Lib.hid e1
        clear e1 hfi
        go_wp2_with (go_at_call 64; refine (letter_any _ _).mono ?_; rintro e w' ⟨rfl, rfl⟩)
        go_roundw
        case rel => exact ⟨k + 1, by omega, rfl, by rw [Hrel.out]; simp [nameAt, E1.out]⟩
        case measure => simp; omega
      | false =>
        rw [e1] at hle
        have E1 := Lib.hid e1
        clear e1
        by_cases h0 : k = 0
        · subst h0
          have hf : nameT l = false := by rw [nameT_of Hrel.out]; simp [nameAt, E1.out]
          have Hf := Lib.hid hf
          clear hf hfi
          go_wp2_with (go_at_call 64; refine (letter_any _ _).mono ?_; rintro e w' ⟨rfl, rfl⟩)
          go_ret
          exact ⟨ret_bool Hf.out.symm, below_iter _ _ _⟩
        · have hk0 : ((k : Int) == 0) = false := by simp; omega
          cases e2 : figureB l[k] with
          | true =>
            rw [e2] at hfi
            have Hn : n = 1 := by have := figureB_lt e2; have := Hc.out; omega
            subst Hn
            have E2 := Lib.hid e2
            clear e2
            go_wp2_with (first | (go_at_call 64; refine (letter_any _ _).mono ?_; rintro e w' ⟨rfl, rfl⟩) | (go_at_call 65; refine (figure_any _ _).mono ?_; rintro e w' ⟨rfl, rfl⟩))
            go_roundw
            case rel => exact ⟨k + 1, by omega, rfl, by rw [Hrel.out]; simp [nameAt, E2.out, h0]⟩
            case measure => simp; omega
          | false =>
            rw [e2] at hfi
            have E2 := Lib.hid e2
            clear e2
            have hf : nameT l = false := by rw [nameT_of Hrel.out]; simp [nameAt, E1.out, E2.out]
            have Hf := Lib.hid hf
            clear hf
            go_wp2_with (first | (go_at_call 64; refine (letter_any _ _).mono ?_; rintro e w' ⟨rfl, rfl⟩) | (go_at_call 65; refine (figure_any _ _).mono ?_; rintro e w' ⟨rfl, rfl⟩))
            go_ret
            exact ⟨ret_bool Hf.out.symm, below_iter _ _ _⟩
    · have hnx : ∀ ty, (Instr.next (.pointer (some ⟨w.heap.size, 0, none⟩)) true ty).run Try.prog (w.iter ⟨l.toArray⟩ k) = _ := fun ty => next_out w l k hlt ty
      obtain rfl : k = l.length := by omega
      have hf : nameT l = (!l.isEmpty && wordI l == 0) := by rw [nameT_of hrel]; simp [nameFrom]
      have Hf := Lib.hid hf
      clear hf hrel
      cases hi : l.isEmpty with
      | true =>
        go_wp2_with fail
        go_ret
        exact ⟨ret_bool (by rw [Hf.out, hi]; rfl), below_iter _ _ _⟩
      | false =>
        go_wp2_with (go_at_call 66; refine (word_any _ _).mono ?_; rintro e w' ⟨rfl, rfl⟩)
        all_goals
          go_ret
          refine ⟨ret_bool ?_, below_iter _ _ _⟩
          rw [Hf.out, hi]
          simp_all

theorem indexByte_no {l : List UInt8} {c : UInt8} (h : c ∉ l) : Lib.indexByte l c = -1 := by
  induction l with
  | nil => rfl
  | cons b l ih =>
    have hb : (b == c) = false := by simp; intro e; exact h (by simp [e])
    have hl := ih (fun hm => h (by simp [hm]))
    simp [Lib.indexByte, hb, hl]
theorem indexByte_yes (pre post : List UInt8) {c : UInt8} (h : c ∉ pre) : Lib.indexByte (pre ++ c :: post) c = pre.length := by
  induction pre with
  | nil => simp [Lib.indexByte]
  | cons b l ih =>
    have hb : (b == c) = false := by simp; intro e; exact h (by simp [e])
    have hl := ih (fun hm => h (by simp [hm]))
    simp [Lib.indexByte, hb, hl]
theorem parts_of {l : List UInt8} {c : UInt8} (h : c ∈ l) : ∃ pre post, l = pre ++ c :: post ∧ c ∉ pre := by
  induction l with
  | nil => cases h
  | cons b l ih =>
    by_cases hb : b = c
    · exact ⟨[], l, by simp [hb], by simp⟩
    · obtain ⟨pre, post, rfl, hp⟩ := ih (by simpa [Ne.symm hb] using h)
      exact ⟨b :: pre, post, rfl, by simp [hp, Ne.symm hb]⟩
theorem ret_cut {a b c d : ByteArray} {x : Bool} (h1 : a = c) (h2 : b = d) : Ending.returned (.tuple #[.string a, .string b, .bool x]) = .returned (.tuple #[.string c, .string d, .bool x]) := by rw [h1, h2]
theorem cut_to (l : List UInt8) (k : Nat) : (⟨l.toArray⟩ : ByteArray).extract 0 k = ⟨(l.take k).toArray⟩ := by rw [ByteArray.extract_mk]; simp
theorem cut_from (l : List UInt8) (k : Nat) : (⟨l.toArray⟩ : ByteArray).extract k l.length = ⟨(l.drop k).toArray⟩ := by rw [ByteArray.extract_mk, List.take_of_length_le (by simp)]

set_option maxHeartbeats 400000 in
theorem slcut_no (l : List UInt8) (c : UInt8) (w : World) (h : c ∉ l) :
    Calls Try.prog 83 #[.string ⟨l.toArray⟩, .string ⟨#[c]⟩] w fun e w' => e = .returned (.tuple #[.string ⟨l.toArray⟩, .string ⟨#[]⟩, .bool false]) ∧ Below w.heap.size w w' := by
  have hi : Lib.indexByte l c = -1 := indexByte_no h
  go_enter Try.func83, Try.ntmps83
  go_wp2_with fail
  refine (Try.stringslite_Index_one _ _ _).mono ?_
  rintro e w' ⟨rfl, rfl⟩
  go_wp2_with fail
  go_ret3
  exact ⟨rfl, Below.refl _ _⟩


set_option maxHeartbeats 400000 in
theorem slcut_at (l : List UInt8) (c : UInt8) (k : Nat) (w : World) (hi : Lib.indexByte l c = k) (hk : k < l.length) (hl : l.length ≤ 9223372036854775807) :
    Calls Try.prog 83 #[.string ⟨l.toArray⟩, .string ⟨#[c]⟩] w fun e w' => e = .returned (.tuple #[.string ⟨(l.take k).toArray⟩, .string ⟨(l.drop (k + 1)).toArray⟩, .bool true]) ∧ Below w.heap.size w w' := by
  go_enter Try.func83, Try.ntmps83
  go_wp2_with fail
  refine (Try.stringslite_Index_one _ _ _).mono ?_
  rintro e w' ⟨rfl, rfl⟩
  go_wp2_with fail
  go_quiet (fail)
  go_wp2_with fail
  go_ret3
  exact ⟨ret_cut (cut_to _ _) (cut_from _ _), below_drewN (Below.refl _ _) _⟩

set_option maxHeartbeats 400000 in
theorem cut_no (l : List UInt8) (c : UInt8) (w : World) (h : c ∉ l) :
    Calls Try.prog 81 #[.string ⟨l.toArray⟩, .string ⟨#[c]⟩] w fun e w' => e = .returned (.tuple #[.string ⟨l.toArray⟩, .string ⟨#[]⟩, .bool false]) ∧ Below w.heap.size w w' := by
  go_enter Try.func81, Try.ntmps81
  go_wp2_with fail
  refine (slcut_no _ _ _ h).mono ?_
  rintro e w' ⟨rfl, hb⟩
  go_wp2_with fail
  go_ret3
  exact ⟨rfl, hb⟩

set_option maxHeartbeats 400000 in
theorem cut_yes (pre post : List UInt8) (c : UInt8) (w : World) (h : c ∉ pre) (l : List UInt8) (e : l = pre ++ c :: post) (hl : l.length ≤ 9223372036854775807) :
    Calls Try.prog 81 #[.string ⟨l.toArray⟩, .string ⟨#[c]⟩] w fun e w' => e = .returned (.tuple #[.string ⟨pre.toArray⟩, .string ⟨post.toArray⟩, .bool true]) ∧ Below w.heap.size w w' := by
  have hi : Lib.indexByte l c = (pre.length : Nat) := by rw [e]; exact indexByte_yes pre post h
  have hk : pre.length < l.length := by rw [e]; simp
  have h1 : l.take pre.length = pre := by rw [e]; simp
  have h2 : l.drop (pre.length + 1) = post := by rw [e]; simp
  have H := slcut_at l c pre.length w hi hk hl
  rw [h1, h2] at H
  clear h1 h2 hi hk e
  go_enter Try.func81, Try.ntmps81
  go_wp2_with fail
  refine H.mono ?_
  rintro e w' ⟨rfl, hb⟩
  go_wp2_with fail
  go_ret3
  exact ⟨rfl, hb⟩
end Go.Proofs.Ytnmebgiiajnnjaa
