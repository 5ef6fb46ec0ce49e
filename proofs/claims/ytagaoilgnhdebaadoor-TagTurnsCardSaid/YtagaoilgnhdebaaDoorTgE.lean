/-
  tag.right and Right, walked: constraints with parts. (printed by gen_tagright.py)
-/
import Derived.Test.YtagaoilgnhdebaaDoorTgD
namespace Go.Proofs.YtagaoilgnhdebaaDoor
set_option linter.unusedSimpArgs false
set_option linter.unusedVariables false
open Go.RowKit

set_option maxHeartbeats 4000000 in
theorem right_not_bad (l : Int) (s : List UInt8) (ks : List Xp) (hl : ((ks.length : Int) != 1) = true) (a : Option Addr) (c : Nat) (w : World) :
    Calls Tryd.prog 25 #[.agg #[.string ⟨#[33]⟩, .string ⟨s.toArray⟩, .slice a ks.length c], .int .i64 l] w fun e w' => e = .returned (.bool false) ∧ Below w.heap.size w w' := by
  go_enter Tryd.func25, Tryd.ntmps25
  go_wp2_with fail
  refine bodyPost_ret (v := .bool false) (by simp [results, Tryd.results25, go_sem]) rfl ⟨rfl, ((Below.refl _ _).alloc (Nat.le_refl _) _).alloc (by simp) _⟩
set_option maxHeartbeats 4000000 in
theorem right_not_zero (s : List UInt8) (ks : List Xp) (hl : ((ks.length : Int) != 1) = false) (a : Option Addr) (c : Nat) (w : World) :
    Calls Tryd.prog 25 #[.agg #[.string ⟨#[33]⟩, .string ⟨s.toArray⟩, .slice a ks.length c], .int .i64 0] w fun e w' => e = .returned (.bool false) ∧ Below w.heap.size w w' := by
  go_enter Tryd.func25, Tryd.ntmps25
  go_wp2_with fail
  refine bodyPost_ret (v := .bool false) (by simp [results, Tryd.results25, go_sem]) rfl ⟨rfl, ((Below.refl _ _).alloc (Nat.le_refl _) _).alloc (by simp) _⟩
set_option maxHeartbeats 4000000 in
theorem right_not_tag (m : Nat) (s : List UInt8) (hs : s.isEmpty = false) (ks : List Xp) (hl : ((ks.length : Int) != 1) = false) (a : Option Addr) (c : Nat) (w : World) :
    Calls Tryd.prog 25 #[.agg #[.string ⟨#[33]⟩, .string ⟨s.toArray⟩, .slice a ks.length c], .int .i64 ((m : Int) + 1)] w fun e w' => e = .returned (.bool false) ∧ Below w.heap.size w w' := by
  have hp : (0 : Int) < (m : Int) + 1 := by omega
  go_enter Tryd.func25, Tryd.ntmps25
  go_wp2_with fail
  refine bodyPost_ret (v := .bool false) (by simp [results, Tryd.results25, go_sem]) rfl ⟨rfl, ((Below.refl _ _).alloc (Nat.le_refl _) _).alloc (by simp) _⟩
set_option maxHeartbeats 4000000 in
theorem right_not_all (m : Nat) (hm : m < 100) (ih : RightOk m) (ks : List Xp) (hl : ((ks.length : Int) != 1) = false) (a : Option Addr) (c : Nat) (w : World) (hk : Xids w Any a ks) (hks : ks.length ≤ 9223372036854775807) :
    Calls Tryd.prog 25 #[.agg #[.string ⟨#[33]⟩, .string ⟨#[]⟩, .slice a ks.length c], .int .i64 ((m : Int) + 1)] w fun e w' => e = .returned (.bool (ks.all (rightX m))) ∧ Below w.heap.size w w' := by
  have hp : (0 : Int) < (m : Int) + 1 := by omega
  obtain ⟨wa, hwa, hba, c0, c1, c2, c3, hsz⟩ := boxed_two w (.string ⟨#[33]⟩) (.string ⟨#[]⟩) (.slice a ks.length c) (.int .i64 ((m : Int) + 1)) 29 3
  have H := containsFunc_any ks a c 36 #[.pointer (some ⟨w.heap.size + 1, 0, none⟩)] (fun t => !rightX m t) wa (enters_of Tryd.func36 (by kernel_rfl) rfl) hks (hk.on hba)
    (fun t ht W a' c' hb hk' hf => right1_any m hm ih t a' c' (w.heap.size + 1) W ((hb.cell (cell_lt1 c3)).trans c3) hk' hf)
  have E := Lib.hid (not_any_not ks (rightX m))
  have HB := Lib.hid hba
  have HC := Lib.hid H
  clear hba H ih hk
  go_enter Tryd.func25, Tryd.ntmps25
  go_wp2_with fail
  refine HC.out.mono ?_
  rintro e w' ⟨rfl, hb⟩
  have HB2 := Lib.hid (bext HB.out hb)
  clear hb
  go_wp2_with fail
  refine bodyPost_ret (v := .bool (!(ks.any fun t => !rightX m t))) (by simp [results, Tryd.results25, go_sem]) rfl ⟨ret_bool E.out, HB2.out⟩

set_option maxHeartbeats 4000000 in
theorem right_both_bad (l : Int) (s : List UInt8) (ks : List Xp) (hl : (ks.length : Int) < 2) (a : Option Addr) (c : Nat) (w : World) :
    Calls Tryd.prog 25 #[.agg #[.string ⟨#[38, 38]⟩, .string ⟨s.toArray⟩, .slice a ks.length c], .int .i64 l] w fun e w' => e = .returned (.bool false) ∧ Below w.heap.size w w' := by
  go_enter Tryd.func25, Tryd.ntmps25
  go_wp2_with fail
  refine bodyPost_ret (v := .bool false) (by simp [results, Tryd.results25, go_sem]) rfl ⟨rfl, ((Below.refl _ _).alloc (Nat.le_refl _) _).alloc (by simp) _⟩
set_option maxHeartbeats 4000000 in
theorem right_both_zero (s : List UInt8) (ks : List Xp) (hl : ¬ (ks.length : Int) < 2) (a : Option Addr) (c : Nat) (w : World) :
    Calls Tryd.prog 25 #[.agg #[.string ⟨#[38, 38]⟩, .string ⟨s.toArray⟩, .slice a ks.length c], .int .i64 0] w fun e w' => e = .returned (.bool false) ∧ Below w.heap.size w w' := by
  go_enter Tryd.func25, Tryd.ntmps25
  go_wp2_with fail
  refine bodyPost_ret (v := .bool false) (by simp [results, Tryd.results25, go_sem]) rfl ⟨rfl, ((Below.refl _ _).alloc (Nat.le_refl _) _).alloc (by simp) _⟩
set_option maxHeartbeats 4000000 in
theorem right_both_tag (m : Nat) (s : List UInt8) (hs : s.isEmpty = false) (ks : List Xp) (hl : ¬ (ks.length : Int) < 2) (a : Option Addr) (c : Nat) (w : World) :
    Calls Tryd.prog 25 #[.agg #[.string ⟨#[38, 38]⟩, .string ⟨s.toArray⟩, .slice a ks.length c], .int .i64 ((m : Int) + 1)] w fun e w' => e = .returned (.bool false) ∧ Below w.heap.size w w' := by
  have hp : (0 : Int) < (m : Int) + 1 := by omega
  go_enter Tryd.func25, Tryd.ntmps25
  go_wp2_with fail
  refine bodyPost_ret (v := .bool false) (by simp [results, Tryd.results25, go_sem]) rfl ⟨rfl, ((Below.refl _ _).alloc (Nat.le_refl _) _).alloc (by simp) _⟩
set_option maxHeartbeats 4000000 in
theorem right_both_all (m : Nat) (hm : m < 100) (ih : RightOk m) (ks : List Xp) (hl : ¬ (ks.length : Int) < 2) (a : Option Addr) (c : Nat) (w : World) (hk : Xids w Any a ks) (hks : ks.length ≤ 9223372036854775807) :
    Calls Tryd.prog 25 #[.agg #[.string ⟨#[38, 38]⟩, .string ⟨#[]⟩, .slice a ks.length c], .int .i64 ((m : Int) + 1)] w fun e w' => e = .returned (.bool (ks.all (rightX m))) ∧ Below w.heap.size w w' := by
  have hp : (0 : Int) < (m : Int) + 1 := by omega
  obtain ⟨wa, hwa, hba, c0, c1, c2, c3, hsz⟩ := boxed_two w (.string ⟨#[38, 38]⟩) (.string ⟨#[]⟩) (.slice a ks.length c) (.int .i64 ((m : Int) + 1)) 29 3
  have H := containsFunc_any ks a c 36 #[.pointer (some ⟨w.heap.size + 1, 0, none⟩)] (fun t => !rightX m t) wa (enters_of Tryd.func36 (by kernel_rfl) rfl) hks (hk.on hba)
    (fun t ht W a' c' hb hk' hf => right1_any m hm ih t a' c' (w.heap.size + 1) W ((hb.cell (cell_lt1 c3)).trans c3) hk' hf)
  have E := Lib.hid (not_any_not ks (rightX m))
  have HB := Lib.hid hba
  have HC := Lib.hid H
  clear hba H ih hk
  go_enter Tryd.func25, Tryd.ntmps25
  go_wp2_with fail
  refine HC.out.mono ?_
  rintro e w' ⟨rfl, hb⟩
  have HB2 := Lib.hid (bext HB.out hb)
  clear hb
  go_wp2_with fail
  refine bodyPost_ret (v := .bool (!(ks.any fun t => !rightX m t))) (by simp [results, Tryd.results25, go_sem]) rfl ⟨ret_bool E.out, HB2.out⟩

set_option maxHeartbeats 4000000 in
theorem right_one_bad (l : Int) (s : List UInt8) (ks : List Xp) (hl : (ks.length : Int) < 2) (a : Option Addr) (c : Nat) (w : World) :
    Calls Tryd.prog 25 #[.agg #[.string ⟨#[124, 124]⟩, .string ⟨s.toArray⟩, .slice a ks.length c], .int .i64 l] w fun e w' => e = .returned (.bool false) ∧ Below w.heap.size w w' := by
  go_enter Tryd.func25, Tryd.ntmps25
  go_wp2_with fail
  refine bodyPost_ret (v := .bool false) (by simp [results, Tryd.results25, go_sem]) rfl ⟨rfl, ((Below.refl _ _).alloc (Nat.le_refl _) _).alloc (by simp) _⟩
set_option maxHeartbeats 4000000 in
theorem right_one_zero (s : List UInt8) (ks : List Xp) (hl : ¬ (ks.length : Int) < 2) (a : Option Addr) (c : Nat) (w : World) :
    Calls Tryd.prog 25 #[.agg #[.string ⟨#[124, 124]⟩, .string ⟨s.toArray⟩, .slice a ks.length c], .int .i64 0] w fun e w' => e = .returned (.bool false) ∧ Below w.heap.size w w' := by
  go_enter Tryd.func25, Tryd.ntmps25
  go_wp2_with fail
  refine bodyPost_ret (v := .bool false) (by simp [results, Tryd.results25, go_sem]) rfl ⟨rfl, ((Below.refl _ _).alloc (Nat.le_refl _) _).alloc (by simp) _⟩
set_option maxHeartbeats 4000000 in
theorem right_one_tag (m : Nat) (s : List UInt8) (hs : s.isEmpty = false) (ks : List Xp) (hl : ¬ (ks.length : Int) < 2) (a : Option Addr) (c : Nat) (w : World) :
    Calls Tryd.prog 25 #[.agg #[.string ⟨#[124, 124]⟩, .string ⟨s.toArray⟩, .slice a ks.length c], .int .i64 ((m : Int) + 1)] w fun e w' => e = .returned (.bool false) ∧ Below w.heap.size w w' := by
  have hp : (0 : Int) < (m : Int) + 1 := by omega
  go_enter Tryd.func25, Tryd.ntmps25
  go_wp2_with fail
  refine bodyPost_ret (v := .bool false) (by simp [results, Tryd.results25, go_sem]) rfl ⟨rfl, ((Below.refl _ _).alloc (Nat.le_refl _) _).alloc (by simp) _⟩
set_option maxHeartbeats 4000000 in
theorem right_one_all (m : Nat) (hm : m < 100) (ih : RightOk m) (ks : List Xp) (hl : ¬ (ks.length : Int) < 2) (a : Option Addr) (c : Nat) (w : World) (hk : Xids w Any a ks) (hks : ks.length ≤ 9223372036854775807) :
    Calls Tryd.prog 25 #[.agg #[.string ⟨#[124, 124]⟩, .string ⟨#[]⟩, .slice a ks.length c], .int .i64 ((m : Int) + 1)] w fun e w' => e = .returned (.bool (ks.all (rightX m))) ∧ Below w.heap.size w w' := by
  have hp : (0 : Int) < (m : Int) + 1 := by omega
  obtain ⟨wa, hwa, hba, c0, c1, c2, c3, hsz⟩ := boxed_two w (.string ⟨#[124, 124]⟩) (.string ⟨#[]⟩) (.slice a ks.length c) (.int .i64 ((m : Int) + 1)) 29 3
  have H := containsFunc_any ks a c 36 #[.pointer (some ⟨w.heap.size + 1, 0, none⟩)] (fun t => !rightX m t) wa (enters_of Tryd.func36 (by kernel_rfl) rfl) hks (hk.on hba)
    (fun t ht W a' c' hb hk' hf => right1_any m hm ih t a' c' (w.heap.size + 1) W ((hb.cell (cell_lt1 c3)).trans c3) hk' hf)
  have E := Lib.hid (not_any_not ks (rightX m))
  have HB := Lib.hid hba
  have HC := Lib.hid H
  clear hba H ih hk
  go_enter Tryd.func25, Tryd.ntmps25
  go_wp2_with fail
  refine HC.out.mono ?_
  rintro e w' ⟨rfl, hb⟩
  have HB2 := Lib.hid (bext HB.out hb)
  clear hb
  go_wp2_with fail
  refine bodyPost_ret (v := .bool (!(ks.any fun t => !rightX m t))) (by simp [results, Tryd.results25, go_sem]) rfl ⟨ret_bool E.out, HB2.out⟩

theorem right_any : ∀ (n : Nat), n ≤ 100 → RightOk n := by
  intro n
  induction n with
  | zero =>
    intro _ t a c w hk hf
    obtain ⟨o, s, ks⟩ := t
    show Calls Tryd.prog 25 #[.agg #[.string ⟨o.toArray⟩, .string ⟨s.toArray⟩, .slice a ks.length c], .int .i64 0] w fun e w' => e = .returned (.bool false) ∧ Below w.heap.size w w'
    rcases sign_cases o with rfl | rfl | (rfl | rfl) | ho
    · exact right_leaf0 s ks a c w
    · cases hl : ((ks.length : Int) != 1) with
      | true => exact right_not_bad 0 s ks hl a c w
      | false => exact right_not_zero s ks hl a c w
    · by_cases hl : (ks.length : Int) < 2
      · exact right_both_bad 0 s ks hl a c w
      · exact right_both_zero s ks hl a c w
    · by_cases hl : (ks.length : Int) < 2
      · exact right_one_bad 0 s ks hl a c w
      · exact right_one_zero s ks hl a c w
    · exact right_none 0 o s ho ks a c w
  | succ m ihm =>
    intro hn t a c w hk hf
    have ih := ihm (by omega)
    have hf' := hf
    obtain ⟨o, s, ks⟩ := t
    obtain ⟨f1, f2, f3, f4, f5⟩ := hf'
    simp only [Xp.op_mk, Xp.tag_mk, Xp.kids_mk] at f1 f2 f3 f4 f5 hk ⊢
    rw [Int.natCast_succ]
    rcases sign_cases o with rfl | rfl | (rfl | rfl) | ho
    · exact right_leaf m (by omega) s ks a c w f2 (by omega)
    · cases hl : ((ks.length : Int) != 1) with
      | true =>
        have h1 : ks.length ≠ 1 := by simp at hl; omega
        have e : rightX (m + 1) (.mk [33] s ks) = false := by simp [rightX, h1]
        rw [e]
        exact right_not_bad _ s ks hl a c w
      | false =>
        have h1 : ks.length = 1 := by simp at hl; omega
        cases hs : s.isEmpty with
        | false =>
          have e : rightX (m + 1) (.mk [33] s ks) = false := by simp [rightX, hs]
          rw [e]
          exact right_not_tag m s hs ks hl a c w
        | true =>
          obtain rfl : s = [] := by simpa using hs
          have e : rightX (m + 1) (.mk [33] [] ks) = ks.all (rightX m) := by simp [rightX, h1]
          rw [e]
          exact right_not_all m (by omega) ih ks hl a c w hk (by omega)
    · rw [right_sign (.inl rfl)]
      by_cases hl : (ks.length : Int) < 2
      · rw [show decide (2 ≤ ks.length) = false by simp; omega, Bool.false_and]
        exact right_both_bad _ s ks hl a c w
      · rw [show decide (2 ≤ ks.length) = true by simp; omega, Bool.true_and]
        cases hs : s.isEmpty with
        | false => exact right_both_tag m s hs ks hl a c w
        | true =>
          obtain rfl : s = [] := by simpa using hs
          rw [Bool.true_and]
          exact right_both_all m (by omega) ih ks hl a c w hk (by omega)
    · rw [right_sign (.inr rfl)]
      by_cases hl : (ks.length : Int) < 2
      · rw [show decide (2 ≤ ks.length) = false by simp; omega, Bool.false_and]
        exact right_one_bad _ s ks hl a c w
      · rw [show decide (2 ≤ ks.length) = true by simp; omega, Bool.true_and]
        cases hs : s.isEmpty with
        | false => exact right_one_tag m s hs ks hl a c w
        | true =>
          obtain rfl : s = [] := by simpa using hs
          rw [Bool.true_and]
          exact right_one_all m (by omega) ih ks hl a c w hk (by omega)
    · have e : rightX (m + 1) (.mk o s ks) = false := by simp [rightX, ho.2]
      rw [e]
      exact right_none _ o s ho ks a c w

set_option maxHeartbeats 1000000 in
theorem Right_any (t : Xp) (a : Option Addr) (c : Nat) (w : World) (hk : Xids w Any a t.kids) (hf : Fitx t c) :
    Calls Tryd.prog 13 #[.agg #[.string ⟨t.op.toArray⟩, .string ⟨t.tag.toArray⟩, .slice a t.kids.length c]] w fun e w' => e = .returned (.bool (rightX 100 t)) ∧ Below w.heap.size w w' := by
  have hb0 := below_alloc w (.cells #[.string ⟨t.op.toArray⟩, .string ⟨t.tag.toArray⟩, .slice a t.kids.length c] 29)
  have H := Lib.hid (right_any 100 (Nat.le_refl _) t a c _ (hk.on hb0) hf)
  have HB := Lib.hid hb0
  clear hk hb0
  go_enter Tryd.func13, Tryd.ntmps13
  go_wp2_with fail
  refine H.out.mono ?_
  rintro e w' ⟨rfl, hb⟩
  go_wp2_with fail
  go_ret
  exact ⟨rfl, bext HB.out hb⟩
end Go.Proofs.YtagaoilgnhdebaaDoor
