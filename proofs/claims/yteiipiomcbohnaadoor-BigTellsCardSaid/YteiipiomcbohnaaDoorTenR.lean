/-
  the document's Do tells Less, Times, Quotient, Rest.
-/
import Derived.Test.YteiipiomcbohnaaDoorTenQ
namespace Go.Proofs.YteiipiomcbohnaaDoor.Ten
set_option linter.unusedSimpArgs false
set_option linter.unusedVariables false
open Go.RowKit

theorem gr_sub (a b : List UInt8) (ha : a.length ≤ 1000) (hb : b.length ≤ 1000) :
    Gr 35 #[.string ⟨([45] : List UInt8).toArray⟩, .string ⟨a.toArray⟩, .string ⟨b.toArray⟩] (.tuple #[.string ⟨(lessT a b).1.toArray⟩, .int .i64 (lessT a b).2]) := by
  unfold lessT
  cases h1 : numR a with
  | none => exact gr_bad _ ha hb (.inl h1)
  | some x =>
    cases h2 : numR b with
    | none => exact gr_bad _ ha hb (.inr h2)
    | some y =>
      have HA := am_num h1 ha
      have HB := am_num h2 hb
      have HRA := rt_any (v := true) (by rw [h1]; rfl) ha
      have HRB := rt_any (v := true) (by rw [h2]; rfl) hb
      have n1 := num_lt h1
      have n2 := num_lt h2
      have n3 := two_155 n1 n2
      have s1 := small_320 n1
      have s2 := small_320 n2
      have s3 := small2_320 n3
      have hz : (x - y).natAbs < 10 ^ 156 := by omega
      refine gr_fin _ h1 h2 rfl (itoa_320 (small2_320 hz)) ?_ ?_
      all_goals
        intro HT
        rcases hm : (decide (x < 0) == !decide (y < 0)) with _ | _
        · by_cases hlt : x.natAbs < y.natAbs
          · have hl := hid_below x.natAbs y.natAbs s1 s2 (b := true) (by simpa using hlt)
            have ht := hid_take y.natAbs x.natAbs s2 (by omega)
            have hs := hid_signed (!decide (y < 0)) (y.natAbs - x.natAbs) (small2_320 (by omega)) (z := x - y) (by unfold sg; by_cases hx : x < 0 <;> by_cases hy : y < 0 <;> simp [hx, hy] at hm ⊢ <;> omega)
            first | exact do_sub_lt_ok _ _ _ _ _ _ _ _ _ _ HA HB HRA HRB hl ht hs hm HT | exact do_sub_lt_big _ _ _ _ _ _ _ _ _ _ HA HB HRA HRB hl ht hs hm HT
          · have hl := hid_below x.natAbs y.natAbs s1 s2 (b := false) (by simpa using hlt)
            have ht := hid_take x.natAbs y.natAbs s1 (by omega)
            have hs := hid_signed (decide (x < 0)) (x.natAbs - y.natAbs) (small2_320 (by omega)) (z := x - y) (by unfold sg; by_cases hx : x < 0 <;> by_cases hy : y < 0 <;> simp [hx, hy] at hm ⊢ <;> omega)
            first | exact do_sub_ge_ok _ _ _ _ _ _ _ _ _ _ HA HB HRA HRB hl ht hs hm HT | exact do_sub_ge_big _ _ _ _ _ _ _ _ _ _ HA HB HRA HRB hl ht hs hm HT
        · have ht := hid_add x.natAbs y.natAbs s1 s2
          have hs := hid_signed (decide (x < 0)) (x.natAbs + y.natAbs) s3 (z := x - y) (by unfold sg; by_cases hx : x < 0 <;> by_cases hy : y < 0 <;> simp [hx, hy] at hm ⊢ <;> omega)
          have he := eq_of_beq hm
          first | exact do_sub_eq_ok _ _ _ _ _ _ _ _ _ _ HA HB HRA HRB ht hs he HT | exact do_sub_eq_big _ _ _ _ _ _ _ _ _ _ HA HB HRA HRB ht hs he HT
theorem natAbs_sg' (b : Bool) (n : Nat) : (sg b n).natAbs = n := by unfold sg; cases b <;> simp
theorem sg_mul (x y : Int) : sg (decide (x < 0) != decide (y < 0)) (x.natAbs * y.natAbs : Nat) = x * y := by
  rcases Int.natAbs_eq x with hx | hx <;> rcases Int.natAbs_eq y with hy | hy
  all_goals
    obtain ⟨n, hn⟩ : ∃ n, x.natAbs = n := ⟨_, rfl⟩
    obtain ⟨m, hm⟩ : ∃ m, y.natAbs = m := ⟨_, rfl⟩
    rw [hn] at hx ⊢
    rw [hm] at hy ⊢
    subst hx
    subst hy
    clear hn hm
    unfold sg
    rcases Nat.eq_zero_or_pos n with rfl | h1
    · simp
    · rcases Nat.eq_zero_or_pos m with rfl | h2
      · simp
      · have hn0 : ¬ (n : Int) < 0 := by omega
        have hm0 : ¬ (m : Int) < 0 := by omega
        simp [h1, h2, hn0, hm0, Int.neg_mul, Int.mul_neg]
theorem sg_quo (x y : Int) : sg (decide (x < 0) != decide (y < 0)) (x.natAbs / y.natAbs : Nat) = Int.tdiv x y := by
  rcases Int.natAbs_eq x with hx | hx <;> rcases Int.natAbs_eq y with hy | hy
  all_goals
    obtain ⟨n, hn⟩ : ∃ n, x.natAbs = n := ⟨_, rfl⟩
    obtain ⟨m, hm⟩ : ∃ m, y.natAbs = m := ⟨_, rfl⟩
    rw [hn] at hx ⊢
    rw [hm] at hy ⊢
    subst hx
    subst hy
    clear hn hm
    unfold sg
    rcases Nat.eq_zero_or_pos n with rfl | h1
    · simp
    · rcases Nat.eq_zero_or_pos m with rfl | h2
      · simp
      · have hn0 : ¬ (n : Int) < 0 := by omega
        have hm0 : ¬ (m : Int) < 0 := by omega
        simp [h1, h2, hn0, hm0, Int.tdiv_neg, Int.neg_tdiv, Int.ofNat_tdiv]
theorem sg_rem (x y : Int) : sg (decide (x < 0)) (x.natAbs % y.natAbs : Nat) = Int.tmod x y := by
  rcases Int.natAbs_eq x with hx | hx <;> rcases Int.natAbs_eq y with hy | hy
  all_goals
    obtain ⟨n, hn⟩ : ∃ n, x.natAbs = n := ⟨_, rfl⟩
    obtain ⟨m, hm⟩ : ∃ m, y.natAbs = m := ⟨_, rfl⟩
    rw [hn] at hx ⊢
    rw [hm] at hy ⊢
    subst hx
    subst hy
    clear hn hm
    unfold sg
    rcases Nat.eq_zero_or_pos n with rfl | h1
    · simp
    · have hn0 : ¬ (n : Int) < 0 := by omega
      simp [h1, hn0, Int.tmod_neg, Int.neg_tmod, Int.tmod_eq_emod_of_nonneg (show (0 : Int) ≤ n by omega)]
theorem gr_mul (a b : List UInt8) (ha : a.length ≤ 1000) (hb : b.length ≤ 1000) :
    Gr 35 #[.string ⟨([42] : List UInt8).toArray⟩, .string ⟨a.toArray⟩, .string ⟨b.toArray⟩] (.tuple #[.string ⟨(timesT a b).1.toArray⟩, .int .i64 (timesT a b).2]) := by
  unfold timesT
  cases h1 : numR a with
  | none => exact gr_bad _ ha hb (.inl h1)
  | some x =>
    cases h2 : numR b with
    | none => exact gr_bad _ ha hb (.inr h2)
    | some y =>
      have HA := am_num h1 ha
      have HB := am_num h2 hb
      have HRA := rt_any (v := true) (by rw [h1]; rfl) ha
      have HRB := rt_any (v := true) (by rw [h2]; rfl) hb
      have n1 := num_lt h1
      have n2 := num_lt h2
      have n3 : x.natAbs * y.natAbs < 10 ^ 320 := Nat.lt_of_le_of_lt (Nat.mul_le_mul (Nat.le_of_lt n1) (Nat.le_of_lt n2)) (by decide +kernel)
      have ht := hid_times x.natAbs y.natAbs (small_320 n1) (small_320 n2)
      have hs := hid_signed (decide (x < 0) != decide (y < 0)) (x.natAbs * y.natAbs) n3 (z := x * y) (sg_mul x y)
      refine gr_fin _ h1 h2 rfl (itoa_320 (by rw [Int.natAbs_mul]; exact n3)) (fun HT => do_mul_ok _ _ _ _ _ _ _ _ _ _ HA HB HRA HRB ht hs HT) (fun HT => do_mul_big _ _ _ _ _ _ _ _ _ _ HA HB HRA HRB ht hs HT)
theorem y48 {y : Int} (h : y ≠ 0) : (Lib.decDigits y.natAbs == [48]) = false := by
  simp only [beq_eq_false_iff_ne, ne_eq]
  intro e
  have := dec_head (n := y.natAbs) (by omega)
  rw [e] at this
  exact this rfl
theorem resD_parts0 {rest : Bool} {s t : List UInt8} {x : Int} (h1 : numR s = some x) (h2 : numR t = some 0) : resD (partsF rest) s t = ([], 1) := by
  unfold resD
  rw [h1, h2]
  rfl
theorem gr_quo (a b : List UInt8) (ha : a.length ≤ 1000) (hb : b.length ≤ 1000) :
    Gr 35 #[.string ⟨([47] : List UInt8).toArray⟩, .string ⟨a.toArray⟩, .string ⟨b.toArray⟩] (.tuple #[.string ⟨(quotT a b).1.toArray⟩, .int .i64 (quotT a b).2]) := by
  unfold quotT partsT
  cases h1 : numR a with
  | none => exact gr_bad _ ha hb (.inl h1)
  | some x =>
    cases h2 : numR b with
    | none => exact gr_bad _ ha hb (.inr h2)
    | some y =>
      have HA := am_num h1 ha
      have HB := am_num h2 hb
      have HRA := rt_any (v := true) (by rw [h1]; rfl) ha
      have HRB := rt_any (v := true) (by rw [h2]; rfl) hb
      have n1 := num_lt h1
      have n2 := num_lt h2
      by_cases h0 : y = 0
      · subst h0
        rw [resD_parts0 h1 h2]
        exact do_quo0 _ _ _ _ _ _ _ _ HA HB HRA HRB dec_zero
      · have ht := hid_divide x.natAbs y.natAbs (small_320 n1) (small_320 n2) (by omega)
        have n3 : x.natAbs / y.natAbs < 10 ^ 320 := small_320 (Nat.lt_of_le_of_lt (by first | exact Nat.div_le_self _ _ | exact Nat.mod_le _ _) n1)
        have hs := hid_signed (decide (x < 0) != decide (y < 0)) (x.natAbs / y.natAbs) n3 (z := Int.tdiv x y) (sg_quo x y)
        refine gr_fin _ h1 h2 (show partsF false x y = some (Int.tdiv x y) by unfold partsF; rw [if_neg h0]; rfl) (itoa_320 (by rw [show (Int.tdiv x y).natAbs = x.natAbs / y.natAbs by rw [← sg_quo x y, natAbs_sg']]; exact n3)) (fun HT => do_quo_ok _ _ _ _ _ _ _ _ _ _ _ HA HB HRA HRB ht hs HT (y48 h0)) (fun HT => do_quo_big _ _ _ _ _ _ _ _ _ _ _ HA HB HRA HRB ht hs HT (y48 h0))
theorem gr_rem (a b : List UInt8) (ha : a.length ≤ 1000) (hb : b.length ≤ 1000) :
    Gr 35 #[.string ⟨([37] : List UInt8).toArray⟩, .string ⟨a.toArray⟩, .string ⟨b.toArray⟩] (.tuple #[.string ⟨(restT a b).1.toArray⟩, .int .i64 (restT a b).2]) := by
  unfold restT partsT
  cases h1 : numR a with
  | none => exact gr_bad _ ha hb (.inl h1)
  | some x =>
    cases h2 : numR b with
    | none => exact gr_bad _ ha hb (.inr h2)
    | some y =>
      have HA := am_num h1 ha
      have HB := am_num h2 hb
      have HRA := rt_any (v := true) (by rw [h1]; rfl) ha
      have HRB := rt_any (v := true) (by rw [h2]; rfl) hb
      have n1 := num_lt h1
      have n2 := num_lt h2
      by_cases h0 : y = 0
      · subst h0
        rw [resD_parts0 h1 h2]
        exact do_rem0 _ _ _ _ _ _ _ _ HA HB HRA HRB dec_zero
      · have ht := hid_divide x.natAbs y.natAbs (small_320 n1) (small_320 n2) (by omega)
        have n3 : x.natAbs % y.natAbs < 10 ^ 320 := small_320 (Nat.lt_of_le_of_lt (by first | exact Nat.div_le_self _ _ | exact Nat.mod_le _ _) n1)
        have hs := hid_signed (decide (x < 0)) (x.natAbs % y.natAbs) n3 (z := Int.tmod x y) (sg_rem x y)
        refine gr_fin _ h1 h2 (show partsF true x y = some (Int.tmod x y) by unfold partsF; rw [if_neg h0]; rfl) (itoa_320 (by rw [show (Int.tmod x y).natAbs = x.natAbs % y.natAbs by rw [← sg_rem x y, natAbs_sg']]; exact n3)) (fun HT => do_rem_ok _ _ _ _ _ _ _ _ _ _ _ HA HB HRA HRB ht hs HT (y48 h0)) (fun HT => do_rem_big _ _ _ _ _ _ _ _ _ _ _ HA HB HRA HRB ht hs HT (y48 h0))
end Go.Proofs.YteiipiomcbohnaaDoor.Ten
