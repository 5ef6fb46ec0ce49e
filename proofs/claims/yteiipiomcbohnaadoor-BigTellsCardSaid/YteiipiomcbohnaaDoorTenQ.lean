/-
  the document's Do tells what the calls of big tell.
-/
import Derived.Test.YteiipiomcbohnaaDoorTenP
import Derived.Test.YteiipiomcbohnaaDoorBgX
namespace Go.Proofs.YteiipiomcbohnaaDoor.Ten
set_option linter.unusedSimpArgs false
set_option linter.unusedVariables false
open Go.RowKit

theorem itoa_back {z z' : Int} (h : Lib.itoa z = Lib.itoa z') : z = z' := by
  unfold Lib.itoa at h
  have inj : ∀ n m : Nat, Lib.decDigits n = Lib.decDigits m → n = m := fun n m e => by
    have := dval_dec n; rw [e, dval_dec] at this; omega
  split at h <;> split at h
  · have h := inj _ _ (List.cons.inj h).2; omega
  · next h1 h2 => exact absurd (by rw [← h]; rfl) (dec_head_fig z'.toNat)
  · next h1 h2 => exact absurd (by rw [h]; rfl) (dec_head_fig z.toNat)
  · have h := inj _ _ h; omega
theorem numR_wide {z : Int} (h : wideB z.natAbs = true) : numR (Lib.itoa z) = none := by
  cases h1 : numR (Lib.itoa z) with
  | none => rfl
  | some z' =>
    obtain ⟨h2, h3, -⟩ := numR_text h1
    rw [← itoa_back h2, h] at h3
    cases h3
theorem am_any (a : List UInt8) (h : a.length ≤ 1000) : ∃ (X : List UInt8) (m o : Bool), Hid (Qt 39 #[.string ⟨a.toArray⟩] (.tuple #[.string ⟨X.toArray⟩, .bool m, .bool o])) := by
  have h1 := fun w => amount_ref a w h
  unfold amA at h1
  cases hx : numB a with
  | none => rw [hx] at h1; exact ⟨[], false, false, Lib.hid h1⟩
  | some z => rw [hx] at h1; exact ⟨_, _, _, Lib.hid h1⟩
theorem am_num {a : List UInt8} {x : Int} (hx : numR a = some x) (h : a.length ≤ 1000) : Hid (Qt 39 #[.string ⟨a.toArray⟩] (.tuple #[.string ⟨(Lib.decDigits x.natAbs).toArray⟩, .bool (decide (x < 0)), .bool true])) := by
  have h1 := fun w => amount_ref a w h
  unfold amA at h1
  rw [(numR_some hx).1] at h1
  exact Lib.hid h1
theorem rt_any {a : List UInt8} {v : Bool} (hx : (numR a).isSome = v) (h : a.length ≤ 1000) : Hid (Gr 24 #[.string ⟨a.toArray⟩] (.bool v)) := by
  subst hx
  exact Lib.hid fun w => right_ref a w h
theorem gr_fin {op a b : List UInt8} {x y z : Int} (F : Int → Int → Option Int) (h1 : numR a = some x) (h2 : numR b = some y) (hF : F x y = some z) (hl : (Lib.itoa z).length ≤ 1000)
    (hok : Hid (Gr 24 #[.string ⟨(Lib.itoa z).toArray⟩] (.bool true)) → Gr 35 #[.string ⟨op.toArray⟩, .string ⟨a.toArray⟩, .string ⟨b.toArray⟩] (.tuple #[.string ⟨(Lib.itoa z).toArray⟩, .int .i64 0]))
    (hbig : Hid (Gr 24 #[.string ⟨(Lib.itoa z).toArray⟩] (.bool false)) → Gr 35 #[.string ⟨op.toArray⟩, .string ⟨a.toArray⟩, .string ⟨b.toArray⟩] (.tuple #[.string ⟨([] : List UInt8).toArray⟩, .int .i64 10])) :
    Gr 35 #[.string ⟨op.toArray⟩, .string ⟨a.toArray⟩, .string ⟨b.toArray⟩] (.tuple #[.string ⟨(resD F a b).1.toArray⟩, .int .i64 (resD F a b).2]) := by
  cases hw : wideB z.natAbs with
  | false =>
    rw [resD_ok h1 h2 hF hw]
    exact hok (rt_any (by rw [numR_itoa hw]; rfl) hl)
  | true =>
    rw [resD_big h1 h2 hF hw]
    exact hbig (rt_any (by rw [numR_wide hw]; rfl) hl)
/-- What holds of the two texts in any case. -/
theorem gr_bad {op a b : List UInt8} (F : Int → Int → Option Int) (ha : a.length ≤ 1000) (hb : b.length ≤ 1000) (h : numR a = none ∨ numR b = none) :
    Gr 35 #[.string ⟨op.toArray⟩, .string ⟨a.toArray⟩, .string ⟨b.toArray⟩] (.tuple #[.string ⟨(resD F a b).1.toArray⟩, .int .i64 (resD F a b).2]) := by
  obtain ⟨X, mx, ox, HA⟩ := am_any a ha
  obtain ⟨Y, my, oy, HB⟩ := am_any b hb
  rw [resD_none h]
  cases h1 : numR a with
  | none => exact do_bad1 op a b X Y mx my ox oy HA HB (rt_any (by rw [h1]; rfl) ha)
  | some x => exact do_bad2 op a b X Y mx my ox oy HA HB (rt_any (by rw [h1]; rfl) ha) (rt_any (by rcases h with h | h; (rw [h1] at h; cases h); rw [h]; rfl) hb)
theorem len_320 {n : Nat} (h : n < 10 ^ 320) : (Lib.decDigits n).length ≤ 320 := dec_len_le h (by decide)
theorem itoa_320 {z : Int} (h : z.natAbs < 10 ^ 320) : (Lib.itoa z).length ≤ 1000 := by
  have h1 := len_320 h
  unfold Lib.itoa
  split
  · simp; omega
  · rw [show z.toNat = z.natAbs by omega]; omega
theorem num_lt {a : List UInt8} {x : Int} (h : numR a = some x) : x.natAbs < 10 ^ 155 := Nat.lt_of_lt_of_le (not_wide (numR_some h).2).1 p2_160
theorem hid_signed (m : Bool) (n : Nat) (hn : n < 10 ^ 320) {z : Int} (h : sg m n = z) : Hid (Qt 51 #[.string ⟨(Lib.decDigits n).toArray⟩, .bool m] (.string ⟨(Lib.itoa z).toArray⟩)) := by
  subst h
  exact Lib.hid fun w => signed_any m n w (by have := len_320 hn; omega)
theorem hid_add (n m : Nat) (hn : n < 10 ^ 320) (hm : m < 10 ^ 320) : Hid (Gr 52 #[.string ⟨(Lib.decDigits n).toArray⟩, .string ⟨(Lib.decDigits m).toArray⟩] (.string ⟨(Lib.decDigits (n + m)).toArray⟩)) := by
  refine Lib.hid fun w => ?_
  have h := add_any (Lib.decDigits n) (Lib.decDigits m) w (dec_all _) (dec_all _) (by have := len_320 hn; omega) (by have := len_320 hm; omega)
  rw [dval_dec, dval_dec, show ((n : Int) + m).toNat = n + m by omega] at h
  exact h
theorem hid_take (n m : Nat) (hn : n < 10 ^ 320) (h : m ≤ n) : Hid (Gr 53 #[.string ⟨(Lib.decDigits n).toArray⟩, .string ⟨(Lib.decDigits m).toArray⟩] (.string ⟨(Lib.decDigits (n - m)).toArray⟩)) :=
  Lib.hid fun w => take_dec rfl rfl rfl h (by have := len_320 hn; omega) w
theorem hid_below (n m : Nat) (hn : n < 10 ^ 320) (hm : m < 10 ^ 320) {b : Bool} (h : decide (n < m) = b) : Hid (Qt 40 #[.string ⟨(Lib.decDigits n).toArray⟩, .string ⟨(Lib.decDigits m).toArray⟩] (.bool b)) :=
  Lib.hid fun w => below_dec rfl rfl (by have := len_320 hn; omega) (by have := len_320 hm; omega) h w
theorem hid_times (n m : Nat) (hn : n < 10 ^ 320) (hm : m < 10 ^ 320) : Hid (Gr 54 #[.string ⟨(Lib.decDigits n).toArray⟩, .string ⟨(Lib.decDigits m).toArray⟩] (.string ⟨(Lib.decDigits (n * m)).toArray⟩)) := by
  refine Lib.hid fun w => ?_
  have h := times_any (Lib.decDigits n) (Lib.decDigits m) w (dec_all _) (dec_all _) (by have := len_320 hn; omega) (by have := len_320 hm; omega)
  rw [dval_dec, dval_dec, show ((n : Int) * m).toNat = n * m by rw [← Int.natCast_mul]; rfl] at h
  exact h
theorem hid_divide (n m : Nat) (hn : n < 10 ^ 320) (hm : m < 10 ^ 320) (h0 : m ≠ 0) : Hid (Gr 55 #[.string ⟨(Lib.decDigits n).toArray⟩, .string ⟨(Lib.decDigits m).toArray⟩] (.tuple #[.string ⟨(Lib.decDigits (n / m)).toArray⟩, .string ⟨(Lib.decDigits (n % m)).toArray⟩])) := by
  refine Lib.hid fun w => ?_
  have h := divide_any (Lib.decDigits n) m w (dec_all _) (by have := len_320 hn; omega) (dec_ne n) (by have := len_320 hm; omega) h0
  rw [dval_dec, Int.toNat_natCast] at h
  exact h
theorem small_320 {n : Nat} (h : n < 10 ^ 155) : n < 10 ^ 320 := Nat.lt_of_lt_of_le h (by decide +kernel)
theorem small2_320 {n : Nat} (h : n < 10 ^ 156) : n < 10 ^ 320 := Nat.lt_of_lt_of_le h (by decide +kernel)
theorem two_155 {n m : Nat} (hn : n < 10 ^ 155) (hm : m < 10 ^ 155) : n + m < 10 ^ 156 := by rw [show (10 : Nat) ^ 156 = 10 * 10 ^ 155 by decide +kernel]; omega

theorem gr_add (a b : List UInt8) (ha : a.length ≤ 1000) (hb : b.length ≤ 1000) :
    Gr 35 #[.string ⟨([43] : List UInt8).toArray⟩, .string ⟨a.toArray⟩, .string ⟨b.toArray⟩] (.tuple #[.string ⟨(sumT a b).1.toArray⟩, .int .i64 (sumT a b).2]) := by
  unfold sumT
  cases h1 : numR a with
  | none => exact gr_bad _ ha hb (.inl h1)
  | some x =>
    cases h2 : numR b with
    | none => exact gr_bad _ ha hb (.inr h2)
    | some y =>
      have HA := am_num h1 ha
      have HB := am_num h2 hb
      have HRA := rt_any (v := true) (by rw [h1]; rfl) ha
      have HRB := rt_any (v := true) (by rw [h2]; rfl) hb
      have n1 := num_lt h1
      have n2 := num_lt h2
      have n3 := two_155 n1 n2
      have s1 := small_320 n1
      have s2 := small_320 n2
      have s3 := small2_320 n3
      have hz : (x + y).natAbs < 10 ^ 156 := by omega
      refine gr_fin _ h1 h2 rfl (itoa_320 (small2_320 hz)) ?_ ?_
      all_goals
        intro HT
        rcases hm : (decide (x < 0) == decide (y < 0)) with _ | _
        · by_cases hlt : x.natAbs < y.natAbs
          · have hl := hid_below x.natAbs y.natAbs s1 s2 (b := true) (by simpa using hlt)
            have ht := hid_take y.natAbs x.natAbs s2 (by omega)
            have hs := hid_signed (decide (y < 0)) (y.natAbs - x.natAbs) (small2_320 (by omega)) (z := x + y) (by unfold sg; by_cases hx : x < 0 <;> by_cases hy : y < 0 <;> simp [hx, hy] at hm ⊢ <;> omega)
            first | exact do_add_lt_ok _ _ _ _ _ _ _ _ _ _ HA HB HRA HRB hl ht hs hm HT | exact do_add_lt_big _ _ _ _ _ _ _ _ _ _ HA HB HRA HRB hl ht hs hm HT
          · have hl := hid_below x.natAbs y.natAbs s1 s2 (b := false) (by simpa using hlt)
            have ht := hid_take x.natAbs y.natAbs s1 (by omega)
            have hs := hid_signed (decide (x < 0)) (x.natAbs - y.natAbs) (small2_320 (by omega)) (z := x + y) (by unfold sg; by_cases hx : x < 0 <;> by_cases hy : y < 0 <;> simp [hx, hy] at hm ⊢ <;> omega)
            first | exact do_add_ge_ok _ _ _ _ _ _ _ _ _ _ HA HB HRA HRB hl ht hs hm HT | exact do_add_ge_big _ _ _ _ _ _ _ _ _ _ HA HB HRA HRB hl ht hs hm HT
        · have ht := hid_add x.natAbs y.natAbs s1 s2
          have hs := hid_signed (decide (x < 0)) (x.natAbs + y.natAbs) s3 (z := x + y) (by unfold sg; by_cases hx : x < 0 <;> by_cases hy : y < 0 <;> simp [hx, hy] at hm ⊢ <;> omega)
          have he := eq_of_beq hm
          first | exact do_add_eq_ok _ _ _ _ _ _ _ _ _ _ HA HB HRA HRB ht hs he HT | exact do_add_eq_big _ _ _ _ _ _ _ _ _ _ HA HB HRA HRB ht hs he HT
end Go.Proofs.YteiipiomcbohnaaDoor.Ten
