/-
  the document's below and signed.
-/
import Derived.Test.YteiipiomcbohnaaDoorTenF
import Derived.Test.YteiipiomcbohnaaDoorBgLa
namespace Go.Proofs.YteiipiomcbohnaaDoor.Ten
set_option linter.unusedSimpArgs false
set_option linter.unusedVariables false
open Go.RowKit

set_option maxRecDepth 100000 in
theorem below_len (a b : List UInt8) (w : World) (ma : a.length ≤ 900) (mb : b.length ≤ 900) (h : ¬ a.length = b.length) :
    Calls Tryd.prog 40 #[.string ⟨a.toArray⟩, .string ⟨b.toArray⟩] w fun e w' => e = .returned (.bool (decide (a.length < b.length))) ∧ w = w' := by
  by_cases hl : a.length < b.length
  · have e1 := Lib.hid (show decide (a.length < b.length) = true by simpa using hl)
    go_enter Tryd.func40, Tryd.ntmps40
    go_wp2
    go_ret
    exact ⟨ret_bool e1.out.symm, rfl⟩
  · have e1 := Lib.hid (show decide (a.length < b.length) = false by simpa using hl)
    go_enter Tryd.func40, Tryd.ntmps40
    go_wp2
    go_ret
    exact ⟨ret_bool e1.out.symm, rfl⟩
set_option maxRecDepth 100000 in
theorem below_same (a b : List UInt8) (w : World) (ma : a.length ≤ 900) (h : a.length = b.length) :
    Calls Tryd.prog 40 #[.string ⟨a.toArray⟩, .string ⟨b.toArray⟩] w fun e w' => e = .returned (.bool (Op.bytesLess a b)) ∧ w = w' := by
  go_enter Tryd.func40, Tryd.ntmps40
  go_wp2
  go_ret
  exact ⟨rfl, rfl⟩

theorem bl_same : ∀ (n : Nat) (a b : List UInt8), a.length = n → b.length = n → a.all figureB = true → b.all figureB = true → Op.bytesLess a b = decide (dval a < dval b)
  | 0, a, b, ha, hb, _, _ => by
    rw [List.eq_nil_of_length_eq_zero ha, List.eq_nil_of_length_eq_zero hb]; simp [Op.bytesLess]
  | n + 1, a, b, ha, hb, fa, fb => by
    cases a with
    | nil => cases ha
    | cons c x =>
      cases b with
      | nil => cases hb
      | cons d y =>
        have hx : x.length = n := by simpa using ha
        have hy : y.length = n := by simpa using hb
        rw [List.all_cons, Bool.and_eq_true] at fa fb
        have ih := bl_same n x y hx hy fa.2 fb.2
        have r1 := dval_rng n x hx fa.2
        have r2 := dval_rng n y hy fb.2
        have e1 := dval_app [c] n x hx
        have e2 := dval_app [d] n y hy
        rw [dval_one] at e1 e2
        simp only [List.singleton_append] at e1 e2
        rw [e1, e2]
        unfold Op.bytesLess
        rw [ih]
        obtain ⟨P, hP⟩ : ∃ P : Int, (10 : Int) ^ n = P := ⟨_, rfl⟩
        rw [hP] at r1 r2 ⊢
        rcases Nat.lt_trichotomy c.toNat d.toNat with h | h | h
        · have h1 : c < d := UInt8.lt_iff_toNat_lt.2 h
          have h2 : ((c.toNat : Int) - 48) * P + P ≤ ((d.toNat : Int) - 48) * P := by
            have : ((c.toNat : Int) - 48 + 1) * P ≤ ((d.toNat : Int) - 48) * P := Int.mul_le_mul_of_nonneg_right (by omega) (by omega)
            rw [Int.add_mul] at this
            omega
          simp only [h1, decide_true, Bool.true_or]
          symm
          simp only [decide_eq_true_eq]
          omega
        · obtain rfl : c = d := UInt8.toNat_inj.1 h
          simp
        · have h1 : ¬ c < d := fun e => by have := UInt8.lt_iff_toNat_lt.1 e; omega
          have h3 : (c == d) = false := by simp only [beq_eq_false_iff_ne, ne_eq]; rintro rfl; omega
          have h2 : ((d.toNat : Int) - 48) * P + P ≤ ((c.toNat : Int) - 48) * P := by
            have : ((d.toNat : Int) - 48 + 1) * P ≤ ((c.toNat : Int) - 48) * P := Int.mul_le_mul_of_nonneg_right (by omega) (by omega)
            rw [Int.add_mul] at this
            omega
          simp only [h1, h3, decide_false, Bool.false_and, Bool.or_self]
          symm
          simp only [decide_eq_false_iff_not]
          omega
theorem dec_len_lt {n m : Nat} (h : (Lib.decDigits n).length < (Lib.decDigits m).length) : n < m := by
  rcases Nat.lt_or_ge n m with h' | h'
  · exact h'
  · have h1 := dec_lt n
    have h0 : (Lib.decDigits n).length ≠ 0 := fun e => dec_ne n (List.eq_nil_of_length_eq_zero e)
    have := dec_len_le (n := m) (k := (Lib.decDigits n).length) (by omega) h0
    omega
theorem below_any (n m : Nat) (w : World) (hn : (Lib.decDigits n).length ≤ 900) (hm : (Lib.decDigits m).length ≤ 900) :
    Calls Tryd.prog 40 #[.string ⟨(Lib.decDigits n).toArray⟩, .string ⟨(Lib.decDigits m).toArray⟩] w fun e w' => e = .returned (.bool (decide (n < m))) ∧ w = w' := by
  by_cases h : (Lib.decDigits n).length = (Lib.decDigits m).length
  · have h1 := below_same _ _ w hn h
    rw [bl_same _ _ _ h rfl (dec_all n) (dec_all m), dval_dec, dval_dec] at h1
    rw [show decide (n < m) = decide ((n : Int) < m) by simp]
    exact h1
  · have h1 := below_len _ _ w hn hm h
    have : decide ((Lib.decDigits n).length < (Lib.decDigits m).length) = decide (n < m) := by
      rcases Nat.lt_or_ge (Lib.decDigits n).length (Lib.decDigits m).length with h2 | h2
      · have := dec_len_lt h2
        simp [h2, this]
      · have := dec_len_lt (show (Lib.decDigits m).length < (Lib.decDigits n).length by omega)
        rw [decide_eq_false (by omega), decide_eq_false (by omega)]
    rw [this] at h1
    exact h1
end Go.Proofs.YteiipiomcbohnaaDoor.Ten
