/-
  BigLaws: what the calls give. Of no program's text.
-/
import Derived.Test.YteiipiomcbohnaaDoorBgX
namespace Go.Proofs.YteiipiomcbohnaaDoor
set_option linter.unusedSimpArgs false
set_option linter.unusedVariables false
open Go.RowKit

def L70 : Nat := 10 ^ 70
theorem l70_s : L70 + L70 ≤ p2 512 := by decide +kernel
theorem l70_p : (L70 + L70) * L70 ≤ p2 512 := by decide +kernel
theorem nw {n : Nat} (h : n < p2 512) : wideB n = false := by unfold wideB; simp; exact h
theorem dec_lt (n : Nat) : n < 10 ^ (Lib.decDigits n).length := by
  have h := (dval_rng _ (Lib.decDigits n) rfl (dec_all n)).2
  rw [dval_dec] at h
  exact_mod_cast h
theorem numR_l70 {s : List UInt8} {z : Int} (h : numR s = some z) (hl : s.length ≤ 70) : z.natAbs < L70 := by
  obtain ⟨h1, -, -⟩ := numR_text h
  have h3 : (Lib.decDigits z.natAbs).length ≤ 70 := by
    rw [h1] at hl
    unfold Lib.itoa at hl
    split at hl
    · simp at hl; omega
    · rename_i hz
      rw [show z.natAbs = z.toNat by omega]
      exact hl
  exact Nat.lt_of_lt_of_le (dec_lt _) (Nat.pow_le_pow_right (by decide) h3)
theorem op_ok {F : Int → Int → Option Int} {s t : List UInt8} {x y z : Int} (h1 : numR s = some x) (h2 : numR t = some y) (hF : F x y = some z) (hw : wideB z.natAbs = false) {u : List UInt8} (hu : Lib.itoa z = u) : resD F s t = (u, 0) := by
  rw [← hu]; exact resD_ok h1 h2 hF hw
theorem laws_plain {A B C : List UInt8} {x y z : Int} (hx : numR A = some x) (hy : numR B = some y) (hz : numR C = some z) (hA : A.length ≤ 70) (hB : B.length ≤ 70) (hC : C.length ≤ 70) :
    ∃ S P X Y Z : List UInt8, (Fit S ∧ Fit Y ∧ Fit Z) ∧ sumT A B = (S, 0) ∧ sumT B A = (S, 0) ∧ lessT S B = (A, 0) ∧ timesT A B = (P, 0) ∧ timesT B A = (P, 0) ∧
      timesT S C = (X, 0) ∧ timesT A C = (Y, 0) ∧ timesT B C = (Z, 0) ∧ sumT Y Z = (X, 0) := by
  have hs := l70_s
  have hp := l70_p
  have bx := numR_l70 hx hA
  have by_ := numR_l70 hy hB
  have bz := numR_l70 hz hC
  have hxA := (numR_text hx).1
  have wx := (numR_text hx).2.1
  have mul : ∀ {a b : Int} {m k : Nat}, a.natAbs < m → b.natAbs < k → (a * b).natAbs < m * k := by
    intro a b m k h1 h2
    rw [Int.natAbs_mul]
    exact Nat.mul_lt_mul'' h1 h2
  have hp1 : L70 * L70 ≤ (L70 + L70) * L70 := Nat.mul_le_mul_right _ (by omega)
  have ws : wideB (x + y).natAbs = false := nw (by omega)
  have wxy : wideB (x * y).natAbs = false := nw (by have := mul bx by_; omega)
  have wsz : wideB ((x + y) * z).natAbs = false := nw (by have := mul (a := x + y) (m := L70 + L70) (by omega) bz; omega)
  have wxz : wideB (x * z).natAbs = false := nw (by have := mul bx bz; omega)
  have wyz : wideB (y * z).natAbs = false := nw (by have := mul by_ bz; omega)
  have hS := numR_itoa ws
  have hY := numR_itoa wxz
  have hZ := numR_itoa wyz
  refine ⟨Lib.itoa (x + y), Lib.itoa (x * y), Lib.itoa ((x + y) * z), Lib.itoa (x * z), Lib.itoa (y * z), ⟨fit_itoa ws, fit_itoa wxz, fit_itoa wyz⟩, ?_⟩
  exact ⟨resD_ok hx hy rfl ws, op_ok (z := y + x) hy hx rfl (by rw [Int.add_comm]; exact ws) (by rw [Int.add_comm]),
    op_ok (z := x + y - y) hS hy rfl (by rw [show x + y - y = x by omega]; exact wx) (by rw [show x + y - y = x by omega]; exact hxA.symm),
    resD_ok hx hy rfl wxy, op_ok (z := y * x) hy hx rfl (by rw [Int.mul_comm]; exact wxy) (by rw [Int.mul_comm]),
    resD_ok hS hz rfl wsz, resD_ok hx hz rfl wxz, resD_ok hy hz rfl wyz,
    op_ok (z := x * z + y * z) hY hZ rfl (by rw [← Int.add_mul]; exact wsz) (by rw [← Int.add_mul])⟩
theorem laws_div {A B : List UInt8} {x y : Int} (hx : numR A = some x) (hy : numR B = some y) (h0 : y ≠ 0) :
    ∃ D R V : List UInt8, (Fit D ∧ Fit R ∧ Fit V) ∧ quotT A B = (D, 0) ∧ restT A B = (R, 0) ∧ timesT D B = (V, 0) ∧ sumT V R = (A, 0) := by
  have hxA := (numR_text hx).1
  have wx := (numR_text hx).2.1
  have lx := (not_wide wx).1
  have q1 : (x.tdiv y).natAbs ≤ x.natAbs := by rw [Int.natAbs_tdiv]; exact Nat.div_le_self _ _
  have r1 : (x.tmod y).natAbs ≤ x.natAbs := by rw [Int.natAbs_tmod]; exact Nat.mod_le _ _
  have v1 : (x.tdiv y * y).natAbs ≤ x.natAbs := by rw [Int.natAbs_mul, Int.natAbs_tdiv]; exact Nat.div_mul_le_self _ _
  have he : x.tdiv y * y + x.tmod y = x := by have := Int.mul_tdiv_add_tmod x y; rw [Int.mul_comm]; exact this
  have wq : wideB (x.tdiv y).natAbs = false := nw (by omega)
  have wr : wideB (x.tmod y).natAbs = false := nw (by omega)
  have wv : wideB (x.tdiv y * y).natAbs = false := nw (by omega)
  refine ⟨Lib.itoa (x.tdiv y), Lib.itoa (x.tmod y), Lib.itoa (x.tdiv y * y), ⟨fit_itoa wq, fit_itoa wr, fit_itoa wv⟩, ?_⟩
  exact ⟨resD_ok hx hy (by unfold partsF; rw [if_neg h0]; rfl) wq, resD_ok hx hy (by unfold partsF; rw [if_neg h0]; rfl) wr, resD_ok (numR_itoa wq) hy rfl wv,
    op_ok (z := x.tdiv y * y + x.tmod y) (numR_itoa wv) (numR_itoa wr) rfl (by rw [he]; exact wx) (by rw [he]; exact hxA.symm)⟩
theorem is_nought {B : List UInt8} {y : Int} (hy : numR B = some y) : (y = 0 → B = [48]) ∧ (y ≠ 0 → (B == [48]) = false) := by
  refine ⟨fun h => by rw [(numR_text hy).1, h, itoa_0], fun h => ?_⟩
  simp only [beq_eq_false_iff_ne, ne_eq]
  rintro rfl
  rw [numR_0] at hy
  exact h (Option.some.inj hy).symm
end Go.Proofs.YteiipiomcbohnaaDoor
