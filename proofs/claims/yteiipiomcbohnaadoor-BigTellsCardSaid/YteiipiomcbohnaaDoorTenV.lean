/-
  big.Int.
-/
import Derived.Lib.AtoiAllCases
import Derived.Lib.SmallJoins
import Derived.Test.YteiipiomcbohnaaDoorTenU
namespace Go.Proofs.YteiipiomcbohnaaDoor.Ten
set_option linter.unusedSimpArgs false
set_option linter.unusedVariables false
open Go.RowKit

theorem pu_all : ∀ (l : List UInt8) (acc : Nat), l.all figureB = true → Lib.parseUint10 acc l = if acc * 10 ^ l.length + (dval l).toNat < 18446744073709551616 then .ok (acc * 10 ^ l.length + (dval l).toNat) else (if acc < 18446744073709551616 then .range else Lib.parseUint10 acc l)
  | [], acc, _ => by
    simp only [Lib.parseUint10, List.length_nil, Nat.pow_zero, Nat.mul_one, dval_nil]
    by_cases h : acc < 18446744073709551616
    · rw [if_pos (by simpa using h)]; rfl
    · rw [if_neg (by simpa using h), if_neg h]
  | c :: r, acc, hf => by
    rw [List.all_cons, Bool.and_eq_true] at hf
    have hc := figB.1 hf.1
    have hr := (dval_rng _ r rfl hf.2).1
    have e := dval_app [c] r.length r rfl
    rw [List.singleton_append, dval_one] at e
    obtain ⟨P, hP⟩ : ∃ P, 10 ^ r.length = P := ⟨_, rfl⟩
    have hP0 : 0 < P := by rw [← hP]; exact Nat.pow_pos (by omega)
    have hPi : (10 : Int) ^ r.length = P := by rw [← hP]; simp
    rw [hPi] at e
    obtain ⟨d, hd⟩ : ∃ d, c.toNat - 48 = d := ⟨_, rfl⟩
    have e2 : (dval (c :: r)).toNat = d * P + (dval r).toNat := by
      rw [e, show (c.toNat : Int) - 48 = d by omega, show (d : Int) * P = ((d * P : Nat) : Int) by simp]
      omega
    have e3 : acc * 10 ^ (c :: r).length + (dval (c :: r)).toNat = (acc * 10 + d) * P + (dval r).toNat := by
      rw [e2, List.length_cons, Nat.pow_succ, hP, Nat.add_mul, Nat.mul_assoc acc 10 P, Nat.mul_comm P 10]
      omega
    rw [e3]
    by_cases ha : acc < 18446744073709551616
    · rw [if_pos ha]
      have hge : acc * 10 + d ≤ (acc * 10 + d) * P := Nat.le_mul_of_pos_right _ hP0
      simp only [Lib.parseUint10]
      rw [if_pos (by omega), hd]
      by_cases h1 : 1844674407370955162 ≤ acc
      · rw [if_pos h1, if_neg (by omega)]
      · rw [if_neg h1]
        by_cases h2 : 18446744073709551616 ≤ acc * 10 + d
        · rw [if_pos h2, if_neg (by omega)]
        · rw [if_neg h2, pu_all r _ hf.2, hP, if_pos (show acc * 10 + d < 18446744073709551616 by omega)]
    · rw [if_neg ha, if_neg (by
        have hge : acc * 10 + d ≤ (acc * 10 + d) * P := Nat.le_mul_of_pos_right _ hP0
        omega)]
theorem pm_dec (n : Nat) : Lib.parseMag (Lib.decDigits n) = if n < 18446744073709551616 then .ok n else .range := by
  unfold Lib.parseMag
  rw [if_neg (dec_ne n), pu_all _ 0 (dec_all n), dval_dec]
  simp
theorem atoi_itoa (z : Int) : Lib.atoiAll (Lib.itoa z) = if In64 z then .ok z else .range := by
  unfold Lib.itoa
  by_cases hz : z < 0
  · rw [if_pos hz, Lib.atoiAll_minus, pm_dec]
    by_cases h1 : z.natAbs < 18446744073709551616
    · rw [if_pos h1]
      unfold Lib.signed
      by_cases h2 : 9223372036854775808 < z.natAbs
      · simp only; rw [if_pos h2, if_neg (by unfold In64; omega)]
      · simp only; rw [if_neg h2, if_pos (by unfold In64; omega)]; congr 1; omega
    · rw [if_neg h1, if_neg (by unfold In64; omega)]
      rfl
  · rw [if_neg hz]
    cases h : Lib.decDigits z.toNat with
    | nil => exact absurd h (dec_ne _)
    | cons c t =>
      have hf : figureB c = true := by have := dec_all z.toNat; rw [h, List.all_cons, Bool.and_eq_true] at this; exact this.1
      have hc := figB.1 hf
      rw [Lib.atoiAll_plain c t (by omega) (by omega), ← h, pm_dec]
      by_cases h1 : z.toNat < 18446744073709551616
      · rw [if_pos h1]
        unfold Lib.signless
        by_cases h2 : 9223372036854775808 ≤ z.toNat
        · simp only; rw [if_pos h2, if_neg (by unfold In64; omega)]
        · simp only; rw [if_neg h2, if_pos (by unfold In64; omega)]; congr 1; omega
      · rw [if_neg h1, if_neg (by unfold In64; omega)]
        rfl
/-- The variable that a number too great is told by. -/
def Vr (w : World) : Prop := ∃ tp p, w.var? Tryd.prog "strconv.ErrRange" = some #[.iface tp p]
theorem Vr.on {w w' : World} (h : Vr w) (hb : Below w.heap.size w w') : Vr w' := h.elim fun tp h => h.elim fun p h => ⟨tp, p, var_on h hb⟩
def IntPost (k : Int × Int) (w : World) (e : Ending) (w' : World) : Prop := e = .returned (.tuple #[.int .i64 k.1, .int .i64 k.2]) ∧ Hid (Below w.heap.size w w')

set_option maxRecDepth 100000 in
theorem big_int (a : List UInt8) (w : World) (ha : a.length ≤ 1000) (hV : Vr w) :
    Calls Tryd.prog 22 #[.string ⟨a.toArray⟩] w (IntPost (intT a) w) := by
  have HR := Lib.hid (right_hid (s := a) (b := (numR a).isSome) rfl w (by omega))
  have HV := Lib.hid hV
  have hsz : (⟨a.toArray⟩ : ByteArray).size ≤ 281474976710656 := by simp [ByteArray.size]; omega
  clear hV
  unfold intT
  cases h1 : numR a with
  | none =>
    rw [h1] at HR
    have HR := Lib.hid HR.out
    clear h1
    go_enter Tryd.func22, Tryd.ntmps22
    go_wp2_with fail
    refine HR.out.mono ?_
    rintro e w2 ⟨rfl, hb2⟩
    go_wp2
    refine bodyPost_ret (v := .tuple #[.int .i64 0, .int .i64 1]) (by simp [results, Tryd.results22, go_sem]) rfl ?_
    exact ⟨rfl, hb2⟩
  | some z =>
    rw [h1] at HR
    have hi := atoi_itoa z
    rw [← (numR_text h1).1] at hi
    have hi : Lib.atoiAll (⟨a.toArray⟩ : ByteArray).data.toList = if In64 z then .ok z else .range := hi
    simp only
    by_cases hz : In64 z
    · rw [if_pos hz] at hi ⊢
      have HA := Lib.hid fun w2 => Tryd.strconv_Atoi_ok ⟨a.toArray⟩ (by omega) z hi w2
      have HR := Lib.hid HR.out
      clear h1 hi hz hsz
      go_enter Tryd.func22, Tryd.ntmps22
      go_wp2_with fail
      refine HR.out.mono ?_
      rintro e w2 ⟨rfl, hb2⟩
      go_wp2_with fail
      refine (HA.out w2).mono ?_
      rintro e w3 ⟨rfl, hb3⟩
      have HB3 := Lib.hid (show Below w2.heap.size w2 w3 by
        rcases hb3 with rfl | ⟨t, rfl⟩
        · exact Below.refl _ _
        · exact Go.Joins.below_bytesWorld _ _ _ _ (Nat.le_refl _))
      clear hb3
      go_wp2
      refine bodyPost_ret (v := .tuple #[.int .i64 z, .int .i64 0]) (by simp [results, Tryd.results22, go_sem]) rfl ?_
      exact ⟨rfl, Lib.hid (bext hb2.out HB3.out)⟩
    · rw [if_neg hz] at hi ⊢
      have HA := Lib.hid fun w2 tp p hp => Tryd.strconv_Atoi_range_var ⟨a.toArray⟩ hsz hi tp p w2 hp
      have HR := Lib.hid HR.out
      clear h1 hi hz hsz
      go_enter Tryd.func22, Tryd.ntmps22
      go_wp2_with fail
      refine HR.out.mono ?_
      rintro e w2 ⟨rfl, hb2⟩
      obtain ⟨tp, p, hp⟩ := HV.out.on hb2.out
      have HP := Lib.hid hp
      clear hp
      go_wp2_with fail
      refine (HA.out w2 tp p HP.out).mono ?_
      rintro e w3 ⟨N, rfl, -, -, hb3⟩
      have HB3 := Lib.hid hb3
      clear hb3
      go_wp2
      refine bodyPost_ret (v := .tuple #[.int .i64 0, .int .i64 10]) (by simp [results, Tryd.results22, go_sem]) rfl ?_
      exact ⟨rfl, Lib.hid (bext hb2.out HB3.out)⟩
end Go.Proofs.YteiipiomcbohnaaDoor.Ten
