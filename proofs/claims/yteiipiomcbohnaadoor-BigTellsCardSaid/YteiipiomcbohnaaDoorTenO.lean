/-
  the document's divide.
-/
import Derived.Test.YteiipiomcbohnaaDoorTenN
import Derived.Test.YteiipiomcbohnaaDoorBgR
namespace Go.Proofs.YteiipiomcbohnaaDoor.Ten
set_option linter.unusedSimpArgs false
set_option linter.unusedVariables false
open Go.RowKit

theorem cut_one (a : List UInt8) (k : Nat) (h : k < a.length) : (⟨a.toArray⟩ : ByteArray).extract k (k + 1) = ⟨[a[k]].toArray⟩ := by
  rw [ByteArray.extract_mk]
  congr 1
  apply Array.toList_inj.1
  simp
  rw [List.take_one, List.head?_drop, List.getElem?_eq_getElem h]
  rfl
/-- What a figure makes of a rest. -/
theorem rest_up {c : UInt8} (h : figureB c = true) (r : Nat) : Lib.decDigits (10 * r + (c.toNat - 48)) = if r = 0 then [c] else Lib.decDigits r ++ [c] := by
  have h1 := figB.1 h
  have h2 : UInt8.ofNat (48 + (c.toNat - 48)) = c := by
    have := u8_back c h
    rw [show ((c.toNat : Int) - 48).toNat = c.toNat - 48 by omega] at this
    exact this
  split
  · next h0 =>
    subst h0
    rw [dec_small (by omega), Nat.mul_zero, Nat.zero_add, h2]
  · next h0 => rw [dec_step h0 (by omega), h2]
/-- The figures of a quotient so far. -/
structure QuoI (a : List UInt8) (y k : Nat) (Q : List UInt8) (r : Nat) : Prop where
  len : Q.length = k
  fig : Q.all figureB = true
  val : dval (a.take k) = dval Q * y + r
  lt : r < y
theorem QuoI.start (a : List UInt8) {y : Nat} (h : y ≠ 0) : QuoI a y 0 [] 0 := ⟨rfl, rfl, by simp [dval], by omega⟩
theorem QuoI.step {a Q : List UInt8} {y k r m n : Nat} (h : QuoI a y k Q r) (hk : k < a.length) (hf : figureB a[k] = true) (hm : m = 10 * r + (a[k].toNat - 48)) (hn : n * y ≤ m) (hlt : m - n * y < y) (h10 : n < 10) :
    QuoI a y (k + 1) (Q ++ [UInt8.ofNat (48 + n)]) (m - n * y) := by
  have h1 := figB.1 hf
  have hfo := fig_ofNat h10
  have hno := nat_fig h10
  obtain ⟨f, hf2⟩ : ∃ f, UInt8.ofNat (48 + n) = f := ⟨_, rfl⟩
  rw [hf2] at hfo hno ⊢
  refine ⟨by simp [h.len], by rw [List.all_append, h.fig]; simp [hfo], ?_, hlt⟩
  rw [List.take_add_one, List.getElem?_eq_getElem hk, Option.toList_some, dval_snoc, dval_snoc, h.val, hno]
  obtain ⟨P, hP⟩ : ∃ P, dval Q * y = P := ⟨_, rfl⟩
  obtain ⟨R, hR⟩ : ∃ R, n * y = R := ⟨_, rfl⟩
  have hR2 : ((n : Int) * y) = R := by rw [← hR]; simp
  rw [show (48 + (n : Int) - 48) = n by omega, Int.add_mul, Int.mul_assoc, hP, hR2]
  rw [hR] at hn
  omega
theorem QuoI.done {a Q : List UInt8} {y k r : Nat} (h : QuoI a y k Q r) (hk : k = a.length) (fa : a.all figureB = true) : dval Q = ((dval a).toNat / y : Nat) ∧ r = (dval a).toNat % y := by
  have hv := h.val
  rw [List.take_of_length_le (by omega)] at hv
  have q0 := (dval_rng _ Q rfl h.fig).1
  obtain ⟨q, hq⟩ : ∃ q : Nat, dval Q = q := ⟨(dval Q).toNat, by omega⟩
  have hl := h.lt
  rw [hq] at hv ⊢
  have : (dval a).toNat = y * q + r := by rw [hv, Nat.mul_comm]; omega
  rw [this, Nat.mul_add_div (by omega), Nat.mul_add_mod, Nat.div_eq_of_lt hl, Nat.mod_eq_of_lt hl]
  exact ⟨by simp, rfl⟩

theorem app_str (a b : List UInt8) : ((⟨a.toArray⟩ : ByteArray) ++ ⟨b.toArray⟩) = ⟨(a ++ b).toArray⟩ := by
  apply ByteArray.ext
  simp
theorem ten_cut : ∀ j : Nat, j < 10 → (⟨#[48, 49, 50, 51, 52, 53, 54, 55, 56, 57]⟩ : ByteArray).extract j (j + 1) = ⟨#[UInt8.ofNat (48 + j)]⟩ := by decide +kernel
theorem dec_len_mono {n m : Nat} (h : n ≤ m) : (Lib.decDigits n).length ≤ (Lib.decDigits m).length := Nat.le_of_not_lt fun h1 => by have := dec_len_lt h1; omega
theorem take_dec {n m : Nat} {A B C : List UInt8} (hA : Lib.decDigits n = A) (hB : Lib.decDigits m = B) (hC : Lib.decDigits (n - m) = C) (h : m ≤ n) (ma : A.length ≤ 900) (w : World) :
    Calls Tryd.prog 53 #[.string ⟨A.toArray⟩, .string ⟨B.toArray⟩] w fun e w' => e = .returned (.string ⟨C.toArray⟩) ∧ Hid (Below w.heap.size w w') := by
  subst hA
  subst hB
  subst hC
  have h1 := take_any (Lib.decDigits n) (Lib.decDigits m) w (dec_all _) (dec_all _) ma (dec_len_mono h) (by rw [dval_dec, dval_dec]; omega)
  rw [dval_dec, dval_dec, show ((n : Int) - m).toNat = n - m by omega] at h1
  exact h1
theorem below_dec {n m : Nat} {A B : List UInt8} (hA : Lib.decDigits n = A) (hB : Lib.decDigits m = B) (ma : A.length ≤ 900) (mb : B.length ≤ 900) {b : Bool} (h : decide (n < m) = b) (w : World) :
    Calls Tryd.prog 40 #[.string ⟨A.toArray⟩, .string ⟨B.toArray⟩] w fun e w' => e = .returned (.bool b) ∧ w = w' := by
  subst hA
  subst hB
  subst h
  exact below_any n m w ma mb
def slen (v : Value) : Nat := match v with
  | .string b => b.size
  | _ => 0
set_option maxRecDepth 100000 in
set_option maxHeartbeats 4000000 in
theorem divide_any (a : List UInt8) (y : Nat) (w : World) (fa : a.all figureB = true) (ma : a.length ≤ 400) (a0 : a ≠ []) (my : (Lib.decDigits y).length ≤ 400) (y0 : y ≠ 0) :
    Calls Tryd.prog 55 #[.string ⟨a.toArray⟩, .string ⟨(Lib.decDigits y).toArray⟩] w fun e w' => e = .returned (.tuple #[.string ⟨(Lib.decDigits ((dval a).toNat / y)).toArray⟩, .string ⟨(Lib.decDigits ((dval a).toNat % y)).toArray⟩]) ∧ Hid (Below w.heap.size w w') := by
  obtain ⟨V, hV⟩ : ∃ V, Value.tuple #[.string ⟨(Lib.decDigits ((dval a).toNat / y)).toArray⟩, .string ⟨(Lib.decDigits ((dval a).toNat % y)).toArray⟩] = V := ⟨_, rfl⟩
  rw [hV]
  have HV := Lib.hid hV
  obtain ⟨B, hB⟩ : ∃ B, Lib.decDigits y = B := ⟨_, rfl⟩
  rw [hB] at my ⊢
  have HB := Lib.hid hB
  have H0 := Lib.hid (show Lib.decDigits 0 = [48] from dec_zero)
  have HQ0 := Lib.hid (QuoI.start a y0)
  have Y0 := Lib.hid y0
  have A0 := Lib.hid a0
  have FA := Lib.hid fa
  clear hV hB y0 a0 fa
  go_enter Tryd.func55, Tryd.ntmps55
  go_wp2
  go_loopw [6, 7, 8] (fun q rest i wr => ∃ (k : Nat) (Q R : List UInt8) (r : Nat), k ≤ a.length ∧ i = .int .i64 k ∧ q = .string ⟨Q.toArray⟩ ∧ rest = .string ⟨R.toArray⟩ ∧ Hid (Lib.decDigits r = R) ∧ Hid (QuoI a y k Q r) ∧ Hid (Below w.heap.size w wr))
    (fun _ _ i _ => a.length - (intOf i).toNat)
  case atStart => exact ⟨0, [], [48], 0, by omega, rfl, rfl, rfl, H0, HQ0, Lib.hid (Below.refl _ _)⟩
  case round =>
    obtain ⟨k, Q, R, r, hk, rfl, rfl, rfl, hR, hQ, hb⟩ := hrel
    by_cases hlt : k < a.length
    · have hc := cut_one a k hlt
      have hfc := List.all_eq_true.1 FA.out a[k] (List.getElem_mem hlt)
      obtain ⟨m, hm⟩ : ∃ m, 10 * r + (a[k].toNat - 48) = m := ⟨_, rfl⟩
      have HUP := rest_up hfc r
      rw [hm] at HUP
      have hrl : R.length ≤ 400 := by rw [← hR.out]; have := dec_len_mono (Nat.le_of_lt hQ.out.lt); rw [HB.out] at this; omega
      have hr1 : 1 ≤ R.length := by rw [← hR.out]; exact Nat.pos_of_ne_zero (fun e => dec_ne r (List.eq_nil_of_length_eq_zero e))
      have hm10 : m < 10 * y := by have := hQ.out.lt; have := figB.1 hfc; omega
      have HQS := Lib.hid (fun n (h1 : n * y ≤ m) (h2 : m - n * y < y) (h3 : n < 10) => hQ.out.step (n := n) hlt hfc hm.symm h1 h2 h3)
      have hql : Q.length ≤ 400 := by rw [hQ.out.len]; omega
      obtain ⟨c, hcc⟩ : ∃ c, a[k] = c := ⟨_, rfl⟩
      rw [hcc] at hc HUP
      have Hm10 := Lib.hid hm10
      clear hfc hcc hm hm10
      by_cases hr : r = 0
      · subst hr
        obtain rfl : R = [48] := by rw [← hR.out]; exact dec_zero
        rw [if_pos rfl] at HUP
        have HUP := Lib.hid HUP
        go_wp2
        go_loopw [7, 9] (fun rest n wi => ∃ (j : Nat) (R2 : List UInt8), n = .int .i64 j ∧ rest = .string ⟨R2.toArray⟩ ∧ j < 10 ∧ R2.length ≤ 401 ∧ Hid (Lib.decDigits (m - j * y) = R2) ∧ Hid (j * y ≤ m) ∧ Hid (Below w.heap.size w wi))
          (fun _ n _ => 10 - (intOf n).toNat)
        case atStart =>
          exact ⟨0, [c], rfl, (by first | rfl | exact congrArg Value.string (app_str _ _)), by omega, by first | (simp; done) | (simp; omega), Lib.hid (by rw [Nat.zero_mul]; exact HUP.out), Lib.hid (by omega), hb⟩
        case round =>
          clear hb
          obtain ⟨j, R2, rfl, rfl, hj, hr2, hR2, hjm, hb2⟩ := hrel
          by_cases hbl : m - j * y < y
          · have HBl := Lib.hid (below_dec hR2.out HB.out (by omega) (by omega) (b := true) (by simpa using hbl) wr)
            have hcut := ten_cut j hj
            have hq2 := HQS.out j hjm.out hbl hj
            obtain ⟨f, hf⟩ : ∃ f, UInt8.ofNat (48 + j) = f := ⟨_, rfl⟩
            rw [hf] at hcut hq2
            have HQ2 := Lib.hid hq2
            clear hbl hf hq2
            go_wp2_with fail
            refine HBl.out.mono ?_
            rintro e w' ⟨rfl, h9⟩
            obtain rfl := h9.symm
            go_wp2
            go_roundw
            case rel => exact ⟨k + 1, Q ++ [f], R2, m - j * y, by omega, by go_num, congrArg Value.string (app_str Q [f]), rfl, hR2, HQ2, hb2⟩
            case measure => simp [intOf]; omega
          · have HBl := Lib.hid (below_dec hR2.out HB.out (by omega) (by omega) (b := false) (by simpa using hbl) wr)
            have hm10 := Hm10.out
            have hj1 : (j + 1) * y ≤ m := by have := hjm.out; rw [Nat.add_mul, Nat.one_mul]; omega
            have hj10 : j + 1 < 10 := Nat.lt_of_mul_lt_mul_right (a := y) (by omega)
            have HJ1 := Lib.hid hj1
            obtain ⟨R3, hR3⟩ : ∃ R3, Lib.decDigits (m - (j + 1) * y) = R3 := ⟨_, rfl⟩
            have HT := Lib.hid (take_dec hR2.out HB.out (C := R3) (by rw [← hR3]; congr 1; rw [Nat.add_mul, Nat.one_mul]; omega) (by omega) (by omega) wr)
            have hl3 : R3.length ≤ 401 := by have := dec_len_mono (show m - (j + 1) * y ≤ m - j * y by rw [Nat.add_mul]; omega); rw [hR2.out, hR3] at this; omega
            have HR3 := Lib.hid hR3
            clear hbl hm10 hj1 hR3
            go_wp2_with fail
            refine HBl.out.mono ?_
            rintro e w' ⟨rfl, h9⟩
            obtain rfl := h9.symm
            go_wp2_with fail
            refine HT.out.mono ?_
            rintro e w' ⟨rfl, h9⟩
            go_wp2
            go_roundw
            case rel => exact ⟨j + 1, R3, by go_num, rfl, hj10, hl3, HR3, HJ1, Lib.hid (hb2.out.trans (h9.out.mono hb2.out.size))⟩
            case measure => simp [intOf]; omega
      · have hrb : (R == [48]) = false := by
          rw [← hR.out]
          simp only [beq_eq_false_iff_ne, ne_eq]
          intro e
          have := dec_head hr
          rw [e] at this
          exact this rfl
        have hh := dec_head hr
        rw [hR.out] at hh HUP
        rw [if_neg hr] at HUP
        have HUP := Lib.hid HUP
        have hg : ((((((⟨R.toArray⟩ : ByteArray) ++ ⟨#[c]⟩)[0]'(by rw [show (#[c] : Array UInt8) = [c].toArray from rfl, app_str]; simp [ByteArray.size])).toNat : Int)) == 48) = false := by
          cases R with
          | nil => simp at hr1
          | cons x z =>
            have hx : x ≠ 48 := fun e => hh (by simp [e])
            have e1 : ((⟨(x :: z).toArray⟩ : ByteArray) ++ ⟨#[c]⟩) = ⟨(x :: (z ++ [c])).toArray⟩ := app_str (x :: z) [c]
            simp only [e1]
            simp only [beq_eq_false_iff_ne, ne_eq]
            intro e
            apply hx
            have e2 : (((⟨(x :: (z ++ [c])).toArray⟩ : ByteArray)[0]'(by simp [ByteArray.size]))) = x := rfl
            rw [e2] at e
            exact UInt8.toNat_inj.1 (show x.toNat = 48 by omega)
        clear hh hr
        go_wp2
        go_loopw [7, 9] (fun rest n wi => ∃ (j : Nat) (R2 : List UInt8), n = .int .i64 j ∧ rest = .string ⟨R2.toArray⟩ ∧ j < 10 ∧ R2.length ≤ 401 ∧ Hid (Lib.decDigits (m - j * y) = R2) ∧ Hid (j * y ≤ m) ∧ Hid (Below w.heap.size w wi))
          (fun _ n _ => 10 - (intOf n).toNat)
        case atStart =>
          exact ⟨0, R ++ [c], rfl, (by first | rfl | exact congrArg Value.string (app_str _ _)), by omega, by first | (simp; done) | (simp; omega), Lib.hid (by rw [Nat.zero_mul]; exact HUP.out), Lib.hid (by omega), hb⟩
        case round =>
          clear hb
          obtain ⟨j, R2, rfl, rfl, hj, hr2, hR2, hjm, hb2⟩ := hrel
          by_cases hbl : m - j * y < y
          · have HBl := Lib.hid (below_dec hR2.out HB.out (by omega) (by omega) (b := true) (by simpa using hbl) wr)
            have hcut := ten_cut j hj
            have hq2 := HQS.out j hjm.out hbl hj
            obtain ⟨f, hf⟩ : ∃ f, UInt8.ofNat (48 + j) = f := ⟨_, rfl⟩
            rw [hf] at hcut hq2
            have HQ2 := Lib.hid hq2
            clear hbl hf hq2
            go_wp2_with fail
            refine HBl.out.mono ?_
            rintro e w' ⟨rfl, h9⟩
            obtain rfl := h9.symm
            go_wp2
            go_roundw
            case rel => exact ⟨k + 1, Q ++ [f], R2, m - j * y, by omega, by go_num, congrArg Value.string (app_str Q [f]), rfl, hR2, HQ2, hb2⟩
            case measure => simp [intOf]; omega
          · have HBl := Lib.hid (below_dec hR2.out HB.out (by omega) (by omega) (b := false) (by simpa using hbl) wr)
            have hm10 := Hm10.out
            have hj1 : (j + 1) * y ≤ m := by have := hjm.out; rw [Nat.add_mul, Nat.one_mul]; omega
            have hj10 : j + 1 < 10 := Nat.lt_of_mul_lt_mul_right (a := y) (by omega)
            have HJ1 := Lib.hid hj1
            obtain ⟨R3, hR3⟩ : ∃ R3, Lib.decDigits (m - (j + 1) * y) = R3 := ⟨_, rfl⟩
            have HT := Lib.hid (take_dec hR2.out HB.out (C := R3) (by rw [← hR3]; congr 1; rw [Nat.add_mul, Nat.one_mul]; omega) (by omega) (by omega) wr)
            have hl3 : R3.length ≤ 401 := by have := dec_len_mono (show m - (j + 1) * y ≤ m - j * y by rw [Nat.add_mul]; omega); rw [hR2.out, hR3] at this; omega
            have HR3 := Lib.hid hR3
            clear hbl hm10 hj1 hR3
            go_wp2_with fail
            refine HBl.out.mono ?_
            rintro e w' ⟨rfl, h9⟩
            obtain rfl := h9.symm
            go_wp2_with fail
            refine HT.out.mono ?_
            rintro e w' ⟨rfl, h9⟩
            go_wp2
            go_roundw
            case rel => exact ⟨j + 1, R3, by go_num, rfl, hj10, hl3, HR3, HJ1, Lib.hid (hb2.out.trans (h9.out.mono hb2.out.size))⟩
            case measure => simp [intOf]; omega
    · have hQd := hQ.out.done (show k = a.length by omega) FA.out
      have hql : Q.length ≤ 400 := by rw [hQ.out.len]; omega
      have hqn : Q ≠ [] := fun e => A0.out (List.eq_nil_of_length_eq_zero (by rw [show a.length = k by omega, ← hQ.out.len, e]; rfl))
      have hqf := hQ.out.fig
      obtain ⟨X, hX⟩ : ∃ X, (dval a).toNat / y = X := ⟨_, rfl⟩
      rw [hX] at HV hQd
      rw [← hQd.2, hR.out] at HV
      have HI := Lib.hid (show Q ≠ [] ∧ Q.all figureB = true ∧ dval Q = (X : Int) from ⟨hqn, hqf, hQd.1⟩)
      clear hQd hqn hqf
      go_wp2
      go_loopw [6] (fun q wi => ∃ (Q : List UInt8), q = .string ⟨Q.toArray⟩ ∧ Q.length ≤ 400 ∧ Hid (Q ≠ [] ∧ Q.all figureB = true ∧ dval Q = (X : Int)) ∧ wr = wi)
        (fun q _ => slen q)
      case atStart => exact ⟨Q, rfl, hql, HI, rfl⟩
      case round =>
        clear HI hql
        obtain ⟨Q2, rfl, hql, HI, rfl⟩ := hrel
        have HD := Lib.hid (fun h => dec_of _ Q2 rfl HI.out.1 HI.out.2.1 h)
        cases Q2 with
        | nil => exact absurd rfl HI.out.1
        | cons x z =>
          have e0 : ((⟨(x :: z).toArray⟩ : ByteArray)[0]'(by simp [ByteArray.size])) = x := rfl
          by_cases hz : 1 < (z.length : Int) + 1
          · by_cases hx : x = 48
            · subst hx
              have hcut : (⟨(48 :: z).toArray⟩ : ByteArray).extract 1 (z.length + 1) = ⟨z.toArray⟩ := cut_from (48 :: z) 1
              have HI2 := Lib.hid (show z ≠ [] ∧ z.all figureB = true ∧ dval z = (X : Int) from ⟨by rintro rfl; simp at hz, by have := HI.out.2.1; rw [List.all_cons, Bool.and_eq_true] at this; exact this.2, by
                have h1 := dval_app [48] z.length z rfl
                have h2 : dval [48] = 0 := rfl
                rw [h2, Int.zero_mul, Int.zero_add] at h1
                rw [← h1]; exact HI.out.2.2⟩)
              have hql2 : z.length + 1 ≤ 400 := hql
              go_wp2
              go_roundw
              case rel => exact ⟨z, rfl, by omega, HI2, by first | trivial | rfl⟩
              case measure => simp [slen, ByteArray.size]
            · have hxb : ((x.toNat : Int) == 48) = false := by simp only [beq_eq_false_iff_ne, ne_eq]; intro e; exact hx (UInt8.toNat_inj.1 (show x.toNat = 48 by omega))
              have HE := Lib.hid (show Lib.decDigits X = x :: z by have := HD.out (.inl (by simpa using hx)); rw [HI.out.2.2] at this; exact this.symm)
              clear hx
              go_wp2
              refine bodyPost_ret (v := .tuple #[.string ⟨(x :: z).toArray⟩, .string ⟨R.toArray⟩]) (by simp [results, Tryd.results55, go_sem]) rfl ?_
              exact ⟨by rw [← HV.out, HE.out], hb⟩
          · obtain rfl : z = [] := List.eq_nil_of_length_eq_zero (by omega)
            have HE := Lib.hid (show Lib.decDigits X = [x] by
              have := HD.out (by
                by_cases hx : x = 48
                · exact .inr (by rw [hx])
                · exact .inl (by simpa using hx))
              rw [HI.out.2.2] at this; exact this.symm)
            clear hz
            go_wp2
            refine bodyPost_ret (v := .tuple #[.string ⟨[x].toArray⟩, .string ⟨R.toArray⟩]) (by simp [results, Tryd.results55, go_sem]) rfl ?_
            exact ⟨by rw [← HV.out, HE.out], hb⟩
end Go.Proofs.YteiipiomcbohnaaDoor.Ten
