/-
  the exported functions: is a text a number; sums, differences, products, quotients, rests of texts.
-/
import Derived.Test.YteiipiomcbohnaaDoorBgR
namespace Go.Proofs.YteiipiomcbohnaaDoor
set_option linter.unusedSimpArgs false
set_option linter.unusedVariables false
open Go.RowKit

/-- A number within the limit. -/
def numR (s : List UInt8) : Option Int := match numB s with
  | some z => if wideB z.natAbs then none else some z
  | none => none
theorem not_wide {n : Nat} (h : wideB n = false) : n < p2 512 ∧ (digs n).length ≤ 58 := by
  have h1 : n < p2 512 := by simpa [wideB] using h
  exact ⟨h1, digs_len_lt (by have := p2_512; omega)⟩
theorem natAbs_sg (b : Bool) (n : Nat) : (sg b n).natAbs = n := by unfold sg; cases b <;> simp
theorem numB_len {s : List UInt8} {z : Int} (h : numB s = some z) : (z.natAbs : Int) < pw 18 := by
  have h1 := (numB_text h).2
  have h2 := dval_dec z.natAbs
  have h3 := (dval_rng _ _ rfl (dec_all z.natAbs)).2
  rw [h2] at h3
  have h4 : (10 : Int) ^ (Lib.decDigits z.natAbs).length ≤ 10 ^ 160 := by
    have := Nat.pow_le_pow_right (show 0 < 10 by decide) h1
    have h5 : ((10 ^ (Lib.decDigits z.natAbs).length : Nat) : Int) ≤ ((10 ^ 160 : Nat) : Int) := Int.ofNat_le.2 this
    simpa using h5
  have h6 : (10 : Int) ^ 160 < pw 18 := by decide +kernel
  omega
theorem parse_some {s : List UInt8} {z : Int} (h : numB s = some z) (w : World) (hs : s.length ≤ 9223372036854775807) :
    Calls Tryd.prog 36 #[.string ⟨s.toArray⟩] w fun e w' => ∃ (b : Bool) (n : Nat) (a : Option Addr) (c : Nat), e = .returned (.tuple #[.agg #[.bool b, .slice a (digs (n)).length c], .bool true]) ∧ Hid (Ok b n ∧ sg b n = z ∧ Row w' a c (digs n) ∧ Below w.heap.size w w') :=
  (parse_any s w hs).mono fun e w' hp => by unfold ParsePost at hp; rw [h] at hp; exact hp
theorem parse_none {s : List UInt8} (h : numB s = none) (w : World) (hs : s.length ≤ 9223372036854775807) :
    Calls Tryd.prog 36 #[.string ⟨s.toArray⟩] w fun e w' => e = .returned (.tuple #[.agg #[.bool false, .slice none 0 0], .bool false]) ∧ Hid (Below w.heap.size w w') :=
  (parse_any s w hs).mono fun e w' hp => by unfold ParsePost at hp; rw [h] at hp; exact ⟨hp.1, Lib.hid hp.2⟩

set_option maxRecDepth 100000 in
set_option maxHeartbeats 2000000 in
theorem right_any (s : List UInt8) (w : World) (hs : s.length ≤ 9223372036854775807) :
    Calls Tryd.prog 19 #[.string ⟨s.toArray⟩] w fun e w' => e = .returned (.bool (numR s).isSome) ∧ Below w.heap.size w w' := by
  cases h : numB s with
  | none =>
    have HN := Lib.hid (show (numR s).isSome = false by unfold numR; rw [h]; rfl)
    have HP := Lib.hid (parse_none h w hs)
    clear h
    go_enter Tryd.func19, Tryd.ntmps19
    go_wp2_with fail
    refine HP.out.mono ?_
    rintro e w2 ⟨rfl, hb2⟩
    go_wp2
    go_ret
    exact ⟨ret_bool HN.out.symm, bext hb2.out (below_alloc _ _)⟩
  | some z =>
    have HN := Lib.hid (show (numR s).isSome = !wideB z.natAbs by unfold numR; rw [h]; simp only; split <;> simp_all)
    have HP := Lib.hid (parse_some h w hs)
    clear h
    go_enter Tryd.func19, Tryd.ntmps19
    go_wp2_with fail
    refine HP.out.mono ?_
    rintro e w2 ⟨b, n, a, c, rfl, hr2⟩
    have hb3 := below_alloc w2 (.cells #[.bool b, .slice a (digs n).length c] 43)
    have HW := Lib.hid (bwide_any b n a c _ (hr2.out.2.2.1.on hb3))
    have HB3 := Lib.hid (bext hr2.out.2.2.2 hb3)
    have HE := Lib.hid (show z.natAbs = n by rw [← hr2.out.2.1, natAbs_sg])
    clear hb3
    go_wp2_with fail
    refine HW.out.mono ?_
    rintro e w4 ⟨rfl, hb4⟩
    go_wp2
    go_ret
    exact ⟨ret_bool (by rw [HN.out, HE.out]), bext HB3.out hb4⟩

/-- What is done with two numbers. -/
def DoPost (r : Option Int) (w : World) (e : Ending) (w' : World) : Prop :=
  match r with
  | none => e = .returned (.tuple #[.agg #[.bool false, .slice none 0 0], .int .i64 1]) ∧ Hid (Below w.heap.size w w')
  | some z => ∃ (b : Bool) (n : Nat) (a : Option Addr) (c : Nat), e = .returned (.tuple #[.agg #[.bool b, .slice a (digs (n)).length c], .int .i64 0]) ∧ Hid (Ok b n ∧ sg b n = z ∧ Row w' a c (digs n) ∧ Below w.heap.size w w')
/-- What comes of two texts. -/
def resD (F : Int → Int → Option Int) (s t : List UInt8) : List UInt8 × Int :=
  match numR s, numR t with
  | some x, some y => match F x y with
    | some z => if wideB z.natAbs then ([], 10) else (Lib.itoa z, 0)
    | none => ([], 1)
  | _, _ => ([], 1)
def Does (F : Int → Int → Option Int) (g : Nat) (lb : Array Value) (w : World) : Prop :=
  ∀ (w2 : World) (b1 : Bool) (n1 : Nat) (a1 : Option Addr) (c1 : Nat) (b2 : Bool) (n2 : Nat) (a2 : Option Addr) (c2 : Nat), Below w.heap.size w w2 → Row w2 a1 c1 (digs n1) → Row w2 a2 c2 (digs n2) → Ok b1 n1 → Ok b2 n2 → n1 < p2 512 → n2 < p2 512 →
    Calls Tryd.prog g (#[.agg #[.bool b1, .slice a1 (digs (n1)).length c1], .agg #[.bool b2, .slice a2 (digs (n2)).length c2]] ++ lb) w2 (DoPost (F (sg b1 n1) (sg b2 n2)) w2)
def DonePost (r : List UInt8 × Int) (w : World) (e : Ending) (w' : World) : Prop :=
  e = .returned (.tuple #[.string ⟨r.1.toArray⟩, .int .i64 r.2]) ∧ Hid (Below w.heap.size w w')

set_option maxRecDepth 100000 in
set_option maxHeartbeats 4000000 in
theorem done_any (F : Int → Int → Option Int) (s t : List UInt8) (g : Nat) (lb : Array Value) (w : World) (hs : s.length ≤ 9223372036854775807) (ht : t.length ≤ 9223372036854775807) (hT : Tab w)
    (he : ∀ args w, (callFunc g args).run Tryd.prog w = .ok (.enter g args) w) (hdo : Does F g lb w) :
    Calls Tryd.prog 27 #[.string ⟨s.toArray⟩, .string ⟨t.toArray⟩, .func (.func g) #[] lb] w (DonePost (resD F s t) w) := by
  have HDO := Lib.hid hdo
  have HT := Lib.hid hT
  clear hdo hT
  cases h1 : numB s with
  | none =>
    have HR := Lib.hid (show resD F s t = ([], 1) by unfold resD numR; rw [h1])
    have HP := Lib.hid (parse_none h1 w hs)
    clear h1
    go_enter Tryd.func27, Tryd.ntmps27
    go_wp2_with fail
    refine HP.out.mono ?_
    rintro e w2 ⟨rfl, hb2⟩
    have HB2 := Lib.hid (bext hb2.out (below_alloc w2 (.cells #[.bool false, .slice none 0 0] 43)))
    clear hb2
    cases h2 : numB t with
    | none =>
      have HP2 := Lib.hid (parse_none h2 (w2.alloc (.cells #[.bool false, .slice none 0 0] 43)) ht)
      clear h2
      go_wp2_with fail
      refine HP2.out.mono ?_
      rintro e w3 ⟨rfl, hb3⟩
      go_wp2
      go_ret2
      rw [HR.out]
      exact ⟨rfl, Lib.hid (bext (bext HB2.out hb3.out) (below_alloc w3 (.cells #[.bool false, .slice none 0 0] 43)))⟩
    | some y =>
      have HP2 := Lib.hid (parse_some h2 (w2.alloc (.cells #[.bool false, .slice none 0 0] 43)) ht)
      clear h2
      go_wp2_with fail
      refine HP2.out.mono ?_
      rintro e w3 ⟨b2, n2, a2, c2, rfl, hr3⟩
      go_wp2
      go_ret2
      rw [HR.out]
      exact ⟨rfl, Lib.hid (bext (bext HB2.out hr3.out.2.2.2) (below_alloc w3 (.cells #[.bool b2, .slice a2 (digs n2).length c2] 43)))⟩
  | some z1 =>
    have HP := Lib.hid (parse_some h1 w hs)
    cases h2 : numB t with
    | none =>
      have HR := Lib.hid (show resD F s t = ([], 1) by unfold resD numR; rw [h1, h2]; simp only; split <;> simp_all)
      clear h1
      go_enter Tryd.func27, Tryd.ntmps27
      go_wp2_with fail
      refine HP.out.mono ?_
      rintro e w2 ⟨b1, n1, a1, c1, rfl, hr2⟩
      have HB2 := Lib.hid (bext hr2.out.2.2.2 (below_alloc w2 (.cells #[.bool b1, .slice a1 (digs n1).length c1] 43)))
      have HP2 := Lib.hid (parse_none h2 (w2.alloc (.cells #[.bool b1, .slice a1 (digs n1).length c1] 43)) ht)
      clear h2
      go_wp2_with fail
      refine HP2.out.mono ?_
      rintro e w3 ⟨rfl, hb3⟩
      go_wp2
      go_ret2
      rw [HR.out]
      exact ⟨rfl, Lib.hid (bext (bext HB2.out hb3.out) (below_alloc w3 (.cells #[.bool false, .slice none 0 0] 43)))⟩
    | some z2 =>
      have h1' := h1
      have h2' := h2
      clear h1 h2
      go_enter Tryd.func27, Tryd.ntmps27
      go_wp2_with fail
      refine HP.out.mono ?_
      rintro e w2 ⟨b1, n1, a1, c1, rfl, hr2⟩
      have HB2 := Lib.hid (bext hr2.out.2.2.2 (below_alloc w2 (.cells #[.bool b1, .slice a1 (digs n1).length c1] 43)))
      have HP2 := Lib.hid (parse_some h2' (w2.alloc (.cells #[.bool b1, .slice a1 (digs n1).length c1] 43)) ht)
      have q0 : (w2.alloc (.cells #[.bool b1, .slice a1 (digs n1).length c1] 43)).cell? ⟨w2.heap.size, 0, none⟩ = some (.bool b1) := by simp [go_sem]
      have q1 : (w2.alloc (.cells #[.bool b1, .slice a1 (digs n1).length c1] 43)).cell? ⟨w2.heap.size, 1, none⟩ = some (.slice a1 (digs n1).length c1) := by simp [go_sem]
      have Q := Lib.hid (show _ ∧ _ from ⟨q0, q1⟩)
      have HX1 := Lib.hid (show z1 = sg b1 n1 ∧ Ok b1 n1 from ⟨hr2.out.2.1.symm, hr2.out.1⟩)
      have HRow1 := Lib.hid (hr2.out.2.2.1.on (below_alloc w2 (.cells #[.bool b1, .slice a1 (digs n1).length c1] 43)))
      have H1 := Lib.hid h1'
      have H2 := Lib.hid h2'
      clear q0 q1 hr2 h1' h2'
      go_wp2_with fail
      refine HP2.out.mono ?_
      rintro e w3 ⟨b2, n2, a2, c2, rfl, hr3⟩
      have hk3 := CK.below (bext hr3.out.2.2.2 (below_alloc w3 (.cells #[.bool b2, .slice a2 (digs n2).length c2] 43)))
      have x0 := hk3.cell Q.out.1 rfl
      have x1 := hk3.cell Q.out.2 rfl
      have HX2 := Lib.hid (show z2 = sg b2 n2 ∧ Ok b2 n2 from ⟨hr3.out.2.1.symm, hr3.out.1⟩)
      have HB4 := Lib.hid (bext (bext HB2.out hr3.out.2.2.2) (below_alloc w3 (.cells #[.bool b2, .slice a2 (digs n2).length c2] 43)))
      have y0 : (w3.alloc (.cells #[.bool b2, .slice a2 (digs n2).length c2] 43)).cell? ⟨w3.heap.size, 0, none⟩ = some (.bool b2) := by simp [go_sem]
      have y1 : (w3.alloc (.cells #[.bool b2, .slice a2 (digs n2).length c2] 43)).cell? ⟨w3.heap.size, 1, none⟩ = some (.slice a2 (digs n2).length c2) := by simp [go_sem]
      have HRow1b := Lib.hid (hk3.row HRow1.out)
      have HRow2 := Lib.hid (hr3.out.2.2.1.on (below_alloc w3 (.cells #[.bool b2, .slice a2 (digs n2).length c2] 43)))
      have Y := Lib.hid (show _ ∧ _ from ⟨y0, y1⟩)
      have X0 := Lib.hid (show _ ∧ _ from ⟨x0, x1⟩)
      have HN1 := Lib.hid (show z1.natAbs = n1 by rw [HX1.out.1, natAbs_sg])
      have HN2 := Lib.hid (show z2.natAbs = n2 by rw [HX2.out.1, natAbs_sg])
      clear y0 y1 hk3 hr3
      have HW1 := Lib.hid (bwide_any b1 n1 a1 c1 (w3.alloc (.cells #[.bool b2, .slice a2 (digs n2).length c2] 43)) HRow1b.out)
      cases hw1 : wideB n1 with
      | true =>
        rw [hw1] at HW1
        have HR := Lib.hid (show resD F s t = ([], 1) by unfold resD numR; rw [H1.out, H2.out]; simp only; rw [HN1.out, hw1]; rfl)
        clear hw1
        go_wp2_with fail
        refine HW1.out.mono ?_
        rintro e w5 ⟨rfl, hb5⟩
        go_wp2
        go_ret2
        rw [HR.out]
        exact ⟨rfl, Lib.hid (bext HB4.out hb5)⟩
      | false =>
        have HWW1 := Lib.hid hw1
        rw [hw1] at HW1
        clear hw1
        go_wp2_with fail
        refine HW1.out.mono ?_
        rintro e w5 ⟨rfl, hb5⟩
        have HB5 := Lib.hid (bext HB4.out hb5)
        have hk5 := CK.below hb5
        have y0 := hk5.cell Y.out.1 rfl
        have y1 := hk5.cell Y.out.2 rfl
        have X5 := Lib.hid (show _ ∧ _ from ⟨hk5.cell X0.out.1 rfl, hk5.cell X0.out.2 rfl⟩)
        have HRa := Lib.hid (hk5.row HRow1b.out)
        have HRb := Lib.hid (hk5.row HRow2.out)
        have Y5 := Lib.hid (show _ ∧ _ from ⟨y0, y1⟩)
        have HW2 := Lib.hid (bwide_any b2 n2 a2 c2 w5 HRb.out)
        clear x0 x1 hk5 hb5
        cases hw2 : wideB n2 with
        | true =>
          rw [hw2] at HW2
          have HR := Lib.hid (show resD F s t = ([], 1) by unfold resD numR; rw [H1.out, H2.out]; simp only; rw [HN1.out, HWW1.out, HN2.out, hw2]; rfl)
          clear hw2
          go_wp2_with fail
          refine HW2.out.mono ?_
          rintro e w6 ⟨rfl, hb6⟩
          go_wp2
          go_ret2
          rw [HR.out]
          exact ⟨rfl, Lib.hid (bext HB5.out hb6)⟩
        | false =>
          have HWW2 := Lib.hid hw2
          rw [hw2] at HW2
          clear hw2
          go_wp2_with fail
          refine HW2.out.mono ?_
          rintro e w6 ⟨rfl, hb6⟩
          have HB6 := Lib.hid (bext HB5.out hb6)
          have hk6 := CK.below hb6
          have u0 := hk6.cell X5.out.1 rfl
          have u1 := hk6.cell X5.out.2 rfl
          have v0 := hk6.cell Y5.out.1 rfl
          have v1 := hk6.cell Y5.out.2 rfl
          have hD := HDO.out w6 b1 n1 a1 c1 b2 n2 a2 c2 HB6.out (hk6.row HRa.out) (hk6.row HRb.out) HX1.out.2 HX2.out.2 (by have := HWW1.out; simpa [wideB] using this) (by have := HWW2.out; simpa [wideB] using this)
          rw [← HX1.out.1, ← HX2.out.1] at hD
          have HRES := Lib.hid (show resD F s t = (match F z1 z2 with
            | some z => if wideB z.natAbs then ([], 10) else (Lib.itoa z, 0)
            | none => ([], 1)) by unfold resD numR; rw [H1.out, H2.out]; simp only; rw [HN1.out, HWW1.out, HN2.out, HWW2.out]; rfl)
          have HT6 := Lib.hid (HT.out.on HB6.out)
          clear y0 y1 hk6 hb6
          cases hF : F z1 z2 with
          | none =>
            have HR := Lib.hid (show resD F s t = ([], 1) by rw [HRES.out, hF])
            have HDD : Hid (Calls Tryd.prog g (#[.agg #[.bool b1, .slice a1 (digs (n1)).length c1], .agg #[.bool b2, .slice a2 (digs (n2)).length c2]] ++ lb) w6 fun e w' => e = .returned (.tuple #[.agg #[.bool false, .slice none 0 0], .int .i64 1]) ∧ Hid (Below w6.heap.size w6 w')) :=
              Lib.hid (hD.mono fun e w' h => by unfold DoPost at h; rw [hF] at h; exact h)
            clear hF hD
            go_wp2_with fail
            refine HDD.out.mono ?_
            rintro e w7 ⟨rfl, hb7⟩
            go_wp2
            go_ret2
            rw [HR.out]
            exact ⟨rfl, Lib.hid (bext (bext HB6.out hb7.out) (below_alloc w7 (.cells #[.bool false, .slice none 0 0] 43)))⟩
          | some z =>
            have HDD : Hid (Calls Tryd.prog g (#[.agg #[.bool b1, .slice a1 (digs (n1)).length c1], .agg #[.bool b2, .slice a2 (digs (n2)).length c2]] ++ lb) w6 fun e w' => ∃ (b3 : Bool) (n3 : Nat) (a3 : Option Addr) (c3 : Nat), e = .returned (.tuple #[.agg #[.bool b3, .slice a3 (digs (n3)).length c3], .int .i64 0]) ∧ Hid (Ok b3 n3 ∧ sg b3 n3 = z ∧ Row w' a3 c3 (digs n3) ∧ Below w6.heap.size w6 w')) :=
              Lib.hid (hD.mono fun e w' h => by unfold DoPost at h; rw [hF] at h; exact h)
            have HFZ := Lib.hid hF
            clear hF hD
            go_wp2_with fail
            refine HDD.out.mono ?_
            rintro e w7 ⟨b3, n3, a3, c3, rfl, hr7⟩
            have HB7 := Lib.hid (bext (bext HB6.out hr7.out.2.2.2) (below_alloc w7 (.cells #[.bool b3, .slice a3 (digs n3).length c3] 43)))
            have HR3 := Lib.hid (hr7.out.2.2.1.on (below_alloc w7 (.cells #[.bool b3, .slice a3 (digs n3).length c3] 43)))
            have HN3 := Lib.hid (show z.natAbs = n3 by rw [← hr7.out.2.1, natAbs_sg])
            have HW3 := Lib.hid (bwide_any b3 n3 a3 c3 (w7.alloc (.cells #[.bool b3, .slice a3 (digs n3).length c3] 43)) HR3.out)
            have r0 : (w7.alloc (.cells #[.bool b3, .slice a3 (digs n3).length c3] 43)).cell? ⟨w7.heap.size, 0, none⟩ = some (.bool b3) := by simp [go_sem]
            have r1 : (w7.alloc (.cells #[.bool b3, .slice a3 (digs n3).length c3] 43)).cell? ⟨w7.heap.size, 1, none⟩ = some (.slice a3 (digs n3).length c3) := by simp [go_sem]
            have RR := Lib.hid (show _ ∧ _ from ⟨r0, r1⟩)
            clear u0 u1 v0 v1 r0 r1
            cases hw3 : wideB n3 with
            | true =>
              rw [hw3] at HW3
              have HR := Lib.hid (show resD F s t = ([], 10) by rw [HRES.out, HFZ.out]; simp only; rw [HN3.out, hw3]; rfl)
              clear hw3
              go_wp2_with fail
              refine HW3.out.mono ?_
              rintro e w8 ⟨rfl, hb8⟩
              go_wp2
              go_ret2
              rw [HR.out]
              exact ⟨rfl, Lib.hid (bext HB7.out hb8)⟩
            | false =>
              rw [hw3] at HW3
              have HR := Lib.hid (show resD F s t = (Lib.itoa z, 0) by rw [HRES.out, HFZ.out]; simp only; rw [HN3.out, hw3]; rfl)
              have hl3 := (not_wide hw3).2
              clear hw3
              go_wp2_with fail
              refine HW3.out.mono ?_
              rintro e w8 ⟨rfl, hb8⟩
              have hk8 := CK.below hb8
              have r0 := hk8.cell RR.out.1 rfl
              have r1 := hk8.cell RR.out.2 rfl
              have HB8 := Lib.hid (bext HB7.out hb8)
              have hS := string_any b3 n3 a3 c3 w8 (HT.out.on HB8.out) (hk8.row HR3.out) (by omega) hr7.out.1
              rw [hr7.out.2.1] at hS
              have HS := Lib.hid hS
              clear hk8 hb8 hS
              go_wp2_with fail
              refine HS.out.mono ?_
              rintro e w9 ⟨rfl, hb9⟩
              go_wp2
              go_ret2
              rw [HR.out]
              exact ⟨rfl, Lib.hid (bext HB8.out hb9)⟩
/-! behind done -/
end Go.Proofs.YteiipiomcbohnaaDoor
