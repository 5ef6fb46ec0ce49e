/-
  the law TreeOwn, walked: what is told is new memory
-/
import Derived.Deep.RegionHeld3
import Derived.Deep.Light
import Derived.BigRegion
import Derived.Deep.CutBlock
import Derived.Deep.CutRange
import Derived.Test.YtnmebgiiajnnjaaOwnB
namespace Go.Proofs.Ytnmebgiiajnnjaa
set_option linter.unusedSimpArgs false
set_option linter.unusedVariables false
open Go.RowKit

set_option maxRecDepth 100000 in
set_option maxHeartbeats 16000000 in
theorem own_law (t : Nd) (a : Option Addr) (c : Nat) (w : World) (hN : (walkL 1000 t).length ≤ 1048576) (hX : ∀ k, k ∈ t.kids → k.text.length ≤ 1048576) (hg : Glob w) (hk : Kids w w.heap.size a t.kids) (hf : Fits t c) :
    Calls Try.prog 6 #[.agg #[.int .i64 t.kind, .string ⟨t.text.toArray⟩, .slice a t.kids.length c, .int .i64 t.pos]] w fun e w' => e = .returned (.bool true) ∧ Below w.heap.size w w' := by
  have hba := below_alloc w (.cells #[.int .i64 t.kind, .string ⟨t.text.toArray⟩, .slice a t.kids.length c, .int .i64 t.pos] 24)
  have hd : Bx1 t a c w.heap.size (w.alloc (.cells #[.int .i64 t.kind, .string ⟨t.text.toArray⟩, .slice a t.kids.length c, .int .i64 t.pos] 24)) := by
    refine ⟨hg.on hba, hk.on hba, hf, ⟨?_, ?_, ?_, ?_⟩⟩ <;> simp [go_sem]
  have HB := Lib.hid hba
  have HD := Lib.hid hd
  have HK := Lib.hid hk
  have HG := Lib.hid hg
  have HX := Lib.hid hX
  have hl63 : t.kids.length ≤ 9223372036854775807 := by have := hf.2.2.2.2.2.1; have := hf.2.2.2.2.2.2.1; omega
  have hcap : t.kids.length ≤ c := hf.2.2.2.2.2.1
  have HN := Lib.hid (show (walkL 100 t).length ≤ 1048576 by have := walk_le (d := 100) (e := 1000) (by omega) t; omega)
  clear hba hd hg hk hf hN hX
  go_enter Try.func6, Try.ntmps6
  go_wp2_with fail
  cases hs1 : smP 500 t with
  | false =>
    have H1 := Lib.hid hs1
    clear hs1
    refine (pt_small HD.out H1.out).mono ?_
    rintro e w1 ⟨rfl, ⟨x0, x1, x2, x3⟩, hr1⟩
    go_wp2_with fail
    go_ret
    exact ⟨rfl, bext HB.out hr1.out.2⟩
  | true =>
    refine (pt_small HD.out hs1).mono ?_
    rintro e w1 ⟨rfl, ⟨x0, x1, x2, x3⟩, hr1⟩
    have HB1 := Lib.hid (bext HB.out hr1.out.2)
    have HD1 := Lib.hid hr1.out.1
    clear HB HD hr1 hs1
    go_wp2_with fail
    by_cases hh : t.height ≤ 100
    · refine (ow_depth HD1.out hh).mono ?_
      clear x0 x1 x2 x3
      rintro e w2 ⟨rfl, ⟨x0, x1, x2, x3⟩, hr2⟩
      have hlt : ((100 : Int) < (t.height : Int)) = False := by simp; omega
      have HB2 := Lib.hid (bext HB1.out hr2.out.2)
      have HP := Lib.hid hr2.out.1
      have HH := Lib.hid hh
      clear HB1 HD1 hr2 hh
      have T1 : True := trivial
      obtain ⟨h0, h1, h2, h3, h4⟩ := lt_ne (cell_lt x0)
      go_upto_region 3 with fail
      go_cut [3, 4] from 3 to 18 (fun p q wc => ∃ (P Q : Nat) (a3 : Option Addr) (c3 : Nat) (a4 : Option Addr) (c4 : Nat), p = .pointer (some ⟨P, 0, none⟩) ∧ q = .pointer (some ⟨Q, 0, none⟩) ∧ Hid (Two t a a3 a4 c c3 c4 w.heap.size P Q wc ∧ Below w.heap.size w wc))
      case first =>
        go_wp2_with fail
        go_region_held3 (fun w' => (w'.cell? ⟨w.heap.size, 0, none⟩ = some (.int .i64 t.kind) ∧ w'.cell? ⟨w.heap.size, 1, none⟩ = some (.string ⟨t.text.toArray⟩) ∧ w'.cell? ⟨w.heap.size, 2, none⟩ = some (.slice (a) t.kids.length c) ∧ w'.cell? ⟨w.heap.size, 3, none⟩ = some (.int .i64 t.pos))) (go_keep)
          (first
            | (go_at_call 17
               clear T1
               first
                 | (refine (ow_copy HP.out (Below.refl _ _).drew HH.out).mono ?_
                    rintro e w3 ⟨a3, c3, rfl, ⟨x0, x1, x2, x3⟩, hr3⟩
                    obtain ⟨i0, i1, i2, i3, i4⟩ := lt_ne (cell_lt x0))
                 | (refine (ow_copy HP.out (below_da _ zeroN) HH.out).mono ?_
                    rintro e w3 ⟨a3, c3, rfl, ⟨x0, x1, x2, x3⟩, hr3⟩
                    obtain ⟨i0, i1, i2, i3, i4⟩ := lt_ne (cell_lt x0)
                    have ZA := Lib.hid ((z8_d _).on hr3.out.2.1)
                    obtain ⟨⟨z0, z1, z2, z3⟩, y0, y1, y2, y3⟩ := ZA.out
                    obtain ⟨l0, l1, l2, l3, l4⟩ := lt_ne (cell_lt z0))
                 | (refine (ow_copy HP.out (below_daa _ zeroN zeroN) HH.out).mono ?_
                    rintro e w3 ⟨a3, c3, rfl, ⟨x0, x1, x2, x3⟩, hr3⟩
                    obtain ⟨i0, i1, i2, i3, i4⟩ := lt_ne (cell_lt x0)
                    have ZA := Lib.hid ((z8_daa _).on hr3.out.2.1)
                    obtain ⟨⟨z0, z1, z2, z3⟩, y0, y1, y2, y3⟩ := ZA.out
                    have ZB := Lib.hid ((z8_daa' _).on hr3.out.2.1)
                    obtain ⟨⟨v0, v1, v2, v3⟩, u0, u1, u2, u3⟩ := ZB.out
                    obtain ⟨l0, l1, l2, l3, l4⟩ := lt_ne (cell_lt z0)
                    obtain ⟨m0, m1, m2, m3, m4⟩ := lt_ne (cell_lt v0)))
            | (go_at_call 17
               first
                 | (refine (ow_copy hr3.out.1 (Below.refl _ _) HH.out).mono ?_
                    rintro e w4 ⟨a4, c4, rfl, ⟨x0, x1, x2, x3⟩, hr4⟩
                    obtain ⟨j0, j1, j2, j3, j4⟩ := lt_ne (cell_lt x0)
                    try (have ZA4 := Lib.hid (ZA.out.on hr4.out.2.1)
                         obtain ⟨⟨z0, z1, z2, z3⟩, y0, y1, y2, y3⟩ := ZA4.out
                         obtain ⟨l0, l1, l2, l3, l4⟩ := lt_ne (cell_lt z0))
                    try (have ZB4 := Lib.hid (ZB.out.on hr4.out.2.1)
                         obtain ⟨⟨v0, v1, v2, v3⟩, u0, u1, u2, u3⟩ := ZB4.out
                         obtain ⟨m0, m1, m2, m3, m4⟩ := lt_ne (cell_lt v0)))
                 | (refine (ow_copy hr3.out.1 (below_alloc _ zeroN) HH.out).mono ?_
                    rintro e w4 ⟨a4, c4, rfl, ⟨x0, x1, x2, x3⟩, hr4⟩
                    obtain ⟨j0, j1, j2, j3, j4⟩ := lt_ne (cell_lt x0)
                    try (obtain ⟨k0, k1, k2, k3, k4⟩ := lt_ne l0
                         have ZA4 := Lib.hid ((ZA.out.on (below_alloc _ zeroN)).on hr4.out.2.1)
                         obtain ⟨⟨z0, z1, z2, z3⟩, y0, y1, y2, y3⟩ := ZA4.out
                         obtain ⟨l0, l1, l2, l3, l4⟩ := lt_ne (cell_lt z0))
                    have ZB4 := Lib.hid ((z8_a _).on hr4.out.2.1)
                    obtain ⟨⟨v0, v1, v2, v3⟩, u0, u1, u2, u3⟩ := ZB4.out
                    obtain ⟨m0, m1, m2, m3, m4⟩ := lt_ne (cell_lt v0))
                 | (refine (ow_copy hr3.out.1 (below_aa _ zeroN zeroN) HH.out).mono ?_
                    rintro e w4 ⟨a4, c4, rfl, ⟨x0, x1, x2, x3⟩, hr4⟩
                    obtain ⟨j0, j1, j2, j3, j4⟩ := lt_ne (cell_lt x0)
                    have ZA4 := Lib.hid ((z8_aa _).on hr4.out.2.1)
                    obtain ⟨⟨z0, z1, z2, z3⟩, y0, y1, y2, y3⟩ := ZA4.out
                    have ZB4 := Lib.hid ((z8_aa' _).on hr4.out.2.1)
                    obtain ⟨⟨v0, v1, v2, v3⟩, u0, u1, u2, u3⟩ := ZB4.out
                    obtain ⟨l0, l1, l2, l3, l4⟩ := lt_ne (cell_lt z0)
                    obtain ⟨m0, m1, m2, m3, m4⟩ := lt_ne (cell_lt v0))))
        all_goals
          go_wp2_with fail
          go_meet
          have s3 := hr3.out.2.1.size
          have s4 := hr4.out.2.1.size
          have dz : w2.drew.heap.size = w2.heap.size := rfl
          simp [dz] at s3 s4
          go_light
          refine ⟨_, _, _, _, _, _, rfl, rfl, Lib.hid (two_leaf HP.out HB2.out h0 hr3.out hr4.out ?_ ?_ ?_ ?_ ?_ ?_ ?_ ?_ ?_ ⟨?_, ?_, ?_, ?_⟩ ⟨?_, ?_, ?_, ?_⟩)⟩
          · first | exact (Below.refl _ _).drew | exact below_da _ _ | exact below_daa _ _ _
          · first | exact Below.refl _ _ | exact below_alloc _ _ | exact below_aa _ _ _
          · repeat first | (with_reducible exact Below.refl _ _) | (with_reducible exact (Below.refl _ _).drew) | (with_reducible refine bset ?_ (by omega)) | (with_reducible refine bext ?_ (below_alloc _ _)) | (with_reducible refine bext ?_ hr4.out.2.1) | (with_reducible refine bext ?_ hr3.out.2.1)
          · repeat first | (with_reducible refine Kept.set1 ?_ _ _) | (with_reducible refine Kept.set2 ?_ _ _) | (with_reducible refine Kept.al ?_ _) | (with_reducible refine Kept.call ?_ hr4.out.2.1) | (with_reducible exact Kept.refl _ _ _)
          · repeat first | (with_reducible refine Kept.set1 ?_ _ _) | (with_reducible refine Kept.set2 ?_ _ _) | (with_reducible refine Kept.al ?_ _) | (with_reducible exact Kept.refl _ _ _)
          · (try simp [dz]); (try omega)
          · (try simp [dz]); (try omega)
          · (try simp [dz]); (try omega)
          · (try simp [dz]); (try omega)
          all_goals (simp [go_sem, *])
      case rest =>
        obtain ⟨P, Q, a3, c3, a4, c4, rfl, rfl, HT⟩ := hcut
        clear x0 x1 x2 x3 HP HB2 h0 h1 h2 h3 h4 T1 hlt
        obtain ⟨x0, x1, x2, x3⟩ := HT.out.1.bx.b1
        obtain ⟨p0, p1, p2, p3⟩ := HT.out.1.b3
        obtain ⟨q0, q1, q2, q3⟩ := HT.out.1.b4
        go_upto_if 22 with fail
        go_cut [22] from 22 to 32 (fun p wd => ∃ (b : Bool) (t3 : Nd), p = .bool b ∧ Hid (Bx3 t t t3 a a4 a3 c c4 c3 w.heap.size Q P wd ∧ Below w.heap.size w wd ∧ t3.kids.length = t.kids.length ∧ (t.kids = [] ∨ sameB 100 t3 t = false)))
        case first =>
          by_cases hkr : t.kids = []
          · have hz : ((0 : Int) < (t.kids.length : Int)) = False := by simp [hkr]
            have hn : ¬ 0 < t.kids.length := by simp [hkr]
            have HKR := Lib.hid hkr
            clear hkr
            go_wp2_with fail
            go_meet
            exact ⟨_, t, rfl, Lib.hid ⟨Bx3.of_two HT.out.1, HT.out.2, rfl, .inl HKR.out⟩⟩
          · obtain ⟨k, r, hkr⟩ := List.exists_cons_of_ne_nil hkr
            obtain ⟨g, ha3, hg1, hgf, hbx, hbb⟩ := own_put HG.out HT.out.1.drew (bext HT.out.2 (Below.refl _ _).drew) HK.out hkr (HX.out k (by rw [hkr]; simp))
            subst ha3
            rw [← bytes_snoc] at hbx hbb
            have hz : ((0 : Int) < (t.kids.length : Int)) = True := by simp [hkr]
            have hp0 : 0 < t.kids.length := by simp [hkr]
            have hzb : decide (0 < t.kids.length) = true := by simp [hkr]
            have hcap3 : t.kids.length ≤ c3 := HT.out.1.f3.2.2.2.2.2.1
            have hxl : k.text.length ≤ 1048576 := HX.out k (by rw [hkr]; simp)
            have HQ := Lib.hid (show Bx3 t t (putX t k r) a a4 _ c c4 c3 w.heap.size Q P _ ∧ Below w.heap.size w _ ∧ (putX t k r).kids.length = t.kids.length ∧ (t.kids = [] ∨ sameB 100 (putX t k r) t = false) from ⟨hbx, hbb, by rw [hkr]; rfl, .inr (putX_differs hkr)⟩)
            clear hkr hbx hbb HT
            go_wp2_with fail
            go_region
            go_wp2_with fail
            go_meet
            exact ⟨_, putX t k r, rfl, HQ⟩
        case rest =>
          obtain ⟨b5, t3, rfl, HR⟩ := hcut
          clear HT x0 x1 x2 x3 p0 p1 p2 p3 q0 q1 q2 q3
          obtain ⟨x0, x1, x2, x3⟩ := HR.out.1.b1
          go_wp2_with fail
          refine (ow_find HR.out.1 HN.out HH.out).mono ?_
          rintro e w6 ⟨g, cap, l, rfl, hlc, hc64, hl20, hr6⟩
          clear x0 x1 x2 x3
          go_wp2_with fail
          go_loopw [6] (fun i wr => ∃ k : Nat, k ≤ l.length ∧ i = .int .i64 k ∧ Hid (LI l wc.heap.size g wr ∧ Below wc.heap.size wc wr)) (fun i _ => l.length - (intOf i).toNat)
          case atStart => exact ⟨0, by omega, rfl, hr6⟩
          case round =>
            clear hr6
            obtain ⟨k, hk1, rfl, HL⟩ := hrel
            by_cases hlt : k < l.length
            · obtain ⟨a', c', ⟨y0, y1, y2, y3⟩, hc1, hc2, hne⟩ := HL.out.1 k hlt
              by_cases hke : (l[k]).kids = []
              · have hz : ((0 : Int) < ((l[k]).kids.length : Int)) = False := by simp [hke]
                have hn : ¬ 0 < (l[k]).kids.length := by simp [hke]
                clear hne hke
                go_wp2_with fail
                go_roundw
                case rel =>
                  first
                    | exact ⟨k + 1, by omega, by go_num, HL⟩
                    | ((repeat apply Exists.intro); exact ⟨⟨k + 1, by omega, by go_num, HL⟩, rfl⟩)
                case measure => simp [intOf]; omega
              · obtain ⟨b, off, u, rfl, hbg, hfr, hu⟩ := hne hke
                have hp : 0 < (l[k]).kids.length := List.length_pos_iff.2 hke
                have hz : ((0 : Int) < ((l[k]).kids.length : Int)) = True := by simp; omega
                have hfz := hfr.fr off
                have HL2 := Lib.hid (show LI l wc.heap.size g _ ∧ Below wc.heap.size wc _ from ⟨HL.out.1.put hbg hu (.int .i64 99), HL.out.2.setCell (p := ⟨b, off, none⟩) hfr.lo (.int .i64 99)⟩)
                clear hfr hbg hne hke HL
                go_wp2_with fail
                go_roundw
                case rel =>
                  first
                    | exact ⟨k + 1, by omega, by go_num, HL2⟩
                    | ((repeat apply Exists.intro); exact ⟨⟨k + 1, by omega, by go_num, HL2⟩, rfl⟩)
                case measure => simp [intOf]; omega
            · obtain rfl : k = l.length := by omega
              have HBX := Lib.hid (HR.out.1.on HL.out.2)
              have HB6 := Lib.hid (show Below w.heap.size w _ from HR.out.2.1.trans (HL.out.2.mono HR.out.2.1.size))
              obtain ⟨x0, x1, x2, x3⟩ := HBX.out.b1
              obtain ⟨q0, q1, q2, q3⟩ := HBX.out.b2
              obtain ⟨p0, p1, p2, p3⟩ := HBX.out.b3
              clear HL
              go_wp2_with fail
              refine (ow_same1 HBX.out HH.out).mono ?_
              clear x0 x1 x2 x3 p0 p1 p2 p3 q0 q1 q2 q3
              rintro e w7 ⟨rfl, ⟨⟨x0, x1, x2, x3⟩, ⟨q0, q1, q2, q3⟩, p0, p1, p2, p3⟩, hr7⟩
              have HBX7 := Lib.hid hr7.out.1
              have HB7 := Lib.hid (bext HB6.out hr7.out.2)
              clear hr7 HBX HB6
              by_cases hke : t3.kids.length = 0
              · have hz : ((t3.kids.length : Int) == 0) = true := by rw [beq_iff_eq]; omega
                go_wp2_with fail
                refine (ow_awake HBX7.out).mono ?_
                rintro e w8 ⟨rfl, -, hr8⟩
                go_wp2_with fail
                go_ret
                exact ⟨rfl, bext HB7.out hr8.out.2⟩
              · have hz : ((t3.kids.length : Int) == 0) = false := by rw [beq_eq_false_iff_ne]; omega
                have hdf : sameB 100 t3 t = false := HR.out.2.2.2.resolve_left (fun e => hke (by have := HR.out.2.2.1; rw [e] at this; exact this))
                have HD := Lib.hid hdf
                clear hdf hke
                go_wp2_with fail
                refine (ow_same2 HBX7.out HD.out).mono ?_
                rintro e w8 ⟨rfl, -, hr8⟩
                go_wp2_with fail
                refine (ow_awake hr8.out.1).mono ?_
                rintro e w9 ⟨rfl, -, hr9⟩
                go_wp2_with fail
                go_ret
                exact ⟨rfl, bext (bext HB7.out hr8.out.2) hr9.out.2⟩
    · refine (ow_deep HD1.out (by omega)).mono ?_
      clear x0 x1 x2 x3
      rintro e w2 ⟨rfl, ⟨x0, x1, x2, x3⟩, hr2⟩
      go_wp2_with fail
      go_ret
      exact ⟨rfl, bext HB1.out hr2.out.2⟩
end Go.Proofs.Ytnmebgiiajnnjaa
