/-
  the greatest digit that fits.
-/
import Derived.Test.YteiipiomcbohnaaDoorBgJ
namespace Go.Proofs.YteiipiomcbohnaaDoor
set_option linter.unusedSimpArgs false
set_option linter.unusedVariables false
open Go.RowKit

/-- An amount comes back. -/
def PosPost (m : Nat) (w : World) (e : Ending) (w' : World) : Prop :=
  ∃ (a : Option Addr) (c : Nat), e = .returned (.agg #[.bool false, .slice a (digs (m)).length c]) ∧ Hid (Row w' a c (digs m) ∧ Below w.heap.size w w')
theorem NumPost.pos {z : Int} {m : Nat} {w : World} {e : Ending} {w' : World} (h : NumPost z w e w') (hz : z = m) : PosPost m w e w' := by
  obtain ⟨b, n, a, c, he, hh⟩ := h
  obtain ⟨h1, h2, h3, h4⟩ := hh.out
  obtain ⟨rfl, rfl⟩ := sg_inj (b := b) (b' := false) (n := n) (n' := m) h1 (by simp [Ok]) (by rw [h2, hz]; simp [sg])
  exact ⟨a, c, he, Lib.hid ⟨h3, h4⟩⟩
theorem trimmed_pos (l : List Int) (m : Nat) (a : Option Addr) (c : Nat) (w : World) (hr : Row w a c l) (hd : Dg l) (hv : val l = m) :
    Calls Tryd.prog 45 #[.agg #[.bool false, .slice a l.length c]] w (PosPost m w) :=
  (trimmed_any false l a c w hr hd).mono fun _ _ h => h.pos (by rw [hv]; rfl)
theorem times_pos (n m : Nat) (a1 a2 : Option Addr) (c1 c2 : Nat) (w : World) (h1 : Row w a1 c1 (digs n)) (h2 : Row w a2 c2 (digs m)) (m1 : (digs n).length ≤ 1000) (m2 : (digs m).length ≤ 1000) :
    Calls Tryd.prog 31 #[.agg #[.bool false, .slice a1 (digs (n)).length c1], .agg #[.bool false, .slice a2 (digs (m)).length c2]] w (PosPost (n * m) w) :=
  (times_any false false (digs n) (digs m) a1 a2 c1 c2 w h1 h2 (digs_dg n) (digs_dg m) m1 m2).mono fun _ _ h => h.pos (by rw [val_digs, val_digs]; simp [sg])
theorem row_one (w : World) (x : Int) : Row (w.alloc (.cells #[.int .i64 x] 3)) (some ⟨w.heap.size, 0, none⟩) 1 [x] :=
  ⟨by simp, by omega, fun j hj => ⟨w.heap.size, 0, rfl, by
    have : j = 0 := by simpa using hj
    subst this
    simp [go_sem]⟩⟩
theorem val_one (x : Int) : val [x] = x := by simp [val]
theorem digs_one_len {m : Nat} (h : m < 1000000000) : (digs m).length ≤ 1 := digs_len_lt (by simp [pw]; omega)

theorem field1 (b : Bool) (a : Option Addr) (n c : Nat) (w : World) : (Instr.field 43 (.agg #[.bool b, .slice a n c]) 1).run Tryd.prog w = .ok (.slice a n c) w := by
  kernel_rfl
set_option maxRecDepth 100000 in
set_option maxHeartbeats 2000000 in
theorem fits_any (r v : Nat) (a1 a2 : Option Addr) (c1 c2 : Nat) (w : World) (h1 : Row w a1 c1 (digs r)) (h2 : Row w a2 c2 (digs v)) (hv : 0 < v) (hr : r < v * 1000000000) (m2 : (digs v).length ≤ 900) :
    Calls Tryd.prog 69 #[.slice a1 (digs r).length c1, .slice a2 (digs v).length c2] w fun e w' => e = .returned (.int .i64 ((r : Int) / v)) ∧ Below w.heap.size w w' := by
  have H1 := Lib.hid h1
  have H2 := Lib.hid h2
  have HV := Lib.hid (show (0 : Int) < v by omega)
  have HI0 := Lib.hid (FitI.start (r := r) (v := v) (by omega) (by omega) (by omega))
  clear h1 h2 hv hr
  have hf1 := field1
  go_enter Tryd.func69, Tryd.ntmps69
  go_wp2
  go_loopw [5, 6] (fun lo hi wr => ∃ (l h : Int), lo = .int .i64 l ∧ hi = .int .i64 h ∧ Hid (FitI r v l h) ∧ Below w.heap.size w wr)
    (fun lo hi _ => (intOf hi - intOf lo).toNat)
  case atStart => exact ⟨0, 999999999, rfl, rfl, HI0, Below.refl _ _⟩
  case round =>
    obtain ⟨l, h, rfl, rfl, hI, hb⟩ := hrel
    obtain ⟨l0, lh, h9, -, -⟩ := hI.out
    by_cases hlt : l < h
    · obtain ⟨n, hn⟩ : ∃ n : Nat, (l + h + 1) / 2 = (n : Int) := ⟨((l + h + 1) / 2).toNat, by omega⟩
      have hn9 : n < 1000000000 := by omega
      have HN := Lib.hid hn
      have hb1 : Below w.heap.size w (wr.alloc (.cells #[.int .i64 ((l + h + 1) / 2)] 3)) := hb.alloc hb.size _
      have HT := Lib.hid (trimmed_pos [(l + h + 1) / 2] n _ _ _ (row_one wr ((l + h + 1) / 2)) (Dg.cons (by omega) (by omega) Dg.nil) (by rw [val_one]; exact hn))
      have HB1 := Lib.hid hb1
      clear hb1 hn
      go_wp2_with fail
      refine HT.out.mono ?_
      rintro e w2 ⟨a3, c3, rfl, hr2⟩
      have HB2 := Lib.hid (HB1.out.trans (hr2.out.2.mono HB1.out.size))
      have HM := Lib.hid (times_pos v n a2 a3 c2 c3 w2 (H2.out.on HB2.out) hr2.out.1 (by omega) (by have := digs_one_len hn9; omega))
      clear HB1 HT hr2
      go_wp2_with fail
      refine HM.out.mono ?_
      rintro e w3 ⟨a4, c4, rfl, hr3⟩
      have HB3 := Lib.hid (HB2.out.trans (hr3.out.2.mono HB2.out.size))
      have hA := against_any (v * n) r a4 a1 c4 c1 w3 hr3.out.1 (H1.out.on HB3.out)
      obtain ⟨q, hq⟩ : ∃ q, cmpI ((v * n : Nat) : Int) r = q := ⟨_, rfl⟩
      rw [hq] at hA
      have HA := Lib.hid hA
      have HQ := Lib.hid hq
      clear HB2 HM hr3 hA hq
      by_cases hq0 : q ≤ 0
      · have HI2 := Lib.hid (hI.out.up HV.out hlt (by
          have := HQ.out
          unfold cmpI at this
          have hle : ((v * n : Nat) : Int) ≤ r := by split at this <;> (try split at this) <;> omega
          rw [HN.out]; rw [Int.natCast_mul] at hle; exact hle))
        go_wp2_with fail
        refine HA.out.mono ?_
        rintro e w4 ⟨rfl, hb4⟩
        have HB4 := Lib.hid (HB3.out.trans (hb4.mono HB3.out.size))
        clear hb4
        go_wp2
        go_roundw
        case rel => exact ⟨_, h, rfl, rfl, HI2, HB4.out⟩
        case measure => simp [intOf]; omega
      · have hq1 : 0 < q := by omega
        have HI2 := Lib.hid (hI.out.down HV.out hlt (by
          have := HQ.out
          unfold cmpI at this
          have hle : (r : Int) < ((v * n : Nat) : Int) := by split at this <;> (try split at this) <;> omega
          rw [HN.out]; rw [Int.natCast_mul] at hle; exact hle))
        go_wp2_with fail
        refine HA.out.mono ?_
        rintro e w4 ⟨rfl, hb4⟩
        have HB4 := Lib.hid (HB3.out.trans (hb4.mono HB3.out.size))
        clear hb4
        go_wp2
        go_roundw
        case rel => exact ⟨l, _, rfl, rfl, HI2, HB4.out⟩
        case measure => simp [intOf]; omega
    · have HE := Lib.hid (hI.out.done hlt)
      go_wp2
      go_ret
      exact ⟨ret_int HE.out, hb⟩
end Go.Proofs.YteiipiomcbohnaaDoor
