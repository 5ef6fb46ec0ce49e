/-
  the law TagBack, walked (of a constraint of bulk at most 1048576).
-/
import Derived.Test.YtagaoilgnhdebaaDoorTgLc
namespace Go.Proofs.YtagaoilgnhdebaaDoor
set_option linter.unusedSimpArgs false
set_option linter.unusedVariables false
open Go.RowKit

theorem back_read {x : Xp} (h : writeR x ≠ []) (hl : (writeR x).length ≤ 500) : readT (writeR x) = (x, 0) := by
  unfold writeR at h hl ⊢
  cases hr : rightX 100 x with
  | false => rw [hr] at h; exact absurd rfl h
  | true =>
    rw [hr] at hl
    exact read_back hr hl

set_option maxRecDepth 100000 in
set_option maxHeartbeats 16000000 in
theorem back_any (x : Xp) (a0 : Option Addr) (c0 : Nat) (w : World) (hE : Env w) (hk : Xids w Any a0 x.kids) (hf : Fitx x c0) (hbk : bulkX x ≤ 1048576) :
    Calls Tryd.prog 4 #[.agg #[.string ⟨x.op.toArray⟩, .string ⟨x.tag.toArray⟩, .slice a0 x.kids.length c0]] w (Good w) := by
  have HE := Lib.hid hE
  have HK := Lib.hid hk
  have HF := Lib.hid hf
  obtain ⟨wa, hwa, hba, p0, p1, p2, hsa⟩ := laid3r w x a0 c0
  have hsz := size_any x a0 c0 wa (hk.on hba) hf
  have hwl := writeR_len x
  obtain ⟨N, hN⟩ : ∃ N, wrap64 (sizeX x) = N := ⟨_, rfl⟩
  rw [hN] at hsz
  have HSZ := Lib.hid hsz
  have HBA := Lib.hid hba
  clear hE hk hf hba hsz hN hsa
  by_cases hn : 200 < N
  · go_enter Tryd.func4, Tryd.ntmps4
    go_wp2_with fail
    refine HSZ.out.mono ?_
    rintro e w1 ⟨rfl, hb1⟩
    have HB1 := Lib.hid (bext HBA.out hb1)
    clear hb1
    go_wp2_with fail
    refine bodyPost_ret (v := .bool true) (by simp [results, Tryd.results4, go_sem]) rfl ⟨rfl, HB1.out⟩
  have HWR := Lib.hid fun (a : Option Addr) (c : Nat) (W : World) (hk : Xids W Any a x.kids) (hf : Fitx x c) => Write_any x a c W hk hf (by omega)
  have hbr := @back_read x
  obtain ⟨S, hS⟩ : ∃ S, writeR x = S := ⟨_, rfl⟩
  rw [hS] at HWR hbr
  have HBR := Lib.hid hbr
  clear hbr hS hwl
  cases h0 : S with
  | nil =>
    subst h0
    go_enter Tryd.func4, Tryd.ntmps4
    go_wp2_with fail
    refine HSZ.out.mono ?_
    rintro e w1 ⟨rfl, hb1⟩
    obtain ⟨p0, p1, p2⟩ := three_on' hb1 p0 p1 p2
    have HB1 := Lib.hid (bext HBA.out hb1)
    have HO := Lib.hid (of_any x a0 c0 w1 (HK.out.on HB1.out) HF.out)
    clear hb1
    go_wp2_with fail
    refine HO.out.mono ?_
    rintro e w2 ⟨hb2, a, c, rfl, hf2, hx2⟩
    have HB2 := Lib.hid (bext HB1.out hb2)
    have HW := Lib.hid (HWR.out a c w2 hx2.any hf2)
    clear hb2 hf2 hx2
    go_wp2_with fail
    refine HW.out.mono ?_
    rintro e w3 ⟨rfl, hb3⟩
    have HB3 := Lib.hid (bext HB2.out hb3)
    have HA := Lib.hid (awake_any w3 (HE.out.on HB3.out))
    clear hb3
    go_wp2_with fail
    refine HA.out.mono ?_
    rintro e w4 ⟨rfl, hb4⟩
    have HB4 := Lib.hid (bext HB3.out hb4)
    clear hb4
    go_wp2_with fail
    refine bodyPost_ret (v := .bool true) (by simp [results, Tryd.results4, go_sem]) rfl ⟨rfl, HB4.out⟩
  | cons u T =>
    have hne : S.isEmpty = false := by rw [h0]; rfl
    have hne2 : (S == []) = false := by rw [h0]; rfl
    have hne3 : S ≠ [] := by rw [h0]; simp
    have HNE := Lib.hid hne3
    clear h0 u T hne3
    by_cases hl : (500 : Int) < S.length
    · go_enter Tryd.func4, Tryd.ntmps4
      go_wp2_with fail
      refine HSZ.out.mono ?_
      rintro e w1 ⟨rfl, hb1⟩
      obtain ⟨p0, p1, p2⟩ := three_on' hb1 p0 p1 p2
      have HB1 := Lib.hid (bext HBA.out hb1)
      have HO := Lib.hid (of_any x a0 c0 w1 (HK.out.on HB1.out) HF.out)
      clear hb1
      go_wp2_with fail
      refine HO.out.mono ?_
      rintro e w2 ⟨hb2, a, c, rfl, hf2, hx2⟩
      have HB2 := Lib.hid (bext HB1.out hb2)
      have HW := Lib.hid (HWR.out a c w2 hx2.any hf2)
      clear hb2 hf2 hx2
      go_wp2_with fail
      refine HW.out.mono ?_
      rintro e w3 ⟨rfl, hb3⟩
      have HB3 := Lib.hid (bext HB2.out hb3)
      have HA := Lib.hid (awake_any w3 (HE.out.on HB3.out))
      clear hb3
      go_wp2_with fail
      refine HA.out.mono ?_
      rintro e w4 ⟨rfl, hb4⟩
      have HB4 := Lib.hid (bext HB3.out hb4)
      clear hb4
      go_wp2_with fail
      refine bodyPost_ret (v := .bool true) (by simp [results, Tryd.results4, go_sem]) rfl ⟨rfl, HB4.out⟩
    · have hrd := fun W => read_any S W (by omega)
      rw [HBR.out HNE.out (by omega)] at hrd
      have HRD := Lib.hid hrd
      clear hrd
      go_enter Tryd.func4, Tryd.ntmps4
      go_wp2_with fail
      refine HSZ.out.mono ?_
      rintro e w1 ⟨rfl, hb1⟩
      obtain ⟨p0, p1, p2⟩ := three_on' hb1 p0 p1 p2
      have HB1 := Lib.hid (bext HBA.out hb1)
      have HO := Lib.hid (of_any x a0 c0 w1 (HK.out.on HB1.out) HF.out)
      clear hb1
      go_wp2_with fail
      refine HO.out.mono ?_
      rintro e w2 ⟨hb2, a, c, rfl, hf2, hx2⟩
      obtain ⟨p0, p1, p2⟩ := three_on' hb2 p0 p1 p2
      have HB2 := Lib.hid (bext HB1.out hb2)
      have HW := Lib.hid (HWR.out a c w2 hx2.any hf2)
      clear hb2 hf2 hx2
      go_wp2_with fail
      refine HW.out.mono ?_
      rintro e w3 ⟨rfl, hb3⟩
      obtain ⟨p0, p1, p2⟩ := three_on' hb3 p0 p1 p2
      have HB3 := Lib.hid (bext HB2.out hb3)
      have HR := Lib.hid (HRD.out w3)
      clear hb3
      go_wp2_with fail
      refine HR.out.mono ?_
      rintro e w4 ⟨hb4, a4, c4, rfl, hf4, hx4⟩
      obtain ⟨p0, p1, p2⟩ := three_on' hb4 p0 p1 p2
      obtain ⟨w5, hw5, hb5, q0, q1, q2, hs5⟩ := laid3 w4 x a4 c4
      obtain ⟨p0, p1, p2⟩ := three_on' hb5 p0 p1 p2
      have HB5 := Lib.hid (bext (bext HB3.out hb4) hb5)
      have HSM := Lib.hid (same_any x a4 a0 c4 c0 w5 (hx4.any.on hb5) hf4 (HK.out.on HB5.out) HF.out)
      clear hb4 hb5 hf4 hx4
      go_wp2_with fail
      refine HSM.out.mono ?_
      rintro e w6 ⟨rfl, hb6⟩
      have HB6 := Lib.hid (bext HB5.out hb6)
      have HA := Lib.hid (awake_any w6 (HE.out.on HB6.out))
      clear hb6
      go_wp2_with fail
      refine HA.out.mono ?_
      rintro e w7 ⟨rfl, hb7⟩
      have HB7 := Lib.hid (bext HB6.out hb7)
      clear hb7
      go_wp2_with fail
      refine bodyPost_ret (v := .bool true) (by simp [results, Tryd.results4, go_sem]) rfl ⟨rfl, HB7.out⟩
end Go.Proofs.YtagaoilgnhdebaaDoor
