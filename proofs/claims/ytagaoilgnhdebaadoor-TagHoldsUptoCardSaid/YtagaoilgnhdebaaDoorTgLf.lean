/-
  the law TagHolds, walked (of a constraint of bulk at most 1048576).
-/
import Derived.Test.YtagaoilgnhdebaaDoorTgLc
import Derived.Test.YtagaoilgnhdebaaDoorTgRd
import Derived.Test.YtagaoilgnhdebaaDoorTgRe
namespace Go.Proofs.YtagaoilgnhdebaaDoor
set_option linter.unusedSimpArgs false
set_option linter.unusedVariables false
open Go.RowKit

section
variable {w0 : World} {B : World → Prop} {K : List (Xp × Option Addr × Nat)} {W : World} {tags : List (List UInt8)} {at_ : Option Addr}
theorem hl_right {L : List (List (List UInt8) × Option Addr)} (h : Pk w0 B K L W) (hB : Keep B) (t : Xp) (hr : rightX 100 t = true) (a : Option Addr) (c : Nat) (hm : (t, a, c) ∈ K) :
    Calls Tryd.prog 13 #[.agg #[.string ⟨t.op.toArray⟩, .string ⟨t.tag.toArray⟩, .slice a t.kids.length c]] W (PkPost w0 B K L (.bool true)) := by
  have := pk_right h hB t a c hm
  rw [hr] at this
  exact this
theorem hl_holds (h : Pk w0 B K [(tags, at_)] W) (hB : Keep B) (t : Xp) (r : Bool) (hr : rightX 100 t = true) (he : holdsX tags 100 t = r) (ht : tags.length ≤ 100) (a : Option Addr) (c ct : Nat) (hm : (t, a, c) ∈ K) :
    Calls Tryd.prog 14 #[.agg #[.string ⟨t.op.toArray⟩, .string ⟨t.tag.toArray⟩, .slice a t.kids.length c], .slice at_ tags.length ct] W (PkPost w0 B K [(tags, at_)] (.bool r)) := by
  have := pk_holds h hB t a c hm tags at_ ct (by simp) (by omega)
  rw [holdsR, hr, he, Bool.true_and] at this
  exact this
theorem hl_rholds (h : Pk w0 B K [(tags, at_)] W) (hB : Keep B) (t : Xp) (r : Bool) (hr : rightX 100 t = true) (he : holdsX tags 100 t = r) (ht : tags.length ≤ 100) (a : Option Addr) (c ct : Nat) (htc : tags.length ≤ ct) (hm : (t, a, c) ∈ K) :
    Calls Tryd.prog 18 #[.agg #[.string ⟨t.op.toArray⟩, .string ⟨t.tag.toArray⟩, .slice a t.kids.length c], .slice at_ tags.length ct] W (PkPost w0 B K [(tags, at_)] (.bool r)) := by
  rw [← he]
  exact pk_post h hB (rholds_any tags (by omega) 100 t a at_ c ct W htc hr (h.known _ hm).1 (h.known _ hm).2 (h.strs (tags, at_) (by simp)))
theorem hl_least {L : List (List (List UInt8) × Option Addr)} (h : Pk w0 B K L W) (hB : Keep B) (t : Xp) (v : Int) (hr : rightX 100 t = true) (he : leastX 100 t = v) (a : Option Addr) (c : Nat) (hm : (t, a, c) ∈ K) :
    Calls Tryd.prog 15 #[.agg #[.string ⟨t.op.toArray⟩, .string ⟨t.tag.toArray⟩, .slice a t.kids.length c]] W (PkPost w0 B K L (.int .i64 v)) := by
  have := pk_least h hB t a c hm
  rw [leastR, if_pos hr, he] at this
  exact this
theorem hl_rleast {L : List (List (List UInt8) × Option Addr)} (h : Pk w0 B K L W) (hB : Keep B) (t : Xp) (v : Int) (hr : rightX 100 t = true) (he : leastX 100 t = v) (a : Option Addr) (c : Nat) (hm : (t, a, c) ∈ K) :
    Calls Tryd.prog 19 #[.agg #[.string ⟨t.op.toArray⟩, .string ⟨t.tag.toArray⟩, .slice a t.kids.length c]] W (PkPost w0 B K L (.int .i64 v)) := by
  rw [← he]
  exact pk_post h hB (rleast_any 100 t a c W hr (h.known _ hm).1 (h.known _ hm).2)
theorem hl_write {L : List (List (List UInt8) × Option Addr)} (h : Pk w0 B K L W) (hB : Keep B) (t : Xp) (s : List UInt8) (hr : rightX 100 t = true) (he : writeX 100 t [] = s) (hl : s.length ≤ 140737488351232) (a : Option Addr) (c : Nat) (hm : (t, a, c) ∈ K) :
    Calls Tryd.prog 16 #[.agg #[.string ⟨t.op.toArray⟩, .string ⟨t.tag.toArray⟩, .slice a t.kids.length c]] W (PkPost w0 B K L (.string ⟨s.toArray⟩)) := by
  have e : writeR t = s := by rw [writeR, if_pos hr, he]
  have := pk_write h hB t a c hm (by rw [e]; exact hl)
  rw [e] at this
  exact this
theorem hl_rwrite {L : List (List (List UInt8) × Option Addr)} (h : Pk w0 B K L W) (hB : Keep B) (t : Xp) (s : List UInt8) (hr : rightX 100 t = true) (he : writeX 100 t [] = s) (hl : s.length ≤ 140737488351232) (a : Option Addr) (c : Nat) (hm : (t, a, c) ∈ K) :
    Calls Tryd.prog 20 #[.agg #[.string ⟨t.op.toArray⟩, .string ⟨t.tag.toArray⟩, .slice a t.kids.length c], .string ⟨#[]⟩] W (PkPost w0 B K L (.string ⟨s.toArray⟩)) := by
  rw [← he] at hl ⊢
  exact pk_post h hB (rwrite_any 100 t a c [] W hr (h.known _ hm).1 (h.known _ hm).2 hl)
end

set_option maxRecDepth 100000 in
set_option maxHeartbeats 16000000 in
theorem law_holds_any (x : Xp) (a0 : Option Addr) (c0 : Nat) (tags : List (List UInt8)) (at_ : Option Addr) (ct : Nat) (w : World) (hE : Env w) (hk : Xids w Any a0 x.kids) (hf : Fitx x c0) (hbk : bulkX x ≤ 1048576) (hs : Strs w at_ tags) (ht : tags.length ≤ 9223372036854775807) (htc : tags.length ≤ ct) :
    Calls Tryd.prog 3 #[.agg #[.string ⟨x.op.toArray⟩, .string ⟨x.tag.toArray⟩, .slice a0 x.kids.length c0], .slice at_ tags.length ct] w (Good w) := by
  have HE := Lib.hid hE
  have HK := Lib.hid hk
  have HF := Lib.hid hf
  have HST := Lib.hid hs
  have HBK := Lib.hid hbk
  obtain ⟨wa, hwa, hba, p0, p1, p2, hsa⟩ := laid3r w x a0 c0
  have hsz := size_any x a0 c0 wa (hk.on hba) hf
  obtain ⟨N, hN⟩ : ∃ N, wrap64 (sizeX x) = N := ⟨_, rfl⟩
  rw [hN] at hsz
  have HSZ := Lib.hid hsz
  have HBA := Lib.hid hba
  clear hE hk hf hs hba hsz hN hbk hsa
  by_cases hn : 200 < N
  · go_enter Tryd.func3, Tryd.ntmps3
    go_wp2_with fail
    refine HSZ.out.mono ?_
    rintro e w1 ⟨rfl, hb1⟩
    have HB1 := Lib.hid (bext HBA.out hb1)
    clear hb1
    go_wp2_with fail
    refine bodyPost_ret (v := .bool true) (by simp [results, Tryd.results3, go_sem]) rfl ⟨rfl, HB1.out⟩
  by_cases hl : (20 : Int) < tags.length
  · go_enter Tryd.func3, Tryd.ntmps3
    go_wp2_with fail
    refine HSZ.out.mono ?_
    rintro e w1 ⟨rfl, hb1⟩
    have HB1 := Lib.hid (bext HBA.out hb1)
    clear hb1
    go_wp2_with fail
    refine bodyPost_ret (v := .bool true) (by simp [results, Tryd.results3, go_sem]) rfl ⟨rfl, HB1.out⟩
  have HTL := Lib.hid (show tags.length ≤ 100 by omega)
  have HTC := Lib.hid htc
  clear htc ht
  cases hR : rightX 100 x with
  | false =>
    have HRX := Lib.hid hR
    have HWR := Lib.hid (show writeR x = [] by rw [writeR, hR]; rfl)
    have HLR := Lib.hid (show leastR x = -1 by rw [leastR, hR]; rfl)
    have HHR := Lib.hid (show holdsR tags x = false by rw [holdsR, hR]; rfl)
    clear hR
    go_enter Tryd.func3, Tryd.ntmps3
    go_wp2_with fail
    refine HSZ.out.mono ?_
    rintro e w1 ⟨rfl, hb1⟩
    obtain ⟨p0, p1, p2⟩ := three_on' hb1 p0 p1 p2
    have HB1 := Lib.hid (bext HBA.out hb1)
    have HO := Lib.hid (of_any x a0 c0 w1 (HK.out.on HB1.out) HF.out)
    clear hb1
    go_wp2_with fail
    refine HO.out.mono ?_
    rintro e w2 ⟨hb2, a, c, rfl, hf2, hx2⟩
    obtain ⟨p0, p1, p2⟩ := three_on' hb2 p0 p1 p2
    obtain ⟨w3, hw3, hb3, q0, q1, q2, hs3⟩ := laid3 w2 x a c
    obtain ⟨p0, p1, p2⟩ := three_on' hb3 p0 p1 p2
    have HB3 := Lib.hid (bext (bext HB1.out hb2) hb3)
    have HF2 := Lib.hid hf2
    have HX3 := Lib.hid (hx2.any.on hb3)
    have hrr := rright_any 100 (by omega) x a0 c0 w3 (HK.out.on HB3.out) HF.out
    rw [HRX.out] at hrr
    have HRR := Lib.hid (show Calls Tryd.prog 12 #[.agg #[.string ⟨x.op.toArray⟩, .string ⟨x.tag.toArray⟩, .slice a0 x.kids.length c0], .int .i64 100] w3 (fun e w' => e = .returned (.bool false) ∧ Below w3.heap.size w3 w') from hrr)
    clear hb2 hb3 hf2 hx2 hrr hs3
    go_wp2_with fail
    refine HRR.out.mono ?_
    rintro e w4 ⟨rfl, hb4⟩
    obtain ⟨q0, q1, q2⟩ := three_on' hb4 q0 q1 q2
    have HB4 := Lib.hid (bext HB3.out hb4)
    have HX4 := Lib.hid (HX3.out.on hb4)
    have h1 := Right_any x a c w4 HX4.out HF2.out
    rw [HRX.out] at h1
    have H1 := Lib.hid h1
    clear hb4 h1
    go_wp2_with fail
    refine H1.out.mono ?_
    rintro e w5 ⟨rfl, hb5⟩
    obtain ⟨q0, q1, q2⟩ := three_on' hb5 q0 q1 q2
    have HB5 := Lib.hid (bext HB4.out hb5)
    have HX5 := Lib.hid (HX4.out.on hb5)
    have h1 := Holds_any tags (by have := HTL.out; omega) x a at_ c ct w5 (HE.out.on HB5.out) HX5.out HF2.out (HST.out.on HB5.out)
    rw [HHR.out] at h1
    have H2 := Lib.hid h1
    clear hb5 h1
    go_wp2_with fail
    refine H2.out.mono ?_
    rintro e w6 ⟨rfl, hb6⟩
    obtain ⟨q0, q1, q2⟩ := three_on' hb6 q0 q1 q2
    have HB6 := Lib.hid (bext HB5.out hb6)
    have HX6 := Lib.hid (HX5.out.on hb6)
    have h1 := Least_any x a c w6 (HE.out.on HB6.out) HX6.out HF2.out
    rw [HLR.out] at h1
    have H3 := Lib.hid h1
    clear hb6 h1
    go_wp2_with fail
    refine H3.out.mono ?_
    rintro e w7 ⟨rfl, hb7⟩
    obtain ⟨q0, q1, q2⟩ := three_on' hb7 q0 q1 q2
    have HB7 := Lib.hid (bext HB6.out hb7)
    have HX7 := Lib.hid (HX6.out.on hb7)
    have h1 := Write_any x a c w7 HX7.out HF2.out (by rw [HWR.out]; simp)
    rw [HWR.out] at h1
    have H4 := Lib.hid h1
    clear hb7 h1
    go_wp2_with fail
    refine H4.out.mono ?_
    rintro e w8 ⟨rfl, hb8⟩
    have HB8 := Lib.hid (bext HB7.out hb8)
    have HA := Lib.hid (awake_any w8 (HE.out.on HB8.out))
    clear hb8
    go_wp2_with fail
    refine HA.out.mono ?_
    rintro e w9 ⟨rfl, hb9⟩
    have HB9 := Lib.hid (bext HB8.out hb9)
    clear hb9
    go_wp2_with fail
    refine bodyPost_ret (v := .bool true) (by simp [results, Tryd.results3, go_sem]) rfl ⟨rfl, HB9.out⟩
  | true =>
    have HRX := Lib.hid hR
    have hwl := write_len 100 x []
    obtain ⟨hv, hhv⟩ : ∃ hv, holdsX tags 100 x = hv := ⟨_, rfl⟩
    obtain ⟨lv, hlv⟩ : ∃ lv, leastX 100 x = lv := ⟨_, rfl⟩
    obtain ⟨S, hS⟩ : ∃ S, writeX 100 x [] = S := ⟨_, rfl⟩
    rw [hS] at hwl
    have HHV := Lib.hid hhv
    have HLV := Lib.hid hlv
    have HSV := Lib.hid hS
    have HSL := Lib.hid (show S.length ≤ 140737488351232 by have := HBK.out; omega)
    have ehv : (hv == hv) = true := by simp
    have elv : (lv == lv) = true := by simp
    have eS : (S == S) = true := by simp
    clear hR hhv hlv hS hwl
    go_enter Tryd.func3, Tryd.ntmps3
    go_wp2_with fail
    refine HSZ.out.mono ?_
    rintro e w1 ⟨rfl, hb1⟩
    obtain ⟨p0, p1, p2⟩ := three_on' hb1 p0 p1 p2
    have HB1 := Lib.hid (bext HBA.out hb1)
    have HO := Lib.hid (of_any x a0 c0 w1 (HK.out.on HB1.out) HF.out)
    clear hb1
    go_wp2_with fail
    refine HO.out.mono ?_
    rintro e w2 ⟨hb2, a, c, rfl, hf2, hx2⟩
    obtain ⟨p0, p1, p2⟩ := three_on' hb2 p0 p1 p2
    obtain ⟨w3, hw3, hb3, q0, q1, q2, hs3⟩ := laid3 w2 x a c
    obtain ⟨p0, p1, p2⟩ := three_on' hb3 p0 p1 p2
    have HB3 := Lib.hid (bext (bext HB1.out hb2) hb3)
    have HF2 := Lib.hid hf2
    have HX3 := Lib.hid (hx2.any.on hb3)
    have hrr := rright_any 100 (by omega) x a0 c0 w3 (HK.out.on HB3.out) HF.out
    rw [HRX.out] at hrr
    have HRR := Lib.hid (show Calls Tryd.prog 12 #[.agg #[.string ⟨x.op.toArray⟩, .string ⟨x.tag.toArray⟩, .slice a0 x.kids.length c0], .int .i64 100] w3 (fun e w' => e = .returned (.bool true) ∧ Below w3.heap.size w3 w') from hrr)
    clear hb2 hb3 hf2 hx2 hrr hs3
    go_wp2_with fail
    refine HRR.out.mono ?_
    rintro e w4 ⟨rfl, hb4⟩
    obtain ⟨q0, q1, q2⟩ := three_on' hb4 q0 q1 q2
    obtain ⟨p0, p1, p2⟩ := three_on' hb4 p0 p1 p2
    have HB4 := Lib.hid (bext HB3.out hb4)
    have HX4 := Lib.hid (HX3.out.on hb4)
    obtain ⟨p, hp⟩ : ∃ p, w2.heap.size = p := ⟨_, rfl⟩
    rw [hp] at q0 q1 q2
    have HKB := Lib.hid (show Keep (fun W => (W.cell? ⟨w.heap.size, 0, none⟩ = some (.string ⟨x.op.toArray⟩) ∧ W.cell? ⟨w.heap.size, 1, none⟩ = some (.string ⟨x.tag.toArray⟩) ∧ W.cell? ⟨w.heap.size, 2, none⟩ = some (.slice a0 x.kids.length c0)) ∧ (W.cell? ⟨p, 0, none⟩ = some (.string ⟨x.op.toArray⟩) ∧ W.cell? ⟨p, 1, none⟩ = some (.string ⟨x.tag.toArray⟩) ∧ W.cell? ⟨p, 2, none⟩ = some (.slice a x.kids.length c))) from fun W W' hb h => ⟨three_on' hb h.1.1 h.1.2.1 h.1.2.2, three_on' hb h.2.1 h.2.2.1 h.2.2.2⟩)
    have HP := Lib.hid (show Pk w (fun W => (W.cell? ⟨w.heap.size, 0, none⟩ = some (.string ⟨x.op.toArray⟩) ∧ W.cell? ⟨w.heap.size, 1, none⟩ = some (.string ⟨x.tag.toArray⟩) ∧ W.cell? ⟨w.heap.size, 2, none⟩ = some (.slice a0 x.kids.length c0)) ∧ (W.cell? ⟨p, 0, none⟩ = some (.string ⟨x.op.toArray⟩) ∧ W.cell? ⟨p, 1, none⟩ = some (.string ⟨x.tag.toArray⟩) ∧ W.cell? ⟨p, 2, none⟩ = some (.slice a x.kids.length c))) [(x, a, c), (x, a0, c0)] [(tags, at_)] w4.drew from
      ⟨bext HB4.out (Below.refl _ _).drew, (HE.out.on HB4.out).on (Below.refl _ _).drew, ⟨⟨p0, p1, p2⟩, q0, q1, q2⟩, fun y hy => by
        simp only [List.mem_cons, List.not_mem_nil, or_false] at hy
        rcases hy with rfl | rfl
        · exact ⟨HX4.out.on (Below.refl _ _).drew, HF2.out⟩
        · exact ⟨(HK.out.on HB4.out).on (Below.refl _ _).drew, HF.out⟩, fun y hy => by
        rw [List.mem_singleton] at hy; subst hy; exact (HST.out.on HB4.out).on (Below.refl _ _).drew⟩)
    have hpl : p < w4.heap.size := cell_lt1 q0
    have hBl : w.heap.size < w4.heap.size := cell_lt1 p0
    clear hb4 HSZ HRR HO
    go_wp2_with fail
    go_region_held3 (fun w' => (w'.cell? ⟨w.heap.size, 0, none⟩ = some (.string ⟨x.op.toArray⟩) ∧ w'.cell? ⟨w.heap.size, 1, none⟩ = some (.string ⟨x.tag.toArray⟩) ∧ w'.cell? ⟨w.heap.size, 2, none⟩ = some (.slice a0 x.kids.length c0)) ∧ (w'.cell? ⟨p, 0, none⟩ = some (.string ⟨x.op.toArray⟩) ∧ w'.cell? ⟨p, 1, none⟩ = some (.string ⟨x.tag.toArray⟩) ∧ w'.cell? ⟨p, 2, none⟩ = some (.slice a x.kids.length c))) (go_keep)
      (first
        | (go_at_call 13
           refine (hl_right HP.out HKB.out x HRX.out _ _ ?_).mono ?_
           focus (simp)
           rintro e w5 ⟨rfl, ⟨⟨p0, p1, p2⟩, q0, q1, q2⟩, HP⟩)
        | (go_at_call 14
           refine (hl_holds HP.out HKB.out x hv HRX.out HHV.out HTL.out _ _ _ ?_).mono ?_
           focus (simp)
           rintro e w5 ⟨rfl, ⟨⟨p0, p1, p2⟩, q0, q1, q2⟩, HP⟩)
        | (go_at_call 18
           refine (hl_rholds HP.out HKB.out x hv HRX.out HHV.out HTL.out _ _ _ HTC.out ?_).mono ?_
           focus (simp)
           rintro e w5 ⟨rfl, ⟨⟨p0, p1, p2⟩, q0, q1, q2⟩, HP⟩)
        | (go_at_call 15
           refine (hl_least HP.out HKB.out x lv HRX.out HLV.out _ _ ?_).mono ?_
           focus (simp)
           rintro e w5 ⟨rfl, ⟨⟨p0, p1, p2⟩, q0, q1, q2⟩, HP⟩)
        | (go_at_call 19
           refine (hl_rleast HP.out HKB.out x lv HRX.out HLV.out _ _ ?_).mono ?_
           focus (simp)
           rintro e w5 ⟨rfl, ⟨⟨p0, p1, p2⟩, q0, q1, q2⟩, HP⟩)
        | (go_at_call 16
           refine (hl_write HP.out HKB.out x S HRX.out HSV.out HSL.out _ _ ?_).mono ?_
           focus (simp)
           rintro e w5 ⟨rfl, ⟨⟨p0, p1, p2⟩, q0, q1, q2⟩, HP⟩)
        | (go_at_call 20
           refine (hl_rwrite HP.out HKB.out x S HRX.out HSV.out HSL.out _ _ ?_).mono ?_
           focus (simp)
           rintro e w5 ⟨rfl, ⟨⟨p0, p1, p2⟩, q0, q1, q2⟩, HP⟩)
        | (go_at_call 17
           refine (pk_awake HP.out HKB.out).mono ?_
           rintro e w5 ⟨rfl, ⟨⟨p0, p1, p2⟩, q0, q1, q2⟩, HP⟩))
    all_goals
      go_wp2_with fail
      go_ret
      exact ⟨rfl, HP.out.below⟩
end Go.Proofs.YtagaoilgnhdebaaDoor
