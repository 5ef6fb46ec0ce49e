/-
  ported for this seat out of RrH, RrJ, RrL (port.py)
-/
import Derived.Test.YtfcpblclfgkdjaaGreatDoorZC
import Derived.Deep.RegionHeld3
namespace Go.Proofs.YtfcpblclfgkdjaaGreatDoor
set_option linter.unusedSimpArgs false
set_option linter.unusedVariables false
open Go.RowKit

set_option maxRecDepth 100000 in
set_option maxHeartbeats 8000000 in
theorem rfields_ok (ty : Nd → Bool) (n : Nat) (h_ty : Ok 15 ty n) : Ok 31 (rowB 13 (fieldB ty)) (n + 2) := by
  intro t a c w ht hg hk hf
  have hkid : ∀ x, x ∈ t.kids → x.height + 1 ≤ n + 2 := fun x hx => by have := Nd.height_kid hx; omega
  have hl2 : t.kids.length ≤ 9223372036854775807 := by have := hf.2.2.2.2.2.1; have := hf.2.2.2.2.2.2; omega
  obtain ⟨k, s, l, p⟩ := t
  simp only [Nd.kind_mk, Nd.text_mk, Nd.kids_mk, Nd.pos_mk] at *
  have H_ty := Lib.hid h_ty
  clear h_ty
  obtain ⟨PB, hPB⟩ : ∃ PB : Nd → Bool, PB = fieldB ty := ⟨_, rfl⟩
  have hE : (rowB 13 (fieldB ty)) (.mk k s l p) = (k == 13 && (s.isEmpty && l.all PB)) := by rw [hPB]; rfl
  rw [hE]
  have HPB := Lib.hid hPB
  clear hE hPB
  obtain ⟨wa, hwa, hba, e0, e1, e2, e3⟩ := laid4 w (.int .i64 k) (.string ⟨s.toArray⟩) (.slice a l.length c) (.int .i64 p) 25
  obtain ⟨S, hS⟩ : ∃ S : World → Prop, S = fun W => (W.cell? ⟨w.heap.size, 0, none⟩ = some (.int .i64 k) ∧ W.cell? ⟨w.heap.size, 1, none⟩ = some (.string ⟨s.toArray⟩) ∧ W.cell? ⟨w.heap.size, 2, none⟩ = some (.slice a l.length c) ∧ W.cell? ⟨w.heap.size, 3, none⟩ = some (.int .i64 p)) := ⟨_, rfl⟩
  have HKB := Lib.hid (show Keep S by rw [hS]; exact keep_and (keep_cell _ _) (keep_and (keep_cell _ _) (keep_and (keep_cell _ _) (keep_cell _ _))))
  have HP := Lib.hid (show Nk w n S [] wa from ⟨hba, hg.on hba, by rw [hS]; exact ⟨e0, e1, e2, e3⟩, fun q hq => by cases hq⟩)
  have HKW := Lib.hid (fun W (hW : Below w.heap.size w W) => hk.on hW)
  have HHT := Lib.hid hkid
  have HS := Lib.hid hS
  clear hS hg hf ht hba hk hkid
  cases k0 : (k == 13) with
  | false =>
    have k1 : (k != 13) = true := by simp [bne, k0]
    clear k0
    go_enter Tryz.func31, Tryz.ntmps31
    go_wp2_with fail
    go_ret
    exact ⟨ret_bool (by rfl), HP.out.below⟩
  | true =>
  have k1 : (k != 13) = false := by simp [bne, k0]
  clear k0
  cases hse : s.isEmpty with
  | false =>
    go_enter Tryz.func31, Tryz.ntmps31
    go_wp2_with fail
    go_ret
    exact ⟨ret_bool (by rfl), HP.out.below⟩
  | true =>
  go_enter Tryz.func31, Tryz.ntmps31
  go_wp2_with fail
  go_loopw [3] (fun i wr => ∃ j : Nat, j ≤ l.length ∧ i = .int .i64 j ∧ Hid ((l.take j).all PB = true) ∧ S wr ∧ Hid (Nk w n S [] wr)) (fun i _ => l.length - (intOf i).toNat)
  case atStart => exact ⟨0, by omega, rfl, Lib.hid rfl, HP.out.cells, HP⟩
  case round =>
    obtain ⟨j, hj1, rfl, HALL, hs2, HP⟩ := hrel
    rw [HS.out] at hs2
    obtain ⟨e0, e1, e2, e3⟩ := hs2
    by_cases hlt : j < l.length
    · obtain ⟨b, off, a', c', ha, -, ⟨q0, q1, q2, q3⟩, hfq, hkq⟩ := (HKW.out _ HP.out.below).get hlt
      subst ha
      have HNX := Lib.hid (fun e => alls_next (f := PB) hlt HALL.out e)
      have HNO := Lib.hid (fun e => alls_no (f := PB) hlt e)
      have hqh := HHT.out _ (List.getElem_mem hlt)
      obtain ⟨q, hq⟩ : ∃ q, l[j] = q := ⟨_, rfl⟩
      rw [hq] at q0 q1 q2 q3 hfq hkq hqh HNX HNO
      clear hq
      obtain ⟨qk, qs, ql, qp⟩ := q
      simp only [Nd.kind_mk, Nd.text_mk, Nd.kids_mk, Nd.pos_mk] at q0 q1 q2 q3 hkq
      have hqs : qs.length ≤ 140737488351232 := hfq.2.2.2.2.1
      by_cases hlen : ql.length = 1
      · obtain ⟨z, rfl⟩ : ∃ z, ql = [z] := by
          match ql, hlen with
          | [z], _ => exact ⟨z, rfl⟩
        obtain ⟨bz, oz, az, cz, rfl, hz4, fz, kz⟩ := hkq.n1
        have hzh := Nd.height_kid (t := .mk qk qs [z] qp) (k := z) (by simp)
        obtain ⟨wb, hwb, hbb, d0, d1, d2, d3⟩ := laid4 wr (.int .i64 qk) (.string ⟨qs.toArray⟩) (.slice (some ⟨bz, oz, none⟩) 1 c') (.int .i64 qp) 25
        obtain ⟨S2, hS2⟩ : ∃ S2 : World → Prop, S2 = fun W => S W ∧ (W.cell? ⟨wr.heap.size, 0, none⟩ = some (.int .i64 qk) ∧ W.cell? ⟨wr.heap.size, 1, none⟩ = some (.string ⟨qs.toArray⟩) ∧ W.cell? ⟨wr.heap.size, 2, none⟩ = some (.slice (some ⟨bz, oz, none⟩) 1 c') ∧ W.cell? ⟨wr.heap.size, 3, none⟩ = some (.int .i64 qp)) ∧ Four W bz oz z az cz := ⟨_, rfl⟩
        have HKB2 := Lib.hid (show Keep S2 by rw [hS2]; exact keep_and HKB.out (keep_and (keep_and (keep_cell _ _) (keep_and (keep_cell _ _) (keep_and (keep_cell _ _) (keep_cell _ _)))) (keep_four _ _ _ _ _)))
        have hz4' := Four.on hz4 hbb
        have HP2 := Lib.hid (show Nk w n S2 [(z, az, cz)] wb from (HP.out.on HKB.out hbb).more (by rw [hS2]; exact ⟨(HP.out.on HKB.out hbb).cells, ⟨d0, d1, d2, d3⟩, hz4'⟩) (fun r hr => by
          rw [List.mem_singleton] at hr
          subst hr
          exact .inr ⟨by show z.height ≤ n; omega, kz.on hbb, fz⟩))
        have hwrl : wr.heap.size < wb.heap.size := cell_lt d0
        obtain ⟨z0, z1, z2, z3⟩ := hz4'
        have HS2 := Lib.hid hS2
        have HPQ := Lib.hid (show PB (.mk qk qs [z] qp) = (nameL qs && (qk == 9 && ty z)) by rw [HPB.out]; rfl)
        clear hfq hkq hqh fz kz hzh hlen hS2 hbb hz4
        go_wp2_with (first
          | (go_at_call 13
             refine (nk_name HP2.out HKB2.out _ (by first | exact hqs | omega)).mono ?_
             rintro e w1 ⟨rfl, h1, HP2⟩
             rw [HS2.out] at h1
             obtain ⟨-, ⟨d0, d1, d2, d3⟩, z0, z1, z2, z3⟩ := h1)
          | (go_at_call 15
             refine (nk_ok HP2.out HKB2.out H_ty.out _ _ _ ?_).mono ?_
             focus (simp)
             rintro e w1 ⟨rfl, h1, HP2⟩
             rw [HS2.out] at h1
             obtain ⟨-, ⟨d0, d1, d2, d3⟩, z0, z1, z2, z3⟩ := h1))
        all_goals first
          | (go_ret
             exact ⟨ret_bool (by rw [HNO.out (by rw [HPQ.out]; simp_all [])]; rfl), HP2.out.below⟩)
          | (have HA2 := Lib.hid (HNX.out (by rw [HPQ.out]; simp_all []))
             have HN2 := Lib.hid (show Nk w n S [] _ from HP2.out.less (fun h => by rw [HS2.out] at h; exact h.1) (by simp))
             go_roundw
             case rel => exact ⟨j + 1, by omega, by go_num, HA2, HN2.out.cells, HN2⟩
             case measure => simp [intOf]; omega)
      · have HV := Lib.hid (show l.all PB = false from HNO.out (by
          rw [HPB.out]
          match ql, hlen with
          | [], _ => simp [fieldB, kids1]
          | [_], h => simp at h
          | _ :: _ :: _, _ => simp [fieldB, kids1]))
        obtain ⟨wb, hwb, hbb, d0, d1, d2, d3⟩ := laid4 wr (.int .i64 qk) (.string ⟨qs.toArray⟩) (.slice a' ql.length c') (.int .i64 qp) 25
        have hqn : ((ql.length : Int) != 1) = true := by simp; omega
        obtain ⟨S2, hS2⟩ : ∃ S2 : World → Prop, S2 = fun W => (W.cell? ⟨wr.heap.size, 0, none⟩ = some (.int .i64 qk) ∧ W.cell? ⟨wr.heap.size, 1, none⟩ = some (.string ⟨qs.toArray⟩) ∧ W.cell? ⟨wr.heap.size, 2, none⟩ = some (.slice a' ql.length c') ∧ W.cell? ⟨wr.heap.size, 3, none⟩ = some (.int .i64 qp)) := ⟨_, rfl⟩
        have HKB2 := Lib.hid (show Keep S2 by rw [hS2]; exact (keep_and (keep_cell _ _) (keep_and (keep_cell _ _) (keep_and (keep_cell _ _) (keep_cell _ _)))))
        have HP2 := Lib.hid (show Nk w n S2 [] wb from (HP.out.on HKB.out hbb).more (by rw [hS2]; exact ⟨d0, d1, d2, d3⟩) (fun r hr => by cases hr))
        have HS2 := Lib.hid hS2
        clear hS2 hfq hkq hqh hlen hbb
        go_wp2_with (first
          | (go_at_call 13
             refine (nk_name HP2.out HKB2.out _ (by first | exact hqs | omega)).mono ?_
             rintro e w1 ⟨rfl, h1, HP2⟩
             rw [HS2.out] at h1
             obtain ⟨d0, d1, d2, d3⟩ := h1))
        all_goals
          go_ret
          exact ⟨ret_bool (by rw [HV.out]; rfl), HP2.out.below⟩
    · obtain rfl : j = l.length := by omega
      have HV := Lib.hid (alls_end HALL.out)
      go_wp2_with fail
      go_ret
      exact ⟨ret_bool (by rw [HV.out]; rfl), HP.out.below⟩

set_option maxRecDepth 100000 in
set_option maxHeartbeats 8000000 in
theorem rinter_ok (ty : Nd → Bool) (n : Nat) (h_ty : Ok 15 ty n) : Ok 32 (interB (termB ty)) (n + 2) := by
  intro t a c w ht hg hk hf
  have hkid : ∀ x, x ∈ t.kids → x.height + 1 ≤ n + 2 := fun x hx => by have := Nd.height_kid hx; omega
  have hl2 : t.kids.length ≤ 9223372036854775807 := by have := hf.2.2.2.2.2.1; have := hf.2.2.2.2.2.2; omega
  obtain ⟨k, s, l, p⟩ := t
  simp only [Nd.kind_mk, Nd.text_mk, Nd.kids_mk, Nd.pos_mk] at *
  have H_ty := Lib.hid h_ty
  clear h_ty
  obtain ⟨PB, hPB⟩ : ∃ PB : Nd → Bool, PB = termB ty := ⟨_, rfl⟩
  have hE : (interB (termB ty)) (.mk k s l p) = (k == 14 && (s.isEmpty && (!l.isEmpty && l.all PB))) := by rw [hPB]; rfl
  rw [hE]
  have HPB := Lib.hid hPB
  clear hE hPB
  obtain ⟨wa, hwa, hba, e0, e1, e2, e3⟩ := laid4 w (.int .i64 k) (.string ⟨s.toArray⟩) (.slice a l.length c) (.int .i64 p) 25
  obtain ⟨S, hS⟩ : ∃ S : World → Prop, S = fun W => (W.cell? ⟨w.heap.size, 0, none⟩ = some (.int .i64 k) ∧ W.cell? ⟨w.heap.size, 1, none⟩ = some (.string ⟨s.toArray⟩) ∧ W.cell? ⟨w.heap.size, 2, none⟩ = some (.slice a l.length c) ∧ W.cell? ⟨w.heap.size, 3, none⟩ = some (.int .i64 p)) := ⟨_, rfl⟩
  have HKB := Lib.hid (show Keep S by rw [hS]; exact keep_and (keep_cell _ _) (keep_and (keep_cell _ _) (keep_and (keep_cell _ _) (keep_cell _ _))))
  have HP := Lib.hid (show Nk w n S [] wa from ⟨hba, hg.on hba, by rw [hS]; exact ⟨e0, e1, e2, e3⟩, fun q hq => by cases hq⟩)
  have HKW := Lib.hid (fun W (hW : Below w.heap.size w W) => hk.on hW)
  have HHT := Lib.hid hkid
  have HS := Lib.hid hS
  clear hS hg hf ht hba hk hkid
  cases k0 : (k == 14) with
  | false =>
    have k1 : (k != 14) = true := by simp [bne, k0]
    clear k0
    go_enter Tryz.func32, Tryz.ntmps32
    go_wp2_with fail
    go_ret
    exact ⟨ret_bool (by rfl), HP.out.below⟩
  | true =>
  have k1 : (k != 14) = false := by simp [bne, k0]
  clear k0
  cases hse : s.isEmpty with
  | false =>
    go_enter Tryz.func32, Tryz.ntmps32
    go_wp2_with fail
    go_ret
    exact ⟨ret_bool (by rfl), HP.out.below⟩
  | true =>
  cases hle : l.isEmpty with
  | true =>
    have hl0 : ((l.length : Int) == 0) = true := by rw [List.isEmpty_iff] at hle; simp [hle]
    go_enter Tryz.func32, Tryz.ntmps32
    go_wp2_with fail
    go_ret
    exact ⟨ret_bool (by rfl), HP.out.below⟩
  | false =>
  have hl0 : ((l.length : Int) == 0) = false := by rw [len_zero]; exact hle
  go_enter Tryz.func32, Tryz.ntmps32
  go_wp2_with fail
  go_loopw [3] (fun i wr => ∃ j : Nat, j ≤ l.length ∧ i = .int .i64 j ∧ Hid ((l.take j).all PB = true) ∧ S wr ∧ Hid (Nk w n S [] wr)) (fun i _ => l.length - (intOf i).toNat)
  case atStart => exact ⟨0, by omega, rfl, Lib.hid rfl, HP.out.cells, HP⟩
  case round =>
    obtain ⟨j, hj1, rfl, HALL, hs2, HP⟩ := hrel
    rw [HS.out] at hs2
    obtain ⟨e0, e1, e2, e3⟩ := hs2
    by_cases hlt : j < l.length
    · obtain ⟨b, off, a', c', ha, -, ⟨q0, q1, q2, q3⟩, hfq, hkq⟩ := (HKW.out _ HP.out.below).get hlt
      subst ha
      have HNX := Lib.hid (fun e => alls_next (f := PB) hlt HALL.out e)
      have HNO := Lib.hid (fun e => alls_no (f := PB) hlt e)
      have hqh := HHT.out _ (List.getElem_mem hlt)
      obtain ⟨q, hq⟩ : ∃ q, l[j] = q := ⟨_, rfl⟩
      rw [hq] at q0 q1 q2 q3 hfq hkq hqh HNX HNO
      clear hq
      obtain ⟨qk, qs, ql, qp⟩ := q
      simp only [Nd.kind_mk, Nd.text_mk, Nd.kids_mk, Nd.pos_mk] at q0 q1 q2 q3 hkq
      have hqs : qs.length ≤ 140737488351232 := hfq.2.2.2.2.1
      by_cases hlen : ql.length = 1
      · obtain ⟨z, rfl⟩ : ∃ z, ql = [z] := by
          match ql, hlen with
          | [z], _ => exact ⟨z, rfl⟩
        obtain ⟨bz, oz, az, cz, rfl, hz4, fz, kz⟩ := hkq.n1
        have hzh := Nd.height_kid (t := .mk qk qs [z] qp) (k := z) (by simp)
        obtain ⟨wb, hwb, hbb, d0, d1, d2, d3⟩ := laid4 wr (.int .i64 qk) (.string ⟨qs.toArray⟩) (.slice (some ⟨bz, oz, none⟩) 1 c') (.int .i64 qp) 25
        obtain ⟨S2, hS2⟩ : ∃ S2 : World → Prop, S2 = fun W => S W ∧ (W.cell? ⟨wr.heap.size, 0, none⟩ = some (.int .i64 qk) ∧ W.cell? ⟨wr.heap.size, 1, none⟩ = some (.string ⟨qs.toArray⟩) ∧ W.cell? ⟨wr.heap.size, 2, none⟩ = some (.slice (some ⟨bz, oz, none⟩) 1 c') ∧ W.cell? ⟨wr.heap.size, 3, none⟩ = some (.int .i64 qp)) ∧ Four W bz oz z az cz := ⟨_, rfl⟩
        have HKB2 := Lib.hid (show Keep S2 by rw [hS2]; exact keep_and HKB.out (keep_and (keep_and (keep_cell _ _) (keep_and (keep_cell _ _) (keep_and (keep_cell _ _) (keep_cell _ _)))) (keep_four _ _ _ _ _)))
        have hz4' := Four.on hz4 hbb
        have HP2 := Lib.hid (show Nk w n S2 [(z, az, cz)] wb from (HP.out.on HKB.out hbb).more (by rw [hS2]; exact ⟨(HP.out.on HKB.out hbb).cells, ⟨d0, d1, d2, d3⟩, hz4'⟩) (fun r hr => by
          rw [List.mem_singleton] at hr
          subst hr
          exact .inr ⟨by show z.height ≤ n; omega, kz.on hbb, fz⟩))
        have hwrl : wr.heap.size < wb.heap.size := cell_lt d0
        obtain ⟨z0, z1, z2, z3⟩ := hz4'
        have HS2 := Lib.hid hS2
        have HPQ := Lib.hid (show PB (.mk qk qs [z] qp) = (tildeL qs && (qk == 15 && ty z)) by rw [HPB.out]; rfl)
        clear hfq hkq hqh fz kz hzh hlen hS2 hbb hz4
        go_wp2_with (first
          | (go_at_call 15
             refine (nk_ok HP2.out HKB2.out H_ty.out _ _ _ ?_).mono ?_
             focus (simp)
             rintro e w1 ⟨rfl, h1, HP2⟩
             rw [HS2.out] at h1
             obtain ⟨-, ⟨d0, d1, d2, d3⟩, z0, z1, z2, z3⟩ := h1))
        all_goals first
          | (go_ret
             exact ⟨ret_bool (by rw [HNO.out (by rw [HPQ.out]; simp_all [tildeL])]; rfl), HP2.out.below⟩)
          | (have HA2 := Lib.hid (HNX.out (by rw [HPQ.out]; simp_all [tildeL]))
             have HN2 := Lib.hid (show Nk w n S [] _ from HP2.out.less (fun h => by rw [HS2.out] at h; exact h.1) (by simp))
             go_roundw
             case rel => exact ⟨j + 1, by omega, by go_num, HA2, HN2.out.cells, HN2⟩
             case measure => simp [intOf]; omega)
      · have HV := Lib.hid (show l.all PB = false from HNO.out (by
          rw [HPB.out]
          match ql, hlen with
          | [], _ => simp [termB, kids1]
          | [_], h => simp at h
          | _ :: _ :: _, _ => simp [termB, kids1]))
        obtain ⟨wb, hwb, hbb, d0, d1, d2, d3⟩ := laid4 wr (.int .i64 qk) (.string ⟨qs.toArray⟩) (.slice a' ql.length c') (.int .i64 qp) 25
        have hqn : ((ql.length : Int) != 1) = true := by simp; omega
        obtain ⟨S2, hS2⟩ : ∃ S2 : World → Prop, S2 = fun W => (W.cell? ⟨wr.heap.size, 0, none⟩ = some (.int .i64 qk) ∧ W.cell? ⟨wr.heap.size, 1, none⟩ = some (.string ⟨qs.toArray⟩) ∧ W.cell? ⟨wr.heap.size, 2, none⟩ = some (.slice a' ql.length c') ∧ W.cell? ⟨wr.heap.size, 3, none⟩ = some (.int .i64 qp)) := ⟨_, rfl⟩
        have HKB2 := Lib.hid (show Keep S2 by rw [hS2]; exact (keep_and (keep_cell _ _) (keep_and (keep_cell _ _) (keep_and (keep_cell _ _) (keep_cell _ _)))))
        have HP2 := Lib.hid (show Nk w n S2 [] wb from (HP.out.on HKB.out hbb).more (by rw [hS2]; exact ⟨d0, d1, d2, d3⟩) (fun r hr => by cases hr))
        have HS2 := Lib.hid hS2
        clear hS2 hfq hkq hqh hlen hbb
        go_wp2_with fail
        all_goals
          go_ret
          exact ⟨ret_bool (by rw [HV.out]; rfl), HP2.out.below⟩
    · obtain rfl : j = l.length := by omega
      have HV := Lib.hid (alls_end HALL.out)
      go_wp2_with fail
      go_ret
      exact ⟨ret_bool (by rw [HV.out]; rfl), HP.out.below⟩

set_option maxRecDepth 100000 in
set_option maxHeartbeats 8000000 in
theorem rparams_ok (ty it : Nd → Bool) (n : Nat) (h_ty : Ok 15 ty n) (h_it : Ok 32 it n) : Ok 29 (listB (tparamB (kindB 10 ty) it)) (n + 1) := by
  intro t a c w ht hg hk hf
  have hkid : ∀ x, x ∈ t.kids → x.height + 1 ≤ n + 1 := fun x hx => by have := Nd.height_kid hx; omega
  have hl2 : t.kids.length ≤ 9223372036854775807 := by have := hf.2.2.2.2.2.1; have := hf.2.2.2.2.2.2; omega
  obtain ⟨k, s, l, p⟩ := t
  simp only [Nd.kind_mk, Nd.text_mk, Nd.kids_mk, Nd.pos_mk] at *
  have H_it := Lib.hid h_it
  have H_ty := Lib.hid h_ty
  clear h_it h_ty
  obtain ⟨PB, hPB⟩ : ∃ PB : Nd → Bool, PB = tparamB (kindB 10 ty) it := ⟨_, rfl⟩
  have hE : (listB (tparamB (kindB 10 ty) it)) (.mk k s l p) = (k == 6 && (s.isEmpty && l.all PB)) := by rw [hPB]; rfl
  rw [hE]
  have HPB := Lib.hid hPB
  clear hE hPB
  obtain ⟨wa, hwa, hba, e0, e1, e2, e3⟩ := laid4 w (.int .i64 k) (.string ⟨s.toArray⟩) (.slice a l.length c) (.int .i64 p) 25
  obtain ⟨S, hS⟩ : ∃ S : World → Prop, S = fun W => (W.cell? ⟨w.heap.size, 0, none⟩ = some (.int .i64 k) ∧ W.cell? ⟨w.heap.size, 1, none⟩ = some (.string ⟨s.toArray⟩) ∧ W.cell? ⟨w.heap.size, 2, none⟩ = some (.slice a l.length c) ∧ W.cell? ⟨w.heap.size, 3, none⟩ = some (.int .i64 p)) := ⟨_, rfl⟩
  have HKB := Lib.hid (show Keep S by rw [hS]; exact keep_and (keep_cell _ _) (keep_and (keep_cell _ _) (keep_and (keep_cell _ _) (keep_cell _ _))))
  have HP := Lib.hid (show Nk w n S [] wa from ⟨hba, hg.on hba, by rw [hS]; exact ⟨e0, e1, e2, e3⟩, fun q hq => by cases hq⟩)
  have HKW := Lib.hid (fun W (hW : Below w.heap.size w W) => hk.on hW)
  have HHT := Lib.hid hkid
  have HS := Lib.hid hS
  clear hS hg hf ht hba hk hkid
  cases k0 : (k == 6) with
  | false =>
    have k1 : (k != 6) = true := by simp [bne, k0]
    clear k0
    go_enter Tryz.func29, Tryz.ntmps29
    go_wp2_with fail
    go_ret
    exact ⟨ret_bool (by rfl), HP.out.below⟩
  | true =>
  have k1 : (k != 6) = false := by simp [bne, k0]
  clear k0
  cases hse : s.isEmpty with
  | false =>
    go_enter Tryz.func29, Tryz.ntmps29
    go_wp2_with fail
    go_ret
    exact ⟨ret_bool (by rfl), HP.out.below⟩
  | true =>
  go_enter Tryz.func29, Tryz.ntmps29
  go_wp2_with fail
  go_loopw [3] (fun i wr => ∃ j : Nat, j ≤ l.length ∧ i = .int .i64 j ∧ Hid ((l.take j).all PB = true) ∧ S wr ∧ Hid (Nk w n S [] wr)) (fun i _ => l.length - (intOf i).toNat)
  case atStart => exact ⟨0, by omega, rfl, Lib.hid rfl, HP.out.cells, HP⟩
  case round =>
    obtain ⟨j, hj1, rfl, HALL, hs2, HP⟩ := hrel
    rw [HS.out] at hs2
    obtain ⟨e0, e1, e2, e3⟩ := hs2
    by_cases hlt : j < l.length
    · obtain ⟨b, off, a', c', ha, -, ⟨q0, q1, q2, q3⟩, hfq, hkq⟩ := (HKW.out _ HP.out.below).get hlt
      subst ha
      have HNX := Lib.hid (fun e => alls_next (f := PB) hlt HALL.out e)
      have HNO := Lib.hid (fun e => alls_no (f := PB) hlt e)
      have hqh := HHT.out _ (List.getElem_mem hlt)
      obtain ⟨q, hq⟩ : ∃ q, l[j] = q := ⟨_, rfl⟩
      rw [hq] at q0 q1 q2 q3 hfq hkq hqh HNX HNO
      clear hq
      obtain ⟨qk, qs, ql, qp⟩ := q
      simp only [Nd.kind_mk, Nd.text_mk, Nd.kids_mk, Nd.pos_mk] at q0 q1 q2 q3 hkq
      have hqs : qs.length ≤ 140737488351232 := hfq.2.2.2.2.1
      by_cases hlen : ql.length = 1
      · obtain ⟨z, rfl⟩ : ∃ z, ql = [z] := by
          match ql, hlen with
          | [z], _ => exact ⟨z, rfl⟩
        obtain ⟨bz, oz, az, cz, rfl, hz4, fz, kz⟩ := hkq.n1
        have hzh := Nd.height_kid (t := .mk qk qs [z] qp) (k := z) (by simp)
        obtain ⟨wb, hwb, hbb, d0, d1, d2, d3⟩ := laid4 wr (.int .i64 qk) (.string ⟨qs.toArray⟩) (.slice (some ⟨bz, oz, none⟩) 1 c') (.int .i64 qp) 25
        obtain ⟨S2, hS2⟩ : ∃ S2 : World → Prop, S2 = fun W => S W ∧ (W.cell? ⟨wr.heap.size, 0, none⟩ = some (.int .i64 qk) ∧ W.cell? ⟨wr.heap.size, 1, none⟩ = some (.string ⟨qs.toArray⟩) ∧ W.cell? ⟨wr.heap.size, 2, none⟩ = some (.slice (some ⟨bz, oz, none⟩) 1 c') ∧ W.cell? ⟨wr.heap.size, 3, none⟩ = some (.int .i64 qp)) ∧ Four W bz oz z az cz := ⟨_, rfl⟩
        have HKB2 := Lib.hid (show Keep S2 by rw [hS2]; exact keep_and HKB.out (keep_and (keep_and (keep_cell _ _) (keep_and (keep_cell _ _) (keep_and (keep_cell _ _) (keep_cell _ _)))) (keep_four _ _ _ _ _)))
        have hz4' := Four.on hz4 hbb
        have HP2 := Lib.hid (show Nk w n S2 [(z, az, cz)] wb from (HP.out.on HKB.out hbb).more (by rw [hS2]; exact ⟨(HP.out.on HKB.out hbb).cells, ⟨d0, d1, d2, d3⟩, hz4'⟩) (fun r hr => by
          rw [List.mem_singleton] at hr
          subst hr
          exact .inr ⟨by show z.height ≤ n; omega, kz.on hbb, fz⟩))
        have hwrl : wr.heap.size < wb.heap.size := cell_lt d0
        obtain ⟨z0, z1, z2, z3⟩ := hz4'
        have HS2 := Lib.hid hS2
        have HPQ := Lib.hid (show PB (.mk qk qs [z] qp) = (nameL qs && (qk == 7 && ((z.kind == 10 && ty z) || it z))) by rw [HPB.out]; rfl)
        clear hfq hkq hqh fz kz hzh hlen hS2 hbb hz4
        cases k7 : (qk == 7) with
        | false =>
          have k8 : (qk != 7) = true := by simp [bne, k7]
          have HV := Lib.hid (HNO.out (by rw [HPQ.out, k7]; simp))
          clear k7
          go_wp2_with fail
          go_ret
          exact ⟨ret_bool (by rw [HV.out]; rfl), HP2.out.below⟩
        | true =>
        have k8 : (qk != 7) = false := by simp [bne, k7]
        obtain ⟨N, hN⟩ : ∃ N, nameL qs = N := ⟨_, rfl⟩
        have HPQ2 := Lib.hid (show PB (.mk qk qs [z] qp) = (N && ((z.kind == 10 && ty z) || it z)) by rw [HPQ.out, hN, k7]; rfl)
        have hx := nk_name HP2.out HKB2.out qs hqs
        rw [hN] at hx
        have HX := Lib.hid hx
        clear hx hN k7
        go_wp2_with fail
        refine HX.out.mono ?_
        rintro e w1 ⟨rfl, h1, HP3⟩
        rw [HS2.out] at h1
        obtain ⟨-, ⟨d0, d1, d2, d3⟩, z0, z1, z2, z3⟩ := h1
        cases N with
        | false =>
          have HV := Lib.hid (HNO.out (by rw [HPQ2.out]; simp))
          go_wp2_with fail
          go_ret
          exact ⟨ret_bool (by rw [HV.out]; rfl), HP3.out.below⟩
        | true =>
        obtain ⟨wc, hwc, hbc, g0, g1, g2, g3⟩ := laid4 w1 (.int .i64 z.kind) (.string ⟨z.text.toArray⟩) (.slice az z.kids.length cz) (.int .i64 z.pos) 25
        obtain ⟨S3, hS3⟩ : ∃ S3 : World → Prop, S3 = fun W => S W ∧ (W.cell? ⟨w1.heap.size, 0, none⟩ = some (.int .i64 z.kind) ∧ W.cell? ⟨w1.heap.size, 1, none⟩ = some (.string ⟨z.text.toArray⟩) ∧ W.cell? ⟨w1.heap.size, 2, none⟩ = some (.slice az z.kids.length cz) ∧ W.cell? ⟨w1.heap.size, 3, none⟩ = some (.int .i64 z.pos)) := ⟨_, rfl⟩
        have HKB3 := Lib.hid (show Keep S3 by rw [hS3]; exact keep_and HKB.out (keep_and (keep_cell _ _) (keep_and (keep_cell _ _) (keep_and (keep_cell _ _) (keep_cell _ _)))))
        have HP4 := Lib.hid (show Nk w n S3 [(z, az, cz)] wc from (HP3.out.on HKB2.out hbc).more (by
          have := (HP3.out.on HKB2.out hbc).cells
          rw [HS2.out] at this
          rw [hS3]; exact ⟨this.1, g0, g1, g2, g3⟩) (fun r hr => .inl hr))
        have HS3 := Lib.hid hS3
        obtain ⟨I, hI⟩ : ∃ I, it z = I := ⟨_, rfl⟩
        obtain ⟨T, hT⟩ : ∃ T, ty z = T := ⟨_, rfl⟩
        have hxi := nk_ok HP4.out HKB3.out H_it.out z az cz (by simp)
        rw [hI] at hxi
        have HXI := Lib.hid hxi
        have HT := Lib.hid hT
        have HPQ3 := Lib.hid (show PB (.mk qk qs [z] qp) = ((z.kind == 10 && T) || I) by rw [HPQ2.out, hI, hT]; rfl)
        clear hS3 hbc hI hT hxi
        go_wp2_with fail
        refine HXI.out.mono ?_
        rintro e w3 ⟨rfl, h1, HP5⟩
        rw [HS3.out] at h1
        obtain ⟨-, g0, g1, g2, g3⟩ := h1
        cases I with
        | true =>
          have HA2 := Lib.hid (HNX.out (by rw [HPQ3.out]; simp))
          have HN2 := Lib.hid (show Nk w n S [] _ from HP5.out.less (fun h => by rw [HS3.out] at h; exact h.1) (by simp))
          go_wp2_with fail
          go_roundw
          case rel => exact ⟨j + 1, by omega, by go_num, HA2, HN2.out.cells, HN2⟩
          case measure => simp [intOf]; omega
        | false =>
        cases z10 : (z.kind == 10) with
        | false =>
          have z11 : (z.kind != 10) = true := by simp [bne, z10]
          have HV := Lib.hid (HNO.out (by rw [HPQ3.out, z10]; simp))
          clear z10
          go_wp2_with fail
          go_ret
          exact ⟨ret_bool (by rw [HV.out]; rfl), HP5.out.below⟩
        | true =>
        have z11 : (z.kind != 10) = false := by simp [bne, z10]
        have HPQ4 := Lib.hid (show PB (.mk qk qs [z] qp) = T by rw [HPQ3.out, z10]; simp)
        clear z10
        have hxi := nk_ok HP5.out HKB3.out H_ty.out z az cz (by simp)
        rw [HT.out] at hxi
        have HXT := Lib.hid hxi
        clear hxi
        go_wp2_with fail
        refine HXT.out.mono ?_
        rintro e w4 ⟨rfl, h1, HP6⟩
        rw [HS3.out] at h1
        obtain ⟨-, g0, g1, g2, g3⟩ := h1
        cases T with
        | true =>
          have HA2 := Lib.hid (HNX.out HPQ4.out)
          have HN2 := Lib.hid (show Nk w n S [] _ from HP6.out.less (fun h => by rw [HS3.out] at h; exact h.1) (by simp))
          go_wp2_with fail
          go_roundw
          case rel => exact ⟨j + 1, by omega, by go_num, HA2, HN2.out.cells, HN2⟩
          case measure => simp [intOf]; omega
        | false =>
          have HV := Lib.hid (HNO.out HPQ4.out)
          go_wp2_with fail
          go_ret
          exact ⟨ret_bool (by rw [HV.out]; rfl), HP6.out.below⟩
      · have HV := Lib.hid (show l.all PB = false from HNO.out (by
          rw [HPB.out]
          match ql, hlen with
          | [], _ => simp [tparamB, kids1]
          | [_], h => simp at h
          | _ :: _ :: _, _ => simp [tparamB, kids1]))
        obtain ⟨wb, hwb, hbb, d0, d1, d2, d3⟩ := laid4 wr (.int .i64 qk) (.string ⟨qs.toArray⟩) (.slice a' ql.length c') (.int .i64 qp) 25
        have hqn : ((ql.length : Int) != 1) = true := by simp; omega
        obtain ⟨S2, hS2⟩ : ∃ S2 : World → Prop, S2 = fun W => (W.cell? ⟨wr.heap.size, 0, none⟩ = some (.int .i64 qk) ∧ W.cell? ⟨wr.heap.size, 1, none⟩ = some (.string ⟨qs.toArray⟩) ∧ W.cell? ⟨wr.heap.size, 2, none⟩ = some (.slice a' ql.length c') ∧ W.cell? ⟨wr.heap.size, 3, none⟩ = some (.int .i64 qp)) := ⟨_, rfl⟩
        have HKB2 := Lib.hid (show Keep S2 by rw [hS2]; exact (keep_and (keep_cell _ _) (keep_and (keep_cell _ _) (keep_and (keep_cell _ _) (keep_cell _ _)))))
        have HP2 := Lib.hid (show Nk w n S2 [] wb from (HP.out.on HKB.out hbb).more (by rw [hS2]; exact ⟨d0, d1, d2, d3⟩) (fun r hr => by cases hr))
        have HS2 := Lib.hid hS2
        clear hS2 hfq hkq hqh hlen hbb
        go_wp2_with (first
          | (go_at_call 13
             refine (nk_name HP2.out HKB2.out _ (by first | exact hqs | omega)).mono ?_
             rintro e w1 ⟨rfl, h1, HP2⟩
             rw [HS2.out] at h1
             obtain ⟨d0, d1, d2, d3⟩ := h1))
        all_goals
          go_ret
          exact ⟨ret_bool (by rw [HV.out]; rfl), HP2.out.below⟩
    · obtain rfl : j = l.length := by omega
      have HV := Lib.hid (alls_end HALL.out)
      go_wp2_with fail
      go_ret
      exact ⟨ret_bool (by rw [HV.out]; rfl), HP.out.below⟩

end Go.Proofs.YtfcpblclfgkdjaaGreatDoor

namespace Go.Proofs.YtfcpblclfgkdjaaGreatDoor
set_option linter.unusedSimpArgs false
set_option linter.unusedVariables false
open Go.RowKit

set_option maxRecDepth 100000 in
set_option maxHeartbeats 8000000 in
theorem rtype_slice (ty : Nd → Bool) (n : Nat) (h_ty : Ok 15 ty n) (s : List UInt8) (l : List Nd) (p : Int) (a : Option Addr) (c : Nat) (w : World) (ht : (Nd.mk 11 s l p).height ≤ n + 1) (hg : Glob w) (hk : Kids w w.heap.size a l) (hf : Fits (.mk 11 s l p) c) :
    Calls Tryz.prog 15 #[.agg #[.int .i64 11, .string ⟨s.toArray⟩, .slice a l.length c, .int .i64 p]] w fun e w' => e = .returned (.bool (s.isEmpty && kids1 ty l)) ∧ Below w.heap.size w w' := by
  have hkid : ∀ x, x ∈ l → x.height ≤ n := fun x hx => by have := Nd.height_kid (t := .mk 11 s l p) hx; omega
  have hs : s.length ≤ 140737488351232 := hf.2.2.2.2.1
  have hcap : l.length ≤ c := hf.2.2.2.2.2.1
  have hl2 : l.length ≤ 9223372036854775807 := by have := hf.2.2.2.2.2.2.1; omega
  have H_ty := Lib.hid h_ty
  clear h_ty
  by_cases hlen : l.length = 1
  · obtain ⟨x1, rfl⟩ : ∃ x1, l = [x1] := by
      match l, hlen with
      | [x1], _ => exact ⟨x1, rfl⟩
    obtain ⟨b, off, a1, c1, rfl, ⟨q1, f1, k1⟩⟩ := hk.n1
    have h1 := hkid x1 (by simp)
    obtain ⟨wa, hwa, hba, e0, e1, e2, e3⟩ := laid4 w (.int .i64 11) (.string ⟨s.toArray⟩) (.slice (some ⟨b, off, none⟩) 1 c) (.int .i64 p) 25
    have q1 := Four.on q1 hba
    obtain ⟨S, hS⟩ : ∃ S : World → Prop, S = fun W => (W.cell? ⟨w.heap.size, 0, none⟩ = some (.int .i64 11) ∧ W.cell? ⟨w.heap.size, 1, none⟩ = some (.string ⟨s.toArray⟩) ∧ W.cell? ⟨w.heap.size, 2, none⟩ = some (.slice (some ⟨b, off, none⟩) 1 c) ∧ W.cell? ⟨w.heap.size, 3, none⟩ = some (.int .i64 p)) ∧ Four W b off x1 a1 c1 := ⟨_, rfl⟩
    have HKB := Lib.hid (show Keep S by rw [hS]; exact keep_and (keep_and (keep_cell _ _) (keep_and (keep_cell _ _) (keep_and (keep_cell _ _) (keep_cell _ _)))) (keep_four _ _ _ _ _))
    have HP := Lib.hid (show Nk w n S [(x1, a1, c1)] wa from ⟨hba, hg.on hba, by rw [hS]; exact ⟨⟨e0, e1, e2, e3⟩, q1⟩, fun q hq => by
      simp only [List.mem_cons, List.not_mem_nil, or_false] at hq
      rcases hq with rfl
      · exact ⟨h1, k1.on hba, f1⟩⟩)
    obtain ⟨q10, q11, q12, q13⟩ := q1
    have HS := Lib.hid hS
    clear hg hk hf ht hkid hba hS f1 k1 h1
    go_enter Tryz.func15, Tryz.ntmps15
    go_wp2_with (first
      | (go_at_call 15
         refine (nk_ok HP.out HKB.out H_ty.out _ _ _ ?_).mono ?_
         focus (simp)
         rintro e w1 ⟨rfl, h1, HP⟩
         rw [HS.out] at h1
         obtain ⟨⟨e0, e1, e2, e3⟩, ⟨q10, q11, q12, q13⟩⟩ := h1))
    all_goals
      go_ret
      exact ⟨ret_bool (by first | (simp_all [kids1]; done) | (simp_all [kids1]; omega)), HP.out.below⟩
  · have hn : ((l.length : Int) == 1) = false := by simp; omega
    have HV := Lib.hid (show kids1 ty l = false from by
      match l, hlen with
      | [], _ => rfl
      | [_], h => simp at h
      | _ :: _ :: _, _ => rfl)
    obtain ⟨wa, hwa, hba, e0, e1, e2, e3⟩ := laid4 w (.int .i64 11) (.string ⟨s.toArray⟩) (.slice a l.length c) (.int .i64 p) 25
    obtain ⟨S, hS⟩ : ∃ S : World → Prop, S = fun W => (W.cell? ⟨w.heap.size, 0, none⟩ = some (.int .i64 11) ∧ W.cell? ⟨w.heap.size, 1, none⟩ = some (.string ⟨s.toArray⟩) ∧ W.cell? ⟨w.heap.size, 2, none⟩ = some (.slice a l.length c) ∧ W.cell? ⟨w.heap.size, 3, none⟩ = some (.int .i64 p)) := ⟨_, rfl⟩
    have HKB := Lib.hid (show Keep S by rw [hS]; exact keep_and (keep_cell _ _) (keep_and (keep_cell _ _) (keep_and (keep_cell _ _) (keep_cell _ _))))
    have HP := Lib.hid (show Nk w n S [] wa from ⟨hba, hg.on hba, by rw [hS]; exact ⟨e0, e1, e2, e3⟩, fun q hq => by cases hq⟩)
    have HS := Lib.hid hS
    clear hg hk hf ht hkid hba hS
    go_enter Tryz.func15, Tryz.ntmps15
    go_wp2_with fail
    all_goals
      go_ret
      exact ⟨ret_bool (by rw [HV.out]; simp), HP.out.below⟩

set_option maxRecDepth 100000 in
set_option maxHeartbeats 8000000 in
theorem rtype_func (ty : Nd → Bool) (n : Nat) (h_ty : Ok 15 ty n) (s : List UInt8) (l : List Nd) (p : Int) (a : Option Addr) (c : Nat) (w : World) (ht : (Nd.mk 12 s l p).height ≤ n + 1) (hg : Glob w) (hk : Kids w w.heap.size a l) (hf : Fits (.mk 12 s l p) c) :
    Calls Tryz.prog 15 #[.agg #[.int .i64 12, .string ⟨s.toArray⟩, .slice a l.length c, .int .i64 p]] w fun e w' => e = .returned (.bool (sigB ty (fun l => l.isEmpty) (.mk 12 s l p))) ∧ Below w.heap.size w w' := by
  have hkid : ∀ x, x ∈ l → x.height ≤ n := fun x hx => by have := Nd.height_kid (t := .mk 12 s l p) hx; omega
  have hs : s.length ≤ 140737488351232 := hf.2.2.2.2.1
  have hcap : l.length ≤ c := hf.2.2.2.2.2.1
  have hl2 : l.length ≤ 9223372036854775807 := by have := hf.2.2.2.2.2.2.1; omega
  have e0 : sigB ty (fun l => l.isEmpty) (.mk 12 s l p) = sigB ty (soOf false) (.mk 12 s l p) := rfl
  rw [e0]
  clear e0
  obtain ⟨wa, hwa, hba, e0, e1, e2, e3⟩ := laid4 w (.int .i64 12) (.string ⟨s.toArray⟩) (.slice a l.length c) (.int .i64 p) 25
  obtain ⟨S, hS⟩ : ∃ S : World → Prop, S = fun W => (W.cell? ⟨w.heap.size, 0, none⟩ = some (.int .i64 12) ∧ W.cell? ⟨w.heap.size, 1, none⟩ = some (.string ⟨s.toArray⟩) ∧ W.cell? ⟨w.heap.size, 2, none⟩ = some (.slice a l.length c) ∧ W.cell? ⟨w.heap.size, 3, none⟩ = some (.int .i64 p)) := ⟨_, rfl⟩
  have HKB := Lib.hid (show Keep S by rw [hS]; exact keep_and (keep_cell _ _) (keep_and (keep_cell _ _) (keep_and (keep_cell _ _) (keep_cell _ _))))
  have HP := Lib.hid (show Nk w n S [] wa from ⟨hba, hg.on hba, by rw [hS]; exact ⟨e0, e1, e2, e3⟩, fun q hq => by cases hq⟩)
  have HS := Lib.hid hS
  have hx := nk_post HP.out HKB.out (rsig_any ty n h_ty false (.mk 12 s l p) a c wa ht HP.out.glob (hk.on hba) hf)
  obtain ⟨R, hR⟩ : ∃ R, sigB ty (soOf false) (.mk 12 s l p) = R := ⟨_, rfl⟩
  rw [hR] at hx
  rw [hR]
  have HX := Lib.hid hx
  clear hx hR h_ty hg hk hf ht hkid hba hS
  go_enter Tryz.func15, Tryz.ntmps15
  go_wp2_with fail
  refine HX.out.mono ?_
  rintro e w1 ⟨rfl, h1, HP⟩
  go_wp2_with fail
  go_ret
  exact ⟨rfl, HP.out.below⟩

set_option maxRecDepth 100000 in
set_option maxHeartbeats 8000000 in
theorem rtype_name (ty : Nd → Bool) (n : Nat) (h_ty : Ok 15 ty n) (s : List UInt8) (l : List Nd) (p : Int) (a : Option Addr) (c : Nat) (w : World) (ht : (Nd.mk 10 s l p).height ≤ n + 1) (hg : Glob w) (hk : Kids w w.heap.size a l) (hf : Fits (.mk 10 s l p) c) :
    Calls Tryz.prog 15 #[.agg #[.int .i64 10, .string ⟨s.toArray⟩, .slice a l.length c, .int .i64 p]] w fun e w' => e = .returned (.bool (nameL s && l.all ty)) ∧ Below w.heap.size w w' := by
  have hkid : ∀ x, x ∈ l → x.height ≤ n := fun x hx => by have := Nd.height_kid (t := .mk 10 s l p) hx; omega
  have hs : s.length ≤ 140737488351232 := hf.2.2.2.2.1
  have hcap : l.length ≤ c := hf.2.2.2.2.2.1
  have hl2 : l.length ≤ 9223372036854775807 := by have := hf.2.2.2.2.2.2.1; omega
  have H := Lib.hid h_ty
  have HKW := Lib.hid (fun W (hW : Below w.heap.size w W) => hk.on hW)
  have HHT := Lib.hid hkid
  obtain ⟨wa, hwa, hba, e0, e1, e2, e3⟩ := laid4 w (.int .i64 10) (.string ⟨s.toArray⟩) (.slice a l.length c) (.int .i64 p) 25
  obtain ⟨S, hS⟩ : ∃ S : World → Prop, S = fun W => (W.cell? ⟨w.heap.size, 0, none⟩ = some (.int .i64 10) ∧ W.cell? ⟨w.heap.size, 1, none⟩ = some (.string ⟨s.toArray⟩) ∧ W.cell? ⟨w.heap.size, 2, none⟩ = some (.slice a l.length c) ∧ W.cell? ⟨w.heap.size, 3, none⟩ = some (.int .i64 p)) := ⟨_, rfl⟩
  have HKB := Lib.hid (show Keep S by rw [hS]; exact keep_and (keep_cell _ _) (keep_and (keep_cell _ _) (keep_and (keep_cell _ _) (keep_cell _ _))))
  have HP := Lib.hid (show Nk w n S [] wa from ⟨hba, hg.on hba, by rw [hS]; exact ⟨e0, e1, e2, e3⟩, fun q hq => by cases hq⟩)
  have HS := Lib.hid hS
  obtain ⟨N, hN⟩ : ∃ N, nameL s = N := ⟨_, rfl⟩
  have hx := nk_name HP.out HKB.out s hs
  rw [hN] at hx ⊢
  have HX := Lib.hid hx
  clear hx hN h_ty hg hk hf ht hkid hba hS
  go_enter Tryz.func15, Tryz.ntmps15
  go_wp2_with fail
  refine HX.out.mono ?_
  rintro e w1 ⟨rfl, h1, HP⟩
  rw [HS.out] at h1
  obtain ⟨e0, e1, e2, e3⟩ := h1
  cases N with
  | false =>
    go_wp2_with fail
    go_ret
    exact ⟨ret_bool (by rfl), HP.out.below⟩
  | true =>
  go_wp2_with fail
  go_loopw [3] (fun i wr => ∃ j : Nat, j ≤ l.length ∧ i = .int .i64 j ∧ Hid ((l.take j).all ty = true) ∧ S wr ∧ Hid (Nk w n S [] wr)) (fun i _ => l.length - (intOf i).toNat)
  case atStart => exact ⟨0, by omega, rfl, Lib.hid rfl, HP.out.cells, HP⟩
  case round =>
    obtain ⟨j, hj1, rfl, HALL, hs2, HP⟩ := hrel
    rw [HS.out] at hs2
    obtain ⟨e0, e1, e2, e3⟩ := hs2
    by_cases hlt : j < l.length
    · obtain ⟨b, off, a', c', ha, -, ⟨q0, q1, q2, q3⟩, hfq, hkq⟩ := (HKW.out _ HP.out.below).get hlt
      subst ha
      have HNX := Lib.hid (fun e => alls_next (f := ty) hlt HALL.out e)
      have HNO := Lib.hid (fun e => alls_no (f := ty) hlt e)
      have hx := nk_post HP.out HKB.out (H.out l[j] a' c' wr (HHT.out _ (List.getElem_mem hlt)) HP.out.glob hkq hfq)
      obtain ⟨q, hq⟩ : ∃ q, l[j] = q := ⟨_, rfl⟩
      rw [hq] at q0 q1 q2 q3 HNX HNO hx
      obtain ⟨R, hR⟩ : ∃ R, ty q = R := ⟨_, rfl⟩
      rw [hR] at hx HNX HNO
      have HXQ := Lib.hid hx
      clear hq hx hR hfq hkq
      go_wp2_with fail
      refine HXQ.out.mono ?_
      rintro e w2 ⟨rfl, h1, HP⟩
      rw [HS.out] at h1
      obtain ⟨e0, e1, e2, e3⟩ := h1
      cases R with
      | true =>
        have HA2 := Lib.hid (HNX.out (by first | rfl | trivial))
        go_wp2_with fail
        go_roundw
        case rel => exact ⟨j + 1, by omega, by go_num, HA2, HP.out.cells, HP⟩
        case measure => simp [intOf]; omega
      | false =>
        have HV := Lib.hid (HNO.out (by first | rfl | trivial))
        go_wp2_with fail
        go_ret
        exact ⟨ret_bool (by rw [HV.out]; rfl), HP.out.below⟩
    · obtain rfl : j = l.length := by omega
      have HV := Lib.hid (alls_end HALL.out)
      go_wp2_with fail
      go_ret
      exact ⟨ret_bool (by rw [HV.out]; rfl), HP.out.below⟩

set_option maxHeartbeats 4000000 in
theorem rtype_none (k : Int) (s : List UInt8) (l : List Nd) (p : Int) (a : Option Addr) (c : Nat) (w : World) (hn : k ≠ 10 ∧ k ≠ 11 ∧ k ≠ 12) :
    Calls Tryz.prog 15 #[.agg #[.int .i64 k, .string ⟨s.toArray⟩, .slice a l.length c, .int .i64 p]] w fun e w' => e = .returned (.bool false) ∧ Below w.heap.size w w' := by
  obtain ⟨m1, m2, m3⟩ := hn
  have n1 : (k == 10) = false := by simpa using m1
  have n2 : (k == 11) = false := by simpa using m2
  have n3 : (k == 12) = false := by simpa using m3
  clear m1 m2 m3
  go_enter Tryz.func15, Tryz.ntmps15
  go_wp2_with fail
  go_ret
  exact ⟨rfl, below_alloc _ _⟩
theorem rtype_ok (ty : Nd → Bool) (n : Nat) (h_ty : Ok 15 ty n) : Ok 15 (typeB ty) (n + 1) := by
  rintro ⟨k, s, l, p⟩ a c w ht hg hk hf
  simp only [Nd.kind_mk, Nd.text_mk, Nd.kids_mk, Nd.pos_mk] at *
  by_cases k10 : k = 10
  · subst k10; exact rtype_name ty n h_ty s l p a c w ht hg hk hf
  by_cases k11 : k = 11
  · subst k11
    refine (rtype_slice ty n h_ty s l p a c w ht hg hk hf).mono ?_
    rintro e w' ⟨rfl, hb⟩
    exact ⟨ret_bool (by simp [typeB, ofB]), hb⟩
  by_cases k12 : k = 12
  · subst k12; exact rtype_func ty n h_ty s l p a c w ht hg hk hf
  · refine (rtype_none k s l p a c w ⟨k10, k11, k12⟩).mono ?_
    rintro e w' ⟨rfl, hb⟩
    exact ⟨ret_bool (by simp [typeB, k10, k11, k12]), hb⟩
end Go.Proofs.YtfcpblclfgkdjaaGreatDoor

namespace Go.Proofs.YtfcpblclfgkdjaaGreatDoor
set_option linter.unusedSimpArgs false
set_option linter.unusedVariables false
open Go.RowKit

theorem laid44 (w : World) (A0 A1 A2 A3 B0 B1 B2 B3 : Value) (T : TypeId) : ∃ W, ((w.alloc (.cells #[A0, A1, A2, A3] T)).alloc (.cells #[B0, B1, B2, B3] T)).drew = W ∧ Below w.heap.size w W ∧
    (W.cell? ⟨w.heap.size, 0, none⟩ = some A0 ∧ W.cell? ⟨w.heap.size, 1, none⟩ = some A1 ∧ W.cell? ⟨w.heap.size, 2, none⟩ = some A2 ∧ W.cell? ⟨w.heap.size, 3, none⟩ = some A3) ∧
    (W.cell? ⟨w.heap.size + 1, 0, none⟩ = some B0 ∧ W.cell? ⟨w.heap.size + 1, 1, none⟩ = some B1 ∧ W.cell? ⟨w.heap.size + 1, 2, none⟩ = some B2 ∧ W.cell? ⟨w.heap.size + 1, 3, none⟩ = some B3) :=
  ⟨_, rfl, (((Below.refl _ _).alloc (Nat.le_refl _) _).alloc (by simp) _).drew, ⟨by simp [go_sem], by simp [go_sem], by simp [go_sem], by simp [go_sem]⟩, by simp [go_sem], by simp [go_sem], by simp [go_sem], by simp [go_sem]⟩

set_option maxRecDepth 100000 in
set_option maxHeartbeats 8000000 in
theorem rvar_five (ty : Nd → Bool) (ex : Nd → Bool) (n : Nat) (h_ty : Ok 15 ty n) (h_ex : Ok 16 ex n) (s : List UInt8) (l : List Nd) (p : Int) (a : Option Addr) (c : Nat) (w : World) (ht : (Nd.mk 5 s l p).height ≤ n + 1) (hg : Glob w) (hk : Kids w w.heap.size a l) (hf : Fits (.mk 5 s l p) c) :
    Calls Tryz.prog 28 #[.agg #[.int .i64 5, .string ⟨s.toArray⟩, .slice a l.length c, .int .i64 p]] w fun e w' => e = .returned (.bool (nameL s && varKids ty ex l)) ∧ Below w.heap.size w w' := by
  have hkid : ∀ x, x ∈ l → x.height ≤ n := fun x hx => by have := Nd.height_kid (t := .mk 5 s l p) hx; omega
  have hs : s.length ≤ 140737488351232 := hf.2.2.2.2.1
  have hcap : l.length ≤ c := hf.2.2.2.2.2.1
  have hl2 : l.length ≤ 9223372036854775807 := by have := hf.2.2.2.2.2.2.1; omega
  have H_ty := Lib.hid h_ty
  have H_ex := Lib.hid h_ex
  clear h_ty h_ex
  by_cases hlen : l.length = 2
  · obtain ⟨x1, x2, rfl⟩ : ∃ x1 x2, l = [x1, x2] := by
      match l, hlen with
      | [x1, x2], _ => exact ⟨x1, x2, rfl⟩
    obtain ⟨b, off, a1, c1, a2, c2, rfl, ⟨q1, f1, k1⟩, ⟨q2, f2, k2⟩⟩ := hk.n2
    have h1 := hkid x1 (by simp)
    have h2 := hkid x2 (by simp)
    obtain ⟨wa, hwa, hba, e0, e1, e2, e3⟩ := laid4 w (.int .i64 5) (.string ⟨s.toArray⟩) (.slice (some ⟨b, off, none⟩) 2 c) (.int .i64 p) 25
    have q1 := Four.on q1 hba
    have q2 := Four.on q2 hba
    obtain ⟨S, hS⟩ : ∃ S : World → Prop, S = fun W => (W.cell? ⟨w.heap.size, 0, none⟩ = some (.int .i64 5) ∧ W.cell? ⟨w.heap.size, 1, none⟩ = some (.string ⟨s.toArray⟩) ∧ W.cell? ⟨w.heap.size, 2, none⟩ = some (.slice (some ⟨b, off, none⟩) 2 c) ∧ W.cell? ⟨w.heap.size, 3, none⟩ = some (.int .i64 p)) ∧ Four W b off x1 a1 c1 ∧ Four W b (off + 4) x2 a2 c2 := ⟨_, rfl⟩
    have HKB := Lib.hid (show Keep S by rw [hS]; exact keep_and (keep_and (keep_cell _ _) (keep_and (keep_cell _ _) (keep_and (keep_cell _ _) (keep_cell _ _)))) (keep_and (keep_four _ _ _ _ _) (keep_four _ _ _ _ _)))
    have HP := Lib.hid (show Nk w n S [(x1, a1, c1), (x2, a2, c2)] wa from ⟨hba, hg.on hba, by rw [hS]; exact ⟨⟨e0, e1, e2, e3⟩, q1, q2⟩, fun q hq => by
      simp only [List.mem_cons, List.not_mem_nil, or_false] at hq
      rcases hq with rfl | rfl
      · exact ⟨h1, k1.on hba, f1⟩
      · exact ⟨h2, k2.on hba, f2⟩⟩)
    obtain ⟨q10, q11, q12, q13⟩ := q1
    obtain ⟨q20, q21, q22, q23⟩ := q2
    have HS := Lib.hid hS
    clear hg hk hf ht hkid hba hS f1 k1 h1 f2 k2 h2
    obtain ⟨N, hN⟩ : ∃ N, nameL s = N := ⟨_, rfl⟩
    have hx := nk_name HP.out HKB.out s hs
    rw [hN] at hx ⊢
    have HX := Lib.hid hx
    clear hx hN
    go_enter Tryz.func28, Tryz.ntmps28
    go_wp2_with fail
    refine HX.out.mono ?_
    rintro e w1 ⟨rfl, h1, HP⟩
    rw [HS.out] at h1
    obtain ⟨⟨e0, e1, e2, e3⟩, ⟨q10, q11, q12, q13⟩, ⟨q20, q21, q22, q23⟩⟩ := h1
    cases N with
    | false =>
      go_wp2_with fail
      go_ret
      exact ⟨ret_bool (by rfl), HP.out.below⟩
    | true =>
    go_wp2_with fail
    go_region_held3 (fun W => (W.cell? ⟨w.heap.size, 2, none⟩ = some (.slice (some ⟨b, off, none⟩) 2 c)) ∧ (W.cell? ⟨b, off, none⟩ = some (.int .i64 x1.kind) ∧ W.cell? ⟨b, off + 1, none⟩ = some (.string ⟨x1.text.toArray⟩) ∧ W.cell? ⟨b, off + 2, none⟩ = some (.slice a1 x1.kids.length c1) ∧ W.cell? ⟨b, off + 3, none⟩ = some (.int .i64 x1.pos)) ∧ (W.cell? ⟨b, off + 4, none⟩ = some (.int .i64 x2.kind) ∧ W.cell? ⟨b, off + 4 + 1, none⟩ = some (.string ⟨x2.text.toArray⟩) ∧ W.cell? ⟨b, off + 4 + 2, none⟩ = some (.slice a2 x2.kids.length c2) ∧ W.cell? ⟨b, off + 4 + 3, none⟩ = some (.int .i64 x2.pos))) (go_keep) (fail)
    · obtain ⟨W5, hW5, hb5, hg1, hg2⟩ := laid44 w1 (.int .i64 x1.kind) (.string ⟨x1.text.toArray⟩) (.slice a1 x1.kids.length c1) (.int .i64 x1.pos) (.int .i64 x2.kind) (.string ⟨x2.text.toArray⟩) (.slice a2 x2.kids.length c2) (.int .i64 x2.pos) 25
      rw [hW5]
      obtain ⟨S5, hS5⟩ : ∃ S5 : World → Prop, S5 = fun W => (W.cell? ⟨w1.heap.size, 0, none⟩ = some (.int .i64 x1.kind) ∧ W.cell? ⟨w1.heap.size, 1, none⟩ = some (.string ⟨x1.text.toArray⟩) ∧ W.cell? ⟨w1.heap.size, 2, none⟩ = some (.slice a1 x1.kids.length c1) ∧ W.cell? ⟨w1.heap.size, 3, none⟩ = some (.int .i64 x1.pos)) ∧ (W.cell? ⟨w1.heap.size + 1, 0, none⟩ = some (.int .i64 x2.kind) ∧ W.cell? ⟨w1.heap.size + 1, 1, none⟩ = some (.string ⟨x2.text.toArray⟩) ∧ W.cell? ⟨w1.heap.size + 1, 2, none⟩ = some (.slice a2 x2.kids.length c2) ∧ W.cell? ⟨w1.heap.size + 1, 3, none⟩ = some (.int .i64 x2.pos)) := ⟨_, rfl⟩
      have HKB5 := Lib.hid (show Keep S5 by rw [hS5]; exact keep_and (keep_and (keep_cell _ _) (keep_and (keep_cell _ _) (keep_and (keep_cell _ _) (keep_cell _ _)))) (keep_and (keep_cell _ _) (keep_and (keep_cell _ _) (keep_and (keep_cell _ _) (keep_cell _ _)))))
      have HP5 := Lib.hid (show Nk w n S5 [(x1, a1, c1), (x2, a2, c2)] W5 from (HP.out.on HKB.out hb5).more (by rw [hS5]; exact ⟨hg1, hg2⟩) (fun r hr => .inl hr))
      have HS5 := Lib.hid hS5
      obtain ⟨g10, g11, g12, g13⟩ := hg1
      obtain ⟨g20, g21, g22, g23⟩ := hg2
      clear hW5 hb5 hS5
      go_wp2_with (first
        | (go_at_call 36
           refine (nk_nothing HP5.out HKB5.out _ _ _).mono ?_
           rintro e w1 ⟨rfl, h1, HP5⟩
           rw [HS5.out] at h1
           obtain ⟨⟨g10, g11, g12, g13⟩, g20, g21, g22, g23⟩ := h1)
        | (go_at_call 15
           refine (nk_ok HP5.out HKB5.out H_ty.out _ _ _ ?_).mono ?_
           focus (simp)
           rintro e w1 ⟨rfl, h1, HP5⟩
           rw [HS5.out] at h1
           obtain ⟨⟨g10, g11, g12, g13⟩, g20, g21, g22, g23⟩ := h1)
        | (go_at_call 16
           refine (nk_ok HP5.out HKB5.out H_ex.out _ _ _ ?_).mono ?_
           focus (simp)
           rintro e w1 ⟨rfl, h1, HP5⟩
           rw [HS5.out] at h1
           obtain ⟨⟨g10, g11, g12, g13⟩, g20, g21, g22, g23⟩ := h1))
      all_goals
        go_ret
        exact ⟨ret_bool (by simp_all [varKids]), HP5.out.below⟩
    · obtain ⟨W5, hW5, hb5, hg2, hg1⟩ := laid44 w1 (.int .i64 x2.kind) (.string ⟨x2.text.toArray⟩) (.slice a2 x2.kids.length c2) (.int .i64 x2.pos) (.int .i64 x1.kind) (.string ⟨x1.text.toArray⟩) (.slice a1 x1.kids.length c1) (.int .i64 x1.pos) 25
      rw [hW5]
      obtain ⟨S5, hS5⟩ : ∃ S5 : World → Prop, S5 = fun W => (W.cell? ⟨w1.heap.size + 1, 0, none⟩ = some (.int .i64 x1.kind) ∧ W.cell? ⟨w1.heap.size + 1, 1, none⟩ = some (.string ⟨x1.text.toArray⟩) ∧ W.cell? ⟨w1.heap.size + 1, 2, none⟩ = some (.slice a1 x1.kids.length c1) ∧ W.cell? ⟨w1.heap.size + 1, 3, none⟩ = some (.int .i64 x1.pos)) ∧ (W.cell? ⟨w1.heap.size, 0, none⟩ = some (.int .i64 x2.kind) ∧ W.cell? ⟨w1.heap.size, 1, none⟩ = some (.string ⟨x2.text.toArray⟩) ∧ W.cell? ⟨w1.heap.size, 2, none⟩ = some (.slice a2 x2.kids.length c2) ∧ W.cell? ⟨w1.heap.size, 3, none⟩ = some (.int .i64 x2.pos)) := ⟨_, rfl⟩
      have HKB5 := Lib.hid (show Keep S5 by rw [hS5]; exact keep_and (keep_and (keep_cell _ _) (keep_and (keep_cell _ _) (keep_and (keep_cell _ _) (keep_cell _ _)))) (keep_and (keep_cell _ _) (keep_and (keep_cell _ _) (keep_and (keep_cell _ _) (keep_cell _ _)))))
      have HP5 := Lib.hid (show Nk w n S5 [(x1, a1, c1), (x2, a2, c2)] W5 from (HP.out.on HKB.out hb5).more (by rw [hS5]; exact ⟨hg1, hg2⟩) (fun r hr => .inl hr))
      have HS5 := Lib.hid hS5
      obtain ⟨g10, g11, g12, g13⟩ := hg1
      obtain ⟨g20, g21, g22, g23⟩ := hg2
      clear hW5 hb5 hS5
      go_wp2_with (first
        | (go_at_call 36
           refine (nk_nothing HP5.out HKB5.out _ _ _).mono ?_
           rintro e w1 ⟨rfl, h1, HP5⟩
           rw [HS5.out] at h1
           obtain ⟨⟨g10, g11, g12, g13⟩, g20, g21, g22, g23⟩ := h1)
        | (go_at_call 15
           refine (nk_ok HP5.out HKB5.out H_ty.out _ _ _ ?_).mono ?_
           focus (simp)
           rintro e w1 ⟨rfl, h1, HP5⟩
           rw [HS5.out] at h1
           obtain ⟨⟨g10, g11, g12, g13⟩, g20, g21, g22, g23⟩ := h1)
        | (go_at_call 16
           refine (nk_ok HP5.out HKB5.out H_ex.out _ _ _ ?_).mono ?_
           focus (simp)
           rintro e w1 ⟨rfl, h1, HP5⟩
           rw [HS5.out] at h1
           obtain ⟨⟨g10, g11, g12, g13⟩, g20, g21, g22, g23⟩ := h1))
      all_goals
        go_ret
        exact ⟨ret_bool (by simp_all [varKids]), HP5.out.below⟩
  · have hn : ((l.length : Int) != 2) = true := by simp; omega
    have HV := Lib.hid (show varKids ty ex l = false from by
      match l, hlen with
      | [], _ => rfl
      | [_], _ => rfl
      | [_, _], h => simp at h
      | _ :: _ :: _ :: _, _ => rfl)
    obtain ⟨wa, hwa, hba, e0, e1, e2, e3⟩ := laid4 w (.int .i64 5) (.string ⟨s.toArray⟩) (.slice a l.length c) (.int .i64 p) 25
    obtain ⟨S, hS⟩ : ∃ S : World → Prop, S = fun W => (W.cell? ⟨w.heap.size, 0, none⟩ = some (.int .i64 5) ∧ W.cell? ⟨w.heap.size, 1, none⟩ = some (.string ⟨s.toArray⟩) ∧ W.cell? ⟨w.heap.size, 2, none⟩ = some (.slice a l.length c) ∧ W.cell? ⟨w.heap.size, 3, none⟩ = some (.int .i64 p)) := ⟨_, rfl⟩
    have HKB := Lib.hid (show Keep S by rw [hS]; exact keep_and (keep_cell _ _) (keep_and (keep_cell _ _) (keep_and (keep_cell _ _) (keep_cell _ _))))
    have HP := Lib.hid (show Nk w n S [] wa from ⟨hba, hg.on hba, by rw [hS]; exact ⟨e0, e1, e2, e3⟩, fun q hq => by cases hq⟩)
    have HS := Lib.hid hS
    clear hg hk hf ht hkid hba hS
    go_enter Tryz.func28, Tryz.ntmps28
    go_wp2_with (first
      | (go_at_call 13
         refine (nk_name HP.out HKB.out _ (by first | exact hs | omega)).mono ?_
         rintro e w1 ⟨rfl, h1, HP⟩
         rw [HS.out] at h1
         obtain ⟨e0, e1, e2, e3⟩ := h1))
    all_goals
      go_ret
      exact ⟨ret_bool (by rw [HV.out]; simp), HP.out.below⟩
end Go.Proofs.YtfcpblclfgkdjaaGreatDoor

namespace Go.Proofs.YtfcpblclfgkdjaaGreatDoor
set_option linter.unusedSimpArgs false
set_option linter.unusedVariables false
open Go.RowKit

set_option maxRecDepth 100000 in
set_option maxHeartbeats 8000000 in
theorem rdecl_func (pr : Nd → Bool) (sg : Nd → Bool) (bl : Nd → Bool) (n : Nat) (h_pr : Ok 29 pr n) (h_sg : SgOk true sg n) (h_bl : Ok 30 bl n) (s : List UInt8) (l : List Nd) (p : Int) (a : Option Addr) (c : Nat) (w : World) (ht : (Nd.mk 2 s l p).height ≤ n + 1) (hg : Glob w) (hk : Kids w w.heap.size a l) (hf : Fits (.mk 2 s l p) c) :
    Calls Tryz.prog 14 #[.agg #[.int .i64 2, .string ⟨s.toArray⟩, .slice a l.length c, .int .i64 p]] w fun e w' => e = .returned (.bool (nameL s && kids3 pr sg bl l)) ∧ Below w.heap.size w w' := by
  have hkid : ∀ x, x ∈ l → x.height ≤ n := fun x hx => by have := Nd.height_kid (t := .mk 2 s l p) hx; omega
  have hs : s.length ≤ 140737488351232 := hf.2.2.2.2.1
  have hcap : l.length ≤ c := hf.2.2.2.2.2.1
  have hl2 : l.length ≤ 9223372036854775807 := by have := hf.2.2.2.2.2.2.1; omega
  have H_pr := Lib.hid h_pr
  have H_sg := Lib.hid h_sg
  have H_bl := Lib.hid h_bl
  clear h_pr h_sg h_bl
  by_cases hlt2 : l.length < 2
  · have hn : (l.length : Int) < 2 := by omega
    have HV := Lib.hid (show (nameL s && kids3 pr sg bl l) = false by
      match l, hlt2 with
      | [], _ => simp [kids3]
      | [_], _ => simp [kids3]
      | _ :: _ :: _, h => exfalso; simp only [List.length_cons] at h; omega)
    rw [HV.out]
    obtain ⟨wa, hwa, hba, e0, e1, e2, e3⟩ := laid4 w (.int .i64 2) (.string ⟨s.toArray⟩) (.slice a l.length c) (.int .i64 p) 25
    obtain ⟨S, hS⟩ : ∃ S : World → Prop, S = fun W => (W.cell? ⟨w.heap.size, 0, none⟩ = some (.int .i64 2) ∧ W.cell? ⟨w.heap.size, 1, none⟩ = some (.string ⟨s.toArray⟩) ∧ W.cell? ⟨w.heap.size, 2, none⟩ = some (.slice a l.length c) ∧ W.cell? ⟨w.heap.size, 3, none⟩ = some (.int .i64 p)) := ⟨_, rfl⟩
    have HKB := Lib.hid (show Keep S by rw [hS]; exact keep_and (keep_cell _ _) (keep_and (keep_cell _ _) (keep_and (keep_cell _ _) (keep_cell _ _))))
    have HP := Lib.hid (show Nk w n S [] wa from ⟨hba, hg.on hba, by rw [hS]; exact ⟨e0, e1, e2, e3⟩, fun q hq => by cases hq⟩)
    have HS := Lib.hid hS
    clear hg hk hf ht hkid hba hS
    go_enter Tryz.func14, Tryz.ntmps14
    go_wp2_with (first
      | (go_at_call 13
         refine (nk_name HP.out HKB.out _ (by first | exact hs | omega)).mono ?_
         rintro e w1 ⟨rfl, h1, HP⟩
         rw [HS.out] at h1
         obtain ⟨e0, e1, e2, e3⟩ := h1))
    all_goals
      go_ret
      exact ⟨ret_bool (by rfl), HP.out.below⟩
  have hn2 : ¬ (l.length : Int) < 2 := by omega
  by_cases hlen : l.length = 3
  · obtain ⟨x1, x2, x3, rfl⟩ : ∃ x1 x2 x3, l = [x1, x2, x3] := by
      match l, hlen with
      | [x1, x2, x3], _ => exact ⟨x1, x2, x3, rfl⟩
    obtain ⟨b, off, a1, c1, a2, c2, a3, c3, rfl, ⟨q1, f1, k1⟩, ⟨q2, f2, k2⟩, ⟨q3, f3, k3⟩⟩ := hk.n3
    have h1 := hkid x1 (by simp)
    have h2 := hkid x2 (by simp)
    have h3 := hkid x3 (by simp)
    obtain ⟨wa, hwa, hba, e0, e1, e2, e3⟩ := laid4 w (.int .i64 2) (.string ⟨s.toArray⟩) (.slice (some ⟨b, off, none⟩) 3 c) (.int .i64 p) 25
    have q1 := Four.on q1 hba
    have q2 := Four.on q2 hba
    have q3 := Four.on q3 hba
    obtain ⟨S, hS⟩ : ∃ S : World → Prop, S = fun W => (W.cell? ⟨w.heap.size, 0, none⟩ = some (.int .i64 2) ∧ W.cell? ⟨w.heap.size, 1, none⟩ = some (.string ⟨s.toArray⟩) ∧ W.cell? ⟨w.heap.size, 2, none⟩ = some (.slice (some ⟨b, off, none⟩) 3 c) ∧ W.cell? ⟨w.heap.size, 3, none⟩ = some (.int .i64 p)) ∧ Four W b off x1 a1 c1 ∧ Four W b (off + 4) x2 a2 c2 ∧ Four W b (off + 8) x3 a3 c3 := ⟨_, rfl⟩
    have HKB := Lib.hid (show Keep S by rw [hS]; exact keep_and (keep_and (keep_cell _ _) (keep_and (keep_cell _ _) (keep_and (keep_cell _ _) (keep_cell _ _)))) (keep_and (keep_four _ _ _ _ _) (keep_and (keep_four _ _ _ _ _) (keep_four _ _ _ _ _))))
    have HP := Lib.hid (show Nk w n S [(x1, a1, c1), (x2, a2, c2), (x3, a3, c3)] wa from ⟨hba, hg.on hba, by rw [hS]; exact ⟨⟨e0, e1, e2, e3⟩, q1, q2, q3⟩, fun q hq => by
      simp only [List.mem_cons, List.not_mem_nil, or_false] at hq
      rcases hq with rfl | rfl | rfl
      · exact ⟨h1, k1.on hba, f1⟩
      · exact ⟨h2, k2.on hba, f2⟩
      · exact ⟨h3, k3.on hba, f3⟩⟩)
    obtain ⟨q10, q11, q12, q13⟩ := q1
    obtain ⟨q20, q21, q22, q23⟩ := q2
    obtain ⟨q30, q31, q32, q33⟩ := q3
    have HS := Lib.hid hS
    clear hg hk hf ht hkid hba hS hlt2 hn2 f1 k1 h1 f2 k2 h2 f3 k3 h3
    go_enter Tryz.func14, Tryz.ntmps14
    go_wp2_with (first
      | (go_at_call 13
         refine (nk_name HP.out HKB.out _ (by first | exact hs | omega)).mono ?_
         rintro e w1 ⟨rfl, h1, HP⟩
         rw [HS.out] at h1
         obtain ⟨⟨e0, e1, e2, e3⟩, ⟨q10, q11, q12, q13⟩, ⟨q20, q21, q22, q23⟩, ⟨q30, q31, q32, q33⟩⟩ := h1)
      | (go_at_call 29
         refine (nk_ok HP.out HKB.out H_pr.out _ _ _ ?_).mono ?_
         focus (simp)
         rintro e w1 ⟨rfl, h1, HP⟩
         rw [HS.out] at h1
         obtain ⟨⟨e0, e1, e2, e3⟩, ⟨q10, q11, q12, q13⟩, ⟨q20, q21, q22, q23⟩, ⟨q30, q31, q32, q33⟩⟩ := h1)
      | (go_at_call 18
         refine (nk_sg HP.out HKB.out H_sg.out _ _ _ ?_).mono ?_
         focus (simp)
         rintro e w1 ⟨rfl, h1, HP⟩
         rw [HS.out] at h1
         obtain ⟨⟨e0, e1, e2, e3⟩, ⟨q10, q11, q12, q13⟩, ⟨q20, q21, q22, q23⟩, ⟨q30, q31, q32, q33⟩⟩ := h1)
      | (go_at_call 30
         refine (nk_ok HP.out HKB.out H_bl.out _ _ _ ?_).mono ?_
         focus (simp)
         rintro e w1 ⟨rfl, h1, HP⟩
         rw [HS.out] at h1
         obtain ⟨⟨e0, e1, e2, e3⟩, ⟨q10, q11, q12, q13⟩, ⟨q20, q21, q22, q23⟩, ⟨q30, q31, q32, q33⟩⟩ := h1))
    all_goals
      go_ret
      exact ⟨ret_bool (by first | (simp_all [kids3]; done) | (simp_all [kids3]; omega)), HP.out.below⟩
  obtain ⟨x1, r, hxr⟩ : ∃ x1 r, l = x1 :: r := by
    cases l with
    | nil => simp at hlt2
    | cons x1 r => exact ⟨x1, r, rfl⟩
  have hl3 : ((l.length : Int) == 3) = false := by simp; omega
  have HV := Lib.hid (show (nameL s && kids3 pr sg bl l) = false by
    match l, hlen with
    | [], _ => simp [kids3]
    | [_], _ => simp [kids3]
    | [_, _], _ => simp [kids3]
    | [_, _, _], h => simp at h
    | _ :: _ :: _ :: _ :: _, _ => simp [kids3])
  rw [HV.out]
  obtain ⟨L, hL⟩ : ∃ L, l.length = L := ⟨_, rfl⟩
  rw [hL] at hn2 hl3 ⊢
  subst hxr
  clear hL hlt2 hl2 hcap hlen
  obtain ⟨b, off, a1, c1, rfl, ⟨q1, f1, k1⟩⟩ := hk.ncons
  have h1 := hkid x1 (by simp)
  obtain ⟨wa, hwa, hba, e0, e1, e2, e3⟩ := laid4 w (.int .i64 2) (.string ⟨s.toArray⟩) (.slice (some ⟨b, off, none⟩) L c) (.int .i64 p) 25
  have q1 := Four.on q1 hba
  obtain ⟨S, hS⟩ : ∃ S : World → Prop, S = fun W => (W.cell? ⟨w.heap.size, 0, none⟩ = some (.int .i64 2) ∧ W.cell? ⟨w.heap.size, 1, none⟩ = some (.string ⟨s.toArray⟩) ∧ W.cell? ⟨w.heap.size, 2, none⟩ = some (.slice (some ⟨b, off, none⟩) L c) ∧ W.cell? ⟨w.heap.size, 3, none⟩ = some (.int .i64 p)) ∧ Four W b off x1 a1 c1 := ⟨_, rfl⟩
  have HKB := Lib.hid (show Keep S by rw [hS]; exact keep_and (keep_and (keep_cell _ _) (keep_and (keep_cell _ _) (keep_and (keep_cell _ _) (keep_cell _ _)))) (keep_four _ _ _ _ _))
  have HP := Lib.hid (show Nk w n S [(x1, a1, c1)] wa from ⟨hba, hg.on hba, by rw [hS]; exact ⟨⟨e0, e1, e2, e3⟩, q1⟩, fun q hq => by
    simp only [List.mem_cons, List.not_mem_nil, or_false] at hq
    rcases hq with rfl
    · exact ⟨h1, k1.on hba, f1⟩⟩)
  obtain ⟨q10, q11, q12, q13⟩ := q1
  have HS := Lib.hid hS
  clear hg hk hf ht hkid hba hS f1 k1 h1
  go_enter Tryz.func14, Tryz.ntmps14
  go_wp2_with (first
    | (go_at_call 13
       refine (nk_name HP.out HKB.out _ (by first | exact hs | omega)).mono ?_
       rintro e w1 ⟨rfl, h1, HP⟩
       rw [HS.out] at h1
       obtain ⟨⟨e0, e1, e2, e3⟩, ⟨q10, q11, q12, q13⟩⟩ := h1)
    | (go_at_call 29
       refine (nk_ok HP.out HKB.out H_pr.out _ _ _ ?_).mono ?_
       focus (simp)
       rintro e w1 ⟨rfl, h1, HP⟩
       rw [HS.out] at h1
       obtain ⟨⟨e0, e1, e2, e3⟩, ⟨q10, q11, q12, q13⟩⟩ := h1))
  all_goals
    go_ret
    exact ⟨ret_bool (by rfl), HP.out.below⟩

set_option maxRecDepth 100000 in
set_option maxHeartbeats 8000000 in
theorem rdecl_type (pr : Nd → Bool) (ty : Nd → Bool) (ss : Nd → Bool) (it : Nd → Bool) (n : Nat) (h_pr : Ok 29 pr n) (h_ty : Ok 15 ty n) (h_ss : Ok 31 ss n) (h_it : Ok 32 it n) (s : List UInt8) (l : List Nd) (p : Int) (a : Option Addr) (c : Nat) (w : World) (ht : (Nd.mk 3 s l p).height ≤ n + 1) (hg : Glob w) (hk : Kids w w.heap.size a l) (hf : Fits (.mk 3 s l p) c) :
    Calls Tryz.prog 14 #[.agg #[.int .i64 3, .string ⟨s.toArray⟩, .slice a l.length c, .int .i64 p]] w fun e w' => e = .returned (.bool (nameL s && kids2 pr (fun k => (ty k || ss k) || it k) l)) ∧ Below w.heap.size w w' := by
  have hkid : ∀ x, x ∈ l → x.height ≤ n := fun x hx => by have := Nd.height_kid (t := .mk 3 s l p) hx; omega
  have hs : s.length ≤ 140737488351232 := hf.2.2.2.2.1
  have hcap : l.length ≤ c := hf.2.2.2.2.2.1
  have hl2 : l.length ≤ 9223372036854775807 := by have := hf.2.2.2.2.2.2.1; omega
  have H_pr := Lib.hid h_pr
  have H_ty := Lib.hid h_ty
  have H_ss := Lib.hid h_ss
  have H_it := Lib.hid h_it
  clear h_pr h_ty h_ss h_it
  by_cases hlt2 : l.length < 2
  · have hn : (l.length : Int) < 2 := by omega
    have HV := Lib.hid (show (nameL s && kids2 pr (fun k => (ty k || ss k) || it k) l) = false by
      match l, hlt2 with
      | [], _ => simp [kids2]
      | [_], _ => simp [kids2]
      | _ :: _ :: _, h => exfalso; simp only [List.length_cons] at h; omega)
    rw [HV.out]
    obtain ⟨wa, hwa, hba, e0, e1, e2, e3⟩ := laid4 w (.int .i64 3) (.string ⟨s.toArray⟩) (.slice a l.length c) (.int .i64 p) 25
    obtain ⟨S, hS⟩ : ∃ S : World → Prop, S = fun W => (W.cell? ⟨w.heap.size, 0, none⟩ = some (.int .i64 3) ∧ W.cell? ⟨w.heap.size, 1, none⟩ = some (.string ⟨s.toArray⟩) ∧ W.cell? ⟨w.heap.size, 2, none⟩ = some (.slice a l.length c) ∧ W.cell? ⟨w.heap.size, 3, none⟩ = some (.int .i64 p)) := ⟨_, rfl⟩
    have HKB := Lib.hid (show Keep S by rw [hS]; exact keep_and (keep_cell _ _) (keep_and (keep_cell _ _) (keep_and (keep_cell _ _) (keep_cell _ _))))
    have HP := Lib.hid (show Nk w n S [] wa from ⟨hba, hg.on hba, by rw [hS]; exact ⟨e0, e1, e2, e3⟩, fun q hq => by cases hq⟩)
    have HS := Lib.hid hS
    clear hg hk hf ht hkid hba hS
    go_enter Tryz.func14, Tryz.ntmps14
    go_wp2_with (first
      | (go_at_call 13
         refine (nk_name HP.out HKB.out _ (by first | exact hs | omega)).mono ?_
         rintro e w1 ⟨rfl, h1, HP⟩
         rw [HS.out] at h1
         obtain ⟨e0, e1, e2, e3⟩ := h1))
    all_goals
      go_ret
      exact ⟨ret_bool (by rfl), HP.out.below⟩
  have hn2 : ¬ (l.length : Int) < 2 := by omega
  by_cases hlen : l.length = 2
  · obtain ⟨x1, x2, rfl⟩ : ∃ x1 x2, l = [x1, x2] := by
      match l, hlen with
      | [x1, x2], _ => exact ⟨x1, x2, rfl⟩
    obtain ⟨b, off, a1, c1, a2, c2, rfl, ⟨q1, f1, k1⟩, ⟨q2, f2, k2⟩⟩ := hk.n2
    have h1 := hkid x1 (by simp)
    have h2 := hkid x2 (by simp)
    obtain ⟨wa, hwa, hba, e0, e1, e2, e3⟩ := laid4 w (.int .i64 3) (.string ⟨s.toArray⟩) (.slice (some ⟨b, off, none⟩) 2 c) (.int .i64 p) 25
    have q1 := Four.on q1 hba
    have q2 := Four.on q2 hba
    obtain ⟨S, hS⟩ : ∃ S : World → Prop, S = fun W => (W.cell? ⟨w.heap.size, 0, none⟩ = some (.int .i64 3) ∧ W.cell? ⟨w.heap.size, 1, none⟩ = some (.string ⟨s.toArray⟩) ∧ W.cell? ⟨w.heap.size, 2, none⟩ = some (.slice (some ⟨b, off, none⟩) 2 c) ∧ W.cell? ⟨w.heap.size, 3, none⟩ = some (.int .i64 p)) ∧ Four W b off x1 a1 c1 ∧ Four W b (off + 4) x2 a2 c2 := ⟨_, rfl⟩
    have HKB := Lib.hid (show Keep S by rw [hS]; exact keep_and (keep_and (keep_cell _ _) (keep_and (keep_cell _ _) (keep_and (keep_cell _ _) (keep_cell _ _)))) (keep_and (keep_four _ _ _ _ _) (keep_four _ _ _ _ _)))
    have HP := Lib.hid (show Nk w n S [(x1, a1, c1), (x2, a2, c2)] wa from ⟨hba, hg.on hba, by rw [hS]; exact ⟨⟨e0, e1, e2, e3⟩, q1, q2⟩, fun q hq => by
      simp only [List.mem_cons, List.not_mem_nil, or_false] at hq
      rcases hq with rfl | rfl
      · exact ⟨h1, k1.on hba, f1⟩
      · exact ⟨h2, k2.on hba, f2⟩⟩)
    obtain ⟨q10, q11, q12, q13⟩ := q1
    obtain ⟨q20, q21, q22, q23⟩ := q2
    have HS := Lib.hid hS
    clear hg hk hf ht hkid hba hS hlt2 hn2 f1 k1 h1 f2 k2 h2
    go_enter Tryz.func14, Tryz.ntmps14
    go_wp2_with (first
      | (go_at_call 13
         refine (nk_name HP.out HKB.out _ (by first | exact hs | omega)).mono ?_
         rintro e w1 ⟨rfl, h1, HP⟩
         rw [HS.out] at h1
         obtain ⟨⟨e0, e1, e2, e3⟩, ⟨q10, q11, q12, q13⟩, ⟨q20, q21, q22, q23⟩⟩ := h1)
      | (go_at_call 29
         refine (nk_ok HP.out HKB.out H_pr.out _ _ _ ?_).mono ?_
         focus (simp)
         rintro e w1 ⟨rfl, h1, HP⟩
         rw [HS.out] at h1
         obtain ⟨⟨e0, e1, e2, e3⟩, ⟨q10, q11, q12, q13⟩, ⟨q20, q21, q22, q23⟩⟩ := h1)
      | (go_at_call 15
         refine (nk_ok HP.out HKB.out H_ty.out _ _ _ ?_).mono ?_
         focus (simp)
         rintro e w1 ⟨rfl, h1, HP⟩
         rw [HS.out] at h1
         obtain ⟨⟨e0, e1, e2, e3⟩, ⟨q10, q11, q12, q13⟩, ⟨q20, q21, q22, q23⟩⟩ := h1)
      | (go_at_call 31
         refine (nk_ok HP.out HKB.out H_ss.out _ _ _ ?_).mono ?_
         focus (simp)
         rintro e w1 ⟨rfl, h1, HP⟩
         rw [HS.out] at h1
         obtain ⟨⟨e0, e1, e2, e3⟩, ⟨q10, q11, q12, q13⟩, ⟨q20, q21, q22, q23⟩⟩ := h1)
      | (go_at_call 32
         refine (nk_ok HP.out HKB.out H_it.out _ _ _ ?_).mono ?_
         focus (simp)
         rintro e w1 ⟨rfl, h1, HP⟩
         rw [HS.out] at h1
         obtain ⟨⟨e0, e1, e2, e3⟩, ⟨q10, q11, q12, q13⟩, ⟨q20, q21, q22, q23⟩⟩ := h1))
    all_goals
      go_ret
      exact ⟨ret_bool (by first | (simp_all [kids2]; done) | (simp_all [kids2]; omega)), HP.out.below⟩
  obtain ⟨x1, r, hxr⟩ : ∃ x1 r, l = x1 :: r := by
    cases l with
    | nil => simp at hlt2
    | cons x1 r => exact ⟨x1, r, rfl⟩
  have hl3 : ((l.length : Int) == 2) = false := by simp; omega
  have HV := Lib.hid (show (nameL s && kids2 pr (fun k => (ty k || ss k) || it k) l) = false by
    match l, hlen with
    | [], _ => simp [kids2]
    | [_], _ => simp [kids2]
    | [_, _], h => simp at h
    | _ :: _ :: _ :: _, _ => simp [kids2])
  rw [HV.out]
  obtain ⟨L, hL⟩ : ∃ L, l.length = L := ⟨_, rfl⟩
  rw [hL] at hn2 hl3 ⊢
  subst hxr
  clear hL hlt2 hl2 hcap hlen
  obtain ⟨b, off, a1, c1, rfl, ⟨q1, f1, k1⟩⟩ := hk.ncons
  have h1 := hkid x1 (by simp)
  obtain ⟨wa, hwa, hba, e0, e1, e2, e3⟩ := laid4 w (.int .i64 3) (.string ⟨s.toArray⟩) (.slice (some ⟨b, off, none⟩) L c) (.int .i64 p) 25
  have q1 := Four.on q1 hba
  obtain ⟨S, hS⟩ : ∃ S : World → Prop, S = fun W => (W.cell? ⟨w.heap.size, 0, none⟩ = some (.int .i64 3) ∧ W.cell? ⟨w.heap.size, 1, none⟩ = some (.string ⟨s.toArray⟩) ∧ W.cell? ⟨w.heap.size, 2, none⟩ = some (.slice (some ⟨b, off, none⟩) L c) ∧ W.cell? ⟨w.heap.size, 3, none⟩ = some (.int .i64 p)) ∧ Four W b off x1 a1 c1 := ⟨_, rfl⟩
  have HKB := Lib.hid (show Keep S by rw [hS]; exact keep_and (keep_and (keep_cell _ _) (keep_and (keep_cell _ _) (keep_and (keep_cell _ _) (keep_cell _ _)))) (keep_four _ _ _ _ _))
  have HP := Lib.hid (show Nk w n S [(x1, a1, c1)] wa from ⟨hba, hg.on hba, by rw [hS]; exact ⟨⟨e0, e1, e2, e3⟩, q1⟩, fun q hq => by
    simp only [List.mem_cons, List.not_mem_nil, or_false] at hq
    rcases hq with rfl
    · exact ⟨h1, k1.on hba, f1⟩⟩)
  obtain ⟨q10, q11, q12, q13⟩ := q1
  have HS := Lib.hid hS
  clear hg hk hf ht hkid hba hS f1 k1 h1
  go_enter Tryz.func14, Tryz.ntmps14
  go_wp2_with (first
    | (go_at_call 13
       refine (nk_name HP.out HKB.out _ (by first | exact hs | omega)).mono ?_
       rintro e w1 ⟨rfl, h1, HP⟩
       rw [HS.out] at h1
       obtain ⟨⟨e0, e1, e2, e3⟩, ⟨q10, q11, q12, q13⟩⟩ := h1)
    | (go_at_call 29
       refine (nk_ok HP.out HKB.out H_pr.out _ _ _ ?_).mono ?_
       focus (simp)
       rintro e w1 ⟨rfl, h1, HP⟩
       rw [HS.out] at h1
       obtain ⟨⟨e0, e1, e2, e3⟩, ⟨q10, q11, q12, q13⟩⟩ := h1))
  all_goals
    go_ret
    exact ⟨ret_bool (by rfl), HP.out.below⟩

set_option maxRecDepth 100000 in
set_option maxHeartbeats 8000000 in
theorem rdecl_alias (pr : Nd → Bool) (ty : Nd → Bool) (n : Nat) (h_pr : Ok 29 pr n) (h_ty : Ok 15 ty n) (s : List UInt8) (l : List Nd) (p : Int) (a : Option Addr) (c : Nat) (w : World) (ht : (Nd.mk 4 s l p).height ≤ n + 1) (hg : Glob w) (hk : Kids w w.heap.size a l) (hf : Fits (.mk 4 s l p) c) :
    Calls Tryz.prog 14 #[.agg #[.int .i64 4, .string ⟨s.toArray⟩, .slice a l.length c, .int .i64 p]] w fun e w' => e = .returned (.bool (nameL s && kids2 pr ty l)) ∧ Below w.heap.size w w' := by
  have hkid : ∀ x, x ∈ l → x.height ≤ n := fun x hx => by have := Nd.height_kid (t := .mk 4 s l p) hx; omega
  have hs : s.length ≤ 140737488351232 := hf.2.2.2.2.1
  have hcap : l.length ≤ c := hf.2.2.2.2.2.1
  have hl2 : l.length ≤ 9223372036854775807 := by have := hf.2.2.2.2.2.2.1; omega
  have H_pr := Lib.hid h_pr
  have H_ty := Lib.hid h_ty
  clear h_pr h_ty
  by_cases hlt2 : l.length < 2
  · have hn : (l.length : Int) < 2 := by omega
    have HV := Lib.hid (show (nameL s && kids2 pr ty l) = false by
      match l, hlt2 with
      | [], _ => simp [kids2]
      | [_], _ => simp [kids2]
      | _ :: _ :: _, h => exfalso; simp only [List.length_cons] at h; omega)
    rw [HV.out]
    obtain ⟨wa, hwa, hba, e0, e1, e2, e3⟩ := laid4 w (.int .i64 4) (.string ⟨s.toArray⟩) (.slice a l.length c) (.int .i64 p) 25
    obtain ⟨S, hS⟩ : ∃ S : World → Prop, S = fun W => (W.cell? ⟨w.heap.size, 0, none⟩ = some (.int .i64 4) ∧ W.cell? ⟨w.heap.size, 1, none⟩ = some (.string ⟨s.toArray⟩) ∧ W.cell? ⟨w.heap.size, 2, none⟩ = some (.slice a l.length c) ∧ W.cell? ⟨w.heap.size, 3, none⟩ = some (.int .i64 p)) := ⟨_, rfl⟩
    have HKB := Lib.hid (show Keep S by rw [hS]; exact keep_and (keep_cell _ _) (keep_and (keep_cell _ _) (keep_and (keep_cell _ _) (keep_cell _ _))))
    have HP := Lib.hid (show Nk w n S [] wa from ⟨hba, hg.on hba, by rw [hS]; exact ⟨e0, e1, e2, e3⟩, fun q hq => by cases hq⟩)
    have HS := Lib.hid hS
    clear hg hk hf ht hkid hba hS
    go_enter Tryz.func14, Tryz.ntmps14
    go_wp2_with (first
      | (go_at_call 13
         refine (nk_name HP.out HKB.out _ (by first | exact hs | omega)).mono ?_
         rintro e w1 ⟨rfl, h1, HP⟩
         rw [HS.out] at h1
         obtain ⟨e0, e1, e2, e3⟩ := h1))
    all_goals
      go_ret
      exact ⟨ret_bool (by rfl), HP.out.below⟩
  have hn2 : ¬ (l.length : Int) < 2 := by omega
  by_cases hlen : l.length = 2
  · obtain ⟨x1, x2, rfl⟩ : ∃ x1 x2, l = [x1, x2] := by
      match l, hlen with
      | [x1, x2], _ => exact ⟨x1, x2, rfl⟩
    obtain ⟨b, off, a1, c1, a2, c2, rfl, ⟨q1, f1, k1⟩, ⟨q2, f2, k2⟩⟩ := hk.n2
    have h1 := hkid x1 (by simp)
    have h2 := hkid x2 (by simp)
    obtain ⟨wa, hwa, hba, e0, e1, e2, e3⟩ := laid4 w (.int .i64 4) (.string ⟨s.toArray⟩) (.slice (some ⟨b, off, none⟩) 2 c) (.int .i64 p) 25
    have q1 := Four.on q1 hba
    have q2 := Four.on q2 hba
    obtain ⟨S, hS⟩ : ∃ S : World → Prop, S = fun W => (W.cell? ⟨w.heap.size, 0, none⟩ = some (.int .i64 4) ∧ W.cell? ⟨w.heap.size, 1, none⟩ = some (.string ⟨s.toArray⟩) ∧ W.cell? ⟨w.heap.size, 2, none⟩ = some (.slice (some ⟨b, off, none⟩) 2 c) ∧ W.cell? ⟨w.heap.size, 3, none⟩ = some (.int .i64 p)) ∧ Four W b off x1 a1 c1 ∧ Four W b (off + 4) x2 a2 c2 := ⟨_, rfl⟩
    have HKB := Lib.hid (show Keep S by rw [hS]; exact keep_and (keep_and (keep_cell _ _) (keep_and (keep_cell _ _) (keep_and (keep_cell _ _) (keep_cell _ _)))) (keep_and (keep_four _ _ _ _ _) (keep_four _ _ _ _ _)))
    have HP := Lib.hid (show Nk w n S [(x1, a1, c1), (x2, a2, c2)] wa from ⟨hba, hg.on hba, by rw [hS]; exact ⟨⟨e0, e1, e2, e3⟩, q1, q2⟩, fun q hq => by
      simp only [List.mem_cons, List.not_mem_nil, or_false] at hq
      rcases hq with rfl | rfl
      · exact ⟨h1, k1.on hba, f1⟩
      · exact ⟨h2, k2.on hba, f2⟩⟩)
    obtain ⟨q10, q11, q12, q13⟩ := q1
    obtain ⟨q20, q21, q22, q23⟩ := q2
    have HS := Lib.hid hS
    clear hg hk hf ht hkid hba hS hlt2 hn2 f1 k1 h1 f2 k2 h2
    go_enter Tryz.func14, Tryz.ntmps14
    go_wp2_with (first
      | (go_at_call 13
         refine (nk_name HP.out HKB.out _ (by first | exact hs | omega)).mono ?_
         rintro e w1 ⟨rfl, h1, HP⟩
         rw [HS.out] at h1
         obtain ⟨⟨e0, e1, e2, e3⟩, ⟨q10, q11, q12, q13⟩, ⟨q20, q21, q22, q23⟩⟩ := h1)
      | (go_at_call 29
         refine (nk_ok HP.out HKB.out H_pr.out _ _ _ ?_).mono ?_
         focus (simp)
         rintro e w1 ⟨rfl, h1, HP⟩
         rw [HS.out] at h1
         obtain ⟨⟨e0, e1, e2, e3⟩, ⟨q10, q11, q12, q13⟩, ⟨q20, q21, q22, q23⟩⟩ := h1)
      | (go_at_call 15
         refine (nk_ok HP.out HKB.out H_ty.out _ _ _ ?_).mono ?_
         focus (simp)
         rintro e w1 ⟨rfl, h1, HP⟩
         rw [HS.out] at h1
         obtain ⟨⟨e0, e1, e2, e3⟩, ⟨q10, q11, q12, q13⟩, ⟨q20, q21, q22, q23⟩⟩ := h1))
    all_goals
      go_ret
      exact ⟨ret_bool (by first | (simp_all [kids2]; done) | (simp_all [kids2]; omega)), HP.out.below⟩
  obtain ⟨x1, r, hxr⟩ : ∃ x1 r, l = x1 :: r := by
    cases l with
    | nil => simp at hlt2
    | cons x1 r => exact ⟨x1, r, rfl⟩
  have hl3 : ((l.length : Int) == 2) = false := by simp; omega
  have HV := Lib.hid (show (nameL s && kids2 pr ty l) = false by
    match l, hlen with
    | [], _ => simp [kids2]
    | [_], _ => simp [kids2]
    | [_, _], h => simp at h
    | _ :: _ :: _ :: _, _ => simp [kids2])
  rw [HV.out]
  obtain ⟨L, hL⟩ : ∃ L, l.length = L := ⟨_, rfl⟩
  rw [hL] at hn2 hl3 ⊢
  subst hxr
  clear hL hlt2 hl2 hcap hlen
  obtain ⟨b, off, a1, c1, rfl, ⟨q1, f1, k1⟩⟩ := hk.ncons
  have h1 := hkid x1 (by simp)
  obtain ⟨wa, hwa, hba, e0, e1, e2, e3⟩ := laid4 w (.int .i64 4) (.string ⟨s.toArray⟩) (.slice (some ⟨b, off, none⟩) L c) (.int .i64 p) 25
  have q1 := Four.on q1 hba
  obtain ⟨S, hS⟩ : ∃ S : World → Prop, S = fun W => (W.cell? ⟨w.heap.size, 0, none⟩ = some (.int .i64 4) ∧ W.cell? ⟨w.heap.size, 1, none⟩ = some (.string ⟨s.toArray⟩) ∧ W.cell? ⟨w.heap.size, 2, none⟩ = some (.slice (some ⟨b, off, none⟩) L c) ∧ W.cell? ⟨w.heap.size, 3, none⟩ = some (.int .i64 p)) ∧ Four W b off x1 a1 c1 := ⟨_, rfl⟩
  have HKB := Lib.hid (show Keep S by rw [hS]; exact keep_and (keep_and (keep_cell _ _) (keep_and (keep_cell _ _) (keep_and (keep_cell _ _) (keep_cell _ _)))) (keep_four _ _ _ _ _))
  have HP := Lib.hid (show Nk w n S [(x1, a1, c1)] wa from ⟨hba, hg.on hba, by rw [hS]; exact ⟨⟨e0, e1, e2, e3⟩, q1⟩, fun q hq => by
    simp only [List.mem_cons, List.not_mem_nil, or_false] at hq
    rcases hq with rfl
    · exact ⟨h1, k1.on hba, f1⟩⟩)
  obtain ⟨q10, q11, q12, q13⟩ := q1
  have HS := Lib.hid hS
  clear hg hk hf ht hkid hba hS f1 k1 h1
  go_enter Tryz.func14, Tryz.ntmps14
  go_wp2_with (first
    | (go_at_call 13
       refine (nk_name HP.out HKB.out _ (by first | exact hs | omega)).mono ?_
       rintro e w1 ⟨rfl, h1, HP⟩
       rw [HS.out] at h1
       obtain ⟨⟨e0, e1, e2, e3⟩, ⟨q10, q11, q12, q13⟩⟩ := h1)
    | (go_at_call 29
       refine (nk_ok HP.out HKB.out H_pr.out _ _ _ ?_).mono ?_
       focus (simp)
       rintro e w1 ⟨rfl, h1, HP⟩
       rw [HS.out] at h1
       obtain ⟨⟨e0, e1, e2, e3⟩, ⟨q10, q11, q12, q13⟩⟩ := h1))
  all_goals
    go_ret
    exact ⟨ret_bool (by rfl), HP.out.below⟩

set_option maxRecDepth 100000 in
set_option maxHeartbeats 8000000 in
theorem rdecl_var (ty : Nd → Bool) (ex : Nd → Bool) (n : Nat) (h_ty : Ok 15 ty n) (h_ex : Ok 16 ex n) (s : List UInt8) (l : List Nd) (p : Int) (a : Option Addr) (c : Nat) (w : World) (ht : (Nd.mk 5 s l p).height ≤ n + 1) (hg : Glob w) (hk : Kids w w.heap.size a l) (hf : Fits (.mk 5 s l p) c) :
    Calls Tryz.prog 14 #[.agg #[.int .i64 5, .string ⟨s.toArray⟩, .slice a l.length c, .int .i64 p]] w fun e w' => e = .returned (.bool (nameL s && varKids ty ex l)) ∧ Below w.heap.size w w' := by
  have hkid : ∀ x, x ∈ l → x.height ≤ n := fun x hx => by have := Nd.height_kid (t := .mk 5 s l p) hx; omega
  have hs : s.length ≤ 140737488351232 := hf.2.2.2.2.1
  have hcap : l.length ≤ c := hf.2.2.2.2.2.1
  have hl2 : l.length ≤ 9223372036854775807 := by have := hf.2.2.2.2.2.2.1; omega
  obtain ⟨wa, hwa, hba, e0, e1, e2, e3⟩ := laid4 w (.int .i64 5) (.string ⟨s.toArray⟩) (.slice a l.length c) (.int .i64 p) 25
  obtain ⟨S, hS⟩ : ∃ S : World → Prop, S = fun W => (W.cell? ⟨w.heap.size, 0, none⟩ = some (.int .i64 5) ∧ W.cell? ⟨w.heap.size, 1, none⟩ = some (.string ⟨s.toArray⟩) ∧ W.cell? ⟨w.heap.size, 2, none⟩ = some (.slice a l.length c) ∧ W.cell? ⟨w.heap.size, 3, none⟩ = some (.int .i64 p)) := ⟨_, rfl⟩
  have HKB := Lib.hid (show Keep S by rw [hS]; exact keep_and (keep_cell _ _) (keep_and (keep_cell _ _) (keep_and (keep_cell _ _) (keep_cell _ _))))
  have HP := Lib.hid (show Nk w n S [] wa from ⟨hba, hg.on hba, by rw [hS]; exact ⟨e0, e1, e2, e3⟩, fun q hq => by cases hq⟩)
  have HS := Lib.hid hS
  have hx := nk_post HP.out HKB.out (rvar_five ty ex n h_ty h_ex s l p a c wa ht HP.out.glob (hk.on hba) hf)
  obtain ⟨R, hR⟩ : ∃ R, (nameL s && varKids ty ex l) = R := ⟨_, rfl⟩
  rw [hR] at hx
  rw [hR]
  have HX := Lib.hid hx
  clear hx hR h_ty h_ex hg hk hf ht hkid hba hS
  go_enter Tryz.func14, Tryz.ntmps14
  go_wp2_with fail
  refine HX.out.mono ?_
  rintro e w1 ⟨rfl, h1, HP⟩
  go_wp2_with fail
  go_ret
  exact ⟨rfl, HP.out.below⟩

set_option maxRecDepth 100000 in
set_option maxHeartbeats 8000000 in
theorem rdecl_none (pr : Nd → Bool) (n : Nat) (k : Int) (hkn : k ≠ 2 ∧ k ≠ 3 ∧ k ≠ 4 ∧ k ≠ 5) (h_pr : Ok 29 pr n) (s : List UInt8) (l : List Nd) (p : Int) (a : Option Addr) (c : Nat) (w : World) (ht : (Nd.mk k s l p).height ≤ n + 1) (hg : Glob w) (hk : Kids w w.heap.size a l) (hf : Fits (.mk k s l p) c) :
    Calls Tryz.prog 14 #[.agg #[.int .i64 k, .string ⟨s.toArray⟩, .slice a l.length c, .int .i64 p]] w fun e w' => e = .returned (.bool (false)) ∧ Below w.heap.size w w' := by
  have hkid : ∀ x, x ∈ l → x.height ≤ n := fun x hx => by have := Nd.height_kid (t := .mk k s l p) hx; omega
  have hs : s.length ≤ 140737488351232 := hf.2.2.2.2.1
  have hcap : l.length ≤ c := hf.2.2.2.2.2.1
  have hl2 : l.length ≤ 9223372036854775807 := by have := hf.2.2.2.2.2.2.1; omega
  have m2 : (k == 2) = false := by simpa using hkn.1
  have m3 : (k == 3) = false := by simpa using hkn.2.1
  have m4 : (k == 4) = false := by simpa using hkn.2.2.1
  have m5 : (k == 5) = false := by simpa using hkn.2.2.2
  clear hkn
  have H_pr := Lib.hid h_pr
  clear h_pr
  by_cases hlt2 : l.length < 2
  · have hn : (l.length : Int) < 2 := by omega
    obtain ⟨wa, hwa, hba, e0, e1, e2, e3⟩ := laid4 w (.int .i64 k) (.string ⟨s.toArray⟩) (.slice a l.length c) (.int .i64 p) 25
    obtain ⟨S, hS⟩ : ∃ S : World → Prop, S = fun W => (W.cell? ⟨w.heap.size, 0, none⟩ = some (.int .i64 k) ∧ W.cell? ⟨w.heap.size, 1, none⟩ = some (.string ⟨s.toArray⟩) ∧ W.cell? ⟨w.heap.size, 2, none⟩ = some (.slice a l.length c) ∧ W.cell? ⟨w.heap.size, 3, none⟩ = some (.int .i64 p)) := ⟨_, rfl⟩
    have HKB := Lib.hid (show Keep S by rw [hS]; exact keep_and (keep_cell _ _) (keep_and (keep_cell _ _) (keep_and (keep_cell _ _) (keep_cell _ _))))
    have HP := Lib.hid (show Nk w n S [] wa from ⟨hba, hg.on hba, by rw [hS]; exact ⟨e0, e1, e2, e3⟩, fun q hq => by cases hq⟩)
    have HS := Lib.hid hS
    clear hg hk hf ht hkid hba hS
    go_enter Tryz.func14, Tryz.ntmps14
    go_wp2_with (first
      | (go_at_call 13
         refine (nk_name HP.out HKB.out _ (by first | exact hs | omega)).mono ?_
         rintro e w1 ⟨rfl, h1, HP⟩
         rw [HS.out] at h1
         obtain ⟨e0, e1, e2, e3⟩ := h1))
    all_goals
      go_ret
      exact ⟨ret_bool (by rfl), HP.out.below⟩
  have hn2 : ¬ (l.length : Int) < 2 := by omega
  obtain ⟨x1, r, hxr⟩ : ∃ x1 r, l = x1 :: r := by
    cases l with
    | nil => simp at hlt2
    | cons x1 r => exact ⟨x1, r, rfl⟩
  obtain ⟨L, hL⟩ : ∃ L, l.length = L := ⟨_, rfl⟩
  rw [hL] at hn2 ⊢
  subst hxr
  clear hL hlt2 hl2 hcap
  obtain ⟨b, off, a1, c1, rfl, ⟨q1, f1, k1⟩⟩ := hk.ncons
  have h1 := hkid x1 (by simp)
  obtain ⟨wa, hwa, hba, e0, e1, e2, e3⟩ := laid4 w (.int .i64 k) (.string ⟨s.toArray⟩) (.slice (some ⟨b, off, none⟩) L c) (.int .i64 p) 25
  have q1 := Four.on q1 hba
  obtain ⟨S, hS⟩ : ∃ S : World → Prop, S = fun W => (W.cell? ⟨w.heap.size, 0, none⟩ = some (.int .i64 k) ∧ W.cell? ⟨w.heap.size, 1, none⟩ = some (.string ⟨s.toArray⟩) ∧ W.cell? ⟨w.heap.size, 2, none⟩ = some (.slice (some ⟨b, off, none⟩) L c) ∧ W.cell? ⟨w.heap.size, 3, none⟩ = some (.int .i64 p)) ∧ Four W b off x1 a1 c1 := ⟨_, rfl⟩
  have HKB := Lib.hid (show Keep S by rw [hS]; exact keep_and (keep_and (keep_cell _ _) (keep_and (keep_cell _ _) (keep_and (keep_cell _ _) (keep_cell _ _)))) (keep_four _ _ _ _ _))
  have HP := Lib.hid (show Nk w n S [(x1, a1, c1)] wa from ⟨hba, hg.on hba, by rw [hS]; exact ⟨⟨e0, e1, e2, e3⟩, q1⟩, fun q hq => by
    simp only [List.mem_cons, List.not_mem_nil, or_false] at hq
    rcases hq with rfl
    · exact ⟨h1, k1.on hba, f1⟩⟩)
  obtain ⟨q10, q11, q12, q13⟩ := q1
  have HS := Lib.hid hS
  clear hg hk hf ht hkid hba hS f1 k1 h1
  go_enter Tryz.func14, Tryz.ntmps14
  go_wp2_with (first
    | (go_at_call 13
       refine (nk_name HP.out HKB.out _ (by first | exact hs | omega)).mono ?_
       rintro e w1 ⟨rfl, h1, HP⟩
       rw [HS.out] at h1
       obtain ⟨⟨e0, e1, e2, e3⟩, ⟨q10, q11, q12, q13⟩⟩ := h1)
    | (go_at_call 29
       refine (nk_ok HP.out HKB.out H_pr.out _ _ _ ?_).mono ?_
       focus (simp)
       rintro e w1 ⟨rfl, h1, HP⟩
       rw [HS.out] at h1
       obtain ⟨⟨e0, e1, e2, e3⟩, ⟨q10, q11, q12, q13⟩⟩ := h1))
  all_goals
    go_ret
    exact ⟨ret_bool (by rfl), HP.out.below⟩

theorem rdecl_ok (pr sg bl ty ss it ex : Nd → Bool) (n : Nat) (h_pr : Ok 29 pr n) (h_sg : SgOk true sg n) (h_bl : Ok 30 bl n) (h_ty : Ok 15 ty n)
    (h_ss : Ok 31 ss n) (h_it : Ok 32 it n) (h_ex : Ok 16 ex n) : Ok 14 (declB pr sg bl ty ss it (varB ty ex)) (n + 1) := by
  rintro ⟨k, s, l, p⟩ a c w ht hg hk hf
  simp only [Nd.kind_mk, Nd.text_mk, Nd.kids_mk, Nd.pos_mk] at *
  by_cases k2 : k = 2
  · subst k2
    refine (rdecl_func pr sg bl n h_pr h_sg h_bl s l p a c w ht hg hk hf).mono ?_
    rintro e w' ⟨rfl, hb⟩
    exact ⟨ret_bool (by simp [declB]), hb⟩
  by_cases k3 : k = 3
  · subst k3
    refine (rdecl_type pr ty ss it n h_pr h_ty h_ss h_it s l p a c w ht hg hk hf).mono ?_
    rintro e w' ⟨rfl, hb⟩
    exact ⟨ret_bool (by simp [declB, typeDeclB]), hb⟩
  by_cases k4 : k = 4
  · subst k4
    refine (rdecl_alias pr ty n h_pr h_ty s l p a c w ht hg hk hf).mono ?_
    rintro e w' ⟨rfl, hb⟩
    exact ⟨ret_bool (by simp [declB]), hb⟩
  by_cases k5 : k = 5
  · subst k5
    refine (rdecl_var ty ex n h_ty h_ex s l p a c w ht hg hk hf).mono ?_
    rintro e w' ⟨rfl, hb⟩
    exact ⟨ret_bool (by simp [declB, varB]), hb⟩
  · refine (rdecl_none pr n k ⟨k2, k3, k4, k5⟩ h_pr s l p a c w ht hg hk hf).mono ?_
    rintro e w' ⟨rfl, hb⟩
    exact ⟨ret_bool (by simp [declB, varB, k2, k3, k4, k5]), hb⟩
end Go.Proofs.YtfcpblclfgkdjaaGreatDoor

namespace Go.Proofs.YtfcpblclfgkdjaaGreatDoor
set_option linter.unusedSimpArgs false
set_option linter.unusedVariables false
open Go.RowKit

def IntRow (w : World) (a : Option Addr) (l : List Int) : Prop := ∀ j (h : j < l.length), ∃ b off, a = some ⟨b, off, none⟩ ∧ w.cell? ⟨b, off + j, none⟩ = some (.int .i64 l[j])
theorem IntRow.on {w w' : World} {a : Option Addr} {l : List Int} (h : IntRow w a l) (hb : Below w.heap.size w w') : IntRow w' a l := fun j hj => by
  obtain ⟨b, off, ha, hc⟩ := h j hj
  exact ⟨b, off, ha, keep_cell _ _ w w' hb hc⟩
set_option maxHeartbeats 4000000 in
theorem rkind_any (st : Nd → Bool) (n : Nat) (h : Ok 17 st n) (ks : List Int) (ak : Option Addr) (ck : Nat) (t : Nd) (a : Option Addr) (c : Nat) (w : World) (hks : ks.length ≤ 1000) (hr : IntRow w ak ks) (ht : t.height ≤ n) (hg : Glob w) (hk : Kids w w.heap.size a t.kids) (hf : Fits t c) :
    Calls Tryz.prog 37 #[.agg #[.int .i64 t.kind, .string ⟨t.text.toArray⟩, .slice a t.kids.length c, .int .i64 t.pos], .slice ak ks.length ck] w fun e w' => e = .returned (.bool (decide (t.kind ∈ ks) && st t)) ∧ Below w.heap.size w w' := by
  obtain ⟨wa, hwa, hba, e0, e1, e2, e3⟩ := laid4 w (.int .i64 t.kind) (.string ⟨t.text.toArray⟩) (.slice a t.kids.length c) (.int .i64 t.pos) 25
  have hx := h t a c wa.drew ht ((hg.on hba).on (Below.refl _ _).drew) ((hk.on hba).on (Below.refl _ _).drew) hf
  obtain ⟨R, hR⟩ : ∃ R, st t = R := ⟨_, rfl⟩
  rw [hR] at hx ⊢
  have HX := Lib.hid (fun W (hW : Below w.heap.size w W) => (hR ▸ h t a c W ht (hg.on hW) (hk.on hW) hf : Calls Tryz.prog 17 #[.agg #[.int .i64 t.kind, .string ⟨t.text.toArray⟩, .slice a t.kids.length c, .int .i64 t.pos]] W fun e w' => e = .returned (.bool R) ∧ Below W.heap.size W w'))
  have HR := Lib.hid hr
  have HBA := Lib.hid hba
  clear hx h hg hk hf ht hba hr hR
  go_enter Tryz.func37, Tryz.ntmps37
  go_wp2_with fail
  go_loopw [5] (fun i wr => ∃ j : Nat, j ≤ ks.length ∧ i = .int .i64 j ∧ Hid (t.kind ∉ ks.take j) ∧ Hid (Below w.heap.size w wr) ∧
    (wr.cell? ⟨w.heap.size, 0, none⟩ = some (.int .i64 t.kind) ∧ wr.cell? ⟨w.heap.size, 1, none⟩ = some (.string ⟨t.text.toArray⟩) ∧ wr.cell? ⟨w.heap.size, 2, none⟩ = some (.slice a t.kids.length c) ∧ wr.cell? ⟨w.heap.size, 3, none⟩ = some (.int .i64 t.pos))) (fun i _ => ks.length - (intOf i).toNat)
  case atStart => exact ⟨0, by omega, rfl, Lib.hid (by simp), HBA, e0, e1, e2, e3⟩
  case round =>
    obtain ⟨j, hj1, rfl, HNI, HB, e0, e1, e2, e3⟩ := hrel
    by_cases hlt : j < ks.length
    · obtain ⟨b, off, ha, hc⟩ := (HR.out.on HB.out) j hlt
      subst ha
      have hl1 : w.heap.size < wr.heap.size := cell_lt e0
      have hl2 : b < wr.heap.size := cell_lt hc
      obtain ⟨d, hd⟩ : ∃ d, ks[j] = d := ⟨_, rfl⟩
      have HD := Lib.hid hd
      rw [hd] at hc
      clear hd
      cases hq : (t.kind == d) with
      | true =>
        have HM := Lib.hid (show decide (t.kind ∈ ks) = true by rw [eq_of_beq hq, ← HD.out]; simp)
        go_wp2_with fail
        go_region_held3 (fun W => (W.cell? ⟨w.heap.size, 0, none⟩ = some (.int .i64 t.kind) ∧ W.cell? ⟨w.heap.size, 1, none⟩ = some (.string ⟨t.text.toArray⟩) ∧ W.cell? ⟨w.heap.size, 2, none⟩ = some (.slice a t.kids.length c) ∧ W.cell? ⟨w.heap.size, 3, none⟩ = some (.int .i64 t.pos)) ∧ W.cell? ⟨b, off + j, none⟩ = some (.int .i64 d)) (go_keep) (fail)
        all_goals
          go_wp2_with fail
          refine (HX.out _ (bext HB.out (Below.refl _ _).drew)).mono ?_
          rintro e w2 ⟨rfl, hb2⟩
          have HB2 := Lib.hid (bext (bext HB.out (Below.refl _ _).drew) hb2)
          clear hb2
          go_wp2_with fail
          go_ret
          exact ⟨ret_bool (by rw [HM.out]; rfl), HB2.out⟩
      | false =>
        have HN := Lib.hid (show t.kind ∉ ks.take (j + 1) by
          rw [List.take_succ_eq_append_getElem hlt, List.mem_append, HD.out]
          rintro (h | h)
          · exact HNI.out h
          · rw [List.mem_singleton.1 h] at hq; simp at hq)
        go_wp2_with fail
        go_region_held3 (fun W => (W.cell? ⟨w.heap.size, 0, none⟩ = some (.int .i64 t.kind) ∧ W.cell? ⟨w.heap.size, 1, none⟩ = some (.string ⟨t.text.toArray⟩) ∧ W.cell? ⟨w.heap.size, 2, none⟩ = some (.slice a t.kids.length c) ∧ W.cell? ⟨w.heap.size, 3, none⟩ = some (.int .i64 t.pos)) ∧ W.cell? ⟨b, off + j, none⟩ = some (.int .i64 d)) (go_keep) (fail)
        all_goals
          go_wp2_with fail
          go_roundw
          case rel => exact ⟨j + 1, by omega, by go_num, HN, Lib.hid (bext HB.out (Below.refl _ _).drew), e0, e1, e2, e3⟩
          case measure => simp [intOf]; omega
    · obtain rfl : j = ks.length := by omega
      have HM := Lib.hid (show decide (t.kind ∈ ks) = false by
        have := HNI.out
        rw [List.take_length] at this
        simpa using this)
      go_wp2_with fail
      go_ret
      exact ⟨ret_bool (by rw [HM.out]; rfl), HB.out⟩
section
variable {w0 : World} {n : Nat} {B : World → Prop} {K : List (Nd × Option Addr × Nat)} {W : World}
theorem nk_kind2 (h : Nk w0 n B K W) (hB : Keep B) {st : Nd → Bool} (ho : Ok 17 st n) (k1 k2 : Int) (t : Nd) (a : Option Addr) (c : Nat) (hm : (t, a, c) ∈ K) :
    Calls Tryz.prog 37 #[.agg #[.int .i64 t.kind, .string ⟨t.text.toArray⟩, .slice a t.kids.length c, .int .i64 t.pos], .slice (some ⟨W.heap.size, 0, none⟩) 2 2] (W.alloc (.cells #[.int .i64 k1, .int .i64 k2] 3)) (NkPost w0 n B K (.bool ((t.kind == k1 || t.kind == k2) && st t))) := by
  have h' := h.on hB (below_alloc W (.cells #[.int .i64 k1, .int .i64 k2] 3))
  have hr : IntRow (W.alloc (.cells #[.int .i64 k1, .int .i64 k2] 3)) (some ⟨W.heap.size, 0, none⟩) [k1, k2] := fun j hj => by
    refine ⟨_, _, rfl, ?_⟩
    match j, hj with
    | 0, _ => simp [go_sem]
    | 1, _ => simp [go_sem]
  have := nk_post h' hB (rkind_any st n ho [k1, k2] _ 2 t a c _ (by simp) hr (h'.known _ hm).1 h'.glob (h'.known _ hm).2.1 (h'.known _ hm).2.2)
  rw [show decide (t.kind ∈ [k1, k2]) = (t.kind == k1 || t.kind == k2) by rw [Bool.eq_iff_iff]; simp] at this
  exact this
theorem nk_kind3 (h : Nk w0 n B K W) (hB : Keep B) {st : Nd → Bool} (ho : Ok 17 st n) (k1 k2 k3 : Int) (t : Nd) (a : Option Addr) (c : Nat) (hm : (t, a, c) ∈ K) :
    Calls Tryz.prog 37 #[.agg #[.int .i64 t.kind, .string ⟨t.text.toArray⟩, .slice a t.kids.length c, .int .i64 t.pos], .slice (some ⟨W.heap.size, 0, none⟩) 3 3] (W.alloc (.cells #[.int .i64 k1, .int .i64 k2, .int .i64 k3] 3)) (NkPost w0 n B K (.bool ((t.kind == k1 || (t.kind == k2 || t.kind == k3)) && st t))) := by
  have h' := h.on hB (below_alloc W (.cells #[.int .i64 k1, .int .i64 k2, .int .i64 k3] 3))
  have hr : IntRow (W.alloc (.cells #[.int .i64 k1, .int .i64 k2, .int .i64 k3] 3)) (some ⟨W.heap.size, 0, none⟩) [k1, k2, k3] := fun j hj => by
    refine ⟨_, _, rfl, ?_⟩
    match j, hj with
    | 0, _ => simp [go_sem]
    | 1, _ => simp [go_sem]
    | 2, _ => simp [go_sem]
  have := nk_post h' hB (rkind_any st n ho [k1, k2, k3] _ 3 t a c _ (by simp) hr (h'.known _ hm).1 h'.glob (h'.known _ hm).2.1 (h'.known _ hm).2.2)
  rw [show decide (t.kind ∈ [k1, k2, k3]) = (t.kind == k1 || (t.kind == k2 || t.kind == k3)) by rw [Bool.eq_iff_iff]; simp] at this
  exact this
end
end Go.Proofs.YtfcpblclfgkdjaaGreatDoor

namespace Go.Proofs.YtfcpblclfgkdjaaGreatDoor
set_option linter.unusedSimpArgs false
set_option linter.unusedVariables false
open Go.RowKit

set_option maxRecDepth 100000 in
set_option maxHeartbeats 8000000 in
theorem rstmt_short (ex : Nd → Bool) (n : Nat) (h_ex : Ok 16 ex n) (s : List UInt8) (l : List Nd) (p : Int) (a : Option Addr) (c : Nat) (w : World) (ht : (Nd.mk 26 s l p).height ≤ n + 1) (hg : Glob w) (hk : Kids w w.heap.size a l) (hf : Fits (.mk 26 s l p) c) :
    Calls Tryz.prog 17 #[.agg #[.int .i64 26, .string ⟨s.toArray⟩, .slice a l.length c, .int .i64 p]] w fun e w' => e = .returned (.bool (boundL s && kids1 ex l)) ∧ Below w.heap.size w w' := by
  have hkid : ∀ x, x ∈ l → x.height ≤ n := fun x hx => by have := Nd.height_kid (t := .mk 26 s l p) hx; omega
  have hs : s.length ≤ 140737488351232 := hf.2.2.2.2.1
  have hcap : l.length ≤ c := hf.2.2.2.2.2.1
  have hl2 : l.length ≤ 9223372036854775807 := by have := hf.2.2.2.2.2.2.1; omega
  have H_ex := Lib.hid h_ex
  clear h_ex
  by_cases hlen : l.length = 1
  · obtain ⟨x1, rfl⟩ : ∃ x1, l = [x1] := by
      match l, hlen with
      | [x1], _ => exact ⟨x1, rfl⟩
    obtain ⟨b, off, a1, c1, rfl, ⟨q1, f1, k1⟩⟩ := hk.n1
    have h1 := hkid x1 (by simp)
    obtain ⟨wa, hwa, hba, e0, e1, e2, e3⟩ := laid4 w (.int .i64 26) (.string ⟨s.toArray⟩) (.slice (some ⟨b, off, none⟩) 1 c) (.int .i64 p) 25
    have q1 := Four.on q1 hba
    obtain ⟨S, hS⟩ : ∃ S : World → Prop, S = fun W => (W.cell? ⟨w.heap.size, 0, none⟩ = some (.int .i64 26) ∧ W.cell? ⟨w.heap.size, 1, none⟩ = some (.string ⟨s.toArray⟩) ∧ W.cell? ⟨w.heap.size, 2, none⟩ = some (.slice (some ⟨b, off, none⟩) 1 c) ∧ W.cell? ⟨w.heap.size, 3, none⟩ = some (.int .i64 p)) ∧ Four W b off x1 a1 c1 := ⟨_, rfl⟩
    have HKB := Lib.hid (show Keep S by rw [hS]; exact keep_and (keep_and (keep_cell _ _) (keep_and (keep_cell _ _) (keep_and (keep_cell _ _) (keep_cell _ _)))) (keep_four _ _ _ _ _))
    have HP := Lib.hid (show Nk w n S [(x1, a1, c1)] wa from ⟨hba, hg.on hba, by rw [hS]; exact ⟨⟨e0, e1, e2, e3⟩, q1⟩, fun q hq => by
      simp only [List.mem_cons, List.not_mem_nil, or_false] at hq
      rcases hq with rfl
      · exact ⟨h1, k1.on hba, f1⟩⟩)
    obtain ⟨q10, q11, q12, q13⟩ := q1
    have HS := Lib.hid hS
    clear hg hk hf ht hkid hba hS f1 k1 h1
    go_enter Tryz.func17, Tryz.ntmps17
    go_wp2_with (first
      | (go_at_call 35
         refine (nk_bound HP.out HKB.out _ (by first | exact hs | omega)).mono ?_
         rintro e w1 ⟨rfl, h1, HP⟩
         rw [HS.out] at h1
         obtain ⟨⟨e0, e1, e2, e3⟩, ⟨q10, q11, q12, q13⟩⟩ := h1)
      | (go_at_call 16
         refine (nk_ok HP.out HKB.out H_ex.out _ _ _ ?_).mono ?_
         focus (simp)
         rintro e w1 ⟨rfl, h1, HP⟩
         rw [HS.out] at h1
         obtain ⟨⟨e0, e1, e2, e3⟩, ⟨q10, q11, q12, q13⟩⟩ := h1))
    all_goals
      go_ret
      exact ⟨ret_bool (by first | (simp_all [kids1]; done) | (simp_all [kids1]; omega)), HP.out.below⟩
  · have hn : ((l.length : Int) == 1) = false := by simp; omega
    have HV := Lib.hid (show kids1 ex l = false from by
      match l, hlen with
      | [], _ => rfl
      | [_], h => simp at h
      | _ :: _ :: _, _ => rfl)
    obtain ⟨wa, hwa, hba, e0, e1, e2, e3⟩ := laid4 w (.int .i64 26) (.string ⟨s.toArray⟩) (.slice a l.length c) (.int .i64 p) 25
    obtain ⟨S, hS⟩ : ∃ S : World → Prop, S = fun W => (W.cell? ⟨w.heap.size, 0, none⟩ = some (.int .i64 26) ∧ W.cell? ⟨w.heap.size, 1, none⟩ = some (.string ⟨s.toArray⟩) ∧ W.cell? ⟨w.heap.size, 2, none⟩ = some (.slice a l.length c) ∧ W.cell? ⟨w.heap.size, 3, none⟩ = some (.int .i64 p)) := ⟨_, rfl⟩
    have HKB := Lib.hid (show Keep S by rw [hS]; exact keep_and (keep_cell _ _) (keep_and (keep_cell _ _) (keep_and (keep_cell _ _) (keep_cell _ _))))
    have HP := Lib.hid (show Nk w n S [] wa from ⟨hba, hg.on hba, by rw [hS]; exact ⟨e0, e1, e2, e3⟩, fun q hq => by cases hq⟩)
    have HS := Lib.hid hS
    clear hg hk hf ht hkid hba hS
    go_enter Tryz.func17, Tryz.ntmps17
    go_wp2_with fail
    all_goals
      go_ret
      exact ⟨ret_bool (by rw [HV.out]; simp), HP.out.below⟩

set_option maxRecDepth 100000 in
set_option maxHeartbeats 8000000 in
theorem rstmt_set (ex : Nd → Bool) (n : Nat) (h_ex : Ok 16 ex n) (s : List UInt8) (l : List Nd) (p : Int) (a : Option Addr) (c : Nat) (w : World) (ht : (Nd.mk 27 s l p).height ≤ n + 1) (hg : Glob w) (hk : Kids w w.heap.size a l) (hf : Fits (.mk 27 s l p) c) :
    Calls Tryz.prog 17 #[.agg #[.int .i64 27, .string ⟨s.toArray⟩, .slice a l.length c, .int .i64 p]] w fun e w' => e = .returned (.bool (s.isEmpty && kids2 ex ex l)) ∧ Below w.heap.size w w' := by
  have hkid : ∀ x, x ∈ l → x.height ≤ n := fun x hx => by have := Nd.height_kid (t := .mk 27 s l p) hx; omega
  have hs : s.length ≤ 140737488351232 := hf.2.2.2.2.1
  have hcap : l.length ≤ c := hf.2.2.2.2.2.1
  have hl2 : l.length ≤ 9223372036854775807 := by have := hf.2.2.2.2.2.2.1; omega
  have H_ex := Lib.hid h_ex
  have H_exs := Lib.hid (exs_ok ex n h_ex)
  clear h_ex
  by_cases hlen : l.length = 2
  · have HKW := Lib.hid hk
    obtain ⟨x1, x2, rfl⟩ : ∃ x1 x2, l = [x1, x2] := by
      match l, hlen with
      | [x1, x2], _ => exact ⟨x1, x2, rfl⟩
    obtain ⟨b, off, a1, c1, a2, c2, rfl, ⟨q1, f1, k1⟩, ⟨q2, f2, k2⟩⟩ := hk.n2
    have h1 := hkid x1 (by simp)
    have h2 := hkid x2 (by simp)
    obtain ⟨wa, hwa, hba, e0, e1, e2, e3⟩ := laid4 w (.int .i64 27) (.string ⟨s.toArray⟩) (.slice (some ⟨b, off, none⟩) 2 c) (.int .i64 p) 25
    have q1 := Four.on q1 hba
    have q2 := Four.on q2 hba
    obtain ⟨S, hS⟩ : ∃ S : World → Prop, S = fun W => (W.cell? ⟨w.heap.size, 0, none⟩ = some (.int .i64 27) ∧ W.cell? ⟨w.heap.size, 1, none⟩ = some (.string ⟨s.toArray⟩) ∧ W.cell? ⟨w.heap.size, 2, none⟩ = some (.slice (some ⟨b, off, none⟩) 2 c) ∧ W.cell? ⟨w.heap.size, 3, none⟩ = some (.int .i64 p)) ∧ Four W b off x1 a1 c1 ∧ Four W b (off + 4) x2 a2 c2 := ⟨_, rfl⟩
    have HKB := Lib.hid (show Keep S by rw [hS]; exact keep_and (keep_and (keep_cell _ _) (keep_and (keep_cell _ _) (keep_and (keep_cell _ _) (keep_cell _ _)))) (keep_and (keep_four _ _ _ _ _) (keep_four _ _ _ _ _)))
    have HP := Lib.hid (show Nk w n S [(x1, a1, c1), (x2, a2, c2)] wa from ⟨hba, hg.on hba, by rw [hS]; exact ⟨⟨e0, e1, e2, e3⟩, q1, q2⟩, fun q hq => by
      simp only [List.mem_cons, List.not_mem_nil, or_false] at hq
      rcases hq with rfl | rfl
      · exact ⟨h1, k1.on hba, f1⟩
      · exact ⟨h2, k2.on hba, f2⟩⟩)
    obtain ⟨q10, q11, q12, q13⟩ := q1
    obtain ⟨q20, q21, q22, q23⟩ := q2
    have HS := Lib.hid hS
    have HHW := Lib.hid hkid
    have HLW := Lib.hid hl2
    clear hg hk hf ht hkid hba hS f1 k1 h1 f2 k2 h2
    go_enter Tryz.func17, Tryz.ntmps17
    go_wp2_with (first
      | (go_at_call 34
         refine (nk_exs HP.out HKB.out H_exs.out [x1, x2] _ _ HKW.out HHW.out HLW.out).mono ?_
         rintro e w1 ⟨rfl, h1, HP⟩
         rw [HS.out] at h1
         obtain ⟨⟨e0, e1, e2, e3⟩, ⟨q10, q11, q12, q13⟩, ⟨q20, q21, q22, q23⟩⟩ := h1))
    all_goals
      go_ret
      exact ⟨ret_bool (by first | (simp_all [kids2]; done) | (simp_all [kids2]; omega)), HP.out.below⟩
  · have hn : ((l.length : Int) == 2) = false := by simp; omega
    have HV := Lib.hid (show kids2 ex ex l = false from by
      match l, hlen with
      | [], _ => rfl
      | [_], _ => rfl
      | [_, _], h => simp at h
      | _ :: _ :: _ :: _, _ => rfl)
    obtain ⟨wa, hwa, hba, e0, e1, e2, e3⟩ := laid4 w (.int .i64 27) (.string ⟨s.toArray⟩) (.slice a l.length c) (.int .i64 p) 25
    obtain ⟨S, hS⟩ : ∃ S : World → Prop, S = fun W => (W.cell? ⟨w.heap.size, 0, none⟩ = some (.int .i64 27) ∧ W.cell? ⟨w.heap.size, 1, none⟩ = some (.string ⟨s.toArray⟩) ∧ W.cell? ⟨w.heap.size, 2, none⟩ = some (.slice a l.length c) ∧ W.cell? ⟨w.heap.size, 3, none⟩ = some (.int .i64 p)) := ⟨_, rfl⟩
    have HKB := Lib.hid (show Keep S by rw [hS]; exact keep_and (keep_cell _ _) (keep_and (keep_cell _ _) (keep_and (keep_cell _ _) (keep_cell _ _))))
    have HP := Lib.hid (show Nk w n S [] wa from ⟨hba, hg.on hba, by rw [hS]; exact ⟨e0, e1, e2, e3⟩, fun q hq => by cases hq⟩)
    have HS := Lib.hid hS
    clear hg hk hf ht hkid hba hS
    go_enter Tryz.func17, Tryz.ntmps17
    go_wp2_with fail
    all_goals
      go_ret
      exact ⟨ret_bool (by rw [HV.out]; simp), HP.out.below⟩

set_option maxRecDepth 100000 in
set_option maxHeartbeats 8000000 in
theorem rstmt_inc (ex : Nd → Bool) (n : Nat) (h_ex : Ok 16 ex n) (s : List UInt8) (l : List Nd) (p : Int) (a : Option Addr) (c : Nat) (w : World) (ht : (Nd.mk 28 s l p).height ≤ n + 1) (hg : Glob w) (hk : Kids w w.heap.size a l) (hf : Fits (.mk 28 s l p) c) :
    Calls Tryz.prog 17 #[.agg #[.int .i64 28, .string ⟨s.toArray⟩, .slice a l.length c, .int .i64 p]] w fun e w' => e = .returned (.bool (stepsL s && kids1 ex l)) ∧ Below w.heap.size w w' := by
  have hkid : ∀ x, x ∈ l → x.height ≤ n := fun x hx => by have := Nd.height_kid (t := .mk 28 s l p) hx; omega
  have hs : s.length ≤ 140737488351232 := hf.2.2.2.2.1
  have hcap : l.length ≤ c := hf.2.2.2.2.2.1
  have hl2 : l.length ≤ 9223372036854775807 := by have := hf.2.2.2.2.2.2.1; omega
  have H_ex := Lib.hid h_ex
  clear h_ex
  by_cases hlen : l.length = 1
  · obtain ⟨x1, rfl⟩ : ∃ x1, l = [x1] := by
      match l, hlen with
      | [x1], _ => exact ⟨x1, rfl⟩
    obtain ⟨b, off, a1, c1, rfl, ⟨q1, f1, k1⟩⟩ := hk.n1
    have h1 := hkid x1 (by simp)
    obtain ⟨wa, hwa, hba, e0, e1, e2, e3⟩ := laid4 w (.int .i64 28) (.string ⟨s.toArray⟩) (.slice (some ⟨b, off, none⟩) 1 c) (.int .i64 p) 25
    have q1 := Four.on q1 hba
    obtain ⟨S, hS⟩ : ∃ S : World → Prop, S = fun W => (W.cell? ⟨w.heap.size, 0, none⟩ = some (.int .i64 28) ∧ W.cell? ⟨w.heap.size, 1, none⟩ = some (.string ⟨s.toArray⟩) ∧ W.cell? ⟨w.heap.size, 2, none⟩ = some (.slice (some ⟨b, off, none⟩) 1 c) ∧ W.cell? ⟨w.heap.size, 3, none⟩ = some (.int .i64 p)) ∧ Four W b off x1 a1 c1 := ⟨_, rfl⟩
    have HKB := Lib.hid (show Keep S by rw [hS]; exact keep_and (keep_and (keep_cell _ _) (keep_and (keep_cell _ _) (keep_and (keep_cell _ _) (keep_cell _ _)))) (keep_four _ _ _ _ _))
    have HP := Lib.hid (show Nk w n S [(x1, a1, c1)] wa from ⟨hba, hg.on hba, by rw [hS]; exact ⟨⟨e0, e1, e2, e3⟩, q1⟩, fun q hq => by
      simp only [List.mem_cons, List.not_mem_nil, or_false] at hq
      rcases hq with rfl
      · exact ⟨h1, k1.on hba, f1⟩⟩)
    obtain ⟨q10, q11, q12, q13⟩ := q1
    have HS := Lib.hid hS
    clear hg hk hf ht hkid hba hS f1 k1 h1
    go_enter Tryz.func17, Tryz.ntmps17
    go_wp2_with (first
      | (go_at_call 16
         refine (nk_ok HP.out HKB.out H_ex.out _ _ _ ?_).mono ?_
         focus (simp)
         rintro e w1 ⟨rfl, h1, HP⟩
         rw [HS.out] at h1
         obtain ⟨⟨e0, e1, e2, e3⟩, ⟨q10, q11, q12, q13⟩⟩ := h1))
    all_goals
      go_ret
      exact ⟨ret_bool (by first | (simp_all [kids1, stepsL]; done) | (simp_all [kids1, stepsL]; omega)), HP.out.below⟩
  · have hn : ((l.length : Int) == 1) = false := by simp; omega
    have HV := Lib.hid (show kids1 ex l = false from by
      match l, hlen with
      | [], _ => rfl
      | [_], h => simp at h
      | _ :: _ :: _, _ => rfl)
    obtain ⟨wa, hwa, hba, e0, e1, e2, e3⟩ := laid4 w (.int .i64 28) (.string ⟨s.toArray⟩) (.slice a l.length c) (.int .i64 p) 25
    obtain ⟨S, hS⟩ : ∃ S : World → Prop, S = fun W => (W.cell? ⟨w.heap.size, 0, none⟩ = some (.int .i64 28) ∧ W.cell? ⟨w.heap.size, 1, none⟩ = some (.string ⟨s.toArray⟩) ∧ W.cell? ⟨w.heap.size, 2, none⟩ = some (.slice a l.length c) ∧ W.cell? ⟨w.heap.size, 3, none⟩ = some (.int .i64 p)) := ⟨_, rfl⟩
    have HKB := Lib.hid (show Keep S by rw [hS]; exact keep_and (keep_cell _ _) (keep_and (keep_cell _ _) (keep_and (keep_cell _ _) (keep_cell _ _))))
    have HP := Lib.hid (show Nk w n S [] wa from ⟨hba, hg.on hba, by rw [hS]; exact ⟨e0, e1, e2, e3⟩, fun q hq => by cases hq⟩)
    have HS := Lib.hid hS
    clear hg hk hf ht hkid hba hS
    go_enter Tryz.func17, Tryz.ntmps17
    go_wp2_with fail
    all_goals
      go_ret
      exact ⟨ret_bool (by rw [HV.out]; simp), HP.out.below⟩

set_option maxRecDepth 100000 in
set_option maxHeartbeats 8000000 in
theorem rstmt_call (ex : Nd → Bool) (n : Nat) (h_ex : Ok 16 ex n) (s : List UInt8) (l : List Nd) (p : Int) (a : Option Addr) (c : Nat) (w : World) (ht : (Nd.mk 29 s l p).height ≤ n + 1) (hg : Glob w) (hk : Kids w w.heap.size a l) (hf : Fits (.mk 29 s l p) c) :
    Calls Tryz.prog 17 #[.agg #[.int .i64 29, .string ⟨s.toArray⟩, .slice a l.length c, .int .i64 p]] w fun e w' => e = .returned (.bool (s.isEmpty && kids1 (kindB 21 ex) l)) ∧ Below w.heap.size w w' := by
  have hkid : ∀ x, x ∈ l → x.height ≤ n := fun x hx => by have := Nd.height_kid (t := .mk 29 s l p) hx; omega
  have hs : s.length ≤ 140737488351232 := hf.2.2.2.2.1
  have hcap : l.length ≤ c := hf.2.2.2.2.2.1
  have hl2 : l.length ≤ 9223372036854775807 := by have := hf.2.2.2.2.2.2.1; omega
  have H_ex := Lib.hid h_ex
  clear h_ex
  by_cases hlen : l.length = 1
  · obtain ⟨x1, rfl⟩ : ∃ x1, l = [x1] := by
      match l, hlen with
      | [x1], _ => exact ⟨x1, rfl⟩
    obtain ⟨b, off, a1, c1, rfl, ⟨q1, f1, k1⟩⟩ := hk.n1
    have h1 := hkid x1 (by simp)
    obtain ⟨wa, hwa, hba, e0, e1, e2, e3⟩ := laid4 w (.int .i64 29) (.string ⟨s.toArray⟩) (.slice (some ⟨b, off, none⟩) 1 c) (.int .i64 p) 25
    have q1 := Four.on q1 hba
    obtain ⟨S, hS⟩ : ∃ S : World → Prop, S = fun W => (W.cell? ⟨w.heap.size, 0, none⟩ = some (.int .i64 29) ∧ W.cell? ⟨w.heap.size, 1, none⟩ = some (.string ⟨s.toArray⟩) ∧ W.cell? ⟨w.heap.size, 2, none⟩ = some (.slice (some ⟨b, off, none⟩) 1 c) ∧ W.cell? ⟨w.heap.size, 3, none⟩ = some (.int .i64 p)) ∧ Four W b off x1 a1 c1 := ⟨_, rfl⟩
    have HKB := Lib.hid (show Keep S by rw [hS]; exact keep_and (keep_and (keep_cell _ _) (keep_and (keep_cell _ _) (keep_and (keep_cell _ _) (keep_cell _ _)))) (keep_four _ _ _ _ _))
    have HP := Lib.hid (show Nk w n S [(x1, a1, c1)] wa from ⟨hba, hg.on hba, by rw [hS]; exact ⟨⟨e0, e1, e2, e3⟩, q1⟩, fun q hq => by
      simp only [List.mem_cons, List.not_mem_nil, or_false] at hq
      rcases hq with rfl
      · exact ⟨h1, k1.on hba, f1⟩⟩)
    obtain ⟨q10, q11, q12, q13⟩ := q1
    have HS := Lib.hid hS
    clear hg hk hf ht hkid hba hS f1 k1 h1
    cases k21 : (x1.kind == 21)
    all_goals
      go_enter Tryz.func17, Tryz.ntmps17
      go_wp2_with (first
        | (go_at_call 16
           refine (nk_ok HP.out HKB.out H_ex.out _ _ _ ?_).mono ?_
           focus (simp)
           rintro e w1 ⟨rfl, h1, HP⟩
           rw [HS.out] at h1
           obtain ⟨⟨e0, e1, e2, e3⟩, ⟨q10, q11, q12, q13⟩⟩ := h1))
      all_goals
        go_ret
        exact ⟨ret_bool (by first | (simp_all [kids1, kindB]; done) | (simp_all [kids1, kindB]; omega)), HP.out.below⟩
  · have hn : ((l.length : Int) == 1) = false := by simp; omega
    have HV := Lib.hid (show kids1 (kindB 21 ex) l = false from by
      match l, hlen with
      | [], _ => rfl
      | [_], h => simp at h
      | _ :: _ :: _, _ => rfl)
    obtain ⟨wa, hwa, hba, e0, e1, e2, e3⟩ := laid4 w (.int .i64 29) (.string ⟨s.toArray⟩) (.slice a l.length c) (.int .i64 p) 25
    obtain ⟨S, hS⟩ : ∃ S : World → Prop, S = fun W => (W.cell? ⟨w.heap.size, 0, none⟩ = some (.int .i64 29) ∧ W.cell? ⟨w.heap.size, 1, none⟩ = some (.string ⟨s.toArray⟩) ∧ W.cell? ⟨w.heap.size, 2, none⟩ = some (.slice a l.length c) ∧ W.cell? ⟨w.heap.size, 3, none⟩ = some (.int .i64 p)) := ⟨_, rfl⟩
    have HKB := Lib.hid (show Keep S by rw [hS]; exact keep_and (keep_cell _ _) (keep_and (keep_cell _ _) (keep_and (keep_cell _ _) (keep_cell _ _))))
    have HP := Lib.hid (show Nk w n S [] wa from ⟨hba, hg.on hba, by rw [hS]; exact ⟨e0, e1, e2, e3⟩, fun q hq => by cases hq⟩)
    have HS := Lib.hid hS
    clear hg hk hf ht hkid hba hS
    go_enter Tryz.func17, Tryz.ntmps17
    go_wp2_with fail
    all_goals
      go_ret
      exact ⟨ret_bool (by rw [HV.out]; simp), HP.out.below⟩

set_option maxRecDepth 100000 in
set_option maxHeartbeats 8000000 in
theorem rstmt_range (ex : Nd → Bool) (bl : Nd → Bool) (n : Nat) (h_ex : Ok 16 ex n) (h_bl : Ok 30 bl n) (s : List UInt8) (l : List Nd) (p : Int) (a : Option Addr) (c : Nat) (w : World) (ht : (Nd.mk 32 s l p).height ≤ n + 1) (hg : Glob w) (hk : Kids w w.heap.size a l) (hf : Fits (.mk 32 s l p) c) :
    Calls Tryz.prog 17 #[.agg #[.int .i64 32, .string ⟨s.toArray⟩, .slice a l.length c, .int .i64 p]] w fun e w' => e = .returned (.bool (rangedL s && kids2 ex bl l)) ∧ Below w.heap.size w w' := by
  have hkid : ∀ x, x ∈ l → x.height ≤ n := fun x hx => by have := Nd.height_kid (t := .mk 32 s l p) hx; omega
  have hs : s.length ≤ 140737488351232 := hf.2.2.2.2.1
  have hcap : l.length ≤ c := hf.2.2.2.2.2.1
  have hl2 : l.length ≤ 9223372036854775807 := by have := hf.2.2.2.2.2.2.1; omega
  have H_ex := Lib.hid h_ex
  have H_bl := Lib.hid h_bl
  clear h_ex h_bl
  by_cases hlen : l.length = 2
  · obtain ⟨x1, x2, rfl⟩ : ∃ x1 x2, l = [x1, x2] := by
      match l, hlen with
      | [x1, x2], _ => exact ⟨x1, x2, rfl⟩
    obtain ⟨b, off, a1, c1, a2, c2, rfl, ⟨q1, f1, k1⟩, ⟨q2, f2, k2⟩⟩ := hk.n2
    have h1 := hkid x1 (by simp)
    have h2 := hkid x2 (by simp)
    obtain ⟨wa, hwa, hba, e0, e1, e2, e3⟩ := laid4 w (.int .i64 32) (.string ⟨s.toArray⟩) (.slice (some ⟨b, off, none⟩) 2 c) (.int .i64 p) 25
    have q1 := Four.on q1 hba
    have q2 := Four.on q2 hba
    obtain ⟨S, hS⟩ : ∃ S : World → Prop, S = fun W => (W.cell? ⟨w.heap.size, 0, none⟩ = some (.int .i64 32) ∧ W.cell? ⟨w.heap.size, 1, none⟩ = some (.string ⟨s.toArray⟩) ∧ W.cell? ⟨w.heap.size, 2, none⟩ = some (.slice (some ⟨b, off, none⟩) 2 c) ∧ W.cell? ⟨w.heap.size, 3, none⟩ = some (.int .i64 p)) ∧ Four W b off x1 a1 c1 ∧ Four W b (off + 4) x2 a2 c2 := ⟨_, rfl⟩
    have HKB := Lib.hid (show Keep S by rw [hS]; exact keep_and (keep_and (keep_cell _ _) (keep_and (keep_cell _ _) (keep_and (keep_cell _ _) (keep_cell _ _)))) (keep_and (keep_four _ _ _ _ _) (keep_four _ _ _ _ _)))
    have HP := Lib.hid (show Nk w n S [(x1, a1, c1), (x2, a2, c2)] wa from ⟨hba, hg.on hba, by rw [hS]; exact ⟨⟨e0, e1, e2, e3⟩, q1, q2⟩, fun q hq => by
      simp only [List.mem_cons, List.not_mem_nil, or_false] at hq
      rcases hq with rfl | rfl
      · exact ⟨h1, k1.on hba, f1⟩
      · exact ⟨h2, k2.on hba, f2⟩⟩)
    obtain ⟨q10, q11, q12, q13⟩ := q1
    obtain ⟨q20, q21, q22, q23⟩ := q2
    have HS := Lib.hid hS
    clear hg hk hf ht hkid hba hS f1 k1 h1 f2 k2 h2
    go_enter Tryz.func17, Tryz.ntmps17
    go_wp2_with (first
      | (go_at_call 38
         refine (nk_ranged HP.out HKB.out _ (by first | exact hs | omega)).mono ?_
         rintro e w1 ⟨rfl, h1, HP⟩
         rw [HS.out] at h1
         obtain ⟨⟨e0, e1, e2, e3⟩, ⟨q10, q11, q12, q13⟩, ⟨q20, q21, q22, q23⟩⟩ := h1)
      | (go_at_call 16
         refine (nk_ok HP.out HKB.out H_ex.out _ _ _ ?_).mono ?_
         focus (simp)
         rintro e w1 ⟨rfl, h1, HP⟩
         rw [HS.out] at h1
         obtain ⟨⟨e0, e1, e2, e3⟩, ⟨q10, q11, q12, q13⟩, ⟨q20, q21, q22, q23⟩⟩ := h1)
      | (go_at_call 30
         refine (nk_ok HP.out HKB.out H_bl.out _ _ _ ?_).mono ?_
         focus (simp)
         rintro e w1 ⟨rfl, h1, HP⟩
         rw [HS.out] at h1
         obtain ⟨⟨e0, e1, e2, e3⟩, ⟨q10, q11, q12, q13⟩, ⟨q20, q21, q22, q23⟩⟩ := h1))
    all_goals
      go_ret
      exact ⟨ret_bool (by first | (simp_all [kids2]; done) | (simp_all [kids2]; omega)), HP.out.below⟩
  · have hn : ((l.length : Int) == 2) = false := by simp; omega
    have HV := Lib.hid (show kids2 ex bl l = false from by
      match l, hlen with
      | [], _ => rfl
      | [_], _ => rfl
      | [_, _], h => simp at h
      | _ :: _ :: _ :: _, _ => rfl)
    obtain ⟨wa, hwa, hba, e0, e1, e2, e3⟩ := laid4 w (.int .i64 32) (.string ⟨s.toArray⟩) (.slice a l.length c) (.int .i64 p) 25
    obtain ⟨S, hS⟩ : ∃ S : World → Prop, S = fun W => (W.cell? ⟨w.heap.size, 0, none⟩ = some (.int .i64 32) ∧ W.cell? ⟨w.heap.size, 1, none⟩ = some (.string ⟨s.toArray⟩) ∧ W.cell? ⟨w.heap.size, 2, none⟩ = some (.slice a l.length c) ∧ W.cell? ⟨w.heap.size, 3, none⟩ = some (.int .i64 p)) := ⟨_, rfl⟩
    have HKB := Lib.hid (show Keep S by rw [hS]; exact keep_and (keep_cell _ _) (keep_and (keep_cell _ _) (keep_and (keep_cell _ _) (keep_cell _ _))))
    have HP := Lib.hid (show Nk w n S [] wa from ⟨hba, hg.on hba, by rw [hS]; exact ⟨e0, e1, e2, e3⟩, fun q hq => by cases hq⟩)
    have HS := Lib.hid hS
    clear hg hk hf ht hkid hba hS
    go_enter Tryz.func17, Tryz.ntmps17
    go_wp2_with fail
    all_goals
      go_ret
      exact ⟨ret_bool (by rw [HV.out]; simp), HP.out.below⟩

set_option maxRecDepth 100000 in
set_option maxHeartbeats 8000000 in
theorem rstmt_ret (ex : Nd → Bool) (n : Nat) (h_ex : Ok 16 ex n) (s : List UInt8) (l : List Nd) (p : Int) (a : Option Addr) (c : Nat) (w : World) (ht : (Nd.mk 33 s l p).height ≤ n + 1) (hg : Glob w) (hk : Kids w w.heap.size a l) (hf : Fits (.mk 33 s l p) c) :
    Calls Tryz.prog 17 #[.agg #[.int .i64 33, .string ⟨s.toArray⟩, .slice a l.length c, .int .i64 p]] w fun e w' => e = .returned (.bool (s.isEmpty && kids1 (fun k => emptyB k || ex k) l)) ∧ Below w.heap.size w w' := by
  have hkid : ∀ x, x ∈ l → x.height ≤ n := fun x hx => by have := Nd.height_kid (t := .mk 33 s l p) hx; omega
  have hs : s.length ≤ 140737488351232 := hf.2.2.2.2.1
  have hcap : l.length ≤ c := hf.2.2.2.2.2.1
  have hl2 : l.length ≤ 9223372036854775807 := by have := hf.2.2.2.2.2.2.1; omega
  have H_ex := Lib.hid h_ex
  clear h_ex
  by_cases hlen : l.length = 1
  · obtain ⟨x1, rfl⟩ : ∃ x1, l = [x1] := by
      match l, hlen with
      | [x1], _ => exact ⟨x1, rfl⟩
    obtain ⟨b, off, a1, c1, rfl, ⟨q1, f1, k1⟩⟩ := hk.n1
    have h1 := hkid x1 (by simp)
    obtain ⟨wa, hwa, hba, e0, e1, e2, e3⟩ := laid4 w (.int .i64 33) (.string ⟨s.toArray⟩) (.slice (some ⟨b, off, none⟩) 1 c) (.int .i64 p) 25
    have q1 := Four.on q1 hba
    obtain ⟨S, hS⟩ : ∃ S : World → Prop, S = fun W => (W.cell? ⟨w.heap.size, 0, none⟩ = some (.int .i64 33) ∧ W.cell? ⟨w.heap.size, 1, none⟩ = some (.string ⟨s.toArray⟩) ∧ W.cell? ⟨w.heap.size, 2, none⟩ = some (.slice (some ⟨b, off, none⟩) 1 c) ∧ W.cell? ⟨w.heap.size, 3, none⟩ = some (.int .i64 p)) ∧ Four W b off x1 a1 c1 := ⟨_, rfl⟩
    have HKB := Lib.hid (show Keep S by rw [hS]; exact keep_and (keep_and (keep_cell _ _) (keep_and (keep_cell _ _) (keep_and (keep_cell _ _) (keep_cell _ _)))) (keep_four _ _ _ _ _))
    have HP := Lib.hid (show Nk w n S [(x1, a1, c1)] wa from ⟨hba, hg.on hba, by rw [hS]; exact ⟨⟨e0, e1, e2, e3⟩, q1⟩, fun q hq => by
      simp only [List.mem_cons, List.not_mem_nil, or_false] at hq
      rcases hq with rfl
      · exact ⟨h1, k1.on hba, f1⟩⟩)
    obtain ⟨q10, q11, q12, q13⟩ := q1
    have HS := Lib.hid hS
    clear hg hk hf ht hkid hba hS f1 k1 h1
    go_enter Tryz.func17, Tryz.ntmps17
    go_wp2_with (first
      | (go_at_call 36
         refine (nk_nothing HP.out HKB.out _ _ _).mono ?_
         rintro e w1 ⟨rfl, h1, HP⟩
         rw [HS.out] at h1
         obtain ⟨⟨e0, e1, e2, e3⟩, ⟨q10, q11, q12, q13⟩⟩ := h1)
      | (go_at_call 16
         refine (nk_ok HP.out HKB.out H_ex.out _ _ _ ?_).mono ?_
         focus (simp)
         rintro e w1 ⟨rfl, h1, HP⟩
         rw [HS.out] at h1
         obtain ⟨⟨e0, e1, e2, e3⟩, ⟨q10, q11, q12, q13⟩⟩ := h1))
    all_goals
      go_ret
      exact ⟨ret_bool (by first | (simp_all [kids1]; done) | (simp_all [kids1]; omega)), HP.out.below⟩
  · have hn : ((l.length : Int) == 1) = false := by simp; omega
    have HV := Lib.hid (show kids1 (fun k => emptyB k || ex k) l = false from by
      match l, hlen with
      | [], _ => rfl
      | [_], h => simp at h
      | _ :: _ :: _, _ => rfl)
    obtain ⟨wa, hwa, hba, e0, e1, e2, e3⟩ := laid4 w (.int .i64 33) (.string ⟨s.toArray⟩) (.slice a l.length c) (.int .i64 p) 25
    obtain ⟨S, hS⟩ : ∃ S : World → Prop, S = fun W => (W.cell? ⟨w.heap.size, 0, none⟩ = some (.int .i64 33) ∧ W.cell? ⟨w.heap.size, 1, none⟩ = some (.string ⟨s.toArray⟩) ∧ W.cell? ⟨w.heap.size, 2, none⟩ = some (.slice a l.length c) ∧ W.cell? ⟨w.heap.size, 3, none⟩ = some (.int .i64 p)) := ⟨_, rfl⟩
    have HKB := Lib.hid (show Keep S by rw [hS]; exact keep_and (keep_cell _ _) (keep_and (keep_cell _ _) (keep_and (keep_cell _ _) (keep_cell _ _))))
    have HP := Lib.hid (show Nk w n S [] wa from ⟨hba, hg.on hba, by rw [hS]; exact ⟨e0, e1, e2, e3⟩, fun q hq => by cases hq⟩)
    have HS := Lib.hid hS
    clear hg hk hf ht hkid hba hS
    go_enter Tryz.func17, Tryz.ntmps17
    go_wp2_with fail
    all_goals
      go_ret
      exact ⟨ret_bool (by rw [HV.out]; simp), HP.out.below⟩

set_option maxRecDepth 100000 in
set_option maxHeartbeats 8000000 in
theorem rstmt_break  (n : Nat) (s : List UInt8) (l : List Nd) (p : Int) (a : Option Addr) (c : Nat) (w : World) (ht : (Nd.mk 34 s l p).height ≤ n + 1) (hg : Glob w) (hk : Kids w w.heap.size a l) (hf : Fits (.mk 34 s l p) c) :
    Calls Tryz.prog 17 #[.agg #[.int .i64 34, .string ⟨s.toArray⟩, .slice a l.length c, .int .i64 p]] w fun e w' => e = .returned (.bool (s.isEmpty && kids0 l)) ∧ Below w.heap.size w w' := by
  have hkid : ∀ x, x ∈ l → x.height ≤ n := fun x hx => by have := Nd.height_kid (t := .mk 34 s l p) hx; omega
  have hs : s.length ≤ 140737488351232 := hf.2.2.2.2.1
  have hcap : l.length ≤ c := hf.2.2.2.2.2.1
  have hl2 : l.length ≤ 9223372036854775807 := by have := hf.2.2.2.2.2.2.1; omega
  cases l with
  | nil =>
    obtain ⟨wa, hwa, hba, e0, e1, e2, e3⟩ := laid4 w (.int .i64 34) (.string ⟨s.toArray⟩) (.slice a 0 c) (.int .i64 p) 25
    obtain ⟨S, hS⟩ : ∃ S : World → Prop, S = fun W => (W.cell? ⟨w.heap.size, 0, none⟩ = some (.int .i64 34) ∧ W.cell? ⟨w.heap.size, 1, none⟩ = some (.string ⟨s.toArray⟩) ∧ W.cell? ⟨w.heap.size, 2, none⟩ = some (.slice a 0 c) ∧ W.cell? ⟨w.heap.size, 3, none⟩ = some (.int .i64 p)) := ⟨_, rfl⟩
    have HKB := Lib.hid (show Keep S by rw [hS]; exact keep_and (keep_cell _ _) (keep_and (keep_cell _ _) (keep_and (keep_cell _ _) (keep_cell _ _))))
    have HP := Lib.hid (show Nk w n S [] wa from ⟨hba, hg.on hba, by rw [hS]; exact ⟨e0, e1, e2, e3⟩, fun q hq => by cases hq⟩)
    have HS := Lib.hid hS
    clear hg hk hf ht hkid hba hS
    go_enter Tryz.func17, Tryz.ntmps17
    go_wp2_with fail
    all_goals
      go_ret
      exact ⟨ret_bool (by first | (simp_all [kids0]; done) | (simp_all [kids0]; omega)), HP.out.below⟩
  | cons x r =>
    have hn : ((r.length : Int) + 1 == 0) = false := by simp; omega
    obtain ⟨wa, hwa, hba, e0, e1, e2, e3⟩ := laid4 w (.int .i64 34) (.string ⟨s.toArray⟩) (.slice a (r.length + 1) c) (.int .i64 p) 25
    obtain ⟨S, hS⟩ : ∃ S : World → Prop, S = fun W => (W.cell? ⟨w.heap.size, 0, none⟩ = some (.int .i64 34) ∧ W.cell? ⟨w.heap.size, 1, none⟩ = some (.string ⟨s.toArray⟩) ∧ W.cell? ⟨w.heap.size, 2, none⟩ = some (.slice a (r.length + 1) c) ∧ W.cell? ⟨w.heap.size, 3, none⟩ = some (.int .i64 p)) := ⟨_, rfl⟩
    have HKB := Lib.hid (show Keep S by rw [hS]; exact keep_and (keep_cell _ _) (keep_and (keep_cell _ _) (keep_and (keep_cell _ _) (keep_cell _ _))))
    have HP := Lib.hid (show Nk w n S [] wa from ⟨hba, hg.on hba, by rw [hS]; exact ⟨e0, e1, e2, e3⟩, fun q hq => by cases hq⟩)
    have HS := Lib.hid hS
    clear hg hk hf ht hkid hba hS
    go_enter Tryz.func17, Tryz.ntmps17
    go_wp2_with fail
    all_goals
      go_ret
      exact ⟨ret_bool (by first | (simp_all [kids0]; done) | (simp_all [kids0]; omega)), HP.out.below⟩

set_option maxRecDepth 100000 in
set_option maxHeartbeats 8000000 in
theorem rstmt_cont  (n : Nat) (s : List UInt8) (l : List Nd) (p : Int) (a : Option Addr) (c : Nat) (w : World) (ht : (Nd.mk 35 s l p).height ≤ n + 1) (hg : Glob w) (hk : Kids w w.heap.size a l) (hf : Fits (.mk 35 s l p) c) :
    Calls Tryz.prog 17 #[.agg #[.int .i64 35, .string ⟨s.toArray⟩, .slice a l.length c, .int .i64 p]] w fun e w' => e = .returned (.bool (s.isEmpty && kids0 l)) ∧ Below w.heap.size w w' := by
  have hkid : ∀ x, x ∈ l → x.height ≤ n := fun x hx => by have := Nd.height_kid (t := .mk 35 s l p) hx; omega
  have hs : s.length ≤ 140737488351232 := hf.2.2.2.2.1
  have hcap : l.length ≤ c := hf.2.2.2.2.2.1
  have hl2 : l.length ≤ 9223372036854775807 := by have := hf.2.2.2.2.2.2.1; omega
  cases l with
  | nil =>
    obtain ⟨wa, hwa, hba, e0, e1, e2, e3⟩ := laid4 w (.int .i64 35) (.string ⟨s.toArray⟩) (.slice a 0 c) (.int .i64 p) 25
    obtain ⟨S, hS⟩ : ∃ S : World → Prop, S = fun W => (W.cell? ⟨w.heap.size, 0, none⟩ = some (.int .i64 35) ∧ W.cell? ⟨w.heap.size, 1, none⟩ = some (.string ⟨s.toArray⟩) ∧ W.cell? ⟨w.heap.size, 2, none⟩ = some (.slice a 0 c) ∧ W.cell? ⟨w.heap.size, 3, none⟩ = some (.int .i64 p)) := ⟨_, rfl⟩
    have HKB := Lib.hid (show Keep S by rw [hS]; exact keep_and (keep_cell _ _) (keep_and (keep_cell _ _) (keep_and (keep_cell _ _) (keep_cell _ _))))
    have HP := Lib.hid (show Nk w n S [] wa from ⟨hba, hg.on hba, by rw [hS]; exact ⟨e0, e1, e2, e3⟩, fun q hq => by cases hq⟩)
    have HS := Lib.hid hS
    clear hg hk hf ht hkid hba hS
    go_enter Tryz.func17, Tryz.ntmps17
    go_wp2_with fail
    all_goals
      go_ret
      exact ⟨ret_bool (by first | (simp_all [kids0]; done) | (simp_all [kids0]; omega)), HP.out.below⟩
  | cons x r =>
    have hn : ((r.length : Int) + 1 == 0) = false := by simp; omega
    obtain ⟨wa, hwa, hba, e0, e1, e2, e3⟩ := laid4 w (.int .i64 35) (.string ⟨s.toArray⟩) (.slice a (r.length + 1) c) (.int .i64 p) 25
    obtain ⟨S, hS⟩ : ∃ S : World → Prop, S = fun W => (W.cell? ⟨w.heap.size, 0, none⟩ = some (.int .i64 35) ∧ W.cell? ⟨w.heap.size, 1, none⟩ = some (.string ⟨s.toArray⟩) ∧ W.cell? ⟨w.heap.size, 2, none⟩ = some (.slice a (r.length + 1) c) ∧ W.cell? ⟨w.heap.size, 3, none⟩ = some (.int .i64 p)) := ⟨_, rfl⟩
    have HKB := Lib.hid (show Keep S by rw [hS]; exact keep_and (keep_cell _ _) (keep_and (keep_cell _ _) (keep_and (keep_cell _ _) (keep_cell _ _))))
    have HP := Lib.hid (show Nk w n S [] wa from ⟨hba, hg.on hba, by rw [hS]; exact ⟨e0, e1, e2, e3⟩, fun q hq => by cases hq⟩)
    have HS := Lib.hid hS
    clear hg hk hf ht hkid hba hS
    go_enter Tryz.func17, Tryz.ntmps17
    go_wp2_with fail
    all_goals
      go_ret
      exact ⟨ret_bool (by first | (simp_all [kids0]; done) | (simp_all [kids0]; omega)), HP.out.below⟩

set_option maxRecDepth 100000 in
set_option maxHeartbeats 8000000 in
theorem rstmt_var (ty : Nd → Bool) (ex : Nd → Bool) (n : Nat) (h_ty : Ok 15 ty n) (h_ex : Ok 16 ex n) (s : List UInt8) (l : List Nd) (p : Int) (a : Option Addr) (c : Nat) (w : World) (ht : (Nd.mk 5 s l p).height ≤ n + 1) (hg : Glob w) (hk : Kids w w.heap.size a l) (hf : Fits (.mk 5 s l p) c) :
    Calls Tryz.prog 17 #[.agg #[.int .i64 5, .string ⟨s.toArray⟩, .slice a l.length c, .int .i64 p]] w fun e w' => e = .returned (.bool (nameL s && varKids ty ex l)) ∧ Below w.heap.size w w' := by
  have hkid : ∀ x, x ∈ l → x.height ≤ n := fun x hx => by have := Nd.height_kid (t := .mk 5 s l p) hx; omega
  have hs : s.length ≤ 140737488351232 := hf.2.2.2.2.1
  have hcap : l.length ≤ c := hf.2.2.2.2.2.1
  have hl2 : l.length ≤ 9223372036854775807 := by have := hf.2.2.2.2.2.2.1; omega
  obtain ⟨wa, hwa, hba, e0, e1, e2, e3⟩ := laid4 w (.int .i64 5) (.string ⟨s.toArray⟩) (.slice a l.length c) (.int .i64 p) 25
  obtain ⟨S, hS⟩ : ∃ S : World → Prop, S = fun W => (W.cell? ⟨w.heap.size, 0, none⟩ = some (.int .i64 5) ∧ W.cell? ⟨w.heap.size, 1, none⟩ = some (.string ⟨s.toArray⟩) ∧ W.cell? ⟨w.heap.size, 2, none⟩ = some (.slice a l.length c) ∧ W.cell? ⟨w.heap.size, 3, none⟩ = some (.int .i64 p)) := ⟨_, rfl⟩
  have HKB := Lib.hid (show Keep S by rw [hS]; exact keep_and (keep_cell _ _) (keep_and (keep_cell _ _) (keep_and (keep_cell _ _) (keep_cell _ _))))
  have HP := Lib.hid (show Nk w n S [] wa from ⟨hba, hg.on hba, by rw [hS]; exact ⟨e0, e1, e2, e3⟩, fun q hq => by cases hq⟩)
  have HS := Lib.hid hS
  have hx := nk_post HP.out HKB.out (rvar_five ty ex n h_ty h_ex s l p a c wa ht HP.out.glob (hk.on hba) hf)
  obtain ⟨R, hR⟩ : ∃ R, (nameL s && varKids ty ex l) = R := ⟨_, rfl⟩
  rw [hR] at hx
  rw [hR]
  have HX := Lib.hid hx
  clear hx hR h_ty h_ex hg hk hf ht hkid hba hS
  go_enter Tryz.func17, Tryz.ntmps17
  go_wp2_with fail
  refine HX.out.mono ?_
  rintro e w1 ⟨rfl, h1, HP⟩
  go_wp2_with fail
  go_ret
  exact ⟨rfl, HP.out.below⟩

end Go.Proofs.YtfcpblclfgkdjaaGreatDoor

namespace Go.Proofs.YtfcpblclfgkdjaaGreatDoor
set_option linter.unusedSimpArgs false
set_option linter.unusedVariables false
open Go.RowKit

set_option maxRecDepth 100000 in
set_option maxHeartbeats 8000000 in
theorem rstmt_if (ex : Nd → Bool) (bl : Nd → Bool) (st : Nd → Bool) (n : Nat) (h_ex : Ok 16 ex n) (h_bl : Ok 30 bl n) (h_st : Ok 17 st n) (s : List UInt8) (l : List Nd) (p : Int) (a : Option Addr) (c : Nat) (w : World) (ht : (Nd.mk 30 s l p).height ≤ n + 1) (hg : Glob w) (hk : Kids w w.heap.size a l) (hf : Fits (.mk 30 s l p) c) :
    Calls Tryz.prog 17 #[.agg #[.int .i64 30, .string ⟨s.toArray⟩, .slice a l.length c, .int .i64 p]] w fun e w' => e = .returned (.bool (s.isEmpty && kids3 ex bl (fun k => emptyB k || ((k.kind == 36 || k.kind == 30) && st k)) l)) ∧ Below w.heap.size w w' := by
  have hkid : ∀ x, x ∈ l → x.height ≤ n := fun x hx => by have := Nd.height_kid (t := .mk 30 s l p) hx; omega
  have hs : s.length ≤ 140737488351232 := hf.2.2.2.2.1
  have hcap : l.length ≤ c := hf.2.2.2.2.2.1
  have hl2 : l.length ≤ 9223372036854775807 := by have := hf.2.2.2.2.2.2.1; omega
  have H_ex := Lib.hid h_ex
  have H_bl := Lib.hid h_bl
  have H_st := Lib.hid h_st
  clear h_ex h_bl h_st
  by_cases hlen : l.length = 3
  · obtain ⟨x1, x2, x3, rfl⟩ : ∃ x1 x2 x3, l = [x1, x2, x3] := by
      match l, hlen with
      | [x1, x2, x3], _ => exact ⟨x1, x2, x3, rfl⟩
    obtain ⟨b, off, a1, c1, a2, c2, a3, c3, rfl, ⟨q1, f1, k1⟩, ⟨q2, f2, k2⟩, ⟨q3, f3, k3⟩⟩ := hk.n3
    have h1 := hkid x1 (by simp)
    have h2 := hkid x2 (by simp)
    have h3 := hkid x3 (by simp)
    obtain ⟨wa, hwa, hba, e0, e1, e2, e3⟩ := laid4 w (.int .i64 30) (.string ⟨s.toArray⟩) (.slice (some ⟨b, off, none⟩) 3 c) (.int .i64 p) 25
    have q1 := Four.on q1 hba
    have q2 := Four.on q2 hba
    have q3 := Four.on q3 hba
    obtain ⟨S, hS⟩ : ∃ S : World → Prop, S = fun W => (W.cell? ⟨w.heap.size, 0, none⟩ = some (.int .i64 30) ∧ W.cell? ⟨w.heap.size, 1, none⟩ = some (.string ⟨s.toArray⟩) ∧ W.cell? ⟨w.heap.size, 2, none⟩ = some (.slice (some ⟨b, off, none⟩) 3 c) ∧ W.cell? ⟨w.heap.size, 3, none⟩ = some (.int .i64 p)) ∧ Four W b off x1 a1 c1 ∧ Four W b (off + 4) x2 a2 c2 ∧ Four W b (off + 8) x3 a3 c3 := ⟨_, rfl⟩
    have HKB := Lib.hid (show Keep S by rw [hS]; exact keep_and (keep_and (keep_cell _ _) (keep_and (keep_cell _ _) (keep_and (keep_cell _ _) (keep_cell _ _)))) (keep_and (keep_four _ _ _ _ _) (keep_and (keep_four _ _ _ _ _) (keep_four _ _ _ _ _))))
    have HP := Lib.hid (show Nk w n S [(x1, a1, c1), (x2, a2, c2), (x3, a3, c3)] wa from ⟨hba, hg.on hba, by rw [hS]; exact ⟨⟨e0, e1, e2, e3⟩, q1, q2, q3⟩, fun q hq => by
      simp only [List.mem_cons, List.not_mem_nil, or_false] at hq
      rcases hq with rfl | rfl | rfl
      · exact ⟨h1, k1.on hba, f1⟩
      · exact ⟨h2, k2.on hba, f2⟩
      · exact ⟨h3, k3.on hba, f3⟩⟩)
    obtain ⟨q10, q11, q12, q13⟩ := q1
    obtain ⟨q20, q21, q22, q23⟩ := q2
    obtain ⟨q30, q31, q32, q33⟩ := q3
    have HS := Lib.hid hS
    clear hg hk hf ht hkid hba hS f1 k1 h1 f2 k2 h2 f3 k3 h3
    go_enter Tryz.func17, Tryz.ntmps17
    go_wp2_with (first
      | (go_at_call 36
         refine (nk_nothing HP.out HKB.out _ _ _).mono ?_
         rintro e w1 ⟨rfl, h1, HP⟩
         rw [HS.out] at h1
         obtain ⟨⟨e0, e1, e2, e3⟩, ⟨q10, q11, q12, q13⟩, ⟨q20, q21, q22, q23⟩, ⟨q30, q31, q32, q33⟩⟩ := h1)
      | (go_at_call 16
         refine (nk_ok HP.out HKB.out H_ex.out _ _ _ ?_).mono ?_
         focus (simp)
         rintro e w1 ⟨rfl, h1, HP⟩
         rw [HS.out] at h1
         obtain ⟨⟨e0, e1, e2, e3⟩, ⟨q10, q11, q12, q13⟩, ⟨q20, q21, q22, q23⟩, ⟨q30, q31, q32, q33⟩⟩ := h1)
      | (go_at_call 30
         refine (nk_ok HP.out HKB.out H_bl.out _ _ _ ?_).mono ?_
         focus (simp)
         rintro e w1 ⟨rfl, h1, HP⟩
         rw [HS.out] at h1
         obtain ⟨⟨e0, e1, e2, e3⟩, ⟨q10, q11, q12, q13⟩, ⟨q20, q21, q22, q23⟩, ⟨q30, q31, q32, q33⟩⟩ := h1)
      | (go_at_call 37
         refine (nk_kind2 HP.out HKB.out H_st.out _ _ _ _ _ ?_).mono ?_
         focus (simp)
         rintro e w1 ⟨rfl, h1, HP⟩
         rw [HS.out] at h1
         obtain ⟨⟨e0, e1, e2, e3⟩, ⟨q10, q11, q12, q13⟩, ⟨q20, q21, q22, q23⟩, ⟨q30, q31, q32, q33⟩⟩ := h1))
    all_goals
      go_ret
      exact ⟨ret_bool (by first | (simp_all [kids3]; done) | (simp_all [kids3]; simp [Bool.and_assoc]; done) | (simp_all [kids3]; omega)), HP.out.below⟩
  · have hn : ((l.length : Int) == 3) = false := by simp; omega
    have HV := Lib.hid (show kids3 ex bl (fun k => emptyB k || ((k.kind == 36 || k.kind == 30) && st k)) l = false from by
      match l, hlen with
      | [], _ => rfl
      | [_], _ => rfl
      | [_, _], _ => rfl
      | [_, _, _], h => simp at h
      | _ :: _ :: _ :: _ :: _, _ => rfl)
    obtain ⟨wa, hwa, hba, e0, e1, e2, e3⟩ := laid4 w (.int .i64 30) (.string ⟨s.toArray⟩) (.slice a l.length c) (.int .i64 p) 25
    obtain ⟨S, hS⟩ : ∃ S : World → Prop, S = fun W => (W.cell? ⟨w.heap.size, 0, none⟩ = some (.int .i64 30) ∧ W.cell? ⟨w.heap.size, 1, none⟩ = some (.string ⟨s.toArray⟩) ∧ W.cell? ⟨w.heap.size, 2, none⟩ = some (.slice a l.length c) ∧ W.cell? ⟨w.heap.size, 3, none⟩ = some (.int .i64 p)) := ⟨_, rfl⟩
    have HKB := Lib.hid (show Keep S by rw [hS]; exact keep_and (keep_cell _ _) (keep_and (keep_cell _ _) (keep_and (keep_cell _ _) (keep_cell _ _))))
    have HP := Lib.hid (show Nk w n S [] wa from ⟨hba, hg.on hba, by rw [hS]; exact ⟨e0, e1, e2, e3⟩, fun q hq => by cases hq⟩)
    have HS := Lib.hid hS
    clear hg hk hf ht hkid hba hS
    go_enter Tryz.func17, Tryz.ntmps17
    go_wp2_with fail
    all_goals
      go_ret
      exact ⟨ret_bool (by rw [HV.out]; simp), HP.out.below⟩

set_option maxRecDepth 100000 in
set_option maxHeartbeats 8000000 in
theorem rstmt_for (ex : Nd → Bool) (bl : Nd → Bool) (st : Nd → Bool) (n : Nat) (h_ex : Ok 16 ex n) (h_bl : Ok 30 bl n) (h_st : Ok 17 st n) (s : List UInt8) (l : List Nd) (p : Int) (a : Option Addr) (c : Nat) (w : World) (ht : (Nd.mk 31 s l p).height ≤ n + 1) (hg : Glob w) (hk : Kids w w.heap.size a l) (hf : Fits (.mk 31 s l p) c) :
    Calls Tryz.prog 17 #[.agg #[.int .i64 31, .string ⟨s.toArray⟩, .slice a l.length c, .int .i64 p]] w fun e w' => e = .returned (.bool (s.isEmpty && kids4 (fun k => emptyB k || ((k.kind == 26 || (k.kind == 27 || k.kind == 28)) && st k)) (fun k => emptyB k || ex k) (fun k => emptyB k || ((k.kind == 27 || (k.kind == 28 || k.kind == 29)) && st k)) bl l)) ∧ Below w.heap.size w w' := by
  have hkid : ∀ x, x ∈ l → x.height ≤ n := fun x hx => by have := Nd.height_kid (t := .mk 31 s l p) hx; omega
  have hs : s.length ≤ 140737488351232 := hf.2.2.2.2.1
  have hcap : l.length ≤ c := hf.2.2.2.2.2.1
  have hl2 : l.length ≤ 9223372036854775807 := by have := hf.2.2.2.2.2.2.1; omega
  have H_ex := Lib.hid h_ex
  have H_bl := Lib.hid h_bl
  have H_st := Lib.hid h_st
  clear h_ex h_bl h_st
  by_cases hlen : l.length = 4
  · obtain ⟨x1, x2, x3, x4, rfl⟩ : ∃ x1 x2 x3 x4, l = [x1, x2, x3, x4] := by
      match l, hlen with
      | [x1, x2, x3, x4], _ => exact ⟨x1, x2, x3, x4, rfl⟩
    obtain ⟨b, off, a1, c1, a2, c2, a3, c3, a4, c4, rfl, ⟨q1, f1, k1⟩, ⟨q2, f2, k2⟩, ⟨q3, f3, k3⟩, ⟨q4, f4, k4⟩⟩ := hk.n4
    have h1 := hkid x1 (by simp)
    have h2 := hkid x2 (by simp)
    have h3 := hkid x3 (by simp)
    have h4 := hkid x4 (by simp)
    obtain ⟨wa, hwa, hba, e0, e1, e2, e3⟩ := laid4 w (.int .i64 31) (.string ⟨s.toArray⟩) (.slice (some ⟨b, off, none⟩) 4 c) (.int .i64 p) 25
    have q1 := Four.on q1 hba
    have q2 := Four.on q2 hba
    have q3 := Four.on q3 hba
    have q4 := Four.on q4 hba
    obtain ⟨S, hS⟩ : ∃ S : World → Prop, S = fun W => (W.cell? ⟨w.heap.size, 0, none⟩ = some (.int .i64 31) ∧ W.cell? ⟨w.heap.size, 1, none⟩ = some (.string ⟨s.toArray⟩) ∧ W.cell? ⟨w.heap.size, 2, none⟩ = some (.slice (some ⟨b, off, none⟩) 4 c) ∧ W.cell? ⟨w.heap.size, 3, none⟩ = some (.int .i64 p)) ∧ Four W b off x1 a1 c1 ∧ Four W b (off + 4) x2 a2 c2 ∧ Four W b (off + 8) x3 a3 c3 ∧ Four W b (off + 12) x4 a4 c4 := ⟨_, rfl⟩
    have HKB := Lib.hid (show Keep S by rw [hS]; exact keep_and (keep_and (keep_cell _ _) (keep_and (keep_cell _ _) (keep_and (keep_cell _ _) (keep_cell _ _)))) (keep_and (keep_four _ _ _ _ _) (keep_and (keep_four _ _ _ _ _) (keep_and (keep_four _ _ _ _ _) (keep_four _ _ _ _ _)))))
    have HP := Lib.hid (show Nk w n S [(x1, a1, c1), (x2, a2, c2), (x3, a3, c3), (x4, a4, c4)] wa from ⟨hba, hg.on hba, by rw [hS]; exact ⟨⟨e0, e1, e2, e3⟩, q1, q2, q3, q4⟩, fun q hq => by
      simp only [List.mem_cons, List.not_mem_nil, or_false] at hq
      rcases hq with rfl | rfl | rfl | rfl
      · exact ⟨h1, k1.on hba, f1⟩
      · exact ⟨h2, k2.on hba, f2⟩
      · exact ⟨h3, k3.on hba, f3⟩
      · exact ⟨h4, k4.on hba, f4⟩⟩)
    obtain ⟨q10, q11, q12, q13⟩ := q1
    obtain ⟨q20, q21, q22, q23⟩ := q2
    obtain ⟨q30, q31, q32, q33⟩ := q3
    obtain ⟨q40, q41, q42, q43⟩ := q4
    have HS := Lib.hid hS
    clear hg hk hf ht hkid hba hS f1 k1 h1 f2 k2 h2 f3 k3 h3 f4 k4 h4
    go_enter Tryz.func17, Tryz.ntmps17
    go_wp2_with (first
      | (go_at_call 36
         refine (nk_nothing HP.out HKB.out _ _ _).mono ?_
         rintro e w1 ⟨rfl, h1, HP⟩
         rw [HS.out] at h1
         obtain ⟨⟨e0, e1, e2, e3⟩, ⟨q10, q11, q12, q13⟩, ⟨q20, q21, q22, q23⟩, ⟨q30, q31, q32, q33⟩, ⟨q40, q41, q42, q43⟩⟩ := h1)
      | (go_at_call 16
         refine (nk_ok HP.out HKB.out H_ex.out _ _ _ ?_).mono ?_
         focus (simp)
         rintro e w1 ⟨rfl, h1, HP⟩
         rw [HS.out] at h1
         obtain ⟨⟨e0, e1, e2, e3⟩, ⟨q10, q11, q12, q13⟩, ⟨q20, q21, q22, q23⟩, ⟨q30, q31, q32, q33⟩, ⟨q40, q41, q42, q43⟩⟩ := h1)
      | (go_at_call 30
         refine (nk_ok HP.out HKB.out H_bl.out _ _ _ ?_).mono ?_
         focus (simp)
         rintro e w1 ⟨rfl, h1, HP⟩
         rw [HS.out] at h1
         obtain ⟨⟨e0, e1, e2, e3⟩, ⟨q10, q11, q12, q13⟩, ⟨q20, q21, q22, q23⟩, ⟨q30, q31, q32, q33⟩, ⟨q40, q41, q42, q43⟩⟩ := h1)
      | (go_at_call 37
         refine (nk_kind3 HP.out HKB.out H_st.out _ _ _ _ _ _ ?_).mono ?_
         focus (simp)
         rintro e w1 ⟨rfl, h1, HP⟩
         rw [HS.out] at h1
         obtain ⟨⟨e0, e1, e2, e3⟩, ⟨q10, q11, q12, q13⟩, ⟨q20, q21, q22, q23⟩, ⟨q30, q31, q32, q33⟩, ⟨q40, q41, q42, q43⟩⟩ := h1))
    all_goals
      go_ret
      exact ⟨ret_bool (by first | (simp_all [kids4]; done) | (simp_all [kids4]; simp [Bool.and_assoc]; done) | (simp_all [kids4]; omega)), HP.out.below⟩
  · have hn : ((l.length : Int) == 4) = false := by simp; omega
    have HV := Lib.hid (show kids4 (fun k => emptyB k || ((k.kind == 26 || (k.kind == 27 || k.kind == 28)) && st k)) (fun k => emptyB k || ex k) (fun k => emptyB k || ((k.kind == 27 || (k.kind == 28 || k.kind == 29)) && st k)) bl l = false from by
      match l, hlen with
      | [], _ => rfl
      | [_], _ => rfl
      | [_, _], _ => rfl
      | [_, _, _], _ => rfl
      | [_, _, _, _], h => simp at h
      | _ :: _ :: _ :: _ :: _ :: _, _ => rfl)
    obtain ⟨wa, hwa, hba, e0, e1, e2, e3⟩ := laid4 w (.int .i64 31) (.string ⟨s.toArray⟩) (.slice a l.length c) (.int .i64 p) 25
    obtain ⟨S, hS⟩ : ∃ S : World → Prop, S = fun W => (W.cell? ⟨w.heap.size, 0, none⟩ = some (.int .i64 31) ∧ W.cell? ⟨w.heap.size, 1, none⟩ = some (.string ⟨s.toArray⟩) ∧ W.cell? ⟨w.heap.size, 2, none⟩ = some (.slice a l.length c) ∧ W.cell? ⟨w.heap.size, 3, none⟩ = some (.int .i64 p)) := ⟨_, rfl⟩
    have HKB := Lib.hid (show Keep S by rw [hS]; exact keep_and (keep_cell _ _) (keep_and (keep_cell _ _) (keep_and (keep_cell _ _) (keep_cell _ _))))
    have HP := Lib.hid (show Nk w n S [] wa from ⟨hba, hg.on hba, by rw [hS]; exact ⟨e0, e1, e2, e3⟩, fun q hq => by cases hq⟩)
    have HS := Lib.hid hS
    clear hg hk hf ht hkid hba hS
    go_enter Tryz.func17, Tryz.ntmps17
    go_wp2_with fail
    all_goals
      go_ret
      exact ⟨ret_bool (by rw [HV.out]; simp), HP.out.below⟩

end Go.Proofs.YtfcpblclfgkdjaaGreatDoor

