/-
  the document's fields, inter; walked. (printed by gen_rr.py)
  the document's Type, walked. (printed by gen_rr.py)
-/
import Derived.Test.YtnmebgiiajnnjaaGreatRrF
namespace Go.Proofs.YtnmebgiiajnnjaaGreat
set_option linter.unusedSimpArgs false
set_option linter.unusedVariables false
open Go.RowKit

set_option maxRecDepth 100000 in
set_option maxHeartbeats 8000000 in
theorem rfields_ok (ty : Nd → Bool) (n : Nat) (h_ty : Ok 19 ty n) : Ok 40 (rowB 13 (fieldB ty)) (n + 2) := by
  intro t a c w ht hg hk hf
  have hkid : ∀ x, x ∈ t.kids → x.height + 1 ≤ n + 2 := fun x hx => by have := Nd.height_kid hx; omega
  have hl2 : t.kids.length ≤ 9223372036854775807 := by have := hf.2.2.2.2.2.1; have := hf.2.2.2.2.2.2; omega
  obtain ⟨k, s, l, p⟩ := t
  simp only [Nd.kind_mk, Nd.text_mk, Nd.kids_mk, Nd.pos_mk] at *
  have H_ty := Lib.hid h_ty
  clear h_ty
  obtain ⟨PB, hPB⟩ : ∃ PB : Nd → Bool, PB = fieldB ty := ⟨_, rfl⟩
  have hE : (rowB 13 (fieldB ty)) (.mk k s l p) = (k == 13 && (s.isEmpty && l.all PB)) := by rw [hPB]; rfl
  rw [hE]
  have HPB := Lib.hid hPB
  clear hE hPB
  obtain ⟨wa, hwa, hba, e0, e1, e2, e3⟩ := laid4 w (.int .i64 k) (.string ⟨s.toArray⟩) (.slice a l.length c) (.int .i64 p) 24
  obtain ⟨S, hS⟩ : ∃ S : World → Prop, S = fun W => (W.cell? ⟨w.heap.size, 0, none⟩ = some (.int .i64 k) ∧ W.cell? ⟨w.heap.size, 1, none⟩ = some (.string ⟨s.toArray⟩) ∧ W.cell? ⟨w.heap.size, 2, none⟩ = some (.slice a l.length c) ∧ W.cell? ⟨w.heap.size, 3, none⟩ = some (.int .i64 p)) := ⟨_, rfl⟩
  have HKB := Lib.hid (show Keep S by rw [hS]; exact keep_and (keep_cell _ _) (keep_and (keep_cell _ _) (keep_and (keep_cell _ _) (keep_cell _ _))))
  have HP := Lib.hid (show Nk w n S [] wa from ⟨hba, hg.on hba, by rw [hS]; exact ⟨e0, e1, e2, e3⟩, fun q hq => by cases hq⟩)
  have HKW := Lib.hid (fun W (hW : Below w.heap.size w W) => hk.on hW)
  have HHT := Lib.hid hkid
  have HS := Lib.hid hS
  clear hS hg hf ht hba hk hkid
  cases k0 : (k == 13) with
  | false =>
    have k1 : (k != 13) = true := by simp [bne, k0]
    clear k0
    go_enter Tryz.func40, Tryz.ntmps40
    go_wp2_with fail
    go_ret
    exact ⟨ret_bool (by rfl), HP.out.below⟩
  | true =>
  have k1 : (k != 13) = false := by simp [bne, k0]
  clear k0
  cases hse : s.isEmpty with
  | false =>
    go_enter Tryz.func40, Tryz.ntmps40
    go_wp2_with fail
    go_ret
    exact ⟨ret_bool (by rfl), HP.out.below⟩
  | true =>
  go_enter Tryz.func40, Tryz.ntmps40
  go_wp2_with fail
  go_loopw [3] (fun i wr => ∃ j : Nat, j ≤ l.length ∧ i = .int .i64 j ∧ Hid ((l.take j).all PB = true) ∧ S wr ∧ Hid (Nk w n S [] wr)) (fun i _ => l.length - (intOf i).toNat)
  case atStart => exact ⟨0, by omega, rfl, Lib.hid rfl, HP.out.cells, HP⟩
  case round =>
    obtain ⟨j, hj1, rfl, HALL, hs2, HP⟩ := hrel
    rw [HS.out] at hs2
    obtain ⟨e0, e1, e2, e3⟩ := hs2
    by_cases hlt : j < l.length
    · obtain ⟨b, off, a', c', ha, -, ⟨q0, q1, q2, q3⟩, hfq, hkq⟩ := (HKW.out _ HP.out.below).get hlt
      subst ha
      have HNX := Lib.hid (fun e => alls_next (f := PB) hlt HALL.out e)
      have HNO := Lib.hid (fun e => alls_no (f := PB) hlt e)
      have hqh := HHT.out _ (List.getElem_mem hlt)
      obtain ⟨q, hq⟩ : ∃ q, l[j] = q := ⟨_, rfl⟩
      rw [hq] at q0 q1 q2 q3 hfq hkq hqh HNX HNO
      clear hq
      obtain ⟨qk, qs, ql, qp⟩ := q
      simp only [Nd.kind_mk, Nd.text_mk, Nd.kids_mk, Nd.pos_mk] at q0 q1 q2 q3 hkq
      have hqs : qs.length ≤ 140737488351232 := hfq.2.2.2.2.1
      by_cases hlen : ql.length = 1
      · obtain ⟨z, rfl⟩ : ∃ z, ql = [z] := by
          match ql, hlen with
          | [z], _ => exact ⟨z, rfl⟩
        obtain ⟨bz, oz, az, cz, rfl, hz4, fz, kz⟩ := hkq.n1
        have hzh := Nd.height_kid (t := .mk qk qs [z] qp) (k := z) (by simp)
        obtain ⟨wb, hwb, hbb, d0, d1, d2, d3⟩ := laid4 wr (.int .i64 qk) (.string ⟨qs.toArray⟩) (.slice (some ⟨bz, oz, none⟩) 1 c') (.int .i64 qp) 24
        obtain ⟨S2, hS2⟩ : ∃ S2 : World → Prop, S2 = fun W => S W ∧ (W.cell? ⟨wr.heap.size, 0, none⟩ = some (.int .i64 qk) ∧ W.cell? ⟨wr.heap.size, 1, none⟩ = some (.string ⟨qs.toArray⟩) ∧ W.cell? ⟨wr.heap.size, 2, none⟩ = some (.slice (some ⟨bz, oz, none⟩) 1 c') ∧ W.cell? ⟨wr.heap.size, 3, none⟩ = some (.int .i64 qp)) ∧ Four W bz oz z az cz := ⟨_, rfl⟩
        have HKB2 := Lib.hid (show Keep S2 by rw [hS2]; exact keep_and HKB.out (keep_and (keep_and (keep_cell _ _) (keep_and (keep_cell _ _) (keep_and (keep_cell _ _) (keep_cell _ _)))) (keep_four _ _ _ _ _)))
        have hz4' := Four.on hz4 hbb
        have HP2 := Lib.hid (show Nk w n S2 [(z, az, cz)] wb from (HP.out.on HKB.out hbb).more (by rw [hS2]; exact ⟨(HP.out.on HKB.out hbb).cells, ⟨d0, d1, d2, d3⟩, hz4'⟩) (fun r hr => by
          rw [List.mem_singleton] at hr
          subst hr
          exact .inr ⟨by show z.height ≤ n; omega, kz.on hbb, fz⟩))
        have hwrl : wr.heap.size < wb.heap.size := cell_lt d0
        obtain ⟨z0, z1, z2, z3⟩ := hz4'
        have HS2 := Lib.hid hS2
        have HPQ := Lib.hid (show PB (.mk qk qs [z] qp) = (nameL qs && (qk == 9 && ty z)) by rw [HPB.out]; rfl)
        clear hfq hkq hqh fz kz hzh hlen hS2 hbb hz4
        go_wp2_with (first
          | (go_at_call 17
             refine (nk_name HP2.out HKB2.out _ (by first | exact hqs | omega)).mono ?_
             rintro e w1 ⟨rfl, h1, HP2⟩
             rw [HS2.out] at h1
             obtain ⟨-, ⟨d0, d1, d2, d3⟩, z0, z1, z2, z3⟩ := h1)
          | (go_at_call 19
             refine (nk_ok HP2.out HKB2.out H_ty.out _ _ _ ?_).mono ?_
             focus (simp)
             rintro e w1 ⟨rfl, h1, HP2⟩
             rw [HS2.out] at h1
             obtain ⟨-, ⟨d0, d1, d2, d3⟩, z0, z1, z2, z3⟩ := h1))
        all_goals first
          | (go_ret
             exact ⟨ret_bool (by rw [HNO.out (by rw [HPQ.out]; simp_all [])]; rfl), HP2.out.below⟩)
          | (have HA2 := Lib.hid (HNX.out (by rw [HPQ.out]; simp_all []))
             have HN2 := Lib.hid (show Nk w n S [] _ from HP2.out.less (fun h => by rw [HS2.out] at h; exact h.1) (by simp))
             go_roundw
             case rel => exact ⟨j + 1, by omega, by go_num, HA2, HN2.out.cells, HN2⟩
             case measure => simp [intOf]; omega)
      · have HV := Lib.hid (show l.all PB = false from HNO.out (by
          rw [HPB.out]
          match ql, hlen with
          | [], _ => simp [fieldB, kids1]
          | [_], h => simp at h
          | _ :: _ :: _, _ => simp [fieldB, kids1]))
        obtain ⟨wb, hwb, hbb, d0, d1, d2, d3⟩ := laid4 wr (.int .i64 qk) (.string ⟨qs.toArray⟩) (.slice a' ql.length c') (.int .i64 qp) 24
        have hqn : ((ql.length : Int) != 1) = true := by simp; omega
        obtain ⟨S2, hS2⟩ : ∃ S2 : World → Prop, S2 = fun W => (W.cell? ⟨wr.heap.size, 0, none⟩ = some (.int .i64 qk) ∧ W.cell? ⟨wr.heap.size, 1, none⟩ = some (.string ⟨qs.toArray⟩) ∧ W.cell? ⟨wr.heap.size, 2, none⟩ = some (.slice a' ql.length c') ∧ W.cell? ⟨wr.heap.size, 3, none⟩ = some (.int .i64 qp)) := ⟨_, rfl⟩
        have HKB2 := Lib.hid (show Keep S2 by rw [hS2]; exact (keep_and (keep_cell _ _) (keep_and (keep_cell _ _) (keep_and (keep_cell _ _) (keep_cell _ _)))))
        have HP2 := Lib.hid (show Nk w n S2 [] wb from (HP.out.on HKB.out hbb).more (by rw [hS2]; exact ⟨d0, d1, d2, d3⟩) (fun r hr => by cases hr))
        have HS2 := Lib.hid hS2
        clear hS2 hfq hkq hqh hlen hbb
        go_wp2_with (first
          | (go_at_call 17
             refine (nk_name HP2.out HKB2.out _ (by first | exact hqs | omega)).mono ?_
             rintro e w1 ⟨rfl, h1, HP2⟩
             rw [HS2.out] at h1
             obtain ⟨d0, d1, d2, d3⟩ := h1))
        all_goals
          go_ret
          exact ⟨ret_bool (by rw [HV.out]; rfl), HP2.out.below⟩
    · obtain rfl : j = l.length := by omega
      have HV := Lib.hid (alls_end HALL.out)
      go_wp2_with fail
      go_ret
      exact ⟨ret_bool (by rw [HV.out]; rfl), HP.out.below⟩

set_option maxRecDepth 100000 in
set_option maxHeartbeats 8000000 in
theorem rinter_ok (ty : Nd → Bool) (n : Nat) (h_ty : Ok 19 ty n) : Ok 41 (interB (termB ty)) (n + 2) := by
  intro t a c w ht hg hk hf
  have hkid : ∀ x, x ∈ t.kids → x.height + 1 ≤ n + 2 := fun x hx => by have := Nd.height_kid hx; omega
  have hl2 : t.kids.length ≤ 9223372036854775807 := by have := hf.2.2.2.2.2.1; have := hf.2.2.2.2.2.2; omega
  obtain ⟨k, s, l, p⟩ := t
  simp only [Nd.kind_mk, Nd.text_mk, Nd.kids_mk, Nd.pos_mk] at *
  have H_ty := Lib.hid h_ty
  clear h_ty
  obtain ⟨PB, hPB⟩ : ∃ PB : Nd → Bool, PB = termB ty := ⟨_, rfl⟩
  have hE : (interB (termB ty)) (.mk k s l p) = (k == 14 && (s.isEmpty && (!l.isEmpty && l.all PB))) := by rw [hPB]; rfl
  rw [hE]
  have HPB := Lib.hid hPB
  clear hE hPB
  obtain ⟨wa, hwa, hba, e0, e1, e2, e3⟩ := laid4 w (.int .i64 k) (.string ⟨s.toArray⟩) (.slice a l.length c) (.int .i64 p) 24
  obtain ⟨S, hS⟩ : ∃ S : World → Prop, S = fun W => (W.cell? ⟨w.heap.size, 0, none⟩ = some (.int .i64 k) ∧ W.cell? ⟨w.heap.size, 1, none⟩ = some (.string ⟨s.toArray⟩) ∧ W.cell? ⟨w.heap.size, 2, none⟩ = some (.slice a l.length c) ∧ W.cell? ⟨w.heap.size, 3, none⟩ = some (.int .i64 p)) := ⟨_, rfl⟩
  have HKB := Lib.hid (show Keep S by rw [hS]; exact keep_and (keep_cell _ _) (keep_and (keep_cell _ _) (keep_and (keep_cell _ _) (keep_cell _ _))))
  have HP := Lib.hid (show Nk w n S [] wa from ⟨hba, hg.on hba, by rw [hS]; exact ⟨e0, e1, e2, e3⟩, fun q hq => by cases hq⟩)
  have HKW := Lib.hid (fun W (hW : Below w.heap.size w W) => hk.on hW)
  have HHT := Lib.hid hkid
  have HS := Lib.hid hS
  clear hS hg hf ht hba hk hkid
  cases k0 : (k == 14) with
  | false =>
    have k1 : (k != 14) = true := by simp [bne, k0]
    clear k0
    go_enter Tryz.func41, Tryz.ntmps41
    go_wp2_with fail
    go_ret
    exact ⟨ret_bool (by rfl), HP.out.below⟩
  | true =>
  have k1 : (k != 14) = false := by simp [bne, k0]
  clear k0
  cases hse : s.isEmpty with
  | false =>
    go_enter Tryz.func41, Tryz.ntmps41
    go_wp2_with fail
    go_ret
    exact ⟨ret_bool (by rfl), HP.out.below⟩
  | true =>
  cases hle : l.isEmpty with
  | true =>
    have hl0 : ((l.length : Int) == 0) = true := by rw [List.isEmpty_iff] at hle; simp [hle]
    go_enter Tryz.func41, Tryz.ntmps41
    go_wp2_with fail
    go_ret
    exact ⟨ret_bool (by rfl), HP.out.below⟩
  | false =>
  have hl0 : ((l.length : Int) == 0) = false := by rw [len_zero]; exact hle
  go_enter Tryz.func41, Tryz.ntmps41
  go_wp2_with fail
  go_loopw [3] (fun i wr => ∃ j : Nat, j ≤ l.length ∧ i = .int .i64 j ∧ Hid ((l.take j).all PB = true) ∧ S wr ∧ Hid (Nk w n S [] wr)) (fun i _ => l.length - (intOf i).toNat)
  case atStart => exact ⟨0, by omega, rfl, Lib.hid rfl, HP.out.cells, HP⟩
  case round =>
    obtain ⟨j, hj1, rfl, HALL, hs2, HP⟩ := hrel
    rw [HS.out] at hs2
    obtain ⟨e0, e1, e2, e3⟩ := hs2
    by_cases hlt : j < l.length
    · obtain ⟨b, off, a', c', ha, -, ⟨q0, q1, q2, q3⟩, hfq, hkq⟩ := (HKW.out _ HP.out.below).get hlt
      subst ha
      have HNX := Lib.hid (fun e => alls_next (f := PB) hlt HALL.out e)
      have HNO := Lib.hid (fun e => alls_no (f := PB) hlt e)
      have hqh := HHT.out _ (List.getElem_mem hlt)
      obtain ⟨q, hq⟩ : ∃ q, l[j] = q := ⟨_, rfl⟩
      rw [hq] at q0 q1 q2 q3 hfq hkq hqh HNX HNO
      clear hq
      obtain ⟨qk, qs, ql, qp⟩ := q
      simp only [Nd.kind_mk, Nd.text_mk, Nd.kids_mk, Nd.pos_mk] at q0 q1 q2 q3 hkq
      have hqs : qs.length ≤ 140737488351232 := hfq.2.2.2.2.1
      by_cases hlen : ql.length = 1
      · obtain ⟨z, rfl⟩ : ∃ z, ql = [z] := by
          match ql, hlen with
          | [z], _ => exact ⟨z, rfl⟩
        obtain ⟨bz, oz, az, cz, rfl, hz4, fz, kz⟩ := hkq.n1
        have hzh := Nd.height_kid (t := .mk qk qs [z] qp) (k := z) (by simp)
        obtain ⟨wb, hwb, hbb, d0, d1, d2, d3⟩ := laid4 wr (.int .i64 qk) (.string ⟨qs.toArray⟩) (.slice (some ⟨bz, oz, none⟩) 1 c') (.int .i64 qp) 24
        obtain ⟨S2, hS2⟩ : ∃ S2 : World → Prop, S2 = fun W => S W ∧ (W.cell? ⟨wr.heap.size, 0, none⟩ = some (.int .i64 qk) ∧ W.cell? ⟨wr.heap.size, 1, none⟩ = some (.string ⟨qs.toArray⟩) ∧ W.cell? ⟨wr.heap.size, 2, none⟩ = some (.slice (some ⟨bz, oz, none⟩) 1 c') ∧ W.cell? ⟨wr.heap.size, 3, none⟩ = some (.int .i64 qp)) ∧ Four W bz oz z az cz := ⟨_, rfl⟩
        have HKB2 := Lib.hid (show Keep S2 by rw [hS2]; exact keep_and HKB.out (keep_and (keep_and (keep_cell _ _) (keep_and (keep_cell _ _) (keep_and (keep_cell _ _) (keep_cell _ _)))) (keep_four _ _ _ _ _)))
        have hz4' := Four.on hz4 hbb
        have HP2 := Lib.hid (show Nk w n S2 [(z, az, cz)] wb from (HP.out.on HKB.out hbb).more (by rw [hS2]; exact ⟨(HP.out.on HKB.out hbb).cells, ⟨d0, d1, d2, d3⟩, hz4'⟩) (fun r hr => by
          rw [List.mem_singleton] at hr
          subst hr
          exact .inr ⟨by show z.height ≤ n; omega, kz.on hbb, fz⟩))
        have hwrl : wr.heap.size < wb.heap.size := cell_lt d0
        obtain ⟨z0, z1, z2, z3⟩ := hz4'
        have HS2 := Lib.hid hS2
        have HPQ := Lib.hid (show PB (.mk qk qs [z] qp) = (tildeL qs && (qk == 15 && ty z)) by rw [HPB.out]; rfl)
        clear hfq hkq hqh fz kz hzh hlen hS2 hbb hz4
        go_wp2_with (first
          | (go_at_call 19
             refine (nk_ok HP2.out HKB2.out H_ty.out _ _ _ ?_).mono ?_
             focus (simp)
             rintro e w1 ⟨rfl, h1, HP2⟩
             rw [HS2.out] at h1
             obtain ⟨-, ⟨d0, d1, d2, d3⟩, z0, z1, z2, z3⟩ := h1))
        all_goals first
          | (go_ret
             exact ⟨ret_bool (by rw [HNO.out (by rw [HPQ.out]; simp_all [tildeL])]; rfl), HP2.out.below⟩)
          | (have HA2 := Lib.hid (HNX.out (by rw [HPQ.out]; simp_all [tildeL]))
             have HN2 := Lib.hid (show Nk w n S [] _ from HP2.out.less (fun h => by rw [HS2.out] at h; exact h.1) (by simp))
             go_roundw
             case rel => exact ⟨j + 1, by omega, by go_num, HA2, HN2.out.cells, HN2⟩
             case measure => simp [intOf]; omega)
      · have HV := Lib.hid (show l.all PB = false from HNO.out (by
          rw [HPB.out]
          match ql, hlen with
          | [], _ => simp [termB, kids1]
          | [_], h => simp at h
          | _ :: _ :: _, _ => simp [termB, kids1]))
        obtain ⟨wb, hwb, hbb, d0, d1, d2, d3⟩ := laid4 wr (.int .i64 qk) (.string ⟨qs.toArray⟩) (.slice a' ql.length c') (.int .i64 qp) 24
        have hqn : ((ql.length : Int) != 1) = true := by simp; omega
        obtain ⟨S2, hS2⟩ : ∃ S2 : World → Prop, S2 = fun W => (W.cell? ⟨wr.heap.size, 0, none⟩ = some (.int .i64 qk) ∧ W.cell? ⟨wr.heap.size, 1, none⟩ = some (.string ⟨qs.toArray⟩) ∧ W.cell? ⟨wr.heap.size, 2, none⟩ = some (.slice a' ql.length c') ∧ W.cell? ⟨wr.heap.size, 3, none⟩ = some (.int .i64 qp)) := ⟨_, rfl⟩
        have HKB2 := Lib.hid (show Keep S2 by rw [hS2]; exact (keep_and (keep_cell _ _) (keep_and (keep_cell _ _) (keep_and (keep_cell _ _) (keep_cell _ _)))))
        have HP2 := Lib.hid (show Nk w n S2 [] wb from (HP.out.on HKB.out hbb).more (by rw [hS2]; exact ⟨d0, d1, d2, d3⟩) (fun r hr => by cases hr))
        have HS2 := Lib.hid hS2
        clear hS2 hfq hkq hqh hlen hbb
        go_wp2_with fail
        all_goals
          go_ret
          exact ⟨ret_bool (by rw [HV.out]; rfl), HP2.out.below⟩
    · obtain rfl : j = l.length := by omega
      have HV := Lib.hid (alls_end HALL.out)
      go_wp2_with fail
      go_ret
      exact ⟨ret_bool (by rw [HV.out]; rfl), HP.out.below⟩

set_option maxRecDepth 100000 in
set_option maxHeartbeats 8000000 in
theorem rparams_ok (ty it : Nd → Bool) (n : Nat) (h_ty : Ok 19 ty n) (h_it : Ok 41 it n) : Ok 38 (listB (tparamB (kindB 10 ty) it)) (n + 1) := by
  intro t a c w ht hg hk hf
  have hkid : ∀ x, x ∈ t.kids → x.height + 1 ≤ n + 1 := fun x hx => by have := Nd.height_kid hx; omega
  have hl2 : t.kids.length ≤ 9223372036854775807 := by have := hf.2.2.2.2.2.1; have := hf.2.2.2.2.2.2; omega
  obtain ⟨k, s, l, p⟩ := t
  simp only [Nd.kind_mk, Nd.text_mk, Nd.kids_mk, Nd.pos_mk] at *
  have H_it := Lib.hid h_it
  have H_ty := Lib.hid h_ty
  clear h_it h_ty
  obtain ⟨PB, hPB⟩ : ∃ PB : Nd → Bool, PB = tparamB (kindB 10 ty) it := ⟨_, rfl⟩
  have hE : (listB (tparamB (kindB 10 ty) it)) (.mk k s l p) = (k == 6 && (s.isEmpty && l.all PB)) := by rw [hPB]; rfl
  rw [hE]
  have HPB := Lib.hid hPB
  clear hE hPB
  obtain ⟨wa, hwa, hba, e0, e1, e2, e3⟩ := laid4 w (.int .i64 k) (.string ⟨s.toArray⟩) (.slice a l.length c) (.int .i64 p) 24
  obtain ⟨S, hS⟩ : ∃ S : World → Prop, S = fun W => (W.cell? ⟨w.heap.size, 0, none⟩ = some (.int .i64 k) ∧ W.cell? ⟨w.heap.size, 1, none⟩ = some (.string ⟨s.toArray⟩) ∧ W.cell? ⟨w.heap.size, 2, none⟩ = some (.slice a l.length c) ∧ W.cell? ⟨w.heap.size, 3, none⟩ = some (.int .i64 p)) := ⟨_, rfl⟩
  have HKB := Lib.hid (show Keep S by rw [hS]; exact keep_and (keep_cell _ _) (keep_and (keep_cell _ _) (keep_and (keep_cell _ _) (keep_cell _ _))))
  have HP := Lib.hid (show Nk w n S [] wa from ⟨hba, hg.on hba, by rw [hS]; exact ⟨e0, e1, e2, e3⟩, fun q hq => by cases hq⟩)
  have HKW := Lib.hid (fun W (hW : Below w.heap.size w W) => hk.on hW)
  have HHT := Lib.hid hkid
  have HS := Lib.hid hS
  clear hS hg hf ht hba hk hkid
  cases k0 : (k == 6) with
  | false =>
    have k1 : (k != 6) = true := by simp [bne, k0]
    clear k0
    go_enter Tryz.func38, Tryz.ntmps38
    go_wp2_with fail
    go_ret
    exact ⟨ret_bool (by rfl), HP.out.below⟩
  | true =>
  have k1 : (k != 6) = false := by simp [bne, k0]
  clear k0
  cases hse : s.isEmpty with
  | false =>
    go_enter Tryz.func38, Tryz.ntmps38
    go_wp2_with fail
    go_ret
    exact ⟨ret_bool (by rfl), HP.out.below⟩
  | true =>
  go_enter Tryz.func38, Tryz.ntmps38
  go_wp2_with fail
  go_loopw [3] (fun i wr => ∃ j : Nat, j ≤ l.length ∧ i = .int .i64 j ∧ Hid ((l.take j).all PB = true) ∧ S wr ∧ Hid (Nk w n S [] wr)) (fun i _ => l.length - (intOf i).toNat)
  case atStart => exact ⟨0, by omega, rfl, Lib.hid rfl, HP.out.cells, HP⟩
  case round =>
    obtain ⟨j, hj1, rfl, HALL, hs2, HP⟩ := hrel
    rw [HS.out] at hs2
    obtain ⟨e0, e1, e2, e3⟩ := hs2
    by_cases hlt : j < l.length
    · obtain ⟨b, off, a', c', ha, -, ⟨q0, q1, q2, q3⟩, hfq, hkq⟩ := (HKW.out _ HP.out.below).get hlt
      subst ha
      have HNX := Lib.hid (fun e => alls_next (f := PB) hlt HALL.out e)
      have HNO := Lib.hid (fun e => alls_no (f := PB) hlt e)
      have hqh := HHT.out _ (List.getElem_mem hlt)
      obtain ⟨q, hq⟩ : ∃ q, l[j] = q := ⟨_, rfl⟩
      rw [hq] at q0 q1 q2 q3 hfq hkq hqh HNX HNO
      clear hq
      obtain ⟨qk, qs, ql, qp⟩ := q
      simp only [Nd.kind_mk, Nd.text_mk, Nd.kids_mk, Nd.pos_mk] at q0 q1 q2 q3 hkq
      have hqs : qs.length ≤ 140737488351232 := hfq.2.2.2.2.1
      by_cases hlen : ql.length = 1
      · obtain ⟨z, rfl⟩ : ∃ z, ql = [z] := by
          match ql, hlen with
          | [z], _ => exact ⟨z, rfl⟩
        obtain ⟨bz, oz, az, cz, rfl, hz4, fz, kz⟩ := hkq.n1
        have hzh := Nd.height_kid (t := .mk qk qs [z] qp) (k := z) (by simp)
        obtain ⟨wb, hwb, hbb, d0, d1, d2, d3⟩ := laid4 wr (.int .i64 qk) (.string ⟨qs.toArray⟩) (.slice (some ⟨bz, oz, none⟩) 1 c') (.int .i64 qp) 24
        obtain ⟨S2, hS2⟩ : ∃ S2 : World → Prop, S2 = fun W => S W ∧ (W.cell? ⟨wr.heap.size, 0, none⟩ = some (.int .i64 qk) ∧ W.cell? ⟨wr.heap.size, 1, none⟩ = some (.string ⟨qs.toArray⟩) ∧ W.cell? ⟨wr.heap.size, 2, none⟩ = some (.slice (some ⟨bz, oz, none⟩) 1 c') ∧ W.cell? ⟨wr.heap.size, 3, none⟩ = some (.int .i64 qp)) ∧ Four W bz oz z az cz := ⟨_, rfl⟩
        have HKB2 := Lib.hid (show Keep S2 by rw [hS2]; exact keep_and HKB.out (keep_and (keep_and (keep_cell _ _) (keep_and (keep_cell _ _) (keep_and (keep_cell _ _) (keep_cell _ _)))) (keep_four _ _ _ _ _)))
        have hz4' := Four.on hz4 hbb
        have HP2 := Lib.hid (show Nk w n S2 [(z, az, cz)] wb from (HP.out.on HKB.out hbb).more (by rw [hS2]; exact ⟨(HP.out.on HKB.out hbb).cells, ⟨d0, d1, d2, d3⟩, hz4'⟩) (fun r hr => by
          rw [List.mem_singleton] at hr
          subst hr
          exact .inr ⟨by show z.height ≤ n; omega, kz.on hbb, fz⟩))
        have hwrl : wr.heap.size < wb.heap.size := cell_lt d0
        obtain ⟨z0, z1, z2, z3⟩ := hz4'
        have HS2 := Lib.hid hS2
        have HPQ := Lib.hid (show PB (.mk qk qs [z] qp) = (nameL qs && (qk == 7 && ((z.kind == 10 && ty z) || it z))) by rw [HPB.out]; rfl)
        clear hfq hkq hqh fz kz hzh hlen hS2 hbb hz4
        cases k7 : (qk == 7) with
        | false =>
          have k8 : (qk != 7) = true := by simp [bne, k7]
          have HV := Lib.hid (HNO.out (by rw [HPQ.out, k7]; simp))
          clear k7
          go_wp2_with fail
          go_ret
          exact ⟨ret_bool (by rw [HV.out]; rfl), HP2.out.below⟩
        | true =>
        have k8 : (qk != 7) = false := by simp [bne, k7]
        obtain ⟨N, hN⟩ : ∃ N, nameL qs = N := ⟨_, rfl⟩
        have HPQ2 := Lib.hid (show PB (.mk qk qs [z] qp) = (N && ((z.kind == 10 && ty z) || it z)) by rw [HPQ.out, hN, k7]; rfl)
        have hx := nk_name HP2.out HKB2.out qs hqs
        rw [hN] at hx
        have HX := Lib.hid hx
        clear hx hN k7
        go_wp2_with fail
        refine HX.out.mono ?_
        rintro e w1 ⟨rfl, h1, HP3⟩
        rw [HS2.out] at h1
        obtain ⟨-, ⟨d0, d1, d2, d3⟩, z0, z1, z2, z3⟩ := h1
        cases N with
        | false =>
          have HV := Lib.hid (HNO.out (by rw [HPQ2.out]; simp))
          go_wp2_with fail
          go_ret
          exact ⟨ret_bool (by rw [HV.out]; rfl), HP3.out.below⟩
        | true =>
        obtain ⟨wc, hwc, hbc, g0, g1, g2, g3⟩ := laid4 w1 (.int .i64 z.kind) (.string ⟨z.text.toArray⟩) (.slice az z.kids.length cz) (.int .i64 z.pos) 24
        obtain ⟨S3, hS3⟩ : ∃ S3 : World → Prop, S3 = fun W => S W ∧ (W.cell? ⟨w1.heap.size, 0, none⟩ = some (.int .i64 z.kind) ∧ W.cell? ⟨w1.heap.size, 1, none⟩ = some (.string ⟨z.text.toArray⟩) ∧ W.cell? ⟨w1.heap.size, 2, none⟩ = some (.slice az z.kids.length cz) ∧ W.cell? ⟨w1.heap.size, 3, none⟩ = some (.int .i64 z.pos)) := ⟨_, rfl⟩
        have HKB3 := Lib.hid (show Keep S3 by rw [hS3]; exact keep_and HKB.out (keep_and (keep_cell _ _) (keep_and (keep_cell _ _) (keep_and (keep_cell _ _) (keep_cell _ _)))))
        have HP4 := Lib.hid (show Nk w n S3 [(z, az, cz)] wc from (HP3.out.on HKB2.out hbc).more (by
          have := (HP3.out.on HKB2.out hbc).cells
          rw [HS2.out] at this
          rw [hS3]; exact ⟨this.1, g0, g1, g2, g3⟩) (fun r hr => .inl hr))
        have HS3 := Lib.hid hS3
        obtain ⟨I, hI⟩ : ∃ I, it z = I := ⟨_, rfl⟩
        obtain ⟨T, hT⟩ : ∃ T, ty z = T := ⟨_, rfl⟩
        have hxi := nk_ok HP4.out HKB3.out H_it.out z az cz (by simp)
        rw [hI] at hxi
        have HXI := Lib.hid hxi
        have HT := Lib.hid hT
        have HPQ3 := Lib.hid (show PB (.mk qk qs [z] qp) = ((z.kind == 10 && T) || I) by rw [HPQ2.out, hI, hT]; rfl)
        clear hS3 hbc hI hT hxi
        go_wp2_with fail
        refine HXI.out.mono ?_
        rintro e w3 ⟨rfl, h1, HP5⟩
        rw [HS3.out] at h1
        obtain ⟨-, g0, g1, g2, g3⟩ := h1
        cases I with
        | true =>
          have HA2 := Lib.hid (HNX.out (by rw [HPQ3.out]; simp))
          have HN2 := Lib.hid (show Nk w n S [] _ from HP5.out.less (fun h => by rw [HS3.out] at h; exact h.1) (by simp))
          go_wp2_with fail
          go_roundw
          case rel => exact ⟨j + 1, by omega, by go_num, HA2, HN2.out.cells, HN2⟩
          case measure => simp [intOf]; omega
        | false =>
        cases z10 : (z.kind == 10) with
        | false =>
          have z11 : (z.kind != 10) = true := by simp [bne, z10]
          have HV := Lib.hid (HNO.out (by rw [HPQ3.out, z10]; simp))
          clear z10
          go_wp2_with fail
          go_ret
          exact ⟨ret_bool (by rw [HV.out]; rfl), HP5.out.below⟩
        | true =>
        have z11 : (z.kind != 10) = false := by simp [bne, z10]
        have HPQ4 := Lib.hid (show PB (.mk qk qs [z] qp) = T by rw [HPQ3.out, z10]; simp)
        clear z10
        have hxi := nk_ok HP5.out HKB3.out H_ty.out z az cz (by simp)
        rw [HT.out] at hxi
        have HXT := Lib.hid hxi
        clear hxi
        go_wp2_with fail
        refine HXT.out.mono ?_
        rintro e w4 ⟨rfl, h1, HP6⟩
        rw [HS3.out] at h1
        obtain ⟨-, g0, g1, g2, g3⟩ := h1
        cases T with
        | true =>
          have HA2 := Lib.hid (HNX.out HPQ4.out)
          have HN2 := Lib.hid (show Nk w n S [] _ from HP6.out.less (fun h => by rw [HS3.out] at h; exact h.1) (by simp))
          go_wp2_with fail
          go_roundw
          case rel => exact ⟨j + 1, by omega, by go_num, HA2, HN2.out.cells, HN2⟩
          case measure => simp [intOf]; omega
        | false =>
          have HV := Lib.hid (HNO.out HPQ4.out)
          go_wp2_with fail
          go_ret
          exact ⟨ret_bool (by rw [HV.out]; rfl), HP6.out.below⟩
      · have HV := Lib.hid (show l.all PB = false from HNO.out (by
          rw [HPB.out]
          match ql, hlen with
          | [], _ => simp [tparamB, kids1]
          | [_], h => simp at h
          | _ :: _ :: _, _ => simp [tparamB, kids1]))
        obtain ⟨wb, hwb, hbb, d0, d1, d2, d3⟩ := laid4 wr (.int .i64 qk) (.string ⟨qs.toArray⟩) (.slice a' ql.length c') (.int .i64 qp) 24
        have hqn : ((ql.length : Int) != 1) = true := by simp; omega
        obtain ⟨S2, hS2⟩ : ∃ S2 : World → Prop, S2 = fun W => (W.cell? ⟨wr.heap.size, 0, none⟩ = some (.int .i64 qk) ∧ W.cell? ⟨wr.heap.size, 1, none⟩ = some (.string ⟨qs.toArray⟩) ∧ W.cell? ⟨wr.heap.size, 2, none⟩ = some (.slice a' ql.length c') ∧ W.cell? ⟨wr.heap.size, 3, none⟩ = some (.int .i64 qp)) := ⟨_, rfl⟩
        have HKB2 := Lib.hid (show Keep S2 by rw [hS2]; exact (keep_and (keep_cell _ _) (keep_and (keep_cell _ _) (keep_and (keep_cell _ _) (keep_cell _ _)))))
        have HP2 := Lib.hid (show Nk w n S2 [] wb from (HP.out.on HKB.out hbb).more (by rw [hS2]; exact ⟨d0, d1, d2, d3⟩) (fun r hr => by cases hr))
        have HS2 := Lib.hid hS2
        clear hS2 hfq hkq hqh hlen hbb
        go_wp2_with (first
          | (go_at_call 17
             refine (nk_name HP2.out HKB2.out _ (by first | exact hqs | omega)).mono ?_
             rintro e w1 ⟨rfl, h1, HP2⟩
             rw [HS2.out] at h1
             obtain ⟨d0, d1, d2, d3⟩ := h1))
        all_goals
          go_ret
          exact ⟨ret_bool (by rw [HV.out]; rfl), HP2.out.below⟩
    · obtain rfl : j = l.length := by omega
      have HV := Lib.hid (alls_end HALL.out)
      go_wp2_with fail
      go_ret
      exact ⟨ret_bool (by rw [HV.out]; rfl), HP.out.below⟩

end Go.Proofs.YtnmebgiiajnnjaaGreat

namespace Go.Proofs.YtnmebgiiajnnjaaGreat
set_option linter.unusedSimpArgs false
set_option linter.unusedVariables false
open Go.RowKit

set_option maxRecDepth 100000 in
set_option maxHeartbeats 8000000 in
theorem rtype_slice (ty : Nd → Bool) (n : Nat) (h_ty : Ok 19 ty n) (s : List UInt8) (l : List Nd) (p : Int) (a : Option Addr) (c : Nat) (w : World) (ht : (Nd.mk 11 s l p).height ≤ n + 1) (hg : Glob w) (hk : Kids w w.heap.size a l) (hf : Fits (.mk 11 s l p) c) :
    Calls Tryz.prog 19 #[.agg #[.int .i64 11, .string ⟨s.toArray⟩, .slice a l.length c, .int .i64 p]] w fun e w' => e = .returned (.bool (s.isEmpty && kids1 ty l)) ∧ Below w.heap.size w w' := by
  have hkid : ∀ x, x ∈ l → x.height ≤ n := fun x hx => by have := Nd.height_kid (t := .mk 11 s l p) hx; omega
  have hs : s.length ≤ 140737488351232 := hf.2.2.2.2.1
  have hcap : l.length ≤ c := hf.2.2.2.2.2.1
  have hl2 : l.length ≤ 9223372036854775807 := by have := hf.2.2.2.2.2.2.1; omega
  have H_ty := Lib.hid h_ty
  clear h_ty
  by_cases hlen : l.length = 1
  · obtain ⟨x1, rfl⟩ : ∃ x1, l = [x1] := by
      match l, hlen with
      | [x1], _ => exact ⟨x1, rfl⟩
    obtain ⟨b, off, a1, c1, rfl, ⟨q1, f1, k1⟩⟩ := hk.n1
    have h1 := hkid x1 (by simp)
    obtain ⟨wa, hwa, hba, e0, e1, e2, e3⟩ := laid4 w (.int .i64 11) (.string ⟨s.toArray⟩) (.slice (some ⟨b, off, none⟩) 1 c) (.int .i64 p) 24
    have q1 := Four.on q1 hba
    obtain ⟨S, hS⟩ : ∃ S : World → Prop, S = fun W => (W.cell? ⟨w.heap.size, 0, none⟩ = some (.int .i64 11) ∧ W.cell? ⟨w.heap.size, 1, none⟩ = some (.string ⟨s.toArray⟩) ∧ W.cell? ⟨w.heap.size, 2, none⟩ = some (.slice (some ⟨b, off, none⟩) 1 c) ∧ W.cell? ⟨w.heap.size, 3, none⟩ = some (.int .i64 p)) ∧ Four W b off x1 a1 c1 := ⟨_, rfl⟩
    have HKB := Lib.hid (show Keep S by rw [hS]; exact keep_and (keep_and (keep_cell _ _) (keep_and (keep_cell _ _) (keep_and (keep_cell _ _) (keep_cell _ _)))) (keep_four _ _ _ _ _))
    have HP := Lib.hid (show Nk w n S [(x1, a1, c1)] wa from ⟨hba, hg.on hba, by rw [hS]; exact ⟨⟨e0, e1, e2, e3⟩, q1⟩, fun q hq => by
      simp only [List.mem_cons, List.not_mem_nil, or_false] at hq
      rcases hq with rfl
      · exact ⟨h1, k1.on hba, f1⟩⟩)
    obtain ⟨q10, q11, q12, q13⟩ := q1
    have HS := Lib.hid hS
    clear hg hk hf ht hkid hba hS f1 k1 h1
    go_enter Tryz.func19, Tryz.ntmps19
    go_wp2_with (first
      | (go_at_call 19
         refine (nk_ok HP.out HKB.out H_ty.out _ _ _ ?_).mono ?_
         focus (simp)
         rintro e w1 ⟨rfl, h1, HP⟩
         rw [HS.out] at h1
         obtain ⟨⟨e0, e1, e2, e3⟩, ⟨q10, q11, q12, q13⟩⟩ := h1))
    all_goals
      go_ret
      exact ⟨ret_bool (by first | (simp_all [kids1]; done) | (simp_all [kids1]; omega)), HP.out.below⟩
  · have hn : ((l.length : Int) == 1) = false := by simp; omega
    have HV := Lib.hid (show kids1 ty l = false from by
      match l, hlen with
      | [], _ => rfl
      | [_], h => simp at h
      | _ :: _ :: _, _ => rfl)
    obtain ⟨wa, hwa, hba, e0, e1, e2, e3⟩ := laid4 w (.int .i64 11) (.string ⟨s.toArray⟩) (.slice a l.length c) (.int .i64 p) 24
    obtain ⟨S, hS⟩ : ∃ S : World → Prop, S = fun W => (W.cell? ⟨w.heap.size, 0, none⟩ = some (.int .i64 11) ∧ W.cell? ⟨w.heap.size, 1, none⟩ = some (.string ⟨s.toArray⟩) ∧ W.cell? ⟨w.heap.size, 2, none⟩ = some (.slice a l.length c) ∧ W.cell? ⟨w.heap.size, 3, none⟩ = some (.int .i64 p)) := ⟨_, rfl⟩
    have HKB := Lib.hid (show Keep S by rw [hS]; exact keep_and (keep_cell _ _) (keep_and (keep_cell _ _) (keep_and (keep_cell _ _) (keep_cell _ _))))
    have HP := Lib.hid (show Nk w n S [] wa from ⟨hba, hg.on hba, by rw [hS]; exact ⟨e0, e1, e2, e3⟩, fun q hq => by cases hq⟩)
    have HS := Lib.hid hS
    clear hg hk hf ht hkid hba hS
    go_enter Tryz.func19, Tryz.ntmps19
    go_wp2_with fail
    all_goals
      go_ret
      exact ⟨ret_bool (by rw [HV.out]; simp), HP.out.below⟩

set_option maxRecDepth 100000 in
set_option maxHeartbeats 8000000 in
theorem rtype_func (ty : Nd → Bool) (n : Nat) (h_ty : Ok 19 ty n) (s : List UInt8) (l : List Nd) (p : Int) (a : Option Addr) (c : Nat) (w : World) (ht : (Nd.mk 12 s l p).height ≤ n + 1) (hg : Glob w) (hk : Kids w w.heap.size a l) (hf : Fits (.mk 12 s l p) c) :
    Calls Tryz.prog 19 #[.agg #[.int .i64 12, .string ⟨s.toArray⟩, .slice a l.length c, .int .i64 p]] w fun e w' => e = .returned (.bool (sigB ty (fun l => l.isEmpty) (.mk 12 s l p))) ∧ Below w.heap.size w w' := by
  have hkid : ∀ x, x ∈ l → x.height ≤ n := fun x hx => by have := Nd.height_kid (t := .mk 12 s l p) hx; omega
  have hs : s.length ≤ 140737488351232 := hf.2.2.2.2.1
  have hcap : l.length ≤ c := hf.2.2.2.2.2.1
  have hl2 : l.length ≤ 9223372036854775807 := by have := hf.2.2.2.2.2.2.1; omega
  have e0 : sigB ty (fun l => l.isEmpty) (.mk 12 s l p) = sigB ty (soOf false) (.mk 12 s l p) := rfl
  rw [e0]
  clear e0
  obtain ⟨wa, hwa, hba, e0, e1, e2, e3⟩ := laid4 w (.int .i64 12) (.string ⟨s.toArray⟩) (.slice a l.length c) (.int .i64 p) 24
  obtain ⟨S, hS⟩ : ∃ S : World → Prop, S = fun W => (W.cell? ⟨w.heap.size, 0, none⟩ = some (.int .i64 12) ∧ W.cell? ⟨w.heap.size, 1, none⟩ = some (.string ⟨s.toArray⟩) ∧ W.cell? ⟨w.heap.size, 2, none⟩ = some (.slice a l.length c) ∧ W.cell? ⟨w.heap.size, 3, none⟩ = some (.int .i64 p)) := ⟨_, rfl⟩
  have HKB := Lib.hid (show Keep S by rw [hS]; exact keep_and (keep_cell _ _) (keep_and (keep_cell _ _) (keep_and (keep_cell _ _) (keep_cell _ _))))
  have HP := Lib.hid (show Nk w n S [] wa from ⟨hba, hg.on hba, by rw [hS]; exact ⟨e0, e1, e2, e3⟩, fun q hq => by cases hq⟩)
  have HS := Lib.hid hS
  have hx := nk_post HP.out HKB.out (rsig_any ty n h_ty false (.mk 12 s l p) a c wa ht HP.out.glob (hk.on hba) hf)
  obtain ⟨R, hR⟩ : ∃ R, sigB ty (soOf false) (.mk 12 s l p) = R := ⟨_, rfl⟩
  rw [hR] at hx
  rw [hR]
  have HX := Lib.hid hx
  clear hx hR h_ty hg hk hf ht hkid hba hS
  go_enter Tryz.func19, Tryz.ntmps19
  go_wp2_with fail
  refine HX.out.mono ?_
  rintro e w1 ⟨rfl, h1, HP⟩
  go_wp2_with fail
  go_ret
  exact ⟨rfl, HP.out.below⟩

set_option maxRecDepth 100000 in
set_option maxHeartbeats 8000000 in
theorem rtype_name (ty : Nd → Bool) (n : Nat) (h_ty : Ok 19 ty n) (s : List UInt8) (l : List Nd) (p : Int) (a : Option Addr) (c : Nat) (w : World) (ht : (Nd.mk 10 s l p).height ≤ n + 1) (hg : Glob w) (hk : Kids w w.heap.size a l) (hf : Fits (.mk 10 s l p) c) :
    Calls Tryz.prog 19 #[.agg #[.int .i64 10, .string ⟨s.toArray⟩, .slice a l.length c, .int .i64 p]] w fun e w' => e = .returned (.bool (nameL s && l.all ty)) ∧ Below w.heap.size w w' := by
  have hkid : ∀ x, x ∈ l → x.height ≤ n := fun x hx => by have := Nd.height_kid (t := .mk 10 s l p) hx; omega
  have hs : s.length ≤ 140737488351232 := hf.2.2.2.2.1
  have hcap : l.length ≤ c := hf.2.2.2.2.2.1
  have hl2 : l.length ≤ 9223372036854775807 := by have := hf.2.2.2.2.2.2.1; omega
  have H := Lib.hid h_ty
  have HKW := Lib.hid (fun W (hW : Below w.heap.size w W) => hk.on hW)
  have HHT := Lib.hid hkid
  obtain ⟨wa, hwa, hba, e0, e1, e2, e3⟩ := laid4 w (.int .i64 10) (.string ⟨s.toArray⟩) (.slice a l.length c) (.int .i64 p) 24
  obtain ⟨S, hS⟩ : ∃ S : World → Prop, S = fun W => (W.cell? ⟨w.heap.size, 0, none⟩ = some (.int .i64 10) ∧ W.cell? ⟨w.heap.size, 1, none⟩ = some (.string ⟨s.toArray⟩) ∧ W.cell? ⟨w.heap.size, 2, none⟩ = some (.slice a l.length c) ∧ W.cell? ⟨w.heap.size, 3, none⟩ = some (.int .i64 p)) := ⟨_, rfl⟩
  have HKB := Lib.hid (show Keep S by rw [hS]; exact keep_and (keep_cell _ _) (keep_and (keep_cell _ _) (keep_and (keep_cell _ _) (keep_cell _ _))))
  have HP := Lib.hid (show Nk w n S [] wa from ⟨hba, hg.on hba, by rw [hS]; exact ⟨e0, e1, e2, e3⟩, fun q hq => by cases hq⟩)
  have HS := Lib.hid hS
  obtain ⟨N, hN⟩ : ∃ N, nameL s = N := ⟨_, rfl⟩
  have hx := nk_name HP.out HKB.out s hs
  rw [hN] at hx ⊢
  have HX := Lib.hid hx
  clear hx hN h_ty hg hk hf ht hkid hba hS
  go_enter Tryz.func19, Tryz.ntmps19
  go_wp2_with fail
  refine HX.out.mono ?_
  rintro e w1 ⟨rfl, h1, HP⟩
  rw [HS.out] at h1
  obtain ⟨e0, e1, e2, e3⟩ := h1
  cases N with
  | false =>
    go_wp2_with fail
    go_ret
    exact ⟨ret_bool (by rfl), HP.out.below⟩
  | true =>
  go_wp2_with fail
  go_loopw [3] (fun i wr => ∃ j : Nat, j ≤ l.length ∧ i = .int .i64 j ∧ Hid ((l.take j).all ty = true) ∧ S wr ∧ Hid (Nk w n S [] wr)) (fun i _ => l.length - (intOf i).toNat)
  case atStart => exact ⟨0, by omega, rfl, Lib.hid rfl, HP.out.cells, HP⟩
  case round =>
    obtain ⟨j, hj1, rfl, HALL, hs2, HP⟩ := hrel
    rw [HS.out] at hs2
    obtain ⟨e0, e1, e2, e3⟩ := hs2
    by_cases hlt : j < l.length
    · obtain ⟨b, off, a', c', ha, -, ⟨q0, q1, q2, q3⟩, hfq, hkq⟩ := (HKW.out _ HP.out.below).get hlt
      subst ha
      have HNX := Lib.hid (fun e => alls_next (f := ty) hlt HALL.out e)
      have HNO := Lib.hid (fun e => alls_no (f := ty) hlt e)
      have hx := nk_post HP.out HKB.out (H.out l[j] a' c' wr (HHT.out _ (List.getElem_mem hlt)) HP.out.glob hkq hfq)
      obtain ⟨q, hq⟩ : ∃ q, l[j] = q := ⟨_, rfl⟩
      rw [hq] at q0 q1 q2 q3 HNX HNO hx
      obtain ⟨R, hR⟩ : ∃ R, ty q = R := ⟨_, rfl⟩
      rw [hR] at hx HNX HNO
      have HXQ := Lib.hid hx
      clear hq hx hR hfq hkq
      go_wp2_with fail
      refine HXQ.out.mono ?_
      rintro e w2 ⟨rfl, h1, HP⟩
      rw [HS.out] at h1
      obtain ⟨e0, e1, e2, e3⟩ := h1
      cases R with
      | true =>
        have HA2 := Lib.hid (HNX.out (by first | rfl | trivial))
        go_wp2_with fail
        go_roundw
        case rel => exact ⟨j + 1, by omega, by go_num, HA2, HP.out.cells, HP⟩
        case measure => simp [intOf]; omega
      | false =>
        have HV := Lib.hid (HNO.out (by first | rfl | trivial))
        go_wp2_with fail
        go_ret
        exact ⟨ret_bool (by rw [HV.out]; rfl), HP.out.below⟩
    · obtain rfl : j = l.length := by omega
      have HV := Lib.hid (alls_end HALL.out)
      go_wp2_with fail
      go_ret
      exact ⟨ret_bool (by rw [HV.out]; rfl), HP.out.below⟩

set_option maxHeartbeats 4000000 in
theorem rtype_none (k : Int) (s : List UInt8) (l : List Nd) (p : Int) (a : Option Addr) (c : Nat) (w : World) (hn : k ≠ 10 ∧ k ≠ 11 ∧ k ≠ 12) :
    Calls Tryz.prog 19 #[.agg #[.int .i64 k, .string ⟨s.toArray⟩, .slice a l.length c, .int .i64 p]] w fun e w' => e = .returned (.bool false) ∧ Below w.heap.size w w' := by
  obtain ⟨m1, m2, m3⟩ := hn
  have n1 : (k == 10) = false := by simpa using m1
  have n2 : (k == 11) = false := by simpa using m2
  have n3 : (k == 12) = false := by simpa using m3
  clear m1 m2 m3
  go_enter Tryz.func19, Tryz.ntmps19
  go_wp2_with fail
  go_ret
  exact ⟨rfl, below_alloc _ _⟩
theorem rtype_ok (ty : Nd → Bool) (n : Nat) (h_ty : Ok 19 ty n) : Ok 19 (typeB ty) (n + 1) := by
  rintro ⟨k, s, l, p⟩ a c w ht hg hk hf
  simp only [Nd.kind_mk, Nd.text_mk, Nd.kids_mk, Nd.pos_mk] at *
  by_cases k10 : k = 10
  · subst k10; exact rtype_name ty n h_ty s l p a c w ht hg hk hf
  by_cases k11 : k = 11
  · subst k11
    refine (rtype_slice ty n h_ty s l p a c w ht hg hk hf).mono ?_
    rintro e w' ⟨rfl, hb⟩
    exact ⟨ret_bool (by simp [typeB, ofB]), hb⟩
  by_cases k12 : k = 12
  · subst k12; exact rtype_func ty n h_ty s l p a c w ht hg hk hf
  · refine (rtype_none k s l p a c w ⟨k10, k11, k12⟩).mono ?_
    rintro e w' ⟨rfl, hb⟩
    exact ⟨ret_bool (by simp [typeB, k10, k11, k12]), hb⟩
end Go.Proofs.YtnmebgiiajnnjaaGreat
