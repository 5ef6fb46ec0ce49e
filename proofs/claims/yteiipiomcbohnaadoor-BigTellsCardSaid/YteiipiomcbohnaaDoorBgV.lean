/-
  Text; Compare.
-/
import Derived.Test.YteiipiomcbohnaaDoorBgU
namespace Go.Proofs.YteiipiomcbohnaaDoor
set_option linter.unusedSimpArgs false
set_option linter.unusedVariables false
open Go.RowKit

theorem text_any (n : Int) (w : World) (h0 : -9223372036854775808 ≤ n) (h1 : n ≤ 9223372036854775807) (hT : Tab w) :
    Calls Tryd.prog 11 #[.int .i64 n] w fun e w' => e = .returned (.string ⟨(Lib.itoa n).toArray⟩) ∧ Hid (Below w.heap.size w w') := by
  have HI := Lib.hid (itoa_any n w h0 h1 hT)
  clear hT
  go_enter Tryd.func11, Tryd.ntmps11
  go_wp2_with fail
  refine HI.out.mono ?_
  rintro e w2 ⟨rfl, hb2⟩
  go_wp2
  go_ret
  exact ⟨rfl, Lib.hid hb2⟩

/-- How two texts stand. -/
def cmpT (s t : List UInt8) : Int :=
  match numR s, numR t with
  | some x, some y => cmpI x y
  | _, _ => 0
theorem cmp_neg {n : Nat} {x y : Int} (h : sg true n = x - y) (ho : Ok true n) : -1 = cmpI x y := by
  have := ho rfl
  have e : sg true (n : Int) = -(n : Int) := rfl
  rw [e] at h
  unfold cmpI
  rw [if_pos (by omega)]
theorem cmp_zero {n : Nat} {x y : Int} (h : sg false n = x - y) (h0 : n = 0) : 0 = cmpI x y := by
  have e : sg false (n : Int) = (n : Int) := rfl
  rw [e] at h
  unfold cmpI
  rw [if_neg (by omega), if_pos (by omega)]
theorem cmp_pos {n : Nat} {x y : Int} (h : sg false n = x - y) (h0 : ¬ n = 0) : 1 = cmpI x y := by
  have e : sg false (n : Int) = (n : Int) := rfl
  rw [e] at h
  unfold cmpI
  rw [if_neg (by omega), if_neg (by omega)]
theorem numR_some {s : List UInt8} {z : Int} (h : numR s = some z) : numB s = some z ∧ wideB z.natAbs = false := by
  unfold numR at h
  cases h1 : numB s with
  | none => rw [h1] at h; cases h
  | some x =>
    rw [h1] at h
    simp only at h
    cases h2 : wideB x.natAbs with
    | true => rw [h2] at h; cases h
    | false => rw [h2] at h; obtain rfl := Option.some.inj h; exact ⟨rfl, h2⟩
theorem right_hid {s : List UInt8} {b : Bool} (h : (numR s).isSome = b) (w : World) (hs : s.length ≤ 9223372036854775807) :
    Calls Tryd.prog 19 #[.string ⟨s.toArray⟩] w fun e w' => e = .returned (.bool b) ∧ Hid (Below w.heap.size w w') :=
  (right_any s w hs).mono fun e w' ⟨he, hb⟩ => ⟨by rw [he, h], Lib.hid hb⟩

set_option maxRecDepth 100000 in
set_option maxHeartbeats 16000000 in
theorem compare_any (s t : List UInt8) (w : World) (hs : s.length ≤ 9223372036854775807) (ht : t.length ≤ 9223372036854775807) :
    Calls Tryd.prog 20 #[.string ⟨s.toArray⟩, .string ⟨t.toArray⟩] w fun e w' => e = .returned (.int .i64 (cmpT s t)) ∧ Below w.heap.size w w' := by
  cases h1 : numR s with
  | none =>
    have HCM := Lib.hid (show cmpT s t = 0 by unfold cmpT; rw [h1])
    have HR := Lib.hid (right_hid (s := s) (b := false) (by rw [h1]; rfl) w hs)
    clear h1
    go_enter Tryd.func20, Tryd.ntmps20
    go_wp2_with fail
    refine HR.out.mono ?_
    rintro e w2 ⟨rfl, hb2⟩
    go_wp2
    go_ret
    exact ⟨ret_int HCM.out.symm, hb2.out⟩
  | some z1 =>
    cases h2 : numR t with
    | none =>
      have HCM := Lib.hid (show cmpT s t = 0 by unfold cmpT; rw [h1, h2])
      have HR := Lib.hid (right_hid (s := s) (b := true) (by rw [h1]; rfl) w hs)
      have HE := Lib.hid (show (numR t).isSome = false by rw [h2]; rfl)
      clear h1 h2
      go_enter Tryd.func20, Tryd.ntmps20
      go_wp2_with fail
      refine HR.out.mono ?_
      rintro e w2 ⟨rfl, hb2⟩
      go_wp2_with fail
      refine (right_hid HE.out w2 ht).mono ?_
      rintro e w3 ⟨rfl, hb3⟩
      go_wp2
      go_ret
      exact ⟨ret_int HCM.out.symm, bext hb2.out hb3.out⟩
    | some z2 =>
      have HCM := Lib.hid (show cmpT s t = cmpI z1 z2 by unfold cmpT; rw [h1, h2])
      have HR := Lib.hid (right_hid (s := s) (b := true) (by rw [h1]; rfl) w hs)
      have HE := Lib.hid (show (numR t).isSome = true by rw [h2]; rfl)
      have H1 := Lib.hid (numR_some h1)
      have H2 := Lib.hid (numR_some h2)
      clear h1 h2
      go_enter Tryd.func20, Tryd.ntmps20
      go_wp2_with fail
      refine HR.out.mono ?_
      rintro e w2 ⟨rfl, hb2⟩
      go_wp2_with fail
      refine (right_hid HE.out w2 ht).mono ?_
      rintro e w3 ⟨rfl, hb3⟩
      have HP := Lib.hid (parse_some H1.out.1 w3 hs)
      go_wp2_with fail
      refine HP.out.mono ?_
      rintro e w4 ⟨bx, nx, ax, cx, rfl, hr4⟩
      have HB4 := Lib.hid (bext (bext (bext hb2.out hb3.out) hr4.out.2.2.2) (below_alloc w4 (.cells #[.bool bx, .slice ax (digs nx).length cx] 43)))
      have HP2 := Lib.hid (parse_some H2.out.1 (w4.alloc (.cells #[.bool bx, .slice ax (digs nx).length cx] 43)) ht)
      have R1 := Lib.hid (hr4.out.2.2.1.on (below_alloc w4 (.cells #[.bool bx, .slice ax (digs nx).length cx] 43)))
      have q0 : (w4.alloc (.cells #[.bool bx, .slice ax (digs nx).length cx] 43)).cell? ⟨w4.heap.size, 0, none⟩ = some (.bool bx) := by simp [go_sem]
      have q1 : (w4.alloc (.cells #[.bool bx, .slice ax (digs nx).length cx] 43)).cell? ⟨w4.heap.size, 1, none⟩ = some (.slice ax (digs nx).length cx) := by simp [go_sem]
      have Q := Lib.hid (show _ ∧ _ from ⟨q0, q1⟩)
      have HX1 := Lib.hid hr4.out.2.1
      clear q0 q1
      go_wp2_with fail
      refine HP2.out.mono ?_
      rintro e w5 ⟨by_, ny, ay, cy, rfl, hr5⟩
      obtain ⟨W, hW⟩ : ∃ W, w5.alloc (.cells #[.bool by_, .slice ay (digs ny).length cy] 43) = W := ⟨_, rfl⟩
      have hbW : Below w5.heap.size w5 W := by rw [← hW]; exact below_alloc _ _
      have hkW := CK.below (bext hr5.out.2.2.2 hbW)
      have HB := Lib.hid (bext (bext HB4.out hr5.out.2.2.2) hbW)
      have HX2 := Lib.hid hr5.out.2.1
      have sW : (W.cell? ⟨w4.heap.size, 0, none⟩ = some (.bool bx) ∧ W.cell? ⟨w4.heap.size, 1, none⟩ = some (.slice ax (digs nx).length cx) ∧ W.cell? ⟨w5.heap.size, 0, none⟩ = some (.bool by_) ∧ W.cell? ⟨w5.heap.size, 1, none⟩ = some (.slice ay (digs ny).length cy)) := ⟨hkW.cell Q.out.1 rfl, hkW.cell Q.out.2 rfl, by rw [← hW]; simp [go_sem], by rw [← hW]; simp [go_sem]⟩
      have R1 := Lib.hid (hkW.row R1.out)
      have R2 := Lib.hid (hr5.out.2.2.1.on hbW)
      have lx : (digs nx).length ≤ 58 := (not_wide (by have := H1.out.2; rw [← hr4.out.2.1, natAbs_sg] at this; exact this)).2
      have ly : (digs ny).length ≤ 58 := (not_wide (by have := H2.out.2; rw [← hr5.out.2.1, natAbs_sg] at this; exact this)).2
      have HWW := Lib.hid hW
      clear hW hkW hbW
      go_wp2_with fail
      rw [HWW.out]
      have hS5 : ∀ w9, Below W.heap.size W w9 → (w9.cell? ⟨w4.heap.size, 0, none⟩ = some (.bool bx) ∧ w9.cell? ⟨w4.heap.size, 1, none⟩ = some (.slice ax (digs nx).length cx) ∧ w9.cell? ⟨w5.heap.size, 0, none⟩ = some (.bool by_) ∧ w9.cell? ⟨w5.heap.size, 1, none⟩ = some (.slice ay (digs ny).length cy)) := fun w9 h9 => ⟨(CK.below h9).cell sW.1 rfl, (CK.below h9).cell sW.2.1 rfl, (CK.below h9).cell sW.2.2.1 rfl, (CK.below h9).cell sW.2.2.2 rfl⟩
      have HS5 := Lib.hid hS5
      have HSW := Lib.hid sW
      clear hS5 sW
      have HW := Lib.hid ((Below.refl W.heap.size W).drew)
      refine region_K (S := fun w9 => (w9.cell? ⟨w4.heap.size, 0, none⟩ = some (.bool bx) ∧ w9.cell? ⟨w4.heap.size, 1, none⟩ = some (.slice ax (digs nx).length cx) ∧ w9.cell? ⟨w5.heap.size, 0, none⟩ = some (.bool by_) ∧ w9.cell? ⟨w5.heap.size, 1, none⟩ = some (.slice ay (digs ny).length cy))) (kp := fun i => decide (i < 5)) (by kernel_rfl) HSW.out (fun hHeld => ?_)
      (refine wpAnyK_take (i := 0) (v := ?_) rfl (by decide +kernel) (by decide +kernel) (by decide +kernel) (by decide +kernel) (fun _ _ _ h => h) (Or.inl ⟨?_, ?_⟩) hHeld ?_; rotate_left 1; (focus rfl); (focus (intro w9 hSw; obtain ⟨l0, l1, l2, l3⟩ := hSw; go_simp; (try with_reducible rfl); done)); (try simp only [Act.put, List.setIfInBounds_toArray, List.set_cons_zero, List.set_cons_succ, List.getElem_toArray, List.getElem_cons_zero, List.getElem_cons_succ]))
      (refine wpAnyK_take (i := 1) (v := ?_) rfl (by decide +kernel) (by decide +kernel) (by decide +kernel) (by decide +kernel) (fun _ _ _ h => h) (Or.inl ⟨?_, ?_⟩) hHeld ?_; rotate_left 1; (focus rfl); (focus (intro w9 hSw; obtain ⟨l0, l1, l2, l3⟩ := hSw; go_simp; (try with_reducible rfl); done)); (try simp only [Act.put, List.setIfInBounds_toArray, List.set_cons_zero, List.set_cons_succ, List.getElem_toArray, List.getElem_cons_zero, List.getElem_cons_succ]))
      refine wpAnyK_ready (rs := [2, 4]) (by decide +kernel) (by simp) ?_
      refine AllReadyK.cons rfl (fun K hK => ?_) (AllReadyK.cons rfl (fun K hK => ?_) AllReadyK.nil)
      · rw [if_pos (by rfl)]
        go_simp
        refine (turned_any by_ ny ay cy _ (R2.out.on HW.out)).mono ?_
        rintro e wT ⟨bt, nt, at_, ct, rfl, hrT⟩
        have HW := Lib.hid (bext HW.out hrT.out.2.2.2)
        have hHeld := HS5.out _ HW.out
        have HRT := Lib.hid hrT.out.2.2.1
        have hnt : nt = ny := by have := congrArg Int.natAbs hrT.out.2.1; rw [Int.natAbs_neg, natAbs_sg, natAbs_sg] at this; exact this
        subst hnt
        refine hK.out _ _ (fun _ => hHeld) (?_)
        clear hK K
        (try simp only [Act.put, List.setIfInBounds_toArray, List.set_cons_zero, List.set_cons_succ, List.getElem_toArray, List.getElem_cons_zero, List.getElem_cons_succ])
        refine wpAnyK_ready (rs := [3, 4]) (by decide +kernel) (by simp) ?_
        refine AllReadyK.cons rfl (fun K hK => ?_) (AllReadyK.cons rfl (fun K hK => ?_) AllReadyK.nil)
        · rw [if_pos (by rfl)]
          go_simp
          refine (sum_any bx bt nx nt ax at_ cx ct _ (R1.out.on HW.out) HRT.out (by omega) (by omega)).mono ?_
          rintro e wS ⟨bd, nd, ad, cd, rfl, hrS⟩
          have HW := Lib.hid (bext HW.out hrS.out.2.2.2)
          have hHeld := HS5.out _ HW.out
          have HRS := Lib.hid hrS.out.2.2.1
          refine hK.out _ _ (fun _ => hHeld) (?_)
          clear hK K
          (try simp only [Act.put, List.setIfInBounds_toArray, List.set_cons_zero, List.set_cons_succ, List.getElem_toArray, List.getElem_cons_zero, List.getElem_cons_succ])
          refine wpAnyK_ready (rs := [4]) (by decide +kernel) (by simp) ?_
          refine AllReadyK.cons rfl (fun K hK => ?_) AllReadyK.nil
          rw [if_pos (by rfl)]
          go_simp
          have HW0 := HW
          have HW := Lib.hid (bext HW.out (below_alloc (wS) (.cells #[.bool false, .slice none 0 0] 43)))
          have hHeld := HS5.out _ HW.out
          have HP := Lib.hid (res2_new (wS) (R := wS.heap.size) (by simp) rfl)
          have HRS0 := HRS
          have HRS := Lib.hid (HRS.out.on (below_alloc (wS) (.cells #[.bool false, .slice none 0 0] 43)))
          refine hK.out _ _ (fun _ => hHeld) (?_)
          clear hK K
          (try simp only [Act.put, List.setIfInBounds_toArray, List.set_cons_zero, List.set_cons_succ, List.getElem_toArray, List.getElem_cons_zero, List.getElem_cons_succ])
          refine wpAnyK_ready (rs := [5]) (by decide +kernel) (by simp) ?_
          refine AllReadyK.cons rfl (fun K hK => ?_) AllReadyK.nil
          obtain ⟨z0, z1_, z2_, z3⟩ := HP.out
          rw [if_pos (by rfl)]
          go_simp
          refine hK.out _ _ (fun h => absurd h (by decide)) (?_)
          clear hK K
          (try simp only [Act.put, List.setIfInBounds_toArray, List.set_cons_zero, List.set_cons_succ, List.getElem_toArray, List.getElem_cons_zero, List.getElem_cons_succ])
          refine wpAnyK_done (by decide +kernel) ?_ _
          have HWF := Lib.hid (bext HW0.out (below_alloc ((wS)) (.cells #[.bool bd, .slice ad (digs nd).length cd] 43)))
          have p0 : (((wS)).alloc (.cells #[.bool bd, .slice ad (digs nd).length cd] 43)).cell? ⟨wS.heap.size, 0, none⟩ = some (.bool bd) := by simp [go_sem]
          have p1 : (((wS)).alloc (.cells #[.bool bd, .slice ad (digs nd).length cd] 43)).cell? ⟨wS.heap.size, 1, none⟩ = some (.slice ad (digs nd).length cd) := by simp [go_sem]
          obtain ⟨wF, hwF⟩ : ∃ wF, (((wS)).alloc (.cells #[.bool bd, .slice ad (digs nd).length cd] 43)) = wF := ⟨_, rfl⟩
          rw [hwF] at HWF p0 p1 ⊢
          clear hwF z0 z1_ z2_ z3 HP
          have HZD := Lib.hid (show sg bd nd = z1 - z2 by rw [hrS.out.2.1, hrT.out.2.1, HX1.out, HX2.out]; omega)
          have HOK := Lib.hid hrS.out.1
          clear hHeld
          cases bd with
          | true =>
            go_wp2
            go_ret
            exact ⟨ret_int (by rw [HCM.out]; exact cmp_neg HZD.out HOK.out), bext HB.out HWF.out⟩
          | false =>
            by_cases h0 : nd = 0
            · have hl0 : (digs nd).length = 0 := by rw [h0, digs_zero]; rfl
              have H0 := Lib.hid h0
              clear h0
              go_wp2
              go_ret
              exact ⟨ret_int (by rw [HCM.out]; exact cmp_zero HZD.out H0.out), bext HB.out HWF.out⟩
            · have hl0 : 0 < (digs nd).length := by
                rcases Nat.eq_zero_or_pos (digs nd).length with h | h
                · exact absurd (digs_nil.1 (List.eq_nil_of_length_eq_zero h)) h0
                · exact h
              have H0 := Lib.hid h0
              clear h0
              go_wp2
              go_ret
              exact ⟨ret_int (by rw [HCM.out]; exact cmp_pos HZD.out H0.out), bext HB.out HWF.out⟩
        · rw [if_pos (by rfl)]
          go_simp
          have HW0 := HW
          have HW := Lib.hid (bext HW.out (below_alloc (wT) (.cells #[.bool false, .slice none 0 0] 43)))
          have hHeld := HS5.out _ HW.out
          have HP := Lib.hid (res2_new (wT) (R := wT.heap.size) (by simp) rfl)
          have HRT0 := HRT
          have HRT := Lib.hid (HRT.out.on (below_alloc (wT) (.cells #[.bool false, .slice none 0 0] 43)))
          refine hK.out _ _ (fun _ => hHeld) (?_)
          clear hK K
          (try simp only [Act.put, List.setIfInBounds_toArray, List.set_cons_zero, List.set_cons_succ, List.getElem_toArray, List.getElem_cons_zero, List.getElem_cons_succ])
          refine wpAnyK_ready (rs := [3]) (by decide +kernel) (by simp) ?_
          refine AllReadyK.cons rfl (fun K hK => ?_) AllReadyK.nil
          rw [if_pos (by rfl)]
          go_simp
          refine (sum_any bx bt nx nt ax at_ cx ct _ (R1.out.on HW.out) HRT.out (by omega) (by omega)).mono ?_
          rintro e wS ⟨bd, nd, ad, cd, rfl, hrS⟩
          have HW := Lib.hid (bext HW.out hrS.out.2.2.2)
          have hHeld := HS5.out _ HW.out
          have HRS := Lib.hid hrS.out.2.2.1
          have HP := Lib.hid (res2_on HP.out hrS.out.2.2.2)
          refine hK.out _ _ (fun _ => hHeld) (?_)
          clear hK K
          (try simp only [Act.put, List.setIfInBounds_toArray, List.set_cons_zero, List.set_cons_succ, List.getElem_toArray, List.getElem_cons_zero, List.getElem_cons_succ])
          refine wpAnyK_ready (rs := [5]) (by decide +kernel) (by simp) ?_
          refine AllReadyK.cons rfl (fun K hK => ?_) AllReadyK.nil
          obtain ⟨z0, z1_, z2_, z3⟩ := HP.out
          rw [if_pos (by rfl)]
          go_simp
          refine hK.out _ _ (fun h => absurd h (by decide)) (?_)
          clear hK K
          (try simp only [Act.put, List.setIfInBounds_toArray, List.set_cons_zero, List.set_cons_succ, List.getElem_toArray, List.getElem_cons_zero, List.getElem_cons_succ])
          refine wpAnyK_done (by decide +kernel) ?_ _
          have hP5 : W.heap.size ≤ wT.heap.size := (by first | omega | exact HW0.out.size)
          have hqP := res_cells (.bool bd) (.slice ad (digs nd).length cd) z0 z1_
          have HWF := Lib.hid ((HW.out.setCell (p := ⟨wT.heap.size, 0, none⟩) hP5 (.bool bd)).setCell (p := ⟨wT.heap.size, 1, none⟩) hP5 (.slice ad (digs nd).length cd))
          obtain ⟨wF, hwF⟩ : ∃ wF, (((wS).setCell ⟨wT.heap.size, 0, none⟩ (.bool bd)).setCell ⟨wT.heap.size, 1, none⟩ (.slice ad (digs nd).length cd)) = wF := ⟨_, rfl⟩
          rw [hwF] at HWF hqP ⊢
          obtain ⟨p0, p1⟩ := hqP
          clear hwF z0 z1_ z2_ z3 hP5 HP
          have HZD := Lib.hid (show sg bd nd = z1 - z2 by rw [hrS.out.2.1, hrT.out.2.1, HX1.out, HX2.out]; omega)
          have HOK := Lib.hid hrS.out.1
          clear hHeld
          cases bd with
          | true =>
            go_wp2
            go_ret
            exact ⟨ret_int (by rw [HCM.out]; exact cmp_neg HZD.out HOK.out), bext HB.out HWF.out⟩
          | false =>
            by_cases h0 : nd = 0
            · have hl0 : (digs nd).length = 0 := by rw [h0, digs_zero]; rfl
              have H0 := Lib.hid h0
              clear h0
              go_wp2
              go_ret
              exact ⟨ret_int (by rw [HCM.out]; exact cmp_zero HZD.out H0.out), bext HB.out HWF.out⟩
            · have hl0 : 0 < (digs nd).length := by
                rcases Nat.eq_zero_or_pos (digs nd).length with h | h
                · exact absurd (digs_nil.1 (List.eq_nil_of_length_eq_zero h)) h0
                · exact h
              have H0 := Lib.hid h0
              clear h0
              go_wp2
              go_ret
              exact ⟨ret_int (by rw [HCM.out]; exact cmp_pos HZD.out H0.out), bext HB.out HWF.out⟩
      · rw [if_pos (by rfl)]
        go_simp
        have HW0 := HW
        have HW := Lib.hid (bext HW.out (below_alloc (W.drew) (.cells #[.bool false, .slice none 0 0] 43)))
        have hHeld := HS5.out _ HW.out
        have HP := Lib.hid (res2_new (W.drew) (R := W.heap.size) (by simp) rfl)
        refine hK.out _ _ (fun _ => hHeld) (?_)
        clear hK K
        (try simp only [Act.put, List.setIfInBounds_toArray, List.set_cons_zero, List.set_cons_succ, List.getElem_toArray, List.getElem_cons_zero, List.getElem_cons_succ])
        refine wpAnyK_ready (rs := [2]) (by decide +kernel) (by simp) ?_
        refine AllReadyK.cons rfl (fun K hK => ?_) AllReadyK.nil
        rw [if_pos (by rfl)]
        go_simp
        refine (turned_any by_ ny ay cy _ (R2.out.on HW.out)).mono ?_
        rintro e wT ⟨bt, nt, at_, ct, rfl, hrT⟩
        have HW := Lib.hid (bext HW.out hrT.out.2.2.2)
        have hHeld := HS5.out _ HW.out
        have HRT := Lib.hid hrT.out.2.2.1
        have hnt : nt = ny := by have := congrArg Int.natAbs hrT.out.2.1; rw [Int.natAbs_neg, natAbs_sg, natAbs_sg] at this; exact this
        subst hnt
        have HP := Lib.hid (res2_on HP.out hrT.out.2.2.2)
        refine hK.out _ _ (fun _ => hHeld) (?_)
        clear hK K
        (try simp only [Act.put, List.setIfInBounds_toArray, List.set_cons_zero, List.set_cons_succ, List.getElem_toArray, List.getElem_cons_zero, List.getElem_cons_succ])
        refine wpAnyK_ready (rs := [3]) (by decide +kernel) (by simp) ?_
        refine AllReadyK.cons rfl (fun K hK => ?_) AllReadyK.nil
        rw [if_pos (by rfl)]
        go_simp
        refine (sum_any bx bt nx nt ax at_ cx ct _ (R1.out.on HW.out) HRT.out (by omega) (by omega)).mono ?_
        rintro e wS ⟨bd, nd, ad, cd, rfl, hrS⟩
        have HW := Lib.hid (bext HW.out hrS.out.2.2.2)
        have hHeld := HS5.out _ HW.out
        have HRS := Lib.hid hrS.out.2.2.1
        have HP := Lib.hid (res2_on HP.out hrS.out.2.2.2)
        refine hK.out _ _ (fun _ => hHeld) (?_)
        clear hK K
        (try simp only [Act.put, List.setIfInBounds_toArray, List.set_cons_zero, List.set_cons_succ, List.getElem_toArray, List.getElem_cons_zero, List.getElem_cons_succ])
        refine wpAnyK_ready (rs := [5]) (by decide +kernel) (by simp) ?_
        refine AllReadyK.cons rfl (fun K hK => ?_) AllReadyK.nil
        obtain ⟨z0, z1_, z2_, z3⟩ := HP.out
        rw [if_pos (by rfl)]
        go_simp
        refine hK.out _ _ (fun h => absurd h (by decide)) (?_)
        clear hK K
        (try simp only [Act.put, List.setIfInBounds_toArray, List.set_cons_zero, List.set_cons_succ, List.getElem_toArray, List.getElem_cons_zero, List.getElem_cons_succ])
        refine wpAnyK_done (by decide +kernel) ?_ _
        have hP5 : W.heap.size ≤ W.heap.size := (by first | omega | exact HW0.out.size)
        have hqP := res_cells (.bool bd) (.slice ad (digs nd).length cd) z0 z1_
        have HWF := Lib.hid ((HW.out.setCell (p := ⟨W.heap.size, 0, none⟩) hP5 (.bool bd)).setCell (p := ⟨W.heap.size, 1, none⟩) hP5 (.slice ad (digs nd).length cd))
        obtain ⟨wF, hwF⟩ : ∃ wF, (((wS).setCell ⟨W.heap.size, 0, none⟩ (.bool bd)).setCell ⟨W.heap.size, 1, none⟩ (.slice ad (digs nd).length cd)) = wF := ⟨_, rfl⟩
        rw [hwF] at HWF hqP ⊢
        obtain ⟨p0, p1⟩ := hqP
        clear hwF z0 z1_ z2_ z3 hP5 HP
        have HZD := Lib.hid (show sg bd nd = z1 - z2 by rw [hrS.out.2.1, hrT.out.2.1, HX1.out, HX2.out]; omega)
        have HOK := Lib.hid hrS.out.1
        clear hHeld
        cases bd with
        | true =>
          go_wp2
          go_ret
          exact ⟨ret_int (by rw [HCM.out]; exact cmp_neg HZD.out HOK.out), bext HB.out HWF.out⟩
        | false =>
          by_cases h0 : nd = 0
          · have hl0 : (digs nd).length = 0 := by rw [h0, digs_zero]; rfl
            have H0 := Lib.hid h0
            clear h0
            go_wp2
            go_ret
            exact ⟨ret_int (by rw [HCM.out]; exact cmp_zero HZD.out H0.out), bext HB.out HWF.out⟩
          · have hl0 : 0 < (digs nd).length := by
              rcases Nat.eq_zero_or_pos (digs nd).length with h | h
              · exact absurd (digs_nil.1 (List.eq_nil_of_length_eq_zero h)) h0
              · exact h
            have H0 := Lib.hid h0
            clear h0
            go_wp2
            go_ret
            exact ⟨ret_int (by rw [HCM.out]; exact cmp_pos HZD.out H0.out), bext HB.out HWF.out⟩
end Go.Proofs.YteiipiomcbohnaaDoor
