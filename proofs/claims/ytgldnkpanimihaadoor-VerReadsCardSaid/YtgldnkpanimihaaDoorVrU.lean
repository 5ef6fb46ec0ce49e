/-
  the document's Minor, walked.
-/
import Derived.Deep.CutBlock
import Derived.Deep.CutRange
import Derived.Test.YtgldnkpanimihaaDoorVrT
namespace Go.Proofs.YtgldnkpanimihaaDoor.Rf
set_option linter.unusedSimpArgs false
set_option linter.unusedVariables false
open Go.RowKit

theorem vl_lt : ∀ j : Nat, ∀ l : List UInt8, l.length = j → l.all figureB = true → 0 ≤ vl l ∧ vl l < 10 ^ j
  | 0, l, h, _ => by obtain rfl := List.eq_nil_of_length_eq_zero h; simp [vl]
  | j + 1, l, h, hf => by
    have hne : l ≠ [] := fun e => by rw [e] at h; simp at h
    have hl := List.dropLast_concat_getLast hne
    rw [← hl, List.all_append, Bool.and_eq_true] at hf
    obtain ⟨h0, h1⟩ := vl_lt j l.dropLast (by rw [List.length_dropLast, h]; rfl) hf.1
    have h2 := figB.1 (show figureB (l.getLast hne) = true by simpa using hf.2)
    rw [← hl, vl_snoc]
    rw [Int.pow_succ]
    omega
theorem ext_list (s : List UInt8) (a b : Nat) : (⟨s.toArray⟩ : ByteArray).extract a b = ⟨((s.take b).drop a).toArray⟩ := by rw [ByteArray.extract_mk]; simp [List.drop_take]
theorem tail_iff {B : List UInt8} {b : UInt8} {h : 0 < B.length} (hb : B[0] = b) : Tail B ↔ ((b = 46 ∧ allB figureI (B.drop 1) = true) ∨ (B.take 2 = [114, 99] ∧ allB figureI (B.drop 2) = true) ∨ (B.take 4 = [98, 101, 116, 97] ∧ allB figureI (B.drop 4) = true)) := by
  constructor
  · rintro (rfl | ⟨D, hD, rfl | rfl | rfl⟩)
    · simp at h
    · exact .inl ⟨by simpa using hb.symm, hD⟩
    · exact .inr (.inl ⟨rfl, hD⟩)
    · exact .inr (.inr ⟨rfl, hD⟩)
  · rintro (⟨h1, h2⟩ | ⟨h1, h2⟩ | ⟨h1, h2⟩)
    · refine .inr ⟨_, h2, .inl ?_⟩
      cases B with
      | nil => simp at h
      | cons x t => simp only [List.getElem_cons_zero] at hb; rw [hb, h1]; rfl
    · refine .inr ⟨_, h2, .inr (.inl ?_)⟩
      conv => lhs; rw [← List.take_append_drop 2 B, h1]
      rfl
    · refine .inr ⟨_, h2, .inr (.inr ?_)⟩
      conv => lhs; rw [← List.take_append_drop 4 B, h1]
      rfl
theorem head_only {B : List UInt8} {b : UInt8} {h : 0 < B.length} (hb : B[0] = b) : (b = 46 → B.take 2 ≠ [114, 99] ∧ B.take 4 ≠ [98, 101, 116, 97]) ∧ (B.take 2 = [114, 99] → B.take 4 ≠ [98, 101, 116, 97]) ∧ (B.length ≤ 2 → allB figureI (B.drop 2) = false) ∧ (B.length ≤ 4 → allB figureI (B.drop 4) = false) := by
  cases B with
  | nil => simp at h
  | cons x t =>
    simp only [List.getElem_cons_zero] at hb
    subst hb
    refine ⟨?_, ?_, ?_, ?_⟩
    · rintro rfl
      exact ⟨fun e => by simp at e, fun e => by simp at e⟩
    · intro e e2
      simp only [List.take_succ_cons, List.cons.injEq] at e e2
      have := e.1.symm.trans e2.1
      exact absurd this (by decide)
    · intro hl; rw [List.drop_eq_nil_of_le hl]; rfl
    · intro hl; rw [List.drop_eq_nil_of_le hl]; rfl
set_option maxRecDepth 100000 in
set_option maxHeartbeats 8000000 in
theorem minor_in (s R : List UInt8) (c : UInt8) (w : World) (hs : s.length ≤ 1000) (hR : s = 49 :: 46 :: R) (hc : R.head? = some c) :
    Calls Tryd.prog 15 #[.string ⟨s.toArray⟩] w (MinPost (minG R) w) := by
  have hlen : s.length = R.length + 2 := by rw [hR]; simp
  have hpos : 1 ≤ R.length := by cases R with | nil => cases hc | cons a t => simp
  have e12 : (⟨s.toArray⟩ : ByteArray).extract 0 2 = ⟨#[49, 46]⟩ := by rw [hR, ext_list]; rfl
  have p2 : 2 < s.length := by omega
  have eC := byte_at s 2 p2
  rw [show s[2] = c by
    cases R with
    | nil => cases hc
    | cons a t => cases hc; simp [hR]] at eC
  have HS := Lib.hid hR
  have HC := Lib.hid hc
  have HLn := Lib.hid hlen
  have hu := c.toNat_lt
  have p3 : ¬ (s.length : Int) < 3 := by omega
  clear hR hc hlen hpos
  go_enter Tryd.func15, Tryd.ntmps15
  go_upto_block 0 with fail
  go_cut [4, 5] from 15 to 44 (fun n k wc => ∃ (J : Nat) (v : Int), n = .int .i64 v ∧ k = .int .i64 (J : Int) ∧ Hid (Row R (J - 2) ∧ v = vl (R.take (J - 2))) ∧ 0 ≤ v ∧ v < 1000 ∧ 2 ≤ J ∧ J ≤ 5 ∧ J ≤ s.length ∧ w = wc)
  case first =>
    go_wp2_with fail
    go_loopg [4, 5] 3 (fun g n k wx => ∃ (J : Nat) (v : Int), n = .int .i64 v ∧ k = .int .i64 (J : Int) ∧ Hid ((R.take (J - 2)).all figureB = true ∧ v = vl (R.take (J - 2))) ∧ 2 ≤ J ∧ J ≤ 5 ∧ J ≤ s.length ∧ g = 5 - J ∧ w = wx)
    case atStart => exact ⟨2, 0, rfl, rfl, Lib.hid ⟨rfl, rfl⟩, by omega, by omega, by omega, rfl, rfl⟩
    case round =>
      obtain ⟨J, v, rfl, rfl, HV, hJ2, hJ5, hJs, rfl, rfl⟩ := hrel
      have hb := vl_lt (J - 2) (R.take (J - 2)) (by rw [List.length_take]; have := HLn.out; omega) HV.out.1
      rw [← HV.out.2] at hb
      have hv0 := hb.1
      have hv1 : v < 1000 := by
        have : (10 : Int) ^ (J - 2) ≤ 10 ^ 3 := by
          rcases (show J = 2 ∨ J = 3 ∨ J = 4 ∨ J = 5 by omega) with rfl | rfl | rfl | rfl <;> decide
        have h9 : (10 : Int) ^ 3 = 1000 := by decide
        omega
      clear hb
      by_cases hlt : J < s.length
      · by_cases h5 : J < 5
        · have e2 := byte_at s J hlt
          have hd2 : s[J] = R[J - 2]'(by have := HLn.out; omega) := by
            have hg : s[J]? = R[J - 2]? := by
              rw [HS.out, show J = (J - 2) + 2 by omega, List.getElem?_cons_succ, List.getElem?_cons_succ]; rfl
            rw [List.getElem?_eq_getElem hlt, List.getElem?_eq_getElem (by have := HLn.out; omega)] at hg
            exact Option.some.inj hg
          obtain ⟨d, hd⟩ : ∃ d, s[J] = d := ⟨_, rfl⟩
          rw [hd] at e2 hd2
          have HD := Lib.hid hd2
          have hud := d.toNat_lt
          clear hd hd2
          by_cases hf : 48 ≤ (d.toNat : Int) ∧ (d.toNat : Int) ≤ 57
          · have hN : R.take (J + 1 - 2) = R.take (J - 2) ++ [d] := by
              rw [show J + 1 - 2 = J - 2 + 1 by omega, List.take_add_one, List.getElem?_eq_getElem (by have := HLn.out; omega), ← HD.out]; rfl
            have HN := Lib.hid (show (R.take (J + 1 - 2)).all figureB = true ∧ 10 * v + ((d.toNat : Int) - 48) = vl (R.take (J + 1 - 2)) by
              refine ⟨?_, ?_⟩
              · rw [hN, List.all_append, HV.out.1]; simp [figB.2 hf]
              · rw [hN, vl_snoc, HV.out.2])
            obtain ⟨f0, f1⟩ := hf
            clear hN
            go_wp2
            go_roundg (5 - (J + 1))
            case measure => omega
            case rel => exact ⟨J + 1, _, rfl, by first | rfl | go_num, HN, by omega, by omega, by omega, rfl, by first | trivial | rfl⟩
          · have HR := Lib.hid (show Row R (J - 2) ∧ v = vl (R.take (J - 2)) by
              refine ⟨⟨by have := HLn.out; omega, by omega, HV.out.1, .inr (.inr ⟨d, by rw [HD.out]; exact List.getElem?_eq_getElem _, ?_⟩)⟩, HV.out.2⟩
              rw [← Bool.not_eq_true]
              exact fun h => hf (figB.1 h))
            rcases (show (d.toNat : Int) < 48 ∨ (¬ (d.toNat : Int) < 48 ∧ 57 < (d.toNat : Int)) by omega) with hq | ⟨hq2, hq⟩
            all_goals
              clear hf
              go_wp2
              go_meet
              exact ⟨J, v, rfl, rfl, HR, hv0, hv1, hJ2, hJ5, hJs, rfl⟩
        · have HR := Lib.hid (show Row R (J - 2) ∧ v = vl (R.take (J - 2)) by
            exact ⟨⟨by have := HLn.out; omega, by omega, HV.out.1, .inl (by omega)⟩, HV.out.2⟩)
          go_wp2
          go_meet
          exact ⟨J, v, rfl, rfl, HR, hv0, hv1, hJ2, hJ5, hJs, rfl⟩
      · have HR := Lib.hid (show Row R (J - 2) ∧ v = vl (R.take (J - 2)) by
          exact ⟨⟨by have := HLn.out; omega, by omega, HV.out.1, .inr (.inl (by have := HLn.out; omega))⟩, HV.out.2⟩)
        go_wp2
        go_meet
        exact ⟨J, v, rfl, rfl, HR, hv0, hv1, hJ2, hJ5, hJs, rfl⟩
  case rest =>
    obtain ⟨J, v, rfl, rfl, HR, hv0, hv1, hJ2, hJ5, hJs, rfl⟩ := hcut
    by_cases b1 : J = 2
    · have HB := Lib.hid (row_bad HR.out.1 (.inl (by omega)))
      have q1 : ((J : Int) == 2) = true := by simp; omega
      clear b1
      go_wp2
      refine bodyPost_ret (v := .tuple #[.int .i64 0, .int .i64 6]) (by simp [results, Tryd.results15, go_sem]) rfl ?_
      exact ⟨by rw [HB.out], Lib.hid (Below.refl _ _)⟩
    have q1 : ((J : Int) == 2) = false := by simp; omega
    by_cases b2 : 99 < v
    · have HB := Lib.hid (row_bad HR.out.1 (.inr (.inl (by rw [← HR.out.2]; exact b2))))
      go_wp2
      refine bodyPost_ret (v := .tuple #[.int .i64 0, .int .i64 6]) (by simp [results, Tryd.results15, go_sem]) rfl ?_
      exact ⟨by rw [HB.out], Lib.hid (Below.refl _ _)⟩
    by_cases b3 : (c.toNat : Int) = 48 ∧ 3 < (J : Int)
    · have HB := Lib.hid (row_bad HR.out.1 (.inr (.inr ⟨by rw [HC.out]; congr 1; apply UInt8.toNat_inj.1; show c.toNat = 48; omega, by omega⟩)))
      have q3 : ((c.toNat : Int) == 48) = true := by simp; omega
      obtain ⟨-, q4⟩ := b3
      go_wp2
      refine bodyPost_ret (v := .tuple #[.int .i64 0, .int .i64 6]) (by simp [results, Tryd.results15, go_sem]) rfl ?_
      exact ⟨by rw [HB.out], Lib.hid (Below.refl _ _)⟩
    have HG := Lib.hid (row_good HR.out.1 (by omega) (by rw [← HR.out.2]; exact b2) (fun h => b3 ⟨by have := h.1; rw [HC.out] at this; cases this; rfl, by omega⟩))
    go_upto_region 7 with fail
    go_cut [59] from 45 to 59 (fun b wc => b = .bool false ∧ w = wc)
    case first =>
      go_wp2
      all_goals
        go_meet
        first
          | exact ⟨rfl, rfl⟩
          | (refine ⟨?_, rfl⟩; congr 1; simp at *; omega)
    case rest =>
    obtain ⟨rfl, rfl⟩ := hcut
    have hB : (⟨s.toArray⟩ : ByteArray).extract J s.length = ⟨(R.drop (J - 2)).toArray⟩ := by
      rw [ext_list, List.take_length, HS.out]
      obtain ⟨K, rfl⟩ : ∃ K, J = K + 2 := ⟨J - 2, by omega⟩
      rfl
    have HQ := Lib.hid (show Row R (J - 2) ∧ R = R.take (J - 2) ++ R.drop (J - 2) from ⟨HR.out.1, (List.take_append_drop _ _).symm⟩)
    have hBl : (R.drop (J - 2)).length ≤ 1000 := by rw [List.length_drop]; have := HLn.out; omega
    have HG2 := Lib.hid fun (T : Tail (R.drop (J - 2))) => show minG R = (v, 0) by
      obtain ⟨g1, g2, g3, g4⟩ := HG.out
      rw [← HR.out.2] at g1 g2 g3
      have := tail_good g1 g2 g3 T
      rw [List.take_append_drop] at this
      exact this
    have HG3 := Lib.hid fun (T : ¬ Tail (R.drop (J - 2))) => tail_bad HR.out.1 T
    clear HQ
    obtain ⟨B, hBB⟩ : ∃ B, R.drop (J - 2) = B := ⟨_, rfl⟩
    rw [hBB] at hB HG2 HG3 hBl
    clear hBB b3 q1
    by_cases hB0 : B = []
    · subst hB0
      have HV := Lib.hid (HG2.out (.inl rfl))
      go_wp2_with (go_at_call 30; refine (figures_any _ _ (by omega)).mono ?_; rintro e w' ⟨rfl, h9⟩; obtain rfl := h9)
      all_goals
        refine bodyPost_ret (v := .tuple #[.int .i64 v, .int .i64 0]) (by simp [results, Tryd.results15, go_sem]) rfl ?_
        exact ⟨by rw [HV.out], Lib.hid (Below.refl _ _)⟩
    have hB1 : 0 < B.length := List.length_pos_iff.2 hB0
    have f0 : B.isEmpty = false := by simpa using hB0
    have eB := byte_at B 0 hB1
    obtain ⟨b, hb⟩ : ∃ b, B[0] = b := ⟨_, rfl⟩
    rw [hb] at eB
    have HB0 := Lib.hid hB0
    have HB := Lib.hid hb
    have hub := b.toNat_lt
    clear hB0 hb
    have x1 : (⟨B.toArray⟩ : ByteArray).extract 1 B.length = ⟨(B.drop 1).toArray⟩ := by rw [ext_list, List.take_length]
    have x2 : (⟨B.toArray⟩ : ByteArray).extract 2 B.length = ⟨(B.drop 2).toArray⟩ := by rw [ext_list, List.take_length]
    have x4 : (⟨B.toArray⟩ : ByteArray).extract 4 B.length = ⟨(B.drop 4).toArray⟩ := by rw [ext_list, List.take_length]
    have y2 : (⟨B.toArray⟩ : ByteArray).extract 0 2 = ⟨(B.take 2).toArray⟩ := by rw [ext_list]; rfl
    have y4 : (⟨B.toArray⟩ : ByteArray).extract 0 4 = ⟨(B.take 4).toArray⟩ := by rw [ext_list]; rfl
    have l1 : (B.drop 1).length ≤ 1000 := by rw [List.length_drop]; omega
    have l2 : (B.drop 2).length ≤ 1000 := by rw [List.length_drop]; omega
    have l4 : (B.drop 4).length ≤ 1000 := by rw [List.length_drop]; omega
    have HT := Lib.hid (tail_iff HB.out)
    obtain ⟨D1, hD1⟩ : ∃ D, B.drop 1 = D := ⟨_, rfl⟩
    obtain ⟨D2, hD2⟩ : ∃ D, B.drop 2 = D := ⟨_, rfl⟩
    obtain ⟨D4, hD4⟩ : ∃ D, B.drop 4 = D := ⟨_, rfl⟩
    obtain ⟨P2, hP2⟩ : ∃ D, B.take 2 = D := ⟨_, rfl⟩
    obtain ⟨P4, hP4⟩ : ∃ D, B.take 4 = D := ⟨_, rfl⟩
    have HH := Lib.hid (show (b = 46 → P2 ≠ [114, 99] ∧ P4 ≠ [98, 101, 116, 97]) ∧ (P2 = [114, 99] → P4 ≠ [98, 101, 116, 97]) ∧ (B.length ≤ 2 → allB figureI D2 = false) ∧ (B.length ≤ 4 → allB figureI D4 = false) by
      rw [← hP2, ← hP4, ← hD2, ← hD4]
      exact head_only HB.out)
    rw [hD1] at x1 l1
    rw [hD2] at x2 l2
    rw [hD4] at x4 l4
    rw [hP2] at y2
    rw [hP4] at y4
    rw [hD1, hD2, hD4, hP2, hP4] at HT
    clear hD1 hD2 hD4 hP2 hP4
    have hval : ∀ u : UInt8, b = u ↔ (b.toNat : Int) = u.toNat := fun u => ⟨fun e => by rw [e], fun e => UInt8.toNat_inj.1 (by omega)⟩
    by_cases h46 : b = 46
    · obtain ⟨n2, n4⟩ := HH.out.1 h46
      have q0 : ((b.toNat : Int) == 46) = true := by rw [h46]; rfl
      cases a1 : allB figureI D1 with
      | true =>
        have HV := Lib.hid (HG2.out (HT.out.2 (.inl ⟨h46, a1⟩)))
        clear h46 hval
        go_wp2_with (go_at_call 30; refine (figures_any _ _ (by omega)).mono ?_; rintro e w' ⟨rfl, h9⟩; obtain rfl := h9)
        all_goals
          refine bodyPost_ret (v := .tuple #[.int .i64 v, .int .i64 0]) (by simp [results, Tryd.results15, go_sem]) rfl ?_
          exact ⟨by rw [HV.out], Lib.hid (Below.refl _ _)⟩
      | false =>
        have HV := Lib.hid (HG3.out fun T => by
          rcases HT.out.1 T with h | h | h
          · rw [a1] at h; exact absurd h.2 (by decide)
          · exact n2 h.1
          · exact n4 h.1)
        clear h46 hval
        rcases (show B.length ≤ 2 ∨ (2 < B.length ∧ B.length ≤ 4) ∨ (2 < B.length ∧ 4 < B.length) by omega) with k2 | ⟨k2, k4⟩ | ⟨k2, k4⟩
        all_goals
          go_wp2_with (go_at_call 30; refine (figures_any _ _ (by omega)).mono ?_; rintro e w' ⟨rfl, h9⟩; obtain rfl := h9)
          all_goals
            refine bodyPost_ret (v := .tuple #[.int .i64 0, .int .i64 6]) (by simp [results, Tryd.results15, go_sem]) rfl ?_
            exact ⟨by rw [HV.out], Lib.hid (Below.refl _ _)⟩
    have q0 : ((b.toNat : Int) == 46) = false := by
      have : ¬ (b.toNat : Int) = 46 := fun e => h46 ((hval 46).2 e)
      simpa using this
    by_cases k2 : B.length ≤ 2
    · have HV := Lib.hid (HG3.out fun T => by
        rcases HT.out.1 T with h | h | h
        · exact h46 h.1
        · rw [HH.out.2.2.1 k2] at h; exact absurd h.2 (by decide)
        · rw [HH.out.2.2.2 (by omega)] at h; exact absurd h.2 (by decide))
      clear h46 hval
      go_wp2_with (go_at_call 30; refine (figures_any _ _ (by omega)).mono ?_; rintro e w' ⟨rfl, h9⟩; obtain rfl := h9)
      all_goals
        refine bodyPost_ret (v := .tuple #[.int .i64 0, .int .i64 6]) (by simp [results, Tryd.results15, go_sem]) rfl ?_
        exact ⟨by rw [HV.out], Lib.hid (Below.refl _ _)⟩
    have k2 : 2 < B.length := by omega
    by_cases n2 : P2 = [114, 99]
    · have n4 := HH.out.2.1 n2
      subst n2
      simp only [List.toArray] at y2
      cases a2 : allB figureI D2 with
      | true =>
        have HV := Lib.hid (HG2.out (HT.out.2 (.inr (.inl ⟨rfl, a2⟩))))
        clear h46 hval
        go_wp2_with (go_at_call 30; refine (figures_any _ _ (by omega)).mono ?_; rintro e w' ⟨rfl, h9⟩; obtain rfl := h9)
        all_goals
          refine bodyPost_ret (v := .tuple #[.int .i64 v, .int .i64 0]) (by simp [results, Tryd.results15, go_sem]) rfl ?_
          exact ⟨by rw [HV.out], Lib.hid (Below.refl _ _)⟩
      | false =>
        have HV := Lib.hid (HG3.out fun T => by
          rcases HT.out.1 T with h | h | h
          · exact h46 h.1
          · rw [a2] at h; exact absurd h.2 (by decide)
          · exact n4 h.1)
        clear h46 hval
        rcases (show B.length ≤ 4 ∨ 4 < B.length by omega) with k4 | k4
        all_goals
          go_wp2_with (go_at_call 30; refine (figures_any _ _ (by omega)).mono ?_; rintro e w' ⟨rfl, h9⟩; obtain rfl := h9)
          all_goals
            refine bodyPost_ret (v := .tuple #[.int .i64 0, .int .i64 6]) (by simp [results, Tryd.results15, go_sem]) rfl ?_
            exact ⟨by rw [HV.out], Lib.hid (Below.refl _ _)⟩
    by_cases k4 : B.length ≤ 4
    · have HV := Lib.hid (HG3.out fun T => by
        rcases HT.out.1 T with h | h | h
        · exact h46 h.1
        · exact n2 h.1
        · rw [HH.out.2.2.2 k4] at h; exact absurd h.2 (by decide))
      clear h46 hval
      go_wp2_with (go_at_call 30; refine (figures_any _ _ (by omega)).mono ?_; rintro e w' ⟨rfl, h9⟩; obtain rfl := h9)
      all_goals
        refine bodyPost_ret (v := .tuple #[.int .i64 0, .int .i64 6]) (by simp [results, Tryd.results15, go_sem]) rfl ?_
        exact ⟨by rw [HV.out], Lib.hid (Below.refl _ _)⟩
    have k4 : 4 < B.length := by omega
    by_cases n4 : P4 = [98, 101, 116, 97]
    · subst n4
      simp only [List.toArray] at y4
      cases a4 : allB figureI D4 with
      | true =>
        have HV := Lib.hid (HG2.out (HT.out.2 (.inr (.inr ⟨rfl, a4⟩))))
        clear h46 hval
        go_wp2_with (go_at_call 30; refine (figures_any _ _ (by omega)).mono ?_; rintro e w' ⟨rfl, h9⟩; obtain rfl := h9)
        all_goals
          refine bodyPost_ret (v := .tuple #[.int .i64 v, .int .i64 0]) (by simp [results, Tryd.results15, go_sem]) rfl ?_
          exact ⟨by rw [HV.out], Lib.hid (Below.refl _ _)⟩
      | false =>
        have HV := Lib.hid (HG3.out fun T => by
          rcases HT.out.1 T with h | h | h
          · exact h46 h.1
          · exact n2 h.1
          · rw [a4] at h; exact absurd h.2 (by decide))
        clear h46 hval
        go_wp2_with (go_at_call 30; refine (figures_any _ _ (by omega)).mono ?_; rintro e w' ⟨rfl, h9⟩; obtain rfl := h9)
        all_goals
          refine bodyPost_ret (v := .tuple #[.int .i64 0, .int .i64 6]) (by simp [results, Tryd.results15, go_sem]) rfl ?_
          exact ⟨by rw [HV.out], Lib.hid (Below.refl _ _)⟩
    · have HV := Lib.hid (HG3.out fun T => by
        rcases HT.out.1 T with h | h | h
        · exact h46 h.1
        · exact n2 h.1
        · exact n4 h.1)
      clear h46 hval
      go_wp2_with (go_at_call 30; refine (figures_any _ _ (by omega)).mono ?_; rintro e w' ⟨rfl, h9⟩; obtain rfl := h9)
      all_goals
        refine bodyPost_ret (v := .tuple #[.int .i64 0, .int .i64 6]) (by simp [results, Tryd.results15, go_sem]) rfl ?_
        exact ⟨by rw [HV.out], Lib.hid (Below.refl _ _)⟩
set_option maxRecDepth 100000 in
set_option maxHeartbeats 4000000 in
theorem minor_ref (s : List UInt8) (w : World) (hs : s.length ≤ 1000) :
    Calls Tryd.prog 15 #[.string ⟨s.toArray⟩] w (MinPost (minorG s) w) := by
  by_cases h3 : s.length < 3
  · have HN := Lib.hid (show minorG s = (0, 6) by
      match s, h3 with
      | [], _ => rfl
      | [a], _ => unfold minorG; rw [if_neg (by simp [Lib.hasPrefix])]
      | [a, b], _ =>
        by_cases hab : a = 49 ∧ b = 46
        · obtain ⟨rfl, rfl⟩ := hab
          decide +kernel
        · unfold minorG
          rw [if_neg]
          simp [Lib.hasPrefix]
          intro e1 e2
          exact hab ⟨e1.symm, e2.symm⟩)
    go_enter Tryd.func15, Tryd.ntmps15
    go_wp2
    all_goals
      refine bodyPost_ret (v := .tuple #[.int .i64 0, .int .i64 6]) (by simp [results, Tryd.results15, go_sem]) rfl ?_
      exact ⟨by rw [HN.out], Lib.hid (Below.refl _ _)⟩
  match s, hs, h3 with
  | [], _, h3 => exact absurd (by simp) h3
  | [_], _, h3 => exact absurd (by simp) h3
  | [_, _], _, h3 => exact absurd (by simp) h3
  | a :: b :: c :: t, hs, h3 =>
    by_cases hab : a = 49 ∧ b = 46
    · obtain ⟨rfl, rfl⟩ := hab
      rw [minor_cons]
      exact minor_in _ (c :: t) c w hs rfl rfl
    · have HN := Lib.hid (show minorG (a :: b :: c :: t) = (0, 6) by
        unfold minorG
        rw [if_neg]
        simp [Lib.hasPrefix]
        intro e1 e2
        exact hab ⟨e1.symm, e2.symm⟩)
      have e12 : (⟨(a :: b :: c :: t).toArray⟩ : ByteArray).extract 0 2 = ⟨[a, b].toArray⟩ := by rw [ext_list]; rfl
      have hne : ¬ [a, b] = [49, 46] := fun e => hab (by simpa using e)
      have hl : 3 ≤ (a :: b :: c :: t).length := by simp
      obtain ⟨S, hS⟩ : ∃ S, a :: b :: c :: t = S := ⟨_, rfl⟩
      obtain ⟨P, hP⟩ : ∃ P, [a, b] = P := ⟨_, rfl⟩
      rw [hS] at e12 HN hl hs ⊢
      rw [hP] at e12 hne
      have hne2 : (P == [49, 46]) = false := by simpa using hne
      clear hS hP hab h3
      go_enter Tryd.func15, Tryd.ntmps15
      go_wp2
      all_goals
        refine bodyPost_ret (v := .tuple #[.int .i64 0, .int .i64 6]) (by simp [results, Tryd.results15, go_sem]) rfl ?_
        exact ⟨by rw [HN.out], Lib.hid (Below.refl _ _)⟩
end Go.Proofs.YtgldnkpanimihaaDoor.Rf
