/-
  the document's Path.
-/
import Derived.Test.YtgldnkpanimihaaDoorVrR
namespace Go.Proofs.YtgldnkpanimihaaDoor.Rf
set_option linter.unusedSimpArgs false
set_option linter.unusedVariables false
open Go.RowKit

/-- A path byte by byte, p in front. -/
def pcs (p : UInt8) : List UInt8 → Bool
  | [] => decide (p ≠ 47)
  | c :: t => if c = 47 then decide (p ≠ 47) && pcs 47 t else mayB c && pcs c t
theorem pcs_split : ∀ (l : List UInt8) (p : UInt8) (h : List UInt8) (r : List (List UInt8)), splitL 47 l = h :: r → pcs p l = ((if p = 47 then allB mayI h else h.all mayB) && r.all (allB mayI))
  | [], p, h, r, e => by
    obtain ⟨rfl, rfl⟩ := List.cons.inj e
    by_cases hp : p = 47 <;> simp [pcs, hp, allB]
  | x :: t, p, h, r, e => by
    rw [splitL_cons] at e
    by_cases hx : x = 47
    · rw [if_pos hx] at e
      obtain ⟨rfl, rfl⟩ := List.cons.inj e
      unfold pcs
      rw [if_pos hx]
      cases hs : splitL 47 t with
      | nil => exact absurd hs (splitL_ne 47 t)
      | cons h2 r2 =>
        rw [pcs_split t 47 h2 r2 hs, if_pos rfl]
        by_cases hp : p = 47 <;> simp [hp, allB]
    · rw [if_neg hx] at e
      cases hs : splitL 47 t with
      | nil => exact absurd hs (splitL_ne 47 t)
      | cons h2 r2 =>
        rw [hs] at e
        obtain ⟨rfl, rfl⟩ := List.cons.inj e
        unfold pcs
        rw [if_neg hx, pcs_split t x h2 r2 hs, if_neg hx]
        by_cases hp : p = 47
        · rw [if_pos hp]
          unfold allB
          rw [List.all_cons]
          simp only [List.isEmpty_cons, Bool.not_false, Bool.true_and, Bool.and_assoc]
          rfl
        · rw [if_neg hp, List.all_cons, Bool.and_assoc]
theorem pcs_path (l : List UInt8) : pathL l = (pcs 47 l && decide (l.length ≤ 200)) := by
  unfold pathL
  cases hs : splitL 47 l with
  | nil => exact absurd hs (splitL_ne 47 l)
  | cons h r => rw [pcs_split l 47 h r hs, if_pos rfl, List.all_cons]
/-- The byte in front. -/
def frontB (l : List UInt8) (k : Nat) : UInt8 := if k = 0 then 47 else l.getD (k - 1) 0
theorem pcs_last : ∀ (l : List UInt8) (p : UInt8), pcs p l = true → l.getLastD p ≠ 47
  | [], p, h => by simpa [pcs] using h
  | c :: t, p, h => by
    unfold pcs at h
    rw [List.getLastD_cons]
    split at h
    · next hc =>
      rw [Bool.and_eq_true] at h
      subst hc
      exact pcs_last t 47 h.2
    · rw [Bool.and_eq_true] at h
      exact pcs_last t c h.2
theorem may_cases (c : Int) (h0 : 0 ≤ c) (h1 : c ≠ 47) : (mayI c = true ∧ (c = 95 ∨ c = 45 ∨ c = 46 ∨ (48 ≤ c ∧ c ≤ 57) ∨ (97 ≤ c ∧ c ≤ 122) ∨ (65 ≤ c ∧ c ≤ 90))) ∨
    (mayI c = false ∧ (c < 45 ∨ (58 ≤ c ∧ c < 65) ∨ (90 < c ∧ c < 95) ∨ c = 96 ∨ 122 < c)) := by
  cases h : mayI c with
  | true => refine .inl ⟨rfl, ?_⟩; simp [mayI, figureI] at h; omega
  | false => refine .inr ⟨rfl, ?_⟩; simp [mayI, figureI] at h; omega

set_option maxRecDepth 100000 in
set_option maxHeartbeats 8000000 in
theorem path_in (s : List UInt8) (w : World) (hs : s.length ≤ 200) (hs0 : 0 < s.length) (hf : ¬ (s[0].toNat : Int) = 47) (hl : ¬ ((s[s.length - 1]'(by omega)).toNat : Int) = 47) :
    Calls Tryd.prog 16 #[.string ⟨s.toArray⟩] w fun e w' => e = .returned (.bool (pathL s)) ∧ w = w' := by
  have HP := Lib.hid (show pathL s = pcs 47 s by rw [pcs_path, show decide (s.length ≤ 200) = true by simp; omega, Bool.and_true])
  have HF := Lib.hid hf
  have HL := Lib.hid hl
  have e0 := byte_at s 0 hs0
  have e9 := byte_at s (s.length - 1) (by omega)
  obtain ⟨d0, hd0⟩ : ∃ d, s[0] = d := ⟨_, rfl⟩
  obtain ⟨d9, hd9⟩ : ∃ d, s[s.length - 1]'(by omega) = d := ⟨_, rfl⟩
  have HD0 := Lib.hid hd0
  have HD9 := Lib.hid hd9
  rw [hd0] at e0 hf
  rw [hd9] at e9 hl
  have hu0 := d0.toNat_lt
  have hu9 := d9.toNat_lt
  clear hd0 hd9
  have q1 : ((s.length : Int) == 0) = false := by simp; intro e; rw [e] at hs0; simp at hs0
  have q2 : ¬ 200 < (s.length : Int) := by omega
  have q3 : ((d0.toNat : Int) == 47) = false := by simpa using hf
  have q4 : ((d9.toNat : Int) == 47) = false := by simpa using hl
  go_enter Tryd.func16, Tryd.ntmps16
  go_wp2
  clear e0 e9 q1 q2 q3 q4
  go_loopw [3] (fun i wr => ∃ k : Nat, k ≤ s.length ∧ i = .int .i64 k ∧ Hid (pcs 47 s = pcs (frontB s k) (s.drop k)) ∧ w = wr) (fun i _ => s.length - (intOf i).toNat)
  case atStart => exact ⟨0, by omega, rfl, Lib.hid rfl, rfl⟩
  case round =>
    obtain ⟨k, hk, rfl, HV, rfl⟩ := hrel
    by_cases hlt : k < s.length
    · have e2 := byte_at s k hlt
      obtain ⟨d, hd⟩ : ∃ d, s[k] = d := ⟨_, rfl⟩
      have HD := Lib.hid hd
      rw [hd] at e2
      have hu := d.toNat_lt
      by_cases h47 : (d.toNat : Int) = 47
      · have hk0 : k ≠ 0 := fun e => by subst e; exact HF.out (by rw [hd]; exact h47)
        have e3 := byte_at s (k - 1) (by omega)
        obtain ⟨q, hq⟩ : ∃ d, s[k - 1] = d := ⟨_, rfl⟩
        rw [hq] at e3
        have hu3 := q.toNat_lt
        have hd47 : d = 47 := UInt8.toNat_inj.1 (by show d.toNat = 47; omega)
        have hfr : frontB s k = q := by unfold frontB; rw [if_neg hk0, List.getD_eq_getElem?_getD, List.getElem?_eq_getElem (by omega), hq]; rfl
        have hstep : pcs (frontB s k) (s.drop k) = (decide (q ≠ 47) && pcs 47 (s.drop (k + 1))) := by rw [drop_at hlt, pcs, hd, hd47, if_pos rfl, hfr]
        have hn1 : ((k - 1 : Nat) : Int) = k - 1 := by omega
        by_cases hq47 : (q.toNat : Int) = 47
        · have hq' : q = 47 := UInt8.toNat_inj.1 (by show q.toNat = 47; omega)
          have HN := Lib.hid (show pathL s = false by rw [HP.out, HV.out, hstep, hq']; rfl)
          clear hstep hfr hd47 hq' hq hd
          go_wp2
          go_ret
          exact ⟨ret_bool HN.out.symm, rfl⟩
        · have HV2 := Lib.hid (show pcs 47 s = pcs (frontB s (k + 1)) (s.drop (k + 1)) by
            rw [HV.out, hstep, show decide (q ≠ 47) = true by simp; intro e; exact hq47 (by rw [e]; rfl), Bool.true_and]
            congr 1
            unfold frontB
            rw [if_neg (by omega), List.getD_eq_getElem?_getD, Nat.add_sub_cancel, List.getElem?_eq_getElem hlt, hd, hd47]; rfl)
          clear hstep hfr hd47 hq hd
          go_wp2
          go_roundw
          case rel => exact ⟨k + 1, by omega, by go_num, HV2, by first | trivial | rfl⟩
          case measure => simp [intOf]; omega
      · have hd47 : ¬ d = 47 := fun e => h47 (by rw [e]; rfl)
        have hstep : pcs (frontB s k) (s.drop k) = (mayI d.toNat && pcs (frontB s (k + 1)) (s.drop (k + 1))) := by
          rw [drop_at hlt, pcs, hd, if_neg hd47]
          unfold mayB frontB
          rw [if_neg (show ¬ k + 1 = 0 by omega), List.getD_eq_getElem?_getD, Nat.add_sub_cancel, List.getElem?_eq_getElem hlt, hd]; rfl
        rcases may_cases d.toNat (by omega) h47 with ⟨hm, hc⟩ | ⟨hm, hc⟩
        · have HV2 := Lib.hid (show pcs 47 s = pcs (frontB s (k + 1)) (s.drop (k + 1)) by rw [HV.out, hstep, hm, Bool.true_and])
          clear hstep hd hm hd47
          rcases hc with hc | hc | hc | ⟨hc, hc'⟩ | ⟨hc, hc'⟩ | ⟨hc, hc'⟩
          all_goals
            go_wp2
            all_goals exact ⟨⟨k + 1, by omega, by go_num, HV2, trivial⟩, by simp [intOf]; omega⟩
        · have HN := Lib.hid (show pathL s = false by rw [HP.out, HV.out, hstep, hm]; rfl)
          clear hstep hd hm hd47
          have p1 : ((d.toNat : Int) != 47) = true := by simp; omega
          have p2 : ((d.toNat : Int) != 95) = true := by simp; omega
          have p3 : ((d.toNat : Int) != 45) = true := by simp; omega
          have p4 : ((d.toNat : Int) != 46) = true := by simp; omega
          rcases hc with hc | ⟨hc, hc'⟩ | ⟨hc, hc'⟩ | hc | hc
          all_goals
            go_wp2
            all_goals first
              | (exfalso; omega)
              | (go_ret; exact ⟨ret_bool HN.out.symm, rfl⟩)
    · have HT := Lib.hid (show pathL s = true by
        rw [HP.out, HV.out, List.drop_eq_nil_of_le (by omega)]
        unfold pcs frontB
        rw [show k = s.length by omega, if_neg (by omega), List.getD_eq_getElem?_getD, List.getElem?_eq_getElem (by omega), HD9.out]
        simp only [Option.getD_some, decide_eq_true_eq]
        intro e
        exact HL.out (by rw [HD9.out, e]; rfl))
      go_wp2
      go_ret
      exact ⟨ret_bool HT.out.symm, rfl⟩
set_option maxRecDepth 100000 in
set_option maxHeartbeats 4000000 in
theorem path_ref (s : List UInt8) (w : World) (hs : s.length ≤ 100000) :
    Calls Tryd.prog 16 #[.string ⟨s.toArray⟩] w fun e w' => e = .returned (.bool (pathL s)) ∧ w = w' := by
  by_cases h0 : s.length = 0
  · have HN := Lib.hid (show pathL s = false by obtain rfl := List.eq_nil_of_length_eq_zero h0; rfl)
    go_enter Tryd.func16, Tryd.ntmps16
    go_wp2
    go_ret
    exact ⟨ret_bool HN.out.symm, rfl⟩
  by_cases h200 : 200 < s.length
  · have HN := Lib.hid (show pathL s = false by rw [pcs_path, show decide (s.length ≤ 200) = false by simp; omega, Bool.and_false])
    go_enter Tryd.func16, Tryd.ntmps16
    go_wp2
    go_ret
    exact ⟨ret_bool HN.out.symm, rfl⟩
  have hs0 : 0 < s.length := by omega
  by_cases hf : (s[0].toNat : Int) = 47
  · have e0 := byte_at s 0 hs0
    have HN := Lib.hid (show pathL s = false by
      rw [pcs_path]
      cases s with
      | nil => simp at hs0
      | cons c t =>
        have : c = 47 := UInt8.toNat_inj.1 (by show c.toNat = 47; simp at hf; omega)
        rw [this, pcs, if_pos rfl]; rfl)
    obtain ⟨d0, hd0⟩ : ∃ d, s[0] = d := ⟨_, rfl⟩
    rw [hd0] at e0 hf
    have hu0 := d0.toNat_lt
    clear hd0
    go_enter Tryd.func16, Tryd.ntmps16
    go_wp2
    go_ret
    exact ⟨ret_bool HN.out.symm, rfl⟩
  by_cases hl : ((s[s.length - 1]'(by omega)).toNat : Int) = 47
  · have e0 := byte_at s 0 hs0
    have e9 := byte_at s (s.length - 1) (by omega)
    have HN := Lib.hid (show pathL s = false by
      rw [pcs_path, Bool.and_eq_false_iff]
      refine .inl ?_
      cases hp : pcs 47 s with
      | false => rfl
      | true =>
        exfalso
        have := pcs_last s 47 hp
        rw [List.getLastD_eq_getLast?, List.getLast?_eq_getElem?, List.getElem?_eq_getElem (by omega)] at this
        apply this
        apply UInt8.toNat_inj.1
        show (s[s.length - 1]'(by omega)).toNat = 47
        omega)
    obtain ⟨d0, hd0⟩ : ∃ d, s[0] = d := ⟨_, rfl⟩
    obtain ⟨d9, hd9⟩ : ∃ d, s[s.length - 1]'(by omega) = d := ⟨_, rfl⟩
    rw [hd0] at e0 hf
    rw [hd9] at e9 hl
    have hu0 := d0.toNat_lt
    have hu9 := d9.toNat_lt
    clear hd0 hd9
    go_enter Tryd.func16, Tryd.ntmps16
    go_wp2
    go_ret
    exact ⟨ret_bool HN.out.symm, rfl⟩
  · exact path_in s w (by omega) hs0 hf hl
end Go.Proofs.YtgldnkpanimihaaDoor.Rf
