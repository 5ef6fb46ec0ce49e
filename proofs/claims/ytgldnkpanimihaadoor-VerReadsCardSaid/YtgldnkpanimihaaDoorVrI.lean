/-
  a version's minor, plainly.
-/
import Derived.Test.YtgldnkpanimihaaDoorVrG
namespace Go.Proofs.YtgldnkpanimihaaDoor
set_option linter.unusedSimpArgs false
set_option linter.unusedVariables false
open Go.RowKit

theorem occ_head {s t : List UInt8} {c : UInt8} {j : Nat} (h : Lib.occAt s (c :: t) j = true) : s[j]? = some c := by
  unfold Lib.occAt at h
  rw [List.isPrefixOf_iff_prefix] at h
  obtain ⟨r, hr⟩ := h
  have := congrArg List.head? hr
  rw [List.head?_drop] at this
  simpa using this.symm
theorem cut_no {s t : List UInt8} {c : UInt8} (h : c ∉ s) : Lib.cut s (c :: t) = (s, [], false) := by
  have : Lib.index s (c :: t) = -1 := Lib.index_none fun j _ => by
    cases ho : Lib.occAt s (c :: t) j with
    | false => rfl
    | true => exact absurd (List.mem_of_getElem? (occ_head ho)) h
  unfold Lib.cut
  rw [this, if_neg (by omega)]
theorem cut_at {A B t : List UInt8} {c : UInt8} (h : c ∉ A) : Lib.cut (A ++ (c :: t ++ B)) (c :: t) = (A, B, true) := by
  have : Lib.index (A ++ (c :: t ++ B)) (c :: t) = (A.length : Int) := by
    refine Lib.index_first (by simp) ?_ (fun j hj => ?_)
    · unfold Lib.occAt
      rw [List.isPrefixOf_iff_prefix, List.drop_left]
      exact List.prefix_append _ _
    · cases ho : Lib.occAt (A ++ (c :: t ++ B)) (c :: t) j with
      | false => rfl
      | true =>
        have h1 := occ_head ho
        rw [List.getElem?_append_left hj] at h1
        exact absurd (List.mem_of_getElem? h1) h
  unfold Lib.cut
  rw [this, if_pos (by omega)]
  simp
theorem num_small : ∀ m : Nat, m < 100 → numG (Lib.decDigits m) = ((m : Int), 0) := by decide +kernel
theorem num_of {D : List UInt8} {v e : Int} (h : numG D = (v, e)) : (e = 0 ∧ 0 ≤ v ∧ v ≤ 99 ∧ D = Lib.decDigits v.toNat) ∨ (v, e) = (0, 6) := by
  unfold numG at h
  cases ha : Lib.atoiAll D with
  | «syntax» => rw [ha] at h; exact .inr h.symm
  | range => rw [ha] at h; exact .inr h.symm
  | ok u =>
    rw [ha] at h
    simp only at h
    split at h
    · next hc =>
      obtain ⟨rfl, rfl⟩ := Prod.mk.inj h
      refine .inl ⟨rfl, hc.2.1, hc.2.2, ?_⟩
      rw [← hc.1]
      unfold Lib.itoa
      rw [if_neg (by omega)]
    · exact .inr h.symm
theorem num_bad {D : List UInt8} (h : D.all figureB = false) : numG D = (0, 6) := by
  obtain ⟨v, e, hv⟩ : ∃ v e, numG D = (v, e) := ⟨_, _, rfl⟩
  rcases num_of hv with ⟨_, _, _, h4⟩ | h
  · rw [h4, dec_all] at h; cases h
  · rw [hv, h]
theorem num_not {D : List UInt8} (h : ∀ n : Nat, n < 100 → D ≠ Lib.decDigits n) : numG D = (0, 6) := by
  obtain ⟨v, e, hv⟩ : ∃ v e, numG D = (v, e) := ⟨_, _, rfl⟩
  rcases num_of hv with ⟨_, h2, h3, h4⟩ | h5
  · exact absurd h4 (h _ (by omega))
  · rw [hv, h5]
theorem fig_not {A : List UInt8} (h : A.all figureB = true) {c : UInt8} (hc : figureB c = false) : c ∉ A := fun hm => by
  have := List.all_eq_true.1 h c hm
  rw [hc] at this; cases this
theorem all_figs (D : List UInt8) : allB figureI D = (!D.isEmpty && D.all figureB) := rfl
theorem min_dot {A D : List UInt8} (hA : A.all figureB = true) : minG (A ++ 46 :: D) = if allB figureI D then numG A else (0, 6) := by
  have h := cut_at (A := A) (B := D) (t := []) (c := 46) (fig_not hA (by decide))
  simp only [List.cons_append, List.nil_append] at h
  unfold minG cutG
  rw [h]
  simp
theorem no_dot {A D : List UInt8} {c : UInt8} {p : List UInt8} (hA : A.all figureB = true) (hD : D.all figureB = true) (hc : figureB c = false) (hp : c ∉ p) : c ∉ A ++ (p ++ D) := by
  rw [List.mem_append, List.mem_append]
  rintro (h | h | h)
  · exact fig_not hA hc h
  · exact hp h
  · exact fig_not hD hc h
theorem min_rc {A D : List UInt8} (hA : A.all figureB = true) (hD : D.all figureB = true) : minG (A ++ 114 :: 99 :: D) = if allB figureI D then numG A else (0, 6) := by
  have h := cut_at (A := A) (B := D) (t := [99]) (c := 114) (fig_not hA (by decide))
  have h0 := cut_no (t := []) (no_dot (p := [114, 99]) hA hD (c := 46) (by decide) (by decide))
  simp only [List.cons_append, List.nil_append] at h h0
  unfold minG
  rw [cutG, h0, if_neg (by simp), cutG, h]
  simp
theorem min_beta {A D : List UInt8} (hA : A.all figureB = true) (hD : D.all figureB = true) : minG (A ++ 98 :: 101 :: 116 :: 97 :: D) = if allB figureI D then numG A else (0, 6) := by
  have h := cut_at (A := A) (B := D) (t := [101, 116, 97]) (c := 98) (fig_not hA (by decide))
  have h0 := cut_no (t := []) (no_dot (p := [98, 101, 116, 97]) hA hD (c := 46) (by decide) (by decide))
  have h1 := cut_no (t := [99]) (no_dot (p := [98, 101, 116, 97]) hA hD (c := 114) (by decide) (by decide))
  simp only [List.cons_append, List.nil_append] at h h0 h1
  unfold minG
  rw [cutG, h0, if_neg (by simp), cutG, h1, if_neg (by simp), cutG, h]
  simp
theorem min_none {R : List UInt8} (h0 : (46 : UInt8) ∉ R) (h1 : (114 : UInt8) ∉ R) (h2 : (98 : UInt8) ∉ R) : minG R = numG R := by
  unfold minG
  rw [cutG, cut_no h0, if_neg (by simp), cutG, cut_no h1, if_neg (by simp), cutG, cut_no h2, if_neg (by simp)]
theorem minor_cons (R : List UInt8) : minorG (49 :: 46 :: R) = minG R := by
  unfold minorG
  rw [if_pos (by simp [Lib.hasPrefix])]
  rfl
theorem itoa_nat (n : Nat) : Lib.itoa n = Lib.decDigits n := by
  unfold Lib.itoa
  rw [if_neg (by omega)]; simp
theorem figs_dec (n : Nat) : allB figureI (Lib.decDigits n) = true := by
  rw [all_figs, dec_all]
  cases h : Lib.decDigits n with
  | nil => exact absurd h (dec_ne n)
  | cons _ _ => rfl
/-- What VerRests asks. -/
theorem rests_plain (m n : Nat) (hm : m < 100) :
    minorG (49 :: 46 :: (Lib.decDigits m ++ 46 :: Lib.decDigits n)) = ((m : Int), 0) ∧ minorG (49 :: 46 :: (Lib.decDigits m ++ 114 :: 99 :: Lib.decDigits n)) = ((m : Int), 0) ∧
    minorG (49 :: 46 :: (Lib.decDigits m ++ 98 :: 101 :: 116 :: 97 :: Lib.decDigits n)) = ((m : Int), 0) ∧ minorG (49 :: 46 :: (Lib.decDigits m ++ 120 :: Lib.decDigits n)) = (0, 6) := by
  refine ⟨?_, ?_, ?_, ?_⟩
  · rw [minor_cons, min_dot (dec_all m), figs_dec, if_pos rfl, num_small m hm]
  · rw [minor_cons, min_rc (dec_all m) (dec_all n), figs_dec, if_pos rfl, num_small m hm]
  · rw [minor_cons, min_beta (dec_all m) (dec_all n), figs_dec, if_pos rfl, num_small m hm]
  · have h0 := no_dot (p := [120]) (dec_all m) (dec_all n) (c := 46) (by decide) (by decide)
    have h1 := no_dot (p := [120]) (dec_all m) (dec_all n) (c := 114) (by decide) (by decide)
    have h2 := no_dot (p := [120]) (dec_all m) (dec_all n) (c := 98) (by decide) (by decide)
    simp only [List.cons_append, List.nil_append] at h0 h1 h2
    rw [minor_cons, min_none h0 h1 h2, num_bad (by rw [List.all_append, List.all_cons]; simp [show figureB 120 = false by decide])]
end Go.Proofs.YtgldnkpanimihaaDoor
