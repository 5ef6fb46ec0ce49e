/-
  which texts are minors, plainly, as the document tells it.
-/
import Derived.Test.YtgldnkpanimihaaDoorVrS
namespace Go.Proofs.YtgldnkpanimihaaDoor.Rf
set_option linter.unusedSimpArgs false
set_option linter.unusedVariables false
open Go.RowKit

theorem cut_true {s sep : List UInt8} (h : (Lib.cut s sep).2.2 = true) : s = (Lib.cut s sep).1 ++ (sep ++ (Lib.cut s sep).2.1) := by
  unfold Lib.cut at h ⊢
  split at h
  · next hi =>
    rw [if_pos hi]
    rcases Lib.index_spec s sep with ⟨e, _⟩ | ⟨i, e, hle, ho, _⟩
    · omega
    · rw [e]
      unfold Lib.occAt at ho
      rw [List.isPrefixOf_iff_prefix] at ho
      obtain ⟨r, hr⟩ := ho
      simp only [Int.toNat_natCast]
      have h2 : s.drop (i + sep.length) = r := by rw [← List.drop_drop, ← hr, List.drop_left]
      rw [h2, hr, List.take_append_drop]
  · cases h
theorem num_inv {D : List UInt8} : numG D = (0, 6) ∨ ∃ n : Nat, n < 100 ∧ D = Lib.decDigits n ∧ numG D = ((n : Int), 0) := by
  obtain ⟨v, e, hv⟩ : ∃ v e, numG D = (v, e) := ⟨_, _, rfl⟩
  rcases num_of hv with ⟨h1, h2, h3, h4⟩ | h5
  · exact .inr ⟨v.toNat, by omega, h4, by rw [hv, h1]; congr 1; omega⟩
  · exact .inl (by rw [hv, h5])
/-- What may follow. -/
def Tail (T : List UInt8) : Prop := T = [] ∨ ∃ D, allB figureI D = true ∧ (T = 46 :: D ∨ T = 114 :: 99 :: D ∨ T = 98 :: 101 :: 116 :: 97 :: D)
theorem cut_inv {R sep : List UInt8} {o : Int × Int} (hs : ∀ D, allB figureI D = true → Tail (sep ++ D)) (ho : o = (0, 6) ∨ ∃ n : Nat, n < 100 ∧ o = ((n : Int), 0) ∧ ∃ T, R = Lib.decDigits n ++ T ∧ Tail T) :
    cutG R sep o = (0, 6) ∨ ∃ n : Nat, n < 100 ∧ cutG R sep o = ((n : Int), 0) ∧ ∃ T, R = Lib.decDigits n ++ T ∧ Tail T := by
  unfold cutG
  cases hc : (Lib.cut R sep).2.2 with
  | false => rw [if_neg (by simp)]; exact ho
  | true =>
    rw [if_pos rfl]
    cases ha : allB figureI (Lib.cut R sep).2.1 with
    | false => rw [if_neg (by simp)]; exact .inl rfl
    | true =>
      rw [if_pos rfl]
      rcases num_inv (D := (Lib.cut R sep).1) with h | ⟨n, hn, h1, h2⟩
      · exact .inl h
      · exact .inr ⟨n, hn, h2, _, by rw [← h1]; exact cut_true hc, hs _ ha⟩
theorem min_inv (R : List UInt8) : minG R = (0, 6) ∨ ∃ n : Nat, n < 100 ∧ minG R = ((n : Int), 0) ∧ ∃ T, R = Lib.decDigits n ++ T ∧ Tail T := by
  unfold minG
  refine cut_inv (fun D h => .inr ⟨D, h, .inl rfl⟩) (cut_inv (fun D h => .inr ⟨D, h, .inr (.inl rfl)⟩) (cut_inv (fun D h => .inr ⟨D, h, .inr (.inr rfl)⟩) ?_))
  rcases num_inv (D := R) with h | ⟨n, hn, h1, h2⟩
  · exact .inl h
  · exact .inr ⟨n, hn, h2, [], by rw [List.append_nil]; exact h1, .inl rfl⟩
/-- Figures read. -/
def vl (l : List UInt8) : Int := l.foldl (fun a c => 10 * a + ((c.toNat : Int) - 48)) 0
theorem vl_snoc (l : List UInt8) (c : UInt8) : vl (l ++ [c]) = 10 * vl l + ((c.toNat : Int) - 48) := by simp [vl]
theorem vl_dec : ∀ n : Nat, n < 100 → vl (Lib.decDigits n) = n := by decide +kernel
theorem dec_two : ∀ n : Nat, n < 100 → (Lib.decDigits n).length ≤ 2 := by decide +kernel
theorem dec_nought : ∀ n : Nat, n < 100 → (Lib.decDigits n).head? = some 48 → (Lib.decDigits n).length = 1 := by decide +kernel
theorem vl_one0 : ∀ i : Fin 10, [UInt8.ofNat (48 + i.val)] = Lib.decDigits (vl [UInt8.ofNat (48 + i.val)]).toNat ∧ 0 ≤ vl [UInt8.ofNat (48 + i.val)] ∧ vl [UInt8.ofNat (48 + i.val)] ≤ 99 := by decide +kernel
theorem vl_two : ∀ i j : Fin 10, i.val ≠ 0 → [UInt8.ofNat (48 + i.val), UInt8.ofNat (48 + j.val)] = Lib.decDigits (vl [UInt8.ofNat (48 + i.val), UInt8.ofNat (48 + j.val)]).toNat ∧ vl [UInt8.ofNat (48 + i.val), UInt8.ofNat (48 + j.val)] ≤ 99 := by decide +kernel
theorem fig_fin {a : UInt8} (h : figureB a = true) : ∃ i : Fin 10, a = UInt8.ofNat (48 + i.val) := by
  have := figB.1 h
  refine ⟨⟨a.toNat - 48, by omega⟩, UInt8.toNat_inj.1 ?_⟩
  simp
  omega
theorem vl_one (a : UInt8) (h : figureB a = true) : [a] = Lib.decDigits (vl [a]).toNat ∧ 0 ≤ vl [a] ∧ vl [a] ≤ 99 := by
  obtain ⟨i, rfl⟩ := fig_fin h
  exact vl_one0 i
/-- A row of figures, three at most, as the document takes them. -/
structure Row (R : List UInt8) (j : Nat) : Prop where
  le : j ≤ R.length
  three : j ≤ 3
  figs : (R.take j).all figureB = true
  stop : j = 3 ∨ j = R.length ∨ ∃ c, R[j]? = some c ∧ figureB c = false
/-- The figures in front are these. -/
theorem row_dec {R T : List UInt8} {n j : Nat} (hn : n < 100) (hr : Row R j) (h : R = Lib.decDigits n ++ T) (hT : Tail T) : R.take j = Lib.decDigits n ∧ R.drop j = T := by
  have h2 := dec_two n hn
  have hTl : T = [] ∨ ∃ c, T.head? = some c ∧ figureB c = false := by
    rcases hT with h | ⟨D, _, rfl | rfl | rfl⟩
    · exact .inl h
    · exact .inr ⟨46, rfl, by decide⟩
    · exact .inr ⟨114, rfl, by decide⟩
    · exact .inr ⟨98, rfl, by decide⟩
  have hj : j = (Lib.decDigits n).length := by
    rcases Nat.lt_trichotomy j (Lib.decDigits n).length with hl | he | hg
    · exfalso
      rcases hr.stop with h3 | h3 | ⟨c, h3, h4⟩
      · omega
      · rw [h, List.length_append] at h3; omega
      · rw [h, List.getElem?_append_left hl] at h3
        have := List.all_eq_true.1 (dec_all n) c (List.mem_of_getElem? h3)
        rw [this] at h4; cases h4
    · exact he
    · exfalso
      rcases hTl with rfl | ⟨c, hc, hf⟩
      · have := hr.le; rw [h, List.append_nil] at this; omega
      · have hm : c ∈ R.take j := by
          apply List.mem_of_getElem? (i := (Lib.decDigits n).length)
          rw [List.getElem?_take, if_pos hg, h, List.getElem?_append_right (Nat.le_refl _), Nat.sub_self, ← List.head?_eq_getElem?, hc]
        have := List.all_eq_true.1 hr.figs c hm
        rw [this] at hf; cases hf
  rw [hj, h]
  simp
theorem row_bad {R : List UInt8} {j : Nat} (hr : Row R j) (hb : j = 0 ∨ 99 < vl (R.take j) ∨ (R.head? = some 48 ∧ 1 < j)) : minG R = (0, 6) := by
  rcases min_inv R with h | ⟨n, hn, _, T, h, hT⟩
  · exact h
  · exfalso
    obtain ⟨h1, h2⟩ := row_dec hn hr h hT
    have hl : (R.take j).length = j := by rw [List.length_take]; have := hr.le; omega
    rcases hb with rfl | hb | ⟨hb, hj⟩
    · exact dec_ne n (by rw [← h1]; simp)
    · rw [h1, vl_dec n hn] at hb; omega
    · have := dec_nought n hn (by
        rw [← h1]
        cases R with
        | nil => cases hb
        | cons a t =>
          obtain ⟨k, rfl⟩ : ∃ k, j = k + 1 := ⟨j - 1, by omega⟩
          exact hb)
      rw [← h1, hl] at this
      omega
theorem vl_three (a b c : UInt8) (ha : figureB a = true) (hb : figureB b = true) (hc : figureB c = true) (h : ¬ 99 < vl [a, b, c]) : a = 48 := by
  have h1 := figB.1 ha
  have h2 := figB.1 hb
  have h3 := figB.1 hc
  simp [vl] at h
  apply UInt8.toNat_inj.1
  show a.toNat = 48
  omega
theorem row_good {R : List UInt8} {j : Nat} (hr : Row R j) (h0 : ¬ j = 0) (h9 : ¬ 99 < vl (R.take j)) (hz : ¬ (R.head? = some 48 ∧ 1 < j)) :
    R.take j = Lib.decDigits (vl (R.take j)).toNat ∧ 0 ≤ vl (R.take j) ∧ vl (R.take j) < 100 ∧ j < 3 := by
  have hf := hr.figs
  have hle := hr.le
  rcases (show j = 1 ∨ j = 2 ∨ j = 3 by have := hr.three; omega) with rfl | rfl | rfl
  · match R, hle with
    | a :: t, _ =>
      simp only [List.take_succ_cons, List.take_zero] at *
      have := vl_one a (by simpa using hf)
      exact ⟨this.1, this.2.1, by omega, by omega⟩
  · match R, hle with
    | a :: b :: t, _ =>
      simp only [List.take_succ_cons, List.take_zero, List.all_cons, List.all_nil, Bool.and_true, Bool.and_eq_true] at *
      obtain ⟨i, rfl⟩ := fig_fin hf.1
      obtain ⟨k, rfl⟩ := fig_fin hf.2
      have hi : i.val ≠ 0 := fun e => hz ⟨by simp [e], by omega⟩
      have := vl_two i k hi
      refine ⟨this.1, ?_, by omega, by omega⟩
      have h1 := figB.1 hf.1
      have h2 := figB.1 hf.2
      simp only [vl, List.foldl_cons, List.foldl_nil]
      omega
  · match R, hle with
    | a :: b :: c :: t, _ =>
      simp only [List.take_succ_cons, List.take_zero, List.all_cons, List.all_nil, Bool.and_true, Bool.and_eq_true] at *
      exact absurd ⟨by rw [vl_three a b c hf.1 hf.2.1 hf.2.2 h9]; rfl, by omega⟩ hz
/-- What follows tells. -/
theorem tail_good {A B : List UInt8} {v : Int} (hA : A = Lib.decDigits v.toNat) (h0 : 0 ≤ v) (h1 : v < 100) (hT : Tail B) : minG (A ++ B) = (v, 0) := by
  have hf : A.all figureB = true := by rw [hA]; exact dec_all _
  have hn : numG A = (v, 0) := by rw [hA, num_small v.toNat (by omega)]; congr 1; omega
  rcases hT with rfl | ⟨D, hD, hB⟩
  · rw [List.append_nil, min_none (fig_not hf (by decide)) (fig_not hf (by decide)) (fig_not hf (by decide)), hn]
  · have hD2 : D.all figureB = true := by rw [all_figs, Bool.and_eq_true] at hD; exact hD.2
    rcases hB with rfl | rfl | rfl
    · rw [min_dot hf, hD, if_pos rfl, hn]
    · rw [min_rc hf hD2, hD, if_pos rfl, hn]
    · rw [min_beta hf hD2, hD, if_pos rfl, hn]
theorem tail_bad {R : List UInt8} {j : Nat} (hr : Row R j) (hT : ¬ Tail (R.drop j)) : minG R = (0, 6) := by
  rcases min_inv R with h | ⟨n, hn, _, T, h, hT2⟩
  · exact h
  · exact absurd hT2 (by rw [← (row_dec hn hr h hT2).2]; exact hT)
end Go.Proofs.YtgldnkpanimihaaDoor.Rf
