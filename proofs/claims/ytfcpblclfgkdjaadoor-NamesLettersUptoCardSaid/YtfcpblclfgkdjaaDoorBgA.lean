/-
  digits of base 10^9, the lowest first: what rows of them are worth; sums, differences, products of rows; plain.
-/
import Derived.Test.YtfcpblclfgkdjaaDoorProg
import Derived.Lib.ItoaNum
namespace Go.Proofs.YtfcpblclfgkdjaaDoor
set_option linter.unusedSimpArgs false
set_option linter.unusedVariables false

/-- Digits. -/
def Dg (l : List Int) : Prop := ∀ x ∈ l, 0 ≤ x ∧ x < 1000000000
/-- What a row of digits is worth. -/
def val : List Int → Int
  | [] => 0
  | x :: r => x + 1000000000 * val r
/-- A power of the base. -/
def pw : Nat → Int
  | 0 => 1
  | k + 1 => 1000000000 * pw k
/-- The digits of an amount, none for nought. -/
def digs (n : Nat) : List Int := if h : n = 0 then [] else ((n % 1000000000 : Nat) : Int) :: digs (n / 1000000000)
termination_by n
decreasing_by omega

theorem pw_pos : ∀ k, 0 < pw k
  | 0 => by simp [pw]
  | k + 1 => by have := pw_pos k; rw [pw]; omega
theorem pw_add (i : Nat) : ∀ k, pw (i + k) = pw i * pw k
  | 0 => by simp [pw]
  | k + 1 => by rw [← Nat.add_assoc, pw, pw_add i k, pw]; grind
theorem pw_mono {i k : Nat} (h : i ≤ k) : pw i ≤ pw k := by
  induction h with
  | refl => exact Int.le_refl _
  | step _ ih => rw [pw]; have := pw_pos i; omega
theorem Dg.nil : Dg [] := fun _ h => by cases h
theorem Dg.cons {x : Int} {l : List Int} (h0 : 0 ≤ x) (h1 : x < 1000000000) (h : Dg l) : Dg (x :: l) := fun y hy => by
  rcases List.mem_cons.1 hy with rfl | hy
  · exact ⟨h0, h1⟩
  · exact h y hy
theorem Dg.app {a b : List Int} (ha : Dg a) (hb : Dg b) : Dg (a ++ b) := fun y hy => (List.mem_append.1 hy).elim (ha y) (hb y)
theorem Dg.snoc {x : Int} {l : List Int} (h : Dg l) (h0 : 0 ≤ x) (h1 : x < 1000000000) : Dg (l ++ [x]) := h.app (Dg.cons h0 h1 Dg.nil)
theorem Dg.take {l : List Int} (h : Dg l) (k : Nat) : Dg (l.take k) := fun y hy => h y (List.mem_of_mem_take hy)
theorem Dg.drop {l : List Int} (h : Dg l) (k : Nat) : Dg (l.drop k) := fun y hy => h y (List.mem_of_mem_drop hy)
theorem Dg.at {l : List Int} (h : Dg l) (k : Nat) (hk : k < l.length) : 0 ≤ l[k] ∧ l[k] < 1000000000 := h _ (List.getElem_mem hk)
theorem getD_at {l : List Int} {k : Nat} (h : k < l.length) : l.getD k 0 = l[k] := by rw [List.getD_eq_getElem?_getD, List.getElem?_eq_getElem h]; rfl
theorem Dg.getD {l : List Int} (h : Dg l) (k : Nat) : 0 ≤ l.getD k 0 ∧ l.getD k 0 < 1000000000 := by
  rcases Nat.lt_or_ge k l.length with hk | hk
  · rw [getD_at hk]; exact h.at k hk
  · rw [List.getD_eq_getElem?_getD, List.getElem?_eq_none hk]; decide
theorem val_nonneg : ∀ {l : List Int}, Dg l → 0 ≤ val l
  | [], _ => by simp [val]
  | x :: r, h => by
    have h1 := h x (by simp)
    have h2 := val_nonneg (l := r) (fun y hy => h y (by simp [hy]))
    rw [val]; omega
theorem val_lt : ∀ {l : List Int}, Dg l → val l < pw l.length
  | [], _ => by simp [val, pw]
  | x :: r, h => by
    have h1 := h x (by simp)
    have h2 := val_lt (l := r) (fun y hy => h y (by simp [hy]))
    rw [val, List.length_cons, pw]; omega
theorem val_app : ∀ (a b : List Int), val (a ++ b) = val a + pw a.length * val b
  | [], b => by simp [val, pw]
  | x :: a, b => by
    rw [List.cons_append, val, val, val_app a b, List.length_cons, pw]; grind
theorem val_snoc (a : List Int) (x : Int) : val (a ++ [x]) = val a + pw a.length * x := by rw [val_app, val, val]; simp
theorem val_zeros : ∀ n, val (List.replicate n 0) = 0
  | 0 => rfl
  | n + 1 => by rw [List.replicate_succ, val, val_zeros n]; simp
theorem val_take_succ {l : List Int} {k : Nat} (h : k < l.length) : val (l.take (k + 1)) = val (l.take k) + pw k * l[k] := by
  rw [List.take_succ_eq_append_getElem h, val_snoc, List.length_take, Nat.min_eq_left (Nat.le_of_lt h)]
theorem val_take_getD (l : List Int) (k : Nat) : val (l.take (k + 1)) = val (l.take k) + pw k * l.getD k 0 := by
  rcases Nat.lt_or_ge k l.length with hk | hk
  · rw [getD_at hk]; exact val_take_succ hk
  · rw [List.getD_eq_getElem?_getD, List.getElem?_eq_none hk, List.take_of_length_le (by omega), List.take_of_length_le (by omega)]; simp
theorem val_split (l : List Int) (k : Nat) : val l = val (l.take k) + pw (l.take k).length * val (l.drop k) := by
  rw [← val_app, List.take_append_drop]

theorem digs_zero : digs 0 = [] := by rw [digs]; simp
theorem digs_pos {n : Nat} (h : n ≠ 0) : digs n = ((n % 1000000000 : Nat) : Int) :: digs (n / 1000000000) := by rw [digs, dif_neg h]
theorem digs_dg : ∀ n, Dg (digs n) := fun n => by
  induction n using Nat.strongRecOn with
  | _ n ih =>
    by_cases h : n = 0
    · rw [h, digs_zero]; exact Dg.nil
    · rw [digs_pos h]
      exact Dg.cons (by omega) (by omega) (ih _ (by omega))
theorem val_digs : ∀ n, val (digs n) = n := fun n => by
  induction n using Nat.strongRecOn with
  | _ n ih =>
    by_cases h : n = 0
    · rw [h, digs_zero]; rfl
    · rw [digs_pos h, val, ih _ (by omega)]
      omega
theorem digs_nil {n : Nat} : digs n = [] ↔ n = 0 := by
  constructor
  · intro h
    by_cases e : n = 0
    · exact e
    · rw [digs_pos e] at h; cases h
  · rintro rfl; exact digs_zero
/-- Without a nought at the end. -/
def Cn (l : List Int) : Prop := l.getLast? ≠ some 0
theorem cn_tail {x : Int} {r : List Int} (h : Cn (x :: r)) : Cn r := by
  cases r with
  | nil => simp [Cn]
  | cons y r => simpa [Cn] using h
theorem cn_digs {l : List Int} (hd : Dg l) (hc : Cn l) : l = digs (val l).toNat := by
  induction l with
  | nil => rw [val]; exact digs_zero.symm
  | cons x r ih =>
    have h1 := hd x (by simp)
    have hr : Dg r := fun y hy => hd y (by simp [hy])
    have h2 := val_nonneg hr
    have e := ih hr (cn_tail hc)
    rw [val]
    have hne : (x + 1000000000 * val r).toNat ≠ 0 := by
      intro h
      have hx : x = 0 := by omega
      have hv : val r = 0 := by omega
      rw [hv] at e
      rw [show (0 : Int).toNat = 0 from rfl, digs_zero] at e
      rw [e, hx] at hc
      simp [Cn] at hc
    rw [digs_pos hne]
    have e1 : ((((x + 1000000000 * val r).toNat % 1000000000 : Nat)) : Int) = x := by omega
    have e2 : (x + 1000000000 * val r).toNat / 1000000000 = (val r).toNat := by omega
    rw [e1, e2, ← e]
theorem digs_cn (n : Nat) : Cn (digs n) := by
  induction n using Nat.strongRecOn with
  | _ n ih =>
    by_cases h : n = 0
    · rw [h, digs_zero]; simp [Cn]
    · rw [digs_pos h]
      by_cases h2 : n / 1000000000 = 0
      · rw [h2, digs_zero]; simp only [Cn, List.getLast?_singleton, ne_eq, Option.some.injEq]; omega
      · have := ih (n / 1000000000) (by omega)
        rw [digs_pos h2] at this ⊢
        simpa [Cn] using this
theorem digs_len_lt {n k : Nat} (h : (n : Int) < pw k) : (digs n).length ≤ k := by
  induction k generalizing n with
  | zero => rw [pw] at h; have : n = 0 := by omega
            rw [this, digs_zero]; simp
  | succ k ih =>
    by_cases e : n = 0
    · rw [e, digs_zero]; simp
    · rw [digs_pos e, List.length_cons]
      have := ih (n := n / 1000000000) (by rw [pw] at h; omega)
      omega
theorem digs_len_ge {n : Nat} (h : n ≠ 0) : pw ((digs n).length - 1) ≤ (n : Int) := by
  induction n using Nat.strongRecOn with
  | _ n ih =>
    rw [digs_pos h, List.length_cons]
    by_cases h2 : n / 1000000000 = 0
    · rw [h2, digs_zero]; simp [pw]; omega
    · have := ih (n / 1000000000) (by omega) h2
      have hp : (digs (n / 1000000000)).length ≠ 0 := fun hc => h2 (digs_nil.1 (List.eq_nil_of_length_eq_zero hc))
      obtain ⟨m, hm⟩ : ∃ m, (digs (n / 1000000000)).length = m + 1 := ⟨_, (Nat.succ_pred_eq_of_ne_zero hp).symm⟩
      rw [hm] at this ⊢
      simp only [Nat.add_sub_cancel, pw] at this ⊢
      omega
theorem digs_len_mono {n m : Nat} (h : n ≤ m) : (digs n).length ≤ (digs m).length := digs_len_lt (by have := val_lt (digs_dg m); rw [val_digs] at this; omega)

/-- How amounts stand. -/
def cmpI (n m : Int) : Int := if n < m then -1 else if n = m then 0 else 1
theorem cmp_len {n m : Nat} (h : (digs n).length < (digs m).length) : n < m := by
  rcases Nat.lt_or_ge n m with h' | h'
  · exact h'
  · have := digs_len_mono h'; omega
/-- The highest place where rows part tells. -/
theorem val_part {a b : List Int} (ha : Dg a) (hb : Dg b) (hl : a.length = b.length) {i : Nat} (hi : i < a.length) (hd : a.drop (i + 1) = b.drop (i + 1)) (h : a[i] < b[i]) : val a < val b := by
  have e1 := val_split a (i + 1)
  have e2 := val_split b (i + 1)
  rw [val_take_succ hi] at e1
  rw [val_take_succ (l := b) (by omega)] at e2
  have l1 : (a.take (i + 1)).length = i + 1 := by simp; omega
  have l2 : (b.take (i + 1)).length = i + 1 := by simp; omega
  rw [l1] at e1; rw [l2] at e2
  rw [hd] at e1
  have h1 := val_lt (ha.take i)
  have h2 := val_nonneg (hb.take i)
  have l3 : (a.take i).length = i := by simp; omega
  rw [l3] at h1
  have hp := pw_pos i
  have : pw i * a[i] + pw i ≤ pw i * b[i] := by
    have : pw i * (a[i] + 1) ≤ pw i * b[i] := Int.mul_le_mul_of_nonneg_left (by omega) (by omega)
    rw [Int.mul_add, Int.mul_one] at this; exact this
  omega
end Go.Proofs.YtfcpblclfgkdjaaDoor
