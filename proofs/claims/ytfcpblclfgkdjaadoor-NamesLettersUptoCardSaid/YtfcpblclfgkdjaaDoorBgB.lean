/-
  decimal numerals as texts: what they are worth; in pieces of nine; plain.
-/
import Derived.Test.YtfcpblclfgkdjaaDoorBgA
import Derived.Test.YtfcpblclfgkdjaaDoorBgT
namespace Go.Proofs.YtfcpblclfgkdjaaDoor
set_option linter.unusedSimpArgs false
set_option linter.unusedVariables false

/-- What figures are worth. -/
def dval (l : List UInt8) : Int := l.foldl (fun d c => 10 * d + ((c.toNat : Int) - 48)) 0
theorem dval_nil : dval [] = 0 := rfl
theorem dval_snoc (l : List UInt8) (c : UInt8) : dval (l ++ [c]) = 10 * dval l + ((c.toNat : Int) - 48) := by
  unfold dval; rw [List.foldl_append]; rfl
theorem dval_one (c : UInt8) : dval [c] = (c.toNat : Int) - 48 := by
  have := dval_snoc [] c
  rw [List.nil_append, dval_nil] at this
  rw [this]; omega
theorem figB {c : UInt8} : figureB c = true ↔ 48 ≤ (c.toNat : Int) ∧ (c.toNat : Int) ≤ 57 := by
  unfold figureB figureI; simp
theorem dval_app (a : List UInt8) : ∀ (n : Nat) (b : List UInt8), b.length = n → dval (a ++ b) = dval a * 10 ^ n + dval b
  | 0, b, h => by rw [List.eq_nil_of_length_eq_zero h, List.append_nil, dval_nil]; simp
  | n + 1, b, h => by
    have hne : b ≠ [] := by rintro rfl; simp at h
    obtain ⟨b', c, rfl⟩ : ∃ b' c, b = b' ++ [c] := ⟨b.dropLast, b.getLast hne, (List.dropLast_concat_getLast hne).symm⟩
    have hb : b'.length = n := by simpa using h
    rw [← List.append_assoc, dval_snoc, dval_snoc, dval_app a n b' hb, Int.pow_succ]
    grind
theorem dval_rng : ∀ (n : Nat) (l : List UInt8), l.length = n → l.all figureB = true → 0 ≤ dval l ∧ dval l < 10 ^ n
  | 0, b, h, _ => by rw [List.eq_nil_of_length_eq_zero h, dval_nil]; simp
  | n + 1, b, h, ha => by
    have hne : b ≠ [] := by rintro rfl; simp at h
    obtain ⟨b', c, rfl⟩ : ∃ b' c, b = b' ++ [c] := ⟨b.dropLast, b.getLast hne, (List.dropLast_concat_getLast hne).symm⟩
    rw [List.all_append, Bool.and_eq_true] at ha
    have ih := dval_rng n b' (by simpa using h) ha.1
    have hc := figB.1 (by simpa using ha.2 : figureB c = true)
    rw [dval_snoc, Int.pow_succ]
    omega

theorem dec_small {n : Nat} (h : n < 10) : Lib.decDigits n = [UInt8.ofNat (48 + n)] := Lib.decDigits_one h
theorem dec_big {n : Nat} (h : ¬ n < 10) : Lib.decDigits n = Lib.decDigits (n / 10) ++ [UInt8.ofNat (48 + n % 10)] := by rw [Lib.decDigits, dif_neg h]
theorem dec_ne (n : Nat) : Lib.decDigits n ≠ [] := by
  by_cases h : n < 10
  · rw [dec_small h]; simp
  · rw [dec_big h]; simp
theorem nat_fig {d : Nat} (h : d < 10) : ((UInt8.ofNat (48 + d)).toNat : Int) = 48 + d := by
  rw [UInt8.toNat_ofNat']; omega
theorem fig_ofNat {d : Nat} (h : d < 10) : figureB (UInt8.ofNat (48 + d)) = true := figB.2 (by rw [nat_fig h]; omega)
theorem dec_all (n : Nat) : (Lib.decDigits n).all figureB = true := by
  induction n using Nat.strongRecOn with
  | _ n ih =>
    by_cases h : n < 10
    · rw [dec_small h]; simp only [List.all_cons, List.all_nil, fig_ofNat h, Bool.and_self]
    · rw [dec_big h, List.all_append, ih _ (by omega)]; simp only [List.all_cons, List.all_nil, fig_ofNat (show n % 10 < 10 by omega), Bool.and_self]
theorem dval_dec (n : Nat) : dval (Lib.decDigits n) = n := by
  induction n using Nat.strongRecOn with
  | _ n ih =>
    by_cases h : n < 10
    · rw [dec_small h, dval_one, nat_fig h]; omega
    · rw [dec_big h, dval_snoc, ih _ (by omega), nat_fig (by omega)]; omega
theorem dec_head {n : Nat} (h : n ≠ 0) : (Lib.decDigits n).head? ≠ some 48 := by
  induction n using Nat.strongRecOn with
  | _ n ih =>
    by_cases h2 : n < 10
    · rw [dec_small h2]
      intro e
      have e' : UInt8.ofNat (48 + n) = 48 := by simpa using e
      have := nat_fig h2
      rw [e', show ((48 : UInt8).toNat : Int) = 48 from rfl] at this
      omega
    · rw [dec_big h2, List.head?_append, Option.or_of_isSome (by simp [List.isSome_head?, dec_ne])]
      exact ih _ (by omega) (by omega)
theorem dec_zero : Lib.decDigits 0 = [48] := by rw [dec_small (by omega)]; rfl
theorem dec_step {n d : Nat} (h : n ≠ 0) (hd : d < 10) : Lib.decDigits (10 * n + d) = Lib.decDigits n ++ [UInt8.ofNat (48 + d)] := by
  rw [dec_big (by omega), show (10 * n + d) / 10 = n by omega, show (10 * n + d) % 10 = d by omega]
theorem u8_back (c : UInt8) (h : figureB c = true) : UInt8.ofNat (48 + ((c.toNat : Int) - 48).toNat) = c := by
  have := figB.1 h
  apply UInt8.toNat_inj.1
  have h2 := nat_fig (d := ((c.toNat : Int) - 48).toNat) (by omega)
  omega
/-- Figures without a nought ahead are the numeral of what they are worth. -/
theorem dec_of : ∀ (n : Nat) (l : List UInt8), l.length = n → l ≠ [] → l.all figureB = true → (l.head? ≠ some 48 ∨ l = [48]) → l = Lib.decDigits (dval l).toNat
  | 0, l, h, hne, _, _ => absurd (List.eq_nil_of_length_eq_zero h) hne
  | n + 1, l, h, hne, ha, hh => by
    obtain ⟨b', c, rfl⟩ : ∃ b' c, l = b' ++ [c] := ⟨l.dropLast, l.getLast hne, (List.dropLast_concat_getLast hne).symm⟩
    rw [List.all_append, Bool.and_eq_true] at ha
    have hcf : figureB c = true := by simpa using ha.2
    have hc := figB.1 hcf
    have hu := u8_back c hcf
    by_cases hb : b' = []
    · subst hb
      rw [List.nil_append, dval_one, dec_small (by omega), hu]
    · have hh' : b'.head? ≠ some 48 := by
        rcases hh with hh | hh
        · rw [List.head?_append, Option.or_of_isSome (by simp [List.isSome_head?, hb])] at hh; exact hh
        · exfalso
          have := congrArg List.length hh
          have h2 : b'.length ≠ 0 := fun e => hb (List.eq_nil_of_length_eq_zero e)
          simp only [List.length_append, List.length_singleton] at this; omega
      have ih := dec_of n b' (by simpa using h) hb ha.1 (.inl hh')
      have hr := dval_rng n b' (by simpa using h) ha.1
      have hz : (dval b').toNat ≠ 0 := by
        intro e
        rw [e, dec_zero] at ih
        rw [ih] at hh'
        simp at hh'
      rw [dval_snoc, show (10 * dval b' + ((c.toNat : Int) - 48)).toNat = 10 * (dval b').toNat + ((c.toNat : Int) - 48).toNat by omega, dec_step hz (by omega), ← ih, hu]
theorem dec_len_le {n k : Nat} (h : n < 10 ^ k) (hk : k ≠ 0) : (Lib.decDigits n).length ≤ k := by
  induction k generalizing n with
  | zero => exact absurd rfl hk
  | succ k ih =>
    by_cases h2 : n < 10
    · rw [dec_small h2]; simp
    · rw [dec_big h2, List.length_append, List.length_singleton]
      rw [Nat.pow_succ] at h
      have hk' : k ≠ 0 := by rintro rfl; simp at h; omega
      have := ih (n := n / 10) (by omega) hk'
      omega

/-- A plain numeral within 160 places. -/
def plB (l : List UInt8) : Bool := plainL l && decide (l.length ≤ 160)
theorem plB_dec {l : List UInt8} (h : plB l = true) : l = Lib.decDigits (dval l).toNat ∧ l.length ≤ 160 ∧ l.all figureB = true := by
  unfold plB plainL at h
  simp only [Bool.and_eq_true, Bool.or_eq_true, decide_eq_true_eq, Bool.not_eq_true', beq_iff_eq] at h
  obtain ⟨⟨ha, h1⟩, h2⟩ := h
  refine ⟨dec_of _ l rfl ?_ ha ?_, h2, ha⟩
  · rcases h1 with rfl | ⟨h1, _⟩
    · simp
    · rintro rfl; simp at h1
  · rcases h1 with h1 | ⟨_, _, h1⟩
    · exact .inr h1
    · exact .inl (by simpa using h1)
theorem plB_of {n : Nat} (h : (Lib.decDigits n).length ≤ 160) : plB (Lib.decDigits n) = true := by
  unfold plB plainL
  rw [dec_all, decide_eq_true h]
  by_cases hn : n = 0
  · subst hn; rw [dec_zero]; rfl
  · have h1 := dec_head hn
    have h2 := dec_ne n
    simp [h1, h2]; omega

/-- A number that is written; none: it is none. -/
def numB (s : List UInt8) : Option Int :=
  if s.head? = some 45 then (if plB (s.drop 1) && !(s == [45, 48]) then some (-dval (s.drop 1)) else none)
  else if plB s then some (dval s) else none
theorem numB_text {s : List UInt8} {z : Int} (h : numB s = some z) : s = Lib.itoa z ∧ (Lib.decDigits z.natAbs).length ≤ 160 := by
  unfold numB at h
  split at h
  · rename_i hd
    split at h
    · rename_i hp
      rw [Bool.and_eq_true, Bool.not_eq_true', beq_eq_false_iff_ne] at hp
      obtain ⟨e, hl, ha⟩ := plB_dec hp.1
      obtain rfl := Option.some.inj h
      have hr := dval_rng _ _ rfl ha
      have hs : s = 45 :: s.drop 1 := by
        cases s with
        | nil => cases hd
        | cons x r => simp only [List.head?_cons, Option.some.injEq] at hd; rw [hd]; rfl
      have hz : dval (s.drop 1) ≠ 0 := by
        intro e0
        rw [e0] at e
        rw [show (0 : Int).toNat = 0 from rfl, dec_zero] at e
        rw [e] at hs
        exact hp.2 hs
      have hn : (-dval (s.drop 1)).natAbs = (dval (s.drop 1)).toNat := by omega
      refine ⟨?_, by rw [hn, ← e]; exact hl⟩
      unfold Lib.itoa
      rw [if_pos (by omega), hn, ← e]
      exact hs
    · cases h
  · split at h
    · rename_i hp
      obtain ⟨e, hl, ha⟩ := plB_dec hp
      obtain rfl := Option.some.inj h
      have hr := dval_rng _ _ rfl ha
      refine ⟨?_, by rw [show (dval s).natAbs = (dval s).toNat by omega, ← e]; exact hl⟩
      unfold Lib.itoa
      rw [if_neg (by omega), ← e]
    · cases h
theorem fig_ne_minus {c : UInt8} (h : figureB c = true) : c ≠ 45 := by rintro rfl; revert h; decide
theorem dec_head_fig (n : Nat) : (Lib.decDigits n).head? ≠ some 45 := by
  intro h
  have ha := dec_all n
  cases e : Lib.decDigits n with
  | nil => rw [e] at h; cases h
  | cons x r =>
    rw [e] at h ha
    simp only [List.head?_cons, Option.some.injEq] at h
    subst h
    simp [List.all_cons] at ha
    exact absurd rfl (fig_ne_minus ha.1)
theorem numB_itoa {z : Int} (h : (Lib.decDigits z.natAbs).length ≤ 160) : numB (Lib.itoa z) = some z := by
  unfold numB Lib.itoa
  by_cases hz : z < 0
  · rw [if_pos hz, if_pos (by simp), List.drop_succ_cons, List.drop_zero, plB_of h, dval_dec]
    have : (45 :: Lib.decDigits z.natAbs == [45, 48]) = false := by
      rw [beq_eq_false_iff_ne]
      intro e
      have e1 : Lib.decDigits z.natAbs = [48] := (List.cons.inj e).2
      have e2 := dec_head (n := z.natAbs) (by omega)
      rw [e1] at e2
      exact e2 rfl
    rw [this]
    simp; omega
  · rw [if_neg hz, if_neg (dec_head_fig _), show z.toNat = z.natAbs by omega, plB_of h, dval_dec]
    simp; omega

/-- Figures to a width, with noughts ahead. -/
def padL : Nat → Nat → List UInt8
  | 0, _ => []
  | k + 1, d => padL k (d / 10) ++ [UInt8.ofNat (48 + d % 10)]
theorem dec_pad {v : Nat} (hv : v ≠ 0) : ∀ (k d : Nat), d < 10 ^ k → Lib.decDigits (v * 10 ^ k + d) = Lib.decDigits v ++ padL k d
  | 0, d, h => by simp at h; subst h; simp [padL]
  | k + 1, d, h => by
    have hp : 1 ≤ 10 ^ k := Nat.one_le_pow _ _ (by decide)
    have h1 : 1 ≤ v * 10 ^ k := Nat.mul_pos (by omega) hp
    rw [Nat.pow_succ] at h ⊢
    rw [show v * (10 ^ k * 10) + d = 10 * (v * 10 ^ k + d / 10) + d % 10 by rw [← Nat.mul_assoc]; omega]
    rw [dec_step (by omega) (by omega), dec_pad hv k (d / 10) (by omega), padL, List.append_assoc]
theorem padL_zero : ∀ k, padL k 0 = List.replicate k 48
  | 0 => rfl
  | k + 1 => by rw [padL, padL_zero k, List.replicate_succ']; rfl
theorem padL_eq : ∀ (k d : Nat), k ≠ 0 → d < 10 ^ k → padL k d = List.replicate (k - (Lib.decDigits d).length) 48 ++ Lib.decDigits d
  | 0, _, h, _ => absurd rfl h
  | k + 1, d, _, h => by
    rw [padL]
    by_cases h2 : d < 10
    · rw [show d / 10 = 0 by omega, padL_zero, dec_small h2, show d % 10 = d by omega]; simp
    · rw [Nat.pow_succ] at h
      have hk : k ≠ 0 := by rintro rfl; simp at h; omega
      rw [padL_eq k (d / 10) hk (by omega), dec_big h2, List.length_append, List.length_singleton, ← List.append_assoc, show k + 1 - ((Lib.decDigits (d / 10)).length + 1) = k - (Lib.decDigits (d / 10)).length by omega]
theorem dec_nine {v d : Nat} (hv : v ≠ 0) (hd : d < 1000000000) : Lib.decDigits (d + 1000000000 * v) = Lib.decDigits v ++ (List.replicate (9 - (Lib.decDigits d).length) 48 ++ Lib.decDigits d) := by
  rw [show d + 1000000000 * v = v * 10 ^ 9 + d by omega, dec_pad hv 9 d (by simpa using hd), padL_eq 9 d (by decide) (by simpa using hd)]
end Go.Proofs.YtfcpblclfgkdjaaDoor
