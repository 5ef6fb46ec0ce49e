/-
  tag: brackets round a constraint, and blanks round it, change nothing in how it is read. Plain law; no program is walked.
-/
import Derived.Test.YtagaoilgnhdebaaDoorTgJ
import Derived.Test.YtagaoilgnhdebaaDoorTgPa
namespace Go.Proofs.YtagaoilgnhdebaaDoor
set_option linter.unusedSimpArgs false
set_option linter.unusedVariables false
open Go.RowKit

theorem skipT_app : ∀ (s t : List UInt8), skipT (s ++ t) = skipT (skipT s ++ t)
  | [], t => rfl
  | c :: s, t => by
    cases h : blankT c with
    | true => rw [List.cons_append, skipT_cons _ h, skipT_cons _ h]; exact skipT_app s t
    | false => rw [skipT_not _ h]
theorem skipT_head : ∀ (s : List UInt8) {c : UInt8} {u : List UInt8}, skipT s = c :: u → blankT c = false
  | [], c, u, h => by cases h
  | d :: s, c, u, h => by
    cases hd : blankT d with
    | true => rw [skipT_cons _ hd] at h; exact skipT_head s h
    | false => rw [skipT_not _ hd] at h; cases h; exact hd
theorem skipT_app_cons {s t : List UInt8} {c : UInt8} {u : List UInt8} (h : skipT s = c :: u) : skipT (s ++ t) = c :: (u ++ t) := by
  rw [skipT_app, h, List.cons_append, skipT_not _ (skipT_head s h)]
theorem skipT_app_nil {s t : List UInt8} (h : skipT s = []) : skipT (s ++ t) = skipT t := by rw [skipT_app, h]; rfl
theorem skipT_app_len (s t : List UInt8) : (skipT s).length ≤ (skipT (s ++ t)).length := by
  cases h : skipT s with
  | nil => simp
  | cons c u => rw [skipT_app_cons h]; simp

/-- What is laid behind. -/
def tailB : List UInt8 := [32, 41, 32]
def Signs (op : List UInt8) : Prop := op = [33] ∨ op = [40] ∨ op = [38, 38] ∨ op = [124, 124]

theorem takes_true_loc {op s r : List UInt8} (t : List UInt8) (h : takesT op s = (true, r)) (h0 : op ≠ []) : takesT op (s ++ t) = (true, r ++ t) := by
  unfold takesT at h ⊢
  by_cases hp : Lib.hasPrefix (skipT s) op = true
  · rw [if_pos hp] at h
    obtain ⟨z, hz⟩ := List.isPrefixOf_iff_prefix.1 (show op.isPrefixOf (skipT s) = true from hp)
    cases op with
    | nil => exact absurd rfl h0
    | cons c op =>
      have h2 : skipT s = c :: (op ++ z) := by rw [← hz]; rfl
      have h3 := skipT_app_cons (t := t) h2
      have h4 : (skipT s).drop (c :: op).length = z := by rw [← hz]; simp
      have hr : r = z := by
        have := congrArg Prod.snd h
        simp only at this
        rw [← this, h4]
      rw [h3, if_pos (by simp [Lib.hasPrefix, List.append_assoc]), hr]
      simp [List.append_assoc]
  · rw [if_neg hp] at h; cases h
theorem takes_false_loc {op s : List UInt8} (h : (takesT op s).1 = false) (h0 : Signs op) : takesT op (s ++ tailB) = (false, skipT (s ++ tailB)) := by
  have hp : Lib.hasPrefix (skipT s) op = false := by
    unfold takesT at h
    cases hp : Lib.hasPrefix (skipT s) op with
    | false => rfl
    | true => rw [hp] at h; cases h
  have goal : Lib.hasPrefix (skipT (s ++ tailB)) op = false := by
    cases hs : skipT s with
    | nil =>
      rw [skipT_app_nil hs]
      rcases h0 with rfl | rfl | rfl | rfl <;> decide
    | cons c u =>
      rw [skipT_app_cons hs]
      rw [hs] at hp
      rcases h0 with rfl | rfl | rfl | rfl
      · simpa [Lib.hasPrefix, List.isPrefixOf] using hp
      · simpa [Lib.hasPrefix, List.isPrefixOf] using hp
      · cases u with
        | nil => simp [Lib.hasPrefix, List.isPrefixOf, tailB]
        | cons d u => simpa [Lib.hasPrefix, List.isPrefixOf] using hp
      · cases u with
        | nil => simp [Lib.hasPrefix, List.isPrefixOf, tailB]
        | cons d u => simpa [Lib.hasPrefix, List.isPrefixOf] using hp
  unfold takesT
  rw [goal]; simp

def Loc (q q' : List UInt8 → Option (Xp × List UInt8)) : Prop := ∀ s x r, q s = some (x, r) → ∃ r', q' (s ++ tailB) = some (x, r') ∧ skipT r' = skipT (r ++ tailB)

theorem rowT_loc {op : List UInt8} (h0 : Signs op) {q q' : List UInt8 → Option (Xp × List UInt8)} (hq : Loc q q') : ∀ (k k' : Nat) (s S : List UInt8) (l : List Xp) (r : List UInt8), rowT op q k s = some (l, r) → l.length < k' → skipT S = skipT (s ++ tailB) → ∃ r', rowT op q' k' S = some (l, r') ∧ skipT r' = skipT (r ++ tailB)
  | 0, _, s, S, l, r, h, _, _ => by cases h
  | _, 0, _, _, _, _, _, h, _ => absurd h (by omega)
  | k + 1, k' + 1, s, S, l, r, h, hk, hS => by
    rw [rowT] at h ⊢
    rw [takesT_of hS]
    cases ht : (takesT op s).1 with
    | false =>
      rw [ht] at h
      simp only [Bool.false_eq_true, if_false, Option.some.injEq, Prod.mk.injEq] at h
      obtain ⟨rfl, rfl⟩ := h
      rw [takes_false_loc ht h0, takes_false_snd ht]
      exact ⟨_, rfl, by rw [skipT_skipT, ← skipT_app]⟩
    | true =>
      rw [ht] at h
      simp only [if_true] at h
      have hne : op ≠ [] := by rcases h0 with rfl | rfl | rfl | rfl <;> simp
      have h1 := takes_true_loc tailB (show takesT op s = (true, (takesT op s).2) by rw [← ht]) hne
      rw [h1]
      simp only [if_true]
      cases hx : q (takesT op s).2 with
      | none => rw [hx] at h; cases h
      | some xr =>
        obtain ⟨x, r1⟩ := xr
        rw [hx] at h
        simp only at h
        obtain ⟨r1', hx', hr1⟩ := hq _ _ _ hx
        rw [hx']
        simp only
        cases hy : rowT op q k r1 with
        | none => rw [hy] at h; cases h
        | some lr =>
          obtain ⟨l1, r2⟩ := lr
          rw [hy] at h
          simp only [Option.some.injEq, Prod.mk.injEq] at h
          obtain ⟨rfl, rfl⟩ := h
          obtain ⟨r', h2, h3⟩ := rowT_loc h0 hq k k' r1 r1' l1 r2 hy (by simpa using hk) hr1
          rw [h2]
          exact ⟨r', rfl, h3⟩

theorem rowT_many {op : List UInt8} (h0 : op ≠ []) {q : List UInt8 → Option (Xp × List UInt8)} (hq : ∀ s x r, q s = some (x, r) → r.length ≤ s.length) : ∀ (k : Nat) (s : List UInt8) (l : List Xp) (r : List UInt8), rowT op q k s = some (l, r) → l.length ≤ (skipT s).length
  | 0, s, l, r, h => by cases h
  | k + 1, s, l, r, h => by
    rw [rowT] at h
    cases ht : (takesT op s).1 with
    | false =>
      rw [ht] at h
      simp only [Bool.false_eq_true, if_false, Option.some.injEq, Prod.mk.injEq] at h
      obtain ⟨rfl, rfl⟩ := h
      simp
    | true =>
      have h5 : (takesT op s).2.length < (skipT s).length := by
        have h6 : takesT op (skipT s) = takesT op s := takesT_skip op s
        have h7 := takesT_lt (sign := op) (s := skipT s) (by rw [h6]; exact ht) h0
        rw [h6] at h7; exact h7
      rw [ht] at h
      simp only [if_true] at h
      cases hx : q (takesT op s).2 with
      | none => rw [hx] at h; cases h
      | some xr =>
        obtain ⟨x, r1⟩ := xr
        rw [hx] at h
        simp only at h
        cases hy : rowT op q k r1 with
        | none => rw [hy] at h; cases h
        | some lr =>
          obtain ⟨l1, r2⟩ := lr
          rw [hy] at h
          simp only [Option.some.injEq, Prod.mk.injEq] at h
          obtain ⟨rfl, rfl⟩ := h
          have h8 := rowT_many h0 hq k r1 l1 r2 hy
          have h9 := hq _ _ _ hx
          have h10 := skipT_len r1
          simp; omega

theorem rowsT_loc {op : List UInt8} (h0 : Signs op) {q q' : List UInt8 → Option (Xp × List UInt8)} (hql : ∀ s x r, q s = some (x, r) → r.length ≤ s.length) (hq : Loc q q') : Loc (rowsT op q) (rowsT op q') := by
  intro s x r h
  have hne : op ≠ [] := by rcases h0 with rfl | rfl | rfl | rfl <;> simp
  rw [rowsT] at h ⊢
  cases hx : q s with
  | none => rw [hx] at h; cases h
  | some xr =>
    obtain ⟨x1, r1⟩ := xr
    rw [hx] at h
    simp only at h
    obtain ⟨r1', hx', hr1⟩ := hq _ _ _ hx
    rw [hx']
    simp only
    cases hy : rowT op q (r1.length + 1) r1 with
    | none => rw [hy] at h; cases h
    | some lr =>
      obtain ⟨l1, r2⟩ := lr
      rw [hy] at h
      simp only [Option.some.injEq, Prod.mk.injEq] at h
      obtain ⟨rfl, rfl⟩ := h
      have hlen : l1.length < r1'.length + 1 := by
        have h1 := rowT_many hne hql _ _ _ _ hy
        have h2 := skipT_app_len r1 tailB
        rw [← hr1] at h2
        have h3 := skipT_len r1'
        omega
      obtain ⟨r', h2, h3⟩ := rowT_loc h0 hq _ (r1'.length + 1) r1 r1' l1 r2 hy hlen hr1
      rw [h2]
      exact ⟨r', rfl, h3⟩

theorem factorT_eq (n : Nat) (s : List UInt8) : factorT (n + 1) s =
    if (takesT [33] s).1 then (match factorT n (takesT [33] s).2 with | none => none | some (x, r) => some (.mk [33] [] [x], r))
    else if (takesT [40] s).1 then (match termsOf (factorT n) (takesT [40] s).2 with | none => none | some (x, r) => if (takesT [41] r).1 then some (x, (takesT [41] r).2) else none)
    else if ((skipT s).takeWhile mayTB).isEmpty then none else some (.mk [] ((skipT s).takeWhile mayTB) [], (skipT s).dropWhile mayTB) := by
  rw [factorT]
  cases h1 : (takesT [33] s).1 with
  | true => rfl
  | false =>
    rw [takes_false_snd h1, takesT_skip]
    simp only [Bool.false_eq_true, if_false]
    cases h2 : (takesT [40] s).1 with
    | true => rfl
    | false =>
      rw [takes_false_snd h2]
      simp only [Bool.false_eq_true, if_false]

theorem while_app {p : UInt8 → Bool} {t : List UInt8} (ht : ∀ c, t.head? = some c → p c = false) : ∀ u : List UInt8, (u ++ t).takeWhile p = u.takeWhile p ∧ (u ++ t).dropWhile p = u.dropWhile p ++ t
  | [] => by
    cases t with
    | nil => simp
    | cons c t => have := ht c rfl; simp [this]
  | c :: u => by
    have := while_app ht u
    cases h : p c <;> simp [h, this]

theorem factorT_loc : ∀ (n n' : Nat), n ≤ n' → Loc (factorT n) (factorT n')
  | 0, _, _ => fun s x r h => by cases h
  | n + 1, 0, h => absurd h (by omega)
  | n + 1, m + 1, hnm => fun s x r h => by
    have ih := factorT_loc n m (by omega)
    rw [factorT_eq] at h ⊢
    cases h1 : (takesT [33] s).1 with
    | true =>
      rw [h1] at h
      simp only [if_true] at h
      rw [takes_true_loc tailB (show takesT [33] s = (true, (takesT [33] s).2) by rw [← h1]) (by simp)]
      simp only [if_true]
      cases hx : factorT n (takesT [33] s).2 with
      | none => rw [hx] at h; cases h
      | some xr =>
        obtain ⟨x1, r1⟩ := xr
        rw [hx] at h
        simp only [Option.some.injEq, Prod.mk.injEq] at h
        obtain ⟨rfl, rfl⟩ := h
        obtain ⟨r1', hx', hr1⟩ := ih _ _ _ hx
        rw [hx']
        exact ⟨r1', rfl, hr1⟩
    | false =>
      rw [h1] at h
      simp only [Bool.false_eq_true, if_false] at h
      rw [takes_false_loc h1 (.inl rfl)]
      simp only [Bool.false_eq_true, if_false]
      cases h2 : (takesT [40] s).1 with
      | true =>
        rw [h2] at h
        simp only [if_true] at h
        rw [takes_true_loc tailB (show takesT [40] s = (true, (takesT [40] s).2) by rw [← h2]) (by simp)]
        simp only [if_true]
        cases hx : termsOf (factorT n) (takesT [40] s).2 with
        | none => rw [hx] at h; cases h
        | some xr =>
          obtain ⟨x1, r1⟩ := xr
          rw [hx] at h
          simp only at h
          obtain ⟨r1', hx', hr1⟩ := rowsT_loc (.inr (.inr (.inr rfl))) (rowsT_len (factorT_len n)) (rowsT_loc (.inr (.inr (.inl rfl))) (factorT_len n) ih) _ _ _ hx
          rw [termsOf, hx']
          simp only
          cases h3 : (takesT [41] r1).1 with
          | false => rw [h3] at h; cases h
          | true =>
            rw [h3] at h
            simp only [if_true, Option.some.injEq, Prod.mk.injEq] at h
            obtain ⟨rfl, rfl⟩ := h
            rw [takesT_of hr1, takes_true_loc tailB (show takesT [41] r1 = (true, (takesT [41] r1).2) by rw [← h3]) (by simp)]
            exact ⟨_, rfl, rfl⟩
      | false =>
        rw [h2] at h
        simp only [Bool.false_eq_true, if_false] at h
        rw [takes_false_loc h2 (.inr (.inl rfl))]
        simp only [Bool.false_eq_true, if_false]
        cases hu : skipT s with
        | nil => rw [hu] at h; simp at h
        | cons c u =>
          rw [hu] at h
          rw [skipT_app_cons hu]
          obtain ⟨e1, e2⟩ := while_app (p := mayTB) (t := tailB) (by intro c hc; simp [tailB] at hc; subst hc; decide) (c :: u)
          rw [List.cons_append] at e1 e2
          rw [e1, e2]
          by_cases he : ((c :: u).takeWhile mayTB).isEmpty = true
          · rw [if_pos he] at h; cases h
          · rw [if_neg he] at h ⊢
            simp only [Option.some.injEq, Prod.mk.injEq] at h
            obtain ⟨rfl, rfl⟩ := h
            exact ⟨_, rfl, rfl⟩

/-- Brackets and blanks round a text. -/
def inB (s : List UInt8) : List UInt8 := [32, 40, 9] ++ s ++ tailB
theorem readT_ok {s : List UInt8} (h : (readT s).2 = 0) : s.length ≤ 500 ∧ ∃ r, termsT (s.length + 1) s = some ((readT s).1, r) ∧ skipT r = [] ∧ rightX 100 (readT s).1 = true := by
  unfold readT at h ⊢
  by_cases hl : s.length > 500
  · rw [if_pos hl] at h; cases h
  · rw [if_neg hl] at h ⊢
    refine ⟨by omega, ?_⟩
    cases hx : termsT (s.length + 1) s with
    | none => rw [hx] at h; cases h
    | some xr =>
      obtain ⟨x, r⟩ := xr
      rw [hx] at h
      simp only at h ⊢
      by_cases hc : skipT r = [] ∧ rightX 100 x = true
      · rw [if_pos hc]; exact ⟨r, rfl, hc.1, hc.2⟩
      · rw [if_neg hc] at h; cases h
theorem brackets_read {s : List UInt8} (hl : s.length ≤ 490) (h : (readT s).2 = 0) : readT (inB s) = ((readT s).1, 0) := by
  obtain ⟨_, r, h1, h2, h3⟩ := readT_ok h
  obtain ⟨x, hx⟩ : ∃ x, (readT s).1 = x := ⟨_, rfl⟩
  rw [hx] at h1 h3 ⊢
  have hlen : (inB s).length = s.length + 6 := by simp [inB, tailB]
  have e : inB s = 32 :: 40 :: 9 :: (s ++ tailB) := by simp [inB]
  obtain ⟨r', h4, h5⟩ := rowsT_loc (.inr (.inr (.inr rfl))) (rowsT_len (factorT_len (s.length + 1))) (rowsT_loc (.inr (.inr (.inl rfl))) (factorT_len (s.length + 1)) (factorT_loc (s.length + 1) (s.length + 6) (by omega))) _ _ _ h1
  have h6 : skipT r' = 41 :: [32] := by rw [h5, skipT_app_nil h2]; rfl
  have hf : factorT (s.length + 6 + 1) (inB s) = some (x, [32]) := by
    rw [factorT_eq, e, takesT_of (skipT_cons _ (by decide)), takes_miss _ _ _ (by decide) (by decide)]
    simp only [Bool.false_eq_true, if_false]
    rw [takesT_of (skipT_cons _ (by decide)), takes_hit _ _ (by decide)]
    simp only [if_true]
    have h7 : termsOf (factorT (s.length + 6)) (9 :: (s ++ tailB)) = some (x, r') := by
      rw [termsOf, blind_cons (rowsT_skip (rowsT_skip (factorT_skip _))) (by decide)]; exact h4
    rw [h7]
    simp only
    rw [takesT_of (show skipT r' = skipT (41 :: [32]) by rw [h6, skipT_not _ (by decide)]), takes_hit _ _ (by decide)]
    simp
  have hr : termsT ((inB s).length + 1) (inB s) = some (x, skipT (skipT [32])) := by
    rw [hlen]
    have := rowsT_one (rowsT_one (op := [38, 38]) (t := [32]) hf rfl (by decide)) (skipT_skipT [32]) (op := [124, 124]) (by decide)
    rw [skipT_skipT]; exact this
  rw [readT, if_neg (by omega), hr]
  simp only
  rw [if_pos ⟨by decide, h3⟩]
end Go.Proofs.YtagaoilgnhdebaaDoor
