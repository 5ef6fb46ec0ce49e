/-
  tag: how long what is written is; how great what is read is. Plain; no program.
-/
import Derived.Test.YtagaoilgnhdebaaDoorTgPb
import Derived.Test.YtagaoilgnhdebaaDoorTgY
namespace Go.Proofs.YtagaoilgnhdebaaDoor
set_option linter.unusedSimpArgs false
set_option linter.unusedVariables false
open Go.RowKit

theorem joinL_len (sep : List UInt8) (W : Xp → List UInt8) (hs : sep.length ≤ 4) : ∀ (l : List Xp), (∀ k, k ∈ l → (W k).length + 4 ≤ 2 * bulkX k) → (joinL sep (l.map W)).length ≤ 2 * bulksX l
  | [], _ => by simp [joinL]
  | x :: l, h => by
    rw [List.map_cons, joinL_eq]
    have h1 : ∀ l : List Xp, (∀ k, k ∈ l → (W k).length + 4 ≤ 2 * bulkX k) → ((List.map (fun y => sep ++ y) (l.map W)).flatten).length ≤ 2 * bulksX l := by
      intro l
      induction l with
      | nil => intro _; simp
      | cons y l ih =>
        intro h
        have h2 := h y (by simp)
        have h3 := ih (fun k hk => h k (List.mem_cons_of_mem _ hk))
        rw [List.map_cons, List.map_cons, List.flatten_cons, List.length_append, List.length_append, bulksX]
        omega
    have h2 := h x (by simp)
    have h3 := h1 l (fun k hk => h k (List.mem_cons_of_mem _ hk))
    rw [List.length_append, bulksX]
    omega
theorem signed_le (op within s : List UInt8) : (signed op within s).length ≤ s.length + 2 := by
  unfold signed; split <;> simp
theorem write_len : ∀ (n : Nat) (t : Xp) (within : List UInt8), (writeX n t within).length + 4 ≤ 2 * bulkX t
  | 0, t, within => by rw [writeX, bulkX_eq]; simp; omega
  | n + 1, .mk op tag kids, within => by
    have ih := write_len n
    rw [writeX_mk, bulkX]
    by_cases h1 : op = [33]
    · rw [if_pos h1, h1]
      cases kids with
      | nil =>
        have : writeX n (default : Xp) [33] = [] := by
          show writeX n (.mk [] [] []) [33] = []
          cases n with
          | zero => rfl
          | succ n => rw [writeX_mk]; simp
        simp [this, bulksX]; omega
      | cons k l =>
        have := ih k [33]
        simp [bulksX]; omega
    · rw [if_neg h1]
      by_cases h2 : op = [38, 38] ∨ op = [124, 124]
      · rw [if_pos h2]
        have ho : op.length = 2 := by rcases h2 with rfl | rfl <;> rfl
        have h3 := signed_le op within (joinL ([32] ++ op ++ [32]) (kids.map fun k => writeX n k op))
        have h4 := joinL_len ([32] ++ op ++ [32]) (fun k => writeX n k op) (by simp; omega) kids (fun k _ => ih k op)
        omega
      · rw [if_neg h2]; omega

theorem takesT_cut {sign s : List UInt8} (h : (takesT sign s).1 = true) : (takesT sign s).2.length + sign.length ≤ s.length := by
  have h1 := skipT_len s
  unfold takesT at h ⊢
  split at h
  · rename_i hp
    rw [if_pos hp]
    have h3 : sign.length ≤ (skipT s).length := (List.isPrefixOf_iff_prefix.1 hp).length_le
    simp; omega
  · cases h

def BulkOk (q : List UInt8 → Option (Xp × List UInt8)) : Prop := ∀ s x r, q s = some (x, r) → bulkX x + 8 * r.length ≤ 8 * s.length
theorem rowT_bulk {op : List UInt8} (h2 : 2 ≤ op.length) {q : List UInt8 → Option (Xp × List UInt8)} (hq : BulkOk q) : ∀ (k : Nat) (s : List UInt8) (l : List Xp) (r : List UInt8), rowT op q k s = some (l, r) → bulksX l + 16 * l.length + 8 * r.length ≤ 8 * s.length
  | 0, s, l, r, h => by cases h
  | k + 1, s, l, r, h => by
    rw [rowT] at h
    cases ht : (takesT op s).1 with
    | false =>
      rw [ht] at h
      simp only [Bool.false_eq_true, if_false, Option.some.injEq, Prod.mk.injEq] at h
      obtain ⟨rfl, rfl⟩ := h
      have := takesT_le op s
      simp [bulksX]; omega
    | true =>
      have h5 := takesT_cut ht
      rw [ht] at h
      simp only [if_true] at h
      cases hx : q (takesT op s).2 with
      | none => rw [hx] at h; cases h
      | some xr =>
        obtain ⟨x, r1⟩ := xr
        rw [hx] at h
        simp only at h
        cases hy : rowT op q k r1 with
        | none => rw [hy] at h; cases h
        | some lr =>
          obtain ⟨l1, r2⟩ := lr
          rw [hy] at h
          simp only [Option.some.injEq, Prod.mk.injEq] at h
          obtain ⟨rfl, rfl⟩ := h
          have h8 := rowT_bulk h2 hq k r1 l1 r2 hy
          have h9 := hq _ _ _ hx
          rw [bulksX]; simp; omega
theorem rowsT_bulk {op : List UInt8} (h2 : op.length = 2) {q : List UInt8 → Option (Xp × List UInt8)} (hq : BulkOk q) : BulkOk (rowsT op q) := by
  intro s x r h
  rw [rowsT] at h
  cases hx : q s with
  | none => rw [hx] at h; cases h
  | some xr =>
    obtain ⟨x1, r1⟩ := xr
    rw [hx] at h
    simp only at h
    cases hy : rowT op q (r1.length + 1) r1 with
    | none => rw [hy] at h; cases h
    | some lr =>
      obtain ⟨l1, r2⟩ := lr
      rw [hy] at h
      simp only [Option.some.injEq, Prod.mk.injEq] at h
      obtain ⟨rfl, rfl⟩ := h
      have h8 := rowT_bulk (by omega) hq _ _ _ _ hy
      have h9 := hq _ _ _ hx
      cases l1 with
      | nil => simp [wrapT]; simp [bulksX] at h8; omega
      | cons y l1 =>
        simp only [wrapT, List.isEmpty_cons, Bool.false_eq_true, if_false]
        rw [bulkX, bulksX]
        simp at h8 ⊢; omega
theorem factorT_bulk : ∀ (n : Nat), BulkOk (factorT n)
  | 0 => fun s x r h => by cases h
  | n + 1 => fun s x r h => by
    have ih := factorT_bulk n
    rw [factorT_eq] at h
    cases h1 : (takesT [33] s).1 with
    | true =>
      have h5 := takesT_cut h1
      rw [h1] at h
      simp only [if_true] at h
      cases hx : factorT n (takesT [33] s).2 with
      | none => rw [hx] at h; cases h
      | some xr =>
        obtain ⟨x1, r1⟩ := xr
        rw [hx] at h
        simp only [Option.some.injEq, Prod.mk.injEq] at h
        obtain ⟨rfl, rfl⟩ := h
        have := ih _ _ _ hx
        simp [bulkX, bulksX] at h5 ⊢; omega
    | false =>
      rw [h1] at h
      simp only [Bool.false_eq_true, if_false] at h
      cases h2 : (takesT [40] s).1 with
      | true =>
        have h5 := takesT_cut h2
        rw [h2] at h
        simp only [if_true] at h
        cases hx : termsOf (factorT n) (takesT [40] s).2 with
        | none => rw [hx] at h; cases h
        | some xr =>
          obtain ⟨x1, r1⟩ := xr
          rw [hx] at h
          simp only at h
          cases h3 : (takesT [41] r1).1 with
          | false => rw [h3] at h; cases h
          | true =>
            rw [h3] at h
            simp only [if_true, Option.some.injEq, Prod.mk.injEq] at h
            obtain ⟨rfl, rfl⟩ := h
            have h6 := rowsT_bulk (op := [124, 124]) rfl (rowsT_bulk (op := [38, 38]) rfl ih) _ _ _ hx
            have h7 := takesT_le [41] r1
            omega
      | false =>
        rw [h2] at h
        simp only [Bool.false_eq_true, if_false] at h
        by_cases he : ((skipT s).takeWhile mayTB).isEmpty = true
        · rw [if_pos he] at h; cases h
        · rw [if_neg he] at h
          simp only [Option.some.injEq, Prod.mk.injEq] at h
          obtain ⟨rfl, rfl⟩ := h
          have h3 := skipT_len s
          have h4 : ((skipT s).takeWhile mayTB).length + ((skipT s).dropWhile mayTB).length = (skipT s).length := by
            rw [← List.length_append, List.takeWhile_append_dropWhile]
          have h5 : ((skipT s).takeWhile mayTB).length ≠ 0 := by
            intro e; exact he (by simpa using List.eq_nil_of_length_eq_zero e)
          simp [bulkX, bulksX]; omega
/-- What is read is small. -/
theorem read_bulk (s : List UInt8) (h : (readT s).2 = 0) : bulkX (readT s).1 ≤ 8 * s.length := by
  obtain ⟨_, r, h1, _⟩ := readT_ok h
  have := rowsT_bulk (op := [124, 124]) rfl (rowsT_bulk (op := [38, 38]) rfl (factorT_bulk _)) _ _ _ h1
  omega
theorem writeR_len (t : Xp) : (writeR t).length ≤ 2 * bulkX t := by
  unfold writeR
  split
  · have := write_len 100 t []; omega
  · simp
end Go.Proofs.YtagaoilgnhdebaaDoor
