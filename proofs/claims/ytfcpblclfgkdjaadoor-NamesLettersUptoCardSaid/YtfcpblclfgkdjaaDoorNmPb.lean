/-
  names: rows of one sign in texts, plainly. No program.
-/
import Derived.Test.YtfcpblclfgkdjaaDoorBgT
import Derived.Lib.SpaceUEq
import Derived.Lib.DecodeN
namespace Go.Proofs.YtfcpblclfgkdjaaDoor
set_option linter.unusedSimpArgs false
set_option linter.unusedVariables false
open Go.RowKit

def jstep (p : Nat × Nat) (b : UInt8) : Nat × Nat := if b = 95 then (p.1 + 1, max p.2 (p.1 + 1)) else (0, p.2)
/-- The row that a text ends with, the longest row so far. -/
def jrow (l : List UInt8) (p : Nat × Nat) : Nat × Nat := l.foldl jstep p
theorem jrow_app (a b : List UInt8) (p : Nat × Nat) : jrow (a ++ b) p = jrow b (jrow a p) := List.foldl_append ..
theorem jrow_others : ∀ (l : List UInt8) (p : Nat × Nat), l ≠ [] → (∀ b, b ∈ l → b ≠ 95) → jrow l p = (0, p.2)
  | [], _, h, _ => absurd rfl h
  | [b], p, _, hb => by
    have := hb b (by simp)
    simp [jrow, jstep, this]
  | b :: c :: l, p, _, hb => by
    have h1 := hb b (by simp)
    have := jrow_others (c :: l) (0, p.2) (by simp) (fun d hd => hb d (List.mem_cons_of_mem _ hd))
    show jrow (c :: l) (jstep p b) = _
    rw [show jstep p b = (0, p.2) by simp [jstep, h1], this]
/-- So many of the sign from k on. -/
def Win (l : List UInt8) (k n : Nat) : Prop := ∀ i, i < n → l[k + i]? = some 95
theorem Win.le {l : List UInt8} {k n : Nat} (h : Win l k n) (h0 : 0 < n) : k + n ≤ l.length := by
  have := h (n - 1) (by omega)
  have := (List.getElem?_eq_some_iff.1 this).1
  omega
theorem win_snoc {l : List UInt8} {b : UInt8} {k n : Nat} (h : k + n ≤ l.length) : Win (l ++ [b]) k n ↔ Win l k n := by
  unfold Win
  constructor
  · intro h2 i hi
    have := h2 i hi
    rwa [List.getElem?_append_left (by omega)] at this
  · intro h2 i hi
    rw [List.getElem?_append_left (by omega)]; exact h2 i hi
structure JInv (m0 : Nat) (l : List UInt8) (p : Nat × Nat) : Prop where
  le : p.1 ≤ l.length
  row : Win l (l.length - p.1) p.1
  top : ∀ k n, Win l k n → k + n = l.length → n ≤ p.1
  max : ∀ k n, Win l k n → n ≤ p.2 ∨ n = 0
  low : m0 ≤ p.2
  some : p.2 = m0 ∨ ∃ k, Win l k p.2
theorem jinv_nil (m0 : Nat) : JInv m0 [] (0, m0) := by
  refine ⟨by simp, fun i hi => by simp at hi, fun k n h e => ?_, fun k n h => ?_, Nat.le_refl _, .inl rfl⟩
  · simp at e; show n ≤ 0; omega
  · by_cases hn : n = 0
    · exact .inr hn
    · have := h.le (by omega); simp at this; omega
theorem jinv_snoc {m0 : Nat} {l : List UInt8} {p : Nat × Nat} (h : JInv m0 l p) (b : UInt8) : JInv m0 (l ++ [b]) (jstep p b) := by
  obtain ⟨h1, h2, h3, h4, h5, h6⟩ := h
  have hlen : (l ++ [b]).length = l.length + 1 := by simp
  by_cases hb : b = 95
  · subst hb
    have e : jstep p 95 = (p.1 + 1, max p.2 (p.1 + 1)) := by simp [jstep]
    have hrow : Win (l ++ [95]) (l.length - p.1) (p.1 + 1) := fun i hi => by
      by_cases hl : i < p.1
      · rw [List.getElem?_append_left (by omega)]; exact h2 i hl
      · have : l.length - p.1 + i = l.length := by omega
        rw [this, List.getElem?_append_right (Nat.le_refl _), Nat.sub_self]; rfl
    have htop : ∀ k n, Win (l ++ [95]) k n → k + n = l.length + 1 → n ≤ p.1 + 1 := fun k n hw e => by
      by_cases hn : n = 0
      · omega
      · have : Win l k (n - 1) := fun i hi => by
          have := hw i (by omega)
          rwa [List.getElem?_append_left (by omega)] at this
        have := h3 k (n - 1) this (by omega)
        omega
    rw [e]
    refine ⟨by simp; omega, ?_, ?_, ?_, by show m0 ≤ Max.max p.2 (p.1 + 1); omega, ?_⟩
    · show Win _ ((l ++ [95]).length - (p.1 + 1)) (p.1 + 1)
      rw [hlen, show l.length + 1 - (p.1 + 1) = l.length - p.1 by omega]; exact hrow
    · intro k n hw e; rw [hlen] at e; exact htop k n hw e
    · intro k n hw
      show n ≤ Max.max p.2 (p.1 + 1) ∨ n = 0
      by_cases hn : n = 0
      · exact .inr hn
      · have hle := hw.le (by omega)
        rw [hlen] at hle
        by_cases he : k + n = l.length + 1
        · have := htop k n hw he; left; omega
        · rcases h4 k n ((win_snoc (by omega)).1 hw) with h | h
          · left; omega
          · exact .inr h
    · show Max.max p.2 (p.1 + 1) = m0 ∨ ∃ k, Win (l ++ [95]) k (Max.max p.2 (p.1 + 1))
      by_cases hm : p.2 ≤ p.1 + 1
      · rw [Nat.max_eq_right hm]
        exact .inr ⟨_, hrow⟩
      · rw [Nat.max_eq_left (by omega)]
        rcases h6 with h6 | ⟨k, hk⟩
        · exact .inl h6
        · exact .inr ⟨k, (win_snoc (hk.le (by omega))).2 hk⟩
  · have e : jstep p b = (0, p.2) := by simp [jstep, hb]
    have hnot : ∀ k n, Win (l ++ [b]) k n → k + n = l.length + 1 → n = 0 := fun k n hw e => by
      by_cases hn : n = 0
      · exact hn
      · exfalso
        have := hw (n - 1) (by omega)
        rw [show k + (n - 1) = l.length by omega, List.getElem?_append_right (Nat.le_refl _), Nat.sub_self] at this
        exact hb (by simpa using this)
    rw [e]
    refine ⟨by simp, fun i hi => by simp at hi, ?_, ?_, h5, ?_⟩
    · intro k n hw e; rw [hlen] at e
      rw [hnot k n hw e]; exact Nat.zero_le _
    · intro k n hw
      show n ≤ p.2 ∨ n = 0
      by_cases hn : n = 0
      · exact .inr hn
      · have hle := hw.le (by omega)
        rw [hlen] at hle
        by_cases he : k + n = l.length + 1
        · exact absurd (hnot k n hw he) hn
        · exact h4 k n ((win_snoc (by omega)).1 hw)
    · show p.2 = m0 ∨ ∃ k, Win (l ++ [b]) k p.2
      rcases h6 with h6 | ⟨k, hk⟩
      · exact .inl h6
      · by_cases hp : p.2 = 0
        · left; omega
        · exact .inr ⟨k, (win_snoc (hk.le (by omega))).2 hk⟩
theorem jinv_all (m0 : Nat) (l : List UInt8) : JInv m0 l (jrow l (0, m0)) := by
  have : ∀ (n : Nat) (l : List UInt8), l.length = n → JInv m0 l (jrow l (0, m0)) := by
    intro n
    induction n with
    | zero =>
      intro l hl
      obtain rfl := List.eq_nil_of_length_eq_zero hl
      exact jinv_nil m0
    | succ n ih =>
      intro l hl
      have hne : l ≠ [] := fun e => by rw [e] at hl; cases hl
      have hd := List.dropLast_concat_getLast hne
      rw [← hd, jrow_app]
      exact jinv_snoc (ih l.dropLast (by rw [List.length_dropLast]; omega)) _
  exact this _ l rfl

/-- The longest row in any of some, at least m. -/
def jlong (l : List (List UInt8)) (m : Nat) : Nat := l.foldl (fun m s => (jrow s (0, m)).2) m
theorem jlong_app (a b : List (List UInt8)) (m : Nat) : jlong (a ++ b) m = jlong b (jlong a m) := List.foldl_append ..
theorem jlong_le : ∀ (l : List (List UInt8)) (m : Nat), m ≤ jlong l m
  | [], m => Nat.le_refl _
  | s :: l, m => Nat.le_trans (jinv_all m s).low (jlong_le l _)
/-- No row in any of them is longer. -/
theorem jlong_max : ∀ (l : List (List UInt8)) (m : Nat) (s : List UInt8), s ∈ l → ∀ k n, Win s k n → n ≤ jlong l m ∨ n = 0
  | [], _, _, h => by cases h
  | t :: l, m, s, h => by
    intro k n hw
    rcases List.mem_cons.1 h with rfl | h
    · rcases (jinv_all m s).max k n hw with h1 | h1
      · exact .inl (Nat.le_trans h1 (jlong_le l _))
      · exact .inr h1
    · exact jlong_max l _ s h k n hw
/-- It is in one of them, or the least. -/
theorem jlong_some : ∀ (l : List (List UInt8)) (m : Nat), jlong l m = m ∨ ∃ s, s ∈ l ∧ ∃ k, Win s k (jlong l m)
  | [], m => .inl rfl
  | t :: l, m => by
    rcases jlong_some l (jrow t (0, m)).2 with h | ⟨s, hs, k, hk⟩
    · rcases (jinv_all m t).some with h2 | ⟨k, hk⟩
      · exact .inl (by show jlong l _ = m; rw [h, h2])
      · exact .inr ⟨t, by simp, k, by show Win t k (jlong l _); rw [h]; exact hk⟩
    · exact .inr ⟨s, by simp [hs], k, hk⟩

/-- A rune and what follows: no sign of one byte is in the midst of it. -/
theorem rune_whole (l : List UInt8) (k : Nat) (hk : k < l.length) (n : Nat) (hn : (Utf8.decode ⟨l.toArray⟩ k).2 = n) (h128 : 128 ≤ l[k].toNat) : k + n ≤ l.length ∧ ∀ b, b ∈ (l.drop k).take n → b ≠ 95 := by
  have hd := Lib.decode_N ⟨l.toArray⟩ k
  simp only [List.toList_toArray] at hd
  rw [hd] at hn
  obtain ⟨c2, c3, c4, c5⟩ := Lib.decodeN_conts (l.length - k) (l.getD k 0).toNat (l.getD (k + 1) 0).toNat (l.getD (k + 2) 0).toNat (l.getD (k + 3) 0).toNat
  rw [hn] at c2 c3 c4 c5
  have hle : k + n ≤ l.length := by omega
  refine ⟨hle, fun b hb => ?_⟩
  obtain ⟨j, hj, rfl⟩ := List.getElem_of_mem hb
  have hjn : j < n := by simp at hj; omega
  have e : ((l.drop k).take n)[j] = l[k + j]'(by omega) := by simp
  rw [e]
  have hg : ∀ i (h : k + i < l.length), l.getD (k + i) 0 = l[k + i] := fun i h => by rw [List.getD_eq_getElem?_getD, List.getElem?_eq_getElem h]; rfl
  intro h95
  have h95' : (l[k + j]'(by omega)).toNat = 95 := by rw [h95]; rfl
  rcases (show j = 0 ∨ j = 1 ∨ j = 2 ∨ j = 3 by omega) with rfl | rfl | rfl | rfl
  · simp only [Nat.add_zero] at h95'; omega
  · have := (c2 (by omega)).1
    rw [hg 1 (by omega)] at this; omega
  · have := (c3 (by omega)).1
    rw [hg 2 (by omega)] at this; omega
  · have := (c4 (by omega)).1
    rw [hg 3 (by omega)] at this; omega
end Go.Proofs.YtfcpblclfgkdjaaDoor
