/-
  a line's words, byte by byte.
-/
import Derived.Lib.SpaceUEq
import Derived.Lib.FieldsU
import Derived.Test.YtgldnkpanimihaaDoorVrI
namespace Go.Proofs.YtgldnkpanimihaaDoor
set_option linter.unusedSimpArgs false
set_option linter.unusedVariables false
open Go.RowKit

/-- Words, with what has begun. -/
def wf (cur : List UInt8) : List UInt8 → List (List UInt8)
  | [] => if cur = [] then [] else [cur]
  | c :: t => if blankB c then (if cur = [] then wf [] t else cur :: wf [] t) else wf (cur ++ [c]) t
theorem wf_skip : ∀ (x cur t : List UInt8), (∀ c ∈ x, blankB c = false) → wf cur (x ++ t) = wf (cur ++ x) t
  | [], cur, t, _ => by simp
  | c :: x, cur, t, h => by
    rw [List.cons_append, wf, if_neg (by rw [h c (by simp)]; decide), wf_skip x _ t (fun d hd => h d (by simp [hd]))]
    simp
theorem blank_high {c : UInt8} (h : 128 ≤ c.toNat) : blankB c = false := by
  cases hb : blankB c with
  | false => rfl
  | true => have := blankI_lt hb; omega
theorem conts (l : List UInt8) (pos : Nat) : ∀ j, 1 ≤ j → j < (Utf8.decode ⟨l.toArray⟩ pos).2 → pos + j < l.length ∧ 128 ≤ (l.getD (pos + j) 0).toNat := by
  intro j hj hlt
  have hN := Lib.decode_N ⟨l.toArray⟩ pos
  have h := Lib.decodeN_conts (l.length - pos) (l.getD pos 0).toNat (l.getD (pos + 1) 0).toNat (l.getD (pos + 2) 0).toNat (l.getD (pos + 3) 0).toNat
  have hN : Utf8.decode ⟨l.toArray⟩ pos = Lib.decodeN (l.length - pos) (l.getD pos 0).toNat (l.getD (pos + 1) 0).toNat (l.getD (pos + 2) 0).toNat (l.getD (pos + 3) 0).toNat := hN
  rw [hN] at hlt
  obtain ⟨c1, c2, c3, c4⟩ := h
  rcases (show j = 1 ∨ j = 2 ∨ j = 3 by omega) with rfl | rfl | rfl
  · have := c1 (by omega); omega
  · have := c2 (by omega); omega
  · have := c3 (by omega); omega
theorem ext_piece (l : List UInt8) (a b : Nat) : ((⟨l.toArray⟩ : ByteArray).extract a b).data.toList = Lib.pieceU l a b := by
  unfold Lib.pieceU
  rw [ByteArray.extract_mk]
  first | done | simp [List.take_drop, List.drop_take]
theorem spans_wf (l : List UInt8) : ∀ (f pos : Nat) (st : Option Nat) (acc : List (Nat × Nat)), pos ≤ l.length → l.length - pos ≤ f → (∀ a, st = some a → a < pos) →
    (Lib.closeSpans ⟨l.toArray⟩ (Lib.spansFromP blankP ⟨l.toArray⟩ f pos st acc)).map (fun x => Lib.pieceU l x.1 x.2) = acc.map (fun x => Lib.pieceU l x.1 x.2) ++ wf (Lib.openPiece l st pos) (l.drop pos) := by
  have hsz : (⟨l.toArray⟩ : ByteArray).size = l.length := by simp [ByteArray.size]
  intro f
  induction f with
  | zero =>
    intro pos st acc hp hf hst
    have : pos = l.length := by omega
    subst this
    rw [List.drop_length]
    cases st with
    | none => simp [Lib.spansFromP, Lib.closeSpans, Lib.openPiece, wf]
    | some a =>
      have hne := Lib.pieceU_ne l a l.length (hst a rfl) (Nat.le_refl _)
      simp [Lib.spansFromP, Lib.closeSpans, Lib.openPiece, wf, hsz, hne]
  | succ f ih =>
    intro pos st acc hp hf hst
    by_cases hlt : pos < l.length
    · obtain ⟨r, n, hd, hn, hr, hc⟩ := rune_at l pos hlt
      have hcn := conts l pos
      rw [hd] at hcn
      simp only at hcn
      have hnl : pos + n ≤ l.length := by
        by_cases h1 : n = 1
        · omega
        · have := (hcn (n - 1) (by omega) (by omega)).1; omega
      have hbp : blankP r = blankB l[pos] := rune_is (fun c h => blankI_lt h) (by omega)
      unfold Lib.spansFromP
      rw [if_pos (by rw [hsz]; exact hlt), hd]
      simp only
      rw [hbp]
      cases hb : blankB l[pos] with
      | true =>
        have hn1 : n = 1 := by
          rcases hc with h | h
          · exact h.2.2
          · rw [blank_high h.1] at hb; cases hb
        subst hn1
        rw [if_pos rfl, drop_at hlt]
        cases st with
        | none =>
          simp only
          rw [ih (pos + 1) none acc (by omega) (by omega) (fun a h => by cases h)]
          simp [Lib.openPiece, wf, hb]
        | some a =>
          simp only
          have hne := Lib.pieceU_ne l a pos (hst a rfl) (by omega)
          rw [ih (pos + 1) none _ (by omega) (by omega) (fun a h => by cases h)]
          simp [Lib.openPiece, wf, hb, hne]
      | false =>
        rw [if_neg (by decide)]
        have hall : ∀ c ∈ (l.drop pos).take n, blankB c = false := by
          intro c hc2
          obtain ⟨j, hj, rfl⟩ := List.getElem_of_mem hc2
          have hj2 : j < n := by simp at hj; omega
          rw [List.getElem_take, List.getElem_drop]
          by_cases h0 : j = 0
          · subst h0; exact hb
          · have h1 := hcn j (by omega) hj2
            apply blank_high
            obtain ⟨h1a, h1b⟩ := h1
            rw [List.getD_eq_getElem?_getD, List.getElem?_eq_getElem h1a] at h1b
            exact h1b
        have hsk := fun cur => wf_skip ((l.drop pos).take n) cur (l.drop (pos + n)) hall
        have hsplit : (l.drop pos).take n ++ l.drop (pos + n) = l.drop pos := by rw [← List.drop_drop]; exact List.take_append_drop _ _
        rw [hsplit] at hsk
        rw [hsk]
        cases st with
        | none =>
          simp only
          rw [ih (pos + n) (some pos) acc hnl (by omega) (fun a h => by cases h; omega)]
          congr 2
          simp [Lib.openPiece, Lib.pieceU]
        | some a =>
          simp only
          rw [ih (pos + n) (some a) acc hnl (by omega) (fun a' h => by cases h; have := hst a rfl; omega)]
          congr 2
          simp only [Lib.openPiece]
          rw [Lib.pieceU_grow l a pos n (Nat.le_of_lt (hst a rfl))]
    · have : pos = l.length := by omega
      subst this
      rw [Lib.spansFromP_end _ _ _ _ _ _ (by rw [hsz]; omega), List.drop_length]
      cases st with
      | none => simp [Lib.closeSpans, Lib.openPiece, wf]
      | some a =>
        have hne := Lib.pieceU_ne l a l.length (hst a rfl) (Nat.le_refl _)
        simp [Lib.closeSpans, Lib.openPiece, wf, hsz, hne]
theorem fields_wf (l : List UInt8) : (Lib.goFieldsP blankP ⟨l.toArray⟩).map (·.data.toList) = wf [] l := by
  unfold Lib.goFieldsP Lib.spansOfP
  rw [List.map_map]
  have h := spans_wf l l.length 0 none [] (by omega) (by omega) (fun a h => by cases h)
  have hsz : (⟨l.toArray⟩ : ByteArray).size = l.length := by simp [ByteArray.size]
  rw [hsz]
  refine Eq.trans (List.map_congr_left (fun x _ => ext_piece l x.1 x.2)) ?_
  rw [h]
  simp [Lib.openPiece]
/-- A line without its note. -/
def noteless (l : List UInt8) : List UInt8 := (Lib.cut l [47, 47]).1
theorem words_wf (l : List UInt8) : wordsG l = wf [] (noteless l) := fields_wf _
end Go.Proofs.YtgldnkpanimihaaDoor
