/-
  go.mod texts, plainly: notes, a line toolchain, what is written.
-/
import Derived.Test.YtgldnkpanimihaaDoorVrK
import Derived.Test.YtgldnkpanimihaaDoorVrH
namespace Go.Proofs.YtgldnkpanimihaaDoor
set_option linter.unusedSimpArgs false
set_option linter.unusedVariables false
open Go.RowKit

theorem split_no {c : UInt8} : ∀ {s : List UInt8}, c ∉ s → splitL c s = [s]
  | [], _ => rfl
  | x :: t, h => by
    have h1 : ¬ x = c := fun e => h (by simp [e])
    rw [splitL_cons, if_neg h1, split_no (s := t) (fun e => h (by simp [e]))]
theorem linesOf_app (a b : List (List UInt8)) : linesOf (a ++ b) = linesOf a ++ linesOf b := by simp [linesOf]
theorem linesOf_one (x : List UInt8) : linesOf [x] = if (wordsG x).isEmpty then [] else [wordsG x] := by
  unfold linesOf
  cases h : (wordsG x).isEmpty <;> simp [h]
theorem words_note (x : List UInt8) : wordsG (47 :: 47 :: x) = [] := by
  rw [words_wf]
  unfold noteless
  have := cut_at (A := []) (B := x) (t := [47]) (c := 47) (by simp)
  simp only [List.cons_append, List.nil_append] at this
  rw [this]
  rfl
/-- Notes and blank lines change nothing. -/
theorem notes_plain (b note : List UInt8) (hn : (10 : UInt8) ∉ note) :
    readL ([47, 47, 32] ++ note ++ [10, 10, 32, 9, 13, 10] ++ b ++ [10, 47, 47] ++ note) = readL b := by
  have e : [47, 47, 32] ++ note ++ [10, 10, 32, 9, 13, 10] ++ b ++ [10, 47, 47] ++ note = (47 :: 47 :: 32 :: note) ++ 10 :: ([] ++ 10 :: ([32, 9, 13] ++ 10 :: (b ++ 10 :: (47 :: 47 :: note)))) := by simp
  have hs : linesOf (splitL 10 ([47, 47, 32] ++ note ++ [10, 10, 32, 9, 13, 10] ++ b ++ [10, 47, 47] ++ note)) = linesOf (splitL 10 b) := by
    rw [e, split_app, split_app, split_app, split_app, linesOf_app, linesOf_app, linesOf_app, linesOf_app, split_no (s := 47 :: 47 :: 32 :: note) (by simp [hn]), split_no (s := 47 :: 47 :: note) (by simp [hn]), linesOf_one, words_note, linesOf_one, words_note]
    have h1 : linesOf (splitL 10 []) = [] := by decide +kernel
    have h2 : linesOf (splitL 10 [32, 9, 13]) = [] := by decide +kernel
    rw [h1, h2]
    simp
  unfold readL
  rw [hs]
theorem chain_word : ∀ d : Nat, d < 10 → linesOf (splitL 10 ([116, 111, 111, 108, 99, 104, 97, 105, 110, 32, 103, 111, 49, 46] ++ [UInt8.ofNat (48 + d)])) = [[[116, 111, 111, 108, 99, 104, 97, 105, 110], [103, 111, 49, 46] ++ [UInt8.ofNat (48 + d)]]] := by decide +kernel
theorem chain_bare : linesOf (splitL 10 [116, 111, 111, 108, 99, 104, 97, 105, 110]) = [[[116, 111, 111, 108, 99, 104, 97, 105, 110]]] := by decide +kernel
/-- A line toolchain more changes nothing; with no word it is none. -/
theorem chains_plain (b : List UInt8) (d : Nat) (hd : d < 10) :
    readL (b ++ [10, 116, 111, 111, 108, 99, 104, 97, 105, 110, 32] ++ ([103, 111, 49, 46] ++ [UInt8.ofNat (48 + d)])) = readL b ∧ readL (b ++ [10, 116, 111, 111, 108, 99, 104, 97, 105, 110]) = ([], 0, 7) := by
  have e1 : b ++ [10, 116, 111, 111, 108, 99, 104, 97, 105, 110, 32] ++ ([103, 111, 49, 46] ++ [UInt8.ofNat (48 + d)]) = b ++ 10 :: ([116, 111, 111, 108, 99, 104, 97, 105, 110, 32, 103, 111, 49, 46] ++ [UInt8.ofNat (48 + d)]) := by simp
  have e2 : b ++ [10, 116, 111, 111, 108, 99, 104, 97, 105, 110] = b ++ 10 :: [116, 111, 111, 108, 99, 104, 97, 105, 110] := rfl
  constructor
  · unfold readL
    rw [e1, split_app, linesOf_app, chain_word d hd, List.foldlM_append]
    cases h : (linesOf (splitL 10 b)).foldlM stepR st0 with
    | none => rfl
    | some s => simp [stepR]
  · unfold readL
    rw [e2, split_app, linesOf_app, chain_bare, List.foldlM_append]
    cases h : (linesOf (splitL 10 b)).foldlM stepR st0 with
    | none => rfl
    | some s => simp [stepR]
/-! What is written. -/
theorem mem_split (c : UInt8) : ∀ (s : List UInt8) (x : UInt8), x ∈ s → x = c ∨ ∃ p ∈ splitL c s, x ∈ p
  | [], x, h => by cases h
  | y :: t, x, h => by
    rw [splitL_cons]
    by_cases hy : y = c
    · rw [if_pos hy]
      rcases List.mem_cons.1 h with rfl | h
      · exact .inl hy
      · rcases mem_split c t x h with h | ⟨p, hp, hx⟩
        · exact .inl h
        · exact .inr ⟨p, by simp [hp], hx⟩
    · rw [if_neg hy]
      cases hs : splitL c t with
      | nil => exact absurd hs (splitL_ne c t)
      | cons l r =>
        simp only
        rcases List.mem_cons.1 h with rfl | h
        · exact .inr ⟨x :: l, List.mem_cons_self .., List.mem_cons_self ..⟩
        · rcases mem_split c t x h with h | ⟨p, hp, hx⟩
          · exact .inl h
          · rw [hs] at hp
            rcases List.mem_cons.1 hp with rfl | hp
            · exact .inr ⟨y :: p, List.mem_cons_self .., List.mem_cons_of_mem _ hx⟩
            · exact .inr ⟨p, by simp [hp], hx⟩
theorem path_sign {s : List UInt8} (h : pathL s = true) : ∀ x ∈ s, x = 47 ∨ mayB x = true := by
  intro x hx
  unfold pathL at h
  rw [Bool.and_eq_true] at h
  rcases mem_split 47 s x hx with h1 | ⟨p, hp, hxp⟩
  · exact .inl h1
  · have := List.all_eq_true.1 h.1 p hp
    unfold allB at this
    rw [Bool.and_eq_true] at this
    exact .inr (List.all_eq_true.1 this.2 x hxp)
theorem path_ne {s : List UInt8} (h : pathL s = true) : s ≠ [] := by
  rintro rfl
  revert h; decide
theorem path_two {s : List UInt8} (h : pathL s = true) (A B : List UInt8) : s ≠ A ++ 47 :: 47 :: B := by
  rintro rfl
  unfold pathL at h
  rw [Bool.and_eq_true, split_app, List.all_append, Bool.and_eq_true] at h
  have := h.1.2
  rw [splitL_cons, if_pos rfl, List.all_cons] at this
  simp [allB] at this
theorem words_path {s : List UInt8} (h : pathL s = true) : wordsG ([109, 111, 100, 117, 108, 101, 32] ++ s) = [[109, 111, 100, 117, 108, 101], s] := by
  have hcut : Lib.cut ([109, 111, 100, 117, 108, 101, 32] ++ s) [47, 47] = ([109, 111, 100, 117, 108, 101, 32] ++ s, [], false) := by
    have : Lib.index ([109, 111, 100, 117, 108, 101, 32] ++ s) [47, 47] = -1 := Lib.index_none fun j hj => by
      cases ho : Lib.occAt ([109, 111, 100, 117, 108, 101, 32] ++ s) [47, 47] j with
      | false => rfl
      | true =>
        unfold Lib.occAt at ho
        rw [List.isPrefixOf_iff_prefix] at ho
        obtain ⟨r, hr⟩ := ho
        rcases Nat.lt_or_ge j 7 with h7 | h7
        · exfalso
          have hh := congrArg List.head? hr
          rw [List.head?_drop, List.getElem?_append_left (by simpa using h7)] at hh
          rcases (show j = 0 ∨ j = 1 ∨ j = 2 ∨ j = 3 ∨ j = 4 ∨ j = 5 ∨ j = 6 by omega) with rfl | rfl | rfl | rfl | rfl | rfl | rfl <;> simp at hh
        · exfalso
          have hr2 : s.drop (j - 7) = 47 :: 47 :: r := by
            have e : ([109, 111, 100, 117, 108, 101, 32] ++ s).drop j = s.drop (j - 7) := by
              rw [List.drop_append]
              simp [List.drop_eq_nil_of_le, h7]
            rw [← e, ← hr]; rfl
          exact path_two h (s.take (j - 7)) r (by rw [← hr2]; exact (List.take_append_drop _ _).symm)
    unfold Lib.cut
    rw [this, if_neg (by omega)]
  rw [words_wf]
  unfold noteless
  rw [hcut]
  have hb : ∀ x ∈ s, blankB x = false := fun x hx => by
    rcases path_sign h x hx with rfl | hm
    · decide
    · cases hx2 : blankB x with
      | false => rfl
      | true =>
        exfalso
        unfold blankB blankI at hx2
        unfold mayB mayI figureI at hm
        simp at hx2 hm
        omega
  have h2 := wf_skip s [] [] hb
  rw [List.append_nil, List.nil_append] at h2
  have h3 : wf [] s = [s] := by rw [h2]; simp [wf, path_ne h]
  show wf [] (109 :: 111 :: 100 :: 117 :: 108 :: 101 :: 32 :: s) = _
  simp only [wf]
  simp [h3, show blankB 109 = false by decide, show blankB 111 = false by decide, show blankB 100 = false by decide, show blankB 117 = false by decide, show blankB 108 = false by decide, show blankB 101 = false by decide, show blankB 32 = true by decide]
theorem go_line : ∀ m : Nat, m < 100 → linesOf (splitL 10 ([103, 111, 32] ++ (49 :: 46 :: Lib.decDigits m))) = [[[103, 111], 49 :: 46 :: Lib.decDigits m]] := by decide +kernel
theorem minor_text (m : Nat) (hm : m < 100) : minorG (49 :: 46 :: Lib.decDigits m) = ((m : Int), 0) := by
  rw [minor_cons, min_none (fig_not (dec_all m) (by decide)) (fig_not (dec_all m) (by decide)) (fig_not (dec_all m) (by decide)), num_small m hm]
/-- What is written. -/
def writeL (s : List UInt8) (m : Nat) : List UInt8 := [109, 111, 100, 117, 108, 101, 32] ++ s ++ [10, 10, 103, 111, 32] ++ (49 :: 46 :: Lib.decDigits m) ++ [10]
theorem back_plain {s : List UInt8} (h : pathL s = true) {m : Nat} (hm : m < 100) : readL (writeL s m) = (s, (m : Int), 0) := by
  have e : writeL s m = ([109, 111, 100, 117, 108, 101, 32] ++ s) ++ 10 :: ([] ++ 10 :: (([103, 111, 32] ++ (49 :: 46 :: Lib.decDigits m)) ++ 10 :: [])) := by simp [writeL]
  have hn : (10 : UInt8) ∉ [109, 111, 100, 117, 108, 101, 32] ++ s := by
    rw [List.mem_append]
    rintro (h1 | h1)
    · revert h1; decide
    · rcases path_sign h 10 h1 with h2 | h2 <;> revert h2 <;> decide
  have hl : linesOf (splitL 10 (writeL s m)) = [[[109, 111, 100, 117, 108, 101], s], [[103, 111], 49 :: 46 :: Lib.decDigits m]] := by
    rw [e, split_app, split_app, split_app, linesOf_app, linesOf_app, linesOf_app, split_no hn, linesOf_one, words_path h, go_line m hm]
    have h1 : linesOf (splitL 10 []) = [] := by decide +kernel
    rw [h1]
    rfl
  unfold readL
  rw [hl]
  simp [stepR, st0, h, minor_text m hm, path_ne h]
end Go.Proofs.YtgldnkpanimihaaDoor
