/-
  the document's Read: what a round does, plainly.
-/
import Derived.Test.YtgldnkpanimihaaDoorVrW
import Derived.Test.YtgldnkpanimihaaDoorVrL
namespace Go.Proofs.YtgldnkpanimihaaDoor.Rf
set_option linter.unusedSimpArgs false
set_option linter.unusedVariables false
open Go.RowKit

theorem words_short (line : List UInt8) : ∀ y ∈ wordsG line, y.length ≤ line.length := by
  intro y hy
  unfold wordsG at hy
  obtain ⟨z, hz, rfl⟩ := List.mem_map.1 hy
  unfold Lib.goFieldsP at hz
  obtain ⟨p, _, rfl⟩ := List.mem_map.1 hz
  have h1 := (cut_len line [47, 47]).1
  have h2 : (((⟨(Lib.cut line [47, 47]).1.toArray⟩ : ByteArray).extract p.1 p.2).data.toList).length ≤ (Lib.cut line [47, 47]).1.length := by
    rw [ByteArray.extract_mk]; simp; omega
  omega
def fin : Option St → List UInt8 × Int × Int
  | none => ([], 0, 7)
  | some s => if s.path = [] then ([], 0, 7) else (s.path, s.minor, 0)
def rdL (s : St) (l : List UInt8) : Option St := (linesOf (splitL 10 l)).foldlM stepR s
theorem read_fin (b : List UInt8) : readL b = fin (rdL st0 b) := by
  unfold readL fin rdL
  cases (linesOf (splitL 10 b)).foldlM stepR st0 <;> rfl
/-- One line. -/
def oneL (s : St) (line : List UInt8) : Option St := if wordsG line = [] then some s else stepR s (wordsG line)
theorem rd_one (s : St) (l : List UInt8) (h : (10 : UInt8) ∉ l) : rdL s l = oneL s l := by
  unfold rdL oneL
  rw [split_no h, linesOf_one]
  by_cases hw : wordsG l = []
  · rw [if_pos hw, hw]; rfl
  · rw [if_neg hw, if_neg (by simpa using hw)]
    simp [List.foldlM]
theorem rd_more (s : St) (l r : List UInt8) (h : (10 : UInt8) ∉ l) : rdL s (l ++ 10 :: r) = (oneL s l).bind fun s' => rdL s' r := by
  unfold rdL
  rw [split_app, linesOf_app, List.foldlM_append, ← rd_one s l h]
  rfl
/-- How far it has gone. -/
def Inv (b : List UInt8) (s : St) (k f : Nat) : Prop :=
  (k ≤ b.length ∧ f ≤ k ∧ (10 : UInt8) ∉ (b.drop f).take (k - f) ∧ readL b = fin (rdL s (b.drop f))) ∨ (k = b.length + 1 ∧ readL b = fin (some s))
theorem inv_start (b : List UInt8) : Inv b st0 0 0 := .inl ⟨by omega, by omega, by simp, read_fin b⟩
theorem inv_skip {b : List UInt8} {s : St} {k f : Nat} (h : Inv b s k f) (hk : k < b.length) (hc : b[k] ≠ 10) : Inv b s (k + 1) f := by
  rcases h with ⟨h1, h2, h3, h4⟩ | ⟨h1, _⟩
  · refine .inl ⟨by omega, by omega, ?_, h4⟩
    rw [show k + 1 - f = k - f + 1 by omega, List.take_add_one, List.getElem?_drop, show f + (k - f) = k by omega, List.getElem?_eq_getElem hk]
    simp only [Option.toList_some, List.mem_append, List.mem_singleton, not_or]
    exact ⟨h3, fun e => hc e.symm⟩
  · omega
theorem rest_at {b : List UInt8} {k f : Nat} (hf : f ≤ k) (hk : k < b.length) (hc : b[k] = 10) : b.drop f = (b.drop f).take (k - f) ++ 10 :: b.drop (k + 1) := by
  conv => lhs; rw [← List.take_append_drop (k - f) (b.drop f)]
  rw [List.drop_drop, show f + (k - f) = k by omega, drop_at hk, hc]
theorem inv_at {b : List UInt8} {s : St} {k f : Nat} (h : Inv b s k f) (hk : k ≤ b.length) (hc : ∀ h : k < b.length, b[k] = 10) :
    f ≤ k ∧ (∀ s', oneL s ((b.drop f).take (k - f)) = some s' → Inv b s' (k + 1) (k + 1)) ∧ (oneL s ((b.drop f).take (k - f)) = none → readL b = ([], 0, 7)) := by
  rcases h with ⟨h1, h2, h3, h4⟩ | ⟨h1, _⟩
  · by_cases hlt : k < b.length
    · have hr := rest_at h2 hlt (hc hlt)
      rw [hr, rd_more s _ _ h3] at h4
      refine ⟨h2, fun s' hs => .inl ⟨by omega, by omega, by simp, ?_⟩, fun hn => ?_⟩
      · rw [h4, hs]; rfl
      · rw [h4, hn]; rfl
    · have hr : (b.drop f).take (k - f) = b.drop f := List.take_of_length_le (by simp; omega)
      rw [hr] at h3 ⊢
      rw [rd_one s _ h3] at h4
      refine ⟨h2, fun s' hs => .inr ⟨by omega, ?_⟩, fun hn => ?_⟩
      · rw [h4, hs]
      · rw [h4, hn]; rfl
  · omega
theorem inv_end {b : List UInt8} {s : St} {k f : Nat} (h : Inv b s k f) (hk : b.length < k) : readL b = fin (some s) := by
  rcases h with ⟨h1, _⟩ | ⟨_, h2⟩
  · omega
  · exact h2
theorem inv_le {b : List UInt8} {s : St} {k f : Nat} (h : Inv b s k f) : k ≤ b.length + 1 := by
  rcases h with ⟨h1, _⟩ | ⟨h1, _⟩ <;> omega
theorem ext_line (b : List UInt8) (f k : Nat) : (⟨b.toArray⟩ : ByteArray).extract f k = ⟨((b.drop f).take (k - f)).toArray⟩ := by rw [ext_list, List.drop_take]
/-- How a line's words come. -/
theorem step_bad {s : St} {l : List (List UInt8)} (h : l.length ≠ 2) : stepR s l = none := by
  match l, h with
  | [], _ => rfl
  | [_], _ => rfl
  | [_, _], h => exact absurd rfl h
  | _ :: _ :: _ :: _, _ => rfl
theorem step_two (s : St) (x y : List UInt8) : stepR s [x, y] = if x = [109, 111, 100, 117, 108, 101] then (if s.path ≠ [] ∨ pathL y = false then none else some { s with path := y })
    else if x = [103, 111] then (if (minorG y).2 ≠ 0 ∨ s.many ≠ 0 then none else some { s with minor := (minorG y).1, many := 1 })
    else if x = [116, 111, 111, 108, 99, 104, 97, 105, 110] then some s else none := rfl
theorem step_mod (s : St) (y : List UInt8) : stepR s [[109, 111, 100, 117, 108, 101], y] = if s.path ≠ [] ∨ pathL y = false then none else some { s with path := y } := by rw [step_two, if_pos rfl]
theorem step_go (s : St) (y : List UInt8) : stepR s [[103, 111], y] = if (minorG y).2 ≠ 0 ∨ s.many ≠ 0 then none else some { s with minor := (minorG y).1, many := 1 } := by
  rw [step_two, if_neg (by decide), if_pos rfl]
theorem step_chain (s : St) (y : List UInt8) : stepR s [[116, 111, 111, 108, 99, 104, 97, 105, 110], y] = some s := by
  rw [step_two, if_neg (by decide), if_neg (by decide), if_pos rfl]
theorem step_other {s : St} {x y : List UInt8} (h1 : ¬ x = [109, 111, 100, 117, 108, 101]) (h2 : ¬ x = [103, 111]) (h3 : ¬ x = [116, 111, 111, 108, 99, 104, 97, 105, 110]) : stepR s [x, y] = none := by
  rw [step_two, if_neg h1, if_neg h2, if_neg h3]
end Go.Proofs.YtgldnkpanimihaaDoor.Rf
