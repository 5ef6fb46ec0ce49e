/-
  tag: not, both, one: as they hold. Plain. And: three calls of a region that draws its order, in whatever order.
-/
import Derived.Deep.RegionHeld3
import Derived.Test.YtagaoilgnhdebaaDoorTgLc
namespace Go.Proofs.YtagaoilgnhdebaaDoor
set_option linter.unusedSimpArgs false
set_option linter.unusedVariables false
open Go.RowKit

theorem right_up : ∀ (n : Nat) (t : Xp), rightX n t = true → rightX (n + 1) t = true
  | 0, t, h => by cases h
  | n + 1, t, h => by
    have ih := right_up n
    rcases right_cases h with ⟨s, rfl, hs⟩ | ⟨k, rfl, hk⟩ | ⟨l, rfl, hl, hk⟩ | ⟨l, rfl, hl, hk⟩
    · rw [rightX_mk']; simp [hs]
    · rw [rightX_mk']; simp [ih k hk]
    · rw [rightX_mk']
      simp only [List.cons_ne_nil, if_false, true_or, if_true]
      rw [if_neg (by decide)]
      simp only [List.isEmpty_nil, Bool.true_and, Bool.and_eq_true, decide_eq_true_eq, List.all_eq_true]
      exact ⟨hl, fun k hkm => ih k (hk k hkm)⟩
    · rw [rightX_mk']
      simp only [List.cons_ne_nil, if_false, or_true, if_true]
      rw [if_neg (by decide)]
      simp only [List.isEmpty_nil, Bool.true_and, Bool.and_eq_true, decide_eq_true_eq, List.all_eq_true]
      exact ⟨hl, fun k hkm => ih k (hk k hkm)⟩
theorem holds_fuel (T : List (List UInt8)) : ∀ (n : Nat) (t : Xp), rightX n t = true → holdsX T (n + 1) t = holdsX T n t
  | 0, t, h => by cases h
  | n + 1, t, h => by
    have ih := holds_fuel T n
    rcases right_cases h with ⟨s, rfl, hs⟩ | ⟨k, rfl, hk⟩ | ⟨l, rfl, hl, hk⟩ | ⟨l, rfl, hl, hk⟩
    · rw [holdsX_mk, holdsX_mk]; simp
    · rw [holdsX_mk, holdsX_mk, if_pos rfl, if_pos rfl]; simp [ih k hk]
    · rw [holdsX_mk, holdsX_mk, if_neg (by decide), if_pos rfl, if_neg (by decide), if_pos rfl]
      exact all_congr fun k hkm => ih k (hk k hkm)
    · rw [holdsX_mk, holdsX_mk, if_neg (by decide), if_neg (by decide), if_pos rfl, if_neg (by decide), if_neg (by decide), if_pos rfl]
      exact any_congr fun k hkm => ih k (hk k hkm)
theorem least_fuel : ∀ (n : Nat) (t : Xp), rightX n t = true → leastX (n + 1) t = leastX n t
  | 0, t, h => by cases h
  | n + 1, t, h => by
    have ih := least_fuel n
    rcases right_cases h with ⟨s, rfl, hs⟩ | ⟨k, rfl, hk⟩ | ⟨l, rfl, hl, hk⟩ | ⟨l, rfl, hl, hk⟩
    · rw [leastX_mk, leastX_mk, if_pos rfl, if_pos rfl]
    · rw [leastX_mk, leastX_mk, if_neg (by decide), if_neg (by decide), if_neg (by decide), if_neg (by decide), if_neg (by decide), if_neg (by decide)]
    · rw [leastX_mk, leastX_mk, if_neg (by decide), if_pos rfl, if_neg (by decide), if_pos rfl, List.map_congr_left fun k hkm => ih k (hk k hkm)]
    · rw [leastX_mk, leastX_mk, if_neg (by decide), if_neg (by decide), if_pos rfl, if_neg (by decide), if_neg (by decide), if_pos rfl, List.map_congr_left fun k hkm => ih k (hk k hkm)]

def notX (x : Xp) : Xp := .mk [33] [] [x]
def bothX (x y : Xp) : Xp := .mk [38, 38] [] [x, y]
def oneX (x y : Xp) : Xp := .mk [124, 124] [] [x, y]
theorem right_not_iff (x : Xp) : rightX 100 (notX x) = rightX 99 x := by
  show rightX (99 + 1) (.mk [33] [] [x]) = _
  rw [rightX_mk', if_neg (by decide), if_pos rfl]; simp
theorem right_both_iff (x y : Xp) : rightX 100 (bothX x y) = (rightX 99 x && rightX 99 y) := by
  show rightX (99 + 1) (.mk [38, 38] [] [x, y]) = _
  rw [rightX_mk', if_neg (by decide), if_neg (by decide), if_pos (.inl rfl)]; simp
theorem turn_plain {x y : Xp} (T : List (List UInt8)) (h1 : rightX 100 (notX x) = true) (h2 : rightX 100 (bothX x y) = true) (h3 : rightX 100 (oneX x y) = true) :
    holdsR T (notX x) = !(holdsR T x) ∧ holdsR T (bothX x y) = (holdsR T x && holdsR T y) ∧ holdsR T (oneX x y) = (holdsR T x || holdsR T y) ∧
    leastR (bothX x y) = max (leastR x) (leastR y) ∧ leastR (oneX x y) = min (leastR x) (leastR y) ∧ leastR (notX x) = -1 := by
  have hx := h1
  rw [right_not_iff] at hx
  have hxy := h2
  rw [right_both_iff, Bool.and_eq_true] at hxy
  have hy := hxy.2
  have hx1 := right_up 99 x hx
  have hy1 := right_up 99 y hy
  have ex := holds_fuel T 99 x hx
  have ey := holds_fuel T 99 y hy
  have lx := least_fuel 99 x hx
  have ly := least_fuel 99 y hy
  unfold holdsR leastR
  rw [h1, h2, h3, hx1, hy1]
  simp only [Bool.true_and, if_true]
  rw [ex, ey, lx, ly]
  refine ⟨?_, ?_, ?_, ?_, ?_, ?_⟩
  · show holdsX T (99 + 1) (.mk [33] [] [x]) = _
    rw [holdsX_mk, if_pos rfl]; rfl
  · show holdsX T (99 + 1) (.mk [38, 38] [] [x, y]) = _
    rw [holdsX_mk, if_neg (by decide), if_pos rfl]; simp
  · show holdsX T (99 + 1) (.mk [124, 124] [] [x, y]) = _
    rw [holdsX_mk, if_neg (by decide), if_neg (by decide), if_pos rfl]; simp
  · show leastX (99 + 1) (.mk [38, 38] [] [x, y]) = _
    rw [leastX_mk, if_neg (by decide), if_pos rfl]; simp [maxL]
  · show leastX (99 + 1) (.mk [124, 124] [] [x, y]) = _
    rw [leastX_mk, if_neg (by decide), if_neg (by decide), if_pos rfl]; simp [minL]
  · show leastX (99 + 1) (.mk [33] [] [x]) = _
    rw [leastX_mk, if_neg (by decide), if_neg (by decide), if_neg (by decide)]

/-! Three calls, in whatever order. -/
section
variable {P : Program} {ops : Array Oper} {Q : Exit → Act → World → Prop} {md : Region.Mode} {S : World → Prop}
/-- At a, in whatever world of S, the operation o hands back v and leaves a world of S. -/
def StepS (P : Program) (ops : Array Oper) (Q : Exit → Act → World → Prop) (S : World → Prop) (o : Oper) (v : Value) (a : Act) : Prop :=
  ∀ W, S W → ∀ K : Act → World → Prop, Hid (∀ W', S W' → K (a.put o.dst v) W') → if Region.wanted o (yielded ops a.tmps) = true then Oper.wp P o a W K Q else K (a.put o.dst undef) W
theorem StepS.wpOp {i : Nat} {o : Oper} {v : Value} {a : Act} {W : World} {K : Act → World → Prop} (h : StepS P ops Q S o v a) (ho : ops[i]? = some o) (hS : S W) (hK : ∀ W', S W' → K (a.put o.dst v) W') : wpOp P ops Q i K a W :=
  wpOp_step ho (fun K' hSh => h W hS K' (Lib.hid fun W' hS' => hSh _ _ (hK W' hS')))
theorem put_comm {a : Act} {d1 d2 : Nat} (h : d1 ≠ d2) (v1 v2 : Value) : (a.put (some d1) v1).put (some d2) v2 = (a.put (some d2) v2).put (some d1) v1 := by
  simp only [Act.put]
  rw [Array.setIfInBounds_comm _ _ h]
theorem group3 {i j k di dj dk : Nat} {oi oj ok : Oper} {vi vj vk : Value} {fuel : Nat} {l : Array Bool} {a : Act} {W : World} (hi : ops[i]? = some oi) (hj : ops[j]? = some oj) (hk : ops[k]? = some ok)
    (ei : oi.dst = some di) (ej : oj.dst = some dj) (ek : ok.dst = some dk) (nij : di ≠ dj) (nik : di ≠ dk) (njk : dj ≠ dk) (mij : i ≠ j) (mik : i ≠ k) (mjk : j ≠ k)
    (hr : Region.ready md ops l = [i, j, k]) (ri : Region.ready md ops (l.setIfInBounds i true) = [j, k]) (rj : Region.ready md ops (l.setIfInBounds j true) = [i, k]) (rk : Region.ready md ops (l.setIfInBounds k true) = [i, j])
    (rij : Region.ready md ops ((l.setIfInBounds i true).setIfInBounds j true) = [k]) (rik : Region.ready md ops ((l.setIfInBounds i true).setIfInBounds k true) = [j]) (rjk : Region.ready md ops ((l.setIfInBounds j true).setIfInBounds k true) = [i])
    (si : StepS P ops Q S oi vi a) (sj : StepS P ops Q S oj vj a) (sk : StepS P ops Q S ok vk a)
    (sij : StepS P ops Q S oj vj (a.put (some di) vi)) (sik : StepS P ops Q S ok vk (a.put (some di) vi)) (sji : StepS P ops Q S oi vi (a.put (some dj) vj)) (sjk : StepS P ops Q S ok vk (a.put (some dj) vj)) (ski : StepS P ops Q S oi vi (a.put (some dk) vk)) (skj : StepS P ops Q S oj vj (a.put (some dk) vk))
    (sijk : StepS P ops Q S ok vk ((a.put (some di) vi).put (some dj) vj)) (sikj : StepS P ops Q S oj vj ((a.put (some di) vi).put (some dk) vk)) (sjki : StepS P ops Q S oi vi ((a.put (some dj) vj).put (some dk) vk))
    (hS : S W) (hrest : ∀ W', S W' → wpAnyH P md ops Q S fuel (((l.setIfInBounds i true).setIfInBounds j true).setIfInBounds k true) (((a.put (some di) vi).put (some dj) vj).put (some dk) vk) W') :
    wpAnyH P md ops Q S (fuel + 3) l a W := by
  have n0 : ∀ {x : Nat} {r : List Nat}, ¬ (x :: r = ([] : List Nat)) := fun h => by cases h
  have lji : (l.setIfInBounds j true).setIfInBounds i true = (l.setIfInBounds i true).setIfInBounds j true := Array.setIfInBounds_comm _ _ (Ne.symm mij)
  have lki : (l.setIfInBounds k true).setIfInBounds i true = (l.setIfInBounds i true).setIfInBounds k true := Array.setIfInBounds_comm _ _ (Ne.symm mik)
  have lkj : (l.setIfInBounds k true).setIfInBounds j true = (l.setIfInBounds j true).setIfInBounds k true := Array.setIfInBounds_comm _ _ (Ne.symm mjk)
  have pji : (a.put (some dj) vj).put (some di) vi = (a.put (some di) vi).put (some dj) vj := put_comm (Ne.symm nij) _ _
  have pki : (a.put (some dk) vk).put (some di) vi = (a.put (some di) vi).put (some dk) vk := put_comm (Ne.symm nik) _ _
  have pkj : (a.put (some dk) vk).put (some dj) vj = (a.put (some dj) vj).put (some dk) vk := put_comm (Ne.symm njk) _ _
  have lend1 : ((l.setIfInBounds i true).setIfInBounds k true).setIfInBounds j true = ((l.setIfInBounds i true).setIfInBounds j true).setIfInBounds k true := Array.setIfInBounds_comm _ _ (Ne.symm mjk)
  have lend2 : ((l.setIfInBounds j true).setIfInBounds k true).setIfInBounds i true = ((l.setIfInBounds i true).setIfInBounds j true).setIfInBounds k true := by
    rw [Array.setIfInBounds_comm _ _ (Ne.symm mik), lji]
  have pend1 : ((a.put (some di) vi).put (some dk) vk).put (some dj) vj = ((a.put (some di) vi).put (some dj) vj).put (some dk) vk := put_comm (Ne.symm njk) _ _
  have pend2 : ((a.put (some dj) vj).put (some dk) vk).put (some di) vi = ((a.put (some di) vi).put (some dj) vj).put (some dk) vk := by
    rw [put_comm (Ne.symm nik), pji]
  have fij : ∀ W', S W' → wpAnyH P md ops Q S (fuel + 1) ((l.setIfInBounds i true).setIfInBounds j true) ((a.put (some di) vi).put (some dj) vj) W' := fun W' hS' =>
    ⟨fun h => absurd (rij ▸ h) n0, fun m hm => by
      rw [rij, List.mem_singleton] at hm; subst hm
      exact sijk.wpOp hk hS' (fun W2 h2 => ⟨h2, by rw [ek]; exact hrest W2 h2⟩)⟩
  have fik : ∀ W', S W' → wpAnyH P md ops Q S (fuel + 1) ((l.setIfInBounds i true).setIfInBounds k true) ((a.put (some di) vi).put (some dk) vk) W' := fun W' hS' =>
    ⟨fun h => absurd (rik ▸ h) n0, fun m hm => by
      rw [rik, List.mem_singleton] at hm; subst hm
      exact sikj.wpOp hj hS' (fun W2 h2 => ⟨h2, by rw [ej, lend1, pend1]; exact hrest W2 h2⟩)⟩
  have fjk : ∀ W', S W' → wpAnyH P md ops Q S (fuel + 1) ((l.setIfInBounds j true).setIfInBounds k true) ((a.put (some dj) vj).put (some dk) vk) W' := fun W' hS' =>
    ⟨fun h => absurd (rjk ▸ h) n0, fun m hm => by
      rw [rjk, List.mem_singleton] at hm; subst hm
      exact sjki.wpOp hi hS' (fun W2 h2 => ⟨h2, by rw [ei, lend2, pend2]; exact hrest W2 h2⟩)⟩
  refine ⟨fun h => absurd (hr ▸ h) n0, fun m hm => ?_⟩
  rw [hr] at hm
  simp only [List.mem_cons, List.not_mem_nil, or_false] at hm
  rcases hm with rfl | rfl | rfl
  · refine si.wpOp hi hS (fun W1 h1 => ⟨h1, fun h => absurd (ri ▸ h) n0, fun m hm => ?_⟩)
    rw [ri] at hm
    simp only [List.mem_cons, List.not_mem_nil, or_false] at hm
    rw [ei]
    rcases hm with rfl | rfl
    · exact sij.wpOp hj h1 (fun W2 h2 => ⟨h2, by rw [ej]; exact fij W2 h2⟩)
    · exact sik.wpOp hk h1 (fun W2 h2 => ⟨h2, by rw [ek]; exact fik W2 h2⟩)
  · refine sj.wpOp hj hS (fun W1 h1 => ⟨h1, fun h => absurd (rj ▸ h) n0, fun m hm => ?_⟩)
    rw [rj] at hm
    simp only [List.mem_cons, List.not_mem_nil, or_false] at hm
    rw [ej]
    rcases hm with rfl | rfl
    · exact sji.wpOp hi h1 (fun W2 h2 => ⟨h2, by rw [ei, lji, pji]; exact fij W2 h2⟩)
    · exact sjk.wpOp hk h1 (fun W2 h2 => ⟨h2, by rw [ek]; exact fjk W2 h2⟩)
  · refine sk.wpOp hk hS (fun W1 h1 => ⟨h1, fun h => absurd (rk ▸ h) n0, fun m hm => ?_⟩)
    rw [rk] at hm
    simp only [List.mem_cons, List.not_mem_nil, or_false] at hm
    rw [ek]
    rcases hm with rfl | rfl
    · exact ski.wpOp hi h1 (fun W2 h2 => ⟨h2, by rw [ei, lki, pki]; exact fik W2 h2⟩)
    · exact skj.wpOp hj h1 (fun W2 h2 => ⟨h2, by rw [ej, lkj, pkj]; exact fjk W2 h2⟩)
end
end Go.Proofs.YtagaoilgnhdebaaDoor
