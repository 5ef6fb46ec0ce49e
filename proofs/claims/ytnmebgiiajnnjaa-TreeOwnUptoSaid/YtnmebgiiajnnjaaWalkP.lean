/-
  how deep, what is in a node: plain laws
-/
import Derived.Test.YtnmebgiiajnnjaaIterE
namespace Go.Proofs.Ytnmebgiiajnnjaa
set_option linter.unusedSimpArgs false
set_option linter.unusedVariables false
open Go.RowKit

def dp (m : Int) (l : List (Nd × Nat)) : Int := l.foldl (fun m x => max m (wrap64 (102 - x.2))) m

theorem dp_kids (d : Nat) (ih : ∀ (t : Nd) (m : Int), (101 - d : Int) ≤ m → dp m (walkL d t) = max m (101 - d + min (t.height : Int) d)) :
    ∀ (l : List Nd) (m : Int), (101 - d : Int) ≤ m → dp m (l.flatMap (walkL d)) = max m (101 - d + min (Nd.heights l : Int) d)
  | [], m, hm => by simp [dp, Nd.heights]; omega
  | t :: ts, m, hm => by
    have h1 := ih t m hm
    have h2 := dp_kids d ih ts (dp m (walkL d t)) (by rw [h1]; omega)
    rw [List.flatMap_cons]
    unfold dp at h1 h2 ⊢
    rw [List.foldl_append, h2, h1, Nd.heights]
    omega

theorem dp_walk : ∀ (d : Nat), d ≤ 101 → ∀ (t : Nd) (m : Int), (101 - d : Int) ≤ m → dp m (walkL d t) = max m (101 - d + min (t.height : Int) d)
  | 0, _, t, m, hm => by simp [walkL, dp]; omega
  | d + 1, hd, t, m, hm => by
    have h := dp_kids d (dp_walk d (by omega)) t.kids (max m (101 - d)) (by omega)
    have e : wrap64 (102 - ((d + 1 : Nat) : Int)) = 101 - d := by unfold wrap64; omega
    rw [walkL]
    unfold dp at h ⊢
    rw [List.foldl_cons, e, h, Nd.height_eq t]
    push_cast at hm ⊢
    omega

theorem deepest_walk (t : Nd) : deepest (walkL 101 t) = min (t.height : Int) 101 := by
  have := dp_walk 101 (by omega) t 0 (by omega)
  have e : deepest (walkL 101 t) = dp 0 (walkL 101 t) := rfl
  rw [e, this]
  omega

/-- What is in a node, without the depth that is left. -/
def nodesL (d : Nat) (t : Nd) : List Nd := (walkL d t).map (·.1)
theorem nodesL_zero (t : Nd) : nodesL 0 t = [] := rfl
theorem nodesL_succ (d : Nat) (t : Nd) : nodesL (d + 1) t = t :: t.kids.flatMap (nodesL d) := by
  simp [nodesL, walkL, List.map_flatMap]
  rfl
theorem nodesL_len (d : Nat) (t : Nd) : (nodesL d t).length = (walkL d t).length := by simp [nodesL]
theorem flatMap_same {α β : Type} {l : List α} {f g : α → List β} (h : ∀ x, x ∈ l → f x = g x) : l.flatMap f = l.flatMap g := by
  induction l with
  | nil => rfl
  | cons x r ih => rw [List.flatMap_cons, List.flatMap_cons, h x (by simp), ih (fun y hy => h y (by simp [hy]))]
/-- A depth beyond the height tells no more. -/
theorem nodesL_deep : ∀ (d d' : Nat) (t : Nd), t.height ≤ d → t.height ≤ d' → nodesL d t = nodesL d' t
  | 0, _, t, h, _ => by have := Nd.height_eq t; omega
  | _ + 1, 0, t, _, h => by have := Nd.height_eq t; omega
  | d + 1, d' + 1, t, h, h' => by
    rw [nodesL_succ, nodesL_succ]
    congr 1
    exact flatMap_same (fun k hk => by have := Nd.height_kid hk; exact nodesL_deep d d' k (by omega) (by omega))
end Go.Proofs.Ytnmebgiiajnnjaa
