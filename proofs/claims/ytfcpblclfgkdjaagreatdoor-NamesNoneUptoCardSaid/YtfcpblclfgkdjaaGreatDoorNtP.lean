/-
  names: what Called and Free make of a node, as plain functions; the map of bound names as data.
-/
import Derived.Test.YtfcpblclfgkdjaaGreatDoorNtS
import Derived.Maps.OwnIn
import Derived.Maps.OwnSet
import Derived.WideShapes
import Derived.ChangeMaps
namespace Go.Proofs.YtfcpblclfgkdjaaGreatDoor
set_option linter.unusedSimpArgs false
set_option linter.unusedVariables false
open Go.RowKit Go.Maps

/-- What a range binds. -/
def rn1 (s : List UInt8) : List UInt8 := s.takeWhile (fun c => !(c == 44))
def rn2 (s : List UInt8) : List UInt8 := (s.dropWhile (fun c => !(c == 44))).drop 1
/-- The names bound behind a statement. -/
def behind (b : List (List UInt8)) (x : Nd) : List (List UInt8) := if x.kind == 26 || x.kind == 5 then x.text :: b else b
def forB2 (b : List (List UInt8)) (x : Nd) : List (List UInt8) := if x.kind == 26 then x.text :: b else b
def prms (t : Nd) : List Nd := match t.kids with | s :: _ => (match s.kids with | x :: _ => x.kids | [] => []) | [] => []
def bindAll (b : List (List UInt8)) (l : List Nd) : List (List UInt8) := l.foldl (fun b p => p.text :: b) b
def blockP (g : List (List UInt8) → Nd → Nd) : List (List UInt8) → List Nd → List Nd
  | _, [] => []
  | b, x :: r => g b x :: blockP g (behind b x) r
def blockF (g : List (List UInt8) → Nd → List (List UInt8)) : List (List UInt8) → List Nd → List (List UInt8)
  | _, [] => []
  | b, x :: r => g b x ++ blockF g (behind b x) r
/-- The names bound behind so many statements. -/
def behindL (b : List (List UInt8)) (l : List Nd) : List (List UInt8) := l.foldl behind b

def Nd.with (t : Nd) (l : List Nd) : Nd := .mk t.kind t.text l t.pos
@[simp] theorem Nd.with_kind (t : Nd) (l : List Nd) : (t.with l).kind = t.kind := rfl
@[simp] theorem Nd.with_text (t : Nd) (l : List Nd) : (t.with l).text = t.text := rfl
@[simp] theorem Nd.with_kids (t : Nd) (l : List Nd) : (t.with l).kids = l := rfl
@[simp] theorem Nd.with_pos (t : Nd) (l : List Nd) : (t.with l).pos = t.pos := rfl
theorem Nd.with_self (t : Nd) : t.with t.kids = t := by cases t; rfl

/-- A node with what is done with free names. -/
def nodeP (f : Nd → Nd) : Nat → List (List UInt8) → Nd → Nd
  | 0, _, t => t
  | d + 1, b, t =>
    if t.kind = 18 then (if b.contains t.text then t else f t) else
    if t.kind = 36 then t.with (blockP (nodeP f d) b t.kids) else
    if t.kind = 25 then (match t.kids with | [s, x] => t.with [s, nodeP f d (bindAll b (prms t)) x] | _ => t) else
    if t.kind = 32 then (match t.kids with | [x, y] => t.with [nodeP f d b x, nodeP f d (rn2 t.text :: rn1 t.text :: b) y] | _ => t) else
    if t.kind = 31 then (match t.kids with | x :: r => t.with (nodeP f d b x :: r.map (nodeP f d (forB2 b x))) | [] => t) else
    t.with (t.kids.map (nodeP f d b))
/-- The free names of a node, in the order of the text. -/
def freeP : Nat → List (List UInt8) → Nd → List (List UInt8)
  | 0, _, _ => []
  | d + 1, b, t =>
    if t.kind = 18 then (if b.contains t.text then [] else [t.text]) else
    if t.kind = 36 then blockF (freeP d) b t.kids else
    if t.kind = 25 then (match t.kids with | [_, x] => freeP d (bindAll b (prms t)) x | _ => []) else
    if t.kind = 32 then (match t.kids with | [x, y] => freeP d b x ++ freeP d (rn2 t.text :: rn1 t.text :: b) y | _ => []) else
    if t.kind = 31 then (match t.kids with | x :: r => freeP d b x ++ r.flatMap (freeP d (forB2 b x)) | [] => []) else
    t.kids.flatMap (freeP d b)

theorem flat_le {f : Nd → List (List UInt8)} {g : Nd → List (Nd × Nat)} : ∀ {l : List Nd}, (∀ k, k ∈ l → (f k).length ≤ (g k).length) → (l.flatMap f).length ≤ (l.flatMap g).length
  | [], _ => by simp
  | x :: r, h => by
    rw [List.flatMap_cons, List.flatMap_cons, List.length_append, List.length_append]
    have h1 := h x (by simp)
    have h2 := flat_le (l := r) (f := f) (g := g) (fun k hk => h k (by simp [hk]))
    omega
theorem blockF_le {f : List (List UInt8) → Nd → List (List UInt8)} {g : Nd → List (Nd × Nat)} (h : ∀ b k, (f b k).length ≤ (g k).length) : ∀ (l : List Nd) (b : List (List UInt8)), (blockF f b l).length ≤ (l.flatMap g).length
  | [], _ => by simp [blockF]
  | x :: r, b => by
    rw [blockF, List.flatMap_cons, List.length_append, List.length_append]
    have h1 := h b x
    have h2 := blockF_le h r (behind b x)
    omega
theorem freeP_len : ∀ (d : Nat) (b : List (List UInt8)) (t : Nd), (freeP d b t).length ≤ (walkL d t).length
  | 0, _, _ => by simp [freeP]
  | d + 1, b, t => by
    have hw : (walkL (d + 1) t).length = (t.kids.flatMap (walkL d)).length + 1 := by rw [walkL, List.length_cons]
    rw [hw, freeP]
    split
    · split <;> simp
    split
    · have := blockF_le (f := freeP d) (g := walkL d) (fun b k => freeP_len d b k) t.kids b; omega
    split
    · split
      · rename_i s x e
        have h1 := freeP_len d (bindAll b (prms t)) x
        rw [e]
        simp only [List.flatMap_cons, List.flatMap_nil, List.append_nil, List.length_append]
        omega
      · simp
    split
    · split
      · rename_i x y e
        have h1 := freeP_len d b x
        have h2 := freeP_len d (rn2 t.text :: rn1 t.text :: b) y
        rw [e]
        simp only [List.flatMap_cons, List.flatMap_nil, List.append_nil, List.length_append]
        omega
      · simp
    split
    · split
      · rename_i x r e
        have h1 := freeP_len d b x
        have h2 := flat_le (l := r) (f := freeP d (forB2 b x)) (g := walkL d) (fun k _ => freeP_len d _ k)
        rw [e]
        simp only [List.flatMap_cons, List.length_append]
        omega
      · simp
    · have := flat_le (l := t.kids) (f := freeP d b) (g := walkL d) (fun k _ => freeP_len d b k); omega

/-- The map of bound names. -/
def bD : List (List UInt8) → DataW Unit
  | [] => .map []
  | x :: b => (bD b).put (.string x) (.lit (.bool true))
theorem bD_map : ∀ b, IsMap (bD b)
  | [] => ⟨_, rfl⟩
  | x :: b => by obtain ⟨es, h⟩ := bD_map b; rw [bD, h]; exact ⟨_, rfl⟩
theorem bD_at : ∀ (b : List (List UInt8)) (s : List UInt8), (bD b).atKey (.string s) (.lit (.bool false)) = .lit (.bool (b.contains s))
  | [], s => rfl
  | x :: b, s => by
    rw [bD]
    by_cases e : s = x
    · subst e
      rw [atKey_put_same (bD_map b) (by simp [WideAt.IsKeyLit])]
      simp
    · rw [atKey_put_other (by simpa using e), bD_at b s]
      simp [e]
theorem behind_len (b : List (List UInt8)) (x : Nd) : (behind b x).length ≤ b.length + 1 := by unfold behind; split <;> simp
theorem behindL_len : ∀ (l : List Nd) (b : List (List UInt8)), (behindL b l).length ≤ b.length + l.length
  | [], b => by simp [behindL]
  | x :: r, b => by
    have h1 := behindL_len r (behind b x)
    have h2 := behind_len b x
    have e : behindL b (x :: r) = behindL (behind b x) r := rfl
    rw [e, List.length_cons]; omega
theorem behindL_take {l : List Nd} {k : Nat} (h : k < l.length) (b : List (List UInt8)) : behindL b (l.take (k + 1)) = behind (behindL b (l.take k)) l[k] := by
  rw [List.take_succ_eq_append_getElem h, behindL, behindL, List.foldl_append]; rfl
theorem blockP_app (g : List (List UInt8) → Nd → Nd) : ∀ (l : List Nd) (b : List (List UInt8)) (x : Nd), blockP g b (l ++ [x]) = blockP g b l ++ [g (behindL b l) x]
  | [], b, x => rfl
  | y :: l, b, x => by rw [List.cons_append, blockP, blockP_app g l, blockP, List.cons_append]; rfl
theorem blockF_app (g : List (List UInt8) → Nd → List (List UInt8)) : ∀ (l : List Nd) (b : List (List UInt8)) (x : Nd), blockF g b (l ++ [x]) = blockF g b l ++ g (behindL b l) x
  | [], b, x => by simp [blockF, behindL]
  | y :: l, b, x => by rw [List.cons_append, blockF, blockF_app g l, blockF, List.append_assoc]; rfl
theorem blockP_take {g : List (List UInt8) → Nd → Nd} {l : List Nd} {k : Nat} (h : k < l.length) (b : List (List UInt8)) : blockP g b (l.take (k + 1)) = blockP g b (l.take k) ++ [g (behindL b (l.take k)) l[k]] := by
  rw [List.take_succ_eq_append_getElem h, blockP_app]
theorem blockF_take {g : List (List UInt8) → Nd → List (List UInt8)} {l : List Nd} {k : Nat} (h : k < l.length) (b : List (List UInt8)) : blockF g b (l.take (k + 1)) = blockF g b (l.take k) ++ g (behindL b (l.take k)) l[k] := by
  rw [List.take_succ_eq_append_getElem h, blockF_app]
theorem blockP_len (g : List (List UInt8) → Nd → Nd) : ∀ (l : List Nd) (b : List (List UInt8)), (blockP g b l).length = l.length
  | [], _ => rfl
  | x :: r, b => by rw [blockP, List.length_cons, blockP_len g r, List.length_cons]
theorem bindAll_len : ∀ (l : List Nd) (b : List (List UInt8)), (bindAll b l).length = b.length + l.length
  | [], b => by simp [bindAll]
  | x :: r, b => by
    have e : bindAll b (x :: r) = bindAll (x.text :: b) r := rfl
    rw [e, bindAll_len r, List.length_cons, List.length_cons]; omega
theorem bindAll_take {l : List Nd} {k : Nat} (h : k < l.length) (b : List (List UInt8)) : bindAll b (l.take (k + 1)) = l[k].text :: bindAll b (l.take k) := by
  rw [List.take_succ_eq_append_getElem h, bindAll, bindAll, List.foldl_append]; rfl
end Go.Proofs.YtfcpblclfgkdjaaGreatDoor
