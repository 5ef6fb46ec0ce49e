/-
  names: a node called otherwise has the shape that it had; what the law NamesTurn asks of it (plain).
-/
import Derived.Test.YtfcpblclfgkdjaaGreatDoorNtQ
namespace Go.Proofs.YtfcpblclfgkdjaaGreatDoor
set_option linter.unusedSimpArgs false
set_option linter.unusedVariables false
open Go.RowKit

mutual
/-- A node without its texts. -/
def Nd.strip : Nd → Nd
  | .mk k _ l p => .mk k [] (Nd.strips l) p
def Nd.strips : List Nd → List Nd
  | [] => []
  | x :: r => Nd.strip x :: Nd.strips r
end
theorem Nd.strips_eq : ∀ l : List Nd, Nd.strips l = l.map Nd.strip
  | [] => by rw [Nd.strips]; rfl
  | x :: r => by rw [Nd.strips, Nd.strips_eq r]; rfl
theorem Nd.strip_eq (t : Nd) : t.strip = .mk t.kind [] (t.kids.map Nd.strip) t.pos := by
  cases t with
  | mk k s l p => rw [Nd.strip, Nd.strips_eq]; rfl
theorem Nd.strip_kind (t : Nd) : t.strip.kind = t.kind := by rw [Nd.strip_eq]; rfl
theorem Nd.strip_kids (t : Nd) : t.strip.kids = t.kids.map Nd.strip := by rw [Nd.strip_eq]; rfl
theorem strip_with (t : Nd) {l : List Nd} (h : l.map Nd.strip = t.kids.map Nd.strip) : (t.with l).strip = t.strip := by
  rw [Nd.strip_eq, Nd.strip_eq t]
  show Nd.mk t.kind [] (l.map Nd.strip) t.pos = _
  rw [h]
theorem strip_ren (s u : List UInt8) (t : Nd) : (ren s u t).strip = t.strip := by
  rw [Nd.strip_eq, Nd.strip_eq t, ren_kind, ren_kids]
  unfold ren
  split <;> rfl
theorem strip_block {f : Nd → Nd} {d : Nat} (ih : ∀ (b : List (List UInt8)) (t : Nd), (nodeP f d b t).strip = t.strip) : ∀ (l : List Nd) (b : List (List UInt8)), (blockP (nodeP f d) b l).map Nd.strip = l.map Nd.strip
  | [], _ => rfl
  | x :: r, b => by rw [blockP, List.map_cons, List.map_cons, ih, strip_block ih r]
theorem strip_map {h : Nd → Nd} {l : List Nd} (H : ∀ k, (h k).strip = k.strip) : (l.map h).map Nd.strip = l.map Nd.strip := by
  rw [List.map_map]
  exact List.map_congr_left (fun k _ => H k)
theorem strip_node {f : Nd → Nd} (hf : ∀ t, (f t).strip = t.strip) : ∀ (d : Nat) (b : List (List UInt8)) (t : Nd), (nodeP f d b t).strip = t.strip
  | 0, _, _ => rfl
  | d + 1, b, t => by
    have ih := strip_node hf d
    rw [nodeP]
    split
    · split
      · rfl
      · exact hf t
    split
    · exact strip_with t (strip_block ih t.kids b)
    split
    · split
      · rename_i g x e; exact strip_with t (by rw [e]; simp [ih])
      · rfl
    split
    · split
      · rename_i g x e; exact strip_with t (by rw [e]; simp [ih])
      · rfl
    split
    · split
      · rename_i x r e; exact strip_with t (by rw [e, List.map_cons, List.map_cons, ih, strip_map (ih _)])
      · rfl
    · exact strip_with t (strip_map (ih _))

theorem heights_of : ∀ {l m : List Nd}, (∀ k, k ∈ l → k.height = k.strip.height) → m = l.map Nd.strip → Nd.heights m = Nd.heights l
  | [], m, _, h => by rw [h]; rfl
  | x :: r, m, hk, h => by
    rw [h, List.map_cons, Nd.heights, Nd.heights, ← hk x (by simp), heights_of (l := r) (fun k hk' => hk k (by simp [hk'])) rfl]
theorem strip_height : ∀ t : Nd, t.height = t.strip.height := Nd.ind (fun t ih => by
  rw [Nd.height_eq t, Nd.height_eq t.strip, Nd.strip_kids, heights_of ih rfl])
theorem same_height {x y : Nd} (h : x.strip = y.strip) : x.height = y.height := by rw [strip_height x, strip_height y, h]
theorem flat_len {α : Type} {f g : Nd → List α} {l : List Nd} (H : ∀ k, (f k).length = (g k).length) : (l.flatMap f).length = (l.flatMap g).length := by
  induction l with
  | nil => rfl
  | cons x r ih => rw [List.flatMap_cons, List.flatMap_cons, List.length_append, List.length_append, H, ih]
theorem strip_walk : ∀ (d : Nat) (t : Nd), (walkL d t.strip).length = (walkL d t).length
  | 0, _ => rfl
  | d + 1, t => by
    rw [walkL, walkL, List.length_cons, List.length_cons, Nd.strip_kids, List.flatMap_map, flat_len (g := walkL d) (fun k => strip_walk d k)]
theorem rows_walk (d : Nat) {l m : List Nd} (h : l.map Nd.strip = m.map Nd.strip) : (l.flatMap (walkL d)).length = (m.flatMap (walkL d)).length := by
  have e : ∀ q : List Nd, (q.flatMap (walkL d)).length = ((q.map Nd.strip).flatMap (walkL d)).length := fun q => by
    rw [List.flatMap_map]; exact flat_len (fun k => (strip_walk d k).symm)
  rw [e l, h, ← e m]
theorem strip_nodes : ∀ (d : Nat) (t : Nd), nodesL d t.strip = (nodesL d t).map Nd.strip
  | 0, _ => rfl
  | d + 1, t => by
    rw [nodesL_succ, nodesL_succ, List.map_cons, Nd.strip_kids, List.flatMap_map, List.map_flatMap]
    congr 1
    have : (fun k : Nd => nodesL d k.strip) = fun k => (nodesL d k).map Nd.strip := funext (fun k => strip_nodes d k)
    exact congrArg (fun g => t.kids.flatMap g) this
theorem map_two {l : List Nd} {a b : Nd} (h : l.map Nd.strip = [a, b]) : ∃ x y, l = [x, y] ∧ x.strip = a ∧ y.strip = b := by
  match l, h with
  | [x, y], h =>
    simp at h
    exact ⟨x, y, rfl, h.1, h.2⟩
theorem map_one {l : List Nd} {a : Nd} {r : List Nd} (h : l.map Nd.strip = a :: r) : ∃ x q, l = x :: q ∧ x.strip = a ∧ q.map Nd.strip = r := by
  match l, h with
  | x :: q, h =>
    simp at h
    exact ⟨x, q, rfl, h.1, h.2⟩
theorem loc_strip {x y : Nd} (h : x.strip = y.strip) (hy : Loc y) : Loc x := by
  have hk : x.kind = y.kind := by rw [← Nd.strip_kind x, ← Nd.strip_kind y, h]
  have hl : x.kids.map Nd.strip = y.kids.map Nd.strip := by rw [← Nd.strip_kids, ← Nd.strip_kids, h]
  refine ⟨fun e => ?_, fun e => ?_, fun e => ?_⟩
  · obtain ⟨s, b, x0, r, e1, e2⟩ := hy.1 (by rw [← hk]; exact e)
    rw [e1] at hl
    obtain ⟨s', b', e3, e4, -⟩ := map_two hl
    have e5 : s'.kids.map Nd.strip = s.kids.map Nd.strip := by rw [← Nd.strip_kids, ← Nd.strip_kids, e4]
    rw [e2] at e5
    obtain ⟨x1, q, e6, -, -⟩ := map_one e5
    exact ⟨s', b', x1, q, e3, e6⟩
  · obtain ⟨x0, q, r, e1⟩ := hy.2.1 (by rw [← hk]; exact e)
    rw [e1] at hl
    obtain ⟨a, q', e2, -, e3⟩ := map_one hl
    obtain ⟨b, q'', e4, -, -⟩ := map_one e3
    exact ⟨a, b, q'', by rw [e2, e4]⟩
  · obtain ⟨x0, b, e1⟩ := hy.2.2 (by rw [← hk]; exact e)
    rw [e1] at hl
    obtain ⟨a, b', e2, -, -⟩ := map_two hl
    exact ⟨a, b', e2⟩
theorem inLoc_strip {x y : Nd} (h : x.strip = y.strip) (hy : InAll Loc y) : InAll Loc x := fun d z hz => by
  have h1 : z.strip ∈ nodesL d x.strip := by rw [strip_nodes]; exact List.mem_map_of_mem hz
  rw [h, strip_nodes] at h1
  obtain ⟨z', hz', e⟩ := List.mem_map.1 h1
  exact loc_strip e.symm (hy d z' hz')
/-- What is in a row of the same shape. -/
theorem row_shape {l m : List Nd} (h : l.map Nd.strip = m.map Nd.strip) (hl : ∀ k, k ∈ m → InAll Loc k ∧ k.height ≤ 100) : ∀ k, k ∈ l → InAll Loc k ∧ k.height ≤ 100 := fun k hk => by
  have h1 : k.strip ∈ m.map Nd.strip := by rw [← h]; exact List.mem_map_of_mem hk
  obtain ⟨k', hk', e⟩ := List.mem_map.1 h1
  have h2 := hl k' hk'
  exact ⟨inLoc_strip e.symm h2.1, by rw [same_height e.symm]; exact h2.2⟩

theorem eqL_refl' {f : Nd → Nd → Bool} : ∀ {l : List Nd}, (∀ k, k ∈ l → f k k = true) → eqL f l l = true
  | [], _ => by simp [eqL]
  | x :: r, h => by
    rw [eqL, h x (by simp), eqL_refl' (fun k hk => h k (by simp [hk]))]; rfl
theorem sameB_self : ∀ (d : Nat) (t : Nd), t.height ≤ d → sameB d t t = true
  | 0, t, h => by have := Nd.height_eq t; omega
  | d + 1, t, h => by
    rw [sameB, eqL_refl' (fun k hk => sameB_self d k (by have := Nd.height_kid hk; omega))]; simp

/-- Is a text among those of the first k? -/
def isIn (N : List (List UInt8)) (k : Nat) (s : List UInt8) : Bool := (N.take k).any (fun x => x == s)
theorem isIn_succ (N : List (List UInt8)) (k : Nat) (s : List UInt8) (h : k < N.length) : isIn N (k + 1) s = (isIn N k s || N[k] == s) := by
  unfold isIn
  rw [List.take_succ_eq_append_getElem h, List.any_append]; simp
theorem isIn_all (N : List (List UInt8)) (s : List UInt8) : isIn N N.length s = decide (s ∈ N) := by
  unfold isIn
  rw [List.take_length, Bool.eq_iff_iff, List.any_eq_true, decide_eq_true_iff]
  constructor
  · rintro ⟨x, hx, e⟩
    have : x = s := by simpa using e
    rw [← this]; exact hx
  · intro h; exact ⟨s, h, by simp⟩

/-- other_name. -/
def toN : List UInt8 := [111, 116, 104, 101, 114, 95, 110, 97, 109, 101]
/-- What the law knows of the row behind its first loop. -/
structure TurnOk (l : List Nd) : Prop where
  ok : ∀ k, k ∈ l → InAll Loc k ∧ k.height ≤ 100 ∧ InAll (Clear toN) k
theorem turn_back {l : List Nd} (h : TurnOk l) (s : List UInt8) : blockP (nodeP (ren toN s) 100) [] (blockP (nodeP (ren s toN) 100) [] l) = l ∧ blockF (freeP 100) [] (blockP (nodeP (ren s toN) 100) [] l) = (blockF (freeP 100) [] l).map (renS s toN) :=
  block_back (back_any (by decide) 100) l [] (fun k hk => (h.ok k hk).2.2) (by simp)
theorem turn_free {l : List Nd} (h : TurnOk l) : toN ∉ blockF (freeP 100) [] l := fun hx => by
  obtain ⟨k, hk, x, h1, -, h3⟩ := block_mem (fun b t s => freeP_mem 100 b t s) l [] toN hx
  exact ((h.ok k hk).2.2 100 x h1).1 h3
theorem turn_shape (l : List Nd) (s u : List UInt8) : (blockP (nodeP (ren s u) 100) [] l).map Nd.strip = l.map Nd.strip := strip_block (fun b t => strip_node (strip_ren s u) 100 b t) l []
theorem turn_is {l : List Nd} (h : TurnOk l) (s : List UInt8) {F G : List (List UInt8)} (hF : ∀ x, x ∈ F ↔ x ∈ blockF (freeP 100) [] l) (hG : ∀ x, x ∈ G ↔ x ∈ blockF (freeP 100) [] (blockP (nodeP (ren s toN) 100) [] l)) : isIn F F.length s = isIn G G.length toN := by
  rw [isIn_all, isIn_all, decide_eq_decide, hF, hG, (turn_back h s).2, List.mem_map]
  constructor
  · intro hx; exact ⟨s, hx, if_pos rfl⟩
  · rintro ⟨x, hx, e⟩
    unfold renS at e
    split at e
    · rename_i e2; rw [← e2]; exact hx
    · rw [e] at hx; exact absurd hx (turn_free h)
theorem turn_none {l : List Nd} (h : TurnOk l) (s : List UInt8) {G : List (List UInt8)} (hG : ∀ x, x ∈ G ↔ x ∈ blockF (freeP 100) [] (blockP (nodeP (ren s toN) 100) [] l)) {g : List UInt8} (hg : g ∈ G) : ((g == s) && !(s == toN)) = false := by
  rw [hG, (turn_back h s).2, List.mem_map] at hg
  obtain ⟨x, -, rfl⟩ := hg
  unfold renS
  split
  · by_cases e : s = toN
    · simp [e]
    · have : (toN == s) = false := by simpa using fun e' => e e'.symm
      rw [this]; rfl
  · rename_i e
    have : (x == s) = false := by simpa using e
    rw [this]; rfl
end Go.Proofs.YtfcpblclfgkdjaaGreatDoor
