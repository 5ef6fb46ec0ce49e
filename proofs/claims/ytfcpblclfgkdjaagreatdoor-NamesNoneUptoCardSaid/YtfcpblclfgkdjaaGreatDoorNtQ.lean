/-
  names: called otherwise, and back; what is free then (plain).
-/
import Derived.Test.YtfcpblclfgkdjaaGreatDoorNtP
namespace Go.Proofs.YtfcpblclfgkdjaaGreatDoor
set_option linter.unusedSimpArgs false
set_option linter.unusedVariables false
open Go.RowKit

/-- A name called otherwise. -/
def ren (s u : List UInt8) (t : Nd) : Nd := if t.text = s then .mk t.kind u t.kids t.pos else t
def renS (s u x : List UInt8) : List UInt8 := if x = s then u else x
theorem ren_kind (s u : List UInt8) (t : Nd) : (ren s u t).kind = t.kind := by unfold ren; split <;> rfl
theorem ren_kids (s u : List UInt8) (t : Nd) : (ren s u t).kids = t.kids := by unfold ren; split <;> rfl
theorem ren_text (s u : List UInt8) (t : Nd) : (ren s u t).text = renS s u t.text := by unfold ren renS; split <;> rfl
theorem ren_back {s u : List UInt8} {t : Nd} (h : t.text ≠ u) : ren u s (ren s u t) = t := by
  unfold ren
  by_cases e : t.text = s
  · rw [if_pos e]
    subst e
    cases t
    exact if_pos rfl
  · rw [if_neg e, if_neg h]
theorem ren_none {s u : List UInt8} {t : Nd} (h : t.text ≠ s) : ren s u t = t := if_neg h

theorem Nd.with_with (t : Nd) (l m : List Nd) : (t.with l).with m = t.with m := rfl
theorem Nd.with_of (t : Nd) {l : List Nd} (h : l = t.kids) : t.with l = t := by rw [h]; exact t.with_self

section
variable {f : Nd → Nd} (hf : ∀ t, (f t).kind = t.kind)
include hf
theorem nodeP_kind : ∀ (d : Nat) (b : List (List UInt8)) (t : Nd), (nodeP f d b t).kind = t.kind
  | 0, _, _ => rfl
  | d + 1, b, t => by
    rw [nodeP]
    split
    · split
      · rfl
      · exact hf t
    split
    · rfl
    split
    · split <;> rfl
    split
    · split <;> rfl
    split
    · split <;> rfl
    · rfl
omit hf in
theorem nodeP_text : ∀ (d : Nat) (b : List (List UInt8)) (t : Nd), t.kind ≠ 18 → (nodeP f d b t).text = t.text
  | 0, _, _, _ => rfl
  | d + 1, b, t, h => by
    rw [nodeP, if_neg h]
    split
    · rfl
    split
    · split <;> rfl
    split
    · split <;> rfl
    split
    · split <;> rfl
    · rfl
theorem nodeP_behind (d : Nat) (b c : List (List UInt8)) (t : Nd) : behind c (nodeP f d b t) = behind c t := by
  unfold behind
  rw [nodeP_kind hf]
  by_cases h : t.kind = 18
  · rw [h]; rfl
  · rw [nodeP_text d b t h]
theorem nodeP_forB2 (d : Nat) (b c : List (List UInt8)) (t : Nd) : forB2 c (nodeP f d b t) = forB2 c t := by
  unfold forB2
  rw [nodeP_kind hf]
  by_cases h : t.kind = 18
  · rw [h]; rfl
  · rw [nodeP_text d b t h]
end

theorem nodesL_high : ∀ (d D : Nat) (t x : Nd), t.height ≤ D → x ∈ nodesL d t → x ∈ nodesL D t
  | 0, _, _, _, _, h => by simp [nodesL_zero] at h
  | d + 1, 0, t, _, hh, _ => by have := Nd.height_eq t; omega
  | d + 1, D + 1, t, x, hh, h => by
    rw [nodesL_succ] at h ⊢
    rcases List.mem_cons.1 h with rfl | h
    · simp
    · obtain ⟨k, hk, hx⟩ := List.mem_flatMap.1 h
      exact List.mem_cons_of_mem _ (List.mem_flatMap.2 ⟨k, hk, nodesL_high d D k x (by have := Nd.height_kid hk; omega) hx⟩)
theorem InAll.of_high {P : Nd → Prop} {D : Nat} {t : Nd} (hh : t.height ≤ D) (h : ∀ x, x ∈ nodesL D t → P x) : InAll P t := fun d x hx => h x (nodesL_high d D t x hh hx)
theorem InAll.kid' {P : Nd → Prop} {t k : Nd} (h : InAll P t) (hk : k ∈ t.kids) : InAll P k := fun d x hx => h (d + 1) x (by rw [nodesL_succ]; exact List.mem_cons_of_mem _ (List.mem_flatMap.2 ⟨k, hk, hx⟩))
theorem InAll.self' {P : Nd → Prop} {t : Nd} (h : InAll P t) : P t := h 1 t (by rw [nodesL_succ]; simp)

/-- The other name is not in a node. -/
def Clear (u : List UInt8) (x : Nd) : Prop := x.text ≠ u ∧ (x.kind = 32 → x.text.length ≤ 8)
theorem prms_text {P : Nd → Prop} {t p : Nd} (h : InAll P t) (hp : p ∈ prms t) : P p := by
  unfold prms at hp
  split at hp
  · rename_i s r e
    split at hp
    · rename_i x q e2
      exact ((((h.kid' (k := s) (by rw [e]; simp)).kid' (k := x) (by rw [e2]; simp)).kid' hp).self')
    · cases hp
  · cases hp
theorem bindAll_not {u : List UInt8} : ∀ (l : List Nd) (b : List (List UInt8)), u ∉ b → (∀ p, p ∈ l → p.text ≠ u) → u ∉ bindAll b l
  | [], b, h, _ => h
  | x :: r, b, h, hl => bindAll_not r (x.text :: b) (by
      intro e
      rcases List.mem_cons.1 e with e | e
      · exact hl x (by simp) e.symm
      · exact h e) (fun p hp => hl p (by simp [hp]))
theorem behind_not {u : List UInt8} {b : List (List UInt8)} {x : Nd} (h : u ∉ b) (hx : x.text ≠ u) : u ∉ behind b x := by
  unfold behind
  split
  · intro e
    rcases List.mem_cons.1 e with e | e
    · exact hx e.symm
    · exact h e
  · exact h
theorem forB2_not {u : List UInt8} {b : List (List UInt8)} {x : Nd} (h : u ∉ b) (hx : x.text ≠ u) : u ∉ forB2 b x := by
  unfold forB2
  split
  · intro e
    rcases List.mem_cons.1 e with e | e
    · exact hx e.symm
    · exact h e
  · exact h
theorem rn1_len (s : List UInt8) : (rn1 s).length ≤ s.length := (List.takeWhile_sublist _).length_le
theorem rn2_len (s : List UInt8) : (rn2 s).length ≤ s.length := by
  unfold rn2
  rw [List.length_drop]
  have := (List.dropWhile_sublist (fun c => !(c == 44)) (l := s)).length_le
  omega
theorem range_not {u : List UInt8} {b : List (List UInt8)} {s : List UInt8} (hu : 8 < u.length) (h : u ∉ b) (hs : s.length ≤ 8) : u ∉ rn2 s :: rn1 s :: b := by
  intro e
  rcases List.mem_cons.1 e with e | e
  · have := rn2_len s; rw [← e] at this; omega
  rcases List.mem_cons.1 e with e | e
  · have := rn1_len s; rw [← e] at this; omega
  · exact h e

/-- What a list's nodes keep, its kids' row keeps. -/
theorem map_back {g h : Nd → Nd} {l : List Nd} (H : ∀ k, k ∈ l → g (h k) = k) : (l.map h).map g = l := by
  induction l with
  | nil => rfl
  | cons x r ih => rw [List.map_cons, List.map_cons, H x (by simp), ih (fun k hk => H k (by simp [hk]))]
theorem flat_back {p q : Nd → List (List UInt8)} {h : Nd → Nd} {m : List UInt8 → List UInt8} {l : List Nd} (H : ∀ k, k ∈ l → p (h k) = (q k).map m) : (l.map h).flatMap p = (l.flatMap q).map m := by
  induction l with
  | nil => rfl
  | cons x r ih => rw [List.map_cons, List.flatMap_cons, List.flatMap_cons, List.map_append, H x (by simp), ih (fun k hk => H k (by simp [hk]))]
theorem map_same {h : Nd → Nd} {l : List Nd} (H : ∀ k, k ∈ l → h k = k) : l.map h = l := by
  induction l with
  | nil => rfl
  | cons x r ih => rw [List.map_cons, H x (by simp), ih (fun k hk => H k (by simp [hk]))]

/-- Called otherwise, and back. -/
def BackAt (s u : List UInt8) (d : Nat) : Prop := ∀ (b : List (List UInt8)) (t : Nd), InAll (Clear u) t → u ∉ b →
  nodeP (ren u s) d b (nodeP (ren s u) d b t) = t ∧ freeP d b (nodeP (ren s u) d b t) = (freeP d b t).map (renS s u)
theorem block_back {s u : List UInt8} {d : Nat} (ih : BackAt s u d) : ∀ (l : List Nd) (b : List (List UInt8)), (∀ k, k ∈ l → InAll (Clear u) k) → u ∉ b →
    blockP (nodeP (ren u s) d) b (blockP (nodeP (ren s u) d) b l) = l ∧ blockF (freeP d) b (blockP (nodeP (ren s u) d) b l) = (blockF (freeP d) b l).map (renS s u)
  | [], _, _, _ => ⟨rfl, rfl⟩
  | x :: r, b, hl, hb => by
    have h1 := ih b x (hl x (by simp)) hb
    have h2 := block_back ih r (behind b x) (fun k hk => hl k (by simp [hk])) (behind_not hb (hl x (by simp)).self'.1)
    rw [blockP, blockP, blockF, blockF, nodeP_behind (ren_kind s u), h1.1, h1.2, h2.1, h2.2, List.map_append]
    exact ⟨rfl, rfl⟩
theorem back_step {s u : List UInt8} (hu : 8 < u.length) {d : Nat} (ih : BackAt s u d) : BackAt s u (d + 1) := by
  intro b t ht hb
  have hself := ht.self'
  by_cases h18 : t.kind = 18
  · cases hc : b.contains t.text with
    | true =>
      have e : nodeP (ren s u) (d + 1) b t = t := by rw [nodeP, if_pos h18, hc]; rfl
      have e2 : nodeP (ren u s) (d + 1) b t = t := by rw [nodeP, if_pos h18, hc]; rfl
      have e3 : freeP (d + 1) b t = [] := by rw [freeP, if_pos h18, hc]; rfl
      rw [e, e2, e3]
      exact ⟨rfl, rfl⟩
    | false =>
      have e : nodeP (ren s u) (d + 1) b t = ren s u t := by rw [nodeP, if_pos h18, hc]; rfl
      have hk : (ren s u t).kind = 18 := by rw [ren_kind, h18]
      have hc2 : b.contains (ren s u t).text = false := by
        rw [ren_text]
        unfold renS
        split
        · simpa using hb
        · exact hc
      have e2 : nodeP (ren u s) (d + 1) b (ren s u t) = ren u s (ren s u t) := by rw [nodeP, if_pos hk, hc2]; rfl
      have e3 : freeP (d + 1) b t = [t.text] := by rw [freeP, if_pos h18, hc]; rfl
      have e4 : freeP (d + 1) b (ren s u t) = [(ren s u t).text] := by rw [freeP, if_pos hk, hc2]; rfl
      rw [e, e2, e3, e4, ren_text]
      exact ⟨ren_back hself.1, rfl⟩
  by_cases h36 : t.kind = 36
  · have hh := block_back ih t.kids b (fun k hk => ht.kid' hk) hb
    have e : nodeP (ren s u) (d + 1) b t = t.with (blockP (nodeP (ren s u) d) b t.kids) := by rw [nodeP, if_neg h18, if_pos h36]
    have e2 : ∀ l, nodeP (ren u s) (d + 1) b (t.with l) = t.with (blockP (nodeP (ren u s) d) b l) := fun l => by rw [nodeP, Nd.with_kind, if_neg h18, if_pos h36]; rfl
    have e3 : freeP (d + 1) b t = blockF (freeP d) b t.kids := by rw [freeP, if_neg h18, if_pos h36]
    have e4 : ∀ l, freeP (d + 1) b (t.with l) = blockF (freeP d) b l := fun l => by rw [freeP, Nd.with_kind, if_neg h18, if_pos h36]; rfl
    rw [e, e2, e3, e4, hh.1, hh.2]
    exact ⟨t.with_self, rfl⟩
  by_cases h25 : t.kind = 25
  · have e2 : ∀ (f : Nd → Nd) (v : Nd), v.kind = 25 → nodeP f (d + 1) b v = (match v.kids with | [s, x] => v.with [s, nodeP f d (bindAll b (prms v)) x] | _ => v) := fun f v hv => by
      rw [nodeP, if_neg (by rw [hv]; decide), if_neg (by rw [hv]; decide), if_pos hv]; rfl
    have e4 : ∀ v : Nd, v.kind = 25 → freeP (d + 1) b v = (match v.kids with | [_, x] => freeP d (bindAll b (prms v)) x | _ => []) := fun v hv => by
      rw [freeP, if_neg (by rw [hv]; decide), if_neg (by rw [hv]; decide), if_pos hv]; rfl
    by_cases hks : ∃ g x, t.kids = [g, x]
    · obtain ⟨g, x, hks⟩ := hks
      have hh := ih (bindAll b (prms t)) x (ht.kid' (by rw [hks]; simp)) (bindAll_not _ _ hb (fun p hp => (prms_text ht hp).1))
      have hp : ∀ y, prms (t.with [g, y]) = prms t := fun y => by unfold prms; rw [hks]; rfl
      rw [e2 (ren s u) t h25, hks]
      show nodeP (ren u s) (d + 1) b (t.with [g, nodeP (ren s u) d (bindAll b (prms t)) x]) = t ∧ freeP (d + 1) b (t.with [g, nodeP (ren s u) d (bindAll b (prms t)) x]) = _
      rw [e2 (ren u s) (t.with _) h25, e4 (t.with _) h25, e4 t h25, Nd.with_kids, hks, hp]
      show t.with [g, nodeP (ren u s) d (bindAll b (prms t)) (nodeP (ren s u) d (bindAll b (prms t)) x)] = t ∧ freeP d (bindAll b (prms t)) (nodeP (ren s u) d (bindAll b (prms t)) x) = (freeP d (bindAll b (prms t)) x).map (renS s u)
      rw [hh.1]
      exact ⟨t.with_of hks.symm, hh.2⟩
    · have e5 : ∀ f, nodeP f (d + 1) b t = t := fun f => by
        rw [e2 f t h25]
        split
        · rename_i g x e; exact absurd ⟨g, x, e⟩ hks
        · rfl
      have e6 : freeP (d + 1) b t = [] := by
        rw [e4 t h25]
        split
        · rename_i g x e; exact absurd ⟨g, x, e⟩ hks
        · rfl
      rw [e5, e5, e6]
      exact ⟨rfl, rfl⟩
  by_cases h32 : t.kind = 32
  · have hlen := hself.2 h32
    have e2 : ∀ (f : Nd → Nd) (v : Nd), v.kind = 32 → nodeP f (d + 1) b v = (match v.kids with | [x, y] => v.with [nodeP f d b x, nodeP f d (rn2 v.text :: rn1 v.text :: b) y] | _ => v) := fun f v hv => by
      rw [nodeP, if_neg (by rw [hv]; decide), if_neg (by rw [hv]; decide), if_neg (by rw [hv]; decide), if_pos hv]; rfl
    have e4 : ∀ v : Nd, v.kind = 32 → freeP (d + 1) b v = (match v.kids with | [x, y] => freeP d b x ++ freeP d (rn2 v.text :: rn1 v.text :: b) y | _ => []) := fun v hv => by
      rw [freeP, if_neg (by rw [hv]; decide), if_neg (by rw [hv]; decide), if_neg (by rw [hv]; decide), if_pos hv]; rfl
    by_cases hks : ∃ g x, t.kids = [g, x]
    · obtain ⟨g, x, hks⟩ := hks
      have hg := ih b g (ht.kid' (by rw [hks]; simp)) hb
      have hh := ih (rn2 t.text :: rn1 t.text :: b) x (ht.kid' (by rw [hks]; simp)) (range_not hu hb hlen)
      rw [e2 (ren s u) t h32, hks]
      show nodeP (ren u s) (d + 1) b (t.with [nodeP (ren s u) d b g, nodeP (ren s u) d (rn2 t.text :: rn1 t.text :: b) x]) = t ∧ freeP (d + 1) b (t.with [nodeP (ren s u) d b g, nodeP (ren s u) d (rn2 t.text :: rn1 t.text :: b) x]) = _
      rw [e2 (ren u s) (t.with _) h32, e4 (t.with _) h32, e4 t h32, Nd.with_kids, hks, Nd.with_text]
      show t.with [nodeP (ren u s) d b (nodeP (ren s u) d b g), nodeP (ren u s) d (rn2 t.text :: rn1 t.text :: b) (nodeP (ren s u) d (rn2 t.text :: rn1 t.text :: b) x)] = t ∧ freeP d b (nodeP (ren s u) d b g) ++ freeP d (rn2 t.text :: rn1 t.text :: b) (nodeP (ren s u) d (rn2 t.text :: rn1 t.text :: b) x) = (freeP d b g ++ freeP d (rn2 t.text :: rn1 t.text :: b) x).map (renS s u)
      rw [hg.1, hh.1, hg.2, hh.2, List.map_append]
      exact ⟨t.with_of hks.symm, rfl⟩
    · have e5 : ∀ f, nodeP f (d + 1) b t = t := fun f => by
        rw [e2 f t h32]
        split
        · rename_i g x e; exact absurd ⟨g, x, e⟩ hks
        · rfl
      have e6 : freeP (d + 1) b t = [] := by
        rw [e4 t h32]
        split
        · rename_i g x e; exact absurd ⟨g, x, e⟩ hks
        · rfl
      rw [e5, e5, e6]
      exact ⟨rfl, rfl⟩
  by_cases h31 : t.kind = 31
  · have e2 : ∀ (f : Nd → Nd) (v : Nd), v.kind = 31 → nodeP f (d + 1) b v = (match v.kids with | x :: r => v.with (nodeP f d b x :: r.map (nodeP f d (forB2 b x))) | [] => v) := fun f v hv => by
      rw [nodeP, if_neg (by rw [hv]; decide), if_neg (by rw [hv]; decide), if_neg (by rw [hv]; decide), if_neg (by rw [hv]; decide), if_pos hv]; rfl
    have e4 : ∀ v : Nd, v.kind = 31 → freeP (d + 1) b v = (match v.kids with | x :: r => freeP d b x ++ r.flatMap (freeP d (forB2 b x)) | [] => []) := fun v hv => by
      rw [freeP, if_neg (by rw [hv]; decide), if_neg (by rw [hv]; decide), if_neg (by rw [hv]; decide), if_neg (by rw [hv]; decide), if_pos hv]; rfl
    cases hks : t.kids with
    | nil =>
      have e5 : ∀ f, nodeP f (d + 1) b t = t := fun f => by rw [e2 f t h31, hks]
      have e6 : freeP (d + 1) b t = [] := by rw [e4 t h31, hks]
      rw [e5, e5, e6]
      exact ⟨rfl, rfl⟩
    | cons x r =>
      have hx := ih b x (ht.kid' (by rw [hks]; simp)) hb
      have hr : ∀ k, k ∈ r → _ := fun k hk => ih (forB2 b x) k (ht.kid' (by rw [hks]; simp [hk])) (forB2_not hb (ht.kid' (k := x) (by rw [hks]; simp)).self'.1)
      rw [e2 (ren s u) t h31, hks]
      show nodeP (ren u s) (d + 1) b (t.with (nodeP (ren s u) d b x :: r.map (nodeP (ren s u) d (forB2 b x)))) = t ∧ freeP (d + 1) b (t.with (nodeP (ren s u) d b x :: r.map (nodeP (ren s u) d (forB2 b x)))) = _
      rw [e2 (ren u s) (t.with _) h31, e4 (t.with _) h31, e4 t h31, Nd.with_kids, hks]
      show t.with (nodeP (ren u s) d b (nodeP (ren s u) d b x) :: (r.map (nodeP (ren s u) d (forB2 b x))).map (nodeP (ren u s) d (forB2 b (nodeP (ren s u) d b x)))) = t ∧ freeP d b (nodeP (ren s u) d b x) ++ (r.map (nodeP (ren s u) d (forB2 b x))).flatMap (freeP d (forB2 b (nodeP (ren s u) d b x))) = (freeP d b x ++ r.flatMap (freeP d (forB2 b x))).map (renS s u)
      rw [nodeP_forB2 (ren_kind s u), hx.1, hx.2, map_back (fun k hk => (hr k hk).1), flat_back (fun k hk => (hr k hk).2), List.map_append]
      exact ⟨t.with_of hks.symm, rfl⟩
  · have e2 : ∀ (f : Nd → Nd) (v : Nd), v.kind = t.kind → nodeP f (d + 1) b v = v.with (v.kids.map (nodeP f d b)) := fun f v hv => by
      rw [nodeP, if_neg (by rw [hv]; exact h18), if_neg (by rw [hv]; exact h36), if_neg (by rw [hv]; exact h25), if_neg (by rw [hv]; exact h32), if_neg (by rw [hv]; exact h31)]
    have e4 : ∀ v : Nd, v.kind = t.kind → freeP (d + 1) b v = v.kids.flatMap (freeP d b) := fun v hv => by
      rw [freeP, if_neg (by rw [hv]; exact h18), if_neg (by rw [hv]; exact h36), if_neg (by rw [hv]; exact h25), if_neg (by rw [hv]; exact h32), if_neg (by rw [hv]; exact h31)]
    have hr : ∀ k, k ∈ t.kids → _ := fun k hk => ih b k (ht.kid' hk) hb
    rw [e2 (ren s u) t rfl, e2 (ren u s) (t.with _) rfl, e4 (t.with _) rfl, e4 t rfl, Nd.with_kids, Nd.with_with, map_back (fun k hk => (hr k hk).1), flat_back (fun k hk => (hr k hk).2)]
    exact ⟨t.with_self, rfl⟩
theorem back_any {s u : List UInt8} (hu : 8 < u.length) : ∀ d, BackAt s u d
  | 0 => fun _ _ _ _ => ⟨rfl, rfl⟩
  | d + 1 => back_step hu (back_any hu d)

/-- A free name is some name's. -/
theorem block_mem {d : Nat} (ih : ∀ (b : List (List UInt8)) (t : Nd) (s : List UInt8), s ∈ freeP d b t → ∃ x, x ∈ nodesL d t ∧ x.kind = 18 ∧ x.text = s) : ∀ (l : List Nd) (b : List (List UInt8)) (s : List UInt8), s ∈ blockF (freeP d) b l → ∃ k, k ∈ l ∧ ∃ x, x ∈ nodesL d k ∧ x.kind = 18 ∧ x.text = s
  | [], _, _, h => by cases h
  | y :: r, b, s, h => by
    rw [blockF] at h
    rcases List.mem_append.1 h with h | h
    · exact ⟨y, by simp, ih b y s h⟩
    · obtain ⟨k, hk, hx⟩ := block_mem ih r (behind b y) s h
      exact ⟨k, by simp [hk], hx⟩
theorem freeP_mem : ∀ (d : Nat) (b : List (List UInt8)) (t : Nd) (s : List UInt8), s ∈ freeP d b t → ∃ x, x ∈ nodesL d t ∧ x.kind = 18 ∧ x.text = s
  | 0, _, _, _, h => by simp [freeP] at h
  | d + 1, b, t, s, h => by
    have up : ∀ {k : Nd}, k ∈ t.kids → (∃ x, x ∈ nodesL d k ∧ x.kind = 18 ∧ x.text = s) → ∃ x, x ∈ nodesL (d + 1) t ∧ x.kind = 18 ∧ x.text = s := fun {k} hk ⟨x, h1, h2⟩ => ⟨x, by rw [nodesL_succ]; exact List.mem_cons_of_mem _ (List.mem_flatMap.2 ⟨k, hk, h1⟩), h2⟩
    rw [freeP] at h
    split at h
    · rename_i h18
      split at h
      · cases h
      · rw [List.mem_singleton] at h
        exact ⟨t, by rw [nodesL_succ]; simp, h18, h.symm⟩
    split at h
    · obtain ⟨k, hk, hx⟩ := block_mem (fun b t s => freeP_mem d b t s) t.kids b s h
      exact up hk hx
    split at h
    · split at h
      · rename_i e
        exact up (by rw [e]; simp) (freeP_mem d _ _ s h)
      · cases h
    split at h
    · split at h
      · rename_i e
        rcases List.mem_append.1 h with h | h
        · exact up (by rw [e]; simp) (freeP_mem d _ _ s h)
        · exact up (by rw [e]; simp) (freeP_mem d _ _ s h)
      · cases h
    split at h
    · split at h
      · rename_i e
        rcases List.mem_append.1 h with h | h
        · exact up (by rw [e]; simp) (freeP_mem d _ _ s h)
        · obtain ⟨k, hk, hx⟩ := List.mem_flatMap.1 h
          exact up (by rw [e]; simp [hk]) (freeP_mem d _ _ s hx)
      · cases h
    · obtain ⟨k, hk, hx⟩ := List.mem_flatMap.1 h
      exact up hk (freeP_mem d _ _ s hx)

/-- What is not free stays. -/
theorem block_none {s u : List UInt8} {d : Nat} (ih : ∀ (b : List (List UInt8)) (t : Nd), s ∉ freeP d b t → nodeP (ren s u) d b t = t) : ∀ (l : List Nd) (b : List (List UInt8)), s ∉ blockF (freeP d) b l → blockP (nodeP (ren s u) d) b l = l
  | [], _, _ => rfl
  | y :: r, b, h => by
    rw [blockF, List.mem_append, not_or] at h
    rw [blockP, ih b y h.1, block_none ih r (behind b y) h.2]
theorem free_none {s u : List UInt8} : ∀ (d : Nat) (b : List (List UInt8)) (t : Nd), s ∉ freeP d b t → nodeP (ren s u) d b t = t
  | 0, _, _, _ => rfl
  | d + 1, b, t, h => by
    rw [freeP] at h
    rw [nodeP]
    by_cases h18 : t.kind = 18
    · rw [if_pos h18] at h ⊢
      cases hc : b.contains t.text with
      | true => rfl
      | false =>
        rw [hc] at h
        exact ren_none (fun e => h (by simp [e]))
    rw [if_neg h18] at h ⊢
    by_cases h36 : t.kind = 36
    · rw [if_pos h36] at h ⊢
      rw [block_none (fun b t => free_none d b t) t.kids b h]
      exact t.with_self
    rw [if_neg h36] at h ⊢
    by_cases h25 : t.kind = 25
    · rw [if_pos h25] at h ⊢
      split
      · rename_i g x e
        rw [e] at h
        rw [free_none d _ x h]
        exact t.with_of e.symm
      · rfl
    rw [if_neg h25] at h ⊢
    by_cases h32 : t.kind = 32
    · rw [if_pos h32] at h ⊢
      split
      · rename_i g x e
        rw [e] at h
        replace h : s ∉ freeP d b g ++ freeP d (rn2 t.text :: rn1 t.text :: b) x := h
        rw [List.mem_append, not_or] at h
        rw [free_none d _ g h.1, free_none d _ x h.2]
        exact t.with_of e.symm
      · rfl
    rw [if_neg h32] at h ⊢
    by_cases h31 : t.kind = 31
    · rw [if_pos h31] at h ⊢
      split
      · rename_i x r e
        rw [e] at h
        replace h : s ∉ freeP d b x ++ r.flatMap (freeP d (forB2 b x)) := h
        rw [List.mem_append, not_or] at h
        rw [free_none d _ x h.1, map_same (fun k hk => free_none d _ k (fun hx => h.2 (List.mem_flatMap.2 ⟨k, hk, hx⟩)))]
        exact t.with_of e.symm
      · rfl
    rw [if_neg h31] at h ⊢
    rw [map_same (fun k hk => free_none d _ k (fun hx => h (List.mem_flatMap.2 ⟨k, hk, hx⟩)))]
    exact t.with_self
end Go.Proofs.YtfcpblclfgkdjaaGreatDoor
