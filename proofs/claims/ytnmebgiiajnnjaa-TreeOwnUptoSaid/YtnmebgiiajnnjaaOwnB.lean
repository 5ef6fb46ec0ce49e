/-
  the law TreeOwn: what its walk carries. Plain.
-/
import Derived.Test.YtnmebgiiajnnjaaBoxes
import Derived.Test.YtnmebgiiajnnjaaLawEquals
import Derived.Test.YtnmebgiiajnnjaaFindB
import Derived.Test.YtnmebgiiajnnjaaOwnA
import Derived.Test.YtnmebgiiajnnjaaRefA
namespace Go.Proofs.Ytnmebgiiajnnjaa
set_option linter.unusedSimpArgs false
set_option linter.unusedVariables false
open Go.RowKit

def smP (m : Int) (t : Nd) : Bool := decide (wrap64 (walkL 1000 t).length ≤ m)
theorem walk_more : ∀ (d : Nat) (t : Nd), (walkL d t).length ≤ (walkL (d + 1) t).length
  | 0, t => by simp [walkL]
  | d + 1, t => by
    rw [walkL, walkL, List.length_cons, List.length_cons]
    have : ∀ l : List Nd, (l.flatMap (walkL d)).length ≤ (l.flatMap (walkL (d + 1))).length := fun l => by
      induction l with
      | nil => simp
      | cons x r ih => rw [List.flatMap_cons, List.flatMap_cons, List.length_append, List.length_append]; have := walk_more d x; omega
    have := this t.kids
    omega
theorem walk_le {d e : Nat} (h : d ≤ e) (t : Nd) : (walkL d t).length ≤ (walkL e t).length := by
  induction h with
  | refl => exact Nat.le_refl _
  | step _ ih => exact Nat.le_trans ih (walk_more _ t)
theorem nodes_height : ∀ (d : Nat) (t x : Nd), x ∈ nodesL d t → x.height ≤ t.height
  | 0, t, x, h => by rw [nodesL_zero] at h; cases h
  | d + 1, t, x, h => by
    rw [nodesL_succ] at h
    rcases List.mem_cons.1 h with rfl | h
    · exact Nat.le_refl _
    · obtain ⟨k, hk, hx⟩ := List.mem_flatMap.1 h
      have h1 := nodes_height d k x hx
      have h2 := Nd.height_kid hk
      omega

/-- All but two blocks is kept. -/
def Kept (P Q : Nat) (w w' : World) : Prop := w.heap.size ≤ w'.heap.size ∧ ∀ b, b < w.heap.size → b ≠ P → b ≠ Q → w'.heap[b]? = w.heap[b]?
section
variable {P Q : Nat} {w w' w'' : World}
theorem Kept.refl (P Q : Nat) (w : World) : Kept P Q w w := ⟨Nat.le_refl _, fun _ _ _ _ => rfl⟩
theorem Kept.call (h : Kept P Q w w') (hb : Below w'.heap.size w' w'') : Kept P Q w w'' :=
  ⟨Nat.le_trans h.1 hb.size, fun b h0 h1 h2 => (hb.block b (Nat.lt_of_lt_of_le h0 h.1)).trans (h.2 b h0 h1 h2)⟩
theorem Kept.al (h : Kept P Q w w') (o : Obj) : Kept P Q w (w'.alloc o) := h.call (below_alloc _ o)
theorem Kept.set1 (h : Kept P Q w w') (o : Nat) (u : Value) : Kept P Q w (w'.setCell ⟨P, o, none⟩ u) :=
  ⟨by have := h.1; simpa using this, fun b h0 h1 h2 => (Below.heap_setCell w' ⟨P, o, none⟩ u b (by show b ≠ P; exact h1)).trans (h.2 b h0 h1 h2)⟩
theorem Kept.set2 (h : Kept P Q w w') (o : Nat) (u : Value) : Kept P Q w (w'.setCell ⟨Q, o, none⟩ u) :=
  ⟨by have := h.1; simpa using this, fun b h0 h1 h2 => (Below.heap_setCell w' ⟨Q, o, none⟩ u b (by show b ≠ Q; exact h2)).trans (h.2 b h0 h1 h2)⟩
theorem bset {b o : Nat} {u : Value} (h : Below w.heap.size w w') (hb : w.heap.size ≤ b) : Below w.heap.size w (w'.setCell ⟨b, o, none⟩ u) := h.setCell (p := ⟨b, o, none⟩) hb _
theorem KidsO.kept {n m : Nat} {a : Option Addr} {l : List Nd} (h : KidsO w n m a l) (hk : Kept P Q w w') (hm : m ≤ w.heap.size) (hP : P < n ∨ m ≤ P) (hQ : Q < n ∨ m ≤ Q) : KidsO w' n m a l :=
  h.move (Nat.le_refl _) (Nat.le_refl _) (fun b h0 h1 => hk.2 b (by omega) (by omega) (by omega))
theorem below_da (w : World) (o : Obj) : Below w.heap.size w (w.drew.alloc o) := bext (Below.refl _ _).drew (below_alloc _ _)
theorem below_aa (w : World) (o o' : Obj) : Below w.heap.size w ((w.alloc o).alloc o') := bext (below_alloc _ _) (below_alloc _ _)
theorem below_daa (w : World) (o o' : Obj) : Below w.heap.size w ((w.drew.alloc o).alloc o') := bext (below_da _ _) (below_alloc _ _)
end

/-- A box of nothing. -/
def Z8 (w : World) (b : Nat) : Prop := (w.cell? ⟨b, 0, none⟩ = some (.int .i64 0) ∧ w.cell? ⟨b, 1, none⟩ = some (.string ⟨#[]⟩) ∧ w.cell? ⟨b, 2, none⟩ = some (.slice none 0 0) ∧ w.cell? ⟨b, 3, none⟩ = some (.int .i64 0)) ∧
  w.frozen? ⟨b, 0, none⟩ = false ∧ w.frozen? ⟨b, 1, none⟩ = false ∧ w.frozen? ⟨b, 2, none⟩ = false ∧ w.frozen? ⟨b, 3, none⟩ = false
theorem Z8.on {w w' : World} {b : Nat} (h : Z8 w b) (hb : Below w.heap.size w w') : Z8 w' b := by
  obtain ⟨hc, hfz⟩ := bcell hb
  obtain ⟨⟨q0, q1, q2, q3⟩, f0, f1, f2, f3⟩ := h
  have l := cell_lt q0
  exact ⟨⟨(hc _ _ l).trans q0, (hc _ _ l).trans q1, (hc _ _ l).trans q2, (hc _ _ l).trans q3⟩, (hfz _ _ l).trans f0, (hfz _ _ l).trans f1, (hfz _ _ l).trans f2, (hfz _ _ l).trans f3⟩
theorem lt_ne {a b : Nat} (h : a < b) : a < b ∧ (a = b) = False ∧ (b = a) = False ∧ (a = b + 1) = False ∧ (b + 1 = a) = False := ⟨h, by simp; omega, by simp; omega, by simp; omega, by simp; omega⟩
theorem z8_a (w : World) : Z8 (w.alloc zeroN) w.heap.size := by unfold Z8 zeroN; refine ⟨⟨?_, ?_, ?_, ?_⟩, ?_, ?_, ?_, ?_⟩ <;> simp [go_sem]
theorem z8_d (w : World) : Z8 (w.drew.alloc zeroN) w.heap.size := z8_a w.drew
theorem z8_aa (w : World) : Z8 ((w.alloc zeroN).alloc zeroN) w.heap.size := (z8_a w).on (below_alloc _ _)
theorem z8_aa' (w : World) : Z8 ((w.alloc zeroN).alloc zeroN) (w.heap.size + 1) := by have := z8_a (w.alloc zeroN); simpa using this
theorem z8_daa (w : World) : Z8 ((w.drew.alloc zeroN).alloc zeroN) w.heap.size := z8_aa w.drew
theorem z8_daa' (w : World) : Z8 ((w.drew.alloc zeroN).alloc zeroN) (w.heap.size + 1) := z8_aa' w.drew

section
variable {t1 : Nd} {a1 : Option Addr} {c1 B1 : Nat} {W : World}
theorem pt_small (h : Bx1 t1 a1 c1 B1 W) {b : Bool} (hs : smP 500 t1 = b) : Calls Try.prog 9 #[.agg #[.int .i64 t1.kind, .string ⟨t1.text.toArray⟩, .slice a1 t1.kids.length c1, .int .i64 t1.pos], .int .i64 500] W (Bx1Post t1 a1 c1 B1 (.bool b) W) :=
  bx1_post h (by have := small_any 500 t1 a1 c1 W h.k1 h.f1; unfold smP at hs; rw [hs] at this; exact this)
theorem ow_depth (h : Bx1 t1 a1 c1 B1 W) (hh : t1.height ≤ 100) : Calls Try.prog 11 #[.agg #[.int .i64 t1.kind, .string ⟨t1.text.toArray⟩, .slice a1 t1.kids.length c1, .int .i64 t1.pos]] W (Bx1Post t1 a1 c1 B1 (.int .i64 t1.height) W) :=
  bx1_post h (by have := depth_any t1 a1 c1 W h.k1 h.f1; rw [deepest_walk, show min (t1.height : Int) 101 = t1.height by omega] at this; exact this)
theorem ow_deep (h : Bx1 t1 a1 c1 B1 W) (hh : 100 < t1.height) : Calls Try.prog 11 #[.agg #[.int .i64 t1.kind, .string ⟨t1.text.toArray⟩, .slice a1 t1.kids.length c1, .int .i64 t1.pos]] W (Bx1Post t1 a1 c1 B1 (.int .i64 101) W) :=
  bx1_post h (by have := depth_any t1 a1 c1 W h.k1 h.f1; rw [deepest_walk, show min (t1.height : Int) 101 = 101 by omega] at this; exact this)
theorem ow_copy {W0 : World} (h : Bx1 t1 a1 c1 B1 W0) (hb : Below W0.heap.size W0 W) (hh : t1.height ≤ 100) : Calls Try.prog 17 #[.agg #[.int .i64 t1.kind, .string ⟨t1.text.toArray⟩, .slice a1 t1.kids.length c1, .int .i64 t1.pos]] W
    (fun e w' => ∃ a' c', e = .returned (.agg #[.int .i64 t1.kind, .string ⟨t1.text.toArray⟩, .slice a' t1.kids.length c', .int .i64 t1.pos]) ∧ (w'.cell? ⟨B1, 0, none⟩ = some (.int .i64 t1.kind) ∧ w'.cell? ⟨B1, 1, none⟩ = some (.string ⟨t1.text.toArray⟩) ∧ w'.cell? ⟨B1, 2, none⟩ = some (.slice (a1) t1.kids.length c1) ∧ w'.cell? ⟨B1, 3, none⟩ = some (.int .i64 t1.pos)) ∧ Hid (Bx1 t1 a1 c1 B1 w' ∧ Below W.heap.size W w' ∧ Fits t1 c' ∧ KidsO w' W.heap.size w'.heap.size a' t1.kids)) :=
  (copy_own t1 a1 c1 W hh (h.on hb).k1 h.f1).mono (fun e w' ⟨hb', a', c', he, hf, hz⟩ => ⟨a', c', he, ((h.on hb).on hb').b1, Lib.hid ⟨(h.on hb).on hb', hb', hf, hz⟩⟩)
end

/-- Two copies lie in boxes, apart from one another. -/
structure Two (t : Nd) (a a3 a4 : Option Addr) (c c3 c4 B P Q : Nat) (W : World) : Prop where
  bx : Bx1 t a c B W
  f3 : Fits t c3
  f4 : Fits t c4
  b3 : (W.cell? ⟨P, 0, none⟩ = some (.int .i64 t.kind) ∧ W.cell? ⟨P, 1, none⟩ = some (.string ⟨t.text.toArray⟩) ∧ W.cell? ⟨P, 2, none⟩ = some (.slice (a3) t.kids.length c3) ∧ W.cell? ⟨P, 3, none⟩ = some (.int .i64 t.pos))
  b4 : (W.cell? ⟨Q, 0, none⟩ = some (.int .i64 t.kind) ∧ W.cell? ⟨Q, 1, none⟩ = some (.string ⟨t.text.toArray⟩) ∧ W.cell? ⟨Q, 2, none⟩ = some (.slice (a4) t.kids.length c4) ∧ W.cell? ⟨Q, 3, none⟩ = some (.int .i64 t.pos))
  apart : ∃ n m n' m', KidsO W n m a3 t.kids ∧ KidsO W n' m' a4 t.kids ∧ m ≤ n' ∧ m ≤ W.heap.size ∧ m' ≤ W.heap.size ∧ B < n ∧ (P < n ∨ m ≤ P) ∧ (Q < n ∨ m ≤ Q)

theorem two_leaf {t : Nd} {a a3 a4 : Option Addr} {c c3 c4 B P Q : Nat} {w w2 W3 w3 W4 w4 wf : World} (HP : Bx1 t a c B w2) (hb : Below w.heap.size w w2) (hB : B < w2.heap.size)
    (h3 : Bx1 t a c B w3 ∧ Below W3.heap.size W3 w3 ∧ Fits t c3 ∧ KidsO w3 W3.heap.size w3.heap.size a3 t.kids) (h4 : Bx1 t a c B w4 ∧ Below W4.heap.size W4 w4 ∧ Fits t c4 ∧ KidsO w4 W4.heap.size w4.heap.size a4 t.kids)
    (s2 : Below w2.heap.size w2 W3) (s3 : Below w3.heap.size w3 W4) (hBL : Below w2.heap.size w2 wf) (k3 : Kept P Q w3 wf) (k4 : Kept P Q w4 wf)
    (p1 : P < W3.heap.size ∨ w3.heap.size ≤ P) (p2 : Q < W3.heap.size ∨ w3.heap.size ≤ Q) (p3 : P < W4.heap.size ∨ w4.heap.size ≤ P) (p4 : Q < W4.heap.size ∨ w4.heap.size ≤ Q)
    (b3 : (wf.cell? ⟨P, 0, none⟩ = some (.int .i64 t.kind) ∧ wf.cell? ⟨P, 1, none⟩ = some (.string ⟨t.text.toArray⟩) ∧ wf.cell? ⟨P, 2, none⟩ = some (.slice (a3) t.kids.length c3) ∧ wf.cell? ⟨P, 3, none⟩ = some (.int .i64 t.pos))) (b4 : (wf.cell? ⟨Q, 0, none⟩ = some (.int .i64 t.kind) ∧ wf.cell? ⟨Q, 1, none⟩ = some (.string ⟨t.text.toArray⟩) ∧ wf.cell? ⟨Q, 2, none⟩ = some (.slice (a4) t.kids.length c4) ∧ wf.cell? ⟨Q, 3, none⟩ = some (.int .i64 t.pos))) : Two t a a3 a4 c c3 c4 B P Q wf ∧ Below w.heap.size w wf :=
  ⟨⟨HP.on hBL, h3.2.2.1, h4.2.2.1, b3, b4, _, _, _, _, h3.2.2.2.kept k3 (Nat.le_refl _) p1 p2, h4.2.2.2.kept k4 (Nat.le_refl _) p3 p4, s3.size, k3.1, k4.1, by have := s2.size; omega, p1, p2⟩, bext hb hBL⟩

theorem kids_old {w W : World} {a : Option Addr} {l : List Nd} (hk : Kids w w.heap.size a l) (hb : Below w.heap.size w W) : Kids W w.heap.size a l :=
  (hk.toZ.move (fun _ h => h) (fun p v hp hv => (hb.cell hp).trans hv)).toKids
theorem Bx3.of_two {t : Nd} {a a3 a4 : Option Addr} {c c3 c4 B P Q : Nat} {W : World} (h : Two t a a3 a4 c c3 c4 B P Q W) : Bx3 t t t a a4 a3 c c4 c3 B Q P W := by
  obtain ⟨n, m, n', m', k3, k4, -, h1, h2, -⟩ := h.apart
  exact ⟨h.bx.glob, h.bx.k1, h.bx.f1, h.bx.b1, k4.kidsZ.kids (fun b hb => by omega), h.f4, h.b4, k3.kidsZ.kids (fun b hb => by omega), h.f3, h.b3⟩

theorem Two.drew {t : Nd} {a a3 a4 : Option Addr} {c c3 c4 B P Q : Nat} {W : World} (h : Two t a a3 a4 c c3 c4 B P Q W) : Two t a a3 a4 c c3 c4 B P Q W.drew := by
  have hb : Below W.heap.size W W.drew := (Below.refl _ _).drew
  obtain ⟨n, m, n', m', k3, k4, h1⟩ := h.apart
  exact ⟨h.bx.on hb, h.f3, h.f4, cells_on hb h.b3.1 h.b3.2.1 h.b3.2.2.1 h.b3.2.2.2, cells_on hb h.b4.1 h.b4.2.1 h.b4.2.2.1 h.b4.2.2.2, n, m, n', m', k3.move (Nat.le_refl _) (Nat.le_refl _) (fun _ _ _ => rfl), k4.move (Nat.le_refl _) (Nat.le_refl _) (fun _ _ _ => rfl), h1⟩

/-- The copy, its first kid's text longer. -/
def putX (t : Nd) (k : Nd) (r : List Nd) : Nd := .mk t.kind t.text (.mk k.kind (k.text ++ [120]) k.kids k.pos :: r) t.pos
theorem putX_differs {t k : Nd} {r : List Nd} (h : t.kids = k :: r) : sameB 100 (putX t k r) t = false := by
  have e : sameB 99 (.mk k.kind (k.text ++ [120]) k.kids k.pos) k = false := by
    rw [sameB]
    have : ((Nd.mk k.kind (k.text ++ [120]) k.kids k.pos).text == k.text) = false := by
      simp
    rw [this]; simp
  rw [sameB, h]
  simp only [putX, Nd.kids_mk]
  rw [eqL, e]
  simp

theorem own_put {t k : Nd} {r : List Nd} {a a3 a4 : Option Addr} {c c3 c4 P Q : Nat} {w W : World} (hg : Glob w) (h : Two t a a3 a4 c c3 c4 w.heap.size P Q W) (hb : Below w.heap.size w W) (hk : Kids w w.heap.size a t.kids) (hkr : t.kids = k :: r) (hx : k.text.length ≤ 1048576) :
    ∃ g, a3 = some ⟨g, 0, none⟩ ∧ W.cell? ⟨g, 1, none⟩ = some (.string ⟨k.text.toArray⟩) ∧ W.frozen? ⟨g, 1, none⟩ = false ∧
      Bx3 t t (putX t k r) a a4 a3 c c4 c3 w.heap.size Q P (W.setCell ⟨g, 1, none⟩ (.string ⟨(k.text ++ [120]).toArray⟩)) ∧ Below w.heap.size w (W.setCell ⟨g, 1, none⟩ (.string ⟨(k.text ++ [120]).toArray⟩)) := by
  obtain ⟨n, m, n', m', k3, k4, hnm, h1, h2, hB, hP, hQ⟩ := h.apart
  obtain ⟨g, a', c', ha, hgm, hfz, ⟨q0, q1, q2, q3⟩, hf, hz⟩ := k3 0 (by rw [hkr]; simp)
  simp only [hkr, List.getElem_cons_zero, Nat.zero_mul, Nat.zero_add] at q0 q1 q2 q3 hf hz
  have hfar : ∀ p v, p.block ≠ g → W.cell? p = some v → (W.setCell ⟨g, 1, none⟩ (.string ⟨(k.text ++ [120]).toArray⟩)).cell? p = some v := fun p v hp hv => (cell_far_set hp).trans hv
  have hother : ∀ o v, o ≠ 1 → W.cell? ⟨g, o, none⟩ = some v → (W.setCell ⟨g, 1, none⟩ (.string ⟨(k.text ++ [120]).toArray⟩)).cell? ⟨g, o, none⟩ = some v := fun o v ho hv =>
    (World.cell?_setCell_other _ _ _ _ (by intro e; injection e with _ e _; exact ho e.symm)).trans hv
  have hsz : (W.setCell ⟨g, 1, none⟩ (.string ⟨(k.text ++ [120]).toArray⟩)).heap.size = W.heap.size := by simp
  have hb' : Below w.heap.size w (W.setCell ⟨g, 1, none⟩ (.string ⟨(k.text ++ [120]).toArray⟩)) := hb.setCell (p := ⟨g, 1, none⟩) (by show w.heap.size ≤ g; omega) _
  have hBg : w.heap.size ≠ g := by omega
  have hPg : P ≠ g := by omega
  have hQg : Q ≠ g := by omega
  refine ⟨g, ha, q1, hfz 1, ⟨hg.on hb', hk.on hb', h.bx.f1, ?_, ?_, h.f4, ?_, ?_, ?_, ?_⟩, hb'⟩
  · obtain ⟨b0, b1, b2, b3⟩ := h.bx.b1
    exact ⟨hfar ⟨_, _, none⟩ _ hBg b0, hfar ⟨_, _, none⟩ _ hBg b1, hfar ⟨_, _, none⟩ _ hBg b2, hfar ⟨_, _, none⟩ _ hBg b3⟩
  · exact (k4.kidsZ.move (fun b hb => hb) (fun p v hp hv => hfar p v (by omega) hv)).kids (fun b hb => by rw [hsz]; omega)
  · obtain ⟨b0, b1, b2, b3⟩ := h.b4
    exact ⟨hfar ⟨_, _, none⟩ _ hQg b0, hfar ⟨_, _, none⟩ _ hQg b1, hfar ⟨_, _, none⟩ _ hQg b2, hfar ⟨_, _, none⟩ _ hQg b3⟩
  · rw [kids_iff]
    intro j hj
    cases j with
    | zero =>
      obtain ⟨e1, e2, e3, e4, e5, e6, e7, e8⟩ := hf
      refine ⟨g, 0, a', c', ha, by rw [hsz]; omega, ⟨hother 0 _ (by omega) q0, World.cell?_setCell_same _ _ _ q1, hother 2 _ (by omega) q2, hother 3 _ (by omega) q3⟩, ⟨e1, e2, e3, e4, ?_, e6, e7, e8⟩, ?_⟩
      · show (k.text ++ [120]).length ≤ _
        rw [List.length_append]
        simp only [List.length_cons, List.length_nil]
        omega
      · exact (hz.move (fun b hb => hb) (fun p v hp hv => hfar p v hp.2 hv)).kids (fun b hb => by rw [hsz]; omega)
    | succ j =>
      have hj' : j + 1 < t.kids.length := by rw [hkr]; exact hj
      obtain ⟨g2, a2, c2, ha2, -, -, ⟨y0, y1, y2, y3⟩, hf2, hz2⟩ := k3 (j + 1) hj'
      rw [ha] at ha2
      injection ha2 with ha2
      injection ha2 with ha2 _ _
      subst ha2
      simp only [hkr, List.getElem_cons_succ] at y0 y1 y2 y3 hf2 hz2
      refine ⟨g, 0, a2, c2, ha, by rw [hsz]; omega, ?_, hf2, (hz2.move (fun b hb => hb) (fun p v hp hv => hfar p v hp.2 hv)).kids (fun b hb => by rw [hsz]; omega)⟩
      rw [Nat.zero_add]
      exact ⟨hother _ _ (by omega) y0, hother _ _ (by omega) y1, hother _ _ (by omega) y2, hother _ _ (by omega) y3⟩
  · obtain ⟨e1, e2, e3, e4, e5, e6, e7, e8⟩ := h.f3
    rw [hkr] at e6 e8
    exact ⟨e1, e2, e3, e4, e5, e6, e7, e8⟩
  · obtain ⟨b0, b1, b2, b3⟩ := h.b3
    rw [hkr] at b2
    exact ⟨hfar ⟨_, _, none⟩ _ hPg b0, hfar ⟨_, _, none⟩ _ hPg b1, hfar ⟨_, _, none⟩ _ hPg b2, hfar ⟨_, _, none⟩ _ hPg b3⟩

theorem bytes_snoc (l : List UInt8) : ((⟨l.toArray⟩ : ByteArray) ++ (⟨#[120]⟩ : ByteArray)) = ⟨(l ++ [120]).toArray⟩ := by
  apply ByteArray.ext
  rw [ByteArray.data_append]
  simp

/-- What Find told, while kids in it are turned. -/
def LI (l : List Nd) (n g : Nat) (W : World) : Prop :=
  ∀ j (hj : j < l.length), ∃ a' c', Four W g (j * 4) l[j] a' c' ∧ l[j].kids.length ≤ c' ∧ c' ≤ 9223372036854775807 ∧ (l[j].kids ≠ [] → ∃ b off u, a' = some ⟨b, off, none⟩ ∧ b ≠ g ∧ Fresh n W b ∧ W.cell? ⟨b, off, none⟩ = some u)
theorem LI.put {l : List Nd} {n g b off : Nat} {W : World} (h : LI l n g W) (hbg : b ≠ g) {u : Value} (hu : W.cell? ⟨b, off, none⟩ = some u) (v : Value) : LI l n g (W.setCell ⟨b, off, none⟩ v) := by
  intro j hj
  obtain ⟨a', c', ⟨y0, y1, y2, y3⟩, h1, h2, h3⟩ := h j hj
  have hc : ∀ o x, W.cell? ⟨g, o, none⟩ = some x → (W.setCell ⟨b, off, none⟩ v).cell? ⟨g, o, none⟩ = some x := fun o x hx => (cell_far_set (Ne.symm hbg)).trans hx
  refine ⟨a', c', ⟨hc _ _ y0, hc _ _ y1, hc _ _ y2, hc _ _ y3⟩, h1, h2, fun hne => ?_⟩
  obtain ⟨b2, o2, u2, e, hb2, hfr, hu2⟩ := h3 hne
  by_cases he : (⟨b, off, none⟩ : Addr) = ⟨b2, o2, none⟩
  · injection he with e1 e2 _
    subst e1 e2
    exact ⟨b, off, v, e, hb2, hfr.set _ _, World.cell?_setCell_same _ _ _ hu⟩
  · exact ⟨b2, o2, u2, e, hb2, hfr.set _ _, (World.cell?_setCell_other _ _ _ _ he).trans hu2⟩

section
variable {t t3 : Nd} {a a4 a3 : Option Addr} {c c4 c3 B Q P : Nat} {W : World}
theorem ow_find (h : Bx3 t t t3 a a4 a3 c c4 c3 B Q P W) (hN : (walkL 100 t).length ≤ 1048576) (hh : t.height ≤ 100) : Calls Try.prog 18 #[.agg #[.int .i64 t.kind, .string ⟨t.text.toArray⟩, .slice a t.kids.length c, .int .i64 t.pos], .int .i64 t.kind] W
    (fun e w' => ∃ (g cap : Nat) (l : List Nd), e = .returned (.slice (some ⟨g, 0, none⟩) l.length cap) ∧ l.length ≤ cap ∧ cap ≤ 9223372036854775807 ∧ l.length ≤ 1048576 ∧ Hid (LI l W.heap.size g w' ∧ Below W.heap.size W w')) :=
  (find_any t a c t.kind W hN h.k1 h.f1).mono (fun e w' ⟨hb, v, he, hrow⟩ => by
    have hmem : t ∈ findL t.kind (nodesL 100 t) := List.mem_filter.2 ⟨by rw [nodesL_succ]; simp, by simp⟩
    have hlen : (findL t.kind (nodesL 100 t)).length ≤ 1048576 := Nat.le_trans (findL_len _ _) (by unfold nodesL; rw [List.length_map]; exact hN)
    obtain ⟨g, cap, rfl, hg1, hg2, hcap, hmax, hfz, h4⟩ := hrow.four (List.ne_nil_of_mem hmem)
    refine ⟨g, cap, _, he, hcap, hmax, hlen, Lib.hid ⟨fun j hj => ?_, hb⟩⟩
    obtain ⟨a', c', h5, h6, h7⟩ := h4 j hj
    refine ⟨a', c', h5, h6.2.2.2.2.2.1, h6.2.2.2.2.2.2.1, fun hne => ?_⟩
    obtain ⟨b, off, a2, c2, e1, hbz, h8, -⟩ := kidsZ_iff.1 h7 0 (List.length_pos_iff.2 hne)
    refine ⟨b, off, _, e1, hbz.2, ?_, by have := h8.1; rw [Nat.zero_mul, Nat.add_zero] at this; exact this⟩
    rcases hbz.1 with h9 | h9
    · obtain ⟨_, x, hx, hx2⟩ := h9
      have := nodes_height 100 t x hx
      omega
    · exact h9.low (by have := h9.lo; omega))
theorem ow_same1 (h : Bx3 t t t3 a a4 a3 c c4 c3 B Q P W) (hh : t.height ≤ 100) : Calls Try.prog 10 #[.agg #[.int .i64 t.kind, .string ⟨t.text.toArray⟩, .slice a t.kids.length c, .int .i64 t.pos], .agg #[.int .i64 t.kind, .string ⟨t.text.toArray⟩, .slice a4 t.kids.length c4, .int .i64 t.pos]] W (Bx3Post t t t3 a a4 a3 c c4 c3 B Q P (.bool true) W) :=
  bx3_post h (by have := Same_any t t a a4 c c4 W h.k1 h.f1 h.k2 h.f2; rw [sameB_refl, decide_eq_true hh] at this; exact this)
theorem ow_same2 (h : Bx3 t t t3 a a4 a3 c c4 c3 B Q P W) (hd : sameB 100 t3 t = false) : Calls Try.prog 10 #[.agg #[.int .i64 t3.kind, .string ⟨t3.text.toArray⟩, .slice a3 t3.kids.length c3, .int .i64 t3.pos], .agg #[.int .i64 t.kind, .string ⟨t.text.toArray⟩, .slice a4 t.kids.length c4, .int .i64 t.pos]] W (Bx3Post t t t3 a a4 a3 c c4 c3 B Q P (.bool false) W) :=
  bx3_post h (by have := Same_any t3 t a3 a4 c3 c4 W h.k3 h.f3 h.k2 h.f2; rw [hd] at this; exact this)
theorem ow_awake (h : Bx3 t t t3 a a4 a3 c c4 c3 B Q P W) : Calls Try.prog 12 #[] W (Bx3Post t t t3 a a4 a3 c c4 c3 B Q P (.bool true) W) := bx3_post h (awake_any W h.glob)
end
end Go.Proofs.Ytnmebgiiajnnjaa
