/-
  copies lie in a row: plain laws
-/
import Derived.Test.YtnmebgiiajnnjaaCopyA
namespace Go.Proofs.Ytnmebgiiajnnjaa
set_option linter.unusedSimpArgs false
set_option linter.unusedVariables false
open Go.RowKit

/-- The four cells of a node. -/
def node4 (x : Nd × Option Addr × Nat) : List Value := [.int .i64 x.1.kind, .string ⟨x.1.text.toArray⟩, .slice x.2.1 x.1.kids.length x.2.2, .int .i64 x.1.pos]

/-- The kids that are copied lie in a row of the call's own. -/
def Row (Zo : Nat → Prop) (B : Nat) (l : List Nd) (v : Value) (wr : World) : Prop :=
  ∃ L : List (Nd × Option Addr × Nat), L.map (·.1) = l ∧ wr.ownsRow (B + 2) 24 4 v l.length (L.flatMap node4) ∧
    ∀ x, x ∈ L → Fits x.1 x.2.2 ∧ KidsZ wr (fun b => (Zo b ∨ Fresh (B + 2) wr b) ∧ some b ≠ v.ownBlock) x.2.1 x.1.kids

/-- The boxes of copied: the node whose kids are filled in; the result. -/
def Boxes (t : Nd) (B : Nat) (v : Value) (wr : World) : Prop :=
  (wr.cell? ⟨B, 0, none⟩ = some (.int .i64 t.kind) ∧ wr.cell? ⟨B, 1, none⟩ = some (.string ⟨t.text.toArray⟩) ∧ wr.cell? ⟨B, 2, none⟩ = some v ∧ wr.cell? ⟨B, 3, none⟩ = some (.int .i64 t.pos) ∧ wr.frozen? ⟨B, 2, none⟩ = false) ∧
  (wr.cell? ⟨B + 1, 0, none⟩ = some (.int .i64 0) ∧ wr.cell? ⟨B + 1, 1, none⟩ = some (.string ⟨#[]⟩) ∧ wr.cell? ⟨B + 1, 2, none⟩ = some (.slice none 0 0) ∧ wr.cell? ⟨B + 1, 3, none⟩ = some (.int .i64 0)) ∧
  (wr.frozen? ⟨B + 1, 0, none⟩ = false ∧ wr.frozen? ⟨B + 1, 1, none⟩ = false ∧ wr.frozen? ⟨B + 1, 2, none⟩ = false ∧ wr.frozen? ⟨B + 1, 3, none⟩ = false)


theorem Boxes.lt {t : Nd} {B : Nat} {v : Value} {wr : World} (h : Boxes t B v wr) : B + 1 < wr.heap.size := cell_lt h.2.1.1
theorem Boxes.below {t : Nd} {B n : Nat} {v : Value} {W W' : World} (h : Boxes t B v W) (hb : Below n W W') (hn : B + 1 < n) : Boxes t B v W' := by
  obtain ⟨hc, hfz⟩ := bcell hb
  obtain ⟨⟨q0, q1, q2, q3, q4⟩, ⟨r0, r1, r2, r3⟩, f0, f1, f2, f3⟩ := h
  exact ⟨⟨(hc _ _ (by omega)).trans q0, (hc _ _ (by omega)).trans q1, (hc _ _ (by omega)).trans q2, (hc _ _ (by omega)).trans q3, (hfz _ _ (by omega)).trans q4⟩,
    ⟨(hc _ _ (by omega)).trans r0, (hc _ _ (by omega)).trans r1, (hc _ _ (by omega)).trans r2, (hc _ _ (by omega)).trans r3⟩,
    (hfz _ _ (by omega)).trans f0, (hfz _ _ (by omega)).trans f1, (hfz _ _ (by omega)).trans f2, (hfz _ _ (by omega)).trans f3⟩
theorem Boxes.on {t : Nd} {B : Nat} {v : Value} {W W' : World} (h : Boxes t B v W) (hb : Below W.heap.size W W') : Boxes t B v W' := h.below hb h.lt
theorem Boxes.put {t : Nd} {B : Nat} {v : Value} {W : World} (h : Boxes t B v W) (u : Value) : Boxes t B u (W.setCell ⟨B, 2, none⟩ u) := by
  obtain ⟨⟨q0, q1, q2, q3, q4⟩, ⟨r0, r1, r2, r3⟩, f0, f1, f2, f3⟩ := h
  refine ⟨⟨?_, ?_, ?_, ?_, ?_⟩, ⟨?_, ?_, ?_, ?_⟩, ?_, ?_, ?_, ?_⟩ <;> simp [go_sem, q0, q1, q2, q3, q4, r0, r1, r2, r3, f0, f1, f2, f3]

theorem Row.nil (Zo : Nat → Prop) (B : Nat) (wr : World) : Row Zo B [] (.slice none 0 0) wr := ⟨[], rfl, World.ownsRow_nil _ _ _ _, fun x hx => by cases hx⟩
theorem Row.lt {Zo : Nat → Prop} {B : Nat} {l : List Nd} {v : Value} {wr : World} (h : Row Zo B l v wr) : ∀ g, v.ownBlock = some g → B + 2 ≤ g ∧ g < wr.heap.size := by
  intro g hg
  obtain ⟨L, _, hown, _⟩ := h
  rcases hown.2 with ⟨rfl, _⟩ | ⟨g', cap, cur, rfl, hb, hh, _⟩
  · cases hg
  · obtain rfl : g' = g := by simpa [Value.ownBlock] using hg
    exact ⟨hb, (Array.getElem?_eq_some_iff.1 hh).1⟩
theorem ownsRow_of {w w' : World} {base : Nat} {e : TypeId} {size : Nat} {v : Value} {n : Nat} {xs : List Value} (h : w.ownsRow base e size v n xs) (hk : ∀ g, v.ownBlock = some g → w'.heap[g]? = w.heap[g]?) : w'.ownsRow base e size v n xs := by
  obtain ⟨h1, h2⟩ := h
  refine ⟨h1, ?_⟩
  rcases h2 with h2 | ⟨g, cap, cur, rfl, hb, hh, hr⟩
  · exact .inl h2
  · exact .inr ⟨g, cap, cur, rfl, hb, (hk g rfl).trans hh, hr⟩
/-- Blocks that are turned lie neither in the row nor among what is below it. -/
theorem Row.keep {Zo : Nat → Prop} {B : Nat} {l : List Nd} {v : Value} {W W' : World} (h : Row Zo B l v W) (hZ : ∀ b, Zo b → b < B) (hs : W.heap.size ≤ W'.heap.size)
    (hk : ∀ b, b < W.heap.size → b ≠ B → W'.heap[b]? = W.heap[b]?) (hB : B ≤ W.heap.size) : Row Zo B l v W' := by
  have hl := h.lt
  obtain ⟨L, hL, hown, hx⟩ := h
  refine ⟨L, hL, ownsRow_of hown (fun g hg => hk g (hl g hg).2 (by have := (hl g hg).1; omega)), fun x hxL => ⟨(hx x hxL).1, (hx x hxL).2.move (fun b hb => ⟨?_, hb.2⟩) (fun p u hp hu => ?_)⟩⟩
  · rcases hb.1 with h1 | h1
    · exact .inl h1
    · exact .inr (h1.keep (hk _ h1.hi (by have := h1.lo; omega)))
  · have hlt := cell_lt' hu
    refine (World.cell?_of_block (w := W) (hk p.block hlt ?_)).trans hu
    rcases hp.1 with h1 | h1
    · have := hZ _ h1; omega
    · have := h1.lo; omega
theorem Row.below {Zo : Nat → Prop} {B : Nat} {l : List Nd} {v : Value} {W W' : World} (h : Row Zo B l v W) (hZ : ∀ b, Zo b → b < B) (hb : Below W.heap.size W W') (hB : B ≤ W.heap.size) : Row Zo B l v W' :=
  h.keep hZ hb.size (fun b hb' _ => hb.block b hb') hB
theorem Row.put {Zo : Nat → Prop} {B : Nat} {l : List Nd} {v : Value} {W : World} (h : Row Zo B l v W) (hZ : ∀ b, Zo b → b < B) (hB : B ≤ W.heap.size) (u : Value) : Row Zo B l v (W.setCell ⟨B, 2, none⟩ u) :=
  h.keep hZ (by simp [World.setCell]) (fun b _ hne => Below.heap_setCell W ⟨B, 2, none⟩ u b hne) hB
/-- One more copy, appended. -/
theorem Row.snoc {Zo : Nat → Prop} {B : Nat} {L : List (Nd × Option Addr × Nat)} {v : Value} {W W' : World} {y : Nd} {a' : Option Addr} {c' gg cap : Nat} (hZ : ∀ b, Zo b → b < B) (hB : B ≤ W.heap.size)
    (hx : ∀ x, x ∈ L → Fits x.1 x.2.2 ∧ KidsZ W (fun b => (Zo b ∨ Fresh (B + 2) W b) ∧ some b ≠ v.ownBlock) x.2.1 x.1.kids)
    (hy : Fits y c') (hz : KidsZ W (fun b => (Zo b ∨ Fresh (B + 2) W b) ∧ some b ≠ v.ownBlock) a' y.kids)
    (hown : W'.ownsRow (B + 2) 24 4 (.slice (some ⟨gg, 0, none⟩) (L.length + 1) cap) (L.length + 1) (L.flatMap node4 ++ node4 (y, a', c')))
    (hgrow : W.grownBy W' v.ownBlock) (hgg : v.ownBlock = some gg ∨ gg = W.heap.size) : Row Zo B (L.map (·.1) ++ [y]) (.slice (some ⟨gg, 0, none⟩) (L.length + 1) cap) W' := by
  have hmv : ∀ {aa : Option Addr} {ll : List Nd}, KidsZ W (fun b => (Zo b ∨ Fresh (B + 2) W b) ∧ some b ≠ v.ownBlock) aa ll →
      KidsZ W' (fun b => (Zo b ∨ Fresh (B + 2) W' b) ∧ some b ≠ (Value.slice (some ⟨gg, 0, none⟩) (L.length + 1) cap).ownBlock) aa ll := by
    intro aa ll h
    have hs := hgrow.size
    refine h.move (fun b hb => ⟨?_, ?_⟩) (fun p u hp hu => ?_)
    · rcases hb.1 with h1 | h1
      · exact .inl h1
      · exact .inr (h1.keep (hgrow.block b h1.hi hb.2))
    · intro e
      obtain rfl : b = gg := by simpa [Value.ownBlock] using e
      rcases hgg with h1 | h1
      · exact hb.2 h1.symm
      · rcases hb.1 with h2 | h2
        · have := hZ _ h2; omega
        · have := h2.hi; omega
    · exact (hgrow.cell_far p (cell_lt' hu) hp.2).trans hu
  refine ⟨L ++ [(y, a', c')], by simp, ?_, fun x hxL => ?_⟩
  · rw [List.flatMap_append, List.length_append, List.length_map, List.length_singleton]
    simpa using hown
  · rcases List.mem_append.1 hxL with h | h
    · exact ⟨(hx x h).1, hmv (hx x h).2⟩
    · obtain rfl := List.mem_singleton.1 h
      exact ⟨hy, hmv hz⟩
end Go.Proofs.Ytnmebgiiajnnjaa
