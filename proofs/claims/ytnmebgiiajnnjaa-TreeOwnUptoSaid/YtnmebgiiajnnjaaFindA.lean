/-
  tree.Find: what its loop keeps. Plain.
-/
import Derived.Test.YtnmebgiiajnnjaaHeldK
import Derived.Test.YtnmebgiiajnnjaaCopyD
import Derived.Test.YtnmebgiiajnnjaaWalkP
import Derived.Laws.OwnMore
import Derived.RangeFuncNested
import Derived.RangeFuncBound
import Derived.RangeFuncCalls
namespace Go.Proofs.Ytnmebgiiajnnjaa
set_option linter.unusedSimpArgs false
set_option linter.unusedVariables false
open Go.RowKit

theorem setCell_comm' (w : World) (p q : Addr) (u v : Value) (h : p.block ≠ q.block) : (w.setCell p u).setCell q v = (w.setCell q v).setCell p u := by
  simp only [World.setCell]
  congr 1
  apply Array.ext
  · simp
  · intro i h1 h2
    simp only [Array.getElem_modify]
    split <;> split <;> simp_all

/-- The nodes of a kind. -/
def findL (kind : Int) (l : List Nd) : List Nd := l.filter (fun t => t.kind == kind)
theorem findL_no {kind : Int} {l : List Nd} {x : Nd} (h : (x.kind == kind) = false) : findL kind (l ++ [x]) = findL kind l := by
  unfold findL; rw [List.filter_append, List.filter_cons, h]; simp
theorem findL_yes {kind : Int} {l : List Nd} {x : Nd} (h : (x.kind == kind) = true) : findL kind (l ++ [x]) = findL kind l ++ [x] := by
  unfold findL; rw [List.filter_append, List.filter_cons, h]; simp
theorem findL_len (kind : Int) (l : List Nd) : (findL kind l).length ≤ l.length := List.length_filter_le _ _

/-- The boxes of Find that its loop reads. -/
structure FBox (B : Nat) (kind : Int) (v : Value) (W : World) : Prop where
  out : W.cell? ⟨B + 1 + 1, 0, none⟩ = some v
  fr : W.frozen? ⟨B + 1 + 1, 0, none⟩ = false
  k : W.cell? ⟨B + 1, 0, none⟩ = some (.int .i64 kind)
theorem FBox.lt {B : Nat} {kind : Int} {v : Value} {W : World} (h : FBox B kind v W) : B + 1 + 1 < W.heap.size := cell_lt h.out
theorem FBox.below {B n : Nat} {kind : Int} {v : Value} {W W' : World} (h : FBox B kind v W) (hb : Below n W W') (hn : B + 1 + 1 < n) : FBox B kind v W' := by
  obtain ⟨hc, hf⟩ := bcell hb
  exact ⟨(hc _ _ hn).trans h.out, (hf _ _ hn).trans h.fr, (hc _ _ (by omega)).trans h.k⟩

/-- What a round of Find may turn: the box of the slice, and the row that it leads to. -/
def mineF (B : Nat) (W : World) (b : Nat) : Prop := b = B + 1 + 1 ∨ ∃ v, W.cell? ⟨B + 1 + 1, 0, none⟩ = some v ∧ v.ownBlock = some b

/-- What holds between two rounds. -/
def FInv (Zo : Nat → Prop) (kind : Int) (w : World) (l : List Nd) (W : World) : Prop :=
  ∃ v, FBox w.heap.size kind v W ∧ Row Zo (w.heap.size + 1) (findL kind l) v W ∧ Below w.heap.size w W

theorem KeepsOthers.of_below' {W W' : World} (h : Below W.heap.size W W') : KeepsOthers W W' := ⟨h.size, fun k o hk _ => (h.block k (Array.getElem?_eq_some_iff.1 hk).1).trans hk⟩

theorem set_four (A : List Value) (z0 z1 z2 z3 u0 u1 u2 u3 : Value) (n : Nat) (hn : A.length = n) :
    ((((A ++ [z0, z1, z2, z3]).set n u0).set (n + 1) u1).set (n + 2) u2).set (n + 3) u3 = A ++ [u0, u1, u2, u3] := by
  subst hn
  simp [List.set_append]

theorem find_end {Zo : Nat → Prop} {kind : Int} {k gg cap : Nat} {x : Nd} {a3 : Option Addr} {c3 : Nat} {l : List Nd} {v : Value} {w W wP w4 : World} {L : List (Nd × Option Addr × Nat)} {z0 z1 z2 z3 : Value}
    (hZ : ∀ b, Zo b → b < w.heap.size) (hbx : FBox w.heap.size kind v W) (hbw : Below w.heap.size w W) (hL : L.map (·.1) = l) (hk : L.length = k)
    (hLX : ∀ y, y ∈ L → Fits y.1 y.2.2 ∧ KidsZ W (fun b => (Zo b ∨ Fresh (w.heap.size + 1 + 2) W b) ∧ some b ≠ v.ownBlock) y.2.1 y.1.kids)
    (hown : W.ownsRow (w.heap.size + 1 + 2) 24 4 v k (L.flatMap node4))
    (hP : Below W.heap.size W wP) (hfit : Fits x c3) (hz : KidsZ wP (fun b => Zo b ∨ Fresh W.heap.size wP b) a3 x.kids)
    (hown4 : w4.ownsRow (w.heap.size + 1 + 2) 24 4 (.slice (some ⟨gg, 0, none⟩) (k + 1) cap) (k + 1) (L.flatMap node4 ++ [z0, z1, z2, z3]))
    (hgrow : wP.grownBy w4 v.ownBlock) (hat : v.ownBlock = some gg ∨ gg = wP.heap.size) (hlt4 : gg < w4.heap.size) :
    ∃ w', w' = (((((w4.setCell ⟨gg, k * 4, none⟩ (.int .i64 x.kind)).setCell ⟨gg, k * 4 + 1, none⟩ (.string ⟨x.text.toArray⟩)).setCell ⟨gg, k * 4 + 2, none⟩ (.slice a3 x.kids.length c3)).setCell ⟨gg, k * 4 + 3, none⟩ (.int .i64 x.pos)).setCell ⟨w.heap.size + 1 + 1, 0, none⟩ (.slice (some ⟨gg, 0, none⟩) (k + 1) cap)) ∧
      (∃ v', FBox w.heap.size kind v' w' ∧ Row Zo (w.heap.size + 1) (l ++ [x]) v' w' ∧ Below w.heap.size w w') ∧ KeepsOthers W w' ∧ KB w.heap.size (mineF w.heap.size) W w' := by
  have hlw := hbx.lt
  have hrl := hown.lt
  have hs0 := hbw.size
  have hsP := hP.size
  have hs4 := hgrow.size
  have hl4 : (L.flatMap node4).length = k * 4 := by rw [cells_len, hk]
  -- the row, with the node stored
  obtain ⟨o1, g1⟩ := hown4.stored (k * 4) (.int .i64 x.kind)
  obtain ⟨o2, g2⟩ := o1.stored (k * 4 + 1) (.string ⟨x.text.toArray⟩)
  obtain ⟨o3, g3⟩ := o2.stored (k * 4 + 2) (.slice a3 x.kids.length c3)
  obtain ⟨o4, g4⟩ := o3.stored (k * 4 + 3) (.int .i64 x.pos)
  rw [set_four _ _ _ _ _ _ _ _ _ _ hl4] at o4
  obtain ⟨w5, hw5⟩ : ∃ w5, ((((w4.setCell ⟨gg, k * 4, none⟩ (.int .i64 x.kind)).setCell ⟨gg, k * 4 + 1, none⟩ (.string ⟨x.text.toArray⟩)).setCell ⟨gg, k * 4 + 2, none⟩ (.slice a3 x.kids.length c3)).setCell ⟨gg, k * 4 + 3, none⟩ (.int .i64 x.pos)) = w5 := ⟨_, rfl⟩
  have hfar5 : ∀ b, b ≠ gg → w5.heap[b]? = w4.heap[b]? := fun b hb => by
    rw [← hw5]
    rw [Below.heap_setCell _ ⟨gg, _, none⟩ _ b hb, Below.heap_setCell _ ⟨gg, _, none⟩ _ b hb, Below.heap_setCell _ ⟨gg, _, none⟩ _ b hb, Below.heap_setCell _ ⟨gg, _, none⟩ _ b hb]
  have hs5 : w5.heap.size = w4.heap.size := by rw [← hw5]; simp [World.setCell]
  have hos5 : w5.os = w4.os ∧ w5.tape = w4.tape ∧ w5.output = w4.output := by rw [← hw5]; exact ⟨rfl, rfl, rfl⟩
  rw [hw5] at o4 ⊢
  clear o1 o2 o3 g1 g2 g3 g4
  have hgg : w.heap.size + 1 + 2 ≤ gg := by
    rcases hat with h | h
    · exact (hrl _ h).1
    · omega
  have hgrow5 : wP.grownBy w5 v.ownBlock := ⟨hos5.1.trans hgrow.os, hos5.2.1.trans hgrow.tape, hos5.2.2.trans hgrow.output, by omega, fun b hb hne => by
    rw [hfar5 b (fun e => by
      subst e
      rcases hat with h | h
      · exact hne h.symm
      · omega)]
    exact hgrow.block b hb hne⟩
  have hzP : ∀ y, y ∈ L → Fits y.1 y.2.2 ∧ KidsZ wP (fun b => (Zo b ∨ Fresh (w.heap.size + 1 + 2) wP b) ∧ some b ≠ v.ownBlock) y.2.1 y.1.kids := fun y hy => ⟨(hLX y hy).1, zoneOn (hLX y hy).2 hP⟩
  have hsn := Row.snoc (Zo := Zo) (B := w.heap.size + 1) (L := L) (v := v) (W := wP) (W' := w5) (y := x) (a' := a3) (c' := c3) (gg := gg) (cap := cap) (fun b hb => by have := hZ b hb; omega) (by omega) hzP hfit
    (hz.mono (fun b hb => ⟨hb.imp id (fun h => h.low (by have := h.lo; omega)), fun e => by
      obtain ⟨e1, e2⟩ := hrl b e.symm
      rcases hb with h1 | h1
      · have := hZ _ h1; omega
      · have := h1.lo; omega⟩)) (by rw [hk]; exact o4) hgrow5 hat
  rw [hk, hL] at hsn
  have hrow' := hsn.put1 (fun b hb => by have := hZ b hb; omega) 0 (.slice (some ⟨gg, 0, none⟩) (k + 1) cap)
  -- what lies where it lay
  have hb5 : Below (w.heap.size + 1 + 1) wP w5 := (Below.refl _ _).grown hgrow5 (by omega) (fun j e => by have := (hrl j e).1; omega)
  have hb5' : Below (w.heap.size + 1 + 1 + 1) wP w5 := (Below.refl _ _).grown hgrow5 (by omega) (fun j e => by have := (hrl j e).1; omega)
  have hbx5 : FBox w.heap.size kind v w5 := (hbx.below hP hlw).below hb5' (by omega)
  have hfarW : ∀ b, b < W.heap.size → some b ≠ v.ownBlock → b ≠ w.heap.size + 1 + 1 → (w5.setCell ⟨w.heap.size + 1 + 1, 0, none⟩ (.slice (some ⟨gg, 0, none⟩) (k + 1) cap)).heap[b]? = W.heap[b]? := fun b hb hne hno => by
    rw [Below.heap_setCell w5 ⟨w.heap.size + 1 + 1, 0, none⟩ _ b hno, hgrow5.block b (by omega) hne]
    exact hP.block b hb
  refine ⟨_, rfl, ⟨_, ⟨?_, ?_, ?_⟩, hrow', ?_⟩, ⟨?_, ?_⟩, ⟨?_, ?_, ?_, ?_⟩⟩
  · exact World.cell?_setCell_same' _ _ _ (by rw [hbx5.out]; rfl)
  · rw [World.frozen?_setCell]; exact hbx5.fr
  · rw [cell_far_set (p := ⟨w.heap.size + 1, 0, none⟩) (by show w.heap.size + 1 ≠ w.heap.size + 1 + 1; omega)]; exact hbx5.k
  · exact ((bext hbw hP).trans (hb5.mono (by omega))).setCell (p := ⟨w.heap.size + 1 + 1, 0, none⟩) (by show w.heap.size ≤ w.heap.size + 1 + 1; omega) _
  · simp [World.setCell]; omega
  · intro b o hb ho
    refine (hfarW b (Array.getElem?_eq_some_iff.1 hb).1 ?_ ?_).trans hb
    · intro e
      rcases hown.2 with ⟨rfl, _⟩ | ⟨g, cap', cur, rfl, _, hg, _⟩
      · cases e
      · obtain rfl : b = g := by simpa [Value.ownBlock] using e
        rw [hg] at hb
        obtain rfl := Option.some.inj hb
        cases ho
    · intro e
      subst e
      have := hbx.out
      unfold World.cell? at this
      rw [hb] at this
      cases o <;> simp_all [Obj.isCells]
  · simp [World.setCell]; omega
  · intro p u hu hm
    have hpb := cell_lt' hu
    exact (World.cell?_of_block (w := W) (hfarW p.block hpb (fun e => hm (.inr ⟨v, hbx.out, e.symm⟩)) (fun e => hm (.inl e)))).trans hu
  · intro b hb hm
    rcases hm with rfl | ⟨v', hc, ho⟩
    · exact .inl rfl
    · rw [World.cell?_setCell_same' _ _ _ (by rw [hbx5.out]; rfl)] at hc
      obtain rfl := Option.some.inj hc
      obtain rfl : gg = b := by simpa [Value.ownBlock] using ho
      rcases hat with h | h
      · exact .inr ⟨v, hbx.out, h⟩
      · omega
  · intro _ b hm
    have hs' : (w5.setCell ⟨w.heap.size + 1 + 1, 0, none⟩ (.slice (some ⟨gg, 0, none⟩) (k + 1) cap)).heap.size = w4.heap.size := by simp [World.setCell]; exact hs5
    rcases hm with rfl | ⟨v', hc, ho⟩
    · exact ⟨by omega, by omega⟩
    · rw [World.cell?_setCell_same' _ _ _ (by rw [hbx5.out]; rfl)] at hc
      obtain rfl := Option.some.inj hc
      obtain rfl : gg = b := by simpa [Value.ownBlock] using ho
      exact ⟨by omega, by omega⟩
end Go.Proofs.Ytnmebgiiajnnjaa
