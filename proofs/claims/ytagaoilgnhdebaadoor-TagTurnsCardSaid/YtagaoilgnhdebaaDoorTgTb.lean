/-
  tag: TagTurns: two constraints made as the program's, two new blocks for them, in whatever order; the constraints over them.
-/
import Derived.Test.YtagaoilgnhdebaaDoorTgTa
namespace Go.Proofs.YtagaoilgnhdebaaDoor
set_option linter.unusedSimpArgs false
set_option linter.unusedVariables false
open Go.RowKit

theorem Xids.inside {w : World} {Zo : Nat → Prop} : ∀ (t : Xp) (a : Option Addr), Xids w Zo a t.kids → Xids w (fun b => Zo b ∧ b < w.heap.size) a t.kids := by
  refine Xp.ind (fun t ih a h => ?_)
  rw [xids_iff] at h ⊢
  intro j hj
  obtain ⟨b, off, a', c', ha, hb, h3, hf, hn⟩ := h j hj
  exact ⟨b, off, a', c', ha, ⟨hb, cell_lt1 h3.1⟩, h3, hf, ih _ (List.getElem_mem hj) a' hn⟩

/-- In the midst of the region: what was there is kept; these blocks are new and hold nothing yet; these constraints are known, none of them in those blocks. -/
structure Tt (w0 : World) (x : Xp) (a0 : Option Addr) (c0 : Nat) (y : Xp) (b0 : Option Addr) (d0 : Nat) (l : List Nat) (K : List (Xp × Option Addr × Nat)) (W : World) : Prop where
  below : Below w0.heap.size w0 W
  k1 : Xids w0 Any a0 x.kids ∧ Fitx x c0
  k2 : Xids w0 Any b0 y.kids ∧ Fitx y d0
  box1 : (W.cell? ⟨w0.heap.size, 0, none⟩ = some (.string ⟨x.op.toArray⟩) ∧ W.cell? ⟨w0.heap.size, 1, none⟩ = some (.string ⟨x.tag.toArray⟩) ∧ W.cell? ⟨w0.heap.size, 2, none⟩ = some (.slice a0 x.kids.length c0))
  box2 : (W.cell? ⟨w0.heap.size + 1, 0, none⟩ = some (.string ⟨y.op.toArray⟩) ∧ W.cell? ⟨w0.heap.size + 1, 1, none⟩ = some (.string ⟨y.tag.toArray⟩) ∧ W.cell? ⟨w0.heap.size + 1, 2, none⟩ = some (.slice b0 y.kids.length d0))
  slots : ∀ p, p ∈ l → Slots p W ∧ w0.heap.size + 2 ≤ p
  known : ∀ k, k ∈ K → Xids W (fun b => b ∉ l) k.2.1 k.1.kids ∧ Fitx k.1 k.2.2
section
variable {w0 : World} {x : Xp} {a0 : Option Addr} {c0 : Nat} {y : Xp} {b0 : Option Addr} {d0 : Nat} {l : List Nat} {K : List (Xp × Option Addr × Nat)} {W W' : World}
theorem Tt.on (h : Tt w0 x a0 c0 y b0 d0 l K W) (hb : Below W.heap.size W W') : Tt w0 x a0 c0 y b0 d0 l K W' :=
  ⟨bext h.below hb, h.k1, h.k2, three_on' hb h.box1.1 h.box1.2.1 h.box1.2.2, three_on' hb h.box2.1 h.box2.2.1 h.box2.2.2,
    fun p hp => ⟨(h.slots p hp).1.grown (row := none) ⟨hb.os, hb.tape, hb.output, hb.size, fun k hk _ => hb.block k hk⟩ (by simp), (h.slots p hp).2⟩, fun k hk => ⟨(h.known k hk).1.on hb, (h.known k hk).2⟩⟩
theorem Tt.alloc (h : Tt w0 x a0 c0 y b0 d0 l K W) : Tt w0 x a0 c0 y b0 d0 (W.heap.size :: l) K (W.alloc (.cells #[.string ⟨#[]⟩, .string ⟨#[]⟩, .slice none 0 0] 29)) := by
  have h' := h.on (below_alloc W (.cells #[.string ⟨#[]⟩, .string ⟨#[]⟩, .slice none 0 0] 29))
  refine ⟨h'.below, h'.k1, h'.k2, h'.box1, h'.box2, fun p hp => ?_, fun k hk => ?_⟩
  · rcases List.mem_cons.1 hp with rfl | hp
    · exact ⟨Slots.new W _, by have := cell_lt1 h.box2.1; show w0.heap.size + 2 ≤ _; exact this⟩
    · exact h'.slots p hp
  · refine ⟨?_, (h.known k hk).2⟩
    refine ((h.known k hk).1.inside k.1 k.2.1).move (fun b hb => ?_) (fun p u _ hu => cell_al _ hu)
    simp only [List.mem_cons, not_or]
    exact ⟨by omega, hb.1⟩
theorem Tt.of1 (h : Tt w0 x a0 c0 y b0 d0 l K W) (t : Xp) (a : Option Addr) (c : Nat) (hm : (t, a, c) = (x, a0, c0) ∨ (t, a, c) = (y, b0, d0)) :
    Calls Tryd.prog 11 #[.agg #[.string ⟨t.op.toArray⟩, .string ⟨t.tag.toArray⟩, .slice a t.kids.length c]] W fun e w' => ∃ a' c', e = .returned (.agg #[.string ⟨t.op.toArray⟩, .string ⟨t.tag.toArray⟩, .slice a' t.kids.length c']) ∧ ((w'.cell? ⟨w0.heap.size, 0, none⟩ = some (.string ⟨x.op.toArray⟩) ∧ w'.cell? ⟨w0.heap.size, 1, none⟩ = some (.string ⟨x.tag.toArray⟩) ∧ w'.cell? ⟨w0.heap.size, 2, none⟩ = some (.slice a0 x.kids.length c0)) ∧ (w'.cell? ⟨w0.heap.size + 1, 0, none⟩ = some (.string ⟨y.op.toArray⟩) ∧ w'.cell? ⟨w0.heap.size + 1, 1, none⟩ = some (.string ⟨y.tag.toArray⟩) ∧ w'.cell? ⟨w0.heap.size + 1, 2, none⟩ = some (.slice b0 y.kids.length d0))) ∧ Hid (Tt w0 x a0 c0 y b0 d0 l ((t, a', c') :: K) w' ∧ W.heap.size ≤ w'.heap.size) := by
  have hk : Xids W Any a t.kids ∧ Fitx t c := by
    rcases hm with e | e
    · simp only [Prod.mk.injEq] at e
      obtain ⟨rfl, rfl, rfl⟩ := e
      exact ⟨h.k1.1.on h.below, h.k1.2⟩
    · simp only [Prod.mk.injEq] at e
      obtain ⟨rfl, rfl, rfl⟩ := e
      exact ⟨h.k2.1.on h.below, h.k2.2⟩
  refine (of_any t a c W hk.1 hk.2).mono fun e w' ⟨hb, a', c', he, hf, hx⟩ => ?_
  have h' := h.on hb
  refine ⟨a', c', he, ⟨h'.box1, h'.box2⟩, Lib.hid ⟨⟨h'.below, h'.k1, h'.k2, h'.box1, h'.box2, h'.slots, fun k hk => ?_⟩, hb.size⟩⟩
  rcases List.mem_cons.1 hk with rfl | hk
  · exact ⟨hx.move (fun b hb hm => by have := (h.slots b hm).1.lt; omega) (fun _ _ _ hu => hu), hf⟩
  · exact h'.known k hk
theorem Slots.out {p : Nat} (h : Slots p W) : (∃ x y z, W.cell? ⟨p, 0, none⟩ = some x ∧ W.cell? ⟨p, 1, none⟩ = some y ∧ W.cell? ⟨p, 2, none⟩ = some z) ∧ W.frozen? ⟨p, 0, none⟩ = false ∧ W.frozen? ⟨p, 1, none⟩ = false ∧ W.frozen? ⟨p, 2, none⟩ = false ∧ p < W.heap.size := ⟨h.1, h.2.1, h.2.2.1, h.2.2.2, h.lt⟩

/-- What the region leaves. -/
def TtEnd (w0 : World) (x y : Xp) (p q : Nat) (a1 : Option Addr) (c1 : Nat) (a2 : Option Addr) (c2 : Nat) (W : World) : Prop :=
  Below w0.heap.size w0 W ∧ (W.cell? ⟨p, 0, none⟩ = some (.string ⟨x.op.toArray⟩) ∧ W.cell? ⟨p, 1, none⟩ = some (.string ⟨x.tag.toArray⟩) ∧ W.cell? ⟨p, 2, none⟩ = some (.slice a1 x.kids.length c1)) ∧ (W.cell? ⟨q, 0, none⟩ = some (.string ⟨y.op.toArray⟩) ∧ W.cell? ⟨q, 1, none⟩ = some (.string ⟨y.tag.toArray⟩) ∧ W.cell? ⟨q, 2, none⟩ = some (.slice a2 y.kids.length c2)) ∧ (Xids W Any a1 x.kids ∧ Fitx x c1) ∧ (Xids W Any a2 y.kids ∧ Fitx y c2)
/-- The three cells of a block are written. -/
def put3 (W : World) (p : Nat) (t : Xp) (a : Option Addr) (c : Nat) : World := ((W.setCell ⟨p, 0, none⟩ (.string ⟨t.op.toArray⟩)).setCell ⟨p, 1, none⟩ (.string ⟨t.tag.toArray⟩)).setCell ⟨p, 2, none⟩ (.slice a t.kids.length c)
theorem put3_cells {p : Nat} (h : Slots p W) (t : Xp) (a : Option Addr) (c : Nat) : (put3 W p t a c).cell? ⟨p, 0, none⟩ = some (.string ⟨t.op.toArray⟩) ∧ (put3 W p t a c).cell? ⟨p, 1, none⟩ = some (.string ⟨t.tag.toArray⟩) ∧ (put3 W p t a c).cell? ⟨p, 2, none⟩ = some (.slice a t.kids.length c) := by
  have hl := h.lt
  obtain ⟨⟨u, v, z, h0, h1, h2⟩, f0, f1, f2⟩ := h
  unfold put3
  refine ⟨?_, ?_, ?_⟩ <;> simp [go_sem, h0, h1, h2, hl]
theorem put3_far {p : Nat} (t : Xp) (a : Option Addr) (c : Nat) {q : Addr} (hq : q.block ≠ p) : (put3 W p t a c).cell? q = W.cell? q := by
  unfold put3
  rw [cell_far_set hq, cell_far_set hq, cell_far_set hq]
theorem put3_slots {p q : Nat} (t : Xp) (a : Option Addr) (c : Nat) (h : Slots q W) (hne : q ≠ p) : Slots q (put3 W p t a c) := by
  have fr : ∀ (V : World) (o o2 : Nat) (u : Value), (V.setCell ⟨p, o, none⟩ u).frozen? ⟨q, o2, none⟩ = V.frozen? ⟨q, o2, none⟩ := fun V o o2 u => World.frozen?_of_block (w := V) (a := ⟨q, o2, none⟩) (Below.heap_setCell V ⟨p, o, none⟩ u q hne)
  obtain ⟨⟨u, v, z, h0, h1, h2⟩, f0, f1, f2⟩ := h
  refine ⟨⟨u, v, z, (put3_far t a c hne).trans h0, (put3_far t a c hne).trans h1, (put3_far t a c hne).trans h2⟩, ?_, ?_, ?_⟩
  · unfold put3; rw [fr, fr, fr]; exact f0
  · unfold put3; rw [fr, fr, fr]; exact f1
  · unfold put3; rw [fr, fr, fr]; exact f2
theorem put3_below {n p : Nat} (t : Xp) (a : Option Addr) (c : Nat) {V : World} (h : Below n V W) (hp : n ≤ p) : Below n V (put3 W p t a c) :=
  ((h.setCell (p := ⟨p, 0, none⟩) hp _).setCell (p := ⟨p, 1, none⟩) hp _).setCell (p := ⟨p, 2, none⟩) hp _
theorem Tt.fin (h : Tt w0 x a0 c0 y b0 d0 l K W) {p q : Nat} (hp : p ∈ l) (hq : q ∈ l) (hne : p ≠ q) {a1 a2 : Option Addr} {c1 c2 : Nat} (m1 : (x, a1, c1) ∈ K) (m2 : (y, a2, c2) ∈ K) (W' : World)
    (hW : W' = put3 (put3 W p x a1 c1) q y a2 c2 ∨ W' = put3 (put3 W q y a2 c2) p x a1 c1) : TtEnd w0 x y p q a1 c1 a2 c2 W' := by
  have hsp := h.slots p hp
  have hsq := h.slots q hq
  have far : ∀ (r : Addr), r.block ≠ p → r.block ≠ q → W'.cell? r = W.cell? r := fun r h1 h2 => by
    rcases hW with rfl | rfl
    · rw [put3_far _ _ _ h2, put3_far _ _ _ h1]
    · rw [put3_far _ _ _ h1, put3_far _ _ _ h2]
  have kn : ∀ (t : Xp) (a : Option Addr) (c : Nat), (t, a, c) ∈ K → Xids W' Any a t.kids ∧ Fitx t c := fun t a c hm =>
    ⟨(h.known _ hm).1.move (fun _ _ => trivial) (fun r u hr hu => (far r (fun e => hr (e ▸ hp)) (fun e => hr (e ▸ hq))).trans hu), (h.known _ hm).2⟩
  refine ⟨?_, ?_, ?_, kn _ _ _ m1, kn _ _ _ m2⟩
  · rcases hW with rfl | rfl
    · exact put3_below _ _ _ (put3_below _ _ _ h.below (by omega)) (by omega)
    · exact put3_below _ _ _ (put3_below _ _ _ h.below (by omega)) (by omega)
  · rcases hW with rfl | rfl
    · have := put3_cells hsp.1 x a1 c1
      exact ⟨(put3_far _ _ _ hne).trans this.1, (put3_far _ _ _ hne).trans this.2.1, (put3_far _ _ _ hne).trans this.2.2⟩
    · exact put3_cells (put3_slots _ _ _ hsp.1 hne) x a1 c1
  · rcases hW with rfl | rfl
    · exact put3_cells (put3_slots _ _ _ hsq.1 (Ne.symm hne)) y a2 c2
    · have := put3_cells hsq.1 y a2 c2
      exact ⟨(put3_far _ _ _ (Ne.symm hne)).trans this.1, (put3_far _ _ _ (Ne.symm hne)).trans this.2.1, (put3_far _ _ _ (Ne.symm hne)).trans this.2.2⟩
end
end Go.Proofs.YtagaoilgnhdebaaDoor
