/-
  what a loop over an iterator keeps; a node and all in it. Plain.
-/
import Derived.Test.YtnmebgiiajnnjaaNd
namespace Go.Proofs.Ytnmebgiiajnnjaa
set_option linter.unusedSimpArgs false
set_option linter.unusedVariables false
open Go.RowKit

/-- What a loop over an iterator may turn: blocks that are its own (mine), from n₀ on. -/
structure KB (n₀ : Nat) (mine : World → Nat → Prop) (A B : World) : Prop where
  size : A.heap.size ≤ B.heap.size
  cell : ∀ p v, A.cell? p = some v → ¬ mine A p.block → B.cell? p = some v
  less : ∀ b, b < A.heap.size → mine B b → mine A b
  rng : (∀ b, mine A b → n₀ ≤ b ∧ b < A.heap.size) → ∀ b, mine B b → n₀ ≤ b ∧ b < B.heap.size

def Rng (n₀ : Nat) (mine : World → Nat → Prop) (A : World) : Prop := ∀ b, mine A b → n₀ ≤ b ∧ b < A.heap.size
def Sees (n₀ : Nat) (w0 W : World) : Prop := ∀ p v, p.block < n₀ → w0.cell? p = some v → W.cell? p = some v

theorem cell_lt' {w : World} {p : Addr} {v : Value} (h : w.cell? p = some v) : p.block < w.heap.size := by
  unfold World.cell? at h
  rcases Nat.lt_or_ge p.block w.heap.size with hl | hl
  · exact hl
  · simp only [Array.getElem?_eq_none hl] at h
    cases h
theorem cell_alloc' {w : World} {p : Addr} {v : Value} (o : Obj) (h : w.cell? p = some v) : (w.alloc o).cell? p = some v := by
  rw [World.cell?_of_block (w := w) (Below.heap_alloc w o p.block (cell_lt' h))]; exact h

theorem KB.refl (n₀ mine A) : KB n₀ mine A A := ⟨Nat.le_refl _, fun _ _ h _ => h, fun _ _ h => h, fun h => h⟩
theorem KB.trans {n₀ mine A B C} (h : KB n₀ mine A B) (k : KB n₀ mine B C) : KB n₀ mine A C :=
  ⟨Nat.le_trans h.size k.size, fun p v hv hm => k.cell p v (h.cell p v hv hm) (fun hm' => hm (h.less _ (cell_lt' hv) hm')),
   fun b hb hm => h.less b hb (k.less b (Nat.lt_of_lt_of_le hb h.size) hm), fun hr => k.rng (h.rng hr)⟩
theorem KB.alloc {n₀ mine A} (o : Obj) (hm : ∀ b, mine (A.alloc o) b → mine A b) : KB n₀ mine A (A.alloc o) :=
  ⟨by simp, fun p v hv _ => cell_alloc' o hv, fun b _ h => hm b h, fun hr b h => ⟨(hr b (hm b h)).1, by have := (hr b (hm b h)).2; simp; omega⟩⟩
theorem Sees.kb {n₀ mine w0 A B} (h : Sees n₀ w0 A) (hr : Rng n₀ mine A) (k : KB n₀ mine A B) : Sees n₀ w0 B :=
  fun p v hp hv => k.cell p v (h p v hp hv) (fun hm => by have := (hr _ hm).1; omega)
theorem Sees.refl (n₀ : Nat) (w : World) : Sees n₀ w w := fun _ _ _ h => h
theorem Sees.alloc {n₀ w0 A} (h : Sees n₀ w0 A) (o : Obj) : Sees n₀ w0 (A.alloc o) := fun p v hp hv => cell_alloc' o (h p v hp hv)
theorem Sees.below {n₀ : Nat} {w0 A : World} (h : Below n₀ w0 A) : Sees n₀ w0 A := fun p v hp hv => (h.cell hp).trans hv

theorem Four.sees {n₀ : Nat} {w W : World} (hk : Sees n₀ w W) {b off : Nat} (hb : b < n₀) {t a c} (h : Four w b off t a c) : Four W b off t a c :=
  ⟨hk _ _ hb h.1, hk _ _ hb h.2.1, hk _ _ hb h.2.2.1, hk _ _ hb h.2.2.2⟩
theorem Kids.seesAll {w w' : World} {B : Nat} (hk : Sees B w w') : ∀ (t : Nd) (a : Option Addr), Kids w B a t.kids → Kids w' B a t.kids := by
  refine Nd.ind (fun t ih a h => ?_)
  rw [kids_iff] at h ⊢
  intro j hj
  obtain ⟨b, off, a', c', ha, hb, h4, hf, hn⟩ := h j hj
  exact ⟨b, off, a', c', ha, hb, h4.sees hk hb, hf, ih _ (List.getElem_mem hj) a' hn⟩
theorem Kids.sees {w w' : World} {B : Nat} {a : Option Addr} {l : List Nd} (h : Kids w B a l) (hk : Sees B w w') : Kids w' B a l := Kids.seesAll hk (.mk 0 [] l 0) a h

/-- A node that has come: it, where its kids lie, how many there may lie, how much depth is left. Its kids lie below n₀ in w0. -/
abbrev Come (n₀ : Nat) (w0 : World) := { x : Nd × Option Addr × Nat × Nat // Kids w0 n₀ x.2.1 x.1.kids ∧ Fits x.1 x.2.2.1 }
def er {n₀ w0} (x : Come n₀ w0) : Nd × Nat := (x.1.1, x.1.2.2.2)

/-- A node and all in it, each with how much depth is left, to a depth. -/
def walkL : Nat → Nd → List (Nd × Nat)
  | 0, _ => []
  | d + 1, t => (t, d + 1) :: t.kids.flatMap (walkL d)

/-- The cell of a box that a walk has laid itself, behind a round. -/
theorem KB.box {n₀ mine A B} (k : KB n₀ mine A B) (hr : Rng n₀ mine A) {b o : Nat} {v : Value} (h : A.cell? ⟨b, o, none⟩ = some v) (hb : ¬ mine A b) : B.cell? ⟨b, o, none⟩ = some v := k.cell ⟨b, o, none⟩ v h hb
end Go.Proofs.Ytnmebgiiajnnjaa
