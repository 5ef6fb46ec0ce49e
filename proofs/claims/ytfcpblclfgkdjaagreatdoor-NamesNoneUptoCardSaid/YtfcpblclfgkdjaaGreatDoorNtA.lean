/-
  names: memory under the walks of scope: rows of nodes of a call's own; what a closure for free names says; scope.binding, walked.
-/
import Derived.Test.YtfcpblclfgkdjaaGreatDoorNtP
import Derived.Test.YtfcpblclfgkdjaaGreatDoorZG
import Derived.Test.YtfcpblclfgkdjaaGreatDoorZH
import Derived.Test.YtfcpblclfgkdjaaGreatDoorClon
import Derived.Shelf.SlMaps.Clone
import Derived.RangeFuncOwn
namespace Go.Proofs.YtfcpblclfgkdjaaGreatDoor
set_option linter.unusedSimpArgs false
set_option linter.unusedVariables false
open Go.RowKit Go.Maps

theorem undM : Tryz.prog.underlying 39 = some (.map 9 4) := by kernel_rfl
theorem zeroB (w : World) : (zeroValue 4).run Tryz.prog w = .ok (.bool false) w := by kernel_rfl
theorem gb {W W' : World} (M : Option Nat) (h : Below W.heap.size W W') : W.grownBy W' M := ⟨h.os, h.tape, h.output, h.size, fun k hk _ => h.block k hk⟩
theorem below_gb {n : Nat} {w W W' : World} {M : Option Nat} (h : Below n w W) (hg : W.grownBy W' M) (hn : n ≤ W.heap.size) (hM : ∀ r, M = some r → n ≤ r) : Below n w W' := h.grown hg hn (fun k e => hM k e)
/-- The block that may be turned is no block of cells. -/
def NoC (M : Option Nat) (W : World) : Prop := ∀ r, M = some r → ∃ o : Obj, W.heap[r]? = some o ∧ o.isCells = false
theorem kidsZ_gb {Z Z' : Nat → Prop} {M : Option Nat} {W W' : World} {a : Option Addr} {l : List Nd} (h : KidsZ W Z a l) (hg : W.grownBy W' M) (hM : NoC M W) (hZ : ∀ b, Z b → Z' b) : KidsZ W' Z' a l :=
  h.move hZ (fun p v _ hv => cell_kept hv hg hM)
theorem kids_gb {B : Nat} {M : Option Nat} {W W' : World} {a : Option Addr} {l : List Nd} (h : Kids W B a l) (hg : W.grownBy W' M) (hM : NoC M W) : Kids W' B a l :=
  (kidsZ_gb h.toZ hg hM (fun _ h => h)).toKids
theorem cells_gb {M : Option Nat} {W W' : World} {b : Nat} {v0 v1 v2 v3 : Value} (hg : W.grownBy W' M) (hM : NoC M W) (h0 : W.cell? ⟨b, 0, none⟩ = some v0) (h1 : W.cell? ⟨b, 1, none⟩ = some v1) (h2 : W.cell? ⟨b, 2, none⟩ = some v2) (h3 : W.cell? ⟨b, 3, none⟩ = some v3) :
    W'.cell? ⟨b, 0, none⟩ = some v0 ∧ W'.cell? ⟨b, 1, none⟩ = some v1 ∧ W'.cell? ⟨b, 2, none⟩ = some v2 ∧ W'.cell? ⟨b, 3, none⟩ = some v3 :=
  ⟨cell_kept h0 hg hM, cell_kept h1 hg hM, cell_kept h2 hg hM, cell_kept h3 hg hM⟩

/-- What a closure for free names says: f of the node; the names that it was called with are kept in a state. -/
structure FreeC (G : Nat) (LB : Array Value) (f : Nd → Nd) (M : Option Nat) (nS : Nat) (St : List (List UInt8) → World → Prop) : Prop where
  en : Enters Tryz.prog G
  on : ∀ l W W', St l W → nS ≤ W.heap.size → W.heap.size ≤ W'.heap.size → (∀ b, b < nS → W'.heap[b]? = W.heap[b]?) → St l W'
  mine : ∀ l W, St l W → ∀ r, M = some r → r < nS ∧ ∃ o : Obj, W.heap[r]? = some o ∧ o.isCells = false
  call : ∀ l W t a c, St l W → nS ≤ W.heap.size → l.length < 1152921504606846976 → Fits t c → Calls Tryz.prog G (#[.agg #[.int .i64 t.kind, .string ⟨t.text.toArray⟩, .slice a t.kids.length c, .int .i64 t.pos]] ++ LB) W (fun e W' => e = .returned (.agg #[.int .i64 (f t).kind, .string ⟨(f t).text.toArray⟩, .slice a (f t).kids.length c, .int .i64 (f t).pos]) ∧ W.grownBy W' M ∧ St (l ++ [t.text]) W')
  kids : ∀ t, (f t).kids = t.kids
  fits : ∀ t c, Fits t c → Fits (f t) c
theorem FreeC.noc {G : Nat} {LB : Array Value} {f : Nd → Nd} {M : Option Nat} {nS : Nat} {St : List (List UInt8) → World → Prop} (h : FreeC G LB f M nS St) {l : List (List UInt8)} {W : World} (hs : St l W) : NoC M W := fun r e => (h.mine l W hs r e).2
theorem FreeC.below {G : Nat} {LB : Array Value} {f : Nd → Nd} {M : Option Nat} {nS : Nat} {St : List (List UInt8) → World → Prop} (h : FreeC G LB f M nS St) {l : List (List UInt8)} {W W' : World} (hs : St l W) (hn : nS ≤ W.heap.size) (hb : Below W.heap.size W W') : St l W' :=
  h.on l W W' hs hn hb.size (fun b h => hb.block b (by omega))

/-- Old memory, or what has been made since. -/
def Zn (Bz n : Nat) (W' : World) (b : Nat) : Prop := b < Bz ∨ (n ≤ b ∧ b < W'.heap.size)
def NodePost (y : Nd) (l' : List (List UInt8)) (M : Option Nat) (St : List (List UInt8) → World → Prop) (Bz : Nat) (W : World) (e : Ending) (W' : World) : Prop :=
  ∃ a' c', e = .returned (.agg #[.int .i64 y.kind, .string ⟨y.text.toArray⟩, .slice a' y.kids.length c', .int .i64 y.pos]) ∧ Fits y c' ∧ KidsZ W' (Zn Bz W.heap.size W') a' y.kids ∧ W.grownBy W' M ∧ St l' W'
/-- A row of nodes of the call's own. -/
def NRz (Bz base : Nat) (L : List (Nd × Option Addr × Nat)) (v : Value) (W : World) : Prop :=
  W.ownsRow base 25 4 v L.length (L.flatMap node4) ∧ ∀ x, x ∈ L → Fits x.1 x.2.2 ∧ KidsZ W (fun b => Zn Bz base W b ∧ some b ≠ v.ownBlock) x.2.1 x.1.kids
def RowPost (ys : List Nd) (l' : List (List UInt8)) (M : Option Nat) (St : List (List UInt8) → World → Prop) (Bz : Nat) (W : World) (e : Ending) (W' : World) : Prop :=
  ∃ v L, e = .returned v ∧ L.map (·.1) = ys ∧ NRz Bz W.heap.size L v W' ∧ W.grownBy W' M ∧ St l' W'

theorem NRz.nil (Bz base : Nat) (W : World) : NRz Bz base [] (.slice none 0 0) W := ⟨World.ownsRow_nil _ _ _ _, fun x hx => by cases hx⟩
theorem NRz.grown {Bz base : Nat} {W W' : World} {L : List (Nd × Option Addr × Nat)} {v : Value} {M : Option Nat} (h : NRz Bz base L v W) (hg : W.grownBy W' M) (hM : NoC M W) (hb : ∀ r, M = some r → r < base) : NRz Bz base L v W' :=
  ⟨ownsRow_of h.1 (fun g hgv => hg.block g (own_lt h.1 hgv).2 (fun e => by have := hb g e.symm; have := (own_lt h.1 hgv).1; omega)), fun x hx => ⟨(h.2 x hx).1, kidsZ_gb (h.2 x hx).2 hg hM (fun b hb => ⟨hb.1.imp id (fun h => ⟨h.1, Nat.lt_of_lt_of_le h.2 hg.size⟩), hb.2⟩)⟩⟩
theorem NRz.low {Bz base base' : Nat} {W : World} {L : List (Nd × Option Addr × Nat)} {v : Value} (h : NRz Bz base L v W) (hb : base' ≤ base) : NRz Bz base' L v W :=
  ⟨own_low h.1 hb, fun x hx => ⟨(h.2 x hx).1, (h.2 x hx).2.mono (fun b hb' => ⟨hb'.1.imp id (fun h => ⟨by omega, h.2⟩), hb'.2⟩)⟩⟩
theorem NRz.setCell {Bz base : Nat} {W : World} {L : List (Nd × Option Addr × Nat)} {v : Value} (h : NRz Bz base L v W) {p o : Nat} (h1 : Bz ≤ p) (h2 : p < base) (u : Value) : NRz Bz base L v (W.setCell ⟨p, o, none⟩ u) := by
  have hs : (W.setCell ⟨p, o, none⟩ u).heap.size = W.heap.size := by simp
  refine ⟨ownsRow_of h.1 (fun g hgv => Below.heap_setCell W ⟨p, o, none⟩ u g (by have := (own_lt h.1 hgv).1; show g ≠ p; omega)), fun x hx => ⟨(h.2 x hx).1, (h.2 x hx).2.move (fun b hb => ⟨hb.1.imp id (fun h => ⟨h.1, by omega⟩), hb.2⟩) (fun q v hq hv => ?_)⟩⟩
  refine (cell_far_set ?_).trans hv
  rcases hq.1 with h3 | h3 <;> omega
theorem NRz.snoc {Bz base : Nat} {W1 W w4 : World} {L : List (Nd × Option Addr × Nat)} {v : Value} {y : Nd} {a' : Option Addr} {c' gg cap : Nat} {o : Obj} (hr : NRz Bz base L v W) (hBz : Bz ≤ base) (hg1 : ∀ g, v.ownBlock = some g → g < W1.heap.size)
    (hz : KidsZ W (Zn Bz W1.heap.size W) a' y.kids) (hf : Fits y c') (hW1 : base ≤ W1.heap.size) (hW : W1.heap.size ≤ W.heap.size)
    (hown4 : w4.ownsRow base 25 4 (.slice (some ⟨gg, 0, none⟩) (L.length + 1) cap) (L.length + 1) (L.flatMap node4 ++ node4 (y, a', c'))) (hgrow : (W.alloc o).grownBy w4 v.ownBlock) (hat : v.ownBlock = some gg ∨ gg = (W.alloc o).heap.size) :
    NRz Bz base (L ++ [(y, a', c')]) (.slice (some ⟨gg, 0, none⟩) (L.length + 1) cap) w4 := by
  have hs0 : (W.alloc o).heap.size = W.heap.size + 1 := by simp
  have hs := hgrow.size
  refine ⟨by rw [List.length_append, List.flatMap_append]; simpa using hown4, fun x hx => ?_⟩
  rcases List.mem_append.1 hx with hx | hx
  · refine ⟨(hr.2 x hx).1, (hr.2 x hx).2.move (fun b hb => ⟨hb.1.imp id (fun h => ⟨h.1, by omega⟩), fun e => ?_⟩) (fun p u hp hu => ?_)⟩
    · have e' : b = gg := by simpa [Value.ownBlock] using e
      rcases hat with hat | hat
      · rw [← e'] at hat; exact hb.2 hat.symm
      · rcases hb.1 with h | h <;> omega
    · have hlt := cell_lt' hu
      exact (hgrow.cell_far p (by omega) hp.2).trans (cell_alloc' o hu)
  · rw [List.mem_singleton] at hx
    subst hx
    refine ⟨hf, hz.move (fun b hb => ⟨?_, fun e => ?_⟩) (fun p u hp hu => ?_)⟩
    · rcases hb with h | h
      · exact .inl h
      · exact .inr ⟨by omega, by omega⟩
    · have e' : b = gg := by simpa [Value.ownBlock] using e
      rcases hat with hat | hat
      · have h1 := hg1 gg hat
        have h2 := (own_lt hr.1 hat).1
        rcases hb with h | h <;> omega
      · rcases hb with h | h <;> omega
    · have hlt := cell_lt' hu
      refine (hgrow.cell_far p (by omega) (fun e => ?_)).trans (cell_alloc' o hu)
      have h1 := hg1 _ e.symm
      have h2 := (own_lt hr.1 e.symm).1
      rcases hp with h | h <;> omega
/-- A row, as kids. -/
theorem NRz.kids {Bz base : Nat} {W : World} {L : List (Nd × Option Addr × Nat)} {v : Value} {ys : List Nd} (h : NRz Bz base L v W) (hL : L.map (·.1) = ys) : ∃ a' c', v = .slice a' ys.length c' ∧ KidsZ W (Zn Bz base W) a' ys ∧ ys.length ≤ c' ∧ c' ≤ 9223372036854775807 := by
  have hLl : L.length = ys.length := by rw [← hL]; simp
  rcases h.1.2 with ⟨hv, h0⟩ | ⟨g, cap, cur, hv, hb, hg, hcap, hmax, hcs, htk⟩
  · have e : ys = [] := List.eq_nil_of_length_eq_zero (by omega)
    subst e
    exact ⟨none, 0, hv, KidsZ.nil _ _ _, Nat.le_refl _, by omega⟩
  · refine ⟨some ⟨g, 0, none⟩, cap, by rw [hv, hLl], ?_, by omega, by simpa [maxLen] using hmax⟩
    rw [kidsZ_iff]
    intro j hj
    have hjL : j < L.length := by omega
    have hlj : ys[j] = L[j].1 := by simp [← hL]
    have hcell : ∀ i, i < 4 → W.cell? ⟨g, j * 4 + i, none⟩ = (node4 L[j])[i]? := by
      intro i hi
      rw [cell_of_row W g (j * 4 + i) cur _ (0, 0) hg, ← cells_get L j i hjL hi, ← htk, List.getElem?_take, if_pos (by omega)]
      simp
    have hm := h.2 _ (List.getElem_mem hjL)
    refine ⟨g, 0, L[j].2.1, L[j].2.2, rfl, .inr ⟨hb, (Array.getElem?_eq_some_iff.1 hg).1⟩, ⟨?_, ?_, ?_, ?_⟩, by rw [hlj]; exact hm.1, by rw [hlj]; exact hm.2.mono (fun b hb => hb.1)⟩
    · have := hcell 0 (by omega); rw [hlj, Nat.zero_add]; first | (exact this) | (simp [node4] at this ⊢; done) | (simp [node4] at this ⊢; exact this)
    · have := hcell 1 (by omega); rw [hlj, Nat.zero_add]; first | (exact this) | (simp [node4] at this ⊢; done) | (simp [node4] at this ⊢; exact this)
    · have := hcell 2 (by omega); rw [hlj, Nat.zero_add]; first | (exact this) | (simp [node4] at this ⊢; done) | (simp [node4] at this ⊢; exact this)
    · have := hcell 3 (by omega); rw [hlj, Nat.zero_add]; first | (exact this) | (simp [node4] at this ⊢; done) | (simp [node4] at this ⊢; exact this)

theorem own_ne {W : World} {base : Nat} {e : TypeId} {size : Nat} {v : Value} {n : Nat} {xs : List Value} {P : Program} {k : TypeId} {R : Value → Option (DataW Unit × List MemPlace)} {mb m : Nat} {D : DataW Unit} (h : W.ownsRow base e size v n xs) (hm : W.ownsMap P k R mb m D) : some mb ≠ v.ownBlock := fun e => by
  obtain ⟨es, clk, hb, _⟩ := hm
  rcases h.2 with ⟨hv, _⟩ | ⟨g, cap, cur, hv, _, hg, _⟩
  · rw [hv] at e; cases e
  · rw [hv] at e
    obtain rfl : mb = g := by simpa [Value.ownBlock] using e
    rw [hb] at hg
    cases hg
/-- What a loop over nodes has made so far. -/
def AllI (St : List (List UInt8) → World → Prop) (M : Option Nat) (Bz : Nat) (w : World) (ys : List Nd) (l : List (List UInt8)) (v : Value) (wr : World) : Prop :=
  (∃ L, L.map (·.1) = ys ∧ NRz Bz (w.heap.size + 1) L v wr) ∧ w.grownBy wr M ∧ St l wr
section
variable {G : Nat} {LB : Array Value} {f : Nd → Nd} {M : Option Nat} {nS : Nat} {St : List (List UInt8) → World → Prop}
theorem AllI.len {Bz : Nat} {w wr : World} {ys : List Nd} {l : List (List UInt8)} {v : Value} (h : AllI St M Bz w ys l v wr) (g : Nat) (hg : v.ownBlock = some g) : w.heap.size + 1 ≤ g ∧ g < wr.heap.size := by
  obtain ⟨⟨L, hL, hr⟩, _⟩ := h
  exact own_lt hr.1 hg
/-- A kid more: the world W1 of the call, w3 behind it, the slice of one in a new block, the row grown. -/
theorem AllI.step (C : FreeC G LB f M nS St) {Bz : Nat} {w wr W1 w3 : World} {ys : List Nd} {l l2 : List (List UInt8)} {v : Value} {y : Nd} {a3 : Option Addr} {c3 : Nat} (h : AllI St M Bz w ys l v wr) (hn : nS ≤ w.heap.size) (hBw : Bz ≤ w.heap.size)
    (hb1 : Below wr.heap.size wr W1) (hw1 : w.heap.size < wr.heap.size) (hf : Fits y c3) (hz : KidsZ w3 (Zn Bz W1.heap.size w3) a3 y.kids) (hg : W1.grownBy w3 M) (hs : St l2 w3) (o : Obj) :
    (∃ L : List (Nd × Option Addr × Nat), L.length = ys.length ∧ (w3.alloc o).ownsRow (w.heap.size + 1) 25 4 v ys.length (L.flatMap node4) ∧ ∀ gg cap w4, w4.ownsRow (w.heap.size + 1) 25 4 (.slice (some ⟨gg, 0, none⟩) (ys.length + 1) cap) (ys.length + 1) (L.flatMap node4 ++ node4 (y, a3, c3)) → (w3.alloc o).grownBy w4 v.ownBlock → (v.ownBlock = some gg ∨ gg = (w3.alloc o).heap.size) →
      AllI St M Bz w (ys ++ [y]) l2 (.slice (some ⟨gg, 0, none⟩) (ys.length + 1) cap) w4 ∧ ∀ p u, (p.block ≤ w.heap.size ∨ wr.heap.size ≤ p.block) → w3.cell? p = some u → w4.cell? p = some u ∧ w4.frozen? p = w3.frozen? p) := by
  have hlen := h.len
  obtain ⟨⟨L, hL, hr⟩, hgw, hst⟩ := h
  have hLl : L.length = ys.length := by rw [← hL]; simp
  have hst1 := C.below hst (by have := hgw.size; omega) hb1
  have hr1 := hr.grown (gb none hb1) (fun r e => by cases e) (fun r e => by cases e)
  have hr3 := hr1.grown hg (C.noc hst1) (fun r e => by have := (C.mine _ _ hst1 r e).1; omega)
  have hra := hr3.grown (World.grownBy_alloc w3 o none) (fun r e => by cases e) (fun r e => by cases e)
  have hs1 := hb1.size
  have hs3 := hg.size
  have hsa : (w3.alloc o).heap.size = w3.heap.size + 1 := by simp
  refine ⟨L, hLl, by rw [← hLl]; exact hra.1, fun gg cap w4 hown4 hgrow hat => ⟨⟨⟨L ++ [(y, a3, c3)], by simp [hL], ?_⟩, ?_, ?_⟩, fun p u hp hu => ?_⟩⟩
  · rw [← hLl] at hown4 ⊢
    exact NRz.snoc hr3 (by omega) (fun g hgv => by have := (hlen g hgv).2; omega) hz hf (by omega) hs3 hown4 hgrow hat
  · have h1 : w.grownBy (w3.alloc o) M := ((hgw.trans (gb M hb1)).trans hg).trans (gb M (below_alloc w3 o))
    exact h1.andThen hgrow (fun j e => .inl (by have := (hlen j e).1; omega))
  · refine C.on l2 (w3.alloc o) w4 (C.below hs (by have := hgw.size; omega) (below_alloc w3 o)) (by have := hgw.size; omega) hgrow.size (fun b hb => hgrow.block b (by have := hgw.size; omega) (fun e => by have := (hlen b e.symm).1; omega))
  · have hlt := cell_lt' hu
    have hne : some p.block ≠ v.ownBlock := fun e => by have := hlen _ e.symm; omega
    exact ⟨(hgrow.cell_far p (by omega) hne).trans (cell_alloc' o hu), (hgrow.frozen_far p (by omega) hne).trans (World.frozen?_of_block ((below_alloc w3 o).block _ hlt))⟩
theorem AllI.below (C : FreeC G LB f M nS St) {Bz : Nat} {w wr W1 : World} {ys : List Nd} {l : List (List UInt8)} {v : Value} (h : AllI St M Bz w ys l v wr) (hn : nS ≤ w.heap.size) (hb1 : Below wr.heap.size wr W1) : AllI St M Bz w ys l v W1 := by
  obtain ⟨⟨L, hL, hr⟩, hgw, hst⟩ := h
  exact ⟨⟨L, hL, hr.grown (gb none hb1) (fun r e => by cases e) (fun r e => by cases e)⟩, hgw.trans (gb M hb1), C.below hst (by have := hgw.size; omega) hb1⟩
theorem AllI.setCell (C : FreeC G LB f M nS St) {Bz : Nat} {w wr : World} {ys : List Nd} {l : List (List UInt8)} {v : Value} (h : AllI St M Bz w ys l v wr) (hn : nS ≤ w.heap.size) (hBw : Bz ≤ w.heap.size) (o : Nat) (u : Value) : AllI St M Bz w ys l v (wr.setCell ⟨w.heap.size, o, none⟩ u) := by
  obtain ⟨⟨L, hL, hr⟩, hgw, hst⟩ := h
  have hs : (wr.setCell ⟨w.heap.size, o, none⟩ u).heap.size = wr.heap.size := by simp
  refine ⟨⟨L, hL, hr.setCell hBw (Nat.lt_succ_self _) u⟩, ?_, C.on l wr _ hst (by have := hgw.size; omega) (by omega) (fun b hb => Below.heap_setCell wr ⟨w.heap.size, o, none⟩ u b (by show b ≠ w.heap.size; omega))⟩
  exact ⟨hgw.os, hgw.tape, hgw.output, by have := hgw.size; omega, fun k hk hne => (Below.heap_setCell wr ⟨w.heap.size, o, none⟩ u k (by show k ≠ w.heap.size; omega)).trans (hgw.block k hk hne)⟩
end
end Go.Proofs.YtfcpblclfgkdjaaGreatDoor
