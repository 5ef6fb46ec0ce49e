/-
  names: rows of types that are made.
-/
import Derived.Deep.AppendLies
import Derived.Laws.AppendOwn
import Derived.OwnWalk
import Derived.Test.YtfcpblclfgkdjaaDoorNmF
namespace Go.Proofs.YtfcpblclfgkdjaaDoor
set_option linter.unusedSimpArgs false
set_option linter.unusedVariables false
open Go.RowKit
set_option linter.unnecessarySimpa false

abbrev But (R : Nat) (w w' : World) : Prop := w.grownBy w' (some R)
theorem But.refl (R : Nat) (w : World) : But R w w := World.grownBy.refl w (some R)
theorem But.trans {R : Nat} {a b c : World} (h : But R a b) (k : But R b c) : But R a c :=
  ⟨k.os.trans h.os, k.tape.trans h.tape, k.output.trans h.output, Nat.le_trans h.size k.size, fun i hi hr => (k.block i (Nat.lt_of_lt_of_le hi h.size) hr).trans (h.block i hi hr)⟩
theorem But.alloc {R : Nat} {a b : World} (h : But R a b) (o : Obj) : But R a (b.alloc o) := h.trans (World.grownBy_alloc b o _)
theorem But.of_below {R : Nat} {a b : World} (h : Below a.heap.size a b) : But R a b := ⟨h.os, h.tape, h.output, h.size, fun k hk _ => h.block k hk⟩
theorem But.set {R : Nat} {a b : World} (h : But R a b) (o : Nat) (u : Value) : But R a (b.setCell ⟨R, o, none⟩ u) :=
  h.trans ⟨rfl, rfl, rfl, by simp [World.setCell], fun k _ hr => Below.heap_setCell b ⟨R, o, none⟩ u k (fun e => hr (by rw [e]))⟩
/-- A cell of a block made since may be written. -/
theorem But.setNew {R : Nat} {a b : World} (h : But R a b) {p : Addr} (hp : a.heap.size ≤ p.block) (u : Value) : But R a (b.setCell p u) :=
  ⟨h.os, h.tape, h.output, by simpa [World.setCell] using h.size, fun k hk hr => (Below.heap_setCell b p u k (by omega)).trans (h.block k hk hr)⟩
/-- A row made since may be lengthened. -/
theorem But.grown {R : Nat} {a b c : World} {row : Option Nat} (h : But R a b) (hg : b.grownBy c row) (hr : ∀ k, row = some k → a.heap.size ≤ k) : But R a c :=
  ⟨hg.os.trans h.os, hg.tape.trans h.tape, hg.output.trans h.output, Nat.le_trans h.size hg.size, fun k hk hk2 => (hg.block k (Nat.lt_of_lt_of_le hk h.size) (fun e => by have := hr k e.symm; omega)).trans (h.block k hk hk2)⟩
theorem But.below {R n : Nat} {a b : World} (h : But R a b) (hn : n ≤ R) (hs : n ≤ a.heap.size) : Below n a b :=
  ⟨h.os, h.tape, h.output, h.size, fun k hk => h.block k (by omega) (fun e => by cases e; omega)⟩
theorem But.cell {R : Nat} {w w' : World} (h : But R w w') {p : Addr} {v : Value} (hp : p.block ≠ R) (hv : w.cell? p = some v) : w'.cell? p = some v :=
  World.grownBy.cell h hv (fun e => hp (by cases e; rfl))
theorem But.frozen {R : Nat} {w w' : World} (h : But R w w') {p : Addr} (hp : p.block ≠ R) (hl : p.block < w.heap.size) : w'.frozen? p = w.frozen? p :=
  World.grownBy.frozen_far h p hl (fun e => hp (by cases e; rfl))

/-- The three cells of a constraint. -/
def cell3 (x : Ty × Option Addr × Nat) : List Value := [.int .i64 x.1.kind, .string ⟨x.1.name.toArray⟩, .slice x.2.1 x.1.args.length x.2.2]
theorem cell3_len (x : Ty × Option Addr × Nat) : (cell3 x).length = 3 := rfl
theorem cells3_len : ∀ (L : List (Ty × Option Addr × Nat)), (L.flatMap cell3).length = L.length * 3
  | [] => rfl
  | x :: L => by rw [List.flatMap_cons, List.length_append, cell3_len, cells3_len L, List.length_cons]; omega
theorem cells3_get : ∀ (L : List (Ty × Option Addr × Nat)) (j i : Nat) (hj : j < L.length) (hi : i < 3), (L.flatMap cell3)[j * 3 + i]? = (cell3 L[j])[i]?
  | [], _, _, h, _ => by simp at h
  | x :: L, 0, i, _, hi => by
    rw [List.flatMap_cons, List.getElem?_append_left (by rw [cell3_len]; omega)]
    simp
  | x :: L, j + 1, i, hj, hi => by
    rw [List.flatMap_cons, List.getElem?_append_right (by rw [cell3_len]; omega), cell3_len]
    have e : (j + 1) * 3 + i - 3 = j * 3 + i := by omega
    rw [e, cells3_get L j i (by simpa using hj) hi]
    simp

/-- The constraints lie in a row of the call's own, made behind base; what is in them lies behind base, too, but not in the row's block. -/
def Row (base : Nat) (l : List Ty) (v : Value) (w : World) : Prop :=
  ∃ L : List (Ty × Option Addr × Nat), L.map (·.1) = l ∧ w.ownsRow base 34 3 v l.length (L.flatMap cell3) ∧
    ∀ x, x ∈ L → Fity x.1 x.2.2 ∧ Tids w (fun b => base ≤ b ∧ some b ≠ v.ownBlock) x.2.1 x.1.args

theorem Row.nil (base : Nat) (w : World) : Row base [] (.slice none 0 0) w := ⟨[], rfl, World.ownsRow_nil _ _ _ _, fun x hx => by cases hx⟩
theorem Row.lt {base : Nat} {l : List Ty} {v : Value} {w : World} (h : Row base l v w) : ∀ g, v.ownBlock = some g → base ≤ g ∧ g < w.heap.size :=
  h.elim fun _ h => h.2.1.lt
theorem Row.shape {base : Nat} {l : List Ty} {v : Value} {w : World} (h : Row base l v w) : ∃ a c, v = .slice a l.length c := by
  obtain ⟨L, _, hown, _⟩ := h
  rcases hown.2 with ⟨rfl, h0⟩ | ⟨g', cap, cur, rfl, _⟩
  · exact ⟨_, _, by rw [h0]⟩
  · exact ⟨_, _, rfl⟩
/-- What lies behind base is kept, but for a block that is there before it. -/
theorem Row.but {R base : Nat} {l : List Ty} {v : Value} {W W' : World} (h : Row base l v W) (hR : R < base) (hb : But R W W') : Row base l v W' := by
  have hl := h.lt
  obtain ⟨L, hL, hown, hx⟩ := h
  refine ⟨L, hL, hown.kept hb ?_, fun x hxL => ⟨(hx x hxL).1, (hx x hxL).2.move (fun b hb => hb) (fun p u hp hu => hb.cell (by have := hp.1; omega) hu)⟩⟩
  right
  intro e
  have := (hl R e).1
  omega
theorem Row.on {base : Nat} {l : List Ty} {v : Value} {W W' : World} (h : Row base l v W) (hb : Below W.heap.size W W') : Row base l v W' := by
  have hl := h.lt
  obtain ⟨L, hL, hown, hx⟩ := h
  exact ⟨L, hL, hown.kept ⟨hb.os, hb.tape, hb.output, hb.size, fun k hk _ => hb.block k hk⟩ (row := none) (by cases h : v.ownBlock <;> simp), fun x hxL => ⟨(hx x hxL).1, (hx x hxL).2.move (fun b hb => hb) (fun p u _ hu => (hb.cell (cell_lt1 hu)).trans hu)⟩⟩
/-- A cell elsewhere is written. -/
theorem Row.set {base : Nat} {l : List Ty} {v : Value} {W : World} (h : Row base l v W) {p : Addr} (hp : some p.block ≠ v.ownBlock) (hx0 : ∀ L : List (Ty × Option Addr × Nat), ∀ x ∈ L, True) (hq : p.block < base) (u : Value) : Row base l v (W.setCell p u) := by
  have hk : ∀ b, b ≠ p.block → (W.setCell p u).heap[b]? = W.heap[b]? := fun b hb => Below.heap_setCell W p u b hb
  exact h.but (R := p.block) hq ⟨rfl, rfl, rfl, by simp [World.setCell], fun k _ hr => hk k (fun e => hr (by rw [e]))⟩
/-- One more, appended. -/
theorem Row.snoc {base : Nat} {l : List Ty} {v v' : Value} {W W' : World} {L : List (Ty × Option Addr × Nat)} {y : Ty} {a' : Option Addr} {c' : Nat} (hB : base ≤ W.heap.size) (hL : L.map (·.1) = l)
    (hx : ∀ x, x ∈ L → Fity x.1 x.2.2 ∧ Tids W (fun b => base ≤ b ∧ some b ≠ v.ownBlock) x.2.1 x.1.args)
    (hy : Fity y c') (hz : Tids W (fun b => base ≤ b ∧ some b ≠ v.ownBlock) a' y.args)
    (hown : W'.ownsRow base 34 3 v' (l.length + 1) (L.flatMap cell3 ++ cell3 (y, a', c')))
    (hgrow : W.grownBy W' v.ownBlock) (hgg : ∀ g, v'.ownBlock = some g → v.ownBlock = some g ∨ W.heap.size ≤ g) : Row base (l ++ [y]) v' W' := by
  have hmv : ∀ {aa : Option Addr} {ll : List Ty}, Tids W (fun b => base ≤ b ∧ some b ≠ v.ownBlock) aa ll → Tids W' (fun b => base ≤ b ∧ some b ≠ v'.ownBlock) aa ll := by
    intro aa ll h
    -- cells of the zone lie in blocks that were there
    have h2 : Tids W (fun b => (base ≤ b ∧ some b ≠ v.ownBlock) ∧ b < W.heap.size) aa ll := by
      have : ∀ (t : Ty) (a : Option Addr), Tids W (fun b => base ≤ b ∧ some b ≠ v.ownBlock) a t.args → Tids W (fun b => (base ≤ b ∧ some b ≠ v.ownBlock) ∧ b < W.heap.size) a t.args := by
        refine Ty.ind (fun t ih a h => ?_)
        rw [tids_iff] at h ⊢
        intro j hj
        obtain ⟨b, off, a', c', ha, hb, h3, hf, hn⟩ := h j hj
        exact ⟨b, off, a', c', ha, ⟨hb, cell_lt1 h3.1⟩, h3, hf, ih _ (List.getElem_mem hj) a' hn⟩
      exact this (.mk 0 [] ll) aa h
    refine h2.move (fun b hb => ⟨hb.1.1, fun e => ?_⟩) (fun p u hp hu => World.grownBy.cell hgrow hu hp.1.2)
    rcases hgg b e.symm with h1 | h1
    · exact hb.1.2 h1.symm
    · omega
  refine ⟨L ++ [(y, a', c')], by simp [hL], ?_, fun x hxL => ?_⟩
  · rw [List.flatMap_append, List.length_append, List.length_singleton]
    simpa using hown
  · rcases List.mem_append.1 hxL with h | h
    · exact ⟨(hx x h).1, hmv (hx x h).2⟩
    · obtain rfl := List.mem_singleton.1 h
      exact ⟨hy, hmv hz⟩

/-- The row as a slice's constraints. -/
theorem Row.get {base : Nat} {l : List Ty} {v : Value} {w : World} (h : Row base l v w) (hne : l ≠ []) :
    ∃ g cap, v = .slice (some ⟨g, 0, none⟩) l.length cap ∧ base ≤ g ∧ g < w.heap.size ∧ l.length ≤ cap ∧ cap ≤ 9223372036854775807 ∧ (∀ o, w.frozen? ⟨g, o, none⟩ = false) ∧
      ∀ j (hj : j < l.length), ∃ a' c', TThree w g (j * 3) l[j] a' c' ∧ Fity l[j] c' ∧ Tids w (fun b => base ≤ b ∧ b ≠ g) a' l[j].args := by
  obtain ⟨L, hL, hown, hx⟩ := h
  have hLl : L.length = l.length := by rw [← hL]; simp
  rcases hown.2 with ⟨_, h0⟩ | ⟨g, cap, cur, hv, hb, hg, hcap, hmax, hcs, htk⟩
  · exact absurd (List.eq_nil_of_length_eq_zero h0) hne
  · refine ⟨g, cap, hv, hb, (Array.getElem?_eq_some_iff.1 hg).1, hcap, by simpa [maxLen] using hmax, fun o => by simp [World.frozen?, hg], fun j hj => ?_⟩
    have hjL : j < L.length := by omega
    have hlj : l[j] = L[j].1 := by simp [← hL]
    have hcell : ∀ i, i < 3 → w.cell? ⟨g, j * 3 + i, none⟩ = (cell3 L[j])[i]? := by
      intro i hi
      rw [cell_of_row w g (j * 3 + i) cur _ (0, 0) hg, ← cells3_get L j i hjL hi, ← htk, List.getElem?_take, if_pos (by omega)]
      simp
    have hm := hx _ (List.getElem_mem hjL)
    refine ⟨L[j].2.1, L[j].2.2, ⟨?_, ?_, ?_⟩, by rw [hlj]; exact hm.1, ?_⟩
    · have := hcell 0 (by omega); rw [hlj]; simpa [cell3] using this
    · have := hcell 1 (by omega); rw [hlj]; simpa [cell3] using this
    · have := hcell 2 (by omega); rw [hlj]; simpa [cell3] using this
    · rw [hlj]
      refine hm.2.move (fun b hb => ⟨hb.1, fun e => hb.2 ?_⟩) (fun _ _ _ hu => hu)
      rw [hv, e]; rfl
theorem Row.tids {base : Nat} {l : List Ty} {v : Value} {w : World} (h : Row base l v w) (hl : l.length * 48 ≤ 140737488351232) :
    ∃ a c, v = .slice a l.length c ∧ l.length ≤ c ∧ c ≤ 9223372036854775807 ∧ Tids w (fun b => base ≤ b) a l := by
  cases l with
  | nil =>
    obtain ⟨L, _, hown, _⟩ := h
    rcases hown.2 with ⟨rfl, h0⟩ | ⟨g', cap, cur, rfl, _, _, _, hmax, _⟩
    · exact ⟨none, 0, rfl, by simp, by omega, Tids.nil _ _ _⟩
    · exact ⟨_, cap, rfl, by simp, by simpa [maxLen] using hmax, Tids.nil _ _ _⟩
  | cons x l =>
    obtain ⟨g, cap, rfl, hg1, hg2, hcap, hmax, -, h4⟩ := h.get (by simp)
    refine ⟨_, cap, rfl, hcap, hmax, ?_⟩
    rw [tids_iff]
    intro j hj
    obtain ⟨a', c', h5, h6, h7⟩ := h4 j hj
    exact ⟨g, 0, a', c', rfl, hg1, by rw [Nat.zero_add]; exact h5, h6, h7.move (fun b hb => hb.1) (fun _ _ _ hu => hu)⟩

def Slots (T : Nat) (w : World) : Prop := (∃ x y z, w.cell? ⟨T, 0, none⟩ = some x ∧ w.cell? ⟨T, 1, none⟩ = some y ∧ w.cell? ⟨T, 2, none⟩ = some z) ∧
  w.frozen? ⟨T, 0, none⟩ = false ∧ w.frozen? ⟨T, 1, none⟩ = false ∧ w.frozen? ⟨T, 2, none⟩ = false
theorem Slots.lt {T : Nat} {w : World} (h : Slots T w) : T < w.heap.size := by
  obtain ⟨⟨x, y, z, h0, -⟩, -⟩ := h
  exact cell_lt1 h0
theorem Slots.grown {T : Nat} {w w' : World} {row : Option Nat} (h : Slots T w) (hg : w.grownBy w' row) (hr : some T ≠ row) : Slots T w' := by
  have hl := h.lt
  obtain ⟨⟨x, y, z, h0, h1, h2⟩, f0, f1, f2⟩ := h
  exact ⟨⟨x, y, z, World.grownBy.cell hg h0 hr, World.grownBy.cell hg h1 hr, World.grownBy.cell hg h2 hr⟩, (World.grownBy.frozen_far hg ⟨T, 0, none⟩ hl hr).trans f0, (World.grownBy.frozen_far hg ⟨T, 1, none⟩ hl hr).trans f1, (World.grownBy.frozen_far hg ⟨T, 2, none⟩ hl hr).trans f2⟩
theorem Slots.new (w : World) (T : TypeId) : Slots w.heap.size (w.alloc (.cells #[.int .i64 0, .string ⟨#[]⟩, .slice none 0 0] T)) :=
  ⟨⟨.int .i64 0, .string ⟨#[]⟩, .slice none 0 0, by simp [go_sem], by simp [go_sem], by simp [go_sem]⟩, by simp [go_sem], by simp [go_sem], by simp [go_sem]⟩

theorem info29 : (Tryd.prog.info? 34).map (fun i => (i.zero, i.size, i.bytes)) = some (some (.agg #[.int .i64 0, .string ⟨#[]⟩, .slice none 0 0]), 3, 48) := by kernel_rfl
theorem und27 : Tryd.prog.underlying 32 = some (.slice 34) := by kernel_rfl

/-- A row of one, newly made. -/
theorem cell_far_set {w : World} {b o : Nat} {u : Value} {p : Addr} (h : p.block ≠ b) : (w.setCell ⟨b, o, none⟩ u).cell? p = w.cell? p :=
  World.cell?_of_block (w := w) (Below.heap_setCell w ⟨b, o, none⟩ u p.block h)
end Go.Proofs.YtfcpblclfgkdjaaDoor
