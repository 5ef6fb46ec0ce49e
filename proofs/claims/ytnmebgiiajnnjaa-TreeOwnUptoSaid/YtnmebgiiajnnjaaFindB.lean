/-
  tree.Find, walked
-/
import Derived.Test.YtnmebgiiajnnjaaFindA
import Derived.Test.YtnmebgiiajnnjaaIterE
import Derived.Test.YtnmebgiiajnnjaaCopyD
namespace Go.Proofs.Ytnmebgiiajnnjaa
set_option linter.unusedSimpArgs false
set_option linter.unusedVariables false
open Go.RowKit Go.Shelf
attribute [local go_sem] Oper.semAt_some

theorem Row.grow {Zo : Nat → Prop} {B : Nat} {l : List Nd} {v : Value} {W W' : World} {row : Option Nat} (h : Row Zo B l v W) (hg : W.grownBy W' row) (hr : ∀ r, row = some r → ∃ o : Obj, W.heap[r]? = some o ∧ o.isCells = false) : Row Zo B l v W' := by
  have hs := hg.size
  have hsame : ∀ g, v.ownBlock = some g → W'.heap[g]? = W.heap[g]? := fun g hgv => by
    obtain ⟨L, _, hown, _⟩ := h
    rcases hown.2 with ⟨rfl, _⟩ | ⟨g', cap, cur, rfl, _, hh, _⟩
    · cases hgv
    · obtain rfl : g' = g := by simpa [Value.ownBlock] using hgv
      exact hg.block g' (Array.getElem?_eq_some_iff.1 hh).1 (fun e => by
        obtain ⟨o, ho, hc⟩ := hr _ e.symm
        rw [hh] at ho
        obtain rfl := Option.some.inj ho
        cases hc)
  obtain ⟨L, hL, hown, hx⟩ := h
  refine ⟨L, hL, ownsRow_of hown hsame, fun x hxL => ⟨(hx x hxL).1, (hx x hxL).2.move (fun b hb => ⟨hb.1.imp id (fun h => h.keep (hg.block b h.hi (fun e => by obtain ⟨o, ho, hc⟩ := hr _ e.symm; obtain ⟨_, cs, ty, hh⟩ := h; rw [hh] at ho; obtain rfl := Option.some.inj ho; cases hc))), hb.2⟩) (fun p u _ hu => cell_kept hu hg hr)⟩⟩
theorem Row.zone {Zo Zo' : Nat → Prop} {B : Nat} {l : List Nd} {v : Value} {W : World} (h : Row Zo B l v W) (hz : ∀ b, Zo b → Zo' b) : Row Zo' B l v W := by
  obtain ⟨L, hL, hown, hx⟩ := h
  exact ⟨L, hL, hown, fun x hxL => ⟨(hx x hxL).1, (hx x hxL).2.mono (fun b hb => ⟨hb.1.imp (hz b) id, hb.2⟩)⟩⟩

/-- Old memory, if any of these is too deep to be copied whole. -/
def ZoF (B : Nat) (l : List Nd) (b : Nat) : Prop := b < B ∧ ∃ x, x ∈ l ∧ 100 < x.height
theorem ZoF.snoc {B : Nat} {l : List Nd} {x : Nd} {b : Nat} (h : ZoF B l b) : ZoF B (l ++ [x]) b := ⟨h.1, let ⟨y, hy, h2⟩ := h.2; ⟨y, by simp [hy], h2⟩⟩

def heads {n₀ : Nat} {w0 : World} (pre : List (Come n₀ w0)) : List Nd := pre.map (fun x => x.1.1)
theorem heads_snoc {n₀ : Nat} {w0 : World} (pre : List (Come n₀ w0)) (x : Come n₀ w0) : heads (pre ++ [x]) = heads pre ++ [x.1.1] := by simp [heads]
theorem heads_er {n₀ : Nat} {w0 : World} {xs : List (Come n₀ w0)} {l : List (Nd × Nat)} (h : xs.map er = l) : heads xs = l.map (·.1) := by
  rw [← h, List.map_map]; rfl

/-- What holds between two rounds. -/
def FAll (kind : Int) (w : World) (l : List Nd) (W : World) : Prop :=
  ∃ v, FBox w.heap.size kind v W ∧ Row (ZoF w.heap.size l) (w.heap.size + 1) (findL kind l) v W ∧ Below w.heap.size w W
theorem FAll.grow {kind : Int} {w : World} {l : List Nd} {W W' : World} {row : Option Nat} {B : Nat} (h : FAll kind w l W) (hg : W.grownBy W' row) (hB : w.heap.size ≤ B) (hr : ∀ r, row = some r → B ≤ r ∧ ∃ o : Obj, W.heap[r]? = some o ∧ o.isCells = false) : FAll kind w l W' := by
  obtain ⟨v, hb, hrow, hw⟩ := h
  exact ⟨v, ⟨cell_kept hb.out hg (fun r e => (hr r e).2), (frozen_kept hb.out hg (fun r e => (hr r e).2)).trans hb.fr, cell_kept hb.k hg (fun r e => (hr r e).2)⟩, hrow.grow hg (fun r e => (hr r e).2), hw.grown hg hw.size (fun k e => by have := (hr k e).1; omega)⟩
theorem FAll.alloc {kind : Int} {w : World} {l : List Nd} {W : World} (h : FAll kind w l W) (o : Obj) : FAll kind w l (W.alloc o) := h.grow (World.grownBy_alloc W o none) (Nat.le_refl _) (fun r e => by cases e)

theorem mineF_same {B : Nat} {W W' : World} (h : ∀ v, W'.cell? ⟨B + 1 + 1, 0, none⟩ = some v → W.cell? ⟨B + 1 + 1, 0, none⟩ = some v) {b : Nat} (hm : mineF B W' b) : mineF B W b :=
  hm.imp id (fun ⟨v, hv, ho⟩ => ⟨v, h v hv, ho⟩)
theorem KBF.put {B n : Nat} (hB : B + 1 + 1 < n) (W : World) (l : Nat) (o o' : Obj) (hl : n ≤ l) (h : W.heap[l]? = some o) (hc : o.isCells = false) : KB B (mineF B) W (W.putObj l o') := by
  have hm : ∀ b, mineF B (W.putObj l o') b → mineF B W b := fun b => mineF_same (fun v hv => by
    rw [World.cell?_of_block (w := W)] at hv
    · exact hv
    · show (W.putObj l o').heap[B + 1 + 1]? = W.heap[B + 1 + 1]?
      simp only [World.putObj]
      rw [Array.getElem?_setIfInBounds]
      split
      · omega
      · rfl)
  exact ⟨by simp, fun p u hu _ => putObj_other_cell h hc hu, fun b _ hb => hm b hb, fun hr b hb => ⟨(hr b (hm b hb)).1, by have := (hr b (hm b hb)).2; simp; omega⟩⟩
theorem mineF_alloc {B : Nat} {W : World} (o : Obj) (hB : B + 1 + 1 < W.heap.size) (b : Nat) (h : mineF B (W.alloc o) b) : mineF B W b :=
  mineF_same (fun v hv => by rw [World.cell?_of_block (w := W) (Below.heap_alloc W o (B + 1 + 1) hB)] at hv; exact hv) h
theorem KBF.refl' {B : Nat} {W W' : World} (h : W'.heap = W.heap) : KB B (mineF B) W W' := by
  have hc : ∀ p, W'.cell? p = W.cell? p := fun p => World.cell?_of_block (by rw [h])
  exact ⟨by rw [h]; exact Nat.le_refl _, fun p v hv _ => (hc p).trans hv, fun b _ hm => mineF_same (fun v hv => by rw [← hc]; exact hv) hm, fun hr b hb => by have := hr b (mineF_same (fun v hv => by rw [← hc]; exact hv) hb); rw [h]; exact this⟩

theorem cells_al {W : World} {b : Nat} {x : Nd} {a : Option Addr} {c : Nat} (o : Obj) (h : (W.cell? ⟨b, 0, none⟩ = some (.int .i64 x.kind) ∧ W.cell? ⟨b, 1, none⟩ = some (.string ⟨x.text.toArray⟩) ∧ W.cell? ⟨b, 2, none⟩ = some (.slice (a) x.kids.length c) ∧ W.cell? ⟨b, 3, none⟩ = some (.int .i64 x.pos))) : ((W.alloc o).cell? ⟨b, 0, none⟩ = some (.int .i64 x.kind) ∧ (W.alloc o).cell? ⟨b, 1, none⟩ = some (.string ⟨x.text.toArray⟩) ∧ (W.alloc o).cell? ⟨b, 2, none⟩ = some (.slice (a) x.kids.length c) ∧ (W.alloc o).cell? ⟨b, 3, none⟩ = some (.int .i64 x.pos)) := ⟨cell_alloc' o h.1, cell_alloc' o h.2.1, cell_alloc' o h.2.2.1, cell_alloc' o h.2.2.2⟩
theorem cells_up {W W' : World} {b : Nat} {x : Nd} {a : Option Addr} {c : Nat} (hb : Below W.heap.size W W') (h : (W.cell? ⟨b, 0, none⟩ = some (.int .i64 x.kind) ∧ W.cell? ⟨b, 1, none⟩ = some (.string ⟨x.text.toArray⟩) ∧ W.cell? ⟨b, 2, none⟩ = some (.slice (a) x.kids.length c) ∧ W.cell? ⟨b, 3, none⟩ = some (.int .i64 x.pos))) : (W'.cell? ⟨b, 0, none⟩ = some (.int .i64 x.kind) ∧ W'.cell? ⟨b, 1, none⟩ = some (.string ⟨x.text.toArray⟩) ∧ W'.cell? ⟨b, 2, none⟩ = some (.slice (a) x.kids.length c) ∧ W'.cell? ⟨b, 3, none⟩ = some (.int .i64 x.pos)) := by
  obtain ⟨hc, _⟩ := bcell hb
  have l := cell_lt h.1
  exact ⟨(hc _ _ l).trans h.1, (hc _ _ l).trans h.2.1, (hc _ _ l).trans h.2.2.1, (hc _ _ l).trans h.2.2.2⟩
theorem cells_new {A : List Value} {n : Nat} (h : A.length = n * 4) {z0 z1 z2 z3 : Value} (i : Nat) (hi : i < 4) : (A ++ [z0, z1, z2, z3])[n * 4 + i]? = some ([z0, z1, z2, z3].getD i undef) := by
  rw [List.getElem?_append_right (by omega), h]
  have e : n * 4 + i - n * 4 = i := by omega
  rw [e]
  match i, hi with
  | 0, _ => rfl
  | 1, _ => rfl
  | 2, _ => rfl
  | 3, _ => rfl
theorem fbox_grown {B k : Nat} {kind : Int} {v : Value} {W wP w4 : World} {L : List (Nd × Option Addr × Nat)} (hbx : FBox B kind v W) (hown : W.ownsRow (B + 1 + 2) 24 4 v k (L.flatMap node4)) (hP : Below W.heap.size W wP) (hgrow : wP.grownBy w4 v.ownBlock) :
    w4.cell? ⟨B + 1 + 1, 0, none⟩ = some v ∧ w4.frozen? ⟨B + 1 + 1, 0, none⟩ = false := by
  have hl := hbx.lt
  have h5 : Below (B + 1 + 1 + 1) wP w4 := (Below.refl _ _).grown hgrow (by have := hP.size; omega) (fun j e => by have := (hown.lt j e).1; omega)
  have hb := (hbx.below hP hl).below h5 (by omega)
  exact ⟨hb.out, hb.fr⟩
theorem fbox_apart {B k gg : Nat} {kind : Int} {v : Value} {W wP : World} {L : List (Nd × Option Addr × Nat)} (hbx : FBox B kind v W) (hown : W.ownsRow (B + 1 + 2) 24 4 v k (L.flatMap node4)) (hP : Below W.heap.size W wP) (hat : v.ownBlock = some gg ∨ gg = wP.heap.size) : B + 1 + 1 ≠ gg := by
  have hl := hbx.lt
  have hs := hP.size
  rcases hat with h | h
  · have := (hown.lt _ h).1; omega
  · omega
def zeroN : Obj := .cells #[.int .i64 0, .string ⟨#[]⟩, .slice none 0 0, .int .i64 0] 24
theorem news_at {w : World} {b : Nat} (h : w.heap[b]? = some zeroN) : ∀ (j : Nat) (u : Value), [Value.int .i64 0, .string ⟨#[]⟩, .slice none 0 0, .int .i64 0][j]? = some u → w.cell? ((⟨b, 0, none⟩ : Addr).add j) = some u :=
  World.news_of_block (cs := #[.int .i64 0, .string ⟨#[]⟩, .slice none 0 0, .int .i64 0]) (t := 24) (fr := (0, 0)) h
theorem news_new (w3 : World) : ∀ (j : Nat) (u : Value), [Value.int .i64 0, .string ⟨#[]⟩, .slice none 0 0, .int .i64 0][j]? = some u → (w3.alloc zeroN).cell? ((⟨w3.heap.size, 0, none⟩ : Addr).add j) = some u := news_at (heap_alloc_new w3 _)
theorem news_old {W w3 : World} (h : Below (W.drew.alloc zeroN).heap.size (W.drew.alloc zeroN) w3) : ∀ (j : Nat) (u : Value), [Value.int .i64 0, .string ⟨#[]⟩, .slice none 0 0, .int .i64 0][j]? = some u → w3.cell? ((⟨W.heap.size, 0, none⟩ : Addr).add j) = some u :=
  news_at ((h.block W.heap.size (by simp)).trans (heap_alloc_new W.drew _))
theorem hP1 {W w3 : World} (h : Below W.drew.heap.size W.drew w3) : Below W.heap.size W (w3.alloc zeroN) := bext (bext (Below.refl _ _).drew h) (below_alloc w3 _)
theorem hP2 {W w3 : World} (h : Below (W.drew.alloc zeroN).heap.size (W.drew.alloc zeroN) w3) : Below W.heap.size W w3 := bext (bext (Below.refl _ _).drew (below_alloc W.drew _)) h
theorem zone_al {Zo : Nat → Prop} {W w3 : World} {a : Option Addr} {l : List Nd} {o : Obj} (h : KidsZ w3 (fun b => Zo b ∨ Fresh W.drew.heap.size w3 b) a l) : KidsZ (w3.alloc o) (fun b => Zo b ∨ Fresh W.heap.size (w3.alloc o) b) a l :=
  h.move (fun b hb => hb.imp id (fun h => Fresh.al (h : Fresh W.heap.size w3 b) o)) (fun p u _ hu => cell_alloc' o hu)
theorem zone_dr {Zo : Nat → Prop} {W w3 : World} {a : Option Addr} {l : List Nd} {o : Obj} (h : KidsZ w3 (fun b => Zo b ∨ Fresh (W.drew.alloc o).heap.size w3 b) a l) : KidsZ w3 (fun b => Zo b ∨ Fresh W.heap.size w3 b) a l :=
  h.mono (fun b hb => hb.imp id (fun h => h.low (by have := h.lo; simp at this; omega)))

set_option maxRecDepth 100000 in
set_option maxHeartbeats 16000000 in
theorem find_any (t : Nd) (a : Option Addr) (c : Nat) (kind : Int) (w : World) (hN : (walkL 100 t).length ≤ 1048576) (hk : Kids w w.heap.size a t.kids) (hf : Fits t c) :
    Calls Try.prog 18 #[.agg #[.int .i64 t.kind, .string ⟨t.text.toArray⟩, .slice a t.kids.length c, .int .i64 t.pos], .int .i64 kind] w fun e w' => Below w.heap.size w w' ∧ ∃ v, e = .returned v ∧ Row (ZoF w.heap.size (nodesL 100 t)) (w.heap.size + 1) (findL kind (nodesL 100 t)) v w' := by
  refine callsIn_wide (n := 5).1 ?_
  have h1 : 1 ≤ 5 := by omega
  obtain ⟨i0, hi0, hz0, hz1, hz2⟩ := info_parts info24
  refine callsIn_of_wp_marks Try.func18 rfl trivial ?_ rfl
  simp only [Try.ntmps18, List.size_toArray, List.length_cons, List.length_nil, Nat.reduceAdd, Nat.reduceSub, Array.replicate_succ, Array.replicate_zero, List.push_toArray, List.append_toArray, List.nil_append, List.cons_append]
  gi_wp2_with (refine ⟨trivial, ?_⟩; gi_at_call 22; refine (nodes_in Fence.wide _ trivial rfl _ _ _ 100 _).mono ?_; rintro e w' ⟨rfl, rfl⟩)
  obtain ⟨w4, hw4⟩ : ∃ w4, ((((w.alloc (.cells #[.int .i64 t.kind, .string ⟨t.text.toArray⟩, .slice a t.kids.length c, .int .i64 t.pos] 24)).alloc (.cells #[.int .i64 kind] 3)).alloc (.cells #[.slice none 0 0] 22)).alloc (.cells #[.int .i64 t.kind, .string ⟨t.text.toArray⟩, .slice a t.kids.length c, .int .i64 t.pos] 24)).alloc (.cells #[.int .i64 100] 3) = w4 := ⟨_, rfl⟩
  have hsz : w4.heap.size = w.heap.size + 5 := by rw [← hw4]; simp
  have hb4 : Below w.heap.size w w4 := by rw [← hw4]; exact (((((Below.refl _ w).alloc (Nat.le_refl _) _).alloc (by simp) _).alloc (by simp; omega) _).alloc (by simp; omega) _).alloc (by simp; omega) _
  have f0 : Four w4 (w.heap.size + 1 + 1 + 1) 0 t a c := by rw [← hw4]; refine ⟨?_, ?_, ?_, ?_⟩ <;> simp [go_sem]
  have f1 : w4.cell? ⟨w.heap.size + 1 + 1 + 1 + 1, 0, none⟩ = some (.int .i64 (100 : Nat)) := by rw [← hw4]; simp [go_sem]
  have fb : FBox w.heap.size kind (.slice none 0 0) w4 := by rw [← hw4]; refine ⟨?_, ?_, ?_⟩ <;> simp [go_sem]
  rw [hw4]
  have hmr : ∀ W, Below w4.heap.size w4 W → Rng w.heap.size (mineF w.heap.size) W := fun W hW b hm => by
    have := hW.size
    rcases hm with rfl | ⟨v, hv, ho⟩
    · exact ⟨by omega, by omega⟩
    · rw [(hW.cell (p := ⟨w.heap.size + 1 + 1, 0, none⟩) (by show w.heap.size + 1 + 1 < _; omega)).trans fb.out] at hv
      obtain rfl := Option.some.inj hv
      cases ho
  refine wpIn_rangeFunc_ownH rfl h1 (gf := 29) (lb := #[.pointer (some ⟨w.heap.size + 1 + 1 + 1, 0, none⟩), .pointer (some ⟨w.heap.size + 1 + 1 + 1 + 1, 0, none⟩)]) rfl trivial (enters_of Try.func29 (by kernel_rfl) rfl)
    (nodes1_stops Fence.wide rfl (5 - 1) trivial trivial rfl (w.heap.size + 1 + 1 + 1) (w.heap.size + 1 + 1 + 1 + 1) w.heap.size w (mineF w.heap.size) t a c 100 (by omega) w4 hk hf (Sees.below hb4) (by omega) hmr (fun W o b hW hb => mineF_alloc o (by omega) b hb) f0 f1)
    KB.trans (fun W l o o' hl h hc hw => KBF.put (n := w4.heap.size) (by omega) W l o o' hl h hc) (Below.refl _ _) (fun _ => rfl)
    (fun pre W => FAll kind w (heads pre) W)
    (fun _ _ _ => False)
    (fun s A B row hs hg hr => hs.grow hg (by omega) hr)
    (fun _ _ _ _ _ hs _ _ => hs)
    ⟨_, fb, Row.nil _ _ _, hb4⟩
    (fun x a' W => ∃ Bx, (W.cell? ⟨Bx, 0, none⟩ = some (.int .i64 x.1.1.kind) ∧ W.cell? ⟨Bx, 1, none⟩ = some (.string ⟨x.1.1.text.toArray⟩) ∧ W.cell? ⟨Bx, 2, none⟩ = some (.slice (x.1.2.1) x.1.1.kids.length x.1.2.2.1) ∧ W.cell? ⟨Bx, 3, none⟩ = some (.int .i64 x.1.1.pos)) ∧ a' = { tmps := #[.agg #[.int .i64 t.kind, .string ⟨t.text.toArray⟩, .slice a t.kids.length c, .int .i64 t.pos], .int .i64 kind, .pointer (some ⟨w.heap.size, 0, none⟩), .pointer (some ⟨w.heap.size + 1, 0, none⟩), .slice none 0 0, .pointer (some ⟨w.heap.size + 1 + 1, 0, none⟩), .pointer (some ⟨Bx, 0, none⟩), .agg #[.int .i64 t.kind, .string ⟨t.text.toArray⟩, .slice a t.kids.length c, .int .i64 t.pos], .func (.func 29) #[] #[.pointer (some ⟨w.heap.size + 1 + 1 + 1, 0, none⟩), .pointer (some ⟨w.heap.size + 1 + 1 + 1 + 1, 0, none⟩)], .agg #[.int .i64 x.1.1.kind, .string ⟨x.1.1.text.toArray⟩, .slice x.1.2.1 x.1.1.kids.length x.1.2.2.1, .int .i64 x.1.1.pos], .int .i64 x.1.2.2.2, undef, undef, undef, undef, undef, undef, undef, undef, undef, undef, undef, undef], defers := [] })
    (fun x a' s A B row hs hg hr => by
      obtain ⟨Bx, hx, rfl⟩ := hs
      exact ⟨Bx, ⟨cell_kept hx.1 hg (fun r e => (hr r e).2), cell_kept hx.2.1 hg (fun r e => (hr r e).2), cell_kept hx.2.2.1 hg (fun r e => (hr r e).2), cell_kept hx.2.2.2 hg (fun r e => (hr r e).2)⟩, rfl⟩) ?assign ?body ?done ?stop
  case assign =>
    intro l pre x W K hi hK
    have hlt : w.heap.size + 1 + 1 < W.heap.size := by obtain ⟨v, hb, _⟩ := hi; exact hb.lt
    simp [encC]
    gi_wp2
    have hwa : KB w.heap.size (mineF w.heap.size) W (W.alloc (.cells #[.int .i64 x.1.1.kind, .string ⟨x.1.1.text.toArray⟩, .slice x.1.2.1 x.1.1.kids.length x.1.2.2.1, .int .i64 x.1.1.pos] 24)) := KB.alloc _ (fun b h => mineF_alloc _ hlt b h)
    exact hK _ _ ((KeepsOthers.alloc _ _).from _) hwa (hi.alloc _) ⟨W.heap.size, ⟨by simp [go_sem], by simp [go_sem], by simp [go_sem], by simp [go_sem]⟩, rfl⟩
  case body =>
    rintro l pre x a' W hl hr ⟨v, hbx, hrow, hbw⟩ ⟨Bx, ⟨x0, x1, x2, x3⟩, rfl⟩ hlen
    have HBX := Lib.hid hbx
    have HBW := Lib.hid hbw
    have HROW := Lib.hid hrow
    obtain ⟨o0, of, k0⟩ := hbx
    clear hrow hbw hr hmr f0 f1 fb hb4
    cases hkd : (x.1.1.kind == kind) with
    | false =>
      gi_wp2
      refine ⟨KeepsFrom.refl _ _, KB.refl _ _ _, v, HBX.out, ?_, HBW.out⟩
      rw [heads_snoc, findL_no hkd]
      exact HROW.out.zone (fun b h => h.snoc)
    | true =>
      obtain ⟨L, hL, hown, hLx⟩ := (HROW.out.zone (Zo' := ZoF w.heap.size (heads pre ++ [x.1.1])) (fun b h => h.snoc))
      obtain ⟨k, hkdef⟩ : ∃ k, (findL kind (heads pre)).length = k := ⟨_, rfl⟩
      rw [hkdef] at hown
      have hkl : L.length = k := by rw [← hkdef, ← hL]; simp
      have hkN : k < 1048576 := by have := findL_len kind (heads pre); simp [heads] at this; unfold heads at hkdef; omega
      have HLL := Lib.hid hL
      have HLX := Lib.hid hLx
      have HOWN := Lib.hid hown
      have HLN := Lib.hid (show (L.flatMap node4).length = k * 4 by rw [cells_len, hkl])
      have HZ := Lib.hid (show ∀ b, ZoF w.heap.size (heads pre ++ [x.1.1]) b → b < w.heap.size from fun b h => h.1)
      have HOA := Lib.hid (show ∀ wP, Below W.heap.size W wP → wP.ownsRow (w.heap.size + 1 + 2) 24 4 v k (L.flatMap node4) from fun wP hP => ownsRow_of hown (fun g hg => hP.block g (hown.lt g hg).2))
      obtain ⟨av, nv, cv, rfl⟩ := HROW.out.shape
      have hnv : nv = k := by
        rcases hown.2 with ⟨e, e2⟩ | ⟨g, cap, cur, e, _⟩
        · cases e; omega
        · cases e; rfl
      subst hnv
      have HCL := Lib.hid (show ∀ wC, Below W.drew.heap.size W.drew wC → Calls Try.prog 17 #[.agg #[.int .i64 x.1.1.kind, .string ⟨x.1.1.text.toArray⟩, .slice x.1.2.1 x.1.1.kids.length x.1.2.2.1, .int .i64 x.1.1.pos]] wC (fun e w3 => ∃ a3 c3, e = .returned (.agg #[.int .i64 x.1.1.kind, .string ⟨x.1.1.text.toArray⟩, .slice a3 x.1.1.kids.length c3, .int .i64 x.1.1.pos]) ∧ W.heap.size ≤ w3.heap.size ∧
          Hid (Below wC.heap.size wC w3 ∧ Fits x.1.1 c3 ∧ KidsZ w3 (fun b => ZoF w.heap.size (heads pre ++ [x.1.1]) b ∨ Fresh wC.heap.size w3 b) a3 x.1.1.kids ∧ (w3.cell? ⟨Bx, 0, none⟩ = some (.int .i64 x.1.1.kind) ∧ w3.cell? ⟨Bx, 1, none⟩ = some (.string ⟨x.1.1.text.toArray⟩) ∧ w3.cell? ⟨Bx, 2, none⟩ = some (.slice (x.1.2.1) x.1.1.kids.length x.1.2.2.1) ∧ w3.cell? ⟨Bx, 3, none⟩ = some (.int .i64 x.1.1.pos)) ∧ w3.cell? ⟨w.heap.size + 1 + 1, 0, none⟩ = some (.slice av nv cv))) from fun wC hC => by
        have hWC : Below W.heap.size W wC := bext (Below.refl _ _).drew hC
        have hKC : Kids wC w.heap.size x.1.2.1 x.1.1.kids := x.2.1.sees (Sees.below (HBW.out.trans (hWC.mono HBW.out.size)))
        have hsC := hWC.size
        have hsW := HBW.out.size
        refine (copy_any (ZoF w.heap.size (heads pre ++ [x.1.1])) x.1.1 x.1.2.1 x.1.2.2.1 wC ?_ (fun b h => by have := h.1; omega) (hKC.keep (by omega) (fun _ _ => rfl)) x.2.2).mono (fun e w3 ⟨hb, a3, c3, he, hfit, hz⟩ => ?_)
        · by_cases hh : x.1.1.height ≤ 100
          · exact .inr hh
          · exact .inl (hKC.toZ.mono (fun b hb => ⟨hb, x.1.1, by simp, by omega⟩))
        · have hW3 := bext hWC hb
          exact ⟨a3, c3, he, hW3.size, Lib.hid ⟨hb, hfit, hz, cells_up hW3 ⟨x0, x1, x2, x3⟩, (hW3.cell (p := ⟨w.heap.size + 1 + 1, 0, none⟩) HBX.out.lt).trans o0⟩⟩)
      have HDONE := Lib.hid (show ∀ w', ((∃ v', FBox w.heap.size kind v' w' ∧ Row (ZoF w.heap.size (heads pre ++ [x.1.1])) (w.heap.size + 1) (findL kind (heads pre) ++ [x.1.1]) v' w' ∧ Below w.heap.size w w') ∧ KeepsOthers W w' ∧ KB w.heap.size (mineF w.heap.size) W w') → KeepsFrom w4.heap.size W w' ∧ KB w.heap.size (mineF w.heap.size) W w' ∧ FAll kind w (heads (pre ++ [x])) w' from fun w' h => by
        obtain ⟨⟨v', e1, e2, e3⟩, e4, e5⟩ := h
        refine ⟨e4.from _, e5, v', e1, ?_, e3⟩
        rw [heads_snoc, findL_yes hkd]
        exact e2)
      have hn1 : nv + 1 ≤ maxLen := by simp only [maxLen]; omega
      have hb1 : (nv + 1) * 56 ≤ 140737488355328 := by omega
      clear hown hLx hL hkdef
      gi_wp2
      have hHeld0 : (W.cell? ⟨Bx, 0, none⟩ = some (.int .i64 x.1.1.kind) ∧ W.cell? ⟨Bx, 1, none⟩ = some (.string ⟨x.1.1.text.toArray⟩) ∧ W.cell? ⟨Bx, 2, none⟩ = some (.slice (x.1.2.1) x.1.1.kids.length x.1.2.2.1) ∧ W.cell? ⟨Bx, 3, none⟩ = some (.int .i64 x.1.1.pos)) ∧ W.cell? ⟨w.heap.size + 1 + 1, 0, none⟩ = some (.slice av nv cv) := ⟨⟨x0, x1, x2, x3⟩, o0⟩
      refine round_K (S := fun w9 => (w9.cell? ⟨Bx, 0, none⟩ = some (.int .i64 x.1.1.kind) ∧ w9.cell? ⟨Bx, 1, none⟩ = some (.string ⟨x.1.1.text.toArray⟩) ∧ w9.cell? ⟨Bx, 2, none⟩ = some (.slice (x.1.2.1) x.1.1.kids.length x.1.2.2.1) ∧ w9.cell? ⟨Bx, 3, none⟩ = some (.int .i64 x.1.1.pos)) ∧ w9.cell? ⟨w.heap.size + 1 + 1, 0, none⟩ = some (.slice av nv cv)) (kp := fun i => decide (i < 5)) (by kernel_rfl) (by kernel_rfl) (fun ⟨_, _, h⟩ => h) hHeld0 (fun hHeld => ?_)
      clear hHeld0
      (refine wpAnyK_take (i := 0) (v := ?_) rfl (by decide +kernel) (by decide +kernel) (by decide +kernel) (by decide +kernel) (fun _ _ _ h => h) (Or.inl ⟨?_, ?_⟩) hHeld ?_; rotate_left 1; (focus rfl); (focus (intro w9 hSw; have l9 := hSw.2; go_simp; (try with_reducible rfl); done)); (try simp only [Act.put, List.setIfInBounds_toArray, List.set_cons_zero, List.set_cons_succ, List.getElem_toArray, List.getElem_cons_zero, List.getElem_cons_succ]))
      (refine wpAnyK_take (i := 1) (v := ?_) rfl (by decide +kernel) (by decide +kernel) (by decide +kernel) (by decide +kernel) (fun _ _ _ h => h) (Or.inl ⟨?_, ?_⟩) hHeld ?_; rotate_left 1; (focus rfl); (focus (intro w9 hSw; obtain ⟨⟨l0, l1, l2, l3⟩, -⟩ := hSw; go_simp; (try with_reducible rfl); done)); (try simp only [Act.put, List.setIfInBounds_toArray, List.set_cons_zero, List.set_cons_succ, List.getElem_toArray, List.getElem_cons_zero, List.getElem_cons_succ]))
      (refine wpAnyK_take (i := 3) (v := ?_) rfl (by decide +kernel) (by decide +kernel) (by decide +kernel) (by decide +kernel) (fun _ _ _ h => h) (Or.inl ⟨?_, ?_⟩) hHeld ?_; rotate_left 1; (focus rfl); (focus (intro w9 hSw; go_simp; (try with_reducible rfl); done)); (try simp only [Act.put, List.setIfInBounds_toArray, List.set_cons_zero, List.set_cons_succ, List.getElem_toArray, List.getElem_cons_zero, List.getElem_cons_succ]))
      refine wpAnyK_ready (rs := [2, 4]) (by decide +kernel) (by simp) ?_
      refine AllReadyK.cons rfl (fun K hK => ?_) (AllReadyK.cons rfl (fun K hK => ?_) AllReadyK.nil)
      · have HWC := Lib.hid (Below.refl W.drew.heap.size W.drew)
        rw [if_pos (by rfl)]
        go_simp
        refine (HCL.out _ HWC.out).mono ?_
        rintro e w3 ⟨a3, c3, rfl, hs3, hr3⟩
        have hHeld := hr3.out.2.2.2
        refine hK.out _ _ (fun _ => hr3.out.2.2.2) (?_)
        clear hK K
        (try simp only [Act.put, List.setIfInBounds_toArray, List.set_cons_zero, List.set_cons_succ, List.getElem_toArray, List.getElem_cons_zero, List.getElem_cons_succ])
        refine wpAnyK_ready (rs := [4]) (by decide +kernel) (by simp) ?_
        refine AllReadyK.cons rfl (fun K hK => ?_) AllReadyK.nil
        rw [if_pos (by rfl)]
        go_simp
        have hHeld : ((w3.alloc zeroN).cell? ⟨Bx, 0, none⟩ = some (.int .i64 x.1.1.kind) ∧ (w3.alloc zeroN).cell? ⟨Bx, 1, none⟩ = some (.string ⟨x.1.1.text.toArray⟩) ∧ (w3.alloc zeroN).cell? ⟨Bx, 2, none⟩ = some (.slice (x.1.2.1) x.1.1.kids.length x.1.2.2.1) ∧ (w3.alloc zeroN).cell? ⟨Bx, 3, none⟩ = some (.int .i64 x.1.1.pos)) ∧ (w3.alloc zeroN).cell? ⟨w.heap.size + 1 + 1, 0, none⟩ = some (.slice av nv cv) := ⟨cells_al zeroN hHeld.1, cell_alloc' zeroN hHeld.2⟩
        refine hK.out _ _ (fun _ => hHeld) (?_)
        clear hK K
        (try simp only [Act.put, List.setIfInBounds_toArray, List.set_cons_zero, List.set_cons_succ, List.getElem_toArray, List.getElem_cons_zero, List.getElem_cons_succ])
        refine wpAnyK_ready (rs := [5]) (by decide +kernel) (by simp) ?_
        refine AllReadyK.cons rfl (fun K hK => ?_) AllReadyK.nil
        refine step_append_lies _ (by rfl) _ _ _ (by rfl) (w.heap.size + 1 + 2) 24 i0 _ 4 56 und22 hi0 hz0 hz1 hz2 rfl (by omega) (.slice av nv cv) nv (L.flatMap node4) (by rfl) (HOA.out _ (hP1 hr3.out.1)) ⟨w3.heap.size, 0, none⟩ 1 1 [.int .i64 0, .string ⟨#[]⟩, .slice none 0 0, .int .i64 0] (by rfl) (by rfl) (news_new w3) (by simp [Value.oneCell']) (by omega) hn1 hb1 (Nat.le_trans (by have := HBX.out.lt; omega) ((hP1 hr3.out.1)).size) _ rfl ?_
        intro gg cap w4 hown4 hgrow hat hlt4
        obtain ⟨w', hw', hfin⟩ := find_end HZ.out HBX.out HBW.out HLL.out hkl HLX.out HOWN.out (hP1 hr3.out.1) hr3.out.2.1 (zone_al hr3.out.2.2.1) hown4 hgrow hat hlt4
        have c0 := (hown4.cellAt (nv * 4) (by omega)).trans (cells_new HLN.out 0 (by omega))
        have c1 := (hown4.cellAt (nv * 4 + 1) (by omega)).trans (cells_new HLN.out 1 (by omega))
        have c2 := (hown4.cellAt (nv * 4 + 2) (by omega)).trans (cells_new HLN.out 2 (by omega))
        have c3' := (hown4.cellAt (nv * 4 + 3) (by omega)).trans (cells_new HLN.out 3 (by omega))
        have d0 := hown4.frozenAt (nv * 4)
        have d1 := hown4.frozenAt (nv * 4 + 1)
        have d2 := hown4.frozenAt (nv * 4 + 2)
        have d3 := hown4.frozenAt (nv * 4 + 3)
        obtain ⟨ob0, ob1⟩ := fbox_grown HBX.out HOWN.out (hP1 hr3.out.1) hgrow
        have hgo : w.heap.size + 1 + 1 ≠ gg := fbox_apart HBX.out HOWN.out (hP1 hr3.out.1) hat
        have HFIN := Lib.hid hfin
        have HW' := Lib.hid hw'
        have hl0 : gg < w4.heap.size := hlt4
        have hl1 : w.heap.size + 1 + 1 < w4.heap.size := cell_lt ob0
        have hgo2 : gg ≠ w.heap.size + 1 + 1 := Ne.symm hgo
        clear hfin hw' hown4 hgrow hat
        refine hK.out _ _ (fun h => absurd h (by decide)) (?_)
        clear hK K
        (try simp only [Act.put, List.setIfInBounds_toArray, List.set_cons_zero, List.set_cons_succ, List.getElem_toArray, List.getElem_cons_zero, List.getElem_cons_succ])
        refine wpAnyK_ready (rs := [6, 8]) (by decide +kernel) (by simp) ?_
        refine AllReadyK.cons rfl (fun K hK => ?_) (AllReadyK.cons rfl (fun K hK => ?_) AllReadyK.nil)
        · rw [if_pos (by rfl)]
          go_simp
          rw [if_pos (show (nv : Int) < (nv : Int) + 1 by omega)]
          go_simp
          refine hK.out _ _ (fun h => absurd h (by decide)) (?_)
          clear hK K
          (try simp only [Act.put, List.setIfInBounds_toArray, List.set_cons_zero, List.set_cons_succ, List.getElem_toArray, List.getElem_cons_zero, List.getElem_cons_succ])
          refine wpAnyK_ready (rs := [7, 8]) (by decide +kernel) (by simp) ?_
          refine AllReadyK.cons rfl (fun K hK => ?_) (AllReadyK.cons rfl (fun K hK => ?_) AllReadyK.nil)
          · rw [if_pos (by rfl)]
            go_simp
            refine hK.out _ _ (fun h => absurd h (by decide)) (?_)
            clear hK K
            (try simp only [Act.put, List.setIfInBounds_toArray, List.set_cons_zero, List.set_cons_succ, List.getElem_toArray, List.getElem_cons_zero, List.getElem_cons_succ])
            refine wpAnyK_ready (rs := [8]) (by decide +kernel) (by simp) ?_
            refine AllReadyK.cons rfl (fun K hK => ?_) AllReadyK.nil
            rw [if_pos (by rfl)]
            go_simp
            refine hK.out _ _ (fun h => absurd h (by decide)) (?_)
            clear hK K
            (try simp only [Act.put, List.setIfInBounds_toArray, List.set_cons_zero, List.set_cons_succ, List.getElem_toArray, List.getElem_cons_zero, List.getElem_cons_succ])
            refine wpAnyK_done (by decide +kernel) ?_ _
            have hww := HW'.out
            gi_wp2
            rw [← hww]
            exact HDONE.out _ HFIN.out
          · rw [if_pos (by rfl)]
            go_simp
            refine hK.out _ _ (fun h => absurd h (by decide)) (?_)
            clear hK K
            (try simp only [Act.put, List.setIfInBounds_toArray, List.set_cons_zero, List.set_cons_succ, List.getElem_toArray, List.getElem_cons_zero, List.getElem_cons_succ])
            refine wpAnyK_ready (rs := [7]) (by decide +kernel) (by simp) ?_
            refine AllReadyK.cons rfl (fun K hK => ?_) AllReadyK.nil
            rw [if_pos (by rfl)]
            go_simp
            refine hK.out _ _ (fun h => absurd h (by decide)) (?_)
            clear hK K
            (try simp only [Act.put, List.setIfInBounds_toArray, List.set_cons_zero, List.set_cons_succ, List.getElem_toArray, List.getElem_cons_zero, List.getElem_cons_succ])
            refine wpAnyK_done (by decide +kernel) ?_ _
            have hww := HW'.out
            rw [← setCell_comm' _ ⟨w.heap.size + 1 + 1, 0, none⟩ ⟨gg, nv * 4 + 3, none⟩ _ _ hgo, ← setCell_comm' _ ⟨w.heap.size + 1 + 1, 0, none⟩ ⟨gg, nv * 4 + 2, none⟩ _ _ hgo, ← setCell_comm' _ ⟨w.heap.size + 1 + 1, 0, none⟩ ⟨gg, nv * 4 + 1, none⟩ _ _ hgo, ← setCell_comm' _ ⟨w.heap.size + 1 + 1, 0, none⟩ ⟨gg, nv * 4, none⟩ _ _ hgo] at hww
            gi_wp2
            rw [← hww]
            exact HDONE.out _ HFIN.out
        · rw [if_pos (by rfl)]
          go_simp
          refine hK.out _ _ (fun h => absurd h (by decide)) (?_)
          clear hK K
          (try simp only [Act.put, List.setIfInBounds_toArray, List.set_cons_zero, List.set_cons_succ, List.getElem_toArray, List.getElem_cons_zero, List.getElem_cons_succ])
          refine wpAnyK_ready (rs := [6]) (by decide +kernel) (by simp) ?_
          refine AllReadyK.cons rfl (fun K hK => ?_) AllReadyK.nil
          rw [if_pos (by rfl)]
          go_simp
          rw [if_pos (show (nv : Int) < (nv : Int) + 1 by omega)]
          go_simp
          refine hK.out _ _ (fun h => absurd h (by decide)) (?_)
          clear hK K
          (try simp only [Act.put, List.setIfInBounds_toArray, List.set_cons_zero, List.set_cons_succ, List.getElem_toArray, List.getElem_cons_zero, List.getElem_cons_succ])
          refine wpAnyK_ready (rs := [7]) (by decide +kernel) (by simp) ?_
          refine AllReadyK.cons rfl (fun K hK => ?_) AllReadyK.nil
          rw [if_pos (by rfl)]
          go_simp
          refine hK.out _ _ (fun h => absurd h (by decide)) (?_)
          clear hK K
          (try simp only [Act.put, List.setIfInBounds_toArray, List.set_cons_zero, List.set_cons_succ, List.getElem_toArray, List.getElem_cons_zero, List.getElem_cons_succ])
          refine wpAnyK_done (by decide +kernel) ?_ _
          have hww := HW'.out
          rw [← setCell_comm' _ ⟨w.heap.size + 1 + 1, 0, none⟩ ⟨gg, nv * 4 + 3, none⟩ _ _ hgo, ← setCell_comm' _ ⟨w.heap.size + 1 + 1, 0, none⟩ ⟨gg, nv * 4 + 2, none⟩ _ _ hgo, ← setCell_comm' _ ⟨w.heap.size + 1 + 1, 0, none⟩ ⟨gg, nv * 4 + 1, none⟩ _ _ hgo, ← setCell_comm' _ ⟨w.heap.size + 1 + 1, 0, none⟩ ⟨gg, nv * 4, none⟩ _ _ hgo] at hww
          gi_wp2
          rw [← hww]
          exact HDONE.out _ HFIN.out
      · rw [if_pos (by rfl)]
        go_simp
        have hHeld : ((W.drew.alloc zeroN).cell? ⟨Bx, 0, none⟩ = some (.int .i64 x.1.1.kind) ∧ (W.drew.alloc zeroN).cell? ⟨Bx, 1, none⟩ = some (.string ⟨x.1.1.text.toArray⟩) ∧ (W.drew.alloc zeroN).cell? ⟨Bx, 2, none⟩ = some (.slice (x.1.2.1) x.1.1.kids.length x.1.2.2.1) ∧ (W.drew.alloc zeroN).cell? ⟨Bx, 3, none⟩ = some (.int .i64 x.1.1.pos)) ∧ (W.drew.alloc zeroN).cell? ⟨w.heap.size + 1 + 1, 0, none⟩ = some (.slice av nv cv) := ⟨cells_al zeroN hHeld.1, cell_alloc' zeroN hHeld.2⟩
        refine hK.out _ _ (fun _ => hHeld) (?_)
        clear hK K
        (try simp only [Act.put, List.setIfInBounds_toArray, List.set_cons_zero, List.set_cons_succ, List.getElem_toArray, List.getElem_cons_zero, List.getElem_cons_succ])
        have HWC := Lib.hid (below_alloc W.drew (.cells #[.int .i64 0, .string ⟨#[]⟩, .slice none 0 0, .int .i64 0] 24))
        refine wpAnyK_ready (rs := [2]) (by decide +kernel) (by simp) ?_
        refine AllReadyK.cons rfl (fun K hK => ?_) AllReadyK.nil
        rw [if_pos (by rfl)]
        go_simp
        refine (HCL.out _ HWC.out).mono ?_
        rintro e w3 ⟨a3, c3, rfl, hs3, hr3⟩
        have hHeld := hr3.out.2.2.2
        refine hK.out _ _ (fun _ => hr3.out.2.2.2) (?_)
        clear hK K
        (try simp only [Act.put, List.setIfInBounds_toArray, List.set_cons_zero, List.set_cons_succ, List.getElem_toArray, List.getElem_cons_zero, List.getElem_cons_succ])
        refine wpAnyK_ready (rs := [5]) (by decide +kernel) (by simp) ?_
        refine AllReadyK.cons rfl (fun K hK => ?_) AllReadyK.nil
        refine step_append_lies _ (by rfl) _ _ _ (by rfl) (w.heap.size + 1 + 2) 24 i0 _ 4 56 und22 hi0 hz0 hz1 hz2 rfl (by omega) (.slice av nv cv) nv (L.flatMap node4) (by rfl) (HOA.out _ (hP2 hr3.out.1)) ⟨W.heap.size, 0, none⟩ 1 1 [.int .i64 0, .string ⟨#[]⟩, .slice none 0 0, .int .i64 0] (by rfl) (by rfl) (news_old hr3.out.1) (by simp [Value.oneCell']) (by omega) hn1 hb1 (Nat.le_trans (by have := HBX.out.lt; omega) ((hP2 hr3.out.1)).size) _ rfl ?_
        intro gg cap w4 hown4 hgrow hat hlt4
        obtain ⟨w', hw', hfin⟩ := find_end HZ.out HBX.out HBW.out HLL.out hkl HLX.out HOWN.out (hP2 hr3.out.1) hr3.out.2.1 (zone_dr hr3.out.2.2.1) hown4 hgrow hat hlt4
        have c0 := (hown4.cellAt (nv * 4) (by omega)).trans (cells_new HLN.out 0 (by omega))
        have c1 := (hown4.cellAt (nv * 4 + 1) (by omega)).trans (cells_new HLN.out 1 (by omega))
        have c2 := (hown4.cellAt (nv * 4 + 2) (by omega)).trans (cells_new HLN.out 2 (by omega))
        have c3' := (hown4.cellAt (nv * 4 + 3) (by omega)).trans (cells_new HLN.out 3 (by omega))
        have d0 := hown4.frozenAt (nv * 4)
        have d1 := hown4.frozenAt (nv * 4 + 1)
        have d2 := hown4.frozenAt (nv * 4 + 2)
        have d3 := hown4.frozenAt (nv * 4 + 3)
        obtain ⟨ob0, ob1⟩ := fbox_grown HBX.out HOWN.out (hP2 hr3.out.1) hgrow
        have hgo : w.heap.size + 1 + 1 ≠ gg := fbox_apart HBX.out HOWN.out (hP2 hr3.out.1) hat
        have HFIN := Lib.hid hfin
        have HW' := Lib.hid hw'
        have hl0 : gg < w4.heap.size := hlt4
        have hl1 : w.heap.size + 1 + 1 < w4.heap.size := cell_lt ob0
        have hgo2 : gg ≠ w.heap.size + 1 + 1 := Ne.symm hgo
        clear hfin hw' hown4 hgrow hat
        refine hK.out _ _ (fun h => absurd h (by decide)) (?_)
        clear hK K
        (try simp only [Act.put, List.setIfInBounds_toArray, List.set_cons_zero, List.set_cons_succ, List.getElem_toArray, List.getElem_cons_zero, List.getElem_cons_succ])
        refine wpAnyK_ready (rs := [6, 8]) (by decide +kernel) (by simp) ?_
        refine AllReadyK.cons rfl (fun K hK => ?_) (AllReadyK.cons rfl (fun K hK => ?_) AllReadyK.nil)
        · rw [if_pos (by rfl)]
          go_simp
          rw [if_pos (show (nv : Int) < (nv : Int) + 1 by omega)]
          go_simp
          refine hK.out _ _ (fun h => absurd h (by decide)) (?_)
          clear hK K
          (try simp only [Act.put, List.setIfInBounds_toArray, List.set_cons_zero, List.set_cons_succ, List.getElem_toArray, List.getElem_cons_zero, List.getElem_cons_succ])
          refine wpAnyK_ready (rs := [7, 8]) (by decide +kernel) (by simp) ?_
          refine AllReadyK.cons rfl (fun K hK => ?_) (AllReadyK.cons rfl (fun K hK => ?_) AllReadyK.nil)
          · rw [if_pos (by rfl)]
            go_simp
            refine hK.out _ _ (fun h => absurd h (by decide)) (?_)
            clear hK K
            (try simp only [Act.put, List.setIfInBounds_toArray, List.set_cons_zero, List.set_cons_succ, List.getElem_toArray, List.getElem_cons_zero, List.getElem_cons_succ])
            refine wpAnyK_ready (rs := [8]) (by decide +kernel) (by simp) ?_
            refine AllReadyK.cons rfl (fun K hK => ?_) AllReadyK.nil
            rw [if_pos (by rfl)]
            go_simp
            refine hK.out _ _ (fun h => absurd h (by decide)) (?_)
            clear hK K
            (try simp only [Act.put, List.setIfInBounds_toArray, List.set_cons_zero, List.set_cons_succ, List.getElem_toArray, List.getElem_cons_zero, List.getElem_cons_succ])
            refine wpAnyK_done (by decide +kernel) ?_ _
            have hww := HW'.out
            gi_wp2
            rw [← hww]
            exact HDONE.out _ HFIN.out
          · rw [if_pos (by rfl)]
            go_simp
            refine hK.out _ _ (fun h => absurd h (by decide)) (?_)
            clear hK K
            (try simp only [Act.put, List.setIfInBounds_toArray, List.set_cons_zero, List.set_cons_succ, List.getElem_toArray, List.getElem_cons_zero, List.getElem_cons_succ])
            refine wpAnyK_ready (rs := [7]) (by decide +kernel) (by simp) ?_
            refine AllReadyK.cons rfl (fun K hK => ?_) AllReadyK.nil
            rw [if_pos (by rfl)]
            go_simp
            refine hK.out _ _ (fun h => absurd h (by decide)) (?_)
            clear hK K
            (try simp only [Act.put, List.setIfInBounds_toArray, List.set_cons_zero, List.set_cons_succ, List.getElem_toArray, List.getElem_cons_zero, List.getElem_cons_succ])
            refine wpAnyK_done (by decide +kernel) ?_ _
            have hww := HW'.out
            rw [← setCell_comm' _ ⟨w.heap.size + 1 + 1, 0, none⟩ ⟨gg, nv * 4 + 3, none⟩ _ _ hgo, ← setCell_comm' _ ⟨w.heap.size + 1 + 1, 0, none⟩ ⟨gg, nv * 4 + 2, none⟩ _ _ hgo, ← setCell_comm' _ ⟨w.heap.size + 1 + 1, 0, none⟩ ⟨gg, nv * 4 + 1, none⟩ _ _ hgo, ← setCell_comm' _ ⟨w.heap.size + 1 + 1, 0, none⟩ ⟨gg, nv * 4, none⟩ _ _ hgo] at hww
            gi_wp2
            rw [← hww]
            exact HDONE.out _ HFIN.out
        · rw [if_pos (by rfl)]
          go_simp
          refine hK.out _ _ (fun h => absurd h (by decide)) (?_)
          clear hK K
          (try simp only [Act.put, List.setIfInBounds_toArray, List.set_cons_zero, List.set_cons_succ, List.getElem_toArray, List.getElem_cons_zero, List.getElem_cons_succ])
          refine wpAnyK_ready (rs := [6]) (by decide +kernel) (by simp) ?_
          refine AllReadyK.cons rfl (fun K hK => ?_) AllReadyK.nil
          rw [if_pos (by rfl)]
          go_simp
          rw [if_pos (show (nv : Int) < (nv : Int) + 1 by omega)]
          go_simp
          refine hK.out _ _ (fun h => absurd h (by decide)) (?_)
          clear hK K
          (try simp only [Act.put, List.setIfInBounds_toArray, List.set_cons_zero, List.set_cons_succ, List.getElem_toArray, List.getElem_cons_zero, List.getElem_cons_succ])
          refine wpAnyK_ready (rs := [7]) (by decide +kernel) (by simp) ?_
          refine AllReadyK.cons rfl (fun K hK => ?_) AllReadyK.nil
          rw [if_pos (by rfl)]
          go_simp
          refine hK.out _ _ (fun h => absurd h (by decide)) (?_)
          clear hK K
          (try simp only [Act.put, List.setIfInBounds_toArray, List.set_cons_zero, List.set_cons_succ, List.getElem_toArray, List.getElem_cons_zero, List.getElem_cons_succ])
          refine wpAnyK_done (by decide +kernel) ?_ _
          have hww := HW'.out
          rw [← setCell_comm' _ ⟨w.heap.size + 1 + 1, 0, none⟩ ⟨gg, nv * 4 + 3, none⟩ _ _ hgo, ← setCell_comm' _ ⟨w.heap.size + 1 + 1, 0, none⟩ ⟨gg, nv * 4 + 2, none⟩ _ _ hgo, ← setCell_comm' _ ⟨w.heap.size + 1 + 1, 0, none⟩ ⟨gg, nv * 4 + 1, none⟩ _ _ hgo, ← setCell_comm' _ ⟨w.heap.size + 1 + 1, 0, none⟩ ⟨gg, nv * 4, none⟩ _ _ hgo] at hww
          gi_wp2
          rw [← hww]
          exact HDONE.out _ HFIN.out
  case done =>
    rintro D xs W hD hx ⟨v, hbx, hrow, hbw⟩ hK
    obtain ⟨o0, of, k0⟩ := hbx
    gi_wp2
    refine ⟨by simp, .inl ⟨_, _, rfl, run_takeDeferred hK, ?_⟩⟩
    refine ⟨_, results_tmp rfl _ _ _, ?_⟩
    have hb := belowK_b (w := w) (Nat.le_refl _) W D _ (.deferred none) (by omega) hK rfl rfl
    refine ⟨hbw.trans hb, v, rfl, ?_⟩
    have hrow' := hrow.grow (grownBy_putObj' W D (.deferred none)) (fun r e => by cases e; exact ⟨_, hK, rfl⟩)
    rw [heads_er hx] at hrow'
    exact hrow'
  case stop =>
    rintro D c pre W _ _ h _
    exact h.elim
end Go.Proofs.Ytnmebgiiajnnjaa
