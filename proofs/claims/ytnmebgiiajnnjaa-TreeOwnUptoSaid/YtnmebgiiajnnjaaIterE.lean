/-
  tree.Size, walked
  tree.Depth, walked
-/
import Derived.Test.YtnmebgiiajnnjaaIterC
namespace Go.Proofs.Ytnmebgiiajnnjaa
set_option linter.unusedSimpArgs false
set_option linter.unusedVariables false
open Go.RowKit Go.Shelf
attribute [local go_sem] Oper.semAt_some

theorem cellBox {W : World} {B : Nat} {v : Value} {t : TypeId} (h : W.heap[B]? = some (.cells #[v] t (0, 0))) : W.cell? ⟨B, 0, none⟩ = some v ∧ W.frozen? ⟨B, 0, none⟩ = false := by
  constructor <;> simp [World.cell?, World.frozen?, h]
theorem cellNew (W : World) (v : Value) (t : TypeId) : (W.alloc (.cells #[v] t)).cell? ⟨W.heap.size, 0, none⟩ = some v ∧ (W.alloc (.cells #[v] t)).frozen? ⟨W.heap.size, 0, none⟩ = false :=
  cellBox (World.alloc_heap_new W _)
theorem cellAl {W : World} {a : Addr} {v : Value} (o : Obj) (h : W.cell? a = some v) : (W.alloc o).cell? a = some v := cell_kept h (World.grownBy_alloc W o none) (fun r e => by cases e)
theorem frozenAl {W : World} {a : Addr} {v : Value} (o : Obj) (h : W.cell? a = some v) (hf : W.frozen? a = false) : (W.alloc o).frozen? a = false := (frozen_kept h (World.grownBy_alloc W o none) (fun r e => by cases e)).trans hf

theorem putObj_other_cell {W : World} {l : Nat} {o o' : Obj} (h : W.heap[l]? = some o) (hc : o.isCells = false) {p : Addr} {v : Value} (hp : W.cell? p = some v) : (W.putObj l o').cell? p = some v :=
  cell_kept hp (grownBy_putObj' W l o') (fun r e => by cases e; exact ⟨o, h, hc⟩)

/-- One block of the loop's own. -/
theorem KB.one {n₀ B : Nat} {A : World} (hn : n₀ ≤ B) (hB : B < A.heap.size) (v : Value) : KB n₀ (fun _ b => b = B) A (A.setCell ⟨B, 0, none⟩ v) :=
  ⟨by simp [World.setCell], fun p u hu hm => by rw [World.cell?_of_block (w := A) (Below.heap_setCell A ⟨B, 0, none⟩ v p.block hm)]; exact hu, fun _ _ h => h, fun _ b h => by subst h; exact ⟨hn, by simp [World.setCell]; exact hB⟩⟩
theorem KB.put {n₀ B : Nat} {w : World} (hn : n₀ ≤ B) (hB : B < w.heap.size) (W : World) (l : Nat) (o o' : Obj) (hl : w.heap.size ≤ l) (h : W.heap[l]? = some o) (hc : o.isCells = false) (_ : o.isWalk = false) : KB n₀ (fun _ b => b = B) W (W.putObj l o') :=
  ⟨by simp, fun p u hu _ => putObj_other_cell h hc hu, fun _ _ h => h, fun _ b hb => by subst hb; exact ⟨hn, by have := (Array.getElem?_eq_some_iff.1 h).1; simp; omega⟩⟩

/-- A count that wraps. -/
def cnt : Nat → Int
  | 0 => 0
  | k + 1 => wrap64 (cnt k + 1)
theorem cnt_eq (k : Nat) : cnt k = wrap64 k := by
  induction k with
  | zero => simp [cnt, wrap64]
  | succ k ih => rw [cnt, ih]; unfold wrap64; omega

set_option maxRecDepth 100000 in
set_option maxHeartbeats 4000000 in
theorem size_any (t : Nd) (a : Option Addr) (c : Nat) (w : World) (hk : Kids w w.heap.size a t.kids) (hf : Fits t c) :
    Calls Try.prog 13 #[.agg #[.int .i64 t.kind, .string ⟨t.text.toArray⟩, .slice a t.kids.length c, .int .i64 t.pos]] w fun e w' => e = .returned (.int .i64 (wrap64 (walkL 100 t).length)) ∧ Below w.heap.size w w' := by
  refine callsIn_wide (n := 5).1 ?_
  have h1 : 1 ≤ 5 := by omega
  refine callsIn_of_wp_marks Try.func13 rfl trivial ?_ rfl
  simp only [Try.ntmps13, List.size_toArray, List.length_cons, List.length_nil, Nat.reduceAdd, Nat.reduceSub, Array.replicate_succ, Array.replicate_zero, List.push_toArray, List.append_toArray, List.nil_append, List.cons_append]
  gi_wp2_with (refine ⟨trivial, ?_⟩; gi_at_call 22; refine (nodes_in Fence.wide _ trivial rfl _ _ _ 100 _).mono ?_; rintro e w' ⟨rfl, rfl⟩)
  obtain ⟨w4, hw4⟩ : ∃ w4, (((w.alloc (.cells #[.int .i64 t.kind, .string ⟨t.text.toArray⟩, .slice a t.kids.length c, .int .i64 t.pos] 24)).alloc (.cells #[.int .i64 0] 3)).alloc (.cells #[.int .i64 t.kind, .string ⟨t.text.toArray⟩, .slice a t.kids.length c, .int .i64 t.pos] 24)).alloc (.cells #[.int .i64 100] 3) = w4 := ⟨_, rfl⟩
  have hsz : w4.heap.size = w.heap.size + 4 := by rw [← hw4]; simp
  have hb4 : Below w.heap.size w w4 := by rw [← hw4]; exact ((((Below.refl _ w).alloc (Nat.le_refl _) _).alloc (by simp) _).alloc (by simp; omega) _).alloc (by simp; omega) _
  have f0 : Four w4 (w.heap.size + 1 + 1) 0 t a c := by rw [← hw4]; refine ⟨?_, ?_, ?_, ?_⟩ <;> simp [go_sem]
  have f1 : w4.cell? ⟨w.heap.size + 1 + 1 + 1, 0, none⟩ = some (.int .i64 (100 : Nat)) := by rw [← hw4]; simp [go_sem]
  have f2 : w4.cell? ⟨w.heap.size + 1, 0, none⟩ = some (.int .i64 0) := by rw [← hw4]; simp [go_sem]
  have f3 : w4.frozen? ⟨w.heap.size + 1, 0, none⟩ = false := by rw [← hw4]; simp [go_sem]
  rw [hw4]
  refine wpIn_rangeFunc_ownF rfl h1 (gf := 29) (lb := #[.pointer (some ⟨w.heap.size + 1 + 1, 0, none⟩), .pointer (some ⟨w.heap.size + 1 + 1 + 1, 0, none⟩)]) rfl trivial (enters_of Try.func29 (by kernel_rfl) rfl)
    (nodes1_stops Fence.wide rfl (5 - 1) trivial trivial rfl (w.heap.size + 1 + 1) (w.heap.size + 1 + 1 + 1) w.heap.size w (fun _ b => b = w.heap.size + 1) t a c 100 (by omega) w4 hk hf (Sees.below hb4) (by omega)
      (fun W hW b hb => by have := hW.size; omega) (fun W o b _ hb => hb) f0 f1)
    KB.trans (fun W l o o' hl h hc hw => KB.put (Nat.le_succ _) (by omega) W l o o' hl h hc hw) (Below.refl _ _) (fun _ => rfl)
    (fun pre W => W.cell? ⟨w.heap.size + 1, 0, none⟩ = some (.int .i64 (cnt pre.length)) ∧ W.frozen? ⟨w.heap.size + 1, 0, none⟩ = false ∧ Below w.heap.size w W)
    (fun _ _ _ => False)
    (fun s A B row hs hg hr => ⟨cell_kept hs.1 hg (fun r e => (hr r e).2), (frozen_kept hs.1 hg (fun r e => (hr r e).2)).trans hs.2.1, hs.2.2.grown hg hs.2.2.size (fun k e => by have := (hr k e).1; omega)⟩)
    (fun _ _ _ _ _ hs _ _ => hs)
    ⟨f2, f3, hb4⟩
    (fun x => { tmps := #[.agg #[.int .i64 t.kind, .string ⟨t.text.toArray⟩, .slice a t.kids.length c, .int .i64 t.pos], .pointer (some ⟨w.heap.size, 0, none⟩), .int .i64 0, .pointer (some ⟨w.heap.size + 1, 0, none⟩), .agg #[.int .i64 t.kind, .string ⟨t.text.toArray⟩, .slice a t.kids.length c, .int .i64 t.pos], .func (.func 29) #[] #[.pointer (some ⟨w.heap.size + 1 + 1, 0, none⟩), .pointer (some ⟨w.heap.size + 1 + 1 + 1, 0, none⟩)],
      .agg #[.int .i64 x.1.1.kind, .string ⟨x.1.1.text.toArray⟩, .slice x.1.2.1 x.1.1.kids.length x.1.2.2.1, .int .i64 x.1.1.pos], .int .i64 x.1.2.2.2, undef, undef, undef], defers := [] }) ?assign ?body ?done ?stop
  case assign =>
    intro l x W K hK
    gi_wp2
    simpa [encC] using hK
  case body =>
    rintro l pre x W ⟨hc, hfr, hb⟩ _
    have hB : w.heap.size + 1 < W.heap.size := cell_lt hc
    gi_wp2
    refine ⟨KeepsOthers.setCell _ _ _, KB.one (Nat.le_succ _) hB _, ?_, ?_, hb.setCell (p := ⟨w.heap.size + 1, 0, none⟩) (Nat.le_succ _) _⟩
    · rw [List.length_append, List.length_singleton, cnt]
      exact World.cell?_setCell_same' _ _ _ (by rw [hc]; rfl)
    · rw [World.frozen?_setCell]; exact hfr
  case done =>
    rintro D xs W hD hx ⟨hc, _, hb⟩ hK
    gi_wp2
    refine ⟨by simp, .inl ⟨_, _, rfl, run_takeDeferred hK, ?_⟩⟩
    refine ⟨_, results_tmp rfl _ _ _, ?_, hb.trans (belowK_b (w := w) (Nat.le_refl _) W D _ _ (by omega) hK rfl rfl)⟩
    show Ending.returned (.int .i64 (cnt xs.length)) = _
    rw [cnt_eq, ← hx, List.length_map]
  case stop =>
    rintro D c pre W _ _ h _
    exact h.elim
end Go.Proofs.Ytnmebgiiajnnjaa

namespace Go.Proofs.Ytnmebgiiajnnjaa
set_option linter.unusedSimpArgs false
set_option linter.unusedVariables false
open Go.RowKit Go.Shelf
attribute [local go_sem] Oper.semAt_some

/-- The greatest depth of what has come. -/
def deepest (l : List (Nd × Nat)) : Int := l.foldl (fun m x => max m (wrap64 (102 - x.2))) 0
theorem deepest_snoc (l : List (Nd × Nat)) (x : Nd × Nat) : deepest (l ++ [x]) = max (deepest l) (wrap64 (102 - x.2)) := by simp [deepest]

set_option maxRecDepth 100000 in
set_option maxHeartbeats 4000000 in
theorem depth_any (t : Nd) (a : Option Addr) (c : Nat) (w : World) (hk : Kids w w.heap.size a t.kids) (hf : Fits t c) :
    Calls Try.prog 11 #[.agg #[.int .i64 t.kind, .string ⟨t.text.toArray⟩, .slice a t.kids.length c, .int .i64 t.pos]] w fun e w' => e = .returned (.int .i64 (deepest (walkL 101 t))) ∧ Below w.heap.size w w' := by
  refine callsIn_wide (n := 5).1 ?_
  have h1 : 1 ≤ 5 := by omega
  refine callsIn_of_wp_marks Try.func11 rfl trivial ?_ rfl
  simp only [Try.ntmps11, List.size_toArray, List.length_cons, List.length_nil, Nat.reduceAdd, Nat.reduceSub, Array.replicate_succ, Array.replicate_zero, List.push_toArray, List.append_toArray, List.nil_append, List.cons_append]
  gi_wp2_with (refine ⟨trivial, ?_⟩; gi_at_call 22; refine (nodes_in Fence.wide _ trivial rfl _ _ _ 101 _).mono ?_; rintro e w' ⟨rfl, rfl⟩)
  obtain ⟨w4, hw4⟩ : ∃ w4, (((w.alloc (.cells #[.int .i64 t.kind, .string ⟨t.text.toArray⟩, .slice a t.kids.length c, .int .i64 t.pos] 24)).alloc (.cells #[.int .i64 0] 3)).alloc (.cells #[.int .i64 t.kind, .string ⟨t.text.toArray⟩, .slice a t.kids.length c, .int .i64 t.pos] 24)).alloc (.cells #[.int .i64 101] 3) = w4 := ⟨_, rfl⟩
  have hsz : w4.heap.size = w.heap.size + 4 := by rw [← hw4]; simp
  have hb4 : Below w.heap.size w w4 := by rw [← hw4]; exact ((((Below.refl _ w).alloc (Nat.le_refl _) _).alloc (by simp) _).alloc (by simp; omega) _).alloc (by simp; omega) _
  have f0 : Four w4 (w.heap.size + 1 + 1) 0 t a c := by rw [← hw4]; refine ⟨?_, ?_, ?_, ?_⟩ <;> simp [go_sem]
  have f1 : w4.cell? ⟨w.heap.size + 1 + 1 + 1, 0, none⟩ = some (.int .i64 (101 : Nat)) := by rw [← hw4]; simp [go_sem]
  have f2 : w4.cell? ⟨w.heap.size + 1, 0, none⟩ = some (.int .i64 0) := by rw [← hw4]; simp [go_sem]
  have f3 : w4.frozen? ⟨w.heap.size + 1, 0, none⟩ = false := by rw [← hw4]; simp [go_sem]
  rw [hw4]
  refine wpIn_rangeFunc_ownF rfl h1 (gf := 29) (lb := #[.pointer (some ⟨w.heap.size + 1 + 1, 0, none⟩), .pointer (some ⟨w.heap.size + 1 + 1 + 1, 0, none⟩)]) rfl trivial (enters_of Try.func29 (by kernel_rfl) rfl)
    (nodes1_stops Fence.wide rfl (5 - 1) trivial trivial rfl (w.heap.size + 1 + 1) (w.heap.size + 1 + 1 + 1) w.heap.size w (fun _ b => b = w.heap.size + 1) t a c 101 (by omega) w4 hk hf (Sees.below hb4) (by omega)
      (fun W hW b hb => by have := hW.size; omega) (fun W o b _ hb => hb) f0 f1)
    KB.trans (fun W l o o' hl h hc hw => KB.put (Nat.le_succ _) (by omega) W l o o' hl h hc hw) (Below.refl _ _) (fun _ => rfl)
    (fun pre W => W.cell? ⟨w.heap.size + 1, 0, none⟩ = some (.int .i64 (deepest (pre.map er))) ∧ W.frozen? ⟨w.heap.size + 1, 0, none⟩ = false ∧ Below w.heap.size w W)
    (fun _ _ _ => False)
    (fun s A B row hs hg hr => ⟨cell_kept hs.1 hg (fun r e => (hr r e).2), (frozen_kept hs.1 hg (fun r e => (hr r e).2)).trans hs.2.1, hs.2.2.grown hg hs.2.2.size (fun k e => by have := (hr k e).1; omega)⟩)
    (fun _ _ _ _ _ hs _ _ => hs)
    ⟨f2, f3, hb4⟩
    (fun x => { tmps := #[.agg #[.int .i64 t.kind, .string ⟨t.text.toArray⟩, .slice a t.kids.length c, .int .i64 t.pos], .pointer (some ⟨w.heap.size, 0, none⟩), .int .i64 0, .pointer (some ⟨w.heap.size + 1, 0, none⟩), undef, .int .i64 x.1.2.2.2, .agg #[.int .i64 t.kind, .string ⟨t.text.toArray⟩, .slice a t.kids.length c, .int .i64 t.pos], .func (.func 29) #[] #[.pointer (some ⟨w.heap.size + 1 + 1, 0, none⟩), .pointer (some ⟨w.heap.size + 1 + 1 + 1, 0, none⟩)],
      .agg #[.int .i64 x.1.1.kind, .string ⟨x.1.1.text.toArray⟩, .slice x.1.2.1 x.1.1.kids.length x.1.2.2.1, .int .i64 x.1.1.pos], .int .i64 x.1.2.2.2, undef, undef, undef, undef, undef], defers := [] }) ?assign ?body ?done ?stop
  case assign =>
    intro l x W K hK
    gi_wp2
    simpa [encC] using hK
  case body =>
    rintro l pre x W ⟨hc, hfr, hb⟩ _
    have hB : w.heap.size + 1 < W.heap.size := cell_lt hc
    gi_wp2
    refine ⟨KeepsOthers.setCell _ _ _, KB.one (Nat.le_succ _) hB _, ?_, ?_, hb.setCell (p := ⟨w.heap.size + 1, 0, none⟩) (Nat.le_succ _) _⟩
    · rw [List.map_append, List.map_singleton, deepest_snoc]
      exact World.cell?_setCell_same' _ _ _ (by rw [hc]; rfl)
    · rw [World.frozen?_setCell]; exact hfr
  case done =>
    rintro D xs W hD hx ⟨hc, _, hb⟩ hK
    gi_wp2
    refine ⟨by simp, .inl ⟨_, _, rfl, run_takeDeferred hK, ?_⟩⟩
    refine ⟨_, results_tmp rfl _ _ _, ?_, hb.trans (belowK_b (w := w) (Nat.le_refl _) W D _ _ (by omega) hK rfl rfl)⟩
    rfl
  case stop =>
    rintro D c pre W _ _ h _
    exact h.elim
end Go.Proofs.Ytnmebgiiajnnjaa
