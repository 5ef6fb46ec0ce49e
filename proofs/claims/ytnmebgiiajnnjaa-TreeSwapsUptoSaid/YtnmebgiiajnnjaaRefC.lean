/-
  demoticref06.Swap, walked
-/
import Derived.Test.YtnmebgiiajnnjaaSwapB
import Derived.Test.YtnmebgiiajnnjaaRefB
namespace Go.Proofs.Ytnmebgiiajnnjaa
set_option linter.unusedSimpArgs false
set_option linter.unusedVariables false
open Go.RowKit

/-- The boxes of the reference's Swap: the node, what is put in, the result, the node that is filled. -/
def SBoxes (t y : Nd) (a ay : Option Addr) (c cy : Nat) (B : Nat) (v : Value) (wr : World) : Prop :=
  (wr.cell? ⟨B, 0, none⟩ = some (.int .i64 t.kind) ∧ wr.cell? ⟨B, 1, none⟩ = some (.string ⟨t.text.toArray⟩) ∧ wr.cell? ⟨B, 2, none⟩ = some (.slice (a) t.kids.length c) ∧ wr.cell? ⟨B, 3, none⟩ = some (.int .i64 t.pos)) ∧ (wr.cell? ⟨B + 1, 0, none⟩ = some (.int .i64 y.kind) ∧ wr.cell? ⟨B + 1, 1, none⟩ = some (.string ⟨y.text.toArray⟩) ∧ wr.cell? ⟨B + 1, 2, none⟩ = some (.slice (ay) y.kids.length cy) ∧ wr.cell? ⟨B + 1, 3, none⟩ = some (.int .i64 y.pos)) ∧
  ((wr.cell? ⟨B + 1 + 1, 0, none⟩ = some (.int .i64 0) ∧ wr.cell? ⟨B + 1 + 1, 1, none⟩ = some (.string ⟨#[]⟩) ∧ wr.cell? ⟨B + 1 + 1, 2, none⟩ = some (.slice none 0 0) ∧ wr.cell? ⟨B + 1 + 1, 3, none⟩ = some (.int .i64 0)) ∧
   (wr.frozen? ⟨B + 1 + 1, 0, none⟩ = false ∧ wr.frozen? ⟨B + 1 + 1, 1, none⟩ = false ∧ wr.frozen? ⟨B + 1 + 1, 2, none⟩ = false ∧ wr.frozen? ⟨B + 1 + 1, 3, none⟩ = false)) ∧
  (wr.cell? ⟨B + 1 + 1 + 1, 0, none⟩ = some (.int .i64 t.kind) ∧ wr.cell? ⟨B + 1 + 1 + 1, 1, none⟩ = some (.string ⟨t.text.toArray⟩) ∧ wr.cell? ⟨B + 1 + 1 + 1, 2, none⟩ = some v ∧ wr.cell? ⟨B + 1 + 1 + 1, 3, none⟩ = some (.int .i64 t.pos)) ∧ wr.frozen? ⟨B + 1 + 1 + 1, 2, none⟩ = false

section
variable {t y : Nd} {a ay : Option Addr} {c cy B : Nat} {v : Value} {W W' : World}
theorem SBoxes.lt (h : SBoxes t y a ay c cy B v W) : B + 1 + 1 + 1 < W.heap.size := cell_lt h.2.2.2.1.1
theorem SBoxes.below {n : Nat} (h : SBoxes t y a ay c cy B v W) (hb : Below n W W') (hn : B + 1 + 1 + 1 < n) : SBoxes t y a ay c cy B v W' := by
  obtain ⟨hc, hfz⟩ := bcell hb
  obtain ⟨⟨q0, q1, q2, q3⟩, ⟨y0, y1, y2, y3⟩, ⟨⟨r0, r1, r2, r3⟩, f0, f1, f2, f3⟩, ⟨o0, o1, o2, o3⟩, g⟩ := h
  exact ⟨⟨(hc _ _ (by omega)).trans q0, (hc _ _ (by omega)).trans q1, (hc _ _ (by omega)).trans q2, (hc _ _ (by omega)).trans q3⟩,
    ⟨(hc _ _ (by omega)).trans y0, (hc _ _ (by omega)).trans y1, (hc _ _ (by omega)).trans y2, (hc _ _ (by omega)).trans y3⟩,
    ⟨⟨(hc _ _ (by omega)).trans r0, (hc _ _ (by omega)).trans r1, (hc _ _ (by omega)).trans r2, (hc _ _ (by omega)).trans r3⟩, (hfz _ _ (by omega)).trans f0, (hfz _ _ (by omega)).trans f1, (hfz _ _ (by omega)).trans f2, (hfz _ _ (by omega)).trans f3⟩,
    ⟨(hc _ _ (by omega)).trans o0, (hc _ _ (by omega)).trans o1, (hc _ _ (by omega)).trans o2, (hc _ _ (by omega)).trans o3⟩, (hfz _ _ (by omega)).trans g⟩
theorem SBoxes.on (h : SBoxes t y a ay c cy B v W) (hb : Below W.heap.size W W') : SBoxes t y a ay c cy B v W' := h.below hb h.lt
theorem SBoxes.put (h : SBoxes t y a ay c cy B v W) (u : Value) : SBoxes t y a ay c cy B u (W.setCell ⟨B + 1 + 1 + 1, 2, none⟩ u) := by
  obtain ⟨⟨q0, q1, q2, q3⟩, ⟨y0, y1, y2, y3⟩, ⟨⟨r0, r1, r2, r3⟩, f0, f1, f2, f3⟩, ⟨o0, o1, o2, o3⟩, g⟩ := h
  refine ⟨⟨?_, ?_, ?_, ?_⟩, ⟨?_, ?_, ?_, ?_⟩, ⟨⟨?_, ?_, ?_, ?_⟩, ?_, ?_, ?_, ?_⟩, ⟨?_, ?_, ?_, ?_⟩, ?_⟩ <;> simp [go_sem, q0, q1, q2, q3, y0, y1, y2, y3, r0, r1, r2, r3, f0, f1, f2, f3, o0, o1, o2, o3, g]
end

set_option maxRecDepth 100000 in
set_option maxHeartbeats 4000000 in
theorem rswap_zero (t y : Nd) (a ay : Option Addr) (c cy : Nat) (kind : Int) (text : List UInt8) (Zo : Nat → Prop) (w : World) (hk : KidsZ w Zo a t.kids) (hZ : ∀ b, Zo b → b < w.heap.size) (hf : Fits t c) :
    Calls Try.prog 15 #[.agg #[.int .i64 t.kind, .string ⟨t.text.toArray⟩, .slice a t.kids.length c, .int .i64 t.pos], .int .i64 kind, .string ⟨text.toArray⟩, .agg #[.int .i64 y.kind, .string ⟨y.text.toArray⟩, .slice ay y.kids.length cy, .int .i64 y.pos], .int .i64 0] w (Copied Zo t w) := by
  have HK := Lib.hid hk
  have HF := Lib.hid hf
  have HZ := Lib.hid hZ
  clear hk hf hZ
  go_enter Try.func15, Try.ntmps15
  go_wp2_with fail
  have hb : Below w.heap.size w (((w.alloc (.cells #[.int .i64 t.kind, .string ⟨t.text.toArray⟩, .slice a t.kids.length c, .int .i64 t.pos] 24)).alloc (.cells #[.int .i64 y.kind, .string ⟨y.text.toArray⟩, .slice ay y.kids.length cy, .int .i64 y.pos] 24)).alloc (.cells #[.int .i64 t.kind, .string ⟨t.text.toArray⟩, .slice a t.kids.length c, .int .i64 t.pos] 24)) := (((Below.refl _ _).alloc (Nat.le_refl _) _).alloc (by simp) _).alloc (by simp; omega) _
  refine bodyPost_ret (v := .agg #[.int .i64 t.kind, .string ⟨t.text.toArray⟩, .slice a t.kids.length c, .int .i64 t.pos]) (by simp [results, Try.results15, go_sem]) rfl ⟨hb, a, c, rfl, HF.out, HK.out.move (fun b h => .inl h) (fun p v hp hv => (hb.cell (HZ.out _ hp)).trans hv)⟩

set_option maxRecDepth 100000 in
set_option maxHeartbeats 4000000 in
theorem rswap_some (d : Nat) (hd : d ≤ 100) (t y : Nd) (a ay : Option Addr) (c cy : Nat) (kind : Int) (text : List UInt8) (Zo : Nat → Prop) (w : World) (hm : (t.kind == kind && (t.text == text && t.kids.isEmpty)) = true) (hky : KidsZ w Zo ay y.kids) (hZ : ∀ b, Zo b → b < w.heap.size) (hf : Fits t c) (hfy : Fits y cy) :
    Calls Try.prog 15 #[.agg #[.int .i64 t.kind, .string ⟨t.text.toArray⟩, .slice a t.kids.length c, .int .i64 t.pos], .int .i64 kind, .string ⟨text.toArray⟩, .agg #[.int .i64 y.kind, .string ⟨y.text.toArray⟩, .slice ay y.kids.length cy, .int .i64 y.pos], .int .i64 ((d : Int) + 1)] w (Copied Zo y w) := by
  obtain ⟨h1, h2, h3⟩ : (t.kind == kind) = true ∧ (t.text == text) = true ∧ t.kids.isEmpty = true := by simpa [Bool.and_eq_true] using hm
  have h0 : ((d : Int) + 1 == 0) = false := by simp; omega
  have hl63 : t.kids.length ≤ 9223372036854775807 := by have := hf.2.2.2.2.2.1; have := hf.2.2.2.2.2.2.1; omega
  have e3 := len_zero t.kids
  rw [h3] at e3
  have HK := Lib.hid hky
  have HF := Lib.hid hfy
  have HZ := Lib.hid hZ
  clear hky hfy hZ hm h3 hf
  go_enter Try.func15, Try.ntmps15
  go_wp2_with fail
  have hb : Below w.heap.size w (((w.alloc (.cells #[.int .i64 t.kind, .string ⟨t.text.toArray⟩, .slice a t.kids.length c, .int .i64 t.pos] 24)).alloc (.cells #[.int .i64 y.kind, .string ⟨y.text.toArray⟩, .slice ay y.kids.length cy, .int .i64 y.pos] 24)).alloc (.cells #[.int .i64 y.kind, .string ⟨y.text.toArray⟩, .slice ay y.kids.length cy, .int .i64 y.pos] 24)) := (((Below.refl _ _).alloc (Nat.le_refl _) _).alloc (by simp) _).alloc (by simp; omega) _
  refine bodyPost_ret (v := .agg #[.int .i64 y.kind, .string ⟨y.text.toArray⟩, .slice ay y.kids.length cy, .int .i64 y.pos]) (by simp [results, Try.results15, go_sem]) rfl ⟨hb, ay, cy, rfl, HF.out, HK.out.move (fun b h => .inl h) (fun p v hp hv => (hb.cell (HZ.out _ hp)).trans hv)⟩
end Go.Proofs.Ytnmebgiiajnnjaa
