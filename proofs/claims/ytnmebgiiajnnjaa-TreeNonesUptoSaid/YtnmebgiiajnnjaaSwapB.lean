/-
  tree.Swap, walked
-/
import Derived.Test.YtnmebgiiajnnjaaSwapA
namespace Go.Proofs.Ytnmebgiiajnnjaa
set_option linter.unusedSimpArgs false
set_option linter.unusedVariables false
open Go.RowKit

/-- A node comes back; its kids lie in memory. -/
def Gives (t : Nd) (w : World) (e : Ending) (w' : World) : Prop := Below w.heap.size w w' ∧ ∃ a' c', e = .returned (.agg #[.int .i64 t.kind, .string ⟨t.text.toArray⟩, .slice a' t.kids.length c', .int .i64 t.pos]) ∧ Fits t c' ∧ Kids w' w'.heap.size a' t.kids

set_option maxRecDepth 100000 in
set_option maxHeartbeats 4000000 in
theorem swap_any (t y : Nd) (a ay : Option Addr) (c cy : Nat) (kind : Int) (text : List UInt8) (w : World) (hk : Kids w w.heap.size a t.kids) (hf : Fits t c) (hky : Kids w w.heap.size ay y.kids) (hfy : Fits y cy) :
    Calls Try.prog 14 #[.agg #[.int .i64 t.kind, .string ⟨t.text.toArray⟩, .slice a t.kids.length c, .int .i64 t.pos], .int .i64 kind, .string ⟨text.toArray⟩, .agg #[.int .i64 y.kind, .string ⟨y.text.toArray⟩, .slice ay y.kids.length cy, .int .i64 y.pos]] w (Gives (copyL (swapF kind text y) 100 t) w) := by
  obtain ⟨wa, hwa⟩ : ∃ wa, ((((w.alloc (.cells #[.int .i64 t.kind, .string ⟨t.text.toArray⟩, .slice a t.kids.length c, .int .i64 t.pos] 24)).alloc (.cells #[.int .i64 kind] 3)).alloc (.cells #[.string ⟨text.toArray⟩] 9)).alloc (.cells #[.int .i64 y.kind, .string ⟨y.text.toArray⟩, .slice ay y.kids.length cy, .int .i64 y.pos] 24)).alloc (.cells #[.int .i64 0, .string ⟨#[]⟩, .slice none 0 0, .int .i64 0] 24) = wa := ⟨_, rfl⟩
  have hba : Below w.heap.size w wa := by rw [← hwa]; exact (((((Below.refl _ _).alloc (Nat.le_refl _) _).alloc (by simp) _).alloc (by simp; omega) _).alloc (by simp; omega) _).alloc (by simp; omega) _
  have hsz : wa.heap.size = w.heap.size + 5 := by rw [← hwa]; simp
  have hzz : ∀ {aa : Option Addr} {ll : List Nd}, Kids w w.heap.size aa ll → KidsZ wa (· < w.heap.size) aa ll := fun h => h.toZ.move (fun _ hb => hb) (fun p _ hp hv => (hba.cell hp).trans hv)
  have hcg : Caught (· < w.heap.size) y ay cy kind text (w.heap.size + 1 + 1 + 1) (w.heap.size + 1) (w.heap.size + 1 + 1) wa := by
    refine ⟨?_, ?_, ?_, .inl (hzz hky), fun b h => by omega, hky.on hba, hfy⟩
    · rw [← hwa]; refine ⟨?_, ?_, ?_, ?_⟩ <;> simp [go_sem]
    · rw [← hwa]; simp [go_sem]
    · rw [← hwa]; simp [go_sem]
  have hat := swap1_at _ y ay cy kind text _ _ _ wa hcg
  have hcall := copied_any (swapF kind text y) 24 #[.pointer (some ⟨w.heap.size + 1 + 1 + 1, 0, none⟩), .pointer (some ⟨w.heap.size + 1, 0, none⟩), .pointer (some ⟨w.heap.size + 1 + 1, 0, none⟩)] _ (enters_of Try.func24 (by kernel_rfl) rfl) 100 (by omega) t a c wa hat (.inl (hzz hk)) (fun b h => by omega) (hk.on hba) hf
  obtain ⟨r, hr⟩ : ∃ r, copyL (swapF kind text y) 100 t = r := ⟨_, rfl⟩
  rw [hr] at hcall ⊢
  clear hr
  have nr : wa.cell? ⟨w.heap.size + 1 + 1 + 1 + 1, 0, none⟩ = some (.int .i64 0) ∧ wa.cell? ⟨w.heap.size + 1 + 1 + 1 + 1, 1, none⟩ = some (.string ⟨#[]⟩) ∧ wa.cell? ⟨w.heap.size + 1 + 1 + 1 + 1, 2, none⟩ = some (.slice none 0 0) ∧ wa.cell? ⟨w.heap.size + 1 + 1 + 1 + 1, 3, none⟩ = some (.int .i64 0) := by
    rw [← hwa]; refine ⟨?_, ?_, ?_, ?_⟩ <;> simp [go_sem]
  have nf : wa.frozen? ⟨w.heap.size + 1 + 1 + 1 + 1, 0, none⟩ = false ∧ wa.frozen? ⟨w.heap.size + 1 + 1 + 1 + 1, 1, none⟩ = false ∧ wa.frozen? ⟨w.heap.size + 1 + 1 + 1 + 1, 2, none⟩ = false ∧ wa.frozen? ⟨w.heap.size + 1 + 1 + 1 + 1, 3, none⟩ = false := by
    rw [← hwa]; refine ⟨?_, ?_, ?_, ?_⟩ <;> simp [go_sem]
  have hcall' := hcall.mono (R' := fun e w1 => ∃ a' c', e = .returned (.agg #[.int .i64 r.kind, .string ⟨r.text.toArray⟩, .slice a' r.kids.length c', .int .i64 r.pos]) ∧
      (w1.cell? ⟨w.heap.size + 1 + 1 + 1 + 1, 0, none⟩ = some (.int .i64 0) ∧ w1.cell? ⟨w.heap.size + 1 + 1 + 1 + 1, 1, none⟩ = some (.string ⟨#[]⟩) ∧ w1.cell? ⟨w.heap.size + 1 + 1 + 1 + 1, 2, none⟩ = some (.slice none 0 0) ∧ w1.cell? ⟨w.heap.size + 1 + 1 + 1 + 1, 3, none⟩ = some (.int .i64 0)) ∧
      (w1.frozen? ⟨w.heap.size + 1 + 1 + 1 + 1, 0, none⟩ = false ∧ w1.frozen? ⟨w.heap.size + 1 + 1 + 1 + 1, 1, none⟩ = false ∧ w1.frozen? ⟨w.heap.size + 1 + 1 + 1 + 1, 2, none⟩ = false ∧ w1.frozen? ⟨w.heap.size + 1 + 1 + 1 + 1, 3, none⟩ = false) ∧
      w.heap.size + 1 + 1 + 1 + 1 < w1.heap.size ∧ Hid (Below wa.heap.size wa w1 ∧ Fits r c' ∧ KidsZ w1 (fun b => b < w.heap.size ∨ (wa.heap.size ≤ b ∧ b < w1.heap.size)) a' r.kids))
    (fun e w1 ⟨hb, a', c', he, hfit, hz⟩ => by
      obtain ⟨hc, hfz⟩ := bcell hb
      have hs := hb.size
      exact ⟨a', c', he, cells_on hb nr.1 nr.2.1 nr.2.2.1 nr.2.2.2,
        ⟨(hfz _ _ (by omega)).trans nf.1, (hfz _ _ (by omega)).trans nf.2.1, (hfz _ _ (by omega)).trans nf.2.2.1, (hfz _ _ (by omega)).trans nf.2.2.2⟩, by omega, Lib.hid ⟨hb, hfit, hz⟩⟩)
  rw [← hwa] at hcall' hba hsz
  have HC := Lib.hid hcall'
  have HB := Lib.hid hba
  have HSZ := Lib.hid hsz
  clear hcall hcall' hba hsz hcg hat nr nf hk hf hky hfy hwa hzz
  go_enter Try.func14, Try.ntmps14
  go_wp2_with fail
  refine HC.out.mono ?_
  rintro e w1 ⟨a', c', rfl, ⟨r0, r1, r2, r3⟩, ⟨f0, f1, f2, f3⟩, hs1, hr1⟩
  go_wp2_with fail
  refine bodyPost_ret (v := .agg #[.int .i64 r.kind, .string ⟨r.text.toArray⟩, .slice a' r.kids.length c', .int .i64 r.pos]) (by simp [results, Try.results14, go_sem, r0, r1, r2, r3, hs1]) rfl ⟨?_, a', c', rfl, hr1.out.2.1, ?_⟩
  · exact ((((bext HB.out hr1.out.1).setCell (p := ⟨w.heap.size + 1 + 1 + 1 + 1, 0, none⟩) (by simp; omega) _).setCell (p := ⟨w.heap.size + 1 + 1 + 1 + 1, 1, none⟩) (by simp; omega) _).setCell (p := ⟨w.heap.size + 1 + 1 + 1 + 1, 2, none⟩) (by simp; omega) _).setCell (p := ⟨w.heap.size + 1 + 1 + 1 + 1, 3, none⟩) (by simp; omega) _
  · refine KidsZ.kids (Z := fun b => b < w.heap.size ∨ (w.heap.size + 5 ≤ b ∧ b < w1.heap.size)) (hr1.out.2.2.move (fun b hb => hb.imp id (fun h => ⟨by have := HSZ.out; omega, h.2⟩)) (fun p v hp hv => ?_)) (fun b hb => by have := hs1; simp [World.setCell]; omega)
    have h1 := HSZ.out
    have h2 : p.block ≠ w.heap.size + 1 + 1 + 1 + 1 := by
      rcases hp with hp | hp <;> omega
    rw [cell_far_set h2, cell_far_set h2, cell_far_set h2, cell_far_set h2]
    exact hv
end Go.Proofs.Ytnmebgiiajnnjaa
