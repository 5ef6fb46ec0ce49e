/-
  tree.Copy, walked
-/
import Derived.Test.YtnmebgiiajnnjaaGreatCopyD
namespace Go.Proofs.YtnmebgiiajnnjaaGreat
set_option linter.unusedSimpArgs false
set_option linter.unusedVariables false
open Go.RowKit

theorem copy_at (Zo : Nat → Prop) (w : World) : AtSays 52 #[] (fun _ => none) Zo w := fun W x a c _ _ hf => by
  have h := copy1_any x a c W
  have e : (#[.agg #[.int .i64 x.kind, .string ⟨x.text.toArray⟩, .slice a x.kids.length c, .int .i64 x.pos]] ++ #[] : Array Value) = #[.agg #[.int .i64 x.kind, .string ⟨x.text.toArray⟩, .slice a x.kids.length c, .int .i64 x.pos]] := by simp
  rw [e]
  exact h.mono (fun e W' ⟨he, hb⟩ => ⟨hb, x, a, c, he, .inr rfl, hf, .inl rfl⟩)

/-- Copy: a zone of its own where the node is not too deep. -/
theorem copy_call (Zo : Nat → Prop) (t : Nd) (a : Option Addr) (c : Nat) (w : World) (hz : KidsZ w Zo a t.kids ∨ t.height ≤ 100) (hZ : ∀ b, Zo b → b < w.heap.size) (hk : Kids w w.heap.size a t.kids) (hf : Fits t c) :
    Calls Tryz.prog 51 #[.agg #[.int .i64 t.kind, .string ⟨t.text.toArray⟩, .slice a t.kids.length c, .int .i64 t.pos], .int .i64 100, .func (.func 52) #[] #[]] w (Copied Zo t w) := by
  have h := copied_any (fun _ => none) 52 #[] Zo (enters_of Tryz.func52 (by kernel_rfl) rfl) 100 (by omega) t a c w (copy_at Zo w) (hz.imp id (fun h => ⟨h, fun _ => rfl⟩)) hZ hk hf
  rw [copyL_none] at h
  exact h

set_option maxHeartbeats 1000000 in
theorem copy_any (Zo : Nat → Prop) (t : Nd) (a : Option Addr) (c : Nat) (w : World) (hz : KidsZ w Zo a t.kids ∨ t.height ≤ 100) (hZ : ∀ b, Zo b → b < w.heap.size) (hk : Kids w w.heap.size a t.kids) (hf : Fits t c) :
    Calls Tryz.prog 25 #[.agg #[.int .i64 t.kind, .string ⟨t.text.toArray⟩, .slice a t.kids.length c, .int .i64 t.pos]] w (Copied Zo t w) := by
  obtain ⟨wa, hwa⟩ : ∃ wa, (w.alloc (.cells #[.int .i64 t.kind, .string ⟨t.text.toArray⟩, .slice a t.kids.length c, .int .i64 t.pos] 24)).alloc (.cells #[.int .i64 0, .string ⟨#[]⟩, .slice none 0 0, .int .i64 0] 24) = wa := ⟨_, rfl⟩
  have hba : Below w.heap.size w wa := by rw [← hwa]; exact ((Below.refl _ _).alloc (Nat.le_refl _) _).alloc (by simp) _
  have hsz : wa.heap.size = w.heap.size + 2 := by rw [← hwa]; simp
  have hcall := copy_call Zo t a c wa (hz.imp (fun h => h.move (fun _ hb => hb) (fun p _ hp hv => (hba.cell (hZ _ hp)).trans hv)) id) (fun b hb => by have := hZ b hb; omega) (hk.on hba) hf
  have HB := Lib.hid hba
  have n0 : wa.cell? ⟨w.heap.size, 0, none⟩ = some (.int .i64 t.kind) := by rw [← hwa]; simp [go_sem]
  have n1 : wa.cell? ⟨w.heap.size, 1, none⟩ = some (.string ⟨t.text.toArray⟩) := by rw [← hwa]; simp [go_sem]
  have n2 : wa.cell? ⟨w.heap.size, 2, none⟩ = some (.slice a t.kids.length c) := by rw [← hwa]; simp [go_sem]
  have n3 : wa.cell? ⟨w.heap.size, 3, none⟩ = some (.int .i64 t.pos) := by rw [← hwa]; simp [go_sem]
  have hB0 : Boxes t w.heap.size (.slice a t.kids.length c) wa := by
    rw [← hwa]
    refine ⟨⟨?_, ?_, ?_, ?_, ?_⟩, ⟨?_, ?_, ?_, ?_⟩, ?_, ?_, ?_, ?_⟩ <;> simp [go_sem]
  have HC := Lib.hid hcall
  have HZ := Lib.hid hZ
  have HSZ := Lib.hid hsz
  have HX := Lib.hid hB0
  clear hcall hba hk hf hZ hsz hB0 hz
  go_enter Tryz.func25, Tryz.ntmps25
  go_wp2_with fail
  refine HC.out.mono ?_
  rintro e w1 ⟨hb1, a', c', rfl, hfit, hkz⟩
  obtain ⟨-, ⟨r0, r1, r2, r3⟩, f0, f1, f2, f3⟩ := HX.out.on hb1
  have hs1 : w.heap.size + 1 < w1.heap.size := by have := HSZ.out; have := hb1.size; omega
  have HB1 := Lib.hid hb1
  have HF := Lib.hid hfit
  have HKZ := Lib.hid hkz
  clear hb1 hfit hkz hwa n0 n1 n2 n3
  go_wp2_with fail
  refine bodyPost_ret (v := .agg #[.int .i64 t.kind, .string ⟨t.text.toArray⟩, .slice a' t.kids.length c', .int .i64 t.pos]) (by simp [results, Tryz.results25, go_sem, r0, r1, r2, r3, hs1]) rfl ⟨?_, a', c', rfl, HF.out, HKZ.out.move ?_ ?_⟩
  · exact ((((bext HB.out HB1.out).setCell (p := ⟨w.heap.size + 1, 0, none⟩) (by simp) _).setCell (p := ⟨w.heap.size + 1, 1, none⟩) (by simp) _).setCell (p := ⟨w.heap.size + 1, 2, none⟩) (by simp) _).setCell (p := ⟨w.heap.size + 1, 3, none⟩) (by simp) _
  · intro b hb
    have h1 := HSZ.out
    rcases hb with hb | hb
    · exact .inl hb
    · exact .inr (((((hb.low (by have := hb.lo; omega)).set _ _).set _ _).set _ _).set _ _)
  · intro p v hp hv
    have h1 := HSZ.out
    have h2 : p.block ≠ w.heap.size + 1 := by
      rcases hp with hp | hp
      · have := HZ.out _ hp; omega
      · have := hp.lo; omega
    rw [cell_far_set h2, cell_far_set h2, cell_far_set h2, cell_far_set h2]
    exact hv
end Go.Proofs.YtnmebgiiajnnjaaGreat
