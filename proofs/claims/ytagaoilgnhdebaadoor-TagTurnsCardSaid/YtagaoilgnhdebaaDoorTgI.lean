/-
  tag: the reader's terms, over whatever factor reads: walked.
-/
import Derived.Test.YtagaoilgnhdebaaDoorTgH
namespace Go.Proofs.YtagaoilgnhdebaaDoor
set_option linter.unusedSimpArgs false
set_option linter.unusedVariables false
open Go.RowKit

theorem rowT_len {sign : List UInt8} {q : List UInt8 → Option (Xp × List UInt8)} (hq : ∀ s x r, q s = some (x, r) → r.length ≤ s.length) : ∀ (k : Nat) (s : List UInt8) (l : List Xp) (r : List UInt8), rowT sign q k s = some (l, r) → r.length ≤ s.length
  | 0, s, l, r, h => by cases h
  | k + 1, s, l, r, h => by
    have h0 := takesT_le sign s
    rw [rowT] at h
    split at h
    · split at h
      · cases h
      · rename_i x r1 h1
        have h2 := hq _ _ _ h1
        split at h
        · cases h
        · rename_i l2 r2 h3
          have h4 := rowT_len hq k _ _ _ h3
          simp only [Option.some.injEq, Prod.mk.injEq] at h
          obtain ⟨-, rfl⟩ := h
          omega
    · simp only [Option.some.injEq, Prod.mk.injEq] at h
      obtain ⟨-, rfl⟩ := h
      omega
theorem rowsT_len {sign : List UInt8} {q : List UInt8 → Option (Xp × List UInt8)} (hq : ∀ s x r, q s = some (x, r) → r.length ≤ s.length) : ∀ s x r, rowsT sign q s = some (x, r) → r.length ≤ s.length := by
  intro s x r h
  rw [rowsT] at h
  split at h
  · cases h
  · rename_i x1 r1 h1
    have h2 := hq _ _ _ h1
    split at h
    · cases h
    · rename_i l2 r2 h3
      have h4 := rowT_len hq _ _ _ _ h3
      simp only [Option.some.injEq, Prod.mk.injEq] at h
      obtain ⟨-, rfl⟩ := h
      omega

/-- A part's result, stored in a new block and handed on. -/
theorem PartPost.stored {R : Nat} {w wa w1 : World} {x : Xp} {r : List UInt8} {a : Option Addr} {c : Nat} (hba : But R w wa) (hRl : R < w.heap.size) (hsz : w.heap.size < wa.heap.size) (hb1 : But R wa w1) (hf : Fitx x c) (hx : Xids w1 (fun b => wa.heap.size ≤ b) a x.kids) (hr : Rd R r w1) :
    PartPost R (some (x, r)) w (.returned (.agg #[.string ⟨x.op.toArray⟩, .string ⟨x.tag.toArray⟩, .slice a x.kids.length c])) (((w1.setCell ⟨w.heap.size, 0, none⟩ (.string ⟨x.op.toArray⟩)).setCell ⟨w.heap.size, 1, none⟩ (.string ⟨x.tag.toArray⟩)).setCell ⟨w.heap.size, 2, none⟩ (.slice a x.kids.length c)) := by
  refine ⟨(((hba.trans hb1).setNew (p := ⟨w.heap.size, 0, none⟩) (Nat.le_refl _) _).setNew (p := ⟨w.heap.size, 1, none⟩) (Nat.le_refl _) _).setNew (p := ⟨w.heap.size, 2, none⟩) (Nat.le_refl _) _, a, c, rfl, hf, hx.move (fun b hb => by omega) (fun p u hp hu => ?_), ((hr.set3 (by omega) _ _).set3 (by omega) _ _).set3 (by omega) _ _⟩
  rw [cell_far_set (by omega), cell_far_set (by omega), cell_far_set (by omega)]
  exact hu

set_option maxHeartbeats 4000000 in
theorem terms1_any (R n : Nat) (hn : n ≤ 100000) (q : List UInt8 → Option (Xp × List UInt8)) (hq : ∀ s x r, q s = some (x, r) → r.length ≤ s.length) (X : Nat) (s : List UInt8) (hs : s.length < n) (w : World)
    (hp : PartSays R n q 46 #[.pointer (some ⟨R, 0, none⟩)] w) (hX : w.cell? ⟨X, 0, none⟩ = some (.pointer (some ⟨R, 0, none⟩))) (hr : Rd R s w) :
    Calls Tryd.prog 45 #[.pointer (some ⟨X, 0, none⟩)] w (PartPost R (rowsT [38, 38] q s) w) := by
  have hRl := hr.lt
  have hXl : X < w.heap.size := cell_lt1 hX
  obtain ⟨wa, hwa⟩ : ∃ wa, w.alloc (.cells #[.string ⟨#[]⟩, .string ⟨#[]⟩, .slice none 0 0] 29) = wa := ⟨_, rfl⟩
  have hba : But R w wa := by rw [← hwa]; exact World.grownBy_alloc _ _ _
  have hra : Rd R s wa := by rw [← hwa]; exact hr.on (below_alloc _ _)
  have hsla : Slots w.heap.size wa := by rw [← hwa]; exact Slots.new _ _
  have hsza : wa.heap.size = w.heap.size + 1 := by rw [← hwa]; simp
  have hXa : wa.cell? ⟨X, 0, none⟩ = some (.pointer (some ⟨R, 0, none⟩)) := by rw [← hwa]; exact ((below_alloc w _).cell hXl).trans hX
  have H := Lib.hid (row_any takes_any R n hn [38, 38] (by simp) (by simp) 46 #[.pointer (some ⟨R, 0, none⟩)] #[] q hq (enters_of Tryd.func46 (by kernel_rfl) rfl) s hs wa (hp.but hba) hra)
  have HBA := Lib.hid hba
  have HSL := Lib.hid hsla
  obtain ⟨Q0, hQ0⟩ : ∃ Q0, rowsT [38, 38] q s = Q0 := ⟨_, rfl⟩
  rw [hQ0] at H ⊢
  clear hp hba hra hr hsla hQ0
  cases Q0 with
  | none =>
    go_enter Tryd.func45, Tryd.ntmps45
    go_wp2_with fail
    refine H.out.mono ?_
    rintro e w1 ⟨hb1, rfl⟩
    exact ⟨rfl, HBA.out.trans hb1, rfl⟩
  | some xr =>
    obtain ⟨x, r⟩ := xr
    go_enter Tryd.func45, Tryd.ntmps45
    go_wp2_with fail
    refine H.out.mono ?_
    rintro e w1 ⟨hb1, a, c, rfl, hfx, hxk, hr1⟩
    have hsl1 := HSL.out.grown hb1 (fun e => by cases e; omega)
    have hTl := hsl1.lt
    obtain ⟨⟨x0, y0, z0, q0, q1, q2⟩, f0, f1, f2⟩ := hsl1
    have HF := Lib.hid (PartPost.stored HBA.out hRl (by omega) hb1 hfx hxk hr1)
    clear hb1 hfx hxk hr1
    go_wp2_with fail
    exact bodyPost_ret (v := .agg #[.string ⟨x.op.toArray⟩, .string ⟨x.tag.toArray⟩, .slice a x.kids.length c]) (by simp [results, Tryd.results45, go_sem, q0, q1, q2, hTl]) rfl HF.out

set_option maxHeartbeats 4000000 in
theorem terms_any (R n : Nat) (hn : n ≤ 100000) (q : List UInt8 → Option (Xp × List UInt8)) (hq : ∀ s x r, q s = some (x, r) → r.length ≤ s.length) (s : List UInt8) (hs : s.length < n) (w : World)
    (hp : PartSays R n q 46 #[.pointer (some ⟨R, 0, none⟩)] w) (hr : Rd R s w) :
    Calls Tryd.prog 31 #[.pointer (some ⟨R, 0, none⟩)] w (PartPost R (termsOf q s) w) := by
  have hRl := hr.lt
  obtain ⟨wa, hwa⟩ : ∃ wa, (w.alloc (.cells #[.pointer (some ⟨R, 0, none⟩)] 54)).alloc (.cells #[.string ⟨#[]⟩, .string ⟨#[]⟩, .slice none 0 0] 29) = wa := ⟨_, rfl⟩
  have hba : But R w wa := by rw [← hwa]; exact But.alloc (World.grownBy_alloc w _ _) _
  have hra : Rd R s wa := by rw [← hwa]; exact (hr.on (below_alloc _ _)).on (below_alloc _ _)
  have hsla : Slots (w.heap.size + 1) wa := by have := Slots.new (w.alloc (.cells #[.pointer (some ⟨R, 0, none⟩)] 54)) 29; rw [hwa] at this; simpa using this
  have hsza : wa.heap.size = w.heap.size + 2 := by rw [← hwa]; simp
  have hXa : wa.cell? ⟨w.heap.size, 0, none⟩ = some (.pointer (some ⟨R, 0, none⟩)) := by rw [← hwa]; simp [go_sem]
  have hpa := hp.but hba
  have H := Lib.hid (row_any takes_any R n hn [124, 124] (by simp) (by simp) 45 #[] #[.pointer (some ⟨w.heap.size, 0, none⟩)] (rowsT [38, 38] q) (rowsT_len hq) (enters_of Tryd.func45 (by kernel_rfl) rfl) s hs wa
    (fun W s' hW hs' hr' => terms1_any R n hn q hq w.heap.size s' hs' W (hpa.but hW) (hW.cell (by show w.heap.size ≠ R; omega) hXa) hr') hra)
  have HBA := Lib.hid hba
  have HSL := Lib.hid hsla
  obtain ⟨Q0, hQ0⟩ : ∃ Q0, termsOf q s = Q0 := ⟨_, rfl⟩
  have hQ1 : rowsT [124, 124] (rowsT [38, 38] q) s = Q0 := hQ0
  rw [hQ1] at H
  rw [hQ0]
  clear hp hpa hba hra hr hsla hQ0 hQ1
  cases Q0 with
  | none =>
    go_enter Tryd.func31, Tryd.ntmps31
    go_wp2_with fail
    refine H.out.mono ?_
    rintro e w1 ⟨hb1, rfl⟩
    exact ⟨rfl, HBA.out.trans hb1, rfl⟩
  | some xr =>
    obtain ⟨x, r⟩ := xr
    go_enter Tryd.func31, Tryd.ntmps31
    go_wp2_with fail
    refine H.out.mono ?_
    rintro e w1 ⟨hb1, a, c, rfl, hfx, hxk, hr1⟩
    have hsl1 := HSL.out.grown hb1 (fun e => by cases e; omega)
    have hTl := hsl1.lt
    obtain ⟨⟨x0, y0, z0, q0, q1, q2⟩, f0, f1, f2⟩ := hsl1
    have HF : Hid (PartPost R (some (x, r)) w (.returned (.agg #[.string ⟨x.op.toArray⟩, .string ⟨x.tag.toArray⟩, .slice a x.kids.length c])) (((w1.setCell ⟨w.heap.size + 1, 0, none⟩ (.string ⟨x.op.toArray⟩)).setCell ⟨w.heap.size + 1, 1, none⟩ (.string ⟨x.tag.toArray⟩)).setCell ⟨w.heap.size + 1, 2, none⟩ (.slice a x.kids.length c))) := by
      refine Lib.hid ⟨(((HBA.out.trans hb1).setNew (p := ⟨w.heap.size + 1, 0, none⟩) (by simp) _).setNew (p := ⟨w.heap.size + 1, 1, none⟩) (by simp) _).setNew (p := ⟨w.heap.size + 1, 2, none⟩) (by simp) _, a, c, rfl, hfx, hxk.move (fun b hb => by omega) (fun p u hp hu => ?_), ((hr1.set3 (by omega) _ _).set3 (by omega) _ _).set3 (by omega) _ _⟩
      rw [cell_far_set (by omega), cell_far_set (by omega), cell_far_set (by omega)]
      exact hu
    clear hb1 hfx hxk hr1
    go_wp2_with fail
    exact bodyPost_ret (v := .agg #[.string ⟨x.op.toArray⟩, .string ⟨x.tag.toArray⟩, .slice a x.kids.length c]) (by simp [results, Tryd.results31, go_sem, q0, q1, q2, hTl]) rfl HF.out
end Go.Proofs.YtagaoilgnhdebaaDoor
