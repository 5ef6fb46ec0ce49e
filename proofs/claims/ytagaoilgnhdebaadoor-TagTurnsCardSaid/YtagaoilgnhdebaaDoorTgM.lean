/-
  tag.Read, walked whole.
-/
import Derived.Test.YtagaoilgnhdebaaDoorTgL
import Derived.Test.YtagaoilgnhdebaaDoorTgQ
namespace Go.Proofs.YtagaoilgnhdebaaDoor
set_option linter.unusedSimpArgs false
set_option linter.unusedVariables false
open Go.RowKit

theorem takes_none (r : List UInt8) : takesT [] r = (true, skipT r) := by simp [takesT, Lib.hasPrefix]

/-- The constraint stored into the result's block. -/
theorem stored3 {X R : Nat} {w1 : World} (hX : Slots X w1) {r : List UInt8} (hr : Rd R r w1) (hne : R ≠ X) {x : Xp} {a : Option Addr} {c n : Nat} (hx : Xids w1 (fun b => n ≤ b) a x.kids) (hn : X < n) {E : Nat} {v : Value} (hE : w1.cell? ⟨E, 0, none⟩ = some v) (zE : w1.frozen? ⟨E, 0, none⟩ = false) (hE2 : E ≠ X) :
    ∃ w2, (((w1.setCell ⟨X, 0, none⟩ (.string ⟨x.op.toArray⟩)).setCell ⟨X, 1, none⟩ (.string ⟨x.tag.toArray⟩)).setCell ⟨X, 2, none⟩ (.slice a x.kids.length c)) = w2 ∧
      (w2.cell? ⟨X, 0, none⟩ = some (.string ⟨x.op.toArray⟩) ∧ w2.cell? ⟨X, 1, none⟩ = some (.string ⟨x.tag.toArray⟩) ∧ w2.cell? ⟨X, 2, none⟩ = some (.slice a x.kids.length c)) ∧ Slots X w2 ∧ Rd R r w2 ∧ Xids w2 (fun b => n ≤ b) a x.kids ∧
      w2.cell? ⟨E, 0, none⟩ = some v ∧ w2.frozen? ⟨E, 0, none⟩ = false ∧ w2.heap.size = w1.heap.size ∧ ∀ m, m ≤ X → Below m w1 w2 := by
  have hXl := hX.lt
  have hr' := ((hr.set3 hne 0 (.string ⟨x.op.toArray⟩)).set3 hne 1 (.string ⟨x.tag.toArray⟩)).set3 hne 2 (.slice a x.kids.length c)
  obtain ⟨⟨x0, y0, z0, q0, q1, q2⟩, f0, f1, f2⟩ := hX
  have hc : ∀ {p : Addr}, p.block ≠ X → (((w1.setCell ⟨X, 0, none⟩ (.string ⟨x.op.toArray⟩)).setCell ⟨X, 1, none⟩ (.string ⟨x.tag.toArray⟩)).setCell ⟨X, 2, none⟩ (.slice a x.kids.length c)).cell? p = w1.cell? p := fun hp => by
    rw [cell_far_set hp, cell_far_set hp, cell_far_set hp]
  refine ⟨_, rfl, ⟨?_, ?_, ?_⟩, ⟨⟨.string ⟨x.op.toArray⟩, .string ⟨x.tag.toArray⟩, .slice a x.kids.length c, ?_, ?_, ?_⟩, ?_, ?_, ?_⟩, hr', hx.move (fun b h => h) (fun p u hp hu => (hc (by omega)).trans hu), (hc hE2).trans hE, ?_, ?_, ?_⟩
  · simp [go_sem, q0, hXl]
  · simp [go_sem, q1, hXl]
  · simp [go_sem, q2, hXl]
  · simp [go_sem, q0, hXl]
  · simp [go_sem, q1, hXl]
  · simp [go_sem, q2, hXl]
  · simp [go_sem, f0]
  · simp [go_sem, f1]
  · simp [go_sem, f2]
  · simp [go_sem, zE]
  · simp [World.setCell]
  · intro m hm
    exact (((Below.refl m w1).setCell (p := ⟨X, 0, none⟩) hm _).setCell (p := ⟨X, 1, none⟩) hm _).setCell (p := ⟨X, 2, none⟩) hm _

set_option maxRecDepth 100000 in
set_option maxHeartbeats 8000000 in
theorem read_some (s : List UInt8) (w : World) (hl : s.length ≤ 500) (x : Xp) (r : List UInt8) (hn : termsT (s.length + 1) s = some (x, r)) : Calls Tryd.prog 21 #[.string ⟨s.toArray⟩] w (ReadPost (if skipT r = [] ∧ rightX 100 x = true then (x, 0) else (default, 8)) w) := by
  obtain ⟨wa, wb, hwa, hwb, hbb, hsl, e0, ze, hba, hsa, hsb, hab, hrb⟩ := read_opened s w 29 39 56
  have h5 : ¬ (500 : Int) < s.length := by omega
  have hrl : r.length ≤ s.length := rowsT_len (rowsT_len (factorT_len _)) _ _ _ hn
  have HT := readsTerms (s.length + 1) (by omega) (w.heap.size + 2) s (by omega) wb hrb
  rw [hn] at HT
  have HT' := Lib.hid HT
  have HS := Lib.hid (hsl.grown ⟨hab.os, hab.tape, hab.output, hab.size, fun k hk _ => hab.block k hk⟩ (row := none) (by simp))
  have e1 : wb.cell? ⟨w.heap.size + 1, 0, none⟩ = some (.int .i64 0) := (hab.cell (by show w.heap.size + 1 < _; omega)).trans e0
  have z1 : wb.frozen? ⟨w.heap.size + 1, 0, none⟩ = false := (hab.frozen (by show w.heap.size + 1 < _; omega)).trans ze
  have HE1 := Lib.hid e1
  have HZ1 := Lib.hid z1
  have HBB := Lib.hid hbb
  have hmf : ∀ (fn : Fn) (first cap : Array Value) (w : World), (Instr.makeFunc fn first cap).run Tryd.prog w = .ok (.func fn first cap) w := fun _ _ _ _ => rfl
  obtain ⟨Q0, hQ0⟩ : ∃ Q0, (if skipT r = [] ∧ rightX 100 x = true then (x, (0 : Int)) else (default, 8)) = Q0 := ⟨_, rfl⟩
  rw [hQ0]
  have HQ0 := Lib.hid hQ0
  clear hQ0
  clear HT hn hsl e0 ze hba hab hrb e1 z1 hbb
  go_enter_defers Tryd.func21, Tryd.ntmps21
  go_wp2_with fail
  refine HT'.out.mono ?_
  rintro e w1 ⟨hb1, a, c, rfl, hf, hx, hr⟩
  have hXS1 := HS.out.grown hb1 (by simp)
  have hE1 := hb1.cell (p := ⟨w.heap.size + 1, 0, none⟩) (by show w.heap.size + 1 ≠ w.heap.size + 2; omega) HE1.out
  have hZ1 := (hb1.frozen (p := ⟨w.heap.size + 1, 0, none⟩) (by show w.heap.size + 1 ≠ w.heap.size + 2; omega) (by show w.heap.size + 1 < _; omega)).trans HZ1.out
  have hbw1 := HBB.out.trans (hb1.below (by omega) (by omega))
  have hs1 := hb1.size
  obtain ⟨⟨x0, y0, t0, q0, q1, q2⟩, f0, f1, f2⟩ := hXS1
  obtain ⟨w2, hw2, ⟨p0, p1, p2⟩, hsl2, hr2, hx2, hE2, hZ2, hs2, hb2⟩ := stored3 (X := w.heap.size) (R := w.heap.size + 2) ⟨⟨x0, y0, t0, q0, q1, q2⟩, f0, f1, f2⟩ hr (by omega) (x := x) (c := c) hx (by omega) hE1 hZ1 (by omega)
  have HK := takes_any (w.heap.size + 2) [] r w2 hr2 (by omega) (by simp)
  rw [takes_none] at HK
  have HK' := Lib.hid HK
  have HB2 := Lib.hid (hbw1.trans (hb2 w.heap.size (Nat.le_refl _)))
  have HX2 := Lib.hid hx2
  have HE2 := Lib.hid hE2
  have HZ2 := Lib.hid hZ2
  have HF := Lib.hid hf
  have HS2 := Lib.hid hsl2
  have HSZ := Lib.hid (show w.heap.size + 3 ≤ w2.heap.size by omega)
  have HXL := Lib.hid (show w.heap.size < w1.heap.size by omega)
  clear hb1 hr hx hE1 hZ1 hbw1 hx2 hE2 hZ2 hb2 hr2 HK HS HE1 HZ1 HBB HT' hf hsl2 hs1 hs2
  have hXl1 := HXL.out
  go_wp2_with fail
  refine HK'.out.mono ?_
  rintro e w3 ⟨rfl, hb3, hr3⟩
  have hsl3 := HS2.out.grown hb3 (by simp)
  have hE3 := hb3.cell (p := ⟨w.heap.size + 1, 0, none⟩) (by show w.heap.size + 1 ≠ w.heap.size + 2; omega) HE2.out
  have hZ3 := (hb3.frozen (p := ⟨w.heap.size + 1, 0, none⟩) (by show w.heap.size + 1 ≠ w.heap.size + 2; omega) (by show w.heap.size + 1 < _; have := HSZ.out; omega)).trans HZ2.out
  have hs3 := hb3.size
  have hbw3 : Below w.heap.size w w3 := HB2.out.trans (hb3.below (by omega) (by have := HSZ.out; omega))
  have o0 := hb3.cell (p := ⟨w.heap.size, 0, none⟩) (by show w.heap.size ≠ w.heap.size + 2; omega) p0
  have o1 := hb3.cell (p := ⟨w.heap.size, 1, none⟩) (by show w.heap.size ≠ w.heap.size + 2; omega) p1
  have o2 := hb3.cell (p := ⟨w.heap.size, 2, none⟩) (by show w.heap.size ≠ w.heap.size + 2; omega) p2
  have hx3 : Xids w3 (fun b => w.heap.size + 3 ≤ b) a x.kids := HX2.out.move (fun b hb => by omega) (fun p u hp hu => hb3.cell (by omega) hu)
  have hXl3 : w.heap.size < w3.heap.size := hsl3.lt
  obtain ⟨hrc, hrz⟩ := hr3
  have hRl3 : w.heap.size + 2 < w3.heap.size := cell_lt1 hrc
  have HRT := Lib.hid (Right_any x a c w3 hx3.any HF.out)
  have HB3 := Lib.hid hbw3
  have HX3 := Lib.hid hx3
  have HE3 := Lib.hid hE3
  have HZ3 := Lib.hid hZ3
  have HS3 := Lib.hid hsl3
  clear hb3 hsl3 hE3 hZ3 hbw3 hx3 HX2 HE2 HZ2 HS2 HB2 HK' hs3
  obtain ⟨U, hU⟩ : ∃ U, skipT r = U := ⟨_, rfl⟩
  rw [hU] at hrc HQ0
  clear hU
  cases hue : U with
  | cons u U' =>
    subst hue
    have HN := Lib.hid (need_false w3)
    obtain rfl : (default, 8) = Q0 := by rw [← HQ0.out, if_neg (by simp)]
    go_wp2_with fail
    refine HN.out.mono ?_
    rintro e w4 ⟨rfl, h9⟩
    obtain rfl := h9
    exact door_panics HB3.out HS3.out HE3.out HZ3.out _ rfl rfl
  | nil =>
    subst hue
    cases hR : rightX 100 x with
    | false =>
      obtain rfl : (default, 8) = Q0 := by rw [← HQ0.out, if_neg (by simp [hR])]
      rw [hR] at HRT
      go_wp2_with fail
      refine HRT.out.mono ?_
      rintro e w4 ⟨rfl, hb4⟩
      have HB4 := Lib.hid (bext HB3.out hb4)
      have HS4 := Lib.hid (HS3.out.grown ⟨hb4.os, hb4.tape, hb4.output, hb4.size, fun k hk _ => hb4.block k hk⟩ (row := none) (by simp))
      have HE4 := Lib.hid ((hb4.cell (cell_lt1 HE3.out)).trans HE3.out)
      have HZ4 := Lib.hid ((hb4.frozen (p := ⟨w.heap.size + 1, 0, none⟩) (cell_lt1 HE3.out)).trans HZ3.out)
      have HN := Lib.hid (need_false w4)
      clear hb4
      go_wp2_with fail
      refine HN.out.mono ?_
      rintro e w5 ⟨rfl, h9⟩
      obtain rfl := h9
      exact door_panics HB4.out HS4.out HE4.out HZ4.out _ rfl rfl
    | true =>
      obtain rfl : (x, 0) = Q0 := by rw [← HQ0.out, if_pos ⟨rfl, hR⟩]
      rw [hR] at HRT
      go_wp2_with fail
      refine HRT.out.mono ?_
      rintro e w4 ⟨rfl, hb4⟩
      have hc4 := three_on hb4 o0 o1 o2
      obtain ⟨k0, k1, k2⟩ := hc4
      have hs4 := HS3.out.grown ⟨hb4.os, hb4.tape, hb4.output, hb4.size, fun k hk _ => hb4.block k hk⟩ (row := none) (by simp)
      have hXl4 := hs4.lt
      obtain ⟨⟨x4, y4, t4, -, -, -⟩, g0, g1, g2⟩ := hs4
      have k3 := (hb4.cell (cell_lt1 HE3.out)).trans HE3.out
      have g3 := (hb4.frozen (p := ⟨w.heap.size + 1, 0, none⟩) (cell_lt1 HE3.out)).trans HZ3.out
      have hEl4 : w.heap.size + 1 < w4.heap.size := cell_lt1 k3
      have HB4 := Lib.hid (bext HB3.out hb4)
      have HX4 := Lib.hid (HX3.out.on hb4)
      have HN := Lib.hid (need_true w4)
      clear hb4
      go_wp2_with fail
      refine HN.out.mono ?_
      rintro e w5 ⟨rfl, h9⟩
      obtain rfl := h9
      go_wp2_with fail
      refine leaves_cons (f := 30) (args := #[.pointer (some ⟨w.heap.size, 0, none⟩), .pointer (some ⟨w.heap.size + 1, 0, none⟩)]) (by simp) (by simp [go_sem]) ?_
      refine (catch_idle ⟨w.heap.size, 0, none⟩ ⟨w.heap.size + 1, 0, none⟩ _).mono ?_
      rintro e u' w6 ⟨rfl, rfl, rfl⟩
      refine ⟨.tuple #[.agg #[.string ⟨x.op.toArray⟩, .string ⟨x.tag.toArray⟩, .slice a x.kids.length c], .int .i64 0], ?_, ?_, a, c, rfl, HF.out, ?_⟩
      · simp [results, Tryd.results21, go_sem, k0, k1, k2, k3, hXl4, hEl4]
      · exact ((((HB4.out.setCell (p := ⟨w.heap.size, 0, none⟩) (Nat.le_refl _) _).setCell (p := ⟨w.heap.size, 1, none⟩) (Nat.le_refl _) _).setCell (p := ⟨w.heap.size, 2, none⟩) (Nat.le_refl _) _).setCell (p := ⟨w.heap.size + 1, 0, none⟩) (by simp) _)
      · refine HX4.out.move (fun b hb => by omega) (fun p u hp hu => ?_)
        rw [cell_far_set (by omega), cell_far_set (by omega), cell_far_set (by omega), cell_far_set (by omega)]
        exact hu

/-- tag.Read. -/
theorem read_any (s : List UInt8) (w : World) (hs : s.length ≤ 140737488351232) : Calls Tryd.prog 21 #[.string ⟨s.toArray⟩] w (ReadPost (readT s) w) := by
  unfold readT
  by_cases hl : s.length > 500
  · rw [if_pos hl]; exact read_long s w hl hs
  · rw [if_neg hl]
    cases hx : termsT (s.length + 1) s with
    | none => exact read_none s w (by omega) hx
    | some xr =>
      obtain ⟨x, r⟩ := xr
      exact read_some s w (by omega) x r hx
end Go.Proofs.YtagaoilgnhdebaaDoor
