/-
  tag: what the chapter's examples say.
-/
import Derived.Test.YtagaoilgnhdebaaDoorTgV
import Derived.Test.YtagaoilgnhdebaaDoorTgM
import Derived.Test.YtagaoilgnhdebaaDoorTgY
namespace Go.Proofs.YtagaoilgnhdebaaDoor
set_option linter.unusedSimpArgs false
set_option linter.unusedVariables false
open Go.RowKit

def Good (w : World) (e : Ending) (w' : World) : Prop := e = .returned (.bool true) ∧ Below w.heap.size w w'
def sa : List UInt8 := [103, 111, 49, 46, 50, 49, 32, 38, 38, 32, 33, 120]
def sb : List UInt8 := [97, 32, 124, 124, 32, 103, 111, 49, 46, 49, 56]
set_option maxRecDepth 100000 in
theorem awake_a : ∃ X, readT sa = (X, 0) ∧ leastR X = 21 ∧ holdsR [] X = true ∧ writeR X = sa :=
  ⟨.mk [38, 38] [] [.mk [] [103, 111, 49, 46, 50, 49] [], .mk [33] [] [.mk [] [120] []]], by kernel_rfl, by kernel_rfl, by kernel_rfl, by kernel_rfl⟩
set_option maxRecDepth 100000 in
theorem awake_b : ∃ Y, readT sb = (Y, 0) ∧ leastR Y = -1 :=
  ⟨.mk [124, 124] [] [.mk [] [97] [], .mk [] [103, 111, 49, 46, 49, 56] []], by kernel_rfl, by kernel_rfl⟩

/-- A constraint laid into a new block. -/
theorem laid3 (w : World) (x : Xp) (a : Option Addr) (c : Nat) : ∃ wa, w.alloc (.cells #[.string ⟨x.op.toArray⟩, .string ⟨x.tag.toArray⟩, .slice a x.kids.length c] 29) = wa ∧ Below w.heap.size w wa ∧
    wa.cell? ⟨w.heap.size, 0, none⟩ = some (.string ⟨x.op.toArray⟩) ∧ wa.cell? ⟨w.heap.size, 1, none⟩ = some (.string ⟨x.tag.toArray⟩) ∧ wa.cell? ⟨w.heap.size, 2, none⟩ = some (.slice a x.kids.length c) ∧ wa.heap.size = w.heap.size + 1 :=
  ⟨_, rfl, below_alloc _ _, by simp [go_sem], by simp [go_sem], by simp [go_sem], by simp⟩

set_option maxRecDepth 100000 in
set_option maxHeartbeats 8000000 in
theorem awake_any (w : World) (hE : Env w) : Calls Tryd.prog 17 #[] w (Good w) := by
  obtain ⟨X, hX, hX1, hX2, hX3⟩ := awake_a
  obtain ⟨Y, hY, hY1⟩ := awake_b
  replace hX3 : writeR X = [103, 111, 49, 46, 50, 49, 32, 38, 38, 32, 33, 120] := hX3
  have HA := read_any sa w (by simp [sa])
  have HBr := fun W => read_any sb W (by simp [sb])
  rw [hX] at HA
  rw [hY] at HBr
  have HA' := Lib.hid (show Calls Tryd.prog 21 #[.string ⟨#[103, 111, 49, 46, 50, 49, 32, 38, 38, 32, 33, 120]⟩] w (ReadPost (X, 0) w) from HA)
  have HB' := Lib.hid (show ∀ W, Calls Tryd.prog 21 #[.string ⟨#[97, 32, 124, 124, 32, 103, 111, 49, 46, 49, 56]⟩] W (ReadPost (Y, 0) W) from HBr)
  have HE := Lib.hid hE
  have HL := Lib.hid (fun a c W e k f => hX1 ▸ Least_any X a c W e k f)
  have HM := Lib.hid (fun a c W e k f => hY1 ▸ Least_any Y a c W e k f)
  have HH := Lib.hid (fun a c W e k f => hX2 ▸ Holds_any [] (by simp) X a none c 0 W e k f (Strs.nil W none))
  have HW := Lib.hid (fun a c W k f => hX3 ▸ Write_any X a c W k f (by rw [hX3]; simp [sa]))
  clear HA HBr hE hX hX1 hX2 hX3 hY hY1
  go_enter Tryd.func17, Tryd.ntmps17
  go_wp2_with fail
  refine HA'.out.mono ?_
  rintro e w1 ⟨hb1, a, c, rfl, hf, hx⟩
  obtain ⟨w2, hw2, hb2, c0, c1, c2, hs2⟩ := laid3 w1 X a c
  have HF := Lib.hid hf
  have HX := Lib.hid (hx.any.on hb2)
  have HB2 := Lib.hid (bext hb1 hb2)
  have HBB := Lib.hid (HB'.out w2)
  clear hf hx hb1 hb2
  go_wp2_with fail
  refine HBB.out.mono ?_
  rintro e w3 ⟨hb3, a2, c2', rfl, hf2, hx2⟩
  obtain ⟨c0, c1, c2⟩ := three_on' hb3 c0 c1 c2
  obtain ⟨w4, hw4, hb4, d0, d1, d2, hs4⟩ := laid3 w3 Y a2 c2'
  obtain ⟨c0, c1, c2⟩ := three_on' hb4 c0 c1 c2
  have HF2 := Lib.hid hf2
  have HY := Lib.hid (hx2.any.on hb4)
  have HX4 := Lib.hid ((HX.out.on hb3).on hb4)
  have HB4 := Lib.hid (bext (bext HB2.out hb3) hb4)
  have H1 := Lib.hid (HL.out a c w4 (HE.out.on HB4.out) HX4.out HF.out)
  clear hf2 hx2 hb3 hb4 HX HBB
  go_wp2_with fail
  refine H1.out.mono ?_
  rintro e w5 ⟨rfl, hb5⟩
  obtain ⟨c0, c1, c2⟩ := three_on' hb5 c0 c1 c2
  obtain ⟨d0, d1, d2⟩ := three_on' hb5 d0 d1 d2
  have HB5 := Lib.hid (bext HB4.out hb5)
  have HX5 := Lib.hid (HX4.out.on hb5)
  have HY5 := Lib.hid (HY.out.on hb5)
  have H2 := Lib.hid (HH.out a c w5 (HE.out.on HB5.out) HX5.out HF.out)
  clear hb5 HX4 HY
  go_wp2_with fail
  refine H2.out.mono ?_
  rintro e w6 ⟨rfl, hb6⟩
  obtain ⟨c0, c1, c2⟩ := three_on' hb6 c0 c1 c2
  obtain ⟨d0, d1, d2⟩ := three_on' hb6 d0 d1 d2
  have HB6 := Lib.hid (bext HB5.out hb6)
  have HX6 := Lib.hid (HX5.out.on hb6)
  have H3 := Lib.hid (HM.out a2 c2' w6 (HE.out.on HB6.out) (HY5.out.on hb6) HF2.out)
  clear hb6 HX5 HY5
  go_wp2_with fail
  refine H3.out.mono ?_
  rintro e w7 ⟨rfl, hb7⟩
  obtain ⟨c0, c1, c2⟩ := three_on' hb7 c0 c1 c2
  have HB7 := Lib.hid (bext HB6.out hb7)
  have H4 := Lib.hid (HW.out a c w7 (HX6.out.on hb7) HF.out)
  clear hb7 HX6
  go_wp2_with fail
  refine H4.out.mono ?_
  rintro e w8 ⟨rfl, hb8⟩
  have HB8 := Lib.hid (bext HB7.out hb8)
  clear hb8
  go_wp2_with fail
  refine bodyPost_ret (v := .bool true) (by simp [results, Tryd.results17, go_sem]) rfl ⟨rfl, HB8.out⟩
end Go.Proofs.YtagaoilgnhdebaaDoor
