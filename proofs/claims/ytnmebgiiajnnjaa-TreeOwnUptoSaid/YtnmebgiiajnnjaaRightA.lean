/-
  tree.Right, walked
-/
import Derived.Test.YtnmebgiiajnnjaaFile
import Derived.Test.YtnmebgiiajnnjaaWalkP
namespace Go.Proofs.Ytnmebgiiajnnjaa
set_option linter.unusedSimpArgs false
set_option linter.unusedVariables false
open Go.RowKit Go.Maps

/-- Right, as it answers. -/
def rightB (l : List UInt8) (t : Nd) : Bool :=
  match sortFn l with
  | none => false
  | some g => decide (t.height ≤ 100) && (decide (wrap64 (walkL 100 t).length ≤ 65536) && soB g t)

theorem zero26 (w : World) : (zeroValue 30).run Try.prog w = .ok .nilFunc w := by kernel_rfl

theorem cells_on {w w1 : World} {b : Nat} {v0 v1 v2 v3 : Value} (hb : Below w.heap.size w w1) (h0 : w.cell? ⟨b, 0, none⟩ = some v0) (h1 : w.cell? ⟨b, 1, none⟩ = some v1) (h2 : w.cell? ⟨b, 2, none⟩ = some v2) (h3 : w.cell? ⟨b, 3, none⟩ = some v3) :
    w1.cell? ⟨b, 0, none⟩ = some v0 ∧ w1.cell? ⟨b, 1, none⟩ = some v1 ∧ w1.cell? ⟨b, 2, none⟩ = some v2 ∧ w1.cell? ⟨b, 3, none⟩ = some v3 := by
  obtain ⟨hc, _⟩ := bcell hb
  have hB := cell_lt h0
  exact ⟨(hc _ _ hB).trans h0, (hc _ _ hB).trans h1, (hc _ _ hB).trans h2, (hc _ _ hB).trans h3⟩

set_option maxHeartbeats 2000000 in
theorem right_any (l : List UInt8) (hl : l.length ≤ maxLen) (t : Nd) (a : Option Addr) (c : Nat) (w : World) (hg : Glob w) (hk : Kids w w.heap.size a t.kids) (hf : Fits t c) :
    Calls Try.prog 19 #[.agg #[.int .i64 t.kind, .string ⟨t.text.toArray⟩, .slice a t.kids.length c, .int .i64 t.pos], .string ⟨l.toArray⟩] w fun e w' => e = .returned (.bool (rightB l t)) ∧ Below w.heap.size w w' := by
  have HG := Lib.hid hg
  have HK := Lib.hid hk
  have HF := Lib.hid hf
  have HB0 := Lib.hid (below_alloc w (.cells #[.int .i64 t.kind, .string ⟨t.text.toArray⟩, .slice a t.kids.length c, .int .i64 t.pos] 24))
  have HL := Lib.hid hl
  clear hl hg hk hf
  go_enter Try.func19, Try.ntmps19
  go_wp2_with fail
  refine (sorts_any _).mono ?_
  rintro e w1 ⟨rfl, ho1, hb1⟩
  obtain ⟨⟨a0, a1, a2, a3⟩, -⟩ := four_at (b := w.heap.size) hb1 (by simp) (by simp; rfl) (by simp; rfl) (by simp; rfl) (by simp; rfl) (by simp) (by simp) (by simp) (by simp)
  have HB1 := Lib.hid (bext HB0.out hb1)
  obtain ⟨v, ps, hrun, hv⟩ := ho1.look_ok law9 und47 (zero26 w1) (zd := .nil) (zp := []) rfl (key9 l HL.out)
  obtain ⟨hhas, hat⟩ := sorts_at l
  rw [hat] at hv
  rw [hhas] at hrun
  clear hb1 ho1 hhas hat
  cases hs : sortFn l with
  | none =>
    rw [hs] at hv hrun
    obtain rfl := fnElem_nil hv
    have eR : rightB l t = false := by simp [rightB, hs]
    have ER := Lib.hid eR
    have hrun' : (Instr.lookup 47 (.map (some (w.heap.size + 1))) (.string ⟨l.toArray⟩) true).run Try.prog w1 = .ok (.tuple #[.nilFunc, .bool false]) w1 := by simpa using hrun
    clear eR hs hv hrun
    go_wp2_with fail
    go_ret
    exact ⟨ret_bool ER.out.symm, HB1.out⟩
  | some g =>
    obtain ⟨hok, hen⟩ := so_ok l g hs
    rw [hs] at hv hrun
    obtain rfl := fnElem_inv (g := g) hv
    have hrun' : (Instr.lookup 47 (.map (some (w.heap.size + 1))) (.string ⟨l.toArray⟩) true).run Try.prog w1 = .ok (.tuple #[.func (.func g) #[] #[], .bool true]) w1 := by simpa using hrun
    have hd := depth_any t a c w1 (HK.out.on HB1.out) HF.out
    rw [deepest_walk] at hd
    unfold Enters at hen
    by_cases h1 : t.height ≤ 100
    · have e1 : (decide (min (t.height : Int) 101 ≤ 100)) = true := by simp; omega
      by_cases h2 : wrap64 (walkL 100 t).length ≤ 65536
      · have e2 : (decide (wrap64 (walkL 100 t).length ≤ 65536)) = true := by simpa using h2
        have eR : rightB l t = soB g t := by simp [rightB, hs, h1, h2]
        have ER := Lib.hid eR
        have HD := Lib.hid hd
        have HO := Lib.hid hok
        clear eR hs hv hrun hd hok h2
        go_wp2_with fail
        refine HD.out.mono ?_
        rintro e w2 ⟨rfl, hb2⟩
        have HB2 := Lib.hid (bext HB1.out hb2)
        obtain ⟨b0, b1, b2, b3⟩ := cells_on hb2 a0 a1 a2 a3
        clear a0 a1 a2 a3 hb2
        go_wp2_with fail
        refine (size_any t a c w2 (HK.out.on HB2.out) HF.out).mono ?_
        rintro e w3 ⟨rfl, hb3⟩
        obtain ⟨a0, a1, a2, a3⟩ := cells_on hb3 b0 b1 b2 b3
        have HB3 := Lib.hid (bext HB2.out hb3)
        clear b0 b1 b2 b3 hb3
        go_wp2_with fail
        refine (HO.out t a c w3 h1 (HG.out.on HB3.out) (HK.out.on HB3.out) HF.out).mono ?_
        rintro e w4 ⟨rfl, hb4⟩
        go_wp2_with fail
        go_ret
        exact ⟨ret_bool ER.out.symm, bext HB3.out hb4⟩
      · have e2 : (decide (wrap64 (walkL 100 t).length ≤ 65536)) = false := by simpa using h2
        have eR : rightB l t = false := by simp [rightB, hs, h1, h2]
        have ER := Lib.hid eR
        have HD := Lib.hid hd
        clear eR hs hv hrun hd hok h2 h1
        go_wp2_with fail
        refine HD.out.mono ?_
        rintro e w2 ⟨rfl, hb2⟩
        have HB2 := Lib.hid (bext HB1.out hb2)
        obtain ⟨b0, b1, b2, b3⟩ := cells_on hb2 a0 a1 a2 a3
        clear a0 a1 a2 a3 hb2
        go_wp2_with fail
        refine (size_any t a c w2 (HK.out.on HB2.out) HF.out).mono ?_
        rintro e w3 ⟨rfl, hb3⟩
        have HB3 := Lib.hid (bext HB2.out hb3)
        clear b0 b1 b2 b3 hb3
        go_wp2_with fail
        go_ret
        exact ⟨ret_bool ER.out.symm, HB3.out⟩
    · have e1 : (decide (min (t.height : Int) 101 ≤ 100)) = false := by simp; omega
      have eR : rightB l t = false := by simp [rightB, hs, h1]
      have ER := Lib.hid eR
      have HD := Lib.hid hd
      clear eR hs hv hrun hd hok h1
      go_wp2_with fail
      refine HD.out.mono ?_
      rintro e w2 ⟨rfl, hb2⟩
      have HB2 := Lib.hid (bext HB1.out hb2)
      clear a0 a1 a2 a3 hb2
      go_wp2_with fail
      go_ret
      exact ⟨ret_bool ER.out.symm, HB2.out⟩
end Go.Proofs.Ytnmebgiiajnnjaa
