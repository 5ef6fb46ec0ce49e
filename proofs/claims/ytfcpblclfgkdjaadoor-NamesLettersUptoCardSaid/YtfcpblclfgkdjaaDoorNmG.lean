/-
  names: what the chapter's examples say.
-/
import Derived.Test.YtfcpblclfgkdjaaDoorNmF
namespace Go.Proofs.YtfcpblclfgkdjaaDoor
set_option linter.unusedSimpArgs false
set_option linter.unusedVariables false
open Go.RowKit

def Good (w : World) (e : Ending) (w' : World) : Prop := e = .returned (.bool true) ∧ Below w.heap.size w w'
theorem joint_call (a : Option Addr) (c : Nat) (W : World) (hs : Strs W a [[97, 95, 98]]) : Calls Tryd.prog 5 #[.slice a 1 c] W fun e w' => e = .returned (.string ⟨#[95, 95]⟩) ∧ Below W.heap.size W w' := by
  have := joint_any [[97, 95, 98]] a c W hs (by simp) (by simp)
  rw [joint_ex] at this
  exact this
theorem with_call (a : Option Addr) (c : Nat) (W : World) (hT : Tab W) (hk : Tids W Any a [tA, tS]) : Calls Tryd.prog 13 #[.string ⟨#[95, 95]⟩, .string ⟨#[102]⟩, .slice a 2 c] W fun e w' => e = .returned (.string ⟨#[102, 95, 95, 115, 105, 116]⟩) ∧ Below W.heap.size W w' :=
  with_any [95, 95] [102] [115, 105, 116] [tA, tS] a c W hT hk (by simp) (by simp) (by simp [tysLen, tA, tS, tN, tyLen, nInt, nStr]) jointed_ex lets_ex (by simp) (by simp)

set_option maxRecDepth 100000 in
set_option maxHeartbeats 8000000 in
theorem awake_any (w : World) (hT : Tab w) : Calls Tryd.prog 6 #[] w (Good w) := by
  have HT := Lib.hid hT
  have HJ := Lib.hid joint_call
  have HW := Lib.hid with_call
  clear hT
  go_enter Tryd.func6, Tryd.ntmps6
  go_wp2_with fail
  obtain ⟨W3, hW3, hb3, ⟨c0, c1, c2⟩, ⟨d0, d1, d2⟩, hstr⟩ : ∃ W3, (((w.alloc (.cells #[.int .i64 1, .string ⟨#[105, 110, 116]⟩, .slice none 0 0] 34)).alloc (.cells #[.int .i64 1, .string ⟨#[115, 116, 114, 105, 110, 103]⟩, .slice none 0 0] 34)).alloc (.cells #[.string ⟨#[97, 95, 98]⟩] 9)) = W3 ∧
      Below w.heap.size w W3 ∧ (W3.cell? ⟨w.heap.size, 0, none⟩ = some (.int .i64 1) ∧ W3.cell? ⟨w.heap.size, 1, none⟩ = some (.string ⟨#[105, 110, 116]⟩) ∧ W3.cell? ⟨w.heap.size, 2, none⟩ = some (.slice none 0 0)) ∧
      (W3.cell? ⟨w.heap.size + 1, 0, none⟩ = some (.int .i64 1) ∧ W3.cell? ⟨w.heap.size + 1, 1, none⟩ = some (.string ⟨#[115, 116, 114, 105, 110, 103]⟩) ∧ W3.cell? ⟨w.heap.size + 1, 2, none⟩ = some (.slice none 0 0)) ∧
      Strs W3 (some ⟨w.heap.size + 1 + 1, 0, none⟩) [[97, 95, 98]] := by
    refine ⟨_, rfl, (((Below.refl _ _).alloc (Nat.le_refl _) _).alloc (by simp) _).alloc (by simp; omega) _, ⟨?_, ?_, ?_⟩, ⟨?_, ?_, ?_⟩, fun j hj => ⟨_, _, rfl, ?_⟩⟩
    any_goals simp [go_sem]
    obtain rfl : j = 0 := by simpa using hj
    simp [go_sem]
  have HB3 := Lib.hid hb3
  have HJ3 := Lib.hid (HJ.out _ 1 W3 hstr)
  rw [hW3]
  clear hb3 hstr hW3 HJ
  refine HJ3.out.mono ?_
  rintro e w4 ⟨rfl, hb4⟩
  obtain ⟨c0, c1, c2⟩ := three_on hb4 c0 c1 c2
  obtain ⟨d0, d1, d2⟩ := three_on hb4 d0 d1 d2
  have HB4 := Lib.hid (bext HB3.out hb4)
  have hl1 : w.heap.size + 1 < w4.heap.size := cell_lt1 d0
  have hl0 : w.heap.size < w4.heap.size := cell_lt1 c0
  clear hb4 HJ3 HB3
  go_wp2_with fail
  obtain ⟨W6, hW6, hb6, hk6⟩ : ∃ W6, ((w4.alloc (.cells #[.int .i64 1, .string ⟨#[105, 110, 116]⟩, .slice none 0 0] 34)).alloc
      (.cells #[.int .i64 5, .string ⟨#[]⟩, .slice (some ⟨w4.heap.size, 0, none⟩) 1 1, .int .i64 1, .string ⟨#[115, 116, 114, 105, 110, 103]⟩, .slice none 0 0] 34)) = W6 ∧ Below w4.heap.size w4 W6 ∧ Tids W6 Any (some ⟨w4.heap.size + 1, 0, none⟩) [tA, tS] := by
    refine ⟨_, rfl, ((Below.refl _ _).alloc (Nat.le_refl _) _).alloc (by simp) _, ?_⟩
    rw [tids_iff]
    intro j hj
    rcases (show j = 0 ∨ j = 1 by simp at hj; omega) with rfl | rfl
    · refine ⟨w4.heap.size + 1, 0, some ⟨w4.heap.size, 0, none⟩, 1, rfl, trivial, ⟨?_, ?_, ?_⟩, ⟨?_, ?_⟩, ?_⟩
      · simp [go_sem, tA]
      · simp [go_sem, tA]
      · simp [go_sem, tA]
      · simp [tA]
      · simp [tA]
      · rw [tids_iff]
        intro i hi
        obtain rfl : i = 0 := by simp [tA] at hi; exact hi
        refine ⟨w4.heap.size, 0, none, 0, rfl, trivial, ⟨?_, ?_, ?_⟩, ⟨?_, ?_⟩, ?_⟩
        · simp [go_sem, tA, tN]
        · simp [go_sem, tA, tN, nInt]
        · simp [go_sem, tA, tN]
        · simp [tA, tN]
        · simp [tA, tN, nInt]
        · exact Tids.nil _ _ _
    · refine ⟨w4.heap.size + 1, 0, none, 0, rfl, trivial, ⟨?_, ?_, ?_⟩, ⟨?_, ?_⟩, ?_⟩
      · simp [go_sem, tS]
      · simp [go_sem, tS, nStr]
      · simp [go_sem, tS]
      · simp [tS]
      · simp [tS, nStr]
      · exact Tids.nil _ _ _
  have HB6 := Lib.hid (bext HB4.out hb6)
  have HW6 := Lib.hid (HW.out _ 2 W6 (HT.out.on HB6.out) hk6)
  rw [hW6]
  clear hb6 hk6 hW6 HW
  refine HW6.out.mono ?_
  rintro e w7 ⟨rfl, hb7⟩
  have HB7 := Lib.hid (bext HB6.out hb7)
  clear hb7 HW6
  go_wp2_with fail
  go_ret
  exact ⟨rfl, HB7.out⟩
end Go.Proofs.YtfcpblclfgkdjaaDoor
