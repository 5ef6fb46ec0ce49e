/-
  tag: the reader's takes; need; terms, over whatever factor reads: walked.
-/
import Derived.Shelf.Strings.SlTrimAscii
import Derived.Test.YtagaoilgnhdebaaDoorShelf
import Derived.Test.YtagaoilgnhdebaaDoorTgG
namespace Go.Proofs.YtagaoilgnhdebaaDoor
set_option linter.unusedSimpArgs false
set_option linter.unusedVariables false
open Go.RowKit

theorem trimLeft_any (s : List UInt8) (w : World) :
    Calls Tryd.prog 47 #[.string ⟨s.toArray⟩, .string ⟨#[32, 9]⟩] w fun e w' => e = .returned (.string ⟨(skipT s).toArray⟩) ∧ Below w.heap.size w w' := by
  have h := Any.strings_TrimLeft_laid Tryd.lays161 (by kernel_rfl) ⟨s.toArray⟩ ⟨#[32, 9]⟩ w (by decide) (ascii_of_all (by decide))
  refine h.mono fun e w' ⟨he, hb⟩ => ⟨?_, hb⟩
  rw [he]
  have : Lib.trimLeftS s [32, 9] = skipT s := by
    unfold Lib.trimLeftS skipT
    congr 1
    funext c
    show [32, 9].contains c = (c == 32 || c == 9)
    rw [Bool.eq_iff_iff]; simp
  show Ending.returned (.string ⟨(Lib.trimLeftS s [32, 9]).toArray⟩) = _
  rw [this]

theorem takesT_true {sign s : List UInt8} (h : Lib.hasPrefix (skipT s) sign = true) : takesT sign s = (true, (skipT s).drop sign.length) := by rw [takesT, if_pos h]
theorem takesT_false {sign s : List UInt8} (h : Lib.hasPrefix (skipT s) sign = false) : takesT sign s = (false, skipT s) := by rw [takesT, h]; rfl

set_option maxHeartbeats 4000000 in
theorem takes_any : TakesOk := by
  intro R sign s w hr hs hs2
  have H1 := Lib.hid (trimLeft_any s w)
  have H2 := Lib.hid fun wa => Tryd.strings_CutPrefix ⟨(skipT s).toArray⟩ ⟨sign.toArray⟩ wa
  have HR := Lib.hid hr
  have hRl := hr.lt
  obtain ⟨c0, z0⟩ := hr
  simp only [List.toList_toArray] at H2
  obtain ⟨K, hK⟩ : ∃ K, skipT s = K := ⟨_, rfl⟩
  cases hp : Lib.hasPrefix (skipT s) sign with
  | true =>
    have HT := Lib.hid (takesT_true hp)
    rw [hp, Lib.trimPrefix, hp, if_pos rfl] at H2
    rw [hK] at H1 H2 HT
    obtain ⟨K2, hK2⟩ : ∃ K2, K.drop sign.length = K2 := ⟨_, rfl⟩
    rw [hK2] at H2 HT
    clear hp hK hK2
    go_enter Tryd.func32, Tryd.ntmps32
    go_wp2_with fail
    refine H1.out.mono ?_
    rintro e w1 ⟨rfl, hb1⟩
    have hr1 := HR.out.on hb1
    have hl1 := hr1.lt
    obtain ⟨c1, z1⟩ := hr1
    have HB1 := Lib.hid hb1
    clear hb1
    go_wp2_with fail
    refine (H2.out _).mono ?_
    rintro e w2 ⟨rfl, rfl⟩
    go_wp2_with fail
    refine bodyPost_ret (v := .bool true) (by simp [results, Tryd.results32, go_sem]) rfl ⟨by rw [HT.out], (((But.of_below HB1.out).set 0 _).set 0 _), ?_⟩
    rw [HT.out]
    exact ⟨by simp [go_sem, c1, hl1], by simp [go_sem, z1]⟩
  | false =>
    have HT := Lib.hid (takesT_false hp)
    rw [hp, Lib.trimPrefix, hp] at H2
    simp only [Bool.false_eq_true, if_false] at H2
    rw [hK] at H1 H2 HT
    clear hp hK
    go_enter Tryd.func32, Tryd.ntmps32
    go_wp2_with fail
    refine H1.out.mono ?_
    rintro e w1 ⟨rfl, hb1⟩
    have hr1 := HR.out.on hb1
    have hl1 := hr1.lt
    obtain ⟨c1, z1⟩ := hr1
    have HB1 := Lib.hid hb1
    clear hb1
    go_wp2_with fail
    refine (H2.out _).mono ?_
    rintro e w2 ⟨rfl, rfl⟩
    go_wp2_with fail
    refine bodyPost_ret (v := .bool false) (by simp [results, Tryd.results32, go_sem]) rfl ⟨by rw [HT.out], ((But.of_below HB1.out).set 0 _), ?_⟩
    rw [HT.out]
    exact ⟨by simp [go_sem, c1, hl1], by simp [go_sem, z1]⟩

set_option maxHeartbeats 400000 in
theorem need_true (w : World) : Calls Tryd.prog 33 #[.bool true] w fun e w' => e = .returned (.tuple #[]) ∧ w' = w := by
  go_enter Tryd.func33, Tryd.ntmps33
  go_wp2_with fail
  go_end0
  exact ⟨rfl, rfl⟩
set_option maxHeartbeats 400000 in
theorem need_false (w : World) : Calls Tryd.prog 33 #[.bool false] w fun e w' => e = .panicked wrongs ∧ w' = w := by
  go_enter Tryd.func33, Tryd.ntmps33
  go_wp2_with fail
  exact ⟨rfl, rfl, rfl⟩
end Go.Proofs.YtagaoilgnhdebaaDoor
