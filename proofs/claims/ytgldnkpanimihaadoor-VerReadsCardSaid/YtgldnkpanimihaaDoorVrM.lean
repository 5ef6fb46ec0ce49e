/-
  ver.Write.
-/
import Derived.Test.YtgldnkpanimihaaDoorBgM
import Derived.Test.YtgldnkpanimihaaDoorVrL
namespace Go.Proofs.YtgldnkpanimihaaDoor
set_option linter.unusedSimpArgs false
set_option linter.unusedVariables false
open Go.RowKit

/-- What Write hands back. -/
def writeT (s : List UInt8) (m : Int) : List UInt8 := if pathL s = true ∧ 0 ≤ m ∧ m ≤ 99 then writeL s m.toNat else []
def WrPost (L : List UInt8) (w : World) (e : Ending) (w' : World) : Prop := ∃ a c, e = .returned (.slice a L.length c) ∧ Hid (BAt w' a L ∧ Below w.heap.size w w')

set_option maxRecDepth 100000 in
set_option maxHeartbeats 4000000 in
theorem write_any (s : List UInt8) (m : Int) (w : World) (hs : s.length ≤ 1000) :
    Calls Tryd.prog 19 #[.agg #[.string ⟨s.toArray⟩, .int .i64 m]] w (WrPost (writeT s m) w) := by
  have HP0 := path_any s (w.alloc (.cells #[.string ⟨s.toArray⟩, .int .i64 m] 24)) (by omega)
  have P1 := Pair.new w (.string ⟨s.toArray⟩) (.int .i64 m)
  have c0 := P1.c0
  have c1 := P1.c1
  have hb1 := Lib.hid (below_alloc w (.cells #[.string ⟨s.toArray⟩, .int .i64 m] 24))
  have HT := Lib.hid fun w2 => text_any m w2
  cases hp : pathL s with
  | false =>
    rw [hp] at HP0
    have HP := Lib.hid HP0
    have HW := Lib.hid (show writeT s m = [] by unfold writeT; rw [hp, if_neg (by simp)])
    clear hp HP0 P1
    go_enter Tryd.func19, Tryd.ntmps19
    go_wp2_with fail
    refine HP.out.mono ?_
    rintro e w2 ⟨rfl, h2⟩
    go_wp2
    go_ret
    exact ⟨none, 0, by rw [HW.out]; rfl, Lib.hid ⟨by rw [HW.out]; exact .inl rfl, bext hb1.out h2.out⟩⟩
  | true =>
    rw [hp] at HP0
    by_cases hm : 0 ≤ m ∧ m ≤ 99
    · obtain ⟨k, rfl⟩ : ∃ k : Nat, m = k := ⟨m.toNat, by omega⟩
      have hk : k < 100 := by omega
      have hTt : textL (k : Int) = 49 :: 46 :: Lib.decDigits k := by unfold textL; rw [if_pos (by omega), itoa_nat]
      have HW := Lib.hid (show writeT s k = writeL s k by unfold writeT; rw [hp, if_pos ⟨rfl, by omega, by omega⟩]; simp)
      have ld : (Lib.decDigits k).length ≤ 2 := dec_len_le (k := 2) (by omega) (by decide)
      have hwl : writeL s k = [109, 111, 100, 117, 108, 101, 32] ++ s ++ [10, 10, 103, 111, 32] ++ (49 :: 46 :: Lib.decDigits k) ++ [10] := rfl
      rw [hTt] at HT
      obtain ⟨D, hD⟩ : ∃ D, Lib.decDigits k = D := ⟨_, rfl⟩
      rw [hD] at HT hwl ld
      have HL := Lib.hid hwl
      have cat : (((((⟨#[109, 111, 100, 117, 108, 101, 32]⟩ : ByteArray) ++ ⟨s.toArray⟩) ++ ⟨#[10, 10, 103, 111, 32]⟩) ++ ⟨(49 :: 46 :: D).toArray⟩) ++ ⟨#[10]⟩) = ⟨(writeL s k).toArray⟩ := by
        rw [HL.out]; apply ByteArray.ext; simp
      have kcv := Lib.run_convert_string_bytes (P := Tryd.prog) (src := 9) (dst := 22) (e := 5) (hs := Tryd.underlying9) (hd := Tryd.underlying22) (he := Tryd.underlying5)
      have HP := Lib.hid (HP0.mono (R' := fun e w2 => e = .returned (.bool true) ∧ w2.cell? ⟨w.heap.size, 0, none⟩ = some (.string ⟨s.toArray⟩) ∧ w2.cell? ⟨w.heap.size, 1, none⟩ = some (.int .i64 k) ∧ Hid (Below w.heap.size w w2)) (fun e w2 h => ⟨h.1, (P1.below h.2.out).c0, (P1.below h.2.out).c1, Lib.hid (bext hb1.out h.2.out)⟩))
      have HT2 := Lib.hid HT.out
      have l1 : ¬ 9223372036854775807 < 7 + s.length := by omega
      have l2 : ¬ 9223372036854775807 < 7 + s.length + 5 := by omega
      have l3 : ¬ 9223372036854775807 < 7 + s.length + 5 + (D.length + 1 + 1) := by omega
      have l4 : ¬ 9223372036854775807 < 7 + s.length + 5 + (D.length + 1 + 1) + 1 := by omega
      clear hp HP0 P1 hm hk hTt hD hwl HT
      go_enter Tryd.func19, Tryd.ntmps19
      go_wp2_with fail
      refine HP.out.mono ?_
      rintro e w2 ⟨rfl, y0, y1, h2⟩
      go_wp2_with fail
      refine (HT2.out w2).mono ?_
      rintro e w' ⟨rfl, h9⟩
      obtain rfl := h9.symm
      go_wp2_with fail
      have HH := Lib.hid (show w'.drew.cell? ⟨w.heap.size, 0, none⟩ = some (.string ⟨s.toArray⟩) ∧ w'.drew.cell? ⟨w.heap.size, 1, none⟩ = some (.int .i64 k) from ⟨y0, y1⟩)
      refine region_K (S := fun w9 => w9.cell? ⟨w.heap.size, 0, none⟩ = some (.string ⟨s.toArray⟩) ∧ w9.cell? ⟨w.heap.size, 1, none⟩ = some (.int .i64 k)) (kp := fun _ => true) (by kernel_rfl) HH.out (fun hHeld => ?_)
      (refine wpAnyK_take (i := 0) (v := ?_) rfl (by decide +kernel) (by decide +kernel) (by decide +kernel) (by decide +kernel) (fun _ _ _ h => h) (Or.inl ⟨?_, ?_⟩) hHeld ?_; rotate_left 1; (focus rfl); (focus (intro w9 hSw; obtain ⟨l0, l1⟩ := hSw; go_simp; (try with_reducible rfl); done)); (try simp only [Act.put, List.setIfInBounds_toArray, List.set_cons_zero, List.set_cons_succ, List.getElem_toArray, List.getElem_cons_zero, List.getElem_cons_succ]))
      (refine wpAnyK_take (i := 1) (v := ?_) rfl (by decide +kernel) (by decide +kernel) (by decide +kernel) (by decide +kernel) (fun _ _ _ h => h) (Or.inl ⟨?_, ?_⟩) hHeld ?_; rotate_left 1; (focus rfl); (focus (intro w9 hSw; obtain ⟨l0, l1⟩ := hSw; go_simp; (try with_reducible rfl); done)); (try simp only [Act.put, List.setIfInBounds_toArray, List.set_cons_zero, List.set_cons_succ, List.getElem_toArray, List.getElem_cons_zero, List.getElem_cons_succ]))
      (refine wpAnyK_take (i := 2) (v := ?_) rfl (by decide +kernel) (by decide +kernel) (by decide +kernel) (by decide +kernel) (fun _ _ _ h => h) (Or.inl ⟨?_, ?_⟩) hHeld ?_; rotate_left 1; (focus rfl); (focus (intro w9 hSw; obtain ⟨l0, l1⟩ := hSw; go_simp; (try with_reducible rfl); done)); (try simp only [Act.put, List.setIfInBounds_toArray, List.set_cons_zero, List.set_cons_succ, List.getElem_toArray, List.getElem_cons_zero, List.getElem_cons_succ]))
      (refine wpAnyK_take (i := 3) (v := ?_) rfl (by decide +kernel) (by decide +kernel) (by decide +kernel) (by decide +kernel) (fun _ _ _ h => h) (Or.inl ⟨?_, ?_⟩) hHeld ?_; rotate_left 1; (focus rfl); (focus (intro w9 hSw; obtain ⟨l0, l1⟩ := hSw; go_simp; (try with_reducible rfl); done)); (try simp only [Act.put, List.setIfInBounds_toArray, List.set_cons_zero, List.set_cons_succ, List.getElem_toArray, List.getElem_cons_zero, List.getElem_cons_succ]))
      (refine wpAnyK_take (i := 4) (v := ?_) rfl (by decide +kernel) (by decide +kernel) (by decide +kernel) (by decide +kernel) (fun _ _ _ h => h) (Or.inl ⟨?_, ?_⟩) hHeld ?_; rotate_left 1; (focus rfl); (focus (intro w9 hSw; obtain ⟨l0, l1⟩ := hSw; go_simp; (try with_reducible rfl); done)); (try simp only [Act.put, List.setIfInBounds_toArray, List.set_cons_zero, List.set_cons_succ, List.getElem_toArray, List.getElem_cons_zero, List.getElem_cons_succ]))
      (refine wpAnyK_take (i := 5) (v := ?_) rfl (by decide +kernel) (by decide +kernel) (by decide +kernel) (by decide +kernel) (fun _ _ _ h => h) (Or.inl ⟨?_, ?_⟩) hHeld ?_; rotate_left 1; (focus rfl); (focus (intro w9 hSw; obtain ⟨l0, l1⟩ := hSw; go_simp; (try with_reducible rfl); done)); (try simp only [Act.put, List.setIfInBounds_toArray, List.set_cons_zero, List.set_cons_succ, List.getElem_toArray, List.getElem_cons_zero, List.getElem_cons_succ]))
      refine wpAnyK_ready (rs := [6]) (by decide +kernel) (by simp) ?_
      refine AllReadyK.cons rfl (fun K hK => ?_) AllReadyK.nil
      rw [if_pos (by rfl)]
      go_simp
      refine (HT2.out _).mono ?_
      rintro e w3 ⟨rfl, h9⟩
      obtain rfl := h9
      refine hK.out _ _ (fun _ => hHeld) (?_)
      clear hK K
      (try simp only [Act.put, List.setIfInBounds_toArray, List.set_cons_zero, List.set_cons_succ, List.getElem_toArray, List.getElem_cons_zero, List.getElem_cons_succ])
      (refine wpAnyK_take (i := 7) (v := ?_) rfl (by decide +kernel) (by decide +kernel) (by decide +kernel) (by decide +kernel) (fun _ _ _ h => h) (Or.inl ⟨?_, ?_⟩) hHeld ?_; rotate_left 1; (focus rfl); (focus (intro w9 hSw; obtain ⟨l0, l1⟩ := hSw; go_simp; (try with_reducible rfl); done)); (try simp only [Act.put, List.setIfInBounds_toArray, List.set_cons_zero, List.set_cons_succ, List.getElem_toArray, List.getElem_cons_zero, List.getElem_cons_succ]))
      (refine wpAnyK_take (i := 8) (v := ?_) rfl (by decide +kernel) (by decide +kernel) (by decide +kernel) (by decide +kernel) (fun _ _ _ h => h) (Or.inl ⟨?_, ?_⟩) hHeld ?_; rotate_left 1; (focus rfl); (focus (intro w9 hSw; obtain ⟨l0, l1⟩ := hSw; go_simp; (try with_reducible rfl); done)); (try simp only [Act.put, List.setIfInBounds_toArray, List.set_cons_zero, List.set_cons_succ, List.getElem_toArray, List.getElem_cons_zero, List.getElem_cons_succ]))
      refine wpAnyK_ready (rs := [9]) (by decide +kernel) (by simp) ?_
      refine AllReadyK.cons rfl (fun K hK => ?_) AllReadyK.nil
      rw [if_pos (by rfl)]
      go_simp
      have hbw : Below w.heap.size w (Lib.bytesWorld w'.drew 5 ⟨(writeL s k).toArray⟩) := (h2.out.trans ((Below.refl _ w').drew.mono h2.out.size)).trans ((Go.Joins.below_bytesWorld _ w'.drew 5 ⟨(writeL s k).toArray⟩ (Nat.le_refl _)).mono h2.out.size)
      have hlt0 : w.heap.size < w'.heap.size := cell_lt0 y0
      have hHeld : (Lib.bytesWorld w'.drew 5 ⟨(writeL s k).toArray⟩).cell? ⟨w.heap.size, 0, none⟩ = some (.string ⟨s.toArray⟩) ∧ (Lib.bytesWorld w'.drew 5 ⟨(writeL s k).toArray⟩).cell? ⟨w.heap.size, 1, none⟩ = some (.int .i64 k) :=
        ⟨((Go.Joins.below_bytesWorld _ w'.drew 5 ⟨(writeL s k).toArray⟩ (Nat.le_refl _)).cell (p := ⟨w.heap.size, 0, none⟩) hlt0).trans y0, ((Go.Joins.below_bytesWorld _ w'.drew 5 ⟨(writeL s k).toArray⟩ (Nat.le_refl _)).cell (p := ⟨w.heap.size, 1, none⟩) hlt0).trans y1⟩
      refine hK.out _ _ (fun _ => hHeld) (?_)
      clear hK K
      (try simp only [Act.put, List.setIfInBounds_toArray, List.set_cons_zero, List.set_cons_succ, List.getElem_toArray, List.getElem_cons_zero, List.getElem_cons_succ])
      (refine wpAnyK_take (i := 10) (v := ?_) rfl (by decide +kernel) (by decide +kernel) (by decide +kernel) (by decide +kernel) (fun _ _ _ h => h) (Or.inl ⟨?_, ?_⟩) hHeld ?_; rotate_left 1; (focus rfl); (focus (intro w9 hSw; obtain ⟨l0, l1⟩ := hSw; go_simp; (try with_reducible rfl); done)); (try simp only [Act.put, List.setIfInBounds_toArray, List.set_cons_zero, List.set_cons_succ, List.getElem_toArray, List.getElem_cons_zero, List.getElem_cons_succ]))
      refine wpAnyK_done (by decide +kernel) ?_ _
      go_wp2
      go_ret
      exact ⟨some ⟨w'.heap.size, 0, none⟩, grownCap w'.drew (writeL s k).length 0 5, by rw [HW.out]; rfl, Lib.hid ⟨by rw [HW.out]; exact bat_conv w'.drew (writeL s k), hbw⟩⟩
    · have hTt : textL m = [] := by unfold textL; rw [if_neg hm]
      have HW := Lib.hid (show writeT s m = [] by unfold writeT; rw [if_neg (by rintro ⟨_, h⟩; exact hm h)])
      rw [hTt] at HT
      have HP := Lib.hid (HP0.mono (R' := fun e w2 => e = .returned (.bool true) ∧ w2.cell? ⟨w.heap.size, 0, none⟩ = some (.string ⟨s.toArray⟩) ∧ w2.cell? ⟨w.heap.size, 1, none⟩ = some (.int .i64 m) ∧ Hid (Below w.heap.size w w2)) (fun e w2 h => ⟨h.1, (P1.below h.2.out).c0, (P1.below h.2.out).c1, Lib.hid (bext hb1.out h.2.out)⟩))
      have HT2 := Lib.hid HT.out
      clear hp HP0 P1 hm hTt HT
      go_enter Tryd.func19, Tryd.ntmps19
      go_wp2_with fail
      refine HP.out.mono ?_
      rintro e w2 ⟨rfl, y0, y1, h2⟩
      go_wp2_with fail
      refine (HT2.out w2).mono ?_
      rintro e w' ⟨rfl, h9⟩
      obtain rfl := h9.symm
      go_wp2
      go_ret
      exact ⟨none, 0, by rw [HW.out]; rfl, Lib.hid ⟨by rw [HW.out]; exact .inl rfl, h2.out⟩⟩
end Go.Proofs.YtgldnkpanimihaaDoor
