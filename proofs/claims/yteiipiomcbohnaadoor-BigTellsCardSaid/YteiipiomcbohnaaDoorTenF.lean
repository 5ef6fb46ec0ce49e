/-
  the document's add and take.
-/
import Derived.Test.YteiipiomcbohnaaDoorTenE
namespace Go.Proofs.YteiipiomcbohnaaDoor.Ten
set_option linter.unusedSimpArgs false
set_option linter.unusedVariables false
open Go.RowKit

set_option maxRecDepth 100000 in
set_option maxHeartbeats 4000000 in
theorem add_any (a b : List UInt8) (w : World) (ha : a.all figureB = true) (hb : b.all figureB = true) (ma : a.length ≤ 900) (mb : b.length ≤ 900) :
    Calls Tryd.prog 52 #[.string ⟨a.toArray⟩, .string ⟨b.toArray⟩] w fun e w' => e = .returned (.string ⟨(Lib.decDigits (dval a + dval b).toNat).toArray⟩) ∧ Hid (Below w.heap.size w w') := by
  have D1 := Lib.hid (fr_dg ha)
  have D2 := Lib.hid (fr_dg hb)
  clear ha hb
  obtain ⟨i0, hi, hz0, hz1, hz2⟩ := info_parts infoInt
  go_enter Tryd.func52, Tryd.ntmps52
  rcases Nat.lt_or_ge a.length b.length with hle | hle
  all_goals
    go_wp2
    go_loopw [5, 6, 7] (fun v c i wr => ∃ (k : Nat) (cc : Int) (L : List Int), k ≤ max a.length b.length + 1 ∧ i = .int .i64 k ∧ c = .int .i64 cc ∧ 0 ≤ cc ∧ cc ≤ 1 ∧ Hid (AddI (fr a) (fr b) L k cc) ∧ wr.ownsRow w.heap.size 3 1 v k (L.map (Value.int .i64)) ∧ Below w.heap.size w wr)
      (fun _ _ i _ => max a.length b.length + 1 - (intOf i).toNat)
    case atStart => exact ⟨0, 0, [], by omega, rfl, rfl, by omega, by omega, Lib.hid (AddI.start _ _), World.ownsRow_nil _ _ _ _, Below.refl _ _⟩
    case round =>
      obtain ⟨k, cc, L, hk, rfl, rfl, hc0, hc1, hI, hown, hb⟩ := hrel
      obtain ⟨da0, da1⟩ := dgt_rng D1.out k
      obtain ⟨db0, db1⟩ := dgt_rng D2.out k
      have HA := Lib.hid (at_any a k wr (by omega) (by omega))
      have HB := Lib.hid (at_any b k wr (by omega) (by omega))
      have T1 : True := trivial
      by_cases hlt : k < max a.length b.length + 1
      · first | (have q1 : k ≤ b.length := by omega) | skip
        first | (have q2 : k ≤ a.length := by omega) | skip
        go_wp2_with (first
          | (go_at_call 70; clear T1; refine HA.out.mono ?_; rintro e w' ⟨rfl, h9⟩; obtain rfl := h9.symm)
          | (go_at_call 70; refine HB.out.mono ?_; rintro e w' ⟨rfl, h9⟩; obtain rfl := h9.symm)
          | (at_builtin; refine wpList_append_own _ rfl _ _ 41 rfl w.heap.size 3 i0 (.int .i64 0) 1 8 Tryd.underlying41 hi hz0 hz1 hz2 rfl (by decide) _ _ _ rfl (hown.alloc _) ⟨wr.heap.size, 0, none⟩ 1 1 [.int .i64 ((dgt (fr a) k + dgt (fr b) k + cc) % 10)] rfl rfl (cell_one_new _ _ _) (by simp [Value.oneCell']) (by unfold maxLen; omega) (by omega) (by have := hb.size; simp; omega) ?_; intro v' w1 hown' hgrow _))
        have hb1 : Below w.heap.size w w1 := (hb.alloc hb.size _).grown hgrow (by have := hb.size; simp; omega) (fun j e => (hown.lt j e).1)
        rw [map_snoc] at hown'
        have HI2 := Lib.hid (hI.out.step D1.out D2.out)
        clear hown hgrow hI HA HB hb
        go_wp2
        go_roundw
        case rel => exact ⟨k + 1, _, _, by omega, by go_num, rfl, by omega, by omega, HI2, hown', hb1⟩
        case measure => simp [intOf]; omega
      · first | (have q1 : ¬ k ≤ b.length := by omega) | skip
        first | (have q2 : ¬ k ≤ a.length := by omega) | skip
        have hkm : k = max (fr a).length (fr b).length + 1 := by rw [fr_len, fr_len]; omega
        obtain ⟨ad, c, rfl, hrow, hfr⟩ := row_of_own hown hI.out.len
        have hLl := hI.out.len
        have hv := hI.out.done hkm D1.out D2.out
        rw [val_fr', val_fr'] at hv
        have HP := plain_any L ad c wr hrow hI.out.dg (by omega)
        rw [hv] at HP
        have HP := Lib.hid HP
        clear hrow HA HB hown hfr hv hLl hI hkm
        go_wp2_with fail
        refine HP.out.mono ?_
        rintro e w2 ⟨rfl, hw2⟩
        go_wp2
        go_ret
        exact ⟨rfl, Lib.hid (hb.trans (hw2.out.mono hb.size))⟩

set_option maxRecDepth 100000 in
set_option maxHeartbeats 4000000 in
theorem take_any (a b : List UInt8) (w : World) (ha : a.all figureB = true) (hb : b.all figureB = true) (ma : a.length ≤ 900) (mb : b.length ≤ a.length) (hle : dval b ≤ dval a) :
    Calls Tryd.prog 53 #[.string ⟨a.toArray⟩, .string ⟨b.toArray⟩] w fun e w' => e = .returned (.string ⟨(Lib.decDigits (dval a - dval b).toNat).toArray⟩) ∧ Hid (Below w.heap.size w w') := by
  have D1 := Lib.hid (fr_dg ha)
  have D2 := Lib.hid (fr_dg hb)
  have HV := Lib.hid (show val (fr b) ≤ val (fr a) by rw [val_fr', val_fr']; exact hle)
  clear ha hb hle
  obtain ⟨i0, hi, hz0, hz1, hz2⟩ := info_parts infoInt
  go_enter Tryd.func53, Tryd.ntmps53
  go_wp2
  go_loopw [5, 6, 7] (fun v c i wr => ∃ (k : Nat) (cc : Int) (L : List Int), k ≤ a.length ∧ i = .int .i64 k ∧ c = .int .i64 cc ∧ 0 ≤ cc ∧ cc ≤ 1 ∧ Hid (TakI (fr a) (fr b) L k cc) ∧ wr.ownsRow w.heap.size 3 1 v k (L.map (Value.int .i64)) ∧ Below w.heap.size w wr)
    (fun _ _ i _ => a.length - (intOf i).toNat)
  case atStart => exact ⟨0, 0, [], by omega, rfl, rfl, by omega, by omega, Lib.hid (TakI.start _ _), World.ownsRow_nil _ _ _ _, Below.refl _ _⟩
  case round =>
    obtain ⟨k, cc, L, hk, rfl, rfl, hc0, hc1, hI, hown, hb⟩ := hrel
    obtain ⟨da0, da1⟩ := dgt_rng D1.out k
    obtain ⟨db0, db1⟩ := dgt_rng D2.out k
    have HA := Lib.hid (at_any a k wr (by omega) (by omega))
    have HB := Lib.hid (at_any b k wr (by omega) (by omega))
    have T1 : True := trivial
    by_cases hlt : k < a.length
    · by_cases hn : dgt (fr a) k - dgt (fr b) k - cc < 0
      · skip
        go_wp2_with (first
          | (go_at_call 70; clear T1; refine HA.out.mono ?_; rintro e w' ⟨rfl, h9⟩; obtain rfl := h9.symm)
          | (go_at_call 70; refine HB.out.mono ?_; rintro e w' ⟨rfl, h9⟩; obtain rfl := h9.symm)
          | (at_builtin; refine wpList_append_own _ rfl _ _ 41 rfl w.heap.size 3 i0 (.int .i64 0) 1 8 Tryd.underlying41 hi hz0 hz1 hz2 rfl (by decide) _ _ _ rfl (hown.alloc _) ⟨wr.heap.size, 0, none⟩ 1 1 [.int .i64 (dgt (fr a) k - dgt (fr b) k - cc + 10)] rfl rfl (cell_one_new _ _ _) (by simp [Value.oneCell']) (by unfold maxLen; omega) (by omega) (by have := hb.size; simp; omega) ?_; intro v' w1 hown' hgrow _))
        have hb1 : Below w.heap.size w w1 := (hb.alloc hb.size _).grown hgrow (by have := hb.size; simp; omega) (fun j e => (hown.lt j e).1)
        rw [map_snoc] at hown'
        have HI2 := Lib.hid (hI.out.step_yes D1.out D2.out hn)
        clear hown hgrow hI HA HB hb
        go_wp2
        go_roundw
        case rel => exact ⟨k + 1, _, _, by omega, by go_num, rfl, by omega, by omega, HI2, hown', hb1⟩
        case measure => simp [intOf]; omega
      · have hn' : 0 ≤ dgt (fr a) k - dgt (fr b) k - cc := by omega
        go_wp2_with (first
          | (go_at_call 70; clear T1; refine HA.out.mono ?_; rintro e w' ⟨rfl, h9⟩; obtain rfl := h9.symm)
          | (go_at_call 70; refine HB.out.mono ?_; rintro e w' ⟨rfl, h9⟩; obtain rfl := h9.symm)
          | (at_builtin; refine wpList_append_own _ rfl _ _ 41 rfl w.heap.size 3 i0 (.int .i64 0) 1 8 Tryd.underlying41 hi hz0 hz1 hz2 rfl (by decide) _ _ _ rfl (hown.alloc _) ⟨wr.heap.size, 0, none⟩ 1 1 [.int .i64 (dgt (fr a) k - dgt (fr b) k - cc)] rfl rfl (cell_one_new _ _ _) (by simp [Value.oneCell']) (by unfold maxLen; omega) (by omega) (by have := hb.size; simp; omega) ?_; intro v' w1 hown' hgrow _))
        have hb1 : Below w.heap.size w w1 := (hb.alloc hb.size _).grown hgrow (by have := hb.size; simp; omega) (fun j e => (hown.lt j e).1)
        rw [map_snoc] at hown'
        have HI2 := Lib.hid (hI.out.step_no D1.out D2.out hn')
        clear hown hgrow hI HA HB hb
        go_wp2
        go_roundw
        case rel => exact ⟨k + 1, _, _, by omega, by go_num, rfl, by omega, by omega, HI2, hown', hb1⟩
        case measure => simp [intOf]; omega
    · have hkm : k = (fr a).length := by rw [fr_len]; omega
      obtain ⟨ad, c, rfl, hrow, hfr⟩ := row_of_own hown hI.out.len
      have hLl := hI.out.len
      have hv := hI.out.done hkm (by rw [fr_len, fr_len]; exact mb) HV.out
      rw [val_fr', val_fr'] at hv
      have HP := plain_any L ad c wr hrow hI.out.dg (by omega)
      rw [hv] at HP
      have HP := Lib.hid HP
      clear hrow HA HB hown hfr hv hLl hI hkm
      go_wp2_with fail
      refine HP.out.mono ?_
      rintro e w2 ⟨rfl, hw2⟩
      go_wp2
      go_ret
      exact ⟨rfl, Lib.hid (hb.trans (hw2.out.mono hb.size))⟩
end Go.Proofs.YteiipiomcbohnaaDoor.Ten
