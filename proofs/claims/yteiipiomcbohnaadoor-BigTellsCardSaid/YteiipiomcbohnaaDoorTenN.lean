/-
  the document's times.
-/
import Derived.Deep.QuietTactic
import Derived.BigQuiet
import Derived.IntWalk
import Derived.Test.YteiipiomcbohnaaDoorTenL
import Derived.Test.YteiipiomcbohnaaDoorBgJ
namespace Go.Proofs.YteiipiomcbohnaaDoor.Ten
set_option linter.unusedSimpArgs false
set_option linter.unusedVariables false
open Go.RowKit

set_option maxRecDepth 100000 in
set_option maxHeartbeats 4000000 in
theorem times_any (a b : List UInt8) (w : World) (ha : a.all figureB = true) (hb : b.all figureB = true) (ma : a.length ≤ 400) (mb : b.length ≤ 400) :
    Calls Tryd.prog 54 #[.string ⟨a.toArray⟩, .string ⟨b.toArray⟩] w fun e w' => e = .returned (.string ⟨(Lib.decDigits (dval a * dval b).toNat).toArray⟩) ∧ Hid (Below w.heap.size w w') := by
  have D1 := Lib.hid (fr_dg ha)
  have D2 := Lib.hid (fr_dg hb)
  clear ha hb
  obtain ⟨i0, hi, hz0, hz1, hz2⟩ := info_parts infoInt
  go_enter Tryd.func54, Tryd.ntmps54
  go_wp2_with (at_make; refine wpList_make_full _ rfl _ _ 41 rfl w.heap.size 3 i0 (.int .i64 0) 1 Tryd.underlying41 hi hz0 hz1 .i64 .i64 _ _ (a.length + b.length + 1) rfl rfl (by omega) (by omega) (by rw [hz2]; omega) (by unfold maxLen; omega) (by omega) ?_; intro w4 hown hgrow; have hb4 : Below w.heap.size w w4 := (Below.refl _ _).grown hgrow (Nat.le_refl _) (fun j e => by cases e))
  rw [made_zeros] at hown
  go_loopw [6] (fun i wr => ∃ (k : Nat) (O : List Int), k ≤ a.length ∧ i = .int .i64 k ∧ Hid (MulO (fr a) (fr b) O k) ∧ wr.ownsRow w.heap.size 3 1 (.slice (some ⟨w.heap.size, 0, none⟩) (a.length + b.length + 1) (a.length + b.length + 1)) (a.length + b.length + 1) (O.map (Value.int .i64)) ∧ Below w.heap.size w wr)
    (fun i _ => a.length - (intOf i).toNat)
  case atStart => exact ⟨0, _, by omega, rfl, Lib.hid (by have := MulO.start (fr a) (fr b); rw [fr_len, fr_len] at this; exact this), hown, hb4⟩
  case round =>
    obtain ⟨k, O, hk, rfl, hO, hown, hb⟩ := hrel
    by_cases hlt : k < a.length
    · obtain ⟨wo, rfl⟩ : ∃ wo : World, wo = wr := ⟨_, rfl⟩
      go_wp2
      go_loopw [8, 7] (fun kk c wi => ∃ (j : Nat) (cc : Int) (O : List Int), j ≤ b.length + 1 ∧ kk = .int .i64 j ∧ c = .int .i64 cc ∧ 0 ≤ cc ∧ cc < 10 ∧ Hid (MulI (fr a) (fr b) O k j cc) ∧ wi.ownsRow w.heap.size 3 1 (.slice (some ⟨w.heap.size, 0, none⟩) (a.length + b.length + 1) (a.length + b.length + 1)) (a.length + b.length + 1) (O.map (Value.int .i64)) ∧ Below w.heap.size w wi)
        (fun kk _ _ => b.length + 1 - (intOf kk).toNat)
      case atStart => exact ⟨0, 0, O, by omega, rfl, rfl, by omega, by omega, Lib.hid (MulI.start hO.out), hown, hb⟩
      case round =>
        obtain ⟨j, cc, O2, hj, rfl, rfl, hc0, hc1, hI, hown2, hb2⟩ := hrel
        clear hown
        by_cases hlt2 : j < b.length + 1
        · have hlen := hI.out.len
          rw [fr_len, fr_len] at hlen
          have hcy : wr.cell? ⟨w.heap.size, k + j, none⟩ = some (.int .i64 (dgt O2 (k + j))) := by
            rw [hown2.cellAt (k + j) (by omega), List.getElem?_map, List.getElem?_eq_getElem (by omega), dgt_at (by omega)]; rfl
          have hfy : wr.frozen? ⟨w.heap.size, k + j, none⟩ = false := hown2.frozenAt (k + j)
          obtain ⟨p0, p1⟩ := hI.out.bnd (k := j) D1.out D2.out
          obtain ⟨o0, o1⟩ := dgt_rng hI.out.dg (k + j)
          obtain ⟨X, hX⟩ : ∃ X, dgt (fr a) k * dgt (fr b) j = X := ⟨_, rfl⟩
          obtain ⟨N, hN⟩ : ∃ N, dgt O2 (k + j) + X + cc = N := ⟨_, rfl⟩
          rw [hX] at p0 p1
          have hN0 : 0 ≤ N := by omega
          have hN1 : N ≤ 1000000000000000000 := by omega
          have HI2 := Lib.hid (hI.out.step D1.out D2.out (by rw [fr_len]; exact hlt) (by rw [fr_len]; omega) (n := N) (by rw [hX]; exact hN))
          have e1 : IntKind.i64.wrap (dgt (fr a) k * dgt (fr b) j) = X := by rw [hX]; exact IntWalk.i64_in _ (by omega)
          have e2 : IntKind.i64.wrap (dgt O2 (k + j) + X) = N - cc := by rw [IntWalk.i64_in _ (by omega)]; omega
          have e3 : IntKind.i64.wrap (N - cc + cc) = N := by rw [IntWalk.i64_in _ (by omega)]; omega
          have hjb : j ≤ b.length := by omega
          clear hX hN hI hlen
          go_wp2_with fail
          go_quiet ((go_at_call 70; exact Calls.quiet_of_same (at_any _ _ _ (by omega) (by omega))))
          clear e1 e2 e3
          go_wp2
          go_roundw
          case rel =>
            have ho := (World.ownsRow.stored (w := (wr.drewN nq)) hown2 (k + j) (.int .i64 (N % 10))).1
            rw [← List.map_set] at ho
            exact ⟨j + 1, N / 10, _, by omega, by go_num, rfl, HI2.out.c0, HI2.out.c1, HI2, ho, (below_drewN hb2 nq).setCell (p := ⟨w.heap.size, k + j, none⟩) (Nat.le_refl _) _⟩
          case measure => simp [intOf]; omega
        · have hjm : j = (fr b).length + 1 := by rw [fr_len]; omega
          have HO2 := Lib.hid (hI.out.done hjm)
          have hjb : ¬ j ≤ b.length := by omega
          clear hjm
          go_wp2
          go_roundw
          case rel => exact ⟨k + 1, O2, by omega, by go_num, HO2, hown2, hb2⟩
          case measure => simp [intOf]; omega
    · have hkm : k = (fr a).length := by rw [fr_len]; omega
      have hlen := hO.out.len
      have hlen' := hlen
      rw [fr_len, fr_len] at hlen'
      obtain ⟨a', c', he, hrow, -⟩ := row_of_own hown hlen'
      rw [hlen'] at he
      simp only [Value.slice.injEq] at he
      obtain ⟨rfl, -, rfl⟩ := he
      have HT := plain_any O _ _ wr hrow hO.out.dg (by omega)
      rw [hlen', hO.out.done hkm, val_fr', val_fr'] at HT
      have HT := Lib.hid HT
      clear hrow hlen hlen' hown hkm
      go_wp2_with fail
      refine HT.out.mono ?_
      rintro e w6 ⟨rfl, h6⟩
      go_wp2
      go_ret
      exact ⟨rfl, Lib.hid (hb.trans (h6.out.mono hb.size))⟩
end Go.Proofs.YteiipiomcbohnaaDoor.Ten
