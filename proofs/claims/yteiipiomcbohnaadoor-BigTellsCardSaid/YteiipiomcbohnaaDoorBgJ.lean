/-
  products of numbers.
-/
import Derived.Deep.QuietTactic
import Derived.BigQuiet
import Derived.IntWalk
import Derived.Test.YteiipiomcbohnaaDoorBgI
namespace Go.Proofs.YteiipiomcbohnaaDoor
set_option linter.unusedSimpArgs false
set_option linter.unusedVariables false
open Go.RowKit

theorem digit_w (l : List Int) (a : Option Addr) (c k : Nat) (w : World) (h : Row w a c l) (hk : k ≤ 1000000) :
    Calls Tryd.prog 48 #[.slice a l.length c, .int .i64 k] w fun e w' => e = .returned (.int .i64 (dgt l k)) ∧ w' = w :=
  (digit_any l a c k w h hk).mono fun _ _ ⟨he, hw⟩ => ⟨he, hw.symm⟩
theorem Row.drewN {w : World} {a : Option Addr} {c : Nat} {l : List Int} (h : Row w a c l) (n : Nat) : Row (w.drewN n) a c l := h.on (below_drewN (Below.refl _ _) n)

theorem made_zeros (n : Nat) : (madeCells (Value.int .i64 0).cells (n * 1)).toList = (List.replicate n (0 : Int)).map (Value.int .i64) := by
  apply List.ext_getElem
  · simp [madeCells]
  · intro i h1 h2
    simp [madeCells, Value.cells, Nat.mod_one]
set_option maxRecDepth 100000 in
set_option maxHeartbeats 4000000 in
theorem times_any (b1 b2 : Bool) (la lb : List Int) (a1 a2 : Option Addr) (c1 c2 : Nat) (w : World) (h1 : Row w a1 c1 la) (h2 : Row w a2 c2 lb) (d1 : Dg la) (d2 : Dg lb) (m1 : la.length ≤ 1000) (m2 : lb.length ≤ 1000) :
    Calls Tryd.prog 31 #[.agg #[.bool b1, .slice a1 la.length c1], .agg #[.bool b2, .slice a2 lb.length c2]] w (NumPost (sg (b1 != b2) (val la * val lb)) w) := by
  obtain ⟨W3, hW3⟩ : ∃ W3, (((w.alloc (.cells #[.bool b1, .slice a1 la.length c1] 43)).alloc (.cells #[.bool b2, .slice a2 lb.length c2] 43)).alloc (.cells #[.bool false, .slice none 0 0] 43)) = W3 := ⟨_, rfl⟩
  have hb3 : Below w.heap.size w W3 := by rw [← hW3]; exact (((Below.refl _ w).alloc (Nat.le_refl _) _).alloc (by simp) _).alloc (by simp; omega) _
  have hx : (W3.cell? ⟨w.heap.size, 0, none⟩ = some (.bool b1) ∧ W3.cell? ⟨w.heap.size, 1, none⟩ = some (.slice a1 la.length c1) ∧ W3.cell? ⟨w.heap.size + 1, 0, none⟩ = some (.bool b2) ∧ W3.cell? ⟨w.heap.size + 1, 1, none⟩ = some (.slice a2 lb.length c2)) := by
    rw [← hW3]; refine ⟨?_, ?_, ?_, ?_⟩ <;> simp [go_sem]
  have hz : (W3.cell? ⟨w.heap.size + 1 + 1, 0, none⟩ = some (.bool false) ∧ W3.cell? ⟨w.heap.size + 1 + 1, 1, none⟩ = some (.slice none 0 0) ∧ W3.frozen? ⟨w.heap.size + 1 + 1, 0, none⟩ = false ∧ W3.frozen? ⟨w.heap.size + 1 + 1, 1, none⟩ = false) := by rw [← hW3]; refine ⟨?_, ?_, ?_, ?_⟩ <;> simp [go_sem]
  have hs3 : W3.heap.size = w.heap.size + 3 := by rw [← hW3]; simp
  have H1 := Lib.hid (h1.on hb3)
  have H2 := Lib.hid (h2.on hb3)
  have D1 := Lib.hid d1
  have D2 := Lib.hid d2
  have HB := Lib.hid hb3
  have HX := Lib.hid hx
  have HZ := Lib.hid hz
  have HS := Lib.hid hs3
  have HW3 := Lib.hid hW3
  clear h1 h2 hb3 hx hz hW3 hs3 d1 d2
  obtain ⟨i0, hi, hz0, hz1, hz2⟩ := info_parts infoInt
  go_enter Tryd.func31, Tryd.ntmps31
  go_wp2_with (at_make; refine wpList_make_full _ rfl _ _ 41 rfl W3.heap.size 3 i0 (.int .i64 0) 1 Tryd.underlying41 hi hz0 hz1 .i64 .i64 _ _ (la.length + lb.length + 1) rfl rfl (by omega) (by omega) (by rw [hz2]; omega) (by unfold maxLen; omega) (by rw [HW3.out]; omega) ?_; rw [HW3.out]; intro w4 hown hgrow; have hb4 : Below W3.heap.size W3 w4 := (Below.refl _ _).grown hgrow (Nat.le_refl _) (fun j e => by cases e); obtain ⟨x0, x1, x2, x3⟩ := bx2_on HX.out hb4)
  rw [made_zeros] at hown
  clear x0 x1 x2 x3
  go_loopw [24] (fun i wr => ∃ (k : Nat) (O : List Int), k ≤ la.length ∧ i = .int .i64 k ∧ Hid (MulO la lb O k) ∧ wr.ownsRow W3.heap.size 3 1 (.slice (some ⟨W3.heap.size, 0, none⟩) (la.length + lb.length + 1) (la.length + lb.length + 1)) (la.length + lb.length + 1) (O.map (Value.int .i64)) ∧ Below W3.heap.size W3 wr)
    (fun i _ => la.length - (intOf i).toNat)
  case atStart => exact ⟨0, _, by omega, rfl, Lib.hid (MulO.start la lb), hown, hb4⟩
  case round =>
    obtain ⟨k, O, hk, rfl, hO, hown, hb⟩ := hrel
    obtain ⟨x0, x1, x2, x3⟩ := bx2_on HX.out hb
    by_cases hlt : k < la.length
    · obtain ⟨bb, off, rfl, hbl, hcs⟩ := H1.out.at (by omega)
      have hcx := (hb.cell (p := ⟨bb, off + k, none⟩) hbl).trans (hcs k hlt)
      rw [← dgt_at hlt] at hcx
      have HD := Lib.hid (dgt_at hlt).symm
      have hdd := (dgt_at hlt).symm
      clear hcs
      obtain ⟨wo, rfl⟩ : ∃ wo : World, wo = wr := ⟨_, rfl⟩
      go_wp2
      go_loopw [46, 8] (fun kk c wi => ∃ (j : Nat) (cc : Int) (O : List Int), j ≤ lb.length + 1 ∧ kk = .int .i64 j ∧ c = .int .i64 cc ∧ 0 ≤ cc ∧ cc < 1000000000 ∧ Hid (MulI la lb O k j cc) ∧ wi.ownsRow W3.heap.size 3 1 (.slice (some ⟨W3.heap.size, 0, none⟩) (la.length + lb.length + 1) (la.length + lb.length + 1)) (la.length + lb.length + 1) (O.map (Value.int .i64)) ∧ Below W3.heap.size W3 wi)
        (fun kk _ _ => lb.length + 1 - (intOf kk).toNat)
      case atStart => exact ⟨0, 0, O, by omega, rfl, rfl, by omega, by omega, Lib.hid (MulI.start hO.out), hown, hb⟩
      case round =>
        obtain ⟨j, cc, O2, hj, rfl, rfl, hc0, hc1, hI, hown2, hb2⟩ := hrel
        clear x0 x1 x2 x3 hown hcx
        obtain ⟨x0, x1, x2, x3⟩ := bx2_on HX.out hb2
        by_cases hlt2 : j < lb.length + 1
        · have hlen := hI.out.len
          have hcy : wr.cell? ⟨W3.heap.size, k + j, none⟩ = some (.int .i64 (dgt O2 (k + j))) := by
            rw [hown2.cellAt (k + j) (by omega), List.getElem?_map, List.getElem?_eq_getElem (by omega), dgt_at (by omega)]; rfl
          have hfy : wr.frozen? ⟨W3.heap.size, k + j, none⟩ = false := hown2.frozenAt (k + j)
          obtain ⟨p0, p1⟩ := hI.out.bnd (k := j) D1.out D2.out
          obtain ⟨o0, o1⟩ := dgt_rng hI.out.dg (k + j)
          have HQ := Lib.hid (H2.out.on hb2)
          obtain ⟨X, hX⟩ : ∃ X, dgt la k * dgt lb j = X := ⟨_, rfl⟩
          obtain ⟨N, hN⟩ : ∃ N, dgt O2 (k + j) + X + cc = N := ⟨_, rfl⟩
          rw [hX] at p0 p1
          have hN0 : 0 ≤ N := by omega
          have hN1 : N ≤ 1000000000000000000 := by omega
          have HI2 := Lib.hid (hI.out.step D1.out D2.out hlt (by omega) (n := N) (by rw [hX]; exact hN))
          have e1 : IntKind.i64.wrap (dgt la k * dgt lb j) = X := by rw [hX]; exact IntWalk.i64_in _ (by omega)
          have e2 : IntKind.i64.wrap (dgt O2 (k + j) + X) = N - cc := by rw [IntWalk.i64_in _ (by omega)]; omega
          have e3 : IntKind.i64.wrap (N - cc + cc) = N := by rw [IntWalk.i64_in _ (by omega)]; omega
          clear hX hN hI hlen
          go_wp2_with fail
          go_quiet ((go_at_call 48; exact Calls.quiet_of_same (digit_w lb a2 c2 j _ (HQ.out.drewN _) (by omega))))
          clear e1 e2 e3
          go_wp2
          go_roundw
          case rel =>
            have ho := (World.ownsRow.stored (w := (wr.drewN nq)) hown2 (k + j) (.int .i64 (N % 1000000000))).1
            rw [← List.map_set] at ho
            exact ⟨j + 1, N / 1000000000, _, by omega, by go_num, rfl, HI2.out.c0, HI2.out.c1, HI2, ho, (below_drewN hb2 nq).setCell (p := ⟨W3.heap.size, k + j, none⟩) (Nat.le_refl _) _⟩
          case measure => simp [intOf]; omega
        · have hjm : j = lb.length + 1 := by omega
          have HO2 := Lib.hid (hI.out.done hjm)
          go_wp2
          go_roundw
          case rel => exact ⟨k + 1, O2, by omega, by go_num, HO2, hown2, hb2⟩
          case measure => simp [intOf]; omega
    · have hkm : k = la.length := by omega
      have hlen := hO.out.len
      obtain ⟨a', c', he, hrow, -⟩ := row_of_own hown hlen
      rw [hlen] at he
      simp only [Value.slice.injEq] at he
      obtain ⟨rfl, -, rfl⟩ := he
      have HT := trimmed_any (b1 != b2) O _ _ wr hrow hO.out.dg
      rw [hlen, hO.out.done hkm] at HT
      have HT := Lib.hid HT
      have HB4 := Lib.hid (bext HB.out hb)
      have HZ4 := Lib.hid (res2_on HZ.out hb)
      have hlt3 : w.heap.size ≤ w.heap.size + 1 + 1 := by omega
      clear hrow hlen hown
      go_wp2_with fail
      refine HT.out.mono ?_
      rintro e w6 ⟨b', n', a', c', rfl, hr6⟩
      obtain ⟨z0, z1, z2, z3⟩ := res2_on HZ4.out hr6.out.2.2.2
      clear x0 x1 x2 x3
      go_wp2
      refine bodyPost_ret (v := .agg #[.bool b', .slice a' (digs (n')).length c']) (num_res ⟨z0, z1, z2, z3⟩ (fun W g0 g1 => by simp [results, Tryd.results31, go_sem, g0, g1])) rfl ?_
      exact num_end ⟨z0, z1, z2, z3⟩ (bext HB4.out hr6.out.2.2.2) hlt3 hr6.out.1 hr6.out.2.1 hr6.out.2.2.1
end Go.Proofs.YteiipiomcbohnaaDoor
