/-
  sums and differences of rows of digits.
-/
import Derived.Test.YteiipiomcbohnaaDoorBgG
import Derived.Maps.AppendAt
import Derived.Laws.OwnMore
namespace Go.Proofs.YteiipiomcbohnaaDoor
set_option linter.unusedSimpArgs false
set_option linter.unusedVariables false
open Go.RowKit

theorem infoInt : (Tryd.prog.info? 3).map (fun i => (i.zero, i.size, i.bytes)) = some (some (.int .i64 0), 1, 8) := by kernel_rfl

/-- A row that the call made. -/
theorem row_of_own {w : World} {base : Nat} {v : Value} {k : Nat} {L : List Int} (h : w.ownsRow base 3 1 v k (L.map (Value.int .i64))) (hk : L.length = k) :
    ∃ a c, v = .slice a L.length c ∧ Row w a c L ∧ ∀ p, a = some p → base ≤ p.block := by
  subst hk
  rcases h.2 with ⟨rfl, h0⟩ | ⟨g, cap, cur, rfl, hbg, _, hnc, hcm, _⟩
  · rw [List.eq_nil_of_length_eq_zero h0]
    exact ⟨none, 0, rfl, Row.nil _ _ _ (by omega), fun p h => by cases h⟩
  · refine ⟨_, cap, rfl, ⟨hnc, by unfold maxLen at hcm; omega, fun j hj => ⟨g, 0, rfl, ?_⟩⟩, fun p h => by cases h; exact hbg⟩
    rw [Nat.zero_add, h.cellAt j (by omega), List.getElem?_map, List.getElem?_eq_getElem hj]; rfl
theorem map_snoc (L : List Int) (x : Int) : L.map (Value.int .i64) ++ [Value.int .i64 x] = (L ++ [x]).map (Value.int .i64) := by simp

/-- A row comes back. -/
def RowPost (z : Int) (n : Nat) (w : World) (e : Ending) (w' : World) : Prop :=
  ∃ (l : List Int) (a : Option Addr) (c : Nat), e = .returned (.slice a l.length c) ∧ Hid (Dg l ∧ val l = z ∧ l.length = n ∧ Row w' a c l ∧ Below w.heap.size w w')

/-- A new row comes back. -/
def RowPostF (z : Int) (n : Nat) (w : World) (e : Ending) (w' : World) : Prop :=
  ∃ (l : List Int) (a : Option Addr) (c : Nat), e = .returned (.slice a l.length c) ∧ Hid (Dg l ∧ val l = z ∧ l.length = n ∧ Row w' a c l ∧ Below w.heap.size w w') ∧ Hid (∀ p, a = some p → w.heap.size ≤ p.block)

set_option maxRecDepth 100000 in
set_option maxHeartbeats 2000000 in
theorem added_any (la lb : List Int) (a1 a2 : Option Addr) (c1 c2 : Nat) (w : World) (h1 : Row w a1 c1 la) (h2 : Row w a2 c2 lb) (d1 : Dg la) (d2 : Dg lb) (m1 : la.length ≤ 1000) (m2 : lb.length ≤ 1000) :
    Calls Tryd.prog 46 #[.slice a1 la.length c1, .slice a2 lb.length c2] w (RowPost (val la + val lb) (max la.length lb.length + 1) w) := by
  have H1 := Lib.hid h1
  have H2 := Lib.hid h2
  have D1 := Lib.hid d1
  have D2 := Lib.hid d2
  clear h1 h2 d1 d2
  obtain ⟨i0, hi, hz0, hz1, hz2⟩ := info_parts infoInt
  go_enter Tryd.func46, Tryd.ntmps46
  rcases Nat.lt_or_ge la.length lb.length with hle | hle
  all_goals
    go_wp2
    go_loopw [5, 6, 15] (fun v c i wr => ∃ (k : Nat) (cc : Int) (L : List Int), k ≤ max la.length lb.length + 1 ∧ i = .int .i64 k ∧ c = .int .i64 cc ∧ 0 ≤ cc ∧ cc ≤ 1 ∧ Hid (AddI la lb L k cc) ∧ wr.ownsRow w.heap.size 3 1 v k (L.map (Value.int .i64)) ∧ Below w.heap.size w wr)
      (fun _ _ i _ => max la.length lb.length + 1 - (intOf i).toNat)
    case atStart => exact ⟨0, 0, [], by omega, rfl, rfl, by omega, by omega, Lib.hid (AddI.start _ _), World.ownsRow_nil _ _ _ _, Below.refl _ _⟩
    case round =>
      obtain ⟨k, cc, L, hk, rfl, rfl, hc0, hc1, hI, hown, hb⟩ := hrel
      have da := dgt_rng D1.out k
      have db := dgt_rng D2.out k
      have HA := Lib.hid (digit_any la a1 c1 k wr (H1.out.on hb) (by omega))
      have HB := Lib.hid (digit_any lb a2 c2 k wr (H2.out.on hb) (by omega))
      obtain ⟨da0, da1⟩ := da
      obtain ⟨db0, db1⟩ := db
      have T1 : True := trivial
      by_cases hlt : k < max la.length lb.length + 1
      · first | (have q1 : k < lb.length + 1 := by omega) | skip
        first | (have q2 : k < la.length + 1 := by omega) | skip
        go_wp2_with (first
          | (go_at_call 48; clear T1; refine HA.out.mono ?_; rintro e w' ⟨rfl, rfl⟩)
          | (go_at_call 48; refine HB.out.mono ?_; rintro e w' ⟨rfl, rfl⟩)
          | (at_builtin; refine wpList_append_own _ rfl _ _ 41 rfl w.heap.size 3 i0 (.int .i64 0) 1 8 Tryd.underlying41 hi hz0 hz1 hz2 rfl (by decide) _ _ _ rfl (hown.alloc _) ⟨wr.heap.size, 0, none⟩ 1 1 [.int .i64 ((dgt la k + dgt lb k + cc) % 1000000000)] rfl rfl (cell_one_new _ _ _) (by simp [Value.oneCell']) (by unfold maxLen; omega) (by omega) (by have := hb.size; simp; omega) ?_; intro v' w1 hown' hgrow _))
        have hb1 : Below w.heap.size w w1 := (hb.alloc hb.size _).grown hgrow (by have := hb.size; simp; omega) (fun j e => (hown.lt j e).1)
        rw [map_snoc] at hown'
        have HI2 := Lib.hid (hI.out.step D1.out D2.out)
        clear hown hgrow hI HA HB hb
        go_wp2
        go_roundw
        case rel => exact ⟨k + 1, _, _, by omega, by go_num, rfl, by omega, by omega, HI2, hown', hb1⟩
        case measure => simp [intOf]; omega
      · have q1 : ¬ k < lb.length + 1 := by omega
        have q2 : ¬ k < la.length + 1 := by omega
        have hkm : k = max la.length lb.length + 1 := by omega
        obtain ⟨a, c, rfl, hrow, hfr⟩ := row_of_own hown hI.out.len
        have HR := Lib.hid hrow
        have HV := Lib.hid (hI.out.done hkm D1.out D2.out)
        have HL := Lib.hid (hI.out.len.trans hkm)
        have hLl := hI.out.len
        clear hrow HA HB hown hfr
        go_wp2
        go_ret
        exact ⟨L, a, c, rfl, Lib.hid ⟨hI.out.dg, HV.out, HL.out, HR.out, hb⟩⟩

set_option maxRecDepth 100000 in
set_option maxHeartbeats 2000000 in
theorem taken_at (la lb : List Int) (a1 a2 : Option Addr) (c1 c2 : Nat) (w : World) (h1 : Row w a1 c1 la) (h2 : Row w a2 c2 lb) (d1 : Dg la) (d2 : Dg lb) (m1 : la.length ≤ 1000) (hl : lb.length ≤ la.length) (hv : val lb ≤ val la) :
    Calls Tryd.prog 47 #[.slice a1 la.length c1, .slice a2 lb.length c2] w (RowPostF (val la - val lb) la.length w) := by
  have H1 := Lib.hid h1
  have H2 := Lib.hid h2
  have D1 := Lib.hid d1
  have D2 := Lib.hid d2
  have HV := Lib.hid hv
  have HLL := Lib.hid hl
  have m3 : la.length ≤ 9223372036854775807 := by omega
  clear h1 h2 d1 d2 hv hl
  obtain ⟨i0, hi, hz0, hz1, hz2⟩ := info_parts infoInt
  go_enter Tryd.func47, Tryd.ntmps47
  go_wp2
  go_loopw [5, 6, 12] (fun v c i wr => ∃ (k : Nat) (cc : Int) (L : List Int), k ≤ la.length ∧ i = .int .i64 k ∧ c = .int .i64 cc ∧ 0 ≤ cc ∧ cc ≤ 1 ∧ Hid (TakI la lb L k cc) ∧ wr.ownsRow w.heap.size 3 1 v k (L.map (Value.int .i64)) ∧ Below w.heap.size w wr)
    (fun _ _ i _ => la.length - (intOf i).toNat)
  case atStart => exact ⟨0, 0, [], by omega, rfl, rfl, by omega, by omega, Lib.hid (TakI.start _ _), World.ownsRow_nil _ _ _ _, Below.refl _ _⟩
  case round =>
    obtain ⟨k, cc, L, hk, rfl, rfl, hc0, hc1, hI, hown, hb⟩ := hrel
    obtain ⟨da0, da1⟩ := dgt_rng D1.out k
    obtain ⟨db0, db1⟩ := dgt_rng D2.out k
    have HB := Lib.hid (digit_any lb a2 c2 k wr (H2.out.on hb) (by omega))
    by_cases hlt : k < la.length
    · obtain ⟨bb, off, rfl, hbl, hcs⟩ := H1.out.at (by omega)
      have hcx := (hb.cell (p := ⟨bb, off + k, none⟩) hbl).trans (hcs k hlt)
      rw [← dgt_at hlt] at hcx
      clear hcs
      have HD := Lib.hid (dgt_at hlt).symm
      have hdd := (dgt_at hlt).symm
      by_cases hn : dgt la k - dgt lb k - cc < 0
      · go_wp2_with (first
          | (go_at_call 48; refine HB.out.mono ?_; rintro e w' ⟨rfl, rfl⟩)
          | (at_builtin; refine wpList_append_own _ rfl _ _ 41 rfl w.heap.size 3 i0 (.int .i64 0) 1 8 Tryd.underlying41 hi hz0 hz1 hz2 rfl (by decide) _ _ _ rfl (hown.alloc _) ⟨wr.heap.size, 0, none⟩ 1 1 [.int .i64 (dgt la k - dgt lb k - cc + 1000000000)] rfl rfl (cell_one_new _ _ _) (by simp [Value.oneCell']) (by unfold maxLen; omega) (by omega) (by have := hb.size; simp; omega) ?_; intro v' w1 hown' hgrow _))
        have hb1 : Below w.heap.size w w1 := (hb.alloc hb.size _).grown hgrow (by have := hb.size; simp; omega) (fun j e => (hown.lt j e).1)
        rw [map_snoc] at hown'
        have HI2 := Lib.hid (hI.out.step_yes D1.out D2.out hn)
        clear hown hgrow hI HB hb
        go_wp2
        go_roundw
        case rel => exact ⟨k + 1, _, _, by omega, by go_num, rfl, by omega, by omega, HI2, hown', hb1⟩
        case measure => simp [intOf]; omega
      · have hn' : 0 ≤ dgt la k - dgt lb k - cc := by omega
        go_wp2_with (first
          | (go_at_call 48; refine HB.out.mono ?_; rintro e w' ⟨rfl, rfl⟩)
          | (at_builtin; refine wpList_append_own _ rfl _ _ 41 rfl w.heap.size 3 i0 (.int .i64 0) 1 8 Tryd.underlying41 hi hz0 hz1 hz2 rfl (by decide) _ _ _ rfl (hown.alloc _) ⟨wr.heap.size, 0, none⟩ 1 1 [.int .i64 (dgt la k - dgt lb k - cc)] rfl rfl (cell_one_new _ _ _) (by simp [Value.oneCell']) (by unfold maxLen; omega) (by omega) (by have := hb.size; simp; omega) ?_; intro v' w1 hown' hgrow _))
        have hb1 : Below w.heap.size w w1 := (hb.alloc hb.size _).grown hgrow (by have := hb.size; simp; omega) (fun j e => (hown.lt j e).1)
        rw [map_snoc] at hown'
        have HI2 := Lib.hid (hI.out.step_no D1.out D2.out hn')
        clear hown hgrow hI HB hb
        go_wp2
        go_roundw
        case rel => exact ⟨k + 1, _, _, by omega, by go_num, rfl, by omega, by omega, HI2, hown', hb1⟩
        case measure => simp [intOf]; omega
    · have hkm : k = la.length := by omega
      obtain ⟨a, c, rfl, hrow, hfr⟩ := row_of_own hown hI.out.len
      have HR := Lib.hid hrow
      have HF := Lib.hid hfr
      have HW := Lib.hid (hI.out.done hkm HLL.out HV.out)
      have HL := Lib.hid (hI.out.len.trans hkm)
      clear hrow HB hown hfr
      go_wp2
      go_ret
      exact ⟨L, a, c, rfl, Lib.hid ⟨hI.out.dg, HW.out, HL.out, HR.out, hb⟩, HF⟩
theorem taken_any (la lb : List Int) (a1 a2 : Option Addr) (c1 c2 : Nat) (w : World) (h1 : Row w a1 c1 la) (h2 : Row w a2 c2 lb) (d1 : Dg la) (d2 : Dg lb) (m1 : la.length ≤ 1000) (hl : lb.length ≤ la.length) (hv : val lb ≤ val la) :
    Calls Tryd.prog 47 #[.slice a1 la.length c1, .slice a2 lb.length c2] w (RowPost (val la - val lb) la.length w) :=
  (taken_at la lb a1 a2 c1 c2 w h1 h2 d1 d2 m1 hl hv).mono fun _ _ ⟨l, a, c, he, hh, _⟩ => ⟨l, a, c, he, hh⟩
end Go.Proofs.YteiipiomcbohnaaDoor
