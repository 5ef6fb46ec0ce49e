/-
  a number without noughts ahead.
-/
import Derived.Test.YteiipiomcbohnaaDoorBgF
namespace Go.Proofs.YteiipiomcbohnaaDoor
set_option linter.unusedSimpArgs false
set_option linter.unusedVariables false
open Go.RowKit

/-- A number comes back. -/
def NumPost (z : Int) (w : World) (e : Ending) (w' : World) : Prop :=
  ∃ (b : Bool) (n : Nat) (a : Option Addr) (c : Nat), e = .returned (.agg #[.bool b, .slice a (digs (n)).length c]) ∧ Hid (Ok b n ∧ sg b n = z ∧ Row w' a c (digs n) ∧ Below w.heap.size w w')

/-- A number comes back whose digits lie at a. -/
def NumAt (z : Int) (a : Option Addr) (c : Nat) (w : World) (e : Ending) (w' : World) : Prop :=
  ∃ (b : Bool) (n : Nat), e = .returned (.agg #[.bool b, .slice a (digs (n)).length c]) ∧ Hid (Ok b n ∧ sg b n = z ∧ Row w' a c (digs n) ∧ Below w.heap.size w w')
theorem NumAt.any {z : Int} {a : Option Addr} {c : Nat} {w : World} {e : Ending} {w' : World} (h : NumAt z a c w e w') : NumPost z w e w' := by
  obtain ⟨b, n, he, hh⟩ := h
  exact ⟨b, n, a, c, he, hh⟩

theorem take_digs {l : List Int} {k : Nat} (hd : Dg l) (hk : k ≤ l.length) (hv : val (l.take k) = val l) (h : ∀ k', k = k' + 1 → ∀ (h : k' < l.length), l[k'] ≠ 0) : l.take k = digs (val l).toNat := by
  rw [← hv]
  refine cn_digs (hd.take k) ?_
  unfold Cn
  cases k with
  | zero => simp
  | succ k' =>
    have := h k' rfl (by omega)
    rw [List.getLast?_eq_getElem?, List.length_take, show min (k' + 1) l.length - 1 = k' by omega, List.getElem?_take, if_pos (by omega), List.getElem?_eq_getElem (by omega)]
    simpa using this
def lenAt (B : Nat) (wr : World) : Nat := match wr.cell? ⟨B, 1, none⟩ with
  | some (.slice _ n _) => n
  | _ => 0
theorem lenAt_of {B n c : Nat} {a : Option Addr} {wr : World} (h : wr.cell? ⟨B, 1, none⟩ = some (.slice a n c)) : lenAt B wr = n := by simp [lenAt, h]

theorem trim_end {l : List Int} {k : Nat} {a : Option Addr} {c : Nat} {w : World} (b : Bool) (hr : Row w a c l) (hd : Dg l) (hk : k ≤ l.length) (hv : val (l.take k) = val l) (h : ∀ k', k = k' + 1 → ∀ (h : k' < l.length), l[k'] ≠ 0) :
    ∃ n, (digs n).length = k ∧ Ok (b && decide (0 < k)) n ∧ sg (b && decide (0 < k)) n = sg b (val l) ∧ Row w a c (digs n) := by
  have e := take_digs hd hk hv h
  have hp := val_nonneg hd
  have hl : (digs (val l).toNat).length = k := by rw [← e]; simp; omega
  refine ⟨(val l).toNat, hl, ?_, ?_, by rw [← e]; exact hr.take k⟩
  · intro hb h0
    rw [h0, digs_zero] at hl
    simp at hl
    subst hl
    simp at hb
  · unfold sg
    cases b with
    | false => simp; omega
    | true =>
      by_cases h0 : 0 < k
      · simp [h0]; omega
      · have hk0 : k = 0 := by omega
        have h1 : (val l).toNat = 0 := digs_nil.1 (List.eq_nil_of_length_eq_zero (by rw [hl]; exact hk0))
        simp [h0]; omega
theorem res_cells {wr : World} {R : Nat} {x y : Value} (u v : Value) (h0 : wr.cell? ⟨R, 0, none⟩ = some x) (h1 : wr.cell? ⟨R, 1, none⟩ = some y) :
    ((wr.setCell ⟨R, 0, none⟩ u).setCell ⟨R, 1, none⟩ v).cell? ⟨R, 0, none⟩ = some u ∧ ((wr.setCell ⟨R, 0, none⟩ u).setCell ⟨R, 1, none⟩ v).cell? ⟨R, 1, none⟩ = some v := by
  have e1 : (wr.setCell ⟨R, 0, none⟩ u).cell? ⟨R, 0, none⟩ = some u := World.cell?_setCell_same' _ _ _ (by rw [h0]; rfl)
  constructor
  · simp [go_sem, e1]
  · exact World.cell?_setCell_same' _ _ _ (by simp [go_sem, h1])

set_option maxRecDepth 100000 in
set_option maxHeartbeats 2000000 in
theorem trimmed_at (b : Bool) (l : List Int) (a : Option Addr) (c : Nat) (w : World) (hr : Row w a c l) (hd : Dg l) :
    Calls Tryd.prog 45 #[.agg #[.bool b, .slice a l.length c]] w (NumAt (sg b (val l)) a c w) := by
  have l1 := hr.len63
  have lc := hr.cap
  have HR := Lib.hid hr
  have HD := Lib.hid hd
  clear hr hd
  go_enter Tryd.func45, Tryd.ntmps45
  go_wp2
  go_loopw [7] (fun _ wr => ∃ k : Nat, k ≤ l.length ∧ wr.cell? ⟨w.heap.size, 0, none⟩ = some (.bool b) ∧ wr.cell? ⟨w.heap.size, 1, none⟩ = some (.slice a k c) ∧ wr.frozen? ⟨w.heap.size, 0, none⟩ = false ∧ wr.frozen? ⟨w.heap.size, 1, none⟩ = false ∧
      wr.cell? ⟨w.heap.size + 1, 0, none⟩ = some (.bool false) ∧ wr.cell? ⟨w.heap.size + 1, 1, none⟩ = some (.slice none 0 0) ∧ wr.frozen? ⟨w.heap.size + 1, 0, none⟩ = false ∧ wr.frozen? ⟨w.heap.size + 1, 1, none⟩ = false ∧
      Hid (val (l.take k) = val l) ∧ Below w.heap.size w wr)
    (fun _ wr => lenAt w.heap.size wr)
  case atStart =>
    refine ⟨l.length, Nat.le_refl _, ?_, ?_, ?_, ?_, ?_, ?_, ?_, ?_, Lib.hid (by rw [List.take_length]), ?_⟩
    · simp [go_sem]
    · simp [go_sem]
    · simp [go_sem]
    · simp [go_sem]
    · simp [go_sem]
    · simp [go_sem]
    · simp [go_sem]
    · simp [go_sem]
    · exact ((Below.refl _ w).alloc (Nat.le_refl _) _).alloc (by simp) _
  case round =>
    obtain ⟨k, hk, g0, g1, f0, f1, r0, r1, q0, q1, hv, hb⟩ := hrel
    cases k with
    | zero =>
      obtain ⟨n, hn⟩ := trim_end b HR.out HD.out hk hv.out (fun k' h => by omega)
      have HN := Lib.hid hn
      clear hn
      cases b
      all_goals
        go_wp2
        refine bodyPost_ret (v := .agg #[.bool false, .slice a 0 c]) ?_ rfl ?_
        · have hq := res_cells (wr := wr.setCell ⟨w.heap.size, 0, none⟩ (.bool false)) (R := w.heap.size + 1) (x := .bool false) (y := .slice none 0 0) (.bool false) (.slice a 0 c) (by simp [go_sem, r0]) (by simp [go_sem, r1])
          simp [results, Tryd.results45, go_sem, hq.1, hq.2]
        · have hb' := ((hb.setCell (p := ⟨w.heap.size, 0, none⟩) (Nat.le_refl _) (.bool false)).setCell (p := ⟨w.heap.size + 1, 0, none⟩) (Nat.le_succ _) (.bool false)).setCell (p := ⟨w.heap.size + 1, 1, none⟩) (Nat.le_succ _) (.slice a 0 c)
          refine ⟨false, n, by rw [HN.out.1], Lib.hid ⟨?_, ?_, HN.out.2.2.2.on hb', hb'⟩⟩
          · have := HN.out.2.1; simpa using this
          · have := HN.out.2.2.1; simpa using this
    | succ k =>
      obtain ⟨bb, off, rfl, hlt, hc⟩ := HR.out.at (by omega)
      have hcx := (hb.cell (p := ⟨bb, off + k, none⟩) hlt).trans (hc k (by omega))
      have hrng := HD.out.at k (by omega)
      clear hc
      by_cases he : l[k] = 0
      · rw [he] at hcx
        have HE := Lib.hid he
        clear he hrng
        go_wp2
        go_roundw
        case rel =>
          refine ⟨k, by omega, ?_, ?_, ?_, ?_, ?_, ?_, ?_, ?_, Lib.hid ?_, hb.setCell (p := ⟨w.heap.size, 1, none⟩) (Nat.le_refl _) _⟩
          · simp [go_sem, g0]
          · exact World.cell?_setCell_same' _ _ _ (by rw [g1]; rfl)
          · simp [go_sem, f0]
          · simp [go_sem, f1]
          · simp [go_sem, r0]
          · simp [go_sem, r1]
          · simp [go_sem, q0]
          · simp [go_sem, q1]
          · rw [← hv.out, val_take_succ (by omega), HE.out]; simp
        case measure =>
          rw [lenAt_of g1, lenAt_of (World.cell?_setCell_same' _ _ _ (by rw [g1]; rfl))]; omega
      · obtain ⟨n, hn⟩ := trim_end b HR.out HD.out hk hv.out (fun k' h _ => by cases h; exact he)
        have HN := Lib.hid hn
        have he' : (l[k] == 0) = false := by simp [he]
        have HE := Lib.hid he
        clear he hn
        cases b
        · go_wp2
          refine bodyPost_ret (v := .agg #[.bool false, .slice (some ⟨bb, off, none⟩) (k + 1) c]) ?_ rfl ?_
          · have hq := res_cells (wr := wr.setCell ⟨w.heap.size, 0, none⟩ (.bool false)) (R := w.heap.size + 1) (x := .bool false) (y := .slice none 0 0) (.bool false) (.slice (some ⟨bb, off, none⟩) (k + 1) c) (by simp [go_sem, r0]) (by simp [go_sem, r1])
            simp [results, Tryd.results45, go_sem, hq.1, hq.2]
          · have hb' := ((hb.setCell (p := ⟨w.heap.size, 0, none⟩) (Nat.le_refl _) (.bool false)).setCell (p := ⟨w.heap.size + 1, 0, none⟩) (Nat.le_succ _) (.bool false)).setCell (p := ⟨w.heap.size + 1, 1, none⟩) (Nat.le_succ _) (.slice (some ⟨bb, off, none⟩) (k + 1) c)
            refine ⟨false, n, by rw [HN.out.1], Lib.hid ⟨?_, ?_, HN.out.2.2.2.on hb', hb'⟩⟩
            · have := HN.out.2.1; simpa using this
            · have := HN.out.2.2.1; simpa using this
        · go_wp2
          refine bodyPost_ret (v := .agg #[.bool true, .slice (some ⟨bb, off, none⟩) (k + 1) c]) ?_ rfl ?_
          · have hq := res_cells (wr := wr.setCell ⟨w.heap.size, 0, none⟩ (.bool true)) (R := w.heap.size + 1) (x := .bool false) (y := .slice none 0 0) (.bool true) (.slice (some ⟨bb, off, none⟩) (k + 1) c) (by simp [go_sem, r0]) (by simp [go_sem, r1])
            simp [results, Tryd.results45, go_sem, hq.1, hq.2]
          · have hb' := ((hb.setCell (p := ⟨w.heap.size, 0, none⟩) (Nat.le_refl _) (.bool true)).setCell (p := ⟨w.heap.size + 1, 0, none⟩) (Nat.le_succ _) (.bool true)).setCell (p := ⟨w.heap.size + 1, 1, none⟩) (Nat.le_succ _) (.slice (some ⟨bb, off, none⟩) (k + 1) c)
            refine ⟨true, n, by rw [HN.out.1], Lib.hid ⟨?_, ?_, HN.out.2.2.2.on hb', hb'⟩⟩
            · have := HN.out.2.1; simpa using this
            · have := HN.out.2.2.1; simpa using this
theorem trimmed_any (b : Bool) (l : List Int) (a : Option Addr) (c : Nat) (w : World) (hr : Row w a c l) (hd : Dg l) :
    Calls Tryd.prog 45 #[.agg #[.bool b, .slice a l.length c]] w (NumPost (sg b (val l)) w) :=
  (trimmed_at b l a c w hr hd).mono fun _ _ h => h.any
end Go.Proofs.YteiipiomcbohnaaDoor
