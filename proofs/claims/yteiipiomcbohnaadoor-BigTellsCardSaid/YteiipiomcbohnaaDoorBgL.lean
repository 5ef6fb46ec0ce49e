/-
  the edge, 2^512; is a number wide?
-/
import Derived.Test.YteiipiomcbohnaaDoorBgK
namespace Go.Proofs.YteiipiomcbohnaaDoor
set_option linter.unusedSimpArgs false
set_option linter.unusedVariables false
open Go.RowKit

def p2 (k : Nat) : Nat := 2 ^ k
theorem p2_succ (k : Nat) : p2 k + p2 k = p2 (k + 1) := by unfold p2; rw [Nat.pow_succ]; omega
theorem p2_mono {i k : Nat} (h : i ≤ k) : p2 i ≤ p2 k := Nat.pow_le_pow_right (by decide) h
theorem p2_512 : ((p2 512 : Nat) : Int) < pw 58 := by decide +kernel
theorem p2_len {k : Nat} (h : k ≤ 512) : (digs (p2 k)).length ≤ 58 := digs_len_lt (by have := p2_mono h; have := p2_512; omega)
theorem sum_pos (n m : Nat) (a1 a2 : Option Addr) (c1 c2 : Nat) (w : World) (h1 : Row w a1 c1 (digs n)) (h2 : Row w a2 c2 (digs m)) (m1 : (digs n).length ≤ 1000) (m2 : (digs m).length ≤ 1000) :
    Calls Tryd.prog 29 #[.agg #[.bool false, .slice a1 (digs (n)).length c1], .agg #[.bool false, .slice a2 (digs (m)).length c2]] w (PosPost (n + m) w) :=
  (sum_any false false n m a1 a2 c1 c2 w h1 h2 m1 m2).mono fun _ _ h => h.pos (by simp [sg])

set_option maxRecDepth 100000 in
set_option maxHeartbeats 2000000 in
theorem edge_any (w : World) : Calls Tryd.prog 58 #[.int .i64 512] w (PosPost (p2 512) w) := by
  go_enter Tryd.func58, Tryd.ntmps58
  have e0 : digs (p2 0) = [1] := by decide +kernel
  have hr0 := row_one (w.alloc (.cells #[.bool false, .slice none 0 0] 43)) 1
  have E0 := Lib.hid e0
  have HR0 := Lib.hid hr0
  clear e0 hr0
  go_wp2
  go_loopw [7] (fun i wr => ∃ (k : Nat) (a : Option Addr) (c : Nat), k ≤ 512 ∧ i = .int .i64 k ∧ wr.cell? ⟨w.heap.size + 1 + 1, 0, none⟩ = some (.bool false) ∧ wr.cell? ⟨w.heap.size + 1 + 1, 1, none⟩ = some (.slice a (digs (p2 k)).length c) ∧
      wr.frozen? ⟨w.heap.size + 1 + 1, 0, none⟩ = false ∧ wr.frozen? ⟨w.heap.size + 1 + 1, 1, none⟩ = false ∧ Hid (Row wr a c (digs (p2 k))) ∧ Hid ((wr.cell? ⟨w.heap.size, 0, none⟩ = some (.bool false) ∧ wr.cell? ⟨w.heap.size, 1, none⟩ = some (.slice none 0 0) ∧ wr.frozen? ⟨w.heap.size, 0, none⟩ = false ∧ wr.frozen? ⟨w.heap.size, 1, none⟩ = false)) ∧ Below w.heap.size w wr)
    (fun i _ => 512 - (intOf i).toNat)
  case atStart =>
    refine ⟨0, some ⟨w.heap.size + 1, 0, none⟩, 1, by omega, rfl, ?_, ?_, ?_, ?_, Lib.hid ?_, Lib.hid ?_, ?_⟩
    · simp [go_sem]
    · rw [E0.out]; simp [go_sem]
    · simp [go_sem]
    · simp [go_sem]
    · rw [E0.out]
      have := HR0.out
      simp only [World.size_alloc] at this
      exact this.on (below_alloc _ _)
    · refine ⟨?_, ?_, ?_, ?_⟩ <;> simp [go_sem]
    · exact (((Below.refl _ w).alloc (Nat.le_refl _) _).alloc (by simp) _).alloc (by simp; omega) _
  case round =>
    obtain ⟨k, a, c, hk, rfl, x0, x1, x2, x3, hrow, hz, hb⟩ := hrel
    by_cases hlt : k < 512
    · have HS := Lib.hid (sum_pos (p2 k) (p2 k) a a c c wr hrow.out hrow.out (by have := p2_len hk; omega) (by have := p2_len hk; omega))
      go_wp2_with fail
      refine HS.out.mono ?_
      rintro e w2 ⟨a2, c2, rfl, hr2⟩
      rw [p2_succ] at hr2 ⊢
      obtain ⟨hc, hf⟩ := bcell hr2.out.2
      have y0 := (hc _ _ (cell_lt x0)).trans x0
      have y1 := (hc _ _ (cell_lt x1)).trans x1
      have y2 := (hf _ _ (cell_lt x0)).trans x2
      have y3 := (hf _ _ (cell_lt x0)).trans x3
      have hb2 := hb.trans (hr2.out.2.mono hb.size)
      have hz2 := res2_on hz.out hr2.out.2
      have HZ2 := Lib.hid hz2
      clear hc hf x0 x1 x2 x3 HS hz2 hb hz
      go_wp2
      go_roundw
      case rel =>
        have hq := res_cells (.bool false) (.slice a2 (digs (p2 (k + 1))).length c2) y0 y1
        refine ⟨k + 1, a2, c2, by omega, by go_num, hq.1, hq.2, ?_, ?_, Lib.hid ?_, Lib.hid ?_, (hb2.setCell (p := ⟨w.heap.size + 1 + 1, 0, none⟩) (by show w.heap.size ≤ w.heap.size + 1 + 1; omega) _).setCell (p := ⟨w.heap.size + 1 + 1, 1, none⟩) (by show w.heap.size ≤ w.heap.size + 1 + 1; omega) _⟩
        · simp [go_sem, y2]
        · simp [go_sem, y3]
        · refine (hr2.out.1.set y0 (fun i e => by cases e) _).set (v := .slice a (digs (p2 k)).length c) ?_ (fun i e => by cases e) _
          simp [go_sem, y1]
        · obtain ⟨z0, z1, z2, z3⟩ := HZ2.out
          have hne : ¬ w.heap.size + 1 + 1 = w.heap.size := by omega
          refine ⟨?_, ?_, ?_, ?_⟩ <;> simp [go_sem, hne, z0, z1, z2, z3]
      case measure => simp [intOf]; omega
    · obtain rfl : k = 512 := by omega
      obtain ⟨z0, z1, z2, z3⟩ := hz.out
      have hq := res_cells (.bool false) (.slice a (digs (p2 512)).length c) z0 z1
      go_wp2
      refine bodyPost_ret (v := .agg #[.bool false, .slice a (digs (p2 512)).length c]) ?_ rfl ?_
      · simp [results, Tryd.results58, go_sem, hq.1, hq.2]
      · refine ⟨a, c, rfl, Lib.hid ⟨?_, (hb.setCell (p := ⟨w.heap.size, 0, none⟩) (Nat.le_refl _) _).setCell (p := ⟨w.heap.size, 1, none⟩) (Nat.le_refl _) _⟩⟩
        refine (hrow.out.set z0 (fun i e => by cases e) _).set (v := .slice none 0 0) ?_ (fun i e => by cases e) _
        simp [go_sem, z1]

/-- Is an amount 2^512 or more? -/
def wideB (n : Nat) : Bool := decide (p2 512 ≤ n)
theorem wide_true {n : Nat} (h : wideB n = true) : 0 ≤ cmpI n (p2 512) := by
  have : p2 512 ≤ n := by simpa [wideB] using h
  unfold cmpI
  rw [if_neg (by omega)]
  split <;> omega
theorem wide_false {n : Nat} (h : wideB n = false) : cmpI n (p2 512) < 0 := by
  have : n < p2 512 := by simpa [wideB] using h
  unfold cmpI
  rw [if_pos (by omega)]
  omega

set_option maxRecDepth 100000 in
set_option maxHeartbeats 2000000 in
theorem bwide_any (b : Bool) (n : Nat) (a : Option Addr) (c : Nat) (w : World) (h : Row w a c (digs n)) :
    Calls Tryd.prog 37 #[.agg #[.bool b, .slice a (digs (n)).length c]] w fun e w' => e = .returned (.bool (wideB n)) ∧ Below w.heap.size w w' := by
  obtain ⟨W1, hW1⟩ : ∃ W1, w.alloc (.cells #[.bool b, .slice a (digs n).length c] 43) = W1 := ⟨_, rfl⟩
  have hb1 : Below w.heap.size w W1 := by rw [← hW1]; exact below_alloc _ _
  have x0 : W1.cell? ⟨w.heap.size, 1, none⟩ = some (.slice a (digs n).length c) := by rw [← hW1]; simp [go_sem]
  have hE := edge_any W1.drew
  have HE : Hid (Calls Tryd.prog 58 #[.int .i64 512] W1.drew fun e w' => ∃ (a2 : Option Addr) (c2 : Nat), e = .returned (.agg #[.bool false, .slice a2 (digs (p2 512)).length c2]) ∧ w'.cell? ⟨w.heap.size, 1, none⟩ = some (.slice a (digs n).length c) ∧ Hid (Row w' a2 c2 (digs (p2 512)) ∧ Below W1.heap.size W1 w')) :=
    Lib.hid (hE.mono fun e w' ⟨a2, c2, he, hh⟩ => ⟨a2, c2, he, ((bcell (bext (Below.refl _ W1).drew hh.out.2)).1 _ _ (cell_lt x0)).trans x0, Lib.hid ⟨hh.out.1, bext (Below.refl _ W1).drew hh.out.2⟩⟩)
  have H := Lib.hid (h.on hb1)
  have HB := Lib.hid hb1
  have HW := Lib.hid hW1
  have hf1 := field1
  clear h hb1 hE hW1
  obtain ⟨q, hq0⟩ : ∃ q, cmpI n (p2 512) = q := ⟨_, rfl⟩
  have HC : Hid (∀ (w2 : World) (a2 : Option Addr) (c2 : Nat), Row w2 a2 c2 (digs (p2 512)) → Below W1.heap.size W1 w2 → w2.cell? ⟨w.heap.size, 1, none⟩ = some (.slice a (digs n).length c) →
      Calls Tryd.prog 44 #[.slice a (digs n).length c, .slice a2 (digs (p2 512)).length c2] w2 fun e w' => e = .returned (.int .i64 q) ∧ w'.cell? ⟨w.heap.size, 1, none⟩ = some (.slice a (digs n).length c) ∧ Hid (Below w2.heap.size w2 w')) :=
    Lib.hid (fun w2 a2 c2 hr2 hb2 y0 => (against_any n (p2 512) a a2 c c2 w2 (H.out.on hb2) hr2).mono fun e w' ⟨he, hb⟩ => ⟨by rw [he, hq0], ((bcell hb).1 _ _ (cell_lt y0)).trans y0, Lib.hid hb⟩)
  cases hw : wideB n with
  | true =>
    have hq := wide_true hw
    rw [hq0] at hq
    clear hq0 hw
    go_enter Tryd.func37, Tryd.ntmps37
    go_wp2_with fail
    rw [HW.out]
    go_region_held3 (fun w' => w'.cell? ⟨w.heap.size, 1, none⟩ = some (.slice a (digs n).length c)) (go_keep)
      (first
        | (go_at_call 58
           refine HE.out.mono ?_
           rintro e w2 ⟨a2, c2, rfl, x0, hr2⟩)
        | (go_at_call 44
           refine (HC.out w2 a2 c2 hr2.out.1 hr2.out.2 x0).mono ?_
           rintro e w3 ⟨rfl, x0, hb3⟩))
    go_wp2
    go_ret
    exact ⟨rfl, bext (bext HB.out hr2.out.2) hb3.out⟩
  | false =>
    have hq := wide_false hw
    rw [hq0] at hq
    clear hq0 hw
    go_enter Tryd.func37, Tryd.ntmps37
    go_wp2_with fail
    rw [HW.out]
    go_region_held3 (fun w' => w'.cell? ⟨w.heap.size, 1, none⟩ = some (.slice a (digs n).length c)) (go_keep)
      (first
        | (go_at_call 58
           refine HE.out.mono ?_
           rintro e w2 ⟨a2, c2, rfl, x0, hr2⟩)
        | (go_at_call 44
           refine (HC.out w2 a2 c2 hr2.out.1 hr2.out.2 x0).mono ?_
           rintro e w3 ⟨rfl, x0, hb3⟩))
    go_wp2
    go_ret
    exact ⟨ret_bool (decide_eq_false (by omega)), bext (bext HB.out hr2.out.2) hb3.out⟩
end Go.Proofs.YteiipiomcbohnaaDoor
