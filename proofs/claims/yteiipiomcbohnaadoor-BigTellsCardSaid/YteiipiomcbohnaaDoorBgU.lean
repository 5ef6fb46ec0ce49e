/-
  the functions that done is handed; the exported functions.
-/
import Derived.Test.YteiipiomcbohnaaDoorBgS
namespace Go.Proofs.YteiipiomcbohnaaDoor
set_option linter.unusedSimpArgs false
set_option linter.unusedVariables false
open Go.RowKit

theorem num_tuple_end {w w6 : World} {R : Nat} {b : Bool} {n : Nat} {a : Option Addr} {c : Nat} {z : Int} {r : Option Int} (hF : r = some z) (hz : (w6.cell? ⟨R, 0, none⟩ = some (.bool false) ∧ w6.cell? ⟨R, 1, none⟩ = some (.slice none 0 0) ∧ w6.frozen? ⟨R, 0, none⟩ = false ∧ w6.frozen? ⟨R, 1, none⟩ = false)) (hb : Below w.heap.size w w6) (hR : w.heap.size ≤ R) (h : Ok b n) (hs : sg b n = z) (hr : Row w6 a c (digs n)) :
    DoPost r w (.returned (.tuple #[.agg #[.bool b, .slice a (digs (n)).length c], .int .i64 0])) ((w6.setCell ⟨R, 0, none⟩ (.bool b)).setCell ⟨R, 1, none⟩ (.slice a (digs n).length c)) := by
  obtain ⟨b', n', a', c', he, hh⟩ := num_end hz hb hR h hs hr
  subst hF
  unfold DoPost
  simp only [Ending.returned.injEq] at he
  exact ⟨b', n', a', c', by rw [he], hh⟩
theorem tuple_res {w6 : World} {R : Nat} {fn : Func} {tmps : Array Value} {b : Bool} {s k : Value} (hz : (w6.cell? ⟨R, 0, none⟩ = some (.bool false) ∧ w6.cell? ⟨R, 1, none⟩ = some (.slice none 0 0) ∧ w6.frozen? ⟨R, 0, none⟩ = false ∧ w6.frozen? ⟨R, 1, none⟩ = false)) (h : ∀ W, W.cell? ⟨R, 0, none⟩ = some (.bool b) → W.cell? ⟨R, 1, none⟩ = some s → (results fn tmps).run Tryd.prog W = .ok (.tuple #[.agg #[.bool b, s], k]) W) :
    (results fn tmps).run Tryd.prog ((w6.setCell ⟨R, 0, none⟩ (.bool b)).setCell ⟨R, 1, none⟩ s) = .ok (.tuple #[.agg #[.bool b, s], k]) ((w6.setCell ⟨R, 0, none⟩ (.bool b)).setCell ⟨R, 1, none⟩ s) := by
  have hq := res_cells (.bool b) s hz.1 hz.2.1
  exact h _ hq.1 hq.2
theorem len1000 {n : Nat} (h : n < p2 512) : (digs n).length ≤ 58 := digs_len_lt (by have := p2_512; omega)

set_option maxRecDepth 100000 in
set_option maxHeartbeats 2000000 in
theorem sum1_any (w : World) (b1 : Bool) (n1 : Nat) (a1 : Option Addr) (c1 : Nat) (b2 : Bool) (n2 : Nat) (a2 : Option Addr) (c2 : Nat) (h1 : Row w a1 c1 (digs n1)) (h2 : Row w a2 c2 (digs n2)) (hn1 : n1 < p2 512) (hn2 : n2 < p2 512) :
    Calls Tryd.prog 28 #[.agg #[.bool b1, .slice a1 (digs (n1)).length c1], .agg #[.bool b2, .slice a2 (digs (n2)).length c2]] w (DoPost (some (sg b1 n1 + sg b2 n2)) w) := by
  obtain ⟨W3, hW3⟩ : ∃ W3, (((w.alloc (.cells #[.bool b1, .slice a1 (digs n1).length c1] 43)).alloc (.cells #[.bool b2, .slice a2 (digs n2).length c2] 43)).alloc (.cells #[.bool false, .slice none 0 0] 43)) = W3 := ⟨_, rfl⟩
  have hb3 : Below w.heap.size w W3 := by rw [← hW3]; exact (((Below.refl _ w).alloc (Nat.le_refl _) _).alloc (by simp) _).alloc (by simp; omega) _
  have hx : (W3.cell? ⟨w.heap.size, 0, none⟩ = some (.bool b1) ∧ W3.cell? ⟨w.heap.size, 1, none⟩ = some (.slice a1 (digs n1).length c1) ∧ W3.cell? ⟨w.heap.size + 1, 0, none⟩ = some (.bool b2) ∧ W3.cell? ⟨w.heap.size + 1, 1, none⟩ = some (.slice a2 (digs n2).length c2)) := by
    rw [← hW3]; refine ⟨?_, ?_, ?_, ?_⟩ <;> simp [go_sem]
  have hz : (W3.cell? ⟨w.heap.size + 1 + 1, 0, none⟩ = some (.bool false) ∧ W3.cell? ⟨w.heap.size + 1 + 1, 1, none⟩ = some (.slice none 0 0) ∧ W3.frozen? ⟨w.heap.size + 1 + 1, 0, none⟩ = false ∧ W3.frozen? ⟨w.heap.size + 1 + 1, 1, none⟩ = false) := by rw [← hW3]; refine ⟨?_, ?_, ?_, ?_⟩ <;> simp [go_sem]
  have m1 := len1000 hn1
  have m2 := len1000 hn2
  have R1 := h1.on hb3
  have R2 := h2.on hb3
  have HB := Lib.hid hb3
  have HZ := Lib.hid hz
  have HX := Lib.hid hx
  have HW3 := Lib.hid hW3
  have hlt : w.heap.size ≤ w.heap.size + 1 + 1 := by omega
  have HC := Lib.hid (sum_any b1 b2 n1 n2 a1 a2 c1 c2 W3 R1 R2 (by omega) (by omega))
  clear h1 h2 hb3 hx hz hW3 R1 R2
  go_enter Tryd.func28, Tryd.ntmps28
  go_wp2_with fail
  rw [HW3.out]
  refine HC.out.mono ?_
  rintro e w4 ⟨b', n', a', c', rfl, hr4⟩
  obtain ⟨z0, z1, z2, z3⟩ := res2_on HZ.out hr4.out.2.2.2
  go_wp2
  refine bodyPost_ret (v := .tuple #[.agg #[.bool b', .slice a' (digs (n')).length c'], .int .i64 0]) (tuple_res ⟨z0, z1, z2, z3⟩ (fun W g0 g1 => by simp [results, Tryd.results28, go_sem, g0, g1])) rfl ?_
  refine num_tuple_end rfl ⟨z0, z1, z2, z3⟩ (bext HB.out hr4.out.2.2.2) hlt hr4.out.1 ?_ hr4.out.2.2.1
  exact hr4.out.2.1

set_option maxRecDepth 100000 in
set_option maxHeartbeats 2000000 in
theorem times1_any (w : World) (b1 : Bool) (n1 : Nat) (a1 : Option Addr) (c1 : Nat) (b2 : Bool) (n2 : Nat) (a2 : Option Addr) (c2 : Nat) (h1 : Row w a1 c1 (digs n1)) (h2 : Row w a2 c2 (digs n2)) (hn1 : n1 < p2 512) (hn2 : n2 < p2 512) :
    Calls Tryd.prog 30 #[.agg #[.bool b1, .slice a1 (digs (n1)).length c1], .agg #[.bool b2, .slice a2 (digs (n2)).length c2]] w (DoPost (some (sg b1 n1 * sg b2 n2)) w) := by
  obtain ⟨W3, hW3⟩ : ∃ W3, (((w.alloc (.cells #[.bool b1, .slice a1 (digs n1).length c1] 43)).alloc (.cells #[.bool b2, .slice a2 (digs n2).length c2] 43)).alloc (.cells #[.bool false, .slice none 0 0] 43)) = W3 := ⟨_, rfl⟩
  have hb3 : Below w.heap.size w W3 := by rw [← hW3]; exact (((Below.refl _ w).alloc (Nat.le_refl _) _).alloc (by simp) _).alloc (by simp; omega) _
  have hx : (W3.cell? ⟨w.heap.size, 0, none⟩ = some (.bool b1) ∧ W3.cell? ⟨w.heap.size, 1, none⟩ = some (.slice a1 (digs n1).length c1) ∧ W3.cell? ⟨w.heap.size + 1, 0, none⟩ = some (.bool b2) ∧ W3.cell? ⟨w.heap.size + 1, 1, none⟩ = some (.slice a2 (digs n2).length c2)) := by
    rw [← hW3]; refine ⟨?_, ?_, ?_, ?_⟩ <;> simp [go_sem]
  have hz : (W3.cell? ⟨w.heap.size + 1 + 1, 0, none⟩ = some (.bool false) ∧ W3.cell? ⟨w.heap.size + 1 + 1, 1, none⟩ = some (.slice none 0 0) ∧ W3.frozen? ⟨w.heap.size + 1 + 1, 0, none⟩ = false ∧ W3.frozen? ⟨w.heap.size + 1 + 1, 1, none⟩ = false) := by rw [← hW3]; refine ⟨?_, ?_, ?_, ?_⟩ <;> simp [go_sem]
  have m1 := len1000 hn1
  have m2 := len1000 hn2
  have R1 := h1.on hb3
  have R2 := h2.on hb3
  have HB := Lib.hid hb3
  have HZ := Lib.hid hz
  have HX := Lib.hid hx
  have HW3 := Lib.hid hW3
  have hlt : w.heap.size ≤ w.heap.size + 1 + 1 := by omega
  have HC := Lib.hid (times_any b1 b2 (digs n1) (digs n2) a1 a2 c1 c2 W3 R1 R2 (digs_dg n1) (digs_dg n2) (by omega) (by omega))
  clear h1 h2 hb3 hx hz hW3 R1 R2
  go_enter Tryd.func30, Tryd.ntmps30
  go_wp2_with fail
  rw [HW3.out]
  refine HC.out.mono ?_
  rintro e w4 ⟨b', n', a', c', rfl, hr4⟩
  obtain ⟨z0, z1, z2, z3⟩ := res2_on HZ.out hr4.out.2.2.2
  go_wp2
  refine bodyPost_ret (v := .tuple #[.agg #[.bool b', .slice a' (digs (n')).length c'], .int .i64 0]) (tuple_res ⟨z0, z1, z2, z3⟩ (fun W g0 g1 => by simp [results, Tryd.results30, go_sem, g0, g1])) rfl ?_
  refine num_tuple_end rfl ⟨z0, z1, z2, z3⟩ (bext HB.out hr4.out.2.2.2) hlt hr4.out.1 ?_ hr4.out.2.2.1
  rw [hr4.out.2.1, val_digs, val_digs]
  unfold sg
  cases b1 <;> cases b2 <;> simp [Int.mul_neg, Int.neg_mul]

set_option maxRecDepth 100000 in
set_option maxHeartbeats 4000000 in
theorem less1_any (w : World) (b1 : Bool) (n1 : Nat) (a1 : Option Addr) (c1 : Nat) (b2 : Bool) (n2 : Nat) (a2 : Option Addr) (c2 : Nat) (h1 : Row w a1 c1 (digs n1)) (h2 : Row w a2 c2 (digs n2)) (hn1 : n1 < p2 512) (hn2 : n2 < p2 512) :
    Calls Tryd.prog 33 #[.agg #[.bool b1, .slice a1 (digs (n1)).length c1], .agg #[.bool b2, .slice a2 (digs (n2)).length c2]] w (DoPost (some (sg b1 n1 - sg b2 n2)) w) := by
  obtain ⟨W3, hW3⟩ : ∃ W3, (((w.alloc (.cells #[.bool b1, .slice a1 (digs n1).length c1] 43)).alloc (.cells #[.bool b2, .slice a2 (digs n2).length c2] 43)).alloc (.cells #[.bool false, .slice none 0 0] 43)) = W3 := ⟨_, rfl⟩
  have hb3 : Below w.heap.size w W3 := by rw [← hW3]; exact (((Below.refl _ w).alloc (Nat.le_refl _) _).alloc (by simp) _).alloc (by simp; omega) _
  have hx : (W3.cell? ⟨w.heap.size, 0, none⟩ = some (.bool b1) ∧ W3.cell? ⟨w.heap.size, 1, none⟩ = some (.slice a1 (digs n1).length c1) ∧ W3.cell? ⟨w.heap.size + 1, 0, none⟩ = some (.bool b2) ∧ W3.cell? ⟨w.heap.size + 1, 1, none⟩ = some (.slice a2 (digs n2).length c2)) := by
    rw [← hW3]; refine ⟨?_, ?_, ?_, ?_⟩ <;> simp [go_sem]
  have hz : (W3.cell? ⟨w.heap.size + 1 + 1, 0, none⟩ = some (.bool false) ∧ W3.cell? ⟨w.heap.size + 1 + 1, 1, none⟩ = some (.slice none 0 0) ∧ W3.frozen? ⟨w.heap.size + 1 + 1, 0, none⟩ = false ∧ W3.frozen? ⟨w.heap.size + 1 + 1, 1, none⟩ = false) := by rw [← hW3]; refine ⟨?_, ?_, ?_, ?_⟩ <;> simp [go_sem]
  have m1 := len1000 hn1
  have m2 := len1000 hn2
  have R1 := h1.on hb3
  have R2 := h2.on hb3
  have HB := Lib.hid hb3
  have HZ := Lib.hid hz
  have HX := Lib.hid hx
  have HW3 := Lib.hid hW3
  have hlt : w.heap.size ≤ w.heap.size + 1 + 1 := by omega
  have HT : Hid (Calls Tryd.prog 34 #[.agg #[.bool b2, .slice a2 (digs (n2)).length c2]] W3.drew fun e w' => ∃ (b : Bool) (n : Nat) (a : Option Addr) (c : Nat), e = .returned (.agg #[.bool b, .slice a (digs (n)).length c]) ∧ (w'.cell? ⟨w.heap.size, 0, none⟩ = some (.bool b1) ∧ w'.cell? ⟨w.heap.size, 1, none⟩ = some (.slice a1 (digs n1).length c1) ∧ w'.cell? ⟨w.heap.size + 1, 0, none⟩ = some (.bool b2) ∧ w'.cell? ⟨w.heap.size + 1, 1, none⟩ = some (.slice a2 (digs n2).length c2)) ∧ (w'.cell? ⟨w.heap.size + 1 + 1, 0, none⟩ = some (.bool false) ∧ w'.cell? ⟨w.heap.size + 1 + 1, 1, none⟩ = some (.slice none 0 0) ∧ w'.frozen? ⟨w.heap.size + 1 + 1, 0, none⟩ = false ∧ w'.frozen? ⟨w.heap.size + 1 + 1, 1, none⟩ = false) ∧
      Hid (Ok b n ∧ sg b n = - sg b2 n2 ∧ n = n2 ∧ Row w' a c (digs n) ∧ Below W3.heap.size W3 w')) := by
    refine Lib.hid ((turned_any b2 n2 a2 c2 W3.drew (R2.on (Below.refl _ _).drew)).mono fun e w' ⟨b, n, a, c, he, hh⟩ => ⟨b, n, a, c, he, ?_⟩)
    obtain ⟨g1, g2, g3, g4⟩ := hh.out
    have hB := bext (Below.refl _ W3).drew g4
    exact ⟨bx2_on hx hB, res2_on hz hB, Lib.hid ⟨g1, g2, by have := congrArg Int.natAbs g2; rw [Int.natAbs_neg, natAbs_sg, natAbs_sg] at this; exact this, g3, hB⟩⟩
  have HS : Hid (∀ (w4 : World) (b : Bool) (n : Nat) (a : Option Addr) (c : Nat), Below W3.heap.size W3 w4 → Row w4 a c (digs n) → n = n2 → (w4.cell? ⟨w.heap.size, 0, none⟩ = some (.bool b1) ∧ w4.cell? ⟨w.heap.size, 1, none⟩ = some (.slice a1 (digs n1).length c1) ∧ w4.cell? ⟨w.heap.size + 1, 0, none⟩ = some (.bool b2) ∧ w4.cell? ⟨w.heap.size + 1, 1, none⟩ = some (.slice a2 (digs n2).length c2)) → (w4.cell? ⟨w.heap.size + 1 + 1, 0, none⟩ = some (.bool false) ∧ w4.cell? ⟨w.heap.size + 1 + 1, 1, none⟩ = some (.slice none 0 0) ∧ w4.frozen? ⟨w.heap.size + 1 + 1, 0, none⟩ = false ∧ w4.frozen? ⟨w.heap.size + 1 + 1, 1, none⟩ = false) →
      Calls Tryd.prog 29 #[.agg #[.bool b1, .slice a1 (digs (n1)).length c1], .agg #[.bool b, .slice a (digs (n)).length c]] w4 fun e w' => ∃ (b' : Bool) (n' : Nat) (a' : Option Addr) (c' : Nat), e = .returned (.agg #[.bool b', .slice a' (digs (n')).length c']) ∧ (w'.cell? ⟨w.heap.size, 0, none⟩ = some (.bool b1) ∧ w'.cell? ⟨w.heap.size, 1, none⟩ = some (.slice a1 (digs n1).length c1) ∧ w'.cell? ⟨w.heap.size + 1, 0, none⟩ = some (.bool b2) ∧ w'.cell? ⟨w.heap.size + 1, 1, none⟩ = some (.slice a2 (digs n2).length c2)) ∧ (w'.cell? ⟨w.heap.size + 1 + 1, 0, none⟩ = some (.bool false) ∧ w'.cell? ⟨w.heap.size + 1 + 1, 1, none⟩ = some (.slice none 0 0) ∧ w'.frozen? ⟨w.heap.size + 1 + 1, 0, none⟩ = false ∧ w'.frozen? ⟨w.heap.size + 1 + 1, 1, none⟩ = false) ∧
      Hid (Ok b' n' ∧ sg b' n' = sg b1 n1 + sg b n ∧ Row w' a' c' (digs n') ∧ Below w4.heap.size w4 w')) :=
    Lib.hid (fun w4 b n a c hB hR hn hx4 hz4 => (sum_any b1 b n1 n a1 a c1 c w4 (R1.on hB) hR (by omega) (by rw [hn]; omega)).mono fun e w' ⟨b', n', a', c', he, hh⟩ => ⟨b', n', a', c', he, bx2_on hx4 hh.out.2.2.2, res2_on hz4 hh.out.2.2.2, hh⟩)
  clear h1 h2 hb3 hz hW3 R1 R2
  obtain ⟨x0, x1, x2, x3⟩ := hx
  have hne : ¬ w.heap.size = w.heap.size + 1 + 1 := by omega
  have hne' : ¬ w.heap.size + 1 + 1 = w.heap.size := by omega
  go_enter Tryd.func33, Tryd.ntmps33
  go_wp2_with fail
  rw [HW3.out]
  go_region_held3 (fun w' => (w'.cell? ⟨w.heap.size, 0, none⟩ = some (.bool b1) ∧ w'.cell? ⟨w.heap.size, 1, none⟩ = some (.slice a1 (digs n1).length c1) ∧ w'.cell? ⟨w.heap.size + 1, 0, none⟩ = some (.bool b2) ∧ w'.cell? ⟨w.heap.size + 1, 1, none⟩ = some (.slice a2 (digs n2).length c2))) (go_keep)
    (first
      | (go_at_call 34
         refine HT.out.mono ?_
         rintro e w4 ⟨b, n, a, c, rfl, ⟨x0, x1, x2, x3⟩, ⟨z0, z1, z2, z3⟩, hr4⟩)
      | (go_at_call 29
         refine (HS.out w4 b n a c hr4.out.2.2.2.2 hr4.out.2.2.2.1 hr4.out.2.2.1 ⟨x0, x1, x2, x3⟩ ⟨z0, z1, z2, z3⟩).mono ?_
         rintro e w5 ⟨b', n', a', c', rfl, ⟨x0, x1, x2, x3⟩, ⟨z0, z1, z2, z3⟩, hr5⟩))
  all_goals
    go_wp2
    refine bodyPost_ret (v := .tuple #[.agg #[.bool b', .slice a' (digs (n')).length c'], .int .i64 0]) (tuple_res ⟨z0, z1, z2, z3⟩ (fun W g0 g1 => by simp [results, Tryd.results33, go_sem, g0, g1])) rfl ?_
    refine num_tuple_end rfl ⟨z0, z1, z2, z3⟩ (bext (bext HB.out hr4.out.2.2.2.2) hr5.out.2.2.2) hlt hr5.out.1 ?_ hr5.out.2.2.1
    rw [hr5.out.2.1, hr4.out.2.1]
    omega

theorem tdiv_sg (b1 b2 : Bool) (n m : Nat) : sg (b1 != b2) ((n : Int) / m) = Int.tdiv (sg b1 n) (sg b2 m) := by
  have h : Int.tdiv (n : Int) (m : Int) = (n : Int) / m := Int.tdiv_eq_ediv_of_nonneg (by omega)
  unfold sg
  cases b1 <;> cases b2 <;> simp [Int.neg_tdiv, Int.tdiv_neg, h]
theorem tmod_sg (b1 b2 : Bool) (n m : Nat) : sg b1 ((n : Int) % m) = Int.tmod (sg b1 n) (sg b2 m) := by
  have h : Int.tmod (n : Int) (m : Int) = (n : Int) % m := Int.tmod_eq_emod_of_nonneg (by omega)
  unfold sg
  cases b1 <;> cases b2 <;> simp [Int.neg_tmod, Int.tmod_neg, h]
/-- A quotient, or a rest; none by nought. -/
def partsF (rest : Bool) (x y : Int) : Option Int := if y = 0 then none else some (if rest then Int.tmod x y else Int.tdiv x y)

set_option maxRecDepth 100000 in
set_option maxHeartbeats 4000000 in
theorem parts1_any (rest : Bool) (Br : Nat) (w : World) (b1 : Bool) (n1 : Nat) (a1 : Option Addr) (c1 : Nat) (b2 : Bool) (n2 : Nat) (a2 : Option Addr) (c2 : Nat) (h1 : Row w a1 c1 (digs n1)) (h2 : Row w a2 c2 (digs n2)) (hn1 : n1 < p2 512) (hn2 : n2 < p2 512) (hok2 : Ok b2 n2) (hc : w.cell? ⟨Br, 0, none⟩ = some (.bool rest)) :
    Calls Tryd.prog 49 #[.agg #[.bool b1, .slice a1 (digs (n1)).length c1], .agg #[.bool b2, .slice a2 (digs (n2)).length c2], .pointer (some ⟨Br, 0, none⟩)] w (DoPost (partsF rest (sg b1 n1) (sg b2 n2)) w) := by
  obtain ⟨W3, hW3⟩ : ∃ W3, (((w.alloc (.cells #[.bool b1, .slice a1 (digs n1).length c1] 43)).alloc (.cells #[.bool b2, .slice a2 (digs n2).length c2] 43)).alloc (.cells #[.bool false, .slice none 0 0] 43)) = W3 := ⟨_, rfl⟩
  have hb3 : Below w.heap.size w W3 := by rw [← hW3]; exact (((Below.refl _ w).alloc (Nat.le_refl _) _).alloc (by simp) _).alloc (by simp; omega) _
  have hx : (W3.cell? ⟨w.heap.size, 0, none⟩ = some (.bool b1) ∧ W3.cell? ⟨w.heap.size, 1, none⟩ = some (.slice a1 (digs n1).length c1) ∧ W3.cell? ⟨w.heap.size + 1, 0, none⟩ = some (.bool b2) ∧ W3.cell? ⟨w.heap.size + 1, 1, none⟩ = some (.slice a2 (digs n2).length c2)) := by
    rw [← hW3]; refine ⟨?_, ?_, ?_, ?_⟩ <;> simp [go_sem]
  have hz : (W3.cell? ⟨w.heap.size + 1 + 1, 0, none⟩ = some (.bool false) ∧ W3.cell? ⟨w.heap.size + 1 + 1, 1, none⟩ = some (.slice none 0 0) ∧ W3.frozen? ⟨w.heap.size + 1 + 1, 0, none⟩ = false ∧ W3.frozen? ⟨w.heap.size + 1 + 1, 1, none⟩ = false) := by rw [← hW3]; refine ⟨?_, ?_, ?_, ?_⟩ <;> simp [go_sem]
  have m1 := len1000 hn1
  have m2 := len1000 hn2
  have R1 := h1.on hb3
  have R2 := h2.on hb3
  have HB := Lib.hid hb3
  have HZ := Lib.hid hz
  have HX := Lib.hid hx
  have HW3 := Lib.hid hW3
  have hlt : w.heap.size ≤ w.heap.size + 1 + 1 := by omega
  have HC := Lib.hid ((CK.below hb3).cell hc rfl)
  by_cases h0 : n2 = 0
  · subst h0
    have hb2 : b2 = false := by cases b2 with | false => rfl | true => exact absurd rfl (hok2 rfl)
    subst hb2
    have hl : ((digs 0).length == 0) = true := by rw [digs_zero]; rfl
    have HF := Lib.hid (show partsF rest (sg b1 n1) (sg false (0 : Nat)) = none by unfold partsF; rw [if_pos (by simp [sg])])
    clear h1 h2 hb3 hx hz hW3 R1 R2 hc m1 m2
    go_enter Tryd.func49, Tryd.ntmps49
    go_wp2
    refine bodyPost_ret (v := .tuple #[.agg #[.bool false, .slice none 0 0], .int .i64 1]) (by simp [results, Tryd.results49, go_sem]) rfl ?_
    unfold DoPost
    rw [HF.out]
    exact ⟨rfl, Lib.hid ((((Below.refl _ w).alloc (Nat.le_refl _) _).alloc (by simp) _).alloc (by simp; omega) _)⟩
  · have hl : ((digs n2).length == 0) = false := by
      rw [beq_eq_false_iff_ne]; intro e; exact h0 (digs_nil.1 (List.eq_nil_of_length_eq_zero e))
    have HD := Lib.hid (divided_walk b1 b2 n1 n2 a1 a2 c1 c2 W3 R1 R2 (by omega) (by omega) (by omega))
    have HN := Lib.hid (show ¬ sg b2 n2 = 0 by unfold sg; cases b2 <;> simp <;> omega)
    clear h1 h2 hb3 hx hz hW3 R1 R2 hc h0
    unfold partsF
    cases rest
    · go_enter Tryd.func49, Tryd.ntmps49
      go_wp2_with fail
      rw [HW3.out]
      refine HD.out.mono ?_
      rintro e w4 ⟨bq, nq, aq, cq, br, nr, ar, cr, rfl, hr4⟩
      have hk := CK.below hr4.out.2.2.2.2.2.2
      obtain ⟨z0, z1, z2, z3⟩ := res2_on HZ.out hr4.out.2.2.2.2.2.2
      have s0 := hk.cell HC.out rfl
      have hl2 : w.heap.size + 1 + 1 < w4.heap.size := cell_lt z0
      have hbl : Br < w4.heap.size := cell_lt s0
      clear hk
      have hzz := res2_on (W := w4) (R := w.heap.size + 1 + 1) ⟨z0, z1, z2, z3⟩ (bext (below_alloc w4 (.cells #[.bool bq, .slice aq (digs nq).length cq] 43)) (below_alloc _ (.cells #[.bool br, .slice ar (digs nr).length cr] 43)))
      obtain ⟨t0, t1, t2, t3⟩ := hzz
      go_wp2
      have hzz := res2_on (W := w4) (R := w.heap.size + 1 + 1) ⟨z0, z1, z2, z3⟩ (bext (below_alloc w4 (.cells #[.bool bq, .slice aq (digs nq).length cq] 43)) (below_alloc _ (.cells #[.bool br, .slice ar (digs nr).length cr] 43)))
      refine bodyPost_ret (v := .tuple #[.agg #[.bool bq, .slice aq (digs (nq)).length cq], .int .i64 0]) (tuple_res hzz (fun W g0 g1 => by simp [results, Tryd.results49, go_sem, g0, g1])) rfl ?_
      have hBB := bext (below_alloc w4 (.cells #[.bool bq, .slice aq (digs nq).length cq] 43)) (below_alloc _ (.cells #[.bool br, .slice ar (digs nr).length cr] 43))
      refine num_tuple_end rfl hzz (bext (bext HB.out hr4.out.2.2.2.2.2.2) hBB) hlt hr4.out.1 ?_ (hr4.out.2.2.2.2.1.on hBB)
      rw [hr4.out.2.2.1]
      exact tdiv_sg b1 b2 n1 n2
    · go_enter Tryd.func49, Tryd.ntmps49
      go_wp2_with fail
      rw [HW3.out]
      refine HD.out.mono ?_
      rintro e w4 ⟨bq, nq, aq, cq, br, nr, ar, cr, rfl, hr4⟩
      have hk := CK.below hr4.out.2.2.2.2.2.2
      obtain ⟨z0, z1, z2, z3⟩ := res2_on HZ.out hr4.out.2.2.2.2.2.2
      have s0 := hk.cell HC.out rfl
      have hl2 : w.heap.size + 1 + 1 < w4.heap.size := cell_lt z0
      have hbl : Br < w4.heap.size := cell_lt s0
      clear hk
      have hzz := res2_on (W := w4) (R := w.heap.size + 1 + 1) ⟨z0, z1, z2, z3⟩ (bext (below_alloc w4 (.cells #[.bool bq, .slice aq (digs nq).length cq] 43)) (below_alloc _ (.cells #[.bool br, .slice ar (digs nr).length cr] 43)))
      obtain ⟨t0, t1, t2, t3⟩ := hzz
      go_wp2
      have hzz := res2_on (W := w4) (R := w.heap.size + 1 + 1) ⟨z0, z1, z2, z3⟩ (bext (below_alloc w4 (.cells #[.bool bq, .slice aq (digs nq).length cq] 43)) (below_alloc _ (.cells #[.bool br, .slice ar (digs nr).length cr] 43)))
      refine bodyPost_ret (v := .tuple #[.agg #[.bool br, .slice ar (digs (nr)).length cr], .int .i64 0]) (tuple_res hzz (fun W g0 g1 => by simp [results, Tryd.results49, go_sem, g0, g1])) rfl ?_
      have hBB := bext (below_alloc w4 (.cells #[.bool bq, .slice aq (digs nq).length cq] 43)) (below_alloc _ (.cells #[.bool br, .slice ar (digs nr).length cr] 43))
      refine num_tuple_end rfl hzz (bext (bext HB.out hr4.out.2.2.2.2.2.2) hBB) hlt hr4.out.2.1 ?_ (hr4.out.2.2.2.2.2.1.on hBB)
      rw [hr4.out.2.2.2.1]
      exact tmod_sg b1 b2 n1 n2


def sumT (s t : List UInt8) : List UInt8 × Int := resD (fun x y => some (x + y)) s t
theorem sumT_any (s t : List UInt8) (w : World) (hs : s.length ≤ 9223372036854775807) (ht : t.length ≤ 9223372036854775807) (hT : Tab w) :
    Calls Tryd.prog 12 #[.string ⟨s.toArray⟩, .string ⟨t.toArray⟩] w (DonePost (sumT s t) w) := by
  have HD := Lib.hid (done_any (fun x y => some (x + y)) s t 28 #[] w hs ht hT (enters_of Tryd.func28 (by kernel_rfl) rfl)
    (fun w2 b1 n1 a1 c1 b2 n2 a2 c2 _ h1 h2 _ _ k1 k2 => sum1_any w2 b1 n1 a1 c1 b2 n2 a2 c2 h1 h2 k1 k2))
  clear hT
  go_enter Tryd.func12, Tryd.ntmps12
  go_wp2_with fail
  refine HD.out.mono ?_
  rintro e w2 ⟨rfl, hb2⟩
  go_wp2
  go_ret2
  exact ⟨rfl, hb2⟩

def lessT (s t : List UInt8) : List UInt8 × Int := resD (fun x y => some (x - y)) s t
theorem lessT_any (s t : List UInt8) (w : World) (hs : s.length ≤ 9223372036854775807) (ht : t.length ≤ 9223372036854775807) (hT : Tab w) :
    Calls Tryd.prog 17 #[.string ⟨s.toArray⟩, .string ⟨t.toArray⟩] w (DonePost (lessT s t) w) := by
  have HD := Lib.hid (done_any (fun x y => some (x - y)) s t 33 #[] w hs ht hT (enters_of Tryd.func33 (by kernel_rfl) rfl)
    (fun w2 b1 n1 a1 c1 b2 n2 a2 c2 _ h1 h2 _ _ k1 k2 => less1_any w2 b1 n1 a1 c1 b2 n2 a2 c2 h1 h2 k1 k2))
  clear hT
  go_enter Tryd.func17, Tryd.ntmps17
  go_wp2_with fail
  refine HD.out.mono ?_
  rintro e w2 ⟨rfl, hb2⟩
  go_wp2
  go_ret2
  exact ⟨rfl, hb2⟩

def timesT (s t : List UInt8) : List UInt8 × Int := resD (fun x y => some (x * y)) s t
theorem timesT_any (s t : List UInt8) (w : World) (hs : s.length ≤ 9223372036854775807) (ht : t.length ≤ 9223372036854775807) (hT : Tab w) :
    Calls Tryd.prog 14 #[.string ⟨s.toArray⟩, .string ⟨t.toArray⟩] w (DonePost (timesT s t) w) := by
  have HD := Lib.hid (done_any (fun x y => some (x * y)) s t 30 #[] w hs ht hT (enters_of Tryd.func30 (by kernel_rfl) rfl)
    (fun w2 b1 n1 a1 c1 b2 n2 a2 c2 _ h1 h2 _ _ k1 k2 => times1_any w2 b1 n1 a1 c1 b2 n2 a2 c2 h1 h2 k1 k2))
  clear hT
  go_enter Tryd.func14, Tryd.ntmps14
  go_wp2_with fail
  refine HD.out.mono ?_
  rintro e w2 ⟨rfl, hb2⟩
  go_wp2
  go_ret2
  exact ⟨rfl, hb2⟩

def partsT (rest : Bool) (s t : List UInt8) : List UInt8 × Int := resD (partsF rest) s t
theorem partsT_any (rest : Bool) (s t : List UInt8) (w : World) (hs : s.length ≤ 9223372036854775807) (ht : t.length ≤ 9223372036854775807) (hT : Tab w) :
    Calls Tryd.prog 32 #[.string ⟨s.toArray⟩, .string ⟨t.toArray⟩, .bool rest] w (DonePost (partsT rest s t) w) := by
  have hb := below_alloc w (.cells #[.bool rest] 4)
  have hx : (w.alloc (.cells #[.bool rest] 4)).cell? ⟨w.heap.size, 0, none⟩ = some (.bool rest) := by simp [go_sem]
  have HD := Lib.hid (done_any (partsF rest) s t 49 #[.pointer (some ⟨w.heap.size, 0, none⟩)] (w.alloc (.cells #[.bool rest] 4)) hs ht (hT.on hb) (enters_of Tryd.func49 (by kernel_rfl) rfl)
    (fun w2 b1 n1 a1 c1 b2 n2 a2 c2 hB h1 h2 _ ho k1 k2 => parts1_any rest w.heap.size w2 b1 n1 a1 c1 b2 n2 a2 c2 h1 h2 k1 k2 ho ((CK.below hB).cell hx rfl)))
  have HB := Lib.hid hb
  clear hT hx hb
  go_enter Tryd.func32, Tryd.ntmps32
  go_wp2_with fail
  refine HD.out.mono ?_
  rintro e w2 ⟨rfl, hb2⟩
  go_wp2
  go_ret2
  exact ⟨rfl, Lib.hid (bext HB.out hb2.out)⟩

def quotT (s t : List UInt8) : List UInt8 × Int := partsT false s t
theorem quotT_any (s t : List UInt8) (w : World) (hs : s.length ≤ 9223372036854775807) (ht : t.length ≤ 9223372036854775807) (hT : Tab w) :
    Calls Tryd.prog 15 #[.string ⟨s.toArray⟩, .string ⟨t.toArray⟩] w (DonePost (quotT s t) w) := by
  have HD := Lib.hid (partsT_any false s t w hs ht hT)
  clear hT
  go_enter Tryd.func15, Tryd.ntmps15
  go_wp2_with fail
  refine HD.out.mono ?_
  rintro e w2 ⟨rfl, hb2⟩
  go_wp2
  go_ret2
  exact ⟨rfl, hb2⟩

def restT (s t : List UInt8) : List UInt8 × Int := partsT true s t
theorem restT_any (s t : List UInt8) (w : World) (hs : s.length ≤ 9223372036854775807) (ht : t.length ≤ 9223372036854775807) (hT : Tab w) :
    Calls Tryd.prog 16 #[.string ⟨s.toArray⟩, .string ⟨t.toArray⟩] w (DonePost (restT s t) w) := by
  have HD := Lib.hid (partsT_any true s t w hs ht hT)
  clear hT
  go_enter Tryd.func16, Tryd.ntmps16
  go_wp2_with fail
  refine HD.out.mono ?_
  rintro e w2 ⟨rfl, hb2⟩
  go_wp2
  go_ret2
  exact ⟨rfl, hb2⟩
end Go.Proofs.YteiipiomcbohnaaDoor
