/-
  sums of numbers; numbers turned.
-/
import Derived.Deep.RegionHeld3
import Derived.Test.YteiipiomcbohnaaDoorBgH
namespace Go.Proofs.YteiipiomcbohnaaDoor
set_option linter.unusedSimpArgs false
set_option linter.unusedVariables false
open Go.RowKit

section
variable {B R : Nat} {b1 b2 : Bool} {v1 v2 : Value} {W : World}
theorem bx2_on {w' : World} (h : (W.cell? ⟨B, 0, none⟩ = some (.bool b1) ∧ W.cell? ⟨B, 1, none⟩ = some (v1) ∧ W.cell? ⟨B + 1, 0, none⟩ = some (.bool b2) ∧ W.cell? ⟨B + 1, 1, none⟩ = some (v2))) (hb : Below W.heap.size W w') : (w'.cell? ⟨B, 0, none⟩ = some (.bool b1) ∧ w'.cell? ⟨B, 1, none⟩ = some (v1) ∧ w'.cell? ⟨B + 1, 0, none⟩ = some (.bool b2) ∧ w'.cell? ⟨B + 1, 1, none⟩ = some (v2)) := by
  obtain ⟨hc, _⟩ := bcell hb
  exact ⟨(hc _ _ (cell_lt h.1)).trans h.1, (hc _ _ (cell_lt h.2.1)).trans h.2.1, (hc _ _ (cell_lt h.2.2.1)).trans h.2.2.1, (hc _ _ (cell_lt h.2.2.2)).trans h.2.2.2⟩
theorem res2_on {w' : World} (h : (W.cell? ⟨R, 0, none⟩ = some (.bool false) ∧ W.cell? ⟨R, 1, none⟩ = some (.slice none 0 0) ∧ W.frozen? ⟨R, 0, none⟩ = false ∧ W.frozen? ⟨R, 1, none⟩ = false)) (hb : Below W.heap.size W w') : (w'.cell? ⟨R, 0, none⟩ = some (.bool false) ∧ w'.cell? ⟨R, 1, none⟩ = some (.slice none 0 0) ∧ w'.frozen? ⟨R, 0, none⟩ = false ∧ w'.frozen? ⟨R, 1, none⟩ = false) := by
  obtain ⟨hc, hf⟩ := bcell hb
  exact ⟨(hc _ _ (cell_lt h.1)).trans h.1, (hc _ _ (cell_lt h.2.1)).trans h.2.1, (hf _ _ (cell_lt h.1)).trans h.2.2.1, (hf _ _ (cell_lt h.1)).trans h.2.2.2⟩
theorem against_bx (n m : Nat) (a1 a2 : Option Addr) (c1 c2 : Nat) (h1 : Row W a1 c1 (digs n)) (h2 : Row W a2 c2 (digs m)) {q : Int} (hq : cmpI n m = q) (h : (W.cell? ⟨B, 0, none⟩ = some (.bool b1) ∧ W.cell? ⟨B, 1, none⟩ = some (v1) ∧ W.cell? ⟨B + 1, 0, none⟩ = some (.bool b2) ∧ W.cell? ⟨B + 1, 1, none⟩ = some (v2))) (hz : (W.cell? ⟨R, 0, none⟩ = some (.bool false) ∧ W.cell? ⟨R, 1, none⟩ = some (.slice none 0 0) ∧ W.frozen? ⟨R, 0, none⟩ = false ∧ W.frozen? ⟨R, 1, none⟩ = false)) :
    Calls Tryd.prog 44 #[.slice a1 (digs n).length c1, .slice a2 (digs m).length c2] W fun e w' => e = .returned (.int .i64 q) ∧ (w'.cell? ⟨B, 0, none⟩ = some (.bool b1) ∧ w'.cell? ⟨B, 1, none⟩ = some (v1) ∧ w'.cell? ⟨B + 1, 0, none⟩ = some (.bool b2) ∧ w'.cell? ⟨B + 1, 1, none⟩ = some (v2)) ∧ (w'.cell? ⟨R, 0, none⟩ = some (.bool false) ∧ w'.cell? ⟨R, 1, none⟩ = some (.slice none 0 0) ∧ w'.frozen? ⟨R, 0, none⟩ = false ∧ w'.frozen? ⟨R, 1, none⟩ = false) ∧ Hid (Below W.heap.size W w') :=
  (against_any n m a1 a2 c1 c2 W h1 h2).mono fun e w' ⟨he, hb⟩ => ⟨by rw [he, hq], bx2_on h hb, res2_on hz hb, Lib.hid hb⟩
theorem added_bx (la lb : List Int) (a1 a2 : Option Addr) (c1 c2 : Nat) (h1 : Row W a1 c1 la) (h2 : Row W a2 c2 lb) (d1 : Dg la) (d2 : Dg lb) (m1 : la.length ≤ 1000) (m2 : lb.length ≤ 1000) (h : (W.cell? ⟨B, 0, none⟩ = some (.bool b1) ∧ W.cell? ⟨B, 1, none⟩ = some (v1) ∧ W.cell? ⟨B + 1, 0, none⟩ = some (.bool b2) ∧ W.cell? ⟨B + 1, 1, none⟩ = some (v2))) (hz : (W.cell? ⟨R, 0, none⟩ = some (.bool false) ∧ W.cell? ⟨R, 1, none⟩ = some (.slice none 0 0) ∧ W.frozen? ⟨R, 0, none⟩ = false ∧ W.frozen? ⟨R, 1, none⟩ = false)) :
    Calls Tryd.prog 46 #[.slice a1 la.length c1, .slice a2 lb.length c2] W fun e w' => ∃ (l : List Int) (a : Option Addr) (c : Nat), e = .returned (.slice a l.length c) ∧ (w'.cell? ⟨B, 0, none⟩ = some (.bool b1) ∧ w'.cell? ⟨B, 1, none⟩ = some (v1) ∧ w'.cell? ⟨B + 1, 0, none⟩ = some (.bool b2) ∧ w'.cell? ⟨B + 1, 1, none⟩ = some (v2)) ∧ (w'.cell? ⟨R, 0, none⟩ = some (.bool false) ∧ w'.cell? ⟨R, 1, none⟩ = some (.slice none 0 0) ∧ w'.frozen? ⟨R, 0, none⟩ = false ∧ w'.frozen? ⟨R, 1, none⟩ = false) ∧
      Hid (Dg l ∧ val l = val la + val lb ∧ l.length = max la.length lb.length + 1 ∧ Row w' a c l ∧ Below W.heap.size W w') :=
  (added_any la lb a1 a2 c1 c2 W h1 h2 d1 d2 m1 m2).mono fun e w' ⟨l, a, c, he, hh⟩ => ⟨l, a, c, he, bx2_on h hh.out.2.2.2.2, res2_on hz hh.out.2.2.2.2, hh⟩
theorem taken_bx (la lb : List Int) (a1 a2 : Option Addr) (c1 c2 : Nat) (h1 : Row W a1 c1 la) (h2 : Row W a2 c2 lb) (d1 : Dg la) (d2 : Dg lb) (m1 : la.length ≤ 1000) (hl : lb.length ≤ la.length) (hv : val lb ≤ val la) (h : (W.cell? ⟨B, 0, none⟩ = some (.bool b1) ∧ W.cell? ⟨B, 1, none⟩ = some (v1) ∧ W.cell? ⟨B + 1, 0, none⟩ = some (.bool b2) ∧ W.cell? ⟨B + 1, 1, none⟩ = some (v2))) (hz : (W.cell? ⟨R, 0, none⟩ = some (.bool false) ∧ W.cell? ⟨R, 1, none⟩ = some (.slice none 0 0) ∧ W.frozen? ⟨R, 0, none⟩ = false ∧ W.frozen? ⟨R, 1, none⟩ = false)) :
    Calls Tryd.prog 47 #[.slice a1 la.length c1, .slice a2 lb.length c2] W fun e w' => ∃ (l : List Int) (a : Option Addr) (c : Nat), e = .returned (.slice a l.length c) ∧ (w'.cell? ⟨B, 0, none⟩ = some (.bool b1) ∧ w'.cell? ⟨B, 1, none⟩ = some (v1) ∧ w'.cell? ⟨B + 1, 0, none⟩ = some (.bool b2) ∧ w'.cell? ⟨B + 1, 1, none⟩ = some (v2)) ∧ (w'.cell? ⟨R, 0, none⟩ = some (.bool false) ∧ w'.cell? ⟨R, 1, none⟩ = some (.slice none 0 0) ∧ w'.frozen? ⟨R, 0, none⟩ = false ∧ w'.frozen? ⟨R, 1, none⟩ = false) ∧
      Hid (Dg l ∧ val l = val la - val lb ∧ l.length = la.length ∧ Row w' a c l ∧ Below W.heap.size W w') :=
  (taken_any la lb a1 a2 c1 c2 W h1 h2 d1 d2 m1 hl hv).mono fun e w' ⟨l, a, c, he, hh⟩ => ⟨l, a, c, he, bx2_on h hh.out.2.2.2.2, res2_on hz hh.out.2.2.2.2, hh⟩
theorem trimmed_bx (b : Bool) (l : List Int) (a : Option Addr) (c : Nat) (hr : Row W a c l) (hd : Dg l) (h : (W.cell? ⟨B, 0, none⟩ = some (.bool b1) ∧ W.cell? ⟨B, 1, none⟩ = some (v1) ∧ W.cell? ⟨B + 1, 0, none⟩ = some (.bool b2) ∧ W.cell? ⟨B + 1, 1, none⟩ = some (v2))) (hz : (W.cell? ⟨R, 0, none⟩ = some (.bool false) ∧ W.cell? ⟨R, 1, none⟩ = some (.slice none 0 0) ∧ W.frozen? ⟨R, 0, none⟩ = false ∧ W.frozen? ⟨R, 1, none⟩ = false)) :
    Calls Tryd.prog 45 #[.agg #[.bool b, .slice a l.length c]] W fun e w' => ∃ (b' : Bool) (n : Nat) (a' : Option Addr) (c' : Nat), e = .returned (.agg #[.bool b', .slice a' (digs (n)).length c']) ∧ (w'.cell? ⟨B, 0, none⟩ = some (.bool b1) ∧ w'.cell? ⟨B, 1, none⟩ = some (v1) ∧ w'.cell? ⟨B + 1, 0, none⟩ = some (.bool b2) ∧ w'.cell? ⟨B + 1, 1, none⟩ = some (v2)) ∧ (w'.cell? ⟨R, 0, none⟩ = some (.bool false) ∧ w'.cell? ⟨R, 1, none⟩ = some (.slice none 0 0) ∧ w'.frozen? ⟨R, 0, none⟩ = false ∧ w'.frozen? ⟨R, 1, none⟩ = false) ∧
      Hid (Ok b' n ∧ sg b' n = sg b (val l) ∧ Row w' a' c' (digs n) ∧ Below W.heap.size W w') :=
  (trimmed_any b l a c W hr hd).mono fun e w' ⟨b', n, a', c', he, hh⟩ => ⟨b', n, a', c', he, bx2_on h hh.out.2.2.2, res2_on hz hh.out.2.2.2, hh⟩
end

theorem Row.set {w : World} {a : Option Addr} {c : Nat} {l : List Int} (h : Row w a c l) {p : Addr} {v : Value} (hp : w.cell? p = some v) (hv : ∀ i, v ≠ .int .i64 i) (u : Value) : Row (w.setCell p u) a c l :=
  ⟨h.cap, h.reach, fun j hj => by
    obtain ⟨b, off, e, hc⟩ := h.cells j hj
    refine ⟨b, off, e, ?_⟩
    rw [World.cell?_setCell_other]
    · exact hc
    · rintro rfl
      rw [hc] at hp
      exact hv _ (Option.some.inj hp).symm⟩
theorem num_end {w w6 : World} {R : Nat} {b : Bool} {n : Nat} {a : Option Addr} {c : Nat} {z : Int} (hz : (w6.cell? ⟨R, 0, none⟩ = some (.bool false) ∧ w6.cell? ⟨R, 1, none⟩ = some (.slice none 0 0) ∧ w6.frozen? ⟨R, 0, none⟩ = false ∧ w6.frozen? ⟨R, 1, none⟩ = false)) (hb : Below w.heap.size w w6) (hR : w.heap.size ≤ R) (h : Ok b n) (hs : sg b n = z) (hr : Row w6 a c (digs n)) :
    NumPost z w (.returned (.agg #[.bool b, .slice a (digs (n)).length c])) ((w6.setCell ⟨R, 0, none⟩ (.bool b)).setCell ⟨R, 1, none⟩ (.slice a (digs n).length c)) := by
  refine ⟨b, n, a, c, rfl, Lib.hid ⟨h, hs, ?_, (hb.setCell (p := ⟨R, 0, none⟩) hR _).setCell (p := ⟨R, 1, none⟩) hR _⟩⟩
  refine (hr.set hz.1 (fun i e => by cases e) _).set (v := .slice none 0 0) ?_ (fun i e => by cases e) _
  simp [go_sem, hz.2.1]
theorem num_res {w6 : World} {R : Nat} {fn : Func} {tmps : Array Value} {b : Bool} {s : Value} (hz : (w6.cell? ⟨R, 0, none⟩ = some (.bool false) ∧ w6.cell? ⟨R, 1, none⟩ = some (.slice none 0 0) ∧ w6.frozen? ⟨R, 0, none⟩ = false ∧ w6.frozen? ⟨R, 1, none⟩ = false)) (h : ∀ W, W.cell? ⟨R, 0, none⟩ = some (.bool b) → W.cell? ⟨R, 1, none⟩ = some s → (results fn tmps).run Tryd.prog W = .ok (.agg #[.bool b, s]) W) :
    (results fn tmps).run Tryd.prog ((w6.setCell ⟨R, 0, none⟩ (.bool b)).setCell ⟨R, 1, none⟩ s) = .ok (.agg #[.bool b, s]) ((w6.setCell ⟨R, 0, none⟩ (.bool b)).setCell ⟨R, 1, none⟩ s) := by
  have hq := res_cells (.bool b) s hz.1 hz.2.1
  exact h _ hq.1 hq.2
theorem sg_add (b : Bool) (x y : Int) : sg b (x + y) = sg b x + sg b y := by unfold sg; cases b <;> simp; omega
theorem sg_sub {b b' : Bool} (h : ¬ b = b') (x y : Int) : sg b (x - y) = sg b x + sg b' y := by unfold sg; cases b <;> cases b' <;> simp at h ⊢ <;> omega
theorem cmp_ge {n m : Nat} (h : 0 ≤ cmpI n m) : m ≤ n := by unfold cmpI at h; split at h <;> omega
theorem cmp_lt {n m : Nat} (h : cmpI n m < 0) : n ≤ m := by unfold cmpI at h; split at h <;> (try split at h) <;> omega

set_option maxRecDepth 100000 in
set_option maxHeartbeats 4000000 in
theorem sum_any (b1 b2 : Bool) (n m : Nat) (a1 a2 : Option Addr) (c1 c2 : Nat) (w : World) (h1 : Row w a1 c1 (digs n)) (h2 : Row w a2 c2 (digs m)) (m1 : (digs n).length ≤ 1000) (m2 : (digs m).length ≤ 1000) :
    Calls Tryd.prog 29 #[.agg #[.bool b1, .slice a1 (digs (n)).length c1], .agg #[.bool b2, .slice a2 (digs (m)).length c2]] w (NumPost (sg b1 n + sg b2 m) w) := by
  obtain ⟨W3, hW3⟩ : ∃ W3, (((w.alloc (.cells #[.bool b1, .slice a1 (digs n).length c1] 43)).alloc (.cells #[.bool b2, .slice a2 (digs m).length c2] 43)).alloc (.cells #[.bool false, .slice none 0 0] 43)) = W3 := ⟨_, rfl⟩
  have hb3 : Below w.heap.size w W3 := by rw [← hW3]; exact (((Below.refl _ w).alloc (Nat.le_refl _) _).alloc (by simp) _).alloc (by simp; omega) _
  have hx : (W3.cell? ⟨w.heap.size, 0, none⟩ = some (.bool b1) ∧ W3.cell? ⟨w.heap.size, 1, none⟩ = some (.slice a1 (digs n).length c1) ∧ W3.cell? ⟨w.heap.size + 1, 0, none⟩ = some (.bool b2) ∧ W3.cell? ⟨w.heap.size + 1, 1, none⟩ = some (.slice a2 (digs m).length c2)) := by
    rw [← hW3]; refine ⟨?_, ?_, ?_, ?_⟩ <;> simp [go_sem]
  have hr0 : W3.cell? ⟨w.heap.size + 1 + 1, 0, none⟩ = some (.bool false) := by rw [← hW3]; simp [go_sem]
  have hr1 : W3.cell? ⟨w.heap.size + 1 + 1, 1, none⟩ = some (.slice none 0 0) := by rw [← hW3]; simp [go_sem]
  have hf0 : W3.frozen? ⟨w.heap.size + 1 + 1, 0, none⟩ = false := by rw [← hW3]; simp [go_sem]
  have hf1 : W3.frozen? ⟨w.heap.size + 1 + 1, 1, none⟩ = false := by rw [← hW3]; simp [go_sem]
  obtain ⟨q, hq⟩ : ∃ q, cmpI n m = q := ⟨_, rfl⟩
  have HC := Lib.hid (against_bx n m a1 a2 c1 c2 (h1.on hb3) (h2.on hb3) hq hx ⟨hr0, hr1, hf0, hf1⟩)
  have H1 := Lib.hid (h1.on hb3)
  have H2 := Lib.hid (h2.on hb3)
  have HB := Lib.hid hb3
  have HQ := Lib.hid hq
  have HF := Lib.hid (show _ ∧ _ ∧ _ ∧ _ from ⟨hr0, hr1, hf0, hf1⟩)
  have HW3 := Lib.hid hW3
  clear h1 h2 hb3 hx hr0 hr1 hf0 hf1 hq hW3
  go_enter Tryd.func29, Tryd.ntmps29
  by_cases hbb : b1 = b2
  · subst hbb
    go_wp2_with fail
    rw [HW3.out]
    refine HC.out.mono ?_
    rintro e w4 ⟨rfl, ⟨x0, x1, x2, x3⟩, ⟨z0, z1, z2, z3⟩, hr4⟩
    have HB4 := Lib.hid (bext HB.out hr4.out)
    have HA := Lib.hid (added_bx (B := w.heap.size) (b1 := b1) (b2 := b1) (v1 := .slice a1 (digs n).length c1) (v2 := .slice a2 (digs m).length c2) (digs n) (digs m) a1 a2 c1 c2 ((H1.out.on hr4.out).on (Below.refl _ _).drew) ((H2.out.on hr4.out).on (Below.refl _ _).drew) (digs_dg n) (digs_dg m) m1 m2 ⟨x0, x1, x2, x3⟩ ⟨z0, z1, z2, z3⟩)
    have k1 : w.heap.size + 1 + 1 < W3.heap.size := cell_lt HF.out.1
    have k2 : W3.heap.size ≤ w4.heap.size := hr4.out.size
    have hne : ¬ w.heap.size = w.heap.size + 1 + 1 := by omega
    have hne' : ¬ w.heap.size + 1 + 1 = w.heap.size := by omega
    clear hr4 HW3 HC
    go_wp2_with fail
    go_region_held3 (fun w' => (w'.cell? ⟨w.heap.size, 0, none⟩ = some (.bool b1) ∧ w'.cell? ⟨w.heap.size, 1, none⟩ = some (.slice a1 (digs n).length c1) ∧ w'.cell? ⟨w.heap.size + 1, 0, none⟩ = some (.bool b1) ∧ w'.cell? ⟨w.heap.size + 1, 1, none⟩ = some (.slice a2 (digs m).length c2))) (go_keep)
      (first
        | (go_at_call 46
           refine HA.out.mono ?_
           rintro e w5 ⟨l, a, c, rfl, ⟨x0, x1, x2, x3⟩, ⟨z0, z1, z2, z3⟩, hr5⟩)
        | (go_at_call 45
           refine (trimmed_bx b1 l a c hr5.out.2.2.2.1 hr5.out.1 ⟨x0, x1, x2, x3⟩ ⟨z0, z1, z2, z3⟩).mono ?_
           rintro e w6 ⟨b', n', a', c', rfl, ⟨x0, x1, x2, x3⟩, ⟨z0, z1, z2, z3⟩, hr6⟩))
    go_wp2
    refine bodyPost_ret (v := .agg #[.bool b', .slice a' (digs (n')).length c']) (num_res ⟨z0, z1, z2, z3⟩ (fun W g0 g1 => by simp [results, Tryd.results29, go_sem, g0, g1])) rfl ?_
    refine num_end ⟨z0, z1, z2, z3⟩ (bext (bext (bext HB4.out (Below.refl _ w4).drew) hr5.out.2.2.2.2) hr6.out.2.2.2) (by omega) hr6.out.1 ?_ hr6.out.2.2.1
    rw [hr6.out.2.1, hr5.out.2.1, val_digs, val_digs]
    exact sg_add _ _ _
  · have hbe : (b1 == b2) = false := by simp [hbb]
    have HBB := Lib.hid hbb
    clear hbb
    by_cases hq0 : 0 ≤ q
    · have HN := Lib.hid (cmp_ge (HQ.out.symm ▸ hq0))
      go_wp2_with fail
      rw [HW3.out]
      refine HC.out.mono ?_
      rintro e w4 ⟨rfl, ⟨x0, x1, x2, x3⟩, ⟨z0, z1, z2, z3⟩, hr4⟩
      have HB4 := Lib.hid (bext HB.out hr4.out)
      have HA := Lib.hid (taken_bx (B := w.heap.size) (b1 := b1) (b2 := b2) (v1 := .slice a1 (digs n).length c1) (v2 := .slice a2 (digs m).length c2) (digs n) (digs m) a1 a2 c1 c2 ((H1.out.on hr4.out).on (Below.refl _ _).drew) ((H2.out.on hr4.out).on (Below.refl _ _).drew) (digs_dg n) (digs_dg m) m1 (digs_len_mono HN.out) (by rw [val_digs, val_digs]; exact Int.ofNat_le.2 HN.out) ⟨x0, x1, x2, x3⟩ ⟨z0, z1, z2, z3⟩)
      have k1 : w.heap.size + 1 + 1 < W3.heap.size := cell_lt HF.out.1
      have k2 : W3.heap.size ≤ w4.heap.size := hr4.out.size
      have hne : ¬ w.heap.size = w.heap.size + 1 + 1 := by omega
      have hne' : ¬ w.heap.size + 1 + 1 = w.heap.size := by omega
      clear hr4 HW3 HC
      go_wp2_with fail
      go_region_held3 (fun w' => (w'.cell? ⟨w.heap.size, 0, none⟩ = some (.bool b1) ∧ w'.cell? ⟨w.heap.size, 1, none⟩ = some (.slice a1 (digs n).length c1) ∧ w'.cell? ⟨w.heap.size + 1, 0, none⟩ = some (.bool b2) ∧ w'.cell? ⟨w.heap.size + 1, 1, none⟩ = some (.slice a2 (digs m).length c2))) (go_keep)
        (first
          | (go_at_call 47
             refine HA.out.mono ?_
             rintro e w5 ⟨l, a, c, rfl, ⟨x0, x1, x2, x3⟩, ⟨z0, z1, z2, z3⟩, hr5⟩)
          | (go_at_call 45
             refine (trimmed_bx b1 l a c hr5.out.2.2.2.1 hr5.out.1 ⟨x0, x1, x2, x3⟩ ⟨z0, z1, z2, z3⟩).mono ?_
             rintro e w6 ⟨b', n', a', c', rfl, ⟨x0, x1, x2, x3⟩, ⟨z0, z1, z2, z3⟩, hr6⟩))
      go_wp2
      refine bodyPost_ret (v := .agg #[.bool b', .slice a' (digs (n')).length c']) (num_res ⟨z0, z1, z2, z3⟩ (fun W g0 g1 => by simp [results, Tryd.results29, go_sem, g0, g1])) rfl ?_
      refine num_end ⟨z0, z1, z2, z3⟩ (bext (bext (bext HB4.out (Below.refl _ w4).drew) hr5.out.2.2.2.2) hr6.out.2.2.2) (by omega) hr6.out.1 ?_ hr6.out.2.2.1
      rw [hr6.out.2.1, hr5.out.2.1, val_digs, val_digs]
      exact sg_sub HBB.out _ _
    · have hq1 : q < 0 := by omega
      have HN := Lib.hid (cmp_lt (HQ.out.symm ▸ hq1))
      go_wp2_with fail
      rw [HW3.out]
      refine HC.out.mono ?_
      rintro e w4 ⟨rfl, ⟨x0, x1, x2, x3⟩, ⟨z0, z1, z2, z3⟩, hr4⟩
      have HB4 := Lib.hid (bext HB.out hr4.out)
      have HA := Lib.hid (taken_bx (B := w.heap.size) (b1 := b1) (b2 := b2) (v1 := .slice a1 (digs n).length c1) (v2 := .slice a2 (digs m).length c2) (digs m) (digs n) a2 a1 c2 c1 ((H2.out.on hr4.out).on (Below.refl _ _).drew) ((H1.out.on hr4.out).on (Below.refl _ _).drew) (digs_dg m) (digs_dg n) m2 (digs_len_mono HN.out) (by rw [val_digs, val_digs]; exact Int.ofNat_le.2 HN.out) ⟨x0, x1, x2, x3⟩ ⟨z0, z1, z2, z3⟩)
      have k1 : w.heap.size + 1 + 1 < W3.heap.size := cell_lt HF.out.1
      have k2 : W3.heap.size ≤ w4.heap.size := hr4.out.size
      have hne : ¬ w.heap.size = w.heap.size + 1 + 1 := by omega
      have hne' : ¬ w.heap.size + 1 + 1 = w.heap.size := by omega
      clear hr4 HW3 HC
      go_wp2_with fail
      go_region_held3 (fun w' => (w'.cell? ⟨w.heap.size, 0, none⟩ = some (.bool b1) ∧ w'.cell? ⟨w.heap.size, 1, none⟩ = some (.slice a1 (digs n).length c1) ∧ w'.cell? ⟨w.heap.size + 1, 0, none⟩ = some (.bool b2) ∧ w'.cell? ⟨w.heap.size + 1, 1, none⟩ = some (.slice a2 (digs m).length c2))) (go_keep)
        (first
          | (go_at_call 47
             refine HA.out.mono ?_
             rintro e w5 ⟨l, a, c, rfl, ⟨x0, x1, x2, x3⟩, ⟨z0, z1, z2, z3⟩, hr5⟩)
          | (go_at_call 45
             refine (trimmed_bx b2 l a c hr5.out.2.2.2.1 hr5.out.1 ⟨x0, x1, x2, x3⟩ ⟨z0, z1, z2, z3⟩).mono ?_
             rintro e w6 ⟨b', n', a', c', rfl, ⟨x0, x1, x2, x3⟩, ⟨z0, z1, z2, z3⟩, hr6⟩))
      go_wp2
      refine bodyPost_ret (v := .agg #[.bool b', .slice a' (digs (n')).length c']) (num_res ⟨z0, z1, z2, z3⟩ (fun W g0 g1 => by simp [results, Tryd.results29, go_sem, g0, g1])) rfl ?_
      refine num_end ⟨z0, z1, z2, z3⟩ (bext (bext (bext HB4.out (Below.refl _ w4).drew) hr5.out.2.2.2.2) hr6.out.2.2.2) (by omega) hr6.out.1 ?_ hr6.out.2.2.1
      rw [hr6.out.2.1, hr5.out.2.1, val_digs, val_digs]
      rw [sg_sub (fun h => HBB.out h.symm), Int.add_comm]

set_option maxRecDepth 100000 in
set_option maxHeartbeats 1000000 in
theorem turned_any (b : Bool) (n : Nat) (a1 : Option Addr) (c1 : Nat) (w : World) (h1 : Row w a1 c1 (digs n)) :
    Calls Tryd.prog 34 #[.agg #[.bool b, .slice a1 (digs (n)).length c1]] w (NumPost (- sg b n) w) := by
  obtain ⟨W3, hW3⟩ : ∃ W3, ((w.alloc (.cells #[.bool b, .slice a1 (digs n).length c1] 43)).alloc (.cells #[.bool false, .slice none 0 0] 43)) = W3 := ⟨_, rfl⟩
  have hb3 : Below w.heap.size w W3 := by rw [← hW3]; exact ((Below.refl _ w).alloc (Nat.le_refl _) _).alloc (by simp) _
  have hz : (W3.cell? ⟨w.heap.size + 1, 0, none⟩ = some (.bool false) ∧ W3.cell? ⟨w.heap.size + 1, 1, none⟩ = some (.slice none 0 0) ∧ W3.frozen? ⟨w.heap.size + 1, 0, none⟩ = false ∧ W3.frozen? ⟨w.heap.size + 1, 1, none⟩ = false) := by rw [← hW3]; refine ⟨?_, ?_, ?_, ?_⟩ <;> simp [go_sem]
  have HC := Lib.hid (trimmed_any (!b) (digs n) a1 c1 W3 (h1.on hb3) (digs_dg n))
  have HB := Lib.hid hb3
  have HZ := Lib.hid hz
  have HW3 := Lib.hid hW3
  clear h1 hb3 hW3 hz
  go_enter Tryd.func34, Tryd.ntmps34
  go_wp2_with fail
  rw [HW3.out]
  refine HC.out.mono ?_
  rintro e w4 ⟨b', n', a', c', rfl, hr4⟩
  have hz4 := res2_on HZ.out hr4.out.2.2.2
  obtain ⟨z0, z1, z2, z3⟩ := hz4
  go_wp2
  refine bodyPost_ret (v := .agg #[.bool b', .slice a' (digs (n')).length c']) (num_res ⟨z0, z1, z2, z3⟩ (fun W g0 g1 => by simp [results, Tryd.results34, go_sem, g0, g1])) rfl ?_
  refine num_end ⟨z0, z1, z2, z3⟩ (bext HB.out hr4.out.2.2.2) (by omega) hr4.out.1 ?_ hr4.out.2.2.1
  rw [hr4.out.2.1, val_digs]
  unfold sg
  cases b <;> simp
end Go.Proofs.YteiipiomcbohnaaDoor
