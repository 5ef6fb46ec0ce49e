/-
  tag: the document's Least, walked, of right constraints. (printed by gen_tagrw.py)
-/
import Derived.Test.YtagaoilgnhdebaaDoorTgRc
import Derived.Test.YtagaoilgnhdebaaDoorTgW
namespace Go.Proofs.YtagaoilgnhdebaaDoor
set_option linter.unusedSimpArgs false
set_option linter.unusedVariables false
open Go.RowKit

def RLeastOk (n : Nat) : Prop := ∀ (t : Xp) (a : Option Addr) (c : Nat) (w : World), rightX n t = true → Xids w Any a t.kids → Fitx t c →
  Calls Tryd.prog 19 #[.agg #[.string ⟨t.op.toArray⟩, .string ⟨t.tag.toArray⟩, .slice a t.kids.length c]] w fun e w' => e = .returned (.int .i64 (leastX n t)) ∧ Below w.heap.size w w'
theorem maxL_snoc (l : List Int) (y : Int) (h : l ≠ []) : maxL (l ++ [y]) = max (maxL l) y := by
  cases l with
  | nil => exact absurd rfl h
  | cons x l => simp [maxL]
theorem minL_snoc (l : List Int) (y : Int) (h : l ≠ []) : minL (l ++ [y]) = min (minL l) y := by
  cases l with
  | nil => exact absurd rfl h
  | cons x l => simp [minL]
theorem take_map_snoc (f : Xp → Int) {l : List Xp} {k : Nat} (hk : k < l.length) : (l.take (k + 1)).map f = (l.take k).map f ++ [f l[k]] := by
  rw [List.take_succ_eq_append_getElem hk, List.map_append]; rfl
theorem take_ne {α : Type} {l : List Xp} {k : Nat} (f : Xp → α) (hk : k < l.length) (h1 : 1 ≤ k) : (l.take k).map f ≠ [] := by
  intro e
  have := congrArg List.length e
  rw [List.length_map, List.length_take, List.length_nil] at this; omega

set_option maxHeartbeats 4000000 in
theorem rleast_leaf (s : List UInt8) (a : Option Addr) (c : Nat) (w : World) (hs : s.length ≤ 140737488351232) :
    Calls Tryd.prog 19 #[.agg #[.string ⟨#[]⟩, .string ⟨s.toArray⟩, .slice a 0 c]] w fun e w' => e = .returned (.int .i64 (verT s)) ∧ Below w.heap.size w w' := by
  obtain ⟨wa, hwa, hba, c0, c1, c2, hsz⟩ := laid3q w (.string ⟨#[]⟩) (.string ⟨s.toArray⟩) (.slice a 0 c) 24
  have HV := Lib.hid (rversion_any s wa hs)
  have HB := Lib.hid hba
  unfold RVer at HV
  clear hba
  go_enter Tryd.func19, Tryd.ntmps19
  go_wp2_with fail
  refine HV.out.mono ?_
  rintro e w1 ⟨rfl, h9⟩
  obtain rfl := h9
  go_wp2_with fail
  refine bodyPost_ret (v := .int .i64 (verT s)) (by simp [results, Tryd.results19, go_sem]) rfl ⟨rfl, HB.out⟩
set_option maxHeartbeats 4000000 in
theorem rleast_not (s : List UInt8) (n c : Nat) (a : Option Addr) (w : World) :
    Calls Tryd.prog 19 #[.agg #[.string ⟨#[33]⟩, .string ⟨s.toArray⟩, .slice a n c]] w fun e w' => e = .returned (.int .i64 (-1)) ∧ Below w.heap.size w w' := by
  go_enter Tryd.func19, Tryd.ntmps19
  go_wp2_with fail
  refine bodyPost_ret (v := .int .i64 (-1)) (by simp [results, Tryd.results19, go_sem]) rfl ⟨rfl, below_alloc _ _⟩

set_option maxRecDepth 100000 in
set_option maxHeartbeats 4000000 in
theorem rleast_both (n : Nat) (ih : RLeastOk n) (ks : List Xp) (a : Option Addr) (c : Nat) (w : World) (hk : Xids w Any a ks) (hks : ks.length ≤ 9223372036854775807) (hcap : ks.length ≤ c) (h2 : 2 ≤ ks.length) (hr : ∀ k, k ∈ ks → rightX n k = true) :
    Calls Tryd.prog 19 #[.agg #[.string ⟨#[38, 38]⟩, .string ⟨#[]⟩, .slice a ks.length c]] w fun e w' => e = .returned (.int .i64 (maxL (ks.map (leastX n)))) ∧ Below w.heap.size w w' := by
  obtain ⟨wa, hwa, hba, c0, c1, c2, hsz⟩ := laid3q w (.string ⟨#[38, 38]⟩) (.string ⟨#[]⟩) (.slice a ks.length c) 24
  have HI := Lib.hid ih
  have HK := Lib.hid hk
  have HR := Lib.hid hr
  have HB := Lib.hid hba
  obtain ⟨b, off, a', c', ha, -, ⟨e0, e1, e2⟩, hf', hn'⟩ := (hk.on hba).get (j := 0) (by omega)
  simp only [Nat.zero_mul, Nat.add_zero] at e0 e1 e2
  subst ha
  have HC0 := Lib.hid (HI.out ks[0] a' c' wa (HR.out _ (List.getElem_mem (by omega))) hn' hf')
  have hbb : b < wa.heap.size := cell_lt1 e0
  have hBl : w.heap.size < wa.heap.size := by omega
  have hl0 : (0 : Int) < (ks.length : Int) := by omega
  obtain ⟨RES, hRES⟩ : ∃ RES, maxL (ks.map (leastX n)) = RES := ⟨_, rfl⟩
  have HRES := Lib.hid hRES
  rw [hRES]
  clear ih hk hr hba hf' hn' hRES
  go_enter Tryd.func19, Tryd.ntmps19
  go_wp2_with fail
  refine HC0.out.mono ?_
  rintro e w0 ⟨rfl, hb0⟩
  obtain ⟨d0, d1, d2⟩ := three_on hb0 c0 c1 c2
  have HB0 := Lib.hid (bext HB.out hb0)
  clear hb0 c0 c1 c2 hwa e0 e1 e2 hbb hBl HC0
  go_wp2_with fail
  go_loopw [3, 4, 5] (fun v i _ wr => ∃ k : Nat, 1 ≤ k ∧ k ≤ ks.length ∧ i = .int .i64 k ∧ v = .int .i64 (maxL ((ks.take k).map (leastX n))) ∧ Below w.heap.size w wr ∧
    (wr.cell? ⟨w.heap.size, 0, none⟩ = some (.string ⟨#[38, 38]⟩) ∧ wr.cell? ⟨w.heap.size, 1, none⟩ = some (.string ⟨#[]⟩) ∧ wr.cell? ⟨w.heap.size, 2, none⟩ = some (.slice (some ⟨b, off, none⟩) ks.length c))) (fun _ i _ _ => ks.length - (intOf i).toNat)
  case atStart =>
    refine ⟨1, by omega, by omega, rfl, ?_, HB0.out, d0, d1, d2⟩
    match ks, h2 with
    | x :: y :: l, _ => simp [maxL]
  case round =>
    clear HB0 d0 d1 d2
    obtain ⟨k, hk0, hk1, rfl, rfl, hb, d0, d1, d2⟩ := hrel
    have HB := Lib.hid hb
    clear hb
    by_cases hlt : k < ks.length
    · obtain ⟨b', off', a', c', ha, -, ⟨e0, e1, e2⟩, hf', hn'⟩ := (HK.out.on HB.out).get hlt
      simp only [Option.some.injEq, Addr.mk.injEq, and_true] at ha
      obtain ⟨rfl, rfl⟩ := ha
      have hC := HI.out ks[k] a' c' wr (HR.out _ (List.getElem_mem hlt)) hn' hf'
      have hbb : b < wr.heap.size := cell_lt1 e0
      obtain ⟨X, hX⟩ : ∃ X, maxL ((ks.take k).map (leastX n)) = X := ⟨_, rfl⟩
      obtain ⟨Y, hY⟩ : ∃ Y, leastX n ks[k] = Y := ⟨_, rfl⟩
      rw [hX]
      rw [hY] at hC
      have HC := Lib.hid hC
      clear hC hf' hn'
      by_cases hc : X < Y
      · have HM := Lib.hid (show maxL ((ks.take (k + 1)).map (leastX n)) = Y by
          rw [take_map_snoc _ hlt, maxL_snoc _ _ (take_ne _ hlt hk0), hX, hY]; omega)
        clear hX hY
        go_wp2_with fail
        refine HC.out.mono ?_
        rintro e w1 ⟨rfl, hb1⟩
        obtain ⟨d0, d1, d2⟩ := three_on hb1 d0 d1 d2
        have HB1 := Lib.hid (bext HB.out hb1)
        clear hb1
        go_wp2_with fail
        go_roundw
        case rel => exact ⟨k + 1, by omega, by omega, by go_num, by rw [HM.out], HB1.out, d0, d1, d2⟩
        case measure => simp [intOf]; omega
      · have HM := Lib.hid (show maxL ((ks.take (k + 1)).map (leastX n)) = X by
          rw [take_map_snoc _ hlt, maxL_snoc _ _ (take_ne _ hlt hk0), hX, hY]; omega)
        clear hX hY
        go_wp2_with fail
        refine HC.out.mono ?_
        rintro e w1 ⟨rfl, hb1⟩
        obtain ⟨d0, d1, d2⟩ := three_on hb1 d0 d1 d2
        have HB1 := Lib.hid (bext HB.out hb1)
        clear hb1
        go_wp2_with fail
        go_roundw
        case rel => exact ⟨k + 1, by omega, by omega, by go_num, by rw [HM.out], HB1.out, d0, d1, d2⟩
        case measure => simp [intOf]; omega
    · obtain rfl : k = ks.length := by omega
      rw [List.take_length, HRES.out]
      go_wp2_with fail
      refine bodyPost_ret (v := .int .i64 RES) (by simp [results, Tryd.results19, go_sem]) rfl ⟨rfl, HB.out⟩

set_option maxRecDepth 100000 in
set_option maxHeartbeats 4000000 in
theorem rleast_one (n : Nat) (ih : RLeastOk n) (ks : List Xp) (a : Option Addr) (c : Nat) (w : World) (hk : Xids w Any a ks) (hks : ks.length ≤ 9223372036854775807) (hcap : ks.length ≤ c) (h2 : 2 ≤ ks.length) (hr : ∀ k, k ∈ ks → rightX n k = true) :
    Calls Tryd.prog 19 #[.agg #[.string ⟨#[124, 124]⟩, .string ⟨#[]⟩, .slice a ks.length c]] w fun e w' => e = .returned (.int .i64 (minL (ks.map (leastX n)))) ∧ Below w.heap.size w w' := by
  obtain ⟨wa, hwa, hba, c0, c1, c2, hsz⟩ := laid3q w (.string ⟨#[124, 124]⟩) (.string ⟨#[]⟩) (.slice a ks.length c) 24
  have HI := Lib.hid ih
  have HK := Lib.hid hk
  have HR := Lib.hid hr
  have HB := Lib.hid hba
  obtain ⟨b, off, a', c', ha, -, ⟨e0, e1, e2⟩, hf', hn'⟩ := (hk.on hba).get (j := 0) (by omega)
  simp only [Nat.zero_mul, Nat.add_zero] at e0 e1 e2
  subst ha
  have HC0 := Lib.hid (HI.out ks[0] a' c' wa (HR.out _ (List.getElem_mem (by omega))) hn' hf')
  have hbb : b < wa.heap.size := cell_lt1 e0
  have hBl : w.heap.size < wa.heap.size := by omega
  have hl0 : (0 : Int) < (ks.length : Int) := by omega
  obtain ⟨RES, hRES⟩ : ∃ RES, minL (ks.map (leastX n)) = RES := ⟨_, rfl⟩
  have HRES := Lib.hid hRES
  rw [hRES]
  clear ih hk hr hba hf' hn' hRES
  go_enter Tryd.func19, Tryd.ntmps19
  go_wp2_with fail
  refine HC0.out.mono ?_
  rintro e w0 ⟨rfl, hb0⟩
  obtain ⟨d0, d1, d2⟩ := three_on hb0 c0 c1 c2
  have HB0 := Lib.hid (bext HB.out hb0)
  clear hb0 c0 c1 c2 hwa e0 e1 e2 hbb hBl HC0
  go_wp2_with fail
  go_loopw [3, 4, 5] (fun v i _ wr => ∃ k : Nat, 1 ≤ k ∧ k ≤ ks.length ∧ i = .int .i64 k ∧ v = .int .i64 (minL ((ks.take k).map (leastX n))) ∧ Below w.heap.size w wr ∧
    (wr.cell? ⟨w.heap.size, 0, none⟩ = some (.string ⟨#[124, 124]⟩) ∧ wr.cell? ⟨w.heap.size, 1, none⟩ = some (.string ⟨#[]⟩) ∧ wr.cell? ⟨w.heap.size, 2, none⟩ = some (.slice (some ⟨b, off, none⟩) ks.length c))) (fun _ i _ _ => ks.length - (intOf i).toNat)
  case atStart =>
    refine ⟨1, by omega, by omega, rfl, ?_, HB0.out, d0, d1, d2⟩
    match ks, h2 with
    | x :: y :: l, _ => simp [minL]
  case round =>
    clear HB0 d0 d1 d2
    obtain ⟨k, hk0, hk1, rfl, rfl, hb, d0, d1, d2⟩ := hrel
    have HB := Lib.hid hb
    clear hb
    by_cases hlt : k < ks.length
    · obtain ⟨b', off', a', c', ha, -, ⟨e0, e1, e2⟩, hf', hn'⟩ := (HK.out.on HB.out).get hlt
      simp only [Option.some.injEq, Addr.mk.injEq, and_true] at ha
      obtain ⟨rfl, rfl⟩ := ha
      have hC := HI.out ks[k] a' c' wr (HR.out _ (List.getElem_mem hlt)) hn' hf'
      have hbb : b < wr.heap.size := cell_lt1 e0
      obtain ⟨X, hX⟩ : ∃ X, minL ((ks.take k).map (leastX n)) = X := ⟨_, rfl⟩
      obtain ⟨Y, hY⟩ : ∃ Y, leastX n ks[k] = Y := ⟨_, rfl⟩
      rw [hX]
      rw [hY] at hC
      have HC := Lib.hid hC
      clear hC hf' hn'
      by_cases hc : Y < X
      · have HM := Lib.hid (show minL ((ks.take (k + 1)).map (leastX n)) = Y by
          rw [take_map_snoc _ hlt, minL_snoc _ _ (take_ne _ hlt hk0), hX, hY]; omega)
        clear hX hY
        go_wp2_with fail
        refine HC.out.mono ?_
        rintro e w1 ⟨rfl, hb1⟩
        obtain ⟨d0, d1, d2⟩ := three_on hb1 d0 d1 d2
        have HB1 := Lib.hid (bext HB.out hb1)
        clear hb1
        go_wp2_with fail
        go_roundw
        case rel => exact ⟨k + 1, by omega, by omega, by go_num, by rw [HM.out], HB1.out, d0, d1, d2⟩
        case measure => simp [intOf]; omega
      · have HM := Lib.hid (show minL ((ks.take (k + 1)).map (leastX n)) = X by
          rw [take_map_snoc _ hlt, minL_snoc _ _ (take_ne _ hlt hk0), hX, hY]; omega)
        clear hX hY
        go_wp2_with fail
        refine HC.out.mono ?_
        rintro e w1 ⟨rfl, hb1⟩
        obtain ⟨d0, d1, d2⟩ := three_on hb1 d0 d1 d2
        have HB1 := Lib.hid (bext HB.out hb1)
        clear hb1
        go_wp2_with fail
        go_roundw
        case rel => exact ⟨k + 1, by omega, by omega, by go_num, by rw [HM.out], HB1.out, d0, d1, d2⟩
        case measure => simp [intOf]; omega
    · obtain rfl : k = ks.length := by omega
      rw [List.take_length, HRES.out]
      go_wp2_with fail
      refine bodyPost_ret (v := .int .i64 RES) (by simp [results, Tryd.results19, go_sem]) rfl ⟨rfl, HB.out⟩

theorem rleast_any : ∀ (n : Nat), RLeastOk n
  | 0 => fun t a c w hR => by cases hR
  | n + 1 => fun t a c w hR hk hf => by
    have ih := rleast_any n
    rcases right_cases hR with ⟨s, rfl, hs⟩ | ⟨k, rfl, hk1⟩ | ⟨l, rfl, hl, hl2⟩ | ⟨l, rfl, hl, hl2⟩
    · rw [leastX_mk, if_pos rfl]
      exact rleast_leaf s a c w hf.2.1
    · rw [leastX_mk, if_neg (by decide), if_neg (by decide), if_neg (by decide)]
      exact rleast_not [] 1 c a w
    · rw [leastX_mk, if_neg (by decide), if_pos rfl]
      exact rleast_both n ih l a c w hk (by have := hf.2.2.1; have := hf.2.2.2.1; simp at *; omega) hf.2.2.1 hl hl2
    · rw [leastX_mk, if_neg (by decide), if_neg (by decide), if_pos rfl]
      exact rleast_one n ih l a c w hk (by have := hf.2.2.1; have := hf.2.2.2.1; simp at *; omega) hf.2.2.1 hl hl2
end Go.Proofs.YtagaoilgnhdebaaDoor
