/-
  demoticref06.Size, walked
  small, walked
-/
import Derived.Test.YtnmebgiiajnnjaaSameA
namespace Go.Proofs.Ytnmebgiiajnnjaa
set_option linter.unusedSimpArgs false
set_option linter.unusedVariables false
open Go.RowKit

/-- How many are in the first k kids, to a depth. -/
def kidsN (d k : Nat) (l : List Nd) : Nat := ((l.take k).flatMap (walkL d)).length
theorem kidsN_succ (d k : Nat) (l : List Nd) (h : k < l.length) : kidsN d (k + 1) l = kidsN d k l + (walkL d l[k]).length := by
  unfold kidsN
  rw [List.take_succ_eq_append_getElem h, List.flatMap_append, List.length_append]; simp

theorem wrap_add (x y z : Int) (h : z + 1 = x + y) : wrap64 (wrap64 x + wrap64 y) = wrap64 (1 + z) := by
  unfold wrap64; omega

theorem cells_on' {w w1 : World} {b : Nat} {v0 v1 v2 v3 : Value} (hb : Below w.heap.size w w1) (h0 : w.cell? ⟨b, 0, none⟩ = some v0) (h1 : w.cell? ⟨b, 1, none⟩ = some v1) (h2 : w.cell? ⟨b, 2, none⟩ = some v2) (h3 : w.cell? ⟨b, 3, none⟩ = some v3) :
    w1.cell? ⟨b, 0, none⟩ = some v0 ∧ w1.cell? ⟨b, 1, none⟩ = some v1 ∧ w1.cell? ⟨b, 2, none⟩ = some v2 ∧ w1.cell? ⟨b, 3, none⟩ = some v3 := by
  obtain ⟨hc, _⟩ := bcell hb
  have hB := cell_lt h0
  exact ⟨(hc _ _ hB).trans h0, (hc _ _ hB).trans h1, (hc _ _ hB).trans h2, (hc _ _ hB).trans h3⟩

set_option maxHeartbeats 1000000 in
theorem rsize_any : ∀ (d : Nat), d ≤ 1000 → ∀ (t : Nd) (a : Option Addr) (c : Nat) (w : World), Kids w w.heap.size a t.kids → Fits t c →
    Calls Try.prog 20 #[.agg #[.int .i64 t.kind, .string ⟨t.text.toArray⟩, .slice a t.kids.length c, .int .i64 t.pos], .int .i64 d] w fun e w' => e = .returned (.int .i64 (wrap64 (walkL d t).length)) ∧ Below w.heap.size w w'
  | 0, _, t, a, c, w, hk, hf => by
    clear hk hf
    have e : wrap64 (walkL 0 t).length = 0 := by simp [walkL, wrap64]
    have HE := Lib.hid e
    clear e
    go_enter Try.func20, Try.ntmps20
    go_wp2_with fail
    go_ret
    exact ⟨by rw [HE.out]; rfl, below_alloc _ _⟩
  | d + 1, hd, t, a, c, w, hk, hf => by
    have ih := rsize_any d (by omega)
    have HI := Lib.hid ih
    have HK := Lib.hid hk
    have HB0 := Lib.hid (below_alloc w (.cells #[.int .i64 t.kind, .string ⟨t.text.toArray⟩, .slice a t.kids.length c, .int .i64 t.pos] 24))
    have hl63 : t.kids.length ≤ 9223372036854775807 := by have := hf.2.2.2.2.2.1; have := hf.2.2.2.2.2.2.1; omega
    have hcap : t.kids.length ≤ c := hf.2.2.2.2.2.1
    have h0 : ((d : Int) + 1 == 0) = false := by simp; omega
    have hwd : IntKind.i64.wrap (d : Int) = d := by rw [IntKind.wrap_i64]; omega
    clear ih hk hf
    go_enter Try.func20, Try.ntmps20
    go_wp2_with fail
    go_loopw [5, 6] (fun s i wr => ∃ k : Nat, k ≤ t.kids.length ∧ i = .int .i64 k ∧ s = .int .i64 (wrap64 (1 + kidsN d k t.kids)) ∧ Below w.heap.size w wr ∧
      (wr.cell? ⟨w.heap.size, 0, none⟩ = some (.int .i64 t.kind) ∧ wr.cell? ⟨w.heap.size, 1, none⟩ = some (.string ⟨t.text.toArray⟩) ∧ wr.cell? ⟨w.heap.size, 2, none⟩ = some (.slice a t.kids.length c) ∧ wr.cell? ⟨w.heap.size, 3, none⟩ = some (.int .i64 t.pos))) (fun _ i _ => t.kids.length - (intOf i).toNat)
    case atStart => exact ⟨0, by omega, rfl, by simp [kidsN, wrap64], HB0.out, by simp [go_sem], by simp [go_sem], by simp [go_sem], by simp [go_sem]⟩
    case round =>
      obtain ⟨k, hk1, rfl, rfl, hb, a0, a1, a2, a3⟩ := hrel
      have HB := Lib.hid hb
      clear hb
      by_cases hlt : k < t.kids.length
      · obtain ⟨b, off, a', c', ha, hbB, ⟨h0', h1', h2', h3'⟩, hf', hn'⟩ := (HK.out.on HB.out).get hlt
        subst ha
        have HC := Lib.hid (HI.out t.kids[k] a' c' wr hn' hf')
        have hkn := kidsN_succ d k t.kids hlt
        have HKN := Lib.hid hkn
        clear hf' hn' hkn
        go_wp2_with fail
        refine HC.out.mono ?_
        rintro e w1 ⟨rfl, hb1⟩
        obtain ⟨b0, b1, b2, b3⟩ := cells_on' hb1 a0 a1 a2 a3
        have HB1 := Lib.hid (bext HB.out hb1)
        clear hb1 a0 a1 a2 a3
        go_wp2_with fail
        go_roundw
        case rel =>
          have HE := Lib.hid (wrap_add (1 + (kidsN d k t.kids : Int)) ((walkL d t.kids[k]).length : Int) (kidsN d (k + 1) t.kids : Int) (by have := HKN.out; omega))
          first
            | exact ⟨k + 1, by omega, by go_num, by rw [HE.out], HB1.out, b0, b1, b2, b3⟩
            | ((repeat apply Exists.intro); exact ⟨⟨k + 1, by omega, by go_num, by rw [HE.out], HB1.out, b0, b1, b2, b3⟩, rfl⟩)
        case measure => simp [intOf]; omega
      · obtain rfl : k = t.kids.length := by omega
        go_wp2_with fail
        go_ret
        refine ⟨?_, HB.out⟩
        simp [kidsN, walkL, Int.add_comm]
end Go.Proofs.Ytnmebgiiajnnjaa

namespace Go.Proofs.Ytnmebgiiajnnjaa
set_option linter.unusedSimpArgs false
set_option linter.unusedVariables false
open Go.RowKit

set_option maxHeartbeats 400000 in
theorem small_any (m : Int) (t : Nd) (a : Option Addr) (c : Nat) (w : World) (hk : Kids w w.heap.size a t.kids) (hf : Fits t c) :
    Calls Try.prog 9 #[.agg #[.int .i64 t.kind, .string ⟨t.text.toArray⟩, .slice a t.kids.length c, .int .i64 t.pos], .int .i64 m] w fun e w' => e = .returned (.bool (decide (wrap64 (walkL 1000 t).length ≤ m))) ∧ Below w.heap.size w w' := by
  have hb0 := below_alloc w (.cells #[.int .i64 t.kind, .string ⟨t.text.toArray⟩, .slice a t.kids.length c, .int .i64 t.pos] 24)
  have H := rsize_any 1000 (by omega) t a c _ (hk.on hb0) hf
  have HB0 := Lib.hid hb0
  have HC := Lib.hid H
  clear hb0 hk hf H
  go_enter Try.func9, Try.ntmps9
  go_wp2_with fail
  refine HC.out.mono ?_
  rintro e w1 ⟨rfl, hb1⟩
  go_wp2_with fail
  go_ret
  exact ⟨rfl, bext HB0.out hb1⟩
end Go.Proofs.Ytnmebgiiajnnjaa
