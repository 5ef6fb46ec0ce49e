/-
  tree.or and tree.list, walked.
-/
import Derived.Test.YtnmebgiiajnnjaaNodeA
namespace Go.Proofs.Ytnmebgiiajnnjaa
set_option linter.unusedSimpArgs false
set_option linter.unusedVariables false
open Go.RowKit
set_option maxHeartbeats 400000 in
theorem or1_any (t : Nd) (a : Option Addr) (c : Nat) (b1 b2 : Nat) (g1 g2 : Nat) (lb1 lb2 : Array Value) (p q : Bool) (w : World) (e1 : Enters Try.prog g1) (e2 : Enters Try.prog g2)
    (hc1 : w.cell? ⟨b1, 0, none⟩ = some (.func (.func g1) #[] lb1)) (hc2 : w.cell? ⟨b2, 0, none⟩ = some (.func (.func g2) #[] lb2)) (hk : Kids w w.heap.size a t.kids) (hf : Fits t c)
    (hs1 : SaysNd Try.prog g1 lb1 t p w) (hs2 : SaysNd Try.prog g2 lb2 t q w) :
    Calls Try.prog 71 #[.agg #[.int .i64 t.kind, .string ⟨t.text.toArray⟩, .slice a t.kids.length c, .int .i64 t.pos], .pointer (some ⟨b1, 0, none⟩), .pointer (some ⟨b2, 0, none⟩)] w fun e w' => e = .returned (.bool (p || q)) ∧ Below w.heap.size w w' := by
  have HS1 := Lib.hid hs1
  have HS2 := Lib.hid hs2
  have hb0 := below_alloc w (.cells #[.int .i64 t.kind, .string ⟨t.text.toArray⟩, .slice a t.kids.length c, .int .i64 t.pos] 24)
  have HB0 := Lib.hid hb0
  clear hs1 hs2 hb0
  unfold Enters at e1 e2
  have hlt1 : b1 < w.heap.size := cell_lt hc1
  have hlt2 : b2 < w.heap.size := cell_lt hc2
  go_enter Try.func71, Try.ntmps71
  cases p with
  | true =>
    go_wp2_with fail
    refine (HS1.out _ _ _ HB0.out (hk.on HB0.out) hf).mono ?_
    rintro e w1 ⟨rfl, hb1⟩
    go_wp2_with fail
    go_ret
    exact ⟨rfl, bext HB0.out hb1⟩
  | false =>
    go_wp2_with fail
    refine (HS1.out _ _ _ HB0.out (hk.on HB0.out) hf).mono ?_
    rintro e w1 ⟨rfl, hb1⟩
    obtain ⟨hcl, _⟩ := bcell hb1
    go_wp2_with fail
    refine (HS2.out _ _ _ (bext HB0.out hb1) (hk.on (bext HB0.out hb1)) hf).mono ?_
    rintro e w2 ⟨rfl, hb2⟩
    go_wp2_with fail
    go_ret
    exact ⟨rfl, bext (bext HB0.out hb1) hb2⟩

/-- The closure over lb says p or q of whatever both say. -/
def OrOf (P : Program) (g1 g2 : Nat) (lb1 lb2 : Array Value) (w : World) (e : Ending) (w' : World) : Prop :=
  ∃ lb, e = .returned (.func (.func 71) #[] lb) ∧ Below w.heap.size w w' ∧ ∀ t p q, SaysNd P g1 lb1 t p w → SaysNd P g2 lb2 t q w → SaysNd P 71 lb t (p || q) w'

set_option maxHeartbeats 400000 in
theorem or_any (g1 g2 : Nat) (lb1 lb2 : Array Value) (w : World) (e1 : Enters Try.prog g1) (e2 : Enters Try.prog g2) :
    Calls Try.prog 46 #[.func (.func g1) #[] lb1, .func (.func g2) #[] lb2] w (OrOf Try.prog g1 g2 lb1 lb2 w) := by
  have E1 := Lib.hid e1
  have E2 := Lib.hid e2
  clear e1 e2
  go_enter Try.func46, Try.ntmps46
  go_wp2_with fail
  go_ret
  have hb := below_alloc w (.cells #[.func (.func g1) #[] lb1] 30)
  have hb' := below_alloc (w.alloc (.cells #[.func (.func g1) #[] lb1] 30)) (.cells #[.func (.func g2) #[] lb2] 30)
  refine ⟨_, rfl, bext hb hb', fun t p q h1 h2 W a c hW hk hf => ?_⟩
  refine or1_any t a c w.heap.size (w.heap.size + 1) g1 g2 lb1 lb2 p q W E1.out E2.out ?_ ?_ hk hf ((h1.on (bext hb hb')).on hW) ((h2.on (bext hb hb')).on hW)
  · rw [hW.cell (p := ⟨w.heap.size, 0, none⟩) (by simp; omega)]; simp
  · rw [hW.cell (p := ⟨w.heap.size + 1, 0, none⟩) (by simp)]; simp

set_option maxHeartbeats 400000 in
theorem list_any (t : Nd) (a : Option Addr) (c : Nat) (g : Nat) (lb : Array Value) (p : Nd → Bool) (w : World) (eg : Enters Try.prog g)
    (hk : Kids w w.heap.size a t.kids) (hf : Fits t c) (hso : ∀ k, k ∈ t.kids → SaysNd Try.prog g lb k (p k) w) :
    Calls Try.prog 69 #[.agg #[.int .i64 t.kind, .string ⟨t.text.toArray⟩, .slice a t.kids.length c, .int .i64 t.pos], .func (.func g) #[] lb] w fun e w' => e = .returned (.bool (t.kind == 6 && (t.text.isEmpty && t.kids.all p))) ∧ Below w.heap.size w w' := by
  have hb0 := below_alloc w (.cells #[.int .i64 t.kind, .string ⟨t.text.toArray⟩, .slice a t.kids.length c, .int .i64 t.pos] 24)
  have hl : t.kids.length ≤ 9223372036854775807 := by have := hf.2.2.2.2.2.1; have := hf.2.2.2.2.2.2; omega
  have H := all_any t.kids a c g lb p _ eg hl (hk.on hb0) (fun k h => (hso k h).on hb0)
  have HB0 := Lib.hid hb0
  clear hso hb0 hk eg hf
  go_enter Try.func69, Try.ntmps69
  by_cases h1 : t.kind = 6
  · cases h2 : t.text.isEmpty with
    | true =>
      have h3 : (t.kind == 6) = true := by simp [h1]
      have h4 : t.text = [] := by simpa using h2
      have H1 := Lib.hid h1
      clear h1 h4
      go_wp2_with fail
      refine H.mono ?_
      rintro e w1 ⟨rfl, hb1⟩
      go_wp2_with fail
      go_ret
      exact ⟨ret_bool (by rw [h3]; rfl), bext HB0.out hb1⟩
    | false =>
      have h3 : (t.kind == 6) = true := by simp [h1]
      clear h1 H
      go_wp2_with fail
      go_ret
      exact ⟨ret_bool (by rw [h3]; rfl), HB0.out⟩
  · have h3 : (t.kind == 6) = false := by simp [h1]
    clear h1 H
    go_wp2_with fail
    go_ret
    exact ⟨ret_bool (by rw [h3]; rfl), HB0.out⟩
end Go.Proofs.Ytnmebgiiajnnjaa
