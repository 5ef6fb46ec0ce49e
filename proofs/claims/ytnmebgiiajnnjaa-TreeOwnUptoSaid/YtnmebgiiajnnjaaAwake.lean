/-
  awake, walked
-/
import Derived.Test.YtnmebgiiajnnjaaRefA
import Derived.Test.YtnmebgiiajnnjaaCopyD
import Derived.Test.YtnmebgiiajnnjaaRightA
import Derived.Deep.RegionHeld3
namespace Go.Proofs.Ytnmebgiiajnnjaa
set_option linter.unusedSimpArgs false
set_option linter.unusedVariables false
open Go.RowKit

def nOne : Nd := .mk 16 [49] [] 0
def nNeg : Nd := .mk 19 [45] [nOne] 0
theorem neg_right : rightB sExpr nNeg = true := by decide +kernel
theorem neg_type : rightB sType nNeg = false := by decide +kernel
theorem neg_size : wrap64 (walkL 100 nNeg).length = 2 := by decide +kernel
theorem neg_deep : deepest (walkL 101 nNeg) = 2 := by decide +kernel
theorem neg_same : sameB 100 nNeg nNeg = true := by decide +kernel

/-- The example's node lies in memory. -/
def Rdy (B : Nat) (w' : World) : Prop := Glob w' ∧ Kids w' w'.heap.size (some ⟨B, 0, none⟩) nNeg.kids ∧ (w'.cell? ⟨B + 1, 0, none⟩ = some (.int .i64 19) ∧ w'.cell? ⟨B + 1, 1, none⟩ = some (.string ⟨#[45]⟩) ∧ w'.cell? ⟨B + 1, 2, none⟩ = some (.slice (some ⟨B, 0, none⟩) 1 1) ∧ w'.cell? ⟨B + 1, 3, none⟩ = some (.int .i64 0))
theorem Rdy.on {B : Nat} {W W' : World} (h : Rdy B W) (hb : Below W.heap.size W W') : Rdy B W' := by
  obtain ⟨h1, h2, c0, c1, c2, c3⟩ := h
  exact ⟨h1.on hb, h2.on hb, cells_on hb c0 c1 c2 c3⟩
theorem neg_fits : Fits nNeg 1 := ⟨by decide, by decide, by decide, by decide, by decide, by decide, by decide, by decide⟩

theorem one_fits : Fits nOne 0 := ⟨by decide, by decide, by decide, by decide, by decide, by decide, by decide, by decide⟩

theorem aw_right (B : Nat) (W : World) (h : Rdy B W) : Calls Try.prog 19 #[(.agg #[.int .i64 19, .string ⟨#[45]⟩, .slice (some ⟨B, 0, none⟩) 1 1, .int .i64 0]), .string ⟨#[101, 120, 112, 114, 101, 115, 115, 105, 111, 110]⟩] W (fun e w' => e = .returned (.bool true) ∧ (w'.cell? ⟨B + 1, 0, none⟩ = some (.int .i64 19) ∧ w'.cell? ⟨B + 1, 1, none⟩ = some (.string ⟨#[45]⟩) ∧ w'.cell? ⟨B + 1, 2, none⟩ = some (.slice (some ⟨B, 0, none⟩) 1 1) ∧ w'.cell? ⟨B + 1, 3, none⟩ = some (.int .i64 0)) ∧ Hid (Rdy B w' ∧ Below W.heap.size W w')) :=
  (right_any sExpr (by decide) nNeg (some ⟨B, 0, none⟩) 1 W h.1 h.2.1 neg_fits).mono (fun e w' ⟨he, hb⟩ => ⟨by rw [he, neg_right], (h.on hb).2.2, Lib.hid ⟨h.on hb, hb⟩⟩)
theorem aw_type (B : Nat) (W : World) (h : Rdy B W) : Calls Try.prog 19 #[(.agg #[.int .i64 19, .string ⟨#[45]⟩, .slice (some ⟨B, 0, none⟩) 1 1, .int .i64 0]), .string ⟨#[116, 121, 112, 101]⟩] W (fun e w' => e = .returned (.bool false) ∧ (w'.cell? ⟨B + 1, 0, none⟩ = some (.int .i64 19) ∧ w'.cell? ⟨B + 1, 1, none⟩ = some (.string ⟨#[45]⟩) ∧ w'.cell? ⟨B + 1, 2, none⟩ = some (.slice (some ⟨B, 0, none⟩) 1 1) ∧ w'.cell? ⟨B + 1, 3, none⟩ = some (.int .i64 0)) ∧ Hid (Rdy B w' ∧ Below W.heap.size W w')) :=
  (right_any sType (by decide) nNeg (some ⟨B, 0, none⟩) 1 W h.1 h.2.1 neg_fits).mono (fun e w' ⟨he, hb⟩ => ⟨by rw [he, neg_type], (h.on hb).2.2, Lib.hid ⟨h.on hb, hb⟩⟩)
theorem aw_size (B : Nat) (W : World) (h : Rdy B W) : Calls Try.prog 13 #[(.agg #[.int .i64 19, .string ⟨#[45]⟩, .slice (some ⟨B, 0, none⟩) 1 1, .int .i64 0])] W (fun e w' => e = .returned (.int .i64 2) ∧ (w'.cell? ⟨B + 1, 0, none⟩ = some (.int .i64 19) ∧ w'.cell? ⟨B + 1, 1, none⟩ = some (.string ⟨#[45]⟩) ∧ w'.cell? ⟨B + 1, 2, none⟩ = some (.slice (some ⟨B, 0, none⟩) 1 1) ∧ w'.cell? ⟨B + 1, 3, none⟩ = some (.int .i64 0)) ∧ Hid (Rdy B w' ∧ Below W.heap.size W w')) :=
  (size_any nNeg (some ⟨B, 0, none⟩) 1 W h.2.1 neg_fits).mono (fun e w' ⟨he, hb⟩ => ⟨by rw [he, neg_size], (h.on hb).2.2, Lib.hid ⟨h.on hb, hb⟩⟩)
theorem aw_deep (B : Nat) (W : World) (h : Rdy B W) : Calls Try.prog 11 #[(.agg #[.int .i64 19, .string ⟨#[45]⟩, .slice (some ⟨B, 0, none⟩) 1 1, .int .i64 0])] W (fun e w' => e = .returned (.int .i64 2) ∧ (w'.cell? ⟨B + 1, 0, none⟩ = some (.int .i64 19) ∧ w'.cell? ⟨B + 1, 1, none⟩ = some (.string ⟨#[45]⟩) ∧ w'.cell? ⟨B + 1, 2, none⟩ = some (.slice (some ⟨B, 0, none⟩) 1 1) ∧ w'.cell? ⟨B + 1, 3, none⟩ = some (.int .i64 0)) ∧ Hid (Rdy B w' ∧ Below W.heap.size W w')) :=
  (depth_any nNeg (some ⟨B, 0, none⟩) 1 W h.2.1 neg_fits).mono (fun e w' ⟨he, hb⟩ => ⟨by rw [he, neg_deep], (h.on hb).2.2, Lib.hid ⟨h.on hb, hb⟩⟩)
theorem aw_copy (B : Nat) (W : World) (h : Rdy B W) : Calls Try.prog 17 #[(.agg #[.int .i64 19, .string ⟨#[45]⟩, .slice (some ⟨B, 0, none⟩) 1 1, .int .i64 0])] W
    (fun e w' => ∃ a' c', e = .returned (.agg #[.int .i64 19, .string ⟨#[45]⟩, .slice a' 1 c', .int .i64 0]) ∧ (w'.cell? ⟨B + 1, 0, none⟩ = some (.int .i64 19) ∧ w'.cell? ⟨B + 1, 1, none⟩ = some (.string ⟨#[45]⟩) ∧ w'.cell? ⟨B + 1, 2, none⟩ = some (.slice (some ⟨B, 0, none⟩) 1 1) ∧ w'.cell? ⟨B + 1, 3, none⟩ = some (.int .i64 0)) ∧ Hid (Fits nNeg c' ∧ Kids w' w'.heap.size a' nNeg.kids) ∧ Hid (Rdy B w' ∧ Below W.heap.size W w')) :=
  (copy_any (· < W.heap.size) nNeg (some ⟨B, 0, none⟩) 1 W (.inl h.2.1.toZ) (fun b hb => hb) h.2.1 neg_fits).mono (fun e w' ⟨hb, a', c', he, hf, hz⟩ =>
    ⟨a', c', he, (h.on hb).2.2, Lib.hid ⟨hf, hz.kids (fun b hb' => by have := hb.size; rcases hb' with h1 | h1; (· exact Nat.lt_of_lt_of_le h1 this); (· exact h1.hi))⟩, Lib.hid ⟨h.on hb, hb⟩⟩)
theorem aw_same (B : Nat) (a' : Option Addr) (c' : Nat) (W : World) (h : Rdy B W) (hf : Fits nNeg c') (hk : Kids W W.heap.size a' nNeg.kids) :
    Calls Try.prog 10 #[(.agg #[.int .i64 19, .string ⟨#[45]⟩, .slice (some ⟨B, 0, none⟩) 1 1, .int .i64 0]), .agg #[.int .i64 19, .string ⟨#[45]⟩, .slice a' 1 c', .int .i64 0]] W (fun e w' => e = .returned (.bool true) ∧ (w'.cell? ⟨B + 1, 0, none⟩ = some (.int .i64 19) ∧ w'.cell? ⟨B + 1, 1, none⟩ = some (.string ⟨#[45]⟩) ∧ w'.cell? ⟨B + 1, 2, none⟩ = some (.slice (some ⟨B, 0, none⟩) 1 1) ∧ w'.cell? ⟨B + 1, 3, none⟩ = some (.int .i64 0)) ∧ Hid (Rdy B w' ∧ Below W.heap.size W w')) :=
  (Same_any nNeg nNeg (some ⟨B, 0, none⟩) a' 1 c' W h.2.1 neg_fits hk hf).mono (fun e w' ⟨he, hb⟩ => ⟨by rw [he, neg_same], (h.on hb).2.2, Lib.hid ⟨h.on hb, hb⟩⟩)

set_option maxHeartbeats 4000000 in
theorem awake_any (w : World) (hg : Glob w) : Calls Try.prog 12 #[] w fun e w' => e = .returned (.bool true) ∧ Below w.heap.size w w' := by
  obtain ⟨wa, hwa⟩ : ∃ wa, ((w.alloc (.cells #[.int .i64 16, .string ⟨#[49]⟩, .slice none 0 0, .int .i64 0] 24)).alloc (.cells #[.int .i64 19, .string ⟨#[45]⟩, .slice (some ⟨w.heap.size, 0, none⟩) 1 1, .int .i64 0] 24)).drew = wa := ⟨_, rfl⟩
  have hba : Below w.heap.size w wa := by rw [← hwa]; exact (((Below.refl _ _).alloc (Nat.le_refl _) _).alloc (by simp) _).drew
  have hsz : wa.heap.size = w.heap.size + 2 := by rw [← hwa]; simp
  have hrdy : Rdy w.heap.size wa := by
    refine ⟨hg.on hba, ?_, ?_, ?_, ?_, ?_⟩
    · rw [kids_iff]
      intro j hj
      obtain rfl : j = 0 := by simp [nNeg] at hj; omega
      refine ⟨w.heap.size, 0, none, 0, rfl, by omega, ⟨?_, ?_, ?_, ?_⟩, (show Fits nOne 0 from one_fits), Kids.nil _ _ _⟩
      all_goals rw [← hwa]; simp [go_sem, nNeg, nOne]
    all_goals rw [← hwa]; simp [go_sem]
  have H1 := aw_right w.heap.size wa hrdy
  rw [← hwa] at H1 hba
  have HC := Lib.hid H1
  have HB := Lib.hid hba
  clear H1 hba hwa hrdy hg hsz
  have T1 : True := trivial
  have T2 : True := trivial
  have T3 : True := trivial
  have T4 : True := trivial
  have T5 : True := trivial
  go_enter Try.func12, Try.ntmps12
  go_wp2_with fail
  go_region_held3 (fun w' => w'.cell? ⟨w.heap.size + 1, 0, none⟩ = some (.int .i64 19) ∧ w'.cell? ⟨w.heap.size + 1, 1, none⟩ = some (.string ⟨#[45]⟩) ∧ w'.cell? ⟨w.heap.size + 1, 2, none⟩ = some (.slice (some ⟨w.heap.size, 0, none⟩) 1 1) ∧ w'.cell? ⟨w.heap.size + 1, 3, none⟩ = some (.int .i64 0)) (go_keep)
    (first
      | (go_at_call 19
         clear T1
         refine HC.out.mono ?_
         rintro e w1 ⟨rfl, ⟨x0, x1, x2, x3⟩, hr1⟩)
      | (go_at_call 19
         clear T2
         refine (aw_type w.heap.size w1 hr1.out.1).mono ?_
         rintro e w2 ⟨rfl, ⟨x0, x1, x2, x3⟩, hr2⟩)
      | (go_at_call 13
         refine (aw_size w.heap.size w2 hr2.out.1).mono ?_
         rintro e w3 ⟨rfl, ⟨x0, x1, x2, x3⟩, hr3⟩)
      | (go_at_call 11
         refine (aw_deep w.heap.size w3 hr3.out.1).mono ?_
         rintro e w4 ⟨rfl, ⟨x0, x1, x2, x3⟩, hr4⟩)
      | (go_at_call 17
         refine (aw_copy w.heap.size w4 hr4.out.1).mono ?_
         rintro e w5 ⟨a', c', rfl, ⟨x0, x1, x2, x3⟩, hk5, hr5⟩)
      | (go_at_call 10
         refine (aw_same w.heap.size a' c' w5 hr5.out.1 hk5.out.1 hk5.out.2).mono ?_
         rintro e w6 ⟨rfl, ⟨x0, x1, x2, x3⟩, hr6⟩))
  all_goals
    go_wp2_with fail
    go_ret
    exact ⟨rfl, bext (bext (bext (bext (bext (bext HB.out hr1.out.2) hr2.out.2) hr3.out.2) hr4.out.2) hr5.out.2) hr6.out.2⟩
end Go.Proofs.Ytnmebgiiajnnjaa
