/-
  tree.same, tree.Same, walked
-/
import Derived.Test.YtnmebgiiajnnjaaEqualF
namespace Go.Proofs.Ytnmebgiiajnnjaa
set_option linter.unusedSimpArgs false
set_option linter.unusedVariables false
open Go.RowKit

/-- same, to a depth. -/
def sameB : Nat → Nd → Nd → Bool
  | 0, _, _ => false
  | d + 1, x, y => x.kind == y.kind && (x.text == y.text && eqL (sameB d) x.kids y.kids)

def SameAt (d : Nat) : Prop := ∀ (x y : Nd) (a a' : Option Addr) (c c' : Nat) (w : World), Kids w w.heap.size a x.kids → Fits x c → Kids w w.heap.size a' y.kids → Fits y c' →
  Calls Try.prog 21 #[.agg #[.int .i64 x.kind, .string ⟨x.text.toArray⟩, .slice a x.kids.length c, .int .i64 x.pos], .agg #[.int .i64 y.kind, .string ⟨y.text.toArray⟩, .slice a' y.kids.length c', .int .i64 y.pos], .int .i64 d] w fun e w' => e = .returned (.bool (sameB d x y)) ∧ Below w.heap.size w w'

set_option maxHeartbeats 1000000 in
theorem same1_any (d : Nat) (hd : d ≤ 100) (h : SameAt d) (x y : Nd) (b : Nat) (w : World) (hb : b < w.heap.size) (hc : w.cell? ⟨b, 0, none⟩ = some (.int .i64 ((d : Int) + 1))) :
    EqSays Try.prog 28 #[.pointer (some ⟨b, 0, none⟩)] x y (sameB d x y) w := by
  intro W a c a' c' hW hk hf hk' hf'
  have hB := hW.size
  have hcW : W.cell? ⟨b, 0, none⟩ = some (.int .i64 ((d : Int) + 1)) := (hW.cell (p := ⟨b, 0, none⟩) hb).trans hc
  obtain ⟨wa, hwa⟩ : ∃ wa, (W.alloc (.cells #[.int .i64 x.kind, .string ⟨x.text.toArray⟩, .slice a x.kids.length c, .int .i64 x.pos] 24)).alloc (.cells #[.int .i64 y.kind, .string ⟨y.text.toArray⟩, .slice a' y.kids.length c', .int .i64 y.pos] 24) = wa := ⟨_, rfl⟩
  have hba : Below W.heap.size W wa := by rw [← hwa]; exact ((Below.refl _ _).alloc (Nat.le_refl _) _).alloc (by simp) _
  have hcall := h x y a a' c c' wa (hk.on hba) hf (hk'.on hba) hf'
  rw [← hwa] at hcall hba
  have HC := Lib.hid hcall
  have HB := Lib.hid hba
  clear hcall hba hwa hk hf hk' hf' h hc hW
  have hlt : b < W.heap.size := by omega
  show Calls Try.prog 28 #[.agg #[.int .i64 x.kind, .string ⟨x.text.toArray⟩, .slice a x.kids.length c, .int .i64 x.pos], .agg #[.int .i64 y.kind, .string ⟨y.text.toArray⟩, .slice a' y.kids.length c', .int .i64 y.pos], .pointer (some ⟨b, 0, none⟩)] W _
  go_enter Try.func28, Try.ntmps28
  go_wp2_with fail
  refine HC.out.mono ?_
  rintro e w1 ⟨rfl, hb1⟩
  go_wp2_with fail
  go_ret
  exact ⟨rfl, bext HB.out hb1⟩

set_option maxHeartbeats 2000000 in
theorem same_any : ∀ d, d ≤ 100 → SameAt d
  | 0, _ => by
    intro x y a a' c c' w hk hf hk' hf'
    clear hk hf hk' hf'
    go_enter Try.func21, Try.ntmps21
    go_wp2_with fail
    go_ret
    exact ⟨rfl, ((((Below.refl _ _).alloc (Nat.le_refl _) _).alloc (by simp) _).alloc (by simp; try omega) _)⟩
  | d + 1, hd => by
    intro x y a a' c c' w hk hf hk' hf'
    have ih := same_any d (by omega)
    obtain ⟨wa, hwa⟩ : ∃ wa, ((w.alloc (.cells #[.int .i64 x.kind, .string ⟨x.text.toArray⟩, .slice a x.kids.length c, .int .i64 x.pos] 24)).alloc (.cells #[.int .i64 y.kind, .string ⟨y.text.toArray⟩, .slice a' y.kids.length c', .int .i64 y.pos] 24)).alloc (.cells #[.int .i64 ((d : Int) + 1)] 3) = wa := ⟨_, rfl⟩
    have hba : Below w.heap.size w wa := by rw [← hwa]; exact ((((Below.refl _ _).alloc (Nat.le_refl _) _).alloc (by simp) _).alloc (by simp; try omega) _)
    have hsz : wa.heap.size = w.heap.size + 3 := by rw [← hwa]; simp
    have hc : wa.cell? ⟨w.heap.size + 1 + 1, 0, none⟩ = some (.int .i64 ((d : Int) + 1)) := by rw [← hwa]; simp [go_sem]
    have hcall := equalFunc_any x.kids y.kids a a' c c' 28 #[.pointer (some ⟨w.heap.size + 1 + 1, 0, none⟩)] (sameB d) wa (enters_of Try.func28 (by kernel_rfl) rfl)
      (by have := hf.2.2.2.2.2.1; have := hf.2.2.2.2.2.2; omega) (by have := hf'.2.2.2.2.2.1; have := hf'.2.2.2.2.2.2; omega) hf'.2.2.2.2.2.1 (hk.on hba) (hk'.on hba)
      (fun u _ v _ => same1_any d (by omega) ih u v _ wa (by omega) hc)
    rw [← hwa] at hcall hba
    have HC := Lib.hid hcall
    have HB := Lib.hid hba
    clear hcall hba hwa hk hf hk' hf' ih hc hsz
    have e0 : decide ((0 : Int) < (d : Int) + 1) = true := by simp; try omega
    go_enter Try.func21, Try.ntmps21
    cases h1 : (x.kind == y.kind) with
    | true =>
      cases h2 : (x.text == y.text) with
      | true =>
        have HE : sameB (d + 1) x y = eqL (sameB d) x.kids y.kids := by rw [sameB, h1, h2]; rfl
        have HE' := Lib.hid HE
        clear HE
        go_wp2_with fail
        refine HC.out.mono ?_
        rintro e w1 ⟨rfl, hb1⟩
        go_wp2_with fail
        go_ret
        exact ⟨ret_bool HE'.out.symm, bext HB.out hb1⟩
      | false =>
        have HE : sameB (d + 1) x y = false := by rw [sameB, h1, h2]; rfl
        have HE' := Lib.hid HE
        have h3 : ¬ x.text = y.text := by simpa using h2
        clear HE HC
        go_wp2_with fail
        go_ret
        exact ⟨ret_bool HE'.out.symm, HB.out⟩
    | false =>
      have HE : sameB (d + 1) x y = false := by rw [sameB, h1]; rfl
      have HE' := Lib.hid HE
      clear HE HC
      go_wp2_with fail
      go_ret
      exact ⟨ret_bool HE'.out.symm, HB.out⟩

set_option maxHeartbeats 1000000 in
theorem Same_any (x y : Nd) (a a' : Option Addr) (c c' : Nat) (w : World) (hk : Kids w w.heap.size a x.kids) (hf : Fits x c) (hk' : Kids w w.heap.size a' y.kids) (hf' : Fits y c') :
    Calls Try.prog 10 #[.agg #[.int .i64 x.kind, .string ⟨x.text.toArray⟩, .slice a x.kids.length c, .int .i64 x.pos], .agg #[.int .i64 y.kind, .string ⟨y.text.toArray⟩, .slice a' y.kids.length c', .int .i64 y.pos]] w fun e w' => e = .returned (.bool (sameB 100 x y)) ∧ Below w.heap.size w w' := by
  obtain ⟨wa, hwa⟩ : ∃ wa, (w.alloc (.cells #[.int .i64 x.kind, .string ⟨x.text.toArray⟩, .slice a x.kids.length c, .int .i64 x.pos] 24)).alloc (.cells #[.int .i64 y.kind, .string ⟨y.text.toArray⟩, .slice a' y.kids.length c', .int .i64 y.pos] 24) = wa := ⟨_, rfl⟩
  have hba : Below w.heap.size w wa := by rw [← hwa]; exact ((Below.refl _ _).alloc (Nat.le_refl _) _).alloc (by simp) _
  have hcall := same_any 100 (by omega) x y a a' c c' wa (hk.on hba) hf (hk'.on hba) hf'
  rw [← hwa] at hcall hba
  have HC := Lib.hid hcall
  have HB := Lib.hid hba
  clear hcall hba hwa hk hf hk' hf'
  go_enter Try.func10, Try.ntmps10
  go_wp2_with fail
  refine HC.out.mono ?_
  rintro e w1 ⟨rfl, hb1⟩
  go_wp2_with fail
  go_ret
  exact ⟨rfl, bext HB.out hb1⟩
end Go.Proofs.Ytnmebgiiajnnjaa
