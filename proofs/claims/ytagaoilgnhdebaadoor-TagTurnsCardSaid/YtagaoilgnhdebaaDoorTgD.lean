/-
  tag.right and Right, walked.
-/
import Derived.Test.YtagaoilgnhdebaaDoorTgC
namespace Go.Proofs.YtagaoilgnhdebaaDoor
set_option linter.unusedSimpArgs false
set_option linter.unusedVariables false
open Go.RowKit

/-- What right answers at n, of any constraint, in any world. -/
def RightOk (n : Nat) : Prop := ∀ (t : Xp) (a : Option Addr) (c : Nat) (w : World), Xids w Any a t.kids → Fitx t c →
  Calls Tryd.prog 25 #[.agg #[.string ⟨t.op.toArray⟩, .string ⟨t.tag.toArray⟩, .slice a t.kids.length c], .int .i64 (n : Int)] w fun e w' => e = .returned (.bool (rightX n t)) ∧ Below w.heap.size w w'

set_option maxHeartbeats 1000000 in
theorem right1_any (m : Nat) (hm : m < 100) (ih : RightOk m) (t : Xp) (a : Option Addr) (c b : Nat) (w : World)
    (hc : w.cell? ⟨b, 0, none⟩ = some (.int .i64 ((m : Int) + 1))) (hk : Xids w Any a t.kids) (hf : Fitx t c) :
    Calls Tryd.prog 36 #[.agg #[.string ⟨t.op.toArray⟩, .string ⟨t.tag.toArray⟩, .slice a t.kids.length c], .pointer (some ⟨b, 0, none⟩)] w fun e w' => e = .returned (.bool (!(rightX m t))) ∧ Below w.heap.size w w' := by
  have hlt : b < w.heap.size := cell_lt1 hc
  have HI := Lib.hid fun wa (h1 : Xids wa Any a t.kids) => ih t a c wa h1 hf
  have HK := Lib.hid hk
  have e1 : wrap64 ((m : Int) + 1 - 1) = m := by simp [wrap64]; omega
  clear ih hk
  go_enter Tryd.func36, Tryd.ntmps36
  go_wp2_with fail
  refine (HI.out _ ?_).mono ?_
  · exact HK.out.on ((Below.refl _ _).alloc (Nat.le_refl _) _)
  rintro e w1 ⟨rfl, hb1⟩
  go_wp2_with fail
  go_ret
  exact ⟨rfl, bext ((Below.refl _ _).alloc (Nat.le_refl _) _) hb1⟩

theorem rightX_zero (t : Xp) : rightX 0 t = false := rfl
theorem right_len1 (ks : List Xp) : ((ks.length : Int) != 1) = !decide (ks.length = 1) := by
  rw [Bool.eq_iff_iff]; simp; omega
theorem right_sign {n : Nat} {o s : List UInt8} {ks : List Xp} (ho : o = [38, 38] ∨ o = [124, 124]) : rightX (n + 1) (.mk o s ks) = (decide (2 ≤ ks.length) && (s.isEmpty && ks.all (rightX n))) := by
  rcases ho with rfl | rfl <;> rfl

theorem right_len0 (ks : List Xp) : ((ks.length : Int) == 0) = ks.isEmpty := by cases ks <;> simp; omega
/-- Two new blocks: a constraint's three cells, one more cell. -/
theorem boxed_two (w : World) (x y z u : Value) (T1 T2 : TypeId) : ∃ wa, (w.alloc (.cells #[x, y, z] T1)).alloc (.cells #[u] T2) = wa ∧ Below w.heap.size w wa ∧
    wa.cell? ⟨w.heap.size, 0, none⟩ = some x ∧ wa.cell? ⟨w.heap.size, 1, none⟩ = some y ∧ wa.cell? ⟨w.heap.size, 2, none⟩ = some z ∧ wa.cell? ⟨w.heap.size + 1, 0, none⟩ = some u ∧ wa.heap.size = w.heap.size + 2 :=
  ⟨_, rfl, ((Below.refl _ _).alloc (Nat.le_refl _) _).alloc (by simp) _, by simp [go_sem], by simp [go_sem], by simp [go_sem], by simp [go_sem], by simp⟩

set_option maxHeartbeats 4000000 in
theorem right_leaf0 (s : List UInt8) (ks : List Xp) (a : Option Addr) (c : Nat) (w : World) :
    Calls Tryd.prog 25 #[.agg #[.string ⟨#[]⟩, .string ⟨s.toArray⟩, .slice a ks.length c], .int .i64 0] w fun e w' => e = .returned (.bool false) ∧ Below w.heap.size w w' := by
  go_enter Tryd.func25, Tryd.ntmps25
  go_wp2_with fail
  refine bodyPost_ret (v := .bool false) (by simp [results, Tryd.results25, go_sem]) rfl ⟨rfl, ((Below.refl _ _).alloc (Nat.le_refl _) _).alloc (by simp) _⟩

set_option maxHeartbeats 4000000 in
theorem right_leaf (m : Nat) (hm : m < 100) (s : List UInt8) (ks : List Xp) (a : Option Addr) (c : Nat) (w : World) (hs : s.length ≤ 140737488351232) (hks : ks.length ≤ 9223372036854775807) :
    Calls Tryd.prog 25 #[.agg #[.string ⟨#[]⟩, .string ⟨s.toArray⟩, .slice a ks.length c], .int .i64 ((m : Int) + 1)] w fun e w' => e = .returned (.bool (tagB s && ks.isEmpty)) ∧ Below w.heap.size w w' := by
  have HT := Lib.hid fun wa => tagged_any s wa (by omega)
  have hz := right_len0 ks
  have hp : (0 : Int) < (m : Int) + 1 := by omega
  obtain ⟨wa, hwa, hba, c0, c1, c2, c3, hsz⟩ := boxed_two w (.string ⟨#[]⟩) (.string ⟨s.toArray⟩) (.slice a ks.length c) (.int .i64 ((m : Int) + 1)) 29 3
  have HB := Lib.hid hba
  clear hba
  cases ht : tagB s with
  | true =>
    rw [ht] at HT
    clear ht
    go_enter Tryd.func25, Tryd.ntmps25
    go_wp2_with fail
    refine (HT.out _).mono ?_
    rintro e w' ⟨rfl, hb⟩
    have hb' := bext HB.out hb
    have d2 := (hb.cell (cell_lt1 c2)).trans c2
    clear hb
    go_wp2_with fail
    refine bodyPost_ret (v := .bool ks.isEmpty) (by simp [results, Tryd.results25, go_sem]) rfl ⟨rfl, hb'⟩
  | false =>
    rw [ht] at HT
    clear ht
    go_enter Tryd.func25, Tryd.ntmps25
    go_wp2_with fail
    refine (HT.out _).mono ?_
    rintro e w' ⟨rfl, hb⟩
    have hb' := bext HB.out hb
    clear hb
    go_wp2_with fail
    refine bodyPost_ret (v := .bool false) (by simp [results, Tryd.results25, go_sem]) rfl ⟨rfl, hb'⟩

/-- None of the signs. -/
def NoSign (o : List UInt8) : Prop := (o.isEmpty = false ∧ (o == [33]) = false ∧ (o == [38, 38]) = false ∧ (o == [124, 124]) = false) ∧ ¬ o = [] ∧ ¬ o = [33] ∧ ¬ o = [38, 38] ∧ ¬ o = [124, 124]
theorem sign_cases (o : List UInt8) : o = [] ∨ o = [33] ∨ (o = [38, 38] ∨ o = [124, 124]) ∨ NoSign o := by
  by_cases h1 : o = []
  · exact .inl h1
  by_cases h2 : o = [33]
  · exact .inr (.inl h2)
  by_cases h3 : o = [38, 38]
  · exact .inr (.inr (.inl (.inl h3)))
  by_cases h4 : o = [124, 124]
  · exact .inr (.inr (.inl (.inr h4)))
  exact .inr (.inr (.inr ⟨⟨by simpa using h1, by simpa using h2, by simpa using h3, by simpa using h4⟩, h1, h2, h3, h4⟩))

set_option maxHeartbeats 4000000 in
theorem right_none (l : Int) (o s : List UInt8) (ho : NoSign o) (ks : List Xp) (a : Option Addr) (c : Nat) (w : World) :
    Calls Tryd.prog 25 #[.agg #[.string ⟨o.toArray⟩, .string ⟨s.toArray⟩, .slice a ks.length c], .int .i64 l] w fun e w' => e = .returned (.bool false) ∧ Below w.heap.size w w' := by
  obtain ⟨⟨h1, h2, h3, h4⟩, g1, g2, g3, g4⟩ := ho
  go_enter Tryd.func25, Tryd.ntmps25
  go_wp2_with fail
  refine bodyPost_ret (v := .bool false) (by simp [results, Tryd.results25, go_sem]) rfl ⟨rfl, ((Below.refl _ _).alloc (Nat.le_refl _) _).alloc (by simp) _⟩
end Go.Proofs.YtagaoilgnhdebaaDoor
