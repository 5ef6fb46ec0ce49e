/-
  tag: the law's size, denies, same: walked.
-/
import Derived.Test.YtagaoilgnhdebaaDoorTgG
namespace Go.Proofs.YtagaoilgnhdebaaDoor
set_option linter.unusedSimpArgs false
set_option linter.unusedVariables false
open Go.RowKit

mutual
def sizeX : Xp → Nat
  | .mk _ _ l => 1 + sizesX l
def sizesX : List Xp → Nat
  | [] => 0
  | x :: l => sizeX x + sizesX l
end
mutual
/-- Letters and parts, all told. -/
def bulkX : Xp → Nat
  | .mk o s l => 4 + o.length + s.length + bulksX l
def bulksX : List Xp → Nat
  | [] => 0
  | x :: l => bulkX x + bulksX l
end
mutual
def deniesX : Xp → Bool
  | .mk o _ l => decide (o = [33]) || deniesL l
def deniesL : List Xp → Bool
  | [] => false
  | x :: l => deniesX x || deniesL l
end
theorem sizeX_eq (t : Xp) : sizeX t = 1 + sizesX t.kids := by cases t; simp [sizeX]
theorem bulkX_eq (t : Xp) : bulkX t = 4 + t.op.length + t.tag.length + bulksX t.kids := by cases t; simp [bulkX]
theorem deniesX_eq (t : Xp) : deniesX t = (decide (t.op = [33]) || deniesL t.kids) := by cases t; rw [deniesX]; rfl
theorem sizesX_app : ∀ (l r : List Xp), sizesX (l ++ r) = sizesX l + sizesX r
  | [], r => by simp [sizesX]
  | x :: l, r => by simp [sizesX, sizesX_app l r, Nat.add_assoc]
theorem deniesL_eq : ∀ (l : List Xp), deniesL l = l.any deniesX
  | [] => by simp [deniesL]
  | x :: l => by rw [deniesL, deniesL_eq l, List.any_cons]
theorem sizesX_take {l : List Xp} {k : Nat} (h : k < l.length) : sizesX (l.take (k + 1)) = sizesX (l.take k) + sizeX l[k] := by
  rw [List.take_succ_eq_append_getElem h, sizesX_app]; simp [sizesX]
theorem sizesX_le (l : List Xp) (k : Nat) : sizesX (l.take k) ≤ sizesX l := by
  have := sizesX_app (l.take k) (l.drop k)
  rw [List.take_append_drop] at this; omega
theorem sizeX_mem : ∀ {l : List Xp} {x : Xp}, x ∈ l → sizeX x ≤ sizesX l
  | [], x, h => by cases h
  | y :: l, x, h => by
    rw [sizesX]
    rcases List.mem_cons.1 h with rfl | h
    · omega
    · have := sizeX_mem h; omega
theorem bulkX_mem : ∀ {l : List Xp} {x : Xp}, x ∈ l → bulkX x ≤ bulksX l
  | [], x, h => by cases h
  | y :: l, x, h => by
    rw [bulksX]
    rcases List.mem_cons.1 h with rfl | h
    · omega
    · have := bulkX_mem h; omega
theorem bulks_len : ∀ (l : List Xp), 4 * l.length ≤ bulksX l
  | [] => by simp [bulksX]
  | x :: l => by have := bulks_len l; have := bulkX_eq x; rw [bulksX]; simp; omega
theorem size_bulk : ∀ t : Xp, sizeX t ≤ bulkX t := by
  refine Xp.ind (fun t ih => ?_)
  rw [sizeX_eq, bulkX_eq]
  have : ∀ l : List Xp, (∀ k, k ∈ l → sizeX k ≤ bulkX k) → sizesX l ≤ bulksX l := by
    intro l
    induction l with
    | nil => intro _; simp [sizesX]
    | cons x l ih2 =>
      intro h
      have h1 := h x (by simp)
      have h2 := ih2 (fun k hk => h k (List.mem_cons_of_mem _ hk))
      rw [sizesX, bulksX]; omega
  have := this t.kids ih
  omega

theorem three_on {w w1 : World} {b : Nat} {v0 v1 v2 : Value} (hb : Below w.heap.size w w1) (h0 : w.cell? ⟨b, 0, none⟩ = some v0) (h1 : w.cell? ⟨b, 1, none⟩ = some v1) (h2 : w.cell? ⟨b, 2, none⟩ = some v2) :
    w1.cell? ⟨b, 0, none⟩ = some v0 ∧ w1.cell? ⟨b, 1, none⟩ = some v1 ∧ w1.cell? ⟨b, 2, none⟩ = some v2 :=
  ⟨(hb.cell (cell_lt1 h0)).trans h0, (hb.cell (cell_lt1 h1)).trans h1, (hb.cell (cell_lt1 h2)).trans h2⟩

theorem wrap_sum (x y z : Int) (h : z = x + y) : wrap64 (wrap64 x + wrap64 y) = wrap64 z := by
  unfold wrap64; omega
def SizeOk (t : Xp) : Prop := ∀ (a : Option Addr) (c : Nat) (w : World), Xids w Any a t.kids → Fitx t c →
    Calls Tryd.prog 10 #[.agg #[.string ⟨t.op.toArray⟩, .string ⟨t.tag.toArray⟩, .slice a t.kids.length c]] w fun e w' => e = .returned (.int .i64 (wrap64 (sizeX t))) ∧ Below w.heap.size w w'
set_option maxRecDepth 100000 in
set_option maxHeartbeats 2000000 in
theorem size_any : ∀ (t : Xp), SizeOk t := by
  refine Xp.ind (fun t ih => ?_)
  intro a c w hk hf
  have HI := Lib.hid ih
  have HK := Lib.hid hk
  have HB0 := Lib.hid (below_alloc w (.cells #[.string ⟨t.op.toArray⟩, .string ⟨t.tag.toArray⟩, .slice a t.kids.length c] 24))
  have hl63 : t.kids.length ≤ 9223372036854775807 := by have := hf.2.2.1; have := hf.2.2.2.1; omega
  have hcap : t.kids.length ≤ c := hf.2.2.1
  rw [sizeX_eq]
  clear ih hk hf
  go_enter Tryd.func10, Tryd.ntmps10
  go_wp2_with fail
  go_loopw [3, 4] (fun s i wr => ∃ k : Nat, k ≤ t.kids.length ∧ i = .int .i64 k ∧ s = .int .i64 (wrap64 ((1 + sizesX (t.kids.take k) : Nat) : Int)) ∧ Below w.heap.size w wr ∧
    (wr.cell? ⟨w.heap.size, 0, none⟩ = some (.string ⟨t.op.toArray⟩) ∧ wr.cell? ⟨w.heap.size, 1, none⟩ = some (.string ⟨t.tag.toArray⟩) ∧ wr.cell? ⟨w.heap.size, 2, none⟩ = some (.slice a t.kids.length c))) (fun _ i _ => t.kids.length - (intOf i).toNat)
  case atStart => exact ⟨0, by omega, rfl, by simp [sizesX, wrap64], HB0.out, by simp [go_sem], by simp [go_sem], by simp [go_sem]⟩
  case round =>
    obtain ⟨k, hk1, rfl, rfl, hb, a0, a1, a2⟩ := hrel
    have HB := Lib.hid hb
    clear hb
    by_cases hlt : k < t.kids.length
    · obtain ⟨b, off, a', c', ha, -, ⟨h0', h1', h2'⟩, hf', hn'⟩ := (HK.out.on HB.out).get hlt
      subst ha
      have hkn := sizesX_take hlt
      have HC := Lib.hid (HI.out t.kids[k] (List.getElem_mem hlt) a' c' wr hn' hf')
      have HKN := Lib.hid hkn
      clear hf' hn' hkn
      go_wp2_with fail
      refine HC.out.mono ?_
      rintro e w1 ⟨rfl, hb1⟩
      obtain ⟨b0, b1, b2⟩ := three_on hb1 a0 a1 a2
      have HB1 := Lib.hid (bext HB.out hb1)
      clear hb1 a0 a1 a2
      go_wp2_with fail
      go_roundw
      case rel =>
        have HE := Lib.hid (wrap_sum (1 + (sizesX (t.kids.take k) : Int)) (sizeX t.kids[k] : Int) ((1 + sizesX (t.kids.take (k + 1)) : Nat) : Int) (by have := HKN.out; omega))
        first
          | exact ⟨k + 1, by omega, by go_num, by rw [HE.out], HB1.out, b0, b1, b2⟩
          | exact ⟨k + 1, by omega, by go_num, by rw [← HE.out]; rfl, HB1.out, b0, b1, b2⟩
      case measure => simp [intOf]; omega
    · obtain rfl : k = t.kids.length := by omega
      go_wp2_with fail
      go_ret
      refine ⟨?_, HB.out⟩
      rw [List.take_length]; rfl

def DeniesOk (t : Xp) : Prop := ∀ (a : Option Addr) (c : Nat) (w : World), Xids w Any a t.kids → Fitx t c →
    Calls Tryd.prog 23 #[.agg #[.string ⟨t.op.toArray⟩, .string ⟨t.tag.toArray⟩, .slice a t.kids.length c]] w fun e w' => e = .returned (.bool (deniesX t)) ∧ Below w.heap.size w w'
set_option maxRecDepth 100000 in
set_option maxHeartbeats 2000000 in
theorem denies_any : ∀ (t : Xp), DeniesOk t := by
  refine Xp.ind (fun t ih => ?_)
  intro a c w hk hf
  have HI := Lib.hid ih
  have HK := Lib.hid hk
  have HB0 := Lib.hid (below_alloc w (.cells #[.string ⟨t.op.toArray⟩, .string ⟨t.tag.toArray⟩, .slice a t.kids.length c] 24))
  have hl63 : t.kids.length ≤ 9223372036854775807 := by have := hf.2.2.1; have := hf.2.2.2.1; omega
  have hcap : t.kids.length ≤ c := hf.2.2.1
  rw [deniesX_eq, deniesL_eq]
  clear ih hk hf
  cases hop : decide (t.op = [33]) with
  | true =>
    have h33 : (t.op == [33]) = true := by simpa using hop
    have hop' : t.op = [33] := by simpa using hop
    go_enter Tryd.func23, Tryd.ntmps23
    rw [hop']
    go_wp2_with fail
    go_ret
    rw [hop'] at HB0
    exact ⟨rfl, HB0.out⟩
  | false =>
    have h33 : (t.op == [33]) = false := by simpa using hop
    rw [Bool.false_or]
    go_enter Tryd.func23, Tryd.ntmps23
    go_wp2_with fail
    go_loopw [3] (fun i wr => ∃ k : Nat, k ≤ t.kids.length ∧ i = .int .i64 k ∧ (t.kids.take k).any deniesX = false ∧ Below w.heap.size w wr ∧
      (wr.cell? ⟨w.heap.size, 0, none⟩ = some (.string ⟨t.op.toArray⟩) ∧ wr.cell? ⟨w.heap.size, 1, none⟩ = some (.string ⟨t.tag.toArray⟩) ∧ wr.cell? ⟨w.heap.size, 2, none⟩ = some (.slice a t.kids.length c))) (fun i _ => t.kids.length - (intOf i).toNat)
    case atStart => exact ⟨0, by omega, rfl, by simp, HB0.out, by simp [go_sem], by simp [go_sem], by simp [go_sem]⟩
    case round =>
      obtain ⟨k, hk1, rfl, hn, hb, a0, a1, a2⟩ := hrel
      have HN := Lib.hid hn
      have HB := Lib.hid hb
      clear hb hn
      by_cases hlt : k < t.kids.length
      · obtain ⟨b, off, a', c', ha, -, ⟨h0', h1', h2'⟩, hf', hn'⟩ := (HK.out.on HB.out).get hlt
        subst ha
        have hC := HI.out t.kids[k] (List.getElem_mem hlt) a' c' wr hn' hf'
        cases hd : deniesX t.kids[k] with
        | true =>
          rw [hd] at hC
          have HC := Lib.hid hC
          have HE := Lib.hid (any_at hlt hd)
          clear hC hf' hn' hd
          go_wp2_with fail
          refine HC.out.mono ?_
          rintro e w1 ⟨rfl, hb1⟩
          have HB1 := Lib.hid (bext HB.out hb1)
          clear hb1
          go_wp2_with fail
          go_ret
          exact ⟨by rw [HE.out]; rfl, HB1.out⟩
        | false =>
          rw [hd] at hC
          have HC := Lib.hid hC
          have HE := Lib.hid (any_take hlt HN.out hd)
          clear hC hf' hn' hd
          go_wp2_with fail
          refine HC.out.mono ?_
          rintro e w1 ⟨rfl, hb1⟩
          obtain ⟨b0, b1, b2⟩ := three_on hb1 a0 a1 a2
          have HB1 := Lib.hid (bext HB.out hb1)
          clear hb1 a0 a1 a2
          go_wp2_with fail
          go_roundw
          case rel => exact ⟨k + 1, by omega, by go_num, HE.out, HB1.out, b0, b1, b2⟩
          case measure => simp [intOf]; omega
      · obtain rfl : k = t.kids.length := by omega
        go_wp2_with fail
        go_ret
        have h9 := HN.out
        rw [List.take_length] at h9
        exact ⟨by rw [h9]; rfl, HB.out⟩
end Go.Proofs.YtagaoilgnhdebaaDoor
