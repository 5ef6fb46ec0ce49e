/-
  names: the document's Size and the law's long, walked.
-/
import Derived.Test.YtfcpblclfgkdjaaDoorNmF
namespace Go.Proofs.YtfcpblclfgkdjaaDoor
set_option linter.unusedSimpArgs false
set_option linter.unusedVariables false
open Go.RowKit

mutual
def sizeT : Ty → Nat
  | .mk _ _ l => 1 + sizesT l
def sizesT : List Ty → Nat
  | [] => 0
  | x :: l => sizeT x + sizesT l
end
mutual
/-- Letters and parts, all told. -/
def bulkT : Ty → Nat
  | .mk _ s l => 4 + s.length + bulksT l
def bulksT : List Ty → Nat
  | [] => 0
  | x :: l => bulkT x + bulksT l
end
mutual
def longT : Ty → Bool
  | .mk _ s l => decide (30 < s.length) || longL l
def longL : List Ty → Bool
  | [] => false
  | x :: l => longT x || longL l
end
theorem sizeT_eq (t : Ty) : sizeT t = 1 + sizesT t.args := by cases t; simp [sizeT]
theorem bulkT_eq (t : Ty) : bulkT t = 4 + t.name.length + bulksT t.args := by cases t; simp [bulkT]
theorem longT_eq (t : Ty) : longT t = (decide (30 < t.name.length) || longL t.args) := by cases t; rw [longT]; rfl
theorem sizesT_app : ∀ (l r : List Ty), sizesT (l ++ r) = sizesT l + sizesT r
  | [], r => by simp [sizesT]
  | x :: l, r => by simp [sizesT, sizesT_app l r, Nat.add_assoc]
theorem longL_eq : ∀ (l : List Ty), longL l = l.any longT
  | [] => by simp [longL]
  | x :: l => by rw [longL, longL_eq l, List.any_cons]
theorem sizesT_take {l : List Ty} {k : Nat} (h : k < l.length) : sizesT (l.take (k + 1)) = sizesT (l.take k) + sizeT l[k] := by
  rw [List.take_succ_eq_append_getElem h, sizesT_app]; simp [sizesT]
theorem any_at {q : Ty → Bool} {l : List Ty} {k : Nat} (h : k < l.length) (hq : q l[k] = true) : l.any q = true := List.any_eq_true.2 ⟨_, List.getElem_mem h, hq⟩
theorem any_take {q : Ty → Bool} {l : List Ty} {k : Nat} (h : k < l.length) (h0 : (l.take k).any q = false) (hq : q l[k] = false) : (l.take (k + 1)).any q = false := by
  rw [List.take_succ_eq_append_getElem h, List.any_append, h0]; simp [hq]
mutual
theorem size_bulk : ∀ t : Ty, sizeT t ≤ bulkT t
  | .mk _ _ l => by have := sizes_bulk l; rw [sizeT, bulkT]; omega
theorem sizes_bulk : ∀ l : List Ty, sizesT l ≤ bulksT l
  | [] => by simp [sizesT]
  | x :: l => by have := size_bulk x; have := sizes_bulk l; rw [sizesT, bulksT]; omega
end
mutual
theorem len_bulk : ∀ t : Ty, tyLen t ≤ 25 * bulkT t
  | .mk _ _ l => by have := lens_bulk l; rw [tyLen, bulkT]; omega
theorem lens_bulk : ∀ l : List Ty, tysLen l ≤ 25 * bulksT l
  | [] => by simp [tysLen]
  | x :: l => by have := len_bulk x; have := lens_bulk l; rw [tysLen, bulksT]; omega
end

theorem wrap_sum (x y z : Int) (h : z = x + y) : wrap64 (wrap64 x + wrap64 y) = wrap64 z := by
  unfold wrap64; omega
def SizeOk (t : Ty) : Prop := ∀ (a : Option Addr) (c : Nat) (w : World), Tids w Any a t.args → Fity t c →
    Calls Tryd.prog 7 #[.agg #[.int .i64 t.kind, .string ⟨t.name.toArray⟩, .slice a t.args.length c]] w fun e w' => e = .returned (.int .i64 (wrap64 (sizeT t))) ∧ Below w.heap.size w w'
set_option maxRecDepth 100000 in
set_option maxHeartbeats 2000000 in
theorem size_any : ∀ (t : Ty), SizeOk t := by
  refine Ty.ind (fun t ih => ?_)
  intro a c w hk hf
  have HI := Lib.hid ih
  have HK := Lib.hid hk
  have HB0 := Lib.hid (below_alloc w (.cells #[.int .i64 t.kind, .string ⟨t.name.toArray⟩, .slice a t.args.length c] 28))
  have hl63 : t.args.length ≤ 9223372036854775807 := by have := hf.2.2.1; have := hf.2.2.2.1; omega
  have hcap : t.args.length ≤ c := hf.2.2.1
  rw [sizeT_eq]
  clear ih hk hf
  go_enter Tryd.func7, Tryd.ntmps7
  go_wp2_with fail
  go_loopw [3, 4] (fun s i wr => ∃ k : Nat, k ≤ t.args.length ∧ i = .int .i64 k ∧ s = .int .i64 (wrap64 ((1 + sizesT (t.args.take k) : Nat) : Int)) ∧ Below w.heap.size w wr ∧
    (wr.cell? ⟨w.heap.size, 0, none⟩ = some (.int .i64 t.kind) ∧ wr.cell? ⟨w.heap.size, 1, none⟩ = some (.string ⟨t.name.toArray⟩) ∧ wr.cell? ⟨w.heap.size, 2, none⟩ = some (.slice a t.args.length c))) (fun _ i _ => t.args.length - (intOf i).toNat)
  case atStart => exact ⟨0, by omega, rfl, by simp [sizesT, wrap64], HB0.out, by simp [go_sem], by simp [go_sem], by simp [go_sem]⟩
  case round =>
    obtain ⟨k, hk1, rfl, rfl, hb, a0, a1, a2⟩ := hrel
    have HB := Lib.hid hb
    clear hb
    by_cases hlt : k < t.args.length
    · obtain ⟨b, off, a', c', ha, -, ⟨h0', h1', h2'⟩, hf', hn'⟩ := (HK.out.on HB.out).get hlt
      subst ha
      have hkn := sizesT_take hlt
      have HC := Lib.hid (HI.out t.args[k] (List.getElem_mem hlt) a' c' wr hn' hf')
      have HKN := Lib.hid hkn
      clear hf' hn' hkn
      go_wp2_with fail
      refine HC.out.mono ?_
      rintro e w1 ⟨rfl, hb1⟩
      obtain ⟨b0, b1, b2⟩ := three_on hb1 a0 a1 a2
      have HB1 := Lib.hid (bext HB.out hb1)
      clear hb1 a0 a1 a2
      go_wp2_with fail
      go_roundw
      case rel =>
        have HE := Lib.hid (wrap_sum (1 + (sizesT (t.args.take k) : Int)) (sizeT t.args[k] : Int) ((1 + sizesT (t.args.take (k + 1)) : Nat) : Int) (by have := HKN.out; omega))
        first
          | exact ⟨k + 1, by omega, by go_num, by rw [HE.out], HB1.out, b0, b1, b2⟩
          | exact ⟨k + 1, by omega, by go_num, by rw [← HE.out]; rfl, HB1.out, b0, b1, b2⟩
      case measure => simp [intOf]; omega
    · obtain rfl : k = t.args.length := by omega
      go_wp2_with fail
      go_ret
      refine ⟨?_, HB.out⟩
      rw [List.take_length]; rfl

def LongOk (t : Ty) : Prop := ∀ (a : Option Addr) (c : Nat) (w : World), Tids w Any a t.args → Fity t c →
    Calls Tryd.prog 8 #[.agg #[.int .i64 t.kind, .string ⟨t.name.toArray⟩, .slice a t.args.length c]] w fun e w' => e = .returned (.bool (longT t)) ∧ Below w.heap.size w w'
set_option maxRecDepth 100000 in
set_option maxHeartbeats 2000000 in
theorem long_any : ∀ (t : Ty), LongOk t := by
  refine Ty.ind (fun t ih => ?_)
  intro a c w hk hf
  have HI := Lib.hid ih
  have HK := Lib.hid hk
  have HB0 := Lib.hid (below_alloc w (.cells #[.int .i64 t.kind, .string ⟨t.name.toArray⟩, .slice a t.args.length c] 28))
  have hl63 : t.args.length ≤ 9223372036854775807 := by have := hf.2.2.1; have := hf.2.2.2.1; omega
  have hcap : t.args.length ≤ c := hf.2.2.1
  rw [longT_eq, longL_eq]
  clear ih hk hf
  cases hop : decide (30 < t.name.length) with
  | true =>
    have h33 : (30 : Int) < t.name.length := by have := of_decide_eq_true hop; omega
    go_enter Tryd.func8, Tryd.ntmps8
    go_wp2_with fail
    go_ret
    exact ⟨rfl, HB0.out⟩
  | false =>
    have h33 : ¬ (30 : Int) < t.name.length := by have := of_decide_eq_false hop; omega
    rw [Bool.false_or]
    go_enter Tryd.func8, Tryd.ntmps8
    go_wp2_with fail
    go_loopw [3] (fun i wr => ∃ k : Nat, k ≤ t.args.length ∧ i = .int .i64 k ∧ (t.args.take k).any longT = false ∧ Below w.heap.size w wr ∧
      (wr.cell? ⟨w.heap.size, 0, none⟩ = some (.int .i64 t.kind) ∧ wr.cell? ⟨w.heap.size, 1, none⟩ = some (.string ⟨t.name.toArray⟩) ∧ wr.cell? ⟨w.heap.size, 2, none⟩ = some (.slice a t.args.length c))) (fun i _ => t.args.length - (intOf i).toNat)
    case atStart => exact ⟨0, by omega, rfl, by simp, HB0.out, by simp [go_sem], by simp [go_sem], by simp [go_sem]⟩
    case round =>
      obtain ⟨k, hk1, rfl, hn, hb, a0, a1, a2⟩ := hrel
      have HN := Lib.hid hn
      have HB := Lib.hid hb
      clear hb hn
      by_cases hlt : k < t.args.length
      · obtain ⟨b, off, a', c', ha, -, ⟨h0', h1', h2'⟩, hf', hn'⟩ := (HK.out.on HB.out).get hlt
        subst ha
        have hC := HI.out t.args[k] (List.getElem_mem hlt) a' c' wr hn' hf'
        cases hd : longT t.args[k] with
        | true =>
          rw [hd] at hC
          have HC := Lib.hid hC
          have HE := Lib.hid (any_at hlt hd)
          clear hC hf' hn' hd
          go_wp2_with fail
          refine HC.out.mono ?_
          rintro e w1 ⟨rfl, hb1⟩
          have HB1 := Lib.hid (bext HB.out hb1)
          clear hb1
          go_wp2_with fail
          go_ret
          exact ⟨by rw [HE.out]; rfl, HB1.out⟩
        | false =>
          rw [hd] at hC
          have HC := Lib.hid hC
          have HE := Lib.hid (any_take hlt HN.out hd)
          clear hC hf' hn' hd
          go_wp2_with fail
          refine HC.out.mono ?_
          rintro e w1 ⟨rfl, hb1⟩
          obtain ⟨b0, b1, b2⟩ := three_on hb1 a0 a1 a2
          have HB1 := Lib.hid (bext HB.out hb1)
          clear hb1 a0 a1 a2
          go_wp2_with fail
          go_roundw
          case rel => exact ⟨k + 1, by omega, by go_num, HE.out, HB1.out, b0, b1, b2⟩
          case measure => simp [intOf]; omega
      · obtain rfl : k = t.args.length := by omega
        go_wp2_with fail
        go_ret
        have h9 := HN.out
        rw [List.take_length] at h9
        exact ⟨by rw [h9]; rfl, HB.out⟩

end Go.Proofs.YtfcpblclfgkdjaaDoor
