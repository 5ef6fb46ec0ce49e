/-
  tag: the document's may, Right: walked. (printed by gen_tagref.py)
-/
import Derived.Test.YtagaoilgnhdebaaDoorTgU
import Derived.Test.YtagaoilgnhdebaaDoorTgJ
import Derived.Test.YtagaoilgnhdebaaDoorTgQ
namespace Go.Proofs.YtagaoilgnhdebaaDoor
set_option linter.unusedSimpArgs false
set_option linter.unusedVariables false
open Go.RowKit

set_option maxHeartbeats 4000000 in
theorem rmay_any (d : UInt8) (w : World) : Calls Tryd.prog 24 #[.int .u8 (d.toNat : Int)] w fun e w' => e = .returned (.bool (mayTB d)) ∧ w' = w := by
  obtain ⟨n, hn, hm⟩ : ∃ n : Int, (d.toNat : Int) = n ∧ mayTB d = mayT n := ⟨_, rfl, rfl⟩
  have hb : 0 ≤ n ∧ n ≤ 255 := by have := d.toNat_lt; omega
  rw [hn, hm]
  clear hn hm
  go_enter Tryd.func24, Tryd.ntmps24
  go_wp2
  all_goals
    go_ret
    refine ⟨ret_bool ?_, rfl⟩
    rw [Bool.eq_iff_iff]; simp [mayT, figureI]; try omega

/-- What the document's Right answers at n. -/
def RRightOk (n : Nat) : Prop := ∀ (t : Xp) (a : Option Addr) (c : Nat) (w : World), Xids w Any a t.kids → Fitx t c →
  Calls Tryd.prog 12 #[.agg #[.string ⟨t.op.toArray⟩, .string ⟨t.tag.toArray⟩, .slice a t.kids.length c], .int .i64 (n : Int)] w fun e w' => e = .returned (.bool (rightX n t)) ∧ Below w.heap.size w w'

theorem laid3q (w : World) (x y z : Value) (T : TypeId) : ∃ wa, w.alloc (.cells #[x, y, z] T) = wa ∧ Below w.heap.size w wa ∧
    wa.cell? ⟨w.heap.size, 0, none⟩ = some x ∧ wa.cell? ⟨w.heap.size, 1, none⟩ = some y ∧ wa.cell? ⟨w.heap.size, 2, none⟩ = some z ∧ wa.heap.size = w.heap.size + 1 :=
  ⟨_, rfl, below_alloc _ _, by simp [go_sem], by simp [go_sem], by simp [go_sem], by simp⟩
set_option maxHeartbeats 4000000 in
theorem rright_zero : RRightOk 0 := by
  intro t a c w hk hf
  clear hk hf
  go_enter Tryd.func12, Tryd.ntmps12
  go_wp2_with fail
  refine bodyPost_ret (v := .bool false) (by simp [results, Tryd.results12, go_sem]) rfl ⟨rfl, below_alloc _ _⟩

set_option maxRecDepth 100000 in
set_option maxHeartbeats 4000000 in
theorem rright_leaf (m : Nat) (hm : m < 1000) (s : List UInt8) (ks : List Xp) (a : Option Addr) (c : Nat) (w : World) (hs : s.length ≤ 140737488351232) (hks : ks.length ≤ 9223372036854775807) :
    Calls Tryd.prog 12 #[.agg #[.string ⟨#[]⟩, .string ⟨s.toArray⟩, .slice a ks.length c], .int .i64 ((m : Int) + 1)] w fun e w' => e = .returned (.bool (tagB s && ks.isEmpty)) ∧ Below w.heap.size w w' := by
  have hz := right_len0 ks
  have hp : ¬ (m : Int) + 1 < 1 := by omega
  obtain ⟨wa, hwa, hba, c0, c1, c2, hsz⟩ := laid3q w (.string ⟨#[]⟩) (.string ⟨s.toArray⟩) (.slice a ks.length c) 24
  have HB := Lib.hid hba
  clear hba
  obtain ⟨r, hr⟩ : ∃ r, (tagB s && ks.isEmpty) = r := ⟨_, rfl⟩
  have HR := Lib.hid hr
  rw [hr]
  clear hr
  go_enter Tryd.func12, Tryd.ntmps12
  go_wp2_with fail
  go_loopw [5] (fun i wr => ∃ k : Nat, k ≤ s.length ∧ i = .int .i64 k ∧ wr = wa ∧ (s.take k).all mayTB = true) (fun i _ => s.length - (intOf i).toNat)
  case atStart => exact ⟨0, by omega, rfl, rfl, by simp⟩
  case round =>
    obtain ⟨k, hk, rfl, rfl, hall⟩ := hrel
    have HALL := Lib.hid hall
    clear hall
    by_cases hlt : k < s.length
    · obtain ⟨d, hd⟩ : ∃ d, s[k] = d := ⟨_, rfl⟩
      have hd2 := d.toNat_lt
      have hby : ∀ h', (⟨s.toArray⟩ : ByteArray)[k]'h' = d := fun h' => (byte_at s k hlt h').trans hd
      have HM := rmay_any d wr
      cases hmd : mayTB d with
      | true =>
        rw [hmd] at HM
        have HM' := Lib.hid HM
        have HN := Lib.hid (all_take hlt HALL.out (by rw [hd]; exact hmd))
        clear HM hmd hd
        go_wp2_with fail
        refine HM'.out.mono ?_
        rintro e w3 ⟨rfl, rfl⟩
        go_wp2_with fail
        go_roundw
        case rel => exact ⟨k + 1, by omega, by go_num, trivial, HN.out⟩
        case measure => simp [intOf]; omega
      | false =>
        rw [hmd] at HM
        have HM' := Lib.hid HM
        have HF := Lib.hid (show r = false by
          rw [← HR.out, tagB]
          have : s.all mayTB = false := by
            cases e : s.all mayTB with
            | false => rfl
            | true => rw [List.all_eq_true] at e; have := e _ (List.getElem_mem hlt); rw [hd, hmd] at this; cases this
          rw [this]; rfl)
        clear HM hmd hd
        go_wp2_with fail
        refine HM'.out.mono ?_
        rintro e w3 ⟨rfl, rfl⟩
        go_wp2_with fail
        refine bodyPost_ret (v := .bool false) (by simp [results, Tryd.results12, go_sem]) rfl ⟨by rw [HF.out], HB.out⟩
    · obtain rfl : k = s.length := by omega
      have hall := HALL.out
      rw [List.take_length] at hall
      cases s with
      | nil =>
        have HF := Lib.hid (show r = false by rw [← HR.out]; rfl)
        go_wp2_with fail
        refine bodyPost_ret (v := .bool false) (by simp [results, Tryd.results12, go_sem]) rfl ⟨by rw [HF.out], HB.out⟩
      | cons d s =>
        have HF := Lib.hid (show r = ks.isEmpty by rw [← HR.out, tagB, hall]; simp)
        have h0 : (0 : Int) < ((d :: s).length : Int) := by simp only [List.length_cons]; omega
        clear hall
        obtain ⟨n, hn⟩ : ∃ n, (d :: s).length = n := ⟨_, rfl⟩
        rw [hn] at h0 hlt hk
        go_wp2_with fail
        refine bodyPost_ret (v := .bool ks.isEmpty) (by simp [results, Tryd.results12, go_sem]) rfl ⟨by rw [HF.out], HB.out⟩

set_option maxHeartbeats 4000000 in
theorem rright_not_tag (m : Nat) (hm : m < 1000) (s : List UInt8) (ks : List Xp) (a : Option Addr) (c : Nat) (w : World) (hs : s.isEmpty = false) (hs2 : (s == []) = false) :
    Calls Tryd.prog 12 #[.agg #[.string ⟨#[33]⟩, .string ⟨s.toArray⟩, .slice a ks.length c], .int .i64 ((m : Int) + 1)] w fun e w' => e = .returned (.bool false) ∧ Below w.heap.size w w' := by
  have hp : ¬ (m : Int) + 1 < 1 := by omega
  go_enter Tryd.func12, Tryd.ntmps12
  go_wp2_with fail
  refine bodyPost_ret (v := .bool false) (by simp [results, Tryd.results12, go_sem]) rfl ⟨rfl, below_alloc _ _⟩

set_option maxHeartbeats 4000000 in
theorem rright_not_bad (m : Nat) (hm : m < 1000) (ks : List Xp) (a : Option Addr) (c : Nat) (w : World) (hl : ((ks.length : Int) != 1) = true) :
    Calls Tryd.prog 12 #[.agg #[.string ⟨#[33]⟩, .string ⟨#[]⟩, .slice a ks.length c], .int .i64 ((m : Int) + 1)] w fun e w' => e = .returned (.bool false) ∧ Below w.heap.size w w' := by
  have hp : ¬ (m : Int) + 1 < 1 := by omega
  go_enter Tryd.func12, Tryd.ntmps12
  go_wp2_with fail
  refine bodyPost_ret (v := .bool false) (by simp [results, Tryd.results12, go_sem]) rfl ⟨rfl, below_alloc _ _⟩

set_option maxHeartbeats 4000000 in
theorem rright_both_tag (m : Nat) (hm : m < 1000) (s : List UInt8) (ks : List Xp) (a : Option Addr) (c : Nat) (w : World) (hs : s.isEmpty = false) (hs2 : (s == []) = false) :
    Calls Tryd.prog 12 #[.agg #[.string ⟨#[38, 38]⟩, .string ⟨s.toArray⟩, .slice a ks.length c], .int .i64 ((m : Int) + 1)] w fun e w' => e = .returned (.bool false) ∧ Below w.heap.size w w' := by
  have hp : ¬ (m : Int) + 1 < 1 := by omega
  go_enter Tryd.func12, Tryd.ntmps12
  go_wp2_with fail
  refine bodyPost_ret (v := .bool false) (by simp [results, Tryd.results12, go_sem]) rfl ⟨rfl, below_alloc _ _⟩

set_option maxHeartbeats 4000000 in
theorem rright_both_bad (m : Nat) (hm : m < 1000) (ks : List Xp) (a : Option Addr) (c : Nat) (w : World) (hl : (ks.length : Int) < 2) :
    Calls Tryd.prog 12 #[.agg #[.string ⟨#[38, 38]⟩, .string ⟨#[]⟩, .slice a ks.length c], .int .i64 ((m : Int) + 1)] w fun e w' => e = .returned (.bool false) ∧ Below w.heap.size w w' := by
  have hp : ¬ (m : Int) + 1 < 1 := by omega
  go_enter Tryd.func12, Tryd.ntmps12
  go_wp2_with fail
  refine bodyPost_ret (v := .bool false) (by simp [results, Tryd.results12, go_sem]) rfl ⟨rfl, below_alloc _ _⟩

set_option maxHeartbeats 4000000 in
theorem rright_one_tag (m : Nat) (hm : m < 1000) (s : List UInt8) (ks : List Xp) (a : Option Addr) (c : Nat) (w : World) (hs : s.isEmpty = false) (hs2 : (s == []) = false) :
    Calls Tryd.prog 12 #[.agg #[.string ⟨#[124, 124]⟩, .string ⟨s.toArray⟩, .slice a ks.length c], .int .i64 ((m : Int) + 1)] w fun e w' => e = .returned (.bool false) ∧ Below w.heap.size w w' := by
  have hp : ¬ (m : Int) + 1 < 1 := by omega
  go_enter Tryd.func12, Tryd.ntmps12
  go_wp2_with fail
  refine bodyPost_ret (v := .bool false) (by simp [results, Tryd.results12, go_sem]) rfl ⟨rfl, below_alloc _ _⟩

set_option maxHeartbeats 4000000 in
theorem rright_one_bad (m : Nat) (hm : m < 1000) (ks : List Xp) (a : Option Addr) (c : Nat) (w : World) (hl : (ks.length : Int) < 2) :
    Calls Tryd.prog 12 #[.agg #[.string ⟨#[124, 124]⟩, .string ⟨#[]⟩, .slice a ks.length c], .int .i64 ((m : Int) + 1)] w fun e w' => e = .returned (.bool false) ∧ Below w.heap.size w w' := by
  have hp : ¬ (m : Int) + 1 < 1 := by omega
  go_enter Tryd.func12, Tryd.ntmps12
  go_wp2_with fail
  refine bodyPost_ret (v := .bool false) (by simp [results, Tryd.results12, go_sem]) rfl ⟨rfl, below_alloc _ _⟩

set_option maxHeartbeats 4000000 in
theorem rright_none_tag (m : Nat) (hm : m < 1000) (s : List UInt8) (ks : List Xp) (a : Option Addr) (c : Nat) (w : World) (o : List UInt8) (ho : NoSign o) (hs : s.isEmpty = false) (hs2 : (s == []) = false) :
    Calls Tryd.prog 12 #[.agg #[.string ⟨o.toArray⟩, .string ⟨s.toArray⟩, .slice a ks.length c], .int .i64 ((m : Int) + 1)] w fun e w' => e = .returned (.bool false) ∧ Below w.heap.size w w' := by
  obtain ⟨⟨h1, h2, h3, h4⟩, g1, g2, g3, g4⟩ := ho
  have hp : ¬ (m : Int) + 1 < 1 := by omega
  go_enter Tryd.func12, Tryd.ntmps12
  go_wp2_with fail
  refine bodyPost_ret (v := .bool false) (by simp [results, Tryd.results12, go_sem]) rfl ⟨rfl, below_alloc _ _⟩

set_option maxHeartbeats 4000000 in
theorem rright_none (m : Nat) (hm : m < 1000) (ks : List Xp) (a : Option Addr) (c : Nat) (w : World) (o : List UInt8) (ho : NoSign o) :
    Calls Tryd.prog 12 #[.agg #[.string ⟨o.toArray⟩, .string ⟨#[]⟩, .slice a ks.length c], .int .i64 ((m : Int) + 1)] w fun e w' => e = .returned (.bool false) ∧ Below w.heap.size w w' := by
  obtain ⟨⟨h1, h2, h3, h4⟩, g1, g2, g3, g4⟩ := ho
  have hp : ¬ (m : Int) + 1 < 1 := by omega
  go_enter Tryd.func12, Tryd.ntmps12
  go_wp2_with fail
  refine bodyPost_ret (v := .bool false) (by simp [results, Tryd.results12, go_sem]) rfl ⟨rfl, below_alloc _ _⟩

set_option maxRecDepth 100000 in
set_option maxHeartbeats 4000000 in
theorem rright_not_all (m : Nat) (hm : m < 1000) (ih : RRightOk m) (ks : List Xp) (hl : ((ks.length : Int) != 1) = false) (a : Option Addr) (c : Nat) (w : World) (hk : Xids w Any a ks) (hks : ks.length ≤ 9223372036854775807) (hcap : ks.length ≤ c) :
    Calls Tryd.prog 12 #[.agg #[.string ⟨#[33]⟩, .string ⟨#[]⟩, .slice a ks.length c], .int .i64 ((m : Int) + 1)] w fun e w' => e = .returned (.bool (ks.all (rightX m))) ∧ Below w.heap.size w w' := by
  have hp : ¬ (m : Int) + 1 < 1 := by omega
  have HI := Lib.hid ih
  have HK := Lib.hid hk
  have hwm : wrap64 ((m : Int) + 1 - 1) = m := by simp [wrap64]; omega
  have hwm2 : IntKind.i64.wrap (m : Int) = m := by rw [IntKind.wrap_i64]; omega
  have HB0 := Lib.hid (below_alloc w (.cells #[.string ⟨#[33]⟩, .string ⟨#[]⟩, .slice a ks.length c] 24))
  clear ih hk
  go_enter Tryd.func12, Tryd.ntmps12
  go_wp2_with fail
  go_loopw [6] (fun i wr => ∃ k : Nat, k ≤ ks.length ∧ i = .int .i64 k ∧ (ks.take k).any (fun t => !rightX m t) = false ∧ Below w.heap.size w wr ∧
    (wr.cell? ⟨w.heap.size, 0, none⟩ = some (.string ⟨#[33]⟩) ∧ wr.cell? ⟨w.heap.size, 1, none⟩ = some (.string ⟨#[]⟩) ∧ wr.cell? ⟨w.heap.size, 2, none⟩ = some (.slice a ks.length c))) (fun i _ => ks.length - (intOf i).toNat)
  case atStart => exact ⟨0, by omega, rfl, by simp, HB0.out, by simp [go_sem], by simp [go_sem], by simp [go_sem]⟩
  case round =>
    obtain ⟨k, hk1, rfl, hn, hb, a0, a1, a2⟩ := hrel
    have HN := Lib.hid hn
    have HB := Lib.hid hb
    clear hb hn
    by_cases hlt : k < ks.length
    · obtain ⟨b, off, a', c', ha, -, ⟨h0', h1', h2'⟩, hf', hn'⟩ := (HK.out.on HB.out).get hlt
      subst ha
      have hC := HI.out ks[k] a' c' wr hn' hf'
      have hbb : b < wr.heap.size := cell_lt1 h0'
      cases hd : rightX m ks[k] with
      | false =>
        rw [hd] at hC
        have HC := Lib.hid hC
        have HE := Lib.hid (any_at (q := fun t => !rightX m t) hlt (by rw [hd]; rfl))
        clear hC hf' hn' hd
        go_wp2_with fail
        refine HC.out.mono ?_
        rintro e w1 ⟨rfl, hb1⟩
        have HB1 := Lib.hid (bext HB.out hb1)
        clear hb1
        go_wp2_with fail
        go_ret
        exact ⟨by rw [← not_any_not, HE.out]; rfl, HB1.out⟩
      | true =>
        rw [hd] at hC
        have HC := Lib.hid hC
        have HE := Lib.hid (any_take (q := fun t => !rightX m t) hlt HN.out (by rw [hd]; rfl))
        clear hC hf' hn' hd
        go_wp2_with fail
        refine HC.out.mono ?_
        rintro e w1 ⟨rfl, hb1⟩
        obtain ⟨b0, b1, b2⟩ := three_on hb1 a0 a1 a2
        have HB1 := Lib.hid (bext HB.out hb1)
        clear hb1 a0 a1 a2
        go_wp2_with fail
        go_roundw
        case rel => exact ⟨k + 1, by omega, by go_num, HE.out, HB1.out, b0, b1, b2⟩
        case measure => simp [intOf]; omega
    · obtain rfl : k = ks.length := by omega
      go_wp2_with fail
      go_ret
      have h9 := HN.out
      rw [List.take_length] at h9
      exact ⟨by rw [← not_any_not, h9]; rfl, HB.out⟩

set_option maxRecDepth 100000 in
set_option maxHeartbeats 4000000 in
theorem rright_both_all (m : Nat) (hm : m < 1000) (ih : RRightOk m) (ks : List Xp) (hl : ¬ (ks.length : Int) < 2) (a : Option Addr) (c : Nat) (w : World) (hk : Xids w Any a ks) (hks : ks.length ≤ 9223372036854775807) (hcap : ks.length ≤ c) :
    Calls Tryd.prog 12 #[.agg #[.string ⟨#[38, 38]⟩, .string ⟨#[]⟩, .slice a ks.length c], .int .i64 ((m : Int) + 1)] w fun e w' => e = .returned (.bool (ks.all (rightX m))) ∧ Below w.heap.size w w' := by
  have hp : ¬ (m : Int) + 1 < 1 := by omega
  have HI := Lib.hid ih
  have HK := Lib.hid hk
  have hwm : wrap64 ((m : Int) + 1 - 1) = m := by simp [wrap64]; omega
  have hwm2 : IntKind.i64.wrap (m : Int) = m := by rw [IntKind.wrap_i64]; omega
  have HB0 := Lib.hid (below_alloc w (.cells #[.string ⟨#[38, 38]⟩, .string ⟨#[]⟩, .slice a ks.length c] 24))
  clear ih hk
  go_enter Tryd.func12, Tryd.ntmps12
  go_wp2_with fail
  go_loopw [6] (fun i wr => ∃ k : Nat, k ≤ ks.length ∧ i = .int .i64 k ∧ (ks.take k).any (fun t => !rightX m t) = false ∧ Below w.heap.size w wr ∧
    (wr.cell? ⟨w.heap.size, 0, none⟩ = some (.string ⟨#[38, 38]⟩) ∧ wr.cell? ⟨w.heap.size, 1, none⟩ = some (.string ⟨#[]⟩) ∧ wr.cell? ⟨w.heap.size, 2, none⟩ = some (.slice a ks.length c))) (fun i _ => ks.length - (intOf i).toNat)
  case atStart => exact ⟨0, by omega, rfl, by simp, HB0.out, by simp [go_sem], by simp [go_sem], by simp [go_sem]⟩
  case round =>
    obtain ⟨k, hk1, rfl, hn, hb, a0, a1, a2⟩ := hrel
    have HN := Lib.hid hn
    have HB := Lib.hid hb
    clear hb hn
    by_cases hlt : k < ks.length
    · obtain ⟨b, off, a', c', ha, -, ⟨h0', h1', h2'⟩, hf', hn'⟩ := (HK.out.on HB.out).get hlt
      subst ha
      have hC := HI.out ks[k] a' c' wr hn' hf'
      have hbb : b < wr.heap.size := cell_lt1 h0'
      cases hd : rightX m ks[k] with
      | false =>
        rw [hd] at hC
        have HC := Lib.hid hC
        have HE := Lib.hid (any_at (q := fun t => !rightX m t) hlt (by rw [hd]; rfl))
        clear hC hf' hn' hd
        go_wp2_with fail
        refine HC.out.mono ?_
        rintro e w1 ⟨rfl, hb1⟩
        have HB1 := Lib.hid (bext HB.out hb1)
        clear hb1
        go_wp2_with fail
        go_ret
        exact ⟨by rw [← not_any_not, HE.out]; rfl, HB1.out⟩
      | true =>
        rw [hd] at hC
        have HC := Lib.hid hC
        have HE := Lib.hid (any_take (q := fun t => !rightX m t) hlt HN.out (by rw [hd]; rfl))
        clear hC hf' hn' hd
        go_wp2_with fail
        refine HC.out.mono ?_
        rintro e w1 ⟨rfl, hb1⟩
        obtain ⟨b0, b1, b2⟩ := three_on hb1 a0 a1 a2
        have HB1 := Lib.hid (bext HB.out hb1)
        clear hb1 a0 a1 a2
        go_wp2_with fail
        go_roundw
        case rel => exact ⟨k + 1, by omega, by go_num, HE.out, HB1.out, b0, b1, b2⟩
        case measure => simp [intOf]; omega
    · obtain rfl : k = ks.length := by omega
      go_wp2_with fail
      go_ret
      have h9 := HN.out
      rw [List.take_length] at h9
      exact ⟨by rw [← not_any_not, h9]; rfl, HB.out⟩

set_option maxRecDepth 100000 in
set_option maxHeartbeats 4000000 in
theorem rright_one_all (m : Nat) (hm : m < 1000) (ih : RRightOk m) (ks : List Xp) (hl : ¬ (ks.length : Int) < 2) (a : Option Addr) (c : Nat) (w : World) (hk : Xids w Any a ks) (hks : ks.length ≤ 9223372036854775807) (hcap : ks.length ≤ c) :
    Calls Tryd.prog 12 #[.agg #[.string ⟨#[124, 124]⟩, .string ⟨#[]⟩, .slice a ks.length c], .int .i64 ((m : Int) + 1)] w fun e w' => e = .returned (.bool (ks.all (rightX m))) ∧ Below w.heap.size w w' := by
  have hp : ¬ (m : Int) + 1 < 1 := by omega
  have HI := Lib.hid ih
  have HK := Lib.hid hk
  have hwm : wrap64 ((m : Int) + 1 - 1) = m := by simp [wrap64]; omega
  have hwm2 : IntKind.i64.wrap (m : Int) = m := by rw [IntKind.wrap_i64]; omega
  have HB0 := Lib.hid (below_alloc w (.cells #[.string ⟨#[124, 124]⟩, .string ⟨#[]⟩, .slice a ks.length c] 24))
  clear ih hk
  go_enter Tryd.func12, Tryd.ntmps12
  go_wp2_with fail
  go_loopw [6] (fun i wr => ∃ k : Nat, k ≤ ks.length ∧ i = .int .i64 k ∧ (ks.take k).any (fun t => !rightX m t) = false ∧ Below w.heap.size w wr ∧
    (wr.cell? ⟨w.heap.size, 0, none⟩ = some (.string ⟨#[124, 124]⟩) ∧ wr.cell? ⟨w.heap.size, 1, none⟩ = some (.string ⟨#[]⟩) ∧ wr.cell? ⟨w.heap.size, 2, none⟩ = some (.slice a ks.length c))) (fun i _ => ks.length - (intOf i).toNat)
  case atStart => exact ⟨0, by omega, rfl, by simp, HB0.out, by simp [go_sem], by simp [go_sem], by simp [go_sem]⟩
  case round =>
    obtain ⟨k, hk1, rfl, hn, hb, a0, a1, a2⟩ := hrel
    have HN := Lib.hid hn
    have HB := Lib.hid hb
    clear hb hn
    by_cases hlt : k < ks.length
    · obtain ⟨b, off, a', c', ha, -, ⟨h0', h1', h2'⟩, hf', hn'⟩ := (HK.out.on HB.out).get hlt
      subst ha
      have hC := HI.out ks[k] a' c' wr hn' hf'
      have hbb : b < wr.heap.size := cell_lt1 h0'
      cases hd : rightX m ks[k] with
      | false =>
        rw [hd] at hC
        have HC := Lib.hid hC
        have HE := Lib.hid (any_at (q := fun t => !rightX m t) hlt (by rw [hd]; rfl))
        clear hC hf' hn' hd
        go_wp2_with fail
        refine HC.out.mono ?_
        rintro e w1 ⟨rfl, hb1⟩
        have HB1 := Lib.hid (bext HB.out hb1)
        clear hb1
        go_wp2_with fail
        go_ret
        exact ⟨by rw [← not_any_not, HE.out]; rfl, HB1.out⟩
      | true =>
        rw [hd] at hC
        have HC := Lib.hid hC
        have HE := Lib.hid (any_take (q := fun t => !rightX m t) hlt HN.out (by rw [hd]; rfl))
        clear hC hf' hn' hd
        go_wp2_with fail
        refine HC.out.mono ?_
        rintro e w1 ⟨rfl, hb1⟩
        obtain ⟨b0, b1, b2⟩ := three_on hb1 a0 a1 a2
        have HB1 := Lib.hid (bext HB.out hb1)
        clear hb1 a0 a1 a2
        go_wp2_with fail
        go_roundw
        case rel => exact ⟨k + 1, by omega, by go_num, HE.out, HB1.out, b0, b1, b2⟩
        case measure => simp [intOf]; omega
    · obtain rfl : k = ks.length := by omega
      go_wp2_with fail
      go_ret
      have h9 := HN.out
      rw [List.take_length] at h9
      exact ⟨by rw [← not_any_not, h9]; rfl, HB.out⟩

set_option maxRecDepth 100000 in
set_option maxHeartbeats 1000000 in
theorem rright_any : ∀ (n : Nat), n ≤ 1000 → RRightOk n := by
  intro n
  induction n with
  | zero => exact fun _ => rright_zero
  | succ m ihm =>
    intro hm t a c w hk hf
    have ih := ihm (by omega)
    obtain ⟨o, s, ks⟩ := t
    obtain ⟨f1, hs, hcap, hc63, f5⟩ := hf
    simp only [Xp.op_mk, Xp.tag_mk, Xp.kids_mk] at f1 hs hcap f5 hk ⊢
    have hks : ks.length ≤ 9223372036854775807 := by omega
    rw [Int.natCast_succ, rightX_mk']
    rcases sign_cases o with rfl | rfl | h | ho
    · rw [if_pos rfl]
      exact rright_leaf m (by omega) s ks a c w hs hks
    · rw [if_neg (by decide), if_pos rfl]
      cases s with
      | cons d s =>
        have e : (decide (ks.length = 1) && ((d :: s).isEmpty && ks.all (rightX m))) = false := by simp
        rw [e]
        exact rright_not_tag m (by omega) (d :: s) ks a c w rfl rfl
      | nil =>
        by_cases h1 : ks.length = 1
        · have e : (decide (ks.length = 1) && (([] : List UInt8).isEmpty && ks.all (rightX m))) = ks.all (rightX m) := by simp [h1]
          rw [e]
          exact rright_not_all m (by omega) ih ks (by simp [h1]) a c w hk hks hcap
        · have e : (decide (ks.length = 1) && (([] : List UInt8).isEmpty && ks.all (rightX m))) = false := by simp [h1]
          rw [e]
          exact rright_not_bad m (by omega) ks a c w (by simp; omega)
    · have hne : ¬ o = [] := by rcases h with rfl | rfl <;> decide
      have hne2 : ¬ o = [33] := by rcases h with rfl | rfl <;> decide
      rw [if_neg hne, if_neg hne2, if_pos h]
      cases s with
      | cons d s =>
        have e : (decide (2 ≤ ks.length) && ((d :: s).isEmpty && ks.all (rightX m))) = false := by simp
        rw [e]
        rcases h with rfl | rfl
        · exact rright_both_tag m (by omega) (d :: s) ks a c w rfl rfl
        · exact rright_one_tag m (by omega) (d :: s) ks a c w rfl rfl
      | nil =>
        by_cases h1 : 2 ≤ ks.length
        · have e : (decide (2 ≤ ks.length) && (([] : List UInt8).isEmpty && ks.all (rightX m))) = ks.all (rightX m) := by simp [h1]
          rw [e]
          rcases h with rfl | rfl
          · exact rright_both_all m (by omega) ih ks (by omega) a c w hk hks hcap
          · exact rright_one_all m (by omega) ih ks (by omega) a c w hk hks hcap
        · have e : (decide (2 ≤ ks.length) && (([] : List UInt8).isEmpty && ks.all (rightX m))) = false := by simp [h1]
          rw [e]
          rcases h with rfl | rfl
          · exact rright_both_bad m (by omega) ks a c w (by omega)
          · exact rright_one_bad m (by omega) ks a c w (by omega)
    · rw [if_neg ho.2.1, if_neg ho.2.2.1, if_neg (by rintro (h | h); exact ho.2.2.2.1 h; exact ho.2.2.2.2 h)]
      cases s with
      | cons d s => exact rright_none_tag m (by omega) (d :: s) ks a c w o ho rfl rfl
      | nil => exact rright_none m (by omega) ks a c w o ho
end Go.Proofs.YtagaoilgnhdebaaDoor
