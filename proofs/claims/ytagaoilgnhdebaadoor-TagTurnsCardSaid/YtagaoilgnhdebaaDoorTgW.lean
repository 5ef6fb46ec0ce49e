/-
  tag: least, Least: walked, of right constraints. (printed by gen_tagleast.py)
-/
import Derived.Test.YtagaoilgnhdebaaDoorTgU
import Derived.Test.YtagaoilgnhdebaaDoorTgS
namespace Go.Proofs.YtagaoilgnhdebaaDoor
set_option linter.unusedSimpArgs false
set_option linter.unusedVariables false
open Go.RowKit

theorem infoI : (Tryd.prog.info? 3).map (fun i => (i.zero, i.size, i.bytes)) = some (some (.int .i64 0), 1, 8) := by kernel_rfl
theorem cell_one_new (w : World) (v : Value) (t : TypeId) : ∀ j u, [v][j]? = some u → (w.alloc (.cells #[v] t)).cell? ((⟨w.heap.size, 0, none⟩ : Addr).add j) = some u := by
  intro j u h
  match j with
  | 0 =>
    simp at h; subst h
    simp [Addr.add]
  | j + 1 => simp at h
/-- What least answers at n, of any right constraint. -/
def LeastOk (n : Nat) : Prop := ∀ (t : Xp) (a : Option Addr) (c : Nat) (w : World), Env w → rightX n t = true → Xids w Any a t.kids → Fitx t c →
  Calls Tryd.prog 27 #[.agg #[.string ⟨t.op.toArray⟩, .string ⟨t.tag.toArray⟩, .slice a t.kids.length c]] w fun e w' => e = .returned (.int .i64 (leastX n t)) ∧ Below w.heap.size w w'
theorem leastX_mk (n : Nat) (op tag : List UInt8) (kids : List Xp) : leastX (n + 1) (.mk op tag kids) = if op = [] then verT tag
    else if op = [38, 38] then maxL (kids.map (leastX n))
    else if op = [124, 124] then minL (kids.map (leastX n))
    else -1 := by rw [leastX]; rfl

set_option maxRecDepth 100000 in
set_option maxHeartbeats 4000000 in
theorem least_leaf (n : Nat) (ih : LeastOk n) (tag : List UInt8) (kids : List Xp) (a : Option Addr) (c : Nat) (w : World) (hE : Env w) (hk : Xids w Any a kids) (hf : Fitx (.mk [] tag kids) c) (hr : ∀ k, k ∈ kids → rightX n k = true) :
    Calls Tryd.prog 27 #[.agg #[.string ⟨#[]⟩, .string ⟨tag.toArray⟩, .slice a kids.length c]] w fun e w' => e = .returned (.int .i64 (verT tag)) ∧ Below w.heap.size w w' := by
  obtain ⟨-, hs2, hcap, hc63, hc57⟩ := hf
  simp only [Xp.tag_mk, Xp.kids_mk] at hs2 hcap hc57
  have hl63 : kids.length ≤ 9223372036854775807 := by omega
  obtain ⟨ii, hi, hz0, hz1, hz2⟩ := info_parts infoI
  have HI := Lib.hid ih
  have HK := Lib.hid hk
  have HE := Lib.hid hE
  have HR := Lib.hid hr
  have HB0 := Lib.hid (below_alloc w (.cells #[.string ⟨#[]⟩, .string ⟨tag.toArray⟩, .slice a kids.length c] 29))
  clear ih hk hE hr
  go_enter Tryd.func27, Tryd.ntmps27
  go_wp2_with fail
  go_loopw [3, 9] (fun v i wr => ∃ k : Nat, k ≤ kids.length ∧ i = .int .i64 k ∧ wr.ownsRow (w.heap.size + 1) 3 1 v k (((kids.take k).map (leastX n)).map valI) ∧ Below w.heap.size w wr ∧
    (wr.cell? ⟨w.heap.size, 0, none⟩ = some (.string ⟨#[]⟩) ∧ wr.cell? ⟨w.heap.size, 1, none⟩ = some (.string ⟨tag.toArray⟩) ∧ wr.cell? ⟨w.heap.size, 2, none⟩ = some (.slice a kids.length c))) (fun _ i _ => kids.length - (intOf i).toNat)
  case atStart => exact ⟨0, by omega, rfl, World.ownsRow_nil _ _ _ _, HB0.out, by simp [go_sem], by simp [go_sem], by simp [go_sem]⟩
  case round =>
    obtain ⟨k, hk1, rfl, hown, hb, a0, a1, a2⟩ := hrel
    have HB := Lib.hid hb
    have HOWN := Lib.hid hown
    clear hb hown
    by_cases hlt : k < kids.length
    · obtain ⟨b, off, a', c', ha, -, ⟨h0', h1', h2'⟩, hf', hn'⟩ := (HK.out.on HB.out).get hlt
      subst ha
      have hal := below_alloc wr (.cells #[.string ⟨kids[k].op.toArray⟩, .string ⟨kids[k].tag.toArray⟩, .slice a' kids[k].kids.length c'] 29)
      have HC := Lib.hid (HI.out kids[k] a' c' _ ((HE.out.on HB.out).on hal) (HR.out _ (List.getElem_mem hlt)) (hn'.on hal) hf')
      have hbb : b < wr.heap.size := cell_lt1 h0'
      clear hf' hn' hal
      go_wp2_with fail
      refine HC.out.mono ?_
      rintro e w1 ⟨rfl, hb1'⟩
      have hb1 := bext (below_alloc wr (.cells #[.string ⟨kids[k].op.toArray⟩, .string ⟨kids[k].tag.toArray⟩, .slice a' kids[k].kids.length c'] 29)) hb1'
      obtain ⟨b0, b1, b2⟩ := three_on' hb1 a0 a1 a2
      have hown1 : w1.ownsRow (w.heap.size + 1) 3 1 u3 k (((kids.take k).map (leastX n)).map valI) := ownsRow_of HOWN.out (fun g hg => hb1.block g (own_lt HOWN.out g hg).2)
      have hs1 : w.heap.size + 1 ≤ w1.heap.size := by have := cell_lt1 b0; show w.heap.size < _; exact this
      have HB1 := Lib.hid (bext HB.out hb1)
      clear hb1 hb1' a0 a1 a2 HOWN
      go_wp2_with (at_builtin; refine wpList_append_own _ rfl _ _ 61 rfl (w.heap.size + 1) 3 ii (.int .i64 0) 1 8 Tryd.underlying61 hi hz0 hz1 hz2 rfl (by decide) _ _ _ rfl (hown1.alloc _) ⟨w1.heap.size, 0, none⟩ 1 1 [.int .i64 (leastX n kids[k])] rfl rfl (cell_one_new _ _ _) (by simp [Value.oneCell']) (by unfold maxLen; omega) (by omega) (by simp; omega) ?_; intro v' w2 hown2 hgrow _)
      have hlt1 := own_lt hown1
      have hb2 : Below w.heap.size w w2 := (HB1.out.alloc HB1.out.size _).grown hgrow (by have := HB1.out.size; simp; omega) (fun j e => by have := (hlt1 j e).1; omega)
      have hne : ∀ o : Nat, some (⟨w.heap.size, o, none⟩ : Addr).block ≠ u3.ownBlock := fun o e => by have := (hlt1 _ e.symm).1; simp at this; omega
      have d0 := World.grownBy.cell hgrow (cell_al _ b0) (hne 0)
      have d1 := World.grownBy.cell hgrow (cell_al _ b1) (hne 1)
      have d2 := World.grownBy.cell hgrow (cell_al _ b2) (hne 2)
      have HB2 := Lib.hid hb2
      have hmap : ((kids.take k).map (leastX n)).map valI ++ [.int .i64 (leastX n kids[k])] = ((kids.take (k + 1)).map (leastX n)).map valI := by
        rw [List.take_succ_eq_append_getElem hlt, List.map_append, List.map_append]; rfl
      rw [hmap] at hown2
      have HOWN2 := Lib.hid hown2
      clear hown1 hown2 hgrow hlt1 hne hmap hb2
      go_wp2_with fail
      go_roundw
      case rel => exact ⟨k + 1, by omega, by go_num, HOWN2.out, HB2.out, d0, d1, d2⟩
      case measure => simp [intOf]; omega
    · obtain rfl : k = kids.length := by omega
      rw [List.take_length] at HOWN
      have HV := Lib.hid (version_any tag wr (HE.out.on HB.out) hs2)
      go_wp2_with fail
      refine HV.out.mono ?_
      rintro e w1 ⟨rfl, hb1⟩
      have HB1 := Lib.hid (bext HB.out hb1.out)
      clear hb1
      go_wp2_with fail
      refine bodyPost_ret (v := .int .i64 (verT tag)) (by simp [results, Tryd.results27, go_sem]) rfl ⟨rfl, HB1.out⟩

set_option maxRecDepth 100000 in
set_option maxHeartbeats 4000000 in
theorem least_not (n : Nat) (ih : LeastOk n) (tag : List UInt8) (kids : List Xp) (a : Option Addr) (c : Nat) (w : World) (hE : Env w) (hk : Xids w Any a kids) (hf : Fitx (.mk [33] tag kids) c) (hr : ∀ k, k ∈ kids → rightX n k = true) :
    Calls Tryd.prog 27 #[.agg #[.string ⟨#[33]⟩, .string ⟨tag.toArray⟩, .slice a kids.length c]] w fun e w' => e = .returned (.int .i64 (-1)) ∧ Below w.heap.size w w' := by
  obtain ⟨-, hs2, hcap, hc63, hc57⟩ := hf
  simp only [Xp.tag_mk, Xp.kids_mk] at hs2 hcap hc57
  have hl63 : kids.length ≤ 9223372036854775807 := by omega
  obtain ⟨ii, hi, hz0, hz1, hz2⟩ := info_parts infoI
  have HI := Lib.hid ih
  have HK := Lib.hid hk
  have HE := Lib.hid hE
  have HR := Lib.hid hr
  have HB0 := Lib.hid (below_alloc w (.cells #[.string ⟨#[33]⟩, .string ⟨tag.toArray⟩, .slice a kids.length c] 29))
  clear ih hk hE hr
  go_enter Tryd.func27, Tryd.ntmps27
  go_wp2_with fail
  go_loopw [3, 9] (fun v i wr => ∃ k : Nat, k ≤ kids.length ∧ i = .int .i64 k ∧ wr.ownsRow (w.heap.size + 1) 3 1 v k (((kids.take k).map (leastX n)).map valI) ∧ Below w.heap.size w wr ∧
    (wr.cell? ⟨w.heap.size, 0, none⟩ = some (.string ⟨#[33]⟩) ∧ wr.cell? ⟨w.heap.size, 1, none⟩ = some (.string ⟨tag.toArray⟩) ∧ wr.cell? ⟨w.heap.size, 2, none⟩ = some (.slice a kids.length c))) (fun _ i _ => kids.length - (intOf i).toNat)
  case atStart => exact ⟨0, by omega, rfl, World.ownsRow_nil _ _ _ _, HB0.out, by simp [go_sem], by simp [go_sem], by simp [go_sem]⟩
  case round =>
    obtain ⟨k, hk1, rfl, hown, hb, a0, a1, a2⟩ := hrel
    have HB := Lib.hid hb
    have HOWN := Lib.hid hown
    clear hb hown
    by_cases hlt : k < kids.length
    · obtain ⟨b, off, a', c', ha, -, ⟨h0', h1', h2'⟩, hf', hn'⟩ := (HK.out.on HB.out).get hlt
      subst ha
      have hal := below_alloc wr (.cells #[.string ⟨kids[k].op.toArray⟩, .string ⟨kids[k].tag.toArray⟩, .slice a' kids[k].kids.length c'] 29)
      have HC := Lib.hid (HI.out kids[k] a' c' _ ((HE.out.on HB.out).on hal) (HR.out _ (List.getElem_mem hlt)) (hn'.on hal) hf')
      have hbb : b < wr.heap.size := cell_lt1 h0'
      clear hf' hn' hal
      go_wp2_with fail
      refine HC.out.mono ?_
      rintro e w1 ⟨rfl, hb1'⟩
      have hb1 := bext (below_alloc wr (.cells #[.string ⟨kids[k].op.toArray⟩, .string ⟨kids[k].tag.toArray⟩, .slice a' kids[k].kids.length c'] 29)) hb1'
      obtain ⟨b0, b1, b2⟩ := three_on' hb1 a0 a1 a2
      have hown1 : w1.ownsRow (w.heap.size + 1) 3 1 u3 k (((kids.take k).map (leastX n)).map valI) := ownsRow_of HOWN.out (fun g hg => hb1.block g (own_lt HOWN.out g hg).2)
      have hs1 : w.heap.size + 1 ≤ w1.heap.size := by have := cell_lt1 b0; show w.heap.size < _; exact this
      have HB1 := Lib.hid (bext HB.out hb1)
      clear hb1 hb1' a0 a1 a2 HOWN
      go_wp2_with (at_builtin; refine wpList_append_own _ rfl _ _ 61 rfl (w.heap.size + 1) 3 ii (.int .i64 0) 1 8 Tryd.underlying61 hi hz0 hz1 hz2 rfl (by decide) _ _ _ rfl (hown1.alloc _) ⟨w1.heap.size, 0, none⟩ 1 1 [.int .i64 (leastX n kids[k])] rfl rfl (cell_one_new _ _ _) (by simp [Value.oneCell']) (by unfold maxLen; omega) (by omega) (by simp; omega) ?_; intro v' w2 hown2 hgrow _)
      have hlt1 := own_lt hown1
      have hb2 : Below w.heap.size w w2 := (HB1.out.alloc HB1.out.size _).grown hgrow (by have := HB1.out.size; simp; omega) (fun j e => by have := (hlt1 j e).1; omega)
      have hne : ∀ o : Nat, some (⟨w.heap.size, o, none⟩ : Addr).block ≠ u3.ownBlock := fun o e => by have := (hlt1 _ e.symm).1; simp at this; omega
      have d0 := World.grownBy.cell hgrow (cell_al _ b0) (hne 0)
      have d1 := World.grownBy.cell hgrow (cell_al _ b1) (hne 1)
      have d2 := World.grownBy.cell hgrow (cell_al _ b2) (hne 2)
      have HB2 := Lib.hid hb2
      have hmap : ((kids.take k).map (leastX n)).map valI ++ [.int .i64 (leastX n kids[k])] = ((kids.take (k + 1)).map (leastX n)).map valI := by
        rw [List.take_succ_eq_append_getElem hlt, List.map_append, List.map_append]; rfl
      rw [hmap] at hown2
      have HOWN2 := Lib.hid hown2
      clear hown1 hown2 hgrow hlt1 hne hmap hb2
      go_wp2_with fail
      go_roundw
      case rel => exact ⟨k + 1, by omega, by go_num, HOWN2.out, HB2.out, d0, d1, d2⟩
      case measure => simp [intOf]; omega
    · obtain rfl : k = kids.length := by omega
      rw [List.take_length] at HOWN
      go_wp2_with fail
      refine bodyPost_ret (v := .int .i64 (-1)) (by simp [results, Tryd.results27, go_sem]) rfl ⟨rfl, HB.out⟩

set_option maxRecDepth 100000 in
set_option maxHeartbeats 4000000 in
theorem least_both (n : Nat) (ih : LeastOk n) (tag : List UInt8) (kids : List Xp) (a : Option Addr) (c : Nat) (w : World) (hE : Env w) (hk : Xids w Any a kids) (hf : Fitx (.mk [38, 38] tag kids) c) (hr : ∀ k, k ∈ kids → rightX n k = true) (h0 : 2 ≤ kids.length) :
    Calls Tryd.prog 27 #[.agg #[.string ⟨#[38, 38]⟩, .string ⟨tag.toArray⟩, .slice a kids.length c]] w fun e w' => e = .returned (.int .i64 (maxL (kids.map (leastX n)))) ∧ Below w.heap.size w w' := by
  obtain ⟨-, hs2, hcap, hc63, hc57⟩ := hf
  simp only [Xp.tag_mk, Xp.kids_mk] at hs2 hcap hc57
  have hl63 : kids.length ≤ 9223372036854775807 := by omega
  obtain ⟨ii, hi, hz0, hz1, hz2⟩ := info_parts infoI
  have HI := Lib.hid ih
  have HK := Lib.hid hk
  have HE := Lib.hid hE
  have HR := Lib.hid hr
  have HB0 := Lib.hid (below_alloc w (.cells #[.string ⟨#[38, 38]⟩, .string ⟨tag.toArray⟩, .slice a kids.length c] 29))
  clear ih hk hE hr
  go_enter Tryd.func27, Tryd.ntmps27
  go_wp2_with fail
  go_loopw [3, 9] (fun v i wr => ∃ k : Nat, k ≤ kids.length ∧ i = .int .i64 k ∧ wr.ownsRow (w.heap.size + 1) 3 1 v k (((kids.take k).map (leastX n)).map valI) ∧ Below w.heap.size w wr ∧
    (wr.cell? ⟨w.heap.size, 0, none⟩ = some (.string ⟨#[38, 38]⟩) ∧ wr.cell? ⟨w.heap.size, 1, none⟩ = some (.string ⟨tag.toArray⟩) ∧ wr.cell? ⟨w.heap.size, 2, none⟩ = some (.slice a kids.length c))) (fun _ i _ => kids.length - (intOf i).toNat)
  case atStart => exact ⟨0, by omega, rfl, World.ownsRow_nil _ _ _ _, HB0.out, by simp [go_sem], by simp [go_sem], by simp [go_sem]⟩
  case round =>
    obtain ⟨k, hk1, rfl, hown, hb, a0, a1, a2⟩ := hrel
    have HB := Lib.hid hb
    have HOWN := Lib.hid hown
    clear hb hown
    by_cases hlt : k < kids.length
    · obtain ⟨b, off, a', c', ha, -, ⟨h0', h1', h2'⟩, hf', hn'⟩ := (HK.out.on HB.out).get hlt
      subst ha
      have hal := below_alloc wr (.cells #[.string ⟨kids[k].op.toArray⟩, .string ⟨kids[k].tag.toArray⟩, .slice a' kids[k].kids.length c'] 29)
      have HC := Lib.hid (HI.out kids[k] a' c' _ ((HE.out.on HB.out).on hal) (HR.out _ (List.getElem_mem hlt)) (hn'.on hal) hf')
      have hbb : b < wr.heap.size := cell_lt1 h0'
      clear hf' hn' hal
      go_wp2_with fail
      refine HC.out.mono ?_
      rintro e w1 ⟨rfl, hb1'⟩
      have hb1 := bext (below_alloc wr (.cells #[.string ⟨kids[k].op.toArray⟩, .string ⟨kids[k].tag.toArray⟩, .slice a' kids[k].kids.length c'] 29)) hb1'
      obtain ⟨b0, b1, b2⟩ := three_on' hb1 a0 a1 a2
      have hown1 : w1.ownsRow (w.heap.size + 1) 3 1 u3 k (((kids.take k).map (leastX n)).map valI) := ownsRow_of HOWN.out (fun g hg => hb1.block g (own_lt HOWN.out g hg).2)
      have hs1 : w.heap.size + 1 ≤ w1.heap.size := by have := cell_lt1 b0; show w.heap.size < _; exact this
      have HB1 := Lib.hid (bext HB.out hb1)
      clear hb1 hb1' a0 a1 a2 HOWN
      go_wp2_with (at_builtin; refine wpList_append_own _ rfl _ _ 61 rfl (w.heap.size + 1) 3 ii (.int .i64 0) 1 8 Tryd.underlying61 hi hz0 hz1 hz2 rfl (by decide) _ _ _ rfl (hown1.alloc _) ⟨w1.heap.size, 0, none⟩ 1 1 [.int .i64 (leastX n kids[k])] rfl rfl (cell_one_new _ _ _) (by simp [Value.oneCell']) (by unfold maxLen; omega) (by omega) (by simp; omega) ?_; intro v' w2 hown2 hgrow _)
      have hlt1 := own_lt hown1
      have hb2 : Below w.heap.size w w2 := (HB1.out.alloc HB1.out.size _).grown hgrow (by have := HB1.out.size; simp; omega) (fun j e => by have := (hlt1 j e).1; omega)
      have hne : ∀ o : Nat, some (⟨w.heap.size, o, none⟩ : Addr).block ≠ u3.ownBlock := fun o e => by have := (hlt1 _ e.symm).1; simp at this; omega
      have d0 := World.grownBy.cell hgrow (cell_al _ b0) (hne 0)
      have d1 := World.grownBy.cell hgrow (cell_al _ b1) (hne 1)
      have d2 := World.grownBy.cell hgrow (cell_al _ b2) (hne 2)
      have HB2 := Lib.hid hb2
      have hmap : ((kids.take k).map (leastX n)).map valI ++ [.int .i64 (leastX n kids[k])] = ((kids.take (k + 1)).map (leastX n)).map valI := by
        rw [List.take_succ_eq_append_getElem hlt, List.map_append, List.map_append]; rfl
      rw [hmap] at hown2
      have HOWN2 := Lib.hid hown2
      clear hown1 hown2 hgrow hlt1 hne hmap hb2
      go_wp2_with fail
      go_roundw
      case rel => exact ⟨k + 1, by omega, by go_num, HOWN2.out, HB2.out, d0, d1, d2⟩
      case measure => simp [intOf]; omega
    · obtain rfl : k = kids.length := by omega
      rw [List.take_length] at HOWN
      have HOW := HOWN.out
      rw [show kids.length = (kids.map (leastX n)).length by simp] at HOW
      have HV := Lib.hid (max_any HOW (by intro e; simp at e; subst e; simp at h0) (by simp; omega))
      clear HOW
      go_wp2_with fail
      refine HV.out.mono ?_
      rintro e w1 ⟨rfl, h9⟩
      obtain rfl := h9
      go_wp2_with fail
      refine bodyPost_ret (v := .int .i64 (maxL (kids.map (leastX n)))) (by simp [results, Tryd.results27, go_sem]) rfl ⟨rfl, HB.out⟩

set_option maxRecDepth 100000 in
set_option maxHeartbeats 4000000 in
theorem least_one (n : Nat) (ih : LeastOk n) (tag : List UInt8) (kids : List Xp) (a : Option Addr) (c : Nat) (w : World) (hE : Env w) (hk : Xids w Any a kids) (hf : Fitx (.mk [124, 124] tag kids) c) (hr : ∀ k, k ∈ kids → rightX n k = true) (h0 : 2 ≤ kids.length) :
    Calls Tryd.prog 27 #[.agg #[.string ⟨#[124, 124]⟩, .string ⟨tag.toArray⟩, .slice a kids.length c]] w fun e w' => e = .returned (.int .i64 (minL (kids.map (leastX n)))) ∧ Below w.heap.size w w' := by
  obtain ⟨-, hs2, hcap, hc63, hc57⟩ := hf
  simp only [Xp.tag_mk, Xp.kids_mk] at hs2 hcap hc57
  have hl63 : kids.length ≤ 9223372036854775807 := by omega
  obtain ⟨ii, hi, hz0, hz1, hz2⟩ := info_parts infoI
  have HI := Lib.hid ih
  have HK := Lib.hid hk
  have HE := Lib.hid hE
  have HR := Lib.hid hr
  have HB0 := Lib.hid (below_alloc w (.cells #[.string ⟨#[124, 124]⟩, .string ⟨tag.toArray⟩, .slice a kids.length c] 29))
  clear ih hk hE hr
  go_enter Tryd.func27, Tryd.ntmps27
  go_wp2_with fail
  go_loopw [3, 9] (fun v i wr => ∃ k : Nat, k ≤ kids.length ∧ i = .int .i64 k ∧ wr.ownsRow (w.heap.size + 1) 3 1 v k (((kids.take k).map (leastX n)).map valI) ∧ Below w.heap.size w wr ∧
    (wr.cell? ⟨w.heap.size, 0, none⟩ = some (.string ⟨#[124, 124]⟩) ∧ wr.cell? ⟨w.heap.size, 1, none⟩ = some (.string ⟨tag.toArray⟩) ∧ wr.cell? ⟨w.heap.size, 2, none⟩ = some (.slice a kids.length c))) (fun _ i _ => kids.length - (intOf i).toNat)
  case atStart => exact ⟨0, by omega, rfl, World.ownsRow_nil _ _ _ _, HB0.out, by simp [go_sem], by simp [go_sem], by simp [go_sem]⟩
  case round =>
    obtain ⟨k, hk1, rfl, hown, hb, a0, a1, a2⟩ := hrel
    have HB := Lib.hid hb
    have HOWN := Lib.hid hown
    clear hb hown
    by_cases hlt : k < kids.length
    · obtain ⟨b, off, a', c', ha, -, ⟨h0', h1', h2'⟩, hf', hn'⟩ := (HK.out.on HB.out).get hlt
      subst ha
      have hal := below_alloc wr (.cells #[.string ⟨kids[k].op.toArray⟩, .string ⟨kids[k].tag.toArray⟩, .slice a' kids[k].kids.length c'] 29)
      have HC := Lib.hid (HI.out kids[k] a' c' _ ((HE.out.on HB.out).on hal) (HR.out _ (List.getElem_mem hlt)) (hn'.on hal) hf')
      have hbb : b < wr.heap.size := cell_lt1 h0'
      clear hf' hn' hal
      go_wp2_with fail
      refine HC.out.mono ?_
      rintro e w1 ⟨rfl, hb1'⟩
      have hb1 := bext (below_alloc wr (.cells #[.string ⟨kids[k].op.toArray⟩, .string ⟨kids[k].tag.toArray⟩, .slice a' kids[k].kids.length c'] 29)) hb1'
      obtain ⟨b0, b1, b2⟩ := three_on' hb1 a0 a1 a2
      have hown1 : w1.ownsRow (w.heap.size + 1) 3 1 u3 k (((kids.take k).map (leastX n)).map valI) := ownsRow_of HOWN.out (fun g hg => hb1.block g (own_lt HOWN.out g hg).2)
      have hs1 : w.heap.size + 1 ≤ w1.heap.size := by have := cell_lt1 b0; show w.heap.size < _; exact this
      have HB1 := Lib.hid (bext HB.out hb1)
      clear hb1 hb1' a0 a1 a2 HOWN
      go_wp2_with (at_builtin; refine wpList_append_own _ rfl _ _ 61 rfl (w.heap.size + 1) 3 ii (.int .i64 0) 1 8 Tryd.underlying61 hi hz0 hz1 hz2 rfl (by decide) _ _ _ rfl (hown1.alloc _) ⟨w1.heap.size, 0, none⟩ 1 1 [.int .i64 (leastX n kids[k])] rfl rfl (cell_one_new _ _ _) (by simp [Value.oneCell']) (by unfold maxLen; omega) (by omega) (by simp; omega) ?_; intro v' w2 hown2 hgrow _)
      have hlt1 := own_lt hown1
      have hb2 : Below w.heap.size w w2 := (HB1.out.alloc HB1.out.size _).grown hgrow (by have := HB1.out.size; simp; omega) (fun j e => by have := (hlt1 j e).1; omega)
      have hne : ∀ o : Nat, some (⟨w.heap.size, o, none⟩ : Addr).block ≠ u3.ownBlock := fun o e => by have := (hlt1 _ e.symm).1; simp at this; omega
      have d0 := World.grownBy.cell hgrow (cell_al _ b0) (hne 0)
      have d1 := World.grownBy.cell hgrow (cell_al _ b1) (hne 1)
      have d2 := World.grownBy.cell hgrow (cell_al _ b2) (hne 2)
      have HB2 := Lib.hid hb2
      have hmap : ((kids.take k).map (leastX n)).map valI ++ [.int .i64 (leastX n kids[k])] = ((kids.take (k + 1)).map (leastX n)).map valI := by
        rw [List.take_succ_eq_append_getElem hlt, List.map_append, List.map_append]; rfl
      rw [hmap] at hown2
      have HOWN2 := Lib.hid hown2
      clear hown1 hown2 hgrow hlt1 hne hmap hb2
      go_wp2_with fail
      go_roundw
      case rel => exact ⟨k + 1, by omega, by go_num, HOWN2.out, HB2.out, d0, d1, d2⟩
      case measure => simp [intOf]; omega
    · obtain rfl : k = kids.length := by omega
      rw [List.take_length] at HOWN
      have HOW := HOWN.out
      rw [show kids.length = (kids.map (leastX n)).length by simp] at HOW
      have HV := Lib.hid (min_any HOW (by intro e; simp at e; subst e; simp at h0) (by simp; omega))
      clear HOW
      go_wp2_with fail
      refine HV.out.mono ?_
      rintro e w1 ⟨rfl, h9⟩
      obtain rfl := h9
      go_wp2_with fail
      refine bodyPost_ret (v := .int .i64 (minL (kids.map (leastX n)))) (by simp [results, Tryd.results27, go_sem]) rfl ⟨rfl, HB.out⟩

theorem least_any : ∀ (n : Nat), LeastOk n
  | 0 => fun t a c w hE hR => by cases hR
  | n + 1 => fun t a c w hE hR hk hf => by
    have ih := least_any n
    rcases right_cases hR with ⟨s, rfl, hs⟩ | ⟨k, rfl, hk1⟩ | ⟨l, rfl, hl, hl2⟩ | ⟨l, rfl, hl, hl2⟩
    · rw [leastX_mk, if_pos rfl]
      exact least_leaf n ih s [] a c w hE hk hf (fun k hk => by cases hk)
    · rw [leastX_mk, if_neg (by decide), if_neg (by decide), if_neg (by decide)]
      exact least_not n ih [] [k] a c w hE hk hf (fun x hx => by rw [List.mem_singleton.1 hx]; exact hk1)
    · rw [leastX_mk, if_neg (by decide), if_pos rfl]
      exact least_both n ih [] l a c w hE hk hf hl2 hl
    · rw [leastX_mk, if_neg (by decide), if_neg (by decide), if_pos rfl]
      exact least_one n ih [] l a c w hE hk hf hl2 hl

/-- Least. -/
def leastR (t : Xp) : Int := if rightX 100 t then leastX 100 t else -1
set_option maxHeartbeats 1000000 in
theorem Least_any (t : Xp) (a : Option Addr) (c : Nat) (w : World) (hE : Env w) (hk : Xids w Any a t.kids) (hf : Fitx t c) :
    Calls Tryd.prog 15 #[.agg #[.string ⟨t.op.toArray⟩, .string ⟨t.tag.toArray⟩, .slice a t.kids.length c]] w fun e w' => e = .returned (.int .i64 (leastR t)) ∧ Below w.heap.size w w' := by
  have hb0 := below_alloc w (.cells #[.string ⟨t.op.toArray⟩, .string ⟨t.tag.toArray⟩, .slice a t.kids.length c] 29)
  have HR := Right_any t a c _ (hk.on hb0) hf
  have HB := Lib.hid hb0
  obtain ⟨wa, hwa⟩ : ∃ wa, w.alloc (.cells #[.string ⟨t.op.toArray⟩, .string ⟨t.tag.toArray⟩, .slice a t.kids.length c] 29) = wa := ⟨_, rfl⟩
  have c0 : wa.cell? ⟨w.heap.size, 0, none⟩ = some (.string ⟨t.op.toArray⟩) := by rw [← hwa]; simp [go_sem]
  have c1 : wa.cell? ⟨w.heap.size, 1, none⟩ = some (.string ⟨t.tag.toArray⟩) := by rw [← hwa]; simp [go_sem]
  have c2 : wa.cell? ⟨w.heap.size, 2, none⟩ = some (.slice a t.kids.length c) := by rw [← hwa]; simp [go_sem]
  rw [hwa] at HR HB
  have HK := Lib.hid (hk.on HB.out)
  have HE := Lib.hid (hE.on HB.out)
  have HH := Lib.hid fun (W : World) (h : rightX 100 t = true) (e : Env W) (k : Xids W Any a t.kids) => least_any 100 t a c W e h k hf
  unfold leastR
  clear hb0 hk hf hE
  cases hR : rightX 100 t with
  | false =>
    rw [hR] at HR
    have HR' := Lib.hid HR
    clear HR
    go_enter Tryd.func15, Tryd.ntmps15
    go_wp2_with fail
    refine HR'.out.mono ?_
    rintro e w1 ⟨rfl, hb1⟩
    have HB1 := Lib.hid (bext HB.out hb1)
    clear hb1
    go_wp2_with fail
    refine bodyPost_ret (v := .int .i64 (-1)) (by simp [results, Tryd.results15, go_sem]) rfl ⟨rfl, HB1.out⟩
  | true =>
    rw [hR] at HR
    have HR' := Lib.hid HR
    have HRX := Lib.hid hR
    clear HR
    go_enter Tryd.func15, Tryd.ntmps15
    go_wp2_with fail
    refine HR'.out.mono ?_
    rintro e w1 ⟨rfl, hb1⟩
    obtain ⟨d0, d1, d2⟩ := three_on' hb1 c0 c1 c2
    have H2 := Lib.hid (HH.out w1 HRX.out (HE.out.on hb1) (HK.out.on hb1))
    have HB1 := Lib.hid (bext HB.out hb1)
    clear hb1
    go_wp2_with fail
    refine H2.out.mono ?_
    rintro e w2 ⟨rfl, hb2⟩
    have HB2 := Lib.hid (bext HB1.out hb2)
    clear hb2
    go_wp2_with fail
    refine bodyPost_ret (v := .int .i64 (leastX 100 t)) (by simp [results, Tryd.results15, go_sem]) rfl ⟨rfl, HB2.out⟩
end Go.Proofs.YtagaoilgnhdebaaDoor
