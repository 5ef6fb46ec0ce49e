/-
  tag: write, Write: walked, of right constraints. (printed by gen_tagwrite.py)
-/
import Derived.Test.YtagaoilgnhdebaaDoorTgW
import Derived.Test.YtagaoilgnhdebaaDoorTgPa
namespace Go.Proofs.YtagaoilgnhdebaaDoor
set_option linter.unusedSimpArgs false
set_option linter.unusedVariables false
open Go.RowKit

theorem infoS : (Tryd.prog.info? 9).map (fun i => (i.zero, i.size, i.bytes)) = some (some (.string ByteArray.empty), 1, 16) := by kernel_rfl
theorem cat_two (s t : List UInt8) : (⟨s.toArray⟩ : ByteArray) ++ ⟨t.toArray⟩ = ⟨(s ++ t).toArray⟩ := by
  apply ByteArray.ext; simp [ByteArray.data_append]
theorem cat_brackets (J : List UInt8) : (⟨#[40]⟩ : ByteArray) ++ ⟨J.toArray⟩ ++ ⟨#[41]⟩ = ⟨([40] ++ J ++ [41]).toArray⟩ := by
  rw [← cat_two, ← cat_two]
/-- Which way write's test goes. -/
theorem sign_arms (op within : List UInt8) : ((within == [33]) = true ∧ (within = [33] ∨ within = [38, 38] ∨ within = op)) ∨ ((within == [33]) = false ∧ (within == [38, 38]) = true ∧ (within = [33] ∨ within = [38, 38] ∨ within = op)) ∨
    ((within == [33]) = false ∧ (within == [38, 38]) = false ∧ (within == op) = true ∧ (within = [33] ∨ within = [38, 38] ∨ within = op)) ∨ ((within == [33]) = false ∧ (within == [38, 38]) = false ∧ (within == op) = false ∧ ¬ (within = [33] ∨ within = [38, 38] ∨ within = op)) := by
  by_cases h1 : within = [33]
  · exact .inl ⟨by simpa using h1, .inl h1⟩
  · by_cases h2 : within = [38, 38]
    · exact .inr (.inl ⟨by simpa using h1, by simpa using h2, .inr (.inl h2)⟩)
    · by_cases h3 : within = op
      · exact .inr (.inr (.inl ⟨by simpa using h1, by simpa using h2, by simpa using h3, .inr (.inr h3)⟩))
      · exact .inr (.inr (.inr ⟨by simpa using h1, by simpa using h2, by simpa using h3, by rintro (h | h | h) <;> contradiction⟩))
/-- What write answers at n, of any right constraint. -/
def WriteOk (n : Nat) : Prop := ∀ (t : Xp) (a : Option Addr) (c : Nat) (within : List UInt8) (w : World), rightX n t = true → Xids w Any a t.kids → Fitx t c → (writeX n t within).length ≤ 140737488351232 →
  Calls Tryd.prog 28 #[.agg #[.string ⟨t.op.toArray⟩, .string ⟨t.tag.toArray⟩, .slice a t.kids.length c], .string ⟨within.toArray⟩] w fun e w' => e = .returned (.string ⟨(writeX n t within).toArray⟩) ∧ Below w.heap.size w w'

set_option maxRecDepth 100000 in
set_option maxHeartbeats 4000000 in
theorem write_leaf (n : Nat) (ih : WriteOk n) (tag within : List UInt8) (kids : List Xp) (a : Option Addr) (c : Nat) (w : World) (hk : Xids w Any a kids) (hf : Fitx (.mk [] tag kids) c) (hr : ∀ k, k ∈ kids → rightX n k = true) (hlen : ∀ k, k ∈ kids → (writeX n k []).length ≤ 140737488351232) :
    Calls Tryd.prog 28 #[.agg #[.string ⟨#[]⟩, .string ⟨tag.toArray⟩, .slice a kids.length c], .string ⟨within.toArray⟩] w fun e w' => e = .returned (.string ⟨(tag).toArray⟩) ∧ Below w.heap.size w w' := by
  obtain ⟨-, hs2, hcap, hc63, hc57⟩ := hf
  simp only [Xp.tag_mk, Xp.kids_mk] at hs2 hcap hc57
  have hl63 : kids.length ≤ 9223372036854775807 := by omega
  obtain ⟨ii, hi, hz0, hz1, hz2⟩ := info_parts infoS
  have HI := Lib.hid ih
  have HK := Lib.hid hk
  have HR := Lib.hid hr
  have HL := Lib.hid hlen
  have HB0 := Lib.hid (below_alloc w (.cells #[.string ⟨#[]⟩, .string ⟨tag.toArray⟩, .slice a kids.length c] 29))
  clear ih hk hr hlen
  go_enter Tryd.func28, Tryd.ntmps28
  go_wp2_with fail
  go_loopw [5, 12] (fun v i wr => ∃ k : Nat, k ≤ kids.length ∧ i = .int .i64 k ∧ wr.ownsRow (w.heap.size + 1) 9 1 v k (((kids.take k).map fun k => writeX n k []).map valS) ∧ Below w.heap.size w wr ∧
    (wr.cell? ⟨w.heap.size, 0, none⟩ = some (.string ⟨#[]⟩) ∧ wr.cell? ⟨w.heap.size, 1, none⟩ = some (.string ⟨tag.toArray⟩) ∧ wr.cell? ⟨w.heap.size, 2, none⟩ = some (.slice a kids.length c))) (fun _ i _ => kids.length - (intOf i).toNat)
  case atStart => exact ⟨0, by omega, rfl, World.ownsRow_nil _ _ _ _, HB0.out, by simp [go_sem], by simp [go_sem], by simp [go_sem]⟩
  case round =>
    obtain ⟨k, hk1, rfl, hown, hb, a0, a1, a2⟩ := hrel
    have HB := Lib.hid hb
    have HOWN := Lib.hid hown
    clear hb hown
    by_cases hlt : k < kids.length
    · obtain ⟨b, off, a', c', ha, -, ⟨h0', h1', h2'⟩, hf', hn'⟩ := (HK.out.on HB.out).get hlt
      subst ha
      have hal := below_alloc wr (.cells #[.string ⟨kids[k].op.toArray⟩, .string ⟨kids[k].tag.toArray⟩, .slice a' kids[k].kids.length c'] 29)
      have HC := Lib.hid (HI.out kids[k] a' c' [] _ (HR.out _ (List.getElem_mem hlt)) (hn'.on hal) hf' (HL.out _ (List.getElem_mem hlt)))
      have hbb : b < wr.heap.size := cell_lt1 h0'
      have hBl : w.heap.size < wr.heap.size := cell_lt1 a0
      clear hf' hn' hal
      go_wp2_with fail
      refine HC.out.mono ?_
      rintro e w1 ⟨rfl, hb1'⟩
      have hb1 := bext (below_alloc wr (.cells #[.string ⟨kids[k].op.toArray⟩, .string ⟨kids[k].tag.toArray⟩, .slice a' kids[k].kids.length c'] 29)) hb1'
      obtain ⟨b0, b1, b2⟩ := three_on' hb1 a0 a1 a2
      have hown1 : w1.ownsRow (w.heap.size + 1) 9 1 u5 k (((kids.take k).map fun k => writeX n k []).map valS) := ownsRow_of HOWN.out (fun g hg => hb1.block g (own_lt HOWN.out g hg).2)
      have hs1 : w.heap.size + 1 ≤ w1.heap.size := by have := cell_lt1 b0; show w.heap.size < _; exact this
      have HB1 := Lib.hid (bext HB.out hb1)
      clear hb1 hb1' a0 a1 a2 HOWN
      go_wp2_with (at_builtin; refine wpList_append_own _ rfl _ _ 25 rfl (w.heap.size + 1) 9 ii (.string ByteArray.empty) 1 16 Tryd.underlying25 hi hz0 hz1 hz2 rfl (by decide) _ _ _ rfl (hown1.alloc _) ⟨w1.heap.size, 0, none⟩ 1 1 [.string ⟨(writeX n kids[k] []).toArray⟩] rfl rfl (cell_one_new _ _ _) (by simp [Value.oneCell']) (by unfold maxLen; omega) (by omega) (by simp; omega) ?_; intro v' w2 hown2 hgrow _)
      have hlt1 := own_lt hown1
      have hb2 : Below w.heap.size w w2 := (HB1.out.alloc HB1.out.size _).grown hgrow (by have := HB1.out.size; simp; omega) (fun j e => by have := (hlt1 j e).1; omega)
      have hne : ∀ o : Nat, some (⟨w.heap.size, o, none⟩ : Addr).block ≠ u5.ownBlock := fun o e => by have := (hlt1 _ e.symm).1; simp at this; omega
      have d0 := World.grownBy.cell hgrow (cell_al _ b0) (hne 0)
      have d1 := World.grownBy.cell hgrow (cell_al _ b1) (hne 1)
      have d2 := World.grownBy.cell hgrow (cell_al _ b2) (hne 2)
      have HB2 := Lib.hid hb2
      have hmap : ((kids.take k).map fun k => writeX n k []).map valS ++ [.string ⟨(writeX n kids[k] []).toArray⟩] = ((kids.take (k + 1)).map fun k => writeX n k []).map valS := by
        rw [List.take_succ_eq_append_getElem hlt, List.map_append, List.map_append]; rfl
      rw [hmap] at hown2
      have HOWN2 := Lib.hid hown2
      clear hown1 hown2 hgrow hlt1 hne hmap hb2
      go_wp2_with fail
      go_roundw
      case rel => exact ⟨k + 1, by omega, by go_num, HOWN2.out, HB2.out, d0, d1, d2⟩
      case measure => simp [intOf]; omega
    · obtain rfl : k = kids.length := by omega
      rw [List.take_length] at HOWN
      have hBl : w.heap.size < wr.heap.size := cell_lt1 a0
      go_wp2_with fail
      go_ret
      exact ⟨rfl, HB.out⟩

set_option maxRecDepth 100000 in
set_option maxHeartbeats 4000000 in
theorem write_not_any (n : Nat) (ih : WriteOk n) (tag within : List UInt8) (kids : List Xp) (a : Option Addr) (c : Nat) (w : World) (hk : Xids w Any a kids) (hf : Fitx (.mk [33] tag kids) c) (hr : ∀ k, k ∈ kids → rightX n k = true) (hlen : ∀ k, k ∈ kids → (writeX n k [33]).length ≤ 140737488351232) (H0 : Hid (kids.length = 1)) :
    Calls Tryd.prog 28 #[.agg #[.string ⟨#[33]⟩, .string ⟨tag.toArray⟩, .slice a kids.length c], .string ⟨within.toArray⟩] w fun e w' => e = .returned (.string ⟨([33] ++ writeX n (kids.headD default) [33]).toArray⟩) ∧ Below w.heap.size w w' := by
  obtain ⟨-, hs2, hcap, hc63, hc57⟩ := hf
  simp only [Xp.tag_mk, Xp.kids_mk] at hs2 hcap hc57
  have hl63 : kids.length ≤ 9223372036854775807 := by omega
  obtain ⟨ii, hi, hz0, hz1, hz2⟩ := info_parts infoS
  have HI := Lib.hid ih
  have HK := Lib.hid hk
  have HR := Lib.hid hr
  have HL := Lib.hid hlen
  have HB0 := Lib.hid (below_alloc w (.cells #[.string ⟨#[33]⟩, .string ⟨tag.toArray⟩, .slice a kids.length c] 29))
  obtain ⟨RES, hRES⟩ : ∃ RES, ([33] ++ writeX n (kids.headD default) [33]) = RES := ⟨_, rfl⟩
  rw [hRES]
  have HRES := Lib.hid hRES
  clear ih hk hr hlen hRES
  go_enter Tryd.func28, Tryd.ntmps28
  go_wp2_with fail
  go_loopw [5, 12] (fun v i wr => ∃ k : Nat, k ≤ kids.length ∧ i = .int .i64 k ∧ wr.ownsRow (w.heap.size + 1) 9 1 v k (((kids.take k).map fun k => writeX n k [33]).map valS) ∧ Below w.heap.size w wr ∧
    (wr.cell? ⟨w.heap.size, 0, none⟩ = some (.string ⟨#[33]⟩) ∧ wr.cell? ⟨w.heap.size, 1, none⟩ = some (.string ⟨tag.toArray⟩) ∧ wr.cell? ⟨w.heap.size, 2, none⟩ = some (.slice a kids.length c))) (fun _ i _ => kids.length - (intOf i).toNat)
  case atStart => exact ⟨0, by omega, rfl, World.ownsRow_nil _ _ _ _, HB0.out, by simp [go_sem], by simp [go_sem], by simp [go_sem]⟩
  case round =>
    obtain ⟨k, hk1, rfl, hown, hb, a0, a1, a2⟩ := hrel
    have HB := Lib.hid hb
    have HOWN := Lib.hid hown
    clear hb hown
    by_cases hlt : k < kids.length
    · obtain ⟨b, off, a', c', ha, -, ⟨h0', h1', h2'⟩, hf', hn'⟩ := (HK.out.on HB.out).get hlt
      subst ha
      have hal := below_alloc wr (.cells #[.string ⟨kids[k].op.toArray⟩, .string ⟨kids[k].tag.toArray⟩, .slice a' kids[k].kids.length c'] 29)
      have HC := Lib.hid (HI.out kids[k] a' c' [33] _ (HR.out _ (List.getElem_mem hlt)) (hn'.on hal) hf' (HL.out _ (List.getElem_mem hlt)))
      have hbb : b < wr.heap.size := cell_lt1 h0'
      have hBl : w.heap.size < wr.heap.size := cell_lt1 a0
      clear hf' hn' hal
      go_wp2_with fail
      refine HC.out.mono ?_
      rintro e w1 ⟨rfl, hb1'⟩
      have hb1 := bext (below_alloc wr (.cells #[.string ⟨kids[k].op.toArray⟩, .string ⟨kids[k].tag.toArray⟩, .slice a' kids[k].kids.length c'] 29)) hb1'
      obtain ⟨b0, b1, b2⟩ := three_on' hb1 a0 a1 a2
      have hown1 : w1.ownsRow (w.heap.size + 1) 9 1 u5 k (((kids.take k).map fun k => writeX n k [33]).map valS) := ownsRow_of HOWN.out (fun g hg => hb1.block g (own_lt HOWN.out g hg).2)
      have hs1 : w.heap.size + 1 ≤ w1.heap.size := by have := cell_lt1 b0; show w.heap.size < _; exact this
      have HB1 := Lib.hid (bext HB.out hb1)
      clear hb1 hb1' a0 a1 a2 HOWN
      go_wp2_with (at_builtin; refine wpList_append_own _ rfl _ _ 25 rfl (w.heap.size + 1) 9 ii (.string ByteArray.empty) 1 16 Tryd.underlying25 hi hz0 hz1 hz2 rfl (by decide) _ _ _ rfl (hown1.alloc _) ⟨w1.heap.size, 0, none⟩ 1 1 [.string ⟨(writeX n kids[k] [33]).toArray⟩] rfl rfl (cell_one_new _ _ _) (by simp [Value.oneCell']) (by unfold maxLen; omega) (by omega) (by simp; omega) ?_; intro v' w2 hown2 hgrow _)
      have hlt1 := own_lt hown1
      have hb2 : Below w.heap.size w w2 := (HB1.out.alloc HB1.out.size _).grown hgrow (by have := HB1.out.size; simp; omega) (fun j e => by have := (hlt1 j e).1; omega)
      have hne : ∀ o : Nat, some (⟨w.heap.size, o, none⟩ : Addr).block ≠ u5.ownBlock := fun o e => by have := (hlt1 _ e.symm).1; simp at this; omega
      have d0 := World.grownBy.cell hgrow (cell_al _ b0) (hne 0)
      have d1 := World.grownBy.cell hgrow (cell_al _ b1) (hne 1)
      have d2 := World.grownBy.cell hgrow (cell_al _ b2) (hne 2)
      have HB2 := Lib.hid hb2
      have hmap : ((kids.take k).map fun k => writeX n k [33]).map valS ++ [.string ⟨(writeX n kids[k] [33]).toArray⟩] = ((kids.take (k + 1)).map fun k => writeX n k [33]).map valS := by
        rw [List.take_succ_eq_append_getElem hlt, List.map_append, List.map_append]; rfl
      rw [hmap] at hown2
      have HOWN2 := Lib.hid hown2
      clear hown1 hown2 hgrow hlt1 hne hmap hb2
      go_wp2_with fail
      go_roundw
      case rel => exact ⟨k + 1, by omega, by go_num, HOWN2.out, HB2.out, d0, d1, d2⟩
      case measure => simp [intOf]; omega
    · obtain rfl : k = kids.length := by omega
      rw [List.take_length] at HOWN
      have hBl : w.heap.size < wr.heap.size := cell_lt1 a0
      have h0 := H0.out
      obtain ⟨g, cap, rfl, hg1, hg2, hcp, hcl⟩ := own_cells HOWN.out (by omega)
      have g0 := hcl 0 (by omega)
      have hLn := HL.out
      obtain ⟨T, hT, hT2, hTl⟩ : ∃ T, (kids.map fun k => writeX n k [33])[0]? = some T ∧ writeX n (kids.headD default) [33] = T ∧ T.length ≤ 140737488351232 := by
        match kids, h0, hLn with
        | [k], _, hLn => exact ⟨_, rfl, rfl, hLn k (by simp)⟩
      rw [List.getElem?_map, hT, Option.map_some, valS] at g0
      have HR2 := Lib.hid (show RES = [33] ++ T by rw [← HRES.out, ← hT2])
      have HCAT := Lib.hid (cat_two [33] T)
      have hl0 : 0 < kids.length := by omega
      clear hcl hT hT2 h0 hLn
      go_wp2_with fail
      refine bodyPost_ret (v := .string (⟨#[33]⟩ ++ ⟨T.toArray⟩)) (by simp [results, Tryd.results28, go_sem]) rfl ⟨?_, HB.out⟩
      rw [HR2.out]
      first | rw [HCAT.out] | (show Ending.returned (.string _) = _; rw [← HCAT.out]; rfl)

set_option maxRecDepth 100000 in
set_option maxHeartbeats 4000000 in
theorem write_both (n : Nat) (ih : WriteOk n) (tag within : List UInt8) (kids : List Xp) (a : Option Addr) (c : Nat) (w : World) (hk : Xids w Any a kids) (hf : Fitx (.mk [38, 38] tag kids) c) (hr : ∀ k, k ∈ kids → rightX n k = true) (hlen : ∀ k, k ∈ kids → (writeX n k [38, 38]).length ≤ 140737488351232) (h0 : 2 ≤ kids.length) (hj : (joinL ([32] ++ [38, 38] ++ [32]) (kids.map fun k => writeX n k [38, 38])).length ≤ 140737488351232) :
    Calls Tryd.prog 28 #[.agg #[.string ⟨#[38, 38]⟩, .string ⟨tag.toArray⟩, .slice a kids.length c], .string ⟨within.toArray⟩] w fun e w' => e = .returned (.string ⟨(signed [38, 38] within (joinL ([32] ++ [38, 38] ++ [32]) (kids.map fun k => writeX n k [38, 38]))).toArray⟩) ∧ Below w.heap.size w w' := by
  obtain ⟨-, hs2, hcap, hc63, hc57⟩ := hf
  simp only [Xp.tag_mk, Xp.kids_mk] at hs2 hcap hc57
  have hl63 : kids.length ≤ 9223372036854775807 := by omega
  obtain ⟨ii, hi, hz0, hz1, hz2⟩ := info_parts infoS
  have HI := Lib.hid ih
  have HK := Lib.hid hk
  have HR := Lib.hid hr
  have HL := Lib.hid hlen
  have HB0 := Lib.hid (below_alloc w (.cells #[.string ⟨#[38, 38]⟩, .string ⟨tag.toArray⟩, .slice a kids.length c] 29))
  obtain ⟨RES, hRES⟩ : ∃ RES, (signed [38, 38] within (joinL ([32] ++ [38, 38] ++ [32]) (kids.map fun k => writeX n k [38, 38]))) = RES := ⟨_, rfl⟩
  rw [hRES]
  have HRES := Lib.hid hRES
  clear ih hk hr hlen hRES
  go_enter Tryd.func28, Tryd.ntmps28
  go_wp2_with fail
  go_loopw [5, 12] (fun v i wr => ∃ k : Nat, k ≤ kids.length ∧ i = .int .i64 k ∧ wr.ownsRow (w.heap.size + 1) 9 1 v k (((kids.take k).map fun k => writeX n k [38, 38]).map valS) ∧ Below w.heap.size w wr ∧
    (wr.cell? ⟨w.heap.size, 0, none⟩ = some (.string ⟨#[38, 38]⟩) ∧ wr.cell? ⟨w.heap.size, 1, none⟩ = some (.string ⟨tag.toArray⟩) ∧ wr.cell? ⟨w.heap.size, 2, none⟩ = some (.slice a kids.length c))) (fun _ i _ => kids.length - (intOf i).toNat)
  case atStart => exact ⟨0, by omega, rfl, World.ownsRow_nil _ _ _ _, HB0.out, by simp [go_sem], by simp [go_sem], by simp [go_sem]⟩
  case round =>
    obtain ⟨k, hk1, rfl, hown, hb, a0, a1, a2⟩ := hrel
    have HB := Lib.hid hb
    have HOWN := Lib.hid hown
    clear hb hown
    by_cases hlt : k < kids.length
    · obtain ⟨b, off, a', c', ha, -, ⟨h0', h1', h2'⟩, hf', hn'⟩ := (HK.out.on HB.out).get hlt
      subst ha
      have hal := below_alloc wr (.cells #[.string ⟨kids[k].op.toArray⟩, .string ⟨kids[k].tag.toArray⟩, .slice a' kids[k].kids.length c'] 29)
      have HC := Lib.hid (HI.out kids[k] a' c' [38, 38] _ (HR.out _ (List.getElem_mem hlt)) (hn'.on hal) hf' (HL.out _ (List.getElem_mem hlt)))
      have hbb : b < wr.heap.size := cell_lt1 h0'
      have hBl : w.heap.size < wr.heap.size := cell_lt1 a0
      clear hf' hn' hal
      go_wp2_with fail
      refine HC.out.mono ?_
      rintro e w1 ⟨rfl, hb1'⟩
      have hb1 := bext (below_alloc wr (.cells #[.string ⟨kids[k].op.toArray⟩, .string ⟨kids[k].tag.toArray⟩, .slice a' kids[k].kids.length c'] 29)) hb1'
      obtain ⟨b0, b1, b2⟩ := three_on' hb1 a0 a1 a2
      have hown1 : w1.ownsRow (w.heap.size + 1) 9 1 u5 k (((kids.take k).map fun k => writeX n k [38, 38]).map valS) := ownsRow_of HOWN.out (fun g hg => hb1.block g (own_lt HOWN.out g hg).2)
      have hs1 : w.heap.size + 1 ≤ w1.heap.size := by have := cell_lt1 b0; show w.heap.size < _; exact this
      have HB1 := Lib.hid (bext HB.out hb1)
      clear hb1 hb1' a0 a1 a2 HOWN
      go_wp2_with (at_builtin; refine wpList_append_own _ rfl _ _ 25 rfl (w.heap.size + 1) 9 ii (.string ByteArray.empty) 1 16 Tryd.underlying25 hi hz0 hz1 hz2 rfl (by decide) _ _ _ rfl (hown1.alloc _) ⟨w1.heap.size, 0, none⟩ 1 1 [.string ⟨(writeX n kids[k] [38, 38]).toArray⟩] rfl rfl (cell_one_new _ _ _) (by simp [Value.oneCell']) (by unfold maxLen; omega) (by omega) (by simp; omega) ?_; intro v' w2 hown2 hgrow _)
      have hlt1 := own_lt hown1
      have hb2 : Below w.heap.size w w2 := (HB1.out.alloc HB1.out.size _).grown hgrow (by have := HB1.out.size; simp; omega) (fun j e => by have := (hlt1 j e).1; omega)
      have hne : ∀ o : Nat, some (⟨w.heap.size, o, none⟩ : Addr).block ≠ u5.ownBlock := fun o e => by have := (hlt1 _ e.symm).1; simp at this; omega
      have d0 := World.grownBy.cell hgrow (cell_al _ b0) (hne 0)
      have d1 := World.grownBy.cell hgrow (cell_al _ b1) (hne 1)
      have d2 := World.grownBy.cell hgrow (cell_al _ b2) (hne 2)
      have HB2 := Lib.hid hb2
      have hmap : ((kids.take k).map fun k => writeX n k [38, 38]).map valS ++ [.string ⟨(writeX n kids[k] [38, 38]).toArray⟩] = ((kids.take (k + 1)).map fun k => writeX n k [38, 38]).map valS := by
        rw [List.take_succ_eq_append_getElem hlt, List.map_append, List.map_append]; rfl
      rw [hmap] at hown2
      have HOWN2 := Lib.hid hown2
      clear hown1 hown2 hgrow hlt1 hne hmap hb2
      go_wp2_with fail
      go_roundw
      case rel => exact ⟨k + 1, by omega, by go_num, HOWN2.out, HB2.out, d0, d1, d2⟩
      case measure => simp [intOf]; omega
    · obtain rfl : k = kids.length := by omega
      rw [List.take_length] at HOWN
      have hBl : w.heap.size < wr.heap.size := cell_lt1 a0
      obtain ⟨J, hJ⟩ : ∃ J, joinL ([32] ++ [38, 38] ++ [32]) (kids.map fun k => writeX n k [38, 38]) = J := ⟨_, rfl⟩
      have HOW := HOWN.out
      rw [show kids.length = (kids.map fun k => writeX n k [38, 38]).length by simp] at HOW
      have HV := Lib.hid (join_any (sep := [32] ++ [38, 38] ++ [32]) HOW (by intro e; simp at e; subst e; simp at h0) (by simp; omega) (by have := hj; omega))
      rw [hJ] at HV hj
      have HR2 := Lib.hid (show RES = signed [38, 38] within J by rw [← HRES.out, hJ])
      clear HOW hJ
      rcases sign_arms [38, 38] within with ⟨e1, hs⟩ | ⟨e1, e2, hs⟩ | ⟨e1, e2, e3, hs⟩ | ⟨e1, e2, e3, hs⟩
      · have HS := Lib.hid (show signed [38, 38] within J = [40] ++ J ++ [41] by rw [signed, if_pos hs])
        have HCAT := Lib.hid (cat_brackets J)
        clear hs
        go_wp2_with fail
        refine HV.out.mono ?_
        rintro e w1 ⟨rfl, hb1⟩
        obtain ⟨d0, d1, d2⟩ := three_on' hb1 a0 a1 a2
        have HB1 := Lib.hid (bext HB.out hb1)
        have hBl1 : w.heap.size < w1.heap.size := cell_lt1 d0
        clear hb1
        go_wp2_with fail
        go_ret
        refine ⟨?_, HB1.out⟩
        rw [HR2.out, HS.out]
        first | (rw [HCAT.out]; rfl) | (show Ending.returned (.string _) = _; rw [← HCAT.out]; rfl)
      · have HS := Lib.hid (show signed [38, 38] within J = [40] ++ J ++ [41] by rw [signed, if_pos hs])
        have HCAT := Lib.hid (cat_brackets J)
        clear hs
        go_wp2_with fail
        refine HV.out.mono ?_
        rintro e w1 ⟨rfl, hb1⟩
        obtain ⟨d0, d1, d2⟩ := three_on' hb1 a0 a1 a2
        have HB1 := Lib.hid (bext HB.out hb1)
        have hBl1 : w.heap.size < w1.heap.size := cell_lt1 d0
        clear hb1
        go_wp2_with fail
        go_ret
        refine ⟨?_, HB1.out⟩
        rw [HR2.out, HS.out]
        first | (rw [HCAT.out]; rfl) | (show Ending.returned (.string _) = _; rw [← HCAT.out]; rfl)
      · exact absurd (e2.symm.trans e3) (by decide)
      · have HS := Lib.hid (show signed [38, 38] within J = J by rw [signed, if_neg hs])
        have HCAT := Lib.hid (cat_brackets J)
        clear hs
        go_wp2_with fail
        refine HV.out.mono ?_
        rintro e w1 ⟨rfl, hb1⟩
        obtain ⟨d0, d1, d2⟩ := three_on' hb1 a0 a1 a2
        have HB1 := Lib.hid (bext HB.out hb1)
        have hBl1 : w.heap.size < w1.heap.size := cell_lt1 d0
        clear hb1
        go_wp2_with fail
        go_ret
        refine ⟨?_, HB1.out⟩
        rw [HR2.out, HS.out]
        rfl

set_option maxRecDepth 100000 in
set_option maxHeartbeats 4000000 in
theorem write_one (n : Nat) (ih : WriteOk n) (tag within : List UInt8) (kids : List Xp) (a : Option Addr) (c : Nat) (w : World) (hk : Xids w Any a kids) (hf : Fitx (.mk [124, 124] tag kids) c) (hr : ∀ k, k ∈ kids → rightX n k = true) (hlen : ∀ k, k ∈ kids → (writeX n k [124, 124]).length ≤ 140737488351232) (h0 : 2 ≤ kids.length) (hj : (joinL ([32] ++ [124, 124] ++ [32]) (kids.map fun k => writeX n k [124, 124])).length ≤ 140737488351232) :
    Calls Tryd.prog 28 #[.agg #[.string ⟨#[124, 124]⟩, .string ⟨tag.toArray⟩, .slice a kids.length c], .string ⟨within.toArray⟩] w fun e w' => e = .returned (.string ⟨(signed [124, 124] within (joinL ([32] ++ [124, 124] ++ [32]) (kids.map fun k => writeX n k [124, 124]))).toArray⟩) ∧ Below w.heap.size w w' := by
  obtain ⟨-, hs2, hcap, hc63, hc57⟩ := hf
  simp only [Xp.tag_mk, Xp.kids_mk] at hs2 hcap hc57
  have hl63 : kids.length ≤ 9223372036854775807 := by omega
  obtain ⟨ii, hi, hz0, hz1, hz2⟩ := info_parts infoS
  have HI := Lib.hid ih
  have HK := Lib.hid hk
  have HR := Lib.hid hr
  have HL := Lib.hid hlen
  have HB0 := Lib.hid (below_alloc w (.cells #[.string ⟨#[124, 124]⟩, .string ⟨tag.toArray⟩, .slice a kids.length c] 29))
  obtain ⟨RES, hRES⟩ : ∃ RES, (signed [124, 124] within (joinL ([32] ++ [124, 124] ++ [32]) (kids.map fun k => writeX n k [124, 124]))) = RES := ⟨_, rfl⟩
  rw [hRES]
  have HRES := Lib.hid hRES
  clear ih hk hr hlen hRES
  go_enter Tryd.func28, Tryd.ntmps28
  go_wp2_with fail
  go_loopw [5, 12] (fun v i wr => ∃ k : Nat, k ≤ kids.length ∧ i = .int .i64 k ∧ wr.ownsRow (w.heap.size + 1) 9 1 v k (((kids.take k).map fun k => writeX n k [124, 124]).map valS) ∧ Below w.heap.size w wr ∧
    (wr.cell? ⟨w.heap.size, 0, none⟩ = some (.string ⟨#[124, 124]⟩) ∧ wr.cell? ⟨w.heap.size, 1, none⟩ = some (.string ⟨tag.toArray⟩) ∧ wr.cell? ⟨w.heap.size, 2, none⟩ = some (.slice a kids.length c))) (fun _ i _ => kids.length - (intOf i).toNat)
  case atStart => exact ⟨0, by omega, rfl, World.ownsRow_nil _ _ _ _, HB0.out, by simp [go_sem], by simp [go_sem], by simp [go_sem]⟩
  case round =>
    obtain ⟨k, hk1, rfl, hown, hb, a0, a1, a2⟩ := hrel
    have HB := Lib.hid hb
    have HOWN := Lib.hid hown
    clear hb hown
    by_cases hlt : k < kids.length
    · obtain ⟨b, off, a', c', ha, -, ⟨h0', h1', h2'⟩, hf', hn'⟩ := (HK.out.on HB.out).get hlt
      subst ha
      have hal := below_alloc wr (.cells #[.string ⟨kids[k].op.toArray⟩, .string ⟨kids[k].tag.toArray⟩, .slice a' kids[k].kids.length c'] 29)
      have HC := Lib.hid (HI.out kids[k] a' c' [124, 124] _ (HR.out _ (List.getElem_mem hlt)) (hn'.on hal) hf' (HL.out _ (List.getElem_mem hlt)))
      have hbb : b < wr.heap.size := cell_lt1 h0'
      have hBl : w.heap.size < wr.heap.size := cell_lt1 a0
      clear hf' hn' hal
      go_wp2_with fail
      refine HC.out.mono ?_
      rintro e w1 ⟨rfl, hb1'⟩
      have hb1 := bext (below_alloc wr (.cells #[.string ⟨kids[k].op.toArray⟩, .string ⟨kids[k].tag.toArray⟩, .slice a' kids[k].kids.length c'] 29)) hb1'
      obtain ⟨b0, b1, b2⟩ := three_on' hb1 a0 a1 a2
      have hown1 : w1.ownsRow (w.heap.size + 1) 9 1 u5 k (((kids.take k).map fun k => writeX n k [124, 124]).map valS) := ownsRow_of HOWN.out (fun g hg => hb1.block g (own_lt HOWN.out g hg).2)
      have hs1 : w.heap.size + 1 ≤ w1.heap.size := by have := cell_lt1 b0; show w.heap.size < _; exact this
      have HB1 := Lib.hid (bext HB.out hb1)
      clear hb1 hb1' a0 a1 a2 HOWN
      go_wp2_with (at_builtin; refine wpList_append_own _ rfl _ _ 25 rfl (w.heap.size + 1) 9 ii (.string ByteArray.empty) 1 16 Tryd.underlying25 hi hz0 hz1 hz2 rfl (by decide) _ _ _ rfl (hown1.alloc _) ⟨w1.heap.size, 0, none⟩ 1 1 [.string ⟨(writeX n kids[k] [124, 124]).toArray⟩] rfl rfl (cell_one_new _ _ _) (by simp [Value.oneCell']) (by unfold maxLen; omega) (by omega) (by simp; omega) ?_; intro v' w2 hown2 hgrow _)
      have hlt1 := own_lt hown1
      have hb2 : Below w.heap.size w w2 := (HB1.out.alloc HB1.out.size _).grown hgrow (by have := HB1.out.size; simp; omega) (fun j e => by have := (hlt1 j e).1; omega)
      have hne : ∀ o : Nat, some (⟨w.heap.size, o, none⟩ : Addr).block ≠ u5.ownBlock := fun o e => by have := (hlt1 _ e.symm).1; simp at this; omega
      have d0 := World.grownBy.cell hgrow (cell_al _ b0) (hne 0)
      have d1 := World.grownBy.cell hgrow (cell_al _ b1) (hne 1)
      have d2 := World.grownBy.cell hgrow (cell_al _ b2) (hne 2)
      have HB2 := Lib.hid hb2
      have hmap : ((kids.take k).map fun k => writeX n k [124, 124]).map valS ++ [.string ⟨(writeX n kids[k] [124, 124]).toArray⟩] = ((kids.take (k + 1)).map fun k => writeX n k [124, 124]).map valS := by
        rw [List.take_succ_eq_append_getElem hlt, List.map_append, List.map_append]; rfl
      rw [hmap] at hown2
      have HOWN2 := Lib.hid hown2
      clear hown1 hown2 hgrow hlt1 hne hmap hb2
      go_wp2_with fail
      go_roundw
      case rel => exact ⟨k + 1, by omega, by go_num, HOWN2.out, HB2.out, d0, d1, d2⟩
      case measure => simp [intOf]; omega
    · obtain rfl : k = kids.length := by omega
      rw [List.take_length] at HOWN
      have hBl : w.heap.size < wr.heap.size := cell_lt1 a0
      obtain ⟨J, hJ⟩ : ∃ J, joinL ([32] ++ [124, 124] ++ [32]) (kids.map fun k => writeX n k [124, 124]) = J := ⟨_, rfl⟩
      have HOW := HOWN.out
      rw [show kids.length = (kids.map fun k => writeX n k [124, 124]).length by simp] at HOW
      have HV := Lib.hid (join_any (sep := [32] ++ [124, 124] ++ [32]) HOW (by intro e; simp at e; subst e; simp at h0) (by simp; omega) (by have := hj; omega))
      rw [hJ] at HV hj
      have HR2 := Lib.hid (show RES = signed [124, 124] within J by rw [← HRES.out, hJ])
      clear HOW hJ
      rcases sign_arms [124, 124] within with ⟨e1, hs⟩ | ⟨e1, e2, hs⟩ | ⟨e1, e2, e3, hs⟩ | ⟨e1, e2, e3, hs⟩
      · have HS := Lib.hid (show signed [124, 124] within J = [40] ++ J ++ [41] by rw [signed, if_pos hs])
        have HCAT := Lib.hid (cat_brackets J)
        clear hs
        go_wp2_with fail
        refine HV.out.mono ?_
        rintro e w1 ⟨rfl, hb1⟩
        obtain ⟨d0, d1, d2⟩ := three_on' hb1 a0 a1 a2
        have HB1 := Lib.hid (bext HB.out hb1)
        have hBl1 : w.heap.size < w1.heap.size := cell_lt1 d0
        clear hb1
        go_wp2_with fail
        go_ret
        refine ⟨?_, HB1.out⟩
        rw [HR2.out, HS.out]
        first | (rw [HCAT.out]; rfl) | (show Ending.returned (.string _) = _; rw [← HCAT.out]; rfl)
      · have HS := Lib.hid (show signed [124, 124] within J = [40] ++ J ++ [41] by rw [signed, if_pos hs])
        have HCAT := Lib.hid (cat_brackets J)
        clear hs
        go_wp2_with fail
        refine HV.out.mono ?_
        rintro e w1 ⟨rfl, hb1⟩
        obtain ⟨d0, d1, d2⟩ := three_on' hb1 a0 a1 a2
        have HB1 := Lib.hid (bext HB.out hb1)
        have hBl1 : w.heap.size < w1.heap.size := cell_lt1 d0
        clear hb1
        go_wp2_with fail
        go_ret
        refine ⟨?_, HB1.out⟩
        rw [HR2.out, HS.out]
        first | (rw [HCAT.out]; rfl) | (show Ending.returned (.string _) = _; rw [← HCAT.out]; rfl)
      · have HS := Lib.hid (show signed [124, 124] within J = [40] ++ J ++ [41] by rw [signed, if_pos hs])
        have HCAT := Lib.hid (cat_brackets J)
        clear hs
        go_wp2_with fail
        refine HV.out.mono ?_
        rintro e w1 ⟨rfl, hb1⟩
        obtain ⟨d0, d1, d2⟩ := three_on' hb1 a0 a1 a2
        have HB1 := Lib.hid (bext HB.out hb1)
        have hBl1 : w.heap.size < w1.heap.size := cell_lt1 d0
        clear hb1
        go_wp2_with fail
        go_ret
        refine ⟨?_, HB1.out⟩
        rw [HR2.out, HS.out]
        first | (rw [HCAT.out]; rfl) | (show Ending.returned (.string _) = _; rw [← HCAT.out]; rfl)
      · have HS := Lib.hid (show signed [124, 124] within J = J by rw [signed, if_neg hs])
        have HCAT := Lib.hid (cat_brackets J)
        clear hs
        go_wp2_with fail
        refine HV.out.mono ?_
        rintro e w1 ⟨rfl, hb1⟩
        obtain ⟨d0, d1, d2⟩ := three_on' hb1 a0 a1 a2
        have HB1 := Lib.hid (bext HB.out hb1)
        have hBl1 : w.heap.size < w1.heap.size := cell_lt1 d0
        clear hb1
        go_wp2_with fail
        go_ret
        refine ⟨?_, HB1.out⟩
        rw [HR2.out, HS.out]
        rfl

theorem signed_len (op within s : List UInt8) : s.length ≤ (signed op within s).length := by
  unfold signed; split <;> simp; omega
theorem write_any : ∀ (n : Nat), WriteOk n
  | 0 => fun t a c within w hR => by cases hR
  | n + 1 => fun t a c within w hR hk hf hl => by
    have ih := write_any n
    rcases right_cases hR with ⟨s, rfl, hs⟩ | ⟨k, rfl, hk1⟩ | ⟨l, rfl, hl1, hl2⟩ | ⟨l, rfl, hl1, hl2⟩
    · rw [writeX_mk, if_neg (by decide), if_neg (by decide)]
      exact write_leaf n ih s within [] a c w hk hf (fun k hk => by cases hk) (fun k hk => by cases hk)
    · rw [writeX_mk, if_pos rfl] at hl ⊢
      exact write_not_any n ih [] within [k] a c w hk hf (fun x hx => by rw [List.mem_singleton.1 hx]; exact hk1) (fun x hx => by rw [List.mem_singleton.1 hx]; simp at hl; omega) (Lib.hid rfl)
    · rw [writeX_mk, if_neg (by decide), if_pos (.inl rfl)] at hl ⊢
      have h2 := signed_len [38, 38] within (joinL ([32] ++ [38, 38] ++ [32]) (l.map fun k => writeX n k [38, 38]))
      exact write_both n ih [] within l a c w hk hf hl2 (fun x hx => by have := mem_join_len (W := fun k => writeX n k [38, 38]) (sep := [32] ++ [38, 38] ++ [32]) hx; omega) hl1 (by omega)
    · rw [writeX_mk, if_neg (by decide), if_pos (.inr rfl)] at hl ⊢
      have h2 := signed_len [124, 124] within (joinL ([32] ++ [124, 124] ++ [32]) (l.map fun k => writeX n k [124, 124]))
      exact write_one n ih [] within l a c w hk hf hl2 (fun x hx => by have := mem_join_len (W := fun k => writeX n k [124, 124]) (sep := [32] ++ [124, 124] ++ [32]) hx; omega) hl1 (by omega)

/-- Write. -/
def writeR (t : Xp) : List UInt8 := if rightX 100 t then writeX 100 t [] else []
set_option maxHeartbeats 1000000 in
theorem Write_any (t : Xp) (a : Option Addr) (c : Nat) (w : World) (hk : Xids w Any a t.kids) (hf : Fitx t c) (hl : (writeR t).length ≤ 140737488351232) :
    Calls Tryd.prog 16 #[.agg #[.string ⟨t.op.toArray⟩, .string ⟨t.tag.toArray⟩, .slice a t.kids.length c]] w fun e w' => e = .returned (.string ⟨(writeR t).toArray⟩) ∧ Below w.heap.size w w' := by
  have hb0 := below_alloc w (.cells #[.string ⟨t.op.toArray⟩, .string ⟨t.tag.toArray⟩, .slice a t.kids.length c] 29)
  have HR := Right_any t a c _ (hk.on hb0) hf
  have HB := Lib.hid hb0
  obtain ⟨wa, hwa⟩ : ∃ wa, w.alloc (.cells #[.string ⟨t.op.toArray⟩, .string ⟨t.tag.toArray⟩, .slice a t.kids.length c] 29) = wa := ⟨_, rfl⟩
  have c0 : wa.cell? ⟨w.heap.size, 0, none⟩ = some (.string ⟨t.op.toArray⟩) := by rw [← hwa]; simp [go_sem]
  have c1 : wa.cell? ⟨w.heap.size, 1, none⟩ = some (.string ⟨t.tag.toArray⟩) := by rw [← hwa]; simp [go_sem]
  have c2 : wa.cell? ⟨w.heap.size, 2, none⟩ = some (.slice a t.kids.length c) := by rw [← hwa]; simp [go_sem]
  rw [hwa] at HR HB
  have HK := Lib.hid (hk.on HB.out)
  unfold writeR at hl ⊢
  cases hR : rightX 100 t with
  | false =>
    rw [hR] at HR
    have HR' := Lib.hid HR
    clear HR hb0 hk hf hl
    go_enter Tryd.func16, Tryd.ntmps16
    go_wp2_with fail
    refine HR'.out.mono ?_
    rintro e w1 ⟨rfl, hb1⟩
    have HB1 := Lib.hid (bext HB.out hb1)
    clear hb1
    go_wp2_with fail
    refine bodyPost_ret (v := .string ⟨#[]⟩) (by simp [results, Tryd.results16, go_sem]) rfl ⟨rfl, HB1.out⟩
  | true =>
    rw [hR] at HR hl
    simp only [if_true] at hl ⊢
    have HR' := Lib.hid HR
    have HH := Lib.hid fun (W : World) (k : Xids W Any a t.kids) => write_any 100 t a c [] W hR k hf hl
    clear HR hb0 hk hf hl
    go_enter Tryd.func16, Tryd.ntmps16
    go_wp2_with fail
    refine HR'.out.mono ?_
    rintro e w1 ⟨rfl, hb1⟩
    obtain ⟨d0, d1, d2⟩ := three_on' hb1 c0 c1 c2
    have H2 := Lib.hid (HH.out w1 (HK.out.on hb1))
    have HB1 := Lib.hid (bext HB.out hb1)
    clear hb1
    go_wp2_with fail
    refine H2.out.mono ?_
    rintro e w2 ⟨rfl, hb2⟩
    have HB2 := Lib.hid (bext HB1.out hb2)
    clear hb2
    go_wp2_with fail
    refine bodyPost_ret (v := .string ⟨(writeX 100 t []).toArray⟩) (by simp [results, Tryd.results16, go_sem]) rfl ⟨rfl, HB2.out⟩
end Go.Proofs.YtagaoilgnhdebaaDoor
