/-
  tag: the document's Write, walked, of right constraints. (printed by gen_tagrw.py)
-/
import Derived.Test.YtagaoilgnhdebaaDoorTgRc
import Derived.Test.YtagaoilgnhdebaaDoorTgY
namespace Go.Proofs.YtagaoilgnhdebaaDoor
set_option linter.unusedSimpArgs false
set_option linter.unusedVariables false
open Go.RowKit

def RWriteOk (n : Nat) : Prop := ∀ (t : Xp) (a : Option Addr) (c : Nat) (within : List UInt8) (w : World), rightX n t = true → Xids w Any a t.kids → Fitx t c → (writeX n t within).length ≤ 140737488351232 →
  Calls Tryd.prog 20 #[.agg #[.string ⟨t.op.toArray⟩, .string ⟨t.tag.toArray⟩, .slice a t.kids.length c], .string ⟨within.toArray⟩] w fun e w' => e = .returned (.string ⟨(writeX n t within).toArray⟩) ∧ Below w.heap.size w w'
theorem joinL_snoc (sep y : List UInt8) (l : List (List UInt8)) (h : l ≠ []) : joinL sep (l ++ [y]) = joinL sep l ++ (sep ++ y) := by
  cases l with
  | nil => exact absurd rfl h
  | cons x l => simp [joinL]
theorem take_map_snocS (f : Xp → List UInt8) {l : List Xp} {k : Nat} (hk : k < l.length) : (l.take (k + 1)).map f = (l.take k).map f ++ [f l[k]] := by
  rw [List.take_succ_eq_append_getElem hk, List.map_append]; rfl
theorem take_neS {l : List Xp} {k : Nat} (f : Xp → List UInt8) (hk : k < l.length) (h1 : 1 ≤ k) : (l.take k).map f ≠ [] := by
  intro e
  have := congrArg List.length e
  rw [List.length_map, List.length_take, List.length_nil] at this; omega
theorem joinL_app_len (sep : List UInt8) : ∀ (l r : List (List UInt8)), (joinL sep l).length ≤ (joinL sep (l ++ r)).length
  | [], r => by simp [joinL]
  | x :: l, r => by
    rw [List.cons_append, joinL_eq, joinL_eq, List.map_append, List.flatten_append]; simp
theorem join_take_len (sep : List UInt8) (f : Xp → List UInt8) (l : List Xp) (k : Nat) : (joinL sep ((l.take k).map f)).length ≤ (joinL sep (l.map f)).length := by
  have := joinL_app_len sep ((l.take k).map f) ((l.drop k).map f)
  rw [← List.map_append, List.take_append_drop] at this
  exact this
/-- Which way the document's test goes. -/
theorem rsign_arms (op within : List UInt8) : ((within == [33]) = true ∧ (within = [33] ∨ within = [38, 38] ∨ within = op)) ∨ ((within == [33]) = false ∧ (within == op) = true ∧ (within = [33] ∨ within = [38, 38] ∨ within = op)) ∨
    ((within == [33]) = false ∧ (within == op) = false ∧ (within == [38, 38]) = true ∧ (within = [33] ∨ within = [38, 38] ∨ within = op)) ∨ ((within == [33]) = false ∧ (within == op) = false ∧ (within == [38, 38]) = false ∧ ¬ (within = [33] ∨ within = [38, 38] ∨ within = op)) := by
  by_cases h1 : within = [33]
  · exact .inl ⟨by simpa using h1, .inl h1⟩
  · by_cases h2 : within = op
    · exact .inr (.inl ⟨by simpa using h1, by simpa using h2, .inr (.inr h2)⟩)
    · by_cases h3 : within = [38, 38]
      · exact .inr (.inr (.inl ⟨by simpa using h1, by simpa using h2, by simpa using h3, .inr (.inl h3)⟩))
      · exact .inr (.inr (.inr ⟨by simpa using h1, by simpa using h2, by simpa using h3, by rintro (h | h | h) <;> contradiction⟩))

set_option maxHeartbeats 4000000 in
theorem rwrite_leaf (s within : List UInt8) (n c : Nat) (a : Option Addr) (w : World) :
    Calls Tryd.prog 20 #[.agg #[.string ⟨#[]⟩, .string ⟨s.toArray⟩, .slice a n c], .string ⟨within.toArray⟩] w fun e w' => e = .returned (.string ⟨s.toArray⟩) ∧ Below w.heap.size w w' := by
  go_enter Tryd.func20, Tryd.ntmps20
  go_wp2_with fail
  refine bodyPost_ret (v := .string ⟨s.toArray⟩) (by simp [results, Tryd.results20, go_sem]) rfl ⟨rfl, below_alloc _ _⟩
set_option maxHeartbeats 4000000 in
theorem rwrite_not (n : Nat) (ih : RWriteOk n) (k : Xp) (within : List UInt8) (a : Option Addr) (c : Nat) (w : World) (hk : Xids w Any a [k]) (hc1 : 1 ≤ c) (hr : rightX n k = true) (hl : (writeX n k [33]).length ≤ 140737488351232) :
    Calls Tryd.prog 20 #[.agg #[.string ⟨#[33]⟩, .string ⟨#[]⟩, .slice a 1 c], .string ⟨within.toArray⟩] w fun e w' => e = .returned (.string ⟨([33] ++ writeX n k [33]).toArray⟩) ∧ Below w.heap.size w w' := by
  obtain ⟨wa, hwa, hba, c0, c1, c2, hsz⟩ := laid3q w (.string ⟨#[33]⟩) (.string ⟨#[]⟩) (.slice a 1 c) 24
  have HB := Lib.hid hba
  obtain ⟨b, off, a', c', ha, -, h3, hf', hn'⟩ := (hk.on hba).get (j := 0) (by simp)
  simp only [List.getElem_cons_zero, Nat.zero_mul, Nat.add_zero] at h3 hf' hn'
  subst ha
  obtain ⟨p0, p1, p2⟩ := h3
  have hC := ih k a' c' [33] wa hr hn' hf' hl
  obtain ⟨S, hS⟩ : ∃ S, writeX n k [33] = S := ⟨_, rfl⟩
  rw [hS] at hC hl ⊢
  have HC := Lib.hid hC
  have HCAT := Lib.hid (cat_two [33] S)
  have hblt : b < wa.heap.size := cell_lt1 p0
  have hBl : w.heap.size < wa.heap.size := by omega
  clear hba ih hk hn' hf' hr hC hS
  go_enter Tryd.func20, Tryd.ntmps20
  go_wp2_with fail
  refine HC.out.mono ?_
  rintro e w1 ⟨rfl, hb1⟩
  have HB1 := Lib.hid (bext HB.out hb1)
  clear hb1
  go_wp2_with fail
  refine bodyPost_ret (v := .string (⟨#[33]⟩ ++ ⟨S.toArray⟩)) (by simp [results, Tryd.results20, go_sem]) rfl ⟨?_, HB1.out⟩
  first | (rw [HCAT.out]; rfl) | (show Ending.returned (.string _) = _; rw [← HCAT.out]; rfl)

set_option maxRecDepth 100000 in
set_option maxHeartbeats 8000000 in
theorem rwrite_both (n : Nat) (ih : RWriteOk n) (ks : List Xp) (within : List UInt8) (a : Option Addr) (c : Nat) (w : World) (hk : Xids w Any a ks) (hks : ks.length ≤ 9223372036854775807) (hcap : ks.length ≤ c) (h2 : 2 ≤ ks.length) (hr : ∀ k, k ∈ ks → rightX n k = true) (hlen : ∀ k, k ∈ ks → (writeX n k [38, 38]).length ≤ 140737488351232) (hj : (joinL ([32] ++ [38, 38] ++ [32]) (ks.map (fun k => writeX n k [38, 38]))).length ≤ 140737488351232) :
    Calls Tryd.prog 20 #[.agg #[.string ⟨#[38, 38]⟩, .string ⟨#[]⟩, .slice a ks.length c], .string ⟨within.toArray⟩] w fun e w' => e = .returned (.string ⟨(signed [38, 38] within (joinL ([32] ++ [38, 38] ++ [32]) (ks.map (fun k => writeX n k [38, 38])))).toArray⟩) ∧ Below w.heap.size w w' := by
  obtain ⟨wa, hwa, hba, c0, c1, c2, hsz⟩ := laid3q w (.string ⟨#[38, 38]⟩) (.string ⟨#[]⟩) (.slice a ks.length c) 24
  have HI := Lib.hid ih
  have HK := Lib.hid hk
  have HR := Lib.hid hr
  have HL := Lib.hid hlen
  have HJ := Lib.hid hj
  have HB := Lib.hid hba
  obtain ⟨b, off, a', c', ha, -, ⟨e0, e1, e2⟩, hf', hn'⟩ := (hk.on hba).get (j := 0) (by omega)
  simp only [Nat.zero_mul, Nat.add_zero] at e0 e1 e2
  subst ha
  have hbd : Below wa.heap.size wa wa.drew := (Below.refl _ _).drew
  have hC0 := HI.out ks[0] a' c' [38, 38] wa.drew (HR.out _ (List.getElem_mem (by omega))) (hn'.on hbd) hf' (HL.out _ (List.getElem_mem (by omega)))
  have HC0 := Lib.hid (part_post3 (W := wa.drew) (B := w.heap.size) (b := b) (o := off) c0 c1 c2 ⟨e0, e1, e2⟩ hC0)
  have hbb : b < wa.heap.size := cell_lt1 e0
  have hBl : w.heap.size < wa.heap.size := by omega
  have hl0 : (0 : Int) < (ks.length : Int) := by omega
  have hl0N : 0 < ks.length := by omega
  obtain ⟨RES, hRES⟩ : ∃ RES, signed [38, 38] within (joinL ([32] ++ [38, 38] ++ [32]) (ks.map (fun k => writeX n k [38, 38]))) = RES := ⟨_, rfl⟩
  have HRES := Lib.hid hRES
  rw [hRES]
  clear ih hk hr hba hf' hn' hRES hlen hj hC0 hbd
  go_enter Tryd.func20, Tryd.ntmps20
  go_wp2_with fail
  go_region_held3 (fun w' => (w'.cell? ⟨w.heap.size, 0, none⟩ = some (.string ⟨#[38, 38]⟩) ∧ w'.cell? ⟨w.heap.size, 1, none⟩ = some (.string ⟨#[]⟩) ∧ w'.cell? ⟨w.heap.size, 2, none⟩ = some (.slice (some ⟨b, off, none⟩) ks.length c)) ∧
      (w'.cell? ⟨b, off, none⟩ = some (.string ⟨ks[0].op.toArray⟩) ∧ w'.cell? ⟨b, off + 1, none⟩ = some (.string ⟨ks[0].tag.toArray⟩) ∧ w'.cell? ⟨b, off + 2, none⟩ = some (.slice a' ks[0].kids.length c'))) (go_keep)
    (first
      | (go_at_call 20
         refine HC0.out.mono ?_
         rintro e w1 ⟨rfl, ⟨⟨d0, d1, d2⟩, ⟨e0, e1, e2⟩⟩, hb1⟩))
  all_goals
    have HB0 := Lib.hid (bext HB.out (bext (Below.refl _ _).drew hb1.out))
    clear hb1 c0 c1 c2 hwa e0 e1 e2 hbb hBl HC0
    go_wp2_with fail
    go_loopw [5, 6] (fun v i wr => ∃ k : Nat, 1 ≤ k ∧ k ≤ ks.length ∧ i = .int .i64 k ∧ v = .string ⟨(joinL ([32] ++ [38, 38] ++ [32]) ((ks.take k).map (fun k => writeX n k [38, 38]))).toArray⟩ ∧ Below w.heap.size w wr ∧
      (wr.cell? ⟨w.heap.size, 0, none⟩ = some (.string ⟨#[38, 38]⟩) ∧ wr.cell? ⟨w.heap.size, 1, none⟩ = some (.string ⟨#[]⟩) ∧ wr.cell? ⟨w.heap.size, 2, none⟩ = some (.slice (some ⟨b, off, none⟩) ks.length c))) (fun _ i _ => ks.length - (intOf i).toNat)
    case atStart =>
      refine ⟨1, by omega, by omega, rfl, ?_, HB0.out, d0, d1, d2⟩
      match ks, h2 with
      | x :: y :: l, _ => simp [joinL]
    case round =>
      clear HB0 d0 d1 d2
      obtain ⟨k, hk0, hk1, rfl, rfl, hb, d0, d1, d2⟩ := hrel
      have HB := Lib.hid hb
      clear hb
      by_cases hlt : k < ks.length
      · obtain ⟨b', off', a', c', ha, -, ⟨e0, e1, e2⟩, hf', hn'⟩ := (HK.out.on HB.out).get hlt
        simp only [Option.some.injEq, Addr.mk.injEq, and_true] at ha
        obtain ⟨rfl, rfl⟩ := ha
        have hbd : Below wr.heap.size wr wr.drew := (Below.refl _ _).drew
        have hC := HI.out ks[k] a' c' [38, 38] wr.drew (HR.out _ (List.getElem_mem hlt)) (hn'.on hbd) hf' (HL.out _ (List.getElem_mem hlt))
        have hbb : b < wr.heap.size := cell_lt1 e0
        have hBl : w.heap.size < wr.heap.size := cell_lt1 d0
        have hsl := join_take_len ([32] ++ [38, 38] ++ [32]) (fun k => writeX n k [38, 38]) ks k
        have hsl1 := join_take_len ([32] ++ [38, 38] ++ [32]) (fun k => writeX n k [38, 38]) ks (k + 1)
        have hjj := HJ.out
        have htl := HL.out _ (List.getElem_mem hlt)
        obtain ⟨S, hS⟩ : ∃ S, joinL ([32] ++ [38, 38] ++ [32]) ((ks.take k).map (fun k => writeX n k [38, 38])) = S := ⟨_, rfl⟩
        obtain ⟨Y, hY⟩ : ∃ Y, writeX n ks[k] [38, 38] = Y := ⟨_, rfl⟩
        have hst : joinL ([32] ++ [38, 38] ++ [32]) ((ks.take (k + 1)).map (fun k => writeX n k [38, 38])) = S ++ (([32] ++ [38, 38] ++ [32]) ++ Y) := by rw [take_map_snocS _ hlt, joinL_snoc _ _ _ (take_neS _ hlt hk0), hS, hY]
        have HST := Lib.hid hst
        rw [hS] at hsl ⊢
        rw [hY] at hC htl
        replace hsl : S.length ≤ 140737488351232 := by omega
        have hcat1 : ¬ 9223372036854775807 < 4 + Y.length := by omega
        have hcat2 : ¬ 9223372036854775807 < S.length + (4 + Y.length) := by omega
        have HC := Lib.hid (part_post3 (W := wr.drew) (B := w.heap.size) (b := b) (o := off + k * 3) d0 d1 d2 ⟨e0, e1, e2⟩ hC)
        have HCAT := Lib.hid (show (⟨S.toArray⟩ : ByteArray) ++ (⟨#[32]⟩ ++ ⟨#[38, 38]⟩ ++ ⟨#[32]⟩ ++ ⟨Y.toArray⟩) = ⟨(S ++ (([32] ++ [38, 38] ++ [32]) ++ Y)).toArray⟩ by
          rw [← cat_two S, ← cat_two ([32] ++ [38, 38] ++ [32]), ← cat_two ([32] ++ [38, 38]), ← cat_two [32]])
        clear hC hf' hn' hbd hst hS hY hsl1 hjj
        go_wp2_with fail
        go_region_held3 (fun w' => (w'.cell? ⟨w.heap.size, 0, none⟩ = some (.string ⟨#[38, 38]⟩) ∧ w'.cell? ⟨w.heap.size, 1, none⟩ = some (.string ⟨#[]⟩) ∧ w'.cell? ⟨w.heap.size, 2, none⟩ = some (.slice (some ⟨b, off, none⟩) ks.length c)) ∧
            (w'.cell? ⟨b, off + k * 3, none⟩ = some (.string ⟨ks[k].op.toArray⟩) ∧ w'.cell? ⟨b, off + k * 3 + 1, none⟩ = some (.string ⟨ks[k].tag.toArray⟩) ∧ w'.cell? ⟨b, off + k * 3 + 2, none⟩ = some (.slice a' ks[k].kids.length c'))) (go_keep)
          (first
            | (go_at_call 20
               refine HC.out.mono ?_
               rintro e w1 ⟨rfl, ⟨⟨d0, d1, d2⟩, ⟨e0, e1, e2⟩⟩, hb1⟩))
        all_goals
          go_wp2_with fail
          go_roundw
          case rel => exact ⟨k + 1, by omega, by omega, by go_num, by rw [HST.out, ← HCAT.out], bext HB.out (bext (Below.refl _ _).drew hb1.out), d0, d1, d2⟩
          case measure => simp [intOf]; omega
      · obtain rfl : k = ks.length := by omega
        rw [List.take_length]
        have hjj := HJ.out
        obtain ⟨S, hS⟩ : ∃ S, joinL ([32] ++ [38, 38] ++ [32]) (ks.map (fun k => writeX n k [38, 38])) = S := ⟨_, rfl⟩
        rw [hS] at hjj HRES ⊢
        clear hS
        rcases rsign_arms [38, 38] within with ⟨e1, hs⟩ | ⟨e1, e2, hs⟩ | ⟨e1, e2, e3, hs⟩ | ⟨e1, e2, e3, hs⟩
        · have HS := Lib.hid (show RES = [40] ++ S ++ [41] by rw [← HRES.out, signed, if_pos hs])
          have HCAT := Lib.hid (cat_brackets S)
          clear hs
          go_wp2_with fail
          go_ret
          refine ⟨?_, HB.out⟩
          rw [HS.out]
          first | (rw [HCAT.out]; rfl) | (show Ending.returned (.string _) = _; rw [← HCAT.out]; rfl)
        · have HS := Lib.hid (show RES = [40] ++ S ++ [41] by rw [← HRES.out, signed, if_pos hs])
          have HCAT := Lib.hid (cat_brackets S)
          clear hs
          go_wp2_with fail
          go_ret
          refine ⟨?_, HB.out⟩
          rw [HS.out]
          first | (rw [HCAT.out]; rfl) | (show Ending.returned (.string _) = _; rw [← HCAT.out]; rfl)
        · exact absurd (e2.symm.trans e3) (by decide)
        · have HS := Lib.hid (show RES = S by rw [← HRES.out, signed, if_neg hs])
          have HCAT := Lib.hid (cat_brackets S)
          clear hs
          go_wp2_with fail
          go_ret
          refine ⟨?_, HB.out⟩
          rw [HS.out]
          rfl

set_option maxRecDepth 100000 in
set_option maxHeartbeats 8000000 in
theorem rwrite_one (n : Nat) (ih : RWriteOk n) (ks : List Xp) (within : List UInt8) (a : Option Addr) (c : Nat) (w : World) (hk : Xids w Any a ks) (hks : ks.length ≤ 9223372036854775807) (hcap : ks.length ≤ c) (h2 : 2 ≤ ks.length) (hr : ∀ k, k ∈ ks → rightX n k = true) (hlen : ∀ k, k ∈ ks → (writeX n k [124, 124]).length ≤ 140737488351232) (hj : (joinL ([32] ++ [124, 124] ++ [32]) (ks.map (fun k => writeX n k [124, 124]))).length ≤ 140737488351232) :
    Calls Tryd.prog 20 #[.agg #[.string ⟨#[124, 124]⟩, .string ⟨#[]⟩, .slice a ks.length c], .string ⟨within.toArray⟩] w fun e w' => e = .returned (.string ⟨(signed [124, 124] within (joinL ([32] ++ [124, 124] ++ [32]) (ks.map (fun k => writeX n k [124, 124])))).toArray⟩) ∧ Below w.heap.size w w' := by
  obtain ⟨wa, hwa, hba, c0, c1, c2, hsz⟩ := laid3q w (.string ⟨#[124, 124]⟩) (.string ⟨#[]⟩) (.slice a ks.length c) 24
  have HI := Lib.hid ih
  have HK := Lib.hid hk
  have HR := Lib.hid hr
  have HL := Lib.hid hlen
  have HJ := Lib.hid hj
  have HB := Lib.hid hba
  obtain ⟨b, off, a', c', ha, -, ⟨e0, e1, e2⟩, hf', hn'⟩ := (hk.on hba).get (j := 0) (by omega)
  simp only [Nat.zero_mul, Nat.add_zero] at e0 e1 e2
  subst ha
  have hbd : Below wa.heap.size wa wa.drew := (Below.refl _ _).drew
  have hC0 := HI.out ks[0] a' c' [124, 124] wa.drew (HR.out _ (List.getElem_mem (by omega))) (hn'.on hbd) hf' (HL.out _ (List.getElem_mem (by omega)))
  have HC0 := Lib.hid (part_post3 (W := wa.drew) (B := w.heap.size) (b := b) (o := off) c0 c1 c2 ⟨e0, e1, e2⟩ hC0)
  have hbb : b < wa.heap.size := cell_lt1 e0
  have hBl : w.heap.size < wa.heap.size := by omega
  have hl0 : (0 : Int) < (ks.length : Int) := by omega
  have hl0N : 0 < ks.length := by omega
  obtain ⟨RES, hRES⟩ : ∃ RES, signed [124, 124] within (joinL ([32] ++ [124, 124] ++ [32]) (ks.map (fun k => writeX n k [124, 124]))) = RES := ⟨_, rfl⟩
  have HRES := Lib.hid hRES
  rw [hRES]
  clear ih hk hr hba hf' hn' hRES hlen hj hC0 hbd
  go_enter Tryd.func20, Tryd.ntmps20
  go_wp2_with fail
  go_region_held3 (fun w' => (w'.cell? ⟨w.heap.size, 0, none⟩ = some (.string ⟨#[124, 124]⟩) ∧ w'.cell? ⟨w.heap.size, 1, none⟩ = some (.string ⟨#[]⟩) ∧ w'.cell? ⟨w.heap.size, 2, none⟩ = some (.slice (some ⟨b, off, none⟩) ks.length c)) ∧
      (w'.cell? ⟨b, off, none⟩ = some (.string ⟨ks[0].op.toArray⟩) ∧ w'.cell? ⟨b, off + 1, none⟩ = some (.string ⟨ks[0].tag.toArray⟩) ∧ w'.cell? ⟨b, off + 2, none⟩ = some (.slice a' ks[0].kids.length c'))) (go_keep)
    (first
      | (go_at_call 20
         refine HC0.out.mono ?_
         rintro e w1 ⟨rfl, ⟨⟨d0, d1, d2⟩, ⟨e0, e1, e2⟩⟩, hb1⟩))
  all_goals
    have HB0 := Lib.hid (bext HB.out (bext (Below.refl _ _).drew hb1.out))
    clear hb1 c0 c1 c2 hwa e0 e1 e2 hbb hBl HC0
    go_wp2_with fail
    go_loopw [5, 6] (fun v i wr => ∃ k : Nat, 1 ≤ k ∧ k ≤ ks.length ∧ i = .int .i64 k ∧ v = .string ⟨(joinL ([32] ++ [124, 124] ++ [32]) ((ks.take k).map (fun k => writeX n k [124, 124]))).toArray⟩ ∧ Below w.heap.size w wr ∧
      (wr.cell? ⟨w.heap.size, 0, none⟩ = some (.string ⟨#[124, 124]⟩) ∧ wr.cell? ⟨w.heap.size, 1, none⟩ = some (.string ⟨#[]⟩) ∧ wr.cell? ⟨w.heap.size, 2, none⟩ = some (.slice (some ⟨b, off, none⟩) ks.length c))) (fun _ i _ => ks.length - (intOf i).toNat)
    case atStart =>
      refine ⟨1, by omega, by omega, rfl, ?_, HB0.out, d0, d1, d2⟩
      match ks, h2 with
      | x :: y :: l, _ => simp [joinL]
    case round =>
      clear HB0 d0 d1 d2
      obtain ⟨k, hk0, hk1, rfl, rfl, hb, d0, d1, d2⟩ := hrel
      have HB := Lib.hid hb
      clear hb
      by_cases hlt : k < ks.length
      · obtain ⟨b', off', a', c', ha, -, ⟨e0, e1, e2⟩, hf', hn'⟩ := (HK.out.on HB.out).get hlt
        simp only [Option.some.injEq, Addr.mk.injEq, and_true] at ha
        obtain ⟨rfl, rfl⟩ := ha
        have hbd : Below wr.heap.size wr wr.drew := (Below.refl _ _).drew
        have hC := HI.out ks[k] a' c' [124, 124] wr.drew (HR.out _ (List.getElem_mem hlt)) (hn'.on hbd) hf' (HL.out _ (List.getElem_mem hlt))
        have hbb : b < wr.heap.size := cell_lt1 e0
        have hBl : w.heap.size < wr.heap.size := cell_lt1 d0
        have hsl := join_take_len ([32] ++ [124, 124] ++ [32]) (fun k => writeX n k [124, 124]) ks k
        have hsl1 := join_take_len ([32] ++ [124, 124] ++ [32]) (fun k => writeX n k [124, 124]) ks (k + 1)
        have hjj := HJ.out
        have htl := HL.out _ (List.getElem_mem hlt)
        obtain ⟨S, hS⟩ : ∃ S, joinL ([32] ++ [124, 124] ++ [32]) ((ks.take k).map (fun k => writeX n k [124, 124])) = S := ⟨_, rfl⟩
        obtain ⟨Y, hY⟩ : ∃ Y, writeX n ks[k] [124, 124] = Y := ⟨_, rfl⟩
        have hst : joinL ([32] ++ [124, 124] ++ [32]) ((ks.take (k + 1)).map (fun k => writeX n k [124, 124])) = S ++ (([32] ++ [124, 124] ++ [32]) ++ Y) := by rw [take_map_snocS _ hlt, joinL_snoc _ _ _ (take_neS _ hlt hk0), hS, hY]
        have HST := Lib.hid hst
        rw [hS] at hsl ⊢
        rw [hY] at hC htl
        replace hsl : S.length ≤ 140737488351232 := by omega
        have hcat1 : ¬ 9223372036854775807 < 4 + Y.length := by omega
        have hcat2 : ¬ 9223372036854775807 < S.length + (4 + Y.length) := by omega
        have HC := Lib.hid (part_post3 (W := wr.drew) (B := w.heap.size) (b := b) (o := off + k * 3) d0 d1 d2 ⟨e0, e1, e2⟩ hC)
        have HCAT := Lib.hid (show (⟨S.toArray⟩ : ByteArray) ++ (⟨#[32]⟩ ++ ⟨#[124, 124]⟩ ++ ⟨#[32]⟩ ++ ⟨Y.toArray⟩) = ⟨(S ++ (([32] ++ [124, 124] ++ [32]) ++ Y)).toArray⟩ by
          rw [← cat_two S, ← cat_two ([32] ++ [124, 124] ++ [32]), ← cat_two ([32] ++ [124, 124]), ← cat_two [32]])
        clear hC hf' hn' hbd hst hS hY hsl1 hjj
        go_wp2_with fail
        go_region_held3 (fun w' => (w'.cell? ⟨w.heap.size, 0, none⟩ = some (.string ⟨#[124, 124]⟩) ∧ w'.cell? ⟨w.heap.size, 1, none⟩ = some (.string ⟨#[]⟩) ∧ w'.cell? ⟨w.heap.size, 2, none⟩ = some (.slice (some ⟨b, off, none⟩) ks.length c)) ∧
            (w'.cell? ⟨b, off + k * 3, none⟩ = some (.string ⟨ks[k].op.toArray⟩) ∧ w'.cell? ⟨b, off + k * 3 + 1, none⟩ = some (.string ⟨ks[k].tag.toArray⟩) ∧ w'.cell? ⟨b, off + k * 3 + 2, none⟩ = some (.slice a' ks[k].kids.length c'))) (go_keep)
          (first
            | (go_at_call 20
               refine HC.out.mono ?_
               rintro e w1 ⟨rfl, ⟨⟨d0, d1, d2⟩, ⟨e0, e1, e2⟩⟩, hb1⟩))
        all_goals
          go_wp2_with fail
          go_roundw
          case rel => exact ⟨k + 1, by omega, by omega, by go_num, by rw [HST.out, ← HCAT.out], bext HB.out (bext (Below.refl _ _).drew hb1.out), d0, d1, d2⟩
          case measure => simp [intOf]; omega
      · obtain rfl : k = ks.length := by omega
        rw [List.take_length]
        have hjj := HJ.out
        obtain ⟨S, hS⟩ : ∃ S, joinL ([32] ++ [124, 124] ++ [32]) (ks.map (fun k => writeX n k [124, 124])) = S := ⟨_, rfl⟩
        rw [hS] at hjj HRES ⊢
        clear hS
        rcases rsign_arms [124, 124] within with ⟨e1, hs⟩ | ⟨e1, e2, hs⟩ | ⟨e1, e2, e3, hs⟩ | ⟨e1, e2, e3, hs⟩
        · have HS := Lib.hid (show RES = [40] ++ S ++ [41] by rw [← HRES.out, signed, if_pos hs])
          have HCAT := Lib.hid (cat_brackets S)
          clear hs
          go_wp2_with fail
          go_ret
          refine ⟨?_, HB.out⟩
          rw [HS.out]
          first | (rw [HCAT.out]; rfl) | (show Ending.returned (.string _) = _; rw [← HCAT.out]; rfl)
        · have HS := Lib.hid (show RES = [40] ++ S ++ [41] by rw [← HRES.out, signed, if_pos hs])
          have HCAT := Lib.hid (cat_brackets S)
          clear hs
          go_wp2_with fail
          go_ret
          refine ⟨?_, HB.out⟩
          rw [HS.out]
          first | (rw [HCAT.out]; rfl) | (show Ending.returned (.string _) = _; rw [← HCAT.out]; rfl)
        · have HS := Lib.hid (show RES = [40] ++ S ++ [41] by rw [← HRES.out, signed, if_pos hs])
          have HCAT := Lib.hid (cat_brackets S)
          clear hs
          go_wp2_with fail
          go_ret
          refine ⟨?_, HB.out⟩
          rw [HS.out]
          first | (rw [HCAT.out]; rfl) | (show Ending.returned (.string _) = _; rw [← HCAT.out]; rfl)
        · have HS := Lib.hid (show RES = S by rw [← HRES.out, signed, if_neg hs])
          have HCAT := Lib.hid (cat_brackets S)
          clear hs
          go_wp2_with fail
          go_ret
          refine ⟨?_, HB.out⟩
          rw [HS.out]
          rfl

theorem rwrite_any : ∀ (n : Nat), RWriteOk n
  | 0 => fun t a c within w hR => by cases hR
  | n + 1 => fun t a c within w hR hk hf hl => by
    have ih := rwrite_any n
    rcases right_cases hR with ⟨s, rfl, hs⟩ | ⟨k, rfl, hk1⟩ | ⟨l, rfl, hl1, hl2⟩ | ⟨l, rfl, hl1, hl2⟩
    · rw [writeX_mk, if_neg (by decide), if_neg (by decide)]
      exact rwrite_leaf s within 0 c a w
    · rw [writeX_mk, if_pos rfl] at hl ⊢
      exact rwrite_not n ih k within a c w hk hf.2.2.1 hk1 (by simp at hl; omega)
    · rw [writeX_mk, if_neg (by decide), if_pos (.inl rfl)] at hl ⊢
      have h2 := signed_len [38, 38] within (joinL ([32] ++ [38, 38] ++ [32]) (l.map fun k => writeX n k [38, 38]))
      exact rwrite_both n ih l within a c w hk (by have := hf.2.2.1; have := hf.2.2.2.1; simp at *; omega) hf.2.2.1 hl1 hl2 (fun x hx => by have := mem_join_len (W := fun k => writeX n k [38, 38]) (sep := [32] ++ [38, 38] ++ [32]) hx; omega) (by omega)
    · rw [writeX_mk, if_neg (by decide), if_pos (.inr rfl)] at hl ⊢
      have h2 := signed_len [124, 124] within (joinL ([32] ++ [124, 124] ++ [32]) (l.map fun k => writeX n k [124, 124]))
      exact rwrite_one n ih l within a c w hk (by have := hf.2.2.1; have := hf.2.2.2.1; simp at *; omega) hf.2.2.1 hl1 hl2 (fun x hx => by have := mem_join_len (W := fun k => writeX n k [124, 124]) (sep := [32] ++ [124, 124] ++ [32]) hx; omega) (by omega)
end Go.Proofs.YtagaoilgnhdebaaDoor
