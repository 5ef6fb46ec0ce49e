/-
  names: Called, walked.
-/
import Derived.Test.YtfcpblclfgkdjaaGreatDoorNtH
import Derived.Deep.AppendLies
namespace Go.Proofs.YtfcpblclfgkdjaaGreatDoor
set_option linter.unusedSimpArgs false
set_option linter.unusedVariables false
open Go.RowKit Go.Maps

/-- A row of nodes, told. -/
def ToldRow (ys : List Nd) (w : World) (e : Ending) (w' : World) : Prop :=
  ∃ a c, e = .returned (.slice a ys.length c) ∧ Kids w' w'.heap.size a ys ∧ ys.length ≤ c ∧ c ≤ 9223372036854775807 ∧ Below w.heap.size w w'

theorem below_of_gb {w W : World} (h : w.grownBy W none) : Below w.heap.size w W := ⟨h.os, h.tape, h.output, h.size, fun k hk => h.block k hk (fun e => by cases e)⟩
set_option maxRecDepth 100000 in
set_option maxHeartbeats 8000000 in
theorem called_any (s u : List UInt8) (ks : List Nd) (a : Option Addr) (c : Nat) (w : World) (hs : s.length ≤ 140737488351232) (hu : u.length ≤ 140737488351232)
    (hh : ∀ k, k ∈ ks → k.height ≤ 100) (hloc : ∀ k, k ∈ ks → InAll Loc k) (hl : (ks.flatMap (walkL 100)).length ≤ 1125899906842624) (hk : Kids w w.heap.size a ks) (hc : ks.length ≤ c) (hc2 : c ≤ 9223372036854775807) (h56 : ks.length ≤ 1000) :
    Calls Tryz.prog 8 #[.slice a ks.length c, .string ⟨s.toArray⟩, .string ⟨u.toArray⟩] w (ToldRow (blockP (nodeP (ren s u) 100) [] ks) w) := by
  obtain ⟨w2, hw2⟩ : ∃ w2, (w.alloc (.cells #[.string ⟨s.toArray⟩] 9)).alloc (.cells #[.string ⟨u.toArray⟩] 9) = w2 := ⟨_, rfl⟩
  have hb2 : Below w.heap.size w w2 := by rw [← hw2]; exact ((Below.refl _ _).alloc (Nat.le_refl _) _).alloc (by simp) _
  have hs2 : w2.heap.size = w.heap.size + 2 := by rw [← hw2]; simp
  have hq2 : CallSt w.heap.size s u [] w2 := by rw [← hw2]; exact ⟨by simp [go_sem], by simp [go_sem]⟩
  obtain ⟨w3, hw3⟩ : ∃ w3, w2.alloc (.map #[] 0) = w3 := ⟨_, rfl⟩
  have hb3 : Below w2.heap.size w2 w3 := by rw [← hw3]; exact below_alloc _ _
  have hs3 : w3.heap.size = w.heap.size + 3 := by rw [← hw3]; simp [hs2]
  have o3 : w3.ownsMap Tryz.prog 9 (plainElem Tryz.prog 4) (w.heap.size + 2) 0 (bD []) := by
    have h := World.ownsMap_made w2 Tryz.prog 9 (plainElem Tryz.prog (H := Unit) 4)
    rw [hw3, hs2] at h
    exact h
  obtain ⟨wa, hwa⟩ : ∃ wa, w3.alloc (.cells #[.func (.func 19) #[] #[.pointer (some ⟨w.heap.size, 0, none⟩), .pointer (some ⟨w.heap.size + 1, 0, none⟩)], .map (some (w.heap.size + 2))] 41) = wa := ⟨_, rfl⟩
  have hba : Below w3.heap.size w3 wa := by rw [← hwa]; exact below_alloc _ _
  have s0 : wa.cell? ⟨w.heap.size + 3, 0, none⟩ = some (.func (.func 19) #[] #[.pointer (some ⟨w.heap.size, 0, none⟩), .pointer (some ⟨w.heap.size + 1, 0, none⟩)]) := by rw [← hwa, ← hs3]; simp [go_sem]
  have s1 : wa.cell? ⟨w.heap.size + 3, 1, none⟩ = some (.map (some (w.heap.size + 2))) := by rw [← hwa, ← hs3]; simp [go_sem]
  have C := called_free w.heap.size w3.heap.size s u hu (by omega)
  have hq3 : CallSt w.heap.size s u [] w3 := ⟨(hb3.cell (p := ⟨w.heap.size, 0, none⟩) (cell_lt hq2.1)).trans hq2.1, (hb3.cell (p := ⟨w.heap.size + 1, 0, none⟩) (cell_lt hq2.2)).trans hq2.2⟩
  have hw3b : Below w.heap.size w w3 := bext hb2 hb3
  have HA0 := Lib.hid (show AllI (CallSt w.heap.size s u) none w.heap.size w3 [] [] (.slice none 0 0) wa from ⟨⟨[], rfl, NRz.nil _ _ _⟩, gb none hba, C.below hq3 (Nat.le_refl _) hba⟩)
  have HS3 := Lib.hid hs3
  have HS2 := Lib.hid hs2
  have HO := Lib.hid o3
  have HC := Lib.hid C
  have HH := Lib.hid hh
  have HLO := Lib.hid hloc
  have HK := Lib.hid (hk.on hw3b)
  have HB3 := Lib.hid hw3b
  have HLL := Lib.hid hl
  have hl63 : ks.length ≤ 9223372036854775807 := by omega
  have hmm := @run_makeMap Tryz.prog
  have e2 : w.heap.size + 1 + 1 = w.heap.size + 2 := rfl
  clear hb2 hq2 hb3 o3 hba C hq3 hw3b hh hloc hk hl hs hu
  go_enter Tryz.func8, Tryz.ntmps8
  go_wp2_with fail
  go_loopw [8, 16] (fun v i wr => ∃ k : Nat, k ≤ ks.length ∧ i = .int .i64 k ∧ (wr.cell? ⟨w.heap.size + 3, 0, none⟩ = some (.func (.func 19) #[] #[.pointer (some ⟨w.heap.size, 0, none⟩), .pointer (some ⟨w.heap.size + 1, 0, none⟩)]) ∧ wr.cell? ⟨w.heap.size + 3, 1, none⟩ = some (.map (some (w.heap.size + 2)))) ∧
    Hid (AllI (CallSt w.heap.size s u) none w.heap.size w3 (ks.take k) [] v wr)) (fun _ i _ => ks.length - (intOf i).toNat)
  case atStart => exact ⟨0, by omega, rfl, ⟨s0, s1⟩, by simpa using HA0⟩
  case round =>
    clear s0 s1 HA0
    obtain ⟨k, hk1, rfl, ⟨s0, s1⟩, HAI⟩ := hrel
    by_cases hlt : k < ks.length
    · have hgw := HAI.out.2.1
      have hs3 := HS3.out
      obtain ⟨bb, off, a', c', ha, hbB, ⟨q0, q1, q2, q3⟩, hf', hn'⟩ := (kids_gb HK.out hgw (fun r e => by cases e)).get hlt
      subst ha
      have hs0 := cell_lt s0
      have hh1 := HH.out _ (List.getElem_mem hlt)
      have e2 : ks.take (k + 1) = ks.take k ++ [ks[k]] := List.take_succ_eq_append_getElem hlt
      obtain ⟨q, hq⟩ : ∃ q, ks[k] = q := ⟨_, rfl⟩
      rw [hq] at q0 q1 q2 q3 hf' hn' hh1 e2
      have hba := below_alloc wr (.cells #[.int .i64 q.kind, .string ⟨q.text.toArray⟩, .slice a' q.kids.length c', .int .i64 q.pos] 25)
      have hc := copy_any (fun _ => False) q a' c' (wr.alloc (.cells #[.int .i64 q.kind, .string ⟨q.text.toArray⟩, .slice a' q.kids.length c', .int .i64 q.pos] 25)) (.inr hh1) (fun b h => h.elim) (hn'.below (hba.mono (by have := hgw.size; omega)) (by have := hgw.size; simp; omega)) hf'
      have HCQ := Lib.hid hc
      have HE := Lib.hid e2
      have hky : (ks.take k).length = k := by rw [List.length_take]; omega
      clear hgw hf' hn' hh1 e2 hc hq hba
      go_wp2_with fail
      refine HCQ.out.mono ?_
      rintro e w5 ⟨hb5, a3, c3, rfl, hf3, hz3⟩
      have hbw := below_alloc wr (.cells #[.int .i64 q.kind, .string ⟨q.text.toArray⟩, .slice a' q.kids.length c', .int .i64 q.pos] 25)
      have s0 := (hb5.cell (p := ⟨w.heap.size + 3, 0, none⟩) (by simp; omega)).trans (cell_alloc' (.cells #[.int .i64 q.kind, .string ⟨q.text.toArray⟩, .slice a' q.kids.length c', .int .i64 q.pos] 25) s0)
      have s1 := (hb5.cell (p := ⟨w.heap.size + 3, 1, none⟩) (by simp; omega)).trans (cell_alloc' (.cells #[.int .i64 q.kind, .string ⟨q.text.toArray⟩, .slice a' q.kids.length c', .int .i64 q.pos] 25) s1)
      have hst5 : CallSt w.heap.size s u [] w5 := HC.out.below (HC.out.below HAI.out.2.2 (by have := HAI.out.2.1.size; omega) hbw) (by have := HAI.out.2.1.size; simp; omega) hb5
      have hstep := AllI.step HC.out HAI.out (Nat.le_refl _) (by omega) hbw (by omega) hf3 (hz3.mono (fun b hb => hb.elim (fun h => h.elim) (fun h => .inr ⟨h.lo, h.hi⟩))) (gb none hb5) hst5 (.cells #[.int .i64 q.kind, .string ⟨q.text.toArray⟩, .slice a3 q.kids.length c3, .int .i64 q.pos] 25)
      rw [hky] at hstep
      obtain ⟨L, hL, hown3, hend⟩ := hstep
      have hbase : w3.heap.size + 1 ≤ (w5.alloc (.cells #[.int .i64 q.kind, .string ⟨q.text.toArray⟩, .slice a3 q.kids.length c3, .int .i64 q.pos] 25)).heap.size := by have := hb5.size; simp at this ⊢; omega
      have HEND := Lib.hid hend
      have HOW := Lib.hid hown3
      have HNEW := Lib.hid (news_one w5 q a3 c3)
      have h63 : k + 1 ≤ maxLen := by unfold maxLen; omega
      have hby : (k + 1) * 56 ≤ 140737488355328 := by omega
      obtain ⟨i0, hi0, hz0, hz1, hz2⟩ := info_parts info24
      clear hend hown3 hf3 hz3 hb5 hst5 hbw HCQ HAI
      go_wp2_with (at_builtin; refine wpList_append_lies _ rfl _ _ 22 rfl (w3.heap.size + 1) 25 i0 _ 4 56 und22 hi0 hz0 hz1 hz2 rfl (by decide) _ _ _ rfl HOW.out ⟨w5.heap.size, 0, none⟩ 1 1 (node4 (q, a3, c3)) rfl rfl HNEW.out (one4 q a3 c3) (by decide) h63 hby hbase _ rfl ?_; intro gg cap w4 hown4 hgrow hat hlt4)
      obtain ⟨hai, hcells⟩ := HEND.out gg cap w4 hown4 hgrow hat
      have s0 := (hcells ⟨w.heap.size + 3, 0, none⟩ _ (.inl (by show w.heap.size + 3 ≤ w3.heap.size; omega)) s0).1
      have s1 := (hcells ⟨w.heap.size + 3, 1, none⟩ _ (.inl (by show w.heap.size + 3 ≤ w3.heap.size; omega)) s1).1
      have HAI2 : Hid (AllI (CallSt w.heap.size s u) none w.heap.size w3 (ks.take (k + 1)) [] (.slice (some ⟨gg, 0, none⟩) (k + 1) cap) w4) := Lib.hid (by rw [HE.out]; exact hai)
      clear hai hcells hown4 hgrow hat hlt4 HEND HOW HNEW HE hbase
      go_wp2_with fail
      go_roundw
      case rel =>
        first
          | exact ⟨k + 1, by omega, by go_num, ⟨s0, s1⟩, HAI2⟩
          | exact ⟨_, _, k + 1, by omega, by go_num, ⟨s0, s1⟩, HAI2⟩
          | ((repeat apply Exists.intro); exact ⟨⟨k + 1, by omega, by go_num, ⟨s0, s1⟩, HAI2⟩, rfl⟩)
      case measure => simp [intOf]; omega
    · obtain rfl : k = ks.length := by omega
      have h := HAI.out
      rw [List.take_length] at h
      obtain ⟨⟨L, hL, hr⟩, hgw, hst⟩ := h
      have hs3 := HS3.out
      have hsz := hgw.size
      obtain ⟨a5, c5, rfl, hz5, hlc5, hmx5⟩ := hr.kids hL
      have hkw : Kids wr wr.heap.size a5 ks := hz5.kids (fun b hb => by rcases hb with h | h <;> omega)
      have hcall := block_any HC.out 100 (node_any HC.out 100) [] (w.heap.size + 2) [] ks a5 c5 wr wr.heap.size HH.out HLO.out hst hsz (HO.out.kept hgw (by simp)) (by simp) (by simp; omega) (by simpa using HLL.out) (Nat.le_refl _) hkw hlc5 hmx5 (by omega)
      have HCALL := Lib.hid hcall
      have HBW := Lib.hid (bext HB3.out (below_of_gb hgw))
      have hs0 := cell_lt s0
      clear hL hr hgw hst hz5 hkw hcall HAI
      go_wp2_with fail
      refine HCALL.out.mono ?_
      rintro e w6 ⟨v, L6, rfl, hL6, hr6, hg6, hs6⟩
      obtain ⟨a6, c6, rfl, hz6, hlc6, hmx6⟩ := hr6.kids hL6
      have HP := Lib.hid (show Kids w6 w6.heap.size a6 (blockP (nodeP (ren s u) 100) [] ks) from hz6.kids (fun b hb => by have := hg6.size; rcases hb with h | h <;> omega))
      have HB6 := Lib.hid (bext HBW.out (below_of_gb hg6))
      clear hL6 hr6 hg6 hs6 hz6
      go_wp2_with fail
      go_ret
      exact ⟨a6, c6, rfl, HP.out, hlc6, hmx6, HB6.out⟩
end Go.Proofs.YtfcpblclfgkdjaaGreatDoor
