/-
  amounts held against one another.
-/
import Derived.Test.YteiipiomcbohnaaDoorBgE
namespace Go.Proofs.YteiipiomcbohnaaDoor
set_option linter.unusedSimpArgs false
set_option linter.unusedVariables false
open Go.RowKit Go.Shelf
attribute [local go_sem] Oper.semAt_some

theorem mem_come {l : List Int} {k j : Nat} (h1 : l.length - k ≤ j) (h2 : j < l.length) : (j, dgt l j) ∈ come l k := by
  unfold come
  rw [List.mem_map]
  exact ⟨l.length - 1 - j, List.mem_range.2 (by omega), by rw [show l.length - 1 - (l.length - 1 - j) = j by omega]⟩
theorem pre_all {l lb : List Int} {pre : List (Pl l)} {k : Nat} (hp : pre.map (·.1) = come l k) (h : ∀ p ∈ pre, p.1.2 = dgt lb p.1.1) (j : Nat) (h1 : l.length - k ≤ j) (h2 : j < l.length) : dgt l j = dgt lb j := by
  have hm := mem_come (l := l) h1 h2
  rw [← hp, List.mem_map] at hm
  obtain ⟨p, hp1, hp2⟩ := hm
  have := h p hp1
  rw [hp2] at this
  exact this
theorem drop_ext {a b : List Int} {i : Nat} (hl : a.length = b.length) (h : ∀ j, i ≤ j → j < a.length → dgt a j = dgt b j) : a.drop i = b.drop i := by
  apply List.ext_getElem
  · simp [hl]
  · intro j h1 h2
    rw [List.getElem_drop, List.getElem_drop]
    rw [List.length_drop] at h1 h2
    have := h (i + j) (by omega) (by omega)
    rwa [dgt_at (by omega), dgt_at (by omega)] at this
theorem cmp_done {n m : Nat} (hl : (digs n).length = (digs m).length) {ys : List (Pl (digs n))} (hp : ys.map (·.1) = come (digs n) (digs n).length) (h : ∀ p ∈ ys, p.1.2 = dgt (digs m) p.1.1) : cmpI n m = 0 := by
  have := drop_ext (i := 0) hl (fun j _ hj => pre_all hp h j (by omega) hj)
  simp only [List.drop_zero] at this
  have e := congrArg val this
  rw [val_digs, val_digs] at e
  unfold cmpI
  rw [if_neg (by omega), if_pos e]
theorem cmp_stop {n m k : Nat} (hl : (digs n).length = (digs m).length) {ini : List (Pl (digs n))} {last : Pl (digs n)} (hk : k ≤ (digs n).length) (hp : (ini ++ [last]).map (·.1) = come (digs n) k)
    (h : ∀ p ∈ ini, p.1.2 = dgt (digs m) p.1.1) (hne : last.1.2 ≠ dgt (digs m) last.1.1) : sgI (last.1.2 - dgt (digs m) last.1.1) = cmpI n m := by
  obtain ⟨k', rfl⟩ : ∃ k', k = k' + 1 := by
    cases k with
    | zero => simp [come] at hp
    | succ k' => exact ⟨k', rfl⟩
  rw [come_succ, List.map_append] at hp
  obtain ⟨e1, e2⟩ := List.append_inj' hp rfl
  have e3 : last.1 = ((digs n).length - 1 - k', dgt (digs n) ((digs n).length - 1 - k')) := by simpa using e2
  rw [e3] at hne ⊢
  simp only at hne ⊢
  obtain ⟨i, hi⟩ : ∃ i, (digs n).length - 1 - k' = i := ⟨_, rfl⟩
  rw [hi] at hne ⊢
  have hin : i < (digs n).length := by omega
  have hd := drop_ext (i := i + 1) hl (fun j h1 hj => pre_all e1 h j (by omega) hj)
  rw [dgt_at hin, dgt_at (by omega)] at hne ⊢
  unfold sgI cmpI
  rcases Int.lt_trichotomy ((digs n)[i]) ((digs m)[i]'(by omega)) with hc | hc | hc
  · have := val_part (digs_dg n) (digs_dg m) hl hin hd hc
    rw [val_digs, val_digs] at this
    rw [if_pos (by omega), if_pos this]
  · exact absurd hc hne
  · have := val_part (digs_dg m) (digs_dg n) hl.symm (by omega) hd.symm hc
    rw [val_digs, val_digs] at this
    rw [if_neg (by omega), if_neg (by omega), if_neg (by omega), if_neg (by omega)]

theorem cmp_len_sg {n m : Nat} (hl : ¬ (digs n).length = (digs m).length) : sgI (((digs n).length : Int) - (digs m).length) = cmpI n m := by
  unfold sgI cmpI
  rcases Nat.lt_or_ge (digs n).length (digs m).length with h | h
  · have := cmp_len h
    rw [if_pos (by omega), if_pos (by omega)]
  · have := cmp_len (n := m) (m := n) (by omega)
    rw [if_neg (by omega), if_neg (by omega), if_neg (by omega), if_neg (by omega)]

set_option maxRecDepth 100000 in
set_option maxHeartbeats 2000000 in
theorem against_any (n m : Nat) (a1 a2 : Option Addr) (c1 c2 : Nat) (w : World) (h1 : Row w a1 c1 (digs n)) (h2 : Row w a2 c2 (digs m)) :
    Calls Tryd.prog 44 #[.slice a1 (digs n).length c1, .slice a2 (digs m).length c2] w fun e w' => e = .returned (.int .i64 (cmpI n m)) ∧ Below w.heap.size w w' := by
  have l1 := h1.len63
  have l2 := h2.len63
  have H1 := Lib.hid h1
  have H2 := Lib.hid h2
  clear h1 h2
  refine callsIn_wide (n := 5).1 ?_
  have hn1 : 1 ≤ 5 := by omega
  refine callsIn_of_wp_marks Tryd.func44 rfl trivial ?_ rfl
  simp only [Tryd.ntmps44, List.size_toArray, List.length_cons, List.length_nil, Nat.reduceAdd, Nat.reduceSub, Array.replicate_succ, Array.replicate_zero, List.push_toArray, List.append_toArray, List.nil_append, List.cons_append]
  by_cases hl : (digs n).length = (digs m).length
  · have hl' : ((digs n).length != (digs m).length) = false := by simp [hl]
    have HL := Lib.hid hl
    clear hl
    gi_wp2_with (refine ⟨trivial, ?_⟩; gi_at_call 64; refine (backward_in Fence.wide _ trivial rfl _ _ _ _).mono ?_; rintro e w' ⟨rfl, rfl⟩)
    obtain ⟨w3, hw3⟩ : ∃ w3, (((w.alloc (.cells #[.slice a2 (digs m).length c2] 41)).alloc (.cells #[.int .i64 0] 3)).alloc (.cells #[.slice a1 (digs n).length c1] 41)) = w3 := ⟨_, rfl⟩
    have hsz : w3.heap.size = w.heap.size + 3 := by rw [← hw3]; simp
    have hb3 : Below w.heap.size w w3 := by rw [← hw3]; exact (((Below.refl _ w).alloc (Nat.le_refl _) _).alloc (by simp) _).alloc (by simp; omega) _
    have f0 : w3.cell? ⟨w.heap.size, 0, none⟩ = some (.slice a2 (digs m).length c2) := by rw [← hw3]; simp [go_sem]
    have f1 : w3.cell? ⟨w.heap.size + 1, 0, none⟩ = some (.int .i64 0) := by rw [← hw3]; simp [go_sem]
    have f2 : w3.frozen? ⟨w.heap.size + 1, 0, none⟩ = false := by rw [← hw3]; simp [go_sem]
    have f3 : w3.cell? ⟨w.heap.size + 1 + 1, 0, none⟩ = some (.slice a1 (digs n).length c1) := by rw [← hw3]; simp [go_sem]
    rw [hw3]
    refine wpIn_rangeFunc_ownF rfl hn1 (gf := 83) (lb := #[.pointer (some ⟨w.heap.size + 1 + 1, 0, none⟩)]) rfl trivial (enters_of Tryd.func83 (by kernel_rfl) rfl)
      (backward_stops Fence.wide (5 - 1) trivial rfl (by omega) (w.heap.size + 1 + 1) w.heap.size c1 a1 (digs n) w w3 H1.out (Nat.le_refl _) (by omega) hb3 f3)
      KpB.t (fun W l o o' hl h hc hw => KpB.b (w := w3) (by omega) W l o o' hl h hc hw) (Below.refl _ _) (fun _ => rfl)
      (fun pre W => (∀ p ∈ pre, p.1.2 = dgt (digs m) p.1.1) ∧ W.cell? ⟨w.heap.size, 0, none⟩ = some (.slice a2 (digs m).length c2) ∧ W.cell? ⟨w.heap.size + 1, 0, none⟩ = some (.int .i64 0) ∧ W.frozen? ⟨w.heap.size + 1, 0, none⟩ = false ∧ Below w.heap.size w W)
      (fun c pre W => c = .ret ∧ (∃ ini last, pre = ini ++ [last] ∧ (∀ p ∈ ini, p.1.2 = dgt (digs m) p.1.1) ∧ last.1.2 ≠ dgt (digs m) last.1.1 ∧ W.cell? ⟨w.heap.size + 1, 0, none⟩ = some (.int .i64 (sgI (last.1.2 - dgt (digs m) last.1.1)))) ∧ Below w.heap.size w W)
      (fun s A B row hs hg hr => ⟨hs.1, cell_kept hs.2.1 hg (fun r e => (hr r e).2), cell_kept hs.2.2.1 hg (fun r e => (hr r e).2), (frozen_kept hs.2.2.1 hg (fun r e => (hr r e).2)).trans hs.2.2.2.1, hs.2.2.2.2.grown hg hs.2.2.2.2.size (fun k e => by have := (hr k e).1; omega)⟩)
      (fun c s A B row hs hg hr => by
        obtain ⟨hc, ⟨ini, last, e1, e2, e3, e4⟩, hb⟩ := hs
        exact ⟨hc, ⟨ini, last, e1, e2, e3, cell_kept e4 hg (fun r e => (hr r e).2)⟩, hb.grown hg hb.size (fun k e => by have := (hr k e).1; omega)⟩)
      ⟨by simp, f0, f1, f2, hb3⟩
      (fun x => { tmps := #[.slice a1 (digs n).length c1, .slice a2 (digs m).length c2, undef, .pointer (some ⟨w.heap.size, 0, none⟩), .pointer (some ⟨w.heap.size + 1, 0, none⟩), .int .i64 (x.1.1 : Int), .int .i64 x.1.2, .slice a1 (digs n).length c1, .int .i64 (digs n).length, .slice a2 (digs m).length c2, .int .i64 (digs m).length, .bool false,
        undef, undef, undef, undef, undef, undef, .slice a1 (digs n).length c1, .func (.func 83) #[] #[.pointer (some ⟨w.heap.size + 1 + 1, 0, none⟩)], .int .i64 (x.1.1 : Int), .int .i64 x.1.2, undef, undef, undef, undef, undef, undef, undef, undef, undef, undef, undef, undef, undef], defers := [] }) ?assign ?body ?done ?stop
    case assign =>
      intro l x W K hK
      gi_wp2
      simpa [encP] using hK
    case body =>
      rintro l pre X W ⟨hp, g0, g1, g2, hb⟩ _
      have hi := X.2.1
      have hx2 := X.2.2
      obtain ⟨i, hi0⟩ : ∃ i, X.1.1 = i := ⟨_, rfl⟩
      obtain ⟨x, hx0⟩ : ∃ x, X.1.2 = x := ⟨_, rfl⟩
      rw [hi0, hx0]
      rw [hi0] at hi hx2
      rw [hx0] at hx2
      have HI := Lib.hid hi0
      have HX0 := Lib.hid hx0
      clear hi0 hx0
      have him : i < (digs m).length := by have := HL.out; omega
      obtain ⟨b2, off2, rfl, hb2, hc2⟩ := H2.out.at (by omega)
      have hcx : W.cell? ⟨b2, off2 + i, none⟩ = some (.int .i64 (digs m)[i]) := (hb.cell (p := ⟨b2, off2 + i, none⟩) hb2).trans (hc2 i him)
      have x1 := (dgt_rng (digs_dg n) i)
      rw [← hx2] at x1
      obtain ⟨x1, x2⟩ := x1
      obtain ⟨y1, y2⟩ := (digs_dg m).at i him
      have HP := Lib.hid hp
      have HD := Lib.hid (dgt_at him)
      have HX := Lib.hid hx2
      have hlW : w.heap.size + 1 < W.heap.size := cell_lt g1
      clear hp hc2 hx2 H1 H2 hw3 f0 f1 f2 f3
      by_cases he : x = (digs m)[i]
      · have he' : (x != (digs m)[i]) = false := by simp [he]
        have HE := Lib.hid he
        clear he
        gi_wp2
        refine ⟨KeepsOthers.refl _, KpB.refl _ _ _, ?_, g0, g1, g2, hb⟩
        intro p hp'
        rcases List.mem_append.1 hp' with h | h
        · exact HP.out p h
        · obtain rfl := List.mem_singleton.1 h
          rw [HI.out, HX0.out]; exact HE.out.trans HD.out.symm
      · have he' : (x != (digs m)[i]) = true := by simp [he]
        have HE := Lib.hid he
        clear he
        gi_wp2_with (refine ⟨trivial, ?_⟩; gi_at_call 68; refine (CallsIn.inRound l (callsIn_wide.2 (sign_any _ _))).mono ?_; rintro e w' ⟨rfl, rfl⟩)
        refine ⟨KeepsOthers.setCell _ _ _, rfl, ⟨pre, _, rfl, HP.out, ?_, ?_⟩, hb.setCell (p := ⟨w.heap.size + 1, 0, none⟩) (Nat.le_succ _) _⟩
        · rw [HI.out, HX0.out, HD.out]; exact HE.out
        · rw [HI.out, HX0.out, HD.out]
          exact World.cell?_setCell_same' _ _ _ (by rw [g1]; rfl)
    case done =>
      rintro D ys W hD hys ⟨hp, g0, g1, g2, hb⟩ hK
      have HR := Lib.hid (cmp_done HL.out hys hp)
      have hlW : w.heap.size + 1 < W.heap.size := cell_lt g1
      clear hp hys
      gi_wp2
      have hK' := (KeepsOthers.setCell W ⟨w.heap.size + 1, 0, none⟩ (.int .i64 0)).same D _ hK rfl
      refine ⟨by simp, .inl ⟨_, _, rfl, run_takeDeferred hK', ?_⟩⟩
      have hc5 := cell_kept (World.cell?_setCell_same' W ⟨w.heap.size + 1, 0, none⟩ (.int .i64 0) (by rw [g1]; rfl)) (grownBy_putObj' _ D (.deferred none)) (fun r e => by cases e; exact ⟨_, hK', rfl⟩)
      refine ⟨.int .i64 0, by simp [results, Tryd.f44, go_sem, hc5], ret_int HR.out.symm, (hb.setCell (p := ⟨w.heap.size + 1, 0, none⟩) (Nat.le_succ _) _).trans (belowK_b (w := w) (Nat.le_refl _) _ D _ _ (by omega) hK' rfl rfl)⟩
    case stop =>
      rintro D c pre W hD ⟨k, hk, hpre⟩ ⟨rfl, ⟨ini, last, rfl, e2, e3, e4⟩, hb⟩ hK
      have HR := Lib.hid (cmp_stop HL.out hk hpre e2 e3)
      clear hpre e2 e3
      gi_wp2
      refine ⟨by simp, .inl ⟨_, _, rfl, run_takeDeferred hK, ?_⟩⟩
      have hc5 := cell_kept e4 (grownBy_putObj' _ D (.deferred none)) (fun r e => by cases e; exact ⟨_, hK, rfl⟩)
      refine ⟨_, ?_, ret_int HR.out, hb.trans (belowK_b (w := w) (Nat.le_refl _) W D _ _ (by omega) hK rfl rfl)⟩
      simp [results, Tryd.f44, go_sem, hc5]
  · have hl' : ((digs n).length != (digs m).length) = true := by simp [hl]
    have HL := Lib.hid (cmp_len_sg hl)
    clear hl
    gi_wp2_with (refine ⟨trivial, ?_⟩; gi_at_call 68; refine (callsIn_wide.2 (sign_any _ _)).mono ?_; rintro e w' ⟨rfl, rfl⟩)
    refine ⟨_, ?_, ret_int HL.out, ((Below.refl _ w).alloc (Nat.le_refl _) _).alloc (by simp) _⟩
    simp [results, Tryd.f44, go_sem]
end Go.Proofs.YteiipiomcbohnaaDoor
