/-
  the law NamesNone, walked (of rows whose count does not wrap).
-/
import Derived.Test.YtfcpblclfgkdjaaGreatDoorNtT
namespace Go.Proofs.YtfcpblclfgkdjaaGreatDoor
set_option linter.unusedSimpArgs false
set_option linter.unusedVariables false
open Go.RowKit

/-- The block that holds the first i statements. -/
def AllK (w : World) (i : Nat) (l : List Nd) (W : World) : Prop :=
  ∃ (L : List (Nd × Option Addr × Nat)) (v : Value), L.map (·.1) = l.take i ∧ NRow w.heap.size (w.heap.size + 1) L v W ∧
    (W.cell? ⟨w.heap.size, 0, none⟩ = some (.int .i64 36) ∧ W.cell? ⟨w.heap.size, 1, none⟩ = some (.string ⟨#[]⟩) ∧ W.cell? ⟨w.heap.size, 2, none⟩ = some v ∧ W.cell? ⟨w.heap.size, 3, none⟩ = some (.int .i64 0)) ∧ W.frozen? ⟨w.heap.size, 2, none⟩ = false
theorem AllK.on {w : World} {i : Nat} {l : List Nd} {W W' : World} (h : AllK w i l W) (hw : w.heap.size ≤ W.heap.size) (hb : Below W.heap.size W W') : AllK w i l W' := by
  obtain ⟨L, v, h1, h2, ⟨c0, c1, c2, c3⟩, hz⟩ := h
  exact ⟨L, v, h1, h2.on hw hb, ⟨(hb.cell (p := ⟨w.heap.size, 0, none⟩) (cell_lt c0)).trans c0, (hb.cell (p := ⟨w.heap.size, 1, none⟩) (cell_lt c1)).trans c1, (hb.cell (p := ⟨w.heap.size, 2, none⟩) (cell_lt c2)).trans c2, (hb.cell (p := ⟨w.heap.size, 3, none⟩) (cell_lt c3)).trans c3⟩, (World.frozen?_of_block (hb.block _ (cell_lt c2))).trans hz⟩
theorem all_step {w W W1 w9 : World} {L : List (Nd × Option Addr × Nat)} {v : Value} {q : Nd} {a' : Option Addr} {c' i gg cap : Nat} {l : List Nd} (hbw : Below w.heap.size w W) (hL : L.map (·.1) = l.take i) (hlt : i < l.length) (hq : l[i] = q)
    (hr : NRow w.heap.size (w.heap.size + 1) L v W) (h0 : W.cell? ⟨w.heap.size, 0, none⟩ = some (.int .i64 36) ∧ W.cell? ⟨w.heap.size, 1, none⟩ = some (.string ⟨#[]⟩) ∧ W.cell? ⟨w.heap.size, 2, none⟩ = some v ∧ W.cell? ⟨w.heap.size, 3, none⟩ = some (.int .i64 0)) (hz : W.frozen? ⟨w.heap.size, 2, none⟩ = false)
    (h1 : Below W.heap.size W W1) (hf : Fits q c') (hk : Kids w w.heap.size a' q.kids)
    (hown : w9.ownsRow (w.heap.size + 1) 25 4 (.slice (some ⟨gg, 0, none⟩) (L.length + 1) cap) (L.length + 1) (L.flatMap node4 ++ node4 (q, a', c'))) (hgrow : W1.grownBy w9 v.ownBlock) (hat : v.ownBlock = some gg ∨ gg = W1.heap.size) :
    Hid (AllK w (i + 1) l (w9.setCell ⟨w.heap.size, 2, none⟩ (.slice (some ⟨gg, 0, none⟩) (L.length + 1) cap))) ∧ Hid (Below w.heap.size w (w9.setCell ⟨w.heap.size, 2, none⟩ (.slice (some ⟨gg, 0, none⟩) (L.length + 1) cap))) ∧ w9.frozen? ⟨w.heap.size, 2, none⟩ = false ∧ w9.cell? ⟨w.heap.size, 2, none⟩ = some v ∧ Below w.heap.size w w9 := by
  obtain ⟨c0, c1, c2, c3⟩ := h0
  have hsz := hbw.size
  have hs1 := h1.size
  have hs9 := hgrow.size
  have hne : some w.heap.size ≠ v.ownBlock := fun e => by have := (own_lt hr.own e.symm).1; omega
  have hgg : w.heap.size < gg := by
    rcases hat with h | h
    · have := (own_lt hr.own h).1; omega
    · have := cell_lt c0; omega
  have mv : ∀ (o : Nat) (u : Value), W.cell? ⟨w.heap.size, o, none⟩ = some u → w9.cell? ⟨w.heap.size, o, none⟩ = some u := fun o u h => (hgrow.cell_far ⟨w.heap.size, o, none⟩ (by have := cell_lt h; show w.heap.size < _; omega) hne).trans ((h1.cell (p := ⟨w.heap.size, o, none⟩) (cell_lt h)).trans h)
  have hz9 : w9.frozen? ⟨w.heap.size, 2, none⟩ = false := (hgrow.frozen_far ⟨w.heap.size, 2, none⟩ (by have := cell_lt c2; show w.heap.size < _; omega) hne).trans ((World.frozen?_of_block (h1.block _ (cell_lt c2))).trans hz)
  have hb9 : Below w.heap.size w w9 := ((hbw.trans (h1.mono hsz)).grown hgrow (by omega) (fun k e => by have := (own_lt hr.own e).1; omega))
  have hbs := hb9.setCell (p := ⟨w.heap.size, 2, none⟩) (Nat.le_refl _) (.slice (some ⟨gg, 0, none⟩) (L.length + 1) cap)
  have c2' := mv 2 v c2
  refine ⟨Lib.hid ⟨L ++ [(q, a', c')], .slice (some ⟨gg, 0, none⟩) (L.length + 1) cap, by rw [List.map_append, hL, List.take_succ_eq_append_getElem hlt, hq]; rfl, ⟨?_, fun x hx => ?_⟩, ⟨?_, ?_, ?_, ?_⟩, ?_⟩, Lib.hid hbs, hz9, c2', hb9⟩
  · rw [List.length_append, List.flatMap_append]
    refine ownsRow_of (w := w9) (by simpa using hown) (fun g hgv => Below.heap_setCell w9 ⟨w.heap.size, 2, none⟩ _ g ?_)
    obtain rfl : gg = g := by simpa [Value.ownBlock] using hgv
    show gg ≠ w.heap.size
    omega
  · rcases List.mem_append.1 hx with hx | hx
    · exact ⟨(hr.kids x hx).1, (hr.kids x hx).2.keep (Nat.le_refl _) (fun p hp => by
        exact (cell_far_set (by omega)).trans ((hgrow.cell_far p (by omega) (fun e => by have := (own_lt hr.own e.symm).1; omega)).trans (h1.cell (p := p) (by omega))))⟩
    · rw [List.mem_singleton] at hx
      subst hx
      exact ⟨hf, hk.below hbs (Nat.le_refl _)⟩
  · exact (by simp [go_sem] : ∀ (b o : Nat), (w9.setCell ⟨b, 2, none⟩ (.slice (some ⟨gg, 0, none⟩) (L.length + 1) cap)).cell? ⟨b, 0, none⟩ = w9.cell? ⟨b, 0, none⟩) w.heap.size 0 |>.trans (mv 0 _ c0)
  · exact (by simp [go_sem] : ∀ (b o : Nat), (w9.setCell ⟨b, 2, none⟩ (.slice (some ⟨gg, 0, none⟩) (L.length + 1) cap)).cell? ⟨b, 1, none⟩ = w9.cell? ⟨b, 1, none⟩) w.heap.size 0 |>.trans (mv 1 _ c1)
  · simp [go_sem, c2']
  · exact (by simp [go_sem] : ∀ (b o : Nat), (w9.setCell ⟨b, 2, none⟩ (.slice (some ⟨gg, 0, none⟩) (L.length + 1) cap)).cell? ⟨b, 3, none⟩ = w9.cell? ⟨b, 3, none⟩) w.heap.size 0 |>.trans (mv 3 _ c3)
  · simp [go_sem, hz9]
/-- The block of all statements. -/
theorem AllK.node {w : World} {l : List Nd} {W : World} (h : AllK w l.length l W) (hw : w.heap.size ≤ W.heap.size) : ∃ a c, (W.cell? ⟨w.heap.size, 0, none⟩ = some (.int .i64 36) ∧ W.cell? ⟨w.heap.size, 1, none⟩ = some (.string ⟨#[]⟩) ∧ W.cell? ⟨w.heap.size, 2, none⟩ = some (.slice a l.length c) ∧ W.cell? ⟨w.heap.size, 3, none⟩ = some (.int .i64 0)) ∧ Kids W W.heap.size a l ∧ l.length ≤ c ∧ c ≤ 9223372036854775807 := by
  obtain ⟨L, v, h1, h2, h3, -⟩ := h
  rw [List.take_length] at h1
  by_cases e : L = []
  · subst e
    obtain rfl : l = [] := by simpa using h1.symm
    rcases h2.own.2 with ⟨rfl, -⟩ | ⟨g, cap, cur, rfl, -, -, -, hmax, -⟩
    · exact ⟨none, 0, h3, Kids.nil _ _ _, by simp, by omega⟩
    · exact ⟨some ⟨g, 0, none⟩, cap, h3, Kids.nil _ _ _, by simp, by unfold maxLen at hmax; omega⟩
  · obtain ⟨g, cap, hv, -, -, -, hmax, -⟩ := h2.lies e
    obtain ⟨a, c, hv', hk, hc, -⟩ := h2.toKids hw e
    rw [h1] at hv' hk hc
    have : c = cap := by rw [hv] at hv'; simp only [Value.slice.injEq] at hv'; exact hv'.2.2.symm
    rw [hv'] at h3
    exact ⟨a, c, h3, hk, hc, by unfold maxLen at hmax; omega⟩
/-- Is one of the first k nodes a name with this text? -/
def isNm (A : List Nd) (k : Nat) (d : List UInt8) : Bool := (A.take k).any (fun q => q.kind == 18 && q.text == d)
theorem isNm_succ (A : List Nd) (k : Nat) (d : List UInt8) (h : k < A.length) : isNm A (k + 1) d = (isNm A k d || (A[k].kind == 18 && A[k].text == d)) := by
  unfold isNm
  rw [List.take_succ_eq_append_getElem h, List.any_append]; simp
theorem none_found {l : List Nd} (hh : ∀ k, k ∈ l → InAll Loc k ∧ k.height ≤ 100) {d : List UInt8} (hd : d ∈ blockF (freeP 100) [] l) : isNm (nodesL 200 (.mk 36 [] l 0)) (nodesL 200 (.mk 36 [] l 0)).length d = true := by
  obtain ⟨k, hk, x, h1, h2, h3⟩ := block_mem (fun b t s => freeP_mem 100 b t s) l [] d hd
  unfold isNm
  rw [List.take_length, List.any_eq_true]
  refine ⟨x, ?_, by rw [h2, h3]; simp⟩
  rw [nodesL_succ]
  exact List.mem_cons_of_mem _ (List.mem_flatMap.2 ⟨k, hk, nodesL_high 100 199 k x (by have := (hh k hk).2; omega) h1⟩)

set_option maxRecDepth 100000 in
set_option maxHeartbeats 16000000 in
theorem none_law (l : List Nd) (a : Option Addr) (c : Nat) (s u : List UInt8) (w : World) (hN : ∀ d, (l.flatMap (walkL d)).length + 1 ≤ 1048576) (hs : s.length ≤ 140737488351232) (hu : u.length ≤ 140737488351232) (hg : Glob w) (hT : Aw.Tab w) (hk : Kids w w.heap.size a l) (hc : l.length ≤ c) (hc2 : c ≤ 9223372036854775807) :
    Calls Tryz.prog 4 #[.slice a l.length c, .string ⟨s.toArray⟩, .string ⟨u.toArray⟩] w fun e w' => e = .returned (.bool true) ∧ Below w.heap.size w w' := by
  have hl63 : l.length ≤ 9223372036854775807 := by omega
  obtain ⟨wa, hwa⟩ : ∃ wa, w.alloc (.cells #[.int .i64 36, .string ⟨#[]⟩, .slice none 0 0, .int .i64 0] 25) = wa := ⟨_, rfl⟩
  have hba : Below w.heap.size w wa := by rw [← hwa]; exact below_alloc _ _
  have hA0 : AllK w 0 l wa := by
    rw [← hwa]
    exact ⟨[], .slice none 0 0, rfl, ⟨World.ownsRow_nil _ _ _ _, fun x hx => by cases hx⟩, ⟨by simp [go_sem], by simp [go_sem], by simp [go_sem], by simp [go_sem]⟩, by simp [go_sem]⟩
  have HTK := Lib.hid hba
  have HA0 := Lib.hid hA0
  have HG := Lib.hid hg
  have HT := Lib.hid hT
  have HK := Lib.hid hk
  have HN := Lib.hid hN
  have HS := Lib.hid hs
  have HU := Lib.hid hu
  subst hwa
  clear hN hs hu hg hT hk hA0 hba
  go_enter Tryz.func4, Tryz.ntmps4
  by_cases h30 : (30 : Int) < l.length
  · go_wp2_with fail
    go_ret
    exact ⟨rfl, Below.refl _ _⟩
  go_wp2_with fail
  go_loopw [8] (fun iv wr => ∃ i : Nat, i ≤ l.length ∧ iv = .int .i64 i ∧ Hid (Below w.heap.size w wr) ∧ Hid (AllK w i l wr) ∧ Hid (∀ j (h : j < l.length), j < i → InAll Loc l[j] ∧ l[j].height ≤ 100)) (fun iv _ => l.length - (intOf iv).toNat)
  case atStart => exact ⟨0, by omega, rfl, HTK, HA0, Lib.hid (fun j _ h => by omega)⟩
  case round =>
    clear HTK HA0
    obtain ⟨i, hi, rfl, HTK, HAI, HJ⟩ := hrel
    by_cases hlt : i < l.length
    · obtain ⟨bb, off, a', c', ha, hlb, hq4, hf', hn'⟩ := HK.out.get hlt
      subst ha
      have hstep : (InAll Loc l[i] ∧ l[i].height ≤ 100) → ∀ j (h : j < l.length), j < i + 1 → InAll Loc l[j] ∧ l[j].height ≤ 100 := fun hx j h hj => by
        by_cases e : j = i
        · subst e; exact hx
        · exact HJ.out j h (by omega)
      have hkq : ∀ W, Below w.heap.size w W → Four W bb (off + i * 4) l[i] a' c' ∧ Kids W W.heap.size a' l[i].kids := fun W hW => ⟨four_on hW hlb hq4, hn'.on hW⟩
      obtain ⟨q, hq⟩ : ∃ q, l[i] = q := ⟨_, rfl⟩
      have HQ := Lib.hid hq
      rw [hq] at hq4 hf' hn' hstep hkq
      obtain ⟨n, hn⟩ : ∃ n, wrap64 (walkL 1000 q).length = n := ⟨_, rfl⟩
      obtain ⟨r1, hr1⟩ : ∃ r, rightB sStmt q = r := ⟨_, rfl⟩
      obtain ⟨r2, hr2⟩ : ∃ r, rightB sExpr q = r := ⟨_, rfl⟩
      have HKQ := Lib.hid hkq
      have HN2 := Lib.hid hn'
      have HSTEP := Lib.hid hstep
      have HR1 := Lib.hid hr1
      have HR2 := Lib.hid hr2
      have HSZ := Lib.hid (size_at 1000 (by omega) q a' c' wr n hn (hkq _ HTK.out).2 hf')
      obtain ⟨q0, q1, q2, q3⟩ := (hkq _ HTK.out).1
      clear hq4 hn' hstep hkq hq hn hr1 hr2 HJ
      go_wp2_with fail
      refine HSZ.out.mono ?_
      rintro e w1 ⟨rfl, hb1⟩
      have HTK1 := Lib.hid (bext HTK.out hb1)
      have HA1 := Lib.hid (HAI.out.on HTK.out.size hb1)
      clear hb1 HTK HSZ HAI
      obtain ⟨⟨q0, q1, q2, q3⟩, hk1⟩ := HKQ.out _ HTK1.out
      by_cases h300 : (300 : Int) < n
      · go_wp2_with fail
        go_ret
        exact ⟨rfl, HTK1.out⟩
      have HC1 := Lib.hid (show Calls Tryz.prog 6 #[.agg #[.int .i64 q.kind, .string ⟨q.text.toArray⟩, .slice a' q.kids.length c', .int .i64 q.pos], .string ⟨#[115, 116, 97, 116, 101, 109, 101, 110, 116]⟩] w1 _ from right_at sStmt q a' c' w1 r1 HR1.out (HG.out.on HTK1.out) hk1 hf')
      clear hk1
      go_wp2_with fail
      refine HC1.out.mono ?_
      rintro e w2 ⟨rfl, hb2⟩
      have HTK2 := Lib.hid (bext HTK1.out hb2)
      have HA2 := Lib.hid (HA1.out.on HTK1.out.size hb2)
      clear hb2 HTK1 HC1 HA1
      obtain ⟨⟨q0, q1, q2, q3⟩, hk2⟩ := HKQ.out _ HTK2.out
      cases r1 with
      | true =>
        have HOK := Lib.hid (right_loc (.inl rfl) HR1.out)
        have HTKW := HTK2
        have HAW := HA2
        clear hk2 HTK2 HA2
        have HNX := Lib.hid (HSTEP.out HOK.out)
        obtain ⟨L, v, hL, hrow, hcell, hfz⟩ := HAW.out
        have HSTP := Lib.hid (fun (w9 : World) (gg cap : Nat) => all_step (w9 := w9) (gg := gg) (cap := cap) HTKW.out hL hlt HQ.out hrow hcell hfz (below_da w2 (.cells #[.int .i64 q.kind, .string ⟨q.text.toArray⟩, .slice a' q.kids.length c', .int .i64 q.pos] 25)) hf' HN2.out)
        have hLl : L.length = i := by have := congrArg List.length hL; simp at this; omega
        have HOWN := Lib.hid (hrow.on (by have := HTKW.out.size; omega) (below_da w2 (.cells #[.int .i64 q.kind, .string ⟨q.text.toArray⟩, .slice a' q.kids.length c', .int .i64 q.pos] 25))).own
        have HNEW := Lib.hid (news_one w2.drew q a' c')
        rw [hLl] at HSTP HOWN
        have h63 : i + 1 ≤ maxLen := by unfold maxLen; omega
        have hby : (i + 1) * 56 ≤ 140737488355328 := by omega
        have hbase : w.heap.size + 1 ≤ (w2.drew.alloc (.cells #[.int .i64 q.kind, .string ⟨q.text.toArray⟩, .slice a' q.kids.length c', .int .i64 q.pos] 25)).heap.size := by have := HTKW.out.size; simp; omega
        obtain ⟨i9, hi9, hz90, hz91, hz92⟩ := info_parts info24
        obtain ⟨c0, c1, c2, c3⟩ := hcell
        have lA := cell_lt c0
        clear hL hrow HAW
        go_wp2_with fail
        go_region_law
          ((refine step_append_lies _ (by rfl) _ _ _ (by rfl) (w.heap.size + 1) 25 i9 _ 4 56 und22 hi9 hz90 hz91 hz92 rfl (by omega) v i (L.flatMap node4) (by rfl) HOWN.out ⟨w2.heap.size, 0, none⟩ 1 1 (node4 (q, a', c')) (by rfl) (by rfl) HNEW.out (one4 q a' c') (by omega) h63 hby hbase (w2.heap.size + 1) (by simp) ?_; intro gg cap w9 hown9 hgrow9 hat9 hlt9; obtain ⟨HA9, HB9, hz9, c29, hb9⟩ := HSTP.out w9 gg cap hown9 hgrow9 (hat9.imp id (fun e => e.trans (by simp))); have l9 := cell_lt c29))
        all_goals
          go_wp2_with fail
          go_roundw
          case rel => exact ⟨i + 1, by omega, by go_num, HB9, HA9, HNX⟩
          case measure => simp [intOf]; omega

      | false =>
      have HC2 := Lib.hid (show Calls Tryz.prog 6 #[.agg #[.int .i64 q.kind, .string ⟨q.text.toArray⟩, .slice a' q.kids.length c', .int .i64 q.pos], .string ⟨#[101, 120, 112, 114, 101, 115, 115, 105, 111, 110]⟩] w2 _ from right_at sExpr q a' c' w2 r2 HR2.out (HG.out.on HTK2.out) hk2 hf')
      clear hk2
      go_wp2_with fail
      refine HC2.out.mono ?_
      rintro e w3 ⟨rfl, hb3⟩
      have HTKW := Lib.hid (bext HTK2.out hb3)
      have HAW := Lib.hid (HA2.out.on HTK2.out.size hb3)
      clear hb3 HTK2 HC2 HA2
      obtain ⟨⟨q0, q1, q2, q3⟩, -⟩ := HKQ.out _ HTKW.out
      cases r2 with
      | false =>
        go_wp2_with fail
        go_ret
        exact ⟨rfl, HTKW.out⟩
      | true =>
        have HOK := Lib.hid (right_loc (.inr rfl) HR2.out)
        have HNX := Lib.hid (HSTEP.out HOK.out)
        obtain ⟨L, v, hL, hrow, hcell, hfz⟩ := HAW.out
        have HSTP := Lib.hid (fun (w9 : World) (gg cap : Nat) => all_step (w9 := w9) (gg := gg) (cap := cap) HTKW.out hL hlt HQ.out hrow hcell hfz (below_da w3 (.cells #[.int .i64 q.kind, .string ⟨q.text.toArray⟩, .slice a' q.kids.length c', .int .i64 q.pos] 25)) hf' HN2.out)
        have hLl : L.length = i := by have := congrArg List.length hL; simp at this; omega
        have HOWN := Lib.hid (hrow.on (by have := HTKW.out.size; omega) (below_da w3 (.cells #[.int .i64 q.kind, .string ⟨q.text.toArray⟩, .slice a' q.kids.length c', .int .i64 q.pos] 25))).own
        have HNEW := Lib.hid (news_one w3.drew q a' c')
        rw [hLl] at HSTP HOWN
        have h63 : i + 1 ≤ maxLen := by unfold maxLen; omega
        have hby : (i + 1) * 56 ≤ 140737488355328 := by omega
        have hbase : w.heap.size + 1 ≤ (w3.drew.alloc (.cells #[.int .i64 q.kind, .string ⟨q.text.toArray⟩, .slice a' q.kids.length c', .int .i64 q.pos] 25)).heap.size := by have := HTKW.out.size; simp; omega
        obtain ⟨i9, hi9, hz90, hz91, hz92⟩ := info_parts info24
        obtain ⟨c0, c1, c2, c3⟩ := hcell
        have lA := cell_lt c0
        clear hL hrow HAW
        go_wp2_with fail
        go_region_law
          ((refine step_append_lies _ (by rfl) _ _ _ (by rfl) (w.heap.size + 1) 25 i9 _ 4 56 und22 hi9 hz90 hz91 hz92 rfl (by omega) v i (L.flatMap node4) (by rfl) HOWN.out ⟨w3.heap.size, 0, none⟩ 1 1 (node4 (q, a', c')) (by rfl) (by rfl) HNEW.out (one4 q a' c') (by omega) h63 hby hbase (w3.heap.size + 1) (by simp) ?_; intro gg cap w9 hown9 hgrow9 hat9 hlt9; obtain ⟨HA9, HB9, hz9, c29, hb9⟩ := HSTP.out w9 gg cap hown9 hgrow9 (hat9.imp id (fun e => e.trans (by simp))); have l9 := cell_lt c29))
        all_goals
          go_wp2_with fail
          go_roundw
          case rel => exact ⟨i + 1, by omega, by go_num, HB9, HA9, HNX⟩
          case measure => simp [intOf]; omega

    · obtain rfl : i = l.length := by omega
      have hh : ∀ k, k ∈ l → InAll Loc k ∧ k.height ≤ 100 := fun k hk => by
        obtain ⟨j, hj, rfl⟩ := List.getElem_of_mem hk
        exact HJ.out j hj hj
      have hN100 : (l.flatMap (walkL 100)).length ≤ 1048576 := by have := HN.out 100; omega
      have h1000 : l.length ≤ 1000 := by omega
      obtain ⟨F0, hF0⟩ : ∃ F0, blockF (freeP 100) [] l = F0 := ⟨_, rfl⟩
      obtain ⟨X, hX⟩ : ∃ X, blockP (nodeP (ren s u) 100) [] l = X := ⟨_, rfl⟩
      have HNON := Lib.hid (show s ∉ F0 → X = l from fun h => by rw [← hX]; exact block_none (fun b t h => free_none 100 b t h) l [] (by rw [hF0]; exact h))
      obtain ⟨aT, cT, hT4, hkT, hlT, hmT⟩ := HAI.out.node HTK.out.size
      have hft : Fits (.mk 36 [] l 0) cT := ⟨(by decide : (-9223372036854775808 : Int) ≤ 36), (by decide : (36 : Int) ≤ 9223372036854775807), (by decide : (-9223372036854775808 : Int) ≤ 0), (by decide : (0 : Int) ≤ 9223372036854775807), Nat.zero_le _, hlT, hmT, by show l.length * 56 ≤ 140737488351232; omega⟩
      have hwT : (walkL 200 (.mk 36 [] l 0)).length ≤ 1048576 := by have := HN.out 199; rw [walkL, List.length_cons]; exact this
      obtain ⟨A, hA⟩ : ∃ A, nodesL 200 (.mk 36 [] l 0) = A := ⟨_, rfl⟩
      have HALL := Lib.hid (show ∀ W, Below wr.heap.size wr W → Calls Tryz.prog 7 #[.agg #[.int .i64 36, .string ⟨#[]⟩, .slice aT l.length cT, .int .i64 0], .int .i64 200] W (fun e w' => ∃ aA cA, e = .returned (.slice aA A.length cA) ∧ Below W.heap.size W w' ∧ Kids w' w'.heap.size aA A ∧ A.length ≤ cA ∧ A.length ≤ 9223372036854775807) from fun W hW => by
        have := all_at (.mk 36 [] l 0) aT cT W (hkT.on hW) hft hwT
        rw [hA] at this
        exact this)
      have HFD := Lib.hid (show ∀ d, d ∈ F0 → isNm A A.length d = true from fun d hd => by rw [← hA]; exact none_found hh (by rw [hF0]; exact hd))
      have HFL := Lib.hid (free_at l F0 hF0 a c l.length wr rfl hh hN100 (HK.out.on HTK.out) hc hc2 h1000)
      have HCA := Lib.hid (fun (W : World) (h1 : Kids W W.heap.size a l) => called_at s u l X hX a c W HS.out HU.out hh hN100 h1 hc hc2 h1000)
      have HHL := Lib.hid hh
      have HT4 := Lib.hid hT4
      clear hh hN100 hF0 hX hT4 hkT hlT hmT hft hwT hA HJ HAI hlt
      go_wp2_with fail
      refine HFL.out.mono ?_
      rintro e w1 ⟨F, aF, cF, rfl, hkF, hlF, hmF, hb1⟩
      obtain ⟨t0, t1, t2, t3⟩ := HT4.out
      have HT1 := Lib.hid (show ∀ W, Below w1.heap.size w1 W → (W.cell? ⟨w.heap.size, 0, none⟩ = some (.int .i64 36) ∧ W.cell? ⟨w.heap.size, 1, none⟩ = some (.string ⟨#[]⟩) ∧ W.cell? ⟨w.heap.size, 2, none⟩ = some (.slice aT l.length cT) ∧ W.cell? ⟨w.heap.size, 3, none⟩ = some (.int .i64 0)) from fun W hW =>
        ⟨((bext hb1 hW).cell (p := ⟨w.heap.size, 0, none⟩) (cell_lt t0)).trans t0, ((bext hb1 hW).cell (p := ⟨w.heap.size, 1, none⟩) (cell_lt t1)).trans t1, ((bext hb1 hW).cell (p := ⟨w.heap.size, 2, none⟩) (cell_lt t2)).trans t2, ((bext hb1 hW).cell (p := ⟨w.heap.size, 3, none⟩) (cell_lt t3)).trans t3⟩)
      have HAL1 := Lib.hid (fun (W : World) (hW : Below w1.heap.size w1 W) => HALL.out W (bext hb1 hW))
      have HB1 := Lib.hid (bext HTK.out hb1)
      have HKF := Lib.hid hkF
      have HMF := Lib.hid hmF
      have HI1 := Lib.hid (Below.refl w1.heap.size w1)
      clear hb1 hkF hmF t0 t1 t2 t3 HT4 HALL HFL HTK
      go_wp2_with fail
      go_loopw [10, 11] (fun sv iv wi => ∃ i : Nat, i ≤ F.length ∧ iv = .int .i64 i ∧ sv = .bool (isIn F i s) ∧ Hid (Below w1.heap.size w1 wi)) (fun _ iv _ => F.length - (intOf iv).toNat)
      case atStart => exact ⟨0, by omega, rfl, by simp [isIn], HI1⟩
      case round =>
        clear HI1
        obtain ⟨i, hi, rfl, rfl, HBI⟩ := hrel
        by_cases hlt : i < F.length
        · obtain ⟨bF, oF, haF, hcF⟩ := (HKF.out.on HBI.out) i hlt
          subst haF
          have hsucc := isIn_succ F i s hlt
          have hfd := HFD.out F[i] ((HMF.out _).1 (List.getElem_mem hlt))
          have hcw : ∀ W, Below w1.heap.size w1 W → W.cell? ⟨bF, oF + i, none⟩ = some (.string ⟨F[i].toArray⟩) := fun W hW => by
            obtain ⟨b2, o2, e2, h2⟩ := (HKF.out.on hW) i hlt
            injection e2 with e2
            injection e2 with e3 e4
            subst e3 e4
            exact h2
          obtain ⟨d, hd⟩ : ∃ d, F[i] = d := ⟨_, rfl⟩
          rw [hd] at hcF hsucc hfd hcw
          obtain ⟨r, hr⟩ : ∃ r, (d == s) = r := ⟨_, rfl⟩
          rw [hr] at hsucc
          obtain ⟨sv, hsv⟩ : ∃ sv, isIn F i s = sv := ⟨_, rfl⟩
          rw [hsv] at hsucc ⊢
          obtain ⟨t0, t1, t2, t3⟩ := HT1.out _ HBI.out
          have HSUC := Lib.hid hsucc
          have HCW := Lib.hid hcw
          have HFOUND := Lib.hid hfd
          have HAC := Lib.hid (HAL1.out _ HBI.out)
          clear hsucc hsv hd hfd hcw
          cases sv
          all_goals
            go_wp2_with fail
            refine HAC.out.mono ?_
            rintro e w4 ⟨aA, cA, rfl, hb4, hkA, hlA, hmA⟩
            have HB4 := Lib.hid (bext HBI.out hb4)
            have HKA := Lib.hid hkA
            have HI4 := Lib.hid (Below.refl w4.heap.size w4)
            clear hb4 hkA HBI HAC t0 t1 t2 t3 hcF
            go_wp2_with fail
            go_loopw [12, 14] (fun fv kv wk => ∃ k : Nat, k ≤ A.length ∧ kv = .int .i64 k ∧ fv = .bool (isNm A k d) ∧ Hid (Below w4.heap.size w4 wk)) (fun _ kv _ => A.length - (intOf kv).toNat)
            case atStart => exact ⟨0, by omega, rfl, by simp [isNm], HI4⟩
            case round =>
              clear HI4
              obtain ⟨k, hk1, rfl, rfl, HBK⟩ := hrel
              by_cases hkl : k < A.length
              · obtain ⟨bA, oA, a'', c'', haA, -, ⟨p0, p1, p2, p3⟩, -, -⟩ := (HKA.out.on HBK.out).get hkl
                have hcN := HCW.out _ (bext HB4.out HBK.out)
                have hnsucc := isNm_succ A k d hkl
                subst haA
                obtain ⟨q, hq⟩ : ∃ q, A[k] = q := ⟨_, rfl⟩
                rw [hq] at p0 p1 p2 p3 hnsucc
                obtain ⟨e1, he1⟩ : ∃ e1, (q.text == d) = e1 := ⟨_, rfl⟩
                rw [he1] at hnsucc
                have hlb : bA < wr.heap.size := cell_lt p0
                have hlb2 : bF < wr.heap.size := cell_lt hcN
                obtain ⟨fv, hfv⟩ : ∃ fv, isNm A k d = fv := ⟨_, rfl⟩
                rw [hfv] at hnsucc ⊢
                have HNS := Lib.hid hnsucc
                clear hnsucc hfv hq
                cases fv <;> cases k18 : (q.kind == 18)
                all_goals
                  have HV := Lib.hid HNS.out
                  rw [k18] at HV
                  go_wp2_with fail
                  go_quiet (fail)
                  all_goals
                    go_wp2_with fail
                    go_roundw
                    case rel => exact ⟨k + 1, by omega, by go_num, by rw [HV.out]; cases e1 <;> rfl, Lib.hid (bext HBK.out (below_drewN (Below.refl _ _) _))⟩
                    case measure => simp [intOf]; omega
              · obtain rfl : k = A.length := by omega
                rw [HFOUND.out]
                have HBJ := Lib.hid (bext HB4.out HBK.out)
                go_wp2_with fail
                go_roundw
                case rel => exact ⟨i + 1, by omega, by go_num, by rw [HSUC.out]; rfl, HBJ⟩
                case measure => simp [intOf]; omega
        · obtain rfl : i = F.length := by omega
          have HIN := Lib.hid (isIn_all F s)
          obtain ⟨iz, hiz⟩ : ∃ iz, isIn F F.length s = iz := ⟨_, rfl⟩
          rw [hiz] at HIN ⊢
          have HB2 := Lib.hid (bext HB1.out HBI.out)
          have HK2 := Lib.hid (HK.out.on HB2.out)
          have HCC := Lib.hid (HCA.out _ HK2.out)
          have eL : ((l.length : Int) == (l.length : Int)) = true := by simp
          clear HBI hlt hiz
          go_wp2_with fail
          refine HCC.out.mono ?_
          rintro e w5 ⟨aX, cX, rfl, hb5, hkX, hlX, hmX⟩
          have HB5 := Lib.hid (bext HB2.out hb5)
          have HK5 := Lib.hid (HK2.out.on hb5)
          have HKX := Lib.hid hkX
          have HI5 := Lib.hid (Below.refl w5.heap.size w5)
          clear hb5 hkX HCC HK2 HB2
          cases iz with
          | true =>
            go_wp2_with fail
            go_loopw [16] (fun iv wi => ∃ i : Nat, i ≤ l.length ∧ iv = .int .i64 i ∧ Hid (Below w5.heap.size w5 wi)) (fun iv _ => l.length - (intOf iv).toNat)
            case atStart => exact ⟨0, by omega, rfl, HI5⟩
            case round =>
              clear HI5
              obtain ⟨i, hi, rfl, HBI⟩ := hrel
              have HA := Lib.hid (Aw.awake_any wr (HT.out.on (bext HB5.out HBI.out)))
              by_cases hlt : i < l.length
              all_goals
                go_wp2_with fail
                refine HA.out.mono ?_
                rintro e w9 ⟨rfl, hb9⟩
                have HB9 := Lib.hid (bext (bext HB5.out HBI.out) hb9)
                clear hb9
                go_wp2_with fail
                go_ret
                exact ⟨rfl, HB9.out⟩
          | false =>
            obtain rfl : X = l := HNON.out (fun h => by
              have h1 := (HMF.out s).2 h
              have h2 := HIN.out
              rw [decide_eq_true h1] at h2
              cases h2)
            go_wp2_with fail
            go_loopw [16] (fun iv wi => ∃ i : Nat, i ≤ X.length ∧ iv = .int .i64 i ∧ Hid (Below w5.heap.size w5 wi)) (fun iv _ => X.length - (intOf iv).toNat)
            case atStart => exact ⟨0, by omega, rfl, HI5⟩
            case round =>
              clear HI5
              obtain ⟨i, hi, rfl, HBI⟩ := hrel
              by_cases hlt : i < X.length
              · obtain ⟨b1, o1, a1, c1, ha, hlb1, hq1, hf1, hn1⟩ := HKX.out.get hlt
                obtain ⟨b2, o2, a2, c2, haY, hlb2, hq2, hf2, hn2⟩ := HK5.out.get hlt
                subst ha haY
                have hht := (HHL.out _ (List.getElem_mem hlt)).2
                obtain ⟨q, hq⟩ : ∃ q, X[i] = q := ⟨_, rfl⟩
                rw [hq] at hq1 hf1 hn1 hq2 hf2 hn2 hht
                have HSM := Lib.hid (show ∀ W, Below w5.heap.size w5 W → Calls Tryz.prog 9 #[.agg #[.int .i64 q.kind, .string ⟨q.text.toArray⟩, .slice a1 q.kids.length c1, .int .i64 q.pos], .agg #[.int .i64 q.kind, .string ⟨q.text.toArray⟩, .slice a2 q.kids.length c2, .int .i64 q.pos], .int .i64 200] W (fun e w' => e = .returned (.bool true) ∧ (Four w' b1 (o1 + i * 4) q a1 c1 ∧ Four w' b2 (o2 + i * 4) q a2 c2) ∧ Hid (Below w5.heap.size w5 w')) from fun W hW =>
                  (same_at q a1 a2 c1 c2 W hht (hn1.on hW) hf1 (hn2.on hW) hf2).mono fun e w' ⟨he, hb⟩ => ⟨he, ⟨four_on (bext hW hb) hlb1 hq1, four_on (bext hW hb) hlb2 hq2⟩, Lib.hid (bext hW hb)⟩)
                obtain ⟨q0, q1, q2, q3⟩ := four_on HBI.out hlb1 hq1
                obtain ⟨p0, p1, p2, p3⟩ := four_on HBI.out hlb2 hq2
                clear hq1 hf1 hn1 hq2 hf2 hn2 hht hq
                go_wp2_with fail
                go_region_held3 (fun W' => (W'.cell? ⟨b1, o1 + i * 4, none⟩ = some (.int .i64 q.kind) ∧ W'.cell? ⟨b1, o1 + i * 4 + 1, none⟩ = some (.string ⟨q.text.toArray⟩) ∧ W'.cell? ⟨b1, o1 + i * 4 + 2, none⟩ = some (.slice a1 q.kids.length c1) ∧ W'.cell? ⟨b1, o1 + i * 4 + 3, none⟩ = some (.int .i64 q.pos)) ∧ (W'.cell? ⟨b2, o2 + i * 4, none⟩ = some (.int .i64 q.kind) ∧ W'.cell? ⟨b2, o2 + i * 4 + 1, none⟩ = some (.string ⟨q.text.toArray⟩) ∧ W'.cell? ⟨b2, o2 + i * 4 + 2, none⟩ = some (.slice a2 q.kids.length c2) ∧ W'.cell? ⟨b2, o2 + i * 4 + 3, none⟩ = some (.int .i64 q.pos))) (go_keep)
                  (first
                    | (go_at_call 9
                       refine (HSM.out _ (by first | exact HBI.out | exact HBI.out.drew)).mono ?_
                       rintro e w5 ⟨rfl, ⟨⟨q0, q1, q2, q3⟩, ⟨p0, p1, p2, p3⟩⟩, hr5⟩))
                all_goals
                  go_wp2_with fail
                  go_roundw
                  case rel => exact ⟨i + 1, by omega, by go_num, hr5⟩
                  case measure => simp [intOf]; omega
              · obtain rfl : i = X.length := by omega
                have HA := Lib.hid (Aw.awake_any wr (HT.out.on (bext HB5.out HBI.out)))
                go_wp2_with fail
                refine HA.out.mono ?_
                rintro e w9 ⟨rfl, hb9⟩
                have HB9 := Lib.hid (bext (bext HB5.out HBI.out) hb9)
                clear hb9
                go_wp2_with fail
                go_ret
                exact ⟨rfl, HB9.out⟩
end Go.Proofs.YtfcpblclfgkdjaaGreatDoor
