/-
  division, walked.
-/
import Derived.Laws.AppendOwnNone
import Derived.Test.YteiipiomcbohnaaDoorBgM
import Derived.Test.YteiipiomcbohnaaDoorBgN
namespace Go.Proofs.YteiipiomcbohnaaDoor
set_option linter.unusedSimpArgs false
set_option linter.unusedVariables false
open Go.RowKit Go.Shelf
attribute [local go_sem] Oper.semAt_some

/-- A quotient and a rest come back. -/
def DivPost (b1 b2 : Bool) (n m : Nat) (w : World) (e : Ending) (w' : World) : Prop :=
  ∃ (bq : Bool) (nq : Nat) (aq : Option Addr) (cq : Nat) (br : Bool) (nr : Nat) (ar : Option Addr) (cr : Nat), e = .returned (.tuple #[.agg #[.bool bq, .slice aq (digs (nq)).length cq], .agg #[.bool br, .slice ar (digs (nr)).length cr]]) ∧
    Hid (Ok bq nq ∧ Ok br nr ∧ sg bq nq = sg (b1 != b2) ((n : Int) / m) ∧ sg br nr = sg b1 ((n : Int) % m) ∧ Row w' aq cq (digs nq) ∧ Row w' ar cr (digs nr) ∧ Below w.heap.size w w')

set_option maxRecDepth 100000 in
set_option maxHeartbeats 16000000 in
theorem divided_walk (b1 b2 : Bool) (n m : Nat) (a1 a2 : Option Addr) (c1 c2 : Nat) (w : World) (h1 : Row w a1 c1 (digs n)) (h2 : Row w a2 c2 (digs m)) (hm : 0 < m) (m1 : (digs n).length ≤ 500) (m2 : (digs m).length ≤ 500) :
    Calls Tryd.prog 50 #[.agg #[.bool b1, .slice a1 (digs (n)).length c1], .agg #[.bool b2, .slice a2 (digs (m)).length c2]] w (DivPost b1 b2 n m w) := by
  have H1 := Lib.hid h1
  have H2 := Lib.hid h2
  have l1 : (digs n).length ≤ 9223372036854775807 := by omega
  clear h1 h2
  refine callsIn_wide (n := 5).1 ?_
  have hn1 : 1 ≤ 5 := by omega
  obtain ⟨i0, hi, hz0, hz1, hz2⟩ := info_parts infoInt
  refine callsIn_of_wp_marks Tryd.func50 rfl trivial ?_ rfl
  simp only [Tryd.ntmps50, List.size_toArray, List.length_cons, List.length_nil, Nat.reduceAdd, Nat.reduceSub, Array.replicate_succ, Array.replicate_zero, List.push_toArray, List.append_toArray, List.nil_append, List.cons_append]
  obtain ⟨W5, hW5⟩ : ∃ W5, (((((w.alloc (.cells #[.bool b1, .slice a1 (digs n).length c1] 43)).alloc (.cells #[.bool b2, .slice a2 (digs m).length c2] 43)).alloc (.cells #[.bool false, .slice none 0 0] 43)).alloc (.cells #[.bool false, .slice none 0 0] 43)).alloc (.cells #[.bool false, .slice none 0 0] 43)) = W5 := ⟨_, rfl⟩
  have hs5 : W5.heap.size = w.heap.size + 5 := by rw [← hW5]; simp
  obtain ⟨w6, hrun, hown, hgrow⟩ := run_make_full (P := Tryd.prog) W5 (w.heap.size + 1 + 1 + 1 + 1 + 1) 41 3 i0 (.int .i64 0) 1 Tryd.underlying41 hi hz0 hz1 .i64 .i64 (digs n).length (by rw [hz2]; omega) (by unfold maxLen; omega) (by omega)
  rw [← hW5] at hrun
  simp only [World.size_alloc] at hrun
  rw [hs5] at hown
  have hb5 : Below w.heap.size w W5 := by rw [← hW5]; exact (((((Below.refl _ w).alloc (Nat.le_refl _) _).alloc (by simp) _).alloc (by simp; omega) _).alloc (by simp; omega) _).alloc (by simp; omega) _
  have hk56 : CK W5 w6 := CK.grown hgrow (fun r e => by cases e)
  have hs6 : w.heap.size + 1 + 1 + 1 + 1 + 1 < w6.heap.size := by
    rcases hown.2 with ⟨h, _⟩ | ⟨g, cap, cur, h, _, hh, _⟩
    · cases h
    · simp only [Value.slice.injEq, Option.some.injEq, Addr.mk.injEq, and_true] at h
      have := (Array.getElem?_eq_some_iff.1 hh).1
      omega
  have x1 : w6.cell? ⟨w.heap.size, 1, none⟩ = some (.slice a1 (digs n).length c1) := hk56.cell (by rw [← hW5]; simp [go_sem]) rfl
  have hb6 : Below w.heap.size w w6 := hb5.grown hgrow (by omega) (fun j e => by cases e)
  obtain ⟨w8, hw8⟩ : ∃ w8, ((w6.alloc (.cells #[.slice (some ⟨w.heap.size + 1 + 1 + 1 + 1 + 1, 0, none⟩) (digs n).length (digs n).length] 41)).alloc (.cells #[.slice a1 (digs n).length c1] 41)) = w8 := ⟨_, rfl⟩
  have hk68 : Below w6.heap.size w6 w8 := by rw [← hw8]; exact ((Below.refl _ w6).alloc (Nat.le_refl _) _).alloc (by simp) _
  have hs8 : w8.heap.size = w6.heap.size + 1 + 1 := by rw [← hw8]; simp
  have hit : w8.cell? ⟨w6.heap.size + 1, 0, none⟩ = some (.slice a1 (digs n).length c1) := by rw [← hw8]; simp [go_sem]
  have hb8 : Below w.heap.size w w8 := hb6.trans (hk68.mono hb6.size)
  have hdb : DB w.heap.size w6.heap.size (digs n).length b1 b2 (.slice a2 (digs m).length c2) 0 none 0 (List.replicate (digs n).length 0) w8 := by
    have hq : w8.cell? ⟨w6.heap.size, 0, none⟩ = some (.slice (some ⟨w.heap.size + 1 + 1 + 1 + 1 + 1, 0, none⟩) (digs n).length (digs n).length) := by rw [← hw8]; simp [go_sem]
    have hk : CK W5 w8 := hk56.trans (.below hk68)
    rw [made_zeros] at hown
    refine ⟨hk.cell ?_ rfl, hk.cell ?_ rfl, hk.cell ?_ rfl, hk.res ?_, hk.res ?_, hk.cell ?_ rfl, hk.cell ?_ rfl, (hk.frozen (v := .bool false) ?_ rfl).trans ?_, (hk.frozen (v := .slice none 0 0) ?_ rfl).trans ?_, hs6, hq, (CK.below hk68).own hown, ?_, fun p h => by cases h⟩
    · rw [← hW5]; simp [go_sem]
    · rw [← hW5]; simp [go_sem]
    · rw [← hW5]; simp [go_sem]
    · rw [← hW5]; refine ⟨?_, ?_, ?_, ?_⟩ <;> simp [go_sem]
    · rw [← hW5]; refine ⟨?_, ?_, ?_, ?_⟩ <;> simp [go_sem]
    · rw [← hW5]; simp [go_sem]
    · rw [← hW5, digs_zero]; simp [go_sem]
    · rw [← hW5]; simp [go_sem]
    · rw [← hW5]; simp [go_sem]
    · rw [← hW5]; simp [go_sem]
    · rw [← hW5]; simp [go_sem]
    · rw [digs_zero]; exact Row.nil _ _ _ (by omega)
  have HDB := Lib.hid hdb
  have HW8 := Lib.hid hw8
  have HB8 := Lib.hid hb8
  have HIT := Lib.hid hit
  have HS8 := Lib.hid hs8
  clear hW5 hs5 hown hgrow hk56 hk68 hb6 hb5 hw8 hdb hb8 hit hs8
  have hx1 : w.heap.size < w6.heap.size := by omega
  gi_wp2_with (refine ⟨trivial, ?_⟩; gi_at_call 64; refine (backward_in Fence.wide _ trivial rfl _ _ _ _).mono ?_; rintro e w' ⟨rfl, rfl⟩)
  rw [HW8.out]
  clear x1 hrun
  have hs8 := HS8.out
  refine wpIn_rangeFunc_ownF rfl hn1 (gf := 83) (lb := #[.pointer (some ⟨w6.heap.size + 1, 0, none⟩)]) rfl trivial (enters_of Tryd.func83 (by kernel_rfl) rfl)
    (backward_stops Fence.wide (5 - 1) trivial rfl (by omega) (w6.heap.size + 1) w.heap.size c1 a1 (digs n) w w8 H1.out (Nat.le_refl _) (by omega) HB8.out HIT.out)
    KpB.t (fun W l o o' hl h hc hw => KpB.b (w := w8) (by omega) W l o o' hl h hc hw) (Below.refl _ _) (fun _ => rfl)
    (fun pre W => (∃ (r : Nat) (a : Option Addr) (c : Nat), r < m ∧ (stD (digs n) m (pre.map (·.1))).2 = r ∧ DB w.heap.size w6.heap.size (digs n).length b1 b2 (.slice a2 (digs m).length c2) r a c (stD (digs n) m (pre.map (·.1))).1 W) ∧ Below w.heap.size w W)
    (fun _ _ _ => False)
    (fun s A B row hs hg hr => by
      obtain ⟨⟨r, a, c, h1, h2, h3⟩, hb⟩ := hs
      exact ⟨⟨r, a, c, h1, h2, h3.ck (CK.grown hg (fun r e => (hr r e).2))⟩, hb.grown hg hb.size (fun k e => by have := (hr k e).1; omega)⟩)
    (fun _ _ _ _ _ hs _ _ => hs)
    ⟨⟨0, none, 0, hm, rfl, HDB.out⟩, HB8.out⟩
    (fun x => { tmps := #[.agg #[.bool b1, .slice a1 (digs (n)).length c1], .agg #[.bool b2, .slice a2 (digs (m)).length c2], .pointer (some ⟨w.heap.size, 0, none⟩), .pointer (some ⟨w.heap.size + 1, 0, none⟩), .pointer (some ⟨w.heap.size + 1 + 1, 0, none⟩), .pointer (some ⟨w.heap.size + 1 + 1 + 1, 0, none⟩), .pointer (some ⟨w.heap.size + 1 + 1 + 1 + 1, 0, none⟩), .pointer (some ⟨w6.heap.size, 0, none⟩), .int .i64 (x.1.1 : Int), .int .i64 x.1.2, undef, undef, .agg #[.bool false, .slice none 0 0], .pointer (some ⟨w.heap.size, 1, none⟩), .slice a1 (digs n).length c1, .int .i64 (digs n).length, .slice (some ⟨w.heap.size + 1 + 1 + 1 + 1 + 1, 0, none⟩) (digs n).length (digs n).length, .pointer (some ⟨w.heap.size, 1, none⟩), .slice a1 (digs n).length c1, .func (.func 83) #[] #[.pointer (some ⟨w6.heap.size + 1, 0, none⟩)], .int .i64 (x.1.1 : Int), .int .i64 x.1.2, undef, undef, undef, undef, undef, undef, undef, undef, undef, undef, undef, undef, undef, undef, undef, undef, undef, undef, undef, undef, undef, undef, undef, undef, undef, undef, undef, undef, undef, undef, undef, undef, undef, undef, undef, undef, undef, undef, undef, undef, undef, undef, undef, undef], defers := [] }) ?assign ?body ?done ?stop
  case assign =>
    intro l x W K hK
    gi_wp2
    simpa [encP] using hK
  case body =>
    rintro l pre X W ⟨⟨r, a, c, hr, hst, hdb⟩, hb⟩ _
    have hi0 := X.2.1
    have hx2 := X.2.2
    obtain ⟨i, hi1⟩ : ∃ i, X.1.1 = i := ⟨_, rfl⟩
    obtain ⟨x, hx1'⟩ : ∃ x, X.1.2 = x := ⟨_, rfl⟩
    rw [hi1, hx1']
    rw [hi1] at hi0 hx2
    rw [hx1'] at hx2
    obtain ⟨q0, q1⟩ := dgt_rng (digs_dg n) i
    rw [← hx2] at q0 q1
    obtain ⟨r1, hr1⟩ : ∃ r1 : Nat, x + 1000000000 * (r : Int) = r1 := ⟨(x + 1000000000 * (r : Int)).toNat, by omega⟩
    obtain ⟨d, hd⟩ : ∃ d, r1 / m = d := ⟨_, rfl⟩
    obtain ⟨Q, hQ⟩ : ∃ Q, (stD (digs n) m (pre.map (·.1))).1 = Q := ⟨_, rfl⟩
    have hr1m : r1 < m * 1000000000 := by omega
    have hd9 : d < 1000000000 := by rw [← hd]; exact Nat.div_lt_of_lt_mul hr1m
    have hmd : m * d ≤ r1 := by rw [← hd]; exact Nat.mul_div_le r1 m
    have hr2m : r1 - m * d < m := by rw [← hd]; have := Nat.mod_lt r1 hm; rw [Nat.mod_def] at this; exact this
    have hst2 : stD (digs n) m ((pre ++ [X]).map (·.1)) = (Q.set i (d : Int), ((r1 - m * d : Nat) : Int)) := by
      rw [List.map_append, List.map_singleton, stD_snoc]
      have e : X.1 = (i, x) := by rw [← hi1, ← hx1']
      rw [e]
      unfold stp
      rw [hst, hQ, hr1, ← Int.natCast_ediv, hd, Int.ofNat_sub hmd, Int.natCast_mul]
    rw [hQ] at hdb
    have HST := Lib.hid hst2
    have HDW := Lib.hid hdb
    have HBW := Lib.hid hb
    have HR1 := Lib.hid hr1
    have HD := Lib.hid hd
    have hlen1 : (digs r).length ≤ 500 := by have := digs_len_mono (Nat.le_of_lt hr); omega
    have hlen2 : (digs r1).length ≤ 501 := digs_len_lt (by
      have hv := val_lt (digs_dg m)
      rw [val_digs] at hv
      have hp : pw (digs m).length ≤ pw 500 := pw_mono m2
      rw [pw]
      omega)
    have HMD := Lib.hid hmd
    have HR1M := Lib.hid hr1m
    have HR2M := Lib.hid hr2m
    obtain ⟨y0, y1, f0, f1⟩ : _ ∧ _ ∧ _ ∧ _ := ⟨hdb.y0, hdb.y1, hdb.f0, hdb.f1⟩
    have h1c := hdb.h1
    have hlt : w.heap.size + 1 + 1 + 1 + 1 < W.heap.size := cell_lt y0
    have HIX := Lib.hid (show X.1.1 = i ∧ X.1.2 = x from ⟨hi1, hx1'⟩)
    clear hi1 hx1' hx2 hr1 hd hQ hst hst2 hdb hb hmd hr1m hr2m H1 HDB
    obtain ⟨L3, hL3⟩ : ∃ L3, L3 = x :: digs r := ⟨_, rfl⟩
    have hL3l : L3.length = 1 + (digs r).length := by rw [hL3]; simp; omega
    have hL3m : [Value.int .i64 x] ++ (digs r).map (Value.int .i64) = L3.map (Value.int .i64) := by rw [hL3]; simp
    have HL3 := Lib.hid (show Dg L3 ∧ val L3 = r1 from by rw [hL3]; exact ⟨Dg.cons q0 q1 (digs_dg r), by rw [val, val_digs]; exact HR1.out⟩)
    have HM3 := Lib.hid hL3m
    have HN3 := Lib.hid hL3l
    clear hL3 hL3m hL3l
    gi_wp2_with (gi_at_builtin; refine wpListIn_append_row _ rfl _ _ 41 rfl W.heap.size 3 i0 (.int .i64 0) Tryd.underlying41 hi hz0 hz1 hz2 rfl (.slice (some ⟨W.heap.size, 0, none⟩) 1 1) 1 [.int .i64 x] rfl (World.ownsRow_lit W #[.int .i64 x] 1 (Nat.le_refl _) (by unfold maxLen; omega) rfl) a c (digs r) rfl ((HDW.out.row).on (below_alloc _ _)) (by unfold maxLen; omega) (by omega) (by simp) ?_; intro v' w2 hown2 hgrow2; rw [HM3.out, ← HN3.out] at hown2; obtain ⟨a3, c3, rfl, hrow3, hfr3⟩ := row_of_own hown2 rfl)
    have hbA : Below W.heap.size W w2 := (below_alloc W _).grown hgrow2 (by simp) (fun j e => by simp [Value.ownBlock] at e; omega)
    have HT := Lib.hid (trimmed_posAt L3 r1 a3 c3 w2 hrow3 HL3.out.1 HL3.out.2)
    have HFR := Lib.hid hfr3
    have HBA := Lib.hid hbA
    clear hown2 hgrow2 hrow3 hfr3 hbA
    refine ⟨trivial, (CallsIn.inRound l (callsIn_wide.2 HT.out)).mono ?_⟩
    rintro e w3 ⟨rfl, hr3⟩
    have HB3 := Lib.hid (bext HBA.out hr3.out.2)
    have HD3 := Lib.hid (HDW.out.on HB3.out)
    clear y0 y1 f0 f1 h1c HT
    obtain ⟨y0, y1, f0, f1⟩ : _ ∧ _ ∧ _ ∧ _ := ⟨HD3.out.y0, HD3.out.y1, HD3.out.f0, HD3.out.f1⟩
    have h1c := HD3.out.h1
    gi_wp2
    obtain ⟨w4, hw4⟩ : ∃ w4, ((w3.setCell ⟨w.heap.size + 1 + 1 + 1 + 1, 0, none⟩ (.bool false)).setCell ⟨w.heap.size + 1 + 1 + 1 + 1, 1, none⟩ (.slice a3 (digs r1).length c3)) = w4 := ⟨_, rfl⟩
    have hlG := HDW.out.ltG
    have HD4 := HD3.out.putRest hr3.out.1 (fun p hp => by have := HFR.out p hp; omega)
    have HK4 := ((keepsOthers_of_below HB3.out).trans (KeepsOthers.setCell w3 ⟨w.heap.size + 1 + 1 + 1 + 1, 0, none⟩ (.bool false))).trans (KeepsOthers.setCell _ ⟨w.heap.size + 1 + 1 + 1 + 1, 1, none⟩ (.slice a3 (digs r1).length c3))
    have HKp4 := ((KpB.on (n₀ := w.heap.size) (Bs := w6.heap.size + 1) HB3.out HBW.out.size).t (KpB.set (w.heap.size + 1 + 1 + 1 + 1) 0 (.bool false) (by omega) (by omega))).t (KpB.set (w.heap.size + 1 + 1 + 1 + 1) 1 (.slice a3 (digs r1).length c3) (by omega) (by omega))
    have HB4 := ((HBW.out.trans (HB3.out.mono HBW.out.size)).setCell (p := ⟨w.heap.size + 1 + 1 + 1 + 1, 0, none⟩) (by show w.heap.size ≤ w.heap.size + 1 + 1 + 1 + 1; omega) (.bool false)).setCell (p := ⟨w.heap.size + 1 + 1 + 1 + 1, 1, none⟩) (by show w.heap.size ≤ w.heap.size + 1 + 1 + 1 + 1; omega) (.slice a3 (digs r1).length c3)
    have hs4 : W.heap.size ≤ w4.heap.size := by rw [← hw4]; have := HB3.out.size; simpa [World.setCell] using this
    rw [hw4] at HD4 HK4 HKp4 HB4 ⊢
    have HD4 := Lib.hid HD4
    have HK4 := Lib.hid HK4
    have HKp4 := Lib.hid HKp4
    have HB4 := Lib.hid HB4
    have HF := Lib.hid (fits_nat r1 m d a3 a2 c3 c2 w4 HD4.out.row (H2.out.on HB4.out) hm HR1M.out (by omega) HD.out)
    clear hw4 y0 y1 f0 f1 h1c
    refine ⟨trivial, (CallsIn.inRound l (callsIn_wide.2 HF.out)).mono ?_⟩
    rintro e w5 ⟨rfl, hb5⟩
    have HD5 := Lib.hid (HD4.out.on hb5.out)
    have HK5 := Lib.hid (HK4.out.trans (keepsOthers_of_below hb5.out))
    have HKp5 := Lib.hid (HKp4.out.t (KpB.on hb5.out HB4.out.size))
    have HB5 := Lib.hid (HB4.out.trans (hb5.out.mono HB4.out.size))
    have HS5 := Lib.hid (show w.heap.size + 1 + 1 + 1 + 1 + 1 < w5.heap.size by have := hb5.out.size; omega)
    have HM5 := Lib.hid (H2.out.on HB5.out)
    obtain ⟨y0, y1, f0, f1⟩ : _ ∧ _ ∧ _ ∧ _ := ⟨HD5.out.y0, HD5.out.y1, HD5.out.f0, HD5.out.f1⟩
    have h1c := HD5.out.h1
    clear HF
    gi_wp2
    have hS5 : w5.cell? ⟨w.heap.size + 1, 1, none⟩ = some (.slice a2 (digs m).length c2) := h1c
    have HW := Lib.hid ((Below.refl w5.heap.size w5).drew)
    refine round_K (S := fun w9 => w9.cell? ⟨w.heap.size + 1, 1, none⟩ = some (.slice a2 (digs m).length c2)) (kp := fun i => decide (i < 9)) (by kernel_rfl) (by kernel_rfl) (fun ⟨_, _, h⟩ => h) hS5 (fun hHeld => ?_)
    (refine wpAnyK_take (i := 0) (v := ?_) rfl (by decide +kernel) (by decide +kernel) (by decide +kernel) (by decide +kernel) (fun _ _ _ h => h) (Or.inl ⟨?_, ?_⟩) hHeld ?_; rotate_left 1; (focus rfl); (focus (intro w9 hSw; go_simp; (try with_reducible rfl); done)); (try simp only [Act.put, List.setIfInBounds_toArray, List.set_cons_zero, List.set_cons_succ, List.getElem_toArray, List.getElem_cons_zero, List.getElem_cons_succ]))
    (refine wpAnyK_take (i := 1) (v := ?_) rfl (by decide +kernel) (by decide +kernel) (by decide +kernel) (by decide +kernel) (fun _ _ _ h => h) (Or.inl ⟨?_, ?_⟩) hHeld ?_; rotate_left 1; (focus rfl); (focus (intro w9 hSw; go_simp; (try with_reducible rfl); done)); (try simp only [Act.put, List.setIfInBounds_toArray, List.set_cons_zero, List.set_cons_succ, List.getElem_toArray, List.getElem_cons_zero, List.getElem_cons_succ]))
    (refine wpAnyK_take (i := 2) (v := ?_) rfl (by decide +kernel) (by decide +kernel) (by decide +kernel) (by decide +kernel) (fun _ _ _ h => h) (Or.inl ⟨?_, ?_⟩) hHeld ?_; rotate_left 1; (focus rfl); (focus (intro w9 hSw; go_simp; (try with_reducible rfl); done)); (try simp only [Act.put, List.setIfInBounds_toArray, List.set_cons_zero, List.set_cons_succ, List.getElem_toArray, List.getElem_cons_zero, List.getElem_cons_succ]))
    (refine wpAnyK_take (i := 3) (v := ?_) rfl (by decide +kernel) (by decide +kernel) (by decide +kernel) (by decide +kernel) (fun _ _ _ h => h) (Or.inl ⟨?_, ?_⟩) hHeld ?_; rotate_left 1; (focus rfl); (focus (intro w9 hSw; go_simp; (try with_reducible rfl); done)); (try simp only [Act.put, List.setIfInBounds_toArray, List.set_cons_zero, List.set_cons_succ, List.getElem_toArray, List.getElem_cons_zero, List.getElem_cons_succ]))
    refine wpAnyK_ready (rs := [4, 8]) (by decide +kernel) (by simp) ?_
    refine AllReadyK.cons rfl (fun K hK => ?_) (AllReadyK.cons rfl (fun K hK => ?_) AllReadyK.nil)
    · rw [if_pos (by rfl)]
      go_simp
      have HW := Lib.hid (bext HW.out (below_alloc (w5.drew) (.cells #[.int .i64 (d : Int)] 3)))
      have hHeld := ((bcell HW.out).1 _ _ (cell_lt hS5)).trans hS5
      have HR1 := Lib.hid (row_one' (w5.drew) (d : Int) (R := w5.heap.size) (by simp))
      refine hK.out _ _ (fun _ => hHeld) (?_)
      clear hK K
      (try simp only [Act.put, List.setIfInBounds_toArray, List.set_cons_zero, List.set_cons_succ, List.getElem_toArray, List.getElem_cons_zero, List.getElem_cons_succ])
      (refine wpAnyK_take (i := 5) (v := ?_) rfl (by decide +kernel) (by decide +kernel) (by decide +kernel) (by decide +kernel) (fun _ _ _ h => h) (Or.inl ⟨?_, ?_⟩) hHeld ?_; rotate_left 1; (focus rfl); (focus (intro w9 hSw; go_simp; (try with_reducible rfl); done)); (try simp only [Act.put, List.setIfInBounds_toArray, List.set_cons_zero, List.set_cons_succ, List.getElem_toArray, List.getElem_cons_zero, List.getElem_cons_succ]))
      refine wpAnyK_ready (rs := [6, 8]) (by decide +kernel) (by simp) ?_
      refine AllReadyK.cons rfl (fun K hK => ?_) (AllReadyK.cons rfl (fun K hK => ?_) AllReadyK.nil)
      · rw [if_pos (by rfl)]
        go_simp
        refine (trimmed_pos [(d : Int)] d _ _ _ HR1.out (Dg.cons (by omega) (by omega) Dg.nil) (val_one _)).mono ?_
        rintro e wA ⟨aA, cA, rfl, hrwA⟩
        have HW := Lib.hid (bext HW.out hrwA.out.2)
        have hHeld := ((bcell HW.out).1 _ _ (cell_lt hS5)).trans hS5
        have HRA := Lib.hid hrwA.out.1
        refine hK.out _ _ (fun _ => hHeld) (?_)
        clear hK K
        (try simp only [Act.put, List.setIfInBounds_toArray, List.set_cons_zero, List.set_cons_succ, List.getElem_toArray, List.getElem_cons_zero, List.getElem_cons_succ])
        refine wpAnyK_ready (rs := [7, 8]) (by decide +kernel) (by simp) ?_
        refine AllReadyK.cons rfl (fun K hK => ?_) (AllReadyK.cons rfl (fun K hK => ?_) AllReadyK.nil)
        · rw [if_pos (by rfl)]
          go_simp
          refine (times_pos m d a2 aA c2 cA _ (HM5.out.on HW.out) HRA.out (by omega) (by have := digs_one_len hd9; omega)).mono ?_
          rintro e wB ⟨aB, cB, rfl, hrwB⟩
          have HW := Lib.hid (bext HW.out hrwB.out.2)
          have hHeld := ((bcell HW.out).1 _ _ (cell_lt hS5)).trans hS5
          have HRB := Lib.hid hrwB.out.1
          refine hK.out _ _ (fun _ => hHeld) (?_)
          clear hK K
          (try simp only [Act.put, List.setIfInBounds_toArray, List.set_cons_zero, List.set_cons_succ, List.getElem_toArray, List.getElem_cons_zero, List.getElem_cons_succ])
          refine wpAnyK_ready (rs := [8]) (by decide +kernel) (by simp) ?_
          refine AllReadyK.cons rfl (fun K hK => ?_) AllReadyK.nil
          rw [if_pos (by rfl)]
          go_simp
          have HW0 := HW
          have HW := Lib.hid (bext HW.out (below_alloc (wB) (.cells #[.bool false, .slice none 0 0] 43)))
          have hHeld := ((bcell HW.out).1 _ _ (cell_lt hS5)).trans hS5
          have HWB := HW0
          have HP := Lib.hid (res2_new (wB) (R := wB.heap.size) (by simp) rfl)
          have HRB0 := HRB
          have HRB := Lib.hid (HRB.out.on (below_alloc (wB) (.cells #[.bool false, .slice none 0 0] 43)))
          refine hK.out _ _ (fun _ => hHeld) (?_)
          clear hK K
          (try simp only [Act.put, List.setIfInBounds_toArray, List.set_cons_zero, List.set_cons_succ, List.getElem_toArray, List.getElem_cons_zero, List.getElem_cons_succ])
          refine wpAnyK_ready (rs := [9]) (by decide +kernel) (by simp) ?_
          refine AllReadyK.cons rfl (fun K hK => ?_) AllReadyK.nil
          obtain ⟨z0, z1, z2, z3⟩ := HP.out
          rw [if_pos (by rfl)]
          go_simp
          refine hK.out _ _ (fun h => absurd h (by decide)) (?_)
          clear hK K
          (try simp only [Act.put, List.setIfInBounds_toArray, List.set_cons_zero, List.set_cons_succ, List.getElem_toArray, List.getElem_cons_zero, List.getElem_cons_succ])
          refine wpAnyK_done (by decide +kernel) ?_ _
          have HWF := Lib.hid (bext HWB.out (below_alloc ((wB)) (.cells #[.bool false, .slice aB (digs (m * d)).length cB] 43)))
          have HRF := Lib.hid (HRB0.out.on (below_alloc ((wB)) (.cells #[.bool false, .slice aB (digs (m * d)).length cB] 43)))
          have hqP : (((wB)).alloc (.cells #[.bool false, .slice aB (digs (m * d)).length cB] 43)).cell? ⟨wB.heap.size, 1, none⟩ = some (.slice aB (digs (m * d)).length cB) := by simp [go_sem]
          obtain ⟨wF, hwF⟩ : ∃ wF, (((wB)).alloc (.cells #[.bool false, .slice aB (digs (m * d)).length cB] 43)) = wF := ⟨_, rfl⟩
          rw [hwF] at HWF HRF hqP ⊢
          clear hwF z0 z1 z2 z3 HP HRB hHeld
          have HDF := Lib.hid (HD5.out.on HWF.out)
          have hyF := HDF.out.y1
          clear y0 y1 f0 f1 h1c
          gi_wp2
          refine ⟨trivial, (CallsIn.inRound l (callsIn_wide.2 (taken_at (digs r1) (digs (m * d)) a3 aB c3 cB wF HDF.out.row HRF.out (digs_dg _) (digs_dg _) (by omega) (digs_len_mono HMD.out) (by rw [val_digs, val_digs]; have := HMD.out; omega)))).mono ?_⟩
          rintro e w7 ⟨l5, a5, c5, rfl, hr7, hf7⟩
          have HW7 := Lib.hid (bext HWF.out hr7.out.2.2.2.2)
          clear hyF hqP
          gi_wp2
          refine ⟨trivial, (CallsIn.inRound l (callsIn_wide.2 (trimmed_posAt l5 (r1 - m * d) a5 c5 w7 hr7.out.2.2.2.1 hr7.out.1 (by rw [hr7.out.2.1, val_digs, val_digs]; have := HMD.out; omega)))).mono ?_⟩
          rintro e w9 ⟨rfl, hr9⟩
          have HW9 := Lib.hid (bext HW7.out hr9.out.2)
          have HD9 := Lib.hid (HD5.out.on HW9.out)
          obtain ⟨y0, y1, f0, f1⟩ : _ ∧ _ ∧ _ ∧ _ := ⟨HD9.out.y0, HD9.out.y1, HD9.out.f0, HD9.out.f1⟩
          have hq9 := HD9.out.q
          have hQl : Q.length = (digs n).length := by have := HD9.out.own.1; simpa using this
          have hqc : w9.cell? ⟨w.heap.size + 1 + 1 + 1 + 1 + 1, i, none⟩ = some (.int .i64 (dgt Q i)) := by
            rw [HD9.out.own.cellAt i (by omega), List.getElem?_map, List.getElem?_eq_getElem (by omega), dgt_at (by omega)]; rfl
          have hqf : w9.frozen? ⟨w.heap.size + 1 + 1 + 1 + 1 + 1, i, none⟩ = false := HD9.out.own.frozenAt i
          have hB6 := HD9.out.hBq
          have hne6 : ¬ w.heap.size + 1 + 1 + 1 + 1 = w6.heap.size := by omega
          have HFAR : Hid (∀ p, a5 = some p → w.heap.size + 1 + 1 + 1 + 1 + 1 ≠ p.block) := Lib.hid (fun p hp => by have h1 := hf7.out p hp; have h2 := HWF.out.size; have h3 := HS5.out; omega)
          clear hQl
          gi_wp2
          have HD10 := (HD9.out.putRest hr9.out.1 HFAR.out).putQ i (d : Int)
          refine ⟨?_, ?_, ⟨r1 - m * d, a5, c5, HR2M.out, by rw [HST.out], by rw [HST.out]; exact HD10⟩, ?_⟩
          · exact (((HK5.out.trans (keepsOthers_of_below HW9.out)).trans (KeepsOthers.setCell _ _ _)).trans (KeepsOthers.setCell _ _ _)).trans (KeepsOthers.setCell _ _ _)
          · exact (((HKp5.out.t (KpB.on HW9.out HB5.out.size)).t (KpB.set _ _ _ (by omega) (by omega))).t (KpB.set _ _ _ (by omega) (by omega))).t (KpB.set _ _ _ (by omega) (by omega))
          · have hb9 := HB5.out.trans (HW9.out.mono HB5.out.size)
            exact ((hb9.setCell (p := ⟨w.heap.size + 1 + 1 + 1 + 1, 0, none⟩) (by show w.heap.size ≤ w.heap.size + 1 + 1 + 1 + 1; omega) _).setCell (p := ⟨w.heap.size + 1 + 1 + 1 + 1, 1, none⟩) (by show w.heap.size ≤ w.heap.size + 1 + 1 + 1 + 1; omega) _).setCell (p := ⟨w.heap.size + 1 + 1 + 1 + 1 + 1, i, none⟩) (by show w.heap.size ≤ w.heap.size + 1 + 1 + 1 + 1 + 1; omega) _
        · rw [if_pos (by rfl)]
          go_simp
          have HW0 := HW
          have HW := Lib.hid (bext HW.out (below_alloc (wA) (.cells #[.bool false, .slice none 0 0] 43)))
          have hHeld := ((bcell HW.out).1 _ _ (cell_lt hS5)).trans hS5
          have HWB := HW0
          have HP := Lib.hid (res2_new (wA) (R := wA.heap.size) (by simp) rfl)
          have HRA := Lib.hid (HRA.out.on (below_alloc (wA) (.cells #[.bool false, .slice none 0 0] 43)))
          refine hK.out _ _ (fun _ => hHeld) (?_)
          clear hK K
          (try simp only [Act.put, List.setIfInBounds_toArray, List.set_cons_zero, List.set_cons_succ, List.getElem_toArray, List.getElem_cons_zero, List.getElem_cons_succ])
          refine wpAnyK_ready (rs := [7]) (by decide +kernel) (by simp) ?_
          refine AllReadyK.cons rfl (fun K hK => ?_) AllReadyK.nil
          rw [if_pos (by rfl)]
          go_simp
          refine (times_pos m d a2 aA c2 cA _ (HM5.out.on HW.out) HRA.out (by omega) (by have := digs_one_len hd9; omega)).mono ?_
          rintro e wB ⟨aB, cB, rfl, hrwB⟩
          have HW := Lib.hid (bext HW.out hrwB.out.2)
          have hHeld := ((bcell HW.out).1 _ _ (cell_lt hS5)).trans hS5
          have HRB := Lib.hid hrwB.out.1
          have HP := Lib.hid (res2_on HP.out hrwB.out.2)
          refine hK.out _ _ (fun _ => hHeld) (?_)
          clear hK K
          (try simp only [Act.put, List.setIfInBounds_toArray, List.set_cons_zero, List.set_cons_succ, List.getElem_toArray, List.getElem_cons_zero, List.getElem_cons_succ])
          refine wpAnyK_ready (rs := [9]) (by decide +kernel) (by simp) ?_
          refine AllReadyK.cons rfl (fun K hK => ?_) AllReadyK.nil
          obtain ⟨z0, z1, z2, z3⟩ := HP.out
          rw [if_pos (by rfl)]
          go_simp
          refine hK.out _ _ (fun h => absurd h (by decide)) (?_)
          clear hK K
          (try simp only [Act.put, List.setIfInBounds_toArray, List.set_cons_zero, List.set_cons_succ, List.getElem_toArray, List.getElem_cons_zero, List.getElem_cons_succ])
          refine wpAnyK_done (by decide +kernel) ?_ _
          have hP5 : w5.heap.size ≤ wA.heap.size := (by first | omega | exact HWB.out.size)
          have hqP := res_cells (.bool false) (.slice aB (digs (m * d)).length cB) z0 z1
          have HWF := Lib.hid ((HW.out.setCell (p := ⟨wA.heap.size, 0, none⟩) hP5 (.bool false)).setCell (p := ⟨wA.heap.size, 1, none⟩) hP5 (.slice aB (digs (m * d)).length cB))
          have HRF := Lib.hid ((HRB.out.set z0 (fun i e => by cases e) (.bool false)).set (p := ⟨wA.heap.size, 1, none⟩) (v := .slice none 0 0) (by simp [go_sem, z1]) (fun i e => by cases e) (.slice aB (digs (m * d)).length cB))
          obtain ⟨wF, hwF⟩ : ∃ wF, (((wB).setCell ⟨wA.heap.size, 0, none⟩ (.bool false)).setCell ⟨wA.heap.size, 1, none⟩ (.slice aB (digs (m * d)).length cB)) = wF := ⟨_, rfl⟩
          rw [hwF] at HWF HRF hqP ⊢
          obtain ⟨-, hqP⟩ := hqP
          clear hwF z0 z1 z2 z3 hP5 HP HRB hHeld
          have HDF := Lib.hid (HD5.out.on HWF.out)
          have hyF := HDF.out.y1
          clear y0 y1 f0 f1 h1c
          gi_wp2
          refine ⟨trivial, (CallsIn.inRound l (callsIn_wide.2 (taken_at (digs r1) (digs (m * d)) a3 aB c3 cB wF HDF.out.row HRF.out (digs_dg _) (digs_dg _) (by omega) (digs_len_mono HMD.out) (by rw [val_digs, val_digs]; have := HMD.out; omega)))).mono ?_⟩
          rintro e w7 ⟨l5, a5, c5, rfl, hr7, hf7⟩
          have HW7 := Lib.hid (bext HWF.out hr7.out.2.2.2.2)
          clear hyF hqP
          gi_wp2
          refine ⟨trivial, (CallsIn.inRound l (callsIn_wide.2 (trimmed_posAt l5 (r1 - m * d) a5 c5 w7 hr7.out.2.2.2.1 hr7.out.1 (by rw [hr7.out.2.1, val_digs, val_digs]; have := HMD.out; omega)))).mono ?_⟩
          rintro e w9 ⟨rfl, hr9⟩
          have HW9 := Lib.hid (bext HW7.out hr9.out.2)
          have HD9 := Lib.hid (HD5.out.on HW9.out)
          obtain ⟨y0, y1, f0, f1⟩ : _ ∧ _ ∧ _ ∧ _ := ⟨HD9.out.y0, HD9.out.y1, HD9.out.f0, HD9.out.f1⟩
          have hq9 := HD9.out.q
          have hQl : Q.length = (digs n).length := by have := HD9.out.own.1; simpa using this
          have hqc : w9.cell? ⟨w.heap.size + 1 + 1 + 1 + 1 + 1, i, none⟩ = some (.int .i64 (dgt Q i)) := by
            rw [HD9.out.own.cellAt i (by omega), List.getElem?_map, List.getElem?_eq_getElem (by omega), dgt_at (by omega)]; rfl
          have hqf : w9.frozen? ⟨w.heap.size + 1 + 1 + 1 + 1 + 1, i, none⟩ = false := HD9.out.own.frozenAt i
          have hB6 := HD9.out.hBq
          have hne6 : ¬ w.heap.size + 1 + 1 + 1 + 1 = w6.heap.size := by omega
          have HFAR : Hid (∀ p, a5 = some p → w.heap.size + 1 + 1 + 1 + 1 + 1 ≠ p.block) := Lib.hid (fun p hp => by have h1 := hf7.out p hp; have h2 := HWF.out.size; have h3 := HS5.out; omega)
          clear hQl
          gi_wp2
          have HD10 := (HD9.out.putRest hr9.out.1 HFAR.out).putQ i (d : Int)
          refine ⟨?_, ?_, ⟨r1 - m * d, a5, c5, HR2M.out, by rw [HST.out], by rw [HST.out]; exact HD10⟩, ?_⟩
          · exact (((HK5.out.trans (keepsOthers_of_below HW9.out)).trans (KeepsOthers.setCell _ _ _)).trans (KeepsOthers.setCell _ _ _)).trans (KeepsOthers.setCell _ _ _)
          · exact (((HKp5.out.t (KpB.on HW9.out HB5.out.size)).t (KpB.set _ _ _ (by omega) (by omega))).t (KpB.set _ _ _ (by omega) (by omega))).t (KpB.set _ _ _ (by omega) (by omega))
          · have hb9 := HB5.out.trans (HW9.out.mono HB5.out.size)
            exact ((hb9.setCell (p := ⟨w.heap.size + 1 + 1 + 1 + 1, 0, none⟩) (by show w.heap.size ≤ w.heap.size + 1 + 1 + 1 + 1; omega) _).setCell (p := ⟨w.heap.size + 1 + 1 + 1 + 1, 1, none⟩) (by show w.heap.size ≤ w.heap.size + 1 + 1 + 1 + 1; omega) _).setCell (p := ⟨w.heap.size + 1 + 1 + 1 + 1 + 1, i, none⟩) (by show w.heap.size ≤ w.heap.size + 1 + 1 + 1 + 1 + 1; omega) _
      · rw [if_pos (by rfl)]
        go_simp
        have HW0 := HW
        have HW := Lib.hid (bext HW.out (below_alloc ((w5.drew).alloc (.cells #[.int .i64 (d : Int)] 3)) (.cells #[.bool false, .slice none 0 0] 43)))
        have hHeld := ((bcell HW.out).1 _ _ (cell_lt hS5)).trans hS5
        have HWB := HW0
        have HP := Lib.hid (res2_new ((w5.drew).alloc (.cells #[.int .i64 (d : Int)] 3)) (R := w5.heap.size + 1) (by simp) rfl)
        have HR1 := Lib.hid (HR1.out.on (below_alloc ((w5.drew).alloc (.cells #[.int .i64 (d : Int)] 3)) (.cells #[.bool false, .slice none 0 0] 43)))
        refine hK.out _ _ (fun _ => hHeld) (?_)
        clear hK K
        (try simp only [Act.put, List.setIfInBounds_toArray, List.set_cons_zero, List.set_cons_succ, List.getElem_toArray, List.getElem_cons_zero, List.getElem_cons_succ])
        refine wpAnyK_ready (rs := [6]) (by decide +kernel) (by simp) ?_
        refine AllReadyK.cons rfl (fun K hK => ?_) AllReadyK.nil
        rw [if_pos (by rfl)]
        go_simp
        refine (trimmed_pos [(d : Int)] d _ _ _ HR1.out (Dg.cons (by omega) (by omega) Dg.nil) (val_one _)).mono ?_
        rintro e wA ⟨aA, cA, rfl, hrwA⟩
        have HW := Lib.hid (bext HW.out hrwA.out.2)
        have hHeld := ((bcell HW.out).1 _ _ (cell_lt hS5)).trans hS5
        have HRA := Lib.hid hrwA.out.1
        have HP := Lib.hid (res2_on HP.out hrwA.out.2)
        refine hK.out _ _ (fun _ => hHeld) (?_)
        clear hK K
        (try simp only [Act.put, List.setIfInBounds_toArray, List.set_cons_zero, List.set_cons_succ, List.getElem_toArray, List.getElem_cons_zero, List.getElem_cons_succ])
        refine wpAnyK_ready (rs := [7]) (by decide +kernel) (by simp) ?_
        refine AllReadyK.cons rfl (fun K hK => ?_) AllReadyK.nil
        rw [if_pos (by rfl)]
        go_simp
        refine (times_pos m d a2 aA c2 cA _ (HM5.out.on HW.out) HRA.out (by omega) (by have := digs_one_len hd9; omega)).mono ?_
        rintro e wB ⟨aB, cB, rfl, hrwB⟩
        have HW := Lib.hid (bext HW.out hrwB.out.2)
        have hHeld := ((bcell HW.out).1 _ _ (cell_lt hS5)).trans hS5
        have HRB := Lib.hid hrwB.out.1
        have HP := Lib.hid (res2_on HP.out hrwB.out.2)
        refine hK.out _ _ (fun _ => hHeld) (?_)
        clear hK K
        (try simp only [Act.put, List.setIfInBounds_toArray, List.set_cons_zero, List.set_cons_succ, List.getElem_toArray, List.getElem_cons_zero, List.getElem_cons_succ])
        refine wpAnyK_ready (rs := [9]) (by decide +kernel) (by simp) ?_
        refine AllReadyK.cons rfl (fun K hK => ?_) AllReadyK.nil
        obtain ⟨z0, z1, z2, z3⟩ := HP.out
        rw [if_pos (by rfl)]
        go_simp
        refine hK.out _ _ (fun h => absurd h (by decide)) (?_)
        clear hK K
        (try simp only [Act.put, List.setIfInBounds_toArray, List.set_cons_zero, List.set_cons_succ, List.getElem_toArray, List.getElem_cons_zero, List.getElem_cons_succ])
        refine wpAnyK_done (by decide +kernel) ?_ _
        have hP5 : w5.heap.size ≤ w5.heap.size + 1 := (by first | omega | exact HWB.out.size)
        have hqP := res_cells (.bool false) (.slice aB (digs (m * d)).length cB) z0 z1
        have HWF := Lib.hid ((HW.out.setCell (p := ⟨w5.heap.size + 1, 0, none⟩) hP5 (.bool false)).setCell (p := ⟨w5.heap.size + 1, 1, none⟩) hP5 (.slice aB (digs (m * d)).length cB))
        have HRF := Lib.hid ((HRB.out.set z0 (fun i e => by cases e) (.bool false)).set (p := ⟨w5.heap.size + 1, 1, none⟩) (v := .slice none 0 0) (by simp [go_sem, z1]) (fun i e => by cases e) (.slice aB (digs (m * d)).length cB))
        obtain ⟨wF, hwF⟩ : ∃ wF, (((wB).setCell ⟨w5.heap.size + 1, 0, none⟩ (.bool false)).setCell ⟨w5.heap.size + 1, 1, none⟩ (.slice aB (digs (m * d)).length cB)) = wF := ⟨_, rfl⟩
        rw [hwF] at HWF HRF hqP ⊢
        obtain ⟨-, hqP⟩ := hqP
        clear hwF z0 z1 z2 z3 hP5 HP HRB hHeld
        have HDF := Lib.hid (HD5.out.on HWF.out)
        have hyF := HDF.out.y1
        clear y0 y1 f0 f1 h1c
        gi_wp2
        refine ⟨trivial, (CallsIn.inRound l (callsIn_wide.2 (taken_at (digs r1) (digs (m * d)) a3 aB c3 cB wF HDF.out.row HRF.out (digs_dg _) (digs_dg _) (by omega) (digs_len_mono HMD.out) (by rw [val_digs, val_digs]; have := HMD.out; omega)))).mono ?_⟩
        rintro e w7 ⟨l5, a5, c5, rfl, hr7, hf7⟩
        have HW7 := Lib.hid (bext HWF.out hr7.out.2.2.2.2)
        clear hyF hqP
        gi_wp2
        refine ⟨trivial, (CallsIn.inRound l (callsIn_wide.2 (trimmed_posAt l5 (r1 - m * d) a5 c5 w7 hr7.out.2.2.2.1 hr7.out.1 (by rw [hr7.out.2.1, val_digs, val_digs]; have := HMD.out; omega)))).mono ?_⟩
        rintro e w9 ⟨rfl, hr9⟩
        have HW9 := Lib.hid (bext HW7.out hr9.out.2)
        have HD9 := Lib.hid (HD5.out.on HW9.out)
        obtain ⟨y0, y1, f0, f1⟩ : _ ∧ _ ∧ _ ∧ _ := ⟨HD9.out.y0, HD9.out.y1, HD9.out.f0, HD9.out.f1⟩
        have hq9 := HD9.out.q
        have hQl : Q.length = (digs n).length := by have := HD9.out.own.1; simpa using this
        have hqc : w9.cell? ⟨w.heap.size + 1 + 1 + 1 + 1 + 1, i, none⟩ = some (.int .i64 (dgt Q i)) := by
          rw [HD9.out.own.cellAt i (by omega), List.getElem?_map, List.getElem?_eq_getElem (by omega), dgt_at (by omega)]; rfl
        have hqf : w9.frozen? ⟨w.heap.size + 1 + 1 + 1 + 1 + 1, i, none⟩ = false := HD9.out.own.frozenAt i
        have hB6 := HD9.out.hBq
        have hne6 : ¬ w.heap.size + 1 + 1 + 1 + 1 = w6.heap.size := by omega
        have HFAR : Hid (∀ p, a5 = some p → w.heap.size + 1 + 1 + 1 + 1 + 1 ≠ p.block) := Lib.hid (fun p hp => by have h1 := hf7.out p hp; have h2 := HWF.out.size; have h3 := HS5.out; omega)
        clear hQl
        gi_wp2
        have HD10 := (HD9.out.putRest hr9.out.1 HFAR.out).putQ i (d : Int)
        refine ⟨?_, ?_, ⟨r1 - m * d, a5, c5, HR2M.out, by rw [HST.out], by rw [HST.out]; exact HD10⟩, ?_⟩
        · exact (((HK5.out.trans (keepsOthers_of_below HW9.out)).trans (KeepsOthers.setCell _ _ _)).trans (KeepsOthers.setCell _ _ _)).trans (KeepsOthers.setCell _ _ _)
        · exact (((HKp5.out.t (KpB.on HW9.out HB5.out.size)).t (KpB.set _ _ _ (by omega) (by omega))).t (KpB.set _ _ _ (by omega) (by omega))).t (KpB.set _ _ _ (by omega) (by omega))
        · have hb9 := HB5.out.trans (HW9.out.mono HB5.out.size)
          exact ((hb9.setCell (p := ⟨w.heap.size + 1 + 1 + 1 + 1, 0, none⟩) (by show w.heap.size ≤ w.heap.size + 1 + 1 + 1 + 1; omega) _).setCell (p := ⟨w.heap.size + 1 + 1 + 1 + 1, 1, none⟩) (by show w.heap.size ≤ w.heap.size + 1 + 1 + 1 + 1; omega) _).setCell (p := ⟨w.heap.size + 1 + 1 + 1 + 1 + 1, i, none⟩) (by show w.heap.size ≤ w.heap.size + 1 + 1 + 1 + 1 + 1; omega) _
    · rw [if_pos (by rfl)]
      go_simp
      have HW0 := HW
      have HW := Lib.hid (bext HW.out (below_alloc (w5.drew) (.cells #[.bool false, .slice none 0 0] 43)))
      have hHeld := ((bcell HW.out).1 _ _ (cell_lt hS5)).trans hS5
      have HWB := HW0
      have HP := Lib.hid (res2_new (w5.drew) (R := w5.heap.size) (by simp) rfl)
      refine hK.out _ _ (fun _ => hHeld) (?_)
      clear hK K
      (try simp only [Act.put, List.setIfInBounds_toArray, List.set_cons_zero, List.set_cons_succ, List.getElem_toArray, List.getElem_cons_zero, List.getElem_cons_succ])
      refine wpAnyK_ready (rs := [4]) (by decide +kernel) (by simp) ?_
      refine AllReadyK.cons rfl (fun K hK => ?_) AllReadyK.nil
      rw [if_pos (by rfl)]
      go_simp
      have HW := Lib.hid (bext HW.out (below_alloc ((w5.drew).alloc (.cells #[.bool false, .slice none 0 0] 43)) (.cells #[.int .i64 (d : Int)] 3)))
      have hHeld := ((bcell HW.out).1 _ _ (cell_lt hS5)).trans hS5
      have HR1 := Lib.hid (row_one' ((w5.drew).alloc (.cells #[.bool false, .slice none 0 0] 43)) (d : Int) (R := w5.heap.size + 1) (by simp))
      have HP := Lib.hid (res2_on HP.out (below_alloc ((w5.drew).alloc (.cells #[.bool false, .slice none 0 0] 43)) (.cells #[.int .i64 (d : Int)] 3)))
      refine hK.out _ _ (fun _ => hHeld) (?_)
      clear hK K
      (try simp only [Act.put, List.setIfInBounds_toArray, List.set_cons_zero, List.set_cons_succ, List.getElem_toArray, List.getElem_cons_zero, List.getElem_cons_succ])
      (refine wpAnyK_take (i := 5) (v := ?_) rfl (by decide +kernel) (by decide +kernel) (by decide +kernel) (by decide +kernel) (fun _ _ _ h => h) (Or.inl ⟨?_, ?_⟩) hHeld ?_; rotate_left 1; (focus rfl); (focus (intro w9 hSw; go_simp; (try with_reducible rfl); done)); (try simp only [Act.put, List.setIfInBounds_toArray, List.set_cons_zero, List.set_cons_succ, List.getElem_toArray, List.getElem_cons_zero, List.getElem_cons_succ]))
      refine wpAnyK_ready (rs := [6]) (by decide +kernel) (by simp) ?_
      refine AllReadyK.cons rfl (fun K hK => ?_) AllReadyK.nil
      rw [if_pos (by rfl)]
      go_simp
      refine (trimmed_pos [(d : Int)] d _ _ _ HR1.out (Dg.cons (by omega) (by omega) Dg.nil) (val_one _)).mono ?_
      rintro e wA ⟨aA, cA, rfl, hrwA⟩
      have HW := Lib.hid (bext HW.out hrwA.out.2)
      have hHeld := ((bcell HW.out).1 _ _ (cell_lt hS5)).trans hS5
      have HRA := Lib.hid hrwA.out.1
      have HP := Lib.hid (res2_on HP.out hrwA.out.2)
      refine hK.out _ _ (fun _ => hHeld) (?_)
      clear hK K
      (try simp only [Act.put, List.setIfInBounds_toArray, List.set_cons_zero, List.set_cons_succ, List.getElem_toArray, List.getElem_cons_zero, List.getElem_cons_succ])
      refine wpAnyK_ready (rs := [7]) (by decide +kernel) (by simp) ?_
      refine AllReadyK.cons rfl (fun K hK => ?_) AllReadyK.nil
      rw [if_pos (by rfl)]
      go_simp
      refine (times_pos m d a2 aA c2 cA _ (HM5.out.on HW.out) HRA.out (by omega) (by have := digs_one_len hd9; omega)).mono ?_
      rintro e wB ⟨aB, cB, rfl, hrwB⟩
      have HW := Lib.hid (bext HW.out hrwB.out.2)
      have hHeld := ((bcell HW.out).1 _ _ (cell_lt hS5)).trans hS5
      have HRB := Lib.hid hrwB.out.1
      have HP := Lib.hid (res2_on HP.out hrwB.out.2)
      refine hK.out _ _ (fun _ => hHeld) (?_)
      clear hK K
      (try simp only [Act.put, List.setIfInBounds_toArray, List.set_cons_zero, List.set_cons_succ, List.getElem_toArray, List.getElem_cons_zero, List.getElem_cons_succ])
      refine wpAnyK_ready (rs := [9]) (by decide +kernel) (by simp) ?_
      refine AllReadyK.cons rfl (fun K hK => ?_) AllReadyK.nil
      obtain ⟨z0, z1, z2, z3⟩ := HP.out
      rw [if_pos (by rfl)]
      go_simp
      refine hK.out _ _ (fun h => absurd h (by decide)) (?_)
      clear hK K
      (try simp only [Act.put, List.setIfInBounds_toArray, List.set_cons_zero, List.set_cons_succ, List.getElem_toArray, List.getElem_cons_zero, List.getElem_cons_succ])
      refine wpAnyK_done (by decide +kernel) ?_ _
      have hP5 : w5.heap.size ≤ w5.heap.size := (by first | omega | exact HWB.out.size)
      have hqP := res_cells (.bool false) (.slice aB (digs (m * d)).length cB) z0 z1
      have HWF := Lib.hid ((HW.out.setCell (p := ⟨w5.heap.size, 0, none⟩) hP5 (.bool false)).setCell (p := ⟨w5.heap.size, 1, none⟩) hP5 (.slice aB (digs (m * d)).length cB))
      have HRF := Lib.hid ((HRB.out.set z0 (fun i e => by cases e) (.bool false)).set (p := ⟨w5.heap.size, 1, none⟩) (v := .slice none 0 0) (by simp [go_sem, z1]) (fun i e => by cases e) (.slice aB (digs (m * d)).length cB))
      obtain ⟨wF, hwF⟩ : ∃ wF, (((wB).setCell ⟨w5.heap.size, 0, none⟩ (.bool false)).setCell ⟨w5.heap.size, 1, none⟩ (.slice aB (digs (m * d)).length cB)) = wF := ⟨_, rfl⟩
      rw [hwF] at HWF HRF hqP ⊢
      obtain ⟨-, hqP⟩ := hqP
      clear hwF z0 z1 z2 z3 hP5 HP HRB hHeld
      have HDF := Lib.hid (HD5.out.on HWF.out)
      have hyF := HDF.out.y1
      clear y0 y1 f0 f1 h1c
      gi_wp2
      refine ⟨trivial, (CallsIn.inRound l (callsIn_wide.2 (taken_at (digs r1) (digs (m * d)) a3 aB c3 cB wF HDF.out.row HRF.out (digs_dg _) (digs_dg _) (by omega) (digs_len_mono HMD.out) (by rw [val_digs, val_digs]; have := HMD.out; omega)))).mono ?_⟩
      rintro e w7 ⟨l5, a5, c5, rfl, hr7, hf7⟩
      have HW7 := Lib.hid (bext HWF.out hr7.out.2.2.2.2)
      clear hyF hqP
      gi_wp2
      refine ⟨trivial, (CallsIn.inRound l (callsIn_wide.2 (trimmed_posAt l5 (r1 - m * d) a5 c5 w7 hr7.out.2.2.2.1 hr7.out.1 (by rw [hr7.out.2.1, val_digs, val_digs]; have := HMD.out; omega)))).mono ?_⟩
      rintro e w9 ⟨rfl, hr9⟩
      have HW9 := Lib.hid (bext HW7.out hr9.out.2)
      have HD9 := Lib.hid (HD5.out.on HW9.out)
      obtain ⟨y0, y1, f0, f1⟩ : _ ∧ _ ∧ _ ∧ _ := ⟨HD9.out.y0, HD9.out.y1, HD9.out.f0, HD9.out.f1⟩
      have hq9 := HD9.out.q
      have hQl : Q.length = (digs n).length := by have := HD9.out.own.1; simpa using this
      have hqc : w9.cell? ⟨w.heap.size + 1 + 1 + 1 + 1 + 1, i, none⟩ = some (.int .i64 (dgt Q i)) := by
        rw [HD9.out.own.cellAt i (by omega), List.getElem?_map, List.getElem?_eq_getElem (by omega), dgt_at (by omega)]; rfl
      have hqf : w9.frozen? ⟨w.heap.size + 1 + 1 + 1 + 1 + 1, i, none⟩ = false := HD9.out.own.frozenAt i
      have hB6 := HD9.out.hBq
      have hne6 : ¬ w.heap.size + 1 + 1 + 1 + 1 = w6.heap.size := by omega
      have HFAR : Hid (∀ p, a5 = some p → w.heap.size + 1 + 1 + 1 + 1 + 1 ≠ p.block) := Lib.hid (fun p hp => by have h1 := hf7.out p hp; have h2 := HWF.out.size; have h3 := HS5.out; omega)
      clear hQl
      gi_wp2
      have HD10 := (HD9.out.putRest hr9.out.1 HFAR.out).putQ i (d : Int)
      refine ⟨?_, ?_, ⟨r1 - m * d, a5, c5, HR2M.out, by rw [HST.out], by rw [HST.out]; exact HD10⟩, ?_⟩
      · exact (((HK5.out.trans (keepsOthers_of_below HW9.out)).trans (KeepsOthers.setCell _ _ _)).trans (KeepsOthers.setCell _ _ _)).trans (KeepsOthers.setCell _ _ _)
      · exact (((HKp5.out.t (KpB.on HW9.out HB5.out.size)).t (KpB.set _ _ _ (by omega) (by omega))).t (KpB.set _ _ _ (by omega) (by omega))).t (KpB.set _ _ _ (by omega) (by omega))
      · have hb9 := HB5.out.trans (HW9.out.mono HB5.out.size)
        exact ((hb9.setCell (p := ⟨w.heap.size + 1 + 1 + 1 + 1, 0, none⟩) (by show w.heap.size ≤ w.heap.size + 1 + 1 + 1 + 1; omega) _).setCell (p := ⟨w.heap.size + 1 + 1 + 1 + 1, 1, none⟩) (by show w.heap.size ≤ w.heap.size + 1 + 1 + 1 + 1; omega) _).setCell (p := ⟨w.heap.size + 1 + 1 + 1 + 1 + 1, i, none⟩) (by show w.heap.size ≤ w.heap.size + 1 + 1 + 1 + 1 + 1; omega) _
  case done =>
    rintro D ys W hD hys ⟨⟨r, a, c, hr, hst, hdb⟩, hb⟩ hK
    rw [hys] at hst hdb
    have hdi := stD_come (digs_dg n) (by omega : (0 : Int) < m) (digs n).length (Nat.le_refl _)
    obtain ⟨Q, hQ⟩ : ∃ Q, (stD (digs n) m (come (digs n) (digs n).length)).1 = Q := ⟨_, rfl⟩
    rw [hQ] at hdi hdb
    rw [hst] at hdi
    have hdd := hdi.done (by omega)
    rw [val_digs] at hdd
    have hQd := hdi.dg
    have hQl : Q.length = (digs n).length := hdi.len
    have hlG := hdb.ltG
    have hB6 := hdb.hBq
    obtain ⟨aq, cq, heq, hrow, -⟩ := row_of_own hdb.own hQl
    rw [hQl] at heq
    simp only [Value.slice.injEq] at heq
    obtain ⟨rfl, -, rfl⟩ := heq
    obtain ⟨WA, hWA⟩ : ∃ WA, W.setCell ⟨w.heap.size + 1 + 1 + 1 + 1, 0, none⟩ (.bool b1) = WA := ⟨_, rfl⟩
    have hbA : Below w.heap.size w WA := by rw [← hWA]; exact hb.setCell (p := ⟨w.heap.size + 1 + 1 + 1 + 1, 0, none⟩) (by show w.heap.size ≤ w.heap.size + 1 + 1 + 1 + 1; omega) _
    have hKA : WA.heap[D]? = some (.deferred (some [])) := by rw [← hWA]; exact (KeepsOthers.setCell W ⟨w.heap.size + 1 + 1 + 1 + 1, 0, none⟩ (.bool b1)).same D _ hK rfl
    have sA : (WA.cell? ⟨w.heap.size, 0, none⟩ = some (.bool b1) ∧ WA.cell? ⟨w.heap.size + 1, 0, none⟩ = some (.bool b2) ∧ WA.cell? ⟨w6.heap.size, 0, none⟩ = some (.slice (some ⟨w.heap.size + 1 + 1 + 1 + 1 + 1, 0, none⟩) (digs n).length (digs n).length) ∧ WA.cell? ⟨w.heap.size + 1 + 1 + 1 + 1, 0, none⟩ = some (.bool b1) ∧ WA.cell? ⟨w.heap.size + 1 + 1 + 1 + 1, 1, none⟩ = some (.slice a (digs r).length c)) := by
      rw [← hWA]
      exact ⟨cell_far hdb.g0 (by show w.heap.size + 1 + 1 + 1 + 1 ≠ w.heap.size; omega), cell_far hdb.h0 (by show w.heap.size + 1 + 1 + 1 + 1 ≠ w.heap.size + 1; omega), cell_far hdb.q (by show w.heap.size + 1 + 1 + 1 + 1 ≠ w6.heap.size; omega), World.cell?_setCell_same' _ _ _ (by rw [hdb.y0]; rfl), by simp [go_sem, hdb.y1]⟩
    have zA : (WA.cell? ⟨w.heap.size + 1 + 1, 0, none⟩ = some (.bool false) ∧ WA.cell? ⟨w.heap.size + 1 + 1, 1, none⟩ = some (.slice none 0 0) ∧ WA.frozen? ⟨w.heap.size + 1 + 1, 0, none⟩ = false ∧ WA.frozen? ⟨w.heap.size + 1 + 1, 1, none⟩ = false) := by
      rw [← hWA]
      exact ⟨cell_far hdb.z1.1 (by show w.heap.size + 1 + 1 + 1 + 1 ≠ w.heap.size + 1 + 1; omega), cell_far hdb.z1.2.1 (by show w.heap.size + 1 + 1 + 1 + 1 ≠ w.heap.size + 1 + 1; omega), by simp [go_sem, hdb.z1.2.2.1], by simp [go_sem, hdb.z1.2.2.2]⟩
    have zB : (WA.cell? ⟨w.heap.size + 1 + 1 + 1, 0, none⟩ = some (.bool false) ∧ WA.cell? ⟨w.heap.size + 1 + 1 + 1, 1, none⟩ = some (.slice none 0 0) ∧ WA.frozen? ⟨w.heap.size + 1 + 1 + 1, 0, none⟩ = false ∧ WA.frozen? ⟨w.heap.size + 1 + 1 + 1, 1, none⟩ = false) := by
      rw [← hWA]
      exact ⟨cell_far hdb.z2.1 (by show w.heap.size + 1 + 1 + 1 + 1 ≠ w.heap.size + 1 + 1 + 1; omega), cell_far hdb.z2.2.1 (by show w.heap.size + 1 + 1 + 1 + 1 ≠ w.heap.size + 1 + 1 + 1; omega), by simp [go_sem, hdb.z2.2.2.1], by simp [go_sem, hdb.z2.2.2.2]⟩
    have rA : Row WA (some ⟨w.heap.size + 1 + 1 + 1 + 1 + 1, 0, none⟩) (digs n).length Q := by rw [← hWA]; exact hrow.set hdb.y0 (fun i e => by cases e) _
    have rB : Row WA a c (digs r) := by rw [← hWA]; exact hdb.row.set hdb.y0 (fun i e => by cases e) _
    have HT1 : Hid (Calls Tryd.prog 45 #[.agg #[.bool (b1 != b2), .slice (some ⟨w.heap.size + 1 + 1 + 1 + 1 + 1, 0, none⟩) (digs n).length (digs n).length]] WA.drew fun e w' => ∃ (b' : Bool) (n' : Nat) (a' : Option Addr) (c' : Nat), e = .returned (.agg #[.bool b', .slice a' (digs (n')).length c']) ∧
        (w'.cell? ⟨w.heap.size, 0, none⟩ = some (.bool b1) ∧ w'.cell? ⟨w.heap.size + 1, 0, none⟩ = some (.bool b2) ∧ w'.cell? ⟨w6.heap.size, 0, none⟩ = some (.slice (some ⟨w.heap.size + 1 + 1 + 1 + 1 + 1, 0, none⟩) (digs n).length (digs n).length) ∧ w'.cell? ⟨w.heap.size + 1 + 1 + 1 + 1, 0, none⟩ = some (.bool b1) ∧ w'.cell? ⟨w.heap.size + 1 + 1 + 1 + 1, 1, none⟩ = some (.slice a (digs r).length c)) ∧ (w'.cell? ⟨w.heap.size + 1 + 1, 0, none⟩ = some (.bool false) ∧ w'.cell? ⟨w.heap.size + 1 + 1, 1, none⟩ = some (.slice none 0 0) ∧ w'.frozen? ⟨w.heap.size + 1 + 1, 0, none⟩ = false ∧ w'.frozen? ⟨w.heap.size + 1 + 1, 1, none⟩ = false) ∧ (w'.cell? ⟨w.heap.size + 1 + 1 + 1, 0, none⟩ = some (.bool false) ∧ w'.cell? ⟨w.heap.size + 1 + 1 + 1, 1, none⟩ = some (.slice none 0 0) ∧ w'.frozen? ⟨w.heap.size + 1 + 1 + 1, 0, none⟩ = false ∧ w'.frozen? ⟨w.heap.size + 1 + 1 + 1, 1, none⟩ = false) ∧ Hid (Ok b' n' ∧ sg b' n' = sg (b1 != b2) (val Q) ∧ Row w' a' c' (digs n') ∧ Below WA.heap.size WA w')) := by
      have ht := trimmed_any (b1 != b2) Q (some ⟨w.heap.size + 1 + 1 + 1 + 1 + 1, 0, none⟩) (digs n).length WA.drew (rA.on (Below.refl _ _).drew) hQd
      rw [hQl] at ht
      refine Lib.hid (ht.mono fun e w' ⟨b', n', a', c', he, hh⟩ => ⟨b', n', a', c', he, ?_⟩)
      obtain ⟨g1, g2, g3, g4⟩ := hh.out
      have hB := bext (Below.refl _ WA).drew g4
      have hk := CK.below hB
      exact ⟨⟨hk.cell sA.1 rfl, hk.cell sA.2.1 rfl, hk.cell sA.2.2.1 rfl, hk.cell sA.2.2.2.1 rfl, hk.cell sA.2.2.2.2 rfl⟩, hk.res zA, hk.res zB, Lib.hid ⟨g1, g2, g3, hB⟩⟩
    have HT2 : Hid (∀ w3, Below WA.heap.size WA w3 → (w3.cell? ⟨w.heap.size, 0, none⟩ = some (.bool b1) ∧ w3.cell? ⟨w.heap.size + 1, 0, none⟩ = some (.bool b2) ∧ w3.cell? ⟨w6.heap.size, 0, none⟩ = some (.slice (some ⟨w.heap.size + 1 + 1 + 1 + 1 + 1, 0, none⟩) (digs n).length (digs n).length) ∧ w3.cell? ⟨w.heap.size + 1 + 1 + 1 + 1, 0, none⟩ = some (.bool b1) ∧ w3.cell? ⟨w.heap.size + 1 + 1 + 1 + 1, 1, none⟩ = some (.slice a (digs r).length c)) → (w3.cell? ⟨w.heap.size + 1 + 1, 0, none⟩ = some (.bool false) ∧ w3.cell? ⟨w.heap.size + 1 + 1, 1, none⟩ = some (.slice none 0 0) ∧ w3.frozen? ⟨w.heap.size + 1 + 1, 0, none⟩ = false ∧ w3.frozen? ⟨w.heap.size + 1 + 1, 1, none⟩ = false) → (w3.cell? ⟨w.heap.size + 1 + 1 + 1, 0, none⟩ = some (.bool false) ∧ w3.cell? ⟨w.heap.size + 1 + 1 + 1, 1, none⟩ = some (.slice none 0 0) ∧ w3.frozen? ⟨w.heap.size + 1 + 1 + 1, 0, none⟩ = false ∧ w3.frozen? ⟨w.heap.size + 1 + 1 + 1, 1, none⟩ = false) → Calls Tryd.prog 45 #[.agg #[.bool b1, .slice a (digs (r)).length c]] w3 fun e w' => ∃ (b' : Bool) (n' : Nat) (a' : Option Addr) (c' : Nat), e = .returned (.agg #[.bool b', .slice a' (digs (n')).length c']) ∧
        (w'.cell? ⟨w.heap.size, 0, none⟩ = some (.bool b1) ∧ w'.cell? ⟨w.heap.size + 1, 0, none⟩ = some (.bool b2) ∧ w'.cell? ⟨w6.heap.size, 0, none⟩ = some (.slice (some ⟨w.heap.size + 1 + 1 + 1 + 1 + 1, 0, none⟩) (digs n).length (digs n).length) ∧ w'.cell? ⟨w.heap.size + 1 + 1 + 1 + 1, 0, none⟩ = some (.bool b1) ∧ w'.cell? ⟨w.heap.size + 1 + 1 + 1 + 1, 1, none⟩ = some (.slice a (digs r).length c)) ∧ (w'.cell? ⟨w.heap.size + 1 + 1, 0, none⟩ = some (.bool false) ∧ w'.cell? ⟨w.heap.size + 1 + 1, 1, none⟩ = some (.slice none 0 0) ∧ w'.frozen? ⟨w.heap.size + 1 + 1, 0, none⟩ = false ∧ w'.frozen? ⟨w.heap.size + 1 + 1, 1, none⟩ = false) ∧ (w'.cell? ⟨w.heap.size + 1 + 1 + 1, 0, none⟩ = some (.bool false) ∧ w'.cell? ⟨w.heap.size + 1 + 1 + 1, 1, none⟩ = some (.slice none 0 0) ∧ w'.frozen? ⟨w.heap.size + 1 + 1 + 1, 0, none⟩ = false ∧ w'.frozen? ⟨w.heap.size + 1 + 1 + 1, 1, none⟩ = false) ∧ Hid (Ok b' n' ∧ sg b' n' = sg b1 r ∧ Row w' a' c' (digs n') ∧ Below w3.heap.size w3 w')) := by
      refine Lib.hid (fun w3 hB3 s3 y3 z3 => (trimmed_any b1 (digs r) a c w3 (rB.on hB3) (digs_dg r)).mono fun e w' ⟨b', n', a', c', he, hh⟩ => ⟨b', n', a', c', he, ?_⟩)
      obtain ⟨g1, g2, g3, g4⟩ := hh.out
      have hk := CK.below g4
      rw [val_digs] at g2
      exact ⟨⟨hk.cell s3.1 rfl, hk.cell s3.2.1 rfl, hk.cell s3.2.2.1 rfl, hk.cell s3.2.2.2.1 rfl, hk.cell s3.2.2.2.2 rfl⟩, hk.res y3, hk.res z3, Lib.hid ⟨g1, g2, g3, g4⟩⟩
    have g0 := hdb.g0
    have y0 := hdb.y0
    have y1 := hdb.y1
    have f0 := hdb.f0
    have HDD := Lib.hid hdd
    have HBA := Lib.hid hbA
    have HKA := Lib.hid hKA
    have HWA := Lib.hid hWA
    obtain ⟨s0, s1, s2, s3, s4⟩ := sA
    have n1 : ¬ w.heap.size = w.heap.size + 1 + 1 := by omega
    have n2 : ¬ w.heap.size = w.heap.size + 1 + 1 + 1 := by omega
    have n3 : ¬ w6.heap.size = w.heap.size + 1 + 1 := by omega
    have n4 : ¬ w6.heap.size = w.heap.size + 1 + 1 + 1 := by omega
    have n5 : ¬ w.heap.size + 1 + 1 = w.heap.size := by omega
    have n6 : ¬ w.heap.size + 1 + 1 + 1 = w.heap.size := by omega
    have n7 : ¬ w.heap.size + 1 + 1 = w6.heap.size := by omega
    have n8 : ¬ w.heap.size + 1 + 1 + 1 = w6.heap.size := by omega
    have T1 : True := trivial
    have HH := Lib.hid hdb.ltG
    have hltR : w.heap.size + 1 + 1 + 1 + 1 < W.heap.size := cell_lt y0
    clear hdb hrow hQl hQd hst hys hdi hdd hbA hKA hWA rA rB zA zB hQ hb hK HDB
    gi_wp2
    rw [HWA.out]
    refine wpIn_wide.2 ?_
    go_region_held3 (fun w' => (w'.cell? ⟨w.heap.size, 0, none⟩ = some (.bool b1) ∧ w'.cell? ⟨w.heap.size + 1, 0, none⟩ = some (.bool b2) ∧ w'.cell? ⟨w6.heap.size, 0, none⟩ = some (.slice (some ⟨w.heap.size + 1 + 1 + 1 + 1 + 1, 0, none⟩) (digs n).length (digs n).length) ∧ w'.cell? ⟨w.heap.size + 1 + 1 + 1 + 1, 0, none⟩ = some (.bool b1) ∧ w'.cell? ⟨w.heap.size + 1 + 1 + 1 + 1, 1, none⟩ = some (.slice a (digs r).length c))) (go_keep)
      (first
        | (go_at_call 45
           clear T1
           refine HT1.out.mono ?_
           rintro e w2 ⟨bq, nq, aq, cq, rfl, ⟨s0, s1, s2, s3, s4⟩, ⟨y0, y1, y2, y3⟩, ⟨z0, z1, z2, z3⟩, hr2⟩)
        | (go_at_call 45
           refine (HT2.out w2 hr2.out.2.2.2 ⟨s0, s1, s2, s3, s4⟩ ⟨y0, y1, y2, y3⟩ ⟨z0, z1, z2, z3⟩).mono ?_
           rintro e w3 ⟨br, nr, ar, cr, rfl, ⟨s0, s1, s2, s3, s4⟩, ⟨y0, y1, y2, y3⟩, ⟨z0, z1, z2, z3⟩, hr3⟩))
    obtain ⟨p1, p2, p3, p4⟩ := hr2.out
    obtain ⟨o1, o2, o3, o4⟩ := hr3.out
    have hq1 := res_cells (.bool bq) (.slice aq (digs nq).length cq) y0 y1
    obtain ⟨w3b, hw3b⟩ : ∃ w3b, ((w3.setCell ⟨w.heap.size + 1 + 1, 0, none⟩ (.bool bq)).setCell ⟨w.heap.size + 1 + 1, 1, none⟩ (.slice aq (digs nq).length cq)) = w3b := ⟨_, rfl⟩
    have hz2 : (w3b.cell? ⟨w.heap.size + 1 + 1 + 1, 0, none⟩ = some (.bool false) ∧ w3b.cell? ⟨w.heap.size + 1 + 1 + 1, 1, none⟩ = some (.slice none 0 0) ∧ w3b.frozen? ⟨w.heap.size + 1 + 1 + 1, 0, none⟩ = false ∧ w3b.frozen? ⟨w.heap.size + 1 + 1 + 1, 1, none⟩ = false) := by
      rw [← hw3b]
      exact ⟨cell_far (cell_far z0 (by show w.heap.size + 1 + 1 ≠ w.heap.size + 1 + 1 + 1; omega)) (by show w.heap.size + 1 + 1 ≠ w.heap.size + 1 + 1 + 1; omega), cell_far (cell_far z1 (by show w.heap.size + 1 + 1 ≠ w.heap.size + 1 + 1 + 1; omega)) (by show w.heap.size + 1 + 1 ≠ w.heap.size + 1 + 1 + 1; omega), by simp [go_sem, z2], by simp [go_sem, z3]⟩
    rw [← hw3b] at hz2
    clear hw3b
    have hq2 := res_cells (.bool br) (.slice ar (digs nr).length cr) hz2.1 hz2.2.1
    have hW3 := bext p4 o4
    have hK3 : w3.heap[D]? = some (.deferred (some [])) := (hW3.block D (Array.getElem?_eq_some_iff.1 HKA.out).1).trans HKA.out
    obtain ⟨WE, hWE⟩ : ∃ WE, ((((w3.setCell ⟨w.heap.size + 1 + 1, 0, none⟩ (.bool bq)).setCell ⟨w.heap.size + 1 + 1, 1, none⟩ (.slice aq (digs nq).length cq)).setCell ⟨w.heap.size + 1 + 1 + 1, 0, none⟩ (.bool br)).setCell ⟨w.heap.size + 1 + 1 + 1, 1, none⟩ (.slice ar (digs nr).length cr)) = WE := ⟨_, rfl⟩
    have hKE : WE.heap[D]? = some (.deferred (some [])) := by
      rw [← hWE]
      exact ((((KeepsOthers.setCell w3 ⟨w.heap.size + 1 + 1, 0, none⟩ (.bool bq)).trans (KeepsOthers.setCell _ ⟨w.heap.size + 1 + 1, 1, none⟩ (.slice aq (digs nq).length cq))).trans (KeepsOthers.setCell _ ⟨w.heap.size + 1 + 1 + 1, 0, none⟩ (.bool br))).trans (KeepsOthers.setCell _ ⟨w.heap.size + 1 + 1 + 1, 1, none⟩ (.slice ar (digs nr).length cr))).same D _ hK3 rfl
    have hbE : Below w.heap.size w WE := by
      rw [← hWE]
      exact ((((HBA.out.trans (hW3.mono HBA.out.size)).setCell (p := ⟨w.heap.size + 1 + 1, 0, none⟩) (by show w.heap.size ≤ w.heap.size + 1 + 1; omega) _).setCell (p := ⟨w.heap.size + 1 + 1, 1, none⟩) (by show w.heap.size ≤ w.heap.size + 1 + 1; omega) _).setCell (p := ⟨w.heap.size + 1 + 1 + 1, 0, none⟩) (by show w.heap.size ≤ w.heap.size + 1 + 1 + 1; omega) _).setCell (p := ⟨w.heap.size + 1 + 1 + 1, 1, none⟩) (by show w.heap.size ≤ w.heap.size + 1 + 1 + 1; omega) _
    have rowE : ∀ (l : List Int) (a0 : Option Addr) (c0 : Nat), Row w3 a0 c0 l → Row WE a0 c0 l := by
      intro l a0 c0 h
      rw [← hWE]
      refine (((h.set y0 (fun i e => by cases e) _).set (p := ⟨w.heap.size + 1 + 1, 1, none⟩) (v := .slice none 0 0) (by simp [go_sem, y1]) (fun i e => by cases e) _).set hz2.1 (fun i e => by cases e) _).set (p := ⟨w.heap.size + 1 + 1 + 1, 1, none⟩) (v := .slice none 0 0) ?_ (fun i e => by cases e) _
      have := hz2.2.1
      simp [go_sem, this]
    have c0 : WE.cell? ⟨w.heap.size + 1 + 1, 0, none⟩ = some (.bool bq) := by rw [← hWE]; exact cell_far (cell_far hq1.1 (by show w.heap.size + 1 + 1 + 1 ≠ w.heap.size + 1 + 1; omega)) (by show w.heap.size + 1 + 1 + 1 ≠ w.heap.size + 1 + 1; omega)
    have c1' : WE.cell? ⟨w.heap.size + 1 + 1, 1, none⟩ = some (.slice aq (digs nq).length cq) := by rw [← hWE]; exact cell_far (cell_far hq1.2 (by show w.heap.size + 1 + 1 + 1 ≠ w.heap.size + 1 + 1; omega)) (by show w.heap.size + 1 + 1 + 1 ≠ w.heap.size + 1 + 1; omega)
    have c2' : WE.cell? ⟨w.heap.size + 1 + 1 + 1, 0, none⟩ = some (.bool br) := by rw [← hWE]; exact hq2.1
    have c3' : WE.cell? ⟨w.heap.size + 1 + 1 + 1, 1, none⟩ = some (.slice ar (digs nr).length cr) := by rw [← hWE]; exact hq2.2
    rw [hWE]
    have HBE := Lib.hid hbE
    have HRE := Lib.hid rowE
    have HKE := Lib.hid hKE
    have HP := Lib.hid (show Ok bq nq ∧ sg bq nq = sg (b1 != b2) (val Q) ∧ Row w3 aq cq (digs nq) from ⟨p1, p2, p3.on o4⟩)
    have HO := Lib.hid (show Ok br nr ∧ sg br nr = sg b1 r ∧ Row w3 ar cr (digs nr) from ⟨o1, o2, o3⟩)
    clear hWE p1 p2 p3 p4 o1 o2 o3 o4 hq1 hq2 hz2 hW3 hK3 hKE hbE rowE y0 y1 y2 y3 z0 z1 z2 z3 s0 s1 s2 s3 s4
    gi_wp2
    refine ⟨by simp, .inl ⟨_, _, rfl, run_takeDeferred HKE.out, ?_⟩⟩
    have kp : ∀ {p : Addr} {v : Value}, WE.cell? p = some v → (WE.putObj D (.deferred none)).cell? p = some v := fun h => cell_kept h (grownBy_putObj' _ D (.deferred none)) (fun r e => by cases e; exact ⟨_, HKE.out, rfl⟩)
    have k0 := kp c0
    have k1 := kp c1'
    have k2 := kp c2'
    have k3 := kp c3'
    have hck : CK WE (WE.putObj D (.deferred none)) := CK.grown (grownBy_putObj' _ D (.deferred none)) (fun r e => by cases e; exact ⟨_, HKE.out, rfl⟩)
    refine ⟨.tuple #[.agg #[.bool bq, .slice aq (digs (nq)).length cq], .agg #[.bool br, .slice ar (digs (nr)).length cr]], ?_, bq, nq, aq, cq, br, nr, ar, cr, rfl, Lib.hid ⟨HP.out.1, HO.out.1, ?_, ?_, hck.row (HRE.out _ _ _ HP.out.2.2), hck.row (HRE.out _ _ _ HO.out.2.2), ?_⟩⟩
    · simp [results, Tryd.f50, go_sem, k0, k1, k2, k3]
    · rw [HP.out.2.1, HDD.out.1]
    · rw [HO.out.2.1, HDD.out.2]
    · exact HBE.out.trans (belowK_b (w := w) (Nat.le_refl _) _ D _ _ (by have := HB8.out.size; omega) HKE.out rfl rfl)
  case stop =>
    rintro D c pre W _ _ h _
    exact h.elim
end Go.Proofs.YteiipiomcbohnaaDoor
