/-
  ported for this seat out of All (port.py)
-/
import Derived.Deep.AppendLies
import Derived.Laws.AppendOwnNone
import Derived.Test.YtfcpblclfgkdjaaGreatDoorZG
import Derived.Test.YtfcpblclfgkdjaaGreatDoorZA
import Derived.Test.YtfcpblclfgkdjaaGreatDoorZB
namespace Go.Proofs.YtfcpblclfgkdjaaGreatDoor
set_option linter.unusedSimpArgs false
set_option linter.unusedVariables false
open Go.RowKit

/-- A row of nodes of its own (from block base on), whose kids lie in memory below B. -/
structure NRow (B base : Nat) (L : List (Nd × Option Addr × Nat)) (v : Value) (W : World) : Prop where
  own : W.ownsRow base 25 4 v L.length (L.flatMap node4)
  kids : ∀ x, x ∈ L → Fits x.1 x.2.2 ∧ Kids W B x.2.1 x.1.kids
theorem own_lt {w : World} {base : Nat} {e : TypeId} {size : Nat} {v : Value} {n : Nat} {xs : List Value} (h : w.ownsRow base e size v n xs) {g : Nat} (hg : v.ownBlock = some g) : base ≤ g ∧ g < w.heap.size := by
  rcases h.2 with ⟨rfl, _⟩ | ⟨g', cap, cur, rfl, hb, hh, _⟩
  · cases hg
  · obtain rfl : g' = g := by simpa [Value.ownBlock] using hg
    exact ⟨hb, (Array.getElem?_eq_some_iff.1 hh).1⟩
theorem own_low {w : World} {base base' : Nat} {e : TypeId} {size : Nat} {v : Value} {n : Nat} {xs : List Value} (h : w.ownsRow base e size v n xs) (hb : base' ≤ base) : w.ownsRow base' e size v n xs := by
  refine ⟨h.1, ?_⟩
  rcases h.2 with h0 | ⟨g, cap, cur, hv, hg, hr⟩
  · exact .inl h0
  · exact .inr ⟨g, cap, cur, hv, by omega, hr⟩
theorem NRow.on {B base : Nat} {L : List (Nd × Option Addr × Nat)} {v : Value} {W W' : World} (h : NRow B base L v W) (hB : B ≤ W.heap.size) (hb : Below W.heap.size W W') : NRow B base L v W' :=
  ⟨ownsRow_of h.own (fun g hg => hb.block g (own_lt h.own hg).2), fun x hx => ⟨(h.kids x hx).1, (h.kids x hx).2.below (hb.mono hB) (Nat.le_refl _)⟩⟩
theorem NRow.low {B base base' : Nat} {L : List (Nd × Option Addr × Nat)} {v : Value} {W : World} (h : NRow B base L v W) (hb : base' ≤ base) : NRow B base' L v W :=
  ⟨own_low h.own hb, h.kids⟩
/-- Where a row lies that is not empty. -/
theorem NRow.lies {B base : Nat} {L : List (Nd × Option Addr × Nat)} {v : Value} {W : World} (h : NRow B base L v W) (hne : L ≠ []) :
    ∃ g cap, v = .slice (some ⟨g, 0, none⟩) L.length cap ∧ base ≤ g ∧ g < W.heap.size ∧ L.length ≤ cap ∧ cap ≤ maxLen ∧ ∀ j u, (L.flatMap node4)[j]? = some u → W.cell? ⟨g, j, none⟩ = some u := by
  rcases h.own.2 with ⟨_, h0⟩ | ⟨g, cap, cur, hv, hb, hg, hcap, hmax, hcs, htk⟩
  · exact absurd (List.eq_nil_of_length_eq_zero h0) hne
  · refine ⟨g, cap, hv, hb, (Array.getElem?_eq_some_iff.1 hg).1, hcap, hmax, fun j u hj => ?_⟩
    rw [cell_of_row W g j cur _ (0, 0) hg]
    rw [← htk, List.getElem?_take] at hj
    by_cases hlt : j < L.length * 4
    · rw [if_pos hlt] at hj; simpa using hj
    · rw [if_neg hlt] at hj; cases hj
theorem add_zero (g j : Nat) : (⟨g, 0, none⟩ : Addr).add j = ⟨g, j, none⟩ := by
  by_cases h : j = 0
  · subst h; rfl
  · simp [Addr.add, h]
theorem one_all (L : List (Nd × Option Addr × Nat)) : ∀ u ∈ L.flatMap node4, u.oneCell' = true := by
  intro u hu
  obtain ⟨x, _, hx⟩ := List.mem_flatMap.1 hu
  simp only [node4, List.mem_cons, List.not_mem_nil, or_false] at hx
  rcases hx with rfl | rfl | rfl | rfl <;> rfl
theorem nrow_new (w : World) (B : Nat) (t : Nd) (a : Option Addr) (c : Nat) (hk : Kids w B a t.kids) (hB : B ≤ w.heap.size) (hf : Fits t c) :
    NRow B w.heap.size [(t, a, c)] (.slice (some ⟨w.heap.size, 0, none⟩) 1 1) (w.alloc (.cells #[.int .i64 t.kind, .string ⟨t.text.toArray⟩, .slice a t.kids.length c, .int .i64 t.pos] 25)) := by
  refine ⟨⟨rfl, .inr ⟨w.heap.size, 1, #[.int .i64 t.kind, .string ⟨t.text.toArray⟩, .slice a t.kids.length c, .int .i64 t.pos], rfl, Nat.le_refl _, heap_alloc_new w _, by simp, by unfold maxLen; omega, rfl, rfl⟩⟩, fun x hx => ?_⟩
  rw [List.mem_singleton] at hx
  subst hx
  exact ⟨hf, hk.below ((below_alloc w _).mono hB) (Nat.le_refl _)⟩

/-- All of the first k kids. -/
def kidsAll (d k : Nat) (l : List Nd) : List Nd := (l.take k).flatMap (nodesL d)
theorem kidsAll_succ (d k : Nat) (l : List Nd) (h : k < l.length) : kidsAll d (k + 1) l = kidsAll d k l ++ nodesL d l[k] := by
  unfold kidsAll
  rw [List.take_succ_eq_append_getElem h, List.flatMap_append]; simp
theorem nodes_succ (d : Nat) (t : Nd) : nodesL (d + 1) t = t :: t.kids.flatMap (nodesL d) := by
  unfold nodesL
  rw [walkL, List.map_cons, List.map_flatMap]
theorem kidsAll_len (d k : Nat) (l : List Nd) : (kidsAll d k l).length ≤ (l.flatMap (nodesL d)).length := by
  unfold kidsAll
  have := List.take_append_drop k l
  conv => rhs; rw [← this]
  rw [List.flatMap_append, List.length_append]; omega
theorem nodes_len (d : Nat) (t : Nd) : (nodesL d t).length = (walkL d t).length := by simp [nodesL]
theorem kid_len (d : Nat) (l : List Nd) (k : Nat) (h : k < l.length) : (kidsAll d k l).length + (nodesL d l[k]).length ≤ (l.flatMap (nodesL d)).length := by
  rw [← List.length_append, ← kidsAll_succ d k l h]; exact kidsAll_len d (k + 1) l

set_option maxRecDepth 100000 in
set_option maxHeartbeats 8000000 in
theorem rall_any : ∀ (d : Nat), d ≤ 1000 → ∀ (B : Nat) (t : Nd) (a : Option Addr) (c : Nat) (w : World), B ≤ w.heap.size → Kids w B a t.kids → Fits t c → (nodesL d t).length ≤ 1048576 →
    Calls Tryz.prog 7 #[.agg #[.int .i64 t.kind, .string ⟨t.text.toArray⟩, .slice a t.kids.length c, .int .i64 t.pos], .int .i64 d] w fun e w' => Below w.heap.size w w' ∧ ∃ v L, e = .returned v ∧ L.map (·.1) = nodesL d t ∧ NRow B w.heap.size L v w' ∧ (L = [] → v = .slice none 0 0)
  | 0, _, B, t, a, c, w, hB, hk, hf, hn => by
    have HE := Lib.hid (show nodesL 0 t = [] from rfl)
    clear hk hf hn hB
    go_enter Tryz.func7, Tryz.ntmps7
    go_wp2_with fail
    go_ret
    exact ⟨below_alloc _ _, _, [], rfl, HE.out.symm, ⟨World.ownsRow_nil _ _ _ _, fun x hx => by cases hx⟩, fun _ => rfl⟩
  | d + 1, hd, B, t, a, c, w, hB, hk, hf, hn => by
    have ih := rall_any d (by omega)
    have HI := Lib.hid ih
    have hl63 : t.kids.length ≤ 9223372036854775807 := by have := hf.2.2.2.2.2.1; have := hf.2.2.2.2.2.2.1; omega
    have hcap : t.kids.length ≤ c := hf.2.2.2.2.2.1
    have h0 : ((d : Int) + 1 == 0) = false := by simp; omega
    have hwd : IntKind.i64.wrap (d : Int) = d := by rw [IntKind.wrap_i64]; omega
    obtain ⟨wa, hwa, hba, e0, e1, e2, e3⟩ := laid4 w (.int .i64 t.kind) (.string ⟨t.text.toArray⟩) (.slice a t.kids.length c) (.int .i64 t.pos) 25
    have hka : Kids wa B a t.kids := hk.below (hba.mono hB) (Nat.le_refl _)
    have hBa : B ≤ wa.heap.size := by have := hba.size; omega
    have hr0 := nrow_new wa B t a c hka hBa hf
    have hwl : wa.heap.size = w.heap.size + 1 := by rw [← hwa]; simp
    have hb0 := bext hba (below_alloc wa (.cells #[.int .i64 t.kind, .string ⟨t.text.toArray⟩, .slice a t.kids.length c, .int .i64 t.pos] 25))
    have hlen : (t.kids.flatMap (nodesL d)).length < 1048576 := by rw [nodes_succ, List.length_cons] at hn; omega
    have HNS := Lib.hid (nodes_succ d t)
    have HLEN := Lib.hid hlen
    have HK := Lib.hid hk
    have HBB := Lib.hid hB
    have HR0 := Lib.hid (hr0.low (base' := w.heap.size + 1) (by omega))
    have HB0 := Lib.hid hb0
    have HWL := Lib.hid hwl
    have HC0 := Lib.hid (cells_on' (below_alloc wa (.cells #[.int .i64 t.kind, .string ⟨t.text.toArray⟩, .slice a t.kids.length c, .int .i64 t.pos] 25)) e0 e1 e2 e3)
    clear ih hk hf hB hr0 hb0 hba hka hBa hn hlen hwl
    go_enter Tryz.func7, Tryz.ntmps7
    go_wp2_with fail
    go_loopw [5, 6] (fun v i wr => ∃ (k : Nat) (L : List (Nd × Option Addr × Nat)), k ≤ t.kids.length ∧ i = .int .i64 k ∧ Hid (L.map (·.1) = t :: kidsAll d k t.kids) ∧ Hid (NRow B (w.heap.size + 1) L v wr) ∧ Hid (Below w.heap.size w wr) ∧
      (wr.cell? ⟨w.heap.size, 0, none⟩ = some (.int .i64 t.kind) ∧ wr.cell? ⟨w.heap.size, 1, none⟩ = some (.string ⟨t.text.toArray⟩) ∧ wr.cell? ⟨w.heap.size, 2, none⟩ = some (.slice (a) t.kids.length c) ∧ wr.cell? ⟨w.heap.size, 3, none⟩ = some (.int .i64 t.pos))) (fun _ i _ => t.kids.length - (intOf i).toNat)
    case atStart =>
      refine ⟨0, [(t, a, c)], by omega, rfl, Lib.hid (by simp [kidsAll]), HR0, HB0, HC0.out⟩
    case round =>
      obtain ⟨k, L, hk1, rfl, HL, HR, HB, a0, a1, a2, a3⟩ := hrel
      by_cases hlt : k < t.kids.length
      · obtain ⟨b, off, a', c', ha, hbB, ⟨q0, q1, q2, q3⟩, hf', hn'⟩ := (HK.out.below (HB.out.mono HBB.out) (Nat.le_refl _)).get hlt
        subst ha
        have hsz := HB.out.size
        have hwb : w.heap.size < wr.heap.size := cell_lt a0
        have hkl := kid_len d t.kids k hlt
        have hsum := kidsAll_succ d k t.kids hlt
        have hc := HI.out B t.kids[k] a' c' wr (by have := HBB.out; omega) hn' hf' (by have := HLEN.out; omega)
        obtain ⟨q, hq⟩ : ∃ q, t.kids[k] = q := ⟨_, rfl⟩
        rw [hq] at q0 q1 q2 q3 hc hkl hsum
        have HC := Lib.hid hc
        have HKL := Lib.hid (show L.length + (nodesL d q).length ≤ 1048577 by
          have h1 := congrArg List.length HL.out
          have := HLEN.out
          simp at h1
          simp only [List.length_flatMap] at *
          omega)
        have HSUM := Lib.hid hsum
        clear hq hc hf' hn' hkl hsum hsz
        go_wp2_with fail
        refine HC.out.mono ?_
        rintro e w3 ⟨hb3, v2, L2, rfl, hL2, hr2, hnil⟩
        obtain ⟨a0, a1, a2, a3⟩ := cells_on' hb3 a0 a1 a2 a3
        have HR3 := Lib.hid (HR.out.on (by have := HBB.out; omega) hb3)
        have HB3 := Lib.hid (bext HB.out hb3)
        have hl2 : L2.length = (nodesL d q).length := by rw [← hL2]; simp
        by_cases hne : L2 = []
        · obtain rfl := hnil hne
          have HL2 := Lib.hid (show L.map (·.1) = t :: kidsAll d (k + 1) t.kids by rw [HSUM.out, ← hL2, hne, HL.out]; simp)
          obtain ⟨i0, hi0, hz0, hz1, hz2⟩ := info_parts info24
          clear hb3 hL2 hr2 hnil hl2 hne
          go_wp2_with (at_builtin; refine wpList_append_own_none rfl _ _ 22 rfl (w.heap.size + 1) 25 i0 4 und22 hi0 _ _ _ rfl HR3.out.own rfl ?_)
          go_roundw
          case rel =>
            first
            | exact ⟨k + 1, L, by omega, by go_num, HL2, HR3, HB3, a0, a1, a2, a3⟩
            | exact ⟨_, _, k + 1, L, by omega, by go_num, HL2, HR3, HB3, a0, a1, a2, a3⟩
            | ((repeat apply Exists.intro); exact ⟨⟨k + 1, L, by omega, by go_num, HL2, HR3, HB3, a0, a1, a2, a3⟩, rfl⟩)
          case measure => simp [intOf]; omega
        · obtain ⟨g2, cap2, rfl, hg2, hg2l, hcap2, hmax2, hcell⟩ := hr2.lies hne
          have HL2 := Lib.hid (show (L ++ L2).map (·.1) = t :: kidsAll d (k + 1) t.kids by rw [HSUM.out, List.map_append, hL2, HL.out]; simp)
          have HR2 := Lib.hid hr2
          have hnews : ∀ j u, (L2.flatMap node4)[j]? = some u → w3.cell? ((⟨g2, 0, none⟩ : Addr).add j) = some u := fun j u h => by rw [add_zero]; exact hcell j u h
          have hm : 0 < L2.length := List.length_pos_iff.2 hne
          have h63 : L.length + L2.length ≤ maxLen := by have := HKL.out; unfold maxLen; omega
          have hby : (L.length + L2.length) * 56 ≤ 140737488355328 := by have := HKL.out; omega
          have hbase : w.heap.size + 1 ≤ w3.heap.size := by have := hb3.size; omega
          have hcl := cells_len L2
          obtain ⟨i0, hi0, hz0, hz1, hz2⟩ := info_parts info24
          have HN := Lib.hid hnews
          clear hb3 hL2 hr2 hnil hl2 hne hg2 hcap2 hmax2 hcell hnews
          go_wp2_with (at_builtin; refine wpList_append_lies _ rfl _ _ 22 rfl (w.heap.size + 1) 25 i0 _ 4 56 und22 hi0 hz0 hz1 hz2 rfl (by decide) _ _ _ rfl HR3.out.own ⟨g2, 0, none⟩ L2.length cap2 (L2.flatMap node4) rfl hcl HN.out (one_all L2) hm h63 hby hbase _ rfl ?_; intro gg cap w4 hown4 hgrow hat hlt4)
          have hfar : ∀ p : Addr, p.block ≤ w.heap.size → w4.cell? p = w3.cell? p := fun p hp => hgrow.cell_far p (by omega) (fun e => by have := (own_lt HR3.out.own e.symm).1; omega)
          have hr4 : NRow B (w.heap.size + 1) (L ++ L2) (.slice (some ⟨gg, 0, none⟩) (L.length + L2.length) cap) w4 := by
            refine ⟨?_, fun x hx => ?_⟩
            · rw [List.length_append, List.flatMap_append]; exact hown4
            · have hkeep : ∀ {aa : Option Addr} {ll : List Nd}, Kids w3 B aa ll → Kids w4 B aa ll := fun h => h.keep (Nat.le_refl _) (fun p hp => hfar p (by have := HBB.out; omega))
              rcases List.mem_append.1 hx with h | h
              · exact ⟨(HR3.out.kids x h).1, hkeep (HR3.out.kids x h).2⟩
              · exact ⟨(HR2.out.kids x h).1, hkeep (HR2.out.kids x h).2⟩
          have hb4 : Below w.heap.size w w4 := HB3.out.grown hgrow HB3.out.size (fun j e => by have := (own_lt HR3.out.own e).1; omega)
          have HR4 := Lib.hid hr4
          have HB4 := Lib.hid hb4
          have f0 := (hfar ⟨w.heap.size, 0, none⟩ (Nat.le_refl _)).trans a0
          have f1 := (hfar ⟨w.heap.size, 1, none⟩ (Nat.le_refl _)).trans a1
          have f2 := (hfar ⟨w.heap.size, 2, none⟩ (Nat.le_refl _)).trans a2
          have f3 := (hfar ⟨w.heap.size, 3, none⟩ (Nat.le_refl _)).trans a3
          clear hr4 hb4 hown4 hgrow hat
          go_wp2_with fail
          go_roundw
          case rel =>
            first
            | exact ⟨k + 1, L ++ L2, by omega, by go_num, HL2, HR4, HB4, f0, f1, f2, f3⟩
            | exact ⟨_, _, k + 1, L ++ L2, by omega, by go_num, HL2, HR4, HB4, f0, f1, f2, f3⟩
            | ((repeat apply Exists.intro); exact ⟨⟨k + 1, L ++ L2, by omega, by go_num, HL2, HR4, HB4, f0, f1, f2, f3⟩, rfl⟩)
          case measure => simp [intOf]; omega
      · obtain rfl : k = t.kids.length := by omega
        go_wp2_with fail
        go_ret
        refine ⟨HB.out, _, L, rfl, ?_, HR.out.low (by omega), fun e => ?_⟩
        · rw [HL.out, HNS.out, kidsAll, List.take_length]
        · have := HL.out
          rw [e] at this
          cases this
end Go.Proofs.YtfcpblclfgkdjaaGreatDoor

