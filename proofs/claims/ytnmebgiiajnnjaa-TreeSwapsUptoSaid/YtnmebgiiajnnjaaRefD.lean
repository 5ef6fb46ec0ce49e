/-
  demoticref06.Swap through the kids, walked
-/
import Derived.Test.YtnmebgiiajnnjaaRefC
namespace Go.Proofs.Ytnmebgiiajnnjaa
set_option linter.unusedSimpArgs false
set_option linter.unusedVariables false
open Go.RowKit

theorem srow_round {Zo : Nat → Prop} {t y : Nd} {a ay : Option Addr} {c cy d k : Nat} {f : Nd → Option Nd} {v : Value} {L : List (Nd × Option Addr × Nat)} {w wr w3 w4 : World} {a3 : Option Addr} {c3 gg cap : Nat} {o : Obj} (hlt : k < t.kids.length) (hZ : ∀ b, Zo b → b < w.heap.size)
    (hbx : SBoxes t y a ay c cy w.heap.size v wr) (hL : L.map (·.1) = (t.kids.take k).map (copyL f d))
    (hLX : ∀ x, x ∈ L → Fits x.1 x.2.2 ∧ KidsZ wr (fun b => (Zo b ∨ (w.heap.size + 2 + 2 ≤ b ∧ b < wr.heap.size)) ∧ some b ≠ v.ownBlock) x.2.1 x.1.kids)
    (hrl : ∀ g, v.ownBlock = some g → w.heap.size + 2 + 2 ≤ g ∧ g < wr.heap.size)
    (hr3 : Below wr.heap.size wr w3 ∧ Fits (copyL f d t.kids[k]) c3 ∧ KidsZ w3 (fun b => Zo b ∨ (wr.heap.size ≤ b ∧ b < w3.heap.size)) a3 (copyL f d t.kids[k]).kids)
    (hown4 : w4.ownsRow (w.heap.size + 2 + 2) 24 4 (.slice (some ⟨gg, 0, none⟩) (k + 1) cap) (k + 1) (L.flatMap node4 ++ node4 (copyL f d t.kids[k], a3, c3)))
    (hgrow : (w3.alloc o).grownBy w4 v.ownBlock) (hat : v.ownBlock = some gg ∨ gg = w3.heap.size + 1) (hbw : Below w.heap.size w wr) :
    SBoxes t y a ay c cy w.heap.size (.slice (some ⟨gg, 0, none⟩) (k + 1) cap) (w4.setCell ⟨w.heap.size + 1 + 1 + 1, 2, none⟩ (.slice (some ⟨gg, 0, none⟩) (k + 1) cap)) ∧
    Row Zo (w.heap.size + 2) ((t.kids.take (k + 1)).map (copyL f d)) (.slice (some ⟨gg, 0, none⟩) (k + 1) cap) (w4.setCell ⟨w.heap.size + 1 + 1 + 1, 2, none⟩ (.slice (some ⟨gg, 0, none⟩) (k + 1) cap)) ∧
    Below w.heap.size w (w4.setCell ⟨w.heap.size + 1 + 1 + 1, 2, none⟩ (.slice (some ⟨gg, 0, none⟩) (k + 1) cap)) := by
  obtain ⟨hb3, hfit, hz⟩ := hr3
  have hs0 := hbw.size
  have hs3 := hb3.size
  have hlt2 := hbx.lt
  have hba : Below wr.heap.size wr (w3.alloc o) := hb3.alloc hb3.size o
  have hsa : (w3.alloc o).heap.size = w3.heap.size + 1 := by simp
  have hrow : ∀ j, v.ownBlock = some j → w.heap.size + 2 + 2 ≤ j := fun j e => (hrl j e).1
  have hb4 : Below (w.heap.size + 2 + 2) (w3.alloc o) w4 := (Below.refl _ _).grown hgrow (by omega) hrow
  have hLlen : L.length = k := by
    have := congrArg List.length hL
    simp at this; omega
  have hZ2 : ∀ b, Zo b → b < w.heap.size + 2 := fun b hb => by have := hZ b hb; omega
  refine ⟨SBoxes.put (((hbx.on hb3).on (below_alloc w3 o)).below hb4 (by omega)) _, Row.put1 (B := w.heap.size + 2) ?_ hZ2 2 _, ?_⟩
  · have hsn := Row.snoc (Zo := Zo) (B := w.heap.size + 2) (L := L) (v := v) (W := w3.alloc o) (W' := w4) (y := copyL f d t.kids[k]) (a' := a3) (c' := c3) (gg := gg) (cap := cap) hZ2 (by omega) (fun x hx => ⟨(hLX x hx).1, zoneOn (hLX x hx).2 hba⟩) hfit
      (hz.move (fun b hb => ?_) (fun p u _ hu => cell_alloc' o hu)) (by rw [hLlen]; exact hown4) hgrow (by rw [hsa]; exact hat)
    · rw [hLlen, hL] at hsn
      rw [List.take_succ_eq_append_getElem hlt, List.map_append, List.map_singleton]
      exact hsn
    · refine ⟨?_, fun e => ?_⟩
      · rcases hb with h1 | h1
        · exact .inl h1
        · exact .inr ⟨by omega, by omega⟩
      · obtain ⟨e1, e2⟩ := hrl b e.symm
        rcases hb with h1 | h1
        · have := hZ _ h1; omega
        · omega
  · refine Below.setCell ?_ (p := ⟨w.heap.size + 1 + 1 + 1, 2, none⟩) (by show w.heap.size ≤ w.heap.size + 1 + 1 + 1; omega) _
    exact ((bext hbw hb3).alloc (by omega) o).trans (hb4.mono (by omega))

theorem swapF_no {kind : Int} {text : List UInt8} {y t : Nd} (h : (t.kind == kind && (t.text == text && t.kids.isEmpty)) = false) : swapF kind text y t = none := by simp [swapF, h]

theorem Row.put0 {Zo : Nat → Prop} {B : Nat} {l : List Nd} {v : Value} {W : World} (h : Row Zo B l v W) (hZ : ∀ b, Zo b → b < B) (hB : B ≤ W.heap.size) (o : Nat) (u : Value) : Row Zo B l v (W.setCell ⟨B, o, none⟩ u) :=
  h.keep hZ (by simp [World.setCell]) (fun b _ hne => Below.heap_setCell W ⟨B, o, none⟩ u b hne) hB
theorem Row.down {Zo : Nat → Prop} {B : Nat} {l : List Nd} {v : Value} {W : World} (h : Row Zo (B + 2) l v W) : Row Zo B l v W := by
  obtain ⟨L, hL, ⟨h1, h2⟩, hx⟩ := h
  refine ⟨L, hL, ⟨h1, ?_⟩, fun x hxL => ⟨(hx x hxL).1, (hx x hxL).2.mono (fun b hb => ⟨hb.1.imp id (fun h => ⟨by omega, h.2⟩), hb.2⟩)⟩⟩
  rcases h2 with h2 | ⟨g, cap, cur, rfl, hb, hh, hr⟩
  · exact .inl h2
  · exact .inr ⟨g, cap, cur, rfl, by omega, hh, hr⟩
theorem Sees.trans3 {n : Nat} {wr w3 : World} (hs : n ≤ wr.heap.size) (hb : Below wr.heap.size wr w3) : Sees n wr w3 := fun p u hp hu => (hb.cell (by omega)).trans hu

set_option maxRecDepth 100000 in
set_option maxHeartbeats 8000000 in
theorem rswap_none (d : Nat) (hd : d ≤ 100) (t y : Nd) (a ay : Option Addr) (c cy : Nat) (kind : Int) (text : List UInt8) (Zo : Nat → Prop) (w : World) (hm : (t.kind == kind && (t.text == text && t.kids.isEmpty)) = false)
    (hk : KidsZ w Zo a t.kids) (hky : KidsZ w Zo ay y.kids) (hZ : ∀ b, Zo b → b < w.heap.size) (hf : Fits t c) (hfy : Fits y cy)
    (ih : ∀ k, k ∈ t.kids → ∀ a' c' W, Below w.heap.size w W → KidsZ W Zo a' k.kids → KidsZ W Zo ay y.kids → Fits k c' → Calls Try.prog 15 #[.agg #[.int .i64 k.kind, .string ⟨k.text.toArray⟩, .slice a' k.kids.length c', .int .i64 k.pos], .int .i64 kind, .string ⟨text.toArray⟩, .agg #[.int .i64 y.kind, .string ⟨y.text.toArray⟩, .slice ay y.kids.length cy, .int .i64 y.pos], .int .i64 d] W (Copied Zo (copyL (swapF kind text y) d k) W)) :
    Calls Try.prog 15 #[.agg #[.int .i64 t.kind, .string ⟨t.text.toArray⟩, .slice a t.kids.length c, .int .i64 t.pos], .int .i64 kind, .string ⟨text.toArray⟩, .agg #[.int .i64 y.kind, .string ⟨y.text.toArray⟩, .slice ay y.kids.length cy, .int .i64 y.pos], .int .i64 ((d : Int) + 1)] w (Copied Zo (.mk t.kind t.text (t.kids.map (copyL (swapF kind text y) d)) t.pos) w) := by
  have hmove : ∀ (W : World) (aa : Option Addr) (ll : List Nd), Below w.heap.size w W → KidsZ w Zo aa ll → KidsZ W Zo aa ll := fun W aa ll hW h => h.move (fun _ hb => hb) (fun p _ hp hv => (hW.cell (hZ _ hp)).trans hv)
  obtain ⟨f, hfdef⟩ : ∃ f, swapF kind text y = f := ⟨_, rfl⟩
  rw [hfdef] at ih ⊢
  have h0 : ((d : Int) + 1 == 0) = false := by simp; omega
  have hl63 : t.kids.length ≤ 9223372036854775807 := by have := hf.2.2.2.2.2.1; have := hf.2.2.2.2.2.2.1; omega
  have hcap : t.kids.length ≤ c := hf.2.2.2.2.2.1
  obtain ⟨hc63, hc57⟩ := hf.2.2.2.2.2.2
  have hwd : IntKind.i64.wrap (d : Int) = d := by rw [IntKind.wrap_i64]; omega
  have e3 := len_zero t.kids
  have HMV := Lib.hid hmove
  have HZ := Lib.hid hZ
  have HK := Lib.hid hk
  have HKY := Lib.hid hky
  have HF := Lib.hid hf
  have HI := Lib.hid ih
  have HE3 := Lib.hid e3
  clear hk hky hZ hf hfy ih hmove hfdef e3
  obtain ⟨i0, hi0, hz0, hz1, hz2⟩ := info_parts info24
  go_enter Try.func15, Try.ntmps15
  cases h1 : (t.kind == kind)
  case' true => cases h2 : (t.text == text)
  case' true.true =>
    have h3 : t.kids.isEmpty = false := by rw [h1, h2] at hm; simpa using hm
    have e3 := HE3.out
    rw [h3] at e3
    clear h3
  all_goals
    clear hm
    go_wp2_with fail
    have hb2 : Below w.heap.size w ((((w.alloc (.cells #[.int .i64 t.kind, .string ⟨t.text.toArray⟩, .slice a t.kids.length c, .int .i64 t.pos] 24)).alloc (.cells #[.int .i64 y.kind, .string ⟨y.text.toArray⟩, .slice ay y.kids.length cy, .int .i64 y.pos] 24)).alloc (.cells #[.int .i64 0, .string ⟨#[]⟩, .slice none 0 0, .int .i64 0] 24)).alloc (.cells #[.int .i64 t.kind, .string ⟨t.text.toArray⟩, .slice none 0 0, .int .i64 t.pos] 24)) :=
      ((((Below.refl _ _).alloc (Nat.le_refl _) _).alloc (by simp) _).alloc (by simp; omega) _).alloc (by simp; omega) _
    have hx2 : SBoxes t y a ay c cy w.heap.size (.slice none 0 0) ((((w.alloc (.cells #[.int .i64 t.kind, .string ⟨t.text.toArray⟩, .slice a t.kids.length c, .int .i64 t.pos] 24)).alloc (.cells #[.int .i64 y.kind, .string ⟨y.text.toArray⟩, .slice ay y.kids.length cy, .int .i64 y.pos] 24)).alloc (.cells #[.int .i64 0, .string ⟨#[]⟩, .slice none 0 0, .int .i64 0] 24)).alloc (.cells #[.int .i64 t.kind, .string ⟨t.text.toArray⟩, .slice none 0 0, .int .i64 t.pos] 24)) := by
      refine ⟨⟨?_, ?_, ?_, ?_⟩, ⟨?_, ?_, ?_, ?_⟩, ⟨⟨?_, ?_, ?_, ?_⟩, ?_, ?_, ?_, ?_⟩, ⟨?_, ?_, ?_, ?_⟩, ?_⟩ <;> simp [go_sem]
    have HB2 := Lib.hid hb2
    have HX2 := Lib.hid hx2
    clear hb2 hx2
    go_loopw [12] (fun i wr => ∃ k : Nat, k ≤ t.kids.length ∧ i = .int .i64 k ∧ ∃ v, SBoxes t y a ay c cy w.heap.size v wr ∧ Row Zo (w.heap.size + 2) ((t.kids.take k).map (copyL f d)) v wr ∧ Below w.heap.size w wr) (fun i _ => t.kids.length - (intOf i).toNat)
    case atStart => exact ⟨0, by omega, rfl, _, HX2.out, Row.nil _ _ _, HB2.out⟩
    case round =>
      clear HB2 HX2
      obtain ⟨k, hk1, rfl, v, hbx, hrow, hb⟩ := hrel
      have HBX2 := Lib.hid hbx
      have HROW := Lib.hid hrow
      have HBW := Lib.hid hb
      have hs1 : w.heap.size + 1 + 1 + 1 < wr.heap.size := hbx.lt
      obtain ⟨⟨q0, q1, q2, q3⟩, ⟨y0, y1, y2, y3⟩, ⟨⟨r0, r1, r2, r3⟩, f0, f1, f2, f3⟩, ⟨o0, o1, o2, o3⟩, og⟩ := hbx
      clear hrow hb
      by_cases hlt : k < t.kids.length
      · obtain ⟨b, off, a'', c'', ha, hbZ, ⟨h0', h1', h2', h3'⟩, hf', hn'⟩ := kidsZ_iff.1 (HMV.out _ _ _ HBW.out HK.out) k hlt
        have hbB : b < wr.heap.size := by have := HZ.out _ hbZ; have := HBW.out.size; omega
        subst ha
        have HF' := Lib.hid hf'
        have HN' := Lib.hid hn'
        have hlb : b < wr.heap.size := hbB
        have hbd : Below wr.heap.size wr wr.drew := (Below.refl _ _).drew
        have hmem : t.kids[k] ∈ t.kids := List.getElem_mem hlt
        have hzm : ∀ (aa : Option Addr) (ll : List Nd), KidsZ wr Zo aa ll → KidsZ wr.drew Zo aa ll := fun aa ll h => h.move (fun _ hb => hb) (fun p _ hp hv => (hbd.cell (by have := HZ.out _ hp; have := HBW.out.size; omega)).trans hv)
        have hbS : b < w.heap.size + 2 := by have := HZ.out _ hbZ; omega
        have hcl := (HI.out _ hmem a'' c'' wr.drew (bext HBW.out hbd) (hzm _ _ hn') (hzm _ _ (HMV.out _ _ _ HBW.out HKY.out)) hf').mono (R' := fun e w3 => ∃ a3 c3, e = .returned (.agg #[.int .i64 (copyL f d t.kids[k]).kind, .string ⟨(copyL f d t.kids[k]).text.toArray⟩, .slice a3 (copyL f d t.kids[k]).kids.length c3, .int .i64 (copyL f d t.kids[k]).pos]) ∧
            w.heap.size + 1 + 1 + 1 < w3.heap.size ∧
            Hid (Below wr.heap.size wr w3 ∧ w3.cell? ⟨w.heap.size + 1 + 1 + 1, 2, none⟩ = some v ∧ w3.frozen? ⟨w.heap.size + 1 + 1 + 1, 2, none⟩ = false ∧ Fits (copyL f d t.kids[k]) c3 ∧ KidsZ w3 (fun b => Zo b ∨ (wr.heap.size ≤ b ∧ b < w3.heap.size)) a3 (copyL f d t.kids[k]).kids))
          (fun e w3 h => by
            obtain ⟨hb3', a3, c3, he, hfit, hz⟩ := h
            have hb3 := bext hbd hb3'
            obtain ⟨hc3, hz3⟩ := bcell hb3
            have hsz3 := hb3.size
            exact ⟨a3, c3, he, by omega, Lib.hid ⟨hb3, (hc3 _ _ hs1).trans o2, (hz3 _ _ hs1).trans og, hfit, hz⟩⟩)
        have hs0 : Sees (w.heap.size + 2) wr wr := Sees.refl _ _
        have HS0 := Lib.hid (show w.heap.size + 2 ≤ wr.heap.size by omega)
        have HCL := Lib.hid hcl
        have hrl := HROW.out.lt
        obtain ⟨L, hL, hown, hLx⟩ := HROW.out
        have hk0 : ((t.kids.take k).map (copyL f d)).length = k := by simp; omega
        rw [hk0] at hown
        have hownA : ∀ W, Below wr.heap.size wr W → W.ownsRow (w.heap.size + 2 + 2) 24 4 v k (L.flatMap node4) := fun W hW => ownsRow_of hown (fun g hg => hW.block g (hrl g hg).2)
        have HOA := Lib.hid hownA
        have HLX := Lib.hid hLx
        have HLL := Lib.hid hL
        have HRL := Lib.hid hrl
        have ag : v.ownBlock ≠ some (w.heap.size + 1 + 1 + 1) := fun e => by have := (hrl _ e).1; omega
        clear hown hLx hL hrl hs0 hownA hk0 hf' hn' hbZ hbd hmem hzm hcl
        have hn1 : k + 1 ≤ maxLen := by simp only [maxLen]; omega
        have hb1 : (k + 1) * 56 ≤ 140737488355328 := by omega
        -- BY HAND: the region in whatever order
        go_wp2_with fail
        refine wp_region_held_drew (S := Sees (w.heap.size + 2) wr) (by kernel_rfl) (fun p u _ hu => hu) (fun hHeld => ?_)
        (refine wpAnyH_take (i := 0) (v := ?_) rfl (by decide +kernel) (by decide +kernel) (by decide +kernel) (fun _ _ _ h => h) (Or.inl ⟨?_, ?_⟩) hHeld ?_; rotate_left 1; (focus rfl); (focus (intro w9 hSw; go_simp; (try with_reducible rfl); done)); (try simp only [Act.put, List.setIfInBounds_toArray, List.set_cons_zero, List.set_cons_succ, List.getElem_toArray, List.getElem_cons_zero, List.getElem_cons_succ]))
        (refine wpAnyH_take (i := 2) (v := ?_) rfl (by decide +kernel) (by decide +kernel) (by decide +kernel) (fun _ _ _ h => h) (Or.inl ⟨?_, ?_⟩) hHeld ?_; rotate_left 1; (focus rfl); (focus (intro w9 hSw; go_simp; (try with_reducible rfl); done)); (try simp only [Act.put, List.setIfInBounds_toArray, List.set_cons_zero, List.set_cons_succ, List.getElem_toArray, List.getElem_cons_zero, List.getElem_cons_succ]))
        (refine wpAnyH_take (i := 3) (v := ?_) rfl (by decide +kernel) (by decide +kernel) (by decide +kernel) (fun _ _ _ h => h) (Or.inl ⟨?_, ?_⟩) hHeld ?_; rotate_left 1; (focus rfl); (focus (intro w9 hSw; have l9 := hSw ⟨w.heap.size, 2, none⟩ _ (by show w.heap.size < _; omega) q2; go_simp; (try with_reducible rfl); done)); (try simp only [Act.put, List.setIfInBounds_toArray, List.set_cons_zero, List.set_cons_succ, List.getElem_toArray, List.getElem_cons_zero, List.getElem_cons_succ]))
        (refine wpAnyH_take (i := 4) (v := ?_) rfl (by decide +kernel) (by decide +kernel) (by decide +kernel) (fun _ _ _ h => h) (Or.inl ⟨?_, ?_⟩) hHeld ?_; rotate_left 1; (focus rfl); (focus (intro w9 hSw; go_simp; (try with_reducible rfl); done)); (try simp only [Act.put, List.setIfInBounds_toArray, List.set_cons_zero, List.set_cons_succ, List.getElem_toArray, List.getElem_cons_zero, List.getElem_cons_succ]))
        (refine wpAnyH_take (i := 5) (v := ?_) rfl (by decide +kernel) (by decide +kernel) (by decide +kernel) (fun _ _ _ h => h) (Or.inl ⟨?_, ?_⟩) hHeld ?_; rotate_left 1; (focus rfl); (focus (intro w9 hSw; go_simp; (try with_reducible rfl); done)); (try simp only [Act.put, List.setIfInBounds_toArray, List.set_cons_zero, List.set_cons_succ, List.getElem_toArray, List.getElem_cons_zero, List.getElem_cons_succ]))
        (refine wpAnyH_take (i := 6) (v := ?_) rfl (by decide +kernel) (by decide +kernel) (by decide +kernel) (fun _ _ _ h => h) (Or.inl ⟨?_, ?_⟩) hHeld ?_; rotate_left 1; (focus rfl); (focus (intro w9 hSw; have l0 := hSw ⟨b, off + k * 4, none⟩ _ hbS h0'; have l1 := hSw ⟨b, off + k * 4 + 1, none⟩ _ hbS h1'; have l2 := hSw ⟨b, off + k * 4 + 2, none⟩ _ hbS h2'; have l3 := hSw ⟨b, off + k * 4 + 3, none⟩ _ hbS h3'; go_simp; (try with_reducible rfl); done)); (try simp only [Act.put, List.setIfInBounds_toArray, List.set_cons_zero, List.set_cons_succ, List.getElem_toArray, List.getElem_cons_zero, List.getElem_cons_succ]))
        (refine wpAnyH_take (i := 7) (v := ?_) rfl (by decide +kernel) (by decide +kernel) (by decide +kernel) (fun _ _ _ h => h) (Or.inl ⟨?_, ?_⟩) hHeld ?_; rotate_left 1; (focus rfl); (focus (intro w9 hSw; go_simp; (try with_reducible rfl); done)); (try simp only [Act.put, List.setIfInBounds_toArray, List.set_cons_zero, List.set_cons_succ, List.getElem_toArray, List.getElem_cons_zero, List.getElem_cons_succ]))
        (refine wpAnyH_take (i := 8) (v := ?_) rfl (by decide +kernel) (by decide +kernel) (by decide +kernel) (fun _ _ _ h => h) (Or.inl ⟨?_, ?_⟩) hHeld ?_; rotate_left 1; (focus rfl); (focus (intro w9 hSw; go_simp; (try with_reducible rfl); done)); (try simp only [Act.put, List.setIfInBounds_toArray, List.set_cons_zero, List.set_cons_succ, List.getElem_toArray, List.getElem_cons_zero, List.getElem_cons_succ]))
        (refine wpAnyH_take (i := 9) (v := ?_) rfl (by decide +kernel) (by decide +kernel) (by decide +kernel) (fun _ _ _ h => h) (Or.inl ⟨?_, ?_⟩) hHeld ?_; rotate_left 1; (focus rfl); (focus (intro w9 hSw; have l0 := hSw ⟨w.heap.size + 1, 0, none⟩ _ (by show w.heap.size + 1 < _; omega) y0; have l1 := hSw ⟨w.heap.size + 1, 1, none⟩ _ (by show w.heap.size + 1 < _; omega) y1; have l2 := hSw ⟨w.heap.size + 1, 2, none⟩ _ (by show w.heap.size + 1 < _; omega) y2; have l3 := hSw ⟨w.heap.size + 1, 3, none⟩ _ (by show w.heap.size + 1 < _; omega) y3; go_simp; (try with_reducible rfl); done)); (try simp only [Act.put, List.setIfInBounds_toArray, List.set_cons_zero, List.set_cons_succ, List.getElem_toArray, List.getElem_cons_zero, List.getElem_cons_succ]))
        (refine wpAnyH_take (i := 10) (v := ?_) rfl (by decide +kernel) (by decide +kernel) (by decide +kernel) (fun _ _ _ h => h) (Or.inl ⟨?_, ?_⟩) hHeld ?_; rotate_left 1; (focus rfl); (focus (intro w9 hSw; go_simp; (try with_reducible rfl); done)); (try simp only [Act.put, List.setIfInBounds_toArray, List.set_cons_zero, List.set_cons_succ, List.getElem_toArray, List.getElem_cons_zero, List.getElem_cons_succ]))
        (refine wpAnyH_take (i := 11) (v := ?_) rfl (by decide +kernel) (by decide +kernel) (by decide +kernel) (fun _ _ _ h => h) (Or.inl ⟨?_, ?_⟩) hHeld ?_; rotate_left 1; (focus rfl); (focus (intro w9 hSw; go_simp; (try with_reducible rfl); done)); (try simp only [Act.put, List.setIfInBounds_toArray, List.set_cons_zero, List.set_cons_succ, List.getElem_toArray, List.getElem_cons_zero, List.getElem_cons_succ]))
        refine wpAnyH_ready (rs := [1, 12]) (by decide +kernel) (by simp) ?_
        refine AllReadyH.cons rfl (fun K hK => ?_) (AllReadyH.cons rfl (fun K hK => ?_) AllReadyH.nil)
        · rw [if_pos (by rfl)]
          have l9 := o2
          go_simp
          clear l9
          refine hK.out _ _ hHeld (fun hHeld => ?_)
          clear hK K
          (try simp only [Act.put, List.setIfInBounds_toArray, List.set_cons_zero, List.set_cons_succ, List.getElem_toArray, List.getElem_cons_zero, List.getElem_cons_succ])
          refine wpAnyH_ready (rs := [12]) (by decide +kernel) (by simp) ?_
          refine AllReadyH.cons rfl (fun K hK => ?_) AllReadyH.nil
          rw [if_pos (by rfl)]
          go_simp
          refine HCL.out.mono ?_
          rintro e w3 ⟨a3, c3, rfl, hs3, hr3⟩
          refine hK.out _ _ (Sees.trans3 HS0.out hr3.out.1) (fun hHeld => ?_)
          clear hK K
          (try simp only [Act.put, List.setIfInBounds_toArray, List.set_cons_zero, List.set_cons_succ, List.getElem_toArray, List.getElem_cons_zero, List.getElem_cons_succ])
          refine wpAnyH_ready (rs := [13]) (by decide +kernel) (by simp) ?_
          refine AllReadyH.cons rfl (fun K hK => ?_) AllReadyH.nil
          rw [if_pos (by rfl)]
          go_simp
          refine hK.out _ _ (hHeld.alloc _) (fun hHeld => ?_)
          clear hK K
          (try simp only [Act.put, List.setIfInBounds_toArray, List.set_cons_zero, List.set_cons_succ, List.getElem_toArray, List.getElem_cons_zero, List.getElem_cons_succ])
          refine wpAnyH_ready (rs := [14]) (by decide +kernel) (by simp) ?_
          refine AllReadyH.cons rfl (fun K hK => ?_) AllReadyH.nil
          refine step_append_lies _ (by rfl) _ _ _ (by rfl) (w.heap.size + 2 + 2) 24 i0 _ 4 56 und22 hi0 hz0 hz1 hz2 rfl (by omega) v k (L.flatMap node4) (by rfl) (HOA.out _ (hr3.out.1.alloc hr3.out.1.size _)) ⟨w3.heap.size, 0, none⟩ 1 1 (node4 (copyL f d t.kids[k], a3, c3)) (by rfl) (by rfl) (World.news_of_block (cs := #[.int .i64 (copyL f d t.kids[k]).kind, .string ⟨(copyL f d t.kids[k]).text.toArray⟩, .slice a3 (copyL f d t.kids[k]).kids.length c3, .int .i64 (copyL f d t.kids[k]).pos]) (t := 24) (fr := (0, 0)) (heap_alloc_new w3 _)) (by simp [node4, Value.oneCell']) (by omega) hn1 hb1 (by simp; omega) (w3.heap.size + 1) (by simp) ?_
          intro gg cap w4 hown4 hgrow hat hlt4
          have hsz4 : ∀ o : Obj, w.heap.size + 1 + 1 + 1 < (w3.alloc o).heap.size := fun o => by simp; omega
          have hcl4 : ∀ o : Obj, (w3.alloc o).cell? ⟨w.heap.size + 1 + 1 + 1, 2, none⟩ = some v := fun o => cell_alloc' o hr3.out.2.1
          have hfz4 : ∀ o : Obj, (w3.alloc o).frozen? ⟨w.heap.size + 1 + 1 + 1, 2, none⟩ = false := fun o => ((below_alloc w3 o).frozen (p := ⟨w.heap.size + 1 + 1 + 1, 2, none⟩) hs3).trans hr3.out.2.2.1
          have z0 := (hgrow.cell_far ⟨w.heap.size + 1 + 1 + 1, 2, none⟩ (hsz4 _) (Ne.symm ag)).trans (hcl4 _)
          have z1 := (hgrow.frozen_far ⟨w.heap.size + 1 + 1 + 1, 2, none⟩ (hsz4 _) (Ne.symm ag)).trans (hfz4 _)
          have hsee : Sees (w.heap.size + 2) wr w4 := fun p u hp hu => (hgrow.cell_far p (cell_lt' (hHeld p u hp hu)) (fun e => by have := (HRL.out _ e.symm).1; omega)).trans (hHeld p u hp hu)
          have HG4 := Lib.hid hgrow
          have HO4 := Lib.hid hown4
          have HA4 := Lib.hid hat
          clear hgrow hown4 hat hsz4 hcl4 hfz4
          refine hK.out _ _ hsee (fun hHeld => ?_)
          clear hK K
          (try simp only [Act.put, List.setIfInBounds_toArray, List.set_cons_zero, List.set_cons_succ, List.getElem_toArray, List.getElem_cons_zero, List.getElem_cons_succ])
          (refine wpAnyH_take (i := 15) (v := ?_) rfl (by decide +kernel) (by decide +kernel) (by decide +kernel) (fun _ _ _ h => h) (Or.inl ⟨?_, ?_⟩) hHeld ?_; rotate_left 1; (focus rfl); (focus (intro w9 hSw; go_simp; (try with_reducible rfl); done)); (try simp only [Act.put, List.setIfInBounds_toArray, List.set_cons_zero, List.set_cons_succ, List.getElem_toArray, List.getElem_cons_zero, List.getElem_cons_succ]))
          refine wpAnyH_ready (rs := [16]) (by decide +kernel) (by simp) ?_
          refine AllReadyH.cons rfl (fun K hK => ?_) AllReadyH.nil
          rw [if_pos (by rfl)]
          go_simp
          refine hK.out _ _ (fun p u hp hu => by rw [cell_far_set (by omega)]; exact hHeld p u hp hu) (fun hHeld => ?_)
          clear hK K
          (try simp only [Act.put, List.setIfInBounds_toArray, List.set_cons_zero, List.set_cons_succ, List.getElem_toArray, List.getElem_cons_zero, List.getElem_cons_succ])
          refine wpAnyH_done (by decide +kernel) ?_ _
          go_wp2_with fail
          go_roundw
          case rel =>
            obtain ⟨e1, e2, e3⟩ := srow_round hlt HZ.out HBX2.out HLL.out HLX.out HRL.out ⟨hr3.out.1, hr3.out.2.2.2⟩ HO4.out HG4.out HA4.out HBW.out
            exact ⟨k + 1, by omega, by go_num, _, e1, e2, e3⟩
          case measure => simp [intOf]; omega
        · rw [if_pos (by rfl)]
          go_simp
          refine HCL.out.mono ?_
          rintro e w3 ⟨a3, c3, rfl, hs3, hr3⟩
          refine hK.out _ _ (Sees.trans3 HS0.out hr3.out.1) (fun hHeld => ?_)
          clear hK K
          (try simp only [Act.put, List.setIfInBounds_toArray, List.set_cons_zero, List.set_cons_succ, List.getElem_toArray, List.getElem_cons_zero, List.getElem_cons_succ])
          refine wpAnyH_ready (rs := [1, 13]) (by decide +kernel) (by simp) ?_
          refine AllReadyH.cons rfl (fun K hK => ?_) (AllReadyH.cons rfl (fun K hK => ?_) AllReadyH.nil)
          · rw [if_pos (by rfl)]
            have l9 := hr3.out.2.1
            go_simp
            clear l9
            refine hK.out _ _ hHeld (fun hHeld => ?_)
            clear hK K
            (try simp only [Act.put, List.setIfInBounds_toArray, List.set_cons_zero, List.set_cons_succ, List.getElem_toArray, List.getElem_cons_zero, List.getElem_cons_succ])
            refine wpAnyH_ready (rs := [13]) (by decide +kernel) (by simp) ?_
            refine AllReadyH.cons rfl (fun K hK => ?_) AllReadyH.nil
            rw [if_pos (by rfl)]
            go_simp
            refine hK.out _ _ (hHeld.alloc _) (fun hHeld => ?_)
            clear hK K
            (try simp only [Act.put, List.setIfInBounds_toArray, List.set_cons_zero, List.set_cons_succ, List.getElem_toArray, List.getElem_cons_zero, List.getElem_cons_succ])
            refine wpAnyH_ready (rs := [14]) (by decide +kernel) (by simp) ?_
            refine AllReadyH.cons rfl (fun K hK => ?_) AllReadyH.nil
            refine step_append_lies _ (by rfl) _ _ _ (by rfl) (w.heap.size + 2 + 2) 24 i0 _ 4 56 und22 hi0 hz0 hz1 hz2 rfl (by omega) v k (L.flatMap node4) (by rfl) (HOA.out _ (hr3.out.1.alloc hr3.out.1.size _)) ⟨w3.heap.size, 0, none⟩ 1 1 (node4 (copyL f d t.kids[k], a3, c3)) (by rfl) (by rfl) (World.news_of_block (cs := #[.int .i64 (copyL f d t.kids[k]).kind, .string ⟨(copyL f d t.kids[k]).text.toArray⟩, .slice a3 (copyL f d t.kids[k]).kids.length c3, .int .i64 (copyL f d t.kids[k]).pos]) (t := 24) (fr := (0, 0)) (heap_alloc_new w3 _)) (by simp [node4, Value.oneCell']) (by omega) hn1 hb1 (by simp; omega) (w3.heap.size + 1) (by simp) ?_
            intro gg cap w4 hown4 hgrow hat hlt4
            have hsz4 : ∀ o : Obj, w.heap.size + 1 + 1 + 1 < (w3.alloc o).heap.size := fun o => by simp; omega
            have hcl4 : ∀ o : Obj, (w3.alloc o).cell? ⟨w.heap.size + 1 + 1 + 1, 2, none⟩ = some v := fun o => cell_alloc' o hr3.out.2.1
            have hfz4 : ∀ o : Obj, (w3.alloc o).frozen? ⟨w.heap.size + 1 + 1 + 1, 2, none⟩ = false := fun o => ((below_alloc w3 o).frozen (p := ⟨w.heap.size + 1 + 1 + 1, 2, none⟩) hs3).trans hr3.out.2.2.1
            have z0 := (hgrow.cell_far ⟨w.heap.size + 1 + 1 + 1, 2, none⟩ (hsz4 _) (Ne.symm ag)).trans (hcl4 _)
            have z1 := (hgrow.frozen_far ⟨w.heap.size + 1 + 1 + 1, 2, none⟩ (hsz4 _) (Ne.symm ag)).trans (hfz4 _)
            have hsee : Sees (w.heap.size + 2) wr w4 := fun p u hp hu => (hgrow.cell_far p (cell_lt' (hHeld p u hp hu)) (fun e => by have := (HRL.out _ e.symm).1; omega)).trans (hHeld p u hp hu)
            have HG4 := Lib.hid hgrow
            have HO4 := Lib.hid hown4
            have HA4 := Lib.hid hat
            clear hgrow hown4 hat hsz4 hcl4 hfz4
            refine hK.out _ _ hsee (fun hHeld => ?_)
            clear hK K
            (try simp only [Act.put, List.setIfInBounds_toArray, List.set_cons_zero, List.set_cons_succ, List.getElem_toArray, List.getElem_cons_zero, List.getElem_cons_succ])
            (refine wpAnyH_take (i := 15) (v := ?_) rfl (by decide +kernel) (by decide +kernel) (by decide +kernel) (fun _ _ _ h => h) (Or.inl ⟨?_, ?_⟩) hHeld ?_; rotate_left 1; (focus rfl); (focus (intro w9 hSw; go_simp; (try with_reducible rfl); done)); (try simp only [Act.put, List.setIfInBounds_toArray, List.set_cons_zero, List.set_cons_succ, List.getElem_toArray, List.getElem_cons_zero, List.getElem_cons_succ]))
            refine wpAnyH_ready (rs := [16]) (by decide +kernel) (by simp) ?_
            refine AllReadyH.cons rfl (fun K hK => ?_) AllReadyH.nil
            rw [if_pos (by rfl)]
            go_simp
            refine hK.out _ _ (fun p u hp hu => by rw [cell_far_set (by omega)]; exact hHeld p u hp hu) (fun hHeld => ?_)
            clear hK K
            (try simp only [Act.put, List.setIfInBounds_toArray, List.set_cons_zero, List.set_cons_succ, List.getElem_toArray, List.getElem_cons_zero, List.getElem_cons_succ])
            refine wpAnyH_done (by decide +kernel) ?_ _
            go_wp2_with fail
            go_roundw
            case rel =>
              obtain ⟨e1, e2, e3⟩ := srow_round hlt HZ.out HBX2.out HLL.out HLX.out HRL.out ⟨hr3.out.1, hr3.out.2.2.2⟩ HO4.out HG4.out HA4.out HBW.out
              exact ⟨k + 1, by omega, by go_num, _, e1, e2, e3⟩
            case measure => simp [intOf]; omega
          · rw [if_pos (by rfl)]
            go_simp
            refine hK.out _ _ (hHeld.alloc _) (fun hHeld => ?_)
            clear hK K
            (try simp only [Act.put, List.setIfInBounds_toArray, List.set_cons_zero, List.set_cons_succ, List.getElem_toArray, List.getElem_cons_zero, List.getElem_cons_succ])
            refine wpAnyH_ready (rs := [1]) (by decide +kernel) (by simp) ?_
            refine AllReadyH.cons rfl (fun K hK => ?_) AllReadyH.nil
            rw [if_pos (by rfl)]
            have l9 := (show ∀ o : Obj, (w3.alloc o).cell? ⟨w.heap.size + 1 + 1 + 1, 2, none⟩ = some v from fun o => cell_alloc' o hr3.out.2.1)
            go_simp
            clear l9
            refine hK.out _ _ hHeld (fun hHeld => ?_)
            clear hK K
            (try simp only [Act.put, List.setIfInBounds_toArray, List.set_cons_zero, List.set_cons_succ, List.getElem_toArray, List.getElem_cons_zero, List.getElem_cons_succ])
            refine wpAnyH_ready (rs := [14]) (by decide +kernel) (by simp) ?_
            refine AllReadyH.cons rfl (fun K hK => ?_) AllReadyH.nil
            refine step_append_lies _ (by rfl) _ _ _ (by rfl) (w.heap.size + 2 + 2) 24 i0 _ 4 56 und22 hi0 hz0 hz1 hz2 rfl (by omega) v k (L.flatMap node4) (by rfl) (HOA.out _ (hr3.out.1.alloc hr3.out.1.size _)) ⟨w3.heap.size, 0, none⟩ 1 1 (node4 (copyL f d t.kids[k], a3, c3)) (by rfl) (by rfl) (World.news_of_block (cs := #[.int .i64 (copyL f d t.kids[k]).kind, .string ⟨(copyL f d t.kids[k]).text.toArray⟩, .slice a3 (copyL f d t.kids[k]).kids.length c3, .int .i64 (copyL f d t.kids[k]).pos]) (t := 24) (fr := (0, 0)) (heap_alloc_new w3 _)) (by simp [node4, Value.oneCell']) (by omega) hn1 hb1 (by simp; omega) (w3.heap.size + 1) (by simp) ?_
            intro gg cap w4 hown4 hgrow hat hlt4
            have hsz4 : ∀ o : Obj, w.heap.size + 1 + 1 + 1 < (w3.alloc o).heap.size := fun o => by simp; omega
            have hcl4 : ∀ o : Obj, (w3.alloc o).cell? ⟨w.heap.size + 1 + 1 + 1, 2, none⟩ = some v := fun o => cell_alloc' o hr3.out.2.1
            have hfz4 : ∀ o : Obj, (w3.alloc o).frozen? ⟨w.heap.size + 1 + 1 + 1, 2, none⟩ = false := fun o => ((below_alloc w3 o).frozen (p := ⟨w.heap.size + 1 + 1 + 1, 2, none⟩) hs3).trans hr3.out.2.2.1
            have z0 := (hgrow.cell_far ⟨w.heap.size + 1 + 1 + 1, 2, none⟩ (hsz4 _) (Ne.symm ag)).trans (hcl4 _)
            have z1 := (hgrow.frozen_far ⟨w.heap.size + 1 + 1 + 1, 2, none⟩ (hsz4 _) (Ne.symm ag)).trans (hfz4 _)
            have hsee : Sees (w.heap.size + 2) wr w4 := fun p u hp hu => (hgrow.cell_far p (cell_lt' (hHeld p u hp hu)) (fun e => by have := (HRL.out _ e.symm).1; omega)).trans (hHeld p u hp hu)
            have HG4 := Lib.hid hgrow
            have HO4 := Lib.hid hown4
            have HA4 := Lib.hid hat
            clear hgrow hown4 hat hsz4 hcl4 hfz4
            refine hK.out _ _ hsee (fun hHeld => ?_)
            clear hK K
            (try simp only [Act.put, List.setIfInBounds_toArray, List.set_cons_zero, List.set_cons_succ, List.getElem_toArray, List.getElem_cons_zero, List.getElem_cons_succ])
            (refine wpAnyH_take (i := 15) (v := ?_) rfl (by decide +kernel) (by decide +kernel) (by decide +kernel) (fun _ _ _ h => h) (Or.inl ⟨?_, ?_⟩) hHeld ?_; rotate_left 1; (focus rfl); (focus (intro w9 hSw; go_simp; (try with_reducible rfl); done)); (try simp only [Act.put, List.setIfInBounds_toArray, List.set_cons_zero, List.set_cons_succ, List.getElem_toArray, List.getElem_cons_zero, List.getElem_cons_succ]))
            refine wpAnyH_ready (rs := [16]) (by decide +kernel) (by simp) ?_
            refine AllReadyH.cons rfl (fun K hK => ?_) AllReadyH.nil
            rw [if_pos (by rfl)]
            go_simp
            refine hK.out _ _ (fun p u hp hu => by rw [cell_far_set (by omega)]; exact hHeld p u hp hu) (fun hHeld => ?_)
            clear hK K
            (try simp only [Act.put, List.setIfInBounds_toArray, List.set_cons_zero, List.set_cons_succ, List.getElem_toArray, List.getElem_cons_zero, List.getElem_cons_succ])
            refine wpAnyH_done (by decide +kernel) ?_ _
            go_wp2_with fail
            go_roundw
            case rel =>
              obtain ⟨e1, e2, e3⟩ := srow_round hlt HZ.out HBX2.out HLL.out HLX.out HRL.out ⟨hr3.out.1, hr3.out.2.2.2⟩ HO4.out HG4.out HA4.out HBW.out
              exact ⟨k + 1, by omega, by go_num, _, e1, e2, e3⟩
            case measure => simp [intOf]; omega
      · obtain rfl : k = t.kids.length := by omega
        obtain ⟨a9, n9, c9, rfl⟩ := HROW.out.shape
        go_wp2_with fail
        have hrow := HROW.out
        rw [List.take_length] at hrow
        obtain ⟨-, -, ⟨⟨r0, r1, r2, r3⟩, f0, f1, f2, f3⟩, ⟨o0, o1, o2, o3⟩, og⟩ := HBX2.out
        refine bodyPost_ret (v := .agg #[.int .i64 t.kind, .string ⟨t.text.toArray⟩, .slice a9 n9 c9, .int .i64 t.pos]) (by simp [results, Try.results15, go_sem, r0, r1, r2, r3, hs1]) rfl (copied_of_row HF.out (by simp) ⟨?_, _, rfl, ?_⟩)
        · exact (((HBW.out.setCell (p := ⟨w.heap.size + 1 + 1, 0, none⟩) (by show w.heap.size ≤ w.heap.size + 1 + 1; omega) _).setCell (p := ⟨w.heap.size + 1 + 1, 1, none⟩) (by show w.heap.size ≤ w.heap.size + 1 + 1; omega) _).setCell (p := ⟨w.heap.size + 1 + 1, 2, none⟩) (by show w.heap.size ≤ w.heap.size + 1 + 1; omega) _).setCell (p := ⟨w.heap.size + 1 + 1, 3, none⟩) (by show w.heap.size ≤ w.heap.size + 1 + 1; omega) _
        · have hZ2 : ∀ b, Zo b → b < w.heap.size + 2 := fun b hb => by have := HZ.out b hb; omega
          exact Row.down ((((hrow.put0 hZ2 (by omega) 0 _).put0 hZ2 (by simp [World.setCell]; omega) 1 _).put0 hZ2 (by simp [World.setCell]; omega) 2 _).put0 hZ2 (by simp [World.setCell]; omega) 3 _)
end Go.Proofs.Ytnmebgiiajnnjaa
