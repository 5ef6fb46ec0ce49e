/-
  names: the law's typ, walked (turned from the seat tag's of).
-/
import Derived.Deep.RegionHeld3
import Derived.Deep.AppendLies
import Derived.Test.YtfcpblclfgkdjaaDoorNmI
namespace Go.Proofs.YtfcpblclfgkdjaaDoor
set_option linter.unusedSimpArgs false
set_option linter.unusedVariables false
open Go.RowKit

def Sees (n₀ : Nat) (w0 W : World) : Prop := ∀ p v, p.block < n₀ → w0.cell? p = some v → W.cell? p = some v
theorem cell_al {w : World} {p : Addr} {v : Value} (o : Obj) (h : w.cell? p = some v) : (w.alloc o).cell? p = some v := ((below_alloc w o).cell (cell_lt1 h)).trans h
theorem Sees.alloc {n₀ w0 A} (h : Sees n₀ w0 A) (o : Obj) : Sees n₀ w0 (A.alloc o) := fun p v hp hv => cell_al o (h p v hp hv)
theorem Sees.trans3 {n : Nat} {wr w3 : World} (hs : n ≤ wr.heap.size) (hb : Below wr.heap.size wr w3) : Sees n wr w3 := fun p u hp hu => (hb.cell (by omega)).trans hu
theorem ownsRow_of {w w' : World} {base : Nat} {e : TypeId} {size : Nat} {v : Value} {n : Nat} {xs : List Value} (h : w.ownsRow base e size v n xs) (hk : ∀ g, v.ownBlock = some g → w'.heap[g]? = w.heap[g]?) : w'.ownsRow base e size v n xs := by
  obtain ⟨h1, h2⟩ := h
  refine ⟨h1, ?_⟩
  rcases h2 with h2 | ⟨g, cap, cur, rfl, hb, hh, hr⟩
  · exact .inl h2
  · exact .inr ⟨g, cap, cur, rfl, hb, (hk g rfl).trans hh, hr⟩

/-- The three blocks of of: what comes in, the result, what is made. -/
def OBoxes (t : Ty) (a : Option Addr) (c B : Nat) (v : Value) (W : World) : Prop :=
  (W.cell? ⟨B, 0, none⟩ = some (.int .i64 t.kind) ∧ W.cell? ⟨B, 1, none⟩ = some (.string ⟨t.name.toArray⟩) ∧ W.cell? ⟨B, 2, none⟩ = some (.slice a t.args.length c)) ∧
  Slots (B + 1) W ∧ (W.cell? ⟨B + 1 + 1, 0, none⟩ = some (.int .i64 t.kind) ∧ W.cell? ⟨B + 1 + 1, 1, none⟩ = some (.string ⟨t.name.toArray⟩) ∧ W.cell? ⟨B + 1 + 1, 2, none⟩ = some v) ∧ W.frozen? ⟨B + 1 + 1, 2, none⟩ = false
theorem OBoxes.lt {t : Ty} {a : Option Addr} {c B : Nat} {v : Value} {W : World} (h : OBoxes t a c B v W) : B + 1 + 1 < W.heap.size := cell_lt1 h.2.2.1.1
theorem OBoxes.grown {t : Ty} {a : Option Addr} {c B : Nat} {v : Value} {W W' : World} {row : Option Nat} (h : OBoxes t a c B v W) (hg : W.grownBy W' row) (hr : ∀ j, row = some j → B + 2 < j) : OBoxes t a c B v W' := by
  have hl := h.lt
  obtain ⟨⟨q0, q1, q2⟩, hs, ⟨o0, o1, o2⟩, g⟩ := h
  have hne : ∀ b, b ≤ B + 2 → some b ≠ row := fun b hb e => by have := hr b e.symm; omega
  exact ⟨⟨World.grownBy.cell hg q0 (hne B (by omega)), World.grownBy.cell hg q1 (hne B (by omega)), World.grownBy.cell hg q2 (hne B (by omega))⟩, hs.grown hg (hne _ (by omega)),
    ⟨World.grownBy.cell hg o0 (hne _ (by show B + 1 + 1 ≤ _; omega)), World.grownBy.cell hg o1 (hne _ (by show B + 1 + 1 ≤ _; omega)), World.grownBy.cell hg o2 (hne _ (by show B + 1 + 1 ≤ _; omega))⟩, (World.grownBy.frozen_far hg ⟨B + 1 + 1, 2, none⟩ hl (hne _ (by show B + 1 + 1 ≤ _; omega))).trans g⟩
theorem OBoxes.on {t : Ty} {a : Option Addr} {c B : Nat} {v : Value} {W W' : World} (h : OBoxes t a c B v W) (hb : Below W.heap.size W W') : OBoxes t a c B v W' :=
  h.grown (row := none) ⟨hb.os, hb.tape, hb.output, hb.size, fun k hk _ => hb.block k hk⟩ (by simp)
theorem OBoxes.put {t : Ty} {a : Option Addr} {c B : Nat} {v : Value} {W : World} (h : OBoxes t a c B v W) (u : Value) : OBoxes t a c B u (W.setCell ⟨B + 1 + 1, 2, none⟩ u) := by
  have hl := h.lt
  obtain ⟨⟨q0, q1, q2⟩, ⟨⟨x, y, z, r0, r1, r2⟩, f0, f1, f2⟩, ⟨o0, o1, o2⟩, g⟩ := h
  refine ⟨⟨?_, ?_, ?_⟩, ⟨⟨x, y, z, ?_, ?_, ?_⟩, ?_, ?_, ?_⟩, ⟨?_, ?_, ?_⟩, ?_⟩ <;> simp [go_sem, q0, q1, q2, r0, r1, r2, f0, f1, f2, o0, o1, o2, g, hl]

theorem of_round {t : Ty} {a : Option Addr} {c k : Nat} {v : Value} {L : List (Ty × Option Addr × Nat)} {w wr w3 w4 : World} {a3 : Option Addr} {c3 gg cap : Nat} {o : Obj} (hlt : k < t.args.length)
    (hbx : OBoxes t a c w.heap.size v wr) (hL : L.map (·.1) = t.args.take k)
    (hLX : ∀ x, x ∈ L → Fity x.1 x.2.2 ∧ Tids wr (fun b => w.heap.size + 3 ≤ b ∧ some b ≠ v.ownBlock) x.2.1 x.1.args)
    (hrl : ∀ g, v.ownBlock = some g → w.heap.size + 3 ≤ g ∧ g < wr.heap.size)
    (hr3 : Below wr.heap.size wr w3 ∧ Fity t.args[k] c3 ∧ Tids w3 (fun b => wr.heap.size ≤ b) a3 t.args[k].args)
    (hown4 : w4.ownsRow (w.heap.size + 3) 34 3 (.slice (some ⟨gg, 0, none⟩) (k + 1) cap) (k + 1) (L.flatMap cell3 ++ cell3 (t.args[k], a3, c3)))
    (hgrow : (w3.alloc o).grownBy w4 v.ownBlock) (hat : v.ownBlock = some gg ∨ gg = w3.heap.size + 1) (hbw : Below w.heap.size w wr) :
    OBoxes t a c w.heap.size (.slice (some ⟨gg, 0, none⟩) (k + 1) cap) (w4.setCell ⟨w.heap.size + 1 + 1, 2, none⟩ (.slice (some ⟨gg, 0, none⟩) (k + 1) cap)) ∧
    Row (w.heap.size + 3) (t.args.take (k + 1)) (.slice (some ⟨gg, 0, none⟩) (k + 1) cap) (w4.setCell ⟨w.heap.size + 1 + 1, 2, none⟩ (.slice (some ⟨gg, 0, none⟩) (k + 1) cap)) ∧
    Below w.heap.size w (w4.setCell ⟨w.heap.size + 1 + 1, 2, none⟩ (.slice (some ⟨gg, 0, none⟩) (k + 1) cap)) := by
  obtain ⟨hb3, hfit, hz⟩ := hr3
  have hs0 := hbw.size
  have hs3 := hb3.size
  have hlt2 := hbx.lt
  have hba : Below wr.heap.size wr (w3.alloc o) := hb3.alloc hb3.size o
  have hsa : (w3.alloc o).heap.size = w3.heap.size + 1 := by simp
  have hLlen : L.length = k := by
    have := congrArg List.length hL
    simp at this; omega
  have hb4 : Below (w.heap.size + 3) (w3.alloc o) w4 := (Below.refl _ _).grown hgrow (by omega) (fun j e => (hrl j e).1)
  refine ⟨OBoxes.put (((hbx.on hb3).on (below_alloc w3 o)).grown hgrow (fun j e => by have := (hrl j e).1; omega)) _, ?_, ?_⟩
  · have hsn := Row.snoc (base := w.heap.size + 3) (L := L) (l := t.args.take k) (v := v) (v' := .slice (some ⟨gg, 0, none⟩) (k + 1) cap) (W := w3.alloc o) (W' := w4) (y := t.args[k]) (a' := a3) (c' := c3) (by omega) hL (fun x hx => ⟨(hLX x hx).1, (hLX x hx).2.on hba⟩) hfit
      ((hz.move (fun b hb => ⟨by omega, fun e => by have := (hrl b e.symm).2; omega⟩) (fun p u _ hu => hu)).on (below_alloc _ _)) (by simpa [Nat.min_eq_left (Nat.le_of_lt hlt)] using hown4) hgrow (fun g hg => by
        obtain rfl : gg = g := by simpa [Value.ownBlock] using hg
        rcases hat with h | h
        · exact .inl h
        · exact .inr (by omega))
    rw [List.take_succ_eq_append_getElem hlt]
    have hgg : w.heap.size + 3 ≤ gg := by
      rcases hat with h | h
      · exact (hrl _ h).1
      · omega
    exact hsn.set (p := ⟨w.heap.size + 1 + 1, 2, none⟩) (by simp [Value.ownBlock]; omega) (fun _ _ _ => trivial) (by show w.heap.size + 1 + 1 < _; omega) _
  · refine Below.setCell ?_ (p := ⟨w.heap.size + 1 + 1, 2, none⟩) (by show w.heap.size ≤ w.heap.size + 1 + 1; omega) _
    exact ((bext hbw hb3).alloc (by omega) o).trans (hb4.mono (by omega))

/-- What of hands back. -/
def TypOk (t : Ty) : Prop := ∀ (a : Option Addr) (c : Nat) (w : World), Tids w Any a t.args → Fity t c →
    Calls Tryd.prog 10 #[.agg #[.int .i64 t.kind, .string ⟨t.name.toArray⟩, .slice a t.args.length c]] w fun e w' => Below w.heap.size w w' ∧ ∃ a' c', e = .returned (.agg #[.int .i64 t.kind, .string ⟨t.name.toArray⟩, .slice a' t.args.length c']) ∧ Fity t c' ∧ Tids w' (fun b => w.heap.size ≤ b) a' t.args
set_option maxRecDepth 100000 in
set_option maxHeartbeats 8000000 in
theorem typ_any : ∀ (t : Ty), TypOk t := by
  refine Ty.ind (fun t ih => ?_)
  intro a c w hk hf
  have hl63 : t.args.length ≤ 9223372036854775807 := by have := hf.2.2.1; have := hf.2.2.2.1; omega
  have hcap : t.args.length ≤ c := hf.2.2.1
  have hc57 := hf.2.2.2.2
  have HI := Lib.hid ih
  have HK := Lib.hid hk
  have HF := Lib.hid hf
  clear ih hk hf
  obtain ⟨i0, hi0, hz0, hz1, hz2⟩ := info_parts info29
  go_enter Tryd.func10, Tryd.ntmps10
  go_wp2_with fail
  have hb2 : Below w.heap.size w (((w.alloc (.cells #[.int .i64 t.kind, .string ⟨t.name.toArray⟩, .slice a t.args.length c] 28)).alloc (.cells #[.int .i64 0, .string ⟨#[]⟩, .slice none 0 0] 34)).alloc (.cells #[.int .i64 t.kind, .string ⟨t.name.toArray⟩, .slice none 0 0] 34)) :=
    (((Below.refl _ _).alloc (Nat.le_refl _) _).alloc (by simp) _).alloc (by simp; omega) _
  have hx2 : OBoxes t a c w.heap.size (.slice none 0 0) (((w.alloc (.cells #[.int .i64 t.kind, .string ⟨t.name.toArray⟩, .slice a t.args.length c] 28)).alloc (.cells #[.int .i64 0, .string ⟨#[]⟩, .slice none 0 0] 34)).alloc (.cells #[.int .i64 t.kind, .string ⟨t.name.toArray⟩, .slice none 0 0] 34)) := by
    refine ⟨⟨?_, ?_, ?_⟩, ⟨⟨.int .i64 0, .string ⟨#[]⟩, .slice none 0 0, ?_, ?_, ?_⟩, ?_, ?_, ?_⟩, ⟨?_, ?_, ?_⟩, ?_⟩ <;> simp [go_sem]
  have HB2 := Lib.hid hb2
  have HX2 := Lib.hid hx2
  clear hb2 hx2
  go_loopw [4] (fun i wr => ∃ k : Nat, k ≤ t.args.length ∧ i = .int .i64 k ∧ ∃ v, OBoxes t a c w.heap.size v wr ∧ Row (w.heap.size + 3) (t.args.take k) v wr ∧ Below w.heap.size w wr) (fun i _ => t.args.length - (intOf i).toNat)
  case atStart => exact ⟨0, by omega, rfl, _, HX2.out, Row.nil _ _, HB2.out⟩
  case round =>
    clear HB2 HX2
    obtain ⟨k, hk1, rfl, v, hbx, hrow, hb⟩ := hrel
    have HBX2 := Lib.hid hbx
    have HROW := Lib.hid hrow
    have HBW := Lib.hid hb
    have hs1 : w.heap.size + 1 + 1 < wr.heap.size := hbx.lt
    obtain ⟨⟨q0, q1, q2⟩, hsl, ⟨o0, o1, o2⟩, og⟩ := hbx
    have HSL := Lib.hid hsl
    clear hrow hb hsl
    by_cases hlt : k < t.args.length
    · obtain ⟨b, off, a'', c'', ha, -, ⟨h0', h1', h2'⟩, hf', hn'⟩ := HK.out.get hlt
      have hbB0 : b < w.heap.size := cell_lt1 h0'
      have hbB : b < wr.heap.size := by omega
      have hbS : b < w.heap.size + 2 := by omega
      replace h0' := (HBW.out.cell (p := ⟨b, off + k * 3, none⟩) hbB0).trans h0'
      replace h1' := (HBW.out.cell (p := ⟨b, off + k * 3 + 1, none⟩) hbB0).trans h1'
      replace h2' := (HBW.out.cell (p := ⟨b, off + k * 3 + 2, none⟩) hbB0).trans h2'
      subst ha
      have hlb : b < wr.heap.size := hbB
      have hbd : Below wr.heap.size wr wr.drew := (Below.refl _ _).drew
      have hmem : t.args[k] ∈ t.args := List.getElem_mem hlt
      have hcl := (HI.out _ hmem a'' c'' wr.drew ((hn'.on HBW.out).on hbd) hf').mono (R' := fun e w3 => ∃ a3 c3, e = .returned (.agg #[.int .i64 t.args[k].kind, .string ⟨t.args[k].name.toArray⟩, .slice a3 t.args[k].args.length c3]) ∧
          w.heap.size + 1 + 1 < w3.heap.size ∧
          Hid (Below wr.heap.size wr w3 ∧ w3.cell? ⟨w.heap.size + 1 + 1, 2, none⟩ = some v ∧ w3.frozen? ⟨w.heap.size + 1 + 1, 2, none⟩ = false ∧ Fity t.args[k] c3 ∧ Tids w3 (fun b => wr.heap.size ≤ b) a3 t.args[k].args))
        (fun e w3 h => by
          obtain ⟨hb3', a3, c3, he, hfit, hz⟩ := h
          have hb3 := bext hbd hb3'
          obtain ⟨hc3, hz3⟩ := bcell hb3
          have hsz3 := hb3.size
          exact ⟨a3, c3, he, by omega, Lib.hid ⟨hb3, (hc3 _ _ hs1).trans o2, (hz3 _ _ hs1).trans og, hfit, hz⟩⟩)
      have HS0 := Lib.hid (show w.heap.size + 2 ≤ wr.heap.size by omega)
      have HCL := Lib.hid hcl
      have hrl := HROW.out.lt
      obtain ⟨L, hL, hown, hLx⟩ := HROW.out
      have hk0 : (t.args.take k).length = k := by simp; omega
      rw [hk0] at hown
      have hownA : ∀ W, Below wr.heap.size wr W → W.ownsRow (w.heap.size + 3) 34 3 v k (L.flatMap cell3) := fun W hW => ownsRow_of hown (fun g hg => hW.block g (hrl g hg).2)
      have HOA := Lib.hid hownA
      have HLX := Lib.hid hLx
      have HLL := Lib.hid hL
      have HRL := Lib.hid hrl
      have ag : v.ownBlock ≠ some (w.heap.size + 1 + 1) := fun e => by have := (hrl _ e).1; omega
      clear hown hLx hL hrl hownA hk0 hf' hn' hbd hmem hcl
      have hn1 : k + 1 ≤ maxLen := by simp only [maxLen]; omega
      have hb1 : (k + 1) * 48 ≤ 140737488355328 := by omega
      -- by hand: the region in whatever order
      go_wp2_with fail
      refine wp_region_held_drew (S := Sees (w.heap.size + 2) wr) (by kernel_rfl) (fun p u _ hu => hu) (fun hHeld => ?_)
      (refine wpAnyH_take (i := 0) (v := ?_) rfl (by decide +kernel) (by decide +kernel) (by decide +kernel) (fun _ _ _ h => h) (Or.inl ⟨?_, ?_⟩) hHeld ?_; rotate_left 1; (focus rfl); (focus (intro w9 hSw; go_simp; (try with_reducible rfl); done)); (try simp only [Act.put, List.setIfInBounds_toArray, List.set_cons_zero, List.set_cons_succ, List.getElem_toArray, List.getElem_cons_zero, List.getElem_cons_succ]))
      (refine wpAnyH_take (i := 2) (v := ?_) rfl (by decide +kernel) (by decide +kernel) (by decide +kernel) (fun _ _ _ h => h) (Or.inl ⟨?_, ?_⟩) hHeld ?_; rotate_left 1; (focus rfl); (focus (intro w9 hSw; go_simp; (try with_reducible rfl); done)); (try simp only [Act.put, List.setIfInBounds_toArray, List.set_cons_zero, List.set_cons_succ, List.getElem_toArray, List.getElem_cons_zero, List.getElem_cons_succ]))
      (refine wpAnyH_take (i := 3) (v := ?_) rfl (by decide +kernel) (by decide +kernel) (by decide +kernel) (fun _ _ _ h => h) (Or.inl ⟨?_, ?_⟩) hHeld ?_; rotate_left 1; (focus rfl); (focus (intro w9 hSw; have l9 := hSw ⟨w.heap.size, 2, none⟩ _ (by show w.heap.size < _; omega) q2; go_simp; (try with_reducible rfl); done)); (try simp only [Act.put, List.setIfInBounds_toArray, List.set_cons_zero, List.set_cons_succ, List.getElem_toArray, List.getElem_cons_zero, List.getElem_cons_succ]))
      (refine wpAnyH_take (i := 4) (v := ?_) rfl (by decide +kernel) (by decide +kernel) (by decide +kernel) (fun _ _ _ h => h) (Or.inl ⟨?_, ?_⟩) hHeld ?_; rotate_left 1; (focus rfl); (focus (intro w9 hSw; go_simp; (try with_reducible rfl); done)); (try simp only [Act.put, List.setIfInBounds_toArray, List.set_cons_zero, List.set_cons_succ, List.getElem_toArray, List.getElem_cons_zero, List.getElem_cons_succ]))
      (refine wpAnyH_take (i := 5) (v := ?_) rfl (by decide +kernel) (by decide +kernel) (by decide +kernel) (fun _ _ _ h => h) (Or.inl ⟨?_, ?_⟩) hHeld ?_; rotate_left 1; (focus rfl); (focus (intro w9 hSw; go_simp; (try with_reducible rfl); done)); (try simp only [Act.put, List.setIfInBounds_toArray, List.set_cons_zero, List.set_cons_succ, List.getElem_toArray, List.getElem_cons_zero, List.getElem_cons_succ]))
      (refine wpAnyH_take (i := 6) (v := ?_) rfl (by decide +kernel) (by decide +kernel) (by decide +kernel) (fun _ _ _ h => h) (Or.inl ⟨?_, ?_⟩) hHeld ?_; rotate_left 1; (focus rfl); (focus (intro w9 hSw; have l0 := hSw ⟨b, off + k * 3, none⟩ _ hbS h0'; have l1 := hSw ⟨b, off + k * 3 + 1, none⟩ _ hbS h1'; have l2 := hSw ⟨b, off + k * 3 + 2, none⟩ _ hbS h2'; go_simp; (try with_reducible rfl); done)); (try simp only [Act.put, List.setIfInBounds_toArray, List.set_cons_zero, List.set_cons_succ, List.getElem_toArray, List.getElem_cons_zero, List.getElem_cons_succ]))
      refine wpAnyH_ready (rs := [1, 7]) (by decide +kernel) (by simp) ?_
      refine AllReadyH.cons rfl (fun K hK => ?_) (AllReadyH.cons rfl (fun K hK => ?_) AllReadyH.nil)
      · rw [if_pos (by rfl)]
        have l9 := o2
        go_simp
        clear l9
        refine hK.out _ _ hHeld (fun hHeld => ?_)
        clear hK K
        (try simp only [Act.put, List.setIfInBounds_toArray, List.set_cons_zero, List.set_cons_succ, List.getElem_toArray, List.getElem_cons_zero, List.getElem_cons_succ])
        refine wpAnyH_ready (rs := [7]) (by decide +kernel) (by simp) ?_
        refine AllReadyH.cons rfl (fun K hK => ?_) AllReadyH.nil
        rw [if_pos (by rfl)]
        go_simp
        refine HCL.out.mono ?_
        rintro e w3 ⟨a3, c3, rfl, hs3, hr3⟩
        refine hK.out _ _ (Sees.trans3 HS0.out hr3.out.1) (fun hHeld => ?_)
        clear hK K
        (try simp only [Act.put, List.setIfInBounds_toArray, List.set_cons_zero, List.set_cons_succ, List.getElem_toArray, List.getElem_cons_zero, List.getElem_cons_succ])
        refine wpAnyH_ready (rs := [8]) (by decide +kernel) (by simp) ?_
        refine AllReadyH.cons rfl (fun K hK => ?_) AllReadyH.nil
        rw [if_pos (by rfl)]
        go_simp
        refine hK.out _ _ (hHeld.alloc _) (fun hHeld => ?_)
        clear hK K
        (try simp only [Act.put, List.setIfInBounds_toArray, List.set_cons_zero, List.set_cons_succ, List.getElem_toArray, List.getElem_cons_zero, List.getElem_cons_succ])
        refine wpAnyH_ready (rs := [9]) (by decide +kernel) (by simp) ?_
        refine AllReadyH.cons rfl (fun K hK => ?_) AllReadyH.nil
        refine step_append_lies _ (by rfl) _ _ _ (by rfl) (w.heap.size + 3) 34 i0 _ 3 48 und27 hi0 hz0 hz1 hz2 rfl (by omega) v k (L.flatMap cell3) (by rfl) (HOA.out _ (hr3.out.1.alloc hr3.out.1.size _)) ⟨w3.heap.size, 0, none⟩ 1 1 (cell3 (t.args[k], a3, c3)) (by rfl) (by rfl) (World.news_of_block (cs := #[.int .i64 t.args[k].kind, .string ⟨t.args[k].name.toArray⟩, .slice a3 t.args[k].args.length c3]) (t := 34) (fr := (0, 0)) (heap_alloc_new w3 _)) (by simp [cell3, Value.oneCell']) (by omega) hn1 hb1 (by simp; omega) (w3.heap.size + 1) (by simp) ?_
        intro gg cap w4 hown4 hgrow hat hlt4
        have hsz4 : ∀ o : Obj, w.heap.size + 1 + 1 < (w3.alloc o).heap.size := fun o => by simp; omega
        have hcl4 : ∀ o : Obj, (w3.alloc o).cell? ⟨w.heap.size + 1 + 1, 2, none⟩ = some v := fun o => cell_al o hr3.out.2.1
        have hfz4 : ∀ o : Obj, (w3.alloc o).frozen? ⟨w.heap.size + 1 + 1, 2, none⟩ = false := fun o => ((below_alloc w3 o).frozen (p := ⟨w.heap.size + 1 + 1, 2, none⟩) hs3).trans hr3.out.2.2.1
        have z0 := (hgrow.cell_far ⟨w.heap.size + 1 + 1, 2, none⟩ (hsz4 _) (Ne.symm ag)).trans (hcl4 _)
        have z1 := (hgrow.frozen_far ⟨w.heap.size + 1 + 1, 2, none⟩ (hsz4 _) (Ne.symm ag)).trans (hfz4 _)
        have hsee : Sees (w.heap.size + 2) wr w4 := fun p u hp hu => (hgrow.cell_far p (cell_lt1 (hHeld p u hp hu)) (fun e => by have := (HRL.out _ e.symm).1; omega)).trans (hHeld p u hp hu)
        have HG4 := Lib.hid hgrow
        have HO4 := Lib.hid hown4
        have HA4 := Lib.hid hat
        clear hgrow hown4 hat hsz4 hcl4 hfz4
        refine hK.out _ _ hsee (fun hHeld => ?_)
        clear hK K
        (try simp only [Act.put, List.setIfInBounds_toArray, List.set_cons_zero, List.set_cons_succ, List.getElem_toArray, List.getElem_cons_zero, List.getElem_cons_succ])
        (refine wpAnyH_take (i := 10) (v := ?_) rfl (by decide +kernel) (by decide +kernel) (by decide +kernel) (fun _ _ _ h => h) (Or.inl ⟨?_, ?_⟩) hHeld ?_; rotate_left 1; (focus rfl); (focus (intro w9 hSw; go_simp; (try with_reducible rfl); done)); (try simp only [Act.put, List.setIfInBounds_toArray, List.set_cons_zero, List.set_cons_succ, List.getElem_toArray, List.getElem_cons_zero, List.getElem_cons_succ]))
        refine wpAnyH_ready (rs := [11]) (by decide +kernel) (by simp) ?_
        refine AllReadyH.cons rfl (fun K hK => ?_) AllReadyH.nil
        rw [if_pos (by rfl)]
        go_simp
        refine hK.out _ _ (fun p u hp hu => by rw [cell_far_set (by omega)]; exact hHeld p u hp hu) (fun hHeld => ?_)
        clear hK K
        (try simp only [Act.put, List.setIfInBounds_toArray, List.set_cons_zero, List.set_cons_succ, List.getElem_toArray, List.getElem_cons_zero, List.getElem_cons_succ])
        refine wpAnyH_done (by decide +kernel) ?_ _
        go_wp2_with fail
        go_roundw
        case rel =>
          obtain ⟨e1, e2, e3⟩ := of_round hlt HBX2.out HLL.out HLX.out HRL.out ⟨hr3.out.1, hr3.out.2.2.2⟩ HO4.out HG4.out HA4.out HBW.out
          exact ⟨k + 1, by omega, by go_num, _, e1, e2, e3⟩
        case measure => simp [intOf]; omega
      · rw [if_pos (by rfl)]
        go_simp
        refine HCL.out.mono ?_
        rintro e w3 ⟨a3, c3, rfl, hs3, hr3⟩
        refine hK.out _ _ (Sees.trans3 HS0.out hr3.out.1) (fun hHeld => ?_)
        clear hK K
        (try simp only [Act.put, List.setIfInBounds_toArray, List.set_cons_zero, List.set_cons_succ, List.getElem_toArray, List.getElem_cons_zero, List.getElem_cons_succ])
        refine wpAnyH_ready (rs := [1, 8]) (by decide +kernel) (by simp) ?_
        refine AllReadyH.cons rfl (fun K hK => ?_) (AllReadyH.cons rfl (fun K hK => ?_) AllReadyH.nil)
        · rw [if_pos (by rfl)]
          have l9 := hr3.out.2.1
          go_simp
          clear l9
          refine hK.out _ _ hHeld (fun hHeld => ?_)
          clear hK K
          (try simp only [Act.put, List.setIfInBounds_toArray, List.set_cons_zero, List.set_cons_succ, List.getElem_toArray, List.getElem_cons_zero, List.getElem_cons_succ])
          refine wpAnyH_ready (rs := [8]) (by decide +kernel) (by simp) ?_
          refine AllReadyH.cons rfl (fun K hK => ?_) AllReadyH.nil
          rw [if_pos (by rfl)]
          go_simp
          refine hK.out _ _ (hHeld.alloc _) (fun hHeld => ?_)
          clear hK K
          (try simp only [Act.put, List.setIfInBounds_toArray, List.set_cons_zero, List.set_cons_succ, List.getElem_toArray, List.getElem_cons_zero, List.getElem_cons_succ])
          refine wpAnyH_ready (rs := [9]) (by decide +kernel) (by simp) ?_
          refine AllReadyH.cons rfl (fun K hK => ?_) AllReadyH.nil
          refine step_append_lies _ (by rfl) _ _ _ (by rfl) (w.heap.size + 3) 34 i0 _ 3 48 und27 hi0 hz0 hz1 hz2 rfl (by omega) v k (L.flatMap cell3) (by rfl) (HOA.out _ (hr3.out.1.alloc hr3.out.1.size _)) ⟨w3.heap.size, 0, none⟩ 1 1 (cell3 (t.args[k], a3, c3)) (by rfl) (by rfl) (World.news_of_block (cs := #[.int .i64 t.args[k].kind, .string ⟨t.args[k].name.toArray⟩, .slice a3 t.args[k].args.length c3]) (t := 34) (fr := (0, 0)) (heap_alloc_new w3 _)) (by simp [cell3, Value.oneCell']) (by omega) hn1 hb1 (by simp; omega) (w3.heap.size + 1) (by simp) ?_
          intro gg cap w4 hown4 hgrow hat hlt4
          have hsz4 : ∀ o : Obj, w.heap.size + 1 + 1 < (w3.alloc o).heap.size := fun o => by simp; omega
          have hcl4 : ∀ o : Obj, (w3.alloc o).cell? ⟨w.heap.size + 1 + 1, 2, none⟩ = some v := fun o => cell_al o hr3.out.2.1
          have hfz4 : ∀ o : Obj, (w3.alloc o).frozen? ⟨w.heap.size + 1 + 1, 2, none⟩ = false := fun o => ((below_alloc w3 o).frozen (p := ⟨w.heap.size + 1 + 1, 2, none⟩) hs3).trans hr3.out.2.2.1
          have z0 := (hgrow.cell_far ⟨w.heap.size + 1 + 1, 2, none⟩ (hsz4 _) (Ne.symm ag)).trans (hcl4 _)
          have z1 := (hgrow.frozen_far ⟨w.heap.size + 1 + 1, 2, none⟩ (hsz4 _) (Ne.symm ag)).trans (hfz4 _)
          have hsee : Sees (w.heap.size + 2) wr w4 := fun p u hp hu => (hgrow.cell_far p (cell_lt1 (hHeld p u hp hu)) (fun e => by have := (HRL.out _ e.symm).1; omega)).trans (hHeld p u hp hu)
          have HG4 := Lib.hid hgrow
          have HO4 := Lib.hid hown4
          have HA4 := Lib.hid hat
          clear hgrow hown4 hat hsz4 hcl4 hfz4
          refine hK.out _ _ hsee (fun hHeld => ?_)
          clear hK K
          (try simp only [Act.put, List.setIfInBounds_toArray, List.set_cons_zero, List.set_cons_succ, List.getElem_toArray, List.getElem_cons_zero, List.getElem_cons_succ])
          (refine wpAnyH_take (i := 10) (v := ?_) rfl (by decide +kernel) (by decide +kernel) (by decide +kernel) (fun _ _ _ h => h) (Or.inl ⟨?_, ?_⟩) hHeld ?_; rotate_left 1; (focus rfl); (focus (intro w9 hSw; go_simp; (try with_reducible rfl); done)); (try simp only [Act.put, List.setIfInBounds_toArray, List.set_cons_zero, List.set_cons_succ, List.getElem_toArray, List.getElem_cons_zero, List.getElem_cons_succ]))
          refine wpAnyH_ready (rs := [11]) (by decide +kernel) (by simp) ?_
          refine AllReadyH.cons rfl (fun K hK => ?_) AllReadyH.nil
          rw [if_pos (by rfl)]
          go_simp
          refine hK.out _ _ (fun p u hp hu => by rw [cell_far_set (by omega)]; exact hHeld p u hp hu) (fun hHeld => ?_)
          clear hK K
          (try simp only [Act.put, List.setIfInBounds_toArray, List.set_cons_zero, List.set_cons_succ, List.getElem_toArray, List.getElem_cons_zero, List.getElem_cons_succ])
          refine wpAnyH_done (by decide +kernel) ?_ _
          go_wp2_with fail
          go_roundw
          case rel =>
            obtain ⟨e1, e2, e3⟩ := of_round hlt HBX2.out HLL.out HLX.out HRL.out ⟨hr3.out.1, hr3.out.2.2.2⟩ HO4.out HG4.out HA4.out HBW.out
            exact ⟨k + 1, by omega, by go_num, _, e1, e2, e3⟩
          case measure => simp [intOf]; omega
        · rw [if_pos (by rfl)]
          go_simp
          refine hK.out _ _ (hHeld.alloc _) (fun hHeld => ?_)
          clear hK K
          (try simp only [Act.put, List.setIfInBounds_toArray, List.set_cons_zero, List.set_cons_succ, List.getElem_toArray, List.getElem_cons_zero, List.getElem_cons_succ])
          refine wpAnyH_ready (rs := [1]) (by decide +kernel) (by simp) ?_
          refine AllReadyH.cons rfl (fun K hK => ?_) AllReadyH.nil
          rw [if_pos (by rfl)]
          have l9 := (show ∀ o : Obj, (w3.alloc o).cell? ⟨w.heap.size + 1 + 1, 2, none⟩ = some v from fun o => cell_al o hr3.out.2.1)
          go_simp
          clear l9
          refine hK.out _ _ hHeld (fun hHeld => ?_)
          clear hK K
          (try simp only [Act.put, List.setIfInBounds_toArray, List.set_cons_zero, List.set_cons_succ, List.getElem_toArray, List.getElem_cons_zero, List.getElem_cons_succ])
          refine wpAnyH_ready (rs := [9]) (by decide +kernel) (by simp) ?_
          refine AllReadyH.cons rfl (fun K hK => ?_) AllReadyH.nil
          refine step_append_lies _ (by rfl) _ _ _ (by rfl) (w.heap.size + 3) 34 i0 _ 3 48 und27 hi0 hz0 hz1 hz2 rfl (by omega) v k (L.flatMap cell3) (by rfl) (HOA.out _ (hr3.out.1.alloc hr3.out.1.size _)) ⟨w3.heap.size, 0, none⟩ 1 1 (cell3 (t.args[k], a3, c3)) (by rfl) (by rfl) (World.news_of_block (cs := #[.int .i64 t.args[k].kind, .string ⟨t.args[k].name.toArray⟩, .slice a3 t.args[k].args.length c3]) (t := 34) (fr := (0, 0)) (heap_alloc_new w3 _)) (by simp [cell3, Value.oneCell']) (by omega) hn1 hb1 (by simp; omega) (w3.heap.size + 1) (by simp) ?_
          intro gg cap w4 hown4 hgrow hat hlt4
          have hsz4 : ∀ o : Obj, w.heap.size + 1 + 1 < (w3.alloc o).heap.size := fun o => by simp; omega
          have hcl4 : ∀ o : Obj, (w3.alloc o).cell? ⟨w.heap.size + 1 + 1, 2, none⟩ = some v := fun o => cell_al o hr3.out.2.1
          have hfz4 : ∀ o : Obj, (w3.alloc o).frozen? ⟨w.heap.size + 1 + 1, 2, none⟩ = false := fun o => ((below_alloc w3 o).frozen (p := ⟨w.heap.size + 1 + 1, 2, none⟩) hs3).trans hr3.out.2.2.1
          have z0 := (hgrow.cell_far ⟨w.heap.size + 1 + 1, 2, none⟩ (hsz4 _) (Ne.symm ag)).trans (hcl4 _)
          have z1 := (hgrow.frozen_far ⟨w.heap.size + 1 + 1, 2, none⟩ (hsz4 _) (Ne.symm ag)).trans (hfz4 _)
          have hsee : Sees (w.heap.size + 2) wr w4 := fun p u hp hu => (hgrow.cell_far p (cell_lt1 (hHeld p u hp hu)) (fun e => by have := (HRL.out _ e.symm).1; omega)).trans (hHeld p u hp hu)
          have HG4 := Lib.hid hgrow
          have HO4 := Lib.hid hown4
          have HA4 := Lib.hid hat
          clear hgrow hown4 hat hsz4 hcl4 hfz4
          refine hK.out _ _ hsee (fun hHeld => ?_)
          clear hK K
          (try simp only [Act.put, List.setIfInBounds_toArray, List.set_cons_zero, List.set_cons_succ, List.getElem_toArray, List.getElem_cons_zero, List.getElem_cons_succ])
          (refine wpAnyH_take (i := 10) (v := ?_) rfl (by decide +kernel) (by decide +kernel) (by decide +kernel) (fun _ _ _ h => h) (Or.inl ⟨?_, ?_⟩) hHeld ?_; rotate_left 1; (focus rfl); (focus (intro w9 hSw; go_simp; (try with_reducible rfl); done)); (try simp only [Act.put, List.setIfInBounds_toArray, List.set_cons_zero, List.set_cons_succ, List.getElem_toArray, List.getElem_cons_zero, List.getElem_cons_succ]))
          refine wpAnyH_ready (rs := [11]) (by decide +kernel) (by simp) ?_
          refine AllReadyH.cons rfl (fun K hK => ?_) AllReadyH.nil
          rw [if_pos (by rfl)]
          go_simp
          refine hK.out _ _ (fun p u hp hu => by rw [cell_far_set (by omega)]; exact hHeld p u hp hu) (fun hHeld => ?_)
          clear hK K
          (try simp only [Act.put, List.setIfInBounds_toArray, List.set_cons_zero, List.set_cons_succ, List.getElem_toArray, List.getElem_cons_zero, List.getElem_cons_succ])
          refine wpAnyH_done (by decide +kernel) ?_ _
          go_wp2_with fail
          go_roundw
          case rel =>
            obtain ⟨e1, e2, e3⟩ := of_round hlt HBX2.out HLL.out HLX.out HRL.out ⟨hr3.out.1, hr3.out.2.2.2⟩ HO4.out HG4.out HA4.out HBW.out
            exact ⟨k + 1, by omega, by go_num, _, e1, e2, e3⟩
          case measure => simp [intOf]; omega
    · obtain rfl : k = t.args.length := by omega
      rw [List.take_length] at HROW
      obtain ⟨a', c', rfl⟩ := HROW.out.shape
      obtain ⟨a9, c9, hv, hcap9, hmax9, hx9⟩ := HROW.out.tids hc57
      obtain ⟨rfl, rfl⟩ : a' = a9 ∧ c' = c9 := by simpa using hv
      have HX9 := Lib.hid hx9
      have hTl := HSL.out.lt
      obtain ⟨⟨x9, y9, z9, r0, r1, r2⟩, f0, f1, f2⟩ := HSL.out
      clear hx9 hv
      go_wp2_with fail
      refine bodyPost_ret (v := .agg #[.int .i64 t.kind, .string ⟨t.name.toArray⟩, .slice a' t.args.length c']) (by simp [results, Tryd.results10, go_sem, r0, r1, r2, hTl]) rfl ?_
      refine ⟨((HBW.out.setCell (p := ⟨w.heap.size + 1, 0, none⟩) (by simp) _).setCell (p := ⟨w.heap.size + 1, 1, none⟩) (by simp) _).setCell (p := ⟨w.heap.size + 1, 2, none⟩) (by simp) _, a', c', rfl, ⟨HF.out.1, HF.out.2.1, hcap9, hmax9, hc57⟩, HX9.out.move (fun b hb => by omega) (fun p u hp hu => ?_)⟩
      rw [cell_far_set (by omega), cell_far_set (by omega), cell_far_set (by omega)]
      exact hu
end Go.Proofs.YtfcpblclfgkdjaaDoor
