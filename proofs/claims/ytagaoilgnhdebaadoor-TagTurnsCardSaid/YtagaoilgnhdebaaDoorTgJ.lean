/-
  tag: the reader's factor, walked.
-/
import Derived.Test.YtagaoilgnhdebaaDoorTgI
namespace Go.Proofs.YtagaoilgnhdebaaDoor
set_option linter.unusedSimpArgs false
set_option linter.unusedVariables false
open Go.RowKit

theorem byte_at (l : List UInt8) (k : Nat) (h : k < l.length) : ∀ h', (⟨l.toArray⟩ : ByteArray)[k]'h' = l[k] := fun h' => by simp [ByteArray.getElem_eq_getElem_data]
theorem take_while {l : List UInt8} {p : UInt8 → Bool} {k : Nat} (h1 : (l.take k).all p = true) (h2 : ∀ b, l[k]? = some b → p b = false) : l.takeWhile p = l.take k ∧ l.dropWhile p = l.drop k := by
  induction l generalizing k with
  | nil => simp
  | cons x l ih =>
    cases k with
    | zero =>
      have := h2 x rfl
      simp [this]
    | succ k =>
      simp only [List.take_succ_cons, List.all_cons, Bool.and_eq_true] at h1
      have := ih h1.2 (fun b hb => h2 b (by simpa using hb))
      simp [h1.1, this.1, this.2]
theorem all_take {l : List UInt8} {p : UInt8 → Bool} {k : Nat} (hk : k < l.length) (h : (l.take k).all p = true) (hq : p l[k] = true) : (l.take (k + 1)).all p = true := by
  rw [List.take_succ_eq_append_getElem hk, List.all_append, h]; simp [hq]

theorem factorT_len : ∀ (n : Nat) (s : List UInt8) (x : Xp) (r : List UInt8), factorT n s = some (x, r) → r.length ≤ s.length
  | 0, s, x, r, h => by cases h
  | n + 1, s, x, r, h => by
    have h1 := takesT_le [33] s
    have h2 := takesT_le [40] (takesT [33] s).2
    rw [factorT] at h
    split at h
    · split at h
      · cases h
      · rename_i y r1 h3
        have h4 := factorT_len n _ _ _ h3
        simp only [Option.some.injEq, Prod.mk.injEq] at h
        obtain ⟨-, rfl⟩ := h
        omega
    · split at h
      · split at h
        · cases h
        · rename_i y r1 h3
          have h4 := rowsT_len (rowsT_len (factorT_len n)) _ _ _ h3
          have h5 := takesT_le [41] r1
          split at h
          · simp only [Option.some.injEq, Prod.mk.injEq] at h
            obtain ⟨-, rfl⟩ := h
            omega
          · cases h
      · simp only at h
        split at h
        · cases h
        · simp only [Option.some.injEq, Prod.mk.injEq] at h
          obtain ⟨-, rfl⟩ := h
          have := (List.dropWhile_sublist mayTB (l := (takesT [40] (takesT [33] s).2).2)).length_le
          omega

/-- What factor reads, of fewer than n bytes. -/
def FactorOk (n : Nat) : Prop := ∀ (R : Nat) (s : List UInt8) (w : World), s.length < n → Rd R s w → Calls Tryd.prog 46 #[.pointer (some ⟨R, 0, none⟩)] w (PartPost R (factorT n s) w)

/-- A new block for the result. -/
theorem opened (R : Nat) (s : List UInt8) (w : World) (hr : Rd R s w) (T : TypeId) : ∃ wa, w.alloc (.cells #[.string ⟨#[]⟩, .string ⟨#[]⟩, .slice none 0 0] T) = wa ∧ But R w wa ∧ Rd R s wa ∧ Slots w.heap.size wa ∧ wa.heap.size = w.heap.size + 1 :=
  ⟨_, rfl, World.grownBy_alloc _ _ _, hr.on (below_alloc _ _), Slots.new _ _, by simp⟩

set_option maxHeartbeats 8000000 in
theorem factor_not (n : Nat) (hn : n ≤ 10000) (ih : FactorOk n) (R : Nat) (s : List UInt8) (w : World) (hs : s.length < n + 1) (hr : Rd R s w) (h1 : (takesT [33] s).1 = true) :
    Calls Tryd.prog 46 #[.pointer (some ⟨R, 0, none⟩)] w (PartPost R (match factorT n (takesT [33] s).2 with | none => none | some (x, r) => some (.mk [33] [] [x], r)) w) := by
  have hRl := hr.lt
  have hlt := takesT_lt h1 (by simp)
  obtain ⟨wa, hwa, hba, hra, hsla, hsza⟩ := opened R s w hr 29
  have H1 := takes_any R [33] s wa hra (by omega) (by simp)
  rw [h1] at H1
  obtain ⟨S, hS⟩ : ∃ S, (takesT [33] s).2 = S := ⟨_, rfl⟩
  rw [hS] at H1 hlt ⊢
  have H1' := Lib.hid H1
  have HI := Lib.hid ih
  have HBA := Lib.hid hba
  have HSL := Lib.hid hsla
  clear H1 ih hba hra hsla hS h1 hr
  cases h2 : factorT n S with
  | none =>
    have H2 := Lib.hid h2
    clear h2
    go_enter Tryd.func46, Tryd.ntmps46
    go_wp2_with fail
    refine H1'.out.mono ?_
    rintro e w1 ⟨rfl, hb1, hr1⟩
    have H3 := HI.out R S w1 (by omega) hr1
    rw [H2.out] at H3
    have HB1 := Lib.hid (HBA.out.trans hb1)
    have H3' := Lib.hid H3
    clear hb1 hr1 H3
    go_wp2_with fail
    refine H3'.out.mono ?_
    rintro e w2 ⟨hb2, rfl⟩
    exact ⟨rfl, HB1.out.trans hb2, rfl⟩
  | some xr =>
    obtain ⟨x, r⟩ := xr
    have H2 := Lib.hid h2
    clear h2
    go_enter Tryd.func46, Tryd.ntmps46
    go_wp2_with fail
    refine H1'.out.mono ?_
    rintro e w1 ⟨rfl, hb1, hr1⟩
    have H3 := HI.out R S w1 (by omega) hr1
    rw [H2.out] at H3
    have HB1 := Lib.hid (HBA.out.trans hb1)
    have HS1 := Lib.hid (HSL.out.grown hb1 (fun e => by cases e; omega))
    have H3' := Lib.hid H3
    clear hb1 hr1 H3
    go_wp2_with fail
    refine H3'.out.mono ?_
    rintro e w2 ⟨hb2, a, c, rfl, hfx, hxk, hr2⟩
    obtain ⟨wb, hwb⟩ : ∃ wb, w2.alloc (.cells #[.string ⟨x.op.toArray⟩, .string ⟨x.tag.toArray⟩, .slice a x.kids.length c] 29) = wb := ⟨_, rfl⟩
    have hgb : w2.grownBy wb none := by rw [← hwb]; exact World.grownBy_alloc _ _ _
    have hsl2 := (HS1.out.grown hb2 (fun e => by cases e; omega)).grown hgb (by simp)
    have hb12 := HB1.out.trans hb2
    have hs1 := HB1.out.size
    have hs0 := HS1.out.lt
    have hs2 := hb2.size
    have hrow := (Row.one (base := w.heap.size + 1) (by omega) hfx (hxk.move (fun b hb => by omega) (fun _ _ _ hu => hu))).xids (by simp)
    obtain ⟨a9, c9, hv, hcap, hmax, hxk9⟩ := hrow
    obtain ⟨rfl, rfl⟩ : a9 = some ⟨w2.heap.size, 0, none⟩ ∧ c9 = 1 := by simpa [eq_comm] using hv
    rw [hwb] at hxk9
    have hTl := hsl2.lt
    obtain ⟨⟨x0, y0, z0, q0, q1, q2⟩, f0, f1, f2⟩ := hsl2
    have HB2 := Lib.hid (hb12.alloc (.cells #[.string ⟨x.op.toArray⟩, .string ⟨x.tag.toArray⟩, .slice a x.kids.length c] 29))
    have HR2 := Lib.hid (hr2.on (below_alloc w2 (.cells #[.string ⟨x.op.toArray⟩, .string ⟨x.tag.toArray⟩, .slice a x.kids.length c] 29)))
    rw [hwb] at HB2 HR2
    have HX := Lib.hid hxk9
    clear hb2 hfx hxk hr2 hv hxk9 hb12 hgb
    go_wp2_with fail
    refine bodyPost_ret (v := .agg #[.string ⟨#[33]⟩, .string ⟨#[]⟩, .slice (some ⟨w2.heap.size, 0, none⟩) 1 1]) (by simp [results, Tryd.results46, go_sem, q0, q1, q2, hTl]) rfl ?_
    refine ⟨((HB2.out.setNew (p := ⟨w.heap.size, 0, none⟩) (Nat.le_refl _) _).setNew (p := ⟨w.heap.size, 1, none⟩) (Nat.le_refl _) _).setNew (p := ⟨w.heap.size, 2, none⟩) (Nat.le_refl _) _, _, _, rfl, by simp [Fitx], HX.out.move (fun b hb => by omega) (fun p u hp hu => ?_), ((HR2.out.set3 (by omega) _ _).set3 (by omega) _ _).set3 (by omega) _ _⟩
    rw [cell_far_set (by omega), cell_far_set (by omega), cell_far_set (by omega)]
    exact hu

set_option maxHeartbeats 8000000 in
theorem factor_brackets (n : Nat) (hn : n ≤ 10000) (ih : FactorOk n) (R : Nat) (s : List UInt8) (w : World) (hs : s.length < n + 1) (hr : Rd R s w) (h1 : (takesT [33] s).1 = false) (h2 : (takesT [40] (takesT [33] s).2).1 = true) :
    Calls Tryd.prog 46 #[.pointer (some ⟨R, 0, none⟩)] w (PartPost R (match termsOf (factorT n) (takesT [40] (takesT [33] s).2).2 with
      | none => none
      | some (x, r) => if (takesT [41] r).1 then some (x, (takesT [41] r).2) else none) w) := by
  have hRl := hr.lt
  have hle := takesT_le [33] s
  have hlt := takesT_lt h2 (by simp)
  obtain ⟨wa, hwa, hba, hra, hsla, hsza⟩ := opened R s w hr 29
  have H1 := takes_any R [33] s wa hra (by omega) (by simp)
  have H2 := fun wa (hr : Rd R (takesT [33] s).2 wa) => takes_any R [40] (takesT [33] s).2 wa hr (by omega) (by simp)
  rw [h1] at H1
  rw [h2] at H2
  obtain ⟨S1, hS1⟩ : ∃ S, (takesT [33] s).2 = S := ⟨_, rfl⟩
  rw [hS1] at H1 H2 hlt hle ⊢
  obtain ⟨S2, hS2⟩ : ∃ S, (takesT [40] S1).2 = S := ⟨_, rfl⟩
  rw [hS2] at H2 hlt ⊢
  have H1' := Lib.hid H1
  have H2' := Lib.hid H2
  have HI := Lib.hid ih
  have HBA := Lib.hid hba
  have HSL := Lib.hid hsla
  clear H1 H2 ih hba hra hsla hS1 hS2 h1 h2 hr
  cases h3 : termsOf (factorT n) S2 with
  | none =>
    have H3 := Lib.hid h3
    clear h3
    go_enter Tryd.func46, Tryd.ntmps46
    go_wp2_with fail
    refine H1'.out.mono ?_
    rintro e w1 ⟨rfl, hb1, hr1⟩
    have HB1 := Lib.hid (HBA.out.trans hb1)
    have HR1 := Lib.hid hr1
    clear hb1 hr1
    go_wp2_with fail
    refine (H2'.out _ HR1.out).mono ?_
    rintro e w2 ⟨rfl, hb2, hr2⟩
    have H4 := terms_any R n (by omega) (factorT n) (factorT_len n) S2 (by omega) w2 (fun W s' _ hs' hr' => HI.out R s' W hs' hr') hr2
    rw [H3.out] at H4
    have HB2 := Lib.hid (HB1.out.trans hb2)
    have H4' := Lib.hid H4
    clear hb2 hr2 H4
    go_wp2_with fail
    refine H4'.out.mono ?_
    rintro e w3 ⟨hb3, rfl⟩
    exact ⟨rfl, HB2.out.trans hb3, rfl⟩
  | some xr =>
    obtain ⟨x, r⟩ := xr
    have hrl := rowsT_len (rowsT_len (factorT_len n)) _ _ _ h3
    have H3 := Lib.hid h3
    have H5 := fun wa (hr : Rd R r wa) => takes_any R [41] r wa hr (by omega) (by simp)
    clear h3
    simp only
    cases h5 : (takesT [41] r).1 with
    | false =>
      rw [h5] at H5
      have H5' := Lib.hid H5
      clear H5 h5
      simp only [Bool.false_eq_true, if_false]
      go_enter Tryd.func46, Tryd.ntmps46
      go_wp2_with fail
      refine H1'.out.mono ?_
      rintro e w1 ⟨rfl, hb1, hr1⟩
      have HB1 := Lib.hid (HBA.out.trans hb1)
      have HR1 := Lib.hid hr1
      clear hb1 hr1
      go_wp2_with fail
      refine (H2'.out _ HR1.out).mono ?_
      rintro e w2 ⟨rfl, hb2, hr2⟩
      have H4 := terms_any R n (by omega) (factorT n) (factorT_len n) S2 (by omega) w2 (fun W s' _ hs' hr' => HI.out R s' W hs' hr') hr2
      rw [H3.out] at H4
      have HB2 := Lib.hid (HB1.out.trans hb2)
      have H4' := Lib.hid H4
      clear hb2 hr2 H4
      go_wp2_with fail
      refine H4'.out.mono ?_
      rintro e w3 ⟨hb3, a, c, rfl, hfx, hxk, hr3⟩
      have HB3 := Lib.hid ((HB2.out.trans hb3).alloc (.cells #[.string ⟨x.op.toArray⟩, .string ⟨x.tag.toArray⟩, .slice a x.kids.length c] 29))
      have HR3 := Lib.hid (hr3.on (below_alloc w3 (.cells #[.string ⟨x.op.toArray⟩, .string ⟨x.tag.toArray⟩, .slice a x.kids.length c] 29)))
      clear hb3 hfx hxk hr3
      go_wp2_with fail
      refine (H5'.out _ HR3.out).mono ?_
      rintro e w4 ⟨rfl, hb4, hr4⟩
      have HB4 := Lib.hid (HB3.out.trans hb4)
      clear hb4 hr4
      go_wp2_with fail
      refine (need_false _).mono ?_
      rintro e w5 ⟨rfl, rfl⟩
      exact ⟨rfl, HB4.out, rfl⟩
    | true =>
      rw [h5] at H5
      have H5' := Lib.hid H5
      clear H5 h5
      simp only [if_true]
      obtain ⟨S5, hS5⟩ : ∃ S, (takesT [41] r).2 = S := ⟨_, rfl⟩
      rw [hS5] at H5' ⊢
      clear hS5
      go_enter Tryd.func46, Tryd.ntmps46
      go_wp2_with fail
      refine H1'.out.mono ?_
      rintro e w1 ⟨rfl, hb1, hr1⟩
      have HB1 := Lib.hid (HBA.out.trans hb1)
      have HS1 := Lib.hid (HSL.out.grown hb1 (fun e => by cases e; omega))
      have HR1 := Lib.hid hr1
      clear hb1 hr1
      go_wp2_with fail
      refine (H2'.out _ HR1.out).mono ?_
      rintro e w2 ⟨rfl, hb2, hr2⟩
      have H4 := terms_any R n (by omega) (factorT n) (factorT_len n) S2 (by omega) w2 (fun W s' _ hs' hr' => HI.out R s' W hs' hr') hr2
      rw [H3.out] at H4
      have HB2 := Lib.hid (HB1.out.trans hb2)
      have HS2 := Lib.hid (HS1.out.grown hb2 (fun e => by cases e; omega))
      have H4' := Lib.hid H4
      clear hb2 hr2 H4
      go_wp2_with fail
      refine H4'.out.mono ?_
      rintro e w3 ⟨hb3, a, c, rfl, hfx, hxk, hr3⟩
      obtain ⟨wb, hwb⟩ : ∃ wb, w3.alloc (.cells #[.string ⟨x.op.toArray⟩, .string ⟨x.tag.toArray⟩, .slice a x.kids.length c] 29) = wb := ⟨_, rfl⟩
      have hgb : w3.grownBy wb none := by rw [← hwb]; exact World.grownBy_alloc _ _ _
      have m0 : wb.cell? ⟨w3.heap.size, 0, none⟩ = some (.string ⟨x.op.toArray⟩) := by rw [← hwb]; simp [go_sem]
      have m1 : wb.cell? ⟨w3.heap.size, 1, none⟩ = some (.string ⟨x.tag.toArray⟩) := by rw [← hwb]; simp [go_sem]
      have m2 : wb.cell? ⟨w3.heap.size, 2, none⟩ = some (.slice a x.kids.length c) := by rw [← hwb]; simp [go_sem]
      have hs1 := HB2.out.size
      have hs2 := hb3.size
      have hs0 := HS2.out.lt
      have HB3 := Lib.hid ((HB2.out.trans hb3).alloc (.cells #[.string ⟨x.op.toArray⟩, .string ⟨x.tag.toArray⟩, .slice a x.kids.length c] 29))
      have HS3 := Lib.hid ((HS2.out.grown hb3 (fun e => by cases e; omega)).grown hgb (by simp))
      have HR3 := Lib.hid (hr3.on (below_alloc w3 (.cells #[.string ⟨x.op.toArray⟩, .string ⟨x.tag.toArray⟩, .slice a x.kids.length c] 29)))
      have HX := Lib.hid ((hxk.move (Zo' := fun b => w.heap.size + 1 ≤ b) (fun b hb => by omega) (fun _ _ _ hu => hu)).on (below_alloc w3 (.cells #[.string ⟨x.op.toArray⟩, .string ⟨x.tag.toArray⟩, .slice a x.kids.length c] 29)))
      have HF := Lib.hid hfx
      rw [hwb] at HB3 HR3 HX
      clear hb3 hfx hxk hr3 hgb
      go_wp2_with fail
      refine (H5'.out _ HR3.out).mono ?_
      rintro e w4 ⟨rfl, hb4, hr4⟩
      have hR3 := HB3.out.size
      have hne : w3.heap.size ≠ R := by omega
      have n0 := hb4.cell (p := ⟨w3.heap.size, 0, none⟩) hne m0
      have n1 := hb4.cell (p := ⟨w3.heap.size, 1, none⟩) hne m1
      have n2 := hb4.cell (p := ⟨w3.heap.size, 2, none⟩) hne m2
      have hsl4 := HS3.out.grown hb4 (fun e => by cases e; omega)
      have hTl := hsl4.lt
      obtain ⟨⟨x0, y0, z0, q0, q1, q2⟩, f0, f1, f2⟩ := hsl4
      have HB4 := Lib.hid (HB3.out.trans hb4)
      have HR4 := Lib.hid hr4
      have HX4 := Lib.hid (HX.out.move (Zo' := fun b => w.heap.size + 1 ≤ b) (fun b hb => hb) (fun p u hp hu => hb4.cell (by omega) hu))
      clear hb4 hr4 m0 m1 m2
      go_wp2_with fail
      refine (need_true _).mono ?_
      rintro e w5 ⟨rfl, rfl⟩
      go_wp2_with fail
      refine bodyPost_ret (v := .agg #[.string ⟨x.op.toArray⟩, .string ⟨x.tag.toArray⟩, .slice a x.kids.length c]) (by simp [results, Tryd.results46, go_sem, q0, q1, q2, hTl]) rfl ?_
      refine ⟨((HB4.out.setNew (p := ⟨w.heap.size, 0, none⟩) (Nat.le_refl _) _).setNew (p := ⟨w.heap.size, 1, none⟩) (Nat.le_refl _) _).setNew (p := ⟨w.heap.size, 2, none⟩) (Nat.le_refl _) _, a, c, rfl, HF.out, HX4.out.move (fun b hb => by omega) (fun p u hp hu => ?_), ((HR4.out.set3 (by omega) _ _).set3 (by omega) _ _).set3 (by omega) _ _⟩
      rw [cell_far_set (by omega), cell_far_set (by omega), cell_far_set (by omega)]
      exact hu
end Go.Proofs.YtagaoilgnhdebaaDoor
