/-
  tag: the reader's factor where a tag comes, and whatever comes: walked.
-/
import Derived.Test.YtagaoilgnhdebaaDoorTgJ
namespace Go.Proofs.YtagaoilgnhdebaaDoor
set_option linter.unusedSimpArgs false
set_option linter.unusedVariables false
open Go.RowKit

theorem take_while_empty {l : List UInt8} {k : Nat} (hk : k ≤ l.length) : (l.take k).isEmpty = decide (k = 0) := by
  cases k with
  | zero => simp
  | succ k =>
    cases l with
    | nil => simp at hk
    | cons x l => simp

theorem str_take (l : List UInt8) (k : Nat) : (⟨l.toArray⟩ : ByteArray).extract 0 k = ⟨(l.take k).toArray⟩ := by
  rw [ByteArray.extract_mk]; simp
theorem str_drop (l : List UInt8) (k : Nat) : (⟨l.toArray⟩ : ByteArray).extract k l.length = ⟨(l.drop k).toArray⟩ := by
  rw [ByteArray.extract_mk]; simp [List.take_of_length_le]

/-- A tag alone, laid into the result's block. -/
theorem tag_post {R : Nat} {w wr : World} (hRl : R < w.heap.size) (hB : But R w wr) {u : List UInt8} (hr : Rd R u wr) (T D : List UInt8) (hT : T.length ≤ 10000) :
    PartPost R (some (.mk [] T [], D)) w (.returned (.agg #[.string ⟨#[]⟩, .string ⟨T.toArray⟩, .slice none 0 0])) ((((wr.setCell ⟨R, 0, none⟩ (.string ⟨D.toArray⟩)).setCell ⟨w.heap.size, 0, none⟩ (.string ⟨#[]⟩)).setCell ⟨w.heap.size, 1, none⟩ (.string ⟨T.toArray⟩)).setCell ⟨w.heap.size, 2, none⟩ (.slice none 0 0)) := by
  have hl := hr.lt
  obtain ⟨c0, z0⟩ := hr
  have h1 : Rd R D (wr.setCell ⟨R, 0, none⟩ (.string ⟨D.toArray⟩)) := ⟨by simp [go_sem, c0, hl], by simp [go_sem, z0]⟩
  exact ⟨(((hB.set 0 _).setNew (p := ⟨w.heap.size, 0, none⟩) (Nat.le_refl _) _).setNew (p := ⟨w.heap.size, 1, none⟩) (Nat.le_refl _) _).setNew (p := ⟨w.heap.size, 2, none⟩) (Nat.le_refl _) _, none, 0, rfl,
    ⟨by simp, by simp only [Xp.tag_mk]; omega, by simp, by omega, by simp⟩, Xids.nil _ _ _, ((h1.set3 (by omega) _ _).set3 (by omega) _ _).set3 (by omega) _ _⟩

set_option maxRecDepth 100000 in
set_option maxHeartbeats 8000000 in
theorem factor_tag (n : Nat) (hn : n ≤ 10000) (R : Nat) (s : List UInt8) (w : World) (hs : s.length < n + 1) (hr : Rd R s w) (h1 : (takesT [33] s).1 = false) (h2 : (takesT [40] (takesT [33] s).2).1 = false) (u : List UInt8) (hu : (takesT [40] (takesT [33] s).2).2 = u) :
    Calls Tryd.prog 46 #[.pointer (some ⟨R, 0, none⟩)] w (PartPost R (if (u.takeWhile mayTB).isEmpty then none else some (.mk [] (u.takeWhile mayTB) [], u.dropWhile mayTB)) w) := by
  have hRl := hr.lt
  have hle := takesT_le [33] s
  have hle2 := takesT_le [40] (takesT [33] s).2
  obtain ⟨wa, hwa, hba, hra, hsla, hsza⟩ := opened R s w hr 29
  have H1 := takes_any R [33] s wa hra (by omega) (by simp)
  have H2 := fun wa (hr : Rd R (takesT [33] s).2 wa) => takes_any R [40] (takesT [33] s).2 wa hr (by omega) (by simp)
  rw [h1] at H1
  rw [h2, hu] at H2
  rw [hu] at hle2
  obtain ⟨S1, hS1⟩ : ∃ S, (takesT [33] s).2 = S := ⟨_, rfl⟩
  rw [hS1] at H1 H2 hle2 hle
  have H1' := Lib.hid H1
  have H2' := Lib.hid H2
  have HBA := Lib.hid hba
  have HSL := Lib.hid hsla
  obtain ⟨Q0, hQ0⟩ : ∃ Q0, (if (u.takeWhile mayTB).isEmpty then none else some (Xp.mk [] (u.takeWhile mayTB) [], u.dropWhile mayTB)) = Q0 := ⟨_, rfl⟩
  rw [hQ0]
  have HQ0 := Lib.hid hQ0
  have hul : u.length ≤ 10000 := by omega
  clear H1 H2 hba hra hsla hS1 hu h1 h2 hr hQ0 hle hle2
  go_enter Tryd.func46, Tryd.ntmps46
  go_wp2_with fail
  refine H1'.out.mono ?_
  rintro e w1 ⟨rfl, hb1, hr1⟩
  have HB1 := Lib.hid (HBA.out.trans hb1)
  have HS1 := Lib.hid (HSL.out.grown hb1 (fun e => by cases e; omega))
  have HR1 := Lib.hid hr1
  clear hb1 hr1 HBA HSL
  go_wp2_with fail
  refine (H2'.out _ HR1.out).mono ?_
  rintro e w2 ⟨rfl, hb2, hr2⟩
  have HB2 := Lib.hid (HB1.out.trans hb2)
  have HS2 := Lib.hid (HS1.out.grown hb2 (fun e => by cases e; omega))
  have HR2 := Lib.hid hr2
  obtain ⟨c0, z0⟩ := hr2
  have hRl2 : R < w2.heap.size := cell_lt1 c0
  clear hb2 HB1 HS1 HR1 H1' H2'
  go_wp2_with fail
  go_loopw [4] (fun i wr => ∃ k : Nat, k ≤ u.length ∧ i = .int .i64 k ∧ wr = w2 ∧ (u.take k).all mayTB = true) (fun i _ => u.length - (intOf i).toNat)
  case atStart => exact ⟨0, by omega, rfl, rfl, by simp⟩
  case round =>
    obtain ⟨k, hk, rfl, rfl, hall⟩ := hrel
    have HALL := Lib.hid hall
    clear hall
    -- what stands behind the loop, at k
    by_cases hlt : k < u.length
    · obtain ⟨d, hd⟩ : ∃ d, u[k] = d := ⟨_, rfl⟩
      have hd2 := d.toNat_lt
      have hby : ∀ h', (⟨u.toArray⟩ : ByteArray)[k]'h' = d := fun h' => (byte_at u k hlt h').trans hd
      have HM := may_any (d.toNat : Int) wr
      cases hm : mayTB d with
      | true =>
        have hm' : mayT (d.toNat : Int) = true := hm
        rw [hm'] at HM
        have HM' := Lib.hid HM
        have HN := Lib.hid (all_take hlt HALL.out (by rw [hd]; exact hm))
        clear HM hm hm' hd
        go_wp2_with fail
        refine HM'.out.mono ?_
        rintro e w3 ⟨rfl, rfl⟩
        go_wp2_with fail
        go_roundw
        case rel => exact ⟨k + 1, by omega, by go_num, trivial, HN.out⟩
        case measure => simp [intOf]; omega
      | false =>
        have hm' : mayT (d.toNat : Int) = false := hm
        rw [hm'] at HM
        have HM' := Lib.hid HM
        have htw := take_while (k := k) HALL.out (fun b hb => by rw [List.getElem?_eq_getElem hlt, hd] at hb; cases hb; exact hm)
        have hQ1 := HQ0.out
        rw [htw.1, htw.2, take_while_empty hk] at hQ1
        clear HM hm hm' hd htw
        by_cases hk0 : k = 0
        · subst hk0
          have HQ1 := Lib.hid (show none = Q0 by simpa using hQ1)
          clear hQ1
          go_wp2_with fail
          refine HM'.out.mono ?_
          rintro e w3 ⟨rfl, rfl⟩
          go_wp2_with fail
          refine (need_false _).mono ?_
          rintro e w5 ⟨rfl, rfl⟩
          refine ⟨rfl, ?_⟩
          rw [← HQ1.out]
          exact ⟨HB2.out, rfl⟩
        · have HQ1 := Lib.hid (show some (Xp.mk [] (u.take k) [], u.drop k) = Q0 by simpa [hk0] using hQ1)
          have hkp : (0 : Int) < k := by omega
          have hsl2 := HS2.out
          have hTl := hsl2.lt
          obtain ⟨⟨x0, y0, zz, q0, q1, q2⟩, f0, f1, f2⟩ := hsl2
          clear hQ1
          go_wp2_with fail
          refine HM'.out.mono ?_
          rintro e w3 ⟨rfl, rfl⟩
          go_wp2_with fail
          rw [show decide (0 < k) = true by simp; omega]
          refine (need_true _).mono ?_
          rintro e w5 ⟨rfl, rfl⟩
          have hc1 : (⟨u.toArray⟩ : ByteArray).extract 0 k = ⟨(u.take k).toArray⟩ := str_take u k
          have hc2 : (⟨u.toArray⟩ : ByteArray).extract k u.length = ⟨(u.drop k).toArray⟩ := str_drop u k
          go_wp2_with fail
          refine bodyPost_ret (v := .agg #[.string ⟨#[]⟩, .string ⟨(u.take k).toArray⟩, .slice none 0 0]) (by simp [results, Tryd.results46, go_sem, q0, q1, q2, hTl]) rfl ?_
          rw [← HQ1.out]
          exact tag_post hRl HB2.out HR2.out _ _ (by simp; omega)
    · have htw := take_while (k := k) HALL.out (fun b hb => by rw [List.getElem?_eq_none (by omega)] at hb; cases hb)
      have hQ1 := HQ0.out
      rw [htw.1, htw.2, take_while_empty hk] at hQ1
      clear htw
      by_cases hk0 : k = 0
      · subst hk0
        have HQ1 := Lib.hid (show none = Q0 by simpa using hQ1)
        clear hQ1
        go_wp2_with fail
        refine (need_false _).mono ?_
        rintro e w5 ⟨rfl, rfl⟩
        refine ⟨rfl, ?_⟩
        rw [← HQ1.out]
        exact ⟨HB2.out, rfl⟩
      · have HQ1 := Lib.hid (show some (Xp.mk [] (u.take k) [], u.drop k) = Q0 by simpa [hk0] using hQ1)
        have hkp : (0 : Int) < k := by omega
        have hsl2 := HS2.out
        have hTl := hsl2.lt
        obtain ⟨⟨x0, y0, zz, q0, q1, q2⟩, f0, f1, f2⟩ := hsl2
        clear hQ1
        go_wp2_with fail
        rw [show decide (0 < k) = true by simp; omega]
        refine (need_true _).mono ?_
        rintro e w5 ⟨rfl, rfl⟩
        have hc1 : (⟨u.toArray⟩ : ByteArray).extract 0 k = ⟨(u.take k).toArray⟩ := str_take u k
        have hc2 : (⟨u.toArray⟩ : ByteArray).extract k u.length = ⟨(u.drop k).toArray⟩ := str_drop u k
        go_wp2_with fail
        refine bodyPost_ret (v := .agg #[.string ⟨#[]⟩, .string ⟨(u.take k).toArray⟩, .slice none 0 0]) (by simp [results, Tryd.results46, go_sem, q0, q1, q2, hTl]) rfl ?_
        rw [← HQ1.out]
        exact tag_post hRl HB2.out HR2.out _ _ (by simp; omega)

/-- factor, of fewer than n bytes. -/
theorem factor_any : ∀ (n : Nat), n ≤ 10000 → FactorOk n
  | 0, _ => fun R s w hs _ => by omega
  | n + 1, hn => fun R s w hs hr => by
    have ih := factor_any n (by omega)
    rw [factorT]
    cases h1 : (takesT [33] s).1 with
    | true =>
      simp only [if_true]
      exact factor_not n (by omega) ih R s w hs hr h1
    | false =>
      simp only [Bool.false_eq_true, if_false]
      cases h2 : (takesT [40] (takesT [33] s).2).1 with
      | true =>
        simp only [if_true]
        exact factor_brackets n (by omega) ih R s w hs hr h1 h2
      | false =>
        simp only [Bool.false_eq_true, if_false]
        exact factor_tag n (by omega) R s w hs hr h1 h2 _ rfl
/-- The reader's terms. -/
theorem readsTerms (n : Nat) (hn : n ≤ 10000) (R : Nat) (s : List UInt8) (hs : s.length < n) (w : World) (hr : Rd R s w) :
    Calls Tryd.prog 31 #[.pointer (some ⟨R, 0, none⟩)] w (PartPost R (termsT n s) w) :=
  terms_any R n (by omega) (factorT n) (factorT_len n) s hs w (fun W s' _ hs' hr' => factor_any n hn R s' W hs' hr') hr
end Go.Proofs.YtagaoilgnhdebaaDoor
