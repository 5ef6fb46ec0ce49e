/-
  the law TagAlone, walked.
-/
import Derived.Test.YtagaoilgnhdebaaDoorTgZ
import Derived.Test.YtagaoilgnhdebaaDoorTgPc
namespace Go.Proofs.YtagaoilgnhdebaaDoor
set_option linter.unusedSimpArgs false
set_option linter.unusedVariables false
open Go.RowKit

theorem read_empty : readT [] = (default, 8) := by kernel_rfl
theorem right_alone (s : List UInt8) (n : Nat) : rightX (n + 1) (.mk [] s []) = tagB s := by rw [rightX_mk]; simp
theorem write_alone (s : List UInt8) (n : Nat) : writeX (n + 1) (.mk [] s []) [] = s := by rw [writeX_mk]; simp
theorem read_alone {s : List UInt8} (h : tagB s = true) (hl : s.length ≤ 500) : readT s = (.mk [] s [], 0) := by
  have := read_back (x := .mk [] s []) (by rw [right_alone]; exact h) (by rw [write_alone]; exact hl)
  rw [write_alone] at this; exact this
theorem verT_bounds (s : List UInt8) : verT s = -1 ∨ (0 ≤ verT s ∧ verT s ≤ 99) := by
  rw [verT_eq]
  split
  · rcases numV_cases (s.drop 4) with ⟨v, _, _, h | ⟨_, h | ⟨h1, h | h⟩⟩⟩ | h
    · exact .inl h.2
    · exact .inl h.2
    · exact .inl h.2
    · right; rw [h.2]; omega
    · exact .inl h.2
  · exact .inl rfl
theorem alone_holds {s : List UInt8} (h : tagB s = true) : (holdsR [[97], s] (.mk [] s []) == decide (leastR (.mk [] s []) < 25)) = true := by
  unfold holdsR leastR
  rw [right_alone, h, if_pos rfl, holdsX_mk, leastX_mk, if_neg (by decide), if_neg (by decide), if_neg (by decide), if_pos rfl, Bool.true_and]
  by_cases hv : verT s = -1
  · rw [if_neg (by simpa using hv), hv]; simp
  · rw [if_pos hv, beq_iff_eq, decide_eq_decide]; omega

/-- Two blocks: the constraint made, the one read. -/
structure Al (w0 : World) (s : List UInt8) (a2 : Option Addr) (c2 p q : Nat) (W : World) : Prop where
  below : Below w0.heap.size w0 W
  env : Env W
  b1 : W.cell? ⟨p, 0, none⟩ = some (.string ⟨#[]⟩) ∧ W.cell? ⟨p, 1, none⟩ = some (.string ⟨s.toArray⟩) ∧ W.cell? ⟨p, 2, none⟩ = some (.slice none 0 0)
  b2 : W.cell? ⟨q, 0, none⟩ = some (.string ⟨#[]⟩) ∧ W.cell? ⟨q, 1, none⟩ = some (.string ⟨s.toArray⟩) ∧ W.cell? ⟨q, 2, none⟩ = some (.slice a2 0 c2)
section
variable {w0 : World} {s : List UInt8} {a2 : Option Addr} {c2 p q : Nat} {W W' : World}
theorem Al.on (h : Al w0 s a2 c2 p q W) (hb : Below W.heap.size W W') : Al w0 s a2 c2 p q W' :=
  ⟨bext h.below hb, h.env.on hb, three_on' hb h.b1.1 h.b1.2.1 h.b1.2.2, three_on' hb h.b2.1 h.b2.2.1 h.b2.2.2⟩
abbrev AlPost (w0 : World) (s : List UInt8) (a2 : Option Addr) (c2 p q : Nat) (v : Value) (W : World) (e : Ending) (w' : World) : Prop :=
  e = .returned v ∧ ((w'.cell? ⟨p, 0, none⟩ = some (.string ⟨#[]⟩) ∧ w'.cell? ⟨p, 1, none⟩ = some (.string ⟨s.toArray⟩) ∧ w'.cell? ⟨p, 2, none⟩ = some (.slice none 0 0)) ∧
    w'.cell? ⟨q, 0, none⟩ = some (.string ⟨#[]⟩) ∧ w'.cell? ⟨q, 1, none⟩ = some (.string ⟨s.toArray⟩) ∧ w'.cell? ⟨q, 2, none⟩ = some (.slice a2 0 c2)) ∧ Hid (Al w0 s a2 c2 p q w' ∧ Below W.heap.size W w')
theorem al_post (h : Al w0 s a2 c2 p q W) {f : Nat} {args : Array Value} {v : Value} (hc : Calls Tryd.prog f args W fun e w' => e = .returned v ∧ Below W.heap.size W w') : Calls Tryd.prog f args W (AlPost w0 s a2 c2 p q v W) :=
  hc.mono fun e w' ⟨he, hb⟩ => have h' := h.on hb; ⟨he, ⟨h'.b1, h'.b2⟩, Lib.hid ⟨h', hb⟩⟩
theorem fit_alone (hs : s.length ≤ 140737488351232) (c : Nat) (hc : c ≤ 9223372036854775807) : Fitx (.mk [] s []) c := ⟨by simp, hs, by simp, hc, by simp⟩
theorem al_holds (h : Al w0 s a2 c2 p q W) (hs : s.length ≤ 140737488351232) {at_ : Option Addr} (ht : Strs W at_ [[97], s]) (ct : Nat) : Calls Tryd.prog 14 #[.agg #[.string ⟨#[]⟩, .string ⟨s.toArray⟩, .slice none 0 0], .slice at_ 2 ct] W (AlPost w0 s a2 c2 p q (.bool (holdsR [[97], s] (.mk [] s []))) W) :=
  al_post h (Holds_any [[97], s] (by simp) (.mk [] s []) none at_ 0 ct W h.env (Xids.nil _ _ _) (fit_alone hs 0 (by omega)) ht)
theorem al_least (h : Al w0 s a2 c2 p q W) (hs : s.length ≤ 140737488351232) : Calls Tryd.prog 15 #[.agg #[.string ⟨#[]⟩, .string ⟨s.toArray⟩, .slice none 0 0]] W (AlPost w0 s a2 c2 p q (.int .i64 (leastR (.mk [] s []))) W) :=
  al_post h (Least_any (.mk [] s []) none 0 W h.env (Xids.nil _ _ _) (fit_alone hs 0 (by omega)))
theorem al_awake (h : Al w0 s a2 c2 p q W) : Calls Tryd.prog 17 #[] W (AlPost w0 s a2 c2 p q (.bool true) W) :=
  al_post h (awake_any W h.env)
theorem strs_new (W : World) (s : List UInt8) (T : TypeId) : Strs (W.alloc (.cells #[.string ⟨#[97]⟩, .string ⟨s.toArray⟩] T)) (some ⟨W.heap.size, 0, none⟩) [[97], s] := by
  intro j hj
  refine ⟨W.heap.size, 0, rfl, ?_⟩
  match j, hj with
  | 0, _ => simp [go_sem]
  | 1, _ => simp [go_sem]
end

set_option maxRecDepth 100000 in
set_option maxHeartbeats 16000000 in
theorem alone_any (s : List UInt8) (w : World) (hE : Env w) (hs : s.length ≤ 9223372036854775807) : Calls Tryd.prog 8 #[.string ⟨s.toArray⟩] w (Good w) := by
  have HE := Lib.hid hE
  by_cases hl : s.length > 100
  · have h5 : (100 : Int) < s.length := by omega
    clear hE
    go_enter Tryd.func8, Tryd.ntmps8
    go_wp2_with fail
    go_ret
    exact ⟨rfl, Below.refl _ _⟩
  have h5 : ¬ (100 : Int) < s.length := by omega
  have HSL := Lib.hid (show s.length ≤ 140737488351232 by omega)
  obtain ⟨wa, hwa, hba, p0, p1, p2, hsa⟩ := laid3 w (.mk [] s []) none 0
  simp only [Xp.op_mk, Xp.tag_mk, Xp.kids_mk, List.length_nil] at hwa p0 p1 p2
  have HN := Lib.hid fun W => (show Calls Tryd.prog 21 #[.string ⟨#[]⟩] W (fun e w' => Below W.heap.size W w' ∧ ∃ a c, e = .returned (.tuple #[.agg #[.string ⟨#[]⟩, .string ⟨#[]⟩, .slice a 0 c], .int .i64 8])) by
    have h := read_any [] W (by simp)
    rw [read_empty] at h
    exact h.mono fun e w' ⟨hb, a, c, he, _, _⟩ => ⟨hb, a, c, he⟩)
  have HR := Lib.hid fun W => (show Calls Tryd.prog 13 #[.agg #[.string ⟨#[]⟩, .string ⟨s.toArray⟩, .slice none 0 0]] W (fun e w' => e = .returned (.bool (tagB s)) ∧ Below W.heap.size W w') by
    have h := Right_any (.mk [] s []) none 0 W (Xids.nil _ _ _) (fit_alone HSL.out 0 (by omega))
    rw [right_alone] at h
    exact h)
  cases ht : tagB s with
  | false =>
    have HW := Lib.hid fun W => (show Calls Tryd.prog 16 #[.agg #[.string ⟨#[]⟩, .string ⟨s.toArray⟩, .slice none 0 0]] W (fun e w' => e = .returned (.string ⟨#[]⟩) ∧ Below W.heap.size W w') by
      have h0 : writeR (.mk [] s []) = [] := by rw [writeR, right_alone, ht]; rfl
      have h := Write_any (.mk [] s []) none 0 W (Xids.nil _ _ _) (fit_alone HSL.out 0 (by omega)) (by rw [h0]; simp)
      rw [h0] at h
      exact h)
    have HA := read_any s wa HSL.out
    obtain ⟨xn, hxn⟩ : ∃ xn, readT s = xn := ⟨_, rfl⟩
    obtain ⟨x, n⟩ := xn
    rw [hxn] at HA
    rw [ht] at HR
    have HA' := Lib.hid HA
    have HBA := Lib.hid hba
    have HP0 := Lib.hid (And.intro p0 (And.intro p1 p2))
    clear hE HA hxn ht hba p0 p1 p2 hsa
    subst hwa
    go_enter Tryd.func8, Tryd.ntmps8
    go_wp2_with fail
    refine HA'.out.mono ?_
    rintro e w1 ⟨hb1, a, c, rfl, hf, hxk⟩
    obtain ⟨p0, p1, p2⟩ := three_on' hb1 HP0.out.1 HP0.out.2.1 HP0.out.2.2
    obtain ⟨w2, hw2, hb2, c0, c1, c2, hs2⟩ := laid3 w1 x a c
    obtain ⟨p0, p1, p2⟩ := three_on' hb2 p0 p1 p2
    have HB2 := Lib.hid (bext (bext HBA.out hb1) hb2)
    have HN2 := Lib.hid (HN.out w2)
    clear hf hxk hb1 hb2
    go_wp2_with fail
    refine HN2.out.mono ?_
    rintro e w3 ⟨hb3, a3, c3, rfl⟩
    obtain ⟨p0, p1, p2⟩ := three_on' hb3 p0 p1 p2
    obtain ⟨w4, hw4, hb4, d0, d1, d2, hs4⟩ := laid3 w3 (.mk [] [] []) a3 c3
    simp only [Xp.op_mk, Xp.tag_mk, Xp.kids_mk, List.length_nil] at hw4
    obtain ⟨p0, p1, p2⟩ := three_on' hb4 p0 p1 p2
    have HB4 := Lib.hid (bext HB2.out (bext hb3 hb4))
    have HR4 := Lib.hid (HR.out w4)
    clear hb3 hb4
    go_wp2_with fail
    refine HR4.out.mono ?_
    rintro e w5 ⟨rfl, hb5⟩
    obtain ⟨p0, p1, p2⟩ := three_on' hb5 p0 p1 p2
    have HB5 := Lib.hid (bext HB4.out hb5)
    have HW5 := Lib.hid (HW.out w5)
    clear hb5
    go_wp2_with fail
    refine HW5.out.mono ?_
    rintro e w6 ⟨rfl, hb6⟩
    have HB6 := Lib.hid (bext HB5.out hb6)
    have HK := Lib.hid (awake_any w6 (HE.out.on HB6.out))
    clear hb6
    go_wp2_with fail
    refine HK.out.mono ?_
    rintro e w7 ⟨rfl, hb7⟩
    have HB7 := Lib.hid (bext HB6.out hb7)
    clear hb7
    go_wp2_with fail
    refine bodyPost_ret (v := .bool true) (by simp [results, Tryd.results8, go_sem]) rfl ⟨rfl, HB7.out⟩
  | true =>
    have HA := read_any s wa HSL.out
    rw [read_alone ht (by omega)] at HA
    have HA' := Lib.hid (show Calls Tryd.prog 21 #[.string ⟨s.toArray⟩] wa (fun e w' => Below wa.heap.size wa w' ∧ ∃ a c, e = .returned (.tuple #[.agg #[.string ⟨#[]⟩, .string ⟨s.toArray⟩, .slice a 0 c], .int .i64 0])) from
      HA.mono fun e w' ⟨hb, a, c, he, _, _⟩ => ⟨hb, a, c, he⟩)
    have hEQ := alone_holds ht
    obtain ⟨HV, hHV⟩ : ∃ HV, holdsR [[97], s] (.mk [] s []) = HV := ⟨_, rfl⟩
    obtain ⟨LV, hLV⟩ : ∃ LV, leastR (.mk [] s []) = LV := ⟨_, rfl⟩
    have HHV := Lib.hid hHV
    have HLV := Lib.hid hLV
    rw [hHV, hLV] at hEQ
    rw [ht] at HR
    have HBA := Lib.hid hba
    have HP0 := Lib.hid (And.intro p0 (And.intro p1 p2))
    clear hE HA ht hba hHV hLV p0 p1 p2 hsa
    subst hwa
    go_enter Tryd.func8, Tryd.ntmps8
    go_wp2_with fail
    refine HA'.out.mono ?_
    rintro e w1 ⟨hb1, a, c, rfl⟩
    obtain ⟨p0, p1, p2⟩ := three_on' hb1 HP0.out.1 HP0.out.2.1 HP0.out.2.2
    obtain ⟨w2, hw2, hb2, c0, c1, c2, hs2⟩ := laid3 w1 (.mk [] s []) a c
    simp only [Xp.op_mk, Xp.tag_mk, Xp.kids_mk, List.length_nil] at hw2 c0 c1 c2
    obtain ⟨p0, p1, p2⟩ := three_on' hb2 p0 p1 p2
    have HB2 := Lib.hid (bext (bext HBA.out hb1) hb2)
    have HN2 := Lib.hid (HN.out w2)
    clear hb1 hb2
    go_wp2_with fail
    refine HN2.out.mono ?_
    rintro e w3 ⟨hb3, a3, c3, rfl⟩
    obtain ⟨p0, p1, p2⟩ := three_on' hb3 p0 p1 p2
    obtain ⟨c0, c1, c2⟩ := three_on' hb3 c0 c1 c2
    obtain ⟨w4, hw4, hb4, d0, d1, d2, hs4⟩ := laid3 w3 (.mk [] [] []) a3 c3
    simp only [Xp.op_mk, Xp.tag_mk, Xp.kids_mk, List.length_nil] at hw4
    obtain ⟨p0, p1, p2⟩ := three_on' hb4 p0 p1 p2
    obtain ⟨c0, c1, c2⟩ := three_on' hb4 c0 c1 c2
    have HB4 := Lib.hid (bext HB2.out (bext hb3 hb4))
    have HR4 := Lib.hid (HR.out w4)
    clear hb3 hb4 d0 d1 d2
    go_wp2_with fail
    refine HR4.out.mono ?_
    rintro e w5 ⟨rfl, hb5⟩
    obtain ⟨p0, p1, p2⟩ := three_on' hb5 p0 p1 p2
    obtain ⟨c0, c1, c2⟩ := three_on' hb5 c0 c1 c2
    have HB5 := Lib.hid (bext HB4.out hb5)
    have HP := Lib.hid (show Al w s a c w.heap.size w1.heap.size w5 ∧ Below w5.heap.size w5 w5 from ⟨⟨HB5.out, HE.out.on HB5.out, ⟨p0, p1, p2⟩, c0, c1, c2⟩, Below.refl _ _⟩)
    have hp1 : w.heap.size < w5.heap.size := cell_lt1 p0
    have hq1 : w1.heap.size < w5.heap.size := cell_lt1 c0
    clear hb5 hs2 hs4
    go_wp2_with fail
    go_region_held3 (fun w' => (w'.cell? ⟨w.heap.size, 0, none⟩ = some (.string ⟨#[]⟩) ∧ w'.cell? ⟨w.heap.size, 1, none⟩ = some (.string ⟨s.toArray⟩) ∧ w'.cell? ⟨w.heap.size, 2, none⟩ = some (.slice none 0 0)) ∧
        w'.cell? ⟨w1.heap.size, 0, none⟩ = some (.string ⟨#[]⟩) ∧ w'.cell? ⟨w1.heap.size, 1, none⟩ = some (.string ⟨s.toArray⟩) ∧ w'.cell? ⟨w1.heap.size, 2, none⟩ = some (.slice a 0 c)) (go_keep)
      (first
        | (go_at_call 14
           refine (al_holds (w0 := w) (a2 := a) (c2 := c) (p := w.heap.size) (q := w1.heap.size) ?_ HSL.out ?_ _).mono ?_
           focus (first | exact HP.out.1 | exact HP.out.1.on (Below.refl _ _).drew | exact HP.out.1.on (below_alloc _ _) | exact HP.out.1.on (below_alloc _ _).drew)
           focus (first | exact strs_new _ _ _ | exact (strs_new _ _ _).on (Below.refl _ _).drew | exact (strs_new _ _ _).on HP.out.2 | exact ((strs_new _ _ _).on (Below.refl _ _).drew).on HP.out.2)
           rw [HHV.out]
           rintro e w6 ⟨rfl, ⟨⟨p0, p1, p2⟩, c0, c1, c2⟩, HP⟩)
        | (go_at_call 15
           refine (al_least (w0 := w) (a2 := a) (c2 := c) (p := w.heap.size) (q := w1.heap.size) ?_ HSL.out).mono ?_
           focus (first | exact HP.out.1 | exact HP.out.1.on (Below.refl _ _).drew | exact HP.out.1.on (below_alloc _ _) | exact HP.out.1.on (below_alloc _ _).drew)
           rw [HLV.out]
           rintro e w6 ⟨rfl, ⟨⟨p0, p1, p2⟩, c0, c1, c2⟩, HP⟩)
        | (go_at_call 17
           refine (al_awake HP.out.1).mono ?_
           rintro e w6 ⟨rfl, ⟨⟨p0, p1, p2⟩, c0, c1, c2⟩, HP⟩))
    all_goals
      go_wp2_with fail
      go_ret
      exact ⟨rfl, HP.out.1.below⟩
end Go.Proofs.YtagaoilgnhdebaaDoor
