/-
  demoticref06.Same, walked
-/
import Derived.Test.YtnmebgiiajnnjaaSmall
import Derived.Deep.RegionHeld3
namespace Go.Proofs.Ytnmebgiiajnnjaa
set_option linter.unusedSimpArgs false
set_option linter.unusedVariables false
open Go.RowKit

theorem eqL_long {f : Nd → Nd → Bool} : ∀ {l m : List Nd}, eqL f l m = true → l.length = m.length
  | [], [], _ => rfl
  | [], _ :: _, h => by simp [eqL] at h
  | _ :: _, [], h => by simp [eqL] at h
  | _ :: xs, _ :: ys, h => by rw [eqL, Bool.and_eq_true] at h; simp [eqL_long h.2]
theorem eqL_get {f : Nd → Nd → Bool} : ∀ {l m : List Nd}, eqL f l m = true → ∀ j (h1 : j < l.length) (h2 : j < m.length), f l[j] m[j] = true
  | [], [], _, j, h, _ => by simp at h
  | [], _ :: _, h, _, _, _ => by simp [eqL] at h
  | _ :: _, [], h, _, _, _ => by simp [eqL] at h
  | _ :: xs, _ :: ys, h, j, h1, h2 => by
    rw [eqL, Bool.and_eq_true] at h
    cases j with
    | zero => exact h.1
    | succ j => exact eqL_get h.2 j (by simpa using h1) (by simpa using h2)
theorem eqL_bad {f : Nd → Nd → Bool} {l m : List Nd} {j : Nat} (h1 : j < l.length) (h2 : j < m.length) (h : f l[j] m[j] = false) : eqL f l m = false := by
  cases e : eqL f l m with
  | false => rfl
  | true => rw [eqL_get e j h1 h2] at h; cases h
theorem eqL_far {f : Nd → Nd → Bool} {l m : List Nd} (h : l.length ≠ m.length) : eqL f l m = false := by
  cases e : eqL f l m with
  | false => rfl
  | true => exact absurd (eqL_long e) h

/-- What the call on two kids leaves. -/
abbrev KidPost (x y u v : Nd) (a1 a2 a' a'' : Option Addr) (c1 c2 c' c'' B b o b' o' : Nat) (s : Bool) (W : World) (e : Ending) (w' : World) : Prop :=
  e = .returned (.bool s) ∧ ((w'.cell? ⟨B, 0, none⟩ = some (.int .i64 x.kind) ∧ w'.cell? ⟨B, 1, none⟩ = some (.string ⟨x.text.toArray⟩) ∧ w'.cell? ⟨B, 2, none⟩ = some (.slice (a1) x.kids.length c1) ∧ w'.cell? ⟨B, 3, none⟩ = some (.int .i64 x.pos)) ∧ (w'.cell? ⟨B + 1, 0, none⟩ = some (.int .i64 y.kind) ∧ w'.cell? ⟨B + 1, 1, none⟩ = some (.string ⟨y.text.toArray⟩) ∧ w'.cell? ⟨B + 1, 2, none⟩ = some (.slice (a2) y.kids.length c2) ∧ w'.cell? ⟨B + 1, 3, none⟩ = some (.int .i64 y.pos)) ∧
    (w'.cell? ⟨b, o, none⟩ = some (.int .i64 u.kind) ∧ w'.cell? ⟨b, o + 1, none⟩ = some (.string ⟨u.text.toArray⟩) ∧ w'.cell? ⟨b, o + 2, none⟩ = some (.slice a' u.kids.length c') ∧ w'.cell? ⟨b, o + 3, none⟩ = some (.int .i64 u.pos)) ∧
    (w'.cell? ⟨b', o', none⟩ = some (.int .i64 v.kind) ∧ w'.cell? ⟨b', o' + 1, none⟩ = some (.string ⟨v.text.toArray⟩) ∧ w'.cell? ⟨b', o' + 2, none⟩ = some (.slice a'' v.kids.length c'') ∧ w'.cell? ⟨b', o' + 3, none⟩ = some (.int .i64 v.pos))) ∧ Hid (Below W.heap.size W w')
theorem kid_post {x y u v : Nd} {a1 a2 a' a'' : Option Addr} {c1 c2 c' c'' B b o b' o' : Nat} {s : Bool} {W : World} {f : Nat} {args : Array Value} (h1 : (W.cell? ⟨B, 0, none⟩ = some (.int .i64 x.kind) ∧ W.cell? ⟨B, 1, none⟩ = some (.string ⟨x.text.toArray⟩) ∧ W.cell? ⟨B, 2, none⟩ = some (.slice (a1) x.kids.length c1) ∧ W.cell? ⟨B, 3, none⟩ = some (.int .i64 x.pos))) (h2 : (W.cell? ⟨B + 1, 0, none⟩ = some (.int .i64 y.kind) ∧ W.cell? ⟨B + 1, 1, none⟩ = some (.string ⟨y.text.toArray⟩) ∧ W.cell? ⟨B + 1, 2, none⟩ = some (.slice (a2) y.kids.length c2) ∧ W.cell? ⟨B + 1, 3, none⟩ = some (.int .i64 y.pos))) (h3 : Four W b o u a' c') (h4 : Four W b' o' v a'' c'')
    (hc : Calls Try.prog f args W fun e w' => e = .returned (.bool s) ∧ Below W.heap.size W w') : Calls Try.prog f args W (KidPost x y u v a1 a2 a' a'' c1 c2 c' c'' B b o b' o' s W) :=
  hc.mono (fun e w' ⟨he, hb⟩ => by
    obtain ⟨hk, _⟩ := bcell hb
    have l1 := cell_lt h1.1
    have l2 := cell_lt h2.1
    have l3 := cell_lt h3.1
    have l4 := cell_lt h4.1
    exact ⟨he, ⟨⟨(hk _ _ l1).trans h1.1, (hk _ _ l1).trans h1.2.1, (hk _ _ l1).trans h1.2.2.1, (hk _ _ l1).trans h1.2.2.2⟩, ⟨(hk _ _ l2).trans h2.1, (hk _ _ l2).trans h2.2.1, (hk _ _ l2).trans h2.2.2.1, (hk _ _ l2).trans h2.2.2.2⟩,
      ⟨(hk _ _ l3).trans h3.1, (hk _ _ l3).trans h3.2.1, (hk _ _ l3).trans h3.2.2.1, (hk _ _ l3).trans h3.2.2.2⟩, ⟨(hk _ _ l4).trans h4.1, (hk _ _ l4).trans h4.2.1, (hk _ _ l4).trans h4.2.2.1, (hk _ _ l4).trans h4.2.2.2⟩⟩, Lib.hid hb⟩)

set_option maxRecDepth 100000 in
set_option maxHeartbeats 4000000 in
theorem rsame_any : ∀ (d : Nat), d ≤ 1000 → ∀ (x y : Nd) (a1 a2 : Option Addr) (c1 c2 : Nat) (w : World), Kids w w.heap.size a1 x.kids → Fits x c1 → Kids w w.heap.size a2 y.kids → Fits y c2 →
    Calls Try.prog 16 #[.agg #[.int .i64 x.kind, .string ⟨x.text.toArray⟩, .slice a1 x.kids.length c1, .int .i64 x.pos], .agg #[.int .i64 y.kind, .string ⟨y.text.toArray⟩, .slice a2 y.kids.length c2, .int .i64 y.pos], .int .i64 d] w fun e w' => e = .returned (.bool (sameB d x y)) ∧ Below w.heap.size w w'
  | 0, _, x, y, a1, a2, c1, c2, w, hk, hf, hk', hf' => by
    clear hk hf hk' hf'
    go_enter Try.func16, Try.ntmps16
    go_wp2_with fail
    go_ret
    exact ⟨rfl, ((Below.refl _ _).alloc (Nat.le_refl _) _).alloc (by simp) _⟩
  | d + 1, hd, x, y, a1, a2, c1, c2, w, hk, hf, hk', hf' => by
    have ih := rsame_any d (by omega)
    have HI := Lib.hid ih
    have HK := Lib.hid hk
    have HK' := Lib.hid hk'
    have hl63 : x.kids.length ≤ 9223372036854775807 := by have := hf.2.2.2.2.2.1; have := hf.2.2.2.2.2.2.1; omega
    have hl63' : y.kids.length ≤ 9223372036854775807 := by have := hf'.2.2.2.2.2.1; have := hf'.2.2.2.2.2.2.1; omega
    have hcap : x.kids.length ≤ c1 := hf.2.2.2.2.2.1
    have hcap' : y.kids.length ≤ c2 := hf'.2.2.2.2.2.1
    have h0 : ((d : Int) + 1 == 0) = false := by simp; omega
    have hwd : IntKind.i64.wrap (d : Int) = d := by rw [IntKind.wrap_i64]; omega
    have hba : Below w.heap.size w ((w.alloc (.cells #[.int .i64 x.kind, .string ⟨x.text.toArray⟩, .slice a1 x.kids.length c1, .int .i64 x.pos] 24)).alloc (.cells #[.int .i64 y.kind, .string ⟨y.text.toArray⟩, .slice a2 y.kids.length c2, .int .i64 y.pos] 24)) := ((Below.refl _ _).alloc (Nat.le_refl _) _).alloc (by simp) _
    have HB0 := Lib.hid hba
    clear ih hk hf hk' hf' hba
    go_enter Try.func16, Try.ntmps16
    cases h1 : (x.kind == y.kind) with
    | false =>
      have HE := Lib.hid (show sameB (d + 1) x y = false by rw [sameB, h1]; rfl)
      have h1' : (x.kind != y.kind) = true := by simp [bne, h1]
      go_wp2_with fail
      go_ret
      exact ⟨ret_bool HE.out.symm, HB0.out⟩
    | true =>
      have h1' : (x.kind != y.kind) = false := by simp [bne, h1]
      cases h2 : (x.text == y.text) with
      | false =>
        have HE := Lib.hid (show sameB (d + 1) x y = false by rw [sameB, h1, h2]; rfl)
        have h3 : ¬ x.text = y.text := by simpa using h2
        go_wp2_with fail
        go_ret
        exact ⟨ret_bool HE.out.symm, HB0.out⟩
      | true =>
        have HS := Lib.hid (show sameB (d + 1) x y = eqL (sameB d) x.kids y.kids by rw [sameB, h1, h2]; rfl)
        by_cases hl : x.kids.length = y.kids.length
        · have e1 : ((x.kids.length : Int) == (y.kids.length : Int)) = true := by simp [hl]
          have e2 : ((x.kids.length : Int) != (y.kids.length : Int)) = false := by simp [hl]
          have HL := Lib.hid hl
          clear hl
          go_wp2_with fail
          go_loopw [7] (fun i wr => ∃ k : Nat, k ≤ x.kids.length ∧ i = .int .i64 k ∧ (∀ j (p : j < x.kids.length) (q : j < y.kids.length), j < k → sameB d x.kids[j] y.kids[j] = true) ∧ Below w.heap.size w wr ∧
            (wr.cell? ⟨w.heap.size, 0, none⟩ = some (.int .i64 x.kind) ∧ wr.cell? ⟨w.heap.size, 1, none⟩ = some (.string ⟨x.text.toArray⟩) ∧ wr.cell? ⟨w.heap.size, 2, none⟩ = some (.slice (a1) x.kids.length c1) ∧ wr.cell? ⟨w.heap.size, 3, none⟩ = some (.int .i64 x.pos)) ∧ (wr.cell? ⟨w.heap.size + 1, 0, none⟩ = some (.int .i64 y.kind) ∧ wr.cell? ⟨w.heap.size + 1, 1, none⟩ = some (.string ⟨y.text.toArray⟩) ∧ wr.cell? ⟨w.heap.size + 1, 2, none⟩ = some (.slice (a2) y.kids.length c2) ∧ wr.cell? ⟨w.heap.size + 1, 3, none⟩ = some (.int .i64 y.pos))) (fun i _ => x.kids.length - (intOf i).toNat)
          case atStart => exact ⟨0, by omega, rfl, fun j _ _ h => by omega, HB0.out, ⟨by simp [go_sem], by simp [go_sem], by simp [go_sem], by simp [go_sem]⟩, by simp [go_sem], by simp [go_sem], by simp [go_sem], by simp [go_sem]⟩
          case round =>
            obtain ⟨k, hk1, rfl, hall, hb, ⟨x0, x1, x2, x3⟩, y0, y1, y2, y3⟩ := hrel
            have HB := Lib.hid hb
            have HA := Lib.hid hall
            clear hb hall
            by_cases hlt : k < x.kids.length
            · have hlt' : k < y.kids.length := by have := HL.out; omega
              obtain ⟨b, off, a', c', ha, hbB, ⟨p0, p1, p2, p3⟩, hf, hn⟩ := (HK.out.on HB.out).get hlt
              obtain ⟨b', off', a'', c'', ha', hbB', ⟨q0, q1, q2, q3⟩, hf', hn'⟩ := (HK'.out.on HB.out).get hlt'
              subst ha ha'
              have hlb : b < wr.heap.size := hbB
              have hlb' : b' < wr.heap.size := hbB'
              cases hs : sameB d x.kids[k] y.kids[k]
              all_goals
                have hcall := HI.out x.kids[k] y.kids[k] a' a'' c' c'' wr.drew (hn.on (Below.refl _ _).drew) hf (hn'.on (Below.refl _ _).drew) hf'
                rw [hs] at hcall
                have HC := Lib.hid (kid_post (W := wr.drew) (x := x) (y := y) (u := x.kids[k]) (v := y.kids[k]) ⟨x0, x1, x2, x3⟩ ⟨y0, y1, y2, y3⟩ ⟨p0, p1, p2, p3⟩ ⟨q0, q1, q2, q3⟩ hcall)
                have HSK := Lib.hid hs
                clear hf hn hf' hn' hs hcall
                go_wp2_with fail
                go_region_held3 (fun w' => (w'.cell? ⟨w.heap.size, 0, none⟩ = some (.int .i64 x.kind) ∧ w'.cell? ⟨w.heap.size, 1, none⟩ = some (.string ⟨x.text.toArray⟩) ∧ w'.cell? ⟨w.heap.size, 2, none⟩ = some (.slice (some ⟨b, off, none⟩) x.kids.length c1) ∧ w'.cell? ⟨w.heap.size, 3, none⟩ = some (.int .i64 x.pos)) ∧ (w'.cell? ⟨w.heap.size + 1, 0, none⟩ = some (.int .i64 y.kind) ∧ w'.cell? ⟨w.heap.size + 1, 1, none⟩ = some (.string ⟨y.text.toArray⟩) ∧ w'.cell? ⟨w.heap.size + 1, 2, none⟩ = some (.slice (some ⟨b', off', none⟩) y.kids.length c2) ∧ w'.cell? ⟨w.heap.size + 1, 3, none⟩ = some (.int .i64 y.pos)) ∧
                    (w'.cell? ⟨b, off + k * 4, none⟩ = some (.int .i64 x.kids[k].kind) ∧ w'.cell? ⟨b, off + k * 4 + 1, none⟩ = some (.string ⟨x.kids[k].text.toArray⟩) ∧ w'.cell? ⟨b, off + k * 4 + 2, none⟩ = some (.slice a' x.kids[k].kids.length c') ∧ w'.cell? ⟨b, off + k * 4 + 3, none⟩ = some (.int .i64 x.kids[k].pos)) ∧
                    (w'.cell? ⟨b', off' + k * 4, none⟩ = some (.int .i64 y.kids[k].kind) ∧ w'.cell? ⟨b', off' + k * 4 + 1, none⟩ = some (.string ⟨y.kids[k].text.toArray⟩) ∧ w'.cell? ⟨b', off' + k * 4 + 2, none⟩ = some (.slice a'' y.kids[k].kids.length c'') ∧ w'.cell? ⟨b', off' + k * 4 + 3, none⟩ = some (.int .i64 y.kids[k].pos))) (go_keep)
                  (first
                    | (go_at_call 16
                       refine HC.out.mono ?_
                       rintro e w1 ⟨rfl, ⟨⟨x0, x1, x2, x3⟩, ⟨y0, y1, y2, y3⟩, ⟨p0, p1, p2, p3⟩, ⟨q0, q1, q2, q3⟩⟩, hb1⟩))
              · all_goals
                  go_wp2_with fail
                  go_ret
                  exact ⟨ret_bool (by rw [HS.out, eqL_bad hlt hlt' HSK.out]), bext HB.out (bext (Below.refl _ _).drew hb1.out)⟩
              · all_goals
                  go_wp2_with fail
                  go_roundw
                  case rel =>
                    have hnew : ∀ j (p : j < x.kids.length) (q : j < y.kids.length), j < k + 1 → sameB d x.kids[j] y.kids[j] = true := fun j p q hj => by
                      by_cases e : j < k
                      · exact HA.out j p q e
                      · obtain rfl : j = k := by omega
                        exact HSK.out
                    first
                      | exact ⟨k + 1, by omega, by go_num, hnew, bext HB.out (bext (Below.refl _ _).drew hb1.out), ⟨x0, x1, x2, x3⟩, y0, y1, y2, y3⟩
                      | ((repeat apply Exists.intro); exact ⟨⟨k + 1, by omega, by go_num, hnew, bext HB.out (bext (Below.refl _ _).drew hb1.out), ⟨x0, x1, x2, x3⟩, y0, y1, y2, y3⟩, rfl⟩)
                  case measure => simp [intOf]; omega
            · obtain rfl : k = x.kids.length := by omega
              go_wp2_with fail
              go_ret
              exact ⟨ret_bool (by rw [HS.out, eqL_true HL.out (fun j p q => HA.out j p q p)]), HB.out⟩
        · have HE := Lib.hid (show sameB (d + 1) x y = false by rw [HS.out]; exact eqL_far hl)
          have e1 : ((x.kids.length : Int) == (y.kids.length : Int)) = false := by simp; omega
          have e2 : ((x.kids.length : Int) != (y.kids.length : Int)) = true := by simp; omega
          clear hl
          go_wp2_with fail
          go_ret
          exact ⟨ret_bool HE.out.symm, HB0.out⟩
end Go.Proofs.Ytnmebgiiajnnjaa
