/-
  names: the law's plainly, walked.
-/
import Derived.Deep.RegionHeld3
import Derived.Test.YtfcpblclfgkdjaaDoorNmF
namespace Go.Proofs.YtfcpblclfgkdjaaDoor
set_option linter.unusedSimpArgs false
set_option linter.unusedVariables false
open Go.RowKit

theorem plainTs_app : ∀ {a c : List Ty} (b d : List Ty), a.length = c.length → plainTs (a ++ b) (c ++ d) = (plainTs a c && plainTs b d)
  | [], [], b, d, _ => by rw [List.nil_append, List.nil_append, show plainTs [] [] = true by rw [plainTs], Bool.true_and]
  | [], _ :: _, _, _, h => by cases h
  | _ :: _, [], _, _, h => by cases h
  | x :: a, y :: c, b, d, h => by
    rw [List.cons_append, List.cons_append, plainTs, plainTs, plainTs_app b d (by simpa using h), Bool.and_assoc]
theorem plain_next {l m : List Ty} {k : Nat} (hk : k < l.length) (hk' : k < m.length) (h : plainTs (l.take k) (m.take k) = true) (hp : plainT l[k] m[k] = true) : plainTs (l.take (k + 1)) (m.take (k + 1)) = true := by
  rw [List.take_succ_eq_append_getElem hk, List.take_succ_eq_append_getElem hk', plainTs_app _ _ (by simp; omega), h, Bool.true_and, plainTs, hp, plainTs]; rfl
theorem plain_no {l m : List Ty} {k : Nat} (hk : k < l.length) (hk' : k < m.length) (h : plainTs (l.take k) (m.take k) = true) (hp : plainT l[k] m[k] = false) : plainTs l m = false := by
  have e : plainTs (l.take (k + 1)) (m.take (k + 1)) = false := by
    rw [List.take_succ_eq_append_getElem hk, List.take_succ_eq_append_getElem hk', plainTs_app _ _ (by simp; omega), h, Bool.true_and, plainTs, hp, Bool.false_and]
  have := plainTs_app (a := l.take (k + 1)) (c := m.take (k + 1)) (l.drop (k + 1)) (m.drop (k + 1)) (by simp; omega)
  rw [List.take_append_drop, List.take_append_drop, e, Bool.false_and] at this
  exact this

/-- What the call on two parts leaves. -/
abbrev PairPost (r : Bool) (x y u v : Ty) (a1 a2 a' a'' : Option Addr) (c1 c2 c' c'' B b o b' o' n : Nat) (W : World) (e : Ending) (w' : World) : Prop :=
  e = .returned (.bool r) ∧ (((w'.cell? ⟨B, 0, none⟩ = some (.int .i64 x.kind) ∧ w'.cell? ⟨B, 1, none⟩ = some (.string ⟨x.name.toArray⟩) ∧ w'.cell? ⟨B, 2, none⟩ = some (.slice a1 n c1)) ∧
    (w'.cell? ⟨B + 1, 0, none⟩ = some (.int .i64 y.kind) ∧ w'.cell? ⟨B + 1, 1, none⟩ = some (.string ⟨y.name.toArray⟩) ∧ w'.cell? ⟨B + 1, 2, none⟩ = some (.slice a2 n c2)) ∧
    (w'.cell? ⟨b, o, none⟩ = some (.int .i64 u.kind) ∧ w'.cell? ⟨b, o + 1, none⟩ = some (.string ⟨u.name.toArray⟩) ∧ w'.cell? ⟨b, o + 2, none⟩ = some (.slice a' u.args.length c')) ∧
    (w'.cell? ⟨b', o', none⟩ = some (.int .i64 v.kind) ∧ w'.cell? ⟨b', o' + 1, none⟩ = some (.string ⟨v.name.toArray⟩) ∧ w'.cell? ⟨b', o' + 2, none⟩ = some (.slice a'' v.args.length c''))) ∧ Hid (Below W.heap.size W w'))
theorem pair_post {r : Bool} {x y u v : Ty} {a1 a2 a' a'' : Option Addr} {c1 c2 c' c'' B b o b' o' n : Nat} {W : World} {f : Nat} {args : Array Value}
    (h1 : W.cell? ⟨B, 0, none⟩ = some (.int .i64 x.kind) ∧ W.cell? ⟨B, 1, none⟩ = some (.string ⟨x.name.toArray⟩) ∧ W.cell? ⟨B, 2, none⟩ = some (.slice a1 n c1))
    (h2 : W.cell? ⟨B + 1, 0, none⟩ = some (.int .i64 y.kind) ∧ W.cell? ⟨B + 1, 1, none⟩ = some (.string ⟨y.name.toArray⟩) ∧ W.cell? ⟨B + 1, 2, none⟩ = some (.slice a2 n c2))
    (h3 : TThree W b o u a' c') (h4 : TThree W b' o' v a'' c'')
    (hc : Calls Tryd.prog f args W fun e w' => e = .returned (.bool r) ∧ Below W.heap.size W w') : Calls Tryd.prog f args W (PairPost r x y u v a1 a2 a' a'' c1 c2 c' c'' B b o b' o' n W) :=
  hc.mono (fun e w' ⟨he, hb⟩ =>
    have hk : ∀ {p : Addr} {v : Value}, W.cell? p = some v → w'.cell? p = some v := fun h => (hb.cell (cell_lt1 h)).trans h
    ⟨he, ⟨⟨hk h1.1, hk h1.2.1, hk h1.2.2⟩, ⟨hk h2.1, hk h2.2.1, hk h2.2.2⟩, ⟨hk h3.1, hk h3.2.1, hk h3.2.2⟩, ⟨hk h4.1, hk h4.2.1, hk h4.2.2⟩⟩, Lib.hid hb⟩)

def PlainOk (x : Ty) : Prop := ∀ (y : Ty) (a1 a2 : Option Addr) (c1 c2 : Nat) (w : World), Tids w Any a1 x.args → Fity x c1 → Tids w Any a2 y.args → Fity y c2 →
    Calls Tryd.prog 11 #[.agg #[.int .i64 x.kind, .string ⟨x.name.toArray⟩, .slice a1 x.args.length c1], .agg #[.int .i64 y.kind, .string ⟨y.name.toArray⟩, .slice a2 y.args.length c2]] w fun e w' => e = .returned (.bool (plainT x y)) ∧ Below w.heap.size w w'
set_option maxRecDepth 100000 in
set_option maxHeartbeats 8000000 in
theorem plain_any : ∀ (x : Ty), PlainOk x := by
  refine Ty.ind (fun x ih => ?_)
  intro y a1 a2 c1 c2 w hk hf hk' hf'
  have HI := Lib.hid ih
  have HK := Lib.hid hk
  have HK' := Lib.hid hk'
  have hl63 : x.args.length ≤ 9223372036854775807 := by have := hf.2.2.1; have := hf.2.2.2.1; omega
  have hl63' : y.args.length ≤ 9223372036854775807 := by have := hf'.2.2.1; have := hf'.2.2.2.1; omega
  have hba : Below w.heap.size w ((w.alloc (.cells #[.int .i64 x.kind, .string ⟨x.name.toArray⟩, .slice a1 x.args.length c1] 28)).alloc (.cells #[.int .i64 y.kind, .string ⟨y.name.toArray⟩, .slice a2 y.args.length c2] 28)) := ((Below.refl _ _).alloc (Nat.le_refl _) _).alloc (by simp) _
  have HB0 := Lib.hid hba
  have hpl : plainT x y = (decide (x.kind = y.kind) && ((!(decide (x.kind = 1) || decide (x.kind = 3)) || decide (x.name = y.name)) && plainTs x.args y.args)) := by
    obtain ⟨k, n, l⟩ := x
    obtain ⟨k', n', l'⟩ := y
    exact plainT_mk k k' n n' l l'
  have HP := Lib.hid hpl
  clear ih hk hf hk' hf' hba hpl
  by_cases e1 : ¬ x.kind = y.kind
  · have n1 : (x.kind != y.kind) = true := by simpa using e1
    have HV := Lib.hid (show plainT x y = false by rw [HP.out, decide_eq_false e1, Bool.false_and])
    go_enter Tryd.func11, Tryd.ntmps11
    go_wp2_with fail
    all_goals
      go_ret
      exact ⟨by rw [HV.out]; rfl, HB0.out⟩
  replace e1 : x.kind = y.kind := Decidable.not_not.1 e1
  have n1 : (x.kind != y.kind) = false := by simpa using e1
  by_cases e2 : (x.kind = 1 ∨ x.kind = 3) ∧ ¬ x.name = y.name
  · have HV := Lib.hid (show plainT x y = false by
      rw [HP.out, decide_eq_false e2.2]
      rcases e2.1 with h | h <;> simp [h])
    have n2 : (x.name == y.name) = false := by simpa using e2.2
    rcases (show ((x.kind == 1) = true) ∨ ((x.kind == 1) = false ∧ (x.kind == 3) = true) by
      rcases e2.1 with h | h
      · exact .inl (by simpa using h)
      · exact .inr ⟨by rw [h]; rfl, by simpa using h⟩) with t1 | ⟨t1, t3⟩
    all_goals
      clear e1 e2
      go_enter Tryd.func11, Tryd.ntmps11
      go_wp2_with fail
      all_goals
        go_ret
        exact ⟨by rw [HV.out]; rfl, HB0.out⟩
  have HP2 : Hid (plainT x y = plainTs x.args y.args) := Lib.hid (by
    rw [HP.out, decide_eq_true e1, Bool.true_and]
    by_cases h : x.kind = 1 ∨ x.kind = 3
    · have : x.name = y.name := Decidable.byContradiction fun hn => e2 ⟨h, hn⟩
      rw [decide_eq_true this, Bool.or_true, Bool.true_and]
    · have h1 : ¬ x.kind = 1 := fun e => h (.inl e)
      have h3 : ¬ x.kind = 3 := fun e => h (.inr e)
      rw [decide_eq_false h1, decide_eq_false h3]; rfl)
  have hcase : ((x.kind == 1) = true ∧ (x.name == y.name) = true) ∨ ((x.kind == 1) = false ∧ (x.kind == 3) = true ∧ (x.name == y.name) = true) ∨ ((x.kind == 1) = false ∧ (x.kind == 3) = false) := by
    by_cases h1 : x.kind = 1
    · exact .inl ⟨by simpa using h1, by simpa using Decidable.byContradiction fun hn => e2 ⟨.inl h1, hn⟩⟩
    · by_cases h3 : x.kind = 3
      · exact .inr (.inl ⟨by simpa using h1, by simpa using h3, by simpa using Decidable.byContradiction fun hn => e2 ⟨.inr h3, hn⟩⟩)
      · exact .inr (.inr ⟨by simpa using h1, by simpa using h3⟩)
  clear e1 e2 HP
  have HLEN := Lib.hid (fun e => plainL_len (l := x.args) (m := y.args) e)
  obtain ⟨lx, hlx⟩ : ∃ n, x.args.length = n := ⟨_, rfl⟩
  obtain ⟨ly, hly⟩ : ∃ n, y.args.length = n := ⟨_, rfl⟩
  rw [hlx] at hl63 HB0 HLEN ⊢
  rw [hly] at hl63' HB0 HLEN ⊢
  have HLX := Lib.hid hlx
  have HLY := Lib.hid hly
  clear hlx hly
  by_cases e3 : ¬ lx = ly
  · have HV := Lib.hid (show plainT x y = false by
      rw [HP2.out]
      cases e : plainTs x.args y.args with
      | false => rfl
      | true => exact absurd (HLEN.out e) e3)
    have n4 : ((lx : Int) == (ly : Int)) = false := by simp; omega
    rcases hcase with ⟨t1, t2⟩ | ⟨t1, t3, t2⟩ | ⟨t1, t3⟩
    all_goals
      go_enter Tryd.func11, Tryd.ntmps11
      go_wp2_with fail
      all_goals
        go_ret
        exact ⟨by rw [HV.out]; rfl, HB0.out⟩
  obtain rfl : lx = ly := Decidable.not_not.1 e3
  clear e3
  rcases hcase with ⟨t1, t2⟩ | ⟨t1, t3, t2⟩ | ⟨t1, t3⟩
  all_goals
    go_enter Tryd.func11, Tryd.ntmps11
    go_wp2_with fail
    go_loopw [5] (fun i wr => ∃ k : Nat, k ≤ lx ∧ i = .int .i64 k ∧ Hid (plainTs (x.args.take k) (y.args.take k) = true) ∧ Below w.heap.size w wr ∧
      (wr.cell? ⟨w.heap.size, 0, none⟩ = some (.int .i64 x.kind) ∧ wr.cell? ⟨w.heap.size, 1, none⟩ = some (.string ⟨x.name.toArray⟩) ∧ wr.cell? ⟨w.heap.size, 2, none⟩ = some (.slice a1 lx c1)) ∧
      (wr.cell? ⟨w.heap.size + 1, 0, none⟩ = some (.int .i64 y.kind) ∧ wr.cell? ⟨w.heap.size + 1, 1, none⟩ = some (.string ⟨y.name.toArray⟩) ∧ wr.cell? ⟨w.heap.size + 1, 2, none⟩ = some (.slice a2 lx c2))) (fun i _ => lx - (intOf i).toNat)
    case atStart => exact ⟨0, by omega, rfl, Lib.hid (by rw [List.take_zero, List.take_zero, plainTs]), HB0.out, ⟨by simp [go_sem], by simp [go_sem], by simp [go_sem]⟩, by simp [go_sem], by simp [go_sem], by simp [go_sem]⟩
    case round =>
      obtain ⟨k, hk1, rfl, HPR, hb, ⟨x0, x1, x2⟩, y0, y1, y2⟩ := hrel
      have HB := Lib.hid hb
      clear hb
      by_cases hlt : k < lx
      · have hkx : k < x.args.length := by rw [HLX.out]; exact hlt
        have hky : k < y.args.length := by rw [HLY.out]; exact hlt
        obtain ⟨b, off, a', c', ha, -, ⟨p0, p1, p2⟩, hf, hn⟩ := (HK.out.on HB.out).get hkx
        obtain ⟨b', off', a'', c'', ha', -, ⟨q0, q1, q2⟩, hf', hn'⟩ := (HK'.out.on HB.out).get hky
        subst ha ha'
        have hcall := HI.out x.args[k] (List.getElem_mem hkx) y.args[k] a' a'' c' c'' wr.drew (hn.on (Below.refl _ _).drew) hf (hn'.on (Below.refl _ _).drew) hf'
        have HNX := Lib.hid (fun e => plain_next hkx hky HPR.out e)
        have HNO := Lib.hid (fun e => plain_no hkx hky HPR.out e)
        obtain ⟨u, hu⟩ : ∃ u, x.args[k] = u := ⟨_, rfl⟩
        obtain ⟨v, hv⟩ : ∃ v, y.args[k] = v := ⟨_, rfl⟩
        rw [hu] at p0 p1 p2 hf hn hcall HNX HNO
        rw [hv] at q0 q1 q2 hf' hn' hcall HNX HNO
        obtain ⟨r, hr⟩ : ∃ r, plainT u v = r := ⟨_, rfl⟩
        rw [hr] at hcall HNX HNO
        have HC := Lib.hid (pair_post (W := wr.drew) (x := x) (y := y) (u := u) (v := v) (a1 := some ⟨b, off, none⟩) (a2 := some ⟨b', off', none⟩) (c1 := c1) (c2 := c2) (B := w.heap.size) (n := lx) ⟨x0, x1, x2⟩ ⟨y0, y1, y2⟩ ⟨p0, p1, p2⟩ ⟨q0, q1, q2⟩ hcall)
        clear hf hn hf' hn' hcall hu hv hr hkx hky
        go_wp2_with fail
        go_region_held3 (fun w' => (w'.cell? ⟨w.heap.size, 0, none⟩ = some (.int .i64 x.kind) ∧ w'.cell? ⟨w.heap.size, 1, none⟩ = some (.string ⟨x.name.toArray⟩) ∧ w'.cell? ⟨w.heap.size, 2, none⟩ = some (.slice (some ⟨b, off, none⟩) lx c1)) ∧
            (w'.cell? ⟨w.heap.size + 1, 0, none⟩ = some (.int .i64 y.kind) ∧ w'.cell? ⟨w.heap.size + 1, 1, none⟩ = some (.string ⟨y.name.toArray⟩) ∧ w'.cell? ⟨w.heap.size + 1, 2, none⟩ = some (.slice (some ⟨b', off', none⟩) lx c2)) ∧
            (w'.cell? ⟨b, off + k * 3, none⟩ = some (.int .i64 u.kind) ∧ w'.cell? ⟨b, off + k * 3 + 1, none⟩ = some (.string ⟨u.name.toArray⟩) ∧ w'.cell? ⟨b, off + k * 3 + 2, none⟩ = some (.slice a' u.args.length c')) ∧
            (w'.cell? ⟨b', off' + k * 3, none⟩ = some (.int .i64 v.kind) ∧ w'.cell? ⟨b', off' + k * 3 + 1, none⟩ = some (.string ⟨v.name.toArray⟩) ∧ w'.cell? ⟨b', off' + k * 3 + 2, none⟩ = some (.slice a'' v.args.length c''))) (go_keep)
          (first
            | (go_at_call 11
               refine HC.out.mono ?_
               rintro e w1 ⟨rfl, ⟨⟨x0, x1, x2⟩, ⟨y0, y1, y2⟩, ⟨p0, p1, p2⟩, ⟨q0, q1, q2⟩⟩, hb1⟩))
        all_goals
          cases r with
          | true =>
            go_wp2_with fail
            go_roundw
            case rel => exact ⟨k + 1, by omega, by go_num, Lib.hid (HNX.out rfl), bext HB.out (bext (Below.refl _ _).drew hb1.out), ⟨x0, x1, x2⟩, y0, y1, y2⟩
            case measure => simp [intOf]; omega
          | false =>
            have HV := Lib.hid (HNO.out rfl)
            go_wp2_with fail
            go_ret
            exact ⟨by rw [HP2.out, HV.out]; rfl, bext HB.out (bext (Below.refl _ _).drew hb1.out)⟩
      · obtain rfl : k = lx := by omega
        have HE := Lib.hid (show plainTs x.args y.args = true by
          have h1 := HPR.out
          rw [List.take_of_length_le (by rw [HLX.out]; exact Nat.le_refl _), List.take_of_length_le (by rw [HLY.out]; exact Nat.le_refl _)] at h1
          exact h1)
        go_wp2_with fail
        go_ret
        exact ⟨by rw [HP2.out, HE.out]; rfl, HB.out⟩
end Go.Proofs.YtfcpblclfgkdjaaDoor
