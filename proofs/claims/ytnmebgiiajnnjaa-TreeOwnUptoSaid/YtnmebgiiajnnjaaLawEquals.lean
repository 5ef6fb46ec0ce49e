/-
  the law TreeEquals, walked
-/
import Derived.Test.YtnmebgiiajnnjaaAwake
namespace Go.Proofs.Ytnmebgiiajnnjaa
set_option linter.unusedSimpArgs false
set_option linter.unusedVariables false
open Go.RowKit

theorem eqL_refl {f : Nd → Nd → Bool} {l : List Nd} : (∀ k, k ∈ l → f k k = true) → eqL f l l = true := by
  induction l with
  | nil => intro _; rfl
  | cons x r ih => intro h; rw [eqL, h x (by simp), ih (fun k hk => h k (by simp [hk]))]; rfl
theorem eqL_refl_false {f : Nd → Nd → Bool} {l : List Nd} {k : Nd} (hk : k ∈ l) (h : f k k = false) : eqL f l l = false := by
  induction l with
  | nil => cases hk
  | cons x r ih =>
    rw [eqL]
    rcases List.mem_cons.1 hk with rfl | hk
    · rw [h]; rfl
    · rw [ih hk]; simp
theorem heights_get : ∀ {l : List Nd} {n : Nat}, n < Nd.heights l → ∃ k, k ∈ l ∧ n < k.height
  | [], n, h => by simp [Nd.heights] at h
  | t :: ts, n, h => by
    rw [Nd.heights] at h
    by_cases h1 : n < t.height
    · exact ⟨t, by simp, h1⟩
    · obtain ⟨k, hk, h2⟩ := heights_get (l := ts) (n := n) (by omega)
      exact ⟨k, by simp [hk], h2⟩
theorem sameB_refl : ∀ (d : Nat) (t : Nd), sameB d t t = decide (t.height ≤ d)
  | 0, t => by have := Nd.height_eq t; simp [sameB]; omega
  | d + 1, t => by
    have h := Nd.height_eq t
    by_cases hd : t.height ≤ d + 1
    · rw [decide_eq_true hd, sameB, eqL_refl (fun k hk => by rw [sameB_refl d k]; have := Nd.height_kid hk; simp; omega)]; simp
    · obtain ⟨k, hk, h2⟩ := heights_get (l := t.kids) (n := d) (by omega)
      rw [decide_eq_false hd, sameB, eqL_refl_false hk (by rw [sameB_refl d k]; simp; omega)]; simp
theorem eqL_symm {f : Nd → Nd → Bool} (h : ∀ x y, f x y = f y x) : ∀ l m : List Nd, eqL f l m = eqL f m l
  | [], [] => rfl
  | [], _ :: _ => rfl
  | _ :: _, [] => rfl
  | x :: xs, y :: ys => by rw [eqL, eqL, h x y, eqL_symm h xs ys]
theorem beq_symm' {α : Type} [BEq α] [LawfulBEq α] (x y : α) : (x == y) = (y == x) := by
  rw [Bool.eq_iff_iff]; simp; exact ⟨fun h => h.symm, fun h => h.symm⟩
theorem sameB_symm : ∀ (d : Nat) (x y : Nd), sameB d x y = sameB d y x
  | 0, _, _ => rfl
  | d + 1, x, y => by rw [sameB, sameB, eqL_symm (sameB_symm d), beq_symm' x.kind, beq_symm' x.text]
theorem eqL_trans {f : Nd → Nd → Bool} (h : ∀ x y z, f x y = true → f y z = true → f x z = true) : ∀ l m n : List Nd, eqL f l m = true → eqL f m n = true → eqL f l n = true
  | [], [], _, _, hn => hn
  | [], _ :: _, _, hm, _ => by simp [eqL] at hm
  | _ :: _, [], _, hm, _ => by simp [eqL] at hm
  | _ :: _, _ :: _, [], _, hn => by simp [eqL] at hn
  | x :: xs, y :: ys, z :: zs, hm, hn => by
    rw [eqL, Bool.and_eq_true] at hm hn ⊢
    exact ⟨h x y z hm.1 hn.1, eqL_trans h xs ys zs hm.2 hn.2⟩
theorem sameB_trans : ∀ (d : Nat) (x y z : Nd), sameB d x y = true → sameB d y z = true → sameB d x z = true
  | 0, _, _, _, h, _ => h
  | d + 1, x, y, z, h, k => by
    rw [sameB, Bool.and_eq_true, Bool.and_eq_true] at h k ⊢
    simp only [beq_iff_eq] at h k ⊢
    exact ⟨h.1.trans k.1, h.2.1.trans k.2.1, eqL_trans (sameB_trans d) _ _ _ h.2.2 k.2.2⟩

/-- Three nodes lie in memory, boxed from block B on. -/
structure Trio (x y z : Nd) (a1 a2 a3 : Option Addr) (c1 c2 c3 : Nat) (B : Nat) (W : World) : Prop where
  glob : Glob W
  k1 : Kids W W.heap.size a1 x.kids
  k2 : Kids W W.heap.size a2 y.kids
  k3 : Kids W W.heap.size a3 z.kids
  f1 : Fits x c1
  f2 : Fits y c2
  f3 : Fits z c3
  b1 : (W.cell? ⟨B, 0, none⟩ = some (.int .i64 x.kind) ∧ W.cell? ⟨B, 1, none⟩ = some (.string ⟨x.text.toArray⟩) ∧ W.cell? ⟨B, 2, none⟩ = some (.slice (a1) x.kids.length c1) ∧ W.cell? ⟨B, 3, none⟩ = some (.int .i64 x.pos))
  b2 : (W.cell? ⟨B + 1, 0, none⟩ = some (.int .i64 y.kind) ∧ W.cell? ⟨B + 1, 1, none⟩ = some (.string ⟨y.text.toArray⟩) ∧ W.cell? ⟨B + 1, 2, none⟩ = some (.slice (a2) y.kids.length c2) ∧ W.cell? ⟨B + 1, 3, none⟩ = some (.int .i64 y.pos))
  b3 : (W.cell? ⟨B + 1 + 1, 0, none⟩ = some (.int .i64 z.kind) ∧ W.cell? ⟨B + 1 + 1, 1, none⟩ = some (.string ⟨z.text.toArray⟩) ∧ W.cell? ⟨B + 1 + 1, 2, none⟩ = some (.slice (a3) z.kids.length c3) ∧ W.cell? ⟨B + 1 + 1, 3, none⟩ = some (.int .i64 z.pos))
section
variable {x y z : Nd} {a1 a2 a3 : Option Addr} {c1 c2 c3 B : Nat} {W W' : World}
theorem Trio.on (h : Trio x y z a1 a2 a3 c1 c2 c3 B W) (hb : Below W.heap.size W W') : Trio x y z a1 a2 a3 c1 c2 c3 B W' :=
  ⟨h.glob.on hb, h.k1.on hb, h.k2.on hb, h.k3.on hb, h.f1, h.f2, h.f3, cells_on hb h.b1.1 h.b1.2.1 h.b1.2.2.1 h.b1.2.2.2, cells_on hb h.b2.1 h.b2.2.1 h.b2.2.2.1 h.b2.2.2.2, cells_on hb h.b3.1 h.b3.2.1 h.b3.2.2.1 h.b3.2.2.2⟩
/-- What a call leaves that turns nothing: its answer, the boxes, all else. -/
abbrev TrioPost (x y z : Nd) (a1 a2 a3 : Option Addr) (c1 c2 c3 B : Nat) (v : Value) (W : World) (e : Ending) (w' : World) : Prop :=
  e = .returned v ∧ ((w'.cell? ⟨B, 0, none⟩ = some (.int .i64 x.kind) ∧ w'.cell? ⟨B, 1, none⟩ = some (.string ⟨x.text.toArray⟩) ∧ w'.cell? ⟨B, 2, none⟩ = some (.slice (a1) x.kids.length c1) ∧ w'.cell? ⟨B, 3, none⟩ = some (.int .i64 x.pos)) ∧ (w'.cell? ⟨B + 1, 0, none⟩ = some (.int .i64 y.kind) ∧ w'.cell? ⟨B + 1, 1, none⟩ = some (.string ⟨y.text.toArray⟩) ∧ w'.cell? ⟨B + 1, 2, none⟩ = some (.slice (a2) y.kids.length c2) ∧ w'.cell? ⟨B + 1, 3, none⟩ = some (.int .i64 y.pos)) ∧ (w'.cell? ⟨B + 1 + 1, 0, none⟩ = some (.int .i64 z.kind) ∧ w'.cell? ⟨B + 1 + 1, 1, none⟩ = some (.string ⟨z.text.toArray⟩) ∧ w'.cell? ⟨B + 1 + 1, 2, none⟩ = some (.slice (a3) z.kids.length c3) ∧ w'.cell? ⟨B + 1 + 1, 3, none⟩ = some (.int .i64 z.pos))) ∧ Hid (Trio x y z a1 a2 a3 c1 c2 c3 B w' ∧ Below W.heap.size W w')
theorem trio_post (h : Trio x y z a1 a2 a3 c1 c2 c3 B W) {f : Nat} {args : Array Value} {v : Value} (hc : Calls Try.prog f args W fun e w' => e = .returned v ∧ Below W.heap.size W w') :
    Calls Try.prog f args W (TrioPost x y z a1 a2 a3 c1 c2 c3 B v W) :=
  hc.mono (fun e w' ⟨he, hb⟩ => ⟨he, ⟨(h.on hb).b1, (h.on hb).b2, (h.on hb).b3⟩, Lib.hid ⟨h.on hb, hb⟩⟩)
theorem trio_depth (h : Trio x y z a1 a2 a3 c1 c2 c3 B W) : Calls Try.prog 11 #[.agg #[.int .i64 x.kind, .string ⟨x.text.toArray⟩, .slice a1 x.kids.length c1, .int .i64 x.pos]] W (TrioPost x y z a1 a2 a3 c1 c2 c3 B (.int .i64 (min (x.height : Int) 101)) W) :=
  trio_post h (by have := depth_any x a1 c1 W h.k1 h.f1; rw [deepest_walk] at this; exact this)
theorem trio_same11 (h : Trio x y z a1 a2 a3 c1 c2 c3 B W) {b : Bool} (hs : decide (x.height ≤ 100) = b) : Calls Try.prog 10 #[.agg #[.int .i64 x.kind, .string ⟨x.text.toArray⟩, .slice a1 x.kids.length c1, .int .i64 x.pos], .agg #[.int .i64 x.kind, .string ⟨x.text.toArray⟩, .slice a1 x.kids.length c1, .int .i64 x.pos]] W (TrioPost x y z a1 a2 a3 c1 c2 c3 B (.bool b) W) :=
  trio_post h (by have := Same_any x x a1 a1 c1 c1 W h.k1 h.f1 h.k1 h.f1; rw [sameB_refl, hs] at this; exact this)
theorem trio_same12 (h : Trio x y z a1 a2 a3 c1 c2 c3 B W) {b : Bool} (hs : sameB 100 x y = b) : Calls Try.prog 10 #[.agg #[.int .i64 x.kind, .string ⟨x.text.toArray⟩, .slice a1 x.kids.length c1, .int .i64 x.pos], .agg #[.int .i64 y.kind, .string ⟨y.text.toArray⟩, .slice a2 y.kids.length c2, .int .i64 y.pos]] W (TrioPost x y z a1 a2 a3 c1 c2 c3 B (.bool b) W) :=
  trio_post h (by have := Same_any x y a1 a2 c1 c2 W h.k1 h.f1 h.k2 h.f2; rw [hs] at this; exact this)
theorem trio_same21 (h : Trio x y z a1 a2 a3 c1 c2 c3 B W) {b : Bool} (hs : sameB 100 x y = b) : Calls Try.prog 10 #[.agg #[.int .i64 y.kind, .string ⟨y.text.toArray⟩, .slice a2 y.kids.length c2, .int .i64 y.pos], .agg #[.int .i64 x.kind, .string ⟨x.text.toArray⟩, .slice a1 x.kids.length c1, .int .i64 x.pos]] W (TrioPost x y z a1 a2 a3 c1 c2 c3 B (.bool b) W) :=
  trio_post h (by have := Same_any y x a2 a1 c2 c1 W h.k2 h.f2 h.k1 h.f1; rw [sameB_symm, hs] at this; exact this)
theorem trio_same23 (h : Trio x y z a1 a2 a3 c1 c2 c3 B W) {b : Bool} (hs : sameB 100 y z = b) : Calls Try.prog 10 #[.agg #[.int .i64 y.kind, .string ⟨y.text.toArray⟩, .slice a2 y.kids.length c2, .int .i64 y.pos], .agg #[.int .i64 z.kind, .string ⟨z.text.toArray⟩, .slice a3 z.kids.length c3, .int .i64 z.pos]] W (TrioPost x y z a1 a2 a3 c1 c2 c3 B (.bool b) W) :=
  trio_post h (by have := Same_any y z a2 a3 c2 c3 W h.k2 h.f2 h.k3 h.f3; rw [hs] at this; exact this)
theorem trio_same13 (h : Trio x y z a1 a2 a3 c1 c2 c3 B W) {b : Bool} (hs : sameB 100 x z = b) : Calls Try.prog 10 #[.agg #[.int .i64 x.kind, .string ⟨x.text.toArray⟩, .slice a1 x.kids.length c1, .int .i64 x.pos], .agg #[.int .i64 z.kind, .string ⟨z.text.toArray⟩, .slice a3 z.kids.length c3, .int .i64 z.pos]] W (TrioPost x y z a1 a2 a3 c1 c2 c3 B (.bool b) W) :=
  trio_post h (by have := Same_any x z a1 a3 c1 c3 W h.k1 h.f1 h.k3 h.f3; rw [hs] at this; exact this)
def smB (m : Int) (t : Nd) : Bool := decide (wrap64 (walkL 1000 t).length ≤ m)
theorem trio_small1 (h : Trio x y z a1 a2 a3 c1 c2 c3 B W) {b : Bool} (hs : smB 500 x = b) : Calls Try.prog 9 #[.agg #[.int .i64 x.kind, .string ⟨x.text.toArray⟩, .slice a1 x.kids.length c1, .int .i64 x.pos], .int .i64 500] W (TrioPost x y z a1 a2 a3 c1 c2 c3 B (.bool b) W) :=
  trio_post h (by have := small_any 500 x a1 c1 W h.k1 h.f1; unfold smB at hs; rw [hs] at this; exact this)
theorem trio_small2 (h : Trio x y z a1 a2 a3 c1 c2 c3 B W) {b : Bool} (hs : smB 500 y = b) : Calls Try.prog 9 #[.agg #[.int .i64 y.kind, .string ⟨y.text.toArray⟩, .slice a2 y.kids.length c2, .int .i64 y.pos], .int .i64 500] W (TrioPost x y z a1 a2 a3 c1 c2 c3 B (.bool b) W) :=
  trio_post h (by have := small_any 500 y a2 c2 W h.k2 h.f2; unfold smB at hs; rw [hs] at this; exact this)
theorem trio_small3 (h : Trio x y z a1 a2 a3 c1 c2 c3 B W) {b : Bool} (hs : smB 500 z = b) : Calls Try.prog 9 #[.agg #[.int .i64 z.kind, .string ⟨z.text.toArray⟩, .slice a3 z.kids.length c3, .int .i64 z.pos], .int .i64 500] W (TrioPost x y z a1 a2 a3 c1 c2 c3 B (.bool b) W) :=
  trio_post h (by have := small_any 500 z a3 c3 W h.k3 h.f3; unfold smB at hs; rw [hs] at this; exact this)
theorem trio_awake (h : Trio x y z a1 a2 a3 c1 c2 c3 B W) : Calls Try.prog 12 #[] W (TrioPost x y z a1 a2 a3 c1 c2 c3 B (.bool true) W) := trio_post h (awake_any W h.glob)
end

set_option maxRecDepth 100000 in
set_option maxHeartbeats 4000000 in
theorem equals_law (x y z : Nd) (a1 a2 a3 : Option Addr) (c1 c2 c3 : Nat) (w : World) (hg : Glob w) (hk1 : Kids w w.heap.size a1 x.kids) (hf1 : Fits x c1) (hk2 : Kids w w.heap.size a2 y.kids) (hf2 : Fits y c2) (hk3 : Kids w w.heap.size a3 z.kids) (hf3 : Fits z c3) :
    Calls Try.prog 3 #[.agg #[.int .i64 x.kind, .string ⟨x.text.toArray⟩, .slice a1 x.kids.length c1, .int .i64 x.pos], .agg #[.int .i64 y.kind, .string ⟨y.text.toArray⟩, .slice a2 y.kids.length c2, .int .i64 y.pos], .agg #[.int .i64 z.kind, .string ⟨z.text.toArray⟩, .slice a3 z.kids.length c3, .int .i64 z.pos]] w fun e w' => e = .returned (.bool true) ∧ Below w.heap.size w w' := by
  obtain ⟨wa, hwa⟩ : ∃ wa, ((w.alloc (.cells #[.int .i64 x.kind, .string ⟨x.text.toArray⟩, .slice a1 x.kids.length c1, .int .i64 x.pos] 24)).alloc (.cells #[.int .i64 y.kind, .string ⟨y.text.toArray⟩, .slice a2 y.kids.length c2, .int .i64 y.pos] 24)).alloc (.cells #[.int .i64 z.kind, .string ⟨z.text.toArray⟩, .slice a3 z.kids.length c3, .int .i64 z.pos] 24) = wa := ⟨_, rfl⟩
  have hba : Below w.heap.size w wa := by rw [← hwa]; exact (((Below.refl _ _).alloc (Nat.le_refl _) _).alloc (by simp) _).alloc (by simp; omega) _
  have hr : Trio x y z a1 a2 a3 c1 c2 c3 w.heap.size wa := by
    refine ⟨hg.on hba, hk1.on hba, hk2.on hba, hk3.on hba, hf1, hf2, hf3, ⟨?_, ?_, ?_, ?_⟩, ⟨?_, ?_, ?_, ?_⟩, ⟨?_, ?_, ?_, ?_⟩⟩ <;> rw [← hwa] <;> simp [go_sem]
  rw [← hwa] at hba hr
  have HB := Lib.hid hba
  have HR := Lib.hid hr
  clear hba hr hwa hg hk1 hk2 hk3 hf1 hf2 hf3
  go_enter Try.func3, Try.ntmps3
  cases hs1 : smB 500 x with
  | false =>
    have HC := Lib.hid (trio_small1 HR.out hs1)
    clear hs1
    go_wp2_with fail
    refine HC.out.mono ?_
    rintro e w1 ⟨rfl, -, hr1⟩
    go_wp2_with fail
    go_ret
    exact ⟨rfl, bext HB.out hr1.out.2⟩
  | true =>
    have HC := Lib.hid (trio_small1 HR.out hs1)
    clear hs1
    go_wp2_with fail
    refine HC.out.mono ?_
    rintro e w1 ⟨rfl, ⟨⟨x0, x1, x2, x3⟩, ⟨y0, y1, y2, y3⟩, ⟨z0, z1, z2, z3⟩⟩, hr1⟩
    have HB1 := Lib.hid (bext HB.out hr1.out.2)
    have HR1 := Lib.hid hr1.out.1
    clear HC HR HB hr1
    cases hs2 : smB 500 y with
    | false =>
      have HC := Lib.hid (trio_small2 HR1.out hs2)
      clear hs2
      go_wp2_with fail
      refine HC.out.mono ?_
      rintro e w2 ⟨rfl, -, hr2⟩
      go_wp2_with fail
      go_ret
      exact ⟨rfl, bext HB1.out hr2.out.2⟩
    | true =>
      have HC := Lib.hid (trio_small2 HR1.out hs2)
      clear hs2
      go_wp2_with fail
      refine HC.out.mono ?_
      clear x0 x1 x2 x3 y0 y1 y2 y3 z0 z1 z2 z3
      rintro e w2 ⟨rfl, ⟨⟨x0, x1, x2, x3⟩, ⟨y0, y1, y2, y3⟩, ⟨z0, z1, z2, z3⟩⟩, hr2⟩
      have HB2 := Lib.hid (bext HB1.out hr2.out.2)
      have HR2 := Lib.hid hr2.out.1
      clear HC HR1 HB1 hr2
      cases hs3 : smB 500 z with
      | false =>
        have HC := Lib.hid (trio_small3 HR2.out hs3)
        clear hs3
        go_wp2_with fail
        refine HC.out.mono ?_
        rintro e w3 ⟨rfl, -, hr3⟩
        go_wp2_with fail
        go_ret
        exact ⟨rfl, bext HB2.out hr3.out.2⟩
      | true =>
        have HC := Lib.hid (trio_small3 HR2.out hs3)
        clear hs3
        go_wp2_with fail
        refine HC.out.mono ?_
        clear x0 x1 x2 x3 y0 y1 y2 y3 z0 z1 z2 z3
        rintro e w3 ⟨rfl, ⟨⟨x0, x1, x2, x3⟩, ⟨y0, y1, y2, y3⟩, ⟨z0, z1, z2, z3⟩⟩, hr3⟩
        have HB3 := Lib.hid (bext HB2.out hr3.out.2)
        have HR3 := Lib.hid hr3.out.1
        clear HC HR2 HB2 hr3
        cases hd : decide (x.height ≤ 100)
        all_goals
          cases hs12 : sameB 100 x y
          all_goals
            have e1 : decide (min (x.height : Int) 101 ≤ 100) = decide (x.height ≤ 100) := by rw [Bool.eq_iff_iff]; simp; omega
            rw [hd] at e1
            have HC := Lib.hid (trio_same11 (HR3.out.on (Below.refl _ _).drew) hd)
            have HS := Lib.hid hs12
            have HR := HR3
            clear hd hs12 HR3
            have T1 : True := trivial
            have T2 : True := trivial
            go_wp2_with fail
            go_region_held3 (fun w' => (w'.cell? ⟨w.heap.size, 0, none⟩ = some (.int .i64 x.kind) ∧ w'.cell? ⟨w.heap.size, 1, none⟩ = some (.string ⟨x.text.toArray⟩) ∧ w'.cell? ⟨w.heap.size, 2, none⟩ = some (.slice (a1) x.kids.length c1) ∧ w'.cell? ⟨w.heap.size, 3, none⟩ = some (.int .i64 x.pos)) ∧ (w'.cell? ⟨w.heap.size + 1, 0, none⟩ = some (.int .i64 y.kind) ∧ w'.cell? ⟨w.heap.size + 1, 1, none⟩ = some (.string ⟨y.text.toArray⟩) ∧ w'.cell? ⟨w.heap.size + 1, 2, none⟩ = some (.slice (a2) y.kids.length c2) ∧ w'.cell? ⟨w.heap.size + 1, 3, none⟩ = some (.int .i64 y.pos))) (go_keep)
              (first
                | (go_at_call 10
                   clear T1
                   refine HC.out.mono ?_
                   rintro e w4 ⟨rfl, ⟨⟨x0, x1, x2, x3⟩, ⟨y0, y1, y2, y3⟩, ⟨z0, z1, z2, z3⟩⟩, hr4⟩)
                | (go_at_call 11
                   refine (trio_depth hr4.out.1).mono ?_
                   rintro e w5 ⟨rfl, ⟨⟨x0, x1, x2, x3⟩, ⟨y0, y1, y2, y3⟩, ⟨z0, z1, z2, z3⟩⟩, hr5⟩)
                | (go_at_call 10
                   clear T2
                   refine (trio_same12 hr5.out.1 HS.out).mono ?_
                   rintro e w6 ⟨rfl, ⟨⟨x0, x1, x2, x3⟩, ⟨y0, y1, y2, y3⟩, ⟨z0, z1, z2, z3⟩⟩, hr6⟩)
                | (go_at_call 10
                   refine (trio_same21 hr6.out.1 HS.out).mono ?_
                   rintro e w7 ⟨rfl, ⟨⟨x0, x1, x2, x3⟩, ⟨y0, y1, y2, y3⟩, ⟨z0, z1, z2, z3⟩⟩, hr7⟩))
            all_goals
              have HB7 := Lib.hid (bext (bext (bext (bext (bext HB3.out (Below.refl _ _).drew) hr4.out.2) hr5.out.2) hr6.out.2) hr7.out.2)
              have HR7 := Lib.hid hr7.out.1
              clear HB3 hr4 hr5 hr6 hr7 HC HR e1
              go_wp2_with fail
              refine (trio_same12 HR7.out HS.out).mono ?_
              clear x0 x1 x2 x3 y0 y1 y2 y3 z0 z1 z2 z3
              rintro e w8 ⟨rfl, ⟨⟨x0, x1, x2, x3⟩, ⟨y0, y1, y2, y3⟩, ⟨z0, z1, z2, z3⟩⟩, hr8⟩
              have HB8 := Lib.hid (bext HB7.out hr8.out.2)
              have HR8 := Lib.hid hr8.out.1
              clear HB7 HR7 hr8
              first
                | (go_wp2_with fail
                   refine (trio_awake HR8.out).mono ?_
                   rintro e w9 ⟨rfl, -, hr9⟩
                   go_wp2_with fail
                   go_ret
                   exact ⟨rfl, bext HB8.out hr9.out.2⟩)
                | (cases hs23 : sameB 100 y z
                   · have H23 := Lib.hid hs23
                     clear hs23
                     go_wp2_with fail
                     refine (trio_same23 HR8.out H23.out).mono ?_
                     rintro e w9 ⟨rfl, -, hr9⟩
                     go_wp2_with fail
                     refine (trio_awake hr9.out.1).mono ?_
                     rintro e w10 ⟨rfl, -, hr10⟩
                     go_wp2_with fail
                     go_ret
                     exact ⟨rfl, bext (bext HB8.out hr9.out.2) hr10.out.2⟩
                   · have H23 := Lib.hid hs23
                     clear hs23
                     go_wp2_with fail
                     refine (trio_same23 HR8.out H23.out).mono ?_
                     clear x0 x1 x2 x3 y0 y1 y2 y3 z0 z1 z2 z3
                     rintro e w9 ⟨rfl, ⟨⟨x0, x1, x2, x3⟩, ⟨y0, y1, y2, y3⟩, ⟨z0, z1, z2, z3⟩⟩, hr9⟩
                     go_wp2_with fail
                     refine (trio_same13 hr9.out.1 (sameB_trans 100 x y z HS.out H23.out)).mono ?_
                     rintro e w10 ⟨rfl, -, hr10⟩
                     go_wp2_with fail
                     refine (trio_awake hr10.out.1).mono ?_
                     rintro e w11 ⟨rfl, -, hr11⟩
                     go_wp2_with fail
                     go_ret
                     exact ⟨rfl, bext (bext (bext HB8.out hr9.out.2) hr10.out.2) hr11.out.2⟩)
end Go.Proofs.Ytnmebgiiajnnjaa
