/-
  the law TreeNones, walked (of a node whose count does not wrap)
-/
import Derived.Test.YtnmebgiiajnnjaaBoxes
import Derived.Test.YtnmebgiiajnnjaaLawEquals
import Derived.Test.YtnmebgiiajnnjaaSwapB
import Derived.Test.YtnmebgiiajnnjaaFindB
namespace Go.Proofs.Ytnmebgiiajnnjaa
set_option linter.unusedSimpArgs false
set_option linter.unusedVariables false
open Go.RowKit

theorem Row.form {Zo : Nat → Prop} {B : Nat} {l : List Nd} {v : Value} {wr : World} (h : Row Zo B l v wr) : ∃ a c, v = .slice a l.length c := by
  obtain ⟨L, _, hown, _⟩ := h
  rcases hown.2 with ⟨rfl, h0⟩ | ⟨g', cap, cur, rfl, _⟩
  · exact ⟨none, 0, by rw [h0]⟩
  · exact ⟨_, _, rfl⟩
theorem map_id' {f : Nd → Nd} {l : List Nd} (h : ∀ k, k ∈ l → f k = k) : l.map f = l := by
  induction l with
  | nil => rfl
  | cons x r ih => rw [List.map_cons, h x (by simp), ih (fun k hk => h k (by simp [hk]))]
theorem copyL_same (f : Nd → Option Nd) : ∀ (d : Nat) (t : Nd), (∀ x, x ∈ nodesL d t → f x = none) → copyL f d t = t
  | 0, t, _ => rfl
  | d + 1, t, h => by
    rw [nodesL_succ] at h
    rw [copyL, h t (by simp), map_id' (fun k hk => copyL_same f d k (fun x hx => h x (by simp only [List.mem_cons, List.mem_flatMap]; exact .inr ⟨k, hk, hx⟩))), Nd.eta]
theorem eqL_map {f : Nd → Nd → Bool} {g : Nd → Nd} {l : List Nd} (h : ∀ k, k ∈ l → f (g k) k = true) : eqL f (l.map g) l = true := by
  induction l with
  | nil => rfl
  | cons x r ih => rw [List.map_cons, eqL, h x (by simp), ih (fun k hk => h k (by simp [hk]))]; rfl
/-- Replaced by what is the same but for its place. -/
theorem sameB_copy (kind : Int) (text : List UInt8) (y : Nd) (hy : y.kind = kind ∧ y.text = text ∧ y.kids = []) : ∀ (d : Nat) (t : Nd), t.height ≤ d → sameB d (copyL (swapF kind text y) d t) t = true
  | 0, t, h => by have := Nd.height_eq t; omega
  | d + 1, t, h => by
    rw [copyL]
    cases hf : swapF kind text y t with
    | some z =>
      have hz : z = y ∧ (t.kind == kind && (t.text == text && t.kids.isEmpty)) = true := by
        unfold swapF at hf; split at hf <;> simp_all
      obtain ⟨rfl, hm⟩ := hz
      simp only [Bool.and_eq_true, beq_iff_eq, List.isEmpty_iff] at hm
      simp [sameB, hy.1, hy.2.1, hy.2.2, hm.1, hm.2.1, hm.2.2, eqL]
    | none =>
      simp only [sameB, Nd.kind_mk, Nd.text_mk, Nd.kids_mk]
      rw [eqL_map (fun k hk => sameB_copy kind text y hy d k (by have := Nd.height_kid hk; omega))]
      simp
theorem nodes_none {kind : Int} {l : List Nd} (h : findL kind l = []) {x : Nd} (hx : x ∈ l) : (x.kind == kind) = false := by
  cases e : (x.kind == kind) with
  | false => rfl
  | true =>
    have : x ∈ findL kind l := List.mem_filter.2 ⟨hx, e⟩
    rw [h] at this; cases this

section
variable {t1 : Nd} {a1 : Option Addr} {c1 B1 : Nat} {W : World}
theorem bx1_small (h : Bx1 t1 a1 c1 B1 W) {b : Bool} (hs : smB 500 t1 = b) : Calls Try.prog 9 #[.agg #[.int .i64 t1.kind, .string ⟨t1.text.toArray⟩, .slice a1 t1.kids.length c1, .int .i64 t1.pos], .int .i64 500] W (Bx1Post t1 a1 c1 B1 (.bool b) W) :=
  bx1_post h (by have := small_any 500 t1 a1 c1 W h.k1 h.f1; unfold smB at hs; rw [hs] at this; exact this)
theorem bx1_depth (h : Bx1 t1 a1 c1 B1 W) : Calls Try.prog 11 #[.agg #[.int .i64 t1.kind, .string ⟨t1.text.toArray⟩, .slice a1 t1.kids.length c1, .int .i64 t1.pos]] W (Bx1Post t1 a1 c1 B1 (.int .i64 (min (t1.height : Int) 101)) W) :=
  bx1_post h (by have := depth_any t1 a1 c1 W h.k1 h.f1; rw [deepest_walk] at this; exact this)
theorem bx1_find (kind : Int) (hN : (walkL 100 t1).length ≤ 1048576) (h : Bx1 t1 a1 c1 B1 W) {n : Nat} (hn : (findL kind (nodesL 100 t1)).length = n) : Calls Try.prog 18 #[.agg #[.int .i64 t1.kind, .string ⟨t1.text.toArray⟩, .slice a1 t1.kids.length c1, .int .i64 t1.pos], .int .i64 kind] W
    (fun e w' => ∃ a c, e = .returned (.slice a n c) ∧ (w'.cell? ⟨B1, 0, none⟩ = some (.int .i64 t1.kind) ∧ w'.cell? ⟨B1, 1, none⟩ = some (.string ⟨t1.text.toArray⟩) ∧ w'.cell? ⟨B1, 2, none⟩ = some (.slice (a1) t1.kids.length c1) ∧ w'.cell? ⟨B1, 3, none⟩ = some (.int .i64 t1.pos)) ∧ Hid (Bx1 t1 a1 c1 B1 w' ∧ Below W.heap.size W w')) :=
  (find_any t1 a1 c1 kind W hN h.k1 h.f1).mono (fun e w' ⟨hb, v, he, hrow⟩ => by
    obtain ⟨a, c, rfl⟩ := hrow.form
    rw [hn] at he
    exact ⟨a, c, he, (h.on hb).b1, Lib.hid ⟨h.on hb, hb⟩⟩)
theorem bx1_swap (kind : Int) (text : List UInt8) (y : Nd) (cy : Nat) (h : Bx1 t1 a1 c1 B1 W) (hy : y.kids = []) (hfy : Fits y cy) : Calls Try.prog 14 #[.agg #[.int .i64 t1.kind, .string ⟨t1.text.toArray⟩, .slice a1 t1.kids.length c1, .int .i64 t1.pos], .int .i64 kind, .string ⟨text.toArray⟩, .agg #[.int .i64 y.kind, .string ⟨y.text.toArray⟩, .slice none y.kids.length cy, .int .i64 y.pos]] W
    (fun e w' => ∃ (r : Nd) (a3 : Option Addr) (c3 : Nat), e = .returned (.agg #[.int .i64 r.kind, .string ⟨r.text.toArray⟩, .slice a3 r.kids.length c3, .int .i64 r.pos]) ∧ (w'.cell? ⟨B1, 0, none⟩ = some (.int .i64 t1.kind) ∧ w'.cell? ⟨B1, 1, none⟩ = some (.string ⟨t1.text.toArray⟩) ∧ w'.cell? ⟨B1, 2, none⟩ = some (.slice (a1) t1.kids.length c1) ∧ w'.cell? ⟨B1, 3, none⟩ = some (.int .i64 t1.pos)) ∧ Hid (Bx1 t1 a1 c1 B1 w' ∧ Below W.heap.size W w' ∧ Fits r c3 ∧ Kids w' w'.heap.size a3 r.kids ∧ r = copyL (swapF kind text y) 100 t1)) :=
  (swap_any t1 y a1 none c1 cy kind text W h.k1 h.f1 (by rw [hy]; exact Kids.nil _ _ _) hfy).mono (fun e w' ⟨hb, a3, c3, he, hf, hk⟩ => ⟨_, a3, c3, he, (h.on hb).b1, Lib.hid ⟨h.on hb, hb, hf, hk, rfl⟩⟩)
end
section
variable {t1 t2 : Nd} {a1 a2 : Option Addr} {c1 c2 B1 B2 : Nat} {W : World}
theorem bx2_swap (kind : Int) (text : List UInt8) (y : Nd) (cy : Nat) (h : Bx2 t1 t2 a1 a2 c1 c2 B1 B2 W) (hy : y.kids = []) (hfy : Fits y cy) : Calls Try.prog 14 #[.agg #[.int .i64 t1.kind, .string ⟨t1.text.toArray⟩, .slice a1 t1.kids.length c1, .int .i64 t1.pos], .int .i64 kind, .string ⟨text.toArray⟩, .agg #[.int .i64 y.kind, .string ⟨y.text.toArray⟩, .slice none y.kids.length cy, .int .i64 y.pos]] W
    (fun e w' => ∃ (r : Nd) (a3 : Option Addr) (c3 : Nat), e = .returned (.agg #[.int .i64 r.kind, .string ⟨r.text.toArray⟩, .slice a3 r.kids.length c3, .int .i64 r.pos]) ∧ ((w'.cell? ⟨B1, 0, none⟩ = some (.int .i64 t1.kind) ∧ w'.cell? ⟨B1, 1, none⟩ = some (.string ⟨t1.text.toArray⟩) ∧ w'.cell? ⟨B1, 2, none⟩ = some (.slice (a1) t1.kids.length c1) ∧ w'.cell? ⟨B1, 3, none⟩ = some (.int .i64 t1.pos)) ∧ (w'.cell? ⟨B2, 0, none⟩ = some (.int .i64 t2.kind) ∧ w'.cell? ⟨B2, 1, none⟩ = some (.string ⟨t2.text.toArray⟩) ∧ w'.cell? ⟨B2, 2, none⟩ = some (.slice (a2) t2.kids.length c2) ∧ w'.cell? ⟨B2, 3, none⟩ = some (.int .i64 t2.pos))) ∧ Hid (Bx2 t1 t2 a1 a2 c1 c2 B1 B2 w' ∧ Below W.heap.size W w' ∧ Fits r c3 ∧ Kids w' w'.heap.size a3 r.kids ∧ r = copyL (swapF kind text y) 100 t1)) :=
  (swap_any t1 y a1 none c1 cy kind text W h.k1 h.f1 (by rw [hy]; exact Kids.nil _ _ _) hfy).mono (fun e w' ⟨hb, a3, c3, he, hf, hk⟩ => ⟨_, a3, c3, he, ⟨(h.on hb).b1, (h.on hb).b2⟩, Lib.hid ⟨h.on hb, hb, hf, hk, rfl⟩⟩)
end
section
variable {t1 t2 t3 : Nd} {a1 a2 a3 : Option Addr} {c1 c2 c3 B1 B2 B3 : Nat} {W : World}
theorem bx3_same21 (h : Bx3 t1 t2 t3 a1 a2 a3 c1 c2 c3 B1 B2 B3 W) (hs : sameB 100 t2 t1 = true) : Calls Try.prog 10 #[.agg #[.int .i64 t2.kind, .string ⟨t2.text.toArray⟩, .slice a2 t2.kids.length c2, .int .i64 t2.pos], .agg #[.int .i64 t1.kind, .string ⟨t1.text.toArray⟩, .slice a1 t1.kids.length c1, .int .i64 t1.pos]] W (Bx3Post t1 t2 t3 a1 a2 a3 c1 c2 c3 B1 B2 B3 (.bool true) W) :=
  bx3_post h (by have := Same_any t2 t1 a2 a1 c2 c1 W h.k2 h.f2 h.k1 h.f1; rw [hs] at this; exact this)
theorem bx3_same31 (h : Bx3 t1 t2 t3 a1 a2 a3 c1 c2 c3 B1 B2 B3 W) (hs : sameB 100 t3 t1 = true) : Calls Try.prog 10 #[.agg #[.int .i64 t3.kind, .string ⟨t3.text.toArray⟩, .slice a3 t3.kids.length c3, .int .i64 t3.pos], .agg #[.int .i64 t1.kind, .string ⟨t1.text.toArray⟩, .slice a1 t1.kids.length c1, .int .i64 t1.pos]] W (Bx3Post t1 t2 t3 a1 a2 a3 c1 c2 c3 B1 B2 B3 (.bool true) W) :=
  bx3_post h (by have := Same_any t3 t1 a3 a1 c3 c1 W h.k3 h.f3 h.k1 h.f1; rw [hs] at this; exact this)
theorem bx3_find1 (kind : Int) (h : Bx3 t1 t2 t3 a1 a2 a3 c1 c2 c3 B1 B2 B3 W) (hN : (walkL 100 t1).length ≤ 1048576) {n : Nat} (hn : (findL kind (nodesL 100 t1)).length = n) : Calls Try.prog 18 #[.agg #[.int .i64 t1.kind, .string ⟨t1.text.toArray⟩, .slice a1 t1.kids.length c1, .int .i64 t1.pos], .int .i64 kind] W
    (fun e w' => ∃ a c, e = .returned (.slice a n c) ∧ ((w'.cell? ⟨B1, 0, none⟩ = some (.int .i64 t1.kind) ∧ w'.cell? ⟨B1, 1, none⟩ = some (.string ⟨t1.text.toArray⟩) ∧ w'.cell? ⟨B1, 2, none⟩ = some (.slice (a1) t1.kids.length c1) ∧ w'.cell? ⟨B1, 3, none⟩ = some (.int .i64 t1.pos)) ∧ (w'.cell? ⟨B2, 0, none⟩ = some (.int .i64 t2.kind) ∧ w'.cell? ⟨B2, 1, none⟩ = some (.string ⟨t2.text.toArray⟩) ∧ w'.cell? ⟨B2, 2, none⟩ = some (.slice (a2) t2.kids.length c2) ∧ w'.cell? ⟨B2, 3, none⟩ = some (.int .i64 t2.pos)) ∧ (w'.cell? ⟨B3, 0, none⟩ = some (.int .i64 t3.kind) ∧ w'.cell? ⟨B3, 1, none⟩ = some (.string ⟨t3.text.toArray⟩) ∧ w'.cell? ⟨B3, 2, none⟩ = some (.slice (a3) t3.kids.length c3) ∧ w'.cell? ⟨B3, 3, none⟩ = some (.int .i64 t3.pos))) ∧ Hid (Bx3 t1 t2 t3 a1 a2 a3 c1 c2 c3 B1 B2 B3 w' ∧ Below W.heap.size W w')) :=
  (find_any t1 a1 c1 kind W hN h.k1 h.f1).mono (fun e w' ⟨hb, v, he, hrow⟩ => by
    obtain ⟨a, c, rfl⟩ := hrow.form
    rw [hn] at he
    exact ⟨a, c, he, ⟨(h.on hb).b1, (h.on hb).b2, (h.on hb).b3⟩, Lib.hid ⟨h.on hb, hb⟩⟩)
theorem bx3_find2 (kind : Int) (h : Bx3 t1 t2 t3 a1 a2 a3 c1 c2 c3 B1 B2 B3 W) (hN : (walkL 100 t2).length ≤ 1048576) {n : Nat} (hn : (findL kind (nodesL 100 t2)).length = n) : Calls Try.prog 18 #[.agg #[.int .i64 t2.kind, .string ⟨t2.text.toArray⟩, .slice a2 t2.kids.length c2, .int .i64 t2.pos], .int .i64 kind] W
    (fun e w' => ∃ a c, e = .returned (.slice a n c) ∧ ((w'.cell? ⟨B1, 0, none⟩ = some (.int .i64 t1.kind) ∧ w'.cell? ⟨B1, 1, none⟩ = some (.string ⟨t1.text.toArray⟩) ∧ w'.cell? ⟨B1, 2, none⟩ = some (.slice (a1) t1.kids.length c1) ∧ w'.cell? ⟨B1, 3, none⟩ = some (.int .i64 t1.pos)) ∧ (w'.cell? ⟨B2, 0, none⟩ = some (.int .i64 t2.kind) ∧ w'.cell? ⟨B2, 1, none⟩ = some (.string ⟨t2.text.toArray⟩) ∧ w'.cell? ⟨B2, 2, none⟩ = some (.slice (a2) t2.kids.length c2) ∧ w'.cell? ⟨B2, 3, none⟩ = some (.int .i64 t2.pos)) ∧ (w'.cell? ⟨B3, 0, none⟩ = some (.int .i64 t3.kind) ∧ w'.cell? ⟨B3, 1, none⟩ = some (.string ⟨t3.text.toArray⟩) ∧ w'.cell? ⟨B3, 2, none⟩ = some (.slice (a3) t3.kids.length c3) ∧ w'.cell? ⟨B3, 3, none⟩ = some (.int .i64 t3.pos))) ∧ Hid (Bx3 t1 t2 t3 a1 a2 a3 c1 c2 c3 B1 B2 B3 w' ∧ Below W.heap.size W w')) :=
  (find_any t2 a2 c2 kind W hN h.k2 h.f2).mono (fun e w' ⟨hb, v, he, hrow⟩ => by
    obtain ⟨a, c, rfl⟩ := hrow.form
    rw [hn] at he
    exact ⟨a, c, he, ⟨(h.on hb).b1, (h.on hb).b2, (h.on hb).b3⟩, Lib.hid ⟨h.on hb, hb⟩⟩)
theorem bx3_awake (h : Bx3 t1 t2 t3 a1 a2 a3 c1 c2 c3 B1 B2 B3 W) : Calls Try.prog 12 #[] W (Bx3Post t1 t2 t3 a1 a2 a3 c1 c2 c3 B1 B2 B3 (.bool true) W) := bx3_post h (awake_any W h.glob)
end

def y1 : Nd := .mk 1 [] [] 0
def y18 (text : List UInt8) : Nd := .mk 18 text [] 0
theorem y1_fits : Fits y1 0 := ⟨by decide, by decide, by decide, by decide, by decide, by decide, by decide, by decide⟩
theorem y18_fits (text : List UInt8) (h : text.length ≤ 140737488351232) : Fits (y18 text) 0 := ⟨by simp [y18], by simp [y18], by simp [y18], by simp [y18], h, by simp [y18], by decide, by simp [y18]⟩

set_option maxRecDepth 100000 in
set_option maxHeartbeats 8000000 in
theorem nones_law (t : Nd) (a : Option Addr) (c : Nat) (text : List UInt8) (ht : text.length ≤ 140737488351232) (w : World) (hN : (walkL 100 t).length ≤ 1048576) (hg : Glob w) (hk : Kids w w.heap.size a t.kids) (hf : Fits t c) :
    Calls Try.prog 8 #[.agg #[.int .i64 t.kind, .string ⟨t.text.toArray⟩, .slice a t.kids.length c, .int .i64 t.pos], .string ⟨text.toArray⟩] w fun e w' => e = .returned (.bool true) ∧ Below w.heap.size w w' := by
  have hba := below_alloc w (.cells #[.int .i64 t.kind, .string ⟨t.text.toArray⟩, .slice a t.kids.length c, .int .i64 t.pos] 24)
  have hd : Bx1 t a c w.heap.size (w.alloc (.cells #[.int .i64 t.kind, .string ⟨t.text.toArray⟩, .slice a t.kids.length c, .int .i64 t.pos] 24)) := by
    refine ⟨hg.on hba, hk.on hba, hf, ⟨?_, ?_, ?_, ?_⟩⟩ <;> simp [go_sem]
  have HB := Lib.hid hba
  have HD := Lib.hid hd
  have HY := Lib.hid (y18_fits text ht)
  clear hba hd hg hk hf ht
  go_enter Try.func8, Try.ntmps8
  go_wp2_with fail
  cases hs1 : smB 500 t with
  | false =>
    refine (bx1_small HD.out hs1).mono ?_
    rintro e w1 ⟨rfl, -, hr1⟩
    go_wp2_with fail
    go_ret
    exact ⟨rfl, bext HB.out hr1.out.2⟩
  | true =>
    refine (bx1_small HD.out hs1).mono ?_
    rintro e w1 ⟨rfl, ⟨x0, x1, x2, x3⟩, hr1⟩
    have HB1 := Lib.hid (bext HB.out hr1.out.2)
    have HD1 := Lib.hid hr1.out.1
    clear HB HD hr1 hs1
    by_cases hh : t.height ≤ 100
    · have e1 : decide ((100 : Int) < min (t.height : Int) 101) = false := by simp; omega
      have HH := Lib.hid hh
      clear hh
      go_wp2_with fail
      refine (bx1_depth HD1.out).mono ?_
      clear x0 x1 x2 x3
      rintro e w2 ⟨rfl, ⟨x0, x1, x2, x3⟩, hr2⟩
      have HB2 := Lib.hid (bext HB1.out hr2.out.2)
      have HD2 := Lib.hid hr2.out.1
      clear HB1 HD1 hr2
      obtain ⟨n, hn⟩ : ∃ n, (findL (-1) (nodesL 100 t)).length = n := ⟨_, rfl⟩
      have HN := Lib.hid hn
      clear hn
      go_wp2_with fail
      cases n with
      | succ n =>
        have e2 : decide ((0 : Int) < ((n + 1 : Nat) : Int)) = true := by simp; try omega
        refine (bx1_find (-1) hN HD2.out HN.out).mono ?_
        rintro e w3 ⟨av, cv, rfl, -, hr3⟩
        go_wp2_with fail
        go_ret
        exact ⟨rfl, bext HB2.out hr3.out.2⟩
      | zero =>
        refine (bx1_find (-1) hN HD2.out HN.out).mono ?_
        clear x0 x1 x2 x3
        rintro e w3 ⟨av, cv, rfl, ⟨x0, x1, x2, x3⟩, hr3⟩
        have HB3 := Lib.hid (bext HB2.out hr3.out.2)
        have HD3 := Lib.hid hr3.out.1
        clear HB2 HD2 hr3
        have HF := Lib.hid (List.eq_nil_of_length_eq_zero HN.out)
        have HC := Lib.hid (bx1_swap (-1) text y1 0 HD3.out rfl y1_fits)
        go_wp2_with fail
        refine HC.out.mono ?_
        clear x0 x1 x2 x3
        rintro e w4 ⟨r, a2, c2, rfl, ⟨x0, x1, x2, x3⟩, hr4⟩
        have hrt : r = t := by
          rw [hr4.out.2.2.2.2]
          exact copyL_same _ 100 t (fun x hx => by have := nodes_none HF.out hx; simp [swapF, this])
        subst hrt
        have l1 : w.heap.size < w4.heap.size := cell_lt x0
        have hq : Bx2 r r a a2 c c2 w.heap.size w4.heap.size (w4.alloc (.cells #[.int .i64 r.kind, .string ⟨r.text.toArray⟩, .slice a2 r.kids.length c2, .int .i64 r.pos] 24)) := hr4.out.1.box hr4.out.2.2.1 hr4.out.2.2.2.1
        have HB4 := Lib.hid (bext (bext HB3.out hr4.out.2.1) (below_alloc w4 (.cells #[.int .i64 r.kind, .string ⟨r.text.toArray⟩, .slice a2 r.kids.length c2, .int .i64 r.pos] 24)))
        have HC2 := Lib.hid (bx2_swap 18 text (y18 text) 0 hq rfl HY.out)
        clear HB3 HD3 hr4 hq HC
        go_wp2_with fail
        refine HC2.out.mono ?_
        clear x0 x1 x2 x3
        rintro e w5 ⟨r3, a3, c3, rfl, ⟨⟨x0, x1, x2, x3⟩, ⟨y0, y1, y2, y3⟩⟩, hr5⟩
        have l1 : w.heap.size < w5.heap.size := cell_lt x0
        have l2 : w4.heap.size < w5.heap.size := cell_lt y0
        have hq5 : Bx3 r r r3 a a2 a3 c c2 c3 w.heap.size w4.heap.size w5.heap.size (w5.alloc (.cells #[.int .i64 r3.kind, .string ⟨r3.text.toArray⟩, .slice a3 r3.kids.length c3, .int .i64 r3.pos] 24)).drew := (hr5.out.1.box hr5.out.2.2.1 hr5.out.2.2.2.1).on (Below.refl _ _).drew
        have HB5 := Lib.hid (bext (bext HB4.out hr5.out.2.1) (below_alloc w5 (.cells #[.int .i64 r3.kind, .string ⟨r3.text.toArray⟩, .slice a3 r3.kids.length c3, .int .i64 r3.pos] 24)).drew)
        have HR3 := Lib.hid (show sameB 100 r3 r = true by rw [hr5.out.2.2.2.2]; exact sameB_copy 18 text (y18 text) ⟨rfl, rfl, rfl⟩ 100 r HH.out)
        have HR2 := Lib.hid (show sameB 100 r r = true by rw [sameB_refl]; exact decide_eq_true HH.out)
        have HC3 := Lib.hid (bx3_same21 hq5 HR2.out)
        clear HB4 hr5 hq5 HC2
        have T1 : True := trivial
        have T2 : True := trivial
        go_wp2_with fail
        go_region_held3 (fun w' => (w'.cell? ⟨w.heap.size, 0, none⟩ = some (.int .i64 r.kind) ∧ w'.cell? ⟨w.heap.size, 1, none⟩ = some (.string ⟨r.text.toArray⟩) ∧ w'.cell? ⟨w.heap.size, 2, none⟩ = some (.slice (a) r.kids.length c) ∧ w'.cell? ⟨w.heap.size, 3, none⟩ = some (.int .i64 r.pos)) ∧ (w'.cell? ⟨w4.heap.size, 0, none⟩ = some (.int .i64 r.kind) ∧ w'.cell? ⟨w4.heap.size, 1, none⟩ = some (.string ⟨r.text.toArray⟩) ∧ w'.cell? ⟨w4.heap.size, 2, none⟩ = some (.slice (a2) r.kids.length c2) ∧ w'.cell? ⟨w4.heap.size, 3, none⟩ = some (.int .i64 r.pos)) ∧ (w'.cell? ⟨w5.heap.size, 0, none⟩ = some (.int .i64 r3.kind) ∧ w'.cell? ⟨w5.heap.size, 1, none⟩ = some (.string ⟨r3.text.toArray⟩) ∧ w'.cell? ⟨w5.heap.size, 2, none⟩ = some (.slice (a3) r3.kids.length c3) ∧ w'.cell? ⟨w5.heap.size, 3, none⟩ = some (.int .i64 r3.pos))) (go_keep)
          (first
            | (go_at_call 10
               clear T1
               refine HC3.out.mono ?_
               rintro e w6 ⟨rfl, ⟨⟨x0, x1, x2, x3⟩, ⟨y0, y1, y2, y3⟩, ⟨z0, z1, z2, z3⟩⟩, hr6⟩)
            | (go_at_call 10
               refine (bx3_same31 hr6.out.1 HR3.out).mono ?_
               rintro e w7 ⟨rfl, ⟨⟨x0, x1, x2, x3⟩, ⟨y0, y1, y2, y3⟩, ⟨z0, z1, z2, z3⟩⟩, hr7⟩)
            | (go_at_call 18
               clear T2
               refine (bx3_find1 (-1) hr7.out.1 hN HN.out).mono ?_
               rintro e w8 ⟨av8, cv8, rfl, ⟨⟨x0, x1, x2, x3⟩, ⟨y0, y1, y2, y3⟩, ⟨z0, z1, z2, z3⟩⟩, hr8⟩)
            | (go_at_call 18
               refine (bx3_find2 (-1) hr8.out.1 hN HN.out).mono ?_
               rintro e w9 ⟨av9, cv9, rfl, ⟨⟨x0, x1, x2, x3⟩, ⟨y0, y1, y2, y3⟩, ⟨z0, z1, z2, z3⟩⟩, hr9⟩)
            | (go_at_call 12
               refine (bx3_awake hr9.out.1).mono ?_
               rintro e w10 ⟨rfl, ⟨⟨x0, x1, x2, x3⟩, ⟨y0, y1, y2, y3⟩, ⟨z0, z1, z2, z3⟩⟩, hr10⟩))
        all_goals
          go_wp2_with fail
          go_ret
          exact ⟨rfl, bext (bext (bext (bext (bext HB5.out hr6.out.2) hr7.out.2) hr8.out.2) hr9.out.2) hr10.out.2⟩
    · have e1 : decide ((100 : Int) < min (t.height : Int) 101) = true := by simp; omega
      go_wp2_with fail
      refine (bx1_depth HD1.out).mono ?_
      rintro e w2 ⟨rfl, -, hr2⟩
      go_wp2_with fail
      go_ret
      exact ⟨rfl, bext HB1.out hr2.out.2⟩
theorem nones_law_s (t : Nd) (a : Option Addr) (c : Nat) (s : ByteArray) (hs : s.size ≤ 140737488351232) (w : World) (hN : (walkL 100 t).length ≤ 1048576) (hg : Glob w) (hk : Kids w w.heap.size a t.kids) (hf : Fits t c) :
    Calls Try.prog 8 #[.agg #[.int .i64 t.kind, .string ⟨t.text.toArray⟩, .slice a t.kids.length c, .int .i64 t.pos], .string s] w fun e w' => e = .returned (.bool true) ∧ Below w.heap.size w w' := by
  have h := nones_law t a c s.data.toList (by simpa using hs) w hN hg hk hf
  have e : (⟨s.data.toList.toArray⟩ : ByteArray) = s := by cases s; simp
  rw [e] at h
  exact h
end Go.Proofs.Ytnmebgiiajnnjaa
