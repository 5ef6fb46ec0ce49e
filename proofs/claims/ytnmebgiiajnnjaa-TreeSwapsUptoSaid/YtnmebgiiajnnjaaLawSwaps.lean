/-
  the law TreeSwaps, walked (of nodes whose count does not wrap)
-/
import Derived.Test.YtnmebgiiajnnjaaRefE
import Derived.Test.YtnmebgiiajnnjaaLawEquals
namespace Go.Proofs.Ytnmebgiiajnnjaa
set_option linter.unusedSimpArgs false
set_option linter.unusedVariables false
open Go.RowKit

theorem heights_flat {d n : Nat} : ∀ {l : List Nd}, (∀ k, k ∈ l → min k.height d ≤ (walkL d k).length) → n ≤ min (Nd.heights l) d → n ≤ (l.flatMap (walkL d)).length
  | [], _, h => by simp [Nd.heights] at h; omega
  | t :: ts, hl, h => by
    rw [List.flatMap_cons, List.length_append]
    rw [Nd.heights] at h
    have h1 := hl t (by simp)
    by_cases e : n ≤ min t.height d
    · omega
    · have := heights_flat (l := ts) (n := n) (fun k hk => hl k (by simp [hk])) (by omega)
      omega
theorem height_walk : ∀ (d : Nat) (t : Nd), min t.height d ≤ (walkL d t).length
  | 0, t => by omega
  | d + 1, t => by
    rw [walkL, List.length_cons, Nd.height_eq]
    have := heights_flat (d := d) (n := min (Nd.heights t.kids) d) (fun k _ => height_walk d k) (Nat.le_refl _)
    omega
theorem height_small {t : Nd} (hm : (walkL 1000 t).length ≤ 1048576) (h : smB 500 t = true) : t.height ≤ 500 := by
  have h1 := height_walk 1000 t
  unfold smB at h
  have h2 : wrap64 (walkL 1000 t).length ≤ 500 := by simpa using h
  have h3 : wrap64 ((walkL 1000 t).length : Int) = (walkL 1000 t).length := by unfold wrap64; omega
  omega
theorem heights_map {f : Nd → Nd} {m : Nat} : ∀ {l : List Nd}, (∀ k, k ∈ l → (f k).height ≤ m) → Nd.heights (l.map f) ≤ m
  | [], _ => by simp [Nd.heights]
  | t :: ts, h => by
    have h1 := h t (by simp)
    have h2 := heights_map (l := ts) (fun k hk => h k (by simp [hk]))
    rw [List.map_cons, Nd.heights]; omega
theorem copyL_height (f : Nd → Option Nd) (m : Nat) (hf : ∀ x y, f x = some y → y.height ≤ m) : ∀ (d : Nat) (t : Nd), t.height ≤ m → (copyL f d t).height ≤ d + m
  | 0, t, h => by rw [copyL]; omega
  | d + 1, t, h => by
    rw [copyL]
    cases hy : f t with
    | some y => have := hf t y hy; simp only; omega
    | none =>
      simp only
      rw [Nd.height_eq]
      have := heights_map (f := copyL f d) (m := d + m) (l := t.kids) (fun k hk => copyL_height f m hf d k (by have := Nd.height_kid hk; omega))
      simp only [Nd.kids_mk]; omega
theorem copy_height (kind : Int) (text : List UInt8) (x y : Nd) (hx : x.height ≤ 500) (hy : y.height ≤ 500) : (copyL (swapF kind text y) 100 x).height ≤ 1000 := by
  have := copyL_height (swapF kind text y) 500 (fun u v h => by unfold swapF at h; split at h <;> simp_all) 100 x hx
  omega

/-- Two nodes lie in memory, boxed. -/
structure Duo (x y : Nd) (a1 a2 : Option Addr) (c1 c2 : Nat) (B1 B2 : Nat) (W : World) : Prop where
  glob : Glob W
  k1 : Kids W W.heap.size a1 x.kids
  k2 : Kids W W.heap.size a2 y.kids
  f1 : Fits x c1
  f2 : Fits y c2
  b1 : (W.cell? ⟨B1, 0, none⟩ = some (.int .i64 x.kind) ∧ W.cell? ⟨B1, 1, none⟩ = some (.string ⟨x.text.toArray⟩) ∧ W.cell? ⟨B1, 2, none⟩ = some (.slice (a1) x.kids.length c1) ∧ W.cell? ⟨B1, 3, none⟩ = some (.int .i64 x.pos))
  b2 : (W.cell? ⟨B2, 0, none⟩ = some (.int .i64 y.kind) ∧ W.cell? ⟨B2, 1, none⟩ = some (.string ⟨y.text.toArray⟩) ∧ W.cell? ⟨B2, 2, none⟩ = some (.slice (a2) y.kids.length c2) ∧ W.cell? ⟨B2, 3, none⟩ = some (.int .i64 y.pos))
/-- A third besides. -/
structure Trip (x y r : Nd) (a1 a2 a3 : Option Addr) (c1 c2 c3 : Nat) (B1 B2 B3 : Nat) (W : World) : Prop where
  duo : Duo x y a1 a2 c1 c2 B1 B2 W
  k3 : Kids W W.heap.size a3 r.kids
  f3 : Fits r c3
  b3 : (W.cell? ⟨B3, 0, none⟩ = some (.int .i64 r.kind) ∧ W.cell? ⟨B3, 1, none⟩ = some (.string ⟨r.text.toArray⟩) ∧ W.cell? ⟨B3, 2, none⟩ = some (.slice (a3) r.kids.length c3) ∧ W.cell? ⟨B3, 3, none⟩ = some (.int .i64 r.pos))
/-- A fourth, the same as the third. -/
structure Quad (x y r : Nd) (a1 a2 a3 a4 : Option Addr) (c1 c2 c3 c4 : Nat) (B1 B2 B3 B4 : Nat) (W : World) : Prop where
  trip : Trip x y r a1 a2 a3 c1 c2 c3 B1 B2 B3 W
  k4 : Kids W W.heap.size a4 r.kids
  f4 : Fits r c4
  b4 : (W.cell? ⟨B4, 0, none⟩ = some (.int .i64 r.kind) ∧ W.cell? ⟨B4, 1, none⟩ = some (.string ⟨r.text.toArray⟩) ∧ W.cell? ⟨B4, 2, none⟩ = some (.slice (a4) r.kids.length c4) ∧ W.cell? ⟨B4, 3, none⟩ = some (.int .i64 r.pos))
section
variable {x y r : Nd} {a1 a2 a3 a4 : Option Addr} {c1 c2 c3 c4 B1 B2 B3 B4 : Nat} {W W' : World}
theorem Duo.on (h : Duo x y a1 a2 c1 c2 B1 B2 W) (hb : Below W.heap.size W W') : Duo x y a1 a2 c1 c2 B1 B2 W' :=
  ⟨h.glob.on hb, h.k1.on hb, h.k2.on hb, h.f1, h.f2, cells_on hb h.b1.1 h.b1.2.1 h.b1.2.2.1 h.b1.2.2.2, cells_on hb h.b2.1 h.b2.2.1 h.b2.2.2.1 h.b2.2.2.2⟩
theorem Trip.on (h : Trip x y r a1 a2 a3 c1 c2 c3 B1 B2 B3 W) (hb : Below W.heap.size W W') : Trip x y r a1 a2 a3 c1 c2 c3 B1 B2 B3 W' :=
  ⟨h.duo.on hb, h.k3.on hb, h.f3, cells_on hb h.b3.1 h.b3.2.1 h.b3.2.2.1 h.b3.2.2.2⟩
theorem Quad.on (h : Quad x y r a1 a2 a3 a4 c1 c2 c3 c4 B1 B2 B3 B4 W) (hb : Below W.heap.size W W') : Quad x y r a1 a2 a3 a4 c1 c2 c3 c4 B1 B2 B3 B4 W' :=
  ⟨h.trip.on hb, h.k4.on hb, h.f4, cells_on hb h.b4.1 h.b4.2.1 h.b4.2.2.1 h.b4.2.2.2⟩
theorem Duo.box (h : Duo x y a1 a2 c1 c2 B1 B2 W) (hf : Fits r c3) (hk : Kids W W.heap.size a3 r.kids) : Trip x y r a1 a2 a3 c1 c2 c3 B1 B2 W.heap.size (W.alloc (.cells #[.int .i64 r.kind, .string ⟨r.text.toArray⟩, .slice a3 r.kids.length c3, .int .i64 r.pos] 24)) := by
  have hb := below_alloc W (.cells #[.int .i64 r.kind, .string ⟨r.text.toArray⟩, .slice a3 r.kids.length c3, .int .i64 r.pos] 24)
  refine ⟨h.on hb, hk.on hb, hf, ⟨?_, ?_, ?_, ?_⟩⟩ <;> simp [go_sem]
theorem Trip.box (h : Trip x y r a1 a2 a3 c1 c2 c3 B1 B2 B3 W) (hf : Fits r c4) (hk : Kids W W.heap.size a4 r.kids) : Quad x y r a1 a2 a3 a4 c1 c2 c3 c4 B1 B2 B3 W.heap.size (W.alloc (.cells #[.int .i64 r.kind, .string ⟨r.text.toArray⟩, .slice a4 r.kids.length c4, .int .i64 r.pos] 24)) := by
  have hb := below_alloc W (.cells #[.int .i64 r.kind, .string ⟨r.text.toArray⟩, .slice a4 r.kids.length c4, .int .i64 r.pos] 24)
  refine ⟨h.on hb, hk.on hb, hf, ⟨?_, ?_, ?_, ?_⟩⟩ <;> simp [go_sem]
abbrev DuoPost (x y : Nd) (a1 a2 : Option Addr) (c1 c2 B1 B2 : Nat) (v : Value) (W : World) (e : Ending) (w' : World) : Prop :=
  e = .returned v ∧ ((w'.cell? ⟨B1, 0, none⟩ = some (.int .i64 x.kind) ∧ w'.cell? ⟨B1, 1, none⟩ = some (.string ⟨x.text.toArray⟩) ∧ w'.cell? ⟨B1, 2, none⟩ = some (.slice (a1) x.kids.length c1) ∧ w'.cell? ⟨B1, 3, none⟩ = some (.int .i64 x.pos)) ∧ (w'.cell? ⟨B2, 0, none⟩ = some (.int .i64 y.kind) ∧ w'.cell? ⟨B2, 1, none⟩ = some (.string ⟨y.text.toArray⟩) ∧ w'.cell? ⟨B2, 2, none⟩ = some (.slice (a2) y.kids.length c2) ∧ w'.cell? ⟨B2, 3, none⟩ = some (.int .i64 y.pos))) ∧ Hid (Duo x y a1 a2 c1 c2 B1 B2 w' ∧ Below W.heap.size W w')
theorem duo_post (h : Duo x y a1 a2 c1 c2 B1 B2 W) {f : Nat} {args : Array Value} {v : Value} (hc : Calls Try.prog f args W fun e w' => e = .returned v ∧ Below W.heap.size W w') : Calls Try.prog f args W (DuoPost x y a1 a2 c1 c2 B1 B2 v W) :=
  hc.mono (fun e w' ⟨he, hb⟩ => ⟨he, ⟨(h.on hb).b1, (h.on hb).b2⟩, Lib.hid ⟨h.on hb, hb⟩⟩)
theorem duo_small1 (h : Duo x y a1 a2 c1 c2 B1 B2 W) {b : Bool} (hs : smB 500 x = b) : Calls Try.prog 9 #[.agg #[.int .i64 x.kind, .string ⟨x.text.toArray⟩, .slice a1 x.kids.length c1, .int .i64 x.pos], .int .i64 500] W (DuoPost x y a1 a2 c1 c2 B1 B2 (.bool b) W) :=
  duo_post h (by have := small_any 500 x a1 c1 W h.k1 h.f1; unfold smB at hs; rw [hs] at this; exact this)
theorem duo_small2 (h : Duo x y a1 a2 c1 c2 B1 B2 W) {b : Bool} (hs : smB 500 y = b) : Calls Try.prog 9 #[.agg #[.int .i64 y.kind, .string ⟨y.text.toArray⟩, .slice a2 y.kids.length c2, .int .i64 y.pos], .int .i64 500] W (DuoPost x y a1 a2 c1 c2 B1 B2 (.bool b) W) :=
  duo_post h (by have := small_any 500 y a2 c2 W h.k2 h.f2; unfold smB at hs; rw [hs] at this; exact this)
theorem duo_swap (kind : Int) (text : List UInt8) (h : Duo x y a1 a2 c1 c2 B1 B2 W) : Calls Try.prog 14 #[.agg #[.int .i64 x.kind, .string ⟨x.text.toArray⟩, .slice a1 x.kids.length c1, .int .i64 x.pos], .int .i64 kind, .string ⟨text.toArray⟩, .agg #[.int .i64 y.kind, .string ⟨y.text.toArray⟩, .slice a2 y.kids.length c2, .int .i64 y.pos]] W
    (fun e w' => ∃ (r : Nd) (a3 : Option Addr) (c3 : Nat), e = .returned (.agg #[.int .i64 r.kind, .string ⟨r.text.toArray⟩, .slice a3 r.kids.length c3, .int .i64 r.pos]) ∧ ((w'.cell? ⟨B1, 0, none⟩ = some (.int .i64 x.kind) ∧ w'.cell? ⟨B1, 1, none⟩ = some (.string ⟨x.text.toArray⟩) ∧ w'.cell? ⟨B1, 2, none⟩ = some (.slice (a1) x.kids.length c1) ∧ w'.cell? ⟨B1, 3, none⟩ = some (.int .i64 x.pos)) ∧ (w'.cell? ⟨B2, 0, none⟩ = some (.int .i64 y.kind) ∧ w'.cell? ⟨B2, 1, none⟩ = some (.string ⟨y.text.toArray⟩) ∧ w'.cell? ⟨B2, 2, none⟩ = some (.slice (a2) y.kids.length c2) ∧ w'.cell? ⟨B2, 3, none⟩ = some (.int .i64 y.pos))) ∧ Hid (Duo x y a1 a2 c1 c2 B1 B2 w' ∧ Below W.heap.size W w' ∧ Fits r c3 ∧ Kids w' w'.heap.size a3 r.kids ∧ r = copyL (swapF kind text y) 100 x)) :=
  (swap_any x y a1 a2 c1 c2 kind text W h.k1 h.f1 h.k2 h.f2).mono (fun e w' ⟨hb, a3, c3, he, hf, hk⟩ => ⟨_, a3, c3, he, ⟨(h.on hb).b1, (h.on hb).b2⟩, Lib.hid ⟨h.on hb, hb, hf, hk, rfl⟩⟩)
theorem trip_swap (kind : Int) (text : List UInt8) (h : Trip x y r a1 a2 a3 c1 c2 c3 B1 B2 B3 W) (hr : r = copyL (swapF kind text y) 100 x) : Calls Try.prog 15 #[.agg #[.int .i64 x.kind, .string ⟨x.text.toArray⟩, .slice a1 x.kids.length c1, .int .i64 x.pos], .int .i64 kind, .string ⟨text.toArray⟩, .agg #[.int .i64 y.kind, .string ⟨y.text.toArray⟩, .slice a2 y.kids.length c2, .int .i64 y.pos], .int .i64 100] W
    (fun e w' => ∃ (a4 : Option Addr) (c4 : Nat), e = .returned (.agg #[.int .i64 r.kind, .string ⟨r.text.toArray⟩, .slice a4 r.kids.length c4, .int .i64 r.pos]) ∧ ((w'.cell? ⟨B1, 0, none⟩ = some (.int .i64 x.kind) ∧ w'.cell? ⟨B1, 1, none⟩ = some (.string ⟨x.text.toArray⟩) ∧ w'.cell? ⟨B1, 2, none⟩ = some (.slice (a1) x.kids.length c1) ∧ w'.cell? ⟨B1, 3, none⟩ = some (.int .i64 x.pos)) ∧ (w'.cell? ⟨B2, 0, none⟩ = some (.int .i64 y.kind) ∧ w'.cell? ⟨B2, 1, none⟩ = some (.string ⟨y.text.toArray⟩) ∧ w'.cell? ⟨B2, 2, none⟩ = some (.slice (a2) y.kids.length c2) ∧ w'.cell? ⟨B2, 3, none⟩ = some (.int .i64 y.pos)) ∧ (w'.cell? ⟨B3, 0, none⟩ = some (.int .i64 r.kind) ∧ w'.cell? ⟨B3, 1, none⟩ = some (.string ⟨r.text.toArray⟩) ∧ w'.cell? ⟨B3, 2, none⟩ = some (.slice (a3) r.kids.length c3) ∧ w'.cell? ⟨B3, 3, none⟩ = some (.int .i64 r.pos))) ∧ Hid (Trip x y r a1 a2 a3 c1 c2 c3 B1 B2 B3 w' ∧ Below W.heap.size W w' ∧ Fits r c4 ∧ Kids w' w'.heap.size a4 r.kids)) := by
  have := rSwap_any x y a1 a2 c1 c2 kind text W h.duo.k1 h.duo.f1 h.duo.k2 h.duo.f2
  rw [← hr] at this
  exact this.mono (fun e w' ⟨hb, a4, c4, he, hf, hk⟩ => ⟨a4, c4, he, ⟨(h.on hb).duo.b1, (h.on hb).duo.b2, (h.on hb).b3⟩, Lib.hid ⟨h.on hb, hb, hf, hk⟩⟩)
abbrev QuadPost (x y r : Nd) (a1 a2 a3 a4 : Option Addr) (c1 c2 c3 c4 B1 B2 B3 B4 : Nat) (v : Value) (W : World) (e : Ending) (w' : World) : Prop :=
  e = .returned v ∧ ((w'.cell? ⟨B1, 0, none⟩ = some (.int .i64 x.kind) ∧ w'.cell? ⟨B1, 1, none⟩ = some (.string ⟨x.text.toArray⟩) ∧ w'.cell? ⟨B1, 2, none⟩ = some (.slice (a1) x.kids.length c1) ∧ w'.cell? ⟨B1, 3, none⟩ = some (.int .i64 x.pos)) ∧ (w'.cell? ⟨B2, 0, none⟩ = some (.int .i64 y.kind) ∧ w'.cell? ⟨B2, 1, none⟩ = some (.string ⟨y.text.toArray⟩) ∧ w'.cell? ⟨B2, 2, none⟩ = some (.slice (a2) y.kids.length c2) ∧ w'.cell? ⟨B2, 3, none⟩ = some (.int .i64 y.pos)) ∧ (w'.cell? ⟨B3, 0, none⟩ = some (.int .i64 r.kind) ∧ w'.cell? ⟨B3, 1, none⟩ = some (.string ⟨r.text.toArray⟩) ∧ w'.cell? ⟨B3, 2, none⟩ = some (.slice (a3) r.kids.length c3) ∧ w'.cell? ⟨B3, 3, none⟩ = some (.int .i64 r.pos)) ∧ (w'.cell? ⟨B4, 0, none⟩ = some (.int .i64 r.kind) ∧ w'.cell? ⟨B4, 1, none⟩ = some (.string ⟨r.text.toArray⟩) ∧ w'.cell? ⟨B4, 2, none⟩ = some (.slice (a4) r.kids.length c4) ∧ w'.cell? ⟨B4, 3, none⟩ = some (.int .i64 r.pos))) ∧ Hid (Quad x y r a1 a2 a3 a4 c1 c2 c3 c4 B1 B2 B3 B4 w' ∧ Below W.heap.size W w')
theorem quad_post (h : Quad x y r a1 a2 a3 a4 c1 c2 c3 c4 B1 B2 B3 B4 W) {f : Nat} {args : Array Value} {v : Value} (hc : Calls Try.prog f args W fun e w' => e = .returned v ∧ Below W.heap.size W w') :
    Calls Try.prog f args W (QuadPost x y r a1 a2 a3 a4 c1 c2 c3 c4 B1 B2 B3 B4 v W) :=
  hc.mono (fun e w' ⟨he, hb⟩ => ⟨he, ⟨(h.on hb).trip.duo.b1, (h.on hb).trip.duo.b2, (h.on hb).trip.b3, (h.on hb).b4⟩, Lib.hid ⟨h.on hb, hb⟩⟩)
theorem quad_rsame34 (h : Quad x y r a1 a2 a3 a4 c1 c2 c3 c4 B1 B2 B3 B4 W) (hr : r.height ≤ 1000) : Calls Try.prog 16 #[.agg #[.int .i64 r.kind, .string ⟨r.text.toArray⟩, .slice a3 r.kids.length c3, .int .i64 r.pos], .agg #[.int .i64 r.kind, .string ⟨r.text.toArray⟩, .slice a4 r.kids.length c4, .int .i64 r.pos], .int .i64 1000] W (QuadPost x y r a1 a2 a3 a4 c1 c2 c3 c4 B1 B2 B3 B4 (.bool true) W) :=
  quad_post h (by have := rsame_any 1000 (by omega) r r a3 a4 c3 c4 W h.trip.k3 h.trip.f3 h.k4 h.f4; rw [sameB_refl, decide_eq_true hr] at this; exact this)
theorem quad_same12 (h : Quad x y r a1 a2 a3 a4 c1 c2 c3 c4 B1 B2 B3 B4 W) {b : Bool} (hs : sameB 100 x y = b) : Calls Try.prog 10 #[.agg #[.int .i64 x.kind, .string ⟨x.text.toArray⟩, .slice a1 x.kids.length c1, .int .i64 x.pos], .agg #[.int .i64 y.kind, .string ⟨y.text.toArray⟩, .slice a2 y.kids.length c2, .int .i64 y.pos]] W (QuadPost x y r a1 a2 a3 a4 c1 c2 c3 c4 B1 B2 B3 B4 (.bool b) W) :=
  quad_post h (by have := Same_any x y a1 a2 c1 c2 W h.trip.duo.k1 h.trip.duo.f1 h.trip.duo.k2 h.trip.duo.f2; rw [hs] at this; exact this)
theorem quad_rsame12 (h : Quad x y r a1 a2 a3 a4 c1 c2 c3 c4 B1 B2 B3 B4 W) {b : Bool} (hs : sameB 100 x y = b) : Calls Try.prog 16 #[.agg #[.int .i64 x.kind, .string ⟨x.text.toArray⟩, .slice a1 x.kids.length c1, .int .i64 x.pos], .agg #[.int .i64 y.kind, .string ⟨y.text.toArray⟩, .slice a2 y.kids.length c2, .int .i64 y.pos], .int .i64 100] W (QuadPost x y r a1 a2 a3 a4 c1 c2 c3 c4 B1 B2 B3 B4 (.bool b) W) :=
  quad_post h (by have := rsame_any 100 (by omega) x y a1 a2 c1 c2 W h.trip.duo.k1 h.trip.duo.f1 h.trip.duo.k2 h.trip.duo.f2; rw [hs] at this; exact this)
theorem quad_copy (h : Quad x y r a1 a2 a3 a4 c1 c2 c3 c4 B1 B2 B3 B4 W) : Calls Try.prog 17 #[.agg #[.int .i64 x.kind, .string ⟨x.text.toArray⟩, .slice a1 x.kids.length c1, .int .i64 x.pos]] W
    (fun e w' => ∃ (a5 : Option Addr) (c5 : Nat), e = .returned (.agg #[.int .i64 x.kind, .string ⟨x.text.toArray⟩, .slice a5 x.kids.length c5, .int .i64 x.pos]) ∧ ((w'.cell? ⟨B1, 0, none⟩ = some (.int .i64 x.kind) ∧ w'.cell? ⟨B1, 1, none⟩ = some (.string ⟨x.text.toArray⟩) ∧ w'.cell? ⟨B1, 2, none⟩ = some (.slice (a1) x.kids.length c1) ∧ w'.cell? ⟨B1, 3, none⟩ = some (.int .i64 x.pos)) ∧ (w'.cell? ⟨B2, 0, none⟩ = some (.int .i64 y.kind) ∧ w'.cell? ⟨B2, 1, none⟩ = some (.string ⟨y.text.toArray⟩) ∧ w'.cell? ⟨B2, 2, none⟩ = some (.slice (a2) y.kids.length c2) ∧ w'.cell? ⟨B2, 3, none⟩ = some (.int .i64 y.pos)) ∧ (w'.cell? ⟨B3, 0, none⟩ = some (.int .i64 r.kind) ∧ w'.cell? ⟨B3, 1, none⟩ = some (.string ⟨r.text.toArray⟩) ∧ w'.cell? ⟨B3, 2, none⟩ = some (.slice (a3) r.kids.length c3) ∧ w'.cell? ⟨B3, 3, none⟩ = some (.int .i64 r.pos)) ∧ (w'.cell? ⟨B4, 0, none⟩ = some (.int .i64 r.kind) ∧ w'.cell? ⟨B4, 1, none⟩ = some (.string ⟨r.text.toArray⟩) ∧ w'.cell? ⟨B4, 2, none⟩ = some (.slice (a4) r.kids.length c4) ∧ w'.cell? ⟨B4, 3, none⟩ = some (.int .i64 r.pos))) ∧ Hid (Quad x y r a1 a2 a3 a4 c1 c2 c3 c4 B1 B2 B3 B4 w' ∧ Below W.heap.size W w' ∧ Fits x c5 ∧ Kids w' w'.heap.size a5 x.kids)) :=
  (copy_any (· < W.heap.size) x a1 c1 W (.inl h.trip.duo.k1.toZ) (fun b hb => hb) h.trip.duo.k1 h.trip.duo.f1).mono (fun e w' ⟨hb, a5, c5, he, hf, hz⟩ =>
    ⟨a5, c5, he, ⟨(h.on hb).trip.duo.b1, (h.on hb).trip.duo.b2, (h.on hb).trip.b3, (h.on hb).b4⟩, Lib.hid ⟨h.on hb, hb, hf, hz.kids (fun b hb' => by have := hb.size; omega)⟩⟩)
theorem quad_rsame5 (h : Quad x y r a1 a2 a3 a4 c1 c2 c3 c4 B1 B2 B3 B4 W) {a5 : Option Addr} {c5 : Nat} (hf : Fits x c5) (hk : Kids W W.heap.size a5 x.kids) (hx : x.height ≤ 500) :
    Calls Try.prog 16 #[.agg #[.int .i64 x.kind, .string ⟨x.text.toArray⟩, .slice a5 x.kids.length c5, .int .i64 x.pos], .agg #[.int .i64 x.kind, .string ⟨x.text.toArray⟩, .slice a1 x.kids.length c1, .int .i64 x.pos], .int .i64 1000] W (QuadPost x y r a1 a2 a3 a4 c1 c2 c3 c4 B1 B2 B3 B4 (.bool true) W) :=
  quad_post h (by have := rsame_any 1000 (by omega) x x a5 a1 c5 c1 W hk hf h.trip.duo.k1 h.trip.duo.f1; rw [sameB_refl, decide_eq_true (by omega)] at this; exact this)
theorem quad_awake (h : Quad x y r a1 a2 a3 a4 c1 c2 c3 c4 B1 B2 B3 B4 W) : Calls Try.prog 12 #[] W (QuadPost x y r a1 a2 a3 a4 c1 c2 c3 c4 B1 B2 B3 B4 (.bool true) W) := quad_post h (awake_any W h.trip.duo.glob)
end

set_option maxRecDepth 100000 in
set_option maxHeartbeats 16000000 in
theorem swaps_law (x y : Nd) (a1 a2 : Option Addr) (c1 c2 : Nat) (kind : Int) (text : List UInt8) (w : World) (hb1 : (walkL 1000 x).length ≤ 1048576) (hb2 : (walkL 1000 y).length ≤ 1048576) (hg : Glob w) (hk1 : Kids w w.heap.size a1 x.kids) (hf1 : Fits x c1) (hk2 : Kids w w.heap.size a2 y.kids) (hf2 : Fits y c2) :
    Calls Try.prog 5 #[.agg #[.int .i64 x.kind, .string ⟨x.text.toArray⟩, .slice a1 x.kids.length c1, .int .i64 x.pos, .int .i64 y.kind, .string ⟨y.text.toArray⟩, .slice a2 y.kids.length c2, .int .i64 y.pos, .int .i64 kind, .string ⟨text.toArray⟩]] w fun e w' => e = .returned (.bool true) ∧ Below w.heap.size w w' := by
  have HG := Lib.hid hg
  have HK1 := Lib.hid hk1
  have HK2 := Lib.hid hk2
  have HF1 := Lib.hid hf1
  have HF2 := Lib.hid hf2
  clear hg hk1 hf1 hk2 hf2
  go_enter Try.func5, Try.ntmps5
  go_wp2_with fail
  go_region_held3 (fun w' => (w'.cell? ⟨w.heap.size, 0, none⟩ = some (.int .i64 x.kind) ∧ w'.cell? ⟨w.heap.size, 1, none⟩ = some (.string ⟨x.text.toArray⟩) ∧ w'.cell? ⟨w.heap.size, 2, none⟩ = some (.slice (a1) x.kids.length c1) ∧ w'.cell? ⟨w.heap.size, 3, none⟩ = some (.int .i64 x.pos)) ∧ (w'.cell? ⟨w.heap.size, 4, none⟩ = some (.int .i64 y.kind) ∧ w'.cell? ⟨w.heap.size, 5, none⟩ = some (.string ⟨y.text.toArray⟩) ∧ w'.cell? ⟨w.heap.size, 6, none⟩ = some (.slice a2 y.kids.length c2) ∧ w'.cell? ⟨w.heap.size, 7, none⟩ = some (.int .i64 y.pos)) ∧
      w'.cell? ⟨w.heap.size, 8, none⟩ = some (.int .i64 kind) ∧ w'.cell? ⟨w.heap.size, 9, none⟩ = some (.string ⟨text.toArray⟩)) (go_keep) (fail)
  · have hba : Below w.heap.size w ((((w.alloc (.cells #[.int .i64 x.kind, .string ⟨x.text.toArray⟩, .slice a1 x.kids.length c1, .int .i64 x.pos, .int .i64 y.kind, .string ⟨y.text.toArray⟩, .slice a2 y.kids.length c2, .int .i64 y.pos, .int .i64 kind, .string ⟨text.toArray⟩] 32)).alloc (.cells #[.int .i64 x.kind, .string ⟨x.text.toArray⟩, .slice a1 x.kids.length c1, .int .i64 x.pos] 24)).alloc (.cells #[.int .i64 y.kind, .string ⟨y.text.toArray⟩, .slice a2 y.kids.length c2, .int .i64 y.pos] 24)).drew) := ((((Below.refl _ _).alloc (Nat.le_refl _) _).alloc (by simp) _).alloc (by simp; omega) _).drew
    have hd : Duo x y a1 a2 c1 c2 (w.heap.size + 1) (w.heap.size + 1 + 1) ((((w.alloc (.cells #[.int .i64 x.kind, .string ⟨x.text.toArray⟩, .slice a1 x.kids.length c1, .int .i64 x.pos, .int .i64 y.kind, .string ⟨y.text.toArray⟩, .slice a2 y.kids.length c2, .int .i64 y.pos, .int .i64 kind, .string ⟨text.toArray⟩] 32)).alloc (.cells #[.int .i64 x.kind, .string ⟨x.text.toArray⟩, .slice a1 x.kids.length c1, .int .i64 x.pos] 24)).alloc (.cells #[.int .i64 y.kind, .string ⟨y.text.toArray⟩, .slice a2 y.kids.length c2, .int .i64 y.pos] 24)).drew) := by
      refine ⟨HG.out.on hba, HK1.out.on hba, HK2.out.on hba, HF1.out, HF2.out, ⟨?_, ?_, ?_, ?_⟩, ⟨?_, ?_, ?_, ?_⟩⟩ <;> simp [go_sem]
    have HB := Lib.hid hba
    have HD := Lib.hid hd
    clear hba hd
    go_wp2_with fail
    cases hs1 : smB 500 x with
    | false =>
      refine (duo_small1 HD.out hs1).mono ?_
      rintro e w1 ⟨rfl, -, hr1⟩
      go_wp2_with fail
      go_ret
      exact ⟨rfl, bext HB.out hr1.out.2⟩
    | true =>
      refine (duo_small1 HD.out hs1).mono ?_
      rintro e w1 ⟨rfl, ⟨⟨x0, x1, x2, x3⟩, ⟨y0, y1, y2, y3⟩⟩, hr1⟩
      have HB1 := Lib.hid (bext HB.out hr1.out.2)
      have HD1 := Lib.hid hr1.out.1
      have H1 := Lib.hid hs1
      clear HB HD hr1 hs1
      go_wp2_with fail
      cases hs2 : smB 500 y with
      | false =>
        refine (duo_small2 HD1.out hs2).mono ?_
        rintro e w2 ⟨rfl, -, hr2⟩
        go_wp2_with fail
        go_ret
        exact ⟨rfl, bext HB1.out hr2.out.2⟩
      | true =>
        refine (duo_small2 HD1.out hs2).mono ?_
        clear x0 x1 x2 x3 y0 y1 y2 y3
        rintro e w2 ⟨rfl, ⟨⟨x0, x1, x2, x3⟩, ⟨y0, y1, y2, y3⟩⟩, hr2⟩
        have HB2 := Lib.hid (bext HB1.out hr2.out.2)
        have HD2 := Lib.hid hr2.out.1
        have H2 := Lib.hid hs2
        clear HB1 HD1 hr2 hs2
        go_wp2_with fail
        refine (duo_swap kind text HD2.out).mono ?_
        clear x0 x1 x2 x3 y0 y1 y2 y3
        rintro e w3 ⟨r, a3, c3, rfl, ⟨⟨x0, x1, x2, x3⟩, ⟨y0, y1, y2, y3⟩⟩, hr3⟩
        have l1 : w.heap.size + 1 < w3.heap.size := cell_lt x0
        have l2 : w.heap.size + 1 + 1 < w3.heap.size := cell_lt y0
        go_wp2_with fail
        have hq3 : Trip x y r a1 a2 a3 c1 c2 c3 (w.heap.size + 1) (w.heap.size + 1 + 1) w3.heap.size (w3.alloc (.cells #[.int .i64 r.kind, .string ⟨r.text.toArray⟩, .slice a3 r.kids.length c3, .int .i64 r.pos] 24)) := hr3.out.1.box hr3.out.2.2.1 hr3.out.2.2.2.1
        have HB3 := Lib.hid (bext (bext HB2.out hr3.out.2.1) (below_alloc w3 (.cells #[.int .i64 r.kind, .string ⟨r.text.toArray⟩, .slice a3 r.kids.length c3, .int .i64 r.pos] 24)))
        have HQ3 := Lib.hid hq3
        have HR := Lib.hid hr3.out.2.2.2.2
        clear HB2 HD2 hr3 hq3
        refine (trip_swap kind text HQ3.out HR.out).mono ?_
        clear x0 x1 x2 x3 y0 y1 y2 y3
        rintro e w4 ⟨a4, c4, rfl, ⟨⟨x0, x1, x2, x3⟩, ⟨y0, y1, y2, y3⟩, ⟨r0, r1, r2, r3⟩⟩, hr4⟩
        have l1 : w.heap.size + 1 < w4.heap.size := cell_lt x0
        have l2 : w.heap.size + 1 + 1 < w4.heap.size := cell_lt y0
        have l3 : w3.heap.size < w4.heap.size := cell_lt r0
        have hx : x.height ≤ 500 := height_small hb1 H1.out
        have hy : y.height ≤ 500 := height_small hb2 H2.out
        have hrh : r.height ≤ 1000 := by rw [HR.out]; exact copy_height kind text x y hx hy
        have HX := Lib.hid hx
        have HRH := Lib.hid hrh
        clear hx hy hrh
        go_wp2_with fail
        have hq4 : Quad x y r a1 a2 a3 a4 c1 c2 c3 c4 (w.heap.size + 1) (w.heap.size + 1 + 1) w3.heap.size w4.heap.size (w4.alloc (.cells #[.int .i64 r.kind, .string ⟨r.text.toArray⟩, .slice a4 r.kids.length c4, .int .i64 r.pos] 24)).drew := (hr4.out.1.box hr4.out.2.2.1 hr4.out.2.2.2).on (Below.refl _ _).drew
        have HB4 := Lib.hid (bext (bext HB3.out hr4.out.2.1) (below_alloc w4 (.cells #[.int .i64 r.kind, .string ⟨r.text.toArray⟩, .slice a4 r.kids.length c4, .int .i64 r.pos] 24)).drew)
        have HC := Lib.hid (quad_rsame34 hq4 HRH.out)
        clear HB3 HQ3 hr4 hq4
        have T1 : True := trivial
        have T2 : True := trivial
        cases hsame : sameB 100 x y
        all_goals
          have HS := Lib.hid hsame
          clear hsame
          go_region_held3 (fun w' => (w'.cell? ⟨w.heap.size + 1, 0, none⟩ = some (.int .i64 x.kind) ∧ w'.cell? ⟨w.heap.size + 1, 1, none⟩ = some (.string ⟨x.text.toArray⟩) ∧ w'.cell? ⟨w.heap.size + 1, 2, none⟩ = some (.slice (a1) x.kids.length c1) ∧ w'.cell? ⟨w.heap.size + 1, 3, none⟩ = some (.int .i64 x.pos)) ∧ (w'.cell? ⟨w.heap.size + 1 + 1, 0, none⟩ = some (.int .i64 y.kind) ∧ w'.cell? ⟨w.heap.size + 1 + 1, 1, none⟩ = some (.string ⟨y.text.toArray⟩) ∧ w'.cell? ⟨w.heap.size + 1 + 1, 2, none⟩ = some (.slice (a2) y.kids.length c2) ∧ w'.cell? ⟨w.heap.size + 1 + 1, 3, none⟩ = some (.int .i64 y.pos)) ∧ (w'.cell? ⟨w3.heap.size, 0, none⟩ = some (.int .i64 r.kind) ∧ w'.cell? ⟨w3.heap.size, 1, none⟩ = some (.string ⟨r.text.toArray⟩) ∧ w'.cell? ⟨w3.heap.size, 2, none⟩ = some (.slice (a3) r.kids.length c3) ∧ w'.cell? ⟨w3.heap.size, 3, none⟩ = some (.int .i64 r.pos)) ∧ (w'.cell? ⟨w4.heap.size, 0, none⟩ = some (.int .i64 r.kind) ∧ w'.cell? ⟨w4.heap.size, 1, none⟩ = some (.string ⟨r.text.toArray⟩) ∧ w'.cell? ⟨w4.heap.size, 2, none⟩ = some (.slice (a4) r.kids.length c4) ∧ w'.cell? ⟨w4.heap.size, 3, none⟩ = some (.int .i64 r.pos))) (go_keep)
            (first
              | (go_at_call 16
                 clear T1
                 refine HC.out.mono ?_
                 rintro e w5 ⟨rfl, ⟨⟨x0, x1, x2, x3⟩, ⟨y0, y1, y2, y3⟩, ⟨r0, r1, r2, r3⟩, ⟨s0, s1, s2, s3⟩⟩, hr5⟩)
              | (go_at_call 10
                 refine (quad_same12 hr5.out.1 HS.out).mono ?_
                 rintro e w6 ⟨rfl, ⟨⟨x0, x1, x2, x3⟩, ⟨y0, y1, y2, y3⟩, ⟨r0, r1, r2, r3⟩, ⟨s0, s1, s2, s3⟩⟩, hr6⟩)
              | (go_at_call 16
                 clear T2
                 refine (quad_rsame12 hr6.out.1 HS.out).mono ?_
                 rintro e w7 ⟨rfl, ⟨⟨x0, x1, x2, x3⟩, ⟨y0, y1, y2, y3⟩, ⟨r0, r1, r2, r3⟩, ⟨s0, s1, s2, s3⟩⟩, hr7⟩)
              | (go_at_call 17
                 refine (quad_copy hr7.out.1).mono ?_
                 rintro e w8 ⟨a5, c5, rfl, ⟨⟨x0, x1, x2, x3⟩, ⟨y0, y1, y2, y3⟩, ⟨r0, r1, r2, r3⟩, ⟨s0, s1, s2, s3⟩⟩, hr8⟩)
              | (go_at_call 16
                 refine (quad_rsame5 hr8.out.1 hr8.out.2.2.1 hr8.out.2.2.2 HX.out).mono ?_
                 rintro e w9 ⟨rfl, ⟨⟨x0, x1, x2, x3⟩, ⟨y0, y1, y2, y3⟩, ⟨r0, r1, r2, r3⟩, ⟨s0, s1, s2, s3⟩⟩, hr9⟩)
              | (go_at_call 12
                 refine (quad_awake hr9.out.1).mono ?_
                 rintro e w10 ⟨rfl, ⟨⟨x0, x1, x2, x3⟩, ⟨y0, y1, y2, y3⟩, ⟨r0, r1, r2, r3⟩, ⟨s0, s1, s2, s3⟩⟩, hr10⟩))
          all_goals
            go_wp2_with fail
            go_ret
            exact ⟨rfl, bext (bext (bext (bext (bext (bext HB4.out hr5.out.2) hr6.out.2) hr7.out.2) hr8.out.2.1) hr9.out.2) hr10.out.2⟩
  · have hba : Below w.heap.size w ((((w.alloc (.cells #[.int .i64 x.kind, .string ⟨x.text.toArray⟩, .slice a1 x.kids.length c1, .int .i64 x.pos, .int .i64 y.kind, .string ⟨y.text.toArray⟩, .slice a2 y.kids.length c2, .int .i64 y.pos, .int .i64 kind, .string ⟨text.toArray⟩] 32)).alloc (.cells #[.int .i64 y.kind, .string ⟨y.text.toArray⟩, .slice a2 y.kids.length c2, .int .i64 y.pos] 24)).alloc (.cells #[.int .i64 x.kind, .string ⟨x.text.toArray⟩, .slice a1 x.kids.length c1, .int .i64 x.pos] 24)).drew) := ((((Below.refl _ _).alloc (Nat.le_refl _) _).alloc (by simp) _).alloc (by simp; omega) _).drew
    have hd : Duo x y a1 a2 c1 c2 (w.heap.size + 1 + 1) (w.heap.size + 1) ((((w.alloc (.cells #[.int .i64 x.kind, .string ⟨x.text.toArray⟩, .slice a1 x.kids.length c1, .int .i64 x.pos, .int .i64 y.kind, .string ⟨y.text.toArray⟩, .slice a2 y.kids.length c2, .int .i64 y.pos, .int .i64 kind, .string ⟨text.toArray⟩] 32)).alloc (.cells #[.int .i64 y.kind, .string ⟨y.text.toArray⟩, .slice a2 y.kids.length c2, .int .i64 y.pos] 24)).alloc (.cells #[.int .i64 x.kind, .string ⟨x.text.toArray⟩, .slice a1 x.kids.length c1, .int .i64 x.pos] 24)).drew) := by
      refine ⟨HG.out.on hba, HK1.out.on hba, HK2.out.on hba, HF1.out, HF2.out, ⟨?_, ?_, ?_, ?_⟩, ⟨?_, ?_, ?_, ?_⟩⟩ <;> simp [go_sem]
    have HB := Lib.hid hba
    have HD := Lib.hid hd
    clear hba hd
    go_wp2_with fail
    cases hs1 : smB 500 x with
    | false =>
      refine (duo_small1 HD.out hs1).mono ?_
      rintro e w1 ⟨rfl, -, hr1⟩
      go_wp2_with fail
      go_ret
      exact ⟨rfl, bext HB.out hr1.out.2⟩
    | true =>
      refine (duo_small1 HD.out hs1).mono ?_
      rintro e w1 ⟨rfl, ⟨⟨x0, x1, x2, x3⟩, ⟨y0, y1, y2, y3⟩⟩, hr1⟩
      have HB1 := Lib.hid (bext HB.out hr1.out.2)
      have HD1 := Lib.hid hr1.out.1
      have H1 := Lib.hid hs1
      clear HB HD hr1 hs1
      go_wp2_with fail
      cases hs2 : smB 500 y with
      | false =>
        refine (duo_small2 HD1.out hs2).mono ?_
        rintro e w2 ⟨rfl, -, hr2⟩
        go_wp2_with fail
        go_ret
        exact ⟨rfl, bext HB1.out hr2.out.2⟩
      | true =>
        refine (duo_small2 HD1.out hs2).mono ?_
        clear x0 x1 x2 x3 y0 y1 y2 y3
        rintro e w2 ⟨rfl, ⟨⟨x0, x1, x2, x3⟩, ⟨y0, y1, y2, y3⟩⟩, hr2⟩
        have HB2 := Lib.hid (bext HB1.out hr2.out.2)
        have HD2 := Lib.hid hr2.out.1
        have H2 := Lib.hid hs2
        clear HB1 HD1 hr2 hs2
        go_wp2_with fail
        refine (duo_swap kind text HD2.out).mono ?_
        clear x0 x1 x2 x3 y0 y1 y2 y3
        rintro e w3 ⟨r, a3, c3, rfl, ⟨⟨x0, x1, x2, x3⟩, ⟨y0, y1, y2, y3⟩⟩, hr3⟩
        have l1 : w.heap.size + 1 + 1 < w3.heap.size := cell_lt x0
        have l2 : w.heap.size + 1 < w3.heap.size := cell_lt y0
        go_wp2_with fail
        have hq3 : Trip x y r a1 a2 a3 c1 c2 c3 (w.heap.size + 1 + 1) (w.heap.size + 1) w3.heap.size (w3.alloc (.cells #[.int .i64 r.kind, .string ⟨r.text.toArray⟩, .slice a3 r.kids.length c3, .int .i64 r.pos] 24)) := hr3.out.1.box hr3.out.2.2.1 hr3.out.2.2.2.1
        have HB3 := Lib.hid (bext (bext HB2.out hr3.out.2.1) (below_alloc w3 (.cells #[.int .i64 r.kind, .string ⟨r.text.toArray⟩, .slice a3 r.kids.length c3, .int .i64 r.pos] 24)))
        have HQ3 := Lib.hid hq3
        have HR := Lib.hid hr3.out.2.2.2.2
        clear HB2 HD2 hr3 hq3
        refine (trip_swap kind text HQ3.out HR.out).mono ?_
        clear x0 x1 x2 x3 y0 y1 y2 y3
        rintro e w4 ⟨a4, c4, rfl, ⟨⟨x0, x1, x2, x3⟩, ⟨y0, y1, y2, y3⟩, ⟨r0, r1, r2, r3⟩⟩, hr4⟩
        have l1 : w.heap.size + 1 + 1 < w4.heap.size := cell_lt x0
        have l2 : w.heap.size + 1 < w4.heap.size := cell_lt y0
        have l3 : w3.heap.size < w4.heap.size := cell_lt r0
        have hx : x.height ≤ 500 := height_small hb1 H1.out
        have hy : y.height ≤ 500 := height_small hb2 H2.out
        have hrh : r.height ≤ 1000 := by rw [HR.out]; exact copy_height kind text x y hx hy
        have HX := Lib.hid hx
        have HRH := Lib.hid hrh
        clear hx hy hrh
        go_wp2_with fail
        have hq4 : Quad x y r a1 a2 a3 a4 c1 c2 c3 c4 (w.heap.size + 1 + 1) (w.heap.size + 1) w3.heap.size w4.heap.size (w4.alloc (.cells #[.int .i64 r.kind, .string ⟨r.text.toArray⟩, .slice a4 r.kids.length c4, .int .i64 r.pos] 24)).drew := (hr4.out.1.box hr4.out.2.2.1 hr4.out.2.2.2).on (Below.refl _ _).drew
        have HB4 := Lib.hid (bext (bext HB3.out hr4.out.2.1) (below_alloc w4 (.cells #[.int .i64 r.kind, .string ⟨r.text.toArray⟩, .slice a4 r.kids.length c4, .int .i64 r.pos] 24)).drew)
        have HC := Lib.hid (quad_rsame34 hq4 HRH.out)
        clear HB3 HQ3 hr4 hq4
        have T1 : True := trivial
        have T2 : True := trivial
        cases hsame : sameB 100 x y
        all_goals
          have HS := Lib.hid hsame
          clear hsame
          go_region_held3 (fun w' => (w'.cell? ⟨w.heap.size + 1 + 1, 0, none⟩ = some (.int .i64 x.kind) ∧ w'.cell? ⟨w.heap.size + 1 + 1, 1, none⟩ = some (.string ⟨x.text.toArray⟩) ∧ w'.cell? ⟨w.heap.size + 1 + 1, 2, none⟩ = some (.slice (a1) x.kids.length c1) ∧ w'.cell? ⟨w.heap.size + 1 + 1, 3, none⟩ = some (.int .i64 x.pos)) ∧ (w'.cell? ⟨w.heap.size + 1, 0, none⟩ = some (.int .i64 y.kind) ∧ w'.cell? ⟨w.heap.size + 1, 1, none⟩ = some (.string ⟨y.text.toArray⟩) ∧ w'.cell? ⟨w.heap.size + 1, 2, none⟩ = some (.slice (a2) y.kids.length c2) ∧ w'.cell? ⟨w.heap.size + 1, 3, none⟩ = some (.int .i64 y.pos)) ∧ (w'.cell? ⟨w3.heap.size, 0, none⟩ = some (.int .i64 r.kind) ∧ w'.cell? ⟨w3.heap.size, 1, none⟩ = some (.string ⟨r.text.toArray⟩) ∧ w'.cell? ⟨w3.heap.size, 2, none⟩ = some (.slice (a3) r.kids.length c3) ∧ w'.cell? ⟨w3.heap.size, 3, none⟩ = some (.int .i64 r.pos)) ∧ (w'.cell? ⟨w4.heap.size, 0, none⟩ = some (.int .i64 r.kind) ∧ w'.cell? ⟨w4.heap.size, 1, none⟩ = some (.string ⟨r.text.toArray⟩) ∧ w'.cell? ⟨w4.heap.size, 2, none⟩ = some (.slice (a4) r.kids.length c4) ∧ w'.cell? ⟨w4.heap.size, 3, none⟩ = some (.int .i64 r.pos))) (go_keep)
            (first
              | (go_at_call 16
                 clear T1
                 refine HC.out.mono ?_
                 rintro e w5 ⟨rfl, ⟨⟨x0, x1, x2, x3⟩, ⟨y0, y1, y2, y3⟩, ⟨r0, r1, r2, r3⟩, ⟨s0, s1, s2, s3⟩⟩, hr5⟩)
              | (go_at_call 10
                 refine (quad_same12 hr5.out.1 HS.out).mono ?_
                 rintro e w6 ⟨rfl, ⟨⟨x0, x1, x2, x3⟩, ⟨y0, y1, y2, y3⟩, ⟨r0, r1, r2, r3⟩, ⟨s0, s1, s2, s3⟩⟩, hr6⟩)
              | (go_at_call 16
                 clear T2
                 refine (quad_rsame12 hr6.out.1 HS.out).mono ?_
                 rintro e w7 ⟨rfl, ⟨⟨x0, x1, x2, x3⟩, ⟨y0, y1, y2, y3⟩, ⟨r0, r1, r2, r3⟩, ⟨s0, s1, s2, s3⟩⟩, hr7⟩)
              | (go_at_call 17
                 refine (quad_copy hr7.out.1).mono ?_
                 rintro e w8 ⟨a5, c5, rfl, ⟨⟨x0, x1, x2, x3⟩, ⟨y0, y1, y2, y3⟩, ⟨r0, r1, r2, r3⟩, ⟨s0, s1, s2, s3⟩⟩, hr8⟩)
              | (go_at_call 16
                 refine (quad_rsame5 hr8.out.1 hr8.out.2.2.1 hr8.out.2.2.2 HX.out).mono ?_
                 rintro e w9 ⟨rfl, ⟨⟨x0, x1, x2, x3⟩, ⟨y0, y1, y2, y3⟩, ⟨r0, r1, r2, r3⟩, ⟨s0, s1, s2, s3⟩⟩, hr9⟩)
              | (go_at_call 12
                 refine (quad_awake hr9.out.1).mono ?_
                 rintro e w10 ⟨rfl, ⟨⟨x0, x1, x2, x3⟩, ⟨y0, y1, y2, y3⟩, ⟨r0, r1, r2, r3⟩, ⟨s0, s1, s2, s3⟩⟩, hr10⟩))
          all_goals
            go_wp2_with fail
            go_ret
            exact ⟨rfl, bext (bext (bext (bext (bext (bext HB4.out hr5.out.2) hr6.out.2) hr7.out.2) hr8.out.2.1) hr9.out.2) hr10.out.2⟩
end Go.Proofs.Ytnmebgiiajnnjaa
