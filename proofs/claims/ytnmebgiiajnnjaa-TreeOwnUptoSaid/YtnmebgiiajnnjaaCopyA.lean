/-
  tree.Copy$1; tree.copied where depth is over or a node is replaced
-/
import Derived.Test.YtnmebgiiajnnjaaZone
import Derived.Test.YtnmebgiiajnnjaaSameA
import Derived.Test.YtnmebgiiajnnjaaNodeC
import Derived.Deep.RegionHeld3
import Derived.Deep.AppendLies
namespace Go.Proofs.Ytnmebgiiajnnjaa
set_option linter.unusedSimpArgs false
set_option linter.unusedVariables false
open Go.RowKit

/-- What at answers: a node to put in the place, or none; it turns nothing that lay. -/
def AtSays (g : Nat) (lb : Array Value) (f : Nd → Option Nd) (Zo : Nat → Prop) (w : World) : Prop :=
  ∀ W x a c, Below w.heap.size w W → Kids W W.heap.size a x.kids → Fits x c → Calls Try.prog g (#[.agg #[.int .i64 x.kind, .string ⟨x.text.toArray⟩, .slice a x.kids.length c, .int .i64 x.pos]] ++ lb) W fun e W' => Below W.heap.size W W' ∧
    ∃ y a' c' , e = .returned (.tuple #[.agg #[.int .i64 y.kind, .string ⟨y.text.toArray⟩, .slice a' y.kids.length c', .int .i64 y.pos], .bool (f x).isSome]) ∧ (f x = some y ∨ f x = none) ∧ Fits y c' ∧ (f x = none ∨ KidsZ W' (fun b => Zo b ∨ Fresh W.heap.size W' b) a' y.kids)
theorem AtSays.on {g : Nat} {lb : Array Value} {f : Nd → Option Nd} {Zo : Nat → Prop} {w w' : World} (h : AtSays g lb f Zo w) (hb : Below w.heap.size w w') : AtSays g lb f Zo w' :=
  fun W x a c hW => h W x a c (bext hb hW)

set_option maxHeartbeats 400000 in
theorem copy1_any (t : Nd) (a : Option Addr) (c : Nat) (w : World) :
    Calls Try.prog 25 #[.agg #[.int .i64 t.kind, .string ⟨t.text.toArray⟩, .slice a t.kids.length c, .int .i64 t.pos]] w fun e w' => e = .returned (.tuple #[.agg #[.int .i64 t.kind, .string ⟨t.text.toArray⟩, .slice a t.kids.length c, .int .i64 t.pos], .bool false]) ∧ Below w.heap.size w w' := by
  go_enter Try.func25, Try.ntmps25
  go_wp2_with fail
  refine bodyPost_ret (v := .tuple #[.agg #[.int .i64 t.kind, .string ⟨t.text.toArray⟩, .slice a t.kids.length c, .int .i64 t.pos], .bool false]) (by simp [results, Try.results25, go_sem]) rfl ⟨rfl, ?_⟩
  exact ((Below.refl _ _).alloc (Nat.le_refl _) _).alloc (by simp) _

/-- What copied hands back of a node. -/
def Copied (Zo : Nat → Prop) (t : Nd) (w : World) (e : Ending) (w' : World) : Prop :=
  Below w.heap.size w w' ∧ ∃ a' c', e = .returned (.agg #[.int .i64 t.kind, .string ⟨t.text.toArray⟩, .slice a' t.kids.length c', .int .i64 t.pos]) ∧ Fits t c' ∧ KidsZ w' (fun b => Zo b ∨ Fresh w.heap.size w' b) a' t.kids

set_option maxHeartbeats 400000 in
theorem copied_zero (t : Nd) (a : Option Addr) (c g : Nat) (lb : Array Value) (Zo : Nat → Prop) (w : World) (hk : KidsZ w Zo a t.kids) (hZ : ∀ b, Zo b → b < w.heap.size) (hf : Fits t c) :
    Calls Try.prog 23 #[.agg #[.int .i64 t.kind, .string ⟨t.text.toArray⟩, .slice a t.kids.length c, .int .i64 t.pos], .int .i64 0, .func (.func g) #[] lb] w (Copied Zo t w) := by
  have HK := Lib.hid hk
  have HF := Lib.hid hf
  have HZ := Lib.hid hZ
  clear hk hf hZ
  go_enter Try.func23, Try.ntmps23
  go_wp2_with fail
  have hb : Below w.heap.size w ((w.alloc (.cells #[.int .i64 t.kind, .string ⟨t.text.toArray⟩, .slice a t.kids.length c, .int .i64 t.pos] 24)).alloc (.cells #[.int .i64 t.kind, .string ⟨t.text.toArray⟩, .slice a t.kids.length c, .int .i64 t.pos] 24)) := ((Below.refl _ _).alloc (Nat.le_refl _) _).alloc (by simp) _
  refine bodyPost_ret (v := .agg #[.int .i64 t.kind, .string ⟨t.text.toArray⟩, .slice a t.kids.length c, .int .i64 t.pos]) (by simp [results, Try.results23, go_sem]) rfl ⟨hb, a, c, rfl, HF.out, HK.out.move (fun b h => .inl h) (fun p v hp hv => (hb.cell (HZ.out _ hp)).trans hv)⟩

theorem cell_far_set {w : World} {b o : Nat} {u : Value} {p : Addr} (h : p.block ≠ b) : (w.setCell ⟨b, o, none⟩ u).cell? p = w.cell? p :=
  World.cell?_of_block (w := w) (Below.heap_setCell w ⟨b, o, none⟩ u p.block h)

set_option maxHeartbeats 1000000 in
theorem copied_some (d : Nat) (hd : d ≤ 100) (t y : Nd) (a : Option Addr) (c g : Nat) (lb : Array Value) (f : Nd → Option Nd) (Zo : Nat → Prop) (w : World) (hen : Enters Try.prog g) (hat : AtSays g lb f Zo w) (hy : f t = some y)
    (hk : Kids w w.heap.size a t.kids) (hZ : ∀ b, Zo b → b < w.heap.size) (hf : Fits t c) :
    Calls Try.prog 23 #[.agg #[.int .i64 t.kind, .string ⟨t.text.toArray⟩, .slice a t.kids.length c, .int .i64 t.pos], .int .i64 ((d : Int) + 1), .func (.func g) #[] lb] w (Copied Zo y w) := by
  obtain ⟨wa, hwa⟩ : ∃ wa, (w.alloc (.cells #[.int .i64 t.kind, .string ⟨t.text.toArray⟩, .slice a t.kids.length c, .int .i64 t.pos] 24)).alloc (.cells #[.int .i64 0, .string ⟨#[]⟩, .slice none 0 0, .int .i64 0] 24) = wa := ⟨_, rfl⟩
  have hba : Below w.heap.size w wa := by rw [← hwa]; exact ((Below.refl _ _).alloc (Nat.le_refl _) _).alloc (by simp) _
  have hsz : wa.heap.size = w.heap.size + 2 := by rw [← hwa]; simp
  have hcall := hat wa t a c hba (hk.on hba) hf
  have h0 : ((d : Int) + 1 == 0) = false := by simp; omega
  have HB := Lib.hid hba
  have r0 : wa.cell? ⟨w.heap.size + 1, 0, none⟩ = some (.int .i64 0) := by rw [← hwa]; simp [go_sem]
  have r1 : wa.cell? ⟨w.heap.size + 1, 1, none⟩ = some (.string ⟨#[]⟩) := by rw [← hwa]; simp [go_sem]
  have r2 : wa.cell? ⟨w.heap.size + 1, 2, none⟩ = some (.slice none 0 0) := by rw [← hwa]; simp [go_sem]
  have r3 : wa.cell? ⟨w.heap.size + 1, 3, none⟩ = some (.int .i64 0) := by rw [← hwa]; simp [go_sem]
  have f0 : wa.frozen? ⟨w.heap.size + 1, 0, none⟩ = false := by rw [← hwa]; simp [go_sem]
  have f1 : wa.frozen? ⟨w.heap.size + 1, 1, none⟩ = false := by rw [← hwa]; simp [go_sem]
  have f2 : wa.frozen? ⟨w.heap.size + 1, 2, none⟩ = false := by rw [← hwa]; simp [go_sem]
  have f3 : wa.frozen? ⟨w.heap.size + 1, 3, none⟩ = false := by rw [← hwa]; simp [go_sem]
  have hcall' := hcall.mono (R' := fun e W' => Below wa.heap.size wa W' ∧ ∃ a' c', e = .returned (.tuple #[.agg #[.int .i64 y.kind, .string ⟨y.text.toArray⟩, .slice a' y.kids.length c', .int .i64 y.pos], .bool true]) ∧ Fits y c' ∧ KidsZ W' (fun b => Zo b ∨ Fresh wa.heap.size W' b) a' y.kids)
    (fun e W' h => by
      obtain ⟨hb, y', a', c', he, hfy, hfit, hz⟩ := h
      rw [hy] at he hfy hz
      obtain rfl : y = y' := by simpa using hfy
      exact ⟨hb, a', c', by simpa using he, hfit, by simpa using hz⟩)
  have n0 : wa.cell? ⟨w.heap.size, 0, none⟩ = some (.int .i64 t.kind) := by rw [← hwa]; simp [go_sem]
  have n1 : wa.cell? ⟨w.heap.size, 1, none⟩ = some (.string ⟨t.text.toArray⟩) := by rw [← hwa]; simp [go_sem]
  have n2 : wa.cell? ⟨w.heap.size, 2, none⟩ = some (.slice a t.kids.length c) := by rw [← hwa]; simp [go_sem]
  have n3 : wa.cell? ⟨w.heap.size, 3, none⟩ = some (.int .i64 t.pos) := by rw [← hwa]; simp [go_sem]
  have HC := Lib.hid hcall'
  have HZ := Lib.hid hZ
  have HSZ := Lib.hid hsz
  clear hcall hcall' hat hk hf hba hy hZ hsz
  unfold Enters at hen
  go_enter Try.func23, Try.ntmps23
  go_wp2_with fail
  refine HC.out.mono ?_
  rintro e w1 ⟨hb1, a', c', rfl, hfit, hz⟩
  obtain ⟨⟨q0, q1, q2, q3⟩, p0, p1, p2, p3⟩ := four_at (b := w.heap.size + 1) hb1 (cell_lt r0) r0 r1 r2 r3 f0 f1 f2 f3
  have hbw := bext HB.out hb1
  have hs1 : w.heap.size + 1 < w1.heap.size := by have := HSZ.out; have := hb1.size; omega
  have hs2 : w.heap.size < w1.heap.size := by omega
  have HF := Lib.hid hfit
  have HKZ := Lib.hid hz
  have HB1 := Lib.hid hb1
  have HBW := Lib.hid hbw
  clear hfit hz hb1 hbw hwa r0 r1 r2 r3 f0 f1 f2 f3
  go_wp2_with fail
  refine bodyPost_ret (v := .agg #[.int .i64 y.kind, .string ⟨y.text.toArray⟩, .slice a' y.kids.length c', .int .i64 y.pos]) (by simp [results, Try.results23, go_sem, q0, q1, q2, q3, hs1]) rfl ⟨?_, a', c', rfl, HF.out, HKZ.out.move ?_ ?_⟩
  · refine Below.alloc ?_ (by simp [World.setCell]; omega) _
    exact (((HBW.out.setCell (p := ⟨w.heap.size + 1, 0, none⟩) (by simp) _).setCell (p := ⟨w.heap.size + 1, 1, none⟩) (by simp) _).setCell (p := ⟨w.heap.size + 1, 2, none⟩) (by simp) _).setCell (p := ⟨w.heap.size + 1, 3, none⟩) (by simp) _
  · intro b hb
    have h1 := HSZ.out
    rcases hb with hb | hb
    · exact .inl hb
    · exact .inr ((((((hb.low (by have := hb.lo; omega)).set _ _).set _ _).set _ _).set _ _).al _)
  · intro p v hp hv
    have h1 := HSZ.out
    have h2 : p.block ≠ w.heap.size + 1 := by
      rcases hp with hp | hp
      · have := HZ.out _ hp; omega
      · have := hp.lo; omega
    refine cell_alloc' _ ?_
    rw [cell_far_set h2, cell_far_set h2, cell_far_set h2, cell_far_set h2]
    exact hv
end Go.Proofs.Ytnmebgiiajnnjaa
