/-
  tag.Read's deferred function: entered where the frame panics, where it returns.
-/
import Derived.Defers
import Derived.Recover
import Derived.Test.YtagaoilgnhdebaaDoorTgK
namespace Go.Proofs.YtagaoilgnhdebaaDoor
set_option linter.unusedSimpArgs false
set_option linter.unusedVariables false
open Go.RowKit

theorem catch_idle (p q : Addr) (w : World) :
    CallsD Tryd.prog 30 #[.pointer (some p), .pointer (some q)] .returning w fun e u' w' => e = .returned (.tuple #[]) ∧ u' = .returning ∧ w' = w := by
  refine callsD_of_wpS Tryd.func30 rfl fun c₀ cs hu => ?_
  apply wpS_seq
  apply wpS_region
  simp [wpOpsS, go_sem, recoverD, hu, Tryd.ntmps30, Exit.thenS]
  refine wpS_of_wp ?_
  have e0 : (#[.pointer (some p), .pointer (some q)] ++ ((Array.replicate 15 undef).setIfInBounds 3 Value.nilIface).setIfInBounds 0 Value.nilIface : Array Value) = #[.pointer (some p), .pointer (some q), .nilIface, undef, undef, .nilIface, undef, undef, undef, undef, undef, undef, undef, undef, undef, undef, undef] := rfl
  rw [e0]
  go_wp2_with fail
  cases c₀
  simp_all [bodyPostS, results, Tryd.results30]

set_option maxRecDepth 100000 in
theorem catch_panics (X E : Nat) (w : World) (hX : Slots X w) (x : Value) (hE : w.cell? ⟨E, 0, none⟩ = some x) (zE : w.frozen? ⟨E, 0, none⟩ = false) (hne : X ≠ E) :
    CallsD Tryd.prog 30 #[.pointer (some ⟨X, 0, none⟩), .pointer (some ⟨E, 0, none⟩)] (.panicking wrongs) w fun e u' w' =>
      e = .returned (.tuple #[]) ∧ u' = .panicking [{ v := .iface 52 (.agg #[]), recovered := true }] ∧ w'.cell? ⟨X, 0, none⟩ = some (.string ⟨#[]⟩) ∧ w'.cell? ⟨X, 1, none⟩ = some (.string ⟨#[]⟩) ∧ w'.cell? ⟨X, 2, none⟩ = some (.slice none 0 0) ∧ w'.cell? ⟨E, 0, none⟩ = some (.int .i64 8) ∧
      ∀ n, n ≤ X → n ≤ E → Below n w w' := by
  refine callsD_of_wpS Tryd.func30 rfl fun c₀ cs hu => ?_
  apply wpS_seq
  apply wpS_region
  simp [wpOpsS, go_sem, recoverD, hu, wrongs, Tryd.ntmps30, Exit.thenS]
  refine wpS_of_wp ?_
  have e0 : (#[.pointer (some ⟨X, 0, none⟩), .pointer (some ⟨E, 0, none⟩)] ++ ((Array.replicate 15 undef).setIfInBounds 3 (Value.iface 52 (.agg #[]))).setIfInBounds 0 (Value.iface 52 (.agg #[])) : Array Value) = #[.pointer (some ⟨X, 0, none⟩), .pointer (some ⟨E, 0, none⟩), .iface 52 (.agg #[]), undef, undef, .iface 52 (.agg #[]), undef, undef, undef, undef, undef, undef, undef, undef, undef, undef, undef] := rfl
  rw [e0]
  have hta : ∀ w, (Instr.typeAssert (.iface 52 (.agg #[])) 20 52 true).run Tryd.prog w = .ok (.tuple #[.agg #[], .bool true]) w := fun _ => by kernel_rfl
  have hXl := hX.lt
  have hEl : E < w.heap.size := cell_lt1 hE
  obtain ⟨⟨x0, y0, z0, q0, q1, q2⟩, f0, f1, f2⟩ := hX
  go_wp2_with fail
  refine ⟨rfl, _, rfl, .tuple #[], by simp [results, Tryd.results30, go_sem], rfl, rfl, ?_, ?_, ?_, ?_, ?_⟩
  · simp [go_sem, q0, hXl, hne, hne.symm]
  · simp [go_sem, q1, hXl, hne, hne.symm]
  · simp [go_sem, q2, hXl, hne, hne.symm]
  · simp [go_sem, hE, hEl, hne, hne.symm]
  · intro n h1 h2
    exact ((((((Below.refl n w).setCell (p := ⟨X, 0, none⟩) h1 _).setCell (p := ⟨X, 1, none⟩) h1 _).setCell (p := ⟨X, 2, none⟩) h1 _).setCell (p := ⟨E, 0, none⟩) h2 _)).alloc (by simp [World.setCell]; omega) _

/-- What Read hands back. -/
def ReadPost (r : Xp × Int) (w : World) (e : Ending) (w' : World) : Prop :=
  Below w.heap.size w w' ∧ ∃ a c, e = .returned (.tuple #[.agg #[.string ⟨r.1.op.toArray⟩, .string ⟨r.1.tag.toArray⟩, .slice a r.1.kids.length c], .int .i64 r.2]) ∧ Fitx r.1 c ∧ Xids w' (fun b => w.heap.size ≤ b) a r.1.kids
theorem readPost_none (n : Int) {w w' : World} (hb : Below w.heap.size w w') : ReadPost (default, n) w (.returned (.tuple #[.agg #[.string ⟨#[]⟩, .string ⟨#[]⟩, .slice none 0 0], .int .i64 n])) w' :=
  ⟨hb, none, 0, rfl, (show Fitx (.mk [] [] []) 0 from by simp [Fitx]), Xids.nil _ _ _⟩

/-- The three blocks of Read. -/
theorem read_opened (s : List UInt8) (w : World) (T1 T2 T3 : TypeId) : ∃ wa wb, (w.alloc (.cells #[.string ⟨#[]⟩, .string ⟨#[]⟩, .slice none 0 0] T1)).alloc (.cells #[.int .i64 0] T2) = wa ∧ wa.alloc (.cells #[.string ⟨s.toArray⟩] T3) = wb ∧
    Below w.heap.size w wb ∧ Slots w.heap.size wa ∧ wa.cell? ⟨w.heap.size + 1, 0, none⟩ = some (.int .i64 0) ∧ wa.frozen? ⟨w.heap.size + 1, 0, none⟩ = false ∧ Below w.heap.size w wa ∧ wa.heap.size = w.heap.size + 2 ∧ wb.heap.size = w.heap.size + 3 ∧ Below wa.heap.size wa wb ∧ Rd (w.heap.size + 2) s wb := by
  refine ⟨_, _, rfl, rfl, (((Below.refl _ _).alloc (Nat.le_refl _) _).alloc (by simp) _).alloc (by simp; omega) _, ?_, by simp [go_sem], by simp [go_sem], ((Below.refl _ _).alloc (Nat.le_refl _) _).alloc (by simp) _, by simp, by simp, below_alloc _ _, ?_⟩
  · exact (Slots.new w T1).grown (World.grownBy_alloc _ _ none) (by simp)
  · exact ⟨by simp [go_sem], by simp [go_sem]⟩

set_option maxRecDepth 100000 in
set_option maxHeartbeats 4000000 in
theorem read_long (s : List UInt8) (w : World) (hl : s.length > 500) (hl2 : s.length ≤ 140737488351232) : Calls Tryd.prog 21 #[.string ⟨s.toArray⟩] w (ReadPost (default, 12) w) := by
  obtain ⟨wa, wb, hwa, hwb, hbb, hsl, e0, ze, hba, hsa, hsb, hab, hrb⟩ := read_opened s w 29 39 56
  have hXl := hsl.lt
  have hEl : w.heap.size + 1 < wa.heap.size := by omega
  obtain ⟨⟨x0, y0, z0, q0, q1, q2⟩, f0, f1, f2⟩ := hsl
  have h5 : (500 : Int) < s.length := by omega
  go_enter_defers Tryd.func21, Tryd.ntmps21
  go_wp2_with fail
  refine ⟨.tuple #[.agg #[.string ⟨#[]⟩, .string ⟨#[]⟩, .slice none 0 0], .int .i64 12], ?_, ?_⟩
  · simp [results, Tryd.results21, go_sem, q0, q1, q2, e0, hXl, hEl]
  · exact readPost_none 12 ((((hba.setCell (p := ⟨w.heap.size, 0, none⟩) (Nat.le_refl _) _).setCell (p := ⟨w.heap.size, 1, none⟩) (Nat.le_refl _) _).setCell (p := ⟨w.heap.size, 2, none⟩) (Nat.le_refl _) _).setCell (p := ⟨w.heap.size + 1, 0, none⟩) (by simp) _)

/-- What the closure leaves, as Read hands it back. -/
def Caught (w : World) (w' : World) : Prop :=
  w'.cell? ⟨w.heap.size, 0, none⟩ = some (.string ⟨#[]⟩) ∧ w'.cell? ⟨w.heap.size, 1, none⟩ = some (.string ⟨#[]⟩) ∧ w'.cell? ⟨w.heap.size, 2, none⟩ = some (.slice none 0 0) ∧ w'.cell? ⟨w.heap.size + 1, 0, none⟩ = some (.int .i64 8) ∧ Below w.heap.size w w'
theorem caught_leaves {w w' : World} (h : Caught w w') (tmps : Array Value) (h2 : tmps[2]? = some (.pointer (some ⟨w.heap.size, 0, none⟩))) (h3 : tmps[3]? = some (.pointer (some ⟨w.heap.size + 1, 0, none⟩))) :
    Leaves Tryd.prog Tryd.f21 tmps (ReadPost (default, 8) w) [] (settle (.panicking [{ v := .iface 52 (.agg #[]), recovered := true }])) w' := by
  obtain ⟨c0, c1, c2, c3, hb⟩ := h
  refine ⟨.tuple #[.agg #[.string ⟨#[]⟩, .string ⟨#[]⟩, .slice none 0 0], .int .i64 8], ?_, readPost_none 8 hb⟩
  have l1 := cell_lt1 c0
  have l2 := cell_lt1 c3
  simp [results, Tryd.results21, go_sem, h2, h3, c0, c1, c2, c3]
/-- At the door, with the panic. -/
theorem door_panics {w wx : World} (hb : Below w.heap.size w wx) (hX : Slots w.heap.size wx) {x : Value} (hE : wx.cell? ⟨w.heap.size + 1, 0, none⟩ = some x) (zE : wx.frozen? ⟨w.heap.size + 1, 0, none⟩ = false) (tmps : Array Value) (h2 : tmps[2]? = some (.pointer (some ⟨w.heap.size, 0, none⟩))) (h3 : tmps[3]? = some (.pointer (some ⟨w.heap.size + 1, 0, none⟩))) :
    Leaves Tryd.prog Tryd.f21 tmps (ReadPost (default, 8) w) [{ target := .fn (.func 30) #[.pointer (some ⟨w.heap.size, 0, none⟩), .pointer (some ⟨w.heap.size + 1, 0, none⟩)], args := #[] }] (.panicking wrongs) wx := by
  refine leaves_cons (f := 30) (args := #[.pointer (some ⟨w.heap.size, 0, none⟩), .pointer (some ⟨w.heap.size + 1, 0, none⟩)]) (by simp) (by simp [go_sem]) ?_
  refine (catch_panics w.heap.size (w.heap.size + 1) wx hX x hE zE (by omega)).mono ?_
  rintro e u' w'' ⟨rfl, rfl, c0, c1, c2, c3, hb2⟩
  exact caught_leaves ⟨c0, c1, c2, c3, hb.trans (hb2 _ (Nat.le_refl _) (by omega))⟩ tmps h2 h3

set_option maxRecDepth 100000 in
set_option maxHeartbeats 4000000 in
theorem read_none (s : List UInt8) (w : World) (hl : s.length ≤ 500) (hn : termsT (s.length + 1) s = none) : Calls Tryd.prog 21 #[.string ⟨s.toArray⟩] w (ReadPost (default, 8) w) := by
  obtain ⟨wa, wb, hwa, hwb, hbb, hsl, e0, ze, hba, hsa, hsb, hab, hrb⟩ := read_opened s w 29 39 56
  have h5 : ¬ (500 : Int) < s.length := by omega
  have HT := readsTerms (s.length + 1) (by omega) (w.heap.size + 2) s (by omega) wb hrb
  rw [hn] at HT
  have HT' := Lib.hid HT
  have HS := Lib.hid (hsl.grown ⟨hab.os, hab.tape, hab.output, hab.size, fun k hk _ => hab.block k hk⟩ (row := none) (by simp))
  have e1 : wb.cell? ⟨w.heap.size + 1, 0, none⟩ = some (.int .i64 0) := (hab.cell (by show w.heap.size + 1 < _; omega)).trans e0
  have z1 : wb.frozen? ⟨w.heap.size + 1, 0, none⟩ = false := (hab.frozen (by show w.heap.size + 1 < _; omega)).trans ze
  have HE1 := Lib.hid e1
  have HZ1 := Lib.hid z1
  have HBB := Lib.hid hbb
  have hmf : ∀ (fn : Fn) (first cap : Array Value) (w : World), (Instr.makeFunc fn first cap).run Tryd.prog w = .ok (.func fn first cap) w := fun _ _ _ _ => rfl
  clear HT hn hsl e0 ze hba hab hrb e1 z1 hbb
  go_enter_defers Tryd.func21, Tryd.ntmps21
  go_wp2_with fail
  refine HT'.out.mono ?_
  rintro e w1 ⟨hb1, rfl⟩
  exact door_panics (HBB.out.trans (hb1.below (by omega) (by omega))) (HS.out.grown hb1 (by simp)) (hb1.cell (p := ⟨w.heap.size + 1, 0, none⟩) (by show w.heap.size + 1 ≠ w.heap.size + 2; omega) HE1.out)
    ((hb1.frozen (p := ⟨w.heap.size + 1, 0, none⟩) (by show w.heap.size + 1 ≠ w.heap.size + 2; omega) (by show w.heap.size + 1 < _; omega)).trans HZ1.out) _ rfl rfl
end Go.Proofs.YtagaoilgnhdebaaDoor
