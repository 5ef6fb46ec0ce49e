/-
  rows of digits in memory; small functions: a digit of a row, the sign of a number.
-/
import Derived.Test.YteiipiomcbohnaaDoorBgC
import Derived.Test.YteiipiomcbohnaaDoorBgT
namespace Go.Proofs.YteiipiomcbohnaaDoor
set_option linter.unusedSimpArgs false
set_option linter.unusedVariables false
open Go.RowKit

/-- The slice at a, of capacity c, holds these numbers. -/
structure Row (w : World) (a : Option Addr) (c : Nat) (l : List Int) : Prop where
  cap : l.length ≤ c
  reach : c ≤ 9223372036854775807
  cells : ∀ j (h : j < l.length), ∃ b off, a = some ⟨b, off, none⟩ ∧ w.cell? ⟨b, off + j, none⟩ = some (.int .i64 l[j])
theorem cell_lt {w : World} {p : Addr} {v : Value} (h : w.cell? p = some v) : p.block < w.heap.size := by
  unfold World.cell? at h
  rcases Nat.lt_or_ge p.block w.heap.size with hl | hl
  · exact hl
  · simp only [Array.getElem?_eq_none hl] at h
    cases h
theorem Row.on {w w' : World} {a : Option Addr} {c : Nat} {l : List Int} (h : Row w a c l) (hb : Below w.heap.size w w') : Row w' a c l :=
  ⟨h.cap, h.reach, fun j hj => by
    obtain ⟨b, off, e, hc⟩ := h.cells j hj
    exact ⟨b, off, e, ((bcell hb).1 _ _ (cell_lt hc)).trans hc⟩⟩
theorem Row.nil (w : World) (a : Option Addr) (c : Nat) (hc : c ≤ 9223372036854775807) : Row w a c [] := ⟨by simp, hc, fun j hj => by simp at hj⟩
theorem Row.at {w : World} {a : Option Addr} {c : Nat} {l : List Int} (h : Row w a c l) (h0 : 0 < l.length) : ∃ b off, a = some ⟨b, off, none⟩ ∧ b < w.heap.size ∧ ∀ j (h : j < l.length), w.cell? ⟨b, off + j, none⟩ = some (.int .i64 l[j]) := by
  obtain ⟨b, off, e, hc⟩ := h.cells 0 h0
  refine ⟨b, off, e, cell_lt hc, fun j hj => ?_⟩
  obtain ⟨b', off', e', hc'⟩ := h.cells j hj
  rw [e] at e'
  simp only [Option.some.injEq, Addr.mk.injEq, and_true] at e'
  rw [e'.1, e'.2]; exact hc'
theorem Row.take {w : World} {a : Option Addr} {c : Nat} {l : List Int} (h : Row w a c l) (k : Nat) : Row w a c (l.take k) :=
  ⟨Nat.le_trans (by simp; omega) h.cap, h.reach, fun j hj => by
    rw [List.length_take] at hj
    obtain ⟨b, off, e, hc⟩ := h.cells j (by omega)
    exact ⟨b, off, e, by rw [hc, List.getElem_take]⟩⟩
theorem Row.len63 {w : World} {a : Option Addr} {c : Nat} {l : List Int} (h : Row w a c l) : l.length ≤ 9223372036854775807 := by
  have := h.cap; have := h.reach; omega

/-- -1, 0 or 1. -/
def sgI (n : Int) : Int := if n < 0 then -1 else if n = 0 then 0 else 1

theorem digit_any (l : List Int) (a : Option Addr) (c k : Nat) (w : World) (h : Row w a c l) (hk : k ≤ 1000000) :
    Calls Tryd.prog 48 #[.slice a l.length c, .int .i64 k] w fun e w' => e = .returned (.int .i64 (dgt l k)) ∧ w = w' := by
  have h63 := h.len63
  by_cases hlt : k < l.length
  · obtain ⟨b, off, rfl, _, hc⟩ := h.at (by omega)
    have hck := hc k hlt
    have he : dgt l k = l[k] := dgt_at hlt
    have He := Lib.hid he
    clear hc he h
    go_enter Tryd.func48, Tryd.ntmps48
    go_wp2
    go_ret
    exact ⟨ret_int He.out.symm, rfl⟩
  · have he : dgt l k = 0 := dgt_out (by omega)
    have He := Lib.hid he
    clear he h
    go_enter Tryd.func48, Tryd.ntmps48
    go_wp2
    go_ret
    exact ⟨ret_int He.out.symm, rfl⟩

theorem sign_any (n : Int) (w : World) :
    Calls Tryd.prog 68 #[.int .i64 n] w fun e w' => e = .returned (.int .i64 (sgI n)) ∧ w = w' := by
  go_enter Tryd.func68, Tryd.ntmps68
  go_wp2
  all_goals
    go_ret
    refine ⟨ret_int ?_, rfl⟩
    unfold sgI
    repeat (first | omega | split)
end Go.Proofs.YteiipiomcbohnaaDoor
