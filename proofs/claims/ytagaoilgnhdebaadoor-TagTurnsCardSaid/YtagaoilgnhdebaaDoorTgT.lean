/-
  tag: rows of texts and of numbers; slices.Contains, Max, Min, strings.Join over them.
-/
import Derived.Test.YtagaoilgnhdebaaDoorShelf
import Derived.Laws.AppendOwn
import Derived.OwnWalk
import Derived.Lib.Join
import Derived.Lib.Slices
import Derived.Lib.SlicesS
import Derived.Test.YtagaoilgnhdebaaDoorTgG
namespace Go.Proofs.YtagaoilgnhdebaaDoor
set_option linter.unusedSimpArgs false
set_option linter.unusedVariables false
open Go.RowKit

/-- The texts that a slice holds. -/
def Strs (w : World) (a : Option Addr) (l : List (List UInt8)) : Prop := ∀ j (h : j < l.length), ∃ b off, a = some ⟨b, off, none⟩ ∧ w.cell? ⟨b, off + j, none⟩ = some (.string ⟨l[j].toArray⟩)
theorem Strs.on {w w' : World} {a : Option Addr} {l : List (List UInt8)} (h : Strs w a l) (hb : Below w.heap.size w w') : Strs w' a l := fun j hj => by
  obtain ⟨b, off, ha, hc⟩ := h j hj
  exact ⟨b, off, ha, (hb.cell (cell_lt1 hc)).trans hc⟩
theorem Strs.nil (w : World) (a : Option Addr) : Strs w a [] := fun j hj => by simp at hj

theorem bytes_inj {s t : List UInt8} (h : (⟨s.toArray⟩ : ByteArray) = ⟨t.toArray⟩) : s = t := by
  have := congrArg ByteArray.data h
  simpa using this
theorem contains_any (l : List (List UInt8)) (x : List UInt8) (a : Option Addr) (c : Nat) (w : World) (hs : Strs w a l) (hl : l.length ≤ 9223372036854775807) :
    Calls Tryd.prog 40 #[.slice a l.length c, .string ⟨x.toArray⟩] w fun e w' => e = .returned (.bool (l.contains x)) ∧ w = w' := by
  cases l with
  | nil => exact (Tryd.slices_Contains_string_empty a c ⟨x.toArray⟩ w).mono fun e w' ⟨he, hw⟩ => ⟨he, hw.symm⟩
  | cons y r =>
    obtain ⟨b, off, rfl, h0⟩ := hs 0 (by simp)
    have hz : ((y :: r).map fun s : List UInt8 => (⟨s.toArray⟩ : ByteArray)).length = (y :: r).length := by simp
    have H := Tryd.slices_Contains_string b off (y :: r).length c ((y :: r).map fun s : List UInt8 => (⟨s.toArray⟩ : ByteArray)) ⟨x.toArray⟩ w (by simp) hl (fun j hj => by
      rw [hz] at hj
      obtain ⟨b', off', e, hc⟩ := hs j hj
      simp only [Option.some.injEq, Addr.mk.injEq, and_true] at e
      obtain ⟨rfl, rfl⟩ := e
      rw [hc, List.getD_eq_getElem?_getD, List.getElem?_map, List.getElem?_eq_getElem hj]
      rfl)
    refine H.mono fun e w' ⟨he, hw⟩ => ⟨?_, hw.symm⟩
    rw [he]
    congr 2
    rw [Bool.eq_iff_iff, Lib.containsS_iff, List.take_of_length_le (by simp)]
    simp only [List.mem_map, List.contains_iff_mem]
    constructor
    · rintro ⟨s, hs, e⟩
      rw [← bytes_inj e]; exact hs
    · exact fun h => ⟨x, h, rfl⟩

/-- A row of the call's own, of one cell each: where it lies. -/
theorem own_cells {base : Nat} {e : TypeId} {v : Value} {n : Nat} {xs : List Value} {w : World} (h : w.ownsRow base e 1 v n xs) (h0 : 0 < n) :
    ∃ g cap, v = .slice (some ⟨g, 0, none⟩) n cap ∧ base ≤ g ∧ g < w.heap.size ∧ n ≤ cap ∧ ∀ j, j < n → w.cell? ⟨g, j, none⟩ = xs[j]? := by
  rcases h.2 with ⟨_, hz⟩ | ⟨g, cap, cur, hv, hb, hg, hcap, hmax, hcs, htk⟩
  · omega
  · refine ⟨g, cap, hv, hb, (Array.getElem?_eq_some_iff.1 hg).1, hcap, fun j hj => ?_⟩
    rw [cell_of_row w g j cur _ (0, 0) hg, ← htk, List.getElem?_take, if_pos (by omega)]
    simp
theorem own_lt {base : Nat} {e : TypeId} {size n : Nat} {v : Value} {xs : List Value} {w : World} (h : w.ownsRow base e size v n xs) : ∀ g, v.ownBlock = some g → base ≤ g ∧ g < w.heap.size := h.lt
theorem own_shape {base : Nat} {e : TypeId} {size n : Nat} {v : Value} {xs : List Value} {w : World} (h : w.ownsRow base e size v n xs) : ∃ a c, v = .slice a n c := by
  rcases h.2 with ⟨rfl, h0⟩ | ⟨g, cap, cur, rfl, _⟩
  · exact ⟨none, 0, by rw [h0]⟩
  · exact ⟨_, _, rfl⟩

def valI (z : Int) : Value := .int .i64 z
def valS (s : List UInt8) : Value := .string ⟨s.toArray⟩
theorem max_eq : ∀ zs : List Int, zs ≠ [] → Lib.maxOf zs = maxL zs
  | [], h => absurd rfl h
  | x :: l, _ => by simp [Lib.maxOf, maxL]
theorem min_eq : ∀ zs : List Int, zs ≠ [] → Lib.minOf zs = minL zs
  | [], h => absurd rfl h
  | x :: l, _ => by simp [Lib.minOf, minL]

theorem max_any {base : Nat} {v : Value} {zs : List Int} {w : World} (h : w.ownsRow base 3 1 v zs.length (zs.map valI)) (h0 : zs ≠ []) (hl : zs.length ≤ 9223372036854775807) :
    Calls Tryd.prog 41 #[v] w fun e w' => e = .returned (.int .i64 (maxL zs)) ∧ w = w' := by
  obtain ⟨g, cap, rfl, hb, hg, hcap, hc⟩ := own_cells h (List.length_pos_iff.2 h0)
  refine (Tryd.slices_Max_int g 0 zs.length cap zs w (List.length_pos_iff.2 h0) (Nat.le_refl _) hl (fun j hj => ?_)).mono fun e w' ⟨he, hw⟩ => ⟨?_, hw.symm⟩
  · rw [Nat.zero_add, hc j hj]; simp [List.getD_eq_getElem?_getD, hj, valI]
  · rw [he, List.take_length, max_eq _ h0]
theorem min_any {base : Nat} {v : Value} {zs : List Int} {w : World} (h : w.ownsRow base 3 1 v zs.length (zs.map valI)) (h0 : zs ≠ []) (hl : zs.length ≤ 9223372036854775807) :
    Calls Tryd.prog 42 #[v] w fun e w' => e = .returned (.int .i64 (minL zs)) ∧ w = w' := by
  obtain ⟨g, cap, rfl, hb, hg, hcap, hc⟩ := own_cells h (List.length_pos_iff.2 h0)
  refine (Tryd.slices_Min_int g 0 zs.length cap zs w (List.length_pos_iff.2 h0) (Nat.le_refl _) hl (fun j hj => ?_)).mono fun e w' ⟨he, hw⟩ => ⟨?_, hw.symm⟩
  · rw [Nat.zero_add, hc j hj]; simp [List.getD_eq_getElem?_getD, hj, valI]
  · rw [he, List.take_length, min_eq _ h0]

theorem join_eq (sep x : List UInt8) (l : List (List UInt8)) : Lib.join (x :: l) sep = joinL sep (x :: l) := by
  show _ = l.foldl (fun a y => a ++ (sep ++ y)) x
  induction l generalizing x with
  | nil => simp [Lib.join, List.intercalate]
  | cons y l ih =>
    rw [List.foldl_cons, ← ih]
    cases l <;> simp [Lib.join, List.intercalate]
theorem join_any {base : Nat} {v : Value} {zs : List (List UInt8)} {sep : List UInt8} {w : World} (h : w.ownsRow base 9 1 v zs.length (zs.map valS)) (h0 : zs ≠ []) (hl : zs.length ≤ 140737488355328) (hj : (joinL sep zs).length ≤ 140737488355328) :
    Calls Tryd.prog 43 #[v, .string ⟨sep.toArray⟩] w fun e w' => e = .returned (.string ⟨(joinL sep zs).toArray⟩) ∧ Below w.heap.size w w' := by
  obtain ⟨g, cap, rfl, hb, hg, hcap, hc⟩ := own_cells h (List.length_pos_iff.2 h0)
  have e1 : ((zs.map fun s : List UInt8 => (⟨s.toArray⟩ : ByteArray)).map (·.data.toList)) = zs := by simp [Function.comp_def]
  have e2 : (zs.map fun s : List UInt8 => (⟨s.toArray⟩ : ByteArray)).length = zs.length := by simp
  have e3 : Lib.join zs sep = joinL sep zs := by
    cases zs with
    | nil => exact absurd rfl h0
    | cons x l => exact join_eq sep x l
  have H := Tryd.strings_Join g 0 cap (zs.map fun s : List UInt8 => (⟨s.toArray⟩ : ByteArray)) ⟨sep.toArray⟩ w (fun j x hx => by
      have hj2 : j < zs.length := by have := (List.getElem?_eq_some_iff.1 hx).1; simpa using this
      rw [Nat.zero_add, hc j hj2]
      simp [hj2] at hx
      simp [hj2, valS, hx]) hg (by rw [e2]; exact hl) (by rw [e2]; exact hcap) (by rw [e1, List.toList_toArray, e3]; exact hj)
  rw [e1, e2, List.toList_toArray, e3] at H
  exact H
end Go.Proofs.YtagaoilgnhdebaaDoor
