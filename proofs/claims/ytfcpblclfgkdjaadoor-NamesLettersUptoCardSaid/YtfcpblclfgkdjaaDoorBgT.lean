/-
  small facts: worlds, results, ranging over a text, figures. Of no function.
-/
import Derived.WalkKit
import Derived.WalkSpells
import Derived.WalkLawsBesides
import Derived.Lib.Hide
import Derived.Test.YtfcpblclfgkdjaaDoorProg
namespace Go.Proofs.YtfcpblclfgkdjaaDoor
set_option linter.unusedSimpArgs false
set_option linter.unusedVariables false
open Go.RowKit

def figureI (c : Int) : Bool := decide (48 ≤ c) && decide (c ≤ 57)
def figureB (c : UInt8) : Bool := figureI c.toNat
/-- Plain digits. -/
def plainL (l : List UInt8) : Bool := l.all figureB && (l == [48] || (!l.isEmpty && (decide (l.length ≤ 200) && !(l.head? == some 48))))

theorem bext {w w1 w2 : World} (h : Below w.heap.size w w1) (k : Below w1.heap.size w1 w2) : Below w.heap.size w w2 := h.trans (k.mono h.size)
theorem bcell {W w1 : World} {B : Nat} (hb : Below B W w1) : (∀ b o, b < B → w1.cell? ⟨b, o, none⟩ = W.cell? ⟨b, o, none⟩) ∧ (∀ b o, b < B → w1.frozen? ⟨b, o, none⟩ = W.frozen? ⟨b, o, none⟩) :=
  ⟨fun b o h => hb.cell (p := ⟨b, o, none⟩) h, fun b o h => hb.frozen (p := ⟨b, o, none⟩) h⟩
theorem below_iter (w : World) (s : ByteArray) (k : Nat) : Below w.heap.size w (w.iter s k) := (Below.refl _ _).alloc (Nat.le_refl _) _
theorem below_alloc (w : World) (o : Obj) : Below w.heap.size w (w.alloc o) := (Below.refl _ _).alloc (Nat.le_refl _) _
theorem below_drewN {B : Nat} {w w' : World} (h : Below B w w') (n : Nat) : Below B w (w'.drewN n) := ⟨h.os, h.tape, h.output, h.size, h.block⟩
theorem ret_int {k : IntKind} {a b : Int} (h : a = b) : Ending.returned (.int k a) = .returned (.int k b) := by rw [h]
theorem ret_bool {a b : Bool} (h : a = b) : Ending.returned (.bool a) = .returned (.bool b) := by rw [h]
/-! Ranging over a text, byte by byte where it is ASCII. -/
theorem rune_at (l : List UInt8) (k : Nat) (hk : k < l.length) : ∃ r n : Nat, Utf8.decode ⟨l.toArray⟩ k = (r, n) ∧ 1 ≤ n ∧ r ≤ 2147483647 ∧
    ((l[k].toNat < 128 ∧ r = l[k].toNat ∧ n = 1) ∨ (128 ≤ l[k].toNat ∧ 128 ≤ r)) := by
  have hs : k < (⟨l.toArray⟩ : ByteArray).size := by simpa [ByteArray.size] using hk
  have he : (⟨l.toArray⟩ : ByteArray)[k]'hs = l[k] := by simp [ByteArray.getElem_eq_getElem_data]
  refine ⟨(Utf8.decode ⟨l.toArray⟩ k).1, (Utf8.decode ⟨l.toArray⟩ k).2, rfl, ?_, decode_le _ _, ?_⟩
  · by_cases h : l[k].toNat < 128
    · rw [decode_ascii _ k hs (by rw [he]; exact h)]; exact Nat.le_refl _
    · exact (decode_high _ k hs (by rw [he]; omega)).2
  · by_cases h : l[k].toNat < 128
    · left
      rw [decode_ascii _ k hs (by rw [he]; exact h), he]
      exact ⟨h, rfl, rfl⟩
    · right
      exact ⟨by omega, (decode_high _ k hs (by rw [he]; omega)).1⟩

theorem next_at {P : Program} (w : World) (l : List UInt8) (k : Nat) (hk : k < l.length) (r n : Nat) (hd : Utf8.decode ⟨l.toArray⟩ k = (r, n)) (ty : TypeId) :
    (Instr.next (.pointer (some ⟨w.heap.size, 0, none⟩)) true ty).run P (w.iter ⟨l.toArray⟩ k) =
      .ok (.tuple #[.bool true, .int .i64 k, .int .i32 r]) (w.iter ⟨l.toArray⟩ (k + n)) := by
  have hs : k < (⟨l.toArray⟩ : ByteArray).size := by simpa [ByteArray.size] using hk
  have := run_next_any (P := P) w ⟨l.toArray⟩ k ty hs
  rw [hd] at this
  exact this

theorem next_out {P : Program} (w : World) (l : List UInt8) (k : Nat) (hk : ¬ k < l.length) (ty : TypeId) :
    (Instr.next (.pointer (some ⟨w.heap.size, 0, none⟩)) true ty).run P (w.iter ⟨l.toArray⟩ k) = .ok (.tuple #[.bool false]) (w.iter ⟨l.toArray⟩ k) :=
  run_next_end (P := P) w ⟨l.toArray⟩ k ty (by simpa [ByteArray.size] using hk)

theorem figureI_lt {c : Int} (h : figureI c = true) : c < 128 := by simp [figureI] at h; omega
theorem figure_rune {c : UInt8} {r : Nat} (h : (c.toNat < 128 ∧ r = c.toNat) ∨ (128 ≤ c.toNat ∧ 128 ≤ r)) : figureI (r : Int) = figureB c := by
  unfold figureB
  rcases h with ⟨_, rfl⟩ | ⟨h1, h2⟩
  · rfl
  · have a : figureI (r : Int) = false := by cases e : figureI (r : Int) with | false => rfl | true => have := figureI_lt e; omega
    have b : figureI (c.toNat : Int) = false := by cases e : figureI (c.toNat : Int) with | false => rfl | true => have := figureI_lt e; omega
    rw [a, b]
theorem figureB_lt {c : UInt8} (h : figureB c = true) : c.toNat < 128 := by have := figureI_lt h; omega
theorem drop_at {l : List UInt8} {k : Nat} (hk : k < l.length) : l.drop k = l[k] :: l.drop (k + 1) := List.drop_eq_getElem_cons hk
end Go.Proofs.YtfcpblclfgkdjaaDoor
