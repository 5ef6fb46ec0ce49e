/-
  The names, numbers and signs of the texts, as plain functions on bytes. No program.
-/
import Derived.WalkKit
import Derived.WalkSpells
import Derived.WalkLawsBesides
import Derived.Test.YtfcpblclfgkdjaaGreatDoorShelf
namespace Go.Proofs.YtfcpblclfgkdjaaGreatDoor
set_option linter.unusedSimpArgs false
set_option linter.unusedVariables false
open Go.RowKit

def letterI (c : Int) : Bool := c == 95 || (decide (97 ≤ c) && decide (c ≤ 122)) || (decide (65 ≤ c) && decide (c ≤ 90))
def figureI (c : Int) : Bool := decide (48 ≤ c) && decide (c ≤ 57)
def letterB (c : UInt8) : Bool := letterI c.toNat
def figureB (c : UInt8) : Bool := figureI c.toNat

/-- break, continue, else, for, func, if, import, interface, package, range, return, struct, type, var -/
def words1 : List (List UInt8) := [[98, 114, 101, 97, 107], [99, 111, 110, 116, 105, 110, 117, 101], [101, 108, 115, 101], [102, 111, 114], [102, 117, 110, 99], [105, 102], [105, 109, 112, 111, 114, 116], [105, 110, 116, 101, 114, 102, 97, 99, 101], [112, 97, 99, 107, 97, 103, 101], [114, 97, 110, 103, 101], [114, 101, 116, 117, 114, 110], [115, 116, 114, 117, 99, 116], [116, 121, 112, 101], [118, 97, 114]]
/-- case, chan, const, default, defer, fallthrough, go, goto, map, select, switch -/
def words2 : List (List UInt8) := [[99, 97, 115, 101], [99, 104, 97, 110], [99, 111, 110, 115, 116], [100, 101, 102, 97, 117, 108, 116], [100, 101, 102, 101, 114], [102, 97, 108, 108, 116, 104, 114, 111, 117, 103, 104], [103, 111], [103, 111, 116, 111], [109, 97, 112], [115, 101, 108, 101, 99, 116], [115, 119, 105, 116, 99, 104]]
def wordI (l : List UInt8) : Int := if l ∈ words1 then 1 else if l ∈ words2 then 2 else 0

/-- Is the byte at a place one that may stand there? -/
def nameAt (first : Bool) (c : UInt8) : Bool := letterB c || (!first && figureB c)
def nameFrom : Bool → List UInt8 → Bool
  | _, [] => true
  | first, c :: r => nameAt first c && nameFrom false r
/-- A name of layer 2. -/
def nameT (l : List UInt8) : Bool := nameFrom true l && (!l.isEmpty && wordI l == 0)
/-- A name that may be: at most 100 bytes. -/
def nameL (l : List UInt8) : Bool := decide (l.length ≤ 100) && nameT l
/-- Plain digits. -/
def plainL (l : List UInt8) : Bool := l.all figureB && (l == [48] || (!l.isEmpty && (decide (l.length ≤ 200) && !(l.head? == some 48))))

theorem bext {w w1 w2 : World} (h : Below w.heap.size w w1) (k : Below w1.heap.size w1 w2) : Below w.heap.size w w2 := h.trans (k.mono h.size)
theorem bcell {W w1 : World} {B : Nat} (hb : Below B W w1) : (∀ b o, b < B → w1.cell? ⟨b, o, none⟩ = W.cell? ⟨b, o, none⟩) ∧ (∀ b o, b < B → w1.frozen? ⟨b, o, none⟩ = W.frozen? ⟨b, o, none⟩) :=
  ⟨fun b o h => hb.cell (p := ⟨b, o, none⟩) h, fun b o h => hb.frozen (p := ⟨b, o, none⟩) h⟩
theorem below_iter (w : World) (s : ByteArray) (k : Nat) : Below w.heap.size w (w.iter s k) := (Below.refl _ _).alloc (Nat.le_refl _) _
theorem below_drewN {B : Nat} {w w' : World} (h : Below B w w') (n : Nat) : Below B w (w'.drewN n) := ⟨h.os, h.tape, h.output, h.size, h.block⟩
theorem ret_int {k : IntKind} {a b : Int} (h : a = b) : Ending.returned (.int k a) = .returned (.int k b) := by rw [h]
theorem ret_bool {a b : Bool} (h : a = b) : Ending.returned (.bool a) = .returned (.bool b) := by rw [h]
/-! Ranging over a text, byte by byte where it is ASCII. -/
theorem rune_at (l : List UInt8) (k : Nat) (hk : k < l.length) : ∃ r n : Nat, Utf8.decode ⟨l.toArray⟩ k = (r, n) ∧ 1 ≤ n ∧ r ≤ 2147483647 ∧
    ((l[k].toNat < 128 ∧ r = l[k].toNat ∧ n = 1) ∨ (128 ≤ l[k].toNat ∧ 128 ≤ r)) := by
  have hs : k < (⟨l.toArray⟩ : ByteArray).size := by simpa [ByteArray.size] using hk
  have he : (⟨l.toArray⟩ : ByteArray)[k]'hs = l[k] := by simp [ByteArray.getElem_eq_getElem_data]
  refine ⟨(Utf8.decode ⟨l.toArray⟩ k).1, (Utf8.decode ⟨l.toArray⟩ k).2, rfl, ?_, decode_le _ _, ?_⟩
  · by_cases h : l[k].toNat < 128
    · rw [decode_ascii _ k hs (by rw [he]; exact h)]; exact Nat.le_refl _
    · exact (decode_high _ k hs (by rw [he]; omega)).2
  · by_cases h : l[k].toNat < 128
    · left
      rw [decode_ascii _ k hs (by rw [he]; exact h), he]
      exact ⟨h, rfl, rfl⟩
    · right
      exact ⟨by omega, (decode_high _ k hs (by rw [he]; omega)).1⟩

theorem next_at {P : Program} (w : World) (l : List UInt8) (k : Nat) (hk : k < l.length) (r n : Nat) (hd : Utf8.decode ⟨l.toArray⟩ k = (r, n)) (ty : TypeId) :
    (Instr.next (.pointer (some ⟨w.heap.size, 0, none⟩)) true ty).run P (w.iter ⟨l.toArray⟩ k) =
      .ok (.tuple #[.bool true, .int .i64 k, .int .i32 r]) (w.iter ⟨l.toArray⟩ (k + n)) := by
  have hs : k < (⟨l.toArray⟩ : ByteArray).size := by simpa [ByteArray.size] using hk
  have := run_next_any (P := P) w ⟨l.toArray⟩ k ty hs
  rw [hd] at this
  exact this

theorem next_out {P : Program} (w : World) (l : List UInt8) (k : Nat) (hk : ¬ k < l.length) (ty : TypeId) :
    (Instr.next (.pointer (some ⟨w.heap.size, 0, none⟩)) true ty).run P (w.iter ⟨l.toArray⟩ k) = .ok (.tuple #[.bool false]) (w.iter ⟨l.toArray⟩ k) :=
  run_next_end (P := P) w ⟨l.toArray⟩ k ty (by simpa [ByteArray.size] using hk)

theorem letterI_lt {c : Int} (h : letterI c = true) : c < 128 := by simp [letterI] at h; omega
theorem figureI_lt {c : Int} (h : figureI c = true) : c < 128 := by simp [figureI] at h; omega
theorem letter_rune {c : UInt8} {r : Nat} (h : (c.toNat < 128 ∧ r = c.toNat) ∨ (128 ≤ c.toNat ∧ 128 ≤ r)) : letterI (r : Int) = letterB c := by
  unfold letterB
  rcases h with ⟨_, rfl⟩ | ⟨h1, h2⟩
  · rfl
  · have a : letterI (r : Int) = false := by cases e : letterI (r : Int) with | false => rfl | true => have := letterI_lt e; omega
    have b : letterI (c.toNat : Int) = false := by cases e : letterI (c.toNat : Int) with | false => rfl | true => have := letterI_lt e; omega
    rw [a, b]
theorem figure_rune {c : UInt8} {r : Nat} (h : (c.toNat < 128 ∧ r = c.toNat) ∨ (128 ≤ c.toNat ∧ 128 ≤ r)) : figureI (r : Int) = figureB c := by
  unfold figureB
  rcases h with ⟨_, rfl⟩ | ⟨h1, h2⟩
  · rfl
  · have a : figureI (r : Int) = false := by cases e : figureI (r : Int) with | false => rfl | true => have := figureI_lt e; omega
    have b : figureI (c.toNat : Int) = false := by cases e : figureI (c.toNat : Int) with | false => rfl | true => have := figureI_lt e; omega
    rw [a, b]
theorem letterB_lt {c : UInt8} (h : letterB c = true) : c.toNat < 128 := by have := letterI_lt h; omega
theorem figureB_lt {c : UInt8} (h : figureB c = true) : c.toNat < 128 := by have := figureI_lt h; omega
theorem drop_at {l : List UInt8} {k : Nat} (hk : k < l.length) : l.drop k = l[k] :: l.drop (k + 1) := List.drop_eq_getElem_cons hk
theorem nameFrom_at {l : List UInt8} {k : Nat} (hk : k < l.length) (b : Bool) : nameFrom b (l.drop k) = (nameAt b l[k] && nameFrom false (l.drop (k + 1))) := by
  rw [drop_at hk]; rfl
/-! Signs, and what a range binds. -/
def unaryL (l : List UInt8) : Bool := l == [45] || l == [33]
def signsText : List UInt8 := [32, 43, 32, 45, 32, 42, 32, 47, 32, 37, 32, 61, 61, 32, 33, 61, 32, 60, 32, 60, 61, 32, 62, 32, 62, 61, 32, 38, 38, 32, 124, 124, 32]
def binaryL (l : List UInt8) : Bool := !l.isEmpty && (!decide (0 ≤ Lib.indexByte l 32) && Lib.contains signsText ([32] ++ l ++ [32]))
def boundL (l : List UInt8) : Bool := nameL l && !(l == [95])
/-- What a range binds: nothing, one name, or two with a comma between. -/
def rangedL (l : List UInt8) : Bool :=
  l.isEmpty || (if 44 ∈ l then nameL (l.takeWhile (fun c => !(c == 44))) && boundL ((l.dropWhile (fun c => !(c == 44))).drop 1) else boundL l)
theorem takeWhile_parts (pre post : List UInt8) {c : UInt8} (h : c ∉ pre) : (pre ++ c :: post).takeWhile (fun x => !(x == c)) = pre := by
  induction pre with
  | nil => simp
  | cons b l ih =>
    have hb : (!(b == c)) = true := by simp; intro e; exact h (by simp [e])
    simp [List.takeWhile_cons, hb, ih (fun hm => h (by simp [hm]))]
theorem dropWhile_parts (pre post : List UInt8) {c : UInt8} (h : c ∉ pre) : (pre ++ c :: post).dropWhile (fun x => !(x == c)) = c :: post := by
  induction pre with
  | nil => simp
  | cons b l ih =>
    have hb : (!(b == c)) = true := by simp; intro e; exact h (by simp [e])
    simp [List.dropWhile_cons, hb, ih (fun hm => h (by simp [hm]))]
theorem ranged_two {pre post : List UInt8} (h : 44 ∉ pre) : rangedL (pre ++ 44 :: post) = (nameL pre && boundL post) := by
  unfold rangedL
  rw [takeWhile_parts pre post h, dropWhile_parts pre post h]
  simp
theorem ranged_one {l : List UInt8} (h : 44 ∉ l) : rangedL l = (l.isEmpty || boundL l) := by simp [rangedL, h]
/-- The library's MaxLen is some number. -/
def Glob (w : World) : Prop := ∃ m, w.cell? ⟨0, 0, none⟩ = some (.int .i64 m)
theorem Glob.size {w : World} (h : Glob w) : 0 < w.heap.size := by
  obtain ⟨m, h⟩ := h
  unfold World.cell? at h
  rcases Nat.lt_or_ge 0 w.heap.size with hl | hl
  · exact hl
  · simp only [Array.getElem?_eq_none hl] at h
    cases h
theorem Glob.below {w w' : World} {B : Nat} (h : Glob w) (hb : Below B w w') (hB : w.heap.size ≤ B) : Glob w' := by
  have hs := h.size
  obtain ⟨m, h⟩ := h
  exact ⟨m, by rw [hb.cell (p := ⟨0, 0, none⟩) (by show 0 < B; omega)]; exact h⟩
theorem Glob.on {w w' : World} (h : Glob w) (hb : Below w.heap.size w w') : Glob w' := h.below hb (Nat.le_refl _)
end Go.Proofs.YtfcpblclfgkdjaaGreatDoor
