/-
  ported for this seat out of TokW, Txt, Plain, NodeA, NodeB, NodeC, NodeD, NodeE, NodeF, NodeG, NodeH, NodeI, NodeJ, NodeK, NodeL, NodeM, NodeN, NodeO, NodeP, NodeQ, NodeR, NodeS, IterA, IterB, IterC, IterE, EqualF, SameA, RefA, Sorts, File, WalkP, RightA (port.py)
-/
import Derived.Test.YtfcpblclfgkdjaaGreatDoorProg
import Derived.Test.YtfcpblclfgkdjaaGreatDoorTok
import Derived.Lib.Hide
import Derived.Deep.QuietTactic
import Derived.BigQuiet
import Derived.Test.YtfcpblclfgkdjaaGreatDoorNd
import Derived.Deep.RegionWith
import Derived.Laws.EntriesVeiled
import Derived.Deep.DeepMust
import Derived.Deep.RegionHeld3
import Derived.RangeFuncNested
import Derived.RangeFuncBound
import Derived.RangeFuncCalls
import Derived.RangeFuncLeaves
import Derived.Shelf.Abstract
import Derived.Shelf.RegionOpen
import Derived.WalkKit
import Derived.OwnWalkIn
import Derived.TacticsInMore
import Derived.LoopNIn
import Derived.LoopIn
import Derived.Maps.OwnIn
import Derived.StringKeys
namespace Go.Proofs.YtfcpblclfgkdjaaGreatDoor
set_option linter.unusedSimpArgs false
set_option linter.unusedVariables false
open Go.RowKit

theorem nameT_of {l : List UInt8} {b : Bool} (h : nameFrom true l = b) : nameT l = (b && (!l.isEmpty && wordI l == 0)) := by rw [nameT, h]

theorem indexByte_no {l : List UInt8} {c : UInt8} (h : c ∉ l) : Lib.indexByte l c = -1 := by
  induction l with
  | nil => rfl
  | cons b l ih =>
    have hb : (b == c) = false := by simp; intro e; exact h (by simp [e])
    have hl := ih (fun hm => h (by simp [hm]))
    simp [Lib.indexByte, hb, hl]
theorem indexByte_yes (pre post : List UInt8) {c : UInt8} (h : c ∉ pre) : Lib.indexByte (pre ++ c :: post) c = pre.length := by
  induction pre with
  | nil => simp [Lib.indexByte]
  | cons b l ih =>
    have hb : (b == c) = false := by simp; intro e; exact h (by simp [e])
    have hl := ih (fun hm => h (by simp [hm]))
    simp [Lib.indexByte, hb, hl]
theorem parts_of {l : List UInt8} {c : UInt8} (h : c ∈ l) : ∃ pre post, l = pre ++ c :: post ∧ c ∉ pre := by
  induction l with
  | nil => cases h
  | cons b l ih =>
    by_cases hb : b = c
    · exact ⟨[], l, by simp [hb], by simp⟩
    · obtain ⟨pre, post, rfl, hp⟩ := ih (by simpa [Ne.symm hb] using h)
      exact ⟨b :: pre, post, rfl, by simp [hp, Ne.symm hb]⟩
theorem ret_cut {a b c d : ByteArray} {x : Bool} (h1 : a = c) (h2 : b = d) : Ending.returned (.tuple #[.string a, .string b, .bool x]) = .returned (.tuple #[.string c, .string d, .bool x]) := by rw [h1, h2]
theorem cut_to (l : List UInt8) (k : Nat) : (⟨l.toArray⟩ : ByteArray).extract 0 k = ⟨(l.take k).toArray⟩ := by rw [ByteArray.extract_mk]; simp
theorem cut_from (l : List UInt8) (k : Nat) : (⟨l.toArray⟩ : ByteArray).extract k l.length = ⟨(l.drop k).toArray⟩ := by rw [ByteArray.extract_mk, List.take_of_length_le (by simp)]

set_option maxHeartbeats 400000 in
theorem slcut_no (l : List UInt8) (c : UInt8) (w : World) (h : c ∉ l) :
    Calls Tryz.prog 69 #[.string ⟨l.toArray⟩, .string ⟨#[c]⟩] w fun e w' => e = .returned (.tuple #[.string ⟨l.toArray⟩, .string ⟨#[]⟩, .bool false]) ∧ Below w.heap.size w w' := by
  have hi : Lib.indexByte l c = -1 := indexByte_no h
  go_enter Tryz.func69, Tryz.ntmps69
  go_wp2_with fail
  refine (Tryz.stringslite_Index_one _ _ _).mono ?_
  rintro e w' ⟨rfl, rfl⟩
  go_wp2_with fail
  go_ret3
  exact ⟨rfl, Below.refl _ _⟩


set_option maxHeartbeats 400000 in
theorem slcut_at (l : List UInt8) (c : UInt8) (k : Nat) (w : World) (hi : Lib.indexByte l c = k) (hk : k < l.length) (hl : l.length ≤ 9223372036854775807) :
    Calls Tryz.prog 69 #[.string ⟨l.toArray⟩, .string ⟨#[c]⟩] w fun e w' => e = .returned (.tuple #[.string ⟨(l.take k).toArray⟩, .string ⟨(l.drop (k + 1)).toArray⟩, .bool true]) ∧ Below w.heap.size w w' := by
  go_enter Tryz.func69, Tryz.ntmps69
  go_wp2_with fail
  refine (Tryz.stringslite_Index_one _ _ _).mono ?_
  rintro e w' ⟨rfl, rfl⟩
  go_wp2_with fail
  go_quiet (fail)
  go_wp2_with fail
  go_ret3
  exact ⟨ret_cut (cut_to _ _) (cut_from _ _), below_drewN (Below.refl _ _) _⟩

set_option maxHeartbeats 400000 in
theorem cut_no (l : List UInt8) (c : UInt8) (w : World) (h : c ∉ l) :
    Calls Tryz.prog 52 #[.string ⟨l.toArray⟩, .string ⟨#[c]⟩] w fun e w' => e = .returned (.tuple #[.string ⟨l.toArray⟩, .string ⟨#[]⟩, .bool false]) ∧ Below w.heap.size w w' := by
  go_enter Tryz.func52, Tryz.ntmps52
  go_wp2_with fail
  refine (slcut_no _ _ _ h).mono ?_
  rintro e w' ⟨rfl, hb⟩
  go_wp2_with fail
  go_ret3
  exact ⟨rfl, hb⟩

set_option maxHeartbeats 400000 in
theorem cut_yes (pre post : List UInt8) (c : UInt8) (w : World) (h : c ∉ pre) (l : List UInt8) (e : l = pre ++ c :: post) (hl : l.length ≤ 9223372036854775807) :
    Calls Tryz.prog 52 #[.string ⟨l.toArray⟩, .string ⟨#[c]⟩] w fun e w' => e = .returned (.tuple #[.string ⟨pre.toArray⟩, .string ⟨post.toArray⟩, .bool true]) ∧ Below w.heap.size w w' := by
  have hi : Lib.indexByte l c = (pre.length : Nat) := by rw [e]; exact indexByte_yes pre post h
  have hk : pre.length < l.length := by rw [e]; simp
  have h1 : l.take pre.length = pre := by rw [e]; simp
  have h2 : l.drop (pre.length + 1) = post := by rw [e]; simp
  have H := slcut_at l c pre.length w hi hk hl
  rw [h1, h2] at H
  clear h1 h2 hi hk e
  go_enter Tryz.func52, Tryz.ntmps52
  go_wp2_with fail
  refine H.mono ?_
  rintro e w' ⟨rfl, hb⟩
  go_wp2_with fail
  go_ret3
  exact ⟨rfl, hb⟩
end Go.Proofs.YtfcpblclfgkdjaaGreatDoor

namespace Go.Proofs.YtfcpblclfgkdjaaGreatDoor
set_option linter.unusedSimpArgs false
set_option linter.unusedVariables false
open Go.RowKit
theorem cat2 (a b : List UInt8) : (⟨a.toArray⟩ : ByteArray) ++ ⟨b.toArray⟩ = ⟨(a ++ b).toArray⟩ := by
  apply ByteArray.ext; simp
theorem cat3 (a b c : List UInt8) : (⟨a.toArray⟩ : ByteArray) ++ ⟨b.toArray⟩ ++ ⟨c.toArray⟩ = ⟨(a ++ b ++ c).toArray⟩ := by rw [cat2, cat2]

end Go.Proofs.YtfcpblclfgkdjaaGreatDoor

namespace Go.Proofs.YtfcpblclfgkdjaaGreatDoor
set_option linter.unusedSimpArgs false
set_option linter.unusedVariables false
open Go.RowKit
theorem all_from {l : List UInt8} {p : UInt8 → Bool} {k : Nat} (hk : k < l.length) : (l.drop k).all p = (p l[k] && (l.drop (k + 1)).all p) := by rw [drop_at hk]; rfl
theorem plain_of {l : List UInt8} {b : Bool} (h : l.all figureB = b) : plainL l = (b && (l == [48] || (!l.isEmpty && (decide (l.length ≤ 200) && !(l.head? == some 48))))) := by rw [plainL, h]
theorem figure_tests (c : Int) : figureI c = (!decide (c < 48) && !decide (57 < c)) := by
  unfold figureI; rw [Bool.eq_iff_iff]; simp

theorem byte_ne (x y : UInt8) : ((x.toNat : Int) != (y.toNat : Int)) = !(x == y) := by
  rw [Bool.eq_iff_iff]
  simp only [bne_iff_ne, ne_eq, Bool.not_eq_true', beq_eq_false_iff_ne]
  constructor
  · intro h e; exact h (by rw [e])
  · intro h e; exact h (UInt8.toNat_inj.1 (by omega))
theorem str_get (l : List UInt8) (k : Nat) (h : k < (⟨l.toArray⟩ : ByteArray).size) : (⟨l.toArray⟩ : ByteArray)[k]'h = l[k]'(by simpa [ByteArray.size] using h) := by simp [ByteArray.getElem_eq_getElem_data]
theorem head_ne (l : List UInt8) (h : 0 < l.length) (h2 : l.length ≤ 200) : ((((⟨l.toArray⟩ : ByteArray)[0]'(by simpa [ByteArray.size] using h)).toNat : Int) != 48) = (false || !false && (decide (l.length ≤ 200) && !l.head? == some 48)) := by
  rw [str_get]
  rcases l with _ | ⟨x, r⟩
  · simp at h
  · have := byte_ne x 48
    simp only [List.getElem_cons_zero, List.head?_cons, h2, decide_true, Bool.true_and, Bool.not_false, Bool.false_or]
    rw [show ((48 : UInt8).toNat : Int) = 48 from rfl] at this
    rw [this]
    rfl

end Go.Proofs.YtfcpblclfgkdjaaGreatDoor

namespace Go.Proofs.YtfcpblclfgkdjaaGreatDoor
set_option linter.unusedSimpArgs false
set_option linter.unusedVariables false
open Go.RowKit
end Go.Proofs.YtfcpblclfgkdjaaGreatDoor

namespace Go.Proofs.YtfcpblclfgkdjaaGreatDoor
set_option linter.unusedSimpArgs false
set_option linter.unusedVariables false
open Go.RowKit
end Go.Proofs.YtfcpblclfgkdjaaGreatDoor

namespace Go.Proofs.YtfcpblclfgkdjaaGreatDoor
set_option linter.unusedSimpArgs false
set_option linter.unusedVariables false
open Go.RowKit
/-- The four cells of a struct in a block of its own, read in a later world. -/
theorem four_at {w w1 : World} {B b : Nat} {v0 v1 v2 v3 : Value} (hb : Below B w w1) (hB : b < B) (h0 : w.cell? ⟨b, 0, none⟩ = some v0) (h1 : w.cell? ⟨b, 1, none⟩ = some v1) (h2 : w.cell? ⟨b, 2, none⟩ = some v2) (h3 : w.cell? ⟨b, 3, none⟩ = some v3)
    (f0 : w.frozen? ⟨b, 0, none⟩ = false) (f1 : w.frozen? ⟨b, 1, none⟩ = false) (f2 : w.frozen? ⟨b, 2, none⟩ = false) (f3 : w.frozen? ⟨b, 3, none⟩ = false) :
    (w1.cell? ⟨b, 0, none⟩ = some v0 ∧ w1.cell? ⟨b, 1, none⟩ = some v1 ∧ w1.cell? ⟨b, 2, none⟩ = some v2 ∧ w1.cell? ⟨b, 3, none⟩ = some v3) ∧
    (w1.frozen? ⟨b, 0, none⟩ = false ∧ w1.frozen? ⟨b, 1, none⟩ = false ∧ w1.frozen? ⟨b, 2, none⟩ = false ∧ w1.frozen? ⟨b, 3, none⟩ = false) := by
  obtain ⟨hc, hf⟩ := bcell hb
  exact ⟨⟨(hc _ _ hB).trans h0, (hc _ _ hB).trans h1, (hc _ _ hB).trans h2, (hc _ _ hB).trans h3⟩, (hf _ _ hB).trans f0, (hf _ _ hB).trans f1, (hf _ _ hB).trans f2, (hf _ _ hB).trans f3⟩

theorem take_all {p : Nat → Bool} {k : Nat} (h : (List.range k).all p = true) (hp : p k = true) : (List.range (k + 1)).all p = true := by
  rw [List.range_succ, List.all_append, h]; simp [hp]
theorem all_no {p : Nat → Bool} {k n : Nat} (hk : k < n) (hp : p k = false) : (List.range n).all p = false := by
  rw [List.all_eq_false]; exact ⟨k, by simpa using hk, by simp [hp]⟩

/-- The function values that lie in a row. -/
def FnsAt (w : World) (bs : Option Addr) (fs : List (Nat × Array Value)) : Prop :=
  ∀ i (h : i < fs.length), ∃ b off, bs = some ⟨b, off, none⟩ ∧ b < w.heap.size ∧ w.cell? ⟨b, off + i, none⟩ = some (.func (.func fs[i].1) #[] fs[i].2)
theorem FnsAt.on {w w' : World} {bs : Option Addr} {fs : List (Nat × Array Value)} (h : FnsAt w bs fs) (hb : Below w.heap.size w w') : FnsAt w' bs fs := fun i hi => by
  obtain ⟨b, off, e, hB, hc⟩ := h i hi
  exact ⟨b, off, e, by have := hb.size; omega, (hb.cell (p := ⟨b, off + i, none⟩) hB).trans hc⟩

end Go.Proofs.YtfcpblclfgkdjaaGreatDoor

namespace Go.Proofs.YtfcpblclfgkdjaaGreatDoor
set_option linter.unusedSimpArgs false
set_option linter.unusedVariables false
open Go.RowKit

/-- Function K computes f of every node of at most so many within one another. -/
def Ok (K : Nat) (f : Nd → Bool) (n : Nat) : Prop :=
  ∀ (t : Nd) (a : Option Addr) (c : Nat) (w : World), t.height ≤ n → Glob w → Kids w w.heap.size a t.kids → Fits t c →
    Calls Tryz.prog K #[.agg #[.int .i64 t.kind, .string ⟨t.text.toArray⟩, .slice a t.kids.length c, .int .i64 t.pos]] w fun e w' => e = .returned (.bool (f t)) ∧ Below w.heap.size w w'
theorem Ok.says {K : Nat} {f : Nd → Bool} {n : Nat} (h : Ok K f n) {t : Nd} (ht : t.height ≤ n) {w : World} (hg : Glob w) : SaysNd Tryz.prog K #[] t (f t) w :=
  fun W a c hW hk hf => by simpa using h t a c W ht (hg.on hW) hk hf
theorem Ok.kids {K : Nat} {f : Nd → Bool} {n : Nat} (h : Ok K f n) {t : Nd} (ht : t.height ≤ n + 1) {w : World} (hg : Glob w) : ∀ k, k ∈ t.kids → SaysNd Tryz.prog K #[] k (f k) w :=
  fun k hk => h.says (by have := Nd.height_kid hk; omega) hg

def kids0 : List Nd → Bool | [] => true | _ => false
def kids1 (f : Nd → Bool) : List Nd → Bool | [a] => f a | _ => false
def kids2 (f g : Nd → Bool) : List Nd → Bool | [a, b] => f a && g b | _ => false
def kids3 (f g h : Nd → Bool) : List Nd → Bool | [a, b, c] => f a && (g b && h c) | _ => false
def kids4 (f g h i : Nd → Bool) : List Nd → Bool | [a, b, c, d] => f a && (g b && (h c && i d)) | _ => false

/-- What tree.of tells: a node of a kind, without a text, whose kids are so. -/
def ofB (kind : Int) (ks : List Nd → Bool) (t : Nd) : Bool := t.kind == kind && (t.text.isEmpty && ks t.kids)

section
variable (t : Nd) (a : Option Addr) (c : Nat) (kind : Int) (w : World)
end
end Go.Proofs.YtfcpblclfgkdjaaGreatDoor

namespace Go.Proofs.YtfcpblclfgkdjaaGreatDoor
set_option linter.unusedSimpArgs false
set_option linter.unusedVariables false
open Go.RowKit

theorem Fits.bare {t : Nd} {c : Nat} (h : Fits t c) : Fits (.mk t.kind [] t.kids t.pos) c := by
  obtain ⟨h1, h2, h3, h4, h5, h6, h7⟩ := h
  exact ⟨h1, h2, h3, h4, by simp, h6, h7⟩
section
variable (t : Nd) (a : Option Addr) (c : Nat) (kind : Int) (w : World)
end

/-- signature's parameter. -/
def paramB (ty : Nd → Bool) (so : List UInt8 → Bool) (t : Nd) : Bool := so t.text && (t.kind == 8 && kids1 ty t.kids)
def sigB (ty : Nd → Bool) (so : List UInt8 → Bool) (t : Nd) : Bool :=
  ofB 12 (kids2 (fun l => l.kind == 6 && (l.text.isEmpty && l.kids.all (paramB ty so))) (fun r => (r.kind == 0 && (r.text.isEmpty && r.kids.isEmpty)) || ty r)) t

end Go.Proofs.YtfcpblclfgkdjaaGreatDoor

namespace Go.Proofs.YtfcpblclfgkdjaaGreatDoor
set_option linter.unusedSimpArgs false
set_option linter.unusedVariables false
open Go.RowKit
def emptyB (t : Nd) : Bool := t.kind == 0 && (t.text.isEmpty && t.kids.isEmpty)
def listB (p : Nd → Bool) (t : Nd) : Bool := t.kind == 6 && (t.text.isEmpty && t.kids.all p)
theorem cell_on {w w' : World} {b o : Nat} {v : Value} (h : w.cell? ⟨b, o, none⟩ = some v) (hb : Below w.heap.size w w') : w'.cell? ⟨b, o, none⟩ = some v :=
  (hb.cell (p := ⟨b, o, none⟩) (cell_lt h)).trans h
theorem below2 (w : World) (o1 o2 : Obj) : Below w.heap.size w ((w.alloc o1).alloc o2) := bext (below_alloc _ _) (below_alloc _ _)
theorem below3 (w : World) (o1 o2 o3 : Obj) : Below w.heap.size w (((w.alloc o1).alloc o2).alloc o3) := bext (below2 _ _ _) (below_alloc _ _)
theorem below3d (w : World) (o1 o2 o3 : Obj) : Below w.heap.size w (((w.alloc o1).alloc o2).alloc o3).drew := (below3 w o1 o2 o3).drew


end Go.Proofs.YtfcpblclfgkdjaaGreatDoor

namespace Go.Proofs.YtfcpblclfgkdjaaGreatDoor
set_option linter.unusedSimpArgs false
set_option linter.unusedVariables false
open Go.RowKit

def typeB (ty : Nd → Bool) (t : Nd) : Bool :=
  if t.kind = 10 then nameL t.text && t.kids.all ty else if t.kind = 11 then ofB 11 (kids1 ty) t else if t.kind = 12 then sigB ty (fun l => l.isEmpty) t else false

end Go.Proofs.YtfcpblclfgkdjaaGreatDoor

namespace Go.Proofs.YtfcpblclfgkdjaaGreatDoor
set_option linter.unusedSimpArgs false
set_option linter.unusedVariables false
open Go.RowKit
def tildeL (l : List UInt8) : Bool := l.isEmpty || l == [126]
def stepsL (l : List UInt8) : Bool := l == [43, 43] || l == [45, 45]

end Go.Proofs.YtfcpblclfgkdjaaGreatDoor

namespace Go.Proofs.YtfcpblclfgkdjaaGreatDoor
set_option linter.unusedSimpArgs false
set_option linter.unusedVariables false
open Go.RowKit

/-- The node's own box, and what lay, are as they were. -/
structure Mid (t : Nd) (a : Option Addr) (c : Nat) (w : World) (b : Nat) (w1 : World) : Prop where
  on : Below w.heap.size w w1
  four : w1.cell? ⟨b, 0, none⟩ = some (.int .i64 t.kind) ∧ w1.cell? ⟨b, 1, none⟩ = some (.string ⟨t.text.toArray⟩) ∧ w1.cell? ⟨b, 2, none⟩ = some (.slice a t.kids.length c) ∧ w1.cell? ⟨b, 3, none⟩ = some (.int .i64 t.pos)
theorem Mid.lt {t : Nd} {a : Option Addr} {c : Nat} {w : World} {b : Nat} {w1 : World} (h : Mid t a c w b w1) : b < w1.heap.size := cell_lt h.four.1
theorem Mid.next {t : Nd} {a : Option Addr} {c : Nat} {w : World} {b : Nat} {w1 w2 : World} (h : Mid t a c w b w1) (hb : Below w1.heap.size w1 w2) : Mid t a c w b w2 :=
  ⟨bext h.on hb, cell_on h.four.1 hb, cell_on h.four.2.1 hb, cell_on h.four.2.2.1 hb, cell_on h.four.2.2.2 hb⟩
theorem mid0 (t : Nd) (a : Option Addr) (c : Nat) (w : World) (ty : TypeId) : Mid t a c w w.heap.size (w.alloc (.cells #[.int .i64 t.kind, .string ⟨t.text.toArray⟩, .slice a t.kids.length c, .int .i64 t.pos] ty)) :=
  ⟨below_alloc _ _, by simp [go_sem], by simp [go_sem], by simp [go_sem], by simp [go_sem]⟩
theorem mid0d (t : Nd) (a : Option Addr) (c : Nat) (w : World) (ty : TypeId) : Mid t a c w w.heap.size (w.alloc (.cells #[.int .i64 t.kind, .string ⟨t.text.toArray⟩, .slice a t.kids.length c, .int .i64 t.pos] ty)).drew :=
  ⟨(below_alloc _ _).drew, by simp [go_sem], by simp [go_sem], by simp [go_sem], by simp [go_sem]⟩
def ifB (ex bl i : Nd → Bool) : Nd → Bool := ofB 30 (kids3 ex bl (fun k => (emptyB k || bl k) || i k))

end Go.Proofs.YtfcpblclfgkdjaaGreatDoor

namespace Go.Proofs.YtfcpblclfgkdjaaGreatDoor
set_option linter.unusedSimpArgs false
set_option linter.unusedVariables false
open Go.RowKit
def tparamB (c1 it : Nd → Bool) (t : Nd) : Bool := nameL t.text && (t.kind == 7 && kids1 (fun k => c1 k || it k) t.kids)

end Go.Proofs.YtfcpblclfgkdjaaGreatDoor

namespace Go.Proofs.YtfcpblclfgkdjaaGreatDoor
set_option linter.unusedSimpArgs false
set_option linter.unusedVariables false
open Go.RowKit

/-- Two kids that lie one behind the other. -/
theorem kids_two {w : World} {B : Nat} {a : Option Addr} {l : List Nd} {x y : Nd} (e : l = [x, y]) (h : Kids w B a l) :
    ∃ b off xa xc ya yc, a = some ⟨b, off, none⟩ ∧ b < B ∧
      w.cell? ⟨b, off, none⟩ = some (.int .i64 x.kind) ∧ w.cell? ⟨b, off + 1, none⟩ = some (.string ⟨x.text.toArray⟩) ∧ w.cell? ⟨b, off + 2, none⟩ = some (.slice xa x.kids.length xc) ∧ w.cell? ⟨b, off + 3, none⟩ = some (.int .i64 x.pos) ∧
      w.cell? ⟨b, off + 4, none⟩ = some (.int .i64 y.kind) ∧ w.cell? ⟨b, off + 5, none⟩ = some (.string ⟨y.text.toArray⟩) ∧ w.cell? ⟨b, off + 6, none⟩ = some (.slice ya y.kids.length yc) ∧ w.cell? ⟨b, off + 7, none⟩ = some (.int .i64 y.pos) ∧
      Fits x xc ∧ Fits y yc ∧ Kids w B xa x.kids ∧ Kids w B ya y.kids := by
  subst e
  obtain ⟨b, off, xa, xc, rfl, hB, ⟨k0, k1, k2, k3⟩, hxf, hxn⟩ := h.get (j := 0) (by simp)
  obtain ⟨b', off', ya, yc, ek, hB', ⟨l0, l1, l2, l3⟩, hyf, hyn⟩ := h.get (j := 1) (by simp)
  obtain ⟨rfl, rfl⟩ : b = b' ∧ off = off' := by simpa using ek
  exact ⟨b, off, xa, xc, ya, yc, rfl, hB, k0, k1, k2, k3, l0, l1, l2, l3, hxf, hyf, hxn, hyn⟩

/-- Two kids, and not both of them None. -/
def varKids (ty ex : Nd → Bool) : List Nd → Bool
  | [x, y] => ((emptyB x || ty x) && (emptyB y || ex y)) && (!emptyB x || !emptyB y)
  | _ => false
def varB (ty ex : Nd → Bool) (t : Nd) : Bool := nameL t.text && (t.kind == 5 && varKids ty ex t.kids)

end Go.Proofs.YtfcpblclfgkdjaaGreatDoor

namespace Go.Proofs.YtfcpblclfgkdjaaGreatDoor
set_option linter.unusedSimpArgs false
set_option linter.unusedVariables false
open Go.RowKit
end Go.Proofs.YtfcpblclfgkdjaaGreatDoor

namespace Go.Proofs.YtfcpblclfgkdjaaGreatDoor
set_option linter.unusedSimpArgs false
set_option linter.unusedVariables false
open Go.RowKit
def shortL (l : List UInt8) : Bool := decide (l.length ≤ 1000)
end Go.Proofs.YtfcpblclfgkdjaaGreatDoor

namespace Go.Proofs.YtfcpblclfgkdjaaGreatDoor
set_option linter.unusedSimpArgs false
set_option linter.unusedVariables false
open Go.RowKit
end Go.Proofs.YtfcpblclfgkdjaaGreatDoor

namespace Go.Proofs.YtfcpblclfgkdjaaGreatDoor
set_option linter.unusedSimpArgs false
set_option linter.unusedVariables false
open Go.RowKit

/-- isDecl's arm for types. -/
def typeDeclB (pr ty ss it : Nd → Bool) (t : Nd) : Bool := nameL t.text && kids2 pr (fun k => (ty k || ss k) || it k) t.kids

def declB (pr sg bl ty ss it va : Nd → Bool) (t : Nd) : Bool :=
  if t.kind = 2 then nameL t.text && kids3 pr sg bl t.kids else if t.kind = 3 then typeDeclB pr ty ss it t else if t.kind = 4 then nameL t.text && kids2 pr ty t.kids else va t

end Go.Proofs.YtfcpblclfgkdjaaGreatDoor

namespace Go.Proofs.YtfcpblclfgkdjaaGreatDoor
set_option linter.unusedSimpArgs false
set_option linter.unusedVariables false
open Go.RowKit

def partB (ex ty : Nd → Bool) (k : Nd) : Bool := ex k || (!(k.kind == 10) && ty k)

def callB (ex : Nd → Bool) (t : Nd) : Bool := t.text.isEmpty && (!t.kids.isEmpty && t.kids.all ex)
def indexKids (ex ty : Nd → Bool) : List Nd → Bool
  | x :: y :: r => ex x && (y :: r).all (partB ex ty)
  | _ => false
def litKids (ty ex : Nd → Bool) : List Nd → Bool
  | x :: r => !(x.kind == 12) && (ty x && r.all ex)
  | _ => false

def exprB (ex ty sg bl : Nd → Bool) (t : Nd) : Bool :=
  if t.kind = 16 then plainL t.text && kids0 t.kids else
  if t.kind = 17 then shortL t.text && kids0 t.kids else
  if t.kind = 18 then nameL t.text && kids0 t.kids else
  if t.kind = 19 then unaryL t.text && kids1 ex t.kids else
  if t.kind = 20 then binaryL t.text && kids2 ex ex t.kids else
  if t.kind = 21 then callB ex t else
  if t.kind = 22 then t.text.isEmpty && indexKids ex ty t.kids else
  if t.kind = 23 then nameL t.text && kids1 ex t.kids else
  if t.kind = 24 then t.text.isEmpty && litKids ty ex t.kids else
  ofB 25 (kids2 sg bl) t

end Go.Proofs.YtfcpblclfgkdjaaGreatDoor

namespace Go.Proofs.YtfcpblclfgkdjaaGreatDoor
set_option linter.unusedSimpArgs false
set_option linter.unusedVariables false
open Go.RowKit
/-- The function value says f of each of these. -/
def Tells (g : Nat) (lb : Array Value) (f : Nd → Bool) (l : List Nd) (w : World) : Prop := ∀ k, k ∈ l → SaysNd Tryz.prog g lb k (f k) w
theorem Tells.on {g : Nat} {lb : Array Value} {f : Nd → Bool} {l : List Nd} {w w' : World} (h : Tells g lb f l w) (hb : Below w.heap.size w w') : Tells g lb f l w' := fun k hk => (h k hk).on hb

def retB (ex : Nd → Bool) : Nd → Bool := ofB 33 (kids1 (fun k => emptyB k || ex k))

end Go.Proofs.YtfcpblclfgkdjaaGreatDoor

namespace Go.Proofs.YtfcpblclfgkdjaaGreatDoor
set_option linter.unusedSimpArgs false
set_option linter.unusedVariables false
open Go.RowKit

def forB (sh se inc cal ex bl : Nd → Bool) : Nd → Bool :=
  ofB 31 (kids4 (fun k => (emptyB k || sh k) || (se k || inc k)) (fun k => emptyB k || ex k) (fun k => (emptyB k || se k) || (inc k || cal k)) bl)

def stmtB (va sh se inc cal i ex bl bl' sh' se' inc' cal' : Nd → Bool) (t : Nd) : Bool :=
  if t.kind = 5 then va t else if t.kind = 26 then sh t else if t.kind = 27 then se t else if t.kind = 28 then inc t else if t.kind = 29 then cal t else if t.kind = 30 then i t else
  if t.kind = 31 then forB sh' se' inc' cal' ex bl' t else if t.kind = 32 then rangedL t.text && kids2 ex bl' t.kids else if t.kind = 33 then retB ex t else
  if t.kind = 34 then t.text.isEmpty && kids0 t.kids else if t.kind = 35 then t.text.isEmpty && kids0 t.kids else bl t

end Go.Proofs.YtfcpblclfgkdjaaGreatDoor

namespace Go.Proofs.YtfcpblclfgkdjaaGreatDoor
set_option linter.unusedSimpArgs false
set_option linter.unusedVariables false
open Go.RowKit

/-- What the questions of tree.go answer, of nodes of at most so many within one another. -/
structure Ps where
  ty : Nd → Bool
  sg : Nd → Bool
  tm : Nd → Bool
  it : Nd → Bool
  fl : Nd → Bool
  ss : Nd → Bool
  pr : Nd → Bool
  va : Nd → Bool
  ex : Nd → Bool
  inc : Nd → Bool
  se : Nd → Bool
  cal : Nd → Bool
  sh : Nd → Bool
  bl : Nd → Bool
  iff_ : Nd → Bool
  st : Nd → Bool
  dc : Nd → Bool

def termB (ty : Nd → Bool) (t : Nd) : Bool := tildeL t.text && (t.kind == 15 && kids1 ty t.kids)
def interB (tm : Nd → Bool) (t : Nd) : Bool := t.kind == 14 && (t.text.isEmpty && (!t.kids.isEmpty && t.kids.all tm))
def fieldB (ty : Nd → Bool) (t : Nd) : Bool := nameL t.text && (t.kind == 9 && kids1 ty t.kids)
def rowB (kind : Int) (f : Nd → Bool) (t : Nd) : Bool := t.kind == kind && (t.text.isEmpty && t.kids.all f)
def kindB (kind : Int) (f : Nd → Bool) (t : Nd) : Bool := t.kind == kind && f t
def incB (ex : Nd → Bool) (t : Nd) : Bool := stepsL t.text && (t.kind == 28 && kids1 ex t.kids)
def shB (ex : Nd → Bool) (t : Nd) : Bool := boundL t.text && (t.kind == 26 && kids1 ex t.kids)

def ps0 : Ps := ⟨fun _ => false, fun _ => false, fun _ => false, fun _ => false, fun _ => false, fun _ => false, fun _ => false, fun _ => false, fun _ => false, fun _ => false, fun _ => false, fun _ => false, fun _ => false, fun _ => false, fun _ => false, fun _ => false, fun _ => false⟩
def psStep (p : Ps) : Ps where
  ty := typeB p.ty
  sg := sigB p.ty nameL
  tm := termB p.ty
  it := interB p.tm
  fl := fieldB p.ty
  ss := rowB 13 p.fl
  pr := listB (tparamB (kindB 10 p.ty) p.it)
  va := varB p.ty p.ex
  ex := exprB p.ex p.ty p.sg p.bl
  inc := incB p.ex
  se := ofB 27 (kids2 p.ex p.ex)
  cal := ofB 29 (kids1 (kindB 21 p.ex))
  sh := shB p.ex
  bl := rowB 36 p.st
  iff_ := ifB p.ex p.bl p.iff_
  st := stmtB (varB p.ty p.ex) (shB p.ex) (ofB 27 (kids2 p.ex p.ex)) (incB p.ex) (ofB 29 (kids1 (kindB 21 p.ex))) (ifB p.ex p.bl p.iff_) p.ex (rowB 36 p.st) p.bl p.sh p.se p.inc p.cal
  dc := declB p.pr p.sg p.bl p.ty p.ss p.it (varB p.ty p.ex)
def lv : Nat → Ps
  | 0 => ps0
  | n + 1 => psStep (lv n)

theorem ok_zero (K : Nat) (f : Nd → Bool) : Ok K f 0 := fun t a c w ht => by have := Nd.height_eq t; omega

end Go.Proofs.YtfcpblclfgkdjaaGreatDoor

namespace Go.Proofs.YtfcpblclfgkdjaaGreatDoor
set_option linter.unusedSimpArgs false
set_option linter.unusedVariables false
open Go.RowKit

/-- What a loop over an iterator may turn: blocks that are its own (mine), from n₀ on. -/
structure KB (n₀ : Nat) (mine : World → Nat → Prop) (A B : World) : Prop where
  size : A.heap.size ≤ B.heap.size
  cell : ∀ p v, A.cell? p = some v → ¬ mine A p.block → B.cell? p = some v
  less : ∀ b, b < A.heap.size → mine B b → mine A b
  rng : (∀ b, mine A b → n₀ ≤ b ∧ b < A.heap.size) → ∀ b, mine B b → n₀ ≤ b ∧ b < B.heap.size

def Rng (n₀ : Nat) (mine : World → Nat → Prop) (A : World) : Prop := ∀ b, mine A b → n₀ ≤ b ∧ b < A.heap.size
def Sees (n₀ : Nat) (w0 W : World) : Prop := ∀ p v, p.block < n₀ → w0.cell? p = some v → W.cell? p = some v

theorem cell_lt' {w : World} {p : Addr} {v : Value} (h : w.cell? p = some v) : p.block < w.heap.size := by
  unfold World.cell? at h
  rcases Nat.lt_or_ge p.block w.heap.size with hl | hl
  · exact hl
  · simp only [Array.getElem?_eq_none hl] at h
    cases h
theorem cell_alloc' {w : World} {p : Addr} {v : Value} (o : Obj) (h : w.cell? p = some v) : (w.alloc o).cell? p = some v := by
  rw [World.cell?_of_block (w := w) (Below.heap_alloc w o p.block (cell_lt' h))]; exact h

theorem KB.refl (n₀ mine A) : KB n₀ mine A A := ⟨Nat.le_refl _, fun _ _ h _ => h, fun _ _ h => h, fun h => h⟩
theorem KB.trans {n₀ mine A B C} (h : KB n₀ mine A B) (k : KB n₀ mine B C) : KB n₀ mine A C :=
  ⟨Nat.le_trans h.size k.size, fun p v hv hm => k.cell p v (h.cell p v hv hm) (fun hm' => hm (h.less _ (cell_lt' hv) hm')),
   fun b hb hm => h.less b hb (k.less b (Nat.lt_of_lt_of_le hb h.size) hm), fun hr => k.rng (h.rng hr)⟩
theorem KB.alloc {n₀ mine A} (o : Obj) (hm : ∀ b, mine (A.alloc o) b → mine A b) : KB n₀ mine A (A.alloc o) :=
  ⟨by simp, fun p v hv _ => cell_alloc' o hv, fun b _ h => hm b h, fun hr b h => ⟨(hr b (hm b h)).1, by have := (hr b (hm b h)).2; simp; omega⟩⟩
theorem Sees.kb {n₀ mine w0 A B} (h : Sees n₀ w0 A) (hr : Rng n₀ mine A) (k : KB n₀ mine A B) : Sees n₀ w0 B :=
  fun p v hp hv => k.cell p v (h p v hp hv) (fun hm => by have := (hr _ hm).1; omega)
theorem Sees.refl (n₀ : Nat) (w : World) : Sees n₀ w w := fun _ _ _ h => h
theorem Sees.alloc {n₀ w0 A} (h : Sees n₀ w0 A) (o : Obj) : Sees n₀ w0 (A.alloc o) := fun p v hp hv => cell_alloc' o (h p v hp hv)
theorem Sees.below {n₀ : Nat} {w0 A : World} (h : Below n₀ w0 A) : Sees n₀ w0 A := fun p v hp hv => (h.cell hp).trans hv

theorem Four.sees {n₀ : Nat} {w W : World} (hk : Sees n₀ w W) {b off : Nat} (hb : b < n₀) {t a c} (h : Four w b off t a c) : Four W b off t a c :=
  ⟨hk _ _ hb h.1, hk _ _ hb h.2.1, hk _ _ hb h.2.2.1, hk _ _ hb h.2.2.2⟩
theorem Kids.seesAll {w w' : World} {B : Nat} (hk : Sees B w w') : ∀ (t : Nd) (a : Option Addr), Kids w B a t.kids → Kids w' B a t.kids := by
  refine Nd.ind (fun t ih a h => ?_)
  rw [kids_iff] at h ⊢
  intro j hj
  obtain ⟨b, off, a', c', ha, hb, h4, hf, hn⟩ := h j hj
  exact ⟨b, off, a', c', ha, hb, h4.sees hk hb, hf, ih _ (List.getElem_mem hj) a' hn⟩
theorem Kids.sees {w w' : World} {B : Nat} {a : Option Addr} {l : List Nd} (h : Kids w B a l) (hk : Sees B w w') : Kids w' B a l := Kids.seesAll hk (.mk 0 [] l 0) a h

/-- A node that has come: it, where its kids lie, how many there may lie, how much depth is left. Its kids lie below n₀ in w0. -/
abbrev Come (n₀ : Nat) (w0 : World) := { x : Nd × Option Addr × Nat × Nat // Kids w0 n₀ x.2.1 x.1.kids ∧ Fits x.1 x.2.2.1 }
def er {n₀ w0} (x : Come n₀ w0) : Nd × Nat := (x.1.1, x.1.2.2.2)

/-- A node and all in it, each with how much depth is left, to a depth. -/
def walkL : Nat → Nd → List (Nd × Nat)
  | 0, _ => []
  | d + 1, t => (t, d + 1) :: t.kids.flatMap (walkL d)

/-- The cell of a box that a walk has laid itself, behind a round. -/
theorem KB.box {n₀ mine A B} (k : KB n₀ mine A B) (hr : Rng n₀ mine A) {b o : Nat} {v : Value} (h : A.cell? ⟨b, o, none⟩ = some v) (hb : ¬ mine A b) : B.cell? ⟨b, o, none⟩ = some v := k.cell ⟨b, o, none⟩ v h hb
end Go.Proofs.YtfcpblclfgkdjaaGreatDoor

namespace Go.Proofs.YtfcpblclfgkdjaaGreatDoor
set_option linter.unusedSimpArgs false
set_option linter.unusedVariables false
open Go.RowKit Go.Shelf
attribute [local go_sem] Oper.semAt_some

def encC {n₀ w0} (x : Come n₀ w0) : Array Value := #[.agg #[.int .i64 x.1.1.kind, .string ⟨x.1.1.text.toArray⟩, .slice x.1.2.1 x.1.1.kids.length x.1.2.2.1, .int .i64 x.1.1.pos], .int .i64 x.1.2.2.2]

theorem room_none {F : Fence} (hd : F.depth = none) (k : Nat) : F.room k := fun d h => by rw [hd] at h; cases h
theorem roundAnyDepth {F : Fence} (hd : F.depth = none) {m m' : Nat} {P : Program} {l : Nat} {f : FuncId} {tmps : Array Value} {assign body : Code} {w : World} {R : Ending → World → Prop}
    (h : RoundIn F m P l f tmps assign body w R) : RoundIn F m' P l f tmps assign body w R := ⟨h.1, fun c cs _ => h.2 c cs (room_none hd _)⟩
theorem yieldAnyDepth {F : Fence} (hd : F.depth = none) {m : Nat} (m' : Nat) {P : Program} {l : Nat} {args : Array Value} {W : World} {R : Ending → World → Prop} (h : YieldAt F m P l args W R) : YieldAt F m' P l args W R := by
  obtain ⟨fn, tmps, assign, body, hy, hR⟩ := h
  exact ⟨fn, tmps, assign, body, hy, roundAnyDepth hd hR⟩

/-- What walk hands back from a world W, pre having come. -/
def Walked (n₀ : Nat) (w0 : World) (mine : World → Nat → Prop) (J Jx : List (Come n₀ w0) → World → Prop) (pre : List (Come n₀ w0)) (want : List (Nd × Nat)) (W : World) (e : Ending) (W' : World) : Prop :=
  (e = .returned (.bool true) ∧ (∃ xs : List (Come n₀ w0), xs.map er = want ∧ J (pre ++ xs) W') ∧ KB n₀ mine W W') ∨ (e = .returned (.bool false) ∧ ∃ q, Jx q W')

theorem flat_room {α β : Type} (l : List α) (f : α → List β) (k : Nat) (hk : k < l.length) : ((l.take k).flatMap f).length + (f l[k]).length ≤ (l.flatMap f).length := by
  have h : l.flatMap f = (l.take k).flatMap f ++ (f l[k] ++ (l.drop (k + 1)).flatMap f) := by
    conv => lhs; rw [← List.take_append_drop k l, List.drop_eq_getElem_cons hk, List.flatMap_append, List.flatMap_cons]
  rw [h, List.length_append, List.length_append]
  omega
theorem flat_next {α β : Type} (l : List α) (f : α → List β) (k : Nat) (hk : k < l.length) : (l.take (k + 1)).flatMap f = (l.take k).flatMap f ++ f l[k] := by
  rw [List.take_succ_eq_append_getElem hk, List.flatMap_append]; simp

end Go.Proofs.YtfcpblclfgkdjaaGreatDoor

namespace Go.Proofs.YtfcpblclfgkdjaaGreatDoor
set_option linter.unusedSimpArgs false
set_option linter.unusedVariables false
open Go.RowKit Go.Shelf
attribute [local go_sem] Oper.semAt_some

end Go.Proofs.YtfcpblclfgkdjaaGreatDoor

namespace Go.Proofs.YtfcpblclfgkdjaaGreatDoor
set_option linter.unusedSimpArgs false
set_option linter.unusedVariables false
open Go.RowKit Go.Shelf
attribute [local go_sem] Oper.semAt_some

theorem cellBox {W : World} {B : Nat} {v : Value} {t : TypeId} (h : W.heap[B]? = some (.cells #[v] t (0, 0))) : W.cell? ⟨B, 0, none⟩ = some v ∧ W.frozen? ⟨B, 0, none⟩ = false := by
  constructor <;> simp [World.cell?, World.frozen?, h]
theorem cellNew (W : World) (v : Value) (t : TypeId) : (W.alloc (.cells #[v] t)).cell? ⟨W.heap.size, 0, none⟩ = some v ∧ (W.alloc (.cells #[v] t)).frozen? ⟨W.heap.size, 0, none⟩ = false :=
  cellBox (World.alloc_heap_new W _)
theorem cellAl {W : World} {a : Addr} {v : Value} (o : Obj) (h : W.cell? a = some v) : (W.alloc o).cell? a = some v := cell_kept h (World.grownBy_alloc W o none) (fun r e => by cases e)
theorem frozenAl {W : World} {a : Addr} {v : Value} (o : Obj) (h : W.cell? a = some v) (hf : W.frozen? a = false) : (W.alloc o).frozen? a = false := (frozen_kept h (World.grownBy_alloc W o none) (fun r e => by cases e)).trans hf

theorem putObj_other_cell {W : World} {l : Nat} {o o' : Obj} (h : W.heap[l]? = some o) (hc : o.isCells = false) {p : Addr} {v : Value} (hp : W.cell? p = some v) : (W.putObj l o').cell? p = some v :=
  cell_kept hp (grownBy_putObj' W l o') (fun r e => by cases e; exact ⟨o, h, hc⟩)

/-- One block of the loop's own. -/
theorem KB.one {n₀ B : Nat} {A : World} (hn : n₀ ≤ B) (hB : B < A.heap.size) (v : Value) : KB n₀ (fun _ b => b = B) A (A.setCell ⟨B, 0, none⟩ v) :=
  ⟨by simp [World.setCell], fun p u hu hm => by rw [World.cell?_of_block (w := A) (Below.heap_setCell A ⟨B, 0, none⟩ v p.block hm)]; exact hu, fun _ _ h => h, fun _ b h => by subst h; exact ⟨hn, by simp [World.setCell]; exact hB⟩⟩
theorem KB.put {n₀ B : Nat} {w : World} (hn : n₀ ≤ B) (hB : B < w.heap.size) (W : World) (l : Nat) (o o' : Obj) (hl : w.heap.size ≤ l) (h : W.heap[l]? = some o) (hc : o.isCells = false) (_ : o.isWalk = false) : KB n₀ (fun _ b => b = B) W (W.putObj l o') :=
  ⟨by simp, fun p u hu _ => putObj_other_cell h hc hu, fun _ _ h => h, fun _ b hb => by subst hb; exact ⟨hn, by have := (Array.getElem?_eq_some_iff.1 h).1; simp; omega⟩⟩

/-- A count that wraps. -/
def cnt : Nat → Int
  | 0 => 0
  | k + 1 => wrap64 (cnt k + 1)
theorem cnt_eq (k : Nat) : cnt k = wrap64 k := by
  induction k with
  | zero => simp [cnt, wrap64]
  | succ k ih => rw [cnt, ih]; unfold wrap64; omega

end Go.Proofs.YtfcpblclfgkdjaaGreatDoor

namespace Go.Proofs.YtfcpblclfgkdjaaGreatDoor
set_option linter.unusedSimpArgs false
set_option linter.unusedVariables false
open Go.RowKit Go.Shelf
attribute [local go_sem] Oper.semAt_some

/-- The greatest depth of what has come. -/
def deepest (l : List (Nd × Nat)) : Int := l.foldl (fun m x => max m (wrap64 (102 - x.2))) 0
theorem deepest_snoc (l : List (Nd × Nat)) (x : Nd × Nat) : deepest (l ++ [x]) = max (deepest l) (wrap64 (102 - x.2)) := by simp [deepest]

end Go.Proofs.YtfcpblclfgkdjaaGreatDoor

namespace Go.Proofs.YtfcpblclfgkdjaaGreatDoor
set_option linter.unusedSimpArgs false
set_option linter.unusedVariables false
open Go.RowKit

def eqL (f : Nd → Nd → Bool) : List Nd → List Nd → Bool
  | [], [] => true
  | x :: xs, y :: ys => f x y && eqL f xs ys
  | _, _ => false
theorem eqL_true {f : Nd → Nd → Bool} : ∀ {l m : List Nd}, l.length = m.length → (∀ j (h1 : j < l.length) (h2 : j < m.length), f l[j] m[j] = true) → eqL f l m = true
  | [], [], _, _ => rfl
  | [], _ :: _, h, _ => by simp at h
  | _ :: _, [], h, _ => by simp at h
  | x :: xs, y :: ys, h, hf => by
    have h0 := hf 0 (by simp) (by simp)
    simp only [List.getElem_cons_zero] at h0
    rw [eqL, h0, Bool.true_and]
    exact eqL_true (by simpa using h) (fun j h1 h2 => hf (j + 1) (Nat.succ_lt_succ h1) (Nat.succ_lt_succ h2))
theorem eqL_false {f : Nd → Nd → Bool} : ∀ {l m : List Nd} (j : Nat) (h1 : j < l.length) (h2 : j < m.length), f l[j] m[j] = false → eqL f l m = false
  | [], _, _, h1, _, _ => by simp at h1
  | _ :: _, [], _, _, h2, _ => by simp at h2
  | x :: xs, y :: ys, 0, _, _, h => by simp only [List.getElem_cons_zero] at h; rw [eqL, h, Bool.false_and]
  | x :: xs, y :: ys, j + 1, h1, h2, h => by rw [eqL, eqL_false j (by simpa using h1) (by simpa using h2) (by simpa using h), Bool.and_false]
theorem eqL_len {f : Nd → Nd → Bool} : ∀ {l m : List Nd}, l.length ≠ m.length → eqL f l m = false
  | [], [], h => by simp at h
  | [], _ :: _, _ => rfl
  | _ :: _, [], _ => rfl
  | x :: xs, y :: ys, h => by rw [eqL, eqL_len (l := xs) (m := ys) (by simpa using h), Bool.and_false]

/-- Called with these two nodes, in whatever later world, the function value g over lb hands back b. -/
def EqSays (P : Program) (g : Nat) (lb : Array Value) (x y : Nd) (b : Bool) (w : World) : Prop :=
  ∀ W a c a' c', Below w.heap.size w W → Kids W W.heap.size a x.kids → Fits x c → Kids W W.heap.size a' y.kids → Fits y c' →
    Calls P g (#[.agg #[.int .i64 x.kind, .string ⟨x.text.toArray⟩, .slice a x.kids.length c, .int .i64 x.pos], .agg #[.int .i64 y.kind, .string ⟨y.text.toArray⟩, .slice a' y.kids.length c', .int .i64 y.pos]] ++ lb) W fun e W' => e = .returned (.bool b) ∧ Below W.heap.size W W'
theorem EqSays.on {P : Program} {g : Nat} {lb : Array Value} {x y : Nd} {b : Bool} {w w' : World} (h : EqSays P g lb x y b w) (hb : Below w.heap.size w w') : EqSays P g lb x y b w' :=
  fun W a c a' c' hW => h W a c a' c' (bext hb hW)

end Go.Proofs.YtfcpblclfgkdjaaGreatDoor

namespace Go.Proofs.YtfcpblclfgkdjaaGreatDoor
set_option linter.unusedSimpArgs false
set_option linter.unusedVariables false
open Go.RowKit

/-- same, to a depth. -/
def sameB : Nat → Nd → Nd → Bool
  | 0, _, _ => false
  | d + 1, x, y => x.kind == y.kind && (x.text == y.text && eqL (sameB d) x.kids y.kids)

end Go.Proofs.YtfcpblclfgkdjaaGreatDoor

namespace Go.Proofs.YtfcpblclfgkdjaaGreatDoor
set_option linter.unusedSimpArgs false
set_option linter.unusedVariables false
open Go.RowKit

/-- How many are in the first k kids, to a depth. -/
def kidsN (d k : Nat) (l : List Nd) : Nat := ((l.take k).flatMap (walkL d)).length
theorem kidsN_succ (d k : Nat) (l : List Nd) (h : k < l.length) : kidsN d (k + 1) l = kidsN d k l + (walkL d l[k]).length := by
  unfold kidsN
  rw [List.take_succ_eq_append_getElem h, List.flatMap_append, List.length_append]; simp

theorem wrap_add (x y z : Int) (h : z + 1 = x + y) : wrap64 (wrap64 x + wrap64 y) = wrap64 (1 + z) := by
  unfold wrap64; omega

theorem cells_on' {w w1 : World} {b : Nat} {v0 v1 v2 v3 : Value} (hb : Below w.heap.size w w1) (h0 : w.cell? ⟨b, 0, none⟩ = some v0) (h1 : w.cell? ⟨b, 1, none⟩ = some v1) (h2 : w.cell? ⟨b, 2, none⟩ = some v2) (h3 : w.cell? ⟨b, 3, none⟩ = some v3) :
    w1.cell? ⟨b, 0, none⟩ = some v0 ∧ w1.cell? ⟨b, 1, none⟩ = some v1 ∧ w1.cell? ⟨b, 2, none⟩ = some v2 ∧ w1.cell? ⟨b, 3, none⟩ = some v3 := by
  obtain ⟨hc, _⟩ := bcell hb
  have hB := cell_lt h0
  exact ⟨(hc _ _ hB).trans h0, (hc _ _ hB).trans h1, (hc _ _ hB).trans h2, (hc _ _ hB).trans h3⟩

set_option maxHeartbeats 1000000 in
theorem rsize_any : ∀ (d : Nat), d ≤ 1000 → ∀ (t : Nd) (a : Option Addr) (c : Nat) (w : World), Kids w w.heap.size a t.kids → Fits t c →
    Calls Tryz.prog 5 #[.agg #[.int .i64 t.kind, .string ⟨t.text.toArray⟩, .slice a t.kids.length c, .int .i64 t.pos], .int .i64 d] w fun e w' => e = .returned (.int .i64 (wrap64 (walkL d t).length)) ∧ Below w.heap.size w w'
  | 0, _, t, a, c, w, hk, hf => by
    clear hk hf
    have e : wrap64 (walkL 0 t).length = 0 := by simp [walkL, wrap64]
    have HE := Lib.hid e
    clear e
    go_enter Tryz.func5, Tryz.ntmps5
    go_wp2_with fail
    go_ret
    exact ⟨by rw [HE.out]; rfl, below_alloc _ _⟩
  | d + 1, hd, t, a, c, w, hk, hf => by
    have ih := rsize_any d (by omega)
    have HI := Lib.hid ih
    have HK := Lib.hid hk
    have HB0 := Lib.hid (below_alloc w (.cells #[.int .i64 t.kind, .string ⟨t.text.toArray⟩, .slice a t.kids.length c, .int .i64 t.pos] 25))
    have hl63 : t.kids.length ≤ 9223372036854775807 := by have := hf.2.2.2.2.2.1; have := hf.2.2.2.2.2.2.1; omega
    have hcap : t.kids.length ≤ c := hf.2.2.2.2.2.1
    have h0 : ((d : Int) + 1 == 0) = false := by simp; omega
    have hwd : IntKind.i64.wrap (d : Int) = d := by rw [IntKind.wrap_i64]; omega
    clear ih hk hf
    go_enter Tryz.func5, Tryz.ntmps5
    go_wp2_with fail
    go_loopw [5, 6] (fun s i wr => ∃ k : Nat, k ≤ t.kids.length ∧ i = .int .i64 k ∧ s = .int .i64 (wrap64 (1 + kidsN d k t.kids)) ∧ Below w.heap.size w wr ∧
      (wr.cell? ⟨w.heap.size, 0, none⟩ = some (.int .i64 t.kind) ∧ wr.cell? ⟨w.heap.size, 1, none⟩ = some (.string ⟨t.text.toArray⟩) ∧ wr.cell? ⟨w.heap.size, 2, none⟩ = some (.slice a t.kids.length c) ∧ wr.cell? ⟨w.heap.size, 3, none⟩ = some (.int .i64 t.pos))) (fun _ i _ => t.kids.length - (intOf i).toNat)
    case atStart => exact ⟨0, by omega, rfl, by simp [kidsN, wrap64], HB0.out, by simp [go_sem], by simp [go_sem], by simp [go_sem], by simp [go_sem]⟩
    case round =>
      obtain ⟨k, hk1, rfl, rfl, hb, a0, a1, a2, a3⟩ := hrel
      have HB := Lib.hid hb
      clear hb
      by_cases hlt : k < t.kids.length
      · obtain ⟨b, off, a', c', ha, hbB, ⟨h0', h1', h2', h3'⟩, hf', hn'⟩ := (HK.out.on HB.out).get hlt
        subst ha
        have HC := Lib.hid (HI.out t.kids[k] a' c' wr hn' hf')
        have hkn := kidsN_succ d k t.kids hlt
        have HKN := Lib.hid hkn
        clear hf' hn' hkn
        go_wp2_with fail
        refine HC.out.mono ?_
        rintro e w1 ⟨rfl, hb1⟩
        obtain ⟨b0, b1, b2, b3⟩ := cells_on' hb1 a0 a1 a2 a3
        have HB1 := Lib.hid (bext HB.out hb1)
        clear hb1 a0 a1 a2 a3
        go_wp2_with fail
        go_roundw
        case rel =>
          have HE := Lib.hid (wrap_add (1 + (kidsN d k t.kids : Int)) ((walkL d t.kids[k]).length : Int) (kidsN d (k + 1) t.kids : Int) (by have := HKN.out; omega))
          first
            | exact ⟨k + 1, by omega, by go_num, by rw [HE.out], HB1.out, b0, b1, b2, b3⟩
            | ((repeat apply Exists.intro); exact ⟨⟨k + 1, by omega, by go_num, by rw [HE.out], HB1.out, b0, b1, b2, b3⟩, rfl⟩)
        case measure => simp [intOf]; omega
      · obtain rfl : k = t.kids.length := by omega
        go_wp2_with fail
        go_ret
        refine ⟨?_, HB.out⟩
        simp [kidsN, walkL, Int.add_comm]
end Go.Proofs.YtfcpblclfgkdjaaGreatDoor

namespace Go.Proofs.YtfcpblclfgkdjaaGreatDoor
set_option linter.unusedSimpArgs false
set_option linter.unusedVariables false
open Go.RowKit

end Go.Proofs.YtfcpblclfgkdjaaGreatDoor

namespace Go.Proofs.YtfcpblclfgkdjaaGreatDoor
set_option linter.unusedSimpArgs false
set_option linter.unusedVariables false
open Go.RowKit Go.Maps

/-- How a function value of a map reads: by its number. -/
def fnElem : Value → Option (DataW Unit × List MemPlace)
  | .func (.func g) cap bound => if cap.size = 0 ∧ bound.size = 0 then some (.lit (.int .i64 g), []) else none
  | .nilFunc => some (.nil, [])
  | _ => none
theorem fnElem_mk (g : Nat) : fnElem (.func (.func g) #[] #[]) = some (.lit (.int .i64 g), []) := by simp [fnElem]
theorem fnElem_inv {v : Value} {g : Nat} {ps : List MemPlace} (h : fnElem v = some (.lit (.int .i64 g), ps)) : v = .func (.func g) #[] #[] := by
  unfold fnElem at h
  split at h
  · split at h
    · rename_i g' cap bound hs
      simp at h
      obtain ⟨h1, h2⟩ := hs
      rw [Array.size_eq_zero_iff] at h1 h2
      have hg : g' = g := Int.ofNat.inj h.1
      rw [h1, h2, hg]
    · cases h
  · simp at h
  · cases h
theorem fnElem_nil {v : Value} {ps : List MemPlace} (h : fnElem v = some (.nil, ps)) : v = .nilFunc := by
  unfold fnElem at h
  split at h
  · split at h <;> simp at h
  · rfl
  · cases h

theorem law9 : Keyed Tryz.prog 9 := string_keyed (by kernel_rfl)
theorem key9 (l : List UInt8) (h : l.length ≤ maxLen) : keyOf Tryz.prog 9 (.string ⟨l.toArray⟩) = some (.string l) := by
  have := WideMaps.keyOf_string_mk (P := Tryz.prog) (k := 9) (by kernel_rfl) (s := ⟨l.toArray⟩) (by simpa [ByteArray.size] using h)
  simpa using this

def sFile : List UInt8 := [102, 105, 108, 101]
def sDecl : List UInt8 := [100, 101, 99, 108, 97, 114, 97, 116, 105, 111, 110]
def sType : List UInt8 := [116, 121, 112, 101]
def sExpr : List UInt8 := [101, 120, 112, 114, 101, 115, 115, 105, 111, 110]
def sStmt : List UInt8 := [115, 116, 97, 116, 101, 109, 101, 110, 116]
def sSig : List UInt8 := [115, 105, 103, 110, 97, 116, 117, 114, 101]

/-- Which function answers of a sort. -/
def sortFn (l : List UInt8) : Option Nat :=
  if l = sSig then some 1 else if l = sStmt then some 2 else if l = sExpr then some 3 else
  if l = sType then some 4 else if l = sDecl then some 5 else if l = sFile then some 6 else none

def fnD (o : Option Nat) (z : DataW Unit) : DataW Unit := match o with | some g => .lit (.int .i64 (g : Int)) | none => z

theorem sorts_put (D : DataW Unit) (hD : IsMap D) (s l : List UInt8) (g : Nat) (o : Option Nat)
    (h1 : has D (.string l) = o.isSome) (h2 : ∀ z, D.atKey (.string l) z = fnD o z) :
    IsMap (D.put (.string s) (.lit (.int .i64 (g : Int)))) ∧ has (D.put (.string s) (.lit (.int .i64 (g : Int)))) (.string l) = (if l = s then some g else o).isSome ∧
    ∀ z, (D.put (.string s) (.lit (.int .i64 (g : Int)))).atKey (.string l) z = fnD (if l = s then some g else o) z := by
  refine ⟨?_, ?_, fun z => ?_⟩
  · obtain ⟨es, rfl⟩ := hD; exact ⟨_, rfl⟩
  · by_cases e : l = s
    · subst e; rw [if_pos rfl, has_put_same hD (by simp [WideAt.IsKeyLit])]; rfl
    · rw [if_neg e, has_put_other (by simpa using e), h1]
  · by_cases e : l = s
    · subst e; rw [if_pos rfl, atKey_put_same hD (by simp [WideAt.IsKeyLit])]; rfl
    · rw [if_neg e, atKey_put_other (by simpa using e), h2]

end Go.Proofs.YtfcpblclfgkdjaaGreatDoor

namespace Go.Proofs.YtfcpblclfgkdjaaGreatDoor
set_option linter.unusedSimpArgs false
set_option linter.unusedVariables false
open Go.RowKit Go.Maps

def fileB (dc : Nd → Bool) (t : Nd) : Bool := t.kind == 1 && (nameL t.text && t.kids.all dc)

/-- The answer of a sort's question, of nodes of at most 100 within one another. -/
def soB (g : Nat) (t : Nd) : Bool :=
  if g = 1 then (lv 100).sg t else if g = 2 then (lv 100).st t else if g = 3 then (lv 100).ex t else
  if g = 4 then (lv 100).ty t else if g = 5 then (lv 100).dc t else fileB (lv 100).dc t

theorem Ok.le {K : Nat} {f : Nd → Bool} {n m : Nat} (h : Ok K f n) (hm : m ≤ n) : Ok K f m := fun t a c w ht => h t a c w (by omega)

end Go.Proofs.YtfcpblclfgkdjaaGreatDoor

namespace Go.Proofs.YtfcpblclfgkdjaaGreatDoor
set_option linter.unusedSimpArgs false
set_option linter.unusedVariables false
open Go.RowKit

def dp (m : Int) (l : List (Nd × Nat)) : Int := l.foldl (fun m x => max m (wrap64 (102 - x.2))) m

theorem dp_kids (d : Nat) (ih : ∀ (t : Nd) (m : Int), (101 - d : Int) ≤ m → dp m (walkL d t) = max m (101 - d + min (t.height : Int) d)) :
    ∀ (l : List Nd) (m : Int), (101 - d : Int) ≤ m → dp m (l.flatMap (walkL d)) = max m (101 - d + min (Nd.heights l : Int) d)
  | [], m, hm => by simp [dp, Nd.heights]; omega
  | t :: ts, m, hm => by
    have h1 := ih t m hm
    have h2 := dp_kids d ih ts (dp m (walkL d t)) (by rw [h1]; omega)
    rw [List.flatMap_cons]
    unfold dp at h1 h2 ⊢
    rw [List.foldl_append, h2, h1, Nd.heights]
    omega

theorem dp_walk : ∀ (d : Nat), d ≤ 101 → ∀ (t : Nd) (m : Int), (101 - d : Int) ≤ m → dp m (walkL d t) = max m (101 - d + min (t.height : Int) d)
  | 0, _, t, m, hm => by simp [walkL, dp]; omega
  | d + 1, hd, t, m, hm => by
    have h := dp_kids d (dp_walk d (by omega)) t.kids (max m (101 - d)) (by omega)
    have e : wrap64 (102 - ((d + 1 : Nat) : Int)) = 101 - d := by unfold wrap64; omega
    rw [walkL]
    unfold dp at h ⊢
    rw [List.foldl_cons, e, h, Nd.height_eq t]
    push_cast at hm ⊢
    omega

theorem deepest_walk (t : Nd) : deepest (walkL 101 t) = min (t.height : Int) 101 := by
  have := dp_walk 101 (by omega) t 0 (by omega)
  have e : deepest (walkL 101 t) = dp 0 (walkL 101 t) := rfl
  rw [e, this]
  omega

/-- What is in a node, without the depth that is left. -/
def nodesL (d : Nat) (t : Nd) : List Nd := (walkL d t).map (·.1)
theorem nodesL_zero (t : Nd) : nodesL 0 t = [] := rfl
theorem nodesL_succ (d : Nat) (t : Nd) : nodesL (d + 1) t = t :: t.kids.flatMap (nodesL d) := by
  simp [nodesL, walkL, List.map_flatMap]
  rfl
theorem nodesL_len (d : Nat) (t : Nd) : (nodesL d t).length = (walkL d t).length := by simp [nodesL]
theorem flatMap_same {α β : Type} {l : List α} {f g : α → List β} (h : ∀ x, x ∈ l → f x = g x) : l.flatMap f = l.flatMap g := by
  induction l with
  | nil => rfl
  | cons x r ih => rw [List.flatMap_cons, List.flatMap_cons, h x (by simp), ih (fun y hy => h y (by simp [hy]))]
/-- A depth beyond the height tells no more. -/
theorem nodesL_deep : ∀ (d d' : Nat) (t : Nd), t.height ≤ d → t.height ≤ d' → nodesL d t = nodesL d' t
  | 0, _, t, h, _ => by have := Nd.height_eq t; omega
  | _ + 1, 0, t, _, h => by have := Nd.height_eq t; omega
  | d + 1, d' + 1, t, h, h' => by
    rw [nodesL_succ, nodesL_succ]
    congr 1
    exact flatMap_same (fun k hk => by have := Nd.height_kid hk; exact nodesL_deep d d' k (by omega) (by omega))
end Go.Proofs.YtfcpblclfgkdjaaGreatDoor

namespace Go.Proofs.YtfcpblclfgkdjaaGreatDoor
set_option linter.unusedSimpArgs false
set_option linter.unusedVariables false
open Go.RowKit Go.Maps

/-- Right, as it answers. -/
def rightB (l : List UInt8) (t : Nd) : Bool :=
  match sortFn l with
  | none => false
  | some g => decide (t.height ≤ 100) && (decide (wrap64 (walkL 100 t).length ≤ 65536) && soB g t)

theorem zero26 (w : World) : (zeroValue 36).run Tryz.prog w = .ok .nilFunc w := by kernel_rfl

theorem cells_on {w w1 : World} {b : Nat} {v0 v1 v2 v3 : Value} (hb : Below w.heap.size w w1) (h0 : w.cell? ⟨b, 0, none⟩ = some v0) (h1 : w.cell? ⟨b, 1, none⟩ = some v1) (h2 : w.cell? ⟨b, 2, none⟩ = some v2) (h3 : w.cell? ⟨b, 3, none⟩ = some v3) :
    w1.cell? ⟨b, 0, none⟩ = some v0 ∧ w1.cell? ⟨b, 1, none⟩ = some v1 ∧ w1.cell? ⟨b, 2, none⟩ = some v2 ∧ w1.cell? ⟨b, 3, none⟩ = some v3 := by
  obtain ⟨hc, _⟩ := bcell hb
  have hB := cell_lt h0
  exact ⟨(hc _ _ hB).trans h0, (hc _ _ hB).trans h1, (hc _ _ hB).trans h2, (hc _ _ hB).trans h3⟩

end Go.Proofs.YtfcpblclfgkdjaaGreatDoor

