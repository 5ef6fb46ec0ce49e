/-
  ported for this seat out of BgT, BgA, BgB, NmPa, NmPb, NmA, NmB, NmC, NmD, NmE, NmF, NmG (port.py)
-/
import Derived.WalkKit
import Derived.WalkSpells
import Derived.WalkLawsBesides
import Derived.Lib.Hide
import Derived.Test.YtfcpblclfgkdjaaGreatDoorProg
import Derived.Lib.ItoaNum
import Derived.Lib.SpaceUEq
import Derived.Lib.DecodeN
import Derived.Test.YtfcpblclfgkdjaaGreatDoorShelf
import Derived.Lib.OthersKept
import Derived.Lib.AppendIntMem
import Derived.Deep.RegionHeld3
import Derived.Maps.OwnIn
import Derived.StringKeys
namespace Go.Proofs.YtfcpblclfgkdjaaGreatDoor.Aw
set_option linter.unusedSimpArgs false
set_option linter.unusedVariables false
open Go.RowKit

def figureI (c : Int) : Bool := decide (48 ≤ c) && decide (c ≤ 57)
def figureB (c : UInt8) : Bool := figureI c.toNat
/-- Plain digits. -/
def plainL (l : List UInt8) : Bool := l.all figureB && (l == [48] || (!l.isEmpty && (decide (l.length ≤ 200) && !(l.head? == some 48))))

theorem bext {w w1 w2 : World} (h : Below w.heap.size w w1) (k : Below w1.heap.size w1 w2) : Below w.heap.size w w2 := h.trans (k.mono h.size)
theorem bcell {W w1 : World} {B : Nat} (hb : Below B W w1) : (∀ b o, b < B → w1.cell? ⟨b, o, none⟩ = W.cell? ⟨b, o, none⟩) ∧ (∀ b o, b < B → w1.frozen? ⟨b, o, none⟩ = W.frozen? ⟨b, o, none⟩) :=
  ⟨fun b o h => hb.cell (p := ⟨b, o, none⟩) h, fun b o h => hb.frozen (p := ⟨b, o, none⟩) h⟩
theorem below_iter (w : World) (s : ByteArray) (k : Nat) : Below w.heap.size w (w.iter s k) := (Below.refl _ _).alloc (Nat.le_refl _) _
theorem below_alloc (w : World) (o : Obj) : Below w.heap.size w (w.alloc o) := (Below.refl _ _).alloc (Nat.le_refl _) _
theorem below_drewN {B : Nat} {w w' : World} (h : Below B w w') (n : Nat) : Below B w (w'.drewN n) := ⟨h.os, h.tape, h.output, h.size, h.block⟩
theorem ret_int {k : IntKind} {a b : Int} (h : a = b) : Ending.returned (.int k a) = .returned (.int k b) := by rw [h]
theorem ret_bool {a b : Bool} (h : a = b) : Ending.returned (.bool a) = .returned (.bool b) := by rw [h]
/-! Ranging over a text, byte by byte where it is ASCII. -/
theorem rune_at (l : List UInt8) (k : Nat) (hk : k < l.length) : ∃ r n : Nat, Utf8.decode ⟨l.toArray⟩ k = (r, n) ∧ 1 ≤ n ∧ r ≤ 2147483647 ∧
    ((l[k].toNat < 128 ∧ r = l[k].toNat ∧ n = 1) ∨ (128 ≤ l[k].toNat ∧ 128 ≤ r)) := by
  have hs : k < (⟨l.toArray⟩ : ByteArray).size := by simpa [ByteArray.size] using hk
  have he : (⟨l.toArray⟩ : ByteArray)[k]'hs = l[k] := by simp [ByteArray.getElem_eq_getElem_data]
  refine ⟨(Utf8.decode ⟨l.toArray⟩ k).1, (Utf8.decode ⟨l.toArray⟩ k).2, rfl, ?_, decode_le _ _, ?_⟩
  · by_cases h : l[k].toNat < 128
    · rw [decode_ascii _ k hs (by rw [he]; exact h)]; exact Nat.le_refl _
    · exact (decode_high _ k hs (by rw [he]; omega)).2
  · by_cases h : l[k].toNat < 128
    · left
      rw [decode_ascii _ k hs (by rw [he]; exact h), he]
      exact ⟨h, rfl, rfl⟩
    · right
      exact ⟨by omega, (decode_high _ k hs (by rw [he]; omega)).1⟩

theorem next_at {P : Program} (w : World) (l : List UInt8) (k : Nat) (hk : k < l.length) (r n : Nat) (hd : Utf8.decode ⟨l.toArray⟩ k = (r, n)) (ty : TypeId) :
    (Instr.next (.pointer (some ⟨w.heap.size, 0, none⟩)) true ty).run P (w.iter ⟨l.toArray⟩ k) =
      .ok (.tuple #[.bool true, .int .i64 k, .int .i32 r]) (w.iter ⟨l.toArray⟩ (k + n)) := by
  have hs : k < (⟨l.toArray⟩ : ByteArray).size := by simpa [ByteArray.size] using hk
  have := run_next_any (P := P) w ⟨l.toArray⟩ k ty hs
  rw [hd] at this
  exact this

theorem next_out {P : Program} (w : World) (l : List UInt8) (k : Nat) (hk : ¬ k < l.length) (ty : TypeId) :
    (Instr.next (.pointer (some ⟨w.heap.size, 0, none⟩)) true ty).run P (w.iter ⟨l.toArray⟩ k) = .ok (.tuple #[.bool false]) (w.iter ⟨l.toArray⟩ k) :=
  run_next_end (P := P) w ⟨l.toArray⟩ k ty (by simpa [ByteArray.size] using hk)

theorem figureI_lt {c : Int} (h : figureI c = true) : c < 128 := by simp [figureI] at h; omega
theorem figure_rune {c : UInt8} {r : Nat} (h : (c.toNat < 128 ∧ r = c.toNat) ∨ (128 ≤ c.toNat ∧ 128 ≤ r)) : figureI (r : Int) = figureB c := by
  unfold figureB
  rcases h with ⟨_, rfl⟩ | ⟨h1, h2⟩
  · rfl
  · have a : figureI (r : Int) = false := by cases e : figureI (r : Int) with | false => rfl | true => have := figureI_lt e; omega
    have b : figureI (c.toNat : Int) = false := by cases e : figureI (c.toNat : Int) with | false => rfl | true => have := figureI_lt e; omega
    rw [a, b]
theorem figureB_lt {c : UInt8} (h : figureB c = true) : c.toNat < 128 := by have := figureI_lt h; omega
theorem drop_at {l : List UInt8} {k : Nat} (hk : k < l.length) : l.drop k = l[k] :: l.drop (k + 1) := List.drop_eq_getElem_cons hk
end Go.Proofs.YtfcpblclfgkdjaaGreatDoor.Aw

namespace Go.Proofs.YtfcpblclfgkdjaaGreatDoor.Aw
set_option linter.unusedSimpArgs false
set_option linter.unusedVariables false

/-- Digits. -/
def Dg (l : List Int) : Prop := ∀ x ∈ l, 0 ≤ x ∧ x < 1000000000
/-- What a row of digits is worth. -/
def val : List Int → Int
  | [] => 0
  | x :: r => x + 1000000000 * val r
/-- A power of the base. -/
def pw : Nat → Int
  | 0 => 1
  | k + 1 => 1000000000 * pw k
/-- The digits of an amount, none for nought. -/
def digs (n : Nat) : List Int := if h : n = 0 then [] else ((n % 1000000000 : Nat) : Int) :: digs (n / 1000000000)
termination_by n
decreasing_by omega

theorem pw_pos : ∀ k, 0 < pw k
  | 0 => by simp [pw]
  | k + 1 => by have := pw_pos k; rw [pw]; omega
theorem pw_add (i : Nat) : ∀ k, pw (i + k) = pw i * pw k
  | 0 => by simp [pw]
  | k + 1 => by rw [← Nat.add_assoc, pw, pw_add i k, pw]; grind
theorem pw_mono {i k : Nat} (h : i ≤ k) : pw i ≤ pw k := by
  induction h with
  | refl => exact Int.le_refl _
  | step _ ih => rw [pw]; have := pw_pos i; omega
theorem Dg.nil : Dg [] := fun _ h => by cases h
theorem Dg.cons {x : Int} {l : List Int} (h0 : 0 ≤ x) (h1 : x < 1000000000) (h : Dg l) : Dg (x :: l) := fun y hy => by
  rcases List.mem_cons.1 hy with rfl | hy
  · exact ⟨h0, h1⟩
  · exact h y hy
theorem Dg.app {a b : List Int} (ha : Dg a) (hb : Dg b) : Dg (a ++ b) := fun y hy => (List.mem_append.1 hy).elim (ha y) (hb y)
theorem Dg.snoc {x : Int} {l : List Int} (h : Dg l) (h0 : 0 ≤ x) (h1 : x < 1000000000) : Dg (l ++ [x]) := h.app (Dg.cons h0 h1 Dg.nil)
theorem Dg.take {l : List Int} (h : Dg l) (k : Nat) : Dg (l.take k) := fun y hy => h y (List.mem_of_mem_take hy)
theorem Dg.drop {l : List Int} (h : Dg l) (k : Nat) : Dg (l.drop k) := fun y hy => h y (List.mem_of_mem_drop hy)
theorem Dg.at {l : List Int} (h : Dg l) (k : Nat) (hk : k < l.length) : 0 ≤ l[k] ∧ l[k] < 1000000000 := h _ (List.getElem_mem hk)
theorem getD_at {l : List Int} {k : Nat} (h : k < l.length) : l.getD k 0 = l[k] := by rw [List.getD_eq_getElem?_getD, List.getElem?_eq_getElem h]; rfl
theorem Dg.getD {l : List Int} (h : Dg l) (k : Nat) : 0 ≤ l.getD k 0 ∧ l.getD k 0 < 1000000000 := by
  rcases Nat.lt_or_ge k l.length with hk | hk
  · rw [getD_at hk]; exact h.at k hk
  · rw [List.getD_eq_getElem?_getD, List.getElem?_eq_none hk]; decide
theorem val_nonneg : ∀ {l : List Int}, Dg l → 0 ≤ val l
  | [], _ => by simp [val]
  | x :: r, h => by
    have h1 := h x (by simp)
    have h2 := val_nonneg (l := r) (fun y hy => h y (by simp [hy]))
    rw [val]; omega
theorem val_lt : ∀ {l : List Int}, Dg l → val l < pw l.length
  | [], _ => by simp [val, pw]
  | x :: r, h => by
    have h1 := h x (by simp)
    have h2 := val_lt (l := r) (fun y hy => h y (by simp [hy]))
    rw [val, List.length_cons, pw]; omega
theorem val_app : ∀ (a b : List Int), val (a ++ b) = val a + pw a.length * val b
  | [], b => by simp [val, pw]
  | x :: a, b => by
    rw [List.cons_append, val, val, val_app a b, List.length_cons, pw]; grind
theorem val_snoc (a : List Int) (x : Int) : val (a ++ [x]) = val a + pw a.length * x := by rw [val_app, val, val]; simp
theorem val_zeros : ∀ n, val (List.replicate n 0) = 0
  | 0 => rfl
  | n + 1 => by rw [List.replicate_succ, val, val_zeros n]; simp
theorem val_take_succ {l : List Int} {k : Nat} (h : k < l.length) : val (l.take (k + 1)) = val (l.take k) + pw k * l[k] := by
  rw [List.take_succ_eq_append_getElem h, val_snoc, List.length_take, Nat.min_eq_left (Nat.le_of_lt h)]
theorem val_take_getD (l : List Int) (k : Nat) : val (l.take (k + 1)) = val (l.take k) + pw k * l.getD k 0 := by
  rcases Nat.lt_or_ge k l.length with hk | hk
  · rw [getD_at hk]; exact val_take_succ hk
  · rw [List.getD_eq_getElem?_getD, List.getElem?_eq_none hk, List.take_of_length_le (by omega), List.take_of_length_le (by omega)]; simp
theorem val_split (l : List Int) (k : Nat) : val l = val (l.take k) + pw (l.take k).length * val (l.drop k) := by
  rw [← val_app, List.take_append_drop]

theorem digs_zero : digs 0 = [] := by rw [digs]; simp
theorem digs_pos {n : Nat} (h : n ≠ 0) : digs n = ((n % 1000000000 : Nat) : Int) :: digs (n / 1000000000) := by rw [digs, dif_neg h]
theorem digs_dg : ∀ n, Dg (digs n) := fun n => by
  induction n using Nat.strongRecOn with
  | _ n ih =>
    by_cases h : n = 0
    · rw [h, digs_zero]; exact Dg.nil
    · rw [digs_pos h]
      exact Dg.cons (by omega) (by omega) (ih _ (by omega))
theorem val_digs : ∀ n, val (digs n) = n := fun n => by
  induction n using Nat.strongRecOn with
  | _ n ih =>
    by_cases h : n = 0
    · rw [h, digs_zero]; rfl
    · rw [digs_pos h, val, ih _ (by omega)]
      omega
theorem digs_nil {n : Nat} : digs n = [] ↔ n = 0 := by
  constructor
  · intro h
    by_cases e : n = 0
    · exact e
    · rw [digs_pos e] at h; cases h
  · rintro rfl; exact digs_zero
/-- Without a nought at the end. -/
def Cn (l : List Int) : Prop := l.getLast? ≠ some 0
theorem cn_tail {x : Int} {r : List Int} (h : Cn (x :: r)) : Cn r := by
  cases r with
  | nil => simp [Cn]
  | cons y r => simpa [Cn] using h
theorem cn_digs {l : List Int} (hd : Dg l) (hc : Cn l) : l = digs (val l).toNat := by
  induction l with
  | nil => rw [val]; exact digs_zero.symm
  | cons x r ih =>
    have h1 := hd x (by simp)
    have hr : Dg r := fun y hy => hd y (by simp [hy])
    have h2 := val_nonneg hr
    have e := ih hr (cn_tail hc)
    rw [val]
    have hne : (x + 1000000000 * val r).toNat ≠ 0 := by
      intro h
      have hx : x = 0 := by omega
      have hv : val r = 0 := by omega
      rw [hv] at e
      rw [show (0 : Int).toNat = 0 from rfl, digs_zero] at e
      rw [e, hx] at hc
      simp [Cn] at hc
    rw [digs_pos hne]
    have e1 : ((((x + 1000000000 * val r).toNat % 1000000000 : Nat)) : Int) = x := by omega
    have e2 : (x + 1000000000 * val r).toNat / 1000000000 = (val r).toNat := by omega
    rw [e1, e2, ← e]
theorem digs_cn (n : Nat) : Cn (digs n) := by
  induction n using Nat.strongRecOn with
  | _ n ih =>
    by_cases h : n = 0
    · rw [h, digs_zero]; simp [Cn]
    · rw [digs_pos h]
      by_cases h2 : n / 1000000000 = 0
      · rw [h2, digs_zero]; simp only [Cn, List.getLast?_singleton, ne_eq, Option.some.injEq]; omega
      · have := ih (n / 1000000000) (by omega)
        rw [digs_pos h2] at this ⊢
        simpa [Cn] using this
theorem digs_len_lt {n k : Nat} (h : (n : Int) < pw k) : (digs n).length ≤ k := by
  induction k generalizing n with
  | zero => rw [pw] at h; have : n = 0 := by omega
            rw [this, digs_zero]; simp
  | succ k ih =>
    by_cases e : n = 0
    · rw [e, digs_zero]; simp
    · rw [digs_pos e, List.length_cons]
      have := ih (n := n / 1000000000) (by rw [pw] at h; omega)
      omega
theorem digs_len_ge {n : Nat} (h : n ≠ 0) : pw ((digs n).length - 1) ≤ (n : Int) := by
  induction n using Nat.strongRecOn with
  | _ n ih =>
    rw [digs_pos h, List.length_cons]
    by_cases h2 : n / 1000000000 = 0
    · rw [h2, digs_zero]; simp [pw]; omega
    · have := ih (n / 1000000000) (by omega) h2
      have hp : (digs (n / 1000000000)).length ≠ 0 := fun hc => h2 (digs_nil.1 (List.eq_nil_of_length_eq_zero hc))
      obtain ⟨m, hm⟩ : ∃ m, (digs (n / 1000000000)).length = m + 1 := ⟨_, (Nat.succ_pred_eq_of_ne_zero hp).symm⟩
      rw [hm] at this ⊢
      simp only [Nat.add_sub_cancel, pw] at this ⊢
      omega
theorem digs_len_mono {n m : Nat} (h : n ≤ m) : (digs n).length ≤ (digs m).length := digs_len_lt (by have := val_lt (digs_dg m); rw [val_digs] at this; omega)

/-- How amounts stand. -/
def cmpI (n m : Int) : Int := if n < m then -1 else if n = m then 0 else 1
theorem cmp_len {n m : Nat} (h : (digs n).length < (digs m).length) : n < m := by
  rcases Nat.lt_or_ge n m with h' | h'
  · exact h'
  · have := digs_len_mono h'; omega
/-- The highest place where rows part tells. -/
theorem val_part {a b : List Int} (ha : Dg a) (hb : Dg b) (hl : a.length = b.length) {i : Nat} (hi : i < a.length) (hd : a.drop (i + 1) = b.drop (i + 1)) (h : a[i] < b[i]) : val a < val b := by
  have e1 := val_split a (i + 1)
  have e2 := val_split b (i + 1)
  rw [val_take_succ hi] at e1
  rw [val_take_succ (l := b) (by omega)] at e2
  have l1 : (a.take (i + 1)).length = i + 1 := by simp; omega
  have l2 : (b.take (i + 1)).length = i + 1 := by simp; omega
  rw [l1] at e1; rw [l2] at e2
  rw [hd] at e1
  have h1 := val_lt (ha.take i)
  have h2 := val_nonneg (hb.take i)
  have l3 : (a.take i).length = i := by simp; omega
  rw [l3] at h1
  have hp := pw_pos i
  have : pw i * a[i] + pw i ≤ pw i * b[i] := by
    have : pw i * (a[i] + 1) ≤ pw i * b[i] := Int.mul_le_mul_of_nonneg_left (by omega) (by omega)
    rw [Int.mul_add, Int.mul_one] at this; exact this
  omega
end Go.Proofs.YtfcpblclfgkdjaaGreatDoor.Aw

namespace Go.Proofs.YtfcpblclfgkdjaaGreatDoor.Aw
set_option linter.unusedSimpArgs false
set_option linter.unusedVariables false

/-- What figures are worth. -/
def dval (l : List UInt8) : Int := l.foldl (fun d c => 10 * d + ((c.toNat : Int) - 48)) 0
theorem dval_nil : dval [] = 0 := rfl
theorem dval_snoc (l : List UInt8) (c : UInt8) : dval (l ++ [c]) = 10 * dval l + ((c.toNat : Int) - 48) := by
  unfold dval; rw [List.foldl_append]; rfl
theorem dval_one (c : UInt8) : dval [c] = (c.toNat : Int) - 48 := by
  have := dval_snoc [] c
  rw [List.nil_append, dval_nil] at this
  rw [this]; omega
theorem figB {c : UInt8} : figureB c = true ↔ 48 ≤ (c.toNat : Int) ∧ (c.toNat : Int) ≤ 57 := by
  unfold figureB figureI; simp
theorem dval_app (a : List UInt8) : ∀ (n : Nat) (b : List UInt8), b.length = n → dval (a ++ b) = dval a * 10 ^ n + dval b
  | 0, b, h => by rw [List.eq_nil_of_length_eq_zero h, List.append_nil, dval_nil]; simp
  | n + 1, b, h => by
    have hne : b ≠ [] := by rintro rfl; simp at h
    obtain ⟨b', c, rfl⟩ : ∃ b' c, b = b' ++ [c] := ⟨b.dropLast, b.getLast hne, (List.dropLast_concat_getLast hne).symm⟩
    have hb : b'.length = n := by simpa using h
    rw [← List.append_assoc, dval_snoc, dval_snoc, dval_app a n b' hb, Int.pow_succ]
    grind
theorem dval_rng : ∀ (n : Nat) (l : List UInt8), l.length = n → l.all figureB = true → 0 ≤ dval l ∧ dval l < 10 ^ n
  | 0, b, h, _ => by rw [List.eq_nil_of_length_eq_zero h, dval_nil]; simp
  | n + 1, b, h, ha => by
    have hne : b ≠ [] := by rintro rfl; simp at h
    obtain ⟨b', c, rfl⟩ : ∃ b' c, b = b' ++ [c] := ⟨b.dropLast, b.getLast hne, (List.dropLast_concat_getLast hne).symm⟩
    rw [List.all_append, Bool.and_eq_true] at ha
    have ih := dval_rng n b' (by simpa using h) ha.1
    have hc := figB.1 (by simpa using ha.2 : figureB c = true)
    rw [dval_snoc, Int.pow_succ]
    omega

theorem dec_small {n : Nat} (h : n < 10) : Lib.decDigits n = [UInt8.ofNat (48 + n)] := Lib.decDigits_one h
theorem dec_big {n : Nat} (h : ¬ n < 10) : Lib.decDigits n = Lib.decDigits (n / 10) ++ [UInt8.ofNat (48 + n % 10)] := by rw [Lib.decDigits, dif_neg h]
theorem dec_ne (n : Nat) : Lib.decDigits n ≠ [] := by
  by_cases h : n < 10
  · rw [dec_small h]; simp
  · rw [dec_big h]; simp
theorem nat_fig {d : Nat} (h : d < 10) : ((UInt8.ofNat (48 + d)).toNat : Int) = 48 + d := by
  rw [UInt8.toNat_ofNat']; omega
theorem fig_ofNat {d : Nat} (h : d < 10) : figureB (UInt8.ofNat (48 + d)) = true := figB.2 (by rw [nat_fig h]; omega)
theorem dec_all (n : Nat) : (Lib.decDigits n).all figureB = true := by
  induction n using Nat.strongRecOn with
  | _ n ih =>
    by_cases h : n < 10
    · rw [dec_small h]; simp only [List.all_cons, List.all_nil, fig_ofNat h, Bool.and_self]
    · rw [dec_big h, List.all_append, ih _ (by omega)]; simp only [List.all_cons, List.all_nil, fig_ofNat (show n % 10 < 10 by omega), Bool.and_self]
theorem dval_dec (n : Nat) : dval (Lib.decDigits n) = n := by
  induction n using Nat.strongRecOn with
  | _ n ih =>
    by_cases h : n < 10
    · rw [dec_small h, dval_one, nat_fig h]; omega
    · rw [dec_big h, dval_snoc, ih _ (by omega), nat_fig (by omega)]; omega
theorem dec_head {n : Nat} (h : n ≠ 0) : (Lib.decDigits n).head? ≠ some 48 := by
  induction n using Nat.strongRecOn with
  | _ n ih =>
    by_cases h2 : n < 10
    · rw [dec_small h2]
      intro e
      have e' : UInt8.ofNat (48 + n) = 48 := by simpa using e
      have := nat_fig h2
      rw [e', show ((48 : UInt8).toNat : Int) = 48 from rfl] at this
      omega
    · rw [dec_big h2, List.head?_append, Option.or_of_isSome (by simp [List.isSome_head?, dec_ne])]
      exact ih _ (by omega) (by omega)
theorem dec_zero : Lib.decDigits 0 = [48] := by rw [dec_small (by omega)]; rfl
theorem dec_step {n d : Nat} (h : n ≠ 0) (hd : d < 10) : Lib.decDigits (10 * n + d) = Lib.decDigits n ++ [UInt8.ofNat (48 + d)] := by
  rw [dec_big (by omega), show (10 * n + d) / 10 = n by omega, show (10 * n + d) % 10 = d by omega]
theorem u8_back (c : UInt8) (h : figureB c = true) : UInt8.ofNat (48 + ((c.toNat : Int) - 48).toNat) = c := by
  have := figB.1 h
  apply UInt8.toNat_inj.1
  have h2 := nat_fig (d := ((c.toNat : Int) - 48).toNat) (by omega)
  omega
/-- Figures without a nought ahead are the numeral of what they are worth. -/
theorem dec_of : ∀ (n : Nat) (l : List UInt8), l.length = n → l ≠ [] → l.all figureB = true → (l.head? ≠ some 48 ∨ l = [48]) → l = Lib.decDigits (dval l).toNat
  | 0, l, h, hne, _, _ => absurd (List.eq_nil_of_length_eq_zero h) hne
  | n + 1, l, h, hne, ha, hh => by
    obtain ⟨b', c, rfl⟩ : ∃ b' c, l = b' ++ [c] := ⟨l.dropLast, l.getLast hne, (List.dropLast_concat_getLast hne).symm⟩
    rw [List.all_append, Bool.and_eq_true] at ha
    have hcf : figureB c = true := by simpa using ha.2
    have hc := figB.1 hcf
    have hu := u8_back c hcf
    by_cases hb : b' = []
    · subst hb
      rw [List.nil_append, dval_one, dec_small (by omega), hu]
    · have hh' : b'.head? ≠ some 48 := by
        rcases hh with hh | hh
        · rw [List.head?_append, Option.or_of_isSome (by simp [List.isSome_head?, hb])] at hh; exact hh
        · exfalso
          have := congrArg List.length hh
          have h2 : b'.length ≠ 0 := fun e => hb (List.eq_nil_of_length_eq_zero e)
          simp only [List.length_append, List.length_singleton] at this; omega
      have ih := dec_of n b' (by simpa using h) hb ha.1 (.inl hh')
      have hr := dval_rng n b' (by simpa using h) ha.1
      have hz : (dval b').toNat ≠ 0 := by
        intro e
        rw [e, dec_zero] at ih
        rw [ih] at hh'
        simp at hh'
      rw [dval_snoc, show (10 * dval b' + ((c.toNat : Int) - 48)).toNat = 10 * (dval b').toNat + ((c.toNat : Int) - 48).toNat by omega, dec_step hz (by omega), ← ih, hu]
theorem dec_len_le {n k : Nat} (h : n < 10 ^ k) (hk : k ≠ 0) : (Lib.decDigits n).length ≤ k := by
  induction k generalizing n with
  | zero => exact absurd rfl hk
  | succ k ih =>
    by_cases h2 : n < 10
    · rw [dec_small h2]; simp
    · rw [dec_big h2, List.length_append, List.length_singleton]
      rw [Nat.pow_succ] at h
      have hk' : k ≠ 0 := by rintro rfl; simp at h; omega
      have := ih (n := n / 10) (by omega) hk'
      omega

/-- A plain numeral within 160 places. -/
def plB (l : List UInt8) : Bool := plainL l && decide (l.length ≤ 160)
theorem plB_dec {l : List UInt8} (h : plB l = true) : l = Lib.decDigits (dval l).toNat ∧ l.length ≤ 160 ∧ l.all figureB = true := by
  unfold plB plainL at h
  simp only [Bool.and_eq_true, Bool.or_eq_true, decide_eq_true_eq, Bool.not_eq_true', beq_iff_eq] at h
  obtain ⟨⟨ha, h1⟩, h2⟩ := h
  refine ⟨dec_of _ l rfl ?_ ha ?_, h2, ha⟩
  · rcases h1 with rfl | ⟨h1, _⟩
    · simp
    · rintro rfl; simp at h1
  · rcases h1 with h1 | ⟨_, _, h1⟩
    · exact .inr h1
    · exact .inl (by simpa using h1)
theorem plB_of {n : Nat} (h : (Lib.decDigits n).length ≤ 160) : plB (Lib.decDigits n) = true := by
  unfold plB plainL
  rw [dec_all, decide_eq_true h]
  by_cases hn : n = 0
  · subst hn; rw [dec_zero]; rfl
  · have h1 := dec_head hn
    have h2 := dec_ne n
    simp [h1, h2]; omega

/-- A number that is written; none: it is none. -/
def numB (s : List UInt8) : Option Int :=
  if s.head? = some 45 then (if plB (s.drop 1) && !(s == [45, 48]) then some (-dval (s.drop 1)) else none)
  else if plB s then some (dval s) else none
theorem numB_text {s : List UInt8} {z : Int} (h : numB s = some z) : s = Lib.itoa z ∧ (Lib.decDigits z.natAbs).length ≤ 160 := by
  unfold numB at h
  split at h
  · rename_i hd
    split at h
    · rename_i hp
      rw [Bool.and_eq_true, Bool.not_eq_true', beq_eq_false_iff_ne] at hp
      obtain ⟨e, hl, ha⟩ := plB_dec hp.1
      obtain rfl := Option.some.inj h
      have hr := dval_rng _ _ rfl ha
      have hs : s = 45 :: s.drop 1 := by
        cases s with
        | nil => cases hd
        | cons x r => simp only [List.head?_cons, Option.some.injEq] at hd; rw [hd]; rfl
      have hz : dval (s.drop 1) ≠ 0 := by
        intro e0
        rw [e0] at e
        rw [show (0 : Int).toNat = 0 from rfl, dec_zero] at e
        rw [e] at hs
        exact hp.2 hs
      have hn : (-dval (s.drop 1)).natAbs = (dval (s.drop 1)).toNat := by omega
      refine ⟨?_, by rw [hn, ← e]; exact hl⟩
      unfold Lib.itoa
      rw [if_pos (by omega), hn, ← e]
      exact hs
    · cases h
  · split at h
    · rename_i hp
      obtain ⟨e, hl, ha⟩ := plB_dec hp
      obtain rfl := Option.some.inj h
      have hr := dval_rng _ _ rfl ha
      refine ⟨?_, by rw [show (dval s).natAbs = (dval s).toNat by omega, ← e]; exact hl⟩
      unfold Lib.itoa
      rw [if_neg (by omega), ← e]
    · cases h
theorem fig_ne_minus {c : UInt8} (h : figureB c = true) : c ≠ 45 := by rintro rfl; revert h; decide
theorem dec_head_fig (n : Nat) : (Lib.decDigits n).head? ≠ some 45 := by
  intro h
  have ha := dec_all n
  cases e : Lib.decDigits n with
  | nil => rw [e] at h; cases h
  | cons x r =>
    rw [e] at h ha
    simp only [List.head?_cons, Option.some.injEq] at h
    subst h
    simp [List.all_cons] at ha
    exact absurd rfl (fig_ne_minus ha.1)
theorem numB_itoa {z : Int} (h : (Lib.decDigits z.natAbs).length ≤ 160) : numB (Lib.itoa z) = some z := by
  unfold numB Lib.itoa
  by_cases hz : z < 0
  · rw [if_pos hz, if_pos (by simp), List.drop_succ_cons, List.drop_zero, plB_of h, dval_dec]
    have : (45 :: Lib.decDigits z.natAbs == [45, 48]) = false := by
      rw [beq_eq_false_iff_ne]
      intro e
      have e1 : Lib.decDigits z.natAbs = [48] := (List.cons.inj e).2
      have e2 := dec_head (n := z.natAbs) (by omega)
      rw [e1] at e2
      exact e2 rfl
    rw [this]
    simp; omega
  · rw [if_neg hz, if_neg (dec_head_fig _), show z.toNat = z.natAbs by omega, plB_of h, dval_dec]
    simp; omega

/-- Figures to a width, with noughts ahead. -/
def padL : Nat → Nat → List UInt8
  | 0, _ => []
  | k + 1, d => padL k (d / 10) ++ [UInt8.ofNat (48 + d % 10)]
theorem dec_pad {v : Nat} (hv : v ≠ 0) : ∀ (k d : Nat), d < 10 ^ k → Lib.decDigits (v * 10 ^ k + d) = Lib.decDigits v ++ padL k d
  | 0, d, h => by simp at h; subst h; simp [padL]
  | k + 1, d, h => by
    have hp : 1 ≤ 10 ^ k := Nat.one_le_pow _ _ (by decide)
    have h1 : 1 ≤ v * 10 ^ k := Nat.mul_pos (by omega) hp
    rw [Nat.pow_succ] at h ⊢
    rw [show v * (10 ^ k * 10) + d = 10 * (v * 10 ^ k + d / 10) + d % 10 by rw [← Nat.mul_assoc]; omega]
    rw [dec_step (by omega) (by omega), dec_pad hv k (d / 10) (by omega), padL, List.append_assoc]
theorem padL_zero : ∀ k, padL k 0 = List.replicate k 48
  | 0 => rfl
  | k + 1 => by rw [padL, padL_zero k, List.replicate_succ']; rfl
theorem padL_eq : ∀ (k d : Nat), k ≠ 0 → d < 10 ^ k → padL k d = List.replicate (k - (Lib.decDigits d).length) 48 ++ Lib.decDigits d
  | 0, _, h, _ => absurd rfl h
  | k + 1, d, _, h => by
    rw [padL]
    by_cases h2 : d < 10
    · rw [show d / 10 = 0 by omega, padL_zero, dec_small h2, show d % 10 = d by omega]; simp
    · rw [Nat.pow_succ] at h
      have hk : k ≠ 0 := by rintro rfl; simp at h; omega
      rw [padL_eq k (d / 10) hk (by omega), dec_big h2, List.length_append, List.length_singleton, ← List.append_assoc, show k + 1 - ((Lib.decDigits (d / 10)).length + 1) = k - (Lib.decDigits (d / 10)).length by omega]
theorem dec_nine {v d : Nat} (hv : v ≠ 0) (hd : d < 1000000000) : Lib.decDigits (d + 1000000000 * v) = Lib.decDigits v ++ (List.replicate (9 - (Lib.decDigits d).length) 48 ++ Lib.decDigits d) := by
  rw [show d + 1000000000 * v = v * 10 ^ 9 + d by omega, dec_pad hv 9 d (by simpa using hd), padL_eq 9 d (by decide) (by simpa using hd)]
end Go.Proofs.YtfcpblclfgkdjaaGreatDoor.Aw

namespace Go.Proofs.YtfcpblclfgkdjaaGreatDoor.Aw
set_option linter.unusedSimpArgs false
set_option linter.unusedVariables false
open Go.RowKit

/-- A type: its kind, its name, its parts. -/
inductive Ty where
  | mk (kind : Int) (name : List UInt8) (args : List Ty)
namespace Ty
def kind : Ty → Int | .mk k _ _ => k
def name : Ty → List UInt8 | .mk _ n _ => n
def args : Ty → List Ty | .mk _ _ l => l
@[simp] theorem kind_mk (k n l) : (Ty.mk k n l).kind = k := rfl
@[simp] theorem name_mk (k n l) : (Ty.mk k n l).name = n := rfl
@[simp] theorem args_mk (k n l) : (Ty.mk k n l).args = l := rfl
end Ty
theorem Ty.ind {M : Ty → Prop} (h : ∀ t : Ty, (∀ k, k ∈ t.args → M k) → M t) : ∀ t, M t
  | .mk o s l => h (.mk o s l) (fun x hx => Ty.ind h x)
termination_by t => SizeOf.sizeOf t
decreasing_by
  have := List.sizeOf_lt_of_mem hx
  simp_all
  omega

/-- How many, and a sign behind. -/
def cnt (n : Nat) : List UInt8 := Lib.decDigits n ++ [120]
def basicL (nm : List UInt8) : List UInt8 := if nm = [105, 110, 116] then [105] else if nm = [115, 116, 114, 105, 110, 103] then [116] else if nm = [98, 111, 111, 108] then [98] else []
def shapeL (k : Int) (nm : List UInt8) (n : Nat) (s : List UInt8) : List UInt8 :=
  if k = 5 ∧ n = 1 then 115 :: s
  else if k = 6 ∧ 0 < n then 102 :: (cnt n ++ s)
  else if k = 3 ∧ nm ≠ [] then 110 :: (cnt nm.length ++ (nm ++ (cnt n ++ s)))
  else []
mutual
/-- A type in letters; nothing: it has none. -/
def letT : Ty → List UInt8
  | .mk k nm l => if k = 1 ∧ l.length = 0 then basicL nm else if k = 7 ∧ l.length = 0 then [118] else match letsT l with | none => [] | some s => shapeL k nm l.length s
def letsT : List Ty → Option (List UInt8)
  | [] => some []
  | x :: l => if letT x = [] then none else match letsT l with | none => none | some s => some (letT x ++ s)
end
mutual
def plainT : Ty → Ty → Bool
  | .mk k n a, .mk k' n' a' => decide (k = k') && ((!(decide (k = 1) || decide (k = 3)) || decide (n = n')) && plainTs a a')
def plainTs : List Ty → List Ty → Bool
  | [], [] => true
  | x :: l, y :: m => plainT x y && plainTs l m
  | [], _ :: _ => false
  | _ :: _, [] => false
end

theorem letT_mk (k : Int) (nm : List UInt8) (l : List Ty) : letT (.mk k nm l) = if k = 1 ∧ l.length = 0 then basicL nm else if k = 7 ∧ l.length = 0 then [118] else match letsT l with | none => [] | some s => shapeL k nm l.length s := by rw [letT]
theorem letsT_cons (x : Ty) (l : List Ty) : letsT (x :: l) = if letT x = [] then none else match letsT l with | none => none | some s => some (letT x ++ s) := by rw [letsT]
theorem plainT_mk (k k' : Int) (n n' : List UInt8) (a a' : List Ty) : plainT (.mk k n a) (.mk k' n' a') = (decide (k = k') && ((!(decide (k = 1) || decide (k = 3)) || decide (n = n')) && plainTs a a')) := by rw [plainT]
theorem plainL_len : ∀ {l m : List Ty}, plainTs l m = true → l.length = m.length
  | [], [], _ => rfl
  | [], _ :: _, h => by rw [plainTs] at h; cases h
  | _ :: _, [], h => by rw [plainTs] at h; cases h
  | x :: l, y :: m, h => by
    rw [plainTs, Bool.and_eq_true] at h
    simp [plainL_len h.2]

/-- What is plainly the same has the same letters. -/
theorem plain_lets {l : List Ty} (h : ∀ t, t ∈ l → ∀ u, plainT t u = true → letT t = letT u) : ∀ {m : List Ty}, plainTs l m = true → letsT l = letsT m := by
  induction l with
  | nil =>
    intro m hm
    cases m with
    | nil => rfl
    | cons y m => rw [plainTs] at hm; cases hm
  | cons x l ih =>
    intro m hm
    cases m with
    | nil => rw [plainTs] at hm; cases hm
    | cons y m =>
      rw [plainTs, Bool.and_eq_true] at hm
      rw [letsT_cons, letsT_cons, h x (by simp) y hm.1, ih (fun t ht => h t (List.mem_cons_of_mem _ ht)) hm.2]
theorem plain_let : ∀ (t u : Ty), plainT t u = true → letT t = letT u := by
  refine Ty.ind (fun t ih => ?_)
  intro u hp
  obtain ⟨k, n, a⟩ := t
  obtain ⟨k', n', a'⟩ := u
  rw [plainT_mk, Bool.and_eq_true, Bool.and_eq_true] at hp
  obtain ⟨h1, h2, h3⟩ := hp
  obtain rfl : k = k' := by simpa using h1
  have hl := plainL_len h3
  simp only [Ty.args_mk] at ih
  rw [letT_mk, letT_mk, plain_lets ih h3, hl]
  by_cases hk : k = 1 ∨ k = 3
  · have : n = n' := by
      rcases hk with rfl | rfl <;> simpa using h2
    rw [this]
  · have k1 : k ≠ 1 := fun e => hk (.inl e)
    have k3 : k ≠ 3 := fun e => hk (.inr e)
    simp [shapeL, k1, k3]

/-! Letters are a code in which none is the beginning of another. -/
theorem dec_inj {n m : Nat} (h : Lib.decDigits n = Lib.decDigits m) : n = m := by
  have := congrArg dval h
  rw [dval_dec, dval_dec] at this
  omega
theorem fig_split {a b r r' : List UInt8} (ha : a.all figureB = true) (hb : b.all figureB = true) (h : a ++ 120 :: r = b ++ 120 :: r') : a = b ∧ r = r' := by
  induction a generalizing b with
  | nil =>
    cases b with
    | nil => simpa using h
    | cons y b =>
      simp only [List.nil_append, List.cons_append, List.cons.injEq] at h
      rw [List.all_cons, Bool.and_eq_true, ← h.1] at hb
      exact absurd hb.1 (by decide)
  | cons x a ih =>
    cases b with
    | nil =>
      simp only [List.nil_append, List.cons_append, List.cons.injEq] at h
      rw [List.all_cons, Bool.and_eq_true, h.1] at ha
      exact absurd ha.1 (by decide)
    | cons y b =>
      simp only [List.cons_append, List.cons.injEq] at h
      rw [List.all_cons, Bool.and_eq_true] at ha hb
      have := ih ha.2 hb.2 h.2
      exact ⟨by rw [h.1, this.1], this.2⟩
theorem cnt_split {n m : Nat} {r r' : List UInt8} (h : cnt n ++ r = cnt m ++ r') : n = m ∧ r = r' := by
  unfold cnt at h
  rw [List.append_assoc, List.append_assoc] at h
  have := fig_split (dec_all n) (dec_all m) (by simpa using h)
  exact ⟨dec_inj this.1, this.2⟩

/-- The ways of a type that has letters. -/
theorem let_cases {k : Int} {nm : List UInt8} {l : List Ty} (h : letT (.mk k nm l) ≠ []) :
    (k = 1 ∧ l = [] ∧ ((nm = [105, 110, 116] ∧ letT (.mk k nm l) = [105]) ∨ (nm = [115, 116, 114, 105, 110, 103] ∧ letT (.mk k nm l) = [116]) ∨ (nm = [98, 111, 111, 108] ∧ letT (.mk k nm l) = [98]))) ∨
    (k = 7 ∧ l = [] ∧ letT (.mk k nm l) = [118]) ∨
    (∃ s, letsT l = some s ∧ ((k = 5 ∧ l.length = 1 ∧ letT (.mk k nm l) = 115 :: s) ∨ (k = 6 ∧ letT (.mk k nm l) = 102 :: (cnt l.length ++ s)) ∨ (k = 3 ∧ letT (.mk k nm l) = 110 :: (cnt nm.length ++ (nm ++ (cnt l.length ++ s)))))) := by
  rw [letT_mk] at h ⊢
  by_cases h1 : k = 1 ∧ l.length = 0
  · rw [if_pos h1] at h ⊢
    refine .inl ⟨h1.1, List.eq_nil_of_length_eq_zero h1.2, ?_⟩
    unfold basicL at h ⊢
    by_cases a1 : nm = [105, 110, 116]
    · exact .inl ⟨a1, if_pos a1⟩
    · rw [if_neg a1] at h ⊢
      by_cases a2 : nm = [115, 116, 114, 105, 110, 103]
      · exact .inr (.inl ⟨a2, if_pos a2⟩)
      · rw [if_neg a2] at h ⊢
        by_cases a3 : nm = [98, 111, 111, 108]
        · exact .inr (.inr ⟨a3, if_pos a3⟩)
        · rw [if_neg a3] at h; exact absurd rfl h
  · rw [if_neg h1] at h ⊢
    by_cases h2 : k = 7 ∧ l.length = 0
    · rw [if_pos h2]
      exact .inr (.inl ⟨h2.1, List.eq_nil_of_length_eq_zero h2.2, rfl⟩)
    · rw [if_neg h2] at h ⊢
      cases hs : letsT l with
      | none => rw [hs] at h; exact absurd rfl h
      | some s =>
        rw [hs] at h
        refine .inr (.inr ⟨s, rfl, ?_⟩)
        simp only [shapeL] at h ⊢
        by_cases h3 : k = 5 ∧ l.length = 1
        · exact .inl ⟨h3.1, h3.2, if_pos h3⟩
        · rw [if_neg h3] at h ⊢
          by_cases h4 : k = 6 ∧ 0 < l.length
          · exact .inr (.inl ⟨h4.1, if_pos h4⟩)
          · rw [if_neg h4] at h ⊢
            by_cases h5 : k = 3 ∧ nm ≠ []
            · exact .inr (.inr ⟨h5.1, if_pos h5⟩)
            · rw [if_neg h5] at h; exact absurd rfl h

def InjT (t : Ty) : Prop := ∀ u r r', letT t ≠ [] → letT u ≠ [] → letT t ++ r = letT u ++ r' → plainT t u = true ∧ r = r'
theorem inj_lets {l : List Ty} (h : ∀ t, t ∈ l → InjT t) : ∀ (m : List Ty) (s s' r r' : List UInt8), l.length = m.length → letsT l = some s → letsT m = some s' → s ++ r = s' ++ r' → plainTs l m = true ∧ r = r' := by
  induction l with
  | nil =>
    intro m s s' r r' hl h1 h2 he
    cases m with
    | cons y m => cases hl
    | nil =>
      rw [letsT] at h1 h2
      cases h1; cases h2
      exact ⟨by rw [plainTs], by simpa using he⟩
  | cons x l ih =>
    intro m s s' r r' hl h1 h2 he
    cases m with
    | nil => cases hl
    | cons y m =>
      rw [letsT_cons] at h1 h2
      by_cases hx : letT x = []
      · rw [if_pos hx] at h1; cases h1
      by_cases hy : letT y = []
      · rw [if_pos hy] at h2; cases h2
      rw [if_neg hx] at h1
      rw [if_neg hy] at h2
      cases e1 : letsT l with
      | none => rw [e1] at h1; cases h1
      | some s1 =>
        cases e2 : letsT m with
        | none => rw [e2] at h2; cases h2
        | some s2 =>
          rw [e1] at h1
          rw [e2] at h2
          cases h1; cases h2
          rw [List.append_assoc, List.append_assoc] at he
          obtain ⟨p1, p2⟩ := h x (by simp) y _ _ hx hy he
          obtain ⟨p3, p4⟩ := ih (fun t ht => h t (List.mem_cons_of_mem _ ht)) m s1 s2 r r' (by simpa using hl) e1 e2 p2
          exact ⟨by rw [plainTs, p1, p3]; rfl, p4⟩
theorem app_len {a b r r' : List UInt8} (hl : a.length = b.length) (h : a ++ r = b ++ r') : a = b ∧ r = r' := List.append_inj h hl
set_option maxHeartbeats 1000000 in
theorem inj_let : ∀ t : Ty, InjT t := by
  refine Ty.ind (fun t ih => ?_)
  intro u r r' ht hu he
  obtain ⟨k, n, a⟩ := t
  obtain ⟨k', n', a'⟩ := u
  rw [plainT_mk]
  simp only [Ty.args_mk] at ih
  rcases let_cases ht with ⟨rfl, rfl, h1⟩ | ⟨rfl, rfl, h1⟩ | ⟨s, hs, ⟨rfl, hl, h1⟩ | ⟨rfl, h1⟩ | ⟨rfl, h1⟩⟩
  · rcases let_cases hu with ⟨rfl, rfl, h2⟩ | ⟨rfl, rfl, h2⟩ | ⟨s', hs', ⟨rfl, hl', h2⟩ | ⟨rfl, h2⟩ | ⟨rfl, h2⟩⟩
    · have hpl : plainTs [] [] = true := by rw [plainTs]
      rcases h1 with ⟨rfl, h1⟩ | ⟨rfl, h1⟩ | ⟨rfl, h1⟩ <;> rcases h2 with ⟨rfl, h2⟩ | ⟨rfl, h2⟩ | ⟨rfl, h2⟩ <;> first | (rw [h1] at he; simp at he; exact ⟨by rw [hpl]; decide, he⟩) | (rw [h1, h2] at he; simp at he)
    · rcases h1 with ⟨rfl, h1⟩ | ⟨rfl, h1⟩ | ⟨rfl, h1⟩ <;> rw [h1, h2] at he <;> simp at he
    · rcases h1 with ⟨rfl, h1⟩ | ⟨rfl, h1⟩ | ⟨rfl, h1⟩ <;> rw [h1, h2] at he <;> simp at he
    · rcases h1 with ⟨rfl, h1⟩ | ⟨rfl, h1⟩ | ⟨rfl, h1⟩ <;> rw [h1, h2] at he <;> simp at he
    · rcases h1 with ⟨rfl, h1⟩ | ⟨rfl, h1⟩ | ⟨rfl, h1⟩ <;> rw [h1, h2] at he <;> simp at he
  · rcases let_cases hu with ⟨rfl, rfl, h2⟩ | ⟨rfl, rfl, h2⟩ | ⟨s', hs', ⟨rfl, hl', h2⟩ | ⟨rfl, h2⟩ | ⟨rfl, h2⟩⟩
    · rcases h2 with ⟨rfl, h2⟩ | ⟨rfl, h2⟩ | ⟨rfl, h2⟩ <;> rw [h1, h2] at he <;> simp at he
    · rw [h1, h2] at he
      simp at he
      exact ⟨by rw [show plainTs [] [] = true by rw [plainTs]]; simp, he⟩
    · rw [h1, h2] at he; simp at he
    · rw [h1, h2] at he; simp at he
    · rw [h1, h2] at he; simp at he
  · rcases let_cases hu with ⟨rfl, rfl, h2⟩ | ⟨rfl, rfl, h2⟩ | ⟨s', hs', ⟨rfl, hl', h2⟩ | ⟨rfl, h2⟩ | ⟨rfl, h2⟩⟩
    · rcases h2 with ⟨rfl, h2⟩ | ⟨rfl, h2⟩ | ⟨rfl, h2⟩ <;> rw [h1, h2] at he <;> simp at he
    · rw [h1, h2] at he; simp at he
    · rw [h1, h2, List.cons_append, List.cons_append, List.cons.injEq] at he
      obtain ⟨p1, p2⟩ := inj_lets ih a' s s' r r' (by omega) hs hs' he.2
      exact ⟨by rw [p1]; simp, p2⟩
    · rw [h1, h2] at he; simp at he
    · rw [h1, h2] at he; simp at he
  · rcases let_cases hu with ⟨rfl, rfl, h2⟩ | ⟨rfl, rfl, h2⟩ | ⟨s', hs', ⟨rfl, hl', h2⟩ | ⟨rfl, h2⟩ | ⟨rfl, h2⟩⟩
    · rcases h2 with ⟨rfl, h2⟩ | ⟨rfl, h2⟩ | ⟨rfl, h2⟩ <;> rw [h1, h2] at he <;> simp at he
    · rw [h1, h2] at he; simp at he
    · rw [h1, h2] at he; simp at he
    · rw [h1, h2, List.cons_append, List.cons_append, List.cons.injEq, List.append_assoc, List.append_assoc] at he
      obtain ⟨q1, q2⟩ := cnt_split he.2
      obtain ⟨p1, p2⟩ := inj_lets ih a' s s' r r' q1 hs hs' q2
      exact ⟨by rw [p1]; simp, p2⟩
    · rw [h1, h2] at he; simp at he
  · rcases let_cases hu with ⟨rfl, rfl, h2⟩ | ⟨rfl, rfl, h2⟩ | ⟨s', hs', ⟨rfl, hl', h2⟩ | ⟨rfl, h2⟩ | ⟨rfl, h2⟩⟩
    · rcases h2 with ⟨rfl, h2⟩ | ⟨rfl, h2⟩ | ⟨rfl, h2⟩ <;> rw [h1, h2] at he <;> simp at he
    · rw [h1, h2] at he; simp at he
    · rw [h1, h2] at he; simp at he
    · rw [h1, h2] at he; simp at he
    · rw [h1, h2, List.cons_append, List.cons_append, List.cons.injEq] at he
      simp only [List.append_assoc] at he
      obtain ⟨q1, q2⟩ := cnt_split he.2
      obtain ⟨q3, q4⟩ := app_len q1 q2
      obtain ⟨q5, q6⟩ := cnt_split q4
      obtain ⟨p1, p2⟩ := inj_lets ih a' s s' r r' q5 hs hs' q6
      exact ⟨by rw [p1, q3]; simp, p2⟩
/-- No two types that have letters have the same ones. -/
theorem letters_same {t u : Ty} (ht : letT t ≠ []) (hu : letT u ≠ []) : decide (letT t = letT u) = plainT t u := by
  cases hp : plainT t u with
  | true => simpa using plain_let t u hp
  | false =>
    rw [decide_eq_false_iff_not]
    intro he
    have := (inj_let t u [] [] ht hu (by rw [he])).1
    rw [hp] at this; cases this
end Go.Proofs.YtfcpblclfgkdjaaGreatDoor.Aw

namespace Go.Proofs.YtfcpblclfgkdjaaGreatDoor.Aw
set_option linter.unusedSimpArgs false
set_option linter.unusedVariables false
open Go.RowKit

def jstep (p : Nat × Nat) (b : UInt8) : Nat × Nat := if b = 95 then (p.1 + 1, max p.2 (p.1 + 1)) else (0, p.2)
/-- The row that a text ends with, the longest row so far. -/
def jrow (l : List UInt8) (p : Nat × Nat) : Nat × Nat := l.foldl jstep p
theorem jrow_app (a b : List UInt8) (p : Nat × Nat) : jrow (a ++ b) p = jrow b (jrow a p) := List.foldl_append ..
theorem jrow_others : ∀ (l : List UInt8) (p : Nat × Nat), l ≠ [] → (∀ b, b ∈ l → b ≠ 95) → jrow l p = (0, p.2)
  | [], _, h, _ => absurd rfl h
  | [b], p, _, hb => by
    have := hb b (by simp)
    simp [jrow, jstep, this]
  | b :: c :: l, p, _, hb => by
    have h1 := hb b (by simp)
    have := jrow_others (c :: l) (0, p.2) (by simp) (fun d hd => hb d (List.mem_cons_of_mem _ hd))
    show jrow (c :: l) (jstep p b) = _
    rw [show jstep p b = (0, p.2) by simp [jstep, h1], this]
/-- So many of the sign from k on. -/
def Win (l : List UInt8) (k n : Nat) : Prop := ∀ i, i < n → l[k + i]? = some 95
theorem Win.le {l : List UInt8} {k n : Nat} (h : Win l k n) (h0 : 0 < n) : k + n ≤ l.length := by
  have := h (n - 1) (by omega)
  have := (List.getElem?_eq_some_iff.1 this).1
  omega
theorem win_snoc {l : List UInt8} {b : UInt8} {k n : Nat} (h : k + n ≤ l.length) : Win (l ++ [b]) k n ↔ Win l k n := by
  unfold Win
  constructor
  · intro h2 i hi
    have := h2 i hi
    rwa [List.getElem?_append_left (by omega)] at this
  · intro h2 i hi
    rw [List.getElem?_append_left (by omega)]; exact h2 i hi
structure JInv (m0 : Nat) (l : List UInt8) (p : Nat × Nat) : Prop where
  le : p.1 ≤ l.length
  row : Win l (l.length - p.1) p.1
  top : ∀ k n, Win l k n → k + n = l.length → n ≤ p.1
  max : ∀ k n, Win l k n → n ≤ p.2 ∨ n = 0
  low : m0 ≤ p.2
  some : p.2 = m0 ∨ ∃ k, Win l k p.2
theorem jinv_nil (m0 : Nat) : JInv m0 [] (0, m0) := by
  refine ⟨by simp, fun i hi => by simp at hi, fun k n h e => ?_, fun k n h => ?_, Nat.le_refl _, .inl rfl⟩
  · simp at e; show n ≤ 0; omega
  · by_cases hn : n = 0
    · exact .inr hn
    · have := h.le (by omega); simp at this; omega
theorem jinv_snoc {m0 : Nat} {l : List UInt8} {p : Nat × Nat} (h : JInv m0 l p) (b : UInt8) : JInv m0 (l ++ [b]) (jstep p b) := by
  obtain ⟨h1, h2, h3, h4, h5, h6⟩ := h
  have hlen : (l ++ [b]).length = l.length + 1 := by simp
  by_cases hb : b = 95
  · subst hb
    have e : jstep p 95 = (p.1 + 1, max p.2 (p.1 + 1)) := by simp [jstep]
    have hrow : Win (l ++ [95]) (l.length - p.1) (p.1 + 1) := fun i hi => by
      by_cases hl : i < p.1
      · rw [List.getElem?_append_left (by omega)]; exact h2 i hl
      · have : l.length - p.1 + i = l.length := by omega
        rw [this, List.getElem?_append_right (Nat.le_refl _), Nat.sub_self]; rfl
    have htop : ∀ k n, Win (l ++ [95]) k n → k + n = l.length + 1 → n ≤ p.1 + 1 := fun k n hw e => by
      by_cases hn : n = 0
      · omega
      · have : Win l k (n - 1) := fun i hi => by
          have := hw i (by omega)
          rwa [List.getElem?_append_left (by omega)] at this
        have := h3 k (n - 1) this (by omega)
        omega
    rw [e]
    refine ⟨by simp; omega, ?_, ?_, ?_, by show m0 ≤ Max.max p.2 (p.1 + 1); omega, ?_⟩
    · show Win _ ((l ++ [95]).length - (p.1 + 1)) (p.1 + 1)
      rw [hlen, show l.length + 1 - (p.1 + 1) = l.length - p.1 by omega]; exact hrow
    · intro k n hw e; rw [hlen] at e; exact htop k n hw e
    · intro k n hw
      show n ≤ Max.max p.2 (p.1 + 1) ∨ n = 0
      by_cases hn : n = 0
      · exact .inr hn
      · have hle := hw.le (by omega)
        rw [hlen] at hle
        by_cases he : k + n = l.length + 1
        · have := htop k n hw he; left; omega
        · rcases h4 k n ((win_snoc (by omega)).1 hw) with h | h
          · left; omega
          · exact .inr h
    · show Max.max p.2 (p.1 + 1) = m0 ∨ ∃ k, Win (l ++ [95]) k (Max.max p.2 (p.1 + 1))
      by_cases hm : p.2 ≤ p.1 + 1
      · rw [Nat.max_eq_right hm]
        exact .inr ⟨_, hrow⟩
      · rw [Nat.max_eq_left (by omega)]
        rcases h6 with h6 | ⟨k, hk⟩
        · exact .inl h6
        · exact .inr ⟨k, (win_snoc (hk.le (by omega))).2 hk⟩
  · have e : jstep p b = (0, p.2) := by simp [jstep, hb]
    have hnot : ∀ k n, Win (l ++ [b]) k n → k + n = l.length + 1 → n = 0 := fun k n hw e => by
      by_cases hn : n = 0
      · exact hn
      · exfalso
        have := hw (n - 1) (by omega)
        rw [show k + (n - 1) = l.length by omega, List.getElem?_append_right (Nat.le_refl _), Nat.sub_self] at this
        exact hb (by simpa using this)
    rw [e]
    refine ⟨by simp, fun i hi => by simp at hi, ?_, ?_, h5, ?_⟩
    · intro k n hw e; rw [hlen] at e
      rw [hnot k n hw e]; exact Nat.zero_le _
    · intro k n hw
      show n ≤ p.2 ∨ n = 0
      by_cases hn : n = 0
      · exact .inr hn
      · have hle := hw.le (by omega)
        rw [hlen] at hle
        by_cases he : k + n = l.length + 1
        · exact absurd (hnot k n hw he) hn
        · exact h4 k n ((win_snoc (by omega)).1 hw)
    · show p.2 = m0 ∨ ∃ k, Win (l ++ [b]) k p.2
      rcases h6 with h6 | ⟨k, hk⟩
      · exact .inl h6
      · by_cases hp : p.2 = 0
        · left; omega
        · exact .inr ⟨k, (win_snoc (hk.le (by omega))).2 hk⟩
theorem jinv_all (m0 : Nat) (l : List UInt8) : JInv m0 l (jrow l (0, m0)) := by
  have : ∀ (n : Nat) (l : List UInt8), l.length = n → JInv m0 l (jrow l (0, m0)) := by
    intro n
    induction n with
    | zero =>
      intro l hl
      obtain rfl := List.eq_nil_of_length_eq_zero hl
      exact jinv_nil m0
    | succ n ih =>
      intro l hl
      have hne : l ≠ [] := fun e => by rw [e] at hl; cases hl
      have hd := List.dropLast_concat_getLast hne
      rw [← hd, jrow_app]
      exact jinv_snoc (ih l.dropLast (by rw [List.length_dropLast]; omega)) _
  exact this _ l rfl

/-- The longest row in any of some, at least m. -/
def jlong (l : List (List UInt8)) (m : Nat) : Nat := l.foldl (fun m s => (jrow s (0, m)).2) m
theorem jlong_app (a b : List (List UInt8)) (m : Nat) : jlong (a ++ b) m = jlong b (jlong a m) := List.foldl_append ..
theorem jlong_le : ∀ (l : List (List UInt8)) (m : Nat), m ≤ jlong l m
  | [], m => Nat.le_refl _
  | s :: l, m => Nat.le_trans (jinv_all m s).low (jlong_le l _)
/-- No row in any of them is longer. -/
theorem jlong_max : ∀ (l : List (List UInt8)) (m : Nat) (s : List UInt8), s ∈ l → ∀ k n, Win s k n → n ≤ jlong l m ∨ n = 0
  | [], _, _, h => by cases h
  | t :: l, m, s, h => by
    intro k n hw
    rcases List.mem_cons.1 h with rfl | h
    · rcases (jinv_all m s).max k n hw with h1 | h1
      · exact .inl (Nat.le_trans h1 (jlong_le l _))
      · exact .inr h1
    · exact jlong_max l _ s h k n hw
/-- It is in one of them, or the least. -/
theorem jlong_some : ∀ (l : List (List UInt8)) (m : Nat), jlong l m = m ∨ ∃ s, s ∈ l ∧ ∃ k, Win s k (jlong l m)
  | [], m => .inl rfl
  | t :: l, m => by
    rcases jlong_some l (jrow t (0, m)).2 with h | ⟨s, hs, k, hk⟩
    · rcases (jinv_all m t).some with h2 | ⟨k, hk⟩
      · exact .inl (by show jlong l _ = m; rw [h, h2])
      · exact .inr ⟨t, by simp, k, by show Win t k (jlong l _); rw [h]; exact hk⟩
    · exact .inr ⟨s, by simp [hs], k, hk⟩

/-- A rune and what follows: no sign of one byte is in the midst of it. -/
theorem rune_whole (l : List UInt8) (k : Nat) (hk : k < l.length) (n : Nat) (hn : (Utf8.decode ⟨l.toArray⟩ k).2 = n) (h128 : 128 ≤ l[k].toNat) : k + n ≤ l.length ∧ ∀ b, b ∈ (l.drop k).take n → b ≠ 95 := by
  have hd := Lib.decode_N ⟨l.toArray⟩ k
  simp only [List.toList_toArray] at hd
  rw [hd] at hn
  obtain ⟨c2, c3, c4, c5⟩ := Lib.decodeN_conts (l.length - k) (l.getD k 0).toNat (l.getD (k + 1) 0).toNat (l.getD (k + 2) 0).toNat (l.getD (k + 3) 0).toNat
  rw [hn] at c2 c3 c4 c5
  have hle : k + n ≤ l.length := by omega
  refine ⟨hle, fun b hb => ?_⟩
  obtain ⟨j, hj, rfl⟩ := List.getElem_of_mem hb
  have hjn : j < n := by simp at hj; omega
  have e : ((l.drop k).take n)[j] = l[k + j]'(by omega) := by simp
  rw [e]
  have hg : ∀ i (h : k + i < l.length), l.getD (k + i) 0 = l[k + i] := fun i h => by rw [List.getD_eq_getElem?_getD, List.getElem?_eq_getElem h]; rfl
  intro h95
  have h95' : (l[k + j]'(by omega)).toNat = 95 := by rw [h95]; rfl
  rcases (show j = 0 ∨ j = 1 ∨ j = 2 ∨ j = 3 by omega) with rfl | rfl | rfl | rfl
  · simp only [Nat.add_zero] at h95'; omega
  · have := (c2 (by omega)).1
    rw [hg 1 (by omega)] at this; omega
  · have := (c3 (by omega)).1
    rw [hg 2 (by omega)] at this; omega
  · have := (c4 (by omega)).1
    rw [hg 3 (by omega)] at this; omega
end Go.Proofs.YtfcpblclfgkdjaaGreatDoor.Aw

namespace Go.Proofs.YtfcpblclfgkdjaaGreatDoor.Aw
set_option linter.unusedSimpArgs false
set_option linter.unusedVariables false
open Go.RowKit

/-- What a type's own parts must be to be a Go value. -/
def Fity (t : Ty) (c : Nat) : Prop :=
  (-9223372036854775808 ≤ t.kind ∧ t.kind ≤ 9223372036854775807) ∧ t.name.length ≤ 140737488351232 ∧ t.args.length ≤ c ∧ c ≤ 9223372036854775807 ∧ t.args.length * 48 ≤ 140737488351232

/-- The three cells of one, from an offset on. -/
def TThree (w : World) (b off : Nat) (t : Ty) (a : Option Addr) (c : Nat) : Prop :=
  w.cell? ⟨b, off, none⟩ = some (.int .i64 t.kind) ∧ w.cell? ⟨b, off + 1, none⟩ = some (.string ⟨t.name.toArray⟩) ∧
  w.cell? ⟨b, off + 2, none⟩ = some (.slice a t.args.length c)

mutual
def TyIn (w : World) (Zo : Nat → Prop) : Ty → Option Addr → Prop
  | .mk _ _ args, a => TidsFrom w Zo args a 0
def TidsFrom (w : World) (Zo : Nat → Prop) : List Ty → Option Addr → Nat → Prop
  | [], _, _ => True
  | t :: ts, a, i => (∃ b off a' c', a = some ⟨b, off, none⟩ ∧ Zo b ∧ TThree w b (off + i * 3) t a' c' ∧ Fity t c' ∧ TyIn w Zo t a') ∧ TidsFrom w Zo ts a (i + 1)
end

/-- The slice that begins at a holds these, all of whose memory lies in the zone. -/
def Tids (w : World) (Zo : Nat → Prop) (a : Option Addr) (l : List Ty) : Prop := TidsFrom w Zo l a 0

theorem tyIn_iff (w : World) (Zo : Nat → Prop) (t : Ty) (a : Option Addr) : TyIn w Zo t a ↔ Tids w Zo a t.args := by
  cases t; simp [TyIn, Tids]

theorem tidsFrom_iff (w : World) (Zo : Nat → Prop) (a : Option Addr) : ∀ (l : List Ty) (i : Nat), TidsFrom w Zo l a i ↔
    ∀ j (h : j < l.length), ∃ b off a' c', a = some ⟨b, off, none⟩ ∧ Zo b ∧ TThree w b (off + (i + j) * 3) l[j] a' c' ∧ Fity l[j] c' ∧ Tids w Zo a' l[j].args
  | [], i => by simp [TidsFrom]
  | t :: ts, i => by
    rw [TidsFrom, tidsFrom_iff w Zo a ts (i + 1)]
    constructor
    · rintro ⟨⟨b, off, a', c', ha, hb, h4, hf, hn⟩, h⟩ j hj
      cases j with
      | zero => exact ⟨b, off, a', c', ha, hb, by simpa using h4, by simpa using hf, by simpa using (tyIn_iff w Zo t a').1 hn⟩
      | succ j =>
        obtain ⟨b, off, a', c', ha, hb, h4, hf, hn⟩ := h j (by simpa using hj)
        exact ⟨b, off, a', c', ha, hb, by simpa [Nat.add_assoc, Nat.add_comm 1 j] using h4, by simpa using hf, by simpa using hn⟩
    · intro h
      refine ⟨?_, fun j hj => ?_⟩
      · obtain ⟨b, off, a', c', ha, hb, h4, hf, hn⟩ := h 0 (by simp)
        exact ⟨b, off, a', c', ha, hb, by simpa using h4, by simpa using hf, (tyIn_iff w Zo t a').2 (by simpa using hn)⟩
      · obtain ⟨b, off, a', c', ha, hb, h4, hf, hn⟩ := h (j + 1) (by simpa using hj)
        exact ⟨b, off, a', c', ha, hb, by simpa [Nat.add_assoc, Nat.add_comm 1 j] using h4, by simpa using hf, by simpa using hn⟩

theorem tids_iff {w : World} {Zo : Nat → Prop} {a : Option Addr} {l : List Ty} : Tids w Zo a l ↔
    ∀ j (h : j < l.length), ∃ b off a' c', a = some ⟨b, off, none⟩ ∧ Zo b ∧ TThree w b (off + j * 3) l[j] a' c' ∧ Fity l[j] c' ∧ Tids w Zo a' l[j].args := by
  unfold Tids
  rw [tidsFrom_iff]
  simp [Tids]

theorem Tids.nil (w : World) (Zo : Nat → Prop) (a : Option Addr) : Tids w Zo a [] := by simp [Tids, TidsFrom]

theorem Tids.get {w : World} {Zo : Nat → Prop} {a : Option Addr} {l : List Ty} (h : Tids w Zo a l) {j : Nat} (hj : j < l.length) :
    ∃ b off a' c', a = some ⟨b, off, none⟩ ∧ Zo b ∧ TThree w b (off + j * 3) l[j] a' c' ∧ Fity l[j] c' ∧ Tids w Zo a' l[j].args := tids_iff.1 h j hj

/-- Cells of the zone that are kept, in a zone that holds it. -/
theorem Tids.moveAll {w w' : World} {Zo Zo' : Nat → Prop} (hZ : ∀ b, Zo b → Zo' b) (hk : ∀ (p : Addr) u, Zo p.block → w.cell? p = some u → w'.cell? p = some u) :
    ∀ (t : Ty) (a : Option Addr), Tids w Zo a t.args → Tids w' Zo' a t.args := by
  refine Ty.ind (fun t ih a h => ?_)
  rw [tids_iff] at h ⊢
  intro j hj
  obtain ⟨b, off, a', c', ha, hb, ⟨h0, h1, h2⟩, hf, hn⟩ := h j hj
  exact ⟨b, off, a', c', ha, hZ b hb, ⟨hk _ _ hb h0, hk _ _ hb h1, hk _ _ hb h2⟩, hf, ih _ (List.getElem_mem hj) a' hn⟩
theorem Tids.move {w w' : World} {Zo Zo' : Nat → Prop} {a : Option Addr} {l : List Ty} (h : Tids w Zo a l) (hZ : ∀ b, Zo b → Zo' b) (hk : ∀ (p : Addr) u, Zo p.block → w.cell? p = some u → w'.cell? p = some u) : Tids w' Zo' a l :=
  Tids.moveAll hZ hk (.mk 0 [] l) a h
/-- All that lies. -/
def Any (_ : Nat) : Prop := True
theorem cell_lt1 {w : World} {p : Addr} {v : Value} (h : w.cell? p = some v) : p.block < w.heap.size := by
  unfold World.cell? at h
  rcases Nat.lt_or_ge p.block w.heap.size with hl | hl
  · exact hl
  · simp only [Array.getElem?_eq_none hl] at h
    cases h
/-- From one world on into a later one that has kept all that lay. -/
theorem Tids.on {w w' : World} {Zo : Nat → Prop} {a : Option Addr} {l : List Ty} (h : Tids w Zo a l) (hb : Below w.heap.size w w') : Tids w' Zo a l :=
  h.move (fun _ h => h) (fun p u _ hu => (hb.cell (cell_lt1 hu)).trans hu)
theorem Tids.any {w : World} {Zo : Nat → Prop} {a : Option Addr} {l : List Ty} (h : Tids w Zo a l) : Tids w Any a l := h.move (fun _ _ => trivial) (fun _ _ _ hu => hu)
end Go.Proofs.YtfcpblclfgkdjaaGreatDoor.Aw

namespace Go.Proofs.YtfcpblclfgkdjaaGreatDoor.Aw
set_option linter.unusedSimpArgs false
set_option linter.unusedVariables false
open Go.RowKit

/-- The texts that a slice holds. -/
def Strs (w : World) (a : Option Addr) (l : List (List UInt8)) : Prop := ∀ j (h : j < l.length), ∃ b off, a = some ⟨b, off, none⟩ ∧ w.cell? ⟨b, off + j, none⟩ = some (.string ⟨l[j].toArray⟩)
theorem Strs.on {w w' : World} {a : Option Addr} {l : List (List UInt8)} (h : Strs w a l) (hb : Below w.heap.size w w') : Strs w' a l := fun j hj => by
  obtain ⟨b, off, ha, hc⟩ := h j hj
  exact ⟨b, off, ha, (hb.cell (cell_lt1 hc)).trans hc⟩
theorem Strs.nil (w : World) (a : Option Addr) : Strs w a [] := fun j hj => by simp at hj

/-- Where the ranging has come to k: the row, the longest one. -/
structure JAt (s : List UInt8) (m0 k row long : Nat) : Prop where
  row : (jrow (s.take k) (0, m0)).1 = row
  long : (jrow (s.take k) (0, m0)).2 = long
theorem jat_zero (s : List UInt8) (m0 : Nat) : JAt s m0 0 0 m0 := ⟨rfl, rfl⟩
theorem JAt.le {s : List UInt8} {m0 k row long : Nat} (h : JAt s m0 k row long) : row ≤ s.length ∧ (long = m0 ∨ long ≤ s.length) := by
  have hj := jinv_all m0 (s.take k)
  rw [← h.row, ← h.long]
  have hl : (s.take k).length ≤ s.length := by simp; omega
  refine ⟨Nat.le_trans hj.le hl, ?_⟩
  rcases hj.some with h1 | ⟨i, hi⟩
  · exact .inl h1
  · right
    by_cases h0 : (jrow (s.take k) (0, m0)).2 = 0
    · omega
    · have := hi.le (by omega)
      omega
theorem JAt.sign {s : List UInt8} {m0 k row long : Nat} (h : JAt s m0 k row long) (hk : k < s.length) (hc : s[k] = 95) : JAt s m0 (k + 1) (row + 1) (Max.max long (row + 1)) := by
  have e : jrow (s.take (k + 1)) (0, m0) = jstep (jrow (s.take k) (0, m0)) 95 := by
    rw [List.take_succ_eq_append_getElem hk, jrow_app, hc]; rfl
  refine ⟨?_, ?_⟩ <;> rw [e, jstep, if_pos rfl]
  · show _ + 1 = _; rw [h.row]
  · show Max.max _ (_ + 1) = _; rw [h.row, h.long]
theorem JAt.other {s : List UInt8} {m0 k n row long : Nat} (h : JAt s m0 k row long) (hk : k < s.length) (h1 : 1 ≤ n) (hn : (Utf8.decode ⟨s.toArray⟩ k).2 = n) (hc : s[k] ≠ 95)
    (hr : (s[k].toNat < 128 ∧ n = 1) ∨ 128 ≤ s[k].toNat) : JAt s m0 (k + n) 0 long ∧ k + n ≤ s.length := by
  have hw : k + n ≤ s.length ∧ ∀ b, b ∈ (s.drop k).take n → b ≠ 95 := by
    rcases hr with ⟨_, rfl⟩ | hr
    · refine ⟨by omega, fun b hb => ?_⟩
      rw [List.drop_eq_getElem_cons hk] at hb
      simp only [List.take_succ_cons, List.take_zero, List.mem_singleton] at hb
      subst hb; exact hc
    · exact rune_whole s k hk n hn hr
  have hne : (s.drop k).take n ≠ [] := fun e => by
    have := congrArg List.length e
    simp at this
    omega
  have e : jrow (s.take (k + n)) (0, m0) = (0, (jrow (s.take k) (0, m0)).2) := by
    rw [List.take_add, jrow_app, jrow_others _ _ hne hw.2]
  refine ⟨⟨by rw [e], by rw [e]; exact h.long⟩, hw.1⟩
theorem JAt.last {s : List UInt8} {m0 row long : Nat} (h : JAt s m0 s.length row long) : (jrow s (0, m0)).2 = long := by
  have := h.long
  rwa [List.take_length] at this
theorem jlong_take {l : List (List UInt8)} {k : Nat} (hk : k < l.length) (m : Nat) : jlong (l.take (k + 1)) m = (jrow l[k] (0, jlong (l.take k) m)).2 := by
  rw [List.take_succ_eq_append_getElem hk, jlong_app]; rfl
theorem repeat_eq (b : UInt8) : ∀ n, Lib.repeatL [b] n = List.replicate n b
  | 0 => rfl
  | n + 1 => by rw [Lib.repeatL, repeat_eq b n]; rfl

theorem max_int (a b : Nat) : Value.int .i64 (max (a : Int) ((b : Int) + 1)) = .int .i64 ((Max.max a (b + 1) : Nat) : Int) := by
  congr 1; omega

set_option maxHeartbeats 4000000 in
theorem joint_any (l : List (List UInt8)) (a : Option Addr) (c : Nat) (w : World) (hs : Strs w a l) (hl : l.length ≤ 9223372036854775807) (hm : ∀ s ∈ l, s.length ≤ 140737488351232) :
    Calls Tryz.prog 25 #[.slice a l.length c] w fun e w' => e = .returned (.string ⟨(List.replicate (jlong l 1 + 1) 95).toArray⟩) ∧ Below w.heap.size w w' := by
  have HM := Lib.hid hm
  clear hm
  go_enter Tryz.func25, Tryz.ntmps25
  go_wp2_with fail
  go_loopw [3, 11] (fun m i wr => ∃ k long : Nat, k ≤ l.length ∧ i = .int .i64 k ∧ m = .int .i64 long ∧ long ≤ 140737488351232 ∧ Hid (jlong (l.take k) 1 = long) ∧ Hid (Below w.heap.size w wr)) (fun _ i _ => l.length - (intOf i).toNat)
  case atStart => exact ⟨0, 1, by omega, rfl, rfl, by omega, Lib.hid rfl, Lib.hid (Below.refl _ _)⟩
  case round =>
    obtain ⟨k, long, hk, rfl, rfl, hlo, HJ, HB⟩ := hrel
    by_cases hlt : k < l.length
    · obtain ⟨b, off, ha, hc⟩ := (hs.on HB.out) k hlt
      subst ha
      have hsl := HM.out _ (List.getElem_mem hlt)
      have HT := Lib.hid (jlong_take hlt 1)
      obtain ⟨s, hs2⟩ : ∃ s, l[k] = s := ⟨_, rfl⟩
      rw [hs2] at hc hsl HT
      clear hs2
      go_wp2_with fail
      go_loopw [3, 6] (fun m r wi => ∃ j row lo : Nat, j ≤ s.length ∧ r = .int .i64 row ∧ m = .int .i64 lo ∧ wi = wr.iter ⟨s.toArray⟩ j ∧ row ≤ 140737488351232 ∧ lo ≤ 140737488351232 ∧ Hid (JAt s long j row lo)) (fun _ _ wi => s.length - wi.iterPos wr.heap.size)
      case atStart => exact ⟨0, 0, long, by omega, rfl, rfl, rfl, by omega, by omega, Lib.hid (jat_zero s long)⟩
      case round =>
        obtain ⟨j, row, lo, hj, rfl, rfl, rfl, hrow, hlo2, HA⟩ := hrel
        by_cases hjl : j < s.length
        · obtain ⟨r, n, hd, hn, hr, hc2⟩ := rune_at s j hjl
          have hnx : ∀ ty, (Instr.next (.pointer (some ⟨wr.heap.size, 0, none⟩)) true ty).run Tryz.prog (wr.iter ⟨s.toArray⟩ j) = _ := fun ty => next_at wr s j hjl r n hd ty
          by_cases h95 : s[j] = 95
          · have h5 : (s[j]).toNat = 95 := by rw [h95]; rfl
            obtain ⟨rfl, rfl⟩ : r = 95 ∧ n = 1 := by omega
            have HA2 := Lib.hid (HA.out.sign hjl h95)
            have HL := Lib.hid HA2.out.le
            clear hd hc2 h95 h5
            go_wp2_with fail
            go_roundw
            case rel => exact ⟨j + 1, row + 1, _, by omega, rfl, max_int lo row, rfl, by have := HL.out; omega, by have := HL.out; omega, HA2⟩
            case measure => simp; omega
          · have h5 : r ≠ 95 := by
              intro e
              rcases hc2 with ⟨_, e2, _⟩ | ⟨_, e2⟩
              · exact h95 (UInt8.toNat_inj.1 (by rw [← e2, e]; rfl))
              · omega
            have h6 : ((r : Int) != 95) = true := by simp; omega
            obtain ⟨hA2, hle⟩ := HA.out.other hjl hn (by rw [hd]) h95 (by omega)
            have HA2 := Lib.hid hA2
            clear hd hc2 h95 h5 hA2
            go_wp2_with fail
            go_roundw
            case rel => exact ⟨j + n, 0, lo, by omega, rfl, rfl, rfl, by omega, by omega, HA2⟩
            case measure => simp; omega
        · have hnx : ∀ ty, (Instr.next (.pointer (some ⟨wr.heap.size, 0, none⟩)) true ty).run Tryz.prog (wr.iter ⟨s.toArray⟩ j) = _ := fun ty => next_out wr s j hjl ty
          obtain rfl : j = s.length := by omega
          have HE := Lib.hid HA.out.last
          have HB2 := Lib.hid (bext HB.out (below_iter wr ⟨s.toArray⟩ s.length))
          go_wp2_with fail
          go_roundw
          case rel => exact ⟨k + 1, lo, by omega, by go_num, rfl, by omega, Lib.hid (by rw [HT.out, HJ.out]; exact HE.out), HB2⟩
          case measure => simp [intOf]; omega
    · obtain rfl : k = l.length := by omega
      rw [List.take_length] at HJ
      have HR := Lib.hid fun W => Tryz.strings_Repeat ⟨#[95]⟩ (long + 1) W (by omega) (by simp [ByteArray.size]; omega)
      go_wp2_with fail
      refine (HR.out _).mono ?_
      rintro e w' ⟨rfl, hb⟩
      have HB2 := Lib.hid (bext HB.out hb)
      clear hb
      go_wp2_with fail
      go_ret
      refine ⟨?_, HB2.out⟩
      rw [HJ.out, ← repeat_eq]
      rfl
end Go.Proofs.YtfcpblclfgkdjaaGreatDoor.Aw

namespace Go.Proofs.YtfcpblclfgkdjaaGreatDoor.Aw
set_option linter.unusedSimpArgs false
set_option linter.unusedVariables false
open Go.RowKit

/-- The table of powers of ten lies as it was laid. -/
def Tab (w : World) : Prop := Lib.TabIs Tryz.prog w "internal/strconv.uint64pow10" .u64 Lib.pow10Tab
theorem var_on {P : Program} {w w' : World} {name : String} {cs : Array Value} (h : w.var? P name = some cs) (hb : Below w.heap.size w w') : w'.var? P name = some cs := by
  unfold World.var? at h ⊢
  cases hg : P.globalNamed name with
  | none => rw [hg] at h; cases h
  | some g =>
    rw [hg] at h
    simp only [Option.bind_some] at h ⊢
    cases hx : w.heap[g]? with
    | none => rw [hx] at h; cases h
    | some o =>
      rw [hb.block g (Array.getElem?_eq_some_iff.1 hx).1, hx]
      rw [hx] at h
      exact h
theorem Tab.on {w w' : World} (h : Tab w) (hb : Below w.heap.size w w') : Tab w' := var_on h hb
theorem itoa_any (n : Nat) (w : World) (h1 : n ≤ 9223372036854775807) (ht : Tab w) :
    Calls Tryz.prog 67 #[.int .i64 n] w fun e w' => e = .returned (.string ⟨(Lib.decDigits n).toArray⟩) ∧ Below w.heap.size w w' :=
  (Tryz.strconv_Itoa n (by omega) (by omega) w ht).mono fun e w' ⟨he, k, os, hw⟩ => ⟨by rw [he, Lib.itoa_nonneg], by rw [hw]; exact Lib.below_grow _ w (Nat.le_refl _) k os⟩

mutual
/-- More than the letters of a type. -/
def tyLen : Ty → Nat
  | .mk _ nm l => 100 + nm.length + tysLen l
def tysLen : List Ty → Nat
  | [] => 0
  | x :: l => tyLen x + tysLen l
end
theorem tyLen_eq (t : Ty) : tyLen t = 100 + t.name.length + tysLen t.args := by cases t; rw [tyLen]; rfl
theorem tysLen_app : ∀ (l r : List Ty), tysLen (l ++ r) = tysLen l + tysLen r
  | [], r => by simp [tysLen]
  | x :: l, r => by simp [tysLen, tysLen_app l r, Nat.add_assoc]
theorem tysLen_mem : ∀ {l : List Ty} {x : Ty}, x ∈ l → tyLen x ≤ tysLen l
  | [], x, h => by cases h
  | y :: l, x, h => by
    rw [tysLen]
    rcases List.mem_cons.1 h with rfl | h
    · omega
    · have := tysLen_mem h; omega
theorem tys_len : ∀ (l : List Ty), l.length ≤ tysLen l
  | [] => by simp
  | x :: l => by have := tys_len l; have := tyLen_eq x; rw [tysLen]; simp; omega
theorem cnt_len {n : Nat} (h : n ≤ 9223372036854775807) : (cnt n).length ≤ 21 := by
  have := dec_len_le (n := n) (k := 20) (Nat.lt_of_le_of_lt h (by decide +kernel)) (by omega)
  simp [cnt]; omega
theorem lets_len {l : List Ty} (h : ∀ t, t ∈ l → (letT t).length ≤ tyLen t) : ∀ s, letsT l = some s → s.length ≤ tysLen l := by
  induction l with
  | nil => intro s hs; rw [letsT] at hs; cases hs; simp
  | cons x l ih =>
    intro s hs
    rw [letsT_cons] at hs
    by_cases hx : letT x = []
    · rw [if_pos hx] at hs; cases hs
    · rw [if_neg hx] at hs
      cases e : letsT l with
      | none => rw [e] at hs; cases hs
      | some s2 =>
        rw [e] at hs
        cases hs
        have h1 := ih (fun t ht => h t (List.mem_cons_of_mem _ ht)) s2 e
        have h2 := h x (by simp)
        rw [tysLen, List.length_append]
        omega
theorem let_len : ∀ t : Ty, tyLen t ≤ 9223372036854775807 → (letT t).length ≤ tyLen t := by
  refine Ty.ind (fun t ih => ?_)
  intro hb
  obtain ⟨k, nm, l⟩ := t
  by_cases h0 : letT (.mk k nm l) = []
  · rw [h0]; exact Nat.zero_le _
  have he : tyLen (.mk k nm l) = 100 + nm.length + tysLen l := by rw [tyLen]
  simp only [Ty.args_mk] at ih
  have hl := tys_len l
  have c1 := cnt_len (n := l.length) (by omega)
  have c2 := cnt_len (n := nm.length) (by omega)
  rcases let_cases h0 with ⟨_, _, ⟨_, h1⟩ | ⟨_, h1⟩ | ⟨_, h1⟩⟩ | ⟨_, _, h1⟩ | ⟨s, hs, ⟨_, _, h1⟩ | ⟨_, h1⟩ | ⟨_, h1⟩⟩
  · rw [h1, he]; simp; omega
  · rw [h1, he]; simp; omega
  · rw [h1, he]; simp; omega
  · rw [h1, he]; simp; omega
  all_goals
    have hx := lets_len (fun t ht => ih t ht (by have := tysLen_mem ht; omega)) s hs
    rw [h1, he]; simp only [List.length_cons, List.length_append]; omega

/-- The letters of the first ones. -/
theorem lets_snoc (x : Ty) : ∀ l : List Ty, letsT (l ++ [x]) = match letsT l with | none => none | some s => if letT x = [] then none else some (s ++ letT x)
  | [] => by
    rw [List.nil_append, letsT_cons, letsT]
    by_cases h : letT x = [] <;> simp [h]
  | y :: l => by
    rw [List.cons_append, letsT_cons, letsT_cons, lets_snoc x l]
    by_cases h : letT y = []
    · simp [h]
    · rw [if_neg h, if_neg h]
      cases letsT l with
      | none => rfl
      | some s => by_cases hx : letT x = [] <;> simp [hx]
theorem lets_none {l r : List Ty} (h : letsT l = none) : letsT (l ++ r) = none := by
  induction r generalizing l with
  | nil => simpa using h
  | cons x r ih =>
    rw [show l ++ x :: r = (l ++ [x]) ++ r by simp]
    exact ih (by rw [lets_snoc, h])
/-- What row hands back. -/
def rowR (l : List Ty) : List UInt8 × Bool := match letsT l with | none => ([], false) | some s => (cnt l.length ++ s, true)

def jointedB (l : List UInt8) : Bool := decide (1 < l.length) && (Lib.trimB l 95).isEmpty
theorem jointed_any (l : List UInt8) (w : World) (hl : l.length ≤ 9223372036854775807) :
    Calls Tryz.prog 47 #[.string ⟨l.toArray⟩] w fun e w' => e = .returned (.bool (jointedB l)) ∧ Below w.heap.size w w' := by
  by_cases h1 : 1 < l.length
  · have HT := Lib.hid fun W => Tryz.strings_Trim_one ⟨l.toArray⟩ 95 (by decide) W (by simpa [ByteArray.size] using hl)
    have hj : jointedB l = (Lib.trimB l 95).isEmpty := by rw [jointedB, decide_eq_true h1, Bool.true_and]
    obtain ⟨T, hT⟩ : ∃ T, Lib.trimB l 95 = T := ⟨_, rfl⟩
    simp only [List.toList_toArray] at HT
    rw [hT] at HT hj
    have HJ := Lib.hid hj
    have h1' : (1 : Int) < l.length := by omega
    clear hT hj
    cases e : T.isEmpty with
    | true =>
      obtain rfl : T = [] := by simpa using e
      go_enter Tryz.func47, Tryz.ntmps47
      go_wp2_with fail
      refine (HT.out _).mono ?_
      rintro e2 w' ⟨rfl, hw⟩
      have hb : Below w.heap.size w w' := by
        rcases hw with rfl | rfl
        · exact Below.refl _ _
        · exact (Below.refl _ _).drew
      have HB := Lib.hid hb
      clear hw hb
      go_wp2_with fail
      go_ret
      exact ⟨ret_bool (by rw [HJ.out]; rfl), HB.out⟩
    | false =>
      have hne : ((⟨T.toArray⟩ : ByteArray) == ⟨#[]⟩) = false := by
        cases T with
        | nil => simp at e
        | cons x r => rfl
      go_enter Tryz.func47, Tryz.ntmps47
      go_wp2_with fail
      refine (HT.out _).mono ?_
      rintro e2 w' ⟨rfl, hw⟩
      have hb : Below w.heap.size w w' := by
        rcases hw with rfl | rfl
        · exact Below.refl _ _
        · exact (Below.refl _ _).drew
      have HB := Lib.hid hb
      clear hw hb
      go_wp2_with fail
      go_ret
      exact ⟨ret_bool (by rw [HJ.out, e]), HB.out⟩
  · have h1' : ¬ (1 : Int) < l.length := by omega
    go_enter Tryz.func47, Tryz.ntmps47
    go_wp2_with fail
    go_ret
    exact ⟨ret_bool (by rw [jointedB, decide_eq_false h1, Bool.false_and]), Below.refl _ _⟩
end Go.Proofs.YtfcpblclfgkdjaaGreatDoor.Aw

namespace Go.Proofs.YtfcpblclfgkdjaaGreatDoor.Aw
set_option linter.unusedSimpArgs false
set_option linter.unusedVariables false
open Go.RowKit

theorem ncat (a b : List UInt8) : (⟨a.toArray⟩ : ByteArray) ++ ⟨b.toArray⟩ = ⟨(a ++ b).toArray⟩ := by simp [ByteArray.ext_iff]
/-- Letters of a type, as it lies. -/
def LetOk (t : Ty) : Prop := ∀ (a : Option Addr) (c : Nat) (w : World), Tab w → Tids w Any a t.args → Fity t c → tyLen t ≤ 1000000000000000000 →
    Calls Tryz.prog 48 #[.agg #[.int .i64 t.kind, .string ⟨t.name.toArray⟩, .slice a t.args.length c]] w fun e w' => e = .returned (.string ⟨(letT t).toArray⟩) ∧ Below w.heap.size w w'

def RowAt (l : List Ty) (n k : Nat) (O : List UInt8) : Prop := ∃ s, letsT (l.take k) = some s ∧ O = cnt n ++ s ∧ s.length ≤ tysLen l
theorem rowAt_next {l : List Ty} {n k : Nat} {O : List UInt8} (h : RowAt l n k O) (hk : k < l.length) (hx : letT l[k] ≠ []) (hb : tysLen l ≤ 1000000000000000000) : RowAt l n (k + 1) (O ++ letT l[k]) := by
  obtain ⟨s, h1, rfl, h3⟩ := h
  have e : letsT (l.take (k + 1)) = some (s ++ letT l[k]) := by
    rw [List.take_succ_eq_append_getElem hk, lets_snoc, h1]; simp [hx]
  refine ⟨s ++ letT l[k], e, by simp, ?_⟩
  have hle : tysLen (l.take (k + 1)) ≤ tysLen l := by
    have := tysLen_app (l.take (k + 1)) (l.drop (k + 1))
    rw [List.take_append_drop] at this; omega
  have := lets_len (l := l.take (k + 1)) (fun t ht => let_len t (by have := tysLen_mem (List.mem_of_mem_take ht); omega)) _ e
  omega
theorem rowAt_len {l : List Ty} {n k : Nat} {O : List UInt8} (h : RowAt l n k O) (hn : n ≤ 9223372036854775807) (hb : tysLen l ≤ 1000000000000000000) : O.length ≤ 1000000000000000021 := by
  obtain ⟨s, _, rfl, h3⟩ := h
  have := cnt_len hn
  rw [List.length_append]; omega
theorem rowAt_no {l : List Ty} {n k : Nat} {O : List UInt8} (h : RowAt l n k O) (hk : k < l.length) (hx : letT l[k] = []) : letsT l = none := by
  obtain ⟨s, h1, _, _⟩ := h
  have e : letsT (l.take (k + 1)) = none := by
    rw [List.take_succ_eq_append_getElem hk, lets_snoc, h1]; simp [hx]
  have := lets_none (r := l.drop (k + 1)) e
  rwa [List.take_append_drop] at this
theorem rowAt_end {l : List Ty} {O : List UInt8} (h : RowAt l l.length l.length O) : rowR l = (O, true) := by
  obtain ⟨s, h1, rfl, _⟩ := h
  rw [List.take_length] at h1
  rw [rowR, h1]

set_option maxHeartbeats 4000000 in
theorem row_any (l : List Ty) (a : Option Addr) (c : Nat) (w : World) (hT : Tab w) (hk : Tids w Any a l) (hl : l.length ≤ 9223372036854775807) (hb : tysLen l ≤ 1000000000000000000) (ih : ∀ t, t ∈ l → LetOk t) :
    Calls Tryz.prog 65 #[.slice a l.length c] w fun e w' => e = .returned (.tuple #[.string ⟨(rowR l).1.toArray⟩, .bool (rowR l).2]) ∧ Below w.heap.size w w' := by
  have HK := Lib.hid hk
  have HT := Lib.hid hT
  have HI := Lib.hid ih
  have hi := itoa_any l.length w hl hT
  have HC1 : (⟨(Lib.decDigits l.length).toArray⟩ : ByteArray) ++ ⟨#[120]⟩ = ⟨(cnt l.length).toArray⟩ := ncat _ [120]
  have hD2 : (Lib.decDigits l.length).length ≤ 20 := by
    have := cnt_len hl
    simp [cnt] at this; omega
  have HR0 := Lib.hid (show RowAt l l.length 0 (cnt l.length) from ⟨[], by rw [List.take_zero, letsT], by simp, by simp⟩)
  obtain ⟨D, hD⟩ : ∃ D, Lib.decDigits l.length = D := ⟨_, rfl⟩
  rw [hD] at hi HC1 hD2
  obtain ⟨C0, hC0⟩ : ∃ C0, cnt l.length = C0 := ⟨_, rfl⟩
  rw [hC0] at HC1 HR0
  have HIT := Lib.hid hi
  have hDs : D.length + 1 ≤ 9223372036854775807 := by omega
  clear hk hT ih hi hD hC0
  go_enter Tryz.func65, Tryz.ntmps65
  go_wp2_with fail
  refine HIT.out.mono ?_
  rintro e w1 ⟨rfl, hb1⟩
  have HB1 := Lib.hid hb1
  clear hb1
  go_wp2_with fail
  go_loopw [4, 14] (fun o i wr => ∃ (k : Nat) (O : List UInt8), k ≤ l.length ∧ i = .int .i64 k ∧ o = .string ⟨O.toArray⟩ ∧ Hid (RowAt l l.length k O) ∧ Hid (Below w.heap.size w wr)) (fun _ i _ => l.length - (intOf i).toNat)
  case atStart => exact ⟨0, C0, by omega, rfl, rfl, HR0, HB1⟩
  case round =>
    obtain ⟨k, O, hk, rfl, rfl, HR, HB⟩ := hrel
    by_cases hlt : k < l.length
    · obtain ⟨b, off, a', c', ha, -, ⟨h0, h1, h2⟩, hf, hn⟩ := (HK.out.on HB.out).get hlt
      subst ha
      have hO := rowAt_len HR.out hl hb
      have hmem : tyLen l[k] ≤ 1000000000000000000 := by have := tysLen_mem (List.getElem_mem hlt); omega
      have hX := let_len l[k] (by omega)
      have HC := HI.out _ (List.getElem_mem hlt)
      have HNO := Lib.hid (fun h => rowAt_no HR.out hlt h)
      have HNX := Lib.hid (fun h => rowAt_next HR.out hlt h hb)
      have HA := Lib.hid (fun o => HC a' c' (wr.alloc o) (HT.out.on (bext HB.out (below_alloc wr o))) (hn.on (below_alloc wr o)) hf hmem)
      have hOX : O.length + (letT l[k]).length ≤ 9223372036854775807 := by omega
      obtain ⟨X, hX2⟩ : ∃ X, letT l[k] = X := ⟨_, rfl⟩
      rw [hX2] at HA HNO HNX hX hOX
      have HOX := ncat O X
      clear HC hX2 hf hn hX hmem
      go_wp2_with fail
      refine (HA.out _).mono ?_
      rintro e w2 ⟨rfl, hb2⟩
      have HB2 := Lib.hid (bext HB.out (bext (below_alloc wr _) hb2))
      clear hb2 HA
      by_cases hXe : X = []
      · have hr : rowR l = ([], false) := by rw [rowR, HNO.out hXe]
        have HRR := Lib.hid hr
        subst hXe
        clear hr
        go_wp2_with fail
        go_ret2
        exact ⟨by rw [HRR.out]; rfl, HB2.out⟩
      · have hne : X.isEmpty = false := by
          cases X with
          | nil => exact absurd rfl hXe
          | cons x r => rfl
        have HN := Lib.hid (HNX.out hXe)
        clear hXe
        go_wp2_with fail
        go_roundw
        case rel => exact ⟨k + 1, O ++ X, by omega, by go_num, by rw [← HOX], HN, HB2⟩
        case measure => simp [intOf]; omega
    · obtain rfl : k = l.length := by omega
      have HRR := Lib.hid (rowAt_end HR.out)
      go_wp2_with fail
      go_ret2
      exact ⟨by rw [HRR.out]; rfl, HB.out⟩
end Go.Proofs.YtfcpblclfgkdjaaGreatDoor.Aw

namespace Go.Proofs.YtfcpblclfgkdjaaGreatDoor.Aw
set_option linter.unusedSimpArgs false
set_option linter.unusedVariables false
open Go.RowKit Go.Maps

theorem three_on {w w' : World} {b : Nat} {u0 u1 u2 : Value} (hb : Below w.heap.size w w') (h0 : w.cell? ⟨b, 0, none⟩ = some u0) (h1 : w.cell? ⟨b, 1, none⟩ = some u1) (h2 : w.cell? ⟨b, 2, none⟩ = some u2) :
    w'.cell? ⟨b, 0, none⟩ = some u0 ∧ w'.cell? ⟨b, 1, none⟩ = some u1 ∧ w'.cell? ⟨b, 2, none⟩ = some u2 :=
  ⟨(hb.cell (cell_lt1 h0)).trans h0, (hb.cell (cell_lt1 h1)).trans h1, (hb.cell (cell_lt1 h2)).trans h2⟩
/-- A type laid into a new block. -/
theorem laidT (w : World) (t : Ty) (a : Option Addr) (c : Nat) (i : TypeId) : ∃ wa, w.alloc (.cells #[.int .i64 t.kind, .string ⟨t.name.toArray⟩, .slice a t.args.length c] i) = wa ∧ Below w.heap.size w wa ∧
    wa.cell? ⟨w.heap.size, 0, none⟩ = some (.int .i64 t.kind) ∧ wa.cell? ⟨w.heap.size, 1, none⟩ = some (.string ⟨t.name.toArray⟩) ∧ wa.cell? ⟨w.heap.size, 2, none⟩ = some (.slice a t.args.length c) ∧ wa.heap.size = w.heap.size + 1 :=
  ⟨_, rfl, below_alloc _ _, by simp [go_sem], by simp [go_sem], by simp [go_sem], by simp⟩

theorem rowR_none {l : List Ty} (h : letsT l = none) : rowR l = ([], false) := by rw [rowR, h]
theorem rowR_some {l : List Ty} {s : List UInt8} (h : letsT l = some s) : rowR l = (cnt l.length ++ s, true) := by rw [rowR, h]
theorem let_void (k : Int) (nm : List UInt8) (l : List Ty) (h1 : ¬ (k = 1 ∧ l.length = 0)) (h7 : ¬ (k = 7 ∧ l.length = 0)) (h : letsT l = none) : letT (.mk k nm l) = [] := by
  rw [letT_mk, if_neg h1, if_neg h7, h]
theorem let_shape (k : Int) (nm : List UInt8) (l : List Ty) (s : List UInt8) (h1 : ¬ (k = 1 ∧ l.length = 0)) (h7 : ¬ (k = 7 ∧ l.length = 0)) (h : letsT l = some s) : letT (.mk k nm l) = shapeL k nm l.length s := by
  rw [letT_mk, if_neg h1, if_neg h7, h]

theorem rowR_no {l : List Ty} {S : List UInt8} (h : rowR l = (S, false)) : letsT l = none := by
  cases e : letsT l with
  | none => rfl
  | some s => rw [rowR_some e] at h; cases h
theorem rowR_yes {l : List Ty} {S : List UInt8} (h : rowR l = (S, true)) : ∃ s, letsT l = some s ∧ S = cnt l.length ++ s := by
  cases e : letsT l with
  | none => rw [rowR_none e] at h; cases h
  | some s => rw [rowR_some e] at h; exact ⟨s, rfl, (congrArg Prod.fst h).symm⟩
theorem trim_one (s : List UInt8) : Lib.trimPrefix (cnt 1 ++ s) [49, 120] = s := by
  have : cnt 1 = [49, 120] := by rw [cnt, dec_small (by omega)]; rfl
  rw [this]; simp [Lib.trimPrefix, Lib.hasPrefix]

/-! The map of basic types. -/
/-- How a text of a map reads. -/
def strElem : Value → Option (DataW Unit × List MemPlace)
  | .string s => some (.lit (.string s.data.toList), [])
  | _ => none
theorem strElem_mk (l : List UInt8) : strElem (.string ⟨l.toArray⟩) = some (.lit (.string l), []) := by simp [strElem]
theorem strElem_inv {v : Value} {l : List UInt8} {ps : List MemPlace} (h : strElem v = some (.lit (.string l), ps)) : v = .string ⟨l.toArray⟩ := by
  unfold strElem at h
  split at h
  · rename_i s
    simp only [Option.some.injEq, Prod.mk.injEq, DataW.lit.injEq, Lit.string.injEq] at h
    rw [← h.1]
  · cases h
theorem law9 : Keyed Tryz.prog 9 := string_keyed (by kernel_rfl)
theorem und41 : Tryz.prog.underlying 88 = some (.map 9 9) := by kernel_rfl
theorem key9 (l : List UInt8) (h : l.length ≤ maxLen) : keyOf Tryz.prog 9 (.string ⟨l.toArray⟩) = some (.string l) := by
  have := WideMaps.keyOf_string_mk (P := Tryz.prog) (k := 9) (by kernel_rfl) (s := ⟨l.toArray⟩) (by simpa [ByteArray.size] using h)
  simpa using this
theorem zero9 (w : World) : (zeroValue 9).run Tryz.prog w = .ok (.string ⟨#[]⟩) w := by kernel_rfl
def nInt : List UInt8 := [105, 110, 116]
def nStr : List UInt8 := [115, 116, 114, 105, 110, 103]
def nBool : List UInt8 := [98, 111, 111, 108]
def basicD : DataW Unit := (((DataW.map []).put (.string nInt) (.lit (.string [105]))).put (.string nStr) (.lit (.string [116]))).put (.string nBool) (.lit (.string [98]))
theorem put_map {D : DataW Unit} (h : IsMap D) (k : Lit) (d : DataW Unit) : IsMap (D.put k d) := by obtain ⟨es, rfl⟩ := h; exact ⟨_, rfl⟩
theorem basic_at (nm : List UInt8) : basicD.atKey (.string nm) (.lit (.string [])) = .lit (.string (basicL nm)) := by
  have m0 : IsMap (DataW.map [] : DataW Unit) := ⟨_, rfl⟩
  have m1 := put_map m0 (.string nInt) (.lit (.string [105]))
  have m2 := put_map m1 (.string nStr) (.lit (.string [116]))
  unfold basicD
  by_cases e3 : nm = nBool
  · subst e3
    rw [atKey_put_same m2 (by simp [WideAt.IsKeyLit])]; rfl
  rw [atKey_put_other (by simpa using e3)]
  by_cases e2 : nm = nStr
  · subst e2
    rw [atKey_put_same m1 (by simp [WideAt.IsKeyLit])]; rfl
  rw [atKey_put_other (by simpa using e2)]
  by_cases e1 : nm = nInt
  · subst e1
    rw [atKey_put_same m0 (by simp [WideAt.IsKeyLit])]; rfl
  rw [atKey_put_other (by simpa using e1)]
  have : basicL nm = [] := by
    unfold basicL
    unfold nInt at e1
    unfold nStr at e2
    unfold nBool at e3
    rw [if_neg e1, if_neg e2, if_neg e3]
  rw [this]; rfl

set_option maxRecDepth 100000 in
set_option maxHeartbeats 16000000 in
theorem Letters_any : ∀ (t : Ty), LetOk t := by
  refine Ty.ind (fun t ih => ?_)
  intro a c w hT hk hf hb
  obtain ⟨k, nm, l⟩ := t
  have hbl : tyLen (.mk k nm l) = 100 + nm.length + tysLen l := by rw [tyLen]
  have hl := tys_len l
  obtain ⟨wa, hwa, hba, c0, c1, c2, hs⟩ := laidT w (.mk k nm l) a c 49
  simp only [Ty.args_mk, Ty.kind_mk, Ty.name_mk] at hk ih hwa c0 c1 c2 ⊢
  have hR := row_any l a c wa (hT.on hba) (hk.on hba) (by omega) (by omega) ih
  have HBA := Lib.hid hba
  have HT := Lib.hid hT
  obtain ⟨S, b, hSb⟩ : ∃ S b, rowR l = (S, b) := ⟨_, _, rfl⟩
  rw [hSb] at hR
  have HRW := Lib.hid hR
  clear hR hba hT ih hk hf
  go_enter Tryz.func48, Tryz.ntmps48
  go_wp2_with fail
  refine HRW.out.mono ?_
  rintro e w1 ⟨rfl, hb1⟩
  obtain ⟨c0, c1, c2⟩ := three_on hb1 c0 c1 c2
  have HB1 := Lib.hid (bext HBA.out hb1)
  clear hb1 HRW hs hwa HBA
  have hS : (S, b).1.length ≤ 1000000000000000100 := by
    rw [← hSb]
    cases e : letsT l with
    | none => rw [rowR_none e]; simp
    | some s =>
      rw [rowR_some e]
      have h1 := cnt_len (n := l.length) (by omega)
      have h2 := lets_len (l := l) (fun t ht => let_len t (by have := tysLen_mem ht; omega)) s e
      simp only [List.length_append]; omega
  have hS0 : S.length ≤ 1000000000000000100 := hS
  have hS1 : S.length + 1 ≤ 9223372036854775807 := by omega
  have hnl : nm.length ≤ 1000000000000000000 := by omega
  clear hS
  by_cases l0 : l.length = 0
  · obtain rfl := List.eq_nil_of_length_eq_zero l0
    obtain ⟨hSs, rfl⟩ : S = cnt ([] : List Ty).length ++ [] ∧ b = true := by
      have e := rowR_some (l := []) (s := []) (by rw [letsT])
      rw [hSb] at e
      simpa using e
    clear hSb
    by_cases k1 : k = 1
    · subst k1
      have hmm := @run_makeMap Tryz.prog
      have o0 := World.ownsMap_made w1 Tryz.prog 9 strElem
      have b0 := (Below.refl _ w1).alloc (Nat.le_refl _) (.map #[] 0)
      obtain ⟨w2, r1, o1, g1⟩ := o0.update law9 und41 (by decide) (key9 nInt (by decide)) (strElem_mk [105])
      obtain ⟨w3, r2, o2, g2⟩ := o1.update law9 und41 (by decide) (key9 nStr (by decide)) (strElem_mk [116])
      obtain ⟨w4, r3, o3, g3⟩ := o2.update law9 und41 (by decide) (key9 nBool (by decide)) (strElem_mk [98])
      have hr : ∀ k, some w1.heap.size = some k → w1.heap.size ≤ k := fun k e => by cases e; exact Nat.le_refl _
      have b1 := b0.grown g1 b0.size hr
      have b2 := b1.grown g2 b1.size hr
      have b3 := b2.grown g3 b2.size hr
      obtain ⟨v, ps, hrun, hv⟩ := World.ownsMap.lookup (zd := .lit (.string [])) (zp := []) o3 law9 und41 (zero9 w4) (strElem_mk []) (key9 nm (by unfold maxLen; omega))
      rw [show ((((DataW.map []).put (.string nInt) (.lit (.string [105]))).put (.string nStr) (.lit (.string [116]))).put (.string nBool) (.lit (.string [98])) : DataW Unit) = basicD from rfl, basic_at] at hv
      obtain rfl := strElem_inv hv
      obtain ⟨c0, c1, c2⟩ := three_on b3 c0 c1 c2
      have HB3 := Lib.hid (bext HB1.out b3)
      have hl2 : letT (.mk 1 nm []) = basicL nm := by rw [letT_mk, if_pos ⟨rfl, rfl⟩]
      have HV := Lib.hid hl2
      clear o0 o1 o2 o3 b0 b1 b2 b3 g1 g2 g3 hr hv hl2
      simp only [nInt, nStr, nBool] at r1 r2 r3
      go_wp2_with fail
      go_ret
      exact ⟨by rw [HV.out]; rfl, HB3.out⟩
    have k1' : (k == 1) = false := by simpa using k1
    by_cases k7 : k = 7
    · subst k7
      have HV := Lib.hid (show letT (.mk 7 nm []) = [118] by rw [letT_mk, if_neg (fun h => k1 h.1), if_pos ⟨rfl, rfl⟩])
      go_wp2_with fail
      go_ret
      exact ⟨by rw [HV.out]; rfl, HB1.out⟩
    have k7' : (k == 7) = false := by simpa using k7
    have HL := Lib.hid (let_shape k nm [] [] (fun h => k1 h.1) (fun h => k7 h.1) (by rw [letsT]))
    by_cases k3 : k = 3
    · subst k3
      have k5 : ¬ (3 : Int) = 5 := by decide
      have k6 : ¬ (3 : Int) = 6 := by decide
      by_cases hnm : nm = []
      · have n2 : nm.isEmpty = true := by rw [hnm]; rfl
        have hv : letT (.mk 3 nm []) = [] := by rw [HL.out, shapeL, if_neg (fun h => k5 h.1), if_neg (fun h => k6 h.1), if_neg (fun h => h.2 hnm)]
        have HV := Lib.hid hv
        clear hv HL hSs hnm
        go_wp2_with fail
        all_goals
          go_ret
          exact ⟨by rw [HV.out]; rfl, HB1.out⟩
      · have n2 : nm.isEmpty = false := by cases nm with | nil => exact absurd rfl hnm | cons x r => rfl
        have hv : letT (.mk 3 nm []) = 110 :: (cnt nm.length ++ (nm ++ S)) := by rw [HL.out, shapeL, if_neg (fun h => k5 h.1), if_neg (fun h => k6 h.1), if_pos ⟨rfl, hnm⟩, hSs]
        have hc := cnt_len (n := nm.length) (by omega)
        have HI := Lib.hid (fun (W : World) (hb : Below w.heap.size w W) => itoa_any nm.length W (by omega) (HT.out.on hb))
        have HV := Lib.hid hv
        obtain ⟨D, hD⟩ : ∃ D, Lib.decDigits nm.length = D := ⟨_, rfl⟩
        have hcat : (⟨#[110]⟩ : ByteArray) ++ ⟨D.toArray⟩ ++ ⟨#[120]⟩ ++ ⟨nm.toArray⟩ ++ ⟨S.toArray⟩ = ⟨(110 :: (cnt nm.length ++ (nm ++ S))).toArray⟩ := by
          rw [cnt, hD, show (⟨#[110]⟩ : ByteArray) = ⟨[110].toArray⟩ from rfl, show (⟨#[120]⟩ : ByteArray) = ⟨[120].toArray⟩ from rfl, ncat, ncat, ncat, ncat]
          simp
        have hDl : D.length + 1 ≤ 21 := by simpa [cnt, hD] using hc
        rw [hD] at HI
        have HCAT := Lib.hid hcat
        have hl1 : ¬ 9223372036854775807 < 1 + D.length := by omega
        have hl2 : ¬ 9223372036854775807 < 1 + D.length + 1 := by omega
        have hl3 : ¬ 9223372036854775807 < 1 + D.length + 1 + nm.length := by omega
        have hl4 : ¬ 9223372036854775807 < 1 + D.length + 1 + nm.length + S.length := by omega
        clear hv hc hD hcat HL hSs hnm
        go_wp2_with fail
        replace HB1 : Hid (Below w.heap.size w w1.drew) := Lib.hid HB1.out.drew
        go_region_held3 (fun w' => (w'.cell? ⟨w.heap.size, 0, none⟩ = some (.int .i64 3) ∧ w'.cell? ⟨w.heap.size, 1, none⟩ = some (.string ⟨nm.toArray⟩) ∧ w'.cell? ⟨w.heap.size, 2, none⟩ = some (.slice a 0 c))) (go_keep)
          (first
            | (go_at_call 67
               refine (HI.out _ HB1.out).mono ?_
               rintro e w5 ⟨rfl, hb5⟩
               obtain ⟨c0, c1, c2⟩ := three_on hb5 c0 c1 c2
               have HB1 := Lib.hid (bext HB1.out hb5)))
        all_goals
          go_wp2_with fail
          go_ret
          exact ⟨by rw [HV.out, ← HCAT.out]; rfl, HB1.out⟩
    have k3' : (k == 3) = false := by simpa using k3
    have hv : letT (.mk k nm []) = [] := by rw [HL.out, shapeL, if_neg (fun h => absurd h.2 (by decide)), if_neg (fun h => absurd h.2 (by decide)), if_neg (fun h => k3 h.1)]
    have HV := Lib.hid hv
    clear hv HL hSs k1 k7 k3
    by_cases k5 : k = 5
    · subst k5
      go_wp2_with fail
      all_goals
        go_ret
        exact ⟨by rw [HV.out]; rfl, HB1.out⟩
    have k5' : (k == 5) = false := by simpa using k5
    by_cases k6 : k = 6
    · subst k6
      go_wp2_with fail
      all_goals
        go_ret
        exact ⟨by rw [HV.out]; rfl, HB1.out⟩
    have k6' : (k == 6) = false := by simpa using k6
    clear k5 k6
    go_wp2_with fail
    all_goals
      go_ret
      exact ⟨by rw [HV.out]; rfl, HB1.out⟩
  have n0 : ((l.length : Int) == 0) = false := by simp; intro h; exact l0 (by rw [h]; rfl)
  have q1 : ∀ k : Int, ¬ (k = 1 ∧ l.length = 0) := fun k h => l0 h.2
  have q7 : ∀ k : Int, ¬ (k = 7 ∧ l.length = 0) := fun k h => l0 h.2
  cases b with
  | false =>
    have hn := rowR_no hSb
    have HV := Lib.hid (let_void k nm l (q1 k) (q7 k) hn)
    clear hSb hn q1 q7
    by_cases k1 : (k == 1) = true
    · go_wp2_with fail
      all_goals
        go_ret
        exact ⟨by rw [HV.out]; rfl, HB1.out⟩
    · replace k1 : (k == 1) = false := by simpa using k1
      by_cases k7 : (k == 7) = true
      · go_wp2_with fail
        all_goals
          go_ret
          exact ⟨by rw [HV.out]; rfl, HB1.out⟩
      · replace k7 : (k == 7) = false := by simpa using k7
        go_wp2_with fail
        all_goals
          go_ret
          exact ⟨by rw [HV.out]; rfl, HB1.out⟩
  | true =>
    obtain ⟨s, hs, hSs⟩ := rowR_yes hSb
    have HL := Lib.hid (let_shape k nm l s (q1 k) (q7 k) hs)
    clear hSb hs q1 q7
    by_cases k5 : k = 5
    · subst k5
      by_cases l1 : l.length = 1
      · have n1 : ((l.length : Int) == 1) = true := by rw [l1]; rfl
        have hv : letT (.mk 5 nm l) = 115 :: s := by rw [HL.out, shapeL, if_pos ⟨rfl, l1⟩]
        have htp : Lib.trimPrefix S [49, 120] = s := by rw [hSs, l1]; exact trim_one s
        have hsl : s.length + 1 ≤ 9223372036854775807 := by rw [hSs] at hS1; simp at hS1; omega
        have HTP := Lib.hid (fun W => Tryz.strings_TrimPrefix ⟨S.toArray⟩ ⟨#[49, 120]⟩ W)
        rw [show (⟨S.toArray⟩ : ByteArray).data.toList = S from rfl, show (⟨#[49, 120]⟩ : ByteArray).data.toList = [49, 120] from rfl, htp] at HTP
        have HCC := ncat [115] s
        have HV := Lib.hid hv
        clear hv htp HL hSs
        go_wp2_with fail
        refine (HTP.out _).mono ?_
        rintro e w2 ⟨rfl, rfl⟩
        go_wp2_with fail
        go_ret
        exact ⟨by rw [HV.out]; exact congrArg (fun b => Ending.returned (.string b)) HCC, HB1.out⟩
      · have n1 : ((l.length : Int) == 1) = false := by simp; omega
        have hv : letT (.mk 5 nm l) = [] := by rw [HL.out, shapeL, if_neg (fun h => l1 h.2), if_neg (fun h => absurd h.1 (by decide)), if_neg (fun h => absurd h.1 (by decide))]
        have HV := Lib.hid hv
        clear hv HL hSs
        go_wp2_with fail
        all_goals
          go_ret
          exact ⟨by rw [HV.out]; rfl, HB1.out⟩
    have k5' : (k == 5) = false := by simpa using k5
    by_cases k6 : k = 6
    · subst k6
      have np : (0 : Int) < (l.length : Int) := by omega
      have hv : letT (.mk 6 nm l) = 102 :: S := by rw [HL.out, shapeL, if_neg (fun h => absurd h.1 (by decide)), if_pos ⟨rfl, by omega⟩, hSs]
      have HCC := ncat [102] S
      have HV := Lib.hid hv
      clear hv HL hSs
      go_wp2_with fail
      go_ret
      exact ⟨by rw [HV.out]; exact congrArg (fun b => Ending.returned (.string b)) HCC, HB1.out⟩
    have k6' : (k == 6) = false := by simpa using k6
    by_cases k3 : k = 3
    · subst k3
      by_cases hnm : nm = []
      · have n2 : nm.isEmpty = true := by rw [hnm]; rfl
        have hv : letT (.mk 3 nm l) = [] := by rw [HL.out, shapeL, if_neg (fun h => k5 h.1), if_neg (fun h => k6 h.1), if_neg (fun h => h.2 hnm)]
        have HV := Lib.hid hv
        clear hv HL hSs hnm
        go_wp2_with fail
        all_goals
          go_ret
          exact ⟨by rw [HV.out]; rfl, HB1.out⟩
      · have n2 : nm.isEmpty = false := by cases nm with | nil => exact absurd rfl hnm | cons x r => rfl
        have hv : letT (.mk 3 nm l) = 110 :: (cnt nm.length ++ (nm ++ S)) := by rw [HL.out, shapeL, if_neg (fun h => k5 h.1), if_neg (fun h => k6 h.1), if_pos ⟨rfl, hnm⟩, hSs]
        have hc := cnt_len (n := nm.length) (by omega)
        have HI := Lib.hid (fun (W : World) (hb : Below w.heap.size w W) => itoa_any nm.length W (by omega) (HT.out.on hb))
        have HV := Lib.hid hv
        obtain ⟨D, hD⟩ : ∃ D, Lib.decDigits nm.length = D := ⟨_, rfl⟩
        have hcat : (⟨#[110]⟩ : ByteArray) ++ ⟨D.toArray⟩ ++ ⟨#[120]⟩ ++ ⟨nm.toArray⟩ ++ ⟨S.toArray⟩ = ⟨(110 :: (cnt nm.length ++ (nm ++ S))).toArray⟩ := by
          rw [cnt, hD, show (⟨#[110]⟩ : ByteArray) = ⟨[110].toArray⟩ from rfl, show (⟨#[120]⟩ : ByteArray) = ⟨[120].toArray⟩ from rfl, ncat, ncat, ncat, ncat]
          simp
        have hDl : D.length + 1 ≤ 21 := by simpa [cnt, hD] using hc
        rw [hD] at HI
        have HCAT := Lib.hid hcat
        have hl1 : ¬ 9223372036854775807 < 1 + D.length := by omega
        have hl2 : ¬ 9223372036854775807 < 1 + D.length + 1 := by omega
        have hl3 : ¬ 9223372036854775807 < 1 + D.length + 1 + nm.length := by omega
        have hl4 : ¬ 9223372036854775807 < 1 + D.length + 1 + nm.length + S.length := by omega
        clear hv hc hD hcat HL hSs hnm
        go_wp2_with fail
        replace HB1 : Hid (Below w.heap.size w w1.drew) := Lib.hid HB1.out.drew
        go_region_held3 (fun w' => (w'.cell? ⟨w.heap.size, 0, none⟩ = some (.int .i64 3) ∧ w'.cell? ⟨w.heap.size, 1, none⟩ = some (.string ⟨nm.toArray⟩) ∧ w'.cell? ⟨w.heap.size, 2, none⟩ = some (.slice a l.length c))) (go_keep)
          (first
            | (go_at_call 67
               refine (HI.out _ HB1.out).mono ?_
               rintro e w5 ⟨rfl, hb5⟩
               obtain ⟨c0, c1, c2⟩ := three_on hb5 c0 c1 c2
               have HB1 := Lib.hid (bext HB1.out hb5)))
        all_goals
          go_wp2_with fail
          go_ret
          exact ⟨by rw [HV.out, ← HCAT.out]; rfl, HB1.out⟩
    have k3' : (k == 3) = false := by simpa using k3
    have hv : letT (.mk k nm l) = [] := by rw [HL.out, shapeL, if_neg (fun h => k5 h.1), if_neg (fun h => k6 h.1), if_neg (fun h => k3 h.1)]
    have HV := Lib.hid hv
    clear hv HL hSs k5 k6 k3
    by_cases k1 : (k == 1) = true
    · go_wp2_with fail
      all_goals
        go_ret
        exact ⟨by rw [HV.out]; rfl, HB1.out⟩
    · replace k1 : (k == 1) = false := by simpa using k1
      by_cases k7 : (k == 7) = true
      · go_wp2_with fail
        all_goals
          go_ret
          exact ⟨by rw [HV.out]; rfl, HB1.out⟩
      · replace k7 : (k == 7) = false := by simpa using k7
        go_wp2_with fail
        all_goals
          go_ret
          exact ⟨by rw [HV.out]; rfl, HB1.out⟩
end Go.Proofs.YtfcpblclfgkdjaaGreatDoor.Aw

namespace Go.Proofs.YtfcpblclfgkdjaaGreatDoor.Aw
set_option linter.unusedSimpArgs false
set_option linter.unusedVariables false
open Go.RowKit

def WithAt (l : List Ty) (N : List UInt8) (k : Nat) (O : List UInt8) : Prop := ∃ s, letsT (l.take k) = some s ∧ O = N ++ s ∧ s.length ≤ tysLen l
theorem withAt_next {l : List Ty} {N : List UInt8} {k : Nat} {O : List UInt8} (h : WithAt l N k O) (hk : k < l.length) (hx : letT l[k] ≠ []) (hb : tysLen l ≤ 1000000000000000000) : WithAt l N (k + 1) (O ++ letT l[k]) := by
  obtain ⟨s, h1, rfl, h3⟩ := h
  have e : letsT (l.take (k + 1)) = some (s ++ letT l[k]) := by
    rw [List.take_succ_eq_append_getElem hk, lets_snoc, h1]; simp [hx]
  refine ⟨s ++ letT l[k], e, by simp, ?_⟩
  have hle : tysLen (l.take (k + 1)) ≤ tysLen l := by
    have := tysLen_app (l.take (k + 1)) (l.drop (k + 1))
    rw [List.take_append_drop] at this; omega
  have := lets_len (l := l.take (k + 1)) (fun t ht => let_len t (by have := tysLen_mem (List.mem_of_mem_take ht); omega)) _ e
  omega
theorem lets_some {l : List Ty} {s : List UInt8} (h : letsT l = some s) : ∀ t, t ∈ l → letT t ≠ [] := by
  induction l generalizing s with
  | nil => intro t ht; cases ht
  | cons x l ih =>
    intro t ht
    rw [letsT_cons] at h
    by_cases hx : letT x = []
    · rw [if_pos hx] at h; cases h
    · rw [if_neg hx] at h
      cases e : letsT l with
      | none => rw [e] at h; cases h
      | some s2 =>
        rcases List.mem_cons.1 ht with rfl | ht
        · exact hx
        · exact ih e t ht

set_option maxHeartbeats 4000000 in
theorem with_any (j nm s : List UInt8) (l : List Ty) (a : Option Addr) (c : Nat) (w : World) (hT : Tab w) (hk : Tids w Any a l) (hl : l.length ≤ 9223372036854775807) (h0 : l ≠ []) (hb : tysLen l ≤ 1000000000000000000) (hj : jointedB j = true) (hs : letsT l = some s) (hjl : j.length ≤ 1000000000000000000) (hnl : nm.length ≤ 1000000000000000000) :
    Calls Tryz.prog 26 #[.string ⟨j.toArray⟩, .string ⟨nm.toArray⟩, .slice a l.length c] w fun e w' => e = .returned (.string ⟨(nm ++ j ++ s).toArray⟩) ∧ Below w.heap.size w w' := by
  have HK := Lib.hid hk
  have HT := Lib.hid hT
  have hjo := jointed_any j w (by omega)
  rw [hj] at hjo
  have HJO := Lib.hid hjo
  have n0 : ((l.length : Int) == 0) = false := by simp; intro h; exact h0 h
  have hcat := ncat nm j
  have hcl : nm.length + j.length ≤ 9223372036854775807 := by omega
  have HS := Lib.hid hs
  have HR0 := Lib.hid (show WithAt l (nm ++ j) 0 (nm ++ j) from ⟨[], by rw [List.take_zero, letsT], by simp, by simp⟩)
  have hNl : (nm ++ j).length ≤ 2000000000000000000 := by simp; omega
  obtain ⟨N, hN⟩ : ∃ N, nm ++ j = N := ⟨_, rfl⟩
  rw [hN] at hcat HR0 hNl ⊢
  clear hk hT hjo hs hN hj h0
  go_enter Tryz.func26, Tryz.ntmps26
  go_wp2_with fail
  refine HJO.out.mono ?_
  rintro e w1 ⟨rfl, hb1⟩
  have HB1 := Lib.hid hb1
  clear hb1
  go_wp2_with fail
  go_loopw [7, 24] (fun o i wr => ∃ (k : Nat) (O : List UInt8), k ≤ l.length ∧ i = .int .i64 k ∧ o = .string ⟨O.toArray⟩ ∧ Hid (WithAt l N k O) ∧ Hid (Below w.heap.size w wr)) (fun _ i _ => l.length - (intOf i).toNat)
  case atStart => exact ⟨0, N, by omega, rfl, rfl, HR0, HB1⟩
  case round =>
    obtain ⟨k, O, hk, rfl, rfl, HR, HB⟩ := hrel
    by_cases hlt : k < l.length
    · obtain ⟨b, off, a', c', ha, -, ⟨h0, h1, h2⟩, hf, hn⟩ := (HK.out.on HB.out).get hlt
      subst ha
      have hO : O.length ≤ 3000000000000000000 := by
        obtain ⟨s2, _, rfl, h3⟩ := HR.out
        rw [List.length_append]; omega
      have hmem : tyLen l[k] ≤ 1000000000000000000 := by have := tysLen_mem (List.getElem_mem hlt); omega
      have hX := let_len l[k] (by omega)
      have HC := Letters_any l[k]
      have hne := lets_some HS.out _ (List.getElem_mem hlt)
      have HN := Lib.hid (withAt_next HR.out hlt hne hb)
      have HA := Lib.hid (fun o => HC a' c' (wr.alloc o) (HT.out.on (bext HB.out (below_alloc wr o))) (hn.on (below_alloc wr o)) hf hmem)
      have hOX : O.length + (letT l[k]).length ≤ 9223372036854775807 := by omega
      obtain ⟨X, hX2⟩ : ∃ X, letT l[k] = X := ⟨_, rfl⟩
      rw [hX2] at HA HN hX hOX hne
      have HOX := ncat O X
      have hne2 : X.isEmpty = false := by
        cases X with
        | nil => exact absurd rfl hne
        | cons x r => rfl
      clear HC hX2 hf hn hX hmem hne hO
      go_wp2_with fail
      refine (HA.out _).mono ?_
      rintro e w2 ⟨rfl, hb2⟩
      have HB2 := Lib.hid (bext HB.out (bext (below_alloc wr _) hb2))
      clear hb2 HA
      go_wp2_with fail
      go_roundw
      case rel => exact ⟨k + 1, O ++ X, by omega, by go_num, by rw [← HOX], HN, HB2⟩
      case measure => simp [intOf]; omega
    · obtain rfl : k = l.length := by omega
      have hO : O = N ++ s := by
        obtain ⟨s2, h1, rfl, _⟩ := HR.out
        rw [List.take_length, HS.out] at h1
        cases h1; rfl
      subst hO
      go_wp2_with fail
      go_ret
      exact ⟨rfl, HB.out⟩

/-! What the chapter's examples are. -/
def tN : Ty := .mk 1 nInt []
def tS : Ty := .mk 1 nStr []
def tA : Ty := .mk 5 [] [tN]
theorem lets_ex : letsT [tA, tS] = some [115, 105, 116] := by
  have e0 : letsT [] = some [] := by rw [letsT]
  have e1 : letT tN = [105] := by rw [tN, letT_mk, if_pos ⟨rfl, rfl⟩]; rfl
  have e2 : letT tS = [116] := by rw [tS, letT_mk, if_pos ⟨rfl, rfl⟩]; rfl
  have e3 : letsT [tN] = some [105] := by rw [letsT_cons, e1, if_neg (by simp), e0]; rfl
  have e4 : letT tA = [115, 105] := by rw [tA, letT_mk, if_neg (by decide), if_neg (by decide), e3]; rfl
  rw [letsT_cons, e4, if_neg (by simp), letsT_cons, e2, if_neg (by simp), e0]; rfl
theorem joint_ex : List.replicate (jlong [[97, 95, 98]] 1 + 1) (95 : UInt8) = [95, 95] := by decide +kernel
theorem jointed_ex : jointedB [95, 95] = true := by decide +kernel
end Go.Proofs.YtfcpblclfgkdjaaGreatDoor.Aw

namespace Go.Proofs.YtfcpblclfgkdjaaGreatDoor.Aw
set_option linter.unusedSimpArgs false
set_option linter.unusedVariables false
open Go.RowKit

def Good (w : World) (e : Ending) (w' : World) : Prop := e = .returned (.bool true) ∧ Below w.heap.size w w'
theorem joint_call (a : Option Addr) (c : Nat) (W : World) (hs : Strs W a [[97, 95, 98]]) : Calls Tryz.prog 25 #[.slice a 1 c] W fun e w' => e = .returned (.string ⟨#[95, 95]⟩) ∧ Below W.heap.size W w' := by
  have := joint_any [[97, 95, 98]] a c W hs (by simp) (by simp)
  rw [joint_ex] at this
  exact this
theorem with_call (a : Option Addr) (c : Nat) (W : World) (hT : Tab W) (hk : Tids W Any a [tA, tS]) : Calls Tryz.prog 26 #[.string ⟨#[95, 95]⟩, .string ⟨#[102]⟩, .slice a 2 c] W fun e w' => e = .returned (.string ⟨#[102, 95, 95, 115, 105, 116]⟩) ∧ Below W.heap.size W w' :=
  with_any [95, 95] [102] [115, 105, 116] [tA, tS] a c W hT hk (by simp) (by simp) (by simp [tysLen, tA, tS, tN, tyLen, nInt, nStr]) jointed_ex lets_ex (by simp) (by simp)

set_option maxRecDepth 100000 in
set_option maxHeartbeats 8000000 in
theorem awake_any (w : World) (hT : Tab w) : Calls Tryz.prog 11 #[] w (Good w) := by
  have HT := Lib.hid hT
  have HJ := Lib.hid joint_call
  have HW := Lib.hid with_call
  clear hT
  go_enter Tryz.func11, Tryz.ntmps11
  go_wp2_with fail
  obtain ⟨W3, hW3, hb3, ⟨c0, c1, c2⟩, ⟨d0, d1, d2⟩, hstr⟩ : ∃ W3, (((w.alloc (.cells #[.int .i64 1, .string ⟨#[105, 110, 116]⟩, .slice none 0 0] 49)).alloc (.cells #[.int .i64 1, .string ⟨#[115, 116, 114, 105, 110, 103]⟩, .slice none 0 0] 49)).alloc (.cells #[.string ⟨#[97, 95, 98]⟩] 9)) = W3 ∧
      Below w.heap.size w W3 ∧ (W3.cell? ⟨w.heap.size, 0, none⟩ = some (.int .i64 1) ∧ W3.cell? ⟨w.heap.size, 1, none⟩ = some (.string ⟨#[105, 110, 116]⟩) ∧ W3.cell? ⟨w.heap.size, 2, none⟩ = some (.slice none 0 0)) ∧
      (W3.cell? ⟨w.heap.size + 1, 0, none⟩ = some (.int .i64 1) ∧ W3.cell? ⟨w.heap.size + 1, 1, none⟩ = some (.string ⟨#[115, 116, 114, 105, 110, 103]⟩) ∧ W3.cell? ⟨w.heap.size + 1, 2, none⟩ = some (.slice none 0 0)) ∧
      Strs W3 (some ⟨w.heap.size + 1 + 1, 0, none⟩) [[97, 95, 98]] := by
    refine ⟨_, rfl, (((Below.refl _ _).alloc (Nat.le_refl _) _).alloc (by simp) _).alloc (by simp; omega) _, ⟨?_, ?_, ?_⟩, ⟨?_, ?_, ?_⟩, fun j hj => ⟨_, _, rfl, ?_⟩⟩
    any_goals simp [go_sem]
    obtain rfl : j = 0 := by simpa using hj
    simp [go_sem]
  have HB3 := Lib.hid hb3
  have HJ3 := Lib.hid (HJ.out _ 1 W3 hstr)
  rw [hW3]
  clear hb3 hstr hW3 HJ
  refine HJ3.out.mono ?_
  rintro e w4 ⟨rfl, hb4⟩
  obtain ⟨c0, c1, c2⟩ := three_on hb4 c0 c1 c2
  obtain ⟨d0, d1, d2⟩ := three_on hb4 d0 d1 d2
  have HB4 := Lib.hid (bext HB3.out hb4)
  have hl1 : w.heap.size + 1 < w4.heap.size := cell_lt1 d0
  have hl0 : w.heap.size < w4.heap.size := cell_lt1 c0
  clear hb4 HJ3 HB3
  go_wp2_with fail
  obtain ⟨W6, hW6, hb6, hk6⟩ : ∃ W6, ((w4.alloc (.cells #[.int .i64 1, .string ⟨#[105, 110, 116]⟩, .slice none 0 0] 49)).alloc
      (.cells #[.int .i64 5, .string ⟨#[]⟩, .slice (some ⟨w4.heap.size, 0, none⟩) 1 1, .int .i64 1, .string ⟨#[115, 116, 114, 105, 110, 103]⟩, .slice none 0 0] 49)) = W6 ∧ Below w4.heap.size w4 W6 ∧ Tids W6 Any (some ⟨w4.heap.size + 1, 0, none⟩) [tA, tS] := by
    refine ⟨_, rfl, ((Below.refl _ _).alloc (Nat.le_refl _) _).alloc (by simp) _, ?_⟩
    rw [tids_iff]
    intro j hj
    rcases (show j = 0 ∨ j = 1 by simp at hj; omega) with rfl | rfl
    · refine ⟨w4.heap.size + 1, 0, some ⟨w4.heap.size, 0, none⟩, 1, rfl, trivial, ⟨?_, ?_, ?_⟩, ⟨?_, ?_⟩, ?_⟩
      · simp [go_sem, tA]
      · simp [go_sem, tA]
      · simp [go_sem, tA]
      · simp [tA]
      · simp [tA]
      · rw [tids_iff]
        intro i hi
        obtain rfl : i = 0 := by simp [tA] at hi; exact hi
        refine ⟨w4.heap.size, 0, none, 0, rfl, trivial, ⟨?_, ?_, ?_⟩, ⟨?_, ?_⟩, ?_⟩
        · simp [go_sem, tA, tN]
        · simp [go_sem, tA, tN, nInt]
        · simp [go_sem, tA, tN]
        · simp [tA, tN]
        · simp [tA, tN, nInt]
        · exact Tids.nil _ _ _
    · refine ⟨w4.heap.size + 1, 0, none, 0, rfl, trivial, ⟨?_, ?_, ?_⟩, ⟨?_, ?_⟩, ?_⟩
      · simp [go_sem, tS]
      · simp [go_sem, tS, nStr]
      · simp [go_sem, tS]
      · simp [tS]
      · simp [tS, nStr]
      · exact Tids.nil _ _ _
  have HB6 := Lib.hid (bext HB4.out hb6)
  have HW6 := Lib.hid (HW.out _ 2 W6 (HT.out.on HB6.out) hk6)
  rw [hW6]
  clear hb6 hk6 hW6 HW
  refine HW6.out.mono ?_
  rintro e w7 ⟨rfl, hb7⟩
  have HB7 := Lib.hid (bext HB6.out hb7)
  clear hb7 HW6
  go_wp2_with fail
  go_ret
  exact ⟨rfl, HB7.out⟩
end Go.Proofs.YtfcpblclfgkdjaaGreatDoor.Aw

