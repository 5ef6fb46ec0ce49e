/-
  names.row, walked, over what Letters says of each.
-/
import Derived.Test.YtfcpblclfgkdjaaDoorNmC
namespace Go.Proofs.YtfcpblclfgkdjaaDoor
set_option linter.unusedSimpArgs false
set_option linter.unusedVariables false
open Go.RowKit

theorem ncat (a b : List UInt8) : (⟨a.toArray⟩ : ByteArray) ++ ⟨b.toArray⟩ = ⟨(a ++ b).toArray⟩ := by simp [ByteArray.ext_iff]
/-- Letters of a type, as it lies. -/
def LetOk (t : Ty) : Prop := ∀ (a : Option Addr) (c : Nat) (w : World), Tab w → Tids w Any a t.args → Fity t c → tyLen t ≤ 1000000000000000000 →
    Calls Tryd.prog 9 #[.agg #[.int .i64 t.kind, .string ⟨t.name.toArray⟩, .slice a t.args.length c]] w fun e w' => e = .returned (.string ⟨(letT t).toArray⟩) ∧ Below w.heap.size w w'

def RowAt (l : List Ty) (n k : Nat) (O : List UInt8) : Prop := ∃ s, letsT (l.take k) = some s ∧ O = cnt n ++ s ∧ s.length ≤ tysLen l
theorem rowAt_next {l : List Ty} {n k : Nat} {O : List UInt8} (h : RowAt l n k O) (hk : k < l.length) (hx : letT l[k] ≠ []) (hb : tysLen l ≤ 1000000000000000000) : RowAt l n (k + 1) (O ++ letT l[k]) := by
  obtain ⟨s, h1, rfl, h3⟩ := h
  have e : letsT (l.take (k + 1)) = some (s ++ letT l[k]) := by
    rw [List.take_succ_eq_append_getElem hk, lets_snoc, h1]; simp [hx]
  refine ⟨s ++ letT l[k], e, by simp, ?_⟩
  have hle : tysLen (l.take (k + 1)) ≤ tysLen l := by
    have := tysLen_app (l.take (k + 1)) (l.drop (k + 1))
    rw [List.take_append_drop] at this; omega
  have := lets_len (l := l.take (k + 1)) (fun t ht => let_len t (by have := tysLen_mem (List.mem_of_mem_take ht); omega)) _ e
  omega
theorem rowAt_len {l : List Ty} {n k : Nat} {O : List UInt8} (h : RowAt l n k O) (hn : n ≤ 9223372036854775807) (hb : tysLen l ≤ 1000000000000000000) : O.length ≤ 1000000000000000021 := by
  obtain ⟨s, _, rfl, h3⟩ := h
  have := cnt_len hn
  rw [List.length_append]; omega
theorem rowAt_no {l : List Ty} {n k : Nat} {O : List UInt8} (h : RowAt l n k O) (hk : k < l.length) (hx : letT l[k] = []) : letsT l = none := by
  obtain ⟨s, h1, _, _⟩ := h
  have e : letsT (l.take (k + 1)) = none := by
    rw [List.take_succ_eq_append_getElem hk, lets_snoc, h1]; simp [hx]
  have := lets_none (r := l.drop (k + 1)) e
  rwa [List.take_append_drop] at this
theorem rowAt_end {l : List Ty} {O : List UInt8} (h : RowAt l l.length l.length O) : rowR l = (O, true) := by
  obtain ⟨s, h1, rfl, _⟩ := h
  rw [List.take_length] at h1
  rw [rowR, h1]

set_option maxHeartbeats 4000000 in
theorem row_any (l : List Ty) (a : Option Addr) (c : Nat) (w : World) (hT : Tab w) (hk : Tids w Any a l) (hl : l.length ≤ 9223372036854775807) (hb : tysLen l ≤ 1000000000000000000) (ih : ∀ t, t ∈ l → LetOk t) :
    Calls Tryd.prog 14 #[.slice a l.length c] w fun e w' => e = .returned (.tuple #[.string ⟨(rowR l).1.toArray⟩, .bool (rowR l).2]) ∧ Below w.heap.size w w' := by
  have HK := Lib.hid hk
  have HT := Lib.hid hT
  have HI := Lib.hid ih
  have hi := itoa_any l.length w hl hT
  have HC1 : (⟨(Lib.decDigits l.length).toArray⟩ : ByteArray) ++ ⟨#[120]⟩ = ⟨(cnt l.length).toArray⟩ := ncat _ [120]
  have hD2 : (Lib.decDigits l.length).length ≤ 20 := by
    have := cnt_len hl
    simp [cnt] at this; omega
  have HR0 := Lib.hid (show RowAt l l.length 0 (cnt l.length) from ⟨[], by rw [List.take_zero, letsT], by simp, by simp⟩)
  obtain ⟨D, hD⟩ : ∃ D, Lib.decDigits l.length = D := ⟨_, rfl⟩
  rw [hD] at hi HC1 hD2
  obtain ⟨C0, hC0⟩ : ∃ C0, cnt l.length = C0 := ⟨_, rfl⟩
  rw [hC0] at HC1 HR0
  have HIT := Lib.hid hi
  have hDs : D.length + 1 ≤ 9223372036854775807 := by omega
  clear hk hT ih hi hD hC0
  go_enter Tryd.func14, Tryd.ntmps14
  go_wp2_with fail
  refine HIT.out.mono ?_
  rintro e w1 ⟨rfl, hb1⟩
  have HB1 := Lib.hid hb1
  clear hb1
  go_wp2_with fail
  go_loopw [4, 14] (fun o i wr => ∃ (k : Nat) (O : List UInt8), k ≤ l.length ∧ i = .int .i64 k ∧ o = .string ⟨O.toArray⟩ ∧ Hid (RowAt l l.length k O) ∧ Hid (Below w.heap.size w wr)) (fun _ i _ => l.length - (intOf i).toNat)
  case atStart => exact ⟨0, C0, by omega, rfl, rfl, HR0, HB1⟩
  case round =>
    obtain ⟨k, O, hk, rfl, rfl, HR, HB⟩ := hrel
    by_cases hlt : k < l.length
    · obtain ⟨b, off, a', c', ha, -, ⟨h0, h1, h2⟩, hf, hn⟩ := (HK.out.on HB.out).get hlt
      subst ha
      have hO := rowAt_len HR.out hl hb
      have hmem : tyLen l[k] ≤ 1000000000000000000 := by have := tysLen_mem (List.getElem_mem hlt); omega
      have hX := let_len l[k] (by omega)
      have HC := HI.out _ (List.getElem_mem hlt)
      have HNO := Lib.hid (fun h => rowAt_no HR.out hlt h)
      have HNX := Lib.hid (fun h => rowAt_next HR.out hlt h hb)
      have HA := Lib.hid (fun o => HC a' c' (wr.alloc o) (HT.out.on (bext HB.out (below_alloc wr o))) (hn.on (below_alloc wr o)) hf hmem)
      have hOX : O.length + (letT l[k]).length ≤ 9223372036854775807 := by omega
      obtain ⟨X, hX2⟩ : ∃ X, letT l[k] = X := ⟨_, rfl⟩
      rw [hX2] at HA HNO HNX hX hOX
      have HOX := ncat O X
      clear HC hX2 hf hn hX hmem
      go_wp2_with fail
      refine (HA.out _).mono ?_
      rintro e w2 ⟨rfl, hb2⟩
      have HB2 := Lib.hid (bext HB.out (bext (below_alloc wr _) hb2))
      clear hb2 HA
      by_cases hXe : X = []
      · have hr : rowR l = ([], false) := by rw [rowR, HNO.out hXe]
        have HRR := Lib.hid hr
        subst hXe
        clear hr
        go_wp2_with fail
        go_ret2
        exact ⟨by rw [HRR.out]; rfl, HB2.out⟩
      · have hne : X.isEmpty = false := by
          cases X with
          | nil => exact absurd rfl hXe
          | cons x r => rfl
        have HN := Lib.hid (HNX.out hXe)
        clear hXe
        go_wp2_with fail
        go_roundw
        case rel => exact ⟨k + 1, O ++ X, by omega, by go_num, by rw [← HOX], HN, HB2⟩
        case measure => simp [intOf]; omega
    · obtain rfl : k = l.length := by omega
      have HRR := Lib.hid (rowAt_end HR.out)
      go_wp2_with fail
      go_ret2
      exact ⟨by rw [HRR.out]; rfl, HB.out⟩
end Go.Proofs.YtfcpblclfgkdjaaDoor
