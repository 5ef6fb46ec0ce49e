/-
  names.With, walked, where there is one.
-/
import Derived.Test.YtfcpblclfgkdjaaDoorNmE
namespace Go.Proofs.YtfcpblclfgkdjaaDoor
set_option linter.unusedSimpArgs false
set_option linter.unusedVariables false
open Go.RowKit

def WithAt (l : List Ty) (N : List UInt8) (k : Nat) (O : List UInt8) : Prop := ∃ s, letsT (l.take k) = some s ∧ O = N ++ s ∧ s.length ≤ tysLen l
theorem withAt_next {l : List Ty} {N : List UInt8} {k : Nat} {O : List UInt8} (h : WithAt l N k O) (hk : k < l.length) (hx : letT l[k] ≠ []) (hb : tysLen l ≤ 1000000000000000000) : WithAt l N (k + 1) (O ++ letT l[k]) := by
  obtain ⟨s, h1, rfl, h3⟩ := h
  have e : letsT (l.take (k + 1)) = some (s ++ letT l[k]) := by
    rw [List.take_succ_eq_append_getElem hk, lets_snoc, h1]; simp [hx]
  refine ⟨s ++ letT l[k], e, by simp, ?_⟩
  have hle : tysLen (l.take (k + 1)) ≤ tysLen l := by
    have := tysLen_app (l.take (k + 1)) (l.drop (k + 1))
    rw [List.take_append_drop] at this; omega
  have := lets_len (l := l.take (k + 1)) (fun t ht => let_len t (by have := tysLen_mem (List.mem_of_mem_take ht); omega)) _ e
  omega
theorem lets_some {l : List Ty} {s : List UInt8} (h : letsT l = some s) : ∀ t, t ∈ l → letT t ≠ [] := by
  induction l generalizing s with
  | nil => intro t ht; cases ht
  | cons x l ih =>
    intro t ht
    rw [letsT_cons] at h
    by_cases hx : letT x = []
    · rw [if_pos hx] at h; cases h
    · rw [if_neg hx] at h
      cases e : letsT l with
      | none => rw [e] at h; cases h
      | some s2 =>
        rcases List.mem_cons.1 ht with rfl | ht
        · exact hx
        · exact ih e t ht

set_option maxHeartbeats 4000000 in
theorem with_any (j nm s : List UInt8) (l : List Ty) (a : Option Addr) (c : Nat) (w : World) (hT : Tab w) (hk : Tids w Any a l) (hl : l.length ≤ 9223372036854775807) (h0 : l ≠ []) (hb : tysLen l ≤ 1000000000000000000) (hj : jointedB j = true) (hs : letsT l = some s) (hjl : j.length ≤ 1000000000000000000) (hnl : nm.length ≤ 1000000000000000000) :
    Calls Tryd.prog 13 #[.string ⟨j.toArray⟩, .string ⟨nm.toArray⟩, .slice a l.length c] w fun e w' => e = .returned (.string ⟨(nm ++ j ++ s).toArray⟩) ∧ Below w.heap.size w w' := by
  have HK := Lib.hid hk
  have HT := Lib.hid hT
  have hjo := jointed_any j w (by omega)
  rw [hj] at hjo
  have HJO := Lib.hid hjo
  have n0 : ((l.length : Int) == 0) = false := by simp; intro h; exact h0 h
  have hcat := ncat nm j
  have hcl : nm.length + j.length ≤ 9223372036854775807 := by omega
  have HS := Lib.hid hs
  have HR0 := Lib.hid (show WithAt l (nm ++ j) 0 (nm ++ j) from ⟨[], by rw [List.take_zero, letsT], by simp, by simp⟩)
  have hNl : (nm ++ j).length ≤ 2000000000000000000 := by simp; omega
  obtain ⟨N, hN⟩ : ∃ N, nm ++ j = N := ⟨_, rfl⟩
  rw [hN] at hcat HR0 hNl ⊢
  clear hk hT hjo hs hN hj h0
  go_enter Tryd.func13, Tryd.ntmps13
  go_wp2_with fail
  refine HJO.out.mono ?_
  rintro e w1 ⟨rfl, hb1⟩
  have HB1 := Lib.hid hb1
  clear hb1
  go_wp2_with fail
  go_loopw [7, 24] (fun o i wr => ∃ (k : Nat) (O : List UInt8), k ≤ l.length ∧ i = .int .i64 k ∧ o = .string ⟨O.toArray⟩ ∧ Hid (WithAt l N k O) ∧ Hid (Below w.heap.size w wr)) (fun _ i _ => l.length - (intOf i).toNat)
  case atStart => exact ⟨0, N, by omega, rfl, rfl, HR0, HB1⟩
  case round =>
    obtain ⟨k, O, hk, rfl, rfl, HR, HB⟩ := hrel
    by_cases hlt : k < l.length
    · obtain ⟨b, off, a', c', ha, -, ⟨h0, h1, h2⟩, hf, hn⟩ := (HK.out.on HB.out).get hlt
      subst ha
      have hO : O.length ≤ 3000000000000000000 := by
        obtain ⟨s2, _, rfl, h3⟩ := HR.out
        rw [List.length_append]; omega
      have hmem : tyLen l[k] ≤ 1000000000000000000 := by have := tysLen_mem (List.getElem_mem hlt); omega
      have hX := let_len l[k] (by omega)
      have HC := Letters_any l[k]
      have hne := lets_some HS.out _ (List.getElem_mem hlt)
      have HN := Lib.hid (withAt_next HR.out hlt hne hb)
      have HA := Lib.hid (fun o => HC a' c' (wr.alloc o) (HT.out.on (bext HB.out (below_alloc wr o))) (hn.on (below_alloc wr o)) hf hmem)
      have hOX : O.length + (letT l[k]).length ≤ 9223372036854775807 := by omega
      obtain ⟨X, hX2⟩ : ∃ X, letT l[k] = X := ⟨_, rfl⟩
      rw [hX2] at HA HN hX hOX hne
      have HOX := ncat O X
      have hne2 : X.isEmpty = false := by
        cases X with
        | nil => exact absurd rfl hne
        | cons x r => rfl
      clear HC hX2 hf hn hX hmem hne hO
      go_wp2_with fail
      refine (HA.out _).mono ?_
      rintro e w2 ⟨rfl, hb2⟩
      have HB2 := Lib.hid (bext HB.out (bext (below_alloc wr _) hb2))
      clear hb2 HA
      go_wp2_with fail
      go_roundw
      case rel => exact ⟨k + 1, O ++ X, by omega, by go_num, by rw [← HOX], HN, HB2⟩
      case measure => simp [intOf]; omega
    · obtain rfl : k = l.length := by omega
      have hO : O = N ++ s := by
        obtain ⟨s2, h1, rfl, _⟩ := HR.out
        rw [List.take_length, HS.out] at h1
        cases h1; rfl
      subst hO
      go_wp2_with fail
      go_ret
      exact ⟨rfl, HB.out⟩

/-! What the chapter's examples are. -/
def tN : Ty := .mk 1 nInt []
def tS : Ty := .mk 1 nStr []
def tA : Ty := .mk 5 [] [tN]
theorem lets_ex : letsT [tA, tS] = some [115, 105, 116] := by
  have e0 : letsT [] = some [] := by rw [letsT]
  have e1 : letT tN = [105] := by rw [tN, letT_mk, if_pos ⟨rfl, rfl⟩]; rfl
  have e2 : letT tS = [116] := by rw [tS, letT_mk, if_pos ⟨rfl, rfl⟩]; rfl
  have e3 : letsT [tN] = some [105] := by rw [letsT_cons, e1, if_neg (by simp), e0]; rfl
  have e4 : letT tA = [115, 105] := by rw [tA, letT_mk, if_neg (by decide), if_neg (by decide), e3]; rfl
  rw [letsT_cons, e4, if_neg (by simp), letsT_cons, e2, if_neg (by simp), e0]; rfl
theorem joint_ex : List.replicate (jlong [[97, 95, 98]] 1 + 1) (95 : UInt8) = [95, 95] := by decide +kernel
theorem jointed_ex : jointedB [95, 95] = true := by decide +kernel
end Go.Proofs.YtfcpblclfgkdjaaDoor
