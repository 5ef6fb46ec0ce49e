/-
  tag: a tag's version as the document tells it: the same number; walked.
-/
import Derived.Test.YtagaoilgnhdebaaDoorTgN
import Derived.Test.YtagaoilgnhdebaaDoorTgJ
namespace Go.Proofs.YtagaoilgnhdebaaDoor
set_option linter.unusedSimpArgs false
set_option linter.unusedVariables false
open Go.RowKit

def figB (c : UInt8) : Bool := decide (48 ≤ c.toNat) && decide (c.toNat ≤ 57)
theorem figB_iff {c : UInt8} : figB c = true ↔ 48 ≤ c.toNat ∧ c.toNat ≤ 57 := by simp [figB]
/-- Figures read. -/
def vl (l : List UInt8) : Int := l.foldl (fun a c => 10 * a + ((c.toNat : Int) - 48)) 0
theorem vl_snoc (l : List UInt8) (c : UInt8) : vl (l ++ [c]) = 10 * vl l + ((c.toNat : Int) - 48) := by simp [vl]
def rnum (D : List UInt8) : Int := if (D.length = 1 ∨ D.length = 2) ∧ D.all figB = true ∧ ¬ (D.length = 2 ∧ D.head? = some 48) then vl D else -1
theorem num_dec : ∀ n : Nat, n < 100 → numV (Lib.decDigits n) = n ∧ rnum (Lib.decDigits n) = n := by decide +kernel
theorem itoa_dec : ∀ n : Nat, n < 100 → Lib.itoa (n : Int) = Lib.decDigits n := by decide +kernel
theorem fig_fin {a : UInt8} (h : figB a = true) : ∃ i : Fin 10, a = UInt8.ofNat (48 + i.val) := by
  have := figB_iff.1 h
  refine ⟨⟨a.toNat - 48, by omega⟩, UInt8.toNat_inj.1 ?_⟩
  simp
  omega
theorem dec_one : ∀ i : Fin 10, [UInt8.ofNat (48 + i.val)] = Lib.decDigits i.val := by decide +kernel
theorem dec_two : ∀ i j : Fin 10, i.val ≠ 0 → [UInt8.ofNat (48 + i.val), UInt8.ofNat (48 + j.val)] = Lib.decDigits (10 * i.val + j.val) := by decide +kernel
theorem numV_inv (D : List UInt8) : numV D = -1 ∨ ∃ n : Nat, n < 100 ∧ D = Lib.decDigits n := by
  rcases numV_cases D with ⟨v, _, _, h | ⟨h0, h | ⟨h1, h | h⟩⟩⟩ | h
  · exact .inl h.2
  · exact .inl h.2
  · exact .inl h.2
  · refine .inr ⟨v.toNat, by omega, ?_⟩
    rw [← itoa_dec v.toNat (by omega), ← h0]
    congr 1; omega
  · exact .inl h.2
theorem rnum_inv (D : List UInt8) : rnum D = -1 ∨ ∃ n : Nat, n < 100 ∧ D = Lib.decDigits n := by
  unfold rnum
  by_cases h : (D.length = 1 ∨ D.length = 2) ∧ D.all figB = true ∧ ¬ (D.length = 2 ∧ D.head? = some 48)
  · right
    obtain ⟨hl, hf, hz⟩ := h
    match D, hl with
    | [a], _ =>
      obtain ⟨i, rfl⟩ := fig_fin (a := a) (by simpa using hf)
      exact ⟨i.val, by omega, dec_one i⟩
    | [a, b], _ =>
      simp only [List.all_cons, List.all_nil, Bool.and_true, Bool.and_eq_true] at hf
      obtain ⟨i, rfl⟩ := fig_fin hf.1
      obtain ⟨j, rfl⟩ := fig_fin hf.2
      have hi : i.val ≠ 0 := by
        intro e
        exact hz ⟨rfl, by rw [List.head?_cons, e]; rfl⟩
      exact ⟨10 * i.val + j.val, by omega, dec_two i j hi⟩
  · exact .inl (if_neg h)
theorem numV_rnum (D : List UInt8) : numV D = rnum D := by
  rcases numV_inv D with h | ⟨n, hn, rfl⟩
  · rcases rnum_inv D with h2 | ⟨n, hn, rfl⟩
    · rw [h, h2]
    · have := num_dec n hn; rw [this.1, this.2]
  · have := num_dec n hn; rw [this.1, this.2]
theorem verT_rnum (s : List UInt8) : verT s = if s.take 4 = [103, 111, 49, 46] then rnum (s.drop 4) else -1 := by
  rw [verT_eq, numV_rnum]
  by_cases h : s.take 4 = [103, 111, 49, 46]
  · rw [if_pos h, if_pos]
    exact List.isPrefixOf_iff_prefix.2 ⟨s.drop 4, by rw [← h]; exact List.take_append_drop 4 s⟩
  · rw [if_neg h, if_neg]
    intro h2
    obtain ⟨r, hr⟩ := List.isPrefixOf_iff_prefix.1 (show ([103, 111, 49, 46] : List UInt8).isPrefixOf s = true from h2)
    exact h (by rw [← hr]; rfl)
theorem str_ext (s : List UInt8) (b : Nat) : (⟨s.toArray⟩ : ByteArray).extract 0 b = ⟨(s.take b).toArray⟩ := by rw [ByteArray.extract_mk]; simp

def RVer (s : List UInt8) (w : World) (e : Ending) (w' : World) : Prop := e = .returned (.int .i64 (verT s)) ∧ w = w'
set_option maxHeartbeats 4000000 in
theorem rversion_out (s : List UInt8) (w : World) (h : (s.length : Int) < 5 ∨ (¬ (s.length : Int) < 5 ∧ 6 < (s.length : Int))) (hl : s.length ≤ 140737488351232) : Calls Tryd.prog 29 #[.string ⟨s.toArray⟩] w (RVer s w) := by
  have hv : verT s = -1 := by
    rw [verT_rnum]
    split
    · unfold rnum
      rw [if_neg]
      rintro ⟨h1, _⟩
      rw [List.length_drop] at h1
      omega
    · rfl
  unfold RVer
  rw [hv]
  clear hv
  rcases h with h | ⟨h1, h2⟩
  · go_enter Tryd.func29, Tryd.ntmps29
    go_wp2_with fail
    refine bodyPost_ret (v := .int .i64 (-1)) (by simp [results, Tryd.results29, go_sem]) rfl ⟨rfl, rfl⟩
  · go_enter Tryd.func29, Tryd.ntmps29
    go_wp2_with fail
    refine bodyPost_ret (v := .int .i64 (-1)) (by simp [results, Tryd.results29, go_sem]) rfl ⟨rfl, rfl⟩

set_option maxHeartbeats 4000000 in
theorem rversion_other (s : List UInt8) (w : World) (h1 : ¬ (s.length : Int) < 5) (h2 : ¬ 6 < (s.length : Int)) (h : ¬ s.take 4 = [103, 111, 49, 46]) : Calls Tryd.prog 29 #[.string ⟨s.toArray⟩] w (RVer s w) := by
  have hv : verT s = -1 := by rw [verT_rnum, if_neg h]
  unfold RVer
  rw [hv]
  have he := str_ext s 4
  have hn : (s.take 4 == [103, 111, 49, 46]) = false := by simpa using h
  have hn2 : (s.take 4 != [103, 111, 49, 46]) = true := by simp [bne, hn]
  have h4 : 4 ≤ s.length := by omega
  obtain ⟨P, hP⟩ : ∃ P, s.take 4 = P := ⟨_, rfl⟩
  rw [hP] at he hn hn2 h
  clear hv hP
  go_enter Tryd.func29, Tryd.ntmps29
  go_wp2_with fail
  refine bodyPost_ret (v := .int .i64 (-1)) (by simp [results, Tryd.results29, go_sem]) rfl ⟨rfl, rfl⟩

set_option maxRecDepth 100000 in
set_option maxHeartbeats 8000000 in
theorem rversion_in (s D : List UInt8) (w : World) (hs : s = [103, 111, 49, 46] ++ D) (hl : D.length = 1 ∨ D.length = 2) : Calls Tryd.prog 29 #[.string ⟨s.toArray⟩] w (RVer s w) := by
  have hlen : s.length = D.length + 4 := by rw [hs]; simp
  have h1 : ¬ (s.length : Int) < 5 := by omega
  have h2 : ¬ 6 < (s.length : Int) := by omega
  have hv : verT s = rnum D := by rw [verT_rnum, hs]; simp
  have he : (⟨s.toArray⟩ : ByteArray).extract 0 4 = ⟨#[103, 111, 49, 46]⟩ := by rw [str_ext, hs]; rfl
  have h4 : 4 ≤ s.length := by omega
  have hby0 : ∀ j (hj : j < D.length) h', (⟨s.toArray⟩ : ByteArray)[4 + j]'h' = D[j] := fun j hj h' => by
    rw [byte_at s (4 + j) (by omega)]
    simp only [hs]
    rw [List.getElem_append_right (by simp)]
    simp
  have HBY := Lib.hid hby0
  have HRN := Lib.hid (show verT s = if (D.length = 1 ∨ D.length = 2) ∧ D.all figB = true ∧ ¬ (D.length = 2 ∧ D.head? = some 48) then vl D else -1 from hv)
  have HLN := Lib.hid hlen
  have HL := Lib.hid hl
  obtain ⟨V, hV⟩ : ∃ V, verT s = V := ⟨_, rfl⟩
  unfold RVer
  rw [hV] at HRN ⊢
  clear hv hV hby0 hs
  obtain ⟨n, hn⟩ : ∃ n, s.length = n := ⟨_, rfl⟩
  have HN := Lib.hid hn
  go_enter Tryd.func29, Tryd.ntmps29
  go_wp2_with fail
  go_loopw [3, 4] (fun v i wr => ∃ j : Nat, j ≤ D.length ∧ i = .int .i64 ((4 + j : Nat) : Int) ∧ v = .int .i64 (vl (D.take j)) ∧ (D.take j).all figB = true ∧ 0 ≤ vl (D.take j) ∧ vl (D.take j) ≤ 99 ∧ wr = w) (fun _ i _ => s.length - (intOf i).toNat)
  case atStart => exact ⟨0, by omega, rfl, by simp [vl], by simp, by simp [vl], by simp [vl], rfl⟩
  case round =>
    obtain ⟨j, hj1, rfl, rfl, hf, hv0, hv9, rfl⟩ := hrel
    have HF := Lib.hid hf
    clear hf
    have hln := HLN.out
    by_cases hlt : j < D.length
    · obtain ⟨d, hd⟩ : ∃ d, D[j] = d := ⟨_, rfl⟩
      have hd2 := d.toNat_lt
      have hby : ∀ h', (⟨s.toArray⟩ : ByteArray)[4 + j]'h' = d := fun h' => (HBY.out j hlt h').trans hd
      have hji : ((4 + j : Nat) : Int) < (s.length : Int) := by omega
      by_cases h48 : (d.toNat : Int) < 48
      · have HV := Lib.hid (show V = -1 by
          rw [HRN.out, if_neg]
          rintro ⟨_, h, _⟩
          have := List.all_eq_true.1 h d (by rw [← hd]; exact List.getElem_mem hlt)
          rw [figB_iff] at this; omega)
        clear hd
        go_wp2_with fail
        refine bodyPost_ret (v := .int .i64 (-1)) (by simp [results, Tryd.results29, go_sem]) rfl ⟨by rw [HV.out], rfl⟩
      by_cases h57 : (57 : Int) < d.toNat
      · have HV := Lib.hid (show V = -1 by
          rw [HRN.out, if_neg]
          rintro ⟨_, h, _⟩
          have := List.all_eq_true.1 h d (by rw [← hd]; exact List.getElem_mem hlt)
          rw [figB_iff] at this; omega)
        clear hd
        go_wp2_with fail
        refine bodyPost_ret (v := .int .i64 (-1)) (by simp [results, Tryd.results29, go_sem]) rfl ⟨by rw [HV.out], rfl⟩
      have hfd : figB d = true := by rw [figB_iff]; omega
      have htk : D.take (j + 1) = D.take j ++ [d] := by rw [List.take_succ_eq_append_getElem hlt, hd]
      have hvl : vl (D.take (j + 1)) = 10 * vl (D.take j) + ((d.toNat : Int) - 48) := by rw [htk, vl_snoc]
      have hall : (D.take (j + 1)).all figB = true := by rw [htk, List.all_append, HF.out]; simp [hfd]
      have hj2 : j < 2 := by have := HL.out; omega
      have h10 : vl (D.take j) ≤ 9 := by
        rcases (show j = 0 ∨ j = 1 by omega) with rfl | rfl
        · simp [vl]
        · match D, hlt, HF.out with
          | a :: t, _, h1 =>
            simp only [List.take_succ_cons, List.take_zero, List.all_cons, List.all_nil, Bool.and_true] at h1 ⊢
            have := figB_iff.1 h1
            simp [vl]; omega
      obtain ⟨X, hX⟩ : ∃ X, vl (D.take j) = X := ⟨_, rfl⟩
      rw [hX] at hvl hv0 hv9 h10 ⊢
      have hw8 : IntKind.u8.wrap ((d.toNat : Int) - 48) = (d.toNat : Int) - 48 := by
        unfold IntKind.wrap; simp [IntKind.bits, IntKind.signed]; omega
      have HVL := Lib.hid hvl
      have HALL := Lib.hid hall
      clear hd hfd htk hvl hall hX
      go_wp2_with fail
      go_roundw
      case rel => exact ⟨j + 1, by omega, by go_num, by first | (rw [HVL.out]; done) | (rw [HVL.out]; go_num), HALL.out, by rw [HVL.out]; omega, by rw [HVL.out]; omega, trivial⟩
      case measure => simp [intOf]; omega
    · obtain rfl : j = D.length := by omega
      rw [List.take_length] at HF hv0 hv9 ⊢
      by_cases h6 : D.length = 2
      · match D, h6 with
        | [a, b], _ =>
          have hby : ∀ h', (⟨s.toArray⟩ : ByteArray)[4]'h' = a := fun h' => HBY.out 0 (by simp) h'
          have hn6 : (s.length : Int) = 6 := by simp at hln; omega
          have hn6b : ((s.length : Int) == 6) = true := by simpa using hn6
          simp only [List.length_cons, List.length_nil] at hlt ⊢
          by_cases h48 : (a.toNat : Int) = 48
          · have h48b : ((a.toNat : Int) == 48) = true := by simpa using h48
            have HV := Lib.hid (show V = -1 by
              rw [HRN.out, if_neg]
              rintro ⟨_, _, h⟩
              exact h ⟨rfl, by rw [List.head?_cons]; congr 1; apply UInt8.toNat_inj.1; show a.toNat = 48; omega⟩)
            go_wp2_with fail
            refine bodyPost_ret (v := .int .i64 (-1)) (by simp [results, Tryd.results29, go_sem]) rfl ⟨by rw [HV.out], rfl⟩
          · have h48b : ((a.toNat : Int) == 48) = false := by simpa using h48
            have HV := Lib.hid (show V = vl [a, b] by
              rw [HRN.out, if_pos]
              exact ⟨.inr rfl, HF.out, fun h => h48 (by have h2 := h.2; rw [List.head?_cons] at h2; cases h2; rfl)⟩)
            obtain ⟨X, hX⟩ : ∃ X, vl [a, b] = X := ⟨_, rfl⟩
            rw [hX] at HV ⊢
            go_wp2_with fail
            refine bodyPost_ret (v := .int .i64 X) (by simp [results, Tryd.results29, go_sem]) rfl ⟨by rw [HV.out], rfl⟩
      · have hD1 : D.length = 1 := by have := HL.out; omega
        have hn6 : ((s.length : Int) == 6) = false := by simp; omega
        have HV := Lib.hid (show V = vl D by
          rw [HRN.out, if_pos]
          exact ⟨.inl hD1, HF.out, fun h => h6 h.1⟩)
        obtain ⟨X, hX⟩ : ∃ X, vl D = X := ⟨_, rfl⟩
        rw [hX] at HV ⊢
        go_wp2_with fail
        refine bodyPost_ret (v := .int .i64 X) (by simp [results, Tryd.results29, go_sem]) rfl ⟨by rw [HV.out], rfl⟩

theorem rversion_any (s : List UInt8) (w : World) (hl : s.length ≤ 140737488351232) : Calls Tryd.prog 29 #[.string ⟨s.toArray⟩] w (RVer s w) := by
  by_cases h1 : (s.length : Int) < 5
  · exact rversion_out s w (.inl h1) hl
  by_cases h2 : 6 < (s.length : Int)
  · exact rversion_out s w (.inr ⟨h1, h2⟩) hl
  by_cases h : s.take 4 = [103, 111, 49, 46]
  · exact rversion_in s (s.drop 4) w (by rw [← h]; exact (List.take_append_drop 4 s).symm) (by rw [List.length_drop]; omega)
  · exact rversion_other s w h1 h2 h
end Go.Proofs.YtagaoilgnhdebaaDoor
