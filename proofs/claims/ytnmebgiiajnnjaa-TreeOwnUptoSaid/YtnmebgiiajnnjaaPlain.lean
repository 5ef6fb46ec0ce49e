/-
  lit.Plain, walked: plain digits.
-/
import Derived.Test.YtnmebgiiajnnjaaTokW
namespace Go.Proofs.Ytnmebgiiajnnjaa
set_option linter.unusedSimpArgs false
set_option linter.unusedVariables false
open Go.RowKit
theorem all_from {l : List UInt8} {p : UInt8 → Bool} {k : Nat} (hk : k < l.length) : (l.drop k).all p = (p l[k] && (l.drop (k + 1)).all p) := by rw [drop_at hk]; rfl
theorem plain_of {l : List UInt8} {b : Bool} (h : l.all figureB = b) : plainL l = (b && (l == [48] || (!l.isEmpty && (decide (l.length ≤ 200) && !(l.head? == some 48))))) := by rw [plainL, h]
theorem figure_tests (c : Int) : figureI c = (!decide (c < 48) && !decide (57 < c)) := by
  unfold figureI; rw [Bool.eq_iff_iff]; simp

theorem byte_ne (x y : UInt8) : ((x.toNat : Int) != (y.toNat : Int)) = !(x == y) := by
  rw [Bool.eq_iff_iff]
  simp only [bne_iff_ne, ne_eq, Bool.not_eq_true', beq_eq_false_iff_ne]
  constructor
  · intro h e; exact h (by rw [e])
  · intro h e; exact h (UInt8.toNat_inj.1 (by omega))
theorem str_get (l : List UInt8) (k : Nat) (h : k < (⟨l.toArray⟩ : ByteArray).size) : (⟨l.toArray⟩ : ByteArray)[k]'h = l[k]'(by simpa [ByteArray.size] using h) := by simp [ByteArray.getElem_eq_getElem_data]
theorem head_ne (l : List UInt8) (h : 0 < l.length) (h2 : l.length ≤ 200) : ((((⟨l.toArray⟩ : ByteArray)[0]'(by simpa [ByteArray.size] using h)).toNat : Int) != 48) = (false || !false && (decide (l.length ≤ 200) && !l.head? == some 48)) := by
  rw [str_get]
  rcases l with _ | ⟨x, r⟩
  · simp at h
  · have := byte_ne x 48
    simp only [List.getElem_cons_zero, List.head?_cons, h2, decide_true, Bool.true_and, Bool.not_false, Bool.false_or]
    rw [show ((48 : UInt8).toNat : Int) = 48 from rfl] at this
    rw [this]
    rfl

set_option maxHeartbeats 1000000 in
theorem plain_any (l : List UInt8) (w : World) (hl : l.length ≤ 9223372036854775807) :
    Calls Try.prog 52 #[.string ⟨l.toArray⟩] w fun e w' => e = .returned (.bool (plainL l)) ∧ Below w.heap.size w w' := by
  go_enter Try.func52, Try.ntmps52
  go_wp2_with fail
  go_loopw [4] (fun _ wr => ∃ k : Nat, k ≤ l.length ∧ wr = w.iter ⟨l.toArray⟩ k ∧ l.all figureB = (l.drop k).all figureB) (fun _ wr => l.length - wr.iterPos w.heap.size)
  case atStart => exact ⟨0, by omega, rfl, by simp⟩
  case round =>
    obtain ⟨k, hk, rfl, hrel⟩ := hrel
    by_cases hlt : k < l.length
    · obtain ⟨r, n, hd, hn, hr, hc⟩ := rune_at l k hlt
      have hnx : ∀ ty, (Instr.next (.pointer (some ⟨w.heap.size, 0, none⟩)) true ty).run Try.prog (w.iter ⟨l.toArray⟩ k) = _ := fun ty => next_at w l k hlt r n hd ty
      have hfi : figureI (r : Int) = figureB l[k] := figure_rune (by omega)
      rw [all_from hlt] at hrel
      have Hrel := Lib.hid hrel
      have Hc := Lib.hid hc
      clear hd hrel hc
      cases e2 : figureB l[k] with
      | true =>
        rw [e2, figure_tests] at hfi
        simp only [Bool.and_eq_true, Bool.not_eq_true', decide_eq_false_iff_not] at hfi
        obtain ⟨f1, f2⟩ := hfi
        have Hn : n = 1 := by have := figureB_lt e2; have := Hc.out; omega
        subst Hn
        have E2 := Lib.hid e2
        clear e2
        go_wp2_with fail
        go_roundw
        case rel => exact ⟨k + 1, by omega, rfl, by rw [Hrel.out, E2.out]; rfl⟩
        case measure => simp; omega
      | false =>
        rw [e2, figure_tests] at hfi
        have hf : plainL l = false := by rw [plain_of Hrel.out, e2]; rfl
        have Hf := Lib.hid hf
        clear hf e2
        by_cases h1 : (r : Int) < 48
        · clear hfi
          go_wp2_with fail
          go_ret
          exact ⟨ret_bool Hf.out.symm, below_iter _ _ _⟩
        · have h2 : (57 : Int) < r := by simp [h1] at hfi; omega
          clear hfi
          go_wp2_with fail
          go_ret
          exact ⟨ret_bool Hf.out.symm, below_iter _ _ _⟩
    · have hnx : ∀ ty, (Instr.next (.pointer (some ⟨w.heap.size, 0, none⟩)) true ty).run Try.prog (w.iter ⟨l.toArray⟩ k) = _ := fun ty => next_out w l k hlt ty
      obtain rfl : k = l.length := by omega
      have hf : plainL l = (l == [48] || (!l.isEmpty && (decide (l.length ≤ 200) && !(l.head? == some 48)))) := by rw [plain_of hrel]; simp
      have Hf := Lib.hid hf
      clear hf hrel
      cases h0 : (l == [48]) with
      | true =>
        go_wp2_with fail
        go_ret
        exact ⟨ret_bool (by rw [Hf.out, h0]; rfl), below_iter _ _ _⟩
      | false =>
        cases hi : l.isEmpty with
        | true =>
          go_wp2_with fail
          go_ret
          exact ⟨ret_bool (by rw [Hf.out, h0, hi]; rfl), below_iter _ _ _⟩
        | false =>
          by_cases h2 : l.length ≤ 200
          · have h3 : 0 < l.length := by cases l <;> simp_all
            go_wp2_with fail
            go_ret
            refine ⟨ret_bool ?_, below_iter _ _ _⟩
            rw [Hf.out, h0, hi]
            exact head_ne l h3 h2
          · go_wp2_with fail
            go_ret
            exact ⟨ret_bool (by rw [Hf.out, h0, hi]; simp; omega), below_iter _ _ _⟩
end Go.Proofs.Ytnmebgiiajnnjaa
