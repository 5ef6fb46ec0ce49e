/-
  ver: signs, walked: figure, what may stand in a path, a blank; all.
-/
import Derived.Test.YtgldnkpanimihaaDoorBgT
namespace Go.Proofs.YtgldnkpanimihaaDoor
set_option linter.unusedSimpArgs false
set_option linter.unusedVariables false
open Go.RowKit

def mayI (c : Int) : Bool := decide (97 ≤ c) && decide (c ≤ 122) || (decide (65 ≤ c) && decide (c ≤ 90) || (figureI c || (decide (c = 95) || (decide (c = 45) || decide (c = 46)))))
def mayB (c : UInt8) : Bool := mayI c.toNat
def blankI (c : Int) : Bool := decide (c = 32) || (decide (c = 9) || decide (c = 13))
def blankB (c : UInt8) : Bool := blankI c.toNat
theorem mayI_lt {c : Int} (h : mayI c = true) : c < 128 := by
  simp [mayI, figureI] at h; omega
theorem blankI_lt {c : Int} (h : blankI c = true) : c < 128 := by
  simp [blankI] at h; omega

set_option maxHeartbeats 400000 in
theorem figure_any (c : Int) (w : World) :
    Calls Tryd.prog 23 #[.int .i32 c] w fun e w' => e = .returned (.bool (figureI c)) ∧ w = w' := by
  go_enter Tryd.func23, Tryd.ntmps23
  go_wp2
  all_goals
    go_ret
    refine ⟨ret_bool ?_, rfl⟩
    rw [Bool.eq_iff_iff]; simp [figureI]; try omega
set_option maxHeartbeats 2000000 in
theorem may_any (c : Int) (w : World) :
    Calls Tryd.prog 22 #[.int .i32 c] w fun e w' => e = .returned (.bool (mayI c)) ∧ w = w' := by
  have HF := Lib.hid (figure_any c w)
  cases hf : figureI c with
  | true =>
    rw [hf] at HF
    have H1 := Lib.hid (show mayI c = true by simp [mayI, hf])
    clear hf
    go_enter Tryd.func22, Tryd.ntmps22
    go_wp2_with (go_at_call 23; refine HF.out.mono ?_; rintro e w' ⟨rfl, h9⟩; obtain rfl := h9.symm)
    all_goals
      go_ret
      refine ⟨ret_bool ?_, rfl⟩
      rw [H1.out]
  | false =>
    rw [hf] at HF
    have H1 := Lib.hid (show mayI c = (decide (97 ≤ c) && decide (c ≤ 122) || (decide (65 ≤ c) && decide (c ≤ 90) || (decide (c = 95) || (decide (c = 45) || decide (c = 46))))) by simp [mayI, hf])
    clear hf
    go_enter Tryd.func22, Tryd.ntmps22
    go_wp2_with (go_at_call 23; refine HF.out.mono ?_; rintro e w' ⟨rfl, h9⟩; obtain rfl := h9.symm)
    all_goals
      go_ret
      refine ⟨ret_bool ?_, rfl⟩
      rw [H1.out, Bool.eq_iff_iff]; simp; try omega
set_option maxHeartbeats 400000 in
theorem blank_any (c : Int) (w : World) :
    Calls Tryd.prog 40 #[.int .i32 c] w fun e w' => e = .returned (.bool (blankI c)) ∧ w = w' := by
  go_enter Tryd.func40, Tryd.ntmps40
  go_wp2
  all_goals
    go_ret
    refine ⟨ret_bool ?_, rfl⟩
    rw [Bool.eq_iff_iff]; simp [blankI]; try omega

theorem all_from {l : List UInt8} {p : UInt8 → Bool} {k : Nat} (hk : k < l.length) : (l.drop k).all p = (p l[k] && (l.drop (k + 1)).all p) := by rw [drop_at hk]; rfl
theorem rune_is {p : Int → Bool} (hp : ∀ c, p c = true → c < 128) {c : UInt8} {r : Nat} (h : (c.toNat < 128 ∧ r = c.toNat) ∨ (128 ≤ c.toNat ∧ 128 ≤ r)) : p (r : Int) = p c.toNat := by
  rcases h with ⟨_, rfl⟩ | ⟨h1, h2⟩
  · rfl
  · have a : p (r : Int) = false := by cases e : p (r : Int) with | false => rfl | true => have := hp _ e; omega
    have b : p (c.toNat : Int) = false := by cases e : p (c.toNat : Int) with | false => rfl | true => have := hp _ e; omega
    rw [a, b]
/-- Are there bytes, all of them so? -/
def allB (p : Int → Bool) (l : List UInt8) : Bool := !l.isEmpty && l.all fun c => p c.toNat

set_option maxRecDepth 100000 in
set_option maxHeartbeats 1000000 in
theorem all_any (g : Nat) (eg : ∀ args w, (callFunc g args).run Tryd.prog w = .ok (.enter g args) w) (p : Int → Bool) (hlt : ∀ c, p c = true → c < 128) (hp : ∀ (c : Int) (w : World), Calls Tryd.prog g #[.int .i32 c] w fun e w' => e = .returned (.bool (p c)) ∧ w = w') (l : List UInt8) (w : World) (hl : l.length ≤ 9223372036854775807) :
    Calls Tryd.prog 25 #[.string ⟨l.toArray⟩, .func (.func g) #[] #[]] w fun e w' => e = .returned (.bool (allB p l)) ∧ Hid (Below w.heap.size w w') := by
  have HP := Lib.hid hp
  clear hp
  go_enter Tryd.func25, Tryd.ntmps25
  go_wp2_with fail
  go_loopw [6] (fun _ wr => ∃ k : Nat, k ≤ l.length ∧ wr = w.iter ⟨l.toArray⟩ k ∧ Hid ((l.all fun c => p c.toNat) = (l.drop k).all fun c => p c.toNat)) (fun _ wr => l.length - wr.iterPos w.heap.size)
  case atStart => exact ⟨0, by omega, rfl, Lib.hid (by simp)⟩
  case round =>
    obtain ⟨k, hk, rfl, hrel⟩ := hrel
    by_cases hlt2 : k < l.length
    · obtain ⟨r, n, hd, hn, hr, hc⟩ := rune_at l k hlt2
      have hnx : ∀ ty, (Instr.next (.pointer (some ⟨w.heap.size, 0, none⟩)) true ty).run Tryd.prog (w.iter ⟨l.toArray⟩ k) = _ := fun ty => next_at w l k hlt2 r n hd ty
      have hpr : p (r : Int) = p l[k].toNat := rune_is hlt (by omega)
      have HC := Lib.hid (HP.out r (w.iter ⟨l.toArray⟩ (k + n)))
      have h1 := hrel.out
      rw [all_from hlt2] at h1
      rw [hpr] at HC
      cases e1 : p l[k].toNat with
      | true =>
        have h2 := hlt _ e1
        obtain rfl : n = 1 := by omega
        rw [e1] at h1 HC
        have Hrel := Lib.hid h1
        clear h1 hd hc hpr e1 h2 hrel
        go_wp2_with fail
        refine HC.out.mono ?_
        rintro e w' ⟨rfl, h9⟩
        obtain rfl := h9
        go_wp2
        go_roundw
        case rel => exact ⟨k + 1, by omega, rfl, Lib.hid (by rw [Hrel.out]; simp)⟩
        case measure => simp; omega
      | false =>
        rw [e1] at h1 HC
        have Hf := Lib.hid (show allB p l = false by unfold allB; rw [h1]; simp)
        clear h1 hd hc hpr e1 hrel
        go_wp2_with fail
        refine HC.out.mono ?_
        rintro e w' ⟨rfl, h9⟩
        obtain rfl := h9
        go_wp2
        go_ret
        exact ⟨ret_bool Hf.out.symm, Lib.hid (below_iter _ _ _)⟩
    · have hnx : ∀ ty, (Instr.next (.pointer (some ⟨w.heap.size, 0, none⟩)) true ty).run Tryd.prog (w.iter ⟨l.toArray⟩ k) = _ := fun ty => next_out w l k hlt2 ty
      obtain rfl : k = l.length := by omega
      have Hf := Lib.hid (show allB p l = (l != []) by
        have h1 := hrel.out
        unfold allB
        rw [h1]
        cases l <;> simp)
      clear hrel
      go_wp2
      go_ret
      exact ⟨ret_bool (by rw [Hf.out]; cases l <;> rfl), Lib.hid (below_iter _ _ _)⟩
end Go.Proofs.YtgldnkpanimihaaDoor
