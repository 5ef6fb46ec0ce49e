/-
  tag: what may stand in a tag, a tag; slices.IndexFunc and ContainsFunc over constraints; right: walked.
-/
import Derived.RegionCalls
import Derived.Deep.RegionHeld3
import Derived.Shelf.Abstract
import Derived.Test.YtagaoilgnhdebaaDoorTgB
namespace Go.Proofs.YtagaoilgnhdebaaDoor
set_option linter.unusedSimpArgs false
set_option linter.unusedVariables false
open Go.RowKit

set_option maxHeartbeats 400000 in
theorem may_any (c : Int) (w : World) :
    Calls Tryd.prog 49 #[.int .i32 c] w fun e w' => e = .returned (.bool (mayT c)) ∧ w' = w := by
  go_enter Tryd.func49, Tryd.ntmps49
  go_wp2
  all_goals
    go_ret
    refine ⟨ret_bool ?_, rfl⟩
    rw [Bool.eq_iff_iff]; simp [mayT, figureI]; try omega

theorem may_rune {c : UInt8} {r : Nat} (h : (c.toNat < 128 ∧ r = c.toNat) ∨ (128 ≤ c.toNat ∧ 128 ≤ r)) : mayT (r : Int) = mayTB c := by
  unfold mayTB
  rcases h with ⟨_, rfl⟩ | ⟨h1, h2⟩
  · rfl
  · have a : mayT (r : Int) = false := by cases e : mayT (r : Int) with | false => rfl | true => have := mayT_lt e; omega
    have b : mayT (c.toNat : Int) = false := by cases e : mayT (c.toNat : Int) with | false => rfl | true => have := mayT_lt e; omega
    rw [a, b]
theorem mayTB_lt {c : UInt8} (h : mayTB c = true) : c.toNat < 128 := by have := mayT_lt h; omega
theorem all_from {l : List UInt8} {p : UInt8 → Bool} {k : Nat} (hk : k < l.length) : (l.drop k).all p = (p l[k] && (l.drop (k + 1)).all p) := by rw [drop_at hk]; rfl

set_option maxHeartbeats 1000000 in
theorem tagged_any (l : List UInt8) (w : World) (hl : l.length ≤ 9223372036854775807) :
    Calls Tryd.prog 34 #[.string ⟨l.toArray⟩] w fun e w' => e = .returned (.bool (tagB l)) ∧ Below w.heap.size w w' := by
  go_enter Tryd.func34, Tryd.ntmps34
  go_wp2_with fail
  go_loopw [4] (fun _ wr => ∃ k : Nat, k ≤ l.length ∧ wr = w.iter ⟨l.toArray⟩ k ∧ l.all mayTB = (l.drop k).all mayTB) (fun _ wr => l.length - wr.iterPos w.heap.size)
  case atStart => exact ⟨0, by omega, rfl, by simp⟩
  case round =>
    obtain ⟨k, hk, rfl, hrel⟩ := hrel
    by_cases hlt : k < l.length
    · obtain ⟨r, n, hd, hn, hr, hc⟩ := rune_at l k hlt
      have hnx : ∀ ty, (Instr.next (.pointer (some ⟨w.heap.size, 0, none⟩)) true ty).run Tryd.prog (w.iter ⟨l.toArray⟩ k) = _ := fun ty => next_at w l k hlt r n hd ty
      have hfi : mayT (r : Int) = mayTB l[k] := may_rune (by omega)
      rw [all_from hlt] at hrel
      have Hrel := Lib.hid hrel
      have Hc := Lib.hid hc
      have HM := Lib.hid fun wa => may_any (r : Int) wa
      clear hd hrel hc
      cases e2 : mayTB l[k] with
      | true =>
        rw [e2] at hfi
        have Hn : n = 1 := by have := mayTB_lt e2; have := Hc.out; omega
        subst Hn
        have E2 := Lib.hid e2
        rw [hfi] at HM
        clear e2 hfi
        go_wp2_with fail
        refine (HM.out _).mono ?_
        rintro e w' ⟨rfl, h9⟩
        obtain rfl := h9
        go_wp2_with fail
        go_roundw
        case rel => exact ⟨k + 1, by omega, rfl, by rw [Hrel.out, E2.out]; rfl⟩
        case measure => simp; omega
      | false =>
        rw [e2] at hfi
        have hf : tagB l = false := by rw [tagB, Hrel.out, e2]; rfl
        have Hf := Lib.hid hf
        rw [hfi] at HM
        clear hf e2 hfi
        go_wp2_with fail
        refine (HM.out _).mono ?_
        rintro e w' ⟨rfl, h9⟩
        obtain rfl := h9
        go_wp2_with fail
        go_ret
        exact ⟨ret_bool Hf.out.symm, below_iter _ _ _⟩
    · have hnx : ∀ ty, (Instr.next (.pointer (some ⟨w.heap.size, 0, none⟩)) true ty).run Tryd.prog (w.iter ⟨l.toArray⟩ k) = _ := fun ty => next_out w l k hlt ty
      obtain rfl : k = l.length := by omega
      have hf : tagB l = !l.isEmpty := by rw [tagB, hrel]; simp
      have Hf := Lib.hid hf
      clear hf hrel
      cases h0 : l.isEmpty with
      | true =>
        go_wp2_with fail
        go_ret
        exact ⟨ret_bool (by rw [Hf.out, h0]; rfl), below_iter _ _ _⟩
      | false =>
        go_wp2_with fail
        go_ret
        exact ⟨ret_bool (by rw [Hf.out, h0]; rfl), below_iter _ _ _⟩

set_option maxHeartbeats 400000 in
theorem indexFunc_any (kids : List Xp) (a : Option Addr) (c : Nat) (g : Nat) (lb : Array Value) (q : Xp → Bool) (w : World) (eg : Enters Tryd.prog g) (hl : kids.length ≤ 9223372036854775807)
    (hk : Xids w Any a kids) (hso : ∀ t, t ∈ kids → SaysXp Tryd.prog g lb t (q t) w) :
    Calls Tryd.prog 50 #[.slice a kids.length c, .func (.func g) #[] lb] w (FirstAt q kids w) := by
  have HS := Lib.hid hso
  clear hso
  unfold Enters at eg
  go_enter Tryd.func50, Tryd.ntmps50
  go_wp2_with fail
  go_loopw [8] (fun i wr => ∃ k : Nat, k ≤ kids.length ∧ i = .int .i64 k ∧ (kids.take k).any q = false ∧ Below w.heap.size w wr) (fun i _ => kids.length - (intOf i).toNat)
  case atStart => exact ⟨0, by omega, rfl, by simp, Below.refl _ _⟩
  case round =>
    obtain ⟨k, hk1, rfl, hany, hb⟩ := hrel
    have Hany := Lib.hid hany
    clear hany
    by_cases hlt : k < kids.length
    · obtain ⟨b, off, a', c', ha, hB, ⟨h0, h1, h2⟩, hf, hn⟩ := (hk.on hb).get hlt
      subst ha
      have HC := HS.out _ (List.getElem_mem hlt)
      cases hq : q kids[k] with
      | true =>
        rw [hq] at HC
        have HC' := Lib.hid HC
        have Hq := Lib.hid hq
        clear hq HC
        go_wp2_with fail
        refine (HC'.out _ _ _ hb hn hf).mono ?_
        rintro e w1 ⟨rfl, hb1⟩
        go_wp2_with fail
        go_ret
        exact ⟨k, rfl, by rw [any_at hlt Hq.out]; simp, bext hb hb1⟩
      | false =>
        rw [hq] at HC
        have HC' := Lib.hid HC
        have Hq := Lib.hid hq
        clear hq HC
        go_wp2_with fail
        refine (HC'.out _ _ _ hb hn hf).mono ?_
        rintro e w1 ⟨rfl, hb1⟩
        go_wp2_with fail
        go_roundw
        case rel => exact ⟨k + 1, by omega, by go_num, any_take hlt Hany.out Hq.out, bext hb hb1⟩
        case measure => simp [intOf]; omega
    · obtain rfl : k = kids.length := by omega
      go_wp2_with fail
      go_ret
      refine ⟨-1, rfl, ?_, hb⟩
      have := Hany.out
      rw [List.take_length] at this
      rw [this]; decide

set_option maxHeartbeats 400000 in
theorem containsFunc_any (kids : List Xp) (a : Option Addr) (c : Nat) (g : Nat) (lb : Array Value) (q : Xp → Bool) (w : World) (eg : Enters Tryd.prog g) (hl : kids.length ≤ 9223372036854775807)
    (hk : Xids w Any a kids) (hso : ∀ t, t ∈ kids → SaysXp Tryd.prog g lb t (q t) w) :
    Calls Tryd.prog 35 #[.slice a kids.length c, .func (.func g) #[] lb] w fun e w' => e = .returned (.bool (kids.any q)) ∧ Below w.heap.size w w' := by
  have H := indexFunc_any kids a c g lb q w eg hl hk hso
  clear hso hk
  go_enter Tryd.func35, Tryd.ntmps35
  go_wp2_with fail
  refine H.mono ?_
  rintro e w' ⟨i, rfl, hi, hb⟩
  go_wp2_with fail
  go_ret
  exact ⟨rfl, hb⟩

end Go.Proofs.YtagaoilgnhdebaaDoor
