/-
  tree.empty, slices.IndexFunc and ContainsFunc over nodes, tree.all: what they compute, walked.
-/
import Derived.Test.YtnmebgiiajnnjaaTxt
import Derived.Test.YtnmebgiiajnnjaaNd
namespace Go.Proofs.Ytnmebgiiajnnjaa
set_option linter.unusedSimpArgs false
set_option linter.unusedVariables false
open Go.RowKit
set_option maxHeartbeats 400000 in
theorem empty_any (t : Nd) (a : Option Addr) (c : Nat) (w : World) :
    Calls Try.prog 62 #[.agg #[.int .i64 t.kind, .string ⟨t.text.toArray⟩, .slice a t.kids.length c, .int .i64 t.pos]] w fun e w' => e = .returned (.bool (t.kind == 0 && (t.text.isEmpty && t.kids.isEmpty))) ∧ Below w.heap.size w w' := by
  go_enter Try.func62, Try.ntmps62
  go_wp2
  all_goals
    go_ret
    refine ⟨ret_bool ?_, (Below.refl _ _).alloc (Nat.le_refl _) _⟩
  · simp_all [len_zero]
  · simp_all
  · simp_all

set_option maxHeartbeats 400000 in
theorem indexFunc_any (kids : List Nd) (a : Option Addr) (c : Nat) (g : Nat) (lb : Array Value) (q : Nd → Bool) (w : World) (eg : Enters Try.prog g) (hl : kids.length ≤ 9223372036854775807)
    (hk : Kids w w.heap.size a kids) (hso : ∀ t, t ∈ kids → SaysNd Try.prog g lb t (q t) w) :
    Calls Try.prog 67 #[.slice a kids.length c, .func (.func g) #[] lb] w (FirstAt q kids w) := by
  have HS := Lib.hid hso
  clear hso
  unfold Enters at eg
  go_enter Try.func67, Try.ntmps67
  go_wp2_with fail
  go_loopw [8] (fun i wr => ∃ k : Nat, k ≤ kids.length ∧ i = .int .i64 k ∧ (kids.take k).any q = false ∧ Below w.heap.size w wr) (fun i _ => kids.length - (intOf i).toNat)
  case atStart => exact ⟨0, by omega, rfl, by simp, Below.refl _ _⟩
  case round =>
    obtain ⟨k, hk1, rfl, hany, hb⟩ := hrel
    have Hany := Lib.hid hany
    clear hany
    by_cases hlt : k < kids.length
    · obtain ⟨b, off, a', c', ha, hB, ⟨h0, h1, h2, h3⟩, hf, hn⟩ := (hk.on hb).get hlt
      subst ha
      have HC := HS.out _ (List.getElem_mem hlt)
      cases hq : q kids[k] with
      | true =>
        rw [hq] at HC
        have HC' := Lib.hid HC
        have Hq := Lib.hid hq
        clear hq HC
        go_wp2_with fail
        refine (HC'.out _ _ _ hb hn hf).mono ?_
        rintro e w1 ⟨rfl, hb1⟩
        go_wp2_with fail
        go_ret
        exact ⟨k, rfl, by rw [any_at hlt Hq.out]; simp, bext hb hb1⟩
      | false =>
        rw [hq] at HC
        have HC' := Lib.hid HC
        have Hq := Lib.hid hq
        clear hq HC
        go_wp2_with fail
        refine (HC'.out _ _ _ hb hn hf).mono ?_
        rintro e w1 ⟨rfl, hb1⟩
        go_wp2_with fail
        go_roundw
        case rel => exact ⟨k + 1, by omega, by go_num, any_take hlt Hany.out Hq.out, bext hb hb1⟩
        case measure => simp [intOf]; omega
    · obtain rfl : k = kids.length := by omega
      go_wp2_with fail
      go_ret
      refine ⟨-1, rfl, ?_, hb⟩
      have := Hany.out
      rw [List.take_length] at this
      rw [this]; decide

set_option maxHeartbeats 400000 in
theorem containsFunc_any (kids : List Nd) (a : Option Addr) (c : Nat) (g : Nat) (lb : Array Value) (q : Nd → Bool) (w : World) (eg : Enters Try.prog g) (hl : kids.length ≤ 9223372036854775807)
    (hk : Kids w w.heap.size a kids) (hso : ∀ t, t ∈ kids → SaysNd Try.prog g lb t (q t) w) :
    Calls Try.prog 40 #[.slice a kids.length c, .func (.func g) #[] lb] w fun e w' => e = .returned (.bool (kids.any q)) ∧ Below w.heap.size w w' := by
  have H := indexFunc_any kids a c g lb q w eg hl hk hso
  clear hso hk
  go_enter Try.func40, Try.ntmps40
  go_wp2_with fail
  refine H.mono ?_
  rintro e w' ⟨i, rfl, hi, hb⟩
  go_wp2_with fail
  go_ret
  exact ⟨rfl, hb⟩

set_option maxHeartbeats 400000 in
theorem all1_any (t : Nd) (a : Option Addr) (c : Nat) (b : Nat) (g : Nat) (lb : Array Value) (p : Bool) (w : World) (eg : Enters Try.prog g)
    (hc : w.cell? ⟨b, 0, none⟩ = some (.func (.func g) #[] lb)) (hk : Kids w w.heap.size a t.kids) (hf : Fits t c) (hso : SaysNd Try.prog g lb t p w) :
    Calls Try.prog 41 #[.agg #[.int .i64 t.kind, .string ⟨t.text.toArray⟩, .slice a t.kids.length c, .int .i64 t.pos], .pointer (some ⟨b, 0, none⟩)] w fun e w' => e = .returned (.bool (!p)) ∧ Below w.heap.size w w' := by
  have HS := Lib.hid hso
  clear hso
  unfold Enters at eg
  have hlt : b < w.heap.size := cell_lt hc
  go_enter Try.func41, Try.ntmps41
  go_wp2_with fail
  refine (HS.out _ _ _ ?_ ?_ hf).mono ?_
  · exact (Below.refl _ _).alloc (Nat.le_refl _) _
  · exact hk.on ((Below.refl _ _).alloc (Nat.le_refl _) _)
  rintro e w1 ⟨rfl, hb1⟩
  go_wp2_with fail
  go_ret
  exact ⟨rfl, bext ((Below.refl _ _).alloc (Nat.le_refl _) _) hb1⟩

set_option maxHeartbeats 400000 in
theorem all_any (kids : List Nd) (a : Option Addr) (c : Nat) (g : Nat) (lb : Array Value) (p : Nd → Bool) (w : World) (eg : Enters Try.prog g) (hl : kids.length ≤ 9223372036854775807)
    (hk : Kids w w.heap.size a kids) (hso : ∀ t, t ∈ kids → SaysNd Try.prog g lb t (p t) w) :
    Calls Try.prog 33 #[.slice a kids.length c, .func (.func g) #[] lb] w fun e w' => e = .returned (.bool (kids.all p)) ∧ Below w.heap.size w w' := by
  have hb0 := below_alloc w (.cells #[.func (.func g) #[] lb] 30)
  have H := containsFunc_any kids a c 41 #[.pointer (some ⟨w.heap.size, 0, none⟩)] (fun t => !p t) _ (enters_of Try.func41 (by kernel_rfl) rfl) hl (hk.on hb0)
    (fun t ht W a' c' hb hk' hf => all1_any t a' c' w.heap.size g lb (p t) W eg ((hb.cell (p := ⟨w.heap.size, 0, none⟩) (by simp)).trans (cell_new w _ _)) hk' hf (((hso t ht).on hb0).on hb))
  have e : (!(kids.any fun t => !p t)) = kids.all p := not_any_not kids p
  have E := Lib.hid e
  have B0 := Lib.hid hb0
  clear hso hk eg e hb0
  go_enter Try.func33, Try.ntmps33
  go_wp2_with fail
  refine H.mono ?_
  rintro e w' ⟨rfl, hb⟩
  go_wp2_with fail
  go_ret
  exact ⟨ret_bool E.out, bext B0.out hb⟩
end Go.Proofs.Ytnmebgiiajnnjaa
