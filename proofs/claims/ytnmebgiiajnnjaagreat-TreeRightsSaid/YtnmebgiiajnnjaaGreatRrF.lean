/-
  the document's Expr: calls, literals, indexes, all; walked. (printed by gen_rr.py)
  the document's Expr: an index; all kinds, walked.
-/
import Derived.Test.YtnmebgiiajnnjaaGreatRrE
namespace Go.Proofs.YtnmebgiiajnnjaaGreat
set_option linter.unusedSimpArgs false
set_option linter.unusedVariables false
open Go.RowKit

theorem Kids.ncons {w : World} {B : Nat} {a : Option Addr} {x1 : Nd} {r : List Nd} (h : Kids w B a (x1 :: r)) : ∃ b off a1 c1, a = some ⟨b, off, none⟩ ∧ (Four w b off x1 a1 c1 ∧ Fits x1 c1 ∧ Kids w B a1 x1.kids) := by
  obtain ⟨b, off, a1, c1, e, -, h1, h2, h3⟩ := h.get (j := 0) (by simp)
  exact ⟨b, off, a1, c1, e, by simpa using h1, by simpa using h2, by simpa using h3⟩
set_option maxRecDepth 100000 in
set_option maxHeartbeats 8000000 in
theorem rexpr_call (ex : Nd → Bool) (n : Nat) (h_ex : Ok 20 ex n) (s : List UInt8) (l : List Nd) (p : Int) (a : Option Addr) (c : Nat) (w : World) (ht : (Nd.mk 21 s l p).height ≤ n + 1) (hg : Glob w) (hk : Kids w w.heap.size a l) (hf : Fits (.mk 21 s l p) c) :
    Calls Tryz.prog 20 #[.agg #[.int .i64 21, .string ⟨s.toArray⟩, .slice a l.length c, .int .i64 p]] w fun e w' => e = .returned (.bool (s.isEmpty && (!l.isEmpty && l.all ex))) ∧ Below w.heap.size w w' := by
  have hkid : ∀ x, x ∈ l → x.height ≤ n := fun x hx => by have := Nd.height_kid (t := .mk 21 s l p) hx; omega
  have hs : s.length ≤ 140737488351232 := hf.2.2.2.2.1
  have hcap : l.length ≤ c := hf.2.2.2.2.2.1
  have hl2 : l.length ≤ 9223372036854775807 := by have := hf.2.2.2.2.2.2.1; omega
  have H_ex := Lib.hid h_ex
  have H_exs := Lib.hid (exs_ok ex n h_ex)
  clear h_ex
  cases l with
  | nil =>
    obtain ⟨wa, hwa, hba, e0, e1, e2, e3⟩ := laid4 w (.int .i64 21) (.string ⟨s.toArray⟩) (.slice a 0 c) (.int .i64 p) 24
    obtain ⟨S, hS⟩ : ∃ S : World → Prop, S = fun W => (W.cell? ⟨w.heap.size, 0, none⟩ = some (.int .i64 21) ∧ W.cell? ⟨w.heap.size, 1, none⟩ = some (.string ⟨s.toArray⟩) ∧ W.cell? ⟨w.heap.size, 2, none⟩ = some (.slice a 0 c) ∧ W.cell? ⟨w.heap.size, 3, none⟩ = some (.int .i64 p)) := ⟨_, rfl⟩
    have HKB := Lib.hid (show Keep S by rw [hS]; exact keep_and (keep_cell _ _) (keep_and (keep_cell _ _) (keep_and (keep_cell _ _) (keep_cell _ _))))
    have HP := Lib.hid (show Nk w n S [] wa from ⟨hba, hg.on hba, by rw [hS]; exact ⟨e0, e1, e2, e3⟩, fun q hq => by cases hq⟩)
    have HS := Lib.hid hS
    clear hg hk hf ht hkid hba hS
    go_enter Tryz.func20, Tryz.ntmps20
    go_wp2_with fail
    all_goals first
      | (have hs0 : s = [] := by assumption
         go_ret
         exact ⟨ret_bool (by rw [hs0]; simp), HP.out.below⟩)
      | (have hs0 : ¬ s = [] := by assumption
         go_ret
         exact ⟨ret_bool (by simp [hs0]), HP.out.below⟩)
  | cons x r =>
    have HKW := Lib.hid hk
    have HHW := Lib.hid hkid
    have HLW := Lib.hid hl2
    obtain ⟨R, hR⟩ : ∃ R, (x :: r).all ex = R := ⟨_, rfl⟩
    have hE : (s.isEmpty && (!(x :: r).isEmpty && (x :: r).all ex)) = (s.isEmpty && R) := by rw [hR]; simp
    rw [hE]
    have HR := Lib.hid hR
    clear hE hR
    obtain ⟨wa, hwa, hba, e0, e1, e2, e3⟩ := laid4 w (.int .i64 21) (.string ⟨s.toArray⟩) (.slice a (r.length + 1) c) (.int .i64 p) 24
    obtain ⟨S, hS⟩ : ∃ S : World → Prop, S = fun W => (W.cell? ⟨w.heap.size, 0, none⟩ = some (.int .i64 21) ∧ W.cell? ⟨w.heap.size, 1, none⟩ = some (.string ⟨s.toArray⟩) ∧ W.cell? ⟨w.heap.size, 2, none⟩ = some (.slice a (r.length + 1) c) ∧ W.cell? ⟨w.heap.size, 3, none⟩ = some (.int .i64 p)) := ⟨_, rfl⟩
    have HKB := Lib.hid (show Keep S by rw [hS]; exact keep_and (keep_cell _ _) (keep_and (keep_cell _ _) (keep_and (keep_cell _ _) (keep_cell _ _))))
    have HP := Lib.hid (show Nk w n S [] wa from ⟨hba, hg.on hba, by rw [hS]; exact ⟨e0, e1, e2, e3⟩, fun q hq => by cases hq⟩)
    have HS := Lib.hid hS
    clear hg hk hf ht hkid hba hS hcap hl2
    have hpos : (0 : Int) < (r.length : Int) + 1 := by omega
    cases hse : s.isEmpty
    all_goals
      go_enter Tryz.func20, Tryz.ntmps20
      go_wp2_with (first
        | (go_at_call 43
           have hx := nk_exs HP.out HKB.out H_exs.out (x :: r) a c HKW.out HHW.out HLW.out
           rw [HR.out] at hx
           refine hx.mono ?_
           rintro e w1 ⟨rfl, h1, HP⟩
           rw [HS.out] at h1
           obtain ⟨e0, e1, e2, e3⟩ := h1))
      all_goals
        go_ret
        exact ⟨ret_bool (by first | rfl | (cases R <;> rfl)), HP.out.below⟩

set_option maxRecDepth 100000 in
set_option maxHeartbeats 8000000 in
theorem rexpr_lit (ty : Nd → Bool) (ex : Nd → Bool) (n : Nat) (hty : ∀ x, ty x = true → x.kind = 10 ∨ x.kind = 11 ∨ x.kind = 12) (h_ty : Ok 19 ty n) (h_ex : Ok 20 ex n) (s : List UInt8) (l : List Nd) (p : Int) (a : Option Addr) (c : Nat) (w : World) (ht : (Nd.mk 24 s l p).height ≤ n + 1) (hg : Glob w) (hk : Kids w w.heap.size a l) (hf : Fits (.mk 24 s l p) c) :
    Calls Tryz.prog 20 #[.agg #[.int .i64 24, .string ⟨s.toArray⟩, .slice a l.length c, .int .i64 p]] w fun e w' => e = .returned (.bool (s.isEmpty && litKids ty ex l)) ∧ Below w.heap.size w w' := by
  have hkid : ∀ x, x ∈ l → x.height ≤ n := fun x hx => by have := Nd.height_kid (t := .mk 24 s l p) hx; omega
  have hs : s.length ≤ 140737488351232 := hf.2.2.2.2.1
  have hcap : l.length ≤ c := hf.2.2.2.2.2.1
  have hl2 : l.length ≤ 9223372036854775807 := by have := hf.2.2.2.2.2.2.1; omega
  have H_ty := Lib.hid h_ty
  have H_ex := Lib.hid h_ex
  have H_exs := Lib.hid (exs_ok ex n h_ex)
  have HTY := Lib.hid hty
  clear h_ex h_ty hty
  cases l with
  | nil =>
    obtain ⟨wa, hwa, hba, e0, e1, e2, e3⟩ := laid4 w (.int .i64 24) (.string ⟨s.toArray⟩) (.slice a 0 c) (.int .i64 p) 24
    obtain ⟨S, hS⟩ : ∃ S : World → Prop, S = fun W => (W.cell? ⟨w.heap.size, 0, none⟩ = some (.int .i64 24) ∧ W.cell? ⟨w.heap.size, 1, none⟩ = some (.string ⟨s.toArray⟩) ∧ W.cell? ⟨w.heap.size, 2, none⟩ = some (.slice a 0 c) ∧ W.cell? ⟨w.heap.size, 3, none⟩ = some (.int .i64 p)) := ⟨_, rfl⟩
    have HKB := Lib.hid (show Keep S by rw [hS]; exact keep_and (keep_cell _ _) (keep_and (keep_cell _ _) (keep_and (keep_cell _ _) (keep_cell _ _))))
    have HP := Lib.hid (show Nk w n S [] wa from ⟨hba, hg.on hba, by rw [hS]; exact ⟨e0, e1, e2, e3⟩, fun q hq => by cases hq⟩)
    have HS := Lib.hid hS
    clear hg hk hf ht hkid hba hS
    go_enter Tryz.func20, Tryz.ntmps20
    go_wp2_with fail
    all_goals
      go_ret
      exact ⟨ret_bool (by first | (simp_all [litKids]; done) | (simp_all [litKids]; omega)), HP.out.below⟩
  | cons x1 r =>
    have HKW := Lib.hid hk
    have HHR := Lib.hid (fun y (hy : y ∈ r) => hkid y (List.mem_cons_of_mem _ hy))
    obtain ⟨L, hL⟩ : ∃ L, (x1 :: r).length = L := ⟨_, rfl⟩
    have hrL : r.length = L - 1 := by rw [← hL]; simp
    have h3 : 0 < L := by rw [← hL]; simp
    have hLc : L ≤ c := by rw [← hL]; exact hcap
    have hc63 : c ≤ 9223372036854775807 := hf.2.2.2.2.2.2.1
    rw [hL]
    obtain ⟨b, off, a1, c1, rfl, ⟨q1, f1, k1⟩⟩ := hk.ncons
    have h1 := hkid x1 (by simp)
    obtain ⟨wa, hwa, hba, e0, e1, e2, e3⟩ := laid4 w (.int .i64 24) (.string ⟨s.toArray⟩) (.slice (some ⟨b, off, none⟩) L c) (.int .i64 p) 24
    have q1 := Four.on q1 hba
    obtain ⟨S, hS⟩ : ∃ S : World → Prop, S = fun W => (W.cell? ⟨w.heap.size, 0, none⟩ = some (.int .i64 24) ∧ W.cell? ⟨w.heap.size, 1, none⟩ = some (.string ⟨s.toArray⟩) ∧ W.cell? ⟨w.heap.size, 2, none⟩ = some (.slice (some ⟨b, off, none⟩) L c) ∧ W.cell? ⟨w.heap.size, 3, none⟩ = some (.int .i64 p)) ∧ Four W b off x1 a1 c1 := ⟨_, rfl⟩
    have HKB := Lib.hid (show Keep S by rw [hS]; exact keep_and (keep_and (keep_cell _ _) (keep_and (keep_cell _ _) (keep_and (keep_cell _ _) (keep_cell _ _)))) (keep_four _ _ _ _ _))
    have HP := Lib.hid (show Nk w n S [(x1, a1, c1)] wa from ⟨hba, hg.on hba, by rw [hS]; exact ⟨⟨e0, e1, e2, e3⟩, q1⟩, fun q hq => by
      simp only [List.mem_cons, List.not_mem_nil, or_false] at hq
      rcases hq with rfl
      · exact ⟨h1, k1.on hba, f1⟩⟩)
    obtain ⟨q10, q11, q12, q13⟩ := q1
    have HS := Lib.hid hS
    have HTL := Lib.hid (Kids.tail HKW.out)
    have HRL := Lib.hid hrL
    obtain ⟨R, hR⟩ : ∃ R, r.all ex = R := ⟨_, rfl⟩
    obtain ⟨T, hT⟩ : ∃ T, ty x1 = T := ⟨_, rfl⟩
    have HT := Lib.hid hT
    have hTk := HTY.out x1
    have hE : (s.isEmpty && litKids ty ex (x1 :: r)) = (s.isEmpty && (!(x1.kind == 12) && (T && R))) := by rw [litKids, hR, hT]
    rw [hE]
    rw [hT] at hTk
    have hrow : ∀ W, Nk w n S [(x1, a1, c1)] W → ∀ a' c', (r = [] ∨ a' = some ⟨b, off + 4, none⟩) → Calls Tryz.prog 43 #[.slice a' (L - 1) c'] W (NkPost w n S [(x1, a1, c1)] (.bool R)) := by
      intro W hW a' c' ha'
      rw [← hR, ← hrL]
      refine nk_exs hW HKB.out H_exs.out r a' c' ?_ HHR.out (by omega)
      rcases ha' with e | e
      · subst e; exact Kids.nil _ _ _
      · subst e; exact HTL.out
    have HROW := Lib.hid hrow
    have hnil : c = 1 → r = [] := fun e => List.eq_nil_of_length_eq_zero (by omega)
    clear hrow hE hR hT hL hcap hl2 HTY HKW HHR HTL HRL
    clear hg hk hf ht hkid hba hS f1 k1 h1 hrL
    have HNIL := Lib.hid hnil
    have HTK := Lib.hid hTk
    clear hnil hTk
    by_cases hc1 : c = 1
    · have hr := HNIL.out hc1
      obtain rfl : L = 1 := by omega
      subst hc1
      go_enter Tryz.func20, Tryz.ntmps20
      cases hse : s.isEmpty with
      | false =>
        go_wp2_with fail
        go_ret
        exact ⟨ret_bool (by rfl), HP.out.below⟩
      | true =>
      cases k10 : (x1.kind == 10) with
      | true =>
        have k11 : (x1.kind == 11) = false := by rw [eq_of_beq k10]; rfl
        go_wp2_with fail
        have hx := nk_ok HP.out HKB.out H_ty.out x1 a1 c1 (by simp)
        rw [HT.out] at hx
        refine hx.mono ?_
        clear hx
        rintro e w1 ⟨rfl, h1, HP⟩
        rw [HS.out] at h1
        obtain ⟨⟨e0, e1, e2, e3⟩, ⟨q10, q11, q12, q13⟩⟩ := h1
        cases T with
        | false =>
          go_wp2_with fail
          go_ret
          exact ⟨ret_bool (by simp), HP.out.below⟩
        | true =>
          have e12 := HTK.out rfl
          have n12 : (x1.kind == 12) = false := by
            rcases e12 with e | e | e
            · simp [e]
            · simp [e]
            · first | (simp [e] at k10; done) | (simp [e] at k11; done)
          clear e12
          go_wp2_with fail
          refine (HROW.out _ HP.out _ _ (by first | exact .inl hr | exact .inr rfl)).mono ?_
          rintro e w2 ⟨rfl, h1, HP⟩
          go_wp2_with fail
          go_ret
          exact ⟨ret_bool (by rw [n12]; cases R <;> rfl), HP.out.below⟩
      | false =>
      cases k11 : (x1.kind == 11) with
      | true =>
        go_wp2_with fail
        have hx := nk_ok HP.out HKB.out H_ty.out x1 a1 c1 (by simp)
        rw [HT.out] at hx
        refine hx.mono ?_
        clear hx
        rintro e w1 ⟨rfl, h1, HP⟩
        rw [HS.out] at h1
        obtain ⟨⟨e0, e1, e2, e3⟩, ⟨q10, q11, q12, q13⟩⟩ := h1
        cases T with
        | false =>
          go_wp2_with fail
          go_ret
          exact ⟨ret_bool (by simp), HP.out.below⟩
        | true =>
          have e12 := HTK.out rfl
          have n12 : (x1.kind == 12) = false := by
            rcases e12 with e | e | e
            · simp [e]
            · simp [e]
            · first | (simp [e] at k10; done) | (simp [e] at k11; done)
          clear e12
          go_wp2_with fail
          refine (HROW.out _ HP.out _ _ (by first | exact .inl hr | exact .inr rfl)).mono ?_
          rintro e w2 ⟨rfl, h1, HP⟩
          go_wp2_with fail
          go_ret
          exact ⟨ret_bool (by rw [n12]; cases R <;> rfl), HP.out.below⟩
      | false =>
        have hno : (!(x1.kind == 12) && (T && R)) = false := by
          cases T with
          | false => simp
          | true =>
            rcases HTK.out rfl with e | e | e
            · rw [e] at k10; cases k10
            · rw [e] at k11; cases k11
            · rw [e]; rfl
        have HNO := Lib.hid hno
        clear hno
        go_wp2_with fail
        go_ret
        exact ⟨ret_bool (by simp [HNO.out]), HP.out.below⟩
    · have hr : True := trivial
      go_enter Tryz.func20, Tryz.ntmps20
      cases hse : s.isEmpty with
      | false =>
        go_wp2_with fail
        go_ret
        exact ⟨ret_bool (by rfl), HP.out.below⟩
      | true =>
      cases k10 : (x1.kind == 10) with
      | true =>
        have k11 : (x1.kind == 11) = false := by rw [eq_of_beq k10]; rfl
        go_wp2_with fail
        have hx := nk_ok HP.out HKB.out H_ty.out x1 a1 c1 (by simp)
        rw [HT.out] at hx
        refine hx.mono ?_
        clear hx
        rintro e w1 ⟨rfl, h1, HP⟩
        rw [HS.out] at h1
        obtain ⟨⟨e0, e1, e2, e3⟩, ⟨q10, q11, q12, q13⟩⟩ := h1
        cases T with
        | false =>
          go_wp2_with fail
          go_ret
          exact ⟨ret_bool (by simp), HP.out.below⟩
        | true =>
          have e12 := HTK.out rfl
          have n12 : (x1.kind == 12) = false := by
            rcases e12 with e | e | e
            · simp [e]
            · simp [e]
            · first | (simp [e] at k10; done) | (simp [e] at k11; done)
          clear e12
          go_wp2_with fail
          refine (HROW.out _ HP.out _ _ (by first | exact .inl hr | exact .inr rfl)).mono ?_
          rintro e w2 ⟨rfl, h1, HP⟩
          go_wp2_with fail
          go_ret
          exact ⟨ret_bool (by rw [n12]; cases R <;> rfl), HP.out.below⟩
      | false =>
      cases k11 : (x1.kind == 11) with
      | true =>
        go_wp2_with fail
        have hx := nk_ok HP.out HKB.out H_ty.out x1 a1 c1 (by simp)
        rw [HT.out] at hx
        refine hx.mono ?_
        clear hx
        rintro e w1 ⟨rfl, h1, HP⟩
        rw [HS.out] at h1
        obtain ⟨⟨e0, e1, e2, e3⟩, ⟨q10, q11, q12, q13⟩⟩ := h1
        cases T with
        | false =>
          go_wp2_with fail
          go_ret
          exact ⟨ret_bool (by simp), HP.out.below⟩
        | true =>
          have e12 := HTK.out rfl
          have n12 : (x1.kind == 12) = false := by
            rcases e12 with e | e | e
            · simp [e]
            · simp [e]
            · first | (simp [e] at k10; done) | (simp [e] at k11; done)
          clear e12
          go_wp2_with fail
          refine (HROW.out _ HP.out _ _ (by first | exact .inl hr | exact .inr rfl)).mono ?_
          rintro e w2 ⟨rfl, h1, HP⟩
          go_wp2_with fail
          go_ret
          exact ⟨ret_bool (by rw [n12]; cases R <;> rfl), HP.out.below⟩
      | false =>
        have hno : (!(x1.kind == 12) && (T && R)) = false := by
          cases T with
          | false => simp
          | true =>
            rcases HTK.out rfl with e | e | e
            · rw [e] at k10; cases k10
            · rw [e] at k11; cases k11
            · rw [e]; rfl
        have HNO := Lib.hid hno
        clear hno
        go_wp2_with fail
        go_ret
        exact ⟨ret_bool (by simp [HNO.out]), HP.out.below⟩
end Go.Proofs.YtnmebgiiajnnjaaGreat

namespace Go.Proofs.YtnmebgiiajnnjaaGreat
set_option linter.unusedSimpArgs false
set_option linter.unusedVariables false
open Go.RowKit

theorem alls_next1 {α : Type} {f : α → Bool} {l : List α} {j : Nat} (hj : j < l.length) (h1 : 1 ≤ j) (h0 : ((l.take j).drop 1).all f = true) (h : f l[j] = true) : ((l.take (j + 1)).drop 1).all f = true := by
  rw [List.take_succ_eq_append_getElem hj, List.drop_append_of_le_length (by simp; omega), List.all_append, h0]; simp [h]
theorem alls_no1 {α : Type} {f : α → Bool} {l : List α} {j : Nat} (hj : j < l.length) (h1 : 1 ≤ j) (h : f l[j] = false) : (l.drop 1).all f = false := by
  have hlt : j - 1 < (l.drop 1).length := by simp; omega
  refine alls_no hlt ?_
  rw [List.getElem_drop]
  simp only [show 1 + (j - 1) = j by omega]
  exact h
theorem index_two (ex ty : Nd → Bool) (l : List Nd) (x : Nd) (r : List Nd) (hl : l = x :: r) (h2 : 2 ≤ l.length) : indexKids ex ty l = (ex x && (l.drop 1).all (partB ex ty)) := by
  subst hl
  cases r with
  | nil => simp at h2
  | cons y r => rfl

set_option maxRecDepth 100000 in
set_option maxHeartbeats 8000000 in
theorem rexpr_index (ty : Nd → Bool) (ex : Nd → Bool) (n : Nat) (h_ty : Ok 19 ty n) (h_ex : Ok 20 ex n) (s : List UInt8) (l : List Nd) (p : Int) (a : Option Addr) (c : Nat) (w : World) (ht : (Nd.mk 22 s l p).height ≤ n + 1) (hg : Glob w) (hk : Kids w w.heap.size a l) (hf : Fits (.mk 22 s l p) c) :
    Calls Tryz.prog 20 #[.agg #[.int .i64 22, .string ⟨s.toArray⟩, .slice a l.length c, .int .i64 p]] w fun e w' => e = .returned (.bool (s.isEmpty && indexKids ex ty l)) ∧ Below w.heap.size w w' := by
  have hkid : ∀ x, x ∈ l → x.height ≤ n := fun x hx => by have := Nd.height_kid (t := .mk 22 s l p) hx; omega
  have hl2 : l.length ≤ 9223372036854775807 := by have := hf.2.2.2.2.2.1; have := hf.2.2.2.2.2.2.1; simp only [Nd.kids_mk] at *; omega
  have HEX := Lib.hid h_ex
  have HTY := Lib.hid h_ty
  clear h_ex h_ty
  obtain ⟨wa, hwa, hba, e0, e1, e2, e3⟩ := laid4 w (.int .i64 22) (.string ⟨s.toArray⟩) (.slice a l.length c) (.int .i64 p) 24
  obtain ⟨S, hS⟩ : ∃ S : World → Prop, S = fun W => (W.cell? ⟨w.heap.size, 0, none⟩ = some (.int .i64 22) ∧ W.cell? ⟨w.heap.size, 1, none⟩ = some (.string ⟨s.toArray⟩) ∧ W.cell? ⟨w.heap.size, 2, none⟩ = some (.slice a l.length c) ∧ W.cell? ⟨w.heap.size, 3, none⟩ = some (.int .i64 p)) := ⟨_, rfl⟩
  have HKB := Lib.hid (show Keep S by rw [hS]; exact keep_and (keep_cell _ _) (keep_and (keep_cell _ _) (keep_and (keep_cell _ _) (keep_cell _ _))))
  have HP := Lib.hid (show Nk w n S [] wa from ⟨hba, hg.on hba, by rw [hS]; exact ⟨e0, e1, e2, e3⟩, fun q hq => by cases hq⟩)
  have HKW := Lib.hid (fun W (hW : Below w.heap.size w W) => hk.on hW)
  have HHT := Lib.hid hkid
  clear hS hg hf ht hba hk hkid
  cases hse : s.isEmpty with
  | false =>
    go_enter Tryz.func20, Tryz.ntmps20
    go_wp2_with fail
    go_ret
    exact ⟨rfl, HP.out.below⟩
  | true =>
  by_cases hlen : 2 ≤ l.length
  · obtain ⟨x, r, hxr⟩ : ∃ x r, l = x :: r := by
      cases l with
      | nil => simp at hlen
      | cons x r => exact ⟨x, r, rfl⟩
    have hE := index_two ex ty l x r hxr hlen
    obtain ⟨PB, hPB⟩ : ∃ PB, PB = partB ex ty := ⟨_, rfl⟩
    rw [← hPB] at hE
    obtain ⟨R, hR⟩ : ∃ R, ex x = R := ⟨_, rfl⟩
    rw [hR] at hE
    rw [hE]
    have HPB := Lib.hid hPB
    have h00 : 0 < l.length := by omega
    obtain ⟨b, off, a1, c1, rfl, -, ⟨q0, q1, q2, q3⟩, fq, kq⟩ := (HKW.out _ HP.out.below).get h00
    have hx0 : l[0] = x := by simp [hxr]
    rw [hx0] at q0 q1 q2 q3 fq kq
    simp only [Nat.zero_mul, Nat.add_zero] at q0 q1 q2 q3
    have hc0 := nk_post HP.out HKB.out (HEX.out x a1 c1 wa (HHT.out x (by rw [hxr]; simp)) HP.out.glob kq fq)
    rw [hR] at hc0
    have HC0 := Lib.hid hc0
    have hn2 : ¬ (l.length : Int) < 2 := by omega
    clear hc0 fq kq hx0 hE hPB hR hxr hlen
    obtain ⟨L, hL⟩ : ∃ L, l.length = L := ⟨_, rfl⟩
    have HL := Lib.hid hL
    rw [hL] at hn2 h00 hl2 e2 ⊢
    rw [hL] at hwa
    go_enter Tryz.func20, Tryz.ntmps20
    go_wp2_with fail
    refine HC0.out.mono ?_
    rintro e w1 ⟨rfl, h1, HP1⟩
    cases R with
    | false =>
      go_wp2_with fail
      go_ret
      exact ⟨ret_bool (by rfl), HP1.out.below⟩
    | true =>
      clear hL
      go_wp2_with fail
      go_loopw [4] (fun i wr => ∃ j : Nat, 1 ≤ j ∧ j ≤ L ∧ i = .int .i64 j ∧ Hid (((l.take j).drop 1).all PB = true) ∧ Hid (Nk w n S [] wr)) (fun i _ => L - (intOf i).toNat)
      case atStart => exact ⟨1, by omega, by omega, rfl, Lib.hid (by cases l <;> simp), HP1⟩
      case round =>
        obtain ⟨j, hj1, hj2, rfl, HALL, HP⟩ := hrel
        by_cases hlt : j < L
        · have hlt' : j < l.length := by rw [HL.out]; exact hlt
          obtain ⟨b', off', a', c', ha, -, hq4, hfq, hkq⟩ := (HKW.out _ HP.out.below).get hlt'
          injection ha with ha
          injection ha with ha1 ha2
          subst ha1 ha2
          have HNX := Lib.hid (fun e => alls_next1 (f := PB) hlt' hj1 HALL.out e)
          have HNO := Lib.hid (fun e => alls_no1 (f := PB) hlt' hj1 e)
          have hqh := HHT.out _ (List.getElem_mem hlt')
          obtain ⟨q, hq⟩ : ∃ q, l[j] = q := ⟨_, rfl⟩
          rw [hq] at hq4 hfq hkq hqh HNX HNO
          clear hq
          obtain ⟨S2, hS2⟩ : ∃ S2 : World → Prop, S2 = fun W => S W ∧ Four W b (off + j * 4) q a' c' := ⟨_, rfl⟩
          have HKB2 := Lib.hid (show Keep S2 by rw [hS2]; exact keep_and HKB.out (keep_four _ _ _ _ _))
          have HP2 := Lib.hid (show Nk w n S2 [(q, a', c')] wr from HP.out.more (by rw [hS2]; exact ⟨HP.out.cells, hq4⟩) (fun r hr => by
            rw [List.mem_singleton] at hr
            subst hr
            exact .inr ⟨hqh, hkq, hfq⟩))
          have HS2 := Lib.hid hS2
          obtain ⟨d0, d1, d2, d3⟩ := hq4
          obtain ⟨E, hE⟩ : ∃ E, ex q = E := ⟨_, rfl⟩
          obtain ⟨T, hT⟩ : ∃ T, ty q = T := ⟨_, rfl⟩
          have HPQ := Lib.hid (show PB q = (E || (!(q.kind == 10) && T)) by rw [HPB.out, partB, hE, hT])
          have HE := Lib.hid hE
          have HT := Lib.hid hT
          clear hfq hkq hqh hS2 hE hT
          go_wp2_with fail
          have hx := nk_ok HP2.out HKB2.out HEX.out q a' c' (by simp)
          rw [HE.out] at hx
          refine hx.mono ?_
          clear hx
          rintro e w2 ⟨rfl, h1, HP3⟩
          rw [HS2.out] at h1
          obtain ⟨-, d0, d1, d2, d3⟩ := h1
          cases E with
          | true =>
            have HN := Lib.hid (HNX.out (by rw [HPQ.out]; rfl))
            go_wp2_with fail
            go_roundw
            case rel => exact ⟨j + 1, by omega, by omega, by go_num, HN, Lib.hid (HP3.out.less (fun h => by rw [HS2.out] at h; exact h.1) (by simp))⟩
            case measure => simp [intOf]; omega
          | false =>
            cases k10 : (q.kind == 10) with
            | true =>
              have HV := Lib.hid (HNO.out (by rw [HPQ.out, k10]; rfl))
              go_wp2_with fail
              go_ret
              exact ⟨ret_bool (by rw [HV.out]; rfl), HP3.out.below⟩
            | false =>
              go_wp2_with fail
              have hx := nk_ok HP3.out HKB2.out HTY.out q a' c' (by simp)
              rw [HT.out] at hx
              refine hx.mono ?_
              clear hx
              rintro e w3 ⟨rfl, h1, HP4⟩
              rw [HS2.out] at h1
              obtain ⟨-, d0, d1, d2, d3⟩ := h1
              cases T with
              | true =>
                have HN := Lib.hid (HNX.out (by rw [HPQ.out, k10]; rfl))
                go_wp2_with fail
                go_roundw
                case rel => exact ⟨j + 1, by omega, by omega, by go_num, HN, Lib.hid (HP4.out.less (fun h => by rw [HS2.out] at h; exact h.1) (by simp))⟩
                case measure => simp [intOf]; omega
              | false =>
                have HV := Lib.hid (HNO.out (by rw [HPQ.out, k10]; rfl))
                go_wp2_with fail
                go_ret
                exact ⟨ret_bool (by rw [HV.out]; rfl), HP4.out.below⟩
        · obtain rfl : j = L := by omega
          have HV := Lib.hid (show (l.drop 1).all PB = true by
            have := HALL.out
            rwa [List.take_of_length_le (by rw [HL.out]; exact Nat.le_refl _)] at this)
          go_wp2_with fail
          go_ret
          exact ⟨ret_bool (by rw [HV.out]; rfl), HP.out.below⟩
  · have hV : indexKids ex ty l = false := by
      match l, hlen with
      | [], _ => rfl
      | [_], _ => rfl
      | _ :: _ :: r, h => simp at h
    have HV := Lib.hid hV
    have hn2 : (l.length : Int) < 2 := by omega
    clear hV hlen
    go_enter Tryz.func20, Tryz.ntmps20
    go_wp2_with fail
    go_ret
    exact ⟨ret_bool (by rw [HV.out]; rfl), HP.out.below⟩

set_option maxRecDepth 100000 in
set_option maxHeartbeats 8000000 in
theorem rexpr_none (k : Int) (s : List UInt8) (l : List Nd) (p : Int) (a : Option Addr) (c : Nat) (w : World) (hn : k ≠ 16 ∧ k ≠ 17 ∧ k ≠ 18 ∧ k ≠ 19 ∧ k ≠ 20 ∧ k ≠ 21 ∧ k ≠ 22 ∧ k ≠ 23 ∧ k ≠ 24 ∧ k ≠ 25) :
    Calls Tryz.prog 20 #[.agg #[.int .i64 k, .string ⟨s.toArray⟩, .slice a l.length c, .int .i64 p]] w fun e w' => e = .returned (.bool false) ∧ Below w.heap.size w w' := by
  obtain ⟨m1, m2, m3, m4, m5, m6, m7, m8, m9, m0⟩ := hn
  have n1 : (k == 16) = false := by simpa using m1
  have n2 : (k == 17) = false := by simpa using m2
  have n3 : (k == 18) = false := by simpa using m3
  have n4 : (k == 19) = false := by simpa using m4
  have n5 : (k == 20) = false := by simpa using m5
  have n6 : (k == 21) = false := by simpa using m6
  have n7 : (k == 22) = false := by simpa using m7
  have n8 : (k == 23) = false := by simpa using m8
  have n9 : (k == 24) = false := by simpa using m9
  have n0 : (k == 25) = false := by simpa using m0
  clear m1 m2 m3 m4 m5 m6 m7 m8 m9 m0
  go_enter Tryz.func20, Tryz.ntmps20
  go_wp2_with fail
  go_ret
  exact ⟨rfl, below_alloc _ _⟩

theorem rexpr_ok (ex ty sg bl : Nd → Bool) (n : Nat) (hty : ∀ x, ty x = true → x.kind = 10 ∨ x.kind = 11 ∨ x.kind = 12) (h_ex : Ok 20 ex n) (h_ty : Ok 19 ty n)
    (h_sg : SgOk true sg n) (h_bl : Ok 39 bl n) : Ok 20 (exprB ex ty sg bl) (n + 1) := by
  rintro ⟨k, s, l, p⟩ a c w ht hg hk hf
  simp only [Nd.kind_mk, Nd.text_mk, Nd.kids_mk, Nd.pos_mk] at *
  by_cases k16 : k = 16
  · subst k16; exact rexpr_int n s l p a c w ht hg hk hf
  by_cases k17 : k = 17
  · subst k17; exact rexpr_str n s l p a c w ht hg hk hf
  by_cases k18 : k = 18
  · subst k18; exact rexpr_name n s l p a c w ht hg hk hf
  by_cases k19 : k = 19
  · subst k19; exact rexpr_unary ex n h_ex s l p a c w ht hg hk hf
  by_cases k20 : k = 20
  · subst k20; exact rexpr_binary ex n h_ex s l p a c w ht hg hk hf
  by_cases k21 : k = 21
  · subst k21; exact rexpr_call ex n h_ex s l p a c w ht hg hk hf
  by_cases k22 : k = 22
  · subst k22; exact rexpr_index ty ex n h_ty h_ex s l p a c w ht hg hk hf
  by_cases k23 : k = 23
  · subst k23; exact rexpr_field ex n h_ex s l p a c w ht hg hk hf
  by_cases k24 : k = 24
  · subst k24; exact rexpr_lit ty ex n hty h_ty h_ex s l p a c w ht hg hk hf
  by_cases k25 : k = 25
  · subst k25
    refine (rexpr_func sg bl n h_sg h_bl s l p a c w ht hg hk hf).mono ?_
    rintro e w' ⟨rfl, hb⟩
    exact ⟨ret_bool (by simp [exprB, ofB]), hb⟩
  · refine (rexpr_none k s l p a c w ⟨k16, k17, k18, k19, k20, k21, k22, k23, k24, k25⟩).mono ?_
    rintro e w' ⟨rfl, hb⟩
    refine ⟨ret_bool ?_, hb⟩
    have : (k == 25) = false := by simpa using k25
    simp [exprB, ofB, k16, k17, k18, k19, k20, k21, k22, k23, k24, this]
end Go.Proofs.YtnmebgiiajnnjaaGreat
