/-
  the document's variable, Decl, walked. (printed by gen_rr.py)
  the document's Decl, walked. (printed by gen_rr.py)
-/
import Derived.Deep.RegionHeld3
import Derived.Test.YtnmebgiiajnnjaaGreatRrH
namespace Go.Proofs.YtnmebgiiajnnjaaGreat
set_option linter.unusedSimpArgs false
set_option linter.unusedVariables false
open Go.RowKit

theorem laid44 (w : World) (A0 A1 A2 A3 B0 B1 B2 B3 : Value) (T : TypeId) : ∃ W, ((w.alloc (.cells #[A0, A1, A2, A3] T)).alloc (.cells #[B0, B1, B2, B3] T)).drew = W ∧ Below w.heap.size w W ∧
    (W.cell? ⟨w.heap.size, 0, none⟩ = some A0 ∧ W.cell? ⟨w.heap.size, 1, none⟩ = some A1 ∧ W.cell? ⟨w.heap.size, 2, none⟩ = some A2 ∧ W.cell? ⟨w.heap.size, 3, none⟩ = some A3) ∧
    (W.cell? ⟨w.heap.size + 1, 0, none⟩ = some B0 ∧ W.cell? ⟨w.heap.size + 1, 1, none⟩ = some B1 ∧ W.cell? ⟨w.heap.size + 1, 2, none⟩ = some B2 ∧ W.cell? ⟨w.heap.size + 1, 3, none⟩ = some B3) :=
  ⟨_, rfl, (((Below.refl _ _).alloc (Nat.le_refl _) _).alloc (by simp) _).drew, ⟨by simp [go_sem], by simp [go_sem], by simp [go_sem], by simp [go_sem]⟩, by simp [go_sem], by simp [go_sem], by simp [go_sem], by simp [go_sem]⟩

set_option maxRecDepth 100000 in
set_option maxHeartbeats 8000000 in
theorem rvar_five (ty : Nd → Bool) (ex : Nd → Bool) (n : Nat) (h_ty : Ok 19 ty n) (h_ex : Ok 20 ex n) (s : List UInt8) (l : List Nd) (p : Int) (a : Option Addr) (c : Nat) (w : World) (ht : (Nd.mk 5 s l p).height ≤ n + 1) (hg : Glob w) (hk : Kids w w.heap.size a l) (hf : Fits (.mk 5 s l p) c) :
    Calls Tryz.prog 37 #[.agg #[.int .i64 5, .string ⟨s.toArray⟩, .slice a l.length c, .int .i64 p]] w fun e w' => e = .returned (.bool (nameL s && varKids ty ex l)) ∧ Below w.heap.size w w' := by
  have hkid : ∀ x, x ∈ l → x.height ≤ n := fun x hx => by have := Nd.height_kid (t := .mk 5 s l p) hx; omega
  have hs : s.length ≤ 140737488351232 := hf.2.2.2.2.1
  have hcap : l.length ≤ c := hf.2.2.2.2.2.1
  have hl2 : l.length ≤ 9223372036854775807 := by have := hf.2.2.2.2.2.2.1; omega
  have H_ty := Lib.hid h_ty
  have H_ex := Lib.hid h_ex
  clear h_ty h_ex
  by_cases hlen : l.length = 2
  · obtain ⟨x1, x2, rfl⟩ : ∃ x1 x2, l = [x1, x2] := by
      match l, hlen with
      | [x1, x2], _ => exact ⟨x1, x2, rfl⟩
    obtain ⟨b, off, a1, c1, a2, c2, rfl, ⟨q1, f1, k1⟩, ⟨q2, f2, k2⟩⟩ := hk.n2
    have h1 := hkid x1 (by simp)
    have h2 := hkid x2 (by simp)
    obtain ⟨wa, hwa, hba, e0, e1, e2, e3⟩ := laid4 w (.int .i64 5) (.string ⟨s.toArray⟩) (.slice (some ⟨b, off, none⟩) 2 c) (.int .i64 p) 24
    have q1 := Four.on q1 hba
    have q2 := Four.on q2 hba
    obtain ⟨S, hS⟩ : ∃ S : World → Prop, S = fun W => (W.cell? ⟨w.heap.size, 0, none⟩ = some (.int .i64 5) ∧ W.cell? ⟨w.heap.size, 1, none⟩ = some (.string ⟨s.toArray⟩) ∧ W.cell? ⟨w.heap.size, 2, none⟩ = some (.slice (some ⟨b, off, none⟩) 2 c) ∧ W.cell? ⟨w.heap.size, 3, none⟩ = some (.int .i64 p)) ∧ Four W b off x1 a1 c1 ∧ Four W b (off + 4) x2 a2 c2 := ⟨_, rfl⟩
    have HKB := Lib.hid (show Keep S by rw [hS]; exact keep_and (keep_and (keep_cell _ _) (keep_and (keep_cell _ _) (keep_and (keep_cell _ _) (keep_cell _ _)))) (keep_and (keep_four _ _ _ _ _) (keep_four _ _ _ _ _)))
    have HP := Lib.hid (show Nk w n S [(x1, a1, c1), (x2, a2, c2)] wa from ⟨hba, hg.on hba, by rw [hS]; exact ⟨⟨e0, e1, e2, e3⟩, q1, q2⟩, fun q hq => by
      simp only [List.mem_cons, List.not_mem_nil, or_false] at hq
      rcases hq with rfl | rfl
      · exact ⟨h1, k1.on hba, f1⟩
      · exact ⟨h2, k2.on hba, f2⟩⟩)
    obtain ⟨q10, q11, q12, q13⟩ := q1
    obtain ⟨q20, q21, q22, q23⟩ := q2
    have HS := Lib.hid hS
    clear hg hk hf ht hkid hba hS f1 k1 h1 f2 k2 h2
    obtain ⟨N, hN⟩ : ∃ N, nameL s = N := ⟨_, rfl⟩
    have hx := nk_name HP.out HKB.out s hs
    rw [hN] at hx ⊢
    have HX := Lib.hid hx
    clear hx hN
    go_enter Tryz.func37, Tryz.ntmps37
    go_wp2_with fail
    refine HX.out.mono ?_
    rintro e w1 ⟨rfl, h1, HP⟩
    rw [HS.out] at h1
    obtain ⟨⟨e0, e1, e2, e3⟩, ⟨q10, q11, q12, q13⟩, ⟨q20, q21, q22, q23⟩⟩ := h1
    cases N with
    | false =>
      go_wp2_with fail
      go_ret
      exact ⟨ret_bool (by rfl), HP.out.below⟩
    | true =>
    go_wp2_with fail
    go_region_held3 (fun W => (W.cell? ⟨w.heap.size, 2, none⟩ = some (.slice (some ⟨b, off, none⟩) 2 c)) ∧ (W.cell? ⟨b, off, none⟩ = some (.int .i64 x1.kind) ∧ W.cell? ⟨b, off + 1, none⟩ = some (.string ⟨x1.text.toArray⟩) ∧ W.cell? ⟨b, off + 2, none⟩ = some (.slice a1 x1.kids.length c1) ∧ W.cell? ⟨b, off + 3, none⟩ = some (.int .i64 x1.pos)) ∧ (W.cell? ⟨b, off + 4, none⟩ = some (.int .i64 x2.kind) ∧ W.cell? ⟨b, off + 4 + 1, none⟩ = some (.string ⟨x2.text.toArray⟩) ∧ W.cell? ⟨b, off + 4 + 2, none⟩ = some (.slice a2 x2.kids.length c2) ∧ W.cell? ⟨b, off + 4 + 3, none⟩ = some (.int .i64 x2.pos))) (go_keep) (fail)
    · obtain ⟨W5, hW5, hb5, hg1, hg2⟩ := laid44 w1 (.int .i64 x1.kind) (.string ⟨x1.text.toArray⟩) (.slice a1 x1.kids.length c1) (.int .i64 x1.pos) (.int .i64 x2.kind) (.string ⟨x2.text.toArray⟩) (.slice a2 x2.kids.length c2) (.int .i64 x2.pos) 24
      rw [hW5]
      obtain ⟨S5, hS5⟩ : ∃ S5 : World → Prop, S5 = fun W => (W.cell? ⟨w1.heap.size, 0, none⟩ = some (.int .i64 x1.kind) ∧ W.cell? ⟨w1.heap.size, 1, none⟩ = some (.string ⟨x1.text.toArray⟩) ∧ W.cell? ⟨w1.heap.size, 2, none⟩ = some (.slice a1 x1.kids.length c1) ∧ W.cell? ⟨w1.heap.size, 3, none⟩ = some (.int .i64 x1.pos)) ∧ (W.cell? ⟨w1.heap.size + 1, 0, none⟩ = some (.int .i64 x2.kind) ∧ W.cell? ⟨w1.heap.size + 1, 1, none⟩ = some (.string ⟨x2.text.toArray⟩) ∧ W.cell? ⟨w1.heap.size + 1, 2, none⟩ = some (.slice a2 x2.kids.length c2) ∧ W.cell? ⟨w1.heap.size + 1, 3, none⟩ = some (.int .i64 x2.pos)) := ⟨_, rfl⟩
      have HKB5 := Lib.hid (show Keep S5 by rw [hS5]; exact keep_and (keep_and (keep_cell _ _) (keep_and (keep_cell _ _) (keep_and (keep_cell _ _) (keep_cell _ _)))) (keep_and (keep_cell _ _) (keep_and (keep_cell _ _) (keep_and (keep_cell _ _) (keep_cell _ _)))))
      have HP5 := Lib.hid (show Nk w n S5 [(x1, a1, c1), (x2, a2, c2)] W5 from (HP.out.on HKB.out hb5).more (by rw [hS5]; exact ⟨hg1, hg2⟩) (fun r hr => .inl hr))
      have HS5 := Lib.hid hS5
      obtain ⟨g10, g11, g12, g13⟩ := hg1
      obtain ⟨g20, g21, g22, g23⟩ := hg2
      clear hW5 hb5 hS5
      go_wp2_with (first
        | (go_at_call 45
           refine (nk_nothing HP5.out HKB5.out _ _ _).mono ?_
           rintro e w1 ⟨rfl, h1, HP5⟩
           rw [HS5.out] at h1
           obtain ⟨⟨g10, g11, g12, g13⟩, g20, g21, g22, g23⟩ := h1)
        | (go_at_call 19
           refine (nk_ok HP5.out HKB5.out H_ty.out _ _ _ ?_).mono ?_
           focus (simp)
           rintro e w1 ⟨rfl, h1, HP5⟩
           rw [HS5.out] at h1
           obtain ⟨⟨g10, g11, g12, g13⟩, g20, g21, g22, g23⟩ := h1)
        | (go_at_call 20
           refine (nk_ok HP5.out HKB5.out H_ex.out _ _ _ ?_).mono ?_
           focus (simp)
           rintro e w1 ⟨rfl, h1, HP5⟩
           rw [HS5.out] at h1
           obtain ⟨⟨g10, g11, g12, g13⟩, g20, g21, g22, g23⟩ := h1))
      all_goals
        go_ret
        exact ⟨ret_bool (by simp_all [varKids]), HP5.out.below⟩
    · obtain ⟨W5, hW5, hb5, hg2, hg1⟩ := laid44 w1 (.int .i64 x2.kind) (.string ⟨x2.text.toArray⟩) (.slice a2 x2.kids.length c2) (.int .i64 x2.pos) (.int .i64 x1.kind) (.string ⟨x1.text.toArray⟩) (.slice a1 x1.kids.length c1) (.int .i64 x1.pos) 24
      rw [hW5]
      obtain ⟨S5, hS5⟩ : ∃ S5 : World → Prop, S5 = fun W => (W.cell? ⟨w1.heap.size + 1, 0, none⟩ = some (.int .i64 x1.kind) ∧ W.cell? ⟨w1.heap.size + 1, 1, none⟩ = some (.string ⟨x1.text.toArray⟩) ∧ W.cell? ⟨w1.heap.size + 1, 2, none⟩ = some (.slice a1 x1.kids.length c1) ∧ W.cell? ⟨w1.heap.size + 1, 3, none⟩ = some (.int .i64 x1.pos)) ∧ (W.cell? ⟨w1.heap.size, 0, none⟩ = some (.int .i64 x2.kind) ∧ W.cell? ⟨w1.heap.size, 1, none⟩ = some (.string ⟨x2.text.toArray⟩) ∧ W.cell? ⟨w1.heap.size, 2, none⟩ = some (.slice a2 x2.kids.length c2) ∧ W.cell? ⟨w1.heap.size, 3, none⟩ = some (.int .i64 x2.pos)) := ⟨_, rfl⟩
      have HKB5 := Lib.hid (show Keep S5 by rw [hS5]; exact keep_and (keep_and (keep_cell _ _) (keep_and (keep_cell _ _) (keep_and (keep_cell _ _) (keep_cell _ _)))) (keep_and (keep_cell _ _) (keep_and (keep_cell _ _) (keep_and (keep_cell _ _) (keep_cell _ _)))))
      have HP5 := Lib.hid (show Nk w n S5 [(x1, a1, c1), (x2, a2, c2)] W5 from (HP.out.on HKB.out hb5).more (by rw [hS5]; exact ⟨hg1, hg2⟩) (fun r hr => .inl hr))
      have HS5 := Lib.hid hS5
      obtain ⟨g10, g11, g12, g13⟩ := hg1
      obtain ⟨g20, g21, g22, g23⟩ := hg2
      clear hW5 hb5 hS5
      go_wp2_with (first
        | (go_at_call 45
           refine (nk_nothing HP5.out HKB5.out _ _ _).mono ?_
           rintro e w1 ⟨rfl, h1, HP5⟩
           rw [HS5.out] at h1
           obtain ⟨⟨g10, g11, g12, g13⟩, g20, g21, g22, g23⟩ := h1)
        | (go_at_call 19
           refine (nk_ok HP5.out HKB5.out H_ty.out _ _ _ ?_).mono ?_
           focus (simp)
           rintro e w1 ⟨rfl, h1, HP5⟩
           rw [HS5.out] at h1
           obtain ⟨⟨g10, g11, g12, g13⟩, g20, g21, g22, g23⟩ := h1)
        | (go_at_call 20
           refine (nk_ok HP5.out HKB5.out H_ex.out _ _ _ ?_).mono ?_
           focus (simp)
           rintro e w1 ⟨rfl, h1, HP5⟩
           rw [HS5.out] at h1
           obtain ⟨⟨g10, g11, g12, g13⟩, g20, g21, g22, g23⟩ := h1))
      all_goals
        go_ret
        exact ⟨ret_bool (by simp_all [varKids]), HP5.out.below⟩
  · have hn : ((l.length : Int) != 2) = true := by simp; omega
    have HV := Lib.hid (show varKids ty ex l = false from by
      match l, hlen with
      | [], _ => rfl
      | [_], _ => rfl
      | [_, _], h => simp at h
      | _ :: _ :: _ :: _, _ => rfl)
    obtain ⟨wa, hwa, hba, e0, e1, e2, e3⟩ := laid4 w (.int .i64 5) (.string ⟨s.toArray⟩) (.slice a l.length c) (.int .i64 p) 24
    obtain ⟨S, hS⟩ : ∃ S : World → Prop, S = fun W => (W.cell? ⟨w.heap.size, 0, none⟩ = some (.int .i64 5) ∧ W.cell? ⟨w.heap.size, 1, none⟩ = some (.string ⟨s.toArray⟩) ∧ W.cell? ⟨w.heap.size, 2, none⟩ = some (.slice a l.length c) ∧ W.cell? ⟨w.heap.size, 3, none⟩ = some (.int .i64 p)) := ⟨_, rfl⟩
    have HKB := Lib.hid (show Keep S by rw [hS]; exact keep_and (keep_cell _ _) (keep_and (keep_cell _ _) (keep_and (keep_cell _ _) (keep_cell _ _))))
    have HP := Lib.hid (show Nk w n S [] wa from ⟨hba, hg.on hba, by rw [hS]; exact ⟨e0, e1, e2, e3⟩, fun q hq => by cases hq⟩)
    have HS := Lib.hid hS
    clear hg hk hf ht hkid hba hS
    go_enter Tryz.func37, Tryz.ntmps37
    go_wp2_with (first
      | (go_at_call 17
         refine (nk_name HP.out HKB.out _ (by first | exact hs | omega)).mono ?_
         rintro e w1 ⟨rfl, h1, HP⟩
         rw [HS.out] at h1
         obtain ⟨e0, e1, e2, e3⟩ := h1))
    all_goals
      go_ret
      exact ⟨ret_bool (by rw [HV.out]; simp), HP.out.below⟩
end Go.Proofs.YtnmebgiiajnnjaaGreat

namespace Go.Proofs.YtnmebgiiajnnjaaGreat
set_option linter.unusedSimpArgs false
set_option linter.unusedVariables false
open Go.RowKit

set_option maxRecDepth 100000 in
set_option maxHeartbeats 8000000 in
theorem rdecl_func (pr : Nd → Bool) (sg : Nd → Bool) (bl : Nd → Bool) (n : Nat) (h_pr : Ok 38 pr n) (h_sg : SgOk true sg n) (h_bl : Ok 39 bl n) (s : List UInt8) (l : List Nd) (p : Int) (a : Option Addr) (c : Nat) (w : World) (ht : (Nd.mk 2 s l p).height ≤ n + 1) (hg : Glob w) (hk : Kids w w.heap.size a l) (hf : Fits (.mk 2 s l p) c) :
    Calls Tryz.prog 18 #[.agg #[.int .i64 2, .string ⟨s.toArray⟩, .slice a l.length c, .int .i64 p]] w fun e w' => e = .returned (.bool (nameL s && kids3 pr sg bl l)) ∧ Below w.heap.size w w' := by
  have hkid : ∀ x, x ∈ l → x.height ≤ n := fun x hx => by have := Nd.height_kid (t := .mk 2 s l p) hx; omega
  have hs : s.length ≤ 140737488351232 := hf.2.2.2.2.1
  have hcap : l.length ≤ c := hf.2.2.2.2.2.1
  have hl2 : l.length ≤ 9223372036854775807 := by have := hf.2.2.2.2.2.2.1; omega
  have H_pr := Lib.hid h_pr
  have H_sg := Lib.hid h_sg
  have H_bl := Lib.hid h_bl
  clear h_pr h_sg h_bl
  by_cases hlt2 : l.length < 2
  · have hn : (l.length : Int) < 2 := by omega
    have HV := Lib.hid (show (nameL s && kids3 pr sg bl l) = false by
      match l, hlt2 with
      | [], _ => simp [kids3]
      | [_], _ => simp [kids3]
      | _ :: _ :: _, h => exfalso; simp only [List.length_cons] at h; omega)
    rw [HV.out]
    obtain ⟨wa, hwa, hba, e0, e1, e2, e3⟩ := laid4 w (.int .i64 2) (.string ⟨s.toArray⟩) (.slice a l.length c) (.int .i64 p) 24
    obtain ⟨S, hS⟩ : ∃ S : World → Prop, S = fun W => (W.cell? ⟨w.heap.size, 0, none⟩ = some (.int .i64 2) ∧ W.cell? ⟨w.heap.size, 1, none⟩ = some (.string ⟨s.toArray⟩) ∧ W.cell? ⟨w.heap.size, 2, none⟩ = some (.slice a l.length c) ∧ W.cell? ⟨w.heap.size, 3, none⟩ = some (.int .i64 p)) := ⟨_, rfl⟩
    have HKB := Lib.hid (show Keep S by rw [hS]; exact keep_and (keep_cell _ _) (keep_and (keep_cell _ _) (keep_and (keep_cell _ _) (keep_cell _ _))))
    have HP := Lib.hid (show Nk w n S [] wa from ⟨hba, hg.on hba, by rw [hS]; exact ⟨e0, e1, e2, e3⟩, fun q hq => by cases hq⟩)
    have HS := Lib.hid hS
    clear hg hk hf ht hkid hba hS
    go_enter Tryz.func18, Tryz.ntmps18
    go_wp2_with (first
      | (go_at_call 17
         refine (nk_name HP.out HKB.out _ (by first | exact hs | omega)).mono ?_
         rintro e w1 ⟨rfl, h1, HP⟩
         rw [HS.out] at h1
         obtain ⟨e0, e1, e2, e3⟩ := h1))
    all_goals
      go_ret
      exact ⟨ret_bool (by rfl), HP.out.below⟩
  have hn2 : ¬ (l.length : Int) < 2 := by omega
  by_cases hlen : l.length = 3
  · obtain ⟨x1, x2, x3, rfl⟩ : ∃ x1 x2 x3, l = [x1, x2, x3] := by
      match l, hlen with
      | [x1, x2, x3], _ => exact ⟨x1, x2, x3, rfl⟩
    obtain ⟨b, off, a1, c1, a2, c2, a3, c3, rfl, ⟨q1, f1, k1⟩, ⟨q2, f2, k2⟩, ⟨q3, f3, k3⟩⟩ := hk.n3
    have h1 := hkid x1 (by simp)
    have h2 := hkid x2 (by simp)
    have h3 := hkid x3 (by simp)
    obtain ⟨wa, hwa, hba, e0, e1, e2, e3⟩ := laid4 w (.int .i64 2) (.string ⟨s.toArray⟩) (.slice (some ⟨b, off, none⟩) 3 c) (.int .i64 p) 24
    have q1 := Four.on q1 hba
    have q2 := Four.on q2 hba
    have q3 := Four.on q3 hba
    obtain ⟨S, hS⟩ : ∃ S : World → Prop, S = fun W => (W.cell? ⟨w.heap.size, 0, none⟩ = some (.int .i64 2) ∧ W.cell? ⟨w.heap.size, 1, none⟩ = some (.string ⟨s.toArray⟩) ∧ W.cell? ⟨w.heap.size, 2, none⟩ = some (.slice (some ⟨b, off, none⟩) 3 c) ∧ W.cell? ⟨w.heap.size, 3, none⟩ = some (.int .i64 p)) ∧ Four W b off x1 a1 c1 ∧ Four W b (off + 4) x2 a2 c2 ∧ Four W b (off + 8) x3 a3 c3 := ⟨_, rfl⟩
    have HKB := Lib.hid (show Keep S by rw [hS]; exact keep_and (keep_and (keep_cell _ _) (keep_and (keep_cell _ _) (keep_and (keep_cell _ _) (keep_cell _ _)))) (keep_and (keep_four _ _ _ _ _) (keep_and (keep_four _ _ _ _ _) (keep_four _ _ _ _ _))))
    have HP := Lib.hid (show Nk w n S [(x1, a1, c1), (x2, a2, c2), (x3, a3, c3)] wa from ⟨hba, hg.on hba, by rw [hS]; exact ⟨⟨e0, e1, e2, e3⟩, q1, q2, q3⟩, fun q hq => by
      simp only [List.mem_cons, List.not_mem_nil, or_false] at hq
      rcases hq with rfl | rfl | rfl
      · exact ⟨h1, k1.on hba, f1⟩
      · exact ⟨h2, k2.on hba, f2⟩
      · exact ⟨h3, k3.on hba, f3⟩⟩)
    obtain ⟨q10, q11, q12, q13⟩ := q1
    obtain ⟨q20, q21, q22, q23⟩ := q2
    obtain ⟨q30, q31, q32, q33⟩ := q3
    have HS := Lib.hid hS
    clear hg hk hf ht hkid hba hS hlt2 hn2 f1 k1 h1 f2 k2 h2 f3 k3 h3
    go_enter Tryz.func18, Tryz.ntmps18
    go_wp2_with (first
      | (go_at_call 17
         refine (nk_name HP.out HKB.out _ (by first | exact hs | omega)).mono ?_
         rintro e w1 ⟨rfl, h1, HP⟩
         rw [HS.out] at h1
         obtain ⟨⟨e0, e1, e2, e3⟩, ⟨q10, q11, q12, q13⟩, ⟨q20, q21, q22, q23⟩, ⟨q30, q31, q32, q33⟩⟩ := h1)
      | (go_at_call 38
         refine (nk_ok HP.out HKB.out H_pr.out _ _ _ ?_).mono ?_
         focus (simp)
         rintro e w1 ⟨rfl, h1, HP⟩
         rw [HS.out] at h1
         obtain ⟨⟨e0, e1, e2, e3⟩, ⟨q10, q11, q12, q13⟩, ⟨q20, q21, q22, q23⟩, ⟨q30, q31, q32, q33⟩⟩ := h1)
      | (go_at_call 22
         refine (nk_sg HP.out HKB.out H_sg.out _ _ _ ?_).mono ?_
         focus (simp)
         rintro e w1 ⟨rfl, h1, HP⟩
         rw [HS.out] at h1
         obtain ⟨⟨e0, e1, e2, e3⟩, ⟨q10, q11, q12, q13⟩, ⟨q20, q21, q22, q23⟩, ⟨q30, q31, q32, q33⟩⟩ := h1)
      | (go_at_call 39
         refine (nk_ok HP.out HKB.out H_bl.out _ _ _ ?_).mono ?_
         focus (simp)
         rintro e w1 ⟨rfl, h1, HP⟩
         rw [HS.out] at h1
         obtain ⟨⟨e0, e1, e2, e3⟩, ⟨q10, q11, q12, q13⟩, ⟨q20, q21, q22, q23⟩, ⟨q30, q31, q32, q33⟩⟩ := h1))
    all_goals
      go_ret
      exact ⟨ret_bool (by first | (simp_all [kids3]; done) | (simp_all [kids3]; omega)), HP.out.below⟩
  obtain ⟨x1, r, hxr⟩ : ∃ x1 r, l = x1 :: r := by
    cases l with
    | nil => simp at hlt2
    | cons x1 r => exact ⟨x1, r, rfl⟩
  have hl3 : ((l.length : Int) == 3) = false := by simp; omega
  have HV := Lib.hid (show (nameL s && kids3 pr sg bl l) = false by
    match l, hlen with
    | [], _ => simp [kids3]
    | [_], _ => simp [kids3]
    | [_, _], _ => simp [kids3]
    | [_, _, _], h => simp at h
    | _ :: _ :: _ :: _ :: _, _ => simp [kids3])
  rw [HV.out]
  obtain ⟨L, hL⟩ : ∃ L, l.length = L := ⟨_, rfl⟩
  rw [hL] at hn2 hl3 ⊢
  subst hxr
  clear hL hlt2 hl2 hcap hlen
  obtain ⟨b, off, a1, c1, rfl, ⟨q1, f1, k1⟩⟩ := hk.ncons
  have h1 := hkid x1 (by simp)
  obtain ⟨wa, hwa, hba, e0, e1, e2, e3⟩ := laid4 w (.int .i64 2) (.string ⟨s.toArray⟩) (.slice (some ⟨b, off, none⟩) L c) (.int .i64 p) 24
  have q1 := Four.on q1 hba
  obtain ⟨S, hS⟩ : ∃ S : World → Prop, S = fun W => (W.cell? ⟨w.heap.size, 0, none⟩ = some (.int .i64 2) ∧ W.cell? ⟨w.heap.size, 1, none⟩ = some (.string ⟨s.toArray⟩) ∧ W.cell? ⟨w.heap.size, 2, none⟩ = some (.slice (some ⟨b, off, none⟩) L c) ∧ W.cell? ⟨w.heap.size, 3, none⟩ = some (.int .i64 p)) ∧ Four W b off x1 a1 c1 := ⟨_, rfl⟩
  have HKB := Lib.hid (show Keep S by rw [hS]; exact keep_and (keep_and (keep_cell _ _) (keep_and (keep_cell _ _) (keep_and (keep_cell _ _) (keep_cell _ _)))) (keep_four _ _ _ _ _))
  have HP := Lib.hid (show Nk w n S [(x1, a1, c1)] wa from ⟨hba, hg.on hba, by rw [hS]; exact ⟨⟨e0, e1, e2, e3⟩, q1⟩, fun q hq => by
    simp only [List.mem_cons, List.not_mem_nil, or_false] at hq
    rcases hq with rfl
    · exact ⟨h1, k1.on hba, f1⟩⟩)
  obtain ⟨q10, q11, q12, q13⟩ := q1
  have HS := Lib.hid hS
  clear hg hk hf ht hkid hba hS f1 k1 h1
  go_enter Tryz.func18, Tryz.ntmps18
  go_wp2_with (first
    | (go_at_call 17
       refine (nk_name HP.out HKB.out _ (by first | exact hs | omega)).mono ?_
       rintro e w1 ⟨rfl, h1, HP⟩
       rw [HS.out] at h1
       obtain ⟨⟨e0, e1, e2, e3⟩, ⟨q10, q11, q12, q13⟩⟩ := h1)
    | (go_at_call 38
       refine (nk_ok HP.out HKB.out H_pr.out _ _ _ ?_).mono ?_
       focus (simp)
       rintro e w1 ⟨rfl, h1, HP⟩
       rw [HS.out] at h1
       obtain ⟨⟨e0, e1, e2, e3⟩, ⟨q10, q11, q12, q13⟩⟩ := h1))
  all_goals
    go_ret
    exact ⟨ret_bool (by rfl), HP.out.below⟩

set_option maxRecDepth 100000 in
set_option maxHeartbeats 8000000 in
theorem rdecl_type (pr : Nd → Bool) (ty : Nd → Bool) (ss : Nd → Bool) (it : Nd → Bool) (n : Nat) (h_pr : Ok 38 pr n) (h_ty : Ok 19 ty n) (h_ss : Ok 40 ss n) (h_it : Ok 41 it n) (s : List UInt8) (l : List Nd) (p : Int) (a : Option Addr) (c : Nat) (w : World) (ht : (Nd.mk 3 s l p).height ≤ n + 1) (hg : Glob w) (hk : Kids w w.heap.size a l) (hf : Fits (.mk 3 s l p) c) :
    Calls Tryz.prog 18 #[.agg #[.int .i64 3, .string ⟨s.toArray⟩, .slice a l.length c, .int .i64 p]] w fun e w' => e = .returned (.bool (nameL s && kids2 pr (fun k => (ty k || ss k) || it k) l)) ∧ Below w.heap.size w w' := by
  have hkid : ∀ x, x ∈ l → x.height ≤ n := fun x hx => by have := Nd.height_kid (t := .mk 3 s l p) hx; omega
  have hs : s.length ≤ 140737488351232 := hf.2.2.2.2.1
  have hcap : l.length ≤ c := hf.2.2.2.2.2.1
  have hl2 : l.length ≤ 9223372036854775807 := by have := hf.2.2.2.2.2.2.1; omega
  have H_pr := Lib.hid h_pr
  have H_ty := Lib.hid h_ty
  have H_ss := Lib.hid h_ss
  have H_it := Lib.hid h_it
  clear h_pr h_ty h_ss h_it
  by_cases hlt2 : l.length < 2
  · have hn : (l.length : Int) < 2 := by omega
    have HV := Lib.hid (show (nameL s && kids2 pr (fun k => (ty k || ss k) || it k) l) = false by
      match l, hlt2 with
      | [], _ => simp [kids2]
      | [_], _ => simp [kids2]
      | _ :: _ :: _, h => exfalso; simp only [List.length_cons] at h; omega)
    rw [HV.out]
    obtain ⟨wa, hwa, hba, e0, e1, e2, e3⟩ := laid4 w (.int .i64 3) (.string ⟨s.toArray⟩) (.slice a l.length c) (.int .i64 p) 24
    obtain ⟨S, hS⟩ : ∃ S : World → Prop, S = fun W => (W.cell? ⟨w.heap.size, 0, none⟩ = some (.int .i64 3) ∧ W.cell? ⟨w.heap.size, 1, none⟩ = some (.string ⟨s.toArray⟩) ∧ W.cell? ⟨w.heap.size, 2, none⟩ = some (.slice a l.length c) ∧ W.cell? ⟨w.heap.size, 3, none⟩ = some (.int .i64 p)) := ⟨_, rfl⟩
    have HKB := Lib.hid (show Keep S by rw [hS]; exact keep_and (keep_cell _ _) (keep_and (keep_cell _ _) (keep_and (keep_cell _ _) (keep_cell _ _))))
    have HP := Lib.hid (show Nk w n S [] wa from ⟨hba, hg.on hba, by rw [hS]; exact ⟨e0, e1, e2, e3⟩, fun q hq => by cases hq⟩)
    have HS := Lib.hid hS
    clear hg hk hf ht hkid hba hS
    go_enter Tryz.func18, Tryz.ntmps18
    go_wp2_with (first
      | (go_at_call 17
         refine (nk_name HP.out HKB.out _ (by first | exact hs | omega)).mono ?_
         rintro e w1 ⟨rfl, h1, HP⟩
         rw [HS.out] at h1
         obtain ⟨e0, e1, e2, e3⟩ := h1))
    all_goals
      go_ret
      exact ⟨ret_bool (by rfl), HP.out.below⟩
  have hn2 : ¬ (l.length : Int) < 2 := by omega
  by_cases hlen : l.length = 2
  · obtain ⟨x1, x2, rfl⟩ : ∃ x1 x2, l = [x1, x2] := by
      match l, hlen with
      | [x1, x2], _ => exact ⟨x1, x2, rfl⟩
    obtain ⟨b, off, a1, c1, a2, c2, rfl, ⟨q1, f1, k1⟩, ⟨q2, f2, k2⟩⟩ := hk.n2
    have h1 := hkid x1 (by simp)
    have h2 := hkid x2 (by simp)
    obtain ⟨wa, hwa, hba, e0, e1, e2, e3⟩ := laid4 w (.int .i64 3) (.string ⟨s.toArray⟩) (.slice (some ⟨b, off, none⟩) 2 c) (.int .i64 p) 24
    have q1 := Four.on q1 hba
    have q2 := Four.on q2 hba
    obtain ⟨S, hS⟩ : ∃ S : World → Prop, S = fun W => (W.cell? ⟨w.heap.size, 0, none⟩ = some (.int .i64 3) ∧ W.cell? ⟨w.heap.size, 1, none⟩ = some (.string ⟨s.toArray⟩) ∧ W.cell? ⟨w.heap.size, 2, none⟩ = some (.slice (some ⟨b, off, none⟩) 2 c) ∧ W.cell? ⟨w.heap.size, 3, none⟩ = some (.int .i64 p)) ∧ Four W b off x1 a1 c1 ∧ Four W b (off + 4) x2 a2 c2 := ⟨_, rfl⟩
    have HKB := Lib.hid (show Keep S by rw [hS]; exact keep_and (keep_and (keep_cell _ _) (keep_and (keep_cell _ _) (keep_and (keep_cell _ _) (keep_cell _ _)))) (keep_and (keep_four _ _ _ _ _) (keep_four _ _ _ _ _)))
    have HP := Lib.hid (show Nk w n S [(x1, a1, c1), (x2, a2, c2)] wa from ⟨hba, hg.on hba, by rw [hS]; exact ⟨⟨e0, e1, e2, e3⟩, q1, q2⟩, fun q hq => by
      simp only [List.mem_cons, List.not_mem_nil, or_false] at hq
      rcases hq with rfl | rfl
      · exact ⟨h1, k1.on hba, f1⟩
      · exact ⟨h2, k2.on hba, f2⟩⟩)
    obtain ⟨q10, q11, q12, q13⟩ := q1
    obtain ⟨q20, q21, q22, q23⟩ := q2
    have HS := Lib.hid hS
    clear hg hk hf ht hkid hba hS hlt2 hn2 f1 k1 h1 f2 k2 h2
    go_enter Tryz.func18, Tryz.ntmps18
    go_wp2_with (first
      | (go_at_call 17
         refine (nk_name HP.out HKB.out _ (by first | exact hs | omega)).mono ?_
         rintro e w1 ⟨rfl, h1, HP⟩
         rw [HS.out] at h1
         obtain ⟨⟨e0, e1, e2, e3⟩, ⟨q10, q11, q12, q13⟩, ⟨q20, q21, q22, q23⟩⟩ := h1)
      | (go_at_call 38
         refine (nk_ok HP.out HKB.out H_pr.out _ _ _ ?_).mono ?_
         focus (simp)
         rintro e w1 ⟨rfl, h1, HP⟩
         rw [HS.out] at h1
         obtain ⟨⟨e0, e1, e2, e3⟩, ⟨q10, q11, q12, q13⟩, ⟨q20, q21, q22, q23⟩⟩ := h1)
      | (go_at_call 19
         refine (nk_ok HP.out HKB.out H_ty.out _ _ _ ?_).mono ?_
         focus (simp)
         rintro e w1 ⟨rfl, h1, HP⟩
         rw [HS.out] at h1
         obtain ⟨⟨e0, e1, e2, e3⟩, ⟨q10, q11, q12, q13⟩, ⟨q20, q21, q22, q23⟩⟩ := h1)
      | (go_at_call 40
         refine (nk_ok HP.out HKB.out H_ss.out _ _ _ ?_).mono ?_
         focus (simp)
         rintro e w1 ⟨rfl, h1, HP⟩
         rw [HS.out] at h1
         obtain ⟨⟨e0, e1, e2, e3⟩, ⟨q10, q11, q12, q13⟩, ⟨q20, q21, q22, q23⟩⟩ := h1)
      | (go_at_call 41
         refine (nk_ok HP.out HKB.out H_it.out _ _ _ ?_).mono ?_
         focus (simp)
         rintro e w1 ⟨rfl, h1, HP⟩
         rw [HS.out] at h1
         obtain ⟨⟨e0, e1, e2, e3⟩, ⟨q10, q11, q12, q13⟩, ⟨q20, q21, q22, q23⟩⟩ := h1))
    all_goals
      go_ret
      exact ⟨ret_bool (by first | (simp_all [kids2]; done) | (simp_all [kids2]; omega)), HP.out.below⟩
  obtain ⟨x1, r, hxr⟩ : ∃ x1 r, l = x1 :: r := by
    cases l with
    | nil => simp at hlt2
    | cons x1 r => exact ⟨x1, r, rfl⟩
  have hl3 : ((l.length : Int) == 2) = false := by simp; omega
  have HV := Lib.hid (show (nameL s && kids2 pr (fun k => (ty k || ss k) || it k) l) = false by
    match l, hlen with
    | [], _ => simp [kids2]
    | [_], _ => simp [kids2]
    | [_, _], h => simp at h
    | _ :: _ :: _ :: _, _ => simp [kids2])
  rw [HV.out]
  obtain ⟨L, hL⟩ : ∃ L, l.length = L := ⟨_, rfl⟩
  rw [hL] at hn2 hl3 ⊢
  subst hxr
  clear hL hlt2 hl2 hcap hlen
  obtain ⟨b, off, a1, c1, rfl, ⟨q1, f1, k1⟩⟩ := hk.ncons
  have h1 := hkid x1 (by simp)
  obtain ⟨wa, hwa, hba, e0, e1, e2, e3⟩ := laid4 w (.int .i64 3) (.string ⟨s.toArray⟩) (.slice (some ⟨b, off, none⟩) L c) (.int .i64 p) 24
  have q1 := Four.on q1 hba
  obtain ⟨S, hS⟩ : ∃ S : World → Prop, S = fun W => (W.cell? ⟨w.heap.size, 0, none⟩ = some (.int .i64 3) ∧ W.cell? ⟨w.heap.size, 1, none⟩ = some (.string ⟨s.toArray⟩) ∧ W.cell? ⟨w.heap.size, 2, none⟩ = some (.slice (some ⟨b, off, none⟩) L c) ∧ W.cell? ⟨w.heap.size, 3, none⟩ = some (.int .i64 p)) ∧ Four W b off x1 a1 c1 := ⟨_, rfl⟩
  have HKB := Lib.hid (show Keep S by rw [hS]; exact keep_and (keep_and (keep_cell _ _) (keep_and (keep_cell _ _) (keep_and (keep_cell _ _) (keep_cell _ _)))) (keep_four _ _ _ _ _))
  have HP := Lib.hid (show Nk w n S [(x1, a1, c1)] wa from ⟨hba, hg.on hba, by rw [hS]; exact ⟨⟨e0, e1, e2, e3⟩, q1⟩, fun q hq => by
    simp only [List.mem_cons, List.not_mem_nil, or_false] at hq
    rcases hq with rfl
    · exact ⟨h1, k1.on hba, f1⟩⟩)
  obtain ⟨q10, q11, q12, q13⟩ := q1
  have HS := Lib.hid hS
  clear hg hk hf ht hkid hba hS f1 k1 h1
  go_enter Tryz.func18, Tryz.ntmps18
  go_wp2_with (first
    | (go_at_call 17
       refine (nk_name HP.out HKB.out _ (by first | exact hs | omega)).mono ?_
       rintro e w1 ⟨rfl, h1, HP⟩
       rw [HS.out] at h1
       obtain ⟨⟨e0, e1, e2, e3⟩, ⟨q10, q11, q12, q13⟩⟩ := h1)
    | (go_at_call 38
       refine (nk_ok HP.out HKB.out H_pr.out _ _ _ ?_).mono ?_
       focus (simp)
       rintro e w1 ⟨rfl, h1, HP⟩
       rw [HS.out] at h1
       obtain ⟨⟨e0, e1, e2, e3⟩, ⟨q10, q11, q12, q13⟩⟩ := h1))
  all_goals
    go_ret
    exact ⟨ret_bool (by rfl), HP.out.below⟩

set_option maxRecDepth 100000 in
set_option maxHeartbeats 8000000 in
theorem rdecl_alias (pr : Nd → Bool) (ty : Nd → Bool) (n : Nat) (h_pr : Ok 38 pr n) (h_ty : Ok 19 ty n) (s : List UInt8) (l : List Nd) (p : Int) (a : Option Addr) (c : Nat) (w : World) (ht : (Nd.mk 4 s l p).height ≤ n + 1) (hg : Glob w) (hk : Kids w w.heap.size a l) (hf : Fits (.mk 4 s l p) c) :
    Calls Tryz.prog 18 #[.agg #[.int .i64 4, .string ⟨s.toArray⟩, .slice a l.length c, .int .i64 p]] w fun e w' => e = .returned (.bool (nameL s && kids2 pr ty l)) ∧ Below w.heap.size w w' := by
  have hkid : ∀ x, x ∈ l → x.height ≤ n := fun x hx => by have := Nd.height_kid (t := .mk 4 s l p) hx; omega
  have hs : s.length ≤ 140737488351232 := hf.2.2.2.2.1
  have hcap : l.length ≤ c := hf.2.2.2.2.2.1
  have hl2 : l.length ≤ 9223372036854775807 := by have := hf.2.2.2.2.2.2.1; omega
  have H_pr := Lib.hid h_pr
  have H_ty := Lib.hid h_ty
  clear h_pr h_ty
  by_cases hlt2 : l.length < 2
  · have hn : (l.length : Int) < 2 := by omega
    have HV := Lib.hid (show (nameL s && kids2 pr ty l) = false by
      match l, hlt2 with
      | [], _ => simp [kids2]
      | [_], _ => simp [kids2]
      | _ :: _ :: _, h => exfalso; simp only [List.length_cons] at h; omega)
    rw [HV.out]
    obtain ⟨wa, hwa, hba, e0, e1, e2, e3⟩ := laid4 w (.int .i64 4) (.string ⟨s.toArray⟩) (.slice a l.length c) (.int .i64 p) 24
    obtain ⟨S, hS⟩ : ∃ S : World → Prop, S = fun W => (W.cell? ⟨w.heap.size, 0, none⟩ = some (.int .i64 4) ∧ W.cell? ⟨w.heap.size, 1, none⟩ = some (.string ⟨s.toArray⟩) ∧ W.cell? ⟨w.heap.size, 2, none⟩ = some (.slice a l.length c) ∧ W.cell? ⟨w.heap.size, 3, none⟩ = some (.int .i64 p)) := ⟨_, rfl⟩
    have HKB := Lib.hid (show Keep S by rw [hS]; exact keep_and (keep_cell _ _) (keep_and (keep_cell _ _) (keep_and (keep_cell _ _) (keep_cell _ _))))
    have HP := Lib.hid (show Nk w n S [] wa from ⟨hba, hg.on hba, by rw [hS]; exact ⟨e0, e1, e2, e3⟩, fun q hq => by cases hq⟩)
    have HS := Lib.hid hS
    clear hg hk hf ht hkid hba hS
    go_enter Tryz.func18, Tryz.ntmps18
    go_wp2_with (first
      | (go_at_call 17
         refine (nk_name HP.out HKB.out _ (by first | exact hs | omega)).mono ?_
         rintro e w1 ⟨rfl, h1, HP⟩
         rw [HS.out] at h1
         obtain ⟨e0, e1, e2, e3⟩ := h1))
    all_goals
      go_ret
      exact ⟨ret_bool (by rfl), HP.out.below⟩
  have hn2 : ¬ (l.length : Int) < 2 := by omega
  by_cases hlen : l.length = 2
  · obtain ⟨x1, x2, rfl⟩ : ∃ x1 x2, l = [x1, x2] := by
      match l, hlen with
      | [x1, x2], _ => exact ⟨x1, x2, rfl⟩
    obtain ⟨b, off, a1, c1, a2, c2, rfl, ⟨q1, f1, k1⟩, ⟨q2, f2, k2⟩⟩ := hk.n2
    have h1 := hkid x1 (by simp)
    have h2 := hkid x2 (by simp)
    obtain ⟨wa, hwa, hba, e0, e1, e2, e3⟩ := laid4 w (.int .i64 4) (.string ⟨s.toArray⟩) (.slice (some ⟨b, off, none⟩) 2 c) (.int .i64 p) 24
    have q1 := Four.on q1 hba
    have q2 := Four.on q2 hba
    obtain ⟨S, hS⟩ : ∃ S : World → Prop, S = fun W => (W.cell? ⟨w.heap.size, 0, none⟩ = some (.int .i64 4) ∧ W.cell? ⟨w.heap.size, 1, none⟩ = some (.string ⟨s.toArray⟩) ∧ W.cell? ⟨w.heap.size, 2, none⟩ = some (.slice (some ⟨b, off, none⟩) 2 c) ∧ W.cell? ⟨w.heap.size, 3, none⟩ = some (.int .i64 p)) ∧ Four W b off x1 a1 c1 ∧ Four W b (off + 4) x2 a2 c2 := ⟨_, rfl⟩
    have HKB := Lib.hid (show Keep S by rw [hS]; exact keep_and (keep_and (keep_cell _ _) (keep_and (keep_cell _ _) (keep_and (keep_cell _ _) (keep_cell _ _)))) (keep_and (keep_four _ _ _ _ _) (keep_four _ _ _ _ _)))
    have HP := Lib.hid (show Nk w n S [(x1, a1, c1), (x2, a2, c2)] wa from ⟨hba, hg.on hba, by rw [hS]; exact ⟨⟨e0, e1, e2, e3⟩, q1, q2⟩, fun q hq => by
      simp only [List.mem_cons, List.not_mem_nil, or_false] at hq
      rcases hq with rfl | rfl
      · exact ⟨h1, k1.on hba, f1⟩
      · exact ⟨h2, k2.on hba, f2⟩⟩)
    obtain ⟨q10, q11, q12, q13⟩ := q1
    obtain ⟨q20, q21, q22, q23⟩ := q2
    have HS := Lib.hid hS
    clear hg hk hf ht hkid hba hS hlt2 hn2 f1 k1 h1 f2 k2 h2
    go_enter Tryz.func18, Tryz.ntmps18
    go_wp2_with (first
      | (go_at_call 17
         refine (nk_name HP.out HKB.out _ (by first | exact hs | omega)).mono ?_
         rintro e w1 ⟨rfl, h1, HP⟩
         rw [HS.out] at h1
         obtain ⟨⟨e0, e1, e2, e3⟩, ⟨q10, q11, q12, q13⟩, ⟨q20, q21, q22, q23⟩⟩ := h1)
      | (go_at_call 38
         refine (nk_ok HP.out HKB.out H_pr.out _ _ _ ?_).mono ?_
         focus (simp)
         rintro e w1 ⟨rfl, h1, HP⟩
         rw [HS.out] at h1
         obtain ⟨⟨e0, e1, e2, e3⟩, ⟨q10, q11, q12, q13⟩, ⟨q20, q21, q22, q23⟩⟩ := h1)
      | (go_at_call 19
         refine (nk_ok HP.out HKB.out H_ty.out _ _ _ ?_).mono ?_
         focus (simp)
         rintro e w1 ⟨rfl, h1, HP⟩
         rw [HS.out] at h1
         obtain ⟨⟨e0, e1, e2, e3⟩, ⟨q10, q11, q12, q13⟩, ⟨q20, q21, q22, q23⟩⟩ := h1))
    all_goals
      go_ret
      exact ⟨ret_bool (by first | (simp_all [kids2]; done) | (simp_all [kids2]; omega)), HP.out.below⟩
  obtain ⟨x1, r, hxr⟩ : ∃ x1 r, l = x1 :: r := by
    cases l with
    | nil => simp at hlt2
    | cons x1 r => exact ⟨x1, r, rfl⟩
  have hl3 : ((l.length : Int) == 2) = false := by simp; omega
  have HV := Lib.hid (show (nameL s && kids2 pr ty l) = false by
    match l, hlen with
    | [], _ => simp [kids2]
    | [_], _ => simp [kids2]
    | [_, _], h => simp at h
    | _ :: _ :: _ :: _, _ => simp [kids2])
  rw [HV.out]
  obtain ⟨L, hL⟩ : ∃ L, l.length = L := ⟨_, rfl⟩
  rw [hL] at hn2 hl3 ⊢
  subst hxr
  clear hL hlt2 hl2 hcap hlen
  obtain ⟨b, off, a1, c1, rfl, ⟨q1, f1, k1⟩⟩ := hk.ncons
  have h1 := hkid x1 (by simp)
  obtain ⟨wa, hwa, hba, e0, e1, e2, e3⟩ := laid4 w (.int .i64 4) (.string ⟨s.toArray⟩) (.slice (some ⟨b, off, none⟩) L c) (.int .i64 p) 24
  have q1 := Four.on q1 hba
  obtain ⟨S, hS⟩ : ∃ S : World → Prop, S = fun W => (W.cell? ⟨w.heap.size, 0, none⟩ = some (.int .i64 4) ∧ W.cell? ⟨w.heap.size, 1, none⟩ = some (.string ⟨s.toArray⟩) ∧ W.cell? ⟨w.heap.size, 2, none⟩ = some (.slice (some ⟨b, off, none⟩) L c) ∧ W.cell? ⟨w.heap.size, 3, none⟩ = some (.int .i64 p)) ∧ Four W b off x1 a1 c1 := ⟨_, rfl⟩
  have HKB := Lib.hid (show Keep S by rw [hS]; exact keep_and (keep_and (keep_cell _ _) (keep_and (keep_cell _ _) (keep_and (keep_cell _ _) (keep_cell _ _)))) (keep_four _ _ _ _ _))
  have HP := Lib.hid (show Nk w n S [(x1, a1, c1)] wa from ⟨hba, hg.on hba, by rw [hS]; exact ⟨⟨e0, e1, e2, e3⟩, q1⟩, fun q hq => by
    simp only [List.mem_cons, List.not_mem_nil, or_false] at hq
    rcases hq with rfl
    · exact ⟨h1, k1.on hba, f1⟩⟩)
  obtain ⟨q10, q11, q12, q13⟩ := q1
  have HS := Lib.hid hS
  clear hg hk hf ht hkid hba hS f1 k1 h1
  go_enter Tryz.func18, Tryz.ntmps18
  go_wp2_with (first
    | (go_at_call 17
       refine (nk_name HP.out HKB.out _ (by first | exact hs | omega)).mono ?_
       rintro e w1 ⟨rfl, h1, HP⟩
       rw [HS.out] at h1
       obtain ⟨⟨e0, e1, e2, e3⟩, ⟨q10, q11, q12, q13⟩⟩ := h1)
    | (go_at_call 38
       refine (nk_ok HP.out HKB.out H_pr.out _ _ _ ?_).mono ?_
       focus (simp)
       rintro e w1 ⟨rfl, h1, HP⟩
       rw [HS.out] at h1
       obtain ⟨⟨e0, e1, e2, e3⟩, ⟨q10, q11, q12, q13⟩⟩ := h1))
  all_goals
    go_ret
    exact ⟨ret_bool (by rfl), HP.out.below⟩

set_option maxRecDepth 100000 in
set_option maxHeartbeats 8000000 in
theorem rdecl_var (ty : Nd → Bool) (ex : Nd → Bool) (n : Nat) (h_ty : Ok 19 ty n) (h_ex : Ok 20 ex n) (s : List UInt8) (l : List Nd) (p : Int) (a : Option Addr) (c : Nat) (w : World) (ht : (Nd.mk 5 s l p).height ≤ n + 1) (hg : Glob w) (hk : Kids w w.heap.size a l) (hf : Fits (.mk 5 s l p) c) :
    Calls Tryz.prog 18 #[.agg #[.int .i64 5, .string ⟨s.toArray⟩, .slice a l.length c, .int .i64 p]] w fun e w' => e = .returned (.bool (nameL s && varKids ty ex l)) ∧ Below w.heap.size w w' := by
  have hkid : ∀ x, x ∈ l → x.height ≤ n := fun x hx => by have := Nd.height_kid (t := .mk 5 s l p) hx; omega
  have hs : s.length ≤ 140737488351232 := hf.2.2.2.2.1
  have hcap : l.length ≤ c := hf.2.2.2.2.2.1
  have hl2 : l.length ≤ 9223372036854775807 := by have := hf.2.2.2.2.2.2.1; omega
  obtain ⟨wa, hwa, hba, e0, e1, e2, e3⟩ := laid4 w (.int .i64 5) (.string ⟨s.toArray⟩) (.slice a l.length c) (.int .i64 p) 24
  obtain ⟨S, hS⟩ : ∃ S : World → Prop, S = fun W => (W.cell? ⟨w.heap.size, 0, none⟩ = some (.int .i64 5) ∧ W.cell? ⟨w.heap.size, 1, none⟩ = some (.string ⟨s.toArray⟩) ∧ W.cell? ⟨w.heap.size, 2, none⟩ = some (.slice a l.length c) ∧ W.cell? ⟨w.heap.size, 3, none⟩ = some (.int .i64 p)) := ⟨_, rfl⟩
  have HKB := Lib.hid (show Keep S by rw [hS]; exact keep_and (keep_cell _ _) (keep_and (keep_cell _ _) (keep_and (keep_cell _ _) (keep_cell _ _))))
  have HP := Lib.hid (show Nk w n S [] wa from ⟨hba, hg.on hba, by rw [hS]; exact ⟨e0, e1, e2, e3⟩, fun q hq => by cases hq⟩)
  have HS := Lib.hid hS
  have hx := nk_post HP.out HKB.out (rvar_five ty ex n h_ty h_ex s l p a c wa ht HP.out.glob (hk.on hba) hf)
  obtain ⟨R, hR⟩ : ∃ R, (nameL s && varKids ty ex l) = R := ⟨_, rfl⟩
  rw [hR] at hx
  rw [hR]
  have HX := Lib.hid hx
  clear hx hR h_ty h_ex hg hk hf ht hkid hba hS
  go_enter Tryz.func18, Tryz.ntmps18
  go_wp2_with fail
  refine HX.out.mono ?_
  rintro e w1 ⟨rfl, h1, HP⟩
  go_wp2_with fail
  go_ret
  exact ⟨rfl, HP.out.below⟩

set_option maxRecDepth 100000 in
set_option maxHeartbeats 8000000 in
theorem rdecl_none (pr : Nd → Bool) (n : Nat) (k : Int) (hkn : k ≠ 2 ∧ k ≠ 3 ∧ k ≠ 4 ∧ k ≠ 5) (h_pr : Ok 38 pr n) (s : List UInt8) (l : List Nd) (p : Int) (a : Option Addr) (c : Nat) (w : World) (ht : (Nd.mk k s l p).height ≤ n + 1) (hg : Glob w) (hk : Kids w w.heap.size a l) (hf : Fits (.mk k s l p) c) :
    Calls Tryz.prog 18 #[.agg #[.int .i64 k, .string ⟨s.toArray⟩, .slice a l.length c, .int .i64 p]] w fun e w' => e = .returned (.bool (false)) ∧ Below w.heap.size w w' := by
  have hkid : ∀ x, x ∈ l → x.height ≤ n := fun x hx => by have := Nd.height_kid (t := .mk k s l p) hx; omega
  have hs : s.length ≤ 140737488351232 := hf.2.2.2.2.1
  have hcap : l.length ≤ c := hf.2.2.2.2.2.1
  have hl2 : l.length ≤ 9223372036854775807 := by have := hf.2.2.2.2.2.2.1; omega
  have m2 : (k == 2) = false := by simpa using hkn.1
  have m3 : (k == 3) = false := by simpa using hkn.2.1
  have m4 : (k == 4) = false := by simpa using hkn.2.2.1
  have m5 : (k == 5) = false := by simpa using hkn.2.2.2
  clear hkn
  have H_pr := Lib.hid h_pr
  clear h_pr
  by_cases hlt2 : l.length < 2
  · have hn : (l.length : Int) < 2 := by omega
    obtain ⟨wa, hwa, hba, e0, e1, e2, e3⟩ := laid4 w (.int .i64 k) (.string ⟨s.toArray⟩) (.slice a l.length c) (.int .i64 p) 24
    obtain ⟨S, hS⟩ : ∃ S : World → Prop, S = fun W => (W.cell? ⟨w.heap.size, 0, none⟩ = some (.int .i64 k) ∧ W.cell? ⟨w.heap.size, 1, none⟩ = some (.string ⟨s.toArray⟩) ∧ W.cell? ⟨w.heap.size, 2, none⟩ = some (.slice a l.length c) ∧ W.cell? ⟨w.heap.size, 3, none⟩ = some (.int .i64 p)) := ⟨_, rfl⟩
    have HKB := Lib.hid (show Keep S by rw [hS]; exact keep_and (keep_cell _ _) (keep_and (keep_cell _ _) (keep_and (keep_cell _ _) (keep_cell _ _))))
    have HP := Lib.hid (show Nk w n S [] wa from ⟨hba, hg.on hba, by rw [hS]; exact ⟨e0, e1, e2, e3⟩, fun q hq => by cases hq⟩)
    have HS := Lib.hid hS
    clear hg hk hf ht hkid hba hS
    go_enter Tryz.func18, Tryz.ntmps18
    go_wp2_with (first
      | (go_at_call 17
         refine (nk_name HP.out HKB.out _ (by first | exact hs | omega)).mono ?_
         rintro e w1 ⟨rfl, h1, HP⟩
         rw [HS.out] at h1
         obtain ⟨e0, e1, e2, e3⟩ := h1))
    all_goals
      go_ret
      exact ⟨ret_bool (by rfl), HP.out.below⟩
  have hn2 : ¬ (l.length : Int) < 2 := by omega
  obtain ⟨x1, r, hxr⟩ : ∃ x1 r, l = x1 :: r := by
    cases l with
    | nil => simp at hlt2
    | cons x1 r => exact ⟨x1, r, rfl⟩
  obtain ⟨L, hL⟩ : ∃ L, l.length = L := ⟨_, rfl⟩
  rw [hL] at hn2 ⊢
  subst hxr
  clear hL hlt2 hl2 hcap
  obtain ⟨b, off, a1, c1, rfl, ⟨q1, f1, k1⟩⟩ := hk.ncons
  have h1 := hkid x1 (by simp)
  obtain ⟨wa, hwa, hba, e0, e1, e2, e3⟩ := laid4 w (.int .i64 k) (.string ⟨s.toArray⟩) (.slice (some ⟨b, off, none⟩) L c) (.int .i64 p) 24
  have q1 := Four.on q1 hba
  obtain ⟨S, hS⟩ : ∃ S : World → Prop, S = fun W => (W.cell? ⟨w.heap.size, 0, none⟩ = some (.int .i64 k) ∧ W.cell? ⟨w.heap.size, 1, none⟩ = some (.string ⟨s.toArray⟩) ∧ W.cell? ⟨w.heap.size, 2, none⟩ = some (.slice (some ⟨b, off, none⟩) L c) ∧ W.cell? ⟨w.heap.size, 3, none⟩ = some (.int .i64 p)) ∧ Four W b off x1 a1 c1 := ⟨_, rfl⟩
  have HKB := Lib.hid (show Keep S by rw [hS]; exact keep_and (keep_and (keep_cell _ _) (keep_and (keep_cell _ _) (keep_and (keep_cell _ _) (keep_cell _ _)))) (keep_four _ _ _ _ _))
  have HP := Lib.hid (show Nk w n S [(x1, a1, c1)] wa from ⟨hba, hg.on hba, by rw [hS]; exact ⟨⟨e0, e1, e2, e3⟩, q1⟩, fun q hq => by
    simp only [List.mem_cons, List.not_mem_nil, or_false] at hq
    rcases hq with rfl
    · exact ⟨h1, k1.on hba, f1⟩⟩)
  obtain ⟨q10, q11, q12, q13⟩ := q1
  have HS := Lib.hid hS
  clear hg hk hf ht hkid hba hS f1 k1 h1
  go_enter Tryz.func18, Tryz.ntmps18
  go_wp2_with (first
    | (go_at_call 17
       refine (nk_name HP.out HKB.out _ (by first | exact hs | omega)).mono ?_
       rintro e w1 ⟨rfl, h1, HP⟩
       rw [HS.out] at h1
       obtain ⟨⟨e0, e1, e2, e3⟩, ⟨q10, q11, q12, q13⟩⟩ := h1)
    | (go_at_call 38
       refine (nk_ok HP.out HKB.out H_pr.out _ _ _ ?_).mono ?_
       focus (simp)
       rintro e w1 ⟨rfl, h1, HP⟩
       rw [HS.out] at h1
       obtain ⟨⟨e0, e1, e2, e3⟩, ⟨q10, q11, q12, q13⟩⟩ := h1))
  all_goals
    go_ret
    exact ⟨ret_bool (by rfl), HP.out.below⟩

theorem rdecl_ok (pr sg bl ty ss it ex : Nd → Bool) (n : Nat) (h_pr : Ok 38 pr n) (h_sg : SgOk true sg n) (h_bl : Ok 39 bl n) (h_ty : Ok 19 ty n)
    (h_ss : Ok 40 ss n) (h_it : Ok 41 it n) (h_ex : Ok 20 ex n) : Ok 18 (declB pr sg bl ty ss it (varB ty ex)) (n + 1) := by
  rintro ⟨k, s, l, p⟩ a c w ht hg hk hf
  simp only [Nd.kind_mk, Nd.text_mk, Nd.kids_mk, Nd.pos_mk] at *
  by_cases k2 : k = 2
  · subst k2
    refine (rdecl_func pr sg bl n h_pr h_sg h_bl s l p a c w ht hg hk hf).mono ?_
    rintro e w' ⟨rfl, hb⟩
    exact ⟨ret_bool (by simp [declB]), hb⟩
  by_cases k3 : k = 3
  · subst k3
    refine (rdecl_type pr ty ss it n h_pr h_ty h_ss h_it s l p a c w ht hg hk hf).mono ?_
    rintro e w' ⟨rfl, hb⟩
    exact ⟨ret_bool (by simp [declB, typeDeclB]), hb⟩
  by_cases k4 : k = 4
  · subst k4
    refine (rdecl_alias pr ty n h_pr h_ty s l p a c w ht hg hk hf).mono ?_
    rintro e w' ⟨rfl, hb⟩
    exact ⟨ret_bool (by simp [declB]), hb⟩
  by_cases k5 : k = 5
  · subst k5
    refine (rdecl_var ty ex n h_ty h_ex s l p a c w ht hg hk hf).mono ?_
    rintro e w' ⟨rfl, hb⟩
    exact ⟨ret_bool (by simp [declB, varB]), hb⟩
  · refine (rdecl_none pr n k ⟨k2, k3, k4, k5⟩ h_pr s l p a c w ht hg hk hf).mono ?_
    rintro e w' ⟨rfl, hb⟩
    exact ⟨ret_bool (by simp [declB, varB, k2, k3, k4, k5]), hb⟩
end Go.Proofs.YtnmebgiiajnnjaaGreat
