/-
  the document's kind (a statement of one of some kinds), walked.
  the document's Stmt, kind by kind, walked. (printed by gen_rr.py)
  the document's Stmt: if, for; walked. (printed by gen_rr.py)
-/
import Derived.Deep.RegionHeld3
import Derived.Test.YtnmebgiiajnnjaaGreatRrJ
namespace Go.Proofs.YtnmebgiiajnnjaaGreat
set_option linter.unusedSimpArgs false
set_option linter.unusedVariables false
open Go.RowKit

def IntRow (w : World) (a : Option Addr) (l : List Int) : Prop := ∀ j (h : j < l.length), ∃ b off, a = some ⟨b, off, none⟩ ∧ w.cell? ⟨b, off + j, none⟩ = some (.int .i64 l[j])
theorem IntRow.on {w w' : World} {a : Option Addr} {l : List Int} (h : IntRow w a l) (hb : Below w.heap.size w w') : IntRow w' a l := fun j hj => by
  obtain ⟨b, off, ha, hc⟩ := h j hj
  exact ⟨b, off, ha, keep_cell _ _ w w' hb hc⟩
set_option maxHeartbeats 4000000 in
theorem rkind_any (st : Nd → Bool) (n : Nat) (h : Ok 21 st n) (ks : List Int) (ak : Option Addr) (ck : Nat) (t : Nd) (a : Option Addr) (c : Nat) (w : World) (hks : ks.length ≤ 1000) (hr : IntRow w ak ks) (ht : t.height ≤ n) (hg : Glob w) (hk : Kids w w.heap.size a t.kids) (hf : Fits t c) :
    Calls Tryz.prog 46 #[.agg #[.int .i64 t.kind, .string ⟨t.text.toArray⟩, .slice a t.kids.length c, .int .i64 t.pos], .slice ak ks.length ck] w fun e w' => e = .returned (.bool (decide (t.kind ∈ ks) && st t)) ∧ Below w.heap.size w w' := by
  obtain ⟨wa, hwa, hba, e0, e1, e2, e3⟩ := laid4 w (.int .i64 t.kind) (.string ⟨t.text.toArray⟩) (.slice a t.kids.length c) (.int .i64 t.pos) 24
  have hx := h t a c wa.drew ht ((hg.on hba).on (Below.refl _ _).drew) ((hk.on hba).on (Below.refl _ _).drew) hf
  obtain ⟨R, hR⟩ : ∃ R, st t = R := ⟨_, rfl⟩
  rw [hR] at hx ⊢
  have HX := Lib.hid (fun W (hW : Below w.heap.size w W) => (hR ▸ h t a c W ht (hg.on hW) (hk.on hW) hf : Calls Tryz.prog 21 #[.agg #[.int .i64 t.kind, .string ⟨t.text.toArray⟩, .slice a t.kids.length c, .int .i64 t.pos]] W fun e w' => e = .returned (.bool R) ∧ Below W.heap.size W w'))
  have HR := Lib.hid hr
  have HBA := Lib.hid hba
  clear hx h hg hk hf ht hba hr hR
  go_enter Tryz.func46, Tryz.ntmps46
  go_wp2_with fail
  go_loopw [5] (fun i wr => ∃ j : Nat, j ≤ ks.length ∧ i = .int .i64 j ∧ Hid (t.kind ∉ ks.take j) ∧ Hid (Below w.heap.size w wr) ∧
    (wr.cell? ⟨w.heap.size, 0, none⟩ = some (.int .i64 t.kind) ∧ wr.cell? ⟨w.heap.size, 1, none⟩ = some (.string ⟨t.text.toArray⟩) ∧ wr.cell? ⟨w.heap.size, 2, none⟩ = some (.slice a t.kids.length c) ∧ wr.cell? ⟨w.heap.size, 3, none⟩ = some (.int .i64 t.pos))) (fun i _ => ks.length - (intOf i).toNat)
  case atStart => exact ⟨0, by omega, rfl, Lib.hid (by simp), HBA, e0, e1, e2, e3⟩
  case round =>
    obtain ⟨j, hj1, rfl, HNI, HB, e0, e1, e2, e3⟩ := hrel
    by_cases hlt : j < ks.length
    · obtain ⟨b, off, ha, hc⟩ := (HR.out.on HB.out) j hlt
      subst ha
      have hl1 : w.heap.size < wr.heap.size := cell_lt e0
      have hl2 : b < wr.heap.size := cell_lt hc
      obtain ⟨d, hd⟩ : ∃ d, ks[j] = d := ⟨_, rfl⟩
      have HD := Lib.hid hd
      rw [hd] at hc
      clear hd
      cases hq : (t.kind == d) with
      | true =>
        have HM := Lib.hid (show decide (t.kind ∈ ks) = true by rw [eq_of_beq hq, ← HD.out]; simp)
        go_wp2_with fail
        go_region_held3 (fun W => (W.cell? ⟨w.heap.size, 0, none⟩ = some (.int .i64 t.kind) ∧ W.cell? ⟨w.heap.size, 1, none⟩ = some (.string ⟨t.text.toArray⟩) ∧ W.cell? ⟨w.heap.size, 2, none⟩ = some (.slice a t.kids.length c) ∧ W.cell? ⟨w.heap.size, 3, none⟩ = some (.int .i64 t.pos)) ∧ W.cell? ⟨b, off + j, none⟩ = some (.int .i64 d)) (go_keep) (fail)
        all_goals
          go_wp2_with fail
          refine (HX.out _ (bext HB.out (Below.refl _ _).drew)).mono ?_
          rintro e w2 ⟨rfl, hb2⟩
          have HB2 := Lib.hid (bext (bext HB.out (Below.refl _ _).drew) hb2)
          clear hb2
          go_wp2_with fail
          go_ret
          exact ⟨ret_bool (by rw [HM.out]; rfl), HB2.out⟩
      | false =>
        have HN := Lib.hid (show t.kind ∉ ks.take (j + 1) by
          rw [List.take_succ_eq_append_getElem hlt, List.mem_append, HD.out]
          rintro (h | h)
          · exact HNI.out h
          · rw [List.mem_singleton.1 h] at hq; simp at hq)
        go_wp2_with fail
        go_region_held3 (fun W => (W.cell? ⟨w.heap.size, 0, none⟩ = some (.int .i64 t.kind) ∧ W.cell? ⟨w.heap.size, 1, none⟩ = some (.string ⟨t.text.toArray⟩) ∧ W.cell? ⟨w.heap.size, 2, none⟩ = some (.slice a t.kids.length c) ∧ W.cell? ⟨w.heap.size, 3, none⟩ = some (.int .i64 t.pos)) ∧ W.cell? ⟨b, off + j, none⟩ = some (.int .i64 d)) (go_keep) (fail)
        all_goals
          go_wp2_with fail
          go_roundw
          case rel => exact ⟨j + 1, by omega, by go_num, HN, Lib.hid (bext HB.out (Below.refl _ _).drew), e0, e1, e2, e3⟩
          case measure => simp [intOf]; omega
    · obtain rfl : j = ks.length := by omega
      have HM := Lib.hid (show decide (t.kind ∈ ks) = false by
        have := HNI.out
        rw [List.take_length] at this
        simpa using this)
      go_wp2_with fail
      go_ret
      exact ⟨ret_bool (by rw [HM.out]; rfl), HB.out⟩
section
variable {w0 : World} {n : Nat} {B : World → Prop} {K : List (Nd × Option Addr × Nat)} {W : World}
theorem nk_kind2 (h : Nk w0 n B K W) (hB : Keep B) {st : Nd → Bool} (ho : Ok 21 st n) (k1 k2 : Int) (t : Nd) (a : Option Addr) (c : Nat) (hm : (t, a, c) ∈ K) :
    Calls Tryz.prog 46 #[.agg #[.int .i64 t.kind, .string ⟨t.text.toArray⟩, .slice a t.kids.length c, .int .i64 t.pos], .slice (some ⟨W.heap.size, 0, none⟩) 2 2] (W.alloc (.cells #[.int .i64 k1, .int .i64 k2] 3)) (NkPost w0 n B K (.bool ((t.kind == k1 || t.kind == k2) && st t))) := by
  have h' := h.on hB (below_alloc W (.cells #[.int .i64 k1, .int .i64 k2] 3))
  have hr : IntRow (W.alloc (.cells #[.int .i64 k1, .int .i64 k2] 3)) (some ⟨W.heap.size, 0, none⟩) [k1, k2] := fun j hj => by
    refine ⟨_, _, rfl, ?_⟩
    match j, hj with
    | 0, _ => simp [go_sem]
    | 1, _ => simp [go_sem]
  have := nk_post h' hB (rkind_any st n ho [k1, k2] _ 2 t a c _ (by simp) hr (h'.known _ hm).1 h'.glob (h'.known _ hm).2.1 (h'.known _ hm).2.2)
  rw [show decide (t.kind ∈ [k1, k2]) = (t.kind == k1 || t.kind == k2) by rw [Bool.eq_iff_iff]; simp] at this
  exact this
theorem nk_kind3 (h : Nk w0 n B K W) (hB : Keep B) {st : Nd → Bool} (ho : Ok 21 st n) (k1 k2 k3 : Int) (t : Nd) (a : Option Addr) (c : Nat) (hm : (t, a, c) ∈ K) :
    Calls Tryz.prog 46 #[.agg #[.int .i64 t.kind, .string ⟨t.text.toArray⟩, .slice a t.kids.length c, .int .i64 t.pos], .slice (some ⟨W.heap.size, 0, none⟩) 3 3] (W.alloc (.cells #[.int .i64 k1, .int .i64 k2, .int .i64 k3] 3)) (NkPost w0 n B K (.bool ((t.kind == k1 || (t.kind == k2 || t.kind == k3)) && st t))) := by
  have h' := h.on hB (below_alloc W (.cells #[.int .i64 k1, .int .i64 k2, .int .i64 k3] 3))
  have hr : IntRow (W.alloc (.cells #[.int .i64 k1, .int .i64 k2, .int .i64 k3] 3)) (some ⟨W.heap.size, 0, none⟩) [k1, k2, k3] := fun j hj => by
    refine ⟨_, _, rfl, ?_⟩
    match j, hj with
    | 0, _ => simp [go_sem]
    | 1, _ => simp [go_sem]
    | 2, _ => simp [go_sem]
  have := nk_post h' hB (rkind_any st n ho [k1, k2, k3] _ 3 t a c _ (by simp) hr (h'.known _ hm).1 h'.glob (h'.known _ hm).2.1 (h'.known _ hm).2.2)
  rw [show decide (t.kind ∈ [k1, k2, k3]) = (t.kind == k1 || (t.kind == k2 || t.kind == k3)) by rw [Bool.eq_iff_iff]; simp] at this
  exact this
end
end Go.Proofs.YtnmebgiiajnnjaaGreat

namespace Go.Proofs.YtnmebgiiajnnjaaGreat
set_option linter.unusedSimpArgs false
set_option linter.unusedVariables false
open Go.RowKit

set_option maxRecDepth 100000 in
set_option maxHeartbeats 8000000 in
theorem rstmt_short (ex : Nd → Bool) (n : Nat) (h_ex : Ok 20 ex n) (s : List UInt8) (l : List Nd) (p : Int) (a : Option Addr) (c : Nat) (w : World) (ht : (Nd.mk 26 s l p).height ≤ n + 1) (hg : Glob w) (hk : Kids w w.heap.size a l) (hf : Fits (.mk 26 s l p) c) :
    Calls Tryz.prog 21 #[.agg #[.int .i64 26, .string ⟨s.toArray⟩, .slice a l.length c, .int .i64 p]] w fun e w' => e = .returned (.bool (boundL s && kids1 ex l)) ∧ Below w.heap.size w w' := by
  have hkid : ∀ x, x ∈ l → x.height ≤ n := fun x hx => by have := Nd.height_kid (t := .mk 26 s l p) hx; omega
  have hs : s.length ≤ 140737488351232 := hf.2.2.2.2.1
  have hcap : l.length ≤ c := hf.2.2.2.2.2.1
  have hl2 : l.length ≤ 9223372036854775807 := by have := hf.2.2.2.2.2.2.1; omega
  have H_ex := Lib.hid h_ex
  clear h_ex
  by_cases hlen : l.length = 1
  · obtain ⟨x1, rfl⟩ : ∃ x1, l = [x1] := by
      match l, hlen with
      | [x1], _ => exact ⟨x1, rfl⟩
    obtain ⟨b, off, a1, c1, rfl, ⟨q1, f1, k1⟩⟩ := hk.n1
    have h1 := hkid x1 (by simp)
    obtain ⟨wa, hwa, hba, e0, e1, e2, e3⟩ := laid4 w (.int .i64 26) (.string ⟨s.toArray⟩) (.slice (some ⟨b, off, none⟩) 1 c) (.int .i64 p) 24
    have q1 := Four.on q1 hba
    obtain ⟨S, hS⟩ : ∃ S : World → Prop, S = fun W => (W.cell? ⟨w.heap.size, 0, none⟩ = some (.int .i64 26) ∧ W.cell? ⟨w.heap.size, 1, none⟩ = some (.string ⟨s.toArray⟩) ∧ W.cell? ⟨w.heap.size, 2, none⟩ = some (.slice (some ⟨b, off, none⟩) 1 c) ∧ W.cell? ⟨w.heap.size, 3, none⟩ = some (.int .i64 p)) ∧ Four W b off x1 a1 c1 := ⟨_, rfl⟩
    have HKB := Lib.hid (show Keep S by rw [hS]; exact keep_and (keep_and (keep_cell _ _) (keep_and (keep_cell _ _) (keep_and (keep_cell _ _) (keep_cell _ _)))) (keep_four _ _ _ _ _))
    have HP := Lib.hid (show Nk w n S [(x1, a1, c1)] wa from ⟨hba, hg.on hba, by rw [hS]; exact ⟨⟨e0, e1, e2, e3⟩, q1⟩, fun q hq => by
      simp only [List.mem_cons, List.not_mem_nil, or_false] at hq
      rcases hq with rfl
      · exact ⟨h1, k1.on hba, f1⟩⟩)
    obtain ⟨q10, q11, q12, q13⟩ := q1
    have HS := Lib.hid hS
    clear hg hk hf ht hkid hba hS f1 k1 h1
    go_enter Tryz.func21, Tryz.ntmps21
    go_wp2_with (first
      | (go_at_call 44
         refine (nk_bound HP.out HKB.out _ (by first | exact hs | omega)).mono ?_
         rintro e w1 ⟨rfl, h1, HP⟩
         rw [HS.out] at h1
         obtain ⟨⟨e0, e1, e2, e3⟩, ⟨q10, q11, q12, q13⟩⟩ := h1)
      | (go_at_call 20
         refine (nk_ok HP.out HKB.out H_ex.out _ _ _ ?_).mono ?_
         focus (simp)
         rintro e w1 ⟨rfl, h1, HP⟩
         rw [HS.out] at h1
         obtain ⟨⟨e0, e1, e2, e3⟩, ⟨q10, q11, q12, q13⟩⟩ := h1))
    all_goals
      go_ret
      exact ⟨ret_bool (by first | (simp_all [kids1]; done) | (simp_all [kids1]; omega)), HP.out.below⟩
  · have hn : ((l.length : Int) == 1) = false := by simp; omega
    have HV := Lib.hid (show kids1 ex l = false from by
      match l, hlen with
      | [], _ => rfl
      | [_], h => simp at h
      | _ :: _ :: _, _ => rfl)
    obtain ⟨wa, hwa, hba, e0, e1, e2, e3⟩ := laid4 w (.int .i64 26) (.string ⟨s.toArray⟩) (.slice a l.length c) (.int .i64 p) 24
    obtain ⟨S, hS⟩ : ∃ S : World → Prop, S = fun W => (W.cell? ⟨w.heap.size, 0, none⟩ = some (.int .i64 26) ∧ W.cell? ⟨w.heap.size, 1, none⟩ = some (.string ⟨s.toArray⟩) ∧ W.cell? ⟨w.heap.size, 2, none⟩ = some (.slice a l.length c) ∧ W.cell? ⟨w.heap.size, 3, none⟩ = some (.int .i64 p)) := ⟨_, rfl⟩
    have HKB := Lib.hid (show Keep S by rw [hS]; exact keep_and (keep_cell _ _) (keep_and (keep_cell _ _) (keep_and (keep_cell _ _) (keep_cell _ _))))
    have HP := Lib.hid (show Nk w n S [] wa from ⟨hba, hg.on hba, by rw [hS]; exact ⟨e0, e1, e2, e3⟩, fun q hq => by cases hq⟩)
    have HS := Lib.hid hS
    clear hg hk hf ht hkid hba hS
    go_enter Tryz.func21, Tryz.ntmps21
    go_wp2_with fail
    all_goals
      go_ret
      exact ⟨ret_bool (by rw [HV.out]; simp), HP.out.below⟩

set_option maxRecDepth 100000 in
set_option maxHeartbeats 8000000 in
theorem rstmt_set (ex : Nd → Bool) (n : Nat) (h_ex : Ok 20 ex n) (s : List UInt8) (l : List Nd) (p : Int) (a : Option Addr) (c : Nat) (w : World) (ht : (Nd.mk 27 s l p).height ≤ n + 1) (hg : Glob w) (hk : Kids w w.heap.size a l) (hf : Fits (.mk 27 s l p) c) :
    Calls Tryz.prog 21 #[.agg #[.int .i64 27, .string ⟨s.toArray⟩, .slice a l.length c, .int .i64 p]] w fun e w' => e = .returned (.bool (s.isEmpty && kids2 ex ex l)) ∧ Below w.heap.size w w' := by
  have hkid : ∀ x, x ∈ l → x.height ≤ n := fun x hx => by have := Nd.height_kid (t := .mk 27 s l p) hx; omega
  have hs : s.length ≤ 140737488351232 := hf.2.2.2.2.1
  have hcap : l.length ≤ c := hf.2.2.2.2.2.1
  have hl2 : l.length ≤ 9223372036854775807 := by have := hf.2.2.2.2.2.2.1; omega
  have H_ex := Lib.hid h_ex
  have H_exs := Lib.hid (exs_ok ex n h_ex)
  clear h_ex
  by_cases hlen : l.length = 2
  · have HKW := Lib.hid hk
    obtain ⟨x1, x2, rfl⟩ : ∃ x1 x2, l = [x1, x2] := by
      match l, hlen with
      | [x1, x2], _ => exact ⟨x1, x2, rfl⟩
    obtain ⟨b, off, a1, c1, a2, c2, rfl, ⟨q1, f1, k1⟩, ⟨q2, f2, k2⟩⟩ := hk.n2
    have h1 := hkid x1 (by simp)
    have h2 := hkid x2 (by simp)
    obtain ⟨wa, hwa, hba, e0, e1, e2, e3⟩ := laid4 w (.int .i64 27) (.string ⟨s.toArray⟩) (.slice (some ⟨b, off, none⟩) 2 c) (.int .i64 p) 24
    have q1 := Four.on q1 hba
    have q2 := Four.on q2 hba
    obtain ⟨S, hS⟩ : ∃ S : World → Prop, S = fun W => (W.cell? ⟨w.heap.size, 0, none⟩ = some (.int .i64 27) ∧ W.cell? ⟨w.heap.size, 1, none⟩ = some (.string ⟨s.toArray⟩) ∧ W.cell? ⟨w.heap.size, 2, none⟩ = some (.slice (some ⟨b, off, none⟩) 2 c) ∧ W.cell? ⟨w.heap.size, 3, none⟩ = some (.int .i64 p)) ∧ Four W b off x1 a1 c1 ∧ Four W b (off + 4) x2 a2 c2 := ⟨_, rfl⟩
    have HKB := Lib.hid (show Keep S by rw [hS]; exact keep_and (keep_and (keep_cell _ _) (keep_and (keep_cell _ _) (keep_and (keep_cell _ _) (keep_cell _ _)))) (keep_and (keep_four _ _ _ _ _) (keep_four _ _ _ _ _)))
    have HP := Lib.hid (show Nk w n S [(x1, a1, c1), (x2, a2, c2)] wa from ⟨hba, hg.on hba, by rw [hS]; exact ⟨⟨e0, e1, e2, e3⟩, q1, q2⟩, fun q hq => by
      simp only [List.mem_cons, List.not_mem_nil, or_false] at hq
      rcases hq with rfl | rfl
      · exact ⟨h1, k1.on hba, f1⟩
      · exact ⟨h2, k2.on hba, f2⟩⟩)
    obtain ⟨q10, q11, q12, q13⟩ := q1
    obtain ⟨q20, q21, q22, q23⟩ := q2
    have HS := Lib.hid hS
    have HHW := Lib.hid hkid
    have HLW := Lib.hid hl2
    clear hg hk hf ht hkid hba hS f1 k1 h1 f2 k2 h2
    go_enter Tryz.func21, Tryz.ntmps21
    go_wp2_with (first
      | (go_at_call 43
         refine (nk_exs HP.out HKB.out H_exs.out [x1, x2] _ _ HKW.out HHW.out HLW.out).mono ?_
         rintro e w1 ⟨rfl, h1, HP⟩
         rw [HS.out] at h1
         obtain ⟨⟨e0, e1, e2, e3⟩, ⟨q10, q11, q12, q13⟩, ⟨q20, q21, q22, q23⟩⟩ := h1))
    all_goals
      go_ret
      exact ⟨ret_bool (by first | (simp_all [kids2]; done) | (simp_all [kids2]; omega)), HP.out.below⟩
  · have hn : ((l.length : Int) == 2) = false := by simp; omega
    have HV := Lib.hid (show kids2 ex ex l = false from by
      match l, hlen with
      | [], _ => rfl
      | [_], _ => rfl
      | [_, _], h => simp at h
      | _ :: _ :: _ :: _, _ => rfl)
    obtain ⟨wa, hwa, hba, e0, e1, e2, e3⟩ := laid4 w (.int .i64 27) (.string ⟨s.toArray⟩) (.slice a l.length c) (.int .i64 p) 24
    obtain ⟨S, hS⟩ : ∃ S : World → Prop, S = fun W => (W.cell? ⟨w.heap.size, 0, none⟩ = some (.int .i64 27) ∧ W.cell? ⟨w.heap.size, 1, none⟩ = some (.string ⟨s.toArray⟩) ∧ W.cell? ⟨w.heap.size, 2, none⟩ = some (.slice a l.length c) ∧ W.cell? ⟨w.heap.size, 3, none⟩ = some (.int .i64 p)) := ⟨_, rfl⟩
    have HKB := Lib.hid (show Keep S by rw [hS]; exact keep_and (keep_cell _ _) (keep_and (keep_cell _ _) (keep_and (keep_cell _ _) (keep_cell _ _))))
    have HP := Lib.hid (show Nk w n S [] wa from ⟨hba, hg.on hba, by rw [hS]; exact ⟨e0, e1, e2, e3⟩, fun q hq => by cases hq⟩)
    have HS := Lib.hid hS
    clear hg hk hf ht hkid hba hS
    go_enter Tryz.func21, Tryz.ntmps21
    go_wp2_with fail
    all_goals
      go_ret
      exact ⟨ret_bool (by rw [HV.out]; simp), HP.out.below⟩

set_option maxRecDepth 100000 in
set_option maxHeartbeats 8000000 in
theorem rstmt_inc (ex : Nd → Bool) (n : Nat) (h_ex : Ok 20 ex n) (s : List UInt8) (l : List Nd) (p : Int) (a : Option Addr) (c : Nat) (w : World) (ht : (Nd.mk 28 s l p).height ≤ n + 1) (hg : Glob w) (hk : Kids w w.heap.size a l) (hf : Fits (.mk 28 s l p) c) :
    Calls Tryz.prog 21 #[.agg #[.int .i64 28, .string ⟨s.toArray⟩, .slice a l.length c, .int .i64 p]] w fun e w' => e = .returned (.bool (stepsL s && kids1 ex l)) ∧ Below w.heap.size w w' := by
  have hkid : ∀ x, x ∈ l → x.height ≤ n := fun x hx => by have := Nd.height_kid (t := .mk 28 s l p) hx; omega
  have hs : s.length ≤ 140737488351232 := hf.2.2.2.2.1
  have hcap : l.length ≤ c := hf.2.2.2.2.2.1
  have hl2 : l.length ≤ 9223372036854775807 := by have := hf.2.2.2.2.2.2.1; omega
  have H_ex := Lib.hid h_ex
  clear h_ex
  by_cases hlen : l.length = 1
  · obtain ⟨x1, rfl⟩ : ∃ x1, l = [x1] := by
      match l, hlen with
      | [x1], _ => exact ⟨x1, rfl⟩
    obtain ⟨b, off, a1, c1, rfl, ⟨q1, f1, k1⟩⟩ := hk.n1
    have h1 := hkid x1 (by simp)
    obtain ⟨wa, hwa, hba, e0, e1, e2, e3⟩ := laid4 w (.int .i64 28) (.string ⟨s.toArray⟩) (.slice (some ⟨b, off, none⟩) 1 c) (.int .i64 p) 24
    have q1 := Four.on q1 hba
    obtain ⟨S, hS⟩ : ∃ S : World → Prop, S = fun W => (W.cell? ⟨w.heap.size, 0, none⟩ = some (.int .i64 28) ∧ W.cell? ⟨w.heap.size, 1, none⟩ = some (.string ⟨s.toArray⟩) ∧ W.cell? ⟨w.heap.size, 2, none⟩ = some (.slice (some ⟨b, off, none⟩) 1 c) ∧ W.cell? ⟨w.heap.size, 3, none⟩ = some (.int .i64 p)) ∧ Four W b off x1 a1 c1 := ⟨_, rfl⟩
    have HKB := Lib.hid (show Keep S by rw [hS]; exact keep_and (keep_and (keep_cell _ _) (keep_and (keep_cell _ _) (keep_and (keep_cell _ _) (keep_cell _ _)))) (keep_four _ _ _ _ _))
    have HP := Lib.hid (show Nk w n S [(x1, a1, c1)] wa from ⟨hba, hg.on hba, by rw [hS]; exact ⟨⟨e0, e1, e2, e3⟩, q1⟩, fun q hq => by
      simp only [List.mem_cons, List.not_mem_nil, or_false] at hq
      rcases hq with rfl
      · exact ⟨h1, k1.on hba, f1⟩⟩)
    obtain ⟨q10, q11, q12, q13⟩ := q1
    have HS := Lib.hid hS
    clear hg hk hf ht hkid hba hS f1 k1 h1
    go_enter Tryz.func21, Tryz.ntmps21
    go_wp2_with (first
      | (go_at_call 20
         refine (nk_ok HP.out HKB.out H_ex.out _ _ _ ?_).mono ?_
         focus (simp)
         rintro e w1 ⟨rfl, h1, HP⟩
         rw [HS.out] at h1
         obtain ⟨⟨e0, e1, e2, e3⟩, ⟨q10, q11, q12, q13⟩⟩ := h1))
    all_goals
      go_ret
      exact ⟨ret_bool (by first | (simp_all [kids1, stepsL]; done) | (simp_all [kids1, stepsL]; omega)), HP.out.below⟩
  · have hn : ((l.length : Int) == 1) = false := by simp; omega
    have HV := Lib.hid (show kids1 ex l = false from by
      match l, hlen with
      | [], _ => rfl
      | [_], h => simp at h
      | _ :: _ :: _, _ => rfl)
    obtain ⟨wa, hwa, hba, e0, e1, e2, e3⟩ := laid4 w (.int .i64 28) (.string ⟨s.toArray⟩) (.slice a l.length c) (.int .i64 p) 24
    obtain ⟨S, hS⟩ : ∃ S : World → Prop, S = fun W => (W.cell? ⟨w.heap.size, 0, none⟩ = some (.int .i64 28) ∧ W.cell? ⟨w.heap.size, 1, none⟩ = some (.string ⟨s.toArray⟩) ∧ W.cell? ⟨w.heap.size, 2, none⟩ = some (.slice a l.length c) ∧ W.cell? ⟨w.heap.size, 3, none⟩ = some (.int .i64 p)) := ⟨_, rfl⟩
    have HKB := Lib.hid (show Keep S by rw [hS]; exact keep_and (keep_cell _ _) (keep_and (keep_cell _ _) (keep_and (keep_cell _ _) (keep_cell _ _))))
    have HP := Lib.hid (show Nk w n S [] wa from ⟨hba, hg.on hba, by rw [hS]; exact ⟨e0, e1, e2, e3⟩, fun q hq => by cases hq⟩)
    have HS := Lib.hid hS
    clear hg hk hf ht hkid hba hS
    go_enter Tryz.func21, Tryz.ntmps21
    go_wp2_with fail
    all_goals
      go_ret
      exact ⟨ret_bool (by rw [HV.out]; simp), HP.out.below⟩

set_option maxRecDepth 100000 in
set_option maxHeartbeats 8000000 in
theorem rstmt_call (ex : Nd → Bool) (n : Nat) (h_ex : Ok 20 ex n) (s : List UInt8) (l : List Nd) (p : Int) (a : Option Addr) (c : Nat) (w : World) (ht : (Nd.mk 29 s l p).height ≤ n + 1) (hg : Glob w) (hk : Kids w w.heap.size a l) (hf : Fits (.mk 29 s l p) c) :
    Calls Tryz.prog 21 #[.agg #[.int .i64 29, .string ⟨s.toArray⟩, .slice a l.length c, .int .i64 p]] w fun e w' => e = .returned (.bool (s.isEmpty && kids1 (kindB 21 ex) l)) ∧ Below w.heap.size w w' := by
  have hkid : ∀ x, x ∈ l → x.height ≤ n := fun x hx => by have := Nd.height_kid (t := .mk 29 s l p) hx; omega
  have hs : s.length ≤ 140737488351232 := hf.2.2.2.2.1
  have hcap : l.length ≤ c := hf.2.2.2.2.2.1
  have hl2 : l.length ≤ 9223372036854775807 := by have := hf.2.2.2.2.2.2.1; omega
  have H_ex := Lib.hid h_ex
  clear h_ex
  by_cases hlen : l.length = 1
  · obtain ⟨x1, rfl⟩ : ∃ x1, l = [x1] := by
      match l, hlen with
      | [x1], _ => exact ⟨x1, rfl⟩
    obtain ⟨b, off, a1, c1, rfl, ⟨q1, f1, k1⟩⟩ := hk.n1
    have h1 := hkid x1 (by simp)
    obtain ⟨wa, hwa, hba, e0, e1, e2, e3⟩ := laid4 w (.int .i64 29) (.string ⟨s.toArray⟩) (.slice (some ⟨b, off, none⟩) 1 c) (.int .i64 p) 24
    have q1 := Four.on q1 hba
    obtain ⟨S, hS⟩ : ∃ S : World → Prop, S = fun W => (W.cell? ⟨w.heap.size, 0, none⟩ = some (.int .i64 29) ∧ W.cell? ⟨w.heap.size, 1, none⟩ = some (.string ⟨s.toArray⟩) ∧ W.cell? ⟨w.heap.size, 2, none⟩ = some (.slice (some ⟨b, off, none⟩) 1 c) ∧ W.cell? ⟨w.heap.size, 3, none⟩ = some (.int .i64 p)) ∧ Four W b off x1 a1 c1 := ⟨_, rfl⟩
    have HKB := Lib.hid (show Keep S by rw [hS]; exact keep_and (keep_and (keep_cell _ _) (keep_and (keep_cell _ _) (keep_and (keep_cell _ _) (keep_cell _ _)))) (keep_four _ _ _ _ _))
    have HP := Lib.hid (show Nk w n S [(x1, a1, c1)] wa from ⟨hba, hg.on hba, by rw [hS]; exact ⟨⟨e0, e1, e2, e3⟩, q1⟩, fun q hq => by
      simp only [List.mem_cons, List.not_mem_nil, or_false] at hq
      rcases hq with rfl
      · exact ⟨h1, k1.on hba, f1⟩⟩)
    obtain ⟨q10, q11, q12, q13⟩ := q1
    have HS := Lib.hid hS
    clear hg hk hf ht hkid hba hS f1 k1 h1
    cases k21 : (x1.kind == 21)
    all_goals
      go_enter Tryz.func21, Tryz.ntmps21
      go_wp2_with (first
        | (go_at_call 20
           refine (nk_ok HP.out HKB.out H_ex.out _ _ _ ?_).mono ?_
           focus (simp)
           rintro e w1 ⟨rfl, h1, HP⟩
           rw [HS.out] at h1
           obtain ⟨⟨e0, e1, e2, e3⟩, ⟨q10, q11, q12, q13⟩⟩ := h1))
      all_goals
        go_ret
        exact ⟨ret_bool (by first | (simp_all [kids1, kindB]; done) | (simp_all [kids1, kindB]; omega)), HP.out.below⟩
  · have hn : ((l.length : Int) == 1) = false := by simp; omega
    have HV := Lib.hid (show kids1 (kindB 21 ex) l = false from by
      match l, hlen with
      | [], _ => rfl
      | [_], h => simp at h
      | _ :: _ :: _, _ => rfl)
    obtain ⟨wa, hwa, hba, e0, e1, e2, e3⟩ := laid4 w (.int .i64 29) (.string ⟨s.toArray⟩) (.slice a l.length c) (.int .i64 p) 24
    obtain ⟨S, hS⟩ : ∃ S : World → Prop, S = fun W => (W.cell? ⟨w.heap.size, 0, none⟩ = some (.int .i64 29) ∧ W.cell? ⟨w.heap.size, 1, none⟩ = some (.string ⟨s.toArray⟩) ∧ W.cell? ⟨w.heap.size, 2, none⟩ = some (.slice a l.length c) ∧ W.cell? ⟨w.heap.size, 3, none⟩ = some (.int .i64 p)) := ⟨_, rfl⟩
    have HKB := Lib.hid (show Keep S by rw [hS]; exact keep_and (keep_cell _ _) (keep_and (keep_cell _ _) (keep_and (keep_cell _ _) (keep_cell _ _))))
    have HP := Lib.hid (show Nk w n S [] wa from ⟨hba, hg.on hba, by rw [hS]; exact ⟨e0, e1, e2, e3⟩, fun q hq => by cases hq⟩)
    have HS := Lib.hid hS
    clear hg hk hf ht hkid hba hS
    go_enter Tryz.func21, Tryz.ntmps21
    go_wp2_with fail
    all_goals
      go_ret
      exact ⟨ret_bool (by rw [HV.out]; simp), HP.out.below⟩

set_option maxRecDepth 100000 in
set_option maxHeartbeats 8000000 in
theorem rstmt_range (ex : Nd → Bool) (bl : Nd → Bool) (n : Nat) (h_ex : Ok 20 ex n) (h_bl : Ok 39 bl n) (s : List UInt8) (l : List Nd) (p : Int) (a : Option Addr) (c : Nat) (w : World) (ht : (Nd.mk 32 s l p).height ≤ n + 1) (hg : Glob w) (hk : Kids w w.heap.size a l) (hf : Fits (.mk 32 s l p) c) :
    Calls Tryz.prog 21 #[.agg #[.int .i64 32, .string ⟨s.toArray⟩, .slice a l.length c, .int .i64 p]] w fun e w' => e = .returned (.bool (rangedL s && kids2 ex bl l)) ∧ Below w.heap.size w w' := by
  have hkid : ∀ x, x ∈ l → x.height ≤ n := fun x hx => by have := Nd.height_kid (t := .mk 32 s l p) hx; omega
  have hs : s.length ≤ 140737488351232 := hf.2.2.2.2.1
  have hcap : l.length ≤ c := hf.2.2.2.2.2.1
  have hl2 : l.length ≤ 9223372036854775807 := by have := hf.2.2.2.2.2.2.1; omega
  have H_ex := Lib.hid h_ex
  have H_bl := Lib.hid h_bl
  clear h_ex h_bl
  by_cases hlen : l.length = 2
  · obtain ⟨x1, x2, rfl⟩ : ∃ x1 x2, l = [x1, x2] := by
      match l, hlen with
      | [x1, x2], _ => exact ⟨x1, x2, rfl⟩
    obtain ⟨b, off, a1, c1, a2, c2, rfl, ⟨q1, f1, k1⟩, ⟨q2, f2, k2⟩⟩ := hk.n2
    have h1 := hkid x1 (by simp)
    have h2 := hkid x2 (by simp)
    obtain ⟨wa, hwa, hba, e0, e1, e2, e3⟩ := laid4 w (.int .i64 32) (.string ⟨s.toArray⟩) (.slice (some ⟨b, off, none⟩) 2 c) (.int .i64 p) 24
    have q1 := Four.on q1 hba
    have q2 := Four.on q2 hba
    obtain ⟨S, hS⟩ : ∃ S : World → Prop, S = fun W => (W.cell? ⟨w.heap.size, 0, none⟩ = some (.int .i64 32) ∧ W.cell? ⟨w.heap.size, 1, none⟩ = some (.string ⟨s.toArray⟩) ∧ W.cell? ⟨w.heap.size, 2, none⟩ = some (.slice (some ⟨b, off, none⟩) 2 c) ∧ W.cell? ⟨w.heap.size, 3, none⟩ = some (.int .i64 p)) ∧ Four W b off x1 a1 c1 ∧ Four W b (off + 4) x2 a2 c2 := ⟨_, rfl⟩
    have HKB := Lib.hid (show Keep S by rw [hS]; exact keep_and (keep_and (keep_cell _ _) (keep_and (keep_cell _ _) (keep_and (keep_cell _ _) (keep_cell _ _)))) (keep_and (keep_four _ _ _ _ _) (keep_four _ _ _ _ _)))
    have HP := Lib.hid (show Nk w n S [(x1, a1, c1), (x2, a2, c2)] wa from ⟨hba, hg.on hba, by rw [hS]; exact ⟨⟨e0, e1, e2, e3⟩, q1, q2⟩, fun q hq => by
      simp only [List.mem_cons, List.not_mem_nil, or_false] at hq
      rcases hq with rfl | rfl
      · exact ⟨h1, k1.on hba, f1⟩
      · exact ⟨h2, k2.on hba, f2⟩⟩)
    obtain ⟨q10, q11, q12, q13⟩ := q1
    obtain ⟨q20, q21, q22, q23⟩ := q2
    have HS := Lib.hid hS
    clear hg hk hf ht hkid hba hS f1 k1 h1 f2 k2 h2
    go_enter Tryz.func21, Tryz.ntmps21
    go_wp2_with (first
      | (go_at_call 47
         refine (nk_ranged HP.out HKB.out _ (by first | exact hs | omega)).mono ?_
         rintro e w1 ⟨rfl, h1, HP⟩
         rw [HS.out] at h1
         obtain ⟨⟨e0, e1, e2, e3⟩, ⟨q10, q11, q12, q13⟩, ⟨q20, q21, q22, q23⟩⟩ := h1)
      | (go_at_call 20
         refine (nk_ok HP.out HKB.out H_ex.out _ _ _ ?_).mono ?_
         focus (simp)
         rintro e w1 ⟨rfl, h1, HP⟩
         rw [HS.out] at h1
         obtain ⟨⟨e0, e1, e2, e3⟩, ⟨q10, q11, q12, q13⟩, ⟨q20, q21, q22, q23⟩⟩ := h1)
      | (go_at_call 39
         refine (nk_ok HP.out HKB.out H_bl.out _ _ _ ?_).mono ?_
         focus (simp)
         rintro e w1 ⟨rfl, h1, HP⟩
         rw [HS.out] at h1
         obtain ⟨⟨e0, e1, e2, e3⟩, ⟨q10, q11, q12, q13⟩, ⟨q20, q21, q22, q23⟩⟩ := h1))
    all_goals
      go_ret
      exact ⟨ret_bool (by first | (simp_all [kids2]; done) | (simp_all [kids2]; omega)), HP.out.below⟩
  · have hn : ((l.length : Int) == 2) = false := by simp; omega
    have HV := Lib.hid (show kids2 ex bl l = false from by
      match l, hlen with
      | [], _ => rfl
      | [_], _ => rfl
      | [_, _], h => simp at h
      | _ :: _ :: _ :: _, _ => rfl)
    obtain ⟨wa, hwa, hba, e0, e1, e2, e3⟩ := laid4 w (.int .i64 32) (.string ⟨s.toArray⟩) (.slice a l.length c) (.int .i64 p) 24
    obtain ⟨S, hS⟩ : ∃ S : World → Prop, S = fun W => (W.cell? ⟨w.heap.size, 0, none⟩ = some (.int .i64 32) ∧ W.cell? ⟨w.heap.size, 1, none⟩ = some (.string ⟨s.toArray⟩) ∧ W.cell? ⟨w.heap.size, 2, none⟩ = some (.slice a l.length c) ∧ W.cell? ⟨w.heap.size, 3, none⟩ = some (.int .i64 p)) := ⟨_, rfl⟩
    have HKB := Lib.hid (show Keep S by rw [hS]; exact keep_and (keep_cell _ _) (keep_and (keep_cell _ _) (keep_and (keep_cell _ _) (keep_cell _ _))))
    have HP := Lib.hid (show Nk w n S [] wa from ⟨hba, hg.on hba, by rw [hS]; exact ⟨e0, e1, e2, e3⟩, fun q hq => by cases hq⟩)
    have HS := Lib.hid hS
    clear hg hk hf ht hkid hba hS
    go_enter Tryz.func21, Tryz.ntmps21
    go_wp2_with fail
    all_goals
      go_ret
      exact ⟨ret_bool (by rw [HV.out]; simp), HP.out.below⟩

set_option maxRecDepth 100000 in
set_option maxHeartbeats 8000000 in
theorem rstmt_ret (ex : Nd → Bool) (n : Nat) (h_ex : Ok 20 ex n) (s : List UInt8) (l : List Nd) (p : Int) (a : Option Addr) (c : Nat) (w : World) (ht : (Nd.mk 33 s l p).height ≤ n + 1) (hg : Glob w) (hk : Kids w w.heap.size a l) (hf : Fits (.mk 33 s l p) c) :
    Calls Tryz.prog 21 #[.agg #[.int .i64 33, .string ⟨s.toArray⟩, .slice a l.length c, .int .i64 p]] w fun e w' => e = .returned (.bool (s.isEmpty && kids1 (fun k => emptyB k || ex k) l)) ∧ Below w.heap.size w w' := by
  have hkid : ∀ x, x ∈ l → x.height ≤ n := fun x hx => by have := Nd.height_kid (t := .mk 33 s l p) hx; omega
  have hs : s.length ≤ 140737488351232 := hf.2.2.2.2.1
  have hcap : l.length ≤ c := hf.2.2.2.2.2.1
  have hl2 : l.length ≤ 9223372036854775807 := by have := hf.2.2.2.2.2.2.1; omega
  have H_ex := Lib.hid h_ex
  clear h_ex
  by_cases hlen : l.length = 1
  · obtain ⟨x1, rfl⟩ : ∃ x1, l = [x1] := by
      match l, hlen with
      | [x1], _ => exact ⟨x1, rfl⟩
    obtain ⟨b, off, a1, c1, rfl, ⟨q1, f1, k1⟩⟩ := hk.n1
    have h1 := hkid x1 (by simp)
    obtain ⟨wa, hwa, hba, e0, e1, e2, e3⟩ := laid4 w (.int .i64 33) (.string ⟨s.toArray⟩) (.slice (some ⟨b, off, none⟩) 1 c) (.int .i64 p) 24
    have q1 := Four.on q1 hba
    obtain ⟨S, hS⟩ : ∃ S : World → Prop, S = fun W => (W.cell? ⟨w.heap.size, 0, none⟩ = some (.int .i64 33) ∧ W.cell? ⟨w.heap.size, 1, none⟩ = some (.string ⟨s.toArray⟩) ∧ W.cell? ⟨w.heap.size, 2, none⟩ = some (.slice (some ⟨b, off, none⟩) 1 c) ∧ W.cell? ⟨w.heap.size, 3, none⟩ = some (.int .i64 p)) ∧ Four W b off x1 a1 c1 := ⟨_, rfl⟩
    have HKB := Lib.hid (show Keep S by rw [hS]; exact keep_and (keep_and (keep_cell _ _) (keep_and (keep_cell _ _) (keep_and (keep_cell _ _) (keep_cell _ _)))) (keep_four _ _ _ _ _))
    have HP := Lib.hid (show Nk w n S [(x1, a1, c1)] wa from ⟨hba, hg.on hba, by rw [hS]; exact ⟨⟨e0, e1, e2, e3⟩, q1⟩, fun q hq => by
      simp only [List.mem_cons, List.not_mem_nil, or_false] at hq
      rcases hq with rfl
      · exact ⟨h1, k1.on hba, f1⟩⟩)
    obtain ⟨q10, q11, q12, q13⟩ := q1
    have HS := Lib.hid hS
    clear hg hk hf ht hkid hba hS f1 k1 h1
    go_enter Tryz.func21, Tryz.ntmps21
    go_wp2_with (first
      | (go_at_call 45
         refine (nk_nothing HP.out HKB.out _ _ _).mono ?_
         rintro e w1 ⟨rfl, h1, HP⟩
         rw [HS.out] at h1
         obtain ⟨⟨e0, e1, e2, e3⟩, ⟨q10, q11, q12, q13⟩⟩ := h1)
      | (go_at_call 20
         refine (nk_ok HP.out HKB.out H_ex.out _ _ _ ?_).mono ?_
         focus (simp)
         rintro e w1 ⟨rfl, h1, HP⟩
         rw [HS.out] at h1
         obtain ⟨⟨e0, e1, e2, e3⟩, ⟨q10, q11, q12, q13⟩⟩ := h1))
    all_goals
      go_ret
      exact ⟨ret_bool (by first | (simp_all [kids1]; done) | (simp_all [kids1]; omega)), HP.out.below⟩
  · have hn : ((l.length : Int) == 1) = false := by simp; omega
    have HV := Lib.hid (show kids1 (fun k => emptyB k || ex k) l = false from by
      match l, hlen with
      | [], _ => rfl
      | [_], h => simp at h
      | _ :: _ :: _, _ => rfl)
    obtain ⟨wa, hwa, hba, e0, e1, e2, e3⟩ := laid4 w (.int .i64 33) (.string ⟨s.toArray⟩) (.slice a l.length c) (.int .i64 p) 24
    obtain ⟨S, hS⟩ : ∃ S : World → Prop, S = fun W => (W.cell? ⟨w.heap.size, 0, none⟩ = some (.int .i64 33) ∧ W.cell? ⟨w.heap.size, 1, none⟩ = some (.string ⟨s.toArray⟩) ∧ W.cell? ⟨w.heap.size, 2, none⟩ = some (.slice a l.length c) ∧ W.cell? ⟨w.heap.size, 3, none⟩ = some (.int .i64 p)) := ⟨_, rfl⟩
    have HKB := Lib.hid (show Keep S by rw [hS]; exact keep_and (keep_cell _ _) (keep_and (keep_cell _ _) (keep_and (keep_cell _ _) (keep_cell _ _))))
    have HP := Lib.hid (show Nk w n S [] wa from ⟨hba, hg.on hba, by rw [hS]; exact ⟨e0, e1, e2, e3⟩, fun q hq => by cases hq⟩)
    have HS := Lib.hid hS
    clear hg hk hf ht hkid hba hS
    go_enter Tryz.func21, Tryz.ntmps21
    go_wp2_with fail
    all_goals
      go_ret
      exact ⟨ret_bool (by rw [HV.out]; simp), HP.out.below⟩

set_option maxRecDepth 100000 in
set_option maxHeartbeats 8000000 in
theorem rstmt_break  (n : Nat) (s : List UInt8) (l : List Nd) (p : Int) (a : Option Addr) (c : Nat) (w : World) (ht : (Nd.mk 34 s l p).height ≤ n + 1) (hg : Glob w) (hk : Kids w w.heap.size a l) (hf : Fits (.mk 34 s l p) c) :
    Calls Tryz.prog 21 #[.agg #[.int .i64 34, .string ⟨s.toArray⟩, .slice a l.length c, .int .i64 p]] w fun e w' => e = .returned (.bool (s.isEmpty && kids0 l)) ∧ Below w.heap.size w w' := by
  have hkid : ∀ x, x ∈ l → x.height ≤ n := fun x hx => by have := Nd.height_kid (t := .mk 34 s l p) hx; omega
  have hs : s.length ≤ 140737488351232 := hf.2.2.2.2.1
  have hcap : l.length ≤ c := hf.2.2.2.2.2.1
  have hl2 : l.length ≤ 9223372036854775807 := by have := hf.2.2.2.2.2.2.1; omega
  cases l with
  | nil =>
    obtain ⟨wa, hwa, hba, e0, e1, e2, e3⟩ := laid4 w (.int .i64 34) (.string ⟨s.toArray⟩) (.slice a 0 c) (.int .i64 p) 24
    obtain ⟨S, hS⟩ : ∃ S : World → Prop, S = fun W => (W.cell? ⟨w.heap.size, 0, none⟩ = some (.int .i64 34) ∧ W.cell? ⟨w.heap.size, 1, none⟩ = some (.string ⟨s.toArray⟩) ∧ W.cell? ⟨w.heap.size, 2, none⟩ = some (.slice a 0 c) ∧ W.cell? ⟨w.heap.size, 3, none⟩ = some (.int .i64 p)) := ⟨_, rfl⟩
    have HKB := Lib.hid (show Keep S by rw [hS]; exact keep_and (keep_cell _ _) (keep_and (keep_cell _ _) (keep_and (keep_cell _ _) (keep_cell _ _))))
    have HP := Lib.hid (show Nk w n S [] wa from ⟨hba, hg.on hba, by rw [hS]; exact ⟨e0, e1, e2, e3⟩, fun q hq => by cases hq⟩)
    have HS := Lib.hid hS
    clear hg hk hf ht hkid hba hS
    go_enter Tryz.func21, Tryz.ntmps21
    go_wp2_with fail
    all_goals
      go_ret
      exact ⟨ret_bool (by first | (simp_all [kids0]; done) | (simp_all [kids0]; omega)), HP.out.below⟩
  | cons x r =>
    have hn : ((r.length : Int) + 1 == 0) = false := by simp; omega
    obtain ⟨wa, hwa, hba, e0, e1, e2, e3⟩ := laid4 w (.int .i64 34) (.string ⟨s.toArray⟩) (.slice a (r.length + 1) c) (.int .i64 p) 24
    obtain ⟨S, hS⟩ : ∃ S : World → Prop, S = fun W => (W.cell? ⟨w.heap.size, 0, none⟩ = some (.int .i64 34) ∧ W.cell? ⟨w.heap.size, 1, none⟩ = some (.string ⟨s.toArray⟩) ∧ W.cell? ⟨w.heap.size, 2, none⟩ = some (.slice a (r.length + 1) c) ∧ W.cell? ⟨w.heap.size, 3, none⟩ = some (.int .i64 p)) := ⟨_, rfl⟩
    have HKB := Lib.hid (show Keep S by rw [hS]; exact keep_and (keep_cell _ _) (keep_and (keep_cell _ _) (keep_and (keep_cell _ _) (keep_cell _ _))))
    have HP := Lib.hid (show Nk w n S [] wa from ⟨hba, hg.on hba, by rw [hS]; exact ⟨e0, e1, e2, e3⟩, fun q hq => by cases hq⟩)
    have HS := Lib.hid hS
    clear hg hk hf ht hkid hba hS
    go_enter Tryz.func21, Tryz.ntmps21
    go_wp2_with fail
    all_goals
      go_ret
      exact ⟨ret_bool (by first | (simp_all [kids0]; done) | (simp_all [kids0]; omega)), HP.out.below⟩

set_option maxRecDepth 100000 in
set_option maxHeartbeats 8000000 in
theorem rstmt_cont  (n : Nat) (s : List UInt8) (l : List Nd) (p : Int) (a : Option Addr) (c : Nat) (w : World) (ht : (Nd.mk 35 s l p).height ≤ n + 1) (hg : Glob w) (hk : Kids w w.heap.size a l) (hf : Fits (.mk 35 s l p) c) :
    Calls Tryz.prog 21 #[.agg #[.int .i64 35, .string ⟨s.toArray⟩, .slice a l.length c, .int .i64 p]] w fun e w' => e = .returned (.bool (s.isEmpty && kids0 l)) ∧ Below w.heap.size w w' := by
  have hkid : ∀ x, x ∈ l → x.height ≤ n := fun x hx => by have := Nd.height_kid (t := .mk 35 s l p) hx; omega
  have hs : s.length ≤ 140737488351232 := hf.2.2.2.2.1
  have hcap : l.length ≤ c := hf.2.2.2.2.2.1
  have hl2 : l.length ≤ 9223372036854775807 := by have := hf.2.2.2.2.2.2.1; omega
  cases l with
  | nil =>
    obtain ⟨wa, hwa, hba, e0, e1, e2, e3⟩ := laid4 w (.int .i64 35) (.string ⟨s.toArray⟩) (.slice a 0 c) (.int .i64 p) 24
    obtain ⟨S, hS⟩ : ∃ S : World → Prop, S = fun W => (W.cell? ⟨w.heap.size, 0, none⟩ = some (.int .i64 35) ∧ W.cell? ⟨w.heap.size, 1, none⟩ = some (.string ⟨s.toArray⟩) ∧ W.cell? ⟨w.heap.size, 2, none⟩ = some (.slice a 0 c) ∧ W.cell? ⟨w.heap.size, 3, none⟩ = some (.int .i64 p)) := ⟨_, rfl⟩
    have HKB := Lib.hid (show Keep S by rw [hS]; exact keep_and (keep_cell _ _) (keep_and (keep_cell _ _) (keep_and (keep_cell _ _) (keep_cell _ _))))
    have HP := Lib.hid (show Nk w n S [] wa from ⟨hba, hg.on hba, by rw [hS]; exact ⟨e0, e1, e2, e3⟩, fun q hq => by cases hq⟩)
    have HS := Lib.hid hS
    clear hg hk hf ht hkid hba hS
    go_enter Tryz.func21, Tryz.ntmps21
    go_wp2_with fail
    all_goals
      go_ret
      exact ⟨ret_bool (by first | (simp_all [kids0]; done) | (simp_all [kids0]; omega)), HP.out.below⟩
  | cons x r =>
    have hn : ((r.length : Int) + 1 == 0) = false := by simp; omega
    obtain ⟨wa, hwa, hba, e0, e1, e2, e3⟩ := laid4 w (.int .i64 35) (.string ⟨s.toArray⟩) (.slice a (r.length + 1) c) (.int .i64 p) 24
    obtain ⟨S, hS⟩ : ∃ S : World → Prop, S = fun W => (W.cell? ⟨w.heap.size, 0, none⟩ = some (.int .i64 35) ∧ W.cell? ⟨w.heap.size, 1, none⟩ = some (.string ⟨s.toArray⟩) ∧ W.cell? ⟨w.heap.size, 2, none⟩ = some (.slice a (r.length + 1) c) ∧ W.cell? ⟨w.heap.size, 3, none⟩ = some (.int .i64 p)) := ⟨_, rfl⟩
    have HKB := Lib.hid (show Keep S by rw [hS]; exact keep_and (keep_cell _ _) (keep_and (keep_cell _ _) (keep_and (keep_cell _ _) (keep_cell _ _))))
    have HP := Lib.hid (show Nk w n S [] wa from ⟨hba, hg.on hba, by rw [hS]; exact ⟨e0, e1, e2, e3⟩, fun q hq => by cases hq⟩)
    have HS := Lib.hid hS
    clear hg hk hf ht hkid hba hS
    go_enter Tryz.func21, Tryz.ntmps21
    go_wp2_with fail
    all_goals
      go_ret
      exact ⟨ret_bool (by first | (simp_all [kids0]; done) | (simp_all [kids0]; omega)), HP.out.below⟩

set_option maxRecDepth 100000 in
set_option maxHeartbeats 8000000 in
theorem rstmt_var (ty : Nd → Bool) (ex : Nd → Bool) (n : Nat) (h_ty : Ok 19 ty n) (h_ex : Ok 20 ex n) (s : List UInt8) (l : List Nd) (p : Int) (a : Option Addr) (c : Nat) (w : World) (ht : (Nd.mk 5 s l p).height ≤ n + 1) (hg : Glob w) (hk : Kids w w.heap.size a l) (hf : Fits (.mk 5 s l p) c) :
    Calls Tryz.prog 21 #[.agg #[.int .i64 5, .string ⟨s.toArray⟩, .slice a l.length c, .int .i64 p]] w fun e w' => e = .returned (.bool (nameL s && varKids ty ex l)) ∧ Below w.heap.size w w' := by
  have hkid : ∀ x, x ∈ l → x.height ≤ n := fun x hx => by have := Nd.height_kid (t := .mk 5 s l p) hx; omega
  have hs : s.length ≤ 140737488351232 := hf.2.2.2.2.1
  have hcap : l.length ≤ c := hf.2.2.2.2.2.1
  have hl2 : l.length ≤ 9223372036854775807 := by have := hf.2.2.2.2.2.2.1; omega
  obtain ⟨wa, hwa, hba, e0, e1, e2, e3⟩ := laid4 w (.int .i64 5) (.string ⟨s.toArray⟩) (.slice a l.length c) (.int .i64 p) 24
  obtain ⟨S, hS⟩ : ∃ S : World → Prop, S = fun W => (W.cell? ⟨w.heap.size, 0, none⟩ = some (.int .i64 5) ∧ W.cell? ⟨w.heap.size, 1, none⟩ = some (.string ⟨s.toArray⟩) ∧ W.cell? ⟨w.heap.size, 2, none⟩ = some (.slice a l.length c) ∧ W.cell? ⟨w.heap.size, 3, none⟩ = some (.int .i64 p)) := ⟨_, rfl⟩
  have HKB := Lib.hid (show Keep S by rw [hS]; exact keep_and (keep_cell _ _) (keep_and (keep_cell _ _) (keep_and (keep_cell _ _) (keep_cell _ _))))
  have HP := Lib.hid (show Nk w n S [] wa from ⟨hba, hg.on hba, by rw [hS]; exact ⟨e0, e1, e2, e3⟩, fun q hq => by cases hq⟩)
  have HS := Lib.hid hS
  have hx := nk_post HP.out HKB.out (rvar_five ty ex n h_ty h_ex s l p a c wa ht HP.out.glob (hk.on hba) hf)
  obtain ⟨R, hR⟩ : ∃ R, (nameL s && varKids ty ex l) = R := ⟨_, rfl⟩
  rw [hR] at hx
  rw [hR]
  have HX := Lib.hid hx
  clear hx hR h_ty h_ex hg hk hf ht hkid hba hS
  go_enter Tryz.func21, Tryz.ntmps21
  go_wp2_with fail
  refine HX.out.mono ?_
  rintro e w1 ⟨rfl, h1, HP⟩
  go_wp2_with fail
  go_ret
  exact ⟨rfl, HP.out.below⟩

end Go.Proofs.YtnmebgiiajnnjaaGreat

namespace Go.Proofs.YtnmebgiiajnnjaaGreat
set_option linter.unusedSimpArgs false
set_option linter.unusedVariables false
open Go.RowKit

set_option maxRecDepth 100000 in
set_option maxHeartbeats 8000000 in
theorem rstmt_if (ex : Nd → Bool) (bl : Nd → Bool) (st : Nd → Bool) (n : Nat) (h_ex : Ok 20 ex n) (h_bl : Ok 39 bl n) (h_st : Ok 21 st n) (s : List UInt8) (l : List Nd) (p : Int) (a : Option Addr) (c : Nat) (w : World) (ht : (Nd.mk 30 s l p).height ≤ n + 1) (hg : Glob w) (hk : Kids w w.heap.size a l) (hf : Fits (.mk 30 s l p) c) :
    Calls Tryz.prog 21 #[.agg #[.int .i64 30, .string ⟨s.toArray⟩, .slice a l.length c, .int .i64 p]] w fun e w' => e = .returned (.bool (s.isEmpty && kids3 ex bl (fun k => emptyB k || ((k.kind == 36 || k.kind == 30) && st k)) l)) ∧ Below w.heap.size w w' := by
  have hkid : ∀ x, x ∈ l → x.height ≤ n := fun x hx => by have := Nd.height_kid (t := .mk 30 s l p) hx; omega
  have hs : s.length ≤ 140737488351232 := hf.2.2.2.2.1
  have hcap : l.length ≤ c := hf.2.2.2.2.2.1
  have hl2 : l.length ≤ 9223372036854775807 := by have := hf.2.2.2.2.2.2.1; omega
  have H_ex := Lib.hid h_ex
  have H_bl := Lib.hid h_bl
  have H_st := Lib.hid h_st
  clear h_ex h_bl h_st
  by_cases hlen : l.length = 3
  · obtain ⟨x1, x2, x3, rfl⟩ : ∃ x1 x2 x3, l = [x1, x2, x3] := by
      match l, hlen with
      | [x1, x2, x3], _ => exact ⟨x1, x2, x3, rfl⟩
    obtain ⟨b, off, a1, c1, a2, c2, a3, c3, rfl, ⟨q1, f1, k1⟩, ⟨q2, f2, k2⟩, ⟨q3, f3, k3⟩⟩ := hk.n3
    have h1 := hkid x1 (by simp)
    have h2 := hkid x2 (by simp)
    have h3 := hkid x3 (by simp)
    obtain ⟨wa, hwa, hba, e0, e1, e2, e3⟩ := laid4 w (.int .i64 30) (.string ⟨s.toArray⟩) (.slice (some ⟨b, off, none⟩) 3 c) (.int .i64 p) 24
    have q1 := Four.on q1 hba
    have q2 := Four.on q2 hba
    have q3 := Four.on q3 hba
    obtain ⟨S, hS⟩ : ∃ S : World → Prop, S = fun W => (W.cell? ⟨w.heap.size, 0, none⟩ = some (.int .i64 30) ∧ W.cell? ⟨w.heap.size, 1, none⟩ = some (.string ⟨s.toArray⟩) ∧ W.cell? ⟨w.heap.size, 2, none⟩ = some (.slice (some ⟨b, off, none⟩) 3 c) ∧ W.cell? ⟨w.heap.size, 3, none⟩ = some (.int .i64 p)) ∧ Four W b off x1 a1 c1 ∧ Four W b (off + 4) x2 a2 c2 ∧ Four W b (off + 8) x3 a3 c3 := ⟨_, rfl⟩
    have HKB := Lib.hid (show Keep S by rw [hS]; exact keep_and (keep_and (keep_cell _ _) (keep_and (keep_cell _ _) (keep_and (keep_cell _ _) (keep_cell _ _)))) (keep_and (keep_four _ _ _ _ _) (keep_and (keep_four _ _ _ _ _) (keep_four _ _ _ _ _))))
    have HP := Lib.hid (show Nk w n S [(x1, a1, c1), (x2, a2, c2), (x3, a3, c3)] wa from ⟨hba, hg.on hba, by rw [hS]; exact ⟨⟨e0, e1, e2, e3⟩, q1, q2, q3⟩, fun q hq => by
      simp only [List.mem_cons, List.not_mem_nil, or_false] at hq
      rcases hq with rfl | rfl | rfl
      · exact ⟨h1, k1.on hba, f1⟩
      · exact ⟨h2, k2.on hba, f2⟩
      · exact ⟨h3, k3.on hba, f3⟩⟩)
    obtain ⟨q10, q11, q12, q13⟩ := q1
    obtain ⟨q20, q21, q22, q23⟩ := q2
    obtain ⟨q30, q31, q32, q33⟩ := q3
    have HS := Lib.hid hS
    clear hg hk hf ht hkid hba hS f1 k1 h1 f2 k2 h2 f3 k3 h3
    go_enter Tryz.func21, Tryz.ntmps21
    go_wp2_with (first
      | (go_at_call 45
         refine (nk_nothing HP.out HKB.out _ _ _).mono ?_
         rintro e w1 ⟨rfl, h1, HP⟩
         rw [HS.out] at h1
         obtain ⟨⟨e0, e1, e2, e3⟩, ⟨q10, q11, q12, q13⟩, ⟨q20, q21, q22, q23⟩, ⟨q30, q31, q32, q33⟩⟩ := h1)
      | (go_at_call 20
         refine (nk_ok HP.out HKB.out H_ex.out _ _ _ ?_).mono ?_
         focus (simp)
         rintro e w1 ⟨rfl, h1, HP⟩
         rw [HS.out] at h1
         obtain ⟨⟨e0, e1, e2, e3⟩, ⟨q10, q11, q12, q13⟩, ⟨q20, q21, q22, q23⟩, ⟨q30, q31, q32, q33⟩⟩ := h1)
      | (go_at_call 39
         refine (nk_ok HP.out HKB.out H_bl.out _ _ _ ?_).mono ?_
         focus (simp)
         rintro e w1 ⟨rfl, h1, HP⟩
         rw [HS.out] at h1
         obtain ⟨⟨e0, e1, e2, e3⟩, ⟨q10, q11, q12, q13⟩, ⟨q20, q21, q22, q23⟩, ⟨q30, q31, q32, q33⟩⟩ := h1)
      | (go_at_call 46
         refine (nk_kind2 HP.out HKB.out H_st.out _ _ _ _ _ ?_).mono ?_
         focus (simp)
         rintro e w1 ⟨rfl, h1, HP⟩
         rw [HS.out] at h1
         obtain ⟨⟨e0, e1, e2, e3⟩, ⟨q10, q11, q12, q13⟩, ⟨q20, q21, q22, q23⟩, ⟨q30, q31, q32, q33⟩⟩ := h1))
    all_goals
      go_ret
      exact ⟨ret_bool (by first | (simp_all [kids3]; done) | (simp_all [kids3]; simp [Bool.and_assoc]; done) | (simp_all [kids3]; omega)), HP.out.below⟩
  · have hn : ((l.length : Int) == 3) = false := by simp; omega
    have HV := Lib.hid (show kids3 ex bl (fun k => emptyB k || ((k.kind == 36 || k.kind == 30) && st k)) l = false from by
      match l, hlen with
      | [], _ => rfl
      | [_], _ => rfl
      | [_, _], _ => rfl
      | [_, _, _], h => simp at h
      | _ :: _ :: _ :: _ :: _, _ => rfl)
    obtain ⟨wa, hwa, hba, e0, e1, e2, e3⟩ := laid4 w (.int .i64 30) (.string ⟨s.toArray⟩) (.slice a l.length c) (.int .i64 p) 24
    obtain ⟨S, hS⟩ : ∃ S : World → Prop, S = fun W => (W.cell? ⟨w.heap.size, 0, none⟩ = some (.int .i64 30) ∧ W.cell? ⟨w.heap.size, 1, none⟩ = some (.string ⟨s.toArray⟩) ∧ W.cell? ⟨w.heap.size, 2, none⟩ = some (.slice a l.length c) ∧ W.cell? ⟨w.heap.size, 3, none⟩ = some (.int .i64 p)) := ⟨_, rfl⟩
    have HKB := Lib.hid (show Keep S by rw [hS]; exact keep_and (keep_cell _ _) (keep_and (keep_cell _ _) (keep_and (keep_cell _ _) (keep_cell _ _))))
    have HP := Lib.hid (show Nk w n S [] wa from ⟨hba, hg.on hba, by rw [hS]; exact ⟨e0, e1, e2, e3⟩, fun q hq => by cases hq⟩)
    have HS := Lib.hid hS
    clear hg hk hf ht hkid hba hS
    go_enter Tryz.func21, Tryz.ntmps21
    go_wp2_with fail
    all_goals
      go_ret
      exact ⟨ret_bool (by rw [HV.out]; simp), HP.out.below⟩

set_option maxRecDepth 100000 in
set_option maxHeartbeats 8000000 in
theorem rstmt_for (ex : Nd → Bool) (bl : Nd → Bool) (st : Nd → Bool) (n : Nat) (h_ex : Ok 20 ex n) (h_bl : Ok 39 bl n) (h_st : Ok 21 st n) (s : List UInt8) (l : List Nd) (p : Int) (a : Option Addr) (c : Nat) (w : World) (ht : (Nd.mk 31 s l p).height ≤ n + 1) (hg : Glob w) (hk : Kids w w.heap.size a l) (hf : Fits (.mk 31 s l p) c) :
    Calls Tryz.prog 21 #[.agg #[.int .i64 31, .string ⟨s.toArray⟩, .slice a l.length c, .int .i64 p]] w fun e w' => e = .returned (.bool (s.isEmpty && kids4 (fun k => emptyB k || ((k.kind == 26 || (k.kind == 27 || k.kind == 28)) && st k)) (fun k => emptyB k || ex k) (fun k => emptyB k || ((k.kind == 27 || (k.kind == 28 || k.kind == 29)) && st k)) bl l)) ∧ Below w.heap.size w w' := by
  have hkid : ∀ x, x ∈ l → x.height ≤ n := fun x hx => by have := Nd.height_kid (t := .mk 31 s l p) hx; omega
  have hs : s.length ≤ 140737488351232 := hf.2.2.2.2.1
  have hcap : l.length ≤ c := hf.2.2.2.2.2.1
  have hl2 : l.length ≤ 9223372036854775807 := by have := hf.2.2.2.2.2.2.1; omega
  have H_ex := Lib.hid h_ex
  have H_bl := Lib.hid h_bl
  have H_st := Lib.hid h_st
  clear h_ex h_bl h_st
  by_cases hlen : l.length = 4
  · obtain ⟨x1, x2, x3, x4, rfl⟩ : ∃ x1 x2 x3 x4, l = [x1, x2, x3, x4] := by
      match l, hlen with
      | [x1, x2, x3, x4], _ => exact ⟨x1, x2, x3, x4, rfl⟩
    obtain ⟨b, off, a1, c1, a2, c2, a3, c3, a4, c4, rfl, ⟨q1, f1, k1⟩, ⟨q2, f2, k2⟩, ⟨q3, f3, k3⟩, ⟨q4, f4, k4⟩⟩ := hk.n4
    have h1 := hkid x1 (by simp)
    have h2 := hkid x2 (by simp)
    have h3 := hkid x3 (by simp)
    have h4 := hkid x4 (by simp)
    obtain ⟨wa, hwa, hba, e0, e1, e2, e3⟩ := laid4 w (.int .i64 31) (.string ⟨s.toArray⟩) (.slice (some ⟨b, off, none⟩) 4 c) (.int .i64 p) 24
    have q1 := Four.on q1 hba
    have q2 := Four.on q2 hba
    have q3 := Four.on q3 hba
    have q4 := Four.on q4 hba
    obtain ⟨S, hS⟩ : ∃ S : World → Prop, S = fun W => (W.cell? ⟨w.heap.size, 0, none⟩ = some (.int .i64 31) ∧ W.cell? ⟨w.heap.size, 1, none⟩ = some (.string ⟨s.toArray⟩) ∧ W.cell? ⟨w.heap.size, 2, none⟩ = some (.slice (some ⟨b, off, none⟩) 4 c) ∧ W.cell? ⟨w.heap.size, 3, none⟩ = some (.int .i64 p)) ∧ Four W b off x1 a1 c1 ∧ Four W b (off + 4) x2 a2 c2 ∧ Four W b (off + 8) x3 a3 c3 ∧ Four W b (off + 12) x4 a4 c4 := ⟨_, rfl⟩
    have HKB := Lib.hid (show Keep S by rw [hS]; exact keep_and (keep_and (keep_cell _ _) (keep_and (keep_cell _ _) (keep_and (keep_cell _ _) (keep_cell _ _)))) (keep_and (keep_four _ _ _ _ _) (keep_and (keep_four _ _ _ _ _) (keep_and (keep_four _ _ _ _ _) (keep_four _ _ _ _ _)))))
    have HP := Lib.hid (show Nk w n S [(x1, a1, c1), (x2, a2, c2), (x3, a3, c3), (x4, a4, c4)] wa from ⟨hba, hg.on hba, by rw [hS]; exact ⟨⟨e0, e1, e2, e3⟩, q1, q2, q3, q4⟩, fun q hq => by
      simp only [List.mem_cons, List.not_mem_nil, or_false] at hq
      rcases hq with rfl | rfl | rfl | rfl
      · exact ⟨h1, k1.on hba, f1⟩
      · exact ⟨h2, k2.on hba, f2⟩
      · exact ⟨h3, k3.on hba, f3⟩
      · exact ⟨h4, k4.on hba, f4⟩⟩)
    obtain ⟨q10, q11, q12, q13⟩ := q1
    obtain ⟨q20, q21, q22, q23⟩ := q2
    obtain ⟨q30, q31, q32, q33⟩ := q3
    obtain ⟨q40, q41, q42, q43⟩ := q4
    have HS := Lib.hid hS
    clear hg hk hf ht hkid hba hS f1 k1 h1 f2 k2 h2 f3 k3 h3 f4 k4 h4
    go_enter Tryz.func21, Tryz.ntmps21
    go_wp2_with (first
      | (go_at_call 45
         refine (nk_nothing HP.out HKB.out _ _ _).mono ?_
         rintro e w1 ⟨rfl, h1, HP⟩
         rw [HS.out] at h1
         obtain ⟨⟨e0, e1, e2, e3⟩, ⟨q10, q11, q12, q13⟩, ⟨q20, q21, q22, q23⟩, ⟨q30, q31, q32, q33⟩, ⟨q40, q41, q42, q43⟩⟩ := h1)
      | (go_at_call 20
         refine (nk_ok HP.out HKB.out H_ex.out _ _ _ ?_).mono ?_
         focus (simp)
         rintro e w1 ⟨rfl, h1, HP⟩
         rw [HS.out] at h1
         obtain ⟨⟨e0, e1, e2, e3⟩, ⟨q10, q11, q12, q13⟩, ⟨q20, q21, q22, q23⟩, ⟨q30, q31, q32, q33⟩, ⟨q40, q41, q42, q43⟩⟩ := h1)
      | (go_at_call 39
         refine (nk_ok HP.out HKB.out H_bl.out _ _ _ ?_).mono ?_
         focus (simp)
         rintro e w1 ⟨rfl, h1, HP⟩
         rw [HS.out] at h1
         obtain ⟨⟨e0, e1, e2, e3⟩, ⟨q10, q11, q12, q13⟩, ⟨q20, q21, q22, q23⟩, ⟨q30, q31, q32, q33⟩, ⟨q40, q41, q42, q43⟩⟩ := h1)
      | (go_at_call 46
         refine (nk_kind3 HP.out HKB.out H_st.out _ _ _ _ _ _ ?_).mono ?_
         focus (simp)
         rintro e w1 ⟨rfl, h1, HP⟩
         rw [HS.out] at h1
         obtain ⟨⟨e0, e1, e2, e3⟩, ⟨q10, q11, q12, q13⟩, ⟨q20, q21, q22, q23⟩, ⟨q30, q31, q32, q33⟩, ⟨q40, q41, q42, q43⟩⟩ := h1))
    all_goals
      go_ret
      exact ⟨ret_bool (by first | (simp_all [kids4]; done) | (simp_all [kids4]; simp [Bool.and_assoc]; done) | (simp_all [kids4]; omega)), HP.out.below⟩
  · have hn : ((l.length : Int) == 4) = false := by simp; omega
    have HV := Lib.hid (show kids4 (fun k => emptyB k || ((k.kind == 26 || (k.kind == 27 || k.kind == 28)) && st k)) (fun k => emptyB k || ex k) (fun k => emptyB k || ((k.kind == 27 || (k.kind == 28 || k.kind == 29)) && st k)) bl l = false from by
      match l, hlen with
      | [], _ => rfl
      | [_], _ => rfl
      | [_, _], _ => rfl
      | [_, _, _], _ => rfl
      | [_, _, _, _], h => simp at h
      | _ :: _ :: _ :: _ :: _ :: _, _ => rfl)
    obtain ⟨wa, hwa, hba, e0, e1, e2, e3⟩ := laid4 w (.int .i64 31) (.string ⟨s.toArray⟩) (.slice a l.length c) (.int .i64 p) 24
    obtain ⟨S, hS⟩ : ∃ S : World → Prop, S = fun W => (W.cell? ⟨w.heap.size, 0, none⟩ = some (.int .i64 31) ∧ W.cell? ⟨w.heap.size, 1, none⟩ = some (.string ⟨s.toArray⟩) ∧ W.cell? ⟨w.heap.size, 2, none⟩ = some (.slice a l.length c) ∧ W.cell? ⟨w.heap.size, 3, none⟩ = some (.int .i64 p)) := ⟨_, rfl⟩
    have HKB := Lib.hid (show Keep S by rw [hS]; exact keep_and (keep_cell _ _) (keep_and (keep_cell _ _) (keep_and (keep_cell _ _) (keep_cell _ _))))
    have HP := Lib.hid (show Nk w n S [] wa from ⟨hba, hg.on hba, by rw [hS]; exact ⟨e0, e1, e2, e3⟩, fun q hq => by cases hq⟩)
    have HS := Lib.hid hS
    clear hg hk hf ht hkid hba hS
    go_enter Tryz.func21, Tryz.ntmps21
    go_wp2_with fail
    all_goals
      go_ret
      exact ⟨ret_bool (by rw [HV.out]; simp), HP.out.below⟩

end Go.Proofs.YtnmebgiiajnnjaaGreat
