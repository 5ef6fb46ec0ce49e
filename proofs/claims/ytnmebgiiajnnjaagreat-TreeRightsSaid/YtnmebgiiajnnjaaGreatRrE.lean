/-
  the document's Expr, kind by kind, walked. (printed by gen_rr.py)
-/
import Derived.Test.YtnmebgiiajnnjaaGreatRrD
namespace Go.Proofs.YtnmebgiiajnnjaaGreat
set_option linter.unusedSimpArgs false
set_option linter.unusedVariables false
open Go.RowKit

set_option maxRecDepth 100000 in
set_option maxHeartbeats 8000000 in
theorem rexpr_int  (n : Nat) (s : List UInt8) (l : List Nd) (p : Int) (a : Option Addr) (c : Nat) (w : World) (ht : (Nd.mk 16 s l p).height ≤ n + 1) (hg : Glob w) (hk : Kids w w.heap.size a l) (hf : Fits (.mk 16 s l p) c) :
    Calls Tryz.prog 20 #[.agg #[.int .i64 16, .string ⟨s.toArray⟩, .slice a l.length c, .int .i64 p]] w fun e w' => e = .returned (.bool (plainL s && kids0 l)) ∧ Below w.heap.size w w' := by
  have hkid : ∀ x, x ∈ l → x.height ≤ n := fun x hx => by have := Nd.height_kid (t := .mk 16 s l p) hx; omega
  have hs : s.length ≤ 140737488351232 := hf.2.2.2.2.1
  have hcap : l.length ≤ c := hf.2.2.2.2.2.1
  have hl2 : l.length ≤ 9223372036854775807 := by have := hf.2.2.2.2.2.2.1; omega
  cases l with
  | nil =>
    obtain ⟨wa, hwa, hba, e0, e1, e2, e3⟩ := laid4 w (.int .i64 16) (.string ⟨s.toArray⟩) (.slice a 0 c) (.int .i64 p) 24
    obtain ⟨S, hS⟩ : ∃ S : World → Prop, S = fun W => (W.cell? ⟨w.heap.size, 0, none⟩ = some (.int .i64 16) ∧ W.cell? ⟨w.heap.size, 1, none⟩ = some (.string ⟨s.toArray⟩) ∧ W.cell? ⟨w.heap.size, 2, none⟩ = some (.slice a 0 c) ∧ W.cell? ⟨w.heap.size, 3, none⟩ = some (.int .i64 p)) := ⟨_, rfl⟩
    have HKB := Lib.hid (show Keep S by rw [hS]; exact keep_and (keep_cell _ _) (keep_and (keep_cell _ _) (keep_and (keep_cell _ _) (keep_cell _ _))))
    have HP := Lib.hid (show Nk w n S [] wa from ⟨hba, hg.on hba, by rw [hS]; exact ⟨e0, e1, e2, e3⟩, fun q hq => by cases hq⟩)
    have HS := Lib.hid hS
    clear hg hk hf ht hkid hba hS
    go_enter Tryz.func20, Tryz.ntmps20
    go_wp2_with (first
      | (go_at_call 42
         refine (nk_plain HP.out HKB.out _ (by first | exact hs | omega)).mono ?_
         rintro e w1 ⟨rfl, h1, HP⟩
         rw [HS.out] at h1
         obtain ⟨e0, e1, e2, e3⟩ := h1))
    all_goals
      go_ret
      exact ⟨ret_bool (by first | (simp_all [kids0]; done) | (simp_all [kids0]; omega)), HP.out.below⟩
  | cons x r =>
    have hn : ((r.length : Int) + 1 == 0) = false := by simp; omega
    obtain ⟨wa, hwa, hba, e0, e1, e2, e3⟩ := laid4 w (.int .i64 16) (.string ⟨s.toArray⟩) (.slice a (r.length + 1) c) (.int .i64 p) 24
    obtain ⟨S, hS⟩ : ∃ S : World → Prop, S = fun W => (W.cell? ⟨w.heap.size, 0, none⟩ = some (.int .i64 16) ∧ W.cell? ⟨w.heap.size, 1, none⟩ = some (.string ⟨s.toArray⟩) ∧ W.cell? ⟨w.heap.size, 2, none⟩ = some (.slice a (r.length + 1) c) ∧ W.cell? ⟨w.heap.size, 3, none⟩ = some (.int .i64 p)) := ⟨_, rfl⟩
    have HKB := Lib.hid (show Keep S by rw [hS]; exact keep_and (keep_cell _ _) (keep_and (keep_cell _ _) (keep_and (keep_cell _ _) (keep_cell _ _))))
    have HP := Lib.hid (show Nk w n S [] wa from ⟨hba, hg.on hba, by rw [hS]; exact ⟨e0, e1, e2, e3⟩, fun q hq => by cases hq⟩)
    have HS := Lib.hid hS
    clear hg hk hf ht hkid hba hS
    go_enter Tryz.func20, Tryz.ntmps20
    go_wp2_with (first
      | (go_at_call 42
         refine (nk_plain HP.out HKB.out _ (by first | exact hs | omega)).mono ?_
         rintro e w1 ⟨rfl, h1, HP⟩
         rw [HS.out] at h1
         obtain ⟨e0, e1, e2, e3⟩ := h1))
    all_goals
      go_ret
      exact ⟨ret_bool (by first | (simp_all [kids0]; done) | (simp_all [kids0]; omega)), HP.out.below⟩

set_option maxRecDepth 100000 in
set_option maxHeartbeats 8000000 in
theorem rexpr_str  (n : Nat) (s : List UInt8) (l : List Nd) (p : Int) (a : Option Addr) (c : Nat) (w : World) (ht : (Nd.mk 17 s l p).height ≤ n + 1) (hg : Glob w) (hk : Kids w w.heap.size a l) (hf : Fits (.mk 17 s l p) c) :
    Calls Tryz.prog 20 #[.agg #[.int .i64 17, .string ⟨s.toArray⟩, .slice a l.length c, .int .i64 p]] w fun e w' => e = .returned (.bool (shortL s && kids0 l)) ∧ Below w.heap.size w w' := by
  have hkid : ∀ x, x ∈ l → x.height ≤ n := fun x hx => by have := Nd.height_kid (t := .mk 17 s l p) hx; omega
  have hs : s.length ≤ 140737488351232 := hf.2.2.2.2.1
  have hcap : l.length ≤ c := hf.2.2.2.2.2.1
  have hl2 : l.length ≤ 9223372036854775807 := by have := hf.2.2.2.2.2.2.1; omega
  cases l with
  | nil =>
    obtain ⟨wa, hwa, hba, e0, e1, e2, e3⟩ := laid4 w (.int .i64 17) (.string ⟨s.toArray⟩) (.slice a 0 c) (.int .i64 p) 24
    obtain ⟨S, hS⟩ : ∃ S : World → Prop, S = fun W => (W.cell? ⟨w.heap.size, 0, none⟩ = some (.int .i64 17) ∧ W.cell? ⟨w.heap.size, 1, none⟩ = some (.string ⟨s.toArray⟩) ∧ W.cell? ⟨w.heap.size, 2, none⟩ = some (.slice a 0 c) ∧ W.cell? ⟨w.heap.size, 3, none⟩ = some (.int .i64 p)) := ⟨_, rfl⟩
    have HKB := Lib.hid (show Keep S by rw [hS]; exact keep_and (keep_cell _ _) (keep_and (keep_cell _ _) (keep_and (keep_cell _ _) (keep_cell _ _))))
    have HP := Lib.hid (show Nk w n S [] wa from ⟨hba, hg.on hba, by rw [hS]; exact ⟨e0, e1, e2, e3⟩, fun q hq => by cases hq⟩)
    have HS := Lib.hid hS
    clear hg hk hf ht hkid hba hS
    go_enter Tryz.func20, Tryz.ntmps20
    go_wp2_with fail
    all_goals
      go_ret
      exact ⟨ret_bool (by first | (simp_all [kids0, shortL]; done) | (simp_all [kids0, shortL]; omega)), HP.out.below⟩
  | cons x r =>
    have hn : ((r.length : Int) + 1 == 0) = false := by simp; omega
    obtain ⟨wa, hwa, hba, e0, e1, e2, e3⟩ := laid4 w (.int .i64 17) (.string ⟨s.toArray⟩) (.slice a (r.length + 1) c) (.int .i64 p) 24
    obtain ⟨S, hS⟩ : ∃ S : World → Prop, S = fun W => (W.cell? ⟨w.heap.size, 0, none⟩ = some (.int .i64 17) ∧ W.cell? ⟨w.heap.size, 1, none⟩ = some (.string ⟨s.toArray⟩) ∧ W.cell? ⟨w.heap.size, 2, none⟩ = some (.slice a (r.length + 1) c) ∧ W.cell? ⟨w.heap.size, 3, none⟩ = some (.int .i64 p)) := ⟨_, rfl⟩
    have HKB := Lib.hid (show Keep S by rw [hS]; exact keep_and (keep_cell _ _) (keep_and (keep_cell _ _) (keep_and (keep_cell _ _) (keep_cell _ _))))
    have HP := Lib.hid (show Nk w n S [] wa from ⟨hba, hg.on hba, by rw [hS]; exact ⟨e0, e1, e2, e3⟩, fun q hq => by cases hq⟩)
    have HS := Lib.hid hS
    clear hg hk hf ht hkid hba hS
    go_enter Tryz.func20, Tryz.ntmps20
    go_wp2_with fail
    all_goals
      go_ret
      exact ⟨ret_bool (by first | (simp_all [kids0, shortL]; done) | (simp_all [kids0, shortL]; omega)), HP.out.below⟩

set_option maxRecDepth 100000 in
set_option maxHeartbeats 8000000 in
theorem rexpr_name  (n : Nat) (s : List UInt8) (l : List Nd) (p : Int) (a : Option Addr) (c : Nat) (w : World) (ht : (Nd.mk 18 s l p).height ≤ n + 1) (hg : Glob w) (hk : Kids w w.heap.size a l) (hf : Fits (.mk 18 s l p) c) :
    Calls Tryz.prog 20 #[.agg #[.int .i64 18, .string ⟨s.toArray⟩, .slice a l.length c, .int .i64 p]] w fun e w' => e = .returned (.bool (nameL s && kids0 l)) ∧ Below w.heap.size w w' := by
  have hkid : ∀ x, x ∈ l → x.height ≤ n := fun x hx => by have := Nd.height_kid (t := .mk 18 s l p) hx; omega
  have hs : s.length ≤ 140737488351232 := hf.2.2.2.2.1
  have hcap : l.length ≤ c := hf.2.2.2.2.2.1
  have hl2 : l.length ≤ 9223372036854775807 := by have := hf.2.2.2.2.2.2.1; omega
  cases l with
  | nil =>
    obtain ⟨wa, hwa, hba, e0, e1, e2, e3⟩ := laid4 w (.int .i64 18) (.string ⟨s.toArray⟩) (.slice a 0 c) (.int .i64 p) 24
    obtain ⟨S, hS⟩ : ∃ S : World → Prop, S = fun W => (W.cell? ⟨w.heap.size, 0, none⟩ = some (.int .i64 18) ∧ W.cell? ⟨w.heap.size, 1, none⟩ = some (.string ⟨s.toArray⟩) ∧ W.cell? ⟨w.heap.size, 2, none⟩ = some (.slice a 0 c) ∧ W.cell? ⟨w.heap.size, 3, none⟩ = some (.int .i64 p)) := ⟨_, rfl⟩
    have HKB := Lib.hid (show Keep S by rw [hS]; exact keep_and (keep_cell _ _) (keep_and (keep_cell _ _) (keep_and (keep_cell _ _) (keep_cell _ _))))
    have HP := Lib.hid (show Nk w n S [] wa from ⟨hba, hg.on hba, by rw [hS]; exact ⟨e0, e1, e2, e3⟩, fun q hq => by cases hq⟩)
    have HS := Lib.hid hS
    clear hg hk hf ht hkid hba hS
    go_enter Tryz.func20, Tryz.ntmps20
    go_wp2_with (first
      | (go_at_call 17
         refine (nk_name HP.out HKB.out _ (by first | exact hs | omega)).mono ?_
         rintro e w1 ⟨rfl, h1, HP⟩
         rw [HS.out] at h1
         obtain ⟨e0, e1, e2, e3⟩ := h1))
    all_goals
      go_ret
      exact ⟨ret_bool (by first | (simp_all [kids0]; done) | (simp_all [kids0]; omega)), HP.out.below⟩
  | cons x r =>
    have hn : ((r.length : Int) + 1 == 0) = false := by simp; omega
    obtain ⟨wa, hwa, hba, e0, e1, e2, e3⟩ := laid4 w (.int .i64 18) (.string ⟨s.toArray⟩) (.slice a (r.length + 1) c) (.int .i64 p) 24
    obtain ⟨S, hS⟩ : ∃ S : World → Prop, S = fun W => (W.cell? ⟨w.heap.size, 0, none⟩ = some (.int .i64 18) ∧ W.cell? ⟨w.heap.size, 1, none⟩ = some (.string ⟨s.toArray⟩) ∧ W.cell? ⟨w.heap.size, 2, none⟩ = some (.slice a (r.length + 1) c) ∧ W.cell? ⟨w.heap.size, 3, none⟩ = some (.int .i64 p)) := ⟨_, rfl⟩
    have HKB := Lib.hid (show Keep S by rw [hS]; exact keep_and (keep_cell _ _) (keep_and (keep_cell _ _) (keep_and (keep_cell _ _) (keep_cell _ _))))
    have HP := Lib.hid (show Nk w n S [] wa from ⟨hba, hg.on hba, by rw [hS]; exact ⟨e0, e1, e2, e3⟩, fun q hq => by cases hq⟩)
    have HS := Lib.hid hS
    clear hg hk hf ht hkid hba hS
    go_enter Tryz.func20, Tryz.ntmps20
    go_wp2_with (first
      | (go_at_call 17
         refine (nk_name HP.out HKB.out _ (by first | exact hs | omega)).mono ?_
         rintro e w1 ⟨rfl, h1, HP⟩
         rw [HS.out] at h1
         obtain ⟨e0, e1, e2, e3⟩ := h1))
    all_goals
      go_ret
      exact ⟨ret_bool (by first | (simp_all [kids0]; done) | (simp_all [kids0]; omega)), HP.out.below⟩

set_option maxRecDepth 100000 in
set_option maxHeartbeats 8000000 in
theorem rexpr_unary (ex : Nd → Bool) (n : Nat) (h_ex : Ok 20 ex n) (s : List UInt8) (l : List Nd) (p : Int) (a : Option Addr) (c : Nat) (w : World) (ht : (Nd.mk 19 s l p).height ≤ n + 1) (hg : Glob w) (hk : Kids w w.heap.size a l) (hf : Fits (.mk 19 s l p) c) :
    Calls Tryz.prog 20 #[.agg #[.int .i64 19, .string ⟨s.toArray⟩, .slice a l.length c, .int .i64 p]] w fun e w' => e = .returned (.bool (unaryL s && kids1 ex l)) ∧ Below w.heap.size w w' := by
  have hkid : ∀ x, x ∈ l → x.height ≤ n := fun x hx => by have := Nd.height_kid (t := .mk 19 s l p) hx; omega
  have hs : s.length ≤ 140737488351232 := hf.2.2.2.2.1
  have hcap : l.length ≤ c := hf.2.2.2.2.2.1
  have hl2 : l.length ≤ 9223372036854775807 := by have := hf.2.2.2.2.2.2.1; omega
  have H_ex := Lib.hid h_ex
  clear h_ex
  by_cases hlen : l.length = 1
  · obtain ⟨x1, rfl⟩ : ∃ x1, l = [x1] := by
      match l, hlen with
      | [x1], _ => exact ⟨x1, rfl⟩
    obtain ⟨b, off, a1, c1, rfl, ⟨q1, f1, k1⟩⟩ := hk.n1
    have h1 := hkid x1 (by simp)
    obtain ⟨wa, hwa, hba, e0, e1, e2, e3⟩ := laid4 w (.int .i64 19) (.string ⟨s.toArray⟩) (.slice (some ⟨b, off, none⟩) 1 c) (.int .i64 p) 24
    have q1 := Four.on q1 hba
    obtain ⟨S, hS⟩ : ∃ S : World → Prop, S = fun W => (W.cell? ⟨w.heap.size, 0, none⟩ = some (.int .i64 19) ∧ W.cell? ⟨w.heap.size, 1, none⟩ = some (.string ⟨s.toArray⟩) ∧ W.cell? ⟨w.heap.size, 2, none⟩ = some (.slice (some ⟨b, off, none⟩) 1 c) ∧ W.cell? ⟨w.heap.size, 3, none⟩ = some (.int .i64 p)) ∧ Four W b off x1 a1 c1 := ⟨_, rfl⟩
    have HKB := Lib.hid (show Keep S by rw [hS]; exact keep_and (keep_and (keep_cell _ _) (keep_and (keep_cell _ _) (keep_and (keep_cell _ _) (keep_cell _ _)))) (keep_four _ _ _ _ _))
    have HP := Lib.hid (show Nk w n S [(x1, a1, c1)] wa from ⟨hba, hg.on hba, by rw [hS]; exact ⟨⟨e0, e1, e2, e3⟩, q1⟩, fun q hq => by
      simp only [List.mem_cons, List.not_mem_nil, or_false] at hq
      rcases hq with rfl
      · exact ⟨h1, k1.on hba, f1⟩⟩)
    obtain ⟨q10, q11, q12, q13⟩ := q1
    have HS := Lib.hid hS
    clear hg hk hf ht hkid hba hS f1 k1 h1
    go_enter Tryz.func20, Tryz.ntmps20
    go_wp2_with (first
      | (go_at_call 20
         refine (nk_ok HP.out HKB.out H_ex.out _ _ _ ?_).mono ?_
         focus (simp)
         rintro e w1 ⟨rfl, h1, HP⟩
         rw [HS.out] at h1
         obtain ⟨⟨e0, e1, e2, e3⟩, ⟨q10, q11, q12, q13⟩⟩ := h1))
    all_goals
      go_ret
      exact ⟨ret_bool (by first | (simp_all [kids1, unaryL]; done) | (simp_all [kids1, unaryL]; omega)), HP.out.below⟩
  · have hn : ((l.length : Int) == 1) = false := by simp; omega
    have HV := Lib.hid (show kids1 ex l = false from by
      match l, hlen with
      | [], _ => rfl
      | [_], h => simp at h
      | _ :: _ :: _, _ => rfl)
    obtain ⟨wa, hwa, hba, e0, e1, e2, e3⟩ := laid4 w (.int .i64 19) (.string ⟨s.toArray⟩) (.slice a l.length c) (.int .i64 p) 24
    obtain ⟨S, hS⟩ : ∃ S : World → Prop, S = fun W => (W.cell? ⟨w.heap.size, 0, none⟩ = some (.int .i64 19) ∧ W.cell? ⟨w.heap.size, 1, none⟩ = some (.string ⟨s.toArray⟩) ∧ W.cell? ⟨w.heap.size, 2, none⟩ = some (.slice a l.length c) ∧ W.cell? ⟨w.heap.size, 3, none⟩ = some (.int .i64 p)) := ⟨_, rfl⟩
    have HKB := Lib.hid (show Keep S by rw [hS]; exact keep_and (keep_cell _ _) (keep_and (keep_cell _ _) (keep_and (keep_cell _ _) (keep_cell _ _))))
    have HP := Lib.hid (show Nk w n S [] wa from ⟨hba, hg.on hba, by rw [hS]; exact ⟨e0, e1, e2, e3⟩, fun q hq => by cases hq⟩)
    have HS := Lib.hid hS
    clear hg hk hf ht hkid hba hS
    go_enter Tryz.func20, Tryz.ntmps20
    go_wp2_with fail
    all_goals
      go_ret
      exact ⟨ret_bool (by rw [HV.out]; simp), HP.out.below⟩

set_option maxRecDepth 100000 in
set_option maxHeartbeats 8000000 in
theorem rexpr_field (ex : Nd → Bool) (n : Nat) (h_ex : Ok 20 ex n) (s : List UInt8) (l : List Nd) (p : Int) (a : Option Addr) (c : Nat) (w : World) (ht : (Nd.mk 23 s l p).height ≤ n + 1) (hg : Glob w) (hk : Kids w w.heap.size a l) (hf : Fits (.mk 23 s l p) c) :
    Calls Tryz.prog 20 #[.agg #[.int .i64 23, .string ⟨s.toArray⟩, .slice a l.length c, .int .i64 p]] w fun e w' => e = .returned (.bool (nameL s && kids1 ex l)) ∧ Below w.heap.size w w' := by
  have hkid : ∀ x, x ∈ l → x.height ≤ n := fun x hx => by have := Nd.height_kid (t := .mk 23 s l p) hx; omega
  have hs : s.length ≤ 140737488351232 := hf.2.2.2.2.1
  have hcap : l.length ≤ c := hf.2.2.2.2.2.1
  have hl2 : l.length ≤ 9223372036854775807 := by have := hf.2.2.2.2.2.2.1; omega
  have H_ex := Lib.hid h_ex
  clear h_ex
  by_cases hlen : l.length = 1
  · obtain ⟨x1, rfl⟩ : ∃ x1, l = [x1] := by
      match l, hlen with
      | [x1], _ => exact ⟨x1, rfl⟩
    obtain ⟨b, off, a1, c1, rfl, ⟨q1, f1, k1⟩⟩ := hk.n1
    have h1 := hkid x1 (by simp)
    obtain ⟨wa, hwa, hba, e0, e1, e2, e3⟩ := laid4 w (.int .i64 23) (.string ⟨s.toArray⟩) (.slice (some ⟨b, off, none⟩) 1 c) (.int .i64 p) 24
    have q1 := Four.on q1 hba
    obtain ⟨S, hS⟩ : ∃ S : World → Prop, S = fun W => (W.cell? ⟨w.heap.size, 0, none⟩ = some (.int .i64 23) ∧ W.cell? ⟨w.heap.size, 1, none⟩ = some (.string ⟨s.toArray⟩) ∧ W.cell? ⟨w.heap.size, 2, none⟩ = some (.slice (some ⟨b, off, none⟩) 1 c) ∧ W.cell? ⟨w.heap.size, 3, none⟩ = some (.int .i64 p)) ∧ Four W b off x1 a1 c1 := ⟨_, rfl⟩
    have HKB := Lib.hid (show Keep S by rw [hS]; exact keep_and (keep_and (keep_cell _ _) (keep_and (keep_cell _ _) (keep_and (keep_cell _ _) (keep_cell _ _)))) (keep_four _ _ _ _ _))
    have HP := Lib.hid (show Nk w n S [(x1, a1, c1)] wa from ⟨hba, hg.on hba, by rw [hS]; exact ⟨⟨e0, e1, e2, e3⟩, q1⟩, fun q hq => by
      simp only [List.mem_cons, List.not_mem_nil, or_false] at hq
      rcases hq with rfl
      · exact ⟨h1, k1.on hba, f1⟩⟩)
    obtain ⟨q10, q11, q12, q13⟩ := q1
    have HS := Lib.hid hS
    clear hg hk hf ht hkid hba hS f1 k1 h1
    go_enter Tryz.func20, Tryz.ntmps20
    go_wp2_with (first
      | (go_at_call 20
         refine (nk_ok HP.out HKB.out H_ex.out _ _ _ ?_).mono ?_
         focus (simp)
         rintro e w1 ⟨rfl, h1, HP⟩
         rw [HS.out] at h1
         obtain ⟨⟨e0, e1, e2, e3⟩, ⟨q10, q11, q12, q13⟩⟩ := h1)
      | (go_at_call 17
         refine (nk_name HP.out HKB.out _ (by first | exact hs | omega)).mono ?_
         rintro e w1 ⟨rfl, h1, HP⟩
         rw [HS.out] at h1
         obtain ⟨⟨e0, e1, e2, e3⟩, ⟨q10, q11, q12, q13⟩⟩ := h1))
    all_goals
      go_ret
      exact ⟨ret_bool (by first | (simp_all [kids1]; done) | (simp_all [kids1]; omega)), HP.out.below⟩
  · have hn : ((l.length : Int) == 1) = false := by simp; omega
    have HV := Lib.hid (show kids1 ex l = false from by
      match l, hlen with
      | [], _ => rfl
      | [_], h => simp at h
      | _ :: _ :: _, _ => rfl)
    obtain ⟨wa, hwa, hba, e0, e1, e2, e3⟩ := laid4 w (.int .i64 23) (.string ⟨s.toArray⟩) (.slice a l.length c) (.int .i64 p) 24
    obtain ⟨S, hS⟩ : ∃ S : World → Prop, S = fun W => (W.cell? ⟨w.heap.size, 0, none⟩ = some (.int .i64 23) ∧ W.cell? ⟨w.heap.size, 1, none⟩ = some (.string ⟨s.toArray⟩) ∧ W.cell? ⟨w.heap.size, 2, none⟩ = some (.slice a l.length c) ∧ W.cell? ⟨w.heap.size, 3, none⟩ = some (.int .i64 p)) := ⟨_, rfl⟩
    have HKB := Lib.hid (show Keep S by rw [hS]; exact keep_and (keep_cell _ _) (keep_and (keep_cell _ _) (keep_and (keep_cell _ _) (keep_cell _ _))))
    have HP := Lib.hid (show Nk w n S [] wa from ⟨hba, hg.on hba, by rw [hS]; exact ⟨e0, e1, e2, e3⟩, fun q hq => by cases hq⟩)
    have HS := Lib.hid hS
    clear hg hk hf ht hkid hba hS
    go_enter Tryz.func20, Tryz.ntmps20
    go_wp2_with fail
    all_goals
      go_ret
      exact ⟨ret_bool (by rw [HV.out]; simp), HP.out.below⟩

set_option maxRecDepth 100000 in
set_option maxHeartbeats 8000000 in
theorem rexpr_func (sg : Nd → Bool) (bl : Nd → Bool) (n : Nat) (h_sg : SgOk true sg n) (h_bl : Ok 39 bl n) (s : List UInt8) (l : List Nd) (p : Int) (a : Option Addr) (c : Nat) (w : World) (ht : (Nd.mk 25 s l p).height ≤ n + 1) (hg : Glob w) (hk : Kids w w.heap.size a l) (hf : Fits (.mk 25 s l p) c) :
    Calls Tryz.prog 20 #[.agg #[.int .i64 25, .string ⟨s.toArray⟩, .slice a l.length c, .int .i64 p]] w fun e w' => e = .returned (.bool (s.isEmpty && kids2 sg bl l)) ∧ Below w.heap.size w w' := by
  have hkid : ∀ x, x ∈ l → x.height ≤ n := fun x hx => by have := Nd.height_kid (t := .mk 25 s l p) hx; omega
  have hs : s.length ≤ 140737488351232 := hf.2.2.2.2.1
  have hcap : l.length ≤ c := hf.2.2.2.2.2.1
  have hl2 : l.length ≤ 9223372036854775807 := by have := hf.2.2.2.2.2.2.1; omega
  have H_sg := Lib.hid h_sg
  have H_bl := Lib.hid h_bl
  clear h_sg h_bl
  by_cases hlen : l.length = 2
  · obtain ⟨x1, x2, rfl⟩ : ∃ x1 x2, l = [x1, x2] := by
      match l, hlen with
      | [x1, x2], _ => exact ⟨x1, x2, rfl⟩
    obtain ⟨b, off, a1, c1, a2, c2, rfl, ⟨q1, f1, k1⟩, ⟨q2, f2, k2⟩⟩ := hk.n2
    have h1 := hkid x1 (by simp)
    have h2 := hkid x2 (by simp)
    obtain ⟨wa, hwa, hba, e0, e1, e2, e3⟩ := laid4 w (.int .i64 25) (.string ⟨s.toArray⟩) (.slice (some ⟨b, off, none⟩) 2 c) (.int .i64 p) 24
    have q1 := Four.on q1 hba
    have q2 := Four.on q2 hba
    obtain ⟨S, hS⟩ : ∃ S : World → Prop, S = fun W => (W.cell? ⟨w.heap.size, 0, none⟩ = some (.int .i64 25) ∧ W.cell? ⟨w.heap.size, 1, none⟩ = some (.string ⟨s.toArray⟩) ∧ W.cell? ⟨w.heap.size, 2, none⟩ = some (.slice (some ⟨b, off, none⟩) 2 c) ∧ W.cell? ⟨w.heap.size, 3, none⟩ = some (.int .i64 p)) ∧ Four W b off x1 a1 c1 ∧ Four W b (off + 4) x2 a2 c2 := ⟨_, rfl⟩
    have HKB := Lib.hid (show Keep S by rw [hS]; exact keep_and (keep_and (keep_cell _ _) (keep_and (keep_cell _ _) (keep_and (keep_cell _ _) (keep_cell _ _)))) (keep_and (keep_four _ _ _ _ _) (keep_four _ _ _ _ _)))
    have HP := Lib.hid (show Nk w n S [(x1, a1, c1), (x2, a2, c2)] wa from ⟨hba, hg.on hba, by rw [hS]; exact ⟨⟨e0, e1, e2, e3⟩, q1, q2⟩, fun q hq => by
      simp only [List.mem_cons, List.not_mem_nil, or_false] at hq
      rcases hq with rfl | rfl
      · exact ⟨h1, k1.on hba, f1⟩
      · exact ⟨h2, k2.on hba, f2⟩⟩)
    obtain ⟨q10, q11, q12, q13⟩ := q1
    obtain ⟨q20, q21, q22, q23⟩ := q2
    have HS := Lib.hid hS
    clear hg hk hf ht hkid hba hS f1 k1 h1 f2 k2 h2
    go_enter Tryz.func20, Tryz.ntmps20
    go_wp2_with (first
      | (go_at_call 22
         refine (nk_sg HP.out HKB.out H_sg.out _ _ _ ?_).mono ?_
         focus (simp)
         rintro e w1 ⟨rfl, h1, HP⟩
         rw [HS.out] at h1
         obtain ⟨⟨e0, e1, e2, e3⟩, ⟨q10, q11, q12, q13⟩, ⟨q20, q21, q22, q23⟩⟩ := h1)
      | (go_at_call 39
         refine (nk_ok HP.out HKB.out H_bl.out _ _ _ ?_).mono ?_
         focus (simp)
         rintro e w1 ⟨rfl, h1, HP⟩
         rw [HS.out] at h1
         obtain ⟨⟨e0, e1, e2, e3⟩, ⟨q10, q11, q12, q13⟩, ⟨q20, q21, q22, q23⟩⟩ := h1))
    all_goals
      go_ret
      exact ⟨ret_bool (by first | (simp_all [kids2]; done) | (simp_all [kids2]; omega)), HP.out.below⟩
  · have hn : ((l.length : Int) == 2) = false := by simp; omega
    have HV := Lib.hid (show kids2 sg bl l = false from by
      match l, hlen with
      | [], _ => rfl
      | [_], _ => rfl
      | [_, _], h => simp at h
      | _ :: _ :: _ :: _, _ => rfl)
    obtain ⟨wa, hwa, hba, e0, e1, e2, e3⟩ := laid4 w (.int .i64 25) (.string ⟨s.toArray⟩) (.slice a l.length c) (.int .i64 p) 24
    obtain ⟨S, hS⟩ : ∃ S : World → Prop, S = fun W => (W.cell? ⟨w.heap.size, 0, none⟩ = some (.int .i64 25) ∧ W.cell? ⟨w.heap.size, 1, none⟩ = some (.string ⟨s.toArray⟩) ∧ W.cell? ⟨w.heap.size, 2, none⟩ = some (.slice a l.length c) ∧ W.cell? ⟨w.heap.size, 3, none⟩ = some (.int .i64 p)) := ⟨_, rfl⟩
    have HKB := Lib.hid (show Keep S by rw [hS]; exact keep_and (keep_cell _ _) (keep_and (keep_cell _ _) (keep_and (keep_cell _ _) (keep_cell _ _))))
    have HP := Lib.hid (show Nk w n S [] wa from ⟨hba, hg.on hba, by rw [hS]; exact ⟨e0, e1, e2, e3⟩, fun q hq => by cases hq⟩)
    have HS := Lib.hid hS
    clear hg hk hf ht hkid hba hS
    go_enter Tryz.func20, Tryz.ntmps20
    go_wp2_with fail
    all_goals
      go_ret
      exact ⟨ret_bool (by rw [HV.out]; simp), HP.out.below⟩

set_option maxRecDepth 100000 in
set_option maxHeartbeats 8000000 in
theorem rexpr_binary (ex : Nd → Bool) (n : Nat) (h_ex : Ok 20 ex n) (s : List UInt8) (l : List Nd) (p : Int) (a : Option Addr) (c : Nat) (w : World) (ht : (Nd.mk 20 s l p).height ≤ n + 1) (hg : Glob w) (hk : Kids w w.heap.size a l) (hf : Fits (.mk 20 s l p) c) :
    Calls Tryz.prog 20 #[.agg #[.int .i64 20, .string ⟨s.toArray⟩, .slice a l.length c, .int .i64 p]] w fun e w' => e = .returned (.bool (binaryL s && kids2 ex ex l)) ∧ Below w.heap.size w w' := by
  have hkid : ∀ x, x ∈ l → x.height ≤ n := fun x hx => by have := Nd.height_kid (t := .mk 20 s l p) hx; omega
  have hs : s.length ≤ 140737488351232 := hf.2.2.2.2.1
  have hcap : l.length ≤ c := hf.2.2.2.2.2.1
  have hl2 : l.length ≤ 9223372036854775807 := by have := hf.2.2.2.2.2.2.1; omega
  have H_ex := Lib.hid h_ex
  have H_exs := Lib.hid (exs_ok ex n h_ex)
  clear h_ex
  by_cases hlen : l.length = 2
  · have HKW := Lib.hid hk
    obtain ⟨x1, x2, rfl⟩ : ∃ x1 x2, l = [x1, x2] := by
      match l, hlen with
      | [x1, x2], _ => exact ⟨x1, x2, rfl⟩
    obtain ⟨b, off, a1, c1, a2, c2, rfl, ⟨q1, f1, k1⟩, ⟨q2, f2, k2⟩⟩ := hk.n2
    have h1 := hkid x1 (by simp)
    have h2 := hkid x2 (by simp)
    obtain ⟨wa, hwa, hba, e0, e1, e2, e3⟩ := laid4 w (.int .i64 20) (.string ⟨s.toArray⟩) (.slice (some ⟨b, off, none⟩) 2 c) (.int .i64 p) 24
    have q1 := Four.on q1 hba
    have q2 := Four.on q2 hba
    obtain ⟨S, hS⟩ : ∃ S : World → Prop, S = fun W => (W.cell? ⟨w.heap.size, 0, none⟩ = some (.int .i64 20) ∧ W.cell? ⟨w.heap.size, 1, none⟩ = some (.string ⟨s.toArray⟩) ∧ W.cell? ⟨w.heap.size, 2, none⟩ = some (.slice (some ⟨b, off, none⟩) 2 c) ∧ W.cell? ⟨w.heap.size, 3, none⟩ = some (.int .i64 p)) ∧ Four W b off x1 a1 c1 ∧ Four W b (off + 4) x2 a2 c2 := ⟨_, rfl⟩
    have HKB := Lib.hid (show Keep S by rw [hS]; exact keep_and (keep_and (keep_cell _ _) (keep_and (keep_cell _ _) (keep_and (keep_cell _ _) (keep_cell _ _)))) (keep_and (keep_four _ _ _ _ _) (keep_four _ _ _ _ _)))
    have HP := Lib.hid (show Nk w n S [(x1, a1, c1), (x2, a2, c2)] wa from ⟨hba, hg.on hba, by rw [hS]; exact ⟨⟨e0, e1, e2, e3⟩, q1, q2⟩, fun q hq => by
      simp only [List.mem_cons, List.not_mem_nil, or_false] at hq
      rcases hq with rfl | rfl
      · exact ⟨h1, k1.on hba, f1⟩
      · exact ⟨h2, k2.on hba, f2⟩⟩)
    obtain ⟨q10, q11, q12, q13⟩ := q1
    obtain ⟨q20, q21, q22, q23⟩ := q2
    have HS := Lib.hid hS
    have HHW := Lib.hid hkid
    have HLW := Lib.hid hl2
    clear hg hk hf ht hkid hba hS f1 k1 h1 f2 k2 h2
    rw [binary_signs]
    go_enter Tryz.func20, Tryz.ntmps20
    go_wp2_with (first
      | (go_at_call 43
         refine (nk_exs HP.out HKB.out H_exs.out [x1, x2] _ _ HKW.out HHW.out HLW.out).mono ?_
         rintro e w1 ⟨rfl, h1, HP⟩
         rw [HS.out] at h1
         obtain ⟨⟨e0, e1, e2, e3⟩, ⟨q10, q11, q12, q13⟩, ⟨q20, q21, q22, q23⟩⟩ := h1))
    all_goals
      go_ret
      exact ⟨ret_bool (by first | (simp_all [kids2, signs13]; done) | (simp_all [kids2, signs13]; omega)), HP.out.below⟩
  · have hn : ((l.length : Int) == 2) = false := by simp; omega
    have HV := Lib.hid (show kids2 ex ex l = false from by
      match l, hlen with
      | [], _ => rfl
      | [_], _ => rfl
      | [_, _], h => simp at h
      | _ :: _ :: _ :: _, _ => rfl)
    obtain ⟨wa, hwa, hba, e0, e1, e2, e3⟩ := laid4 w (.int .i64 20) (.string ⟨s.toArray⟩) (.slice a l.length c) (.int .i64 p) 24
    obtain ⟨S, hS⟩ : ∃ S : World → Prop, S = fun W => (W.cell? ⟨w.heap.size, 0, none⟩ = some (.int .i64 20) ∧ W.cell? ⟨w.heap.size, 1, none⟩ = some (.string ⟨s.toArray⟩) ∧ W.cell? ⟨w.heap.size, 2, none⟩ = some (.slice a l.length c) ∧ W.cell? ⟨w.heap.size, 3, none⟩ = some (.int .i64 p)) := ⟨_, rfl⟩
    have HKB := Lib.hid (show Keep S by rw [hS]; exact keep_and (keep_cell _ _) (keep_and (keep_cell _ _) (keep_and (keep_cell _ _) (keep_cell _ _))))
    have HP := Lib.hid (show Nk w n S [] wa from ⟨hba, hg.on hba, by rw [hS]; exact ⟨e0, e1, e2, e3⟩, fun q hq => by cases hq⟩)
    have HS := Lib.hid hS
    clear hg hk hf ht hkid hba hS
    go_enter Tryz.func20, Tryz.ntmps20
    go_wp2_with fail
    all_goals
      go_ret
      exact ⟨ret_bool (by rw [HV.out]; simp), HP.out.below⟩

end Go.Proofs.YtnmebgiiajnnjaaGreat
