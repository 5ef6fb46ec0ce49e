/-
  ported for this seat out of RrD, RrE, RrF (port.py)
-/
import Derived.Test.YtfcpblclfgkdjaaGreatDoorZB
namespace Go.Proofs.YtfcpblclfgkdjaaGreatDoor
set_option linter.unusedSimpArgs false
set_option linter.unusedVariables false
open Go.RowKit

theorem Kids.n1 {w : World} {B : Nat} {a : Option Addr} {x1 : Nd} (h : Kids w B a [x1]) : ∃ b off a1 c1, a = some ⟨b, off, none⟩ ∧ (Four w b off x1 a1 c1 ∧ Fits x1 c1 ∧ Kids w B a1 x1.kids) := by
  obtain ⟨b, off, a1, c1, e, -, h1, h2, h3⟩ := h.get (j := 0) (by simp)
  exact ⟨b, off, a1, c1, e, by simpa using h1, by simpa using h2, by simpa using h3⟩
theorem Kids.atOf {w : World} {B b off : Nat} {l : List Nd} (h : Kids w B (some ⟨b, off, none⟩) l) (j : Nat) (hj : j < l.length) : ∃ a' c', Four w b (off + j * 4) l[j] a' c' ∧ Fits l[j] c' ∧ Kids w B a' l[j].kids := by
  obtain ⟨b', off', a1, c1, e, -, h1, h2, h3⟩ := h.get hj
  injection e with e
  injection e with e1 e2
  subst e1 e2
  exact ⟨a1, c1, h1, h2, h3⟩
theorem Kids.n2 {w : World} {B : Nat} {a : Option Addr} {x1 x2 : Nd} (h : Kids w B a [x1, x2]) : ∃ b off a1 c1 a2 c2, a = some ⟨b, off, none⟩ ∧ (Four w b off x1 a1 c1 ∧ Fits x1 c1 ∧ Kids w B a1 x1.kids) ∧ (Four w b (off + 4) x2 a2 c2 ∧ Fits x2 c2 ∧ Kids w B a2 x2.kids) := by
  obtain ⟨b, off, a1, c1, rfl, -, h1⟩ := h.get (j := 0) (by simp)
  obtain ⟨a2, c2, h2⟩ := h.atOf 1 (by simp)
  exact ⟨b, off, a1, c1, a2, c2, rfl, by simpa using h1, by simpa using h2⟩
theorem Kids.n3 {w : World} {B : Nat} {a : Option Addr} {x1 x2 x3 : Nd} (h : Kids w B a [x1, x2, x3]) : ∃ b off a1 c1 a2 c2 a3 c3, a = some ⟨b, off, none⟩ ∧ (Four w b off x1 a1 c1 ∧ Fits x1 c1 ∧ Kids w B a1 x1.kids) ∧ (Four w b (off + 4) x2 a2 c2 ∧ Fits x2 c2 ∧ Kids w B a2 x2.kids) ∧
    (Four w b (off + 8) x3 a3 c3 ∧ Fits x3 c3 ∧ Kids w B a3 x3.kids) := by
  obtain ⟨b, off, a1, c1, rfl, -, h1⟩ := h.get (j := 0) (by simp)
  obtain ⟨a2, c2, h2⟩ := h.atOf 1 (by simp)
  obtain ⟨a3, c3, h3⟩ := h.atOf 2 (by simp)
  exact ⟨b, off, a1, c1, a2, c2, a3, c3, rfl, by simpa using h1, by simpa using h2, by simpa using h3⟩
theorem Kids.n4 {w : World} {B : Nat} {a : Option Addr} {x1 x2 x3 x4 : Nd} (h : Kids w B a [x1, x2, x3, x4]) : ∃ b off a1 c1 a2 c2 a3 c3 a4 c4, a = some ⟨b, off, none⟩ ∧ (Four w b off x1 a1 c1 ∧ Fits x1 c1 ∧ Kids w B a1 x1.kids) ∧ (Four w b (off + 4) x2 a2 c2 ∧ Fits x2 c2 ∧ Kids w B a2 x2.kids) ∧
    (Four w b (off + 8) x3 a3 c3 ∧ Fits x3 c3 ∧ Kids w B a3 x3.kids) ∧ (Four w b (off + 12) x4 a4 c4 ∧ Fits x4 c4 ∧ Kids w B a4 x4.kids) := by
  obtain ⟨b, off, a1, c1, rfl, -, h1⟩ := h.get (j := 0) (by simp)
  obtain ⟨a2, c2, h2⟩ := h.atOf 1 (by simp)
  obtain ⟨a3, c3, h3⟩ := h.atOf 2 (by simp)
  obtain ⟨a4, c4, h4⟩ := h.atOf 3 (by simp)
  exact ⟨b, off, a1, c1, a2, c2, a3, c3, a4, c4, rfl, by simpa using h1, by simpa using h2, by simpa using h3, by simpa using h4⟩

/-- Sig, with names or without. -/
def SgOk (b : Bool) (f : Nd → Bool) (n : Nat) : Prop :=
  ∀ (t : Nd) (a : Option Addr) (c : Nat) (w : World), t.height ≤ n → Glob w → Kids w w.heap.size a t.kids → Fits t c →
    Calls Tryz.prog 18 #[.agg #[.int .i64 t.kind, .string ⟨t.text.toArray⟩, .slice a t.kids.length c, .int .i64 t.pos], .bool b] w fun e w' => e = .returned (.bool (f t)) ∧ Below w.heap.size w w'
theorem sg_ok (b : Bool) (ty : Nd → Bool) (n : Nat) (h : Ok 15 ty n) : SgOk b (sigB ty (soOf b)) (n + 1) := fun t a c w ht hg hk hf => rsig_any ty n h b t a c w ht hg hk hf
/-- exprs. -/
def ExsOk (ex : Nd → Bool) (n : Nat) : Prop := ∀ (l : List Nd) (a : Option Addr) (c : Nat) (w : World), (∀ t, t ∈ l → t.height ≤ n) → Glob w → Kids w w.heap.size a l → l.length ≤ 9223372036854775807 →
    Calls Tryz.prog 34 #[.slice a l.length c] w fun e w' => e = .returned (.bool (l.all ex)) ∧ Below w.heap.size w w'
section
variable {w0 : World} {n : Nat} {B : World → Prop} {K : List (Nd × Option Addr × Nat)} {W : World}
theorem nk_sg (h : Nk w0 n B K W) (hB : Keep B) {b : Bool} {f : Nd → Bool} (ho : SgOk b f n) (t : Nd) (a : Option Addr) (c : Nat) (hm : (t, a, c) ∈ K) : Calls Tryz.prog 18 #[.agg #[.int .i64 t.kind, .string ⟨t.text.toArray⟩, .slice a t.kids.length c, .int .i64 t.pos], .bool b] W (NkPost w0 n B K (.bool (f t))) :=
  nk_post h hB (ho t a c W (h.known _ hm).1 h.glob (h.known _ hm).2.1 (h.known _ hm).2.2)
theorem nk_exs (h : Nk w0 n B K W) (hB : Keep B) {ex : Nd → Bool} (ho : ExsOk ex n) (l : List Nd) (a : Option Addr) (c : Nat) (hk : Kids w0 w0.heap.size a l) (hh : ∀ t, t ∈ l → t.height ≤ n) (hl : l.length ≤ 9223372036854775807) :
    Calls Tryz.prog 34 #[.slice a l.length c] W (NkPost w0 n B K (.bool (l.all ex))) :=
  nk_post h hB (ho l a c W hh h.glob (hk.on h.below) hl)
end

set_option maxHeartbeats 2000000 in
theorem exs_ok (ex : Nd → Bool) (n : Nat) (h : Ok 16 ex n) : ExsOk ex n := by
  intro l a c w hh hg hk hl
  have H := Lib.hid h
  have HH := Lib.hid hh
  have HG := Lib.hid hg
  have HK := Lib.hid hk
  clear h hh hg hk
  go_enter Tryz.func34, Tryz.ntmps34
  go_wp2_with fail
  go_loopw [3] (fun i wr => ∃ j : Nat, j ≤ l.length ∧ i = .int .i64 j ∧ Hid ((l.take j).all ex = true) ∧ Hid (Below w.heap.size w wr)) (fun i _ => l.length - (intOf i).toNat)
  case atStart => exact ⟨0, by omega, rfl, Lib.hid rfl, Lib.hid (Below.refl _ _)⟩
  case round =>
    obtain ⟨j, hj1, rfl, HALL, HB⟩ := hrel
    by_cases hlt : j < l.length
    · obtain ⟨b, off, a', c', ha, -, ⟨d0, d1, d2, d3⟩, hf, hn⟩ := (HK.out.on HB.out).get hlt
      subst ha
      have HNX := Lib.hid (fun e => alls_next (f := ex) hlt HALL.out e)
      have HNO := Lib.hid (fun e => alls_no (f := ex) hlt e)
      have hc := H.out l[j] a' c' wr (HH.out _ (List.getElem_mem hlt)) (HG.out.on HB.out) hn hf
      obtain ⟨q, hq⟩ : ∃ q, l[j] = q := ⟨_, rfl⟩
      rw [hq] at d0 d1 d2 d3 hc HNX HNO
      obtain ⟨r, hr⟩ : ∃ r, ex q = r := ⟨_, rfl⟩
      rw [hr] at hc HNX HNO
      have HC := Lib.hid hc
      clear hq hc hf hn hr
      go_wp2_with fail
      refine HC.out.mono ?_
      rintro e w1 ⟨rfl, hb1⟩
      have HB1 := Lib.hid (bext HB.out hb1)
      clear hb1
      cases r with
      | true =>
        go_wp2_with fail
        go_roundw
        case rel => exact ⟨j + 1, by omega, by go_num, Lib.hid (HNX.out (by first | rfl | trivial)), HB1⟩
        case measure => simp [intOf]; omega
      | false =>
        have HV := Lib.hid (HNO.out (by first | rfl | trivial))
        go_wp2_with fail
        go_ret
        exact ⟨ret_bool HV.out.symm, HB1.out⟩
    · obtain rfl : j = l.length := by omega
      have HV := Lib.hid (alls_end HALL.out)
      go_wp2_with fail
      go_ret
      exact ⟨ret_bool HV.out.symm, HB.out⟩

set_option maxHeartbeats 4000000 in
theorem rblock_ok (st : Nd → Bool) (n : Nat) (h : Ok 17 st n) : Ok 30 (rowB 36 st) (n + 1) := by
  intro t a c w ht hg hk hf
  have H := Lib.hid h
  have HH := Lib.hid (fun x (hx : x ∈ t.kids) => show x.height ≤ n by have := Nd.height_kid hx; omega)
  have HG := Lib.hid hg
  have HK := Lib.hid hk
  have hl : t.kids.length ≤ 9223372036854775807 := by have := hf.2.2.2.2.2.1; have := hf.2.2.2.2.2.2; omega
  obtain ⟨wa, hwa, hba, e0, e1, e2, e3⟩ := laid4 w (.int .i64 t.kind) (.string ⟨t.text.toArray⟩) (.slice a t.kids.length c) (.int .i64 t.pos) 25
  have HBA := Lib.hid hba
  clear h hg hk hf ht hba
  by_cases h36 : t.kind = 36 ∧ t.text = []
  · have HV := Lib.hid (show rowB 36 st t = t.kids.all st by simp [rowB, h36.1, h36.2])
    have n0 : (t.kind != 36) = false := by simp [h36.1]
    have n1 : t.text.isEmpty = true := by simp [h36.2]
    clear h36
    go_enter Tryz.func30, Tryz.ntmps30
    go_wp2_with fail
    go_loopw [3] (fun i wr => ∃ j : Nat, j ≤ t.kids.length ∧ i = .int .i64 j ∧ Hid ((t.kids.take j).all st = true) ∧ Hid (Below w.heap.size w wr) ∧
      (wr.cell? ⟨w.heap.size, 0, none⟩ = some (.int .i64 t.kind) ∧ wr.cell? ⟨w.heap.size, 1, none⟩ = some (.string ⟨t.text.toArray⟩) ∧ wr.cell? ⟨w.heap.size, 2, none⟩ = some (.slice a t.kids.length c) ∧ wr.cell? ⟨w.heap.size, 3, none⟩ = some (.int .i64 t.pos))) (fun i _ => t.kids.length - (intOf i).toNat)
    case atStart => exact ⟨0, by omega, rfl, Lib.hid rfl, HBA, e0, e1, e2, e3⟩
    case round =>
      obtain ⟨j, hj1, rfl, HALL, HB, e0, e1, e2, e3⟩ := hrel
      by_cases hlt : j < t.kids.length
      · obtain ⟨b, off, a', c', ha, -, ⟨d0, d1, d2, d3⟩, hf, hn⟩ := (HK.out.on HB.out).get hlt
        subst ha
        have HNX := Lib.hid (fun e => alls_next (f := st) hlt HALL.out e)
        have HNO := Lib.hid (fun e => alls_no (f := st) hlt e)
        have hc := H.out t.kids[j] a' c' wr (HH.out _ (List.getElem_mem hlt)) (HG.out.on HB.out) hn hf
        obtain ⟨q, hq⟩ : ∃ q, t.kids[j] = q := ⟨_, rfl⟩
        rw [hq] at d0 d1 d2 d3 hc HNX HNO
        obtain ⟨r, hr⟩ : ∃ r, st q = r := ⟨_, rfl⟩
        rw [hr] at hc HNX HNO
        have HC := Lib.hid hc
        clear hq hc hf hn hr
        go_wp2_with fail
        refine HC.out.mono ?_
        rintro e w1 ⟨rfl, hb1⟩
        obtain ⟨e0, e1, e2, e3⟩ := cells_on' hb1 e0 e1 e2 e3
        have HB1 := Lib.hid (bext HB.out hb1)
        clear hb1
        cases r with
        | true =>
          go_wp2_with fail
          go_roundw
          case rel => exact ⟨j + 1, by omega, by go_num, Lib.hid (HNX.out (by first | rfl | trivial)), HB1, e0, e1, e2, e3⟩
          case measure => simp [intOf]; omega
        | false =>
          have HN := Lib.hid (HNO.out (by first | rfl | trivial))
          go_wp2_with fail
          go_ret
          exact ⟨ret_bool (by rw [HV.out, HN.out]), HB1.out⟩
      · obtain rfl : j = t.kids.length := by omega
        have HN := Lib.hid (alls_end HALL.out)
        go_wp2_with fail
        go_ret
        exact ⟨ret_bool (by rw [HV.out, HN.out]), HB.out⟩
  · have HV := Lib.hid (show rowB 36 st t = false by
      unfold rowB
      by_cases hk : t.kind = 36
      · have : t.text ≠ [] := fun e => h36 ⟨hk, e⟩
        simp [this]
      · simp [hk])
    have HN := Lib.hid h36
    clear h36
    go_enter Tryz.func30, Tryz.ntmps30
    by_cases n0 : t.kind = 36
    · have n1 : (t.kind != 36) = false := by simp [n0]
      have n2 : t.text.isEmpty = false := by simpa using fun e => HN.out ⟨n0, e⟩
      clear n0
      go_wp2_with fail
      go_ret
      exact ⟨ret_bool HV.out.symm, HBA.out⟩
    · have n1 : (t.kind != 36) = true := by simpa using n0
      clear n0
      go_wp2_with fail
      go_ret
      exact ⟨ret_bool HV.out.symm, HBA.out⟩
end Go.Proofs.YtfcpblclfgkdjaaGreatDoor

namespace Go.Proofs.YtfcpblclfgkdjaaGreatDoor
set_option linter.unusedSimpArgs false
set_option linter.unusedVariables false
open Go.RowKit
theorem kids2_all (ex : Nd → Bool) (x y : Nd) : [x, y].all ex = kids2 ex ex [x, y] := by simp [kids2]
end Go.Proofs.YtfcpblclfgkdjaaGreatDoor

namespace Go.Proofs.YtfcpblclfgkdjaaGreatDoor
set_option linter.unusedSimpArgs false
set_option linter.unusedVariables false
open Go.RowKit

set_option maxRecDepth 100000 in
set_option maxHeartbeats 8000000 in
theorem rexpr_int  (n : Nat) (s : List UInt8) (l : List Nd) (p : Int) (a : Option Addr) (c : Nat) (w : World) (ht : (Nd.mk 16 s l p).height ≤ n + 1) (hg : Glob w) (hk : Kids w w.heap.size a l) (hf : Fits (.mk 16 s l p) c) :
    Calls Tryz.prog 16 #[.agg #[.int .i64 16, .string ⟨s.toArray⟩, .slice a l.length c, .int .i64 p]] w fun e w' => e = .returned (.bool (plainL s && kids0 l)) ∧ Below w.heap.size w w' := by
  have hkid : ∀ x, x ∈ l → x.height ≤ n := fun x hx => by have := Nd.height_kid (t := .mk 16 s l p) hx; omega
  have hs : s.length ≤ 140737488351232 := hf.2.2.2.2.1
  have hcap : l.length ≤ c := hf.2.2.2.2.2.1
  have hl2 : l.length ≤ 9223372036854775807 := by have := hf.2.2.2.2.2.2.1; omega
  cases l with
  | nil =>
    obtain ⟨wa, hwa, hba, e0, e1, e2, e3⟩ := laid4 w (.int .i64 16) (.string ⟨s.toArray⟩) (.slice a 0 c) (.int .i64 p) 25
    obtain ⟨S, hS⟩ : ∃ S : World → Prop, S = fun W => (W.cell? ⟨w.heap.size, 0, none⟩ = some (.int .i64 16) ∧ W.cell? ⟨w.heap.size, 1, none⟩ = some (.string ⟨s.toArray⟩) ∧ W.cell? ⟨w.heap.size, 2, none⟩ = some (.slice a 0 c) ∧ W.cell? ⟨w.heap.size, 3, none⟩ = some (.int .i64 p)) := ⟨_, rfl⟩
    have HKB := Lib.hid (show Keep S by rw [hS]; exact keep_and (keep_cell _ _) (keep_and (keep_cell _ _) (keep_and (keep_cell _ _) (keep_cell _ _))))
    have HP := Lib.hid (show Nk w n S [] wa from ⟨hba, hg.on hba, by rw [hS]; exact ⟨e0, e1, e2, e3⟩, fun q hq => by cases hq⟩)
    have HS := Lib.hid hS
    clear hg hk hf ht hkid hba hS
    go_enter Tryz.func16, Tryz.ntmps16
    go_wp2_with (first
      | (go_at_call 33
         refine (nk_plain HP.out HKB.out _ (by first | exact hs | omega)).mono ?_
         rintro e w1 ⟨rfl, h1, HP⟩
         rw [HS.out] at h1
         obtain ⟨e0, e1, e2, e3⟩ := h1))
    all_goals
      go_ret
      exact ⟨ret_bool (by first | (simp_all [kids0]; done) | (simp_all [kids0]; omega)), HP.out.below⟩
  | cons x r =>
    have hn : ((r.length : Int) + 1 == 0) = false := by simp; omega
    obtain ⟨wa, hwa, hba, e0, e1, e2, e3⟩ := laid4 w (.int .i64 16) (.string ⟨s.toArray⟩) (.slice a (r.length + 1) c) (.int .i64 p) 25
    obtain ⟨S, hS⟩ : ∃ S : World → Prop, S = fun W => (W.cell? ⟨w.heap.size, 0, none⟩ = some (.int .i64 16) ∧ W.cell? ⟨w.heap.size, 1, none⟩ = some (.string ⟨s.toArray⟩) ∧ W.cell? ⟨w.heap.size, 2, none⟩ = some (.slice a (r.length + 1) c) ∧ W.cell? ⟨w.heap.size, 3, none⟩ = some (.int .i64 p)) := ⟨_, rfl⟩
    have HKB := Lib.hid (show Keep S by rw [hS]; exact keep_and (keep_cell _ _) (keep_and (keep_cell _ _) (keep_and (keep_cell _ _) (keep_cell _ _))))
    have HP := Lib.hid (show Nk w n S [] wa from ⟨hba, hg.on hba, by rw [hS]; exact ⟨e0, e1, e2, e3⟩, fun q hq => by cases hq⟩)
    have HS := Lib.hid hS
    clear hg hk hf ht hkid hba hS
    go_enter Tryz.func16, Tryz.ntmps16
    go_wp2_with (first
      | (go_at_call 33
         refine (nk_plain HP.out HKB.out _ (by first | exact hs | omega)).mono ?_
         rintro e w1 ⟨rfl, h1, HP⟩
         rw [HS.out] at h1
         obtain ⟨e0, e1, e2, e3⟩ := h1))
    all_goals
      go_ret
      exact ⟨ret_bool (by first | (simp_all [kids0]; done) | (simp_all [kids0]; omega)), HP.out.below⟩

set_option maxRecDepth 100000 in
set_option maxHeartbeats 8000000 in
theorem rexpr_str  (n : Nat) (s : List UInt8) (l : List Nd) (p : Int) (a : Option Addr) (c : Nat) (w : World) (ht : (Nd.mk 17 s l p).height ≤ n + 1) (hg : Glob w) (hk : Kids w w.heap.size a l) (hf : Fits (.mk 17 s l p) c) :
    Calls Tryz.prog 16 #[.agg #[.int .i64 17, .string ⟨s.toArray⟩, .slice a l.length c, .int .i64 p]] w fun e w' => e = .returned (.bool (shortL s && kids0 l)) ∧ Below w.heap.size w w' := by
  have hkid : ∀ x, x ∈ l → x.height ≤ n := fun x hx => by have := Nd.height_kid (t := .mk 17 s l p) hx; omega
  have hs : s.length ≤ 140737488351232 := hf.2.2.2.2.1
  have hcap : l.length ≤ c := hf.2.2.2.2.2.1
  have hl2 : l.length ≤ 9223372036854775807 := by have := hf.2.2.2.2.2.2.1; omega
  cases l with
  | nil =>
    obtain ⟨wa, hwa, hba, e0, e1, e2, e3⟩ := laid4 w (.int .i64 17) (.string ⟨s.toArray⟩) (.slice a 0 c) (.int .i64 p) 25
    obtain ⟨S, hS⟩ : ∃ S : World → Prop, S = fun W => (W.cell? ⟨w.heap.size, 0, none⟩ = some (.int .i64 17) ∧ W.cell? ⟨w.heap.size, 1, none⟩ = some (.string ⟨s.toArray⟩) ∧ W.cell? ⟨w.heap.size, 2, none⟩ = some (.slice a 0 c) ∧ W.cell? ⟨w.heap.size, 3, none⟩ = some (.int .i64 p)) := ⟨_, rfl⟩
    have HKB := Lib.hid (show Keep S by rw [hS]; exact keep_and (keep_cell _ _) (keep_and (keep_cell _ _) (keep_and (keep_cell _ _) (keep_cell _ _))))
    have HP := Lib.hid (show Nk w n S [] wa from ⟨hba, hg.on hba, by rw [hS]; exact ⟨e0, e1, e2, e3⟩, fun q hq => by cases hq⟩)
    have HS := Lib.hid hS
    clear hg hk hf ht hkid hba hS
    go_enter Tryz.func16, Tryz.ntmps16
    go_wp2_with fail
    all_goals
      go_ret
      exact ⟨ret_bool (by first | (simp_all [kids0, shortL]; done) | (simp_all [kids0, shortL]; omega)), HP.out.below⟩
  | cons x r =>
    have hn : ((r.length : Int) + 1 == 0) = false := by simp; omega
    obtain ⟨wa, hwa, hba, e0, e1, e2, e3⟩ := laid4 w (.int .i64 17) (.string ⟨s.toArray⟩) (.slice a (r.length + 1) c) (.int .i64 p) 25
    obtain ⟨S, hS⟩ : ∃ S : World → Prop, S = fun W => (W.cell? ⟨w.heap.size, 0, none⟩ = some (.int .i64 17) ∧ W.cell? ⟨w.heap.size, 1, none⟩ = some (.string ⟨s.toArray⟩) ∧ W.cell? ⟨w.heap.size, 2, none⟩ = some (.slice a (r.length + 1) c) ∧ W.cell? ⟨w.heap.size, 3, none⟩ = some (.int .i64 p)) := ⟨_, rfl⟩
    have HKB := Lib.hid (show Keep S by rw [hS]; exact keep_and (keep_cell _ _) (keep_and (keep_cell _ _) (keep_and (keep_cell _ _) (keep_cell _ _))))
    have HP := Lib.hid (show Nk w n S [] wa from ⟨hba, hg.on hba, by rw [hS]; exact ⟨e0, e1, e2, e3⟩, fun q hq => by cases hq⟩)
    have HS := Lib.hid hS
    clear hg hk hf ht hkid hba hS
    go_enter Tryz.func16, Tryz.ntmps16
    go_wp2_with fail
    all_goals
      go_ret
      exact ⟨ret_bool (by first | (simp_all [kids0, shortL]; done) | (simp_all [kids0, shortL]; omega)), HP.out.below⟩

set_option maxRecDepth 100000 in
set_option maxHeartbeats 8000000 in
theorem rexpr_name  (n : Nat) (s : List UInt8) (l : List Nd) (p : Int) (a : Option Addr) (c : Nat) (w : World) (ht : (Nd.mk 18 s l p).height ≤ n + 1) (hg : Glob w) (hk : Kids w w.heap.size a l) (hf : Fits (.mk 18 s l p) c) :
    Calls Tryz.prog 16 #[.agg #[.int .i64 18, .string ⟨s.toArray⟩, .slice a l.length c, .int .i64 p]] w fun e w' => e = .returned (.bool (nameL s && kids0 l)) ∧ Below w.heap.size w w' := by
  have hkid : ∀ x, x ∈ l → x.height ≤ n := fun x hx => by have := Nd.height_kid (t := .mk 18 s l p) hx; omega
  have hs : s.length ≤ 140737488351232 := hf.2.2.2.2.1
  have hcap : l.length ≤ c := hf.2.2.2.2.2.1
  have hl2 : l.length ≤ 9223372036854775807 := by have := hf.2.2.2.2.2.2.1; omega
  cases l with
  | nil =>
    obtain ⟨wa, hwa, hba, e0, e1, e2, e3⟩ := laid4 w (.int .i64 18) (.string ⟨s.toArray⟩) (.slice a 0 c) (.int .i64 p) 25
    obtain ⟨S, hS⟩ : ∃ S : World → Prop, S = fun W => (W.cell? ⟨w.heap.size, 0, none⟩ = some (.int .i64 18) ∧ W.cell? ⟨w.heap.size, 1, none⟩ = some (.string ⟨s.toArray⟩) ∧ W.cell? ⟨w.heap.size, 2, none⟩ = some (.slice a 0 c) ∧ W.cell? ⟨w.heap.size, 3, none⟩ = some (.int .i64 p)) := ⟨_, rfl⟩
    have HKB := Lib.hid (show Keep S by rw [hS]; exact keep_and (keep_cell _ _) (keep_and (keep_cell _ _) (keep_and (keep_cell _ _) (keep_cell _ _))))
    have HP := Lib.hid (show Nk w n S [] wa from ⟨hba, hg.on hba, by rw [hS]; exact ⟨e0, e1, e2, e3⟩, fun q hq => by cases hq⟩)
    have HS := Lib.hid hS
    clear hg hk hf ht hkid hba hS
    go_enter Tryz.func16, Tryz.ntmps16
    go_wp2_with (first
      | (go_at_call 13
         refine (nk_name HP.out HKB.out _ (by first | exact hs | omega)).mono ?_
         rintro e w1 ⟨rfl, h1, HP⟩
         rw [HS.out] at h1
         obtain ⟨e0, e1, e2, e3⟩ := h1))
    all_goals
      go_ret
      exact ⟨ret_bool (by first | (simp_all [kids0]; done) | (simp_all [kids0]; omega)), HP.out.below⟩
  | cons x r =>
    have hn : ((r.length : Int) + 1 == 0) = false := by simp; omega
    obtain ⟨wa, hwa, hba, e0, e1, e2, e3⟩ := laid4 w (.int .i64 18) (.string ⟨s.toArray⟩) (.slice a (r.length + 1) c) (.int .i64 p) 25
    obtain ⟨S, hS⟩ : ∃ S : World → Prop, S = fun W => (W.cell? ⟨w.heap.size, 0, none⟩ = some (.int .i64 18) ∧ W.cell? ⟨w.heap.size, 1, none⟩ = some (.string ⟨s.toArray⟩) ∧ W.cell? ⟨w.heap.size, 2, none⟩ = some (.slice a (r.length + 1) c) ∧ W.cell? ⟨w.heap.size, 3, none⟩ = some (.int .i64 p)) := ⟨_, rfl⟩
    have HKB := Lib.hid (show Keep S by rw [hS]; exact keep_and (keep_cell _ _) (keep_and (keep_cell _ _) (keep_and (keep_cell _ _) (keep_cell _ _))))
    have HP := Lib.hid (show Nk w n S [] wa from ⟨hba, hg.on hba, by rw [hS]; exact ⟨e0, e1, e2, e3⟩, fun q hq => by cases hq⟩)
    have HS := Lib.hid hS
    clear hg hk hf ht hkid hba hS
    go_enter Tryz.func16, Tryz.ntmps16
    go_wp2_with (first
      | (go_at_call 13
         refine (nk_name HP.out HKB.out _ (by first | exact hs | omega)).mono ?_
         rintro e w1 ⟨rfl, h1, HP⟩
         rw [HS.out] at h1
         obtain ⟨e0, e1, e2, e3⟩ := h1))
    all_goals
      go_ret
      exact ⟨ret_bool (by first | (simp_all [kids0]; done) | (simp_all [kids0]; omega)), HP.out.below⟩

set_option maxRecDepth 100000 in
set_option maxHeartbeats 8000000 in
theorem rexpr_unary (ex : Nd → Bool) (n : Nat) (h_ex : Ok 16 ex n) (s : List UInt8) (l : List Nd) (p : Int) (a : Option Addr) (c : Nat) (w : World) (ht : (Nd.mk 19 s l p).height ≤ n + 1) (hg : Glob w) (hk : Kids w w.heap.size a l) (hf : Fits (.mk 19 s l p) c) :
    Calls Tryz.prog 16 #[.agg #[.int .i64 19, .string ⟨s.toArray⟩, .slice a l.length c, .int .i64 p]] w fun e w' => e = .returned (.bool (unaryL s && kids1 ex l)) ∧ Below w.heap.size w w' := by
  have hkid : ∀ x, x ∈ l → x.height ≤ n := fun x hx => by have := Nd.height_kid (t := .mk 19 s l p) hx; omega
  have hs : s.length ≤ 140737488351232 := hf.2.2.2.2.1
  have hcap : l.length ≤ c := hf.2.2.2.2.2.1
  have hl2 : l.length ≤ 9223372036854775807 := by have := hf.2.2.2.2.2.2.1; omega
  have H_ex := Lib.hid h_ex
  clear h_ex
  by_cases hlen : l.length = 1
  · obtain ⟨x1, rfl⟩ : ∃ x1, l = [x1] := by
      match l, hlen with
      | [x1], _ => exact ⟨x1, rfl⟩
    obtain ⟨b, off, a1, c1, rfl, ⟨q1, f1, k1⟩⟩ := hk.n1
    have h1 := hkid x1 (by simp)
    obtain ⟨wa, hwa, hba, e0, e1, e2, e3⟩ := laid4 w (.int .i64 19) (.string ⟨s.toArray⟩) (.slice (some ⟨b, off, none⟩) 1 c) (.int .i64 p) 25
    have q1 := Four.on q1 hba
    obtain ⟨S, hS⟩ : ∃ S : World → Prop, S = fun W => (W.cell? ⟨w.heap.size, 0, none⟩ = some (.int .i64 19) ∧ W.cell? ⟨w.heap.size, 1, none⟩ = some (.string ⟨s.toArray⟩) ∧ W.cell? ⟨w.heap.size, 2, none⟩ = some (.slice (some ⟨b, off, none⟩) 1 c) ∧ W.cell? ⟨w.heap.size, 3, none⟩ = some (.int .i64 p)) ∧ Four W b off x1 a1 c1 := ⟨_, rfl⟩
    have HKB := Lib.hid (show Keep S by rw [hS]; exact keep_and (keep_and (keep_cell _ _) (keep_and (keep_cell _ _) (keep_and (keep_cell _ _) (keep_cell _ _)))) (keep_four _ _ _ _ _))
    have HP := Lib.hid (show Nk w n S [(x1, a1, c1)] wa from ⟨hba, hg.on hba, by rw [hS]; exact ⟨⟨e0, e1, e2, e3⟩, q1⟩, fun q hq => by
      simp only [List.mem_cons, List.not_mem_nil, or_false] at hq
      rcases hq with rfl
      · exact ⟨h1, k1.on hba, f1⟩⟩)
    obtain ⟨q10, q11, q12, q13⟩ := q1
    have HS := Lib.hid hS
    clear hg hk hf ht hkid hba hS f1 k1 h1
    go_enter Tryz.func16, Tryz.ntmps16
    go_wp2_with (first
      | (go_at_call 16
         refine (nk_ok HP.out HKB.out H_ex.out _ _ _ ?_).mono ?_
         focus (simp)
         rintro e w1 ⟨rfl, h1, HP⟩
         rw [HS.out] at h1
         obtain ⟨⟨e0, e1, e2, e3⟩, ⟨q10, q11, q12, q13⟩⟩ := h1))
    all_goals
      go_ret
      exact ⟨ret_bool (by first | (simp_all [kids1, unaryL]; done) | (simp_all [kids1, unaryL]; omega)), HP.out.below⟩
  · have hn : ((l.length : Int) == 1) = false := by simp; omega
    have HV := Lib.hid (show kids1 ex l = false from by
      match l, hlen with
      | [], _ => rfl
      | [_], h => simp at h
      | _ :: _ :: _, _ => rfl)
    obtain ⟨wa, hwa, hba, e0, e1, e2, e3⟩ := laid4 w (.int .i64 19) (.string ⟨s.toArray⟩) (.slice a l.length c) (.int .i64 p) 25
    obtain ⟨S, hS⟩ : ∃ S : World → Prop, S = fun W => (W.cell? ⟨w.heap.size, 0, none⟩ = some (.int .i64 19) ∧ W.cell? ⟨w.heap.size, 1, none⟩ = some (.string ⟨s.toArray⟩) ∧ W.cell? ⟨w.heap.size, 2, none⟩ = some (.slice a l.length c) ∧ W.cell? ⟨w.heap.size, 3, none⟩ = some (.int .i64 p)) := ⟨_, rfl⟩
    have HKB := Lib.hid (show Keep S by rw [hS]; exact keep_and (keep_cell _ _) (keep_and (keep_cell _ _) (keep_and (keep_cell _ _) (keep_cell _ _))))
    have HP := Lib.hid (show Nk w n S [] wa from ⟨hba, hg.on hba, by rw [hS]; exact ⟨e0, e1, e2, e3⟩, fun q hq => by cases hq⟩)
    have HS := Lib.hid hS
    clear hg hk hf ht hkid hba hS
    go_enter Tryz.func16, Tryz.ntmps16
    go_wp2_with fail
    all_goals
      go_ret
      exact ⟨ret_bool (by rw [HV.out]; simp), HP.out.below⟩

set_option maxRecDepth 100000 in
set_option maxHeartbeats 8000000 in
theorem rexpr_field (ex : Nd → Bool) (n : Nat) (h_ex : Ok 16 ex n) (s : List UInt8) (l : List Nd) (p : Int) (a : Option Addr) (c : Nat) (w : World) (ht : (Nd.mk 23 s l p).height ≤ n + 1) (hg : Glob w) (hk : Kids w w.heap.size a l) (hf : Fits (.mk 23 s l p) c) :
    Calls Tryz.prog 16 #[.agg #[.int .i64 23, .string ⟨s.toArray⟩, .slice a l.length c, .int .i64 p]] w fun e w' => e = .returned (.bool (nameL s && kids1 ex l)) ∧ Below w.heap.size w w' := by
  have hkid : ∀ x, x ∈ l → x.height ≤ n := fun x hx => by have := Nd.height_kid (t := .mk 23 s l p) hx; omega
  have hs : s.length ≤ 140737488351232 := hf.2.2.2.2.1
  have hcap : l.length ≤ c := hf.2.2.2.2.2.1
  have hl2 : l.length ≤ 9223372036854775807 := by have := hf.2.2.2.2.2.2.1; omega
  have H_ex := Lib.hid h_ex
  clear h_ex
  by_cases hlen : l.length = 1
  · obtain ⟨x1, rfl⟩ : ∃ x1, l = [x1] := by
      match l, hlen with
      | [x1], _ => exact ⟨x1, rfl⟩
    obtain ⟨b, off, a1, c1, rfl, ⟨q1, f1, k1⟩⟩ := hk.n1
    have h1 := hkid x1 (by simp)
    obtain ⟨wa, hwa, hba, e0, e1, e2, e3⟩ := laid4 w (.int .i64 23) (.string ⟨s.toArray⟩) (.slice (some ⟨b, off, none⟩) 1 c) (.int .i64 p) 25
    have q1 := Four.on q1 hba
    obtain ⟨S, hS⟩ : ∃ S : World → Prop, S = fun W => (W.cell? ⟨w.heap.size, 0, none⟩ = some (.int .i64 23) ∧ W.cell? ⟨w.heap.size, 1, none⟩ = some (.string ⟨s.toArray⟩) ∧ W.cell? ⟨w.heap.size, 2, none⟩ = some (.slice (some ⟨b, off, none⟩) 1 c) ∧ W.cell? ⟨w.heap.size, 3, none⟩ = some (.int .i64 p)) ∧ Four W b off x1 a1 c1 := ⟨_, rfl⟩
    have HKB := Lib.hid (show Keep S by rw [hS]; exact keep_and (keep_and (keep_cell _ _) (keep_and (keep_cell _ _) (keep_and (keep_cell _ _) (keep_cell _ _)))) (keep_four _ _ _ _ _))
    have HP := Lib.hid (show Nk w n S [(x1, a1, c1)] wa from ⟨hba, hg.on hba, by rw [hS]; exact ⟨⟨e0, e1, e2, e3⟩, q1⟩, fun q hq => by
      simp only [List.mem_cons, List.not_mem_nil, or_false] at hq
      rcases hq with rfl
      · exact ⟨h1, k1.on hba, f1⟩⟩)
    obtain ⟨q10, q11, q12, q13⟩ := q1
    have HS := Lib.hid hS
    clear hg hk hf ht hkid hba hS f1 k1 h1
    go_enter Tryz.func16, Tryz.ntmps16
    go_wp2_with (first
      | (go_at_call 16
         refine (nk_ok HP.out HKB.out H_ex.out _ _ _ ?_).mono ?_
         focus (simp)
         rintro e w1 ⟨rfl, h1, HP⟩
         rw [HS.out] at h1
         obtain ⟨⟨e0, e1, e2, e3⟩, ⟨q10, q11, q12, q13⟩⟩ := h1)
      | (go_at_call 13
         refine (nk_name HP.out HKB.out _ (by first | exact hs | omega)).mono ?_
         rintro e w1 ⟨rfl, h1, HP⟩
         rw [HS.out] at h1
         obtain ⟨⟨e0, e1, e2, e3⟩, ⟨q10, q11, q12, q13⟩⟩ := h1))
    all_goals
      go_ret
      exact ⟨ret_bool (by first | (simp_all [kids1]; done) | (simp_all [kids1]; omega)), HP.out.below⟩
  · have hn : ((l.length : Int) == 1) = false := by simp; omega
    have HV := Lib.hid (show kids1 ex l = false from by
      match l, hlen with
      | [], _ => rfl
      | [_], h => simp at h
      | _ :: _ :: _, _ => rfl)
    obtain ⟨wa, hwa, hba, e0, e1, e2, e3⟩ := laid4 w (.int .i64 23) (.string ⟨s.toArray⟩) (.slice a l.length c) (.int .i64 p) 25
    obtain ⟨S, hS⟩ : ∃ S : World → Prop, S = fun W => (W.cell? ⟨w.heap.size, 0, none⟩ = some (.int .i64 23) ∧ W.cell? ⟨w.heap.size, 1, none⟩ = some (.string ⟨s.toArray⟩) ∧ W.cell? ⟨w.heap.size, 2, none⟩ = some (.slice a l.length c) ∧ W.cell? ⟨w.heap.size, 3, none⟩ = some (.int .i64 p)) := ⟨_, rfl⟩
    have HKB := Lib.hid (show Keep S by rw [hS]; exact keep_and (keep_cell _ _) (keep_and (keep_cell _ _) (keep_and (keep_cell _ _) (keep_cell _ _))))
    have HP := Lib.hid (show Nk w n S [] wa from ⟨hba, hg.on hba, by rw [hS]; exact ⟨e0, e1, e2, e3⟩, fun q hq => by cases hq⟩)
    have HS := Lib.hid hS
    clear hg hk hf ht hkid hba hS
    go_enter Tryz.func16, Tryz.ntmps16
    go_wp2_with fail
    all_goals
      go_ret
      exact ⟨ret_bool (by rw [HV.out]; simp), HP.out.below⟩

set_option maxRecDepth 100000 in
set_option maxHeartbeats 8000000 in
theorem rexpr_func (sg : Nd → Bool) (bl : Nd → Bool) (n : Nat) (h_sg : SgOk true sg n) (h_bl : Ok 30 bl n) (s : List UInt8) (l : List Nd) (p : Int) (a : Option Addr) (c : Nat) (w : World) (ht : (Nd.mk 25 s l p).height ≤ n + 1) (hg : Glob w) (hk : Kids w w.heap.size a l) (hf : Fits (.mk 25 s l p) c) :
    Calls Tryz.prog 16 #[.agg #[.int .i64 25, .string ⟨s.toArray⟩, .slice a l.length c, .int .i64 p]] w fun e w' => e = .returned (.bool (s.isEmpty && kids2 sg bl l)) ∧ Below w.heap.size w w' := by
  have hkid : ∀ x, x ∈ l → x.height ≤ n := fun x hx => by have := Nd.height_kid (t := .mk 25 s l p) hx; omega
  have hs : s.length ≤ 140737488351232 := hf.2.2.2.2.1
  have hcap : l.length ≤ c := hf.2.2.2.2.2.1
  have hl2 : l.length ≤ 9223372036854775807 := by have := hf.2.2.2.2.2.2.1; omega
  have H_sg := Lib.hid h_sg
  have H_bl := Lib.hid h_bl
  clear h_sg h_bl
  by_cases hlen : l.length = 2
  · obtain ⟨x1, x2, rfl⟩ : ∃ x1 x2, l = [x1, x2] := by
      match l, hlen with
      | [x1, x2], _ => exact ⟨x1, x2, rfl⟩
    obtain ⟨b, off, a1, c1, a2, c2, rfl, ⟨q1, f1, k1⟩, ⟨q2, f2, k2⟩⟩ := hk.n2
    have h1 := hkid x1 (by simp)
    have h2 := hkid x2 (by simp)
    obtain ⟨wa, hwa, hba, e0, e1, e2, e3⟩ := laid4 w (.int .i64 25) (.string ⟨s.toArray⟩) (.slice (some ⟨b, off, none⟩) 2 c) (.int .i64 p) 25
    have q1 := Four.on q1 hba
    have q2 := Four.on q2 hba
    obtain ⟨S, hS⟩ : ∃ S : World → Prop, S = fun W => (W.cell? ⟨w.heap.size, 0, none⟩ = some (.int .i64 25) ∧ W.cell? ⟨w.heap.size, 1, none⟩ = some (.string ⟨s.toArray⟩) ∧ W.cell? ⟨w.heap.size, 2, none⟩ = some (.slice (some ⟨b, off, none⟩) 2 c) ∧ W.cell? ⟨w.heap.size, 3, none⟩ = some (.int .i64 p)) ∧ Four W b off x1 a1 c1 ∧ Four W b (off + 4) x2 a2 c2 := ⟨_, rfl⟩
    have HKB := Lib.hid (show Keep S by rw [hS]; exact keep_and (keep_and (keep_cell _ _) (keep_and (keep_cell _ _) (keep_and (keep_cell _ _) (keep_cell _ _)))) (keep_and (keep_four _ _ _ _ _) (keep_four _ _ _ _ _)))
    have HP := Lib.hid (show Nk w n S [(x1, a1, c1), (x2, a2, c2)] wa from ⟨hba, hg.on hba, by rw [hS]; exact ⟨⟨e0, e1, e2, e3⟩, q1, q2⟩, fun q hq => by
      simp only [List.mem_cons, List.not_mem_nil, or_false] at hq
      rcases hq with rfl | rfl
      · exact ⟨h1, k1.on hba, f1⟩
      · exact ⟨h2, k2.on hba, f2⟩⟩)
    obtain ⟨q10, q11, q12, q13⟩ := q1
    obtain ⟨q20, q21, q22, q23⟩ := q2
    have HS := Lib.hid hS
    clear hg hk hf ht hkid hba hS f1 k1 h1 f2 k2 h2
    go_enter Tryz.func16, Tryz.ntmps16
    go_wp2_with (first
      | (go_at_call 18
         refine (nk_sg HP.out HKB.out H_sg.out _ _ _ ?_).mono ?_
         focus (simp)
         rintro e w1 ⟨rfl, h1, HP⟩
         rw [HS.out] at h1
         obtain ⟨⟨e0, e1, e2, e3⟩, ⟨q10, q11, q12, q13⟩, ⟨q20, q21, q22, q23⟩⟩ := h1)
      | (go_at_call 30
         refine (nk_ok HP.out HKB.out H_bl.out _ _ _ ?_).mono ?_
         focus (simp)
         rintro e w1 ⟨rfl, h1, HP⟩
         rw [HS.out] at h1
         obtain ⟨⟨e0, e1, e2, e3⟩, ⟨q10, q11, q12, q13⟩, ⟨q20, q21, q22, q23⟩⟩ := h1))
    all_goals
      go_ret
      exact ⟨ret_bool (by first | (simp_all [kids2]; done) | (simp_all [kids2]; omega)), HP.out.below⟩
  · have hn : ((l.length : Int) == 2) = false := by simp; omega
    have HV := Lib.hid (show kids2 sg bl l = false from by
      match l, hlen with
      | [], _ => rfl
      | [_], _ => rfl
      | [_, _], h => simp at h
      | _ :: _ :: _ :: _, _ => rfl)
    obtain ⟨wa, hwa, hba, e0, e1, e2, e3⟩ := laid4 w (.int .i64 25) (.string ⟨s.toArray⟩) (.slice a l.length c) (.int .i64 p) 25
    obtain ⟨S, hS⟩ : ∃ S : World → Prop, S = fun W => (W.cell? ⟨w.heap.size, 0, none⟩ = some (.int .i64 25) ∧ W.cell? ⟨w.heap.size, 1, none⟩ = some (.string ⟨s.toArray⟩) ∧ W.cell? ⟨w.heap.size, 2, none⟩ = some (.slice a l.length c) ∧ W.cell? ⟨w.heap.size, 3, none⟩ = some (.int .i64 p)) := ⟨_, rfl⟩
    have HKB := Lib.hid (show Keep S by rw [hS]; exact keep_and (keep_cell _ _) (keep_and (keep_cell _ _) (keep_and (keep_cell _ _) (keep_cell _ _))))
    have HP := Lib.hid (show Nk w n S [] wa from ⟨hba, hg.on hba, by rw [hS]; exact ⟨e0, e1, e2, e3⟩, fun q hq => by cases hq⟩)
    have HS := Lib.hid hS
    clear hg hk hf ht hkid hba hS
    go_enter Tryz.func16, Tryz.ntmps16
    go_wp2_with fail
    all_goals
      go_ret
      exact ⟨ret_bool (by rw [HV.out]; simp), HP.out.below⟩

set_option maxRecDepth 100000 in
set_option maxHeartbeats 8000000 in
theorem rexpr_binary (ex : Nd → Bool) (n : Nat) (h_ex : Ok 16 ex n) (s : List UInt8) (l : List Nd) (p : Int) (a : Option Addr) (c : Nat) (w : World) (ht : (Nd.mk 20 s l p).height ≤ n + 1) (hg : Glob w) (hk : Kids w w.heap.size a l) (hf : Fits (.mk 20 s l p) c) :
    Calls Tryz.prog 16 #[.agg #[.int .i64 20, .string ⟨s.toArray⟩, .slice a l.length c, .int .i64 p]] w fun e w' => e = .returned (.bool (binaryL s && kids2 ex ex l)) ∧ Below w.heap.size w w' := by
  have hkid : ∀ x, x ∈ l → x.height ≤ n := fun x hx => by have := Nd.height_kid (t := .mk 20 s l p) hx; omega
  have hs : s.length ≤ 140737488351232 := hf.2.2.2.2.1
  have hcap : l.length ≤ c := hf.2.2.2.2.2.1
  have hl2 : l.length ≤ 9223372036854775807 := by have := hf.2.2.2.2.2.2.1; omega
  have H_ex := Lib.hid h_ex
  have H_exs := Lib.hid (exs_ok ex n h_ex)
  clear h_ex
  by_cases hlen : l.length = 2
  · have HKW := Lib.hid hk
    obtain ⟨x1, x2, rfl⟩ : ∃ x1 x2, l = [x1, x2] := by
      match l, hlen with
      | [x1, x2], _ => exact ⟨x1, x2, rfl⟩
    obtain ⟨b, off, a1, c1, a2, c2, rfl, ⟨q1, f1, k1⟩, ⟨q2, f2, k2⟩⟩ := hk.n2
    have h1 := hkid x1 (by simp)
    have h2 := hkid x2 (by simp)
    obtain ⟨wa, hwa, hba, e0, e1, e2, e3⟩ := laid4 w (.int .i64 20) (.string ⟨s.toArray⟩) (.slice (some ⟨b, off, none⟩) 2 c) (.int .i64 p) 25
    have q1 := Four.on q1 hba
    have q2 := Four.on q2 hba
    obtain ⟨S, hS⟩ : ∃ S : World → Prop, S = fun W => (W.cell? ⟨w.heap.size, 0, none⟩ = some (.int .i64 20) ∧ W.cell? ⟨w.heap.size, 1, none⟩ = some (.string ⟨s.toArray⟩) ∧ W.cell? ⟨w.heap.size, 2, none⟩ = some (.slice (some ⟨b, off, none⟩) 2 c) ∧ W.cell? ⟨w.heap.size, 3, none⟩ = some (.int .i64 p)) ∧ Four W b off x1 a1 c1 ∧ Four W b (off + 4) x2 a2 c2 := ⟨_, rfl⟩
    have HKB := Lib.hid (show Keep S by rw [hS]; exact keep_and (keep_and (keep_cell _ _) (keep_and (keep_cell _ _) (keep_and (keep_cell _ _) (keep_cell _ _)))) (keep_and (keep_four _ _ _ _ _) (keep_four _ _ _ _ _)))
    have HP := Lib.hid (show Nk w n S [(x1, a1, c1), (x2, a2, c2)] wa from ⟨hba, hg.on hba, by rw [hS]; exact ⟨⟨e0, e1, e2, e3⟩, q1, q2⟩, fun q hq => by
      simp only [List.mem_cons, List.not_mem_nil, or_false] at hq
      rcases hq with rfl | rfl
      · exact ⟨h1, k1.on hba, f1⟩
      · exact ⟨h2, k2.on hba, f2⟩⟩)
    obtain ⟨q10, q11, q12, q13⟩ := q1
    obtain ⟨q20, q21, q22, q23⟩ := q2
    have HS := Lib.hid hS
    have HHW := Lib.hid hkid
    have HLW := Lib.hid hl2
    clear hg hk hf ht hkid hba hS f1 k1 h1 f2 k2 h2
    rw [binary_signs]
    go_enter Tryz.func16, Tryz.ntmps16
    go_wp2_with (first
      | (go_at_call 34
         refine (nk_exs HP.out HKB.out H_exs.out [x1, x2] _ _ HKW.out HHW.out HLW.out).mono ?_
         rintro e w1 ⟨rfl, h1, HP⟩
         rw [HS.out] at h1
         obtain ⟨⟨e0, e1, e2, e3⟩, ⟨q10, q11, q12, q13⟩, ⟨q20, q21, q22, q23⟩⟩ := h1))
    all_goals
      go_ret
      exact ⟨ret_bool (by first | (simp_all [kids2, signs13]; done) | (simp_all [kids2, signs13]; omega)), HP.out.below⟩
  · have hn : ((l.length : Int) == 2) = false := by simp; omega
    have HV := Lib.hid (show kids2 ex ex l = false from by
      match l, hlen with
      | [], _ => rfl
      | [_], _ => rfl
      | [_, _], h => simp at h
      | _ :: _ :: _ :: _, _ => rfl)
    obtain ⟨wa, hwa, hba, e0, e1, e2, e3⟩ := laid4 w (.int .i64 20) (.string ⟨s.toArray⟩) (.slice a l.length c) (.int .i64 p) 25
    obtain ⟨S, hS⟩ : ∃ S : World → Prop, S = fun W => (W.cell? ⟨w.heap.size, 0, none⟩ = some (.int .i64 20) ∧ W.cell? ⟨w.heap.size, 1, none⟩ = some (.string ⟨s.toArray⟩) ∧ W.cell? ⟨w.heap.size, 2, none⟩ = some (.slice a l.length c) ∧ W.cell? ⟨w.heap.size, 3, none⟩ = some (.int .i64 p)) := ⟨_, rfl⟩
    have HKB := Lib.hid (show Keep S by rw [hS]; exact keep_and (keep_cell _ _) (keep_and (keep_cell _ _) (keep_and (keep_cell _ _) (keep_cell _ _))))
    have HP := Lib.hid (show Nk w n S [] wa from ⟨hba, hg.on hba, by rw [hS]; exact ⟨e0, e1, e2, e3⟩, fun q hq => by cases hq⟩)
    have HS := Lib.hid hS
    clear hg hk hf ht hkid hba hS
    go_enter Tryz.func16, Tryz.ntmps16
    go_wp2_with fail
    all_goals
      go_ret
      exact ⟨ret_bool (by rw [HV.out]; simp), HP.out.below⟩

end Go.Proofs.YtfcpblclfgkdjaaGreatDoor

namespace Go.Proofs.YtfcpblclfgkdjaaGreatDoor
set_option linter.unusedSimpArgs false
set_option linter.unusedVariables false
open Go.RowKit

theorem Kids.ncons {w : World} {B : Nat} {a : Option Addr} {x1 : Nd} {r : List Nd} (h : Kids w B a (x1 :: r)) : ∃ b off a1 c1, a = some ⟨b, off, none⟩ ∧ (Four w b off x1 a1 c1 ∧ Fits x1 c1 ∧ Kids w B a1 x1.kids) := by
  obtain ⟨b, off, a1, c1, e, -, h1, h2, h3⟩ := h.get (j := 0) (by simp)
  exact ⟨b, off, a1, c1, e, by simpa using h1, by simpa using h2, by simpa using h3⟩
set_option maxRecDepth 100000 in
set_option maxHeartbeats 8000000 in
theorem rexpr_call (ex : Nd → Bool) (n : Nat) (h_ex : Ok 16 ex n) (s : List UInt8) (l : List Nd) (p : Int) (a : Option Addr) (c : Nat) (w : World) (ht : (Nd.mk 21 s l p).height ≤ n + 1) (hg : Glob w) (hk : Kids w w.heap.size a l) (hf : Fits (.mk 21 s l p) c) :
    Calls Tryz.prog 16 #[.agg #[.int .i64 21, .string ⟨s.toArray⟩, .slice a l.length c, .int .i64 p]] w fun e w' => e = .returned (.bool (s.isEmpty && (!l.isEmpty && l.all ex))) ∧ Below w.heap.size w w' := by
  have hkid : ∀ x, x ∈ l → x.height ≤ n := fun x hx => by have := Nd.height_kid (t := .mk 21 s l p) hx; omega
  have hs : s.length ≤ 140737488351232 := hf.2.2.2.2.1
  have hcap : l.length ≤ c := hf.2.2.2.2.2.1
  have hl2 : l.length ≤ 9223372036854775807 := by have := hf.2.2.2.2.2.2.1; omega
  have H_ex := Lib.hid h_ex
  have H_exs := Lib.hid (exs_ok ex n h_ex)
  clear h_ex
  cases l with
  | nil =>
    obtain ⟨wa, hwa, hba, e0, e1, e2, e3⟩ := laid4 w (.int .i64 21) (.string ⟨s.toArray⟩) (.slice a 0 c) (.int .i64 p) 25
    obtain ⟨S, hS⟩ : ∃ S : World → Prop, S = fun W => (W.cell? ⟨w.heap.size, 0, none⟩ = some (.int .i64 21) ∧ W.cell? ⟨w.heap.size, 1, none⟩ = some (.string ⟨s.toArray⟩) ∧ W.cell? ⟨w.heap.size, 2, none⟩ = some (.slice a 0 c) ∧ W.cell? ⟨w.heap.size, 3, none⟩ = some (.int .i64 p)) := ⟨_, rfl⟩
    have HKB := Lib.hid (show Keep S by rw [hS]; exact keep_and (keep_cell _ _) (keep_and (keep_cell _ _) (keep_and (keep_cell _ _) (keep_cell _ _))))
    have HP := Lib.hid (show Nk w n S [] wa from ⟨hba, hg.on hba, by rw [hS]; exact ⟨e0, e1, e2, e3⟩, fun q hq => by cases hq⟩)
    have HS := Lib.hid hS
    clear hg hk hf ht hkid hba hS
    go_enter Tryz.func16, Tryz.ntmps16
    go_wp2_with fail
    all_goals first
      | (have hs0 : s = [] := by assumption
         go_ret
         exact ⟨ret_bool (by rw [hs0]; simp), HP.out.below⟩)
      | (have hs0 : ¬ s = [] := by assumption
         go_ret
         exact ⟨ret_bool (by simp [hs0]), HP.out.below⟩)
  | cons x r =>
    have HKW := Lib.hid hk
    have HHW := Lib.hid hkid
    have HLW := Lib.hid hl2
    obtain ⟨R, hR⟩ : ∃ R, (x :: r).all ex = R := ⟨_, rfl⟩
    have hE : (s.isEmpty && (!(x :: r).isEmpty && (x :: r).all ex)) = (s.isEmpty && R) := by rw [hR]; simp
    rw [hE]
    have HR := Lib.hid hR
    clear hE hR
    obtain ⟨wa, hwa, hba, e0, e1, e2, e3⟩ := laid4 w (.int .i64 21) (.string ⟨s.toArray⟩) (.slice a (r.length + 1) c) (.int .i64 p) 25
    obtain ⟨S, hS⟩ : ∃ S : World → Prop, S = fun W => (W.cell? ⟨w.heap.size, 0, none⟩ = some (.int .i64 21) ∧ W.cell? ⟨w.heap.size, 1, none⟩ = some (.string ⟨s.toArray⟩) ∧ W.cell? ⟨w.heap.size, 2, none⟩ = some (.slice a (r.length + 1) c) ∧ W.cell? ⟨w.heap.size, 3, none⟩ = some (.int .i64 p)) := ⟨_, rfl⟩
    have HKB := Lib.hid (show Keep S by rw [hS]; exact keep_and (keep_cell _ _) (keep_and (keep_cell _ _) (keep_and (keep_cell _ _) (keep_cell _ _))))
    have HP := Lib.hid (show Nk w n S [] wa from ⟨hba, hg.on hba, by rw [hS]; exact ⟨e0, e1, e2, e3⟩, fun q hq => by cases hq⟩)
    have HS := Lib.hid hS
    clear hg hk hf ht hkid hba hS hcap hl2
    have hpos : (0 : Int) < (r.length : Int) + 1 := by omega
    cases hse : s.isEmpty
    all_goals
      go_enter Tryz.func16, Tryz.ntmps16
      go_wp2_with (first
        | (go_at_call 34
           have hx := nk_exs HP.out HKB.out H_exs.out (x :: r) a c HKW.out HHW.out HLW.out
           rw [HR.out] at hx
           refine hx.mono ?_
           rintro e w1 ⟨rfl, h1, HP⟩
           rw [HS.out] at h1
           obtain ⟨e0, e1, e2, e3⟩ := h1))
      all_goals
        go_ret
        exact ⟨ret_bool (by first | rfl | (cases R <;> rfl)), HP.out.below⟩

set_option maxRecDepth 100000 in
set_option maxHeartbeats 8000000 in
theorem rexpr_lit (ty : Nd → Bool) (ex : Nd → Bool) (n : Nat) (hty : ∀ x, ty x = true → x.kind = 10 ∨ x.kind = 11 ∨ x.kind = 12) (h_ty : Ok 15 ty n) (h_ex : Ok 16 ex n) (s : List UInt8) (l : List Nd) (p : Int) (a : Option Addr) (c : Nat) (w : World) (ht : (Nd.mk 24 s l p).height ≤ n + 1) (hg : Glob w) (hk : Kids w w.heap.size a l) (hf : Fits (.mk 24 s l p) c) :
    Calls Tryz.prog 16 #[.agg #[.int .i64 24, .string ⟨s.toArray⟩, .slice a l.length c, .int .i64 p]] w fun e w' => e = .returned (.bool (s.isEmpty && litKids ty ex l)) ∧ Below w.heap.size w w' := by
  have hkid : ∀ x, x ∈ l → x.height ≤ n := fun x hx => by have := Nd.height_kid (t := .mk 24 s l p) hx; omega
  have hs : s.length ≤ 140737488351232 := hf.2.2.2.2.1
  have hcap : l.length ≤ c := hf.2.2.2.2.2.1
  have hl2 : l.length ≤ 9223372036854775807 := by have := hf.2.2.2.2.2.2.1; omega
  have H_ty := Lib.hid h_ty
  have H_ex := Lib.hid h_ex
  have H_exs := Lib.hid (exs_ok ex n h_ex)
  have HTY := Lib.hid hty
  clear h_ex h_ty hty
  cases l with
  | nil =>
    obtain ⟨wa, hwa, hba, e0, e1, e2, e3⟩ := laid4 w (.int .i64 24) (.string ⟨s.toArray⟩) (.slice a 0 c) (.int .i64 p) 25
    obtain ⟨S, hS⟩ : ∃ S : World → Prop, S = fun W => (W.cell? ⟨w.heap.size, 0, none⟩ = some (.int .i64 24) ∧ W.cell? ⟨w.heap.size, 1, none⟩ = some (.string ⟨s.toArray⟩) ∧ W.cell? ⟨w.heap.size, 2, none⟩ = some (.slice a 0 c) ∧ W.cell? ⟨w.heap.size, 3, none⟩ = some (.int .i64 p)) := ⟨_, rfl⟩
    have HKB := Lib.hid (show Keep S by rw [hS]; exact keep_and (keep_cell _ _) (keep_and (keep_cell _ _) (keep_and (keep_cell _ _) (keep_cell _ _))))
    have HP := Lib.hid (show Nk w n S [] wa from ⟨hba, hg.on hba, by rw [hS]; exact ⟨e0, e1, e2, e3⟩, fun q hq => by cases hq⟩)
    have HS := Lib.hid hS
    clear hg hk hf ht hkid hba hS
    go_enter Tryz.func16, Tryz.ntmps16
    go_wp2_with fail
    all_goals
      go_ret
      exact ⟨ret_bool (by first | (simp_all [litKids]; done) | (simp_all [litKids]; omega)), HP.out.below⟩
  | cons x1 r =>
    have HKW := Lib.hid hk
    have HHR := Lib.hid (fun y (hy : y ∈ r) => hkid y (List.mem_cons_of_mem _ hy))
    obtain ⟨L, hL⟩ : ∃ L, (x1 :: r).length = L := ⟨_, rfl⟩
    have hrL : r.length = L - 1 := by rw [← hL]; simp
    have h3 : 0 < L := by rw [← hL]; simp
    have hLc : L ≤ c := by rw [← hL]; exact hcap
    have hc63 : c ≤ 9223372036854775807 := hf.2.2.2.2.2.2.1
    rw [hL]
    obtain ⟨b, off, a1, c1, rfl, ⟨q1, f1, k1⟩⟩ := hk.ncons
    have h1 := hkid x1 (by simp)
    obtain ⟨wa, hwa, hba, e0, e1, e2, e3⟩ := laid4 w (.int .i64 24) (.string ⟨s.toArray⟩) (.slice (some ⟨b, off, none⟩) L c) (.int .i64 p) 25
    have q1 := Four.on q1 hba
    obtain ⟨S, hS⟩ : ∃ S : World → Prop, S = fun W => (W.cell? ⟨w.heap.size, 0, none⟩ = some (.int .i64 24) ∧ W.cell? ⟨w.heap.size, 1, none⟩ = some (.string ⟨s.toArray⟩) ∧ W.cell? ⟨w.heap.size, 2, none⟩ = some (.slice (some ⟨b, off, none⟩) L c) ∧ W.cell? ⟨w.heap.size, 3, none⟩ = some (.int .i64 p)) ∧ Four W b off x1 a1 c1 := ⟨_, rfl⟩
    have HKB := Lib.hid (show Keep S by rw [hS]; exact keep_and (keep_and (keep_cell _ _) (keep_and (keep_cell _ _) (keep_and (keep_cell _ _) (keep_cell _ _)))) (keep_four _ _ _ _ _))
    have HP := Lib.hid (show Nk w n S [(x1, a1, c1)] wa from ⟨hba, hg.on hba, by rw [hS]; exact ⟨⟨e0, e1, e2, e3⟩, q1⟩, fun q hq => by
      simp only [List.mem_cons, List.not_mem_nil, or_false] at hq
      rcases hq with rfl
      · exact ⟨h1, k1.on hba, f1⟩⟩)
    obtain ⟨q10, q11, q12, q13⟩ := q1
    have HS := Lib.hid hS
    have HTL := Lib.hid (Kids.tail HKW.out)
    have HRL := Lib.hid hrL
    obtain ⟨R, hR⟩ : ∃ R, r.all ex = R := ⟨_, rfl⟩
    obtain ⟨T, hT⟩ : ∃ T, ty x1 = T := ⟨_, rfl⟩
    have HT := Lib.hid hT
    have hTk := HTY.out x1
    have hE : (s.isEmpty && litKids ty ex (x1 :: r)) = (s.isEmpty && (!(x1.kind == 12) && (T && R))) := by rw [litKids, hR, hT]
    rw [hE]
    rw [hT] at hTk
    have hrow : ∀ W, Nk w n S [(x1, a1, c1)] W → ∀ a' c', (r = [] ∨ a' = some ⟨b, off + 4, none⟩) → Calls Tryz.prog 34 #[.slice a' (L - 1) c'] W (NkPost w n S [(x1, a1, c1)] (.bool R)) := by
      intro W hW a' c' ha'
      rw [← hR, ← hrL]
      refine nk_exs hW HKB.out H_exs.out r a' c' ?_ HHR.out (by omega)
      rcases ha' with e | e
      · subst e; exact Kids.nil _ _ _
      · subst e; exact HTL.out
    have HROW := Lib.hid hrow
    have hnil : c = 1 → r = [] := fun e => List.eq_nil_of_length_eq_zero (by omega)
    clear hrow hE hR hT hL hcap hl2 HTY HKW HHR HTL HRL
    clear hg hk hf ht hkid hba hS f1 k1 h1 hrL
    have HNIL := Lib.hid hnil
    have HTK := Lib.hid hTk
    clear hnil hTk
    by_cases hc1 : c = 1
    · have hr := HNIL.out hc1
      obtain rfl : L = 1 := by omega
      subst hc1
      go_enter Tryz.func16, Tryz.ntmps16
      cases hse : s.isEmpty with
      | false =>
        go_wp2_with fail
        go_ret
        exact ⟨ret_bool (by rfl), HP.out.below⟩
      | true =>
      cases k10 : (x1.kind == 10) with
      | true =>
        have k11 : (x1.kind == 11) = false := by rw [eq_of_beq k10]; rfl
        go_wp2_with fail
        have hx := nk_ok HP.out HKB.out H_ty.out x1 a1 c1 (by simp)
        rw [HT.out] at hx
        refine hx.mono ?_
        clear hx
        rintro e w1 ⟨rfl, h1, HP⟩
        rw [HS.out] at h1
        obtain ⟨⟨e0, e1, e2, e3⟩, ⟨q10, q11, q12, q13⟩⟩ := h1
        cases T with
        | false =>
          go_wp2_with fail
          go_ret
          exact ⟨ret_bool (by simp), HP.out.below⟩
        | true =>
          have e12 := HTK.out rfl
          have n12 : (x1.kind == 12) = false := by
            rcases e12 with e | e | e
            · simp [e]
            · simp [e]
            · first | (simp [e] at k10; done) | (simp [e] at k11; done)
          clear e12
          go_wp2_with fail
          refine (HROW.out _ HP.out _ _ (by first | exact .inl hr | exact .inr rfl)).mono ?_
          rintro e w2 ⟨rfl, h1, HP⟩
          go_wp2_with fail
          go_ret
          exact ⟨ret_bool (by rw [n12]; cases R <;> rfl), HP.out.below⟩
      | false =>
      cases k11 : (x1.kind == 11) with
      | true =>
        go_wp2_with fail
        have hx := nk_ok HP.out HKB.out H_ty.out x1 a1 c1 (by simp)
        rw [HT.out] at hx
        refine hx.mono ?_
        clear hx
        rintro e w1 ⟨rfl, h1, HP⟩
        rw [HS.out] at h1
        obtain ⟨⟨e0, e1, e2, e3⟩, ⟨q10, q11, q12, q13⟩⟩ := h1
        cases T with
        | false =>
          go_wp2_with fail
          go_ret
          exact ⟨ret_bool (by simp), HP.out.below⟩
        | true =>
          have e12 := HTK.out rfl
          have n12 : (x1.kind == 12) = false := by
            rcases e12 with e | e | e
            · simp [e]
            · simp [e]
            · first | (simp [e] at k10; done) | (simp [e] at k11; done)
          clear e12
          go_wp2_with fail
          refine (HROW.out _ HP.out _ _ (by first | exact .inl hr | exact .inr rfl)).mono ?_
          rintro e w2 ⟨rfl, h1, HP⟩
          go_wp2_with fail
          go_ret
          exact ⟨ret_bool (by rw [n12]; cases R <;> rfl), HP.out.below⟩
      | false =>
        have hno : (!(x1.kind == 12) && (T && R)) = false := by
          cases T with
          | false => simp
          | true =>
            rcases HTK.out rfl with e | e | e
            · rw [e] at k10; cases k10
            · rw [e] at k11; cases k11
            · rw [e]; rfl
        have HNO := Lib.hid hno
        clear hno
        go_wp2_with fail
        go_ret
        exact ⟨ret_bool (by simp [HNO.out]), HP.out.below⟩
    · have hr : True := trivial
      go_enter Tryz.func16, Tryz.ntmps16
      cases hse : s.isEmpty with
      | false =>
        go_wp2_with fail
        go_ret
        exact ⟨ret_bool (by rfl), HP.out.below⟩
      | true =>
      cases k10 : (x1.kind == 10) with
      | true =>
        have k11 : (x1.kind == 11) = false := by rw [eq_of_beq k10]; rfl
        go_wp2_with fail
        have hx := nk_ok HP.out HKB.out H_ty.out x1 a1 c1 (by simp)
        rw [HT.out] at hx
        refine hx.mono ?_
        clear hx
        rintro e w1 ⟨rfl, h1, HP⟩
        rw [HS.out] at h1
        obtain ⟨⟨e0, e1, e2, e3⟩, ⟨q10, q11, q12, q13⟩⟩ := h1
        cases T with
        | false =>
          go_wp2_with fail
          go_ret
          exact ⟨ret_bool (by simp), HP.out.below⟩
        | true =>
          have e12 := HTK.out rfl
          have n12 : (x1.kind == 12) = false := by
            rcases e12 with e | e | e
            · simp [e]
            · simp [e]
            · first | (simp [e] at k10; done) | (simp [e] at k11; done)
          clear e12
          go_wp2_with fail
          refine (HROW.out _ HP.out _ _ (by first | exact .inl hr | exact .inr rfl)).mono ?_
          rintro e w2 ⟨rfl, h1, HP⟩
          go_wp2_with fail
          go_ret
          exact ⟨ret_bool (by rw [n12]; cases R <;> rfl), HP.out.below⟩
      | false =>
      cases k11 : (x1.kind == 11) with
      | true =>
        go_wp2_with fail
        have hx := nk_ok HP.out HKB.out H_ty.out x1 a1 c1 (by simp)
        rw [HT.out] at hx
        refine hx.mono ?_
        clear hx
        rintro e w1 ⟨rfl, h1, HP⟩
        rw [HS.out] at h1
        obtain ⟨⟨e0, e1, e2, e3⟩, ⟨q10, q11, q12, q13⟩⟩ := h1
        cases T with
        | false =>
          go_wp2_with fail
          go_ret
          exact ⟨ret_bool (by simp), HP.out.below⟩
        | true =>
          have e12 := HTK.out rfl
          have n12 : (x1.kind == 12) = false := by
            rcases e12 with e | e | e
            · simp [e]
            · simp [e]
            · first | (simp [e] at k10; done) | (simp [e] at k11; done)
          clear e12
          go_wp2_with fail
          refine (HROW.out _ HP.out _ _ (by first | exact .inl hr | exact .inr rfl)).mono ?_
          rintro e w2 ⟨rfl, h1, HP⟩
          go_wp2_with fail
          go_ret
          exact ⟨ret_bool (by rw [n12]; cases R <;> rfl), HP.out.below⟩
      | false =>
        have hno : (!(x1.kind == 12) && (T && R)) = false := by
          cases T with
          | false => simp
          | true =>
            rcases HTK.out rfl with e | e | e
            · rw [e] at k10; cases k10
            · rw [e] at k11; cases k11
            · rw [e]; rfl
        have HNO := Lib.hid hno
        clear hno
        go_wp2_with fail
        go_ret
        exact ⟨ret_bool (by simp [HNO.out]), HP.out.below⟩
end Go.Proofs.YtfcpblclfgkdjaaGreatDoor

namespace Go.Proofs.YtfcpblclfgkdjaaGreatDoor
set_option linter.unusedSimpArgs false
set_option linter.unusedVariables false
open Go.RowKit

theorem alls_next1 {α : Type} {f : α → Bool} {l : List α} {j : Nat} (hj : j < l.length) (h1 : 1 ≤ j) (h0 : ((l.take j).drop 1).all f = true) (h : f l[j] = true) : ((l.take (j + 1)).drop 1).all f = true := by
  rw [List.take_succ_eq_append_getElem hj, List.drop_append_of_le_length (by simp; omega), List.all_append, h0]; simp [h]
theorem alls_no1 {α : Type} {f : α → Bool} {l : List α} {j : Nat} (hj : j < l.length) (h1 : 1 ≤ j) (h : f l[j] = false) : (l.drop 1).all f = false := by
  have hlt : j - 1 < (l.drop 1).length := by simp; omega
  refine alls_no hlt ?_
  rw [List.getElem_drop]
  simp only [show 1 + (j - 1) = j by omega]
  exact h
theorem index_two (ex ty : Nd → Bool) (l : List Nd) (x : Nd) (r : List Nd) (hl : l = x :: r) (h2 : 2 ≤ l.length) : indexKids ex ty l = (ex x && (l.drop 1).all (partB ex ty)) := by
  subst hl
  cases r with
  | nil => simp at h2
  | cons y r => rfl

set_option maxRecDepth 100000 in
set_option maxHeartbeats 8000000 in
theorem rexpr_index (ty : Nd → Bool) (ex : Nd → Bool) (n : Nat) (h_ty : Ok 15 ty n) (h_ex : Ok 16 ex n) (s : List UInt8) (l : List Nd) (p : Int) (a : Option Addr) (c : Nat) (w : World) (ht : (Nd.mk 22 s l p).height ≤ n + 1) (hg : Glob w) (hk : Kids w w.heap.size a l) (hf : Fits (.mk 22 s l p) c) :
    Calls Tryz.prog 16 #[.agg #[.int .i64 22, .string ⟨s.toArray⟩, .slice a l.length c, .int .i64 p]] w fun e w' => e = .returned (.bool (s.isEmpty && indexKids ex ty l)) ∧ Below w.heap.size w w' := by
  have hkid : ∀ x, x ∈ l → x.height ≤ n := fun x hx => by have := Nd.height_kid (t := .mk 22 s l p) hx; omega
  have hl2 : l.length ≤ 9223372036854775807 := by have := hf.2.2.2.2.2.1; have := hf.2.2.2.2.2.2.1; simp only [Nd.kids_mk] at *; omega
  have HEX := Lib.hid h_ex
  have HTY := Lib.hid h_ty
  clear h_ex h_ty
  obtain ⟨wa, hwa, hba, e0, e1, e2, e3⟩ := laid4 w (.int .i64 22) (.string ⟨s.toArray⟩) (.slice a l.length c) (.int .i64 p) 25
  obtain ⟨S, hS⟩ : ∃ S : World → Prop, S = fun W => (W.cell? ⟨w.heap.size, 0, none⟩ = some (.int .i64 22) ∧ W.cell? ⟨w.heap.size, 1, none⟩ = some (.string ⟨s.toArray⟩) ∧ W.cell? ⟨w.heap.size, 2, none⟩ = some (.slice a l.length c) ∧ W.cell? ⟨w.heap.size, 3, none⟩ = some (.int .i64 p)) := ⟨_, rfl⟩
  have HKB := Lib.hid (show Keep S by rw [hS]; exact keep_and (keep_cell _ _) (keep_and (keep_cell _ _) (keep_and (keep_cell _ _) (keep_cell _ _))))
  have HP := Lib.hid (show Nk w n S [] wa from ⟨hba, hg.on hba, by rw [hS]; exact ⟨e0, e1, e2, e3⟩, fun q hq => by cases hq⟩)
  have HKW := Lib.hid (fun W (hW : Below w.heap.size w W) => hk.on hW)
  have HHT := Lib.hid hkid
  clear hS hg hf ht hba hk hkid
  cases hse : s.isEmpty with
  | false =>
    go_enter Tryz.func16, Tryz.ntmps16
    go_wp2_with fail
    go_ret
    exact ⟨rfl, HP.out.below⟩
  | true =>
  by_cases hlen : 2 ≤ l.length
  · obtain ⟨x, r, hxr⟩ : ∃ x r, l = x :: r := by
      cases l with
      | nil => simp at hlen
      | cons x r => exact ⟨x, r, rfl⟩
    have hE := index_two ex ty l x r hxr hlen
    obtain ⟨PB, hPB⟩ : ∃ PB, PB = partB ex ty := ⟨_, rfl⟩
    rw [← hPB] at hE
    obtain ⟨R, hR⟩ : ∃ R, ex x = R := ⟨_, rfl⟩
    rw [hR] at hE
    rw [hE]
    have HPB := Lib.hid hPB
    have h00 : 0 < l.length := by omega
    obtain ⟨b, off, a1, c1, rfl, -, ⟨q0, q1, q2, q3⟩, fq, kq⟩ := (HKW.out _ HP.out.below).get h00
    have hx0 : l[0] = x := by simp [hxr]
    rw [hx0] at q0 q1 q2 q3 fq kq
    simp only [Nat.zero_mul, Nat.add_zero] at q0 q1 q2 q3
    have hc0 := nk_post HP.out HKB.out (HEX.out x a1 c1 wa (HHT.out x (by rw [hxr]; simp)) HP.out.glob kq fq)
    rw [hR] at hc0
    have HC0 := Lib.hid hc0
    have hn2 : ¬ (l.length : Int) < 2 := by omega
    clear hc0 fq kq hx0 hE hPB hR hxr hlen
    obtain ⟨L, hL⟩ : ∃ L, l.length = L := ⟨_, rfl⟩
    have HL := Lib.hid hL
    rw [hL] at hn2 h00 hl2 e2 ⊢
    rw [hL] at hwa
    go_enter Tryz.func16, Tryz.ntmps16
    go_wp2_with fail
    refine HC0.out.mono ?_
    rintro e w1 ⟨rfl, h1, HP1⟩
    cases R with
    | false =>
      go_wp2_with fail
      go_ret
      exact ⟨ret_bool (by rfl), HP1.out.below⟩
    | true =>
      clear hL
      go_wp2_with fail
      go_loopw [4] (fun i wr => ∃ j : Nat, 1 ≤ j ∧ j ≤ L ∧ i = .int .i64 j ∧ Hid (((l.take j).drop 1).all PB = true) ∧ Hid (Nk w n S [] wr)) (fun i _ => L - (intOf i).toNat)
      case atStart => exact ⟨1, by omega, by omega, rfl, Lib.hid (by cases l <;> simp), HP1⟩
      case round =>
        obtain ⟨j, hj1, hj2, rfl, HALL, HP⟩ := hrel
        by_cases hlt : j < L
        · have hlt' : j < l.length := by rw [HL.out]; exact hlt
          obtain ⟨b', off', a', c', ha, -, hq4, hfq, hkq⟩ := (HKW.out _ HP.out.below).get hlt'
          injection ha with ha
          injection ha with ha1 ha2
          subst ha1 ha2
          have HNX := Lib.hid (fun e => alls_next1 (f := PB) hlt' hj1 HALL.out e)
          have HNO := Lib.hid (fun e => alls_no1 (f := PB) hlt' hj1 e)
          have hqh := HHT.out _ (List.getElem_mem hlt')
          obtain ⟨q, hq⟩ : ∃ q, l[j] = q := ⟨_, rfl⟩
          rw [hq] at hq4 hfq hkq hqh HNX HNO
          clear hq
          obtain ⟨S2, hS2⟩ : ∃ S2 : World → Prop, S2 = fun W => S W ∧ Four W b (off + j * 4) q a' c' := ⟨_, rfl⟩
          have HKB2 := Lib.hid (show Keep S2 by rw [hS2]; exact keep_and HKB.out (keep_four _ _ _ _ _))
          have HP2 := Lib.hid (show Nk w n S2 [(q, a', c')] wr from HP.out.more (by rw [hS2]; exact ⟨HP.out.cells, hq4⟩) (fun r hr => by
            rw [List.mem_singleton] at hr
            subst hr
            exact .inr ⟨hqh, hkq, hfq⟩))
          have HS2 := Lib.hid hS2
          obtain ⟨d0, d1, d2, d3⟩ := hq4
          obtain ⟨E, hE⟩ : ∃ E, ex q = E := ⟨_, rfl⟩
          obtain ⟨T, hT⟩ : ∃ T, ty q = T := ⟨_, rfl⟩
          have HPQ := Lib.hid (show PB q = (E || (!(q.kind == 10) && T)) by rw [HPB.out, partB, hE, hT])
          have HE := Lib.hid hE
          have HT := Lib.hid hT
          clear hfq hkq hqh hS2 hE hT
          go_wp2_with fail
          have hx := nk_ok HP2.out HKB2.out HEX.out q a' c' (by simp)
          rw [HE.out] at hx
          refine hx.mono ?_
          clear hx
          rintro e w2 ⟨rfl, h1, HP3⟩
          rw [HS2.out] at h1
          obtain ⟨-, d0, d1, d2, d3⟩ := h1
          cases E with
          | true =>
            have HN := Lib.hid (HNX.out (by rw [HPQ.out]; rfl))
            go_wp2_with fail
            go_roundw
            case rel => exact ⟨j + 1, by omega, by omega, by go_num, HN, Lib.hid (HP3.out.less (fun h => by rw [HS2.out] at h; exact h.1) (by simp))⟩
            case measure => simp [intOf]; omega
          | false =>
            cases k10 : (q.kind == 10) with
            | true =>
              have HV := Lib.hid (HNO.out (by rw [HPQ.out, k10]; rfl))
              go_wp2_with fail
              go_ret
              exact ⟨ret_bool (by rw [HV.out]; rfl), HP3.out.below⟩
            | false =>
              go_wp2_with fail
              have hx := nk_ok HP3.out HKB2.out HTY.out q a' c' (by simp)
              rw [HT.out] at hx
              refine hx.mono ?_
              clear hx
              rintro e w3 ⟨rfl, h1, HP4⟩
              rw [HS2.out] at h1
              obtain ⟨-, d0, d1, d2, d3⟩ := h1
              cases T with
              | true =>
                have HN := Lib.hid (HNX.out (by rw [HPQ.out, k10]; rfl))
                go_wp2_with fail
                go_roundw
                case rel => exact ⟨j + 1, by omega, by omega, by go_num, HN, Lib.hid (HP4.out.less (fun h => by rw [HS2.out] at h; exact h.1) (by simp))⟩
                case measure => simp [intOf]; omega
              | false =>
                have HV := Lib.hid (HNO.out (by rw [HPQ.out, k10]; rfl))
                go_wp2_with fail
                go_ret
                exact ⟨ret_bool (by rw [HV.out]; rfl), HP4.out.below⟩
        · obtain rfl : j = L := by omega
          have HV := Lib.hid (show (l.drop 1).all PB = true by
            have := HALL.out
            rwa [List.take_of_length_le (by rw [HL.out]; exact Nat.le_refl _)] at this)
          go_wp2_with fail
          go_ret
          exact ⟨ret_bool (by rw [HV.out]; rfl), HP.out.below⟩
  · have hV : indexKids ex ty l = false := by
      match l, hlen with
      | [], _ => rfl
      | [_], _ => rfl
      | _ :: _ :: r, h => simp at h
    have HV := Lib.hid hV
    have hn2 : (l.length : Int) < 2 := by omega
    clear hV hlen
    go_enter Tryz.func16, Tryz.ntmps16
    go_wp2_with fail
    go_ret
    exact ⟨ret_bool (by rw [HV.out]; rfl), HP.out.below⟩

set_option maxRecDepth 100000 in
set_option maxHeartbeats 8000000 in
theorem rexpr_none (k : Int) (s : List UInt8) (l : List Nd) (p : Int) (a : Option Addr) (c : Nat) (w : World) (hn : k ≠ 16 ∧ k ≠ 17 ∧ k ≠ 18 ∧ k ≠ 19 ∧ k ≠ 20 ∧ k ≠ 21 ∧ k ≠ 22 ∧ k ≠ 23 ∧ k ≠ 24 ∧ k ≠ 25) :
    Calls Tryz.prog 16 #[.agg #[.int .i64 k, .string ⟨s.toArray⟩, .slice a l.length c, .int .i64 p]] w fun e w' => e = .returned (.bool false) ∧ Below w.heap.size w w' := by
  obtain ⟨m1, m2, m3, m4, m5, m6, m7, m8, m9, m0⟩ := hn
  have n1 : (k == 16) = false := by simpa using m1
  have n2 : (k == 17) = false := by simpa using m2
  have n3 : (k == 18) = false := by simpa using m3
  have n4 : (k == 19) = false := by simpa using m4
  have n5 : (k == 20) = false := by simpa using m5
  have n6 : (k == 21) = false := by simpa using m6
  have n7 : (k == 22) = false := by simpa using m7
  have n8 : (k == 23) = false := by simpa using m8
  have n9 : (k == 24) = false := by simpa using m9
  have n0 : (k == 25) = false := by simpa using m0
  clear m1 m2 m3 m4 m5 m6 m7 m8 m9 m0
  go_enter Tryz.func16, Tryz.ntmps16
  go_wp2_with fail
  go_ret
  exact ⟨rfl, below_alloc _ _⟩

theorem rexpr_ok (ex ty sg bl : Nd → Bool) (n : Nat) (hty : ∀ x, ty x = true → x.kind = 10 ∨ x.kind = 11 ∨ x.kind = 12) (h_ex : Ok 16 ex n) (h_ty : Ok 15 ty n)
    (h_sg : SgOk true sg n) (h_bl : Ok 30 bl n) : Ok 16 (exprB ex ty sg bl) (n + 1) := by
  rintro ⟨k, s, l, p⟩ a c w ht hg hk hf
  simp only [Nd.kind_mk, Nd.text_mk, Nd.kids_mk, Nd.pos_mk] at *
  by_cases k16 : k = 16
  · subst k16; exact rexpr_int n s l p a c w ht hg hk hf
  by_cases k17 : k = 17
  · subst k17; exact rexpr_str n s l p a c w ht hg hk hf
  by_cases k18 : k = 18
  · subst k18; exact rexpr_name n s l p a c w ht hg hk hf
  by_cases k19 : k = 19
  · subst k19; exact rexpr_unary ex n h_ex s l p a c w ht hg hk hf
  by_cases k20 : k = 20
  · subst k20; exact rexpr_binary ex n h_ex s l p a c w ht hg hk hf
  by_cases k21 : k = 21
  · subst k21; exact rexpr_call ex n h_ex s l p a c w ht hg hk hf
  by_cases k22 : k = 22
  · subst k22; exact rexpr_index ty ex n h_ty h_ex s l p a c w ht hg hk hf
  by_cases k23 : k = 23
  · subst k23; exact rexpr_field ex n h_ex s l p a c w ht hg hk hf
  by_cases k24 : k = 24
  · subst k24; exact rexpr_lit ty ex n hty h_ty h_ex s l p a c w ht hg hk hf
  by_cases k25 : k = 25
  · subst k25
    refine (rexpr_func sg bl n h_sg h_bl s l p a c w ht hg hk hf).mono ?_
    rintro e w' ⟨rfl, hb⟩
    exact ⟨ret_bool (by simp [exprB, ofB]), hb⟩
  · refine (rexpr_none k s l p a c w ⟨k16, k17, k18, k19, k20, k21, k22, k23, k24, k25⟩).mono ?_
    rintro e w' ⟨rfl, hb⟩
    refine ⟨ret_bool ?_, hb⟩
    have : (k == 25) = false := by simpa using k25
    simp [exprB, ofB, k16, k17, k18, k19, k20, k21, k22, k23, k24, this]
end Go.Proofs.YtfcpblclfgkdjaaGreatDoor

