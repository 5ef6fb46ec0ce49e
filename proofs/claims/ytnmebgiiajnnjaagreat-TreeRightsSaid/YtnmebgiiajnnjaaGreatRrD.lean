/-
  rows of expressions, blocks: the document's exprs, block; walked.
  the document's Expr: what its kinds ask. Joins the plain text of signs.
-/
import Derived.Test.YtnmebgiiajnnjaaGreatRrB
import Derived.Test.YtnmebgiiajnnjaaGreatRrA
namespace Go.Proofs.YtnmebgiiajnnjaaGreat
set_option linter.unusedSimpArgs false
set_option linter.unusedVariables false
open Go.RowKit

theorem Kids.n1 {w : World} {B : Nat} {a : Option Addr} {x1 : Nd} (h : Kids w B a [x1]) : ∃ b off a1 c1, a = some ⟨b, off, none⟩ ∧ (Four w b off x1 a1 c1 ∧ Fits x1 c1 ∧ Kids w B a1 x1.kids) := by
  obtain ⟨b, off, a1, c1, e, -, h1, h2, h3⟩ := h.get (j := 0) (by simp)
  exact ⟨b, off, a1, c1, e, by simpa using h1, by simpa using h2, by simpa using h3⟩
theorem Kids.atOf {w : World} {B b off : Nat} {l : List Nd} (h : Kids w B (some ⟨b, off, none⟩) l) (j : Nat) (hj : j < l.length) : ∃ a' c', Four w b (off + j * 4) l[j] a' c' ∧ Fits l[j] c' ∧ Kids w B a' l[j].kids := by
  obtain ⟨b', off', a1, c1, e, -, h1, h2, h3⟩ := h.get hj
  injection e with e
  injection e with e1 e2
  subst e1 e2
  exact ⟨a1, c1, h1, h2, h3⟩
theorem Kids.n2 {w : World} {B : Nat} {a : Option Addr} {x1 x2 : Nd} (h : Kids w B a [x1, x2]) : ∃ b off a1 c1 a2 c2, a = some ⟨b, off, none⟩ ∧ (Four w b off x1 a1 c1 ∧ Fits x1 c1 ∧ Kids w B a1 x1.kids) ∧ (Four w b (off + 4) x2 a2 c2 ∧ Fits x2 c2 ∧ Kids w B a2 x2.kids) := by
  obtain ⟨b, off, a1, c1, rfl, -, h1⟩ := h.get (j := 0) (by simp)
  obtain ⟨a2, c2, h2⟩ := h.atOf 1 (by simp)
  exact ⟨b, off, a1, c1, a2, c2, rfl, by simpa using h1, by simpa using h2⟩
theorem Kids.n3 {w : World} {B : Nat} {a : Option Addr} {x1 x2 x3 : Nd} (h : Kids w B a [x1, x2, x3]) : ∃ b off a1 c1 a2 c2 a3 c3, a = some ⟨b, off, none⟩ ∧ (Four w b off x1 a1 c1 ∧ Fits x1 c1 ∧ Kids w B a1 x1.kids) ∧ (Four w b (off + 4) x2 a2 c2 ∧ Fits x2 c2 ∧ Kids w B a2 x2.kids) ∧
    (Four w b (off + 8) x3 a3 c3 ∧ Fits x3 c3 ∧ Kids w B a3 x3.kids) := by
  obtain ⟨b, off, a1, c1, rfl, -, h1⟩ := h.get (j := 0) (by simp)
  obtain ⟨a2, c2, h2⟩ := h.atOf 1 (by simp)
  obtain ⟨a3, c3, h3⟩ := h.atOf 2 (by simp)
  exact ⟨b, off, a1, c1, a2, c2, a3, c3, rfl, by simpa using h1, by simpa using h2, by simpa using h3⟩
theorem Kids.n4 {w : World} {B : Nat} {a : Option Addr} {x1 x2 x3 x4 : Nd} (h : Kids w B a [x1, x2, x3, x4]) : ∃ b off a1 c1 a2 c2 a3 c3 a4 c4, a = some ⟨b, off, none⟩ ∧ (Four w b off x1 a1 c1 ∧ Fits x1 c1 ∧ Kids w B a1 x1.kids) ∧ (Four w b (off + 4) x2 a2 c2 ∧ Fits x2 c2 ∧ Kids w B a2 x2.kids) ∧
    (Four w b (off + 8) x3 a3 c3 ∧ Fits x3 c3 ∧ Kids w B a3 x3.kids) ∧ (Four w b (off + 12) x4 a4 c4 ∧ Fits x4 c4 ∧ Kids w B a4 x4.kids) := by
  obtain ⟨b, off, a1, c1, rfl, -, h1⟩ := h.get (j := 0) (by simp)
  obtain ⟨a2, c2, h2⟩ := h.atOf 1 (by simp)
  obtain ⟨a3, c3, h3⟩ := h.atOf 2 (by simp)
  obtain ⟨a4, c4, h4⟩ := h.atOf 3 (by simp)
  exact ⟨b, off, a1, c1, a2, c2, a3, c3, a4, c4, rfl, by simpa using h1, by simpa using h2, by simpa using h3, by simpa using h4⟩

/-- Sig, with names or without. -/
def SgOk (b : Bool) (f : Nd → Bool) (n : Nat) : Prop :=
  ∀ (t : Nd) (a : Option Addr) (c : Nat) (w : World), t.height ≤ n → Glob w → Kids w w.heap.size a t.kids → Fits t c →
    Calls Tryz.prog 22 #[.agg #[.int .i64 t.kind, .string ⟨t.text.toArray⟩, .slice a t.kids.length c, .int .i64 t.pos], .bool b] w fun e w' => e = .returned (.bool (f t)) ∧ Below w.heap.size w w'
theorem sg_ok (b : Bool) (ty : Nd → Bool) (n : Nat) (h : Ok 19 ty n) : SgOk b (sigB ty (soOf b)) (n + 1) := fun t a c w ht hg hk hf => rsig_any ty n h b t a c w ht hg hk hf
/-- exprs. -/
def ExsOk (ex : Nd → Bool) (n : Nat) : Prop := ∀ (l : List Nd) (a : Option Addr) (c : Nat) (w : World), (∀ t, t ∈ l → t.height ≤ n) → Glob w → Kids w w.heap.size a l → l.length ≤ 9223372036854775807 →
    Calls Tryz.prog 43 #[.slice a l.length c] w fun e w' => e = .returned (.bool (l.all ex)) ∧ Below w.heap.size w w'
section
variable {w0 : World} {n : Nat} {B : World → Prop} {K : List (Nd × Option Addr × Nat)} {W : World}
theorem nk_sg (h : Nk w0 n B K W) (hB : Keep B) {b : Bool} {f : Nd → Bool} (ho : SgOk b f n) (t : Nd) (a : Option Addr) (c : Nat) (hm : (t, a, c) ∈ K) : Calls Tryz.prog 22 #[.agg #[.int .i64 t.kind, .string ⟨t.text.toArray⟩, .slice a t.kids.length c, .int .i64 t.pos], .bool b] W (NkPost w0 n B K (.bool (f t))) :=
  nk_post h hB (ho t a c W (h.known _ hm).1 h.glob (h.known _ hm).2.1 (h.known _ hm).2.2)
theorem nk_exs (h : Nk w0 n B K W) (hB : Keep B) {ex : Nd → Bool} (ho : ExsOk ex n) (l : List Nd) (a : Option Addr) (c : Nat) (hk : Kids w0 w0.heap.size a l) (hh : ∀ t, t ∈ l → t.height ≤ n) (hl : l.length ≤ 9223372036854775807) :
    Calls Tryz.prog 43 #[.slice a l.length c] W (NkPost w0 n B K (.bool (l.all ex))) :=
  nk_post h hB (ho l a c W hh h.glob (hk.on h.below) hl)
end

set_option maxHeartbeats 2000000 in
theorem exs_ok (ex : Nd → Bool) (n : Nat) (h : Ok 20 ex n) : ExsOk ex n := by
  intro l a c w hh hg hk hl
  have H := Lib.hid h
  have HH := Lib.hid hh
  have HG := Lib.hid hg
  have HK := Lib.hid hk
  clear h hh hg hk
  go_enter Tryz.func43, Tryz.ntmps43
  go_wp2_with fail
  go_loopw [3] (fun i wr => ∃ j : Nat, j ≤ l.length ∧ i = .int .i64 j ∧ Hid ((l.take j).all ex = true) ∧ Hid (Below w.heap.size w wr)) (fun i _ => l.length - (intOf i).toNat)
  case atStart => exact ⟨0, by omega, rfl, Lib.hid rfl, Lib.hid (Below.refl _ _)⟩
  case round =>
    obtain ⟨j, hj1, rfl, HALL, HB⟩ := hrel
    by_cases hlt : j < l.length
    · obtain ⟨b, off, a', c', ha, -, ⟨d0, d1, d2, d3⟩, hf, hn⟩ := (HK.out.on HB.out).get hlt
      subst ha
      have HNX := Lib.hid (fun e => alls_next (f := ex) hlt HALL.out e)
      have HNO := Lib.hid (fun e => alls_no (f := ex) hlt e)
      have hc := H.out l[j] a' c' wr (HH.out _ (List.getElem_mem hlt)) (HG.out.on HB.out) hn hf
      obtain ⟨q, hq⟩ : ∃ q, l[j] = q := ⟨_, rfl⟩
      rw [hq] at d0 d1 d2 d3 hc HNX HNO
      obtain ⟨r, hr⟩ : ∃ r, ex q = r := ⟨_, rfl⟩
      rw [hr] at hc HNX HNO
      have HC := Lib.hid hc
      clear hq hc hf hn hr
      go_wp2_with fail
      refine HC.out.mono ?_
      rintro e w1 ⟨rfl, hb1⟩
      have HB1 := Lib.hid (bext HB.out hb1)
      clear hb1
      cases r with
      | true =>
        go_wp2_with fail
        go_roundw
        case rel => exact ⟨j + 1, by omega, by go_num, Lib.hid (HNX.out (by first | rfl | trivial)), HB1⟩
        case measure => simp [intOf]; omega
      | false =>
        have HV := Lib.hid (HNO.out (by first | rfl | trivial))
        go_wp2_with fail
        go_ret
        exact ⟨ret_bool HV.out.symm, HB1.out⟩
    · obtain rfl : j = l.length := by omega
      have HV := Lib.hid (alls_end HALL.out)
      go_wp2_with fail
      go_ret
      exact ⟨ret_bool HV.out.symm, HB.out⟩

set_option maxHeartbeats 4000000 in
theorem rblock_ok (st : Nd → Bool) (n : Nat) (h : Ok 21 st n) : Ok 39 (rowB 36 st) (n + 1) := by
  intro t a c w ht hg hk hf
  have H := Lib.hid h
  have HH := Lib.hid (fun x (hx : x ∈ t.kids) => show x.height ≤ n by have := Nd.height_kid hx; omega)
  have HG := Lib.hid hg
  have HK := Lib.hid hk
  have hl : t.kids.length ≤ 9223372036854775807 := by have := hf.2.2.2.2.2.1; have := hf.2.2.2.2.2.2; omega
  obtain ⟨wa, hwa, hba, e0, e1, e2, e3⟩ := laid4 w (.int .i64 t.kind) (.string ⟨t.text.toArray⟩) (.slice a t.kids.length c) (.int .i64 t.pos) 24
  have HBA := Lib.hid hba
  clear h hg hk hf ht hba
  by_cases h36 : t.kind = 36 ∧ t.text = []
  · have HV := Lib.hid (show rowB 36 st t = t.kids.all st by simp [rowB, h36.1, h36.2])
    have n0 : (t.kind != 36) = false := by simp [h36.1]
    have n1 : t.text.isEmpty = true := by simp [h36.2]
    clear h36
    go_enter Tryz.func39, Tryz.ntmps39
    go_wp2_with fail
    go_loopw [3] (fun i wr => ∃ j : Nat, j ≤ t.kids.length ∧ i = .int .i64 j ∧ Hid ((t.kids.take j).all st = true) ∧ Hid (Below w.heap.size w wr) ∧
      (wr.cell? ⟨w.heap.size, 0, none⟩ = some (.int .i64 t.kind) ∧ wr.cell? ⟨w.heap.size, 1, none⟩ = some (.string ⟨t.text.toArray⟩) ∧ wr.cell? ⟨w.heap.size, 2, none⟩ = some (.slice a t.kids.length c) ∧ wr.cell? ⟨w.heap.size, 3, none⟩ = some (.int .i64 t.pos))) (fun i _ => t.kids.length - (intOf i).toNat)
    case atStart => exact ⟨0, by omega, rfl, Lib.hid rfl, HBA, e0, e1, e2, e3⟩
    case round =>
      obtain ⟨j, hj1, rfl, HALL, HB, e0, e1, e2, e3⟩ := hrel
      by_cases hlt : j < t.kids.length
      · obtain ⟨b, off, a', c', ha, -, ⟨d0, d1, d2, d3⟩, hf, hn⟩ := (HK.out.on HB.out).get hlt
        subst ha
        have HNX := Lib.hid (fun e => alls_next (f := st) hlt HALL.out e)
        have HNO := Lib.hid (fun e => alls_no (f := st) hlt e)
        have hc := H.out t.kids[j] a' c' wr (HH.out _ (List.getElem_mem hlt)) (HG.out.on HB.out) hn hf
        obtain ⟨q, hq⟩ : ∃ q, t.kids[j] = q := ⟨_, rfl⟩
        rw [hq] at d0 d1 d2 d3 hc HNX HNO
        obtain ⟨r, hr⟩ : ∃ r, st q = r := ⟨_, rfl⟩
        rw [hr] at hc HNX HNO
        have HC := Lib.hid hc
        clear hq hc hf hn hr
        go_wp2_with fail
        refine HC.out.mono ?_
        rintro e w1 ⟨rfl, hb1⟩
        obtain ⟨e0, e1, e2, e3⟩ := cells_on' hb1 e0 e1 e2 e3
        have HB1 := Lib.hid (bext HB.out hb1)
        clear hb1
        cases r with
        | true =>
          go_wp2_with fail
          go_roundw
          case rel => exact ⟨j + 1, by omega, by go_num, Lib.hid (HNX.out (by first | rfl | trivial)), HB1, e0, e1, e2, e3⟩
          case measure => simp [intOf]; omega
        | false =>
          have HN := Lib.hid (HNO.out (by first | rfl | trivial))
          go_wp2_with fail
          go_ret
          exact ⟨ret_bool (by rw [HV.out, HN.out]), HB1.out⟩
      · obtain rfl : j = t.kids.length := by omega
        have HN := Lib.hid (alls_end HALL.out)
        go_wp2_with fail
        go_ret
        exact ⟨ret_bool (by rw [HV.out, HN.out]), HB.out⟩
  · have HV := Lib.hid (show rowB 36 st t = false by
      unfold rowB
      by_cases hk : t.kind = 36
      · have : t.text ≠ [] := fun e => h36 ⟨hk, e⟩
        simp [this]
      · simp [hk])
    have HN := Lib.hid h36
    clear h36
    go_enter Tryz.func39, Tryz.ntmps39
    by_cases n0 : t.kind = 36
    · have n1 : (t.kind != 36) = false := by simp [n0]
      have n2 : t.text.isEmpty = false := by simpa using fun e => HN.out ⟨n0, e⟩
      clear n0
      go_wp2_with fail
      go_ret
      exact ⟨ret_bool HV.out.symm, HBA.out⟩
    · have n1 : (t.kind != 36) = true := by simpa using n0
      clear n0
      go_wp2_with fail
      go_ret
      exact ⟨ret_bool HV.out.symm, HBA.out⟩
end Go.Proofs.YtnmebgiiajnnjaaGreat

namespace Go.Proofs.YtnmebgiiajnnjaaGreat
set_option linter.unusedSimpArgs false
set_option linter.unusedVariables false
open Go.RowKit
theorem kids2_all (ex : Nd → Bool) (x y : Nd) : [x, y].all ex = kids2 ex ex [x, y] := by simp [kids2]
end Go.Proofs.YtnmebgiiajnnjaaGreat
