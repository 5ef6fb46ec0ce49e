/-
  ported for this seat out of LawRights (port.py)
-/
import Derived.Test.YtfcpblclfgkdjaaGreatDoorZE
import Derived.Test.YtfcpblclfgkdjaaGreatDoorZA
import Derived.Deep.RegionHeld3
namespace Go.Proofs.YtfcpblclfgkdjaaGreatDoor
set_option linter.unusedSimpArgs false
set_option linter.unusedVariables false
open Go.RowKit

set_option maxRecDepth 100000 in
set_option maxHeartbeats 8000000 in
theorem rstmt_block (st : Nd → Bool) (n : Nat) (h_st : Ok 17 st n) (t : Nd) (a : Option Addr) (c : Nat) (w : World) (hn : t.kind ≠ 5 ∧ t.kind ≠ 26 ∧ t.kind ≠ 27 ∧ t.kind ≠ 28 ∧ t.kind ≠ 29 ∧ t.kind ≠ 30 ∧ t.kind ≠ 31 ∧ t.kind ≠ 32 ∧ t.kind ≠ 33 ∧ t.kind ≠ 34 ∧ t.kind ≠ 35) (ht : t.height ≤ n + 1) (hg : Glob w) (hk : Kids w w.heap.size a t.kids) (hf : Fits t c) :
    Calls Tryz.prog 17 #[.agg #[.int .i64 t.kind, .string ⟨t.text.toArray⟩, .slice a t.kids.length c, .int .i64 t.pos]] w fun e w' => e = .returned (.bool (rowB 36 st t)) ∧ Below w.heap.size w w' := by
  obtain ⟨m1, m2, m3, m4, m5, m6, m7, m8, m9, m0, ma⟩ := hn
  have n1 : (t.kind == 5) = false := by simpa using m1
  have n2 : (t.kind == 26) = false := by simpa using m2
  have n3 : (t.kind == 27) = false := by simpa using m3
  have n4 : (t.kind == 28) = false := by simpa using m4
  have n5 : (t.kind == 29) = false := by simpa using m5
  have n6 : (t.kind == 30) = false := by simpa using m6
  have n7 : (t.kind == 31) = false := by simpa using m7
  have n8 : (t.kind == 32) = false := by simpa using m8
  have n9 : (t.kind == 33) = false := by simpa using m9
  have n0 : (t.kind == 34) = false := by simpa using m0
  have na : (t.kind == 35) = false := by simpa using ma
  clear m1 m2 m3 m4 m5 m6 m7 m8 m9 m0 ma
  obtain ⟨wa, hwa, hba, e0, e1, e2, e3⟩ := laid4 w (.int .i64 t.kind) (.string ⟨t.text.toArray⟩) (.slice a t.kids.length c) (.int .i64 t.pos) 25
  have hx := rblock_ok st n h_st t a c wa ht (hg.on hba) (hk.on hba) hf
  obtain ⟨R, hR⟩ : ∃ R, rowB 36 st t = R := ⟨_, rfl⟩
  rw [hR] at hx ⊢
  have HX := Lib.hid hx
  have HBA := Lib.hid hba
  clear hx hR hba hg hk hf ht h_st
  go_enter Tryz.func17, Tryz.ntmps17
  go_wp2_with fail
  refine HX.out.mono ?_
  rintro e w1 ⟨rfl, hb1⟩
  have HB1 := Lib.hid (bext HBA.out hb1)
  clear hb1
  go_wp2_with fail
  go_ret
  exact ⟨rfl, HB1.out⟩

theorem st_if (q : Ps) (k : Nd) : ((psStep q).bl k || (psStep q).iff_ k) = ((k.kind == 36 || k.kind == 30) && (psStep q).st k) := by
  by_cases h36 : k.kind = 36
  · simp [psStep, stmtB, rowB, ifB, ofB, h36]
  · by_cases h30 : k.kind = 30
    · simp [psStep, stmtB, rowB, ifB, ofB, h30]
    · simp [psStep, rowB, ifB, ofB, beq_false_of_ne h36, beq_false_of_ne h30]
theorem st_for1 (q : Ps) (k : Nd) : ((psStep q).sh k || ((psStep q).se k || (psStep q).inc k)) = ((k.kind == 26 || (k.kind == 27 || k.kind == 28)) && (psStep q).st k) := by
  by_cases h26 : k.kind = 26
  · simp [psStep, stmtB, shB, ofB, incB, h26]
  · by_cases h27 : k.kind = 27
    · simp [psStep, stmtB, shB, ofB, incB, h27]
    · by_cases h28 : k.kind = 28
      · simp [psStep, stmtB, shB, ofB, incB, h28]
      · simp [psStep, shB, ofB, incB, beq_false_of_ne h26, beq_false_of_ne h27, beq_false_of_ne h28]
theorem st_for3 (q : Ps) (k : Nd) : ((psStep q).se k || ((psStep q).inc k || (psStep q).cal k)) = ((k.kind == 27 || (k.kind == 28 || k.kind == 29)) && (psStep q).st k) := by
  by_cases h27 : k.kind = 27
  · simp [psStep, stmtB, ofB, incB, h27]
  · by_cases h28 : k.kind = 28
    · simp [psStep, stmtB, ofB, incB, h28]
    · by_cases h29 : k.kind = 29
      · simp [psStep, stmtB, ofB, incB, h29]
      · simp [psStep, ofB, incB, beq_false_of_ne h27, beq_false_of_ne h28, beq_false_of_ne h29]
/-- What a level knows of its own kinds. -/
structure Knows (p : Ps) : Prop where
  ty : ∀ x, p.ty x = true → x.kind = 10 ∨ x.kind = 11 ∨ x.kind = 12
  sif : ∀ k, (p.bl k || p.iff_ k) = ((k.kind == 36 || k.kind == 30) && p.st k)
  sfor1 : ∀ k, (p.sh k || (p.se k || p.inc k)) = ((k.kind == 26 || (k.kind == 27 || k.kind == 28)) && p.st k)
  sfor3 : ∀ k, (p.se k || (p.inc k || p.cal k)) = ((k.kind == 27 || (k.kind == 28 || k.kind == 29)) && p.st k)
theorem knows : ∀ n, Knows (lv n)
  | 0 => ⟨fun x h => (by cases h), fun k => by simp [lv, ps0], fun k => by simp [lv, ps0], fun k => by simp [lv, ps0]⟩
  | n + 1 => ⟨fun x h => by
      have h' : typeB (lv n).ty x = true := h
      unfold typeB at h'
      by_cases h10 : x.kind = 10
      · exact .inl h10
      · by_cases h11 : x.kind = 11
        · exact .inr (.inl h11)
        · by_cases h12 : x.kind = 12
          · exact .inr (.inr h12)
          · simp [h10, h11, h12] at h',
    st_if (lv n), st_for1 (lv n), st_for3 (lv n)⟩

/-- The document's questions answer as the program's, at a level. -/
structure GoodR (p : Ps) (n : Nat) : Prop where
  ty : Ok 15 p.ty n
  sg : SgOk true p.sg n
  it : Ok 32 p.it n
  ss : Ok 31 p.ss n
  pr : Ok 29 p.pr n
  ex : Ok 16 p.ex n
  bl : Ok 30 p.bl n
  st : Ok 17 p.st n
  dc : Ok 14 p.dc n

theorem rstmt_ok (p : Ps) (n : Nat) (hn : Knows p) (h : GoodR p n) : Ok 17 (psStep p).st (n + 1) := by
  rintro ⟨k, s, l, q⟩ a c w ht hg hk hf
  simp only [Nd.kind_mk, Nd.text_mk, Nd.kids_mk, Nd.pos_mk] at hk ⊢
  by_cases k5 : k = 5
  · subst k5
    refine (rstmt_var p.ty p.ex n h.ty h.ex s l q a c w ht hg hk hf).mono ?_
    rintro e w' ⟨rfl, hb⟩
    exact ⟨ret_bool (by simp [psStep, stmtB, varB]), hb⟩
  by_cases k26 : k = 26
  · subst k26
    refine (rstmt_short p.ex n h.ex s l q a c w ht hg hk hf).mono ?_
    rintro e w' ⟨rfl, hb⟩
    exact ⟨ret_bool (by simp [psStep, stmtB, shB]), hb⟩
  by_cases k27 : k = 27
  · subst k27
    refine (rstmt_set p.ex n h.ex s l q a c w ht hg hk hf).mono ?_
    rintro e w' ⟨rfl, hb⟩
    exact ⟨ret_bool (by simp [psStep, stmtB, ofB]), hb⟩
  by_cases k28 : k = 28
  · subst k28
    refine (rstmt_inc p.ex n h.ex s l q a c w ht hg hk hf).mono ?_
    rintro e w' ⟨rfl, hb⟩
    exact ⟨ret_bool (by simp [psStep, stmtB, incB]), hb⟩
  by_cases k29 : k = 29
  · subst k29
    refine (rstmt_call p.ex n h.ex s l q a c w ht hg hk hf).mono ?_
    rintro e w' ⟨rfl, hb⟩
    exact ⟨ret_bool (by simp [psStep, stmtB, ofB]), hb⟩
  by_cases k30 : k = 30
  · subst k30
    refine (rstmt_if p.ex p.bl p.st n h.ex h.bl h.st s l q a c w ht hg hk hf).mono ?_
    rintro e w' ⟨rfl, hb⟩
    refine ⟨ret_bool ?_, hb⟩
    have e : (fun k => emptyB k || ((k.kind == 36 || k.kind == 30) && p.st k)) = fun k => (emptyB k || p.bl k) || p.iff_ k := by
      funext k; rw [← hn.sif, Bool.or_assoc]
    rw [e]
    simp [psStep, stmtB, ifB, ofB]
  by_cases k31 : k = 31
  · subst k31
    refine (rstmt_for p.ex p.bl p.st n h.ex h.bl h.st s l q a c w ht hg hk hf).mono ?_
    rintro e w' ⟨rfl, hb⟩
    refine ⟨ret_bool ?_, hb⟩
    have e1 : (fun k => emptyB k || ((k.kind == 26 || (k.kind == 27 || k.kind == 28)) && p.st k)) = fun k => (emptyB k || p.sh k) || (p.se k || p.inc k) := by
      funext k; rw [← hn.sfor1, Bool.or_assoc]
    have e3 : (fun k => emptyB k || ((k.kind == 27 || (k.kind == 28 || k.kind == 29)) && p.st k)) = fun k => (emptyB k || p.se k) || (p.inc k || p.cal k) := by
      funext k; rw [← hn.sfor3, Bool.or_assoc]
    rw [e1, e3]
    simp [psStep, stmtB, forB, ofB]
  by_cases k32 : k = 32
  · subst k32
    refine (rstmt_range p.ex p.bl n h.ex h.bl s l q a c w ht hg hk hf).mono ?_
    rintro e w' ⟨rfl, hb⟩
    exact ⟨ret_bool (by simp [psStep, stmtB]), hb⟩
  by_cases k33 : k = 33
  · subst k33
    refine (rstmt_ret p.ex n h.ex s l q a c w ht hg hk hf).mono ?_
    rintro e w' ⟨rfl, hb⟩
    exact ⟨ret_bool (by simp [psStep, stmtB, retB, ofB]), hb⟩
  by_cases k34 : k = 34
  · subst k34
    refine (rstmt_break n s l q a c w ht hg hk hf).mono ?_
    rintro e w' ⟨rfl, hb⟩
    exact ⟨ret_bool (by simp [psStep, stmtB]), hb⟩
  by_cases k35 : k = 35
  · subst k35
    refine (rstmt_cont n s l q a c w ht hg hk hf).mono ?_
    rintro e w' ⟨rfl, hb⟩
    exact ⟨ret_bool (by simp [psStep, stmtB]), hb⟩
  · refine (rstmt_block p.st n h.st (.mk k s l q) a c w ⟨k5, k26, k27, k28, k29, k30, k31, k32, k33, k34, k35⟩ ht hg hk hf).mono ?_
    rintro e w' ⟨rfl, hb⟩
    exact ⟨ret_bool (by simp [psStep, stmtB, k5, k26, k27, k28, k29, k30, k31, k32, k33, k34, k35]), hb⟩

theorem Ok.same {K : Nat} {f g : Nd → Bool} {n : Nat} (h : Ok K f n) (e : ∀ t : Nd, t.height ≤ n → f t = g t) : Ok K g n := fun t a c w ht hg hk hf => by rw [← e t ht]; exact h t a c w ht hg hk hf
theorem kids_low {t : Nd} (h : t.height ≤ 1) : t.kids = [] := by
  cases hk : t.kids with
  | nil => rfl
  | cons x r =>
    have := Nd.height_kid (t := t) (k := x) (by rw [hk]; simp)
    have := Nd.height_eq x
    omega
theorem goodR_step (p : Ps) (n : Nat) (hn : Knows p) (h : GoodR p n) (hit : Ok 32 (interB p.tm) (n + 1)) (hss : Ok 31 (rowB 13 p.fl) (n + 1)) : GoodR (psStep p) (n + 1) where
  ty := rtype_ok p.ty n h.ty
  sg := sg_ok true p.ty n h.ty
  it := hit
  ss := hss
  pr := rparams_ok p.ty p.it n h.ty h.it
  ex := rexpr_ok p.ex p.ty p.sg p.bl n hn.ty h.ex h.ty h.sg h.bl
  bl := rblock_ok p.st n h.st
  st := rstmt_ok p n hn h
  dc := rdecl_ok p.pr p.sg p.bl p.ty p.ss p.it p.ex n h.pr h.sg h.bl h.ty h.ss h.it h.ex
theorem ok0 (K : Nat) (f : Nd → Bool) : Ok K f 0 := ok_zero K f
theorem goodR : ∀ n, GoodR (lv n) n
  | 0 => ⟨ok0 _ _, fun t a c w ht => by have := Nd.height_eq t; omega, ok0 _ _, ok0 _ _, ok0 _ _, ok0 _ _, ok0 _ _, ok0 _ _, ok0 _ _⟩
  | 1 => goodR_step (lv 0) 0 (knows 0) (goodR 0)
      (((rinter_ok (fun _ => false) 0 (ok0 _ _)).le (by omega)).same fun t ht => by simp [interB, kids_low ht])
      (((rfields_ok (fun _ => false) 0 (ok0 _ _)).le (by omega)).same fun t ht => by simp [rowB, kids_low ht])
  | n + 2 => goodR_step (lv (n + 1)) (n + 1) (knows (n + 1)) (goodR (n + 1)) (rinter_ok (lv n).ty n (goodR n).ty) (rfields_ok (lv n).ty n (goodR n).ty)
end Go.Proofs.YtfcpblclfgkdjaaGreatDoor

namespace Go.Proofs.YtfcpblclfgkdjaaGreatDoor
set_option linter.unusedSimpArgs false
set_option linter.unusedVariables false
open Go.RowKit

theorem heights_app : ∀ (l : List Nd) (x : Nd), Nd.heights (l ++ [x]) = max (Nd.heights l) x.height
  | [], x => by simp [Nd.heights]
  | y :: l, x => by rw [List.cons_append, Nd.heights, heights_app l x, Nd.heights]; omega
theorem heights_take {l : List Nd} {k : Nat} (h : k < l.length) : Nd.heights (l.take (k + 1)) = max (Nd.heights (l.take k)) l[k].height := by
  rw [List.take_succ_eq_append_getElem h, heights_app]
set_option maxHeartbeats 2000000 in
theorem rdepth_any : ∀ (d : Nat), d ≤ 1000 → ∀ (t : Nd) (a : Option Addr) (c : Nat) (w : World), Kids w w.heap.size a t.kids → Fits t c →
    Calls Tryz.prog 12 #[.agg #[.int .i64 t.kind, .string ⟨t.text.toArray⟩, .slice a t.kids.length c, .int .i64 t.pos], .int .i64 d] w fun e w' => e = .returned (.int .i64 ((min d t.height : Nat) : Int)) ∧ Below w.heap.size w w'
  | 0, _, t, a, c, w, hk, hf => by
    clear hk hf
    have HE := Lib.hid (show (min 0 t.height : Nat) = 0 by omega)
    go_enter Tryz.func12, Tryz.ntmps12
    go_wp2_with fail
    go_ret
    exact ⟨by rw [HE.out]; rfl, below_alloc _ _⟩
  | d + 1, hd, t, a, c, w, hk, hf => by
    have ih := rdepth_any d (by omega)
    have HI := Lib.hid ih
    have HK := Lib.hid hk
    have HB0 := Lib.hid (below_alloc w (.cells #[.int .i64 t.kind, .string ⟨t.text.toArray⟩, .slice a t.kids.length c, .int .i64 t.pos] 25))
    have hl63 : t.kids.length ≤ 9223372036854775807 := by have := hf.2.2.2.2.2.1; have := hf.2.2.2.2.2.2.1; omega
    have hcap : t.kids.length ≤ c := hf.2.2.2.2.2.1
    have h0 : ((d : Int) + 1 == 0) = false := by simp; omega
    have hwd : IntKind.i64.wrap (d : Int) = d := by rw [IntKind.wrap_i64]; omega
    have HT := Lib.hid (Nd.height_eq t)
    clear ih hk hf
    go_enter Tryz.func12, Tryz.ntmps12
    go_wp2_with fail
    go_loopw [5, 6] (fun s i wr => ∃ (k A : Nat), k ≤ t.kids.length ∧ i = .int .i64 k ∧ s = .int .i64 (A : Int) ∧ Hid (A = min d (Nd.heights (t.kids.take k))) ∧ Below w.heap.size w wr ∧
      (wr.cell? ⟨w.heap.size, 0, none⟩ = some (.int .i64 t.kind) ∧ wr.cell? ⟨w.heap.size, 1, none⟩ = some (.string ⟨t.text.toArray⟩) ∧ wr.cell? ⟨w.heap.size, 2, none⟩ = some (.slice a t.kids.length c) ∧ wr.cell? ⟨w.heap.size, 3, none⟩ = some (.int .i64 t.pos))) (fun _ i _ => t.kids.length - (intOf i).toNat)
    case atStart => exact ⟨0, 0, by omega, rfl, rfl, Lib.hid (by simp [Nd.heights]), HB0.out, by simp [go_sem], by simp [go_sem], by simp [go_sem], by simp [go_sem]⟩
    case round =>
      obtain ⟨k, A, hk1, rfl, rfl, HA, hb, a0, a1, a2, a3⟩ := hrel
      have HB := Lib.hid hb
      clear hb
      by_cases hlt : k < t.kids.length
      · obtain ⟨b, off, a', c', ha, hbB, ⟨h0', h1', h2', h3'⟩, hf', hn'⟩ := (HK.out.on HB.out).get hlt
        subst ha
        have hc := HI.out t.kids[k] a' c' wr hn' hf'
        have htk := heights_take hlt
        obtain ⟨q, hq⟩ : ∃ q, t.kids[k] = q := ⟨_, rfl⟩
        rw [hq] at h0' h1' h2' h3' hc htk
        obtain ⟨D, hD⟩ : ∃ D : Nat, min d q.height = D := ⟨_, rfl⟩
        rw [hD] at hc
        have HN := Lib.hid (show max A D = min d (Nd.heights (t.kids.take (k + 1))) by rw [htk, ← hD, HA.out]; omega)
        have HC := Lib.hid hc
        clear hf' hn' hc htk hD hq
        go_wp2_with fail
        refine HC.out.mono ?_
        rintro e w1 ⟨rfl, hb1⟩
        obtain ⟨a0, a1, a2, a3⟩ := cells_on' hb1 a0 a1 a2 a3
        have HB1 := Lib.hid (bext HB.out hb1)
        clear hb1
        go_wp2_with fail
        go_roundw
        case rel =>
          first
          | exact ⟨k + 1, max A D, by omega, by go_num, by first | rfl | (congr 1; omega), HN, HB1.out, a0, a1, a2, a3⟩
          | exact ⟨_, _, k + 1, max A D, by omega, by go_num, by first | rfl | (congr 1; omega), HN, HB1.out, a0, a1, a2, a3⟩
          | ((repeat apply Exists.intro); exact ⟨⟨k + 1, max A D, by omega, by go_num, by first | rfl | (congr 1; omega), HN, HB1.out, a0, a1, a2, a3⟩, rfl⟩)
          | trace_state
        case measure => simp [intOf]; omega
      · obtain rfl : k = t.kids.length := by omega
        have HV := Lib.hid (show (min (d + 1) t.height : Nat) = A + 1 by
          have := HA.out
          rw [List.take_length] at this
          rw [HT.out, this]; omega)
        have hAd : A ≤ 1000 := by have := HA.out; omega
        go_wp2_with fail
        go_ret
        exact ⟨by rw [HV.out]; first | rfl | (congr 1; omega) | (simp [wrap64]; omega), HB.out⟩

set_option maxRecDepth 100000 in
set_option maxHeartbeats 8000000 in
theorem rright_any (l : List UInt8) (t : Nd) (a : Option Addr) (c : Nat) (w : World) (hg : Glob w) (hk : Kids w w.heap.size a t.kids) (hf : Fits t c) :
    Calls Tryz.prog 6 #[.agg #[.int .i64 t.kind, .string ⟨t.text.toArray⟩, .slice a t.kids.length c, .int .i64 t.pos], .string ⟨l.toArray⟩] w fun e w' => e = .returned (.bool (rightB l t)) ∧ Below w.heap.size w w' := by
  obtain ⟨wa, hwa, hba, e0, e1, e2, e3⟩ := laid4 w (.int .i64 t.kind) (.string ⟨t.text.toArray⟩) (.slice a t.kids.length c) (.int .i64 t.pos) 25
  obtain ⟨S, hS⟩ : ∃ S : World → Prop, S = fun W => (W.cell? ⟨w.heap.size, 0, none⟩ = some (.int .i64 t.kind) ∧ W.cell? ⟨w.heap.size, 1, none⟩ = some (.string ⟨t.text.toArray⟩) ∧ W.cell? ⟨w.heap.size, 2, none⟩ = some (.slice (a) t.kids.length c) ∧ W.cell? ⟨w.heap.size, 3, none⟩ = some (.int .i64 t.pos)) := ⟨_, rfl⟩
  have HKB := Lib.hid (show Keep S by rw [hS]; exact keep_and (keep_cell _ _) (keep_and (keep_cell _ _) (keep_and (keep_cell _ _) (keep_cell _ _))))
  have HS := Lib.hid hS
  have HKW := Lib.hid (fun W (hW : Below w.heap.size w W) => hk.on hW)
  have HF := Lib.hid hf
  have HP := Lib.hid (show Nk w 0 S [] wa from ⟨hba, hg.on hba, by rw [hS]; exact ⟨e0, e1, e2, e3⟩, fun q hq => by cases hq⟩)
  have hl63 : t.kids.length ≤ 9223372036854775807 := by have := hf.2.2.2.2.2.1; have := hf.2.2.2.2.2.2.1; omega
  have hts : t.text.length ≤ 140737488351232 := hf.2.2.2.2.1
  obtain ⟨D, hD⟩ : ∃ D : Nat, min 101 t.height = D := ⟨_, rfl⟩
  obtain ⟨N, hN⟩ : ∃ N, wrap64 (walkL 100 t).length = N := ⟨_, rfl⟩
  have hd := nk_post HP.out HKB.out (rdepth_any 101 (by omega) t a c wa (HKW.out _ HP.out.below) HF.out)
  rw [hD] at hd
  have HD := Lib.hid (show Calls Tryz.prog 12 #[.agg #[.int .i64 t.kind, .string ⟨t.text.toArray⟩, .slice a t.kids.length c, .int .i64 t.pos], .int .i64 101] wa (NkPost w 0 S [] (.int .i64 (D : Int))) from hd)
  have HN := Lib.hid (fun W (h : Nk w 0 S [] W) => (hN ▸ nk_post h HKB.out (rsize_any 100 (by omega) t a c W (HKW.out _ h.below) HF.out) : Calls Tryz.prog 5 #[.agg #[.int .i64 t.kind, .string ⟨t.text.toArray⟩, .slice a t.kids.length c, .int .i64 t.pos], .int .i64 100] W (NkPost w 0 S [] (.int .i64 N))))
  have hdt : (D ≤ 100) ↔ t.height ≤ 100 := by omega
  clear hd hS hba hk hf hg
  by_cases h1 : ¬ D ≤ 100
  · have HV := Lib.hid (show rightB l t = false by unfold rightB; cases sortFn l <;> simp; intro h; omega)
    have hgt : (100 : Int) < (D : Int) := by omega
    clear h1 hdt hN hD
    go_enter Tryz.func6, Tryz.ntmps6
    go_wp2_with fail
    refine HD.out.mono ?_
    rintro e w1 ⟨rfl, h1, HP⟩
    go_wp2_with fail
    go_ret
    exact ⟨ret_bool HV.out.symm, HP.out.below⟩
  replace h1 : D ≤ 100 := Decidable.not_not.1 h1
  have hth : t.height ≤ 100 := hdt.1 h1
  have hng : ¬ (100 : Int) < (D : Int) := by omega
  by_cases h2 : 65536 < N
  · have HV := Lib.hid (show rightB l t = false by unfold rightB; rw [hN]; cases sortFn l <;> simp; intro _ h; omega)
    clear h1 hdt hN hD hth
    go_enter Tryz.func6, Tryz.ntmps6
    go_wp2_with fail
    refine HD.out.mono ?_
    rintro e w1 ⟨rfl, h1, HP⟩
    rw [HS.out] at h1
    obtain ⟨e0, e1, e2, e3⟩ := h1
    go_wp2_with fail
    refine (HN.out _ HP.out).mono ?_
    rintro e w2 ⟨rfl, h1, HP⟩
    go_wp2_with fail
    go_ret
    exact ⟨ret_bool HV.out.symm, HP.out.below⟩
  have hRB : ∀ g, sortFn l = some g → rightB l t = soB g t := fun g hg => by
    unfold rightB
    rw [hg, hN, decide_eq_true hth, decide_eq_true (by omega : N ≤ 65536)]
    rfl
  have HR0 := Lib.hid (show sortFn l = none → rightB l t = false from fun hg => by unfold rightB; rw [hg])
  have HRB := Lib.hid hRB
  have G := Lib.hid (goodR 100)
  have HTH := Lib.hid hth
  clear hRB h1 hdt hN hD hth
  by_cases hldc : l = sDecl
  · subst hldc
    have HV := Lib.hid (show rightB sDecl t = (lv 100).dc t by rw [HRB.out 5 (by simp [sortFn, sSig, sStmt, sExpr, sType, sDecl, sFile])]; simp [soB])
    obtain ⟨X, hX⟩ : ∃ X, (lv 100).dc t = X := ⟨_, rfl⟩
    have HX := Lib.hid (fun W (h : Nk w 0 S [] W) => nk_post h HKB.out (G.out.dc t a c W HTH.out h.glob (HKW.out _ h.below) HF.out))
    rw [hX] at HV HX
    rw [HV.out]
    clear hX HR0
    simp only [sDecl]
    go_enter Tryz.func6, Tryz.ntmps6
    go_wp2_with fail
    refine HD.out.mono ?_
    rintro e w1 ⟨rfl, h1, HP⟩
    rw [HS.out] at h1
    obtain ⟨e0, e1, e2, e3⟩ := h1
    go_wp2_with fail
    refine (HN.out _ HP.out).mono ?_
    rintro e w2 ⟨rfl, h1, HP⟩
    rw [HS.out] at h1
    obtain ⟨e0, e1, e2, e3⟩ := h1
    go_wp2_with fail
    refine (HX.out _ HP.out).mono ?_
    rintro e w3 ⟨rfl, h1, HP⟩
    go_wp2_with fail
    go_ret
    exact ⟨rfl, HP.out.below⟩
  by_cases hlty : l = sType
  · subst hlty
    have HV := Lib.hid (show rightB sType t = (lv 100).ty t by rw [HRB.out 4 (by simp [sortFn, sSig, sStmt, sExpr, sType, sDecl, sFile])]; simp [soB])
    obtain ⟨X, hX⟩ : ∃ X, (lv 100).ty t = X := ⟨_, rfl⟩
    have HX := Lib.hid (fun W (h : Nk w 0 S [] W) => nk_post h HKB.out (G.out.ty t a c W HTH.out h.glob (HKW.out _ h.below) HF.out))
    rw [hX] at HV HX
    rw [HV.out]
    clear hX HR0
    simp only [sType]
    go_enter Tryz.func6, Tryz.ntmps6
    go_wp2_with fail
    refine HD.out.mono ?_
    rintro e w1 ⟨rfl, h1, HP⟩
    rw [HS.out] at h1
    obtain ⟨e0, e1, e2, e3⟩ := h1
    go_wp2_with fail
    refine (HN.out _ HP.out).mono ?_
    rintro e w2 ⟨rfl, h1, HP⟩
    rw [HS.out] at h1
    obtain ⟨e0, e1, e2, e3⟩ := h1
    go_wp2_with fail
    refine (HX.out _ HP.out).mono ?_
    rintro e w3 ⟨rfl, h1, HP⟩
    go_wp2_with fail
    go_ret
    exact ⟨rfl, HP.out.below⟩
  by_cases hlex : l = sExpr
  · subst hlex
    have HV := Lib.hid (show rightB sExpr t = (lv 100).ex t by rw [HRB.out 3 (by simp [sortFn, sSig, sStmt, sExpr, sType, sDecl, sFile])]; simp [soB])
    obtain ⟨X, hX⟩ : ∃ X, (lv 100).ex t = X := ⟨_, rfl⟩
    have HX := Lib.hid (fun W (h : Nk w 0 S [] W) => nk_post h HKB.out (G.out.ex t a c W HTH.out h.glob (HKW.out _ h.below) HF.out))
    rw [hX] at HV HX
    rw [HV.out]
    clear hX HR0
    simp only [sExpr]
    go_enter Tryz.func6, Tryz.ntmps6
    go_wp2_with fail
    refine HD.out.mono ?_
    rintro e w1 ⟨rfl, h1, HP⟩
    rw [HS.out] at h1
    obtain ⟨e0, e1, e2, e3⟩ := h1
    go_wp2_with fail
    refine (HN.out _ HP.out).mono ?_
    rintro e w2 ⟨rfl, h1, HP⟩
    rw [HS.out] at h1
    obtain ⟨e0, e1, e2, e3⟩ := h1
    go_wp2_with fail
    refine (HX.out _ HP.out).mono ?_
    rintro e w3 ⟨rfl, h1, HP⟩
    go_wp2_with fail
    go_ret
    exact ⟨rfl, HP.out.below⟩
  by_cases hlst : l = sStmt
  · subst hlst
    have HV := Lib.hid (show rightB sStmt t = (lv 100).st t by rw [HRB.out 2 (by simp [sortFn, sSig, sStmt, sExpr, sType, sDecl, sFile])]; simp [soB])
    obtain ⟨X, hX⟩ : ∃ X, (lv 100).st t = X := ⟨_, rfl⟩
    have HX := Lib.hid (fun W (h : Nk w 0 S [] W) => nk_post h HKB.out (G.out.st t a c W HTH.out h.glob (HKW.out _ h.below) HF.out))
    rw [hX] at HV HX
    rw [HV.out]
    clear hX HR0
    simp only [sStmt]
    go_enter Tryz.func6, Tryz.ntmps6
    go_wp2_with fail
    refine HD.out.mono ?_
    rintro e w1 ⟨rfl, h1, HP⟩
    rw [HS.out] at h1
    obtain ⟨e0, e1, e2, e3⟩ := h1
    go_wp2_with fail
    refine (HN.out _ HP.out).mono ?_
    rintro e w2 ⟨rfl, h1, HP⟩
    rw [HS.out] at h1
    obtain ⟨e0, e1, e2, e3⟩ := h1
    go_wp2_with fail
    refine (HX.out _ HP.out).mono ?_
    rintro e w3 ⟨rfl, h1, HP⟩
    go_wp2_with fail
    go_ret
    exact ⟨rfl, HP.out.below⟩
  by_cases hlsg : l = sSig
  · subst hlsg
    have HV := Lib.hid (show rightB sSig t = (lv 100).sg t by rw [HRB.out 1 (by simp [sortFn, sSig, sStmt, sExpr, sType, sDecl, sFile])]; simp [soB])
    obtain ⟨X, hX⟩ : ∃ X, (lv 100).sg t = X := ⟨_, rfl⟩
    have HX := Lib.hid (fun W (h : Nk w 0 S [] W) => nk_post h HKB.out (G.out.sg t a c W HTH.out h.glob (HKW.out _ h.below) HF.out))
    rw [hX] at HV HX
    rw [HV.out]
    clear hX HR0
    simp only [sSig]
    go_enter Tryz.func6, Tryz.ntmps6
    go_wp2_with fail
    refine HD.out.mono ?_
    rintro e w1 ⟨rfl, h1, HP⟩
    rw [HS.out] at h1
    obtain ⟨e0, e1, e2, e3⟩ := h1
    go_wp2_with fail
    refine (HN.out _ HP.out).mono ?_
    rintro e w2 ⟨rfl, h1, HP⟩
    rw [HS.out] at h1
    obtain ⟨e0, e1, e2, e3⟩ := h1
    go_wp2_with fail
    refine (HX.out _ HP.out).mono ?_
    rintro e w3 ⟨rfl, h1, HP⟩
    go_wp2_with fail
    go_ret
    exact ⟨rfl, HP.out.below⟩
  by_cases hlf : l = sFile
  · subst hlf
    have HV := Lib.hid (show rightB sFile t = fileB (lv 100).dc t by rw [HRB.out 6 (by simp [sortFn, sSig, sStmt, sExpr, sType, sDecl, sFile])]; simp [soB])
    have hE : fileB (lv 100).dc t = (t.kind == 1 && (nameL t.text && t.kids.all (lv 100).dc)) := rfl
    obtain ⟨dc, hdc⟩ : ∃ dc, (lv 100).dc = dc := ⟨_, rfl⟩
    have hG := G.out.dc
    rw [hdc] at hE hG
    have HG := Lib.hid hG
    rw [HV.out, hdc, hE]
    have HHT := Lib.hid (fun x (hx : x ∈ t.kids) => show x.height ≤ 100 by have := Nd.height_kid hx; have := HTH.out; omega)
    clear hE HR0 HV hdc hG G
    simp only [sFile]
    cases k1 : (t.kind == 1) with
    | false =>
      have k2 : (t.kind != 1) = true := by simp [bne, k1]
      clear k1
      go_enter Tryz.func6, Tryz.ntmps6
      go_wp2_with fail
      refine HD.out.mono ?_
      rintro e w1 ⟨rfl, h1, HP⟩
      rw [HS.out] at h1
      obtain ⟨e0, e1, e2, e3⟩ := h1
      go_wp2_with fail
      refine (HN.out _ HP.out).mono ?_
      rintro e w2 ⟨rfl, h1, HP⟩
      rw [HS.out] at h1
      obtain ⟨e0, e1, e2, e3⟩ := h1
      go_wp2_with fail
      go_ret
      exact ⟨ret_bool (by rfl), HP.out.below⟩
    | true =>
    have k2 : (t.kind != 1) = false := by simp [bne, k1]
    clear k1
    obtain ⟨M, hM⟩ : ∃ M, nameL t.text = M := ⟨_, rfl⟩
    have HM := Lib.hid (fun W (h : Nk w 0 S [] W) => (hM ▸ nk_name h HKB.out t.text hts : Calls Tryz.prog 13 #[.string ⟨t.text.toArray⟩] W (NkPost w 0 S [] (.bool M))))
    rw [hM]
    clear hM
    go_enter Tryz.func6, Tryz.ntmps6
    go_wp2_with fail
    refine HD.out.mono ?_
    rintro e w1 ⟨rfl, h1, HP⟩
    rw [HS.out] at h1
    obtain ⟨e0, e1, e2, e3⟩ := h1
    go_wp2_with fail
    refine (HN.out _ HP.out).mono ?_
    rintro e w2 ⟨rfl, h1, HP⟩
    rw [HS.out] at h1
    obtain ⟨e0, e1, e2, e3⟩ := h1
    go_wp2_with fail
    refine (HM.out _ HP.out).mono ?_
    rintro e w3 ⟨rfl, h1, HP⟩
    rw [HS.out] at h1
    obtain ⟨e0, e1, e2, e3⟩ := h1
    cases M with
    | false =>
      go_wp2_with fail
      go_ret
      exact ⟨ret_bool (by rfl), HP.out.below⟩
    | true =>
    go_wp2_with fail
    go_loopw [5] (fun i wr => ∃ j : Nat, j ≤ t.kids.length ∧ i = .int .i64 j ∧ Hid ((t.kids.take j).all dc = true) ∧ S wr ∧ Hid (Nk w 0 S [] wr)) (fun i _ => t.kids.length - (intOf i).toNat)
    case atStart => exact ⟨0, by omega, rfl, Lib.hid rfl, HP.out.cells, HP⟩
    case round =>
      obtain ⟨j, hj1, rfl, HALL, hs2, HP⟩ := hrel
      rw [HS.out] at hs2
      obtain ⟨e0, e1, e2, e3⟩ := hs2
      by_cases hlt : j < t.kids.length
      · obtain ⟨b, off, a', c', ha, -, ⟨q0, q1, q2, q3⟩, hfq, hkq⟩ := (HKW.out _ HP.out.below).get hlt
        subst ha
        have HNX := Lib.hid (fun e => alls_next (f := dc) hlt HALL.out e)
        have HNO := Lib.hid (fun e => alls_no (f := dc) hlt e)
        have hx := nk_post HP.out HKB.out (HG.out t.kids[j] a' c' wr (HHT.out _ (List.getElem_mem hlt)) HP.out.glob hkq hfq)
        obtain ⟨q, hq⟩ : ∃ q, t.kids[j] = q := ⟨_, rfl⟩
        rw [hq] at q0 q1 q2 q3 HNX HNO hx
        obtain ⟨R, hR⟩ : ∃ R, dc q = R := ⟨_, rfl⟩
        rw [hR] at hx HNX HNO
        have HXQ := Lib.hid hx
        clear hq hx hR hfq hkq
        go_wp2_with fail
        refine HXQ.out.mono ?_
        rintro e w4 ⟨rfl, h1, HP⟩
        rw [HS.out] at h1
        obtain ⟨e0, e1, e2, e3⟩ := h1
        cases R with
        | true =>
          have HA2 := Lib.hid (HNX.out (by first | rfl | trivial))
          go_wp2_with fail
          go_roundw
          case rel => exact ⟨j + 1, by omega, by go_num, HA2, HP.out.cells, HP⟩
          case measure => simp [intOf]; omega
        | false =>
          have HV := Lib.hid (HNO.out (by first | rfl | trivial))
          go_wp2_with fail
          go_ret
          exact ⟨ret_bool (by rw [HV.out]; rfl), HP.out.below⟩
      · obtain rfl : j = t.kids.length := by omega
        have HV := Lib.hid (alls_end HALL.out)
        go_wp2_with fail
        go_ret
        exact ⟨ret_bool (by rw [HV.out]; rfl), HP.out.below⟩
  · have HV := Lib.hid (HR0.out (by simp [sortFn, hlsg, hlst, hlex, hlty, hldc, hlf]))
    have n1 : (l == [102, 105, 108, 101]) = false := beq_false_of_ne hlf
    have n2 : (l == [100, 101, 99, 108, 97, 114, 97, 116, 105, 111, 110]) = false := beq_false_of_ne hldc
    have n3 : (l == [116, 121, 112, 101]) = false := beq_false_of_ne hlty
    have n4 : (l == [101, 120, 112, 114, 101, 115, 115, 105, 111, 110]) = false := beq_false_of_ne hlex
    have n5 : (l == [115, 116, 97, 116, 101, 109, 101, 110, 116]) = false := beq_false_of_ne hlst
    have n6 : (l == [115, 105, 103, 110, 97, 116, 117, 114, 101]) = false := beq_false_of_ne hlsg
    rw [HV.out]
    clear hlsg hlst hlex hlty hldc hlf HR0 HRB G
    go_enter Tryz.func6, Tryz.ntmps6
    go_wp2_with fail
    refine HD.out.mono ?_
    rintro e w1 ⟨rfl, h1, HP⟩
    rw [HS.out] at h1
    obtain ⟨e0, e1, e2, e3⟩ := h1
    go_wp2_with fail
    refine (HN.out _ HP.out).mono ?_
    rintro e w2 ⟨rfl, h1, HP⟩
    rw [HS.out] at h1
    obtain ⟨e0, e1, e2, e3⟩ := h1
    go_wp2_with fail
    go_ret
    exact ⟨rfl, HP.out.below⟩
end Go.Proofs.YtfcpblclfgkdjaaGreatDoor

namespace Go.Proofs.YtfcpblclfgkdjaaGreatDoor
set_option linter.unusedSimpArgs false
set_option linter.unusedVariables false
open Go.RowKit

section
variable {w0 : World} {B : World → Prop} {W : World}
theorem lr_rright (h : Nk w0 0 B [] W) (hB : Keep B) (l : List UInt8) (t : Nd) (a : Option Addr) (c : Nat) (hk : Kids w0 w0.heap.size a t.kids) (hf : Fits t c) (R : Bool) (hR : rightB l t = R) :
    Calls Tryz.prog 6 #[.agg #[.int .i64 t.kind, .string ⟨t.text.toArray⟩, .slice a t.kids.length c, .int .i64 t.pos], .string ⟨l.toArray⟩] W (NkPost w0 0 B [] (.bool R)) := hR ▸ nk_post h hB (rright_any l t a c W h.glob (hk.on h.below) hf)
theorem lr_rsize (h : Nk w0 0 B [] W) (hB : Keep B) (t : Nd) (a : Option Addr) (c : Nat) (hk : Kids w0 w0.heap.size a t.kids) (hf : Fits t c) (N : Int) (hN : wrap64 (walkL 100 t).length = N) :
    Calls Tryz.prog 5 #[.agg #[.int .i64 t.kind, .string ⟨t.text.toArray⟩, .slice a t.kids.length c, .int .i64 t.pos], .int .i64 100] W (NkPost w0 0 B [] (.int .i64 N)) := hN ▸ nk_post h hB (rsize_any 100 (by omega) t a c W (hk.on h.below) hf)
theorem lr_rdepth (h : Nk w0 0 B [] W) (hB : Keep B) (t : Nd) (a : Option Addr) (c : Nat) (hk : Kids w0 w0.heap.size a t.kids) (hf : Fits t c) (D : Int) (hD : min (t.height : Int) 101 = D) :
    Calls Tryz.prog 12 #[.agg #[.int .i64 t.kind, .string ⟨t.text.toArray⟩, .slice a t.kids.length c, .int .i64 t.pos], .int .i64 101] W (NkPost w0 0 B [] (.int .i64 D)) := by
  rw [← hD, show min (t.height : Int) 101 = ((min 101 t.height : Nat) : Int) by omega]
  exact nk_post h hB (rdepth_any 101 (by omega) t a c W (hk.on h.below) hf)
end

end Go.Proofs.YtfcpblclfgkdjaaGreatDoor

