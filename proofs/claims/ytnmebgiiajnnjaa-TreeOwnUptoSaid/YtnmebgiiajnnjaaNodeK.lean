/-
  tree.isParams and isVar, walked.
-/
import Derived.Test.YtnmebgiiajnnjaaNodeJ
namespace Go.Proofs.Ytnmebgiiajnnjaa
set_option linter.unusedSimpArgs false
set_option linter.unusedVariables false
open Go.RowKit

set_option maxHeartbeats 400000 in
theorem params_ok (c1 it : Nd → Bool) (n : Nat) (h1 : Ok 68 c1 n) (h2 : Ok 48 it n) : Ok 44 (listB (tparamB c1 it)) (n + 1) := by
  intro t a c w ht hg hk hf
  have hB := below2 w (.cells #[.int .i64 t.kind, .string ⟨t.text.toArray⟩, .slice a t.kids.length c, .int .i64 t.pos] 24) (.cells #[.func (.func 68) #[] #[]] 30)
  have hcell : ((w.alloc (.cells #[.int .i64 t.kind, .string ⟨t.text.toArray⟩, .slice a t.kids.length c, .int .i64 t.pos] 24)).alloc (.cells #[.func (.func 68) #[] #[]] 30)).cell? ⟨w.heap.size + 1, 0, none⟩ = some (.func (.func 68) #[] #[]) := by simp [go_sem]
  have H := list_any t a c 70 #[.pointer (some ⟨w.heap.size + 1, 0, none⟩)] (tparamB c1 it) _ enParams2 (hk.on hB) hf
    (fun k hk W' a' c' hW hk' hf' => params2_any c1 it n h1 h2 k a' c' _ W' (by have := Nd.height_kid hk; omega) (hg.on (bext hB hW)) (cell_on hcell hW) hk' hf')
  have HB := Lib.hid hB
  clear h1 h2 hg hk hf hB hcell
  go_enter Try.func44, Try.ntmps44
  go_wp2_with fail
  refine H.mono ?_
  rintro e w1 ⟨rfl, hb1⟩
  go_wp2_with fail
  go_ret
  exact ⟨rfl, bext HB.out hb1⟩

/-- Two kids that lie one behind the other. -/
theorem kids_two {w : World} {B : Nat} {a : Option Addr} {l : List Nd} {x y : Nd} (e : l = [x, y]) (h : Kids w B a l) :
    ∃ b off xa xc ya yc, a = some ⟨b, off, none⟩ ∧ b < B ∧
      w.cell? ⟨b, off, none⟩ = some (.int .i64 x.kind) ∧ w.cell? ⟨b, off + 1, none⟩ = some (.string ⟨x.text.toArray⟩) ∧ w.cell? ⟨b, off + 2, none⟩ = some (.slice xa x.kids.length xc) ∧ w.cell? ⟨b, off + 3, none⟩ = some (.int .i64 x.pos) ∧
      w.cell? ⟨b, off + 4, none⟩ = some (.int .i64 y.kind) ∧ w.cell? ⟨b, off + 5, none⟩ = some (.string ⟨y.text.toArray⟩) ∧ w.cell? ⟨b, off + 6, none⟩ = some (.slice ya y.kids.length yc) ∧ w.cell? ⟨b, off + 7, none⟩ = some (.int .i64 y.pos) ∧
      Fits x xc ∧ Fits y yc ∧ Kids w B xa x.kids ∧ Kids w B ya y.kids := by
  subst e
  obtain ⟨b, off, xa, xc, rfl, hB, ⟨k0, k1, k2, k3⟩, hxf, hxn⟩ := h.get (j := 0) (by simp)
  obtain ⟨b', off', ya, yc, ek, hB', ⟨l0, l1, l2, l3⟩, hyf, hyn⟩ := h.get (j := 1) (by simp)
  obtain ⟨rfl, rfl⟩ : b = b' ∧ off = off' := by simpa using ek
  exact ⟨b, off, xa, xc, ya, yc, rfl, hB, k0, k1, k2, k3, l0, l1, l2, l3, hxf, hyf, hxn, hyn⟩

/-- Two kids, and not both of them None. -/
def varKids (ty ex : Nd → Bool) : List Nd → Bool
  | [x, y] => ((emptyB x || ty x) && (emptyB y || ex y)) && (!emptyB x || !emptyB y)
  | _ => false
def varB (ty ex : Nd → Bool) (t : Nd) : Bool := nameL t.text && (t.kind == 5 && varKids ty ex t.kids)

theorem var_of (ty ex : Nd → Bool) (n : Nat) (t : Nd) (a : Option Addr) (c : Nat) (w : World) (ht : t.height ≤ n + 1) (h1 : Ok 35 ty n) (h2 : Ok 36 ex n)
    (hg : Glob w) (hk : Kids w w.heap.size a t.kids) (hf : Fits t c) (lb2 lb3 : Array Value) (w1 w2 w3 : World) (hm1 : Mid t a c w w.heap.size w1) (hm2 : Mid t a c w w.heap.size w2) (hm3 : Mid t a c w w.heap.size w3) (hb3 : Below w2.heap.size w2 w3)
    (ho2 : ∀ k p q, SaysNd Try.prog 62 #[] k p w1 → SaysNd Try.prog 35 #[] k q w1 → SaysNd Try.prog 71 lb2 k (p || q) w2)
    (ho3 : ∀ k p q, SaysNd Try.prog 62 #[] k p w2 → SaysNd Try.prog 36 #[] k q w2 → SaysNd Try.prog 71 lb3 k (p || q) w3) :
    Calls Try.prog 42 #[.agg #[.int .i64 t.kind, .string ⟨#[]⟩, .slice a t.kids.length c, .int .i64 t.pos], .int .i64 5, .slice (some ⟨w3.heap.size, 0, none⟩) 2 2]
      (w3.alloc (.cells #[.func (.func 71) #[] lb2, .func (.func 71) #[] lb3] 30)) fun e w4 =>
        e = .returned (.bool (t.kind == 5 && kids2 (fun k => emptyB k || ty k) (fun k => emptyB k || ex k) t.kids)) ∧ Mid t a c w w.heap.size w4 := by
  have hA := below_alloc w3 (.cells #[.func (.func 71) #[] lb2, .func (.func 71) #[] lb3] 30)
  have hV := bext hm3.on hA
  have hh : ∀ k, k ∈ t.kids → k.height ≤ n := fun k hk => by have := Nd.height_kid hk; omega
  refine (of2e t a c 5 _ (f1 := fun k => emptyB k || ty k) (f2 := fun k => emptyB k || ex k) (by simp) (by simp [go_sem]) enOr
    (fun k hk => ((ho2 k _ _ ((empty_ok n).says (hh k hk) (hg.on hm1.on)) (h1.says (hh k hk) (hg.on hm1.on))).on hb3).on hA) (by simp [go_sem]) enOr
    (fun k hk => (ho3 k _ _ ((empty_ok n).says (hh k hk) (hg.on hm2.on)) (h2.says (hh k hk) (hg.on hm2.on))).on hA) (hk.on hV) hf).mono ?_
  rintro e w4 ⟨rfl, hb4⟩
  exact ⟨rfl, (hm3.next hA).next hb4⟩

set_option maxHeartbeats 1000000 in
theorem var_ok (ty ex : Nd → Bool) (n : Nat) (h1 : Ok 35 ty n) (h2 : Ok 36 ex n) : Ok 49 (varB ty ex) (n + 1) := by
  intro t a c w ht hg hk hf
  have H1 := Lib.hid h1
  have H2 := Lib.hid h2
  have HG := Lib.hid hg
  have HK := Lib.hid hk
  have HF := Lib.hid hf
  have hl : t.text.length ≤ 140737488351232 := hf.2.2.2.2.1
  have HS := Lib.hid (says_name t.text hl w)
  clear h1 h2 hg hk hf
  go_enter Try.func49, Try.ntmps49
  cases hso : nameL t.text with
  | true =>
    have hs1 := HS.out
    rw [hso] at hs1
    have Hso := Lib.hid hso
    have HC1 := Lib.hid (named_next_yes (mid0 t a c w 24) 32 #[] enName hs1)
    clear hs1 hso HS
    go_wp2_with fail
    refine HC1.out.mono ?_
    rintro e w1 ⟨rfl, hm1, -⟩
    have HM1 := Lib.hid hm1
    clear hm1
    go_wp2_with fail
    refine (or_next HM1.out 62 35 #[] #[] enEmpty enType).mono ?_
    rintro e w2 ⟨lb2, rfl, hm2, -, ho2⟩
    have HM2 := Lib.hid hm2
    have HO2 := Lib.hid ho2
    clear hm2 ho2
    go_wp2_with fail
    refine (or_next HM2.out 62 36 #[] #[] enEmpty enExpr).mono ?_
    rintro e w3 ⟨lb3, rfl, hm3, hbb3, ho3⟩
    have HM3 := Lib.hid hm3
    have HO3 := Lib.hid ho3
    have HB3 := Lib.hid hbb3
    clear hm3 ho3 hbb3
    go_wp2_with fail
    refine (var_of ty ex n t a c w ht H1.out H2.out HG.out HK.out HF.out _ _ _ _ _ HM1.out HM2.out HM3.out HB3.out HO2.out HO3.out).mono ?_
    rintro e w4 ⟨rfl, hm4⟩
    cases hr : (t.kind == 5 && kids2 (fun k => emptyB k || ty k) (fun k => emptyB k || ex k) t.kids) with
    | false =>
      have HM4 := Lib.hid hm4
      have hv : varB ty ex t = false := by
        simp only [varB, Hso.out, Bool.true_and]
        rcases h : t.kids with _ | ⟨x, _ | ⟨y, _ | ⟨z, r⟩⟩⟩ <;> simp_all [varKids, kids2]
      have HV := Lib.hid hv
      clear hm4 hr hv
      go_wp2_with fail
      go_ret
      exact ⟨ret_bool HV.out.symm, HM4.out.on⟩
    | true =>
      have hr2 := hr
      simp only [Bool.and_eq_true, beq_iff_eq] at hr2
      obtain ⟨hkind, hk2⟩ := hr2
      obtain ⟨x, y, hxy, hx, hy⟩ : ∃ x y, t.kids = [x, y] ∧ (emptyB x || ty x) = true ∧ (emptyB y || ex y) = true := by
        rcases h : t.kids with _ | ⟨x, _ | ⟨y, _ | ⟨z, r⟩⟩⟩ <;> simp [kids2, h] at hk2
        exact ⟨x, y, rfl, by simpa using hk2.1, by simpa using hk2.2⟩
      have hv : varB ty ex t = (!emptyB x || !emptyB y) := by
        simp only [varB, Hso.out, hkind, hxy, varKids, hx, hy]; simp
      obtain ⟨kb, koff, xa, xc, ya, yc, rfl, hkB, k0, k1, k2, k3, l0, l1, l2, l3, hxf, hyf, hxn, hyn⟩ := kids_two hxy (HK.out.on hm4.on)
      have hlen : t.kids.length = 2 := by rw [hxy]; rfl
      obtain ⟨a0, a1, a2, a3⟩ := hm4.four
      rw [hlen] at a2
      have HM4 := Lib.hid hm4
      have HV := Lib.hid hv
      have HR := Lib.hid hr
      clear hm4 hv hr hxy hx hy hk2 hkind hlen
      have HE1 : Calls Try.prog 62 #[.agg #[.int .i64 x.kind, .string ⟨x.text.toArray⟩, .slice xa x.kids.length xc, .int .i64 x.pos]] w4 fun e w' => e = .returned (.bool (emptyB x)) ∧ Below w4.heap.size w4 w' := empty_any x xa xc w4
      have HE2 : ∀ W, Calls Try.prog 62 #[.agg #[.int .i64 y.kind, .string ⟨y.text.toArray⟩, .slice ya y.kids.length yc, .int .i64 y.pos]] W fun e w' => e = .returned (.bool (emptyB y)) ∧ Below W.heap.size W w' := fun W => empty_any y ya yc W
      cases hex : emptyB x with
      | false =>
        rw [hex] at HE1
        have HX := Lib.hid hex
        have HE := Lib.hid HE1
        clear hex HE1 HE2
        go_wp2_with fail
        refine HE.out.mono ?_
        rintro e w5 ⟨rfl, hb5⟩
        go_wp2_with fail
        go_ret
        exact ⟨ret_bool (by rw [HV.out, HX.out]; rfl), bext HM4.out.on hb5⟩
      | true =>
        rw [hex] at HE1
        have HX := Lib.hid hex
        have HE := Lib.hid HE1
        have HEy := Lib.hid HE2
        clear hex HE1 HE2
        go_wp2_with fail
        refine HE.out.mono ?_
        rintro e w5 ⟨rfl, hb5⟩
        have b2 := cell_on a2 hb5
        have m0 := cell_on l0 hb5
        have m1 := cell_on l1 hb5
        have m2 := cell_on l2 hb5
        have m3 := cell_on l3 hb5
        have HB5 := Lib.hid (bext HM4.out.on hb5)
        clear hb5
        go_wp2_with fail
        refine (HEy.out _).mono ?_
        rintro e w6 ⟨rfl, hb6⟩
        go_wp2_with fail
        go_ret
        exact ⟨ret_bool (by rw [HV.out, HX.out]; rfl), bext HB5.out hb6⟩
  | false =>
    have hs1 := HS.out
    rw [hso] at hs1
    have Hso := Lib.hid hso
    have HC1 := Lib.hid (named_next_no (mid0 t a c w 24) 32 #[] enName hs1)
    clear hs1 hso HS
    go_wp2_with fail
    refine HC1.out.mono ?_
    rintro e w1 ⟨rfl, hm1, -⟩
    have HM1 := Lib.hid hm1
    clear hm1
    go_wp2_with fail
    refine (or_next HM1.out 62 35 #[] #[] enEmpty enType).mono ?_
    rintro e w2 ⟨lb2, rfl, hm2, -, ho2⟩
    have HM2 := Lib.hid hm2
    clear hm2 ho2
    go_wp2_with fail
    refine (or_next HM2.out 62 36 #[] #[] enEmpty enExpr).mono ?_
    rintro e w3 ⟨lb3, rfl, hm3, hbb3, ho3⟩
    have HM3 := Lib.hid hm3
    clear hm3 ho3 hbb3
    go_wp2_with fail
    refine (ofz 5 rfl rfl _ _ _ _).mono ?_
    rintro e w4 ⟨rfl, hb4⟩
    go_wp2_with fail
    go_ret
    exact ⟨ret_bool (by simp [varB, Hso.out]), bext (bext HM3.out.on (below_alloc _ _)) hb4⟩
end Go.Proofs.Ytnmebgiiajnnjaa
