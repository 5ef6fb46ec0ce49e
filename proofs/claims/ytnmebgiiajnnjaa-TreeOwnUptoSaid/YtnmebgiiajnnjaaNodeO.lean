/-
  tree.isDecl, walked.
-/
import Derived.Test.YtnmebgiiajnnjaaNodeN
namespace Go.Proofs.Ytnmebgiiajnnjaa
set_option linter.unusedSimpArgs false
set_option linter.unusedVariables false
open Go.RowKit

/-- isDecl's arm for types. -/
def typeDeclB (pr ty ss it : Nd → Bool) (t : Nd) : Bool := nameL t.text && kids2 pr (fun k => (ty k || ss k) || it k) t.kids

set_option maxHeartbeats 1000000 in
theorem decl_type (pr ty ss it : Nd → Bool) (n : Nat) (h1 : Ok 44 pr n) (h2 : Ok 35 ty n) (h3 : Ok 47 ss n) (h4 : Ok 48 it n)
    (t : Nd) (a : Option Addr) (c : Nat) (w : World) (hkind : t.kind = 3) (ht : t.height ≤ n + 1) (hg : Glob w) (hk : Kids w w.heap.size a t.kids) (hf : Fits t c) :
    Calls Try.prog 34 #[.agg #[.int .i64 t.kind, .string ⟨t.text.toArray⟩, .slice a t.kids.length c, .int .i64 t.pos]] w fun e w' => e = .returned (.bool (typeDeclB pr ty ss it t)) ∧ Below w.heap.size w w' := by
  have e2 : (t.kind == 2) = false := by simp [hkind]
  have e3 : (t.kind == 3) = true := by simp [hkind]
  have H1 := Lib.hid h1
  have H2 := Lib.hid h2
  have H3 := Lib.hid h3
  have H4 := Lib.hid h4
  have HG := Lib.hid hg
  have HK := Lib.hid hk
  have HF := Lib.hid hf
  have HKD := Lib.hid hkind
  have hl : t.text.length ≤ 140737488351232 := hf.2.2.2.2.1
  have hh : ∀ k, k ∈ t.kids → k.height ≤ n := fun k hk => by have := Nd.height_kid hk; omega
  have HH := Lib.hid hh
  have HS := Lib.hid (says_name t.text hl w)
  clear h1 h2 h3 h4 hg hk hf hkind hh
  go_enter Try.func34, Try.ntmps34
  cases hso : nameL t.text with
  | true =>
    have hs1 := HS.out
    rw [hso] at hs1
    have Hso := Lib.hid hso
    have HC1 := Lib.hid (named_next_yes (mid0 t a c w 24) 32 #[] enName hs1)
    clear hs1 hso HS
    go_wp2_with fail
    refine HC1.out.mono ?_
    rintro e w1 ⟨rfl, hm1, -⟩
    have HM1 := Lib.hid hm1
    clear hm1
    go_wp2_with fail
    refine (or_next HM1.out 35 47 #[] #[] enType enStruct).mono ?_
    rintro e w2 ⟨lb2, rfl, hm2, -, ho2⟩
    have HM2 := Lib.hid hm2
    have HO2 := Lib.hid ho2
    clear hm2 ho2
    go_wp2_with fail
    refine (or_next HM2.out 71 48 lb2 #[] enOr enInter).mono ?_
    rintro e w3 ⟨lb3, rfl, hm3, hbb3, ho3⟩
    have HM3 := Lib.hid hm3
    have HO3 := Lib.hid ho3
    have HA := Lib.hid (below_alloc w3 (.cells #[.func (.func 44) #[] #[], .func (.func 71) #[] lb3] 30))
    have HV := Lib.hid (bext HM3.out.on HA.out)
    clear hm3 ho3 hbb3
    go_wp2_with fail
    refine (of2e t a c 3 _ (f1 := pr) (f2 := fun k => (ty k || ss k) || it k) (by simp) (by simp [go_sem]) enParams (fun k hk => H1.out.says (HH.out k hk) (HG.out.on HV.out)) (by simp [go_sem]) enOr
      (fun k hk => (HO3.out k _ _ (HO2.out k _ _ (H2.out.says (HH.out k hk) (HG.out.on HM1.out.on)) (H3.out.says (HH.out k hk) (HG.out.on HM1.out.on))) (H4.out.says (HH.out k hk) (HG.out.on HM2.out.on))).on HA.out) (HK.out.on HV.out) HF.out).mono ?_
    rintro e w4 ⟨rfl, hb4⟩
    go_wp2_with fail
    all_goals
      go_ret
      exact ⟨ret_bool (by simp_all [typeDeclB, Hso.out, HKD.out]), bext HV.out hb4⟩
  | false =>
    have hs1 := HS.out
    rw [hso] at hs1
    have Hso := Lib.hid hso
    have HC1 := Lib.hid (named_next_no (mid0 t a c w 24) 32 #[] enName hs1)
    clear hs1 hso HS
    go_wp2_with fail
    refine HC1.out.mono ?_
    rintro e w1 ⟨rfl, hm1, -⟩
    have HM1 := Lib.hid hm1
    clear hm1
    go_wp2_with fail
    refine (or_next HM1.out 35 47 #[] #[] enType enStruct).mono ?_
    rintro e w2 ⟨lb2, rfl, hm2, -, ho2⟩
    have HM2 := Lib.hid hm2
    clear hm2 ho2
    go_wp2_with fail
    refine (or_next HM2.out 71 48 lb2 #[] enOr enInter).mono ?_
    rintro e w3 ⟨lb3, rfl, hm3, hbb3, ho3⟩
    have HM3 := Lib.hid hm3
    clear hm3 ho3 hbb3
    go_wp2_with fail
    refine (ofz 3 rfl rfl _ _ _ _).mono ?_
    rintro e w4 ⟨rfl, hb4⟩
    go_wp2_with fail
    go_ret
    exact ⟨ret_bool (by simp [typeDeclB, Hso.out]), bext (bext HM3.out.on (below_alloc _ _)) hb4⟩

def declB (pr sg bl ty ss it va : Nd → Bool) (t : Nd) : Bool :=
  if t.kind = 2 then nameL t.text && kids3 pr sg bl t.kids else if t.kind = 3 then typeDeclB pr ty ss it t else if t.kind = 4 then nameL t.text && kids2 pr ty t.kids else va t

theorem decl_ok (pr sg bl ty ss it va : Nd → Bool) (n : Nat) (h1 : Ok 44 pr n) (h2 : Ok 38 sg n) (h3 : Ok 45 bl n) (h4 : Ok 35 ty n)
    (h5 : Ok 47 ss n) (h6 : Ok 48 it n) (h7 : Ok 49 va (n + 1)) : Ok 34 (declB pr sg bl ty ss it va) (n + 1) := by
  intro t a c w ht hg hk hf
  by_cases k2 : t.kind = 2
  · have e : declB pr sg bl ty ss it va t = (nameL t.text && kids3 pr sg bl t.kids) := by simp [declB, k2]
    rw [e]; exact decl_func pr sg bl n h1 h2 h3 t a c w k2 ht hg hk hf
  · by_cases k3 : t.kind = 3
    · have e : declB pr sg bl ty ss it va t = typeDeclB pr ty ss it t := by simp [declB, k3]
      rw [e]; exact decl_type pr ty ss it n h1 h4 h5 h6 t a c w k3 ht hg hk hf
    · by_cases k4 : t.kind = 4
      · have e : declB pr sg bl ty ss it va t = (nameL t.text && kids2 pr ty t.kids) := by simp [declB, k4]
        rw [e]; exact decl_alias pr ty n h1 h4 t a c w k4 ht hg hk hf
      · have e : declB pr sg bl ty ss it va t = va t := by simp [declB, k2, k3, k4]
        rw [e]; exact decl_var va (n + 1) h7 t a c w ⟨k2, k3, k4⟩ ht hg hk hf
end Go.Proofs.Ytnmebgiiajnnjaa
