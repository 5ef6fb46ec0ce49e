/-
  The arms of tree.isDecl but the one for types. Printed by gen_arms.py.
-/
import Derived.Test.YtnmebgiiajnnjaaNodeK
namespace Go.Proofs.Ytnmebgiiajnnjaa
set_option linter.unusedSimpArgs false
set_option linter.unusedVariables false
open Go.RowKit
theorem enParams : Enters Try.prog 44 := enters_of Try.func44 (by kernel_rfl) rfl
theorem enSig : Enters Try.prog 38 := enters_of Try.func38 (by kernel_rfl) rfl
theorem enStruct : Enters Try.prog 47 := enters_of Try.func47 (by kernel_rfl) rfl

set_option maxHeartbeats 400000 in
theorem decl_func (pr sg bl : Nd → Bool) (n : Nat) (h1 : Ok 44 pr n) (h2 : Ok 38 sg n) (h3 : Ok 45 bl n) (t : Nd) (a : Option Addr) (c : Nat) (w : World) (hkind : t.kind = 2) (ht : t.height ≤ n + 1) (hg : Glob w) (hk : Kids w w.heap.size a t.kids) (hf : Fits t c) :
    Calls Try.prog 34 #[.agg #[.int .i64 t.kind, .string ⟨t.text.toArray⟩, .slice a t.kids.length c, .int .i64 t.pos]] w fun e w' => e = .returned (.bool (nameL t.text && kids3 pr sg bl t.kids)) ∧ Below w.heap.size w w' := by
  have e2 : (t.kind == 2) = true := by simp [hkind]
  have H1 := Lib.hid h1
  have H2 := Lib.hid h2
  have H3 := Lib.hid h3
  have HG := Lib.hid hg
  have HK := Lib.hid hk
  have HF := Lib.hid hf
  have HB0 := Lib.hid (below_alloc w (.cells #[.int .i64 t.kind, .string ⟨t.text.toArray⟩, .slice a t.kids.length c, .int .i64 t.pos] 24))
  have hl : t.text.length ≤ 140737488351232 := hf.2.2.2.2.1
  have hs : SaysTx Try.prog 32 #[] t.text (nameL t.text) w := says_name t.text hl w
  have HS := Lib.hid hs
  clear h1 h2 h3 hg hk hf hs hkind
  go_enter Try.func34, Try.ntmps34
  cases hso : nameL t.text with
  | true =>
    have hs1 := HS.out
    rw [hso] at hs1
    have HS1 := Lib.hid hs1
    clear hs1 hso
    go_wp2_with fail
    refine (named_yes t a c 32 #[] _ enName (HS1.out.on HB0.out)).mono ?_
    rintro e w1 ⟨rfl, hb1⟩
    have HB := Lib.hid (bext (bext HB0.out hb1) (below_alloc w1 (.cells #[.func (.func 44) #[] #[], .func (.func 38) #[] #[], .func (.func 45) #[] #[]] 30)))
    go_wp2_with fail
    refine (of3e t a c 2 _ (f1 := pr) (f2 := sg) (f3 := bl) (by simp) (by simp [go_sem]) enParams (H1.out.kids ht (HG.out.on HB.out)) (by simp [go_sem]) enSig (H2.out.kids ht (HG.out.on HB.out)) (by simp [go_sem]) enBlock (H3.out.kids ht (HG.out.on HB.out)) (HK.out.on HB.out) HF.out).mono ?_
    rintro e w2 ⟨rfl, hb2⟩
    go_wp2_with fail
    all_goals
      go_ret
      exact ⟨ret_bool (by simp_all), bext HB.out hb2⟩
  | false =>
    have hs1 := HS.out
    rw [hso] at hs1
    have HS1 := Lib.hid hs1
    clear hs1 hso
    go_wp2_with fail
    refine (named_no t a c 32 #[] _ enName (HS1.out.on HB0.out)).mono ?_
    rintro e w1 ⟨rfl, hb1⟩
    have HB := Lib.hid (bext (bext HB0.out hb1) (below_alloc w1 (.cells #[.func (.func 44) #[] #[], .func (.func 38) #[] #[], .func (.func 45) #[] #[]] 30)))
    go_wp2_with fail
    refine (ofz 2 rfl rfl _ _ _ _).mono ?_
    rintro e w2 ⟨rfl, hb2⟩
    go_wp2_with fail
    go_ret
    exact ⟨ret_bool (by rfl), bext HB.out hb2⟩

set_option maxHeartbeats 400000 in
theorem decl_alias (pr ty : Nd → Bool) (n : Nat) (h1 : Ok 44 pr n) (h2 : Ok 35 ty n) (t : Nd) (a : Option Addr) (c : Nat) (w : World) (hkind : t.kind = 4) (ht : t.height ≤ n + 1) (hg : Glob w) (hk : Kids w w.heap.size a t.kids) (hf : Fits t c) :
    Calls Try.prog 34 #[.agg #[.int .i64 t.kind, .string ⟨t.text.toArray⟩, .slice a t.kids.length c, .int .i64 t.pos]] w fun e w' => e = .returned (.bool (nameL t.text && kids2 pr ty t.kids)) ∧ Below w.heap.size w w' := by
  have e2 : (t.kind == 2) = false := by simp [hkind]
  have e3 : (t.kind == 3) = false := by simp [hkind]
  have e4 : (t.kind == 4) = true := by simp [hkind]
  have H1 := Lib.hid h1
  have H2 := Lib.hid h2
  have HG := Lib.hid hg
  have HK := Lib.hid hk
  have HF := Lib.hid hf
  have HB0 := Lib.hid (below_alloc w (.cells #[.int .i64 t.kind, .string ⟨t.text.toArray⟩, .slice a t.kids.length c, .int .i64 t.pos] 24))
  have hl : t.text.length ≤ 140737488351232 := hf.2.2.2.2.1
  have hs : SaysTx Try.prog 32 #[] t.text (nameL t.text) w := says_name t.text hl w
  have HS := Lib.hid hs
  clear h1 h2 hg hk hf hs hkind
  go_enter Try.func34, Try.ntmps34
  cases hso : nameL t.text with
  | true =>
    have hs1 := HS.out
    rw [hso] at hs1
    have HS1 := Lib.hid hs1
    clear hs1 hso
    go_wp2_with fail
    refine (named_yes t a c 32 #[] _ enName (HS1.out.on HB0.out)).mono ?_
    rintro e w1 ⟨rfl, hb1⟩
    have HB := Lib.hid (bext (bext HB0.out hb1) (below_alloc w1 (.cells #[.func (.func 44) #[] #[], .func (.func 35) #[] #[]] 30)))
    go_wp2_with fail
    refine (of2e t a c 4 _ (f1 := pr) (f2 := ty) (by simp) (by simp [go_sem]) enParams (H1.out.kids ht (HG.out.on HB.out)) (by simp [go_sem]) enType (H2.out.kids ht (HG.out.on HB.out)) (HK.out.on HB.out) HF.out).mono ?_
    rintro e w2 ⟨rfl, hb2⟩
    go_wp2_with fail
    all_goals
      go_ret
      exact ⟨ret_bool (by simp_all), bext HB.out hb2⟩
  | false =>
    have hs1 := HS.out
    rw [hso] at hs1
    have HS1 := Lib.hid hs1
    clear hs1 hso
    go_wp2_with fail
    refine (named_no t a c 32 #[] _ enName (HS1.out.on HB0.out)).mono ?_
    rintro e w1 ⟨rfl, hb1⟩
    have HB := Lib.hid (bext (bext HB0.out hb1) (below_alloc w1 (.cells #[.func (.func 44) #[] #[], .func (.func 35) #[] #[]] 30)))
    go_wp2_with fail
    refine (ofz 4 rfl rfl _ _ _ _).mono ?_
    rintro e w2 ⟨rfl, hb2⟩
    go_wp2_with fail
    go_ret
    exact ⟨ret_bool (by rfl), bext HB.out hb2⟩

set_option maxHeartbeats 400000 in
theorem decl_var (va : Nd → Bool) (n : Nat) (h1 : Ok 49 va n) (t : Nd) (a : Option Addr) (c : Nat) (w : World) (hkind : ¬ t.kind = 2 ∧ ¬ t.kind = 3 ∧ ¬ t.kind = 4) (ht : t.height ≤ n) (hg : Glob w) (hk : Kids w w.heap.size a t.kids) (hf : Fits t c) :
    Calls Try.prog 34 #[.agg #[.int .i64 t.kind, .string ⟨t.text.toArray⟩, .slice a t.kids.length c, .int .i64 t.pos]] w fun e w' => e = .returned (.bool (va t)) ∧ Below w.heap.size w w' := by
  have e2 : (t.kind == 2) = false := by simp [hkind]
  have e3 : (t.kind == 3) = false := by simp [hkind]
  have e4 : (t.kind == 4) = false := by simp [hkind]
  have HB0 := Lib.hid (below_alloc w (.cells #[.int .i64 t.kind, .string ⟨t.text.toArray⟩, .slice a t.kids.length c, .int .i64 t.pos] 24))
  have H := h1 t a c _ ht (hg.on HB0.out) (hk.on HB0.out) hf
  clear h1 hg hk hf hkind
  go_enter Try.func34, Try.ntmps34
  go_wp2_with fail
  refine H.mono ?_
  rintro e w1 ⟨rfl, hb1⟩
  go_wp2_with fail
  go_ret
  exact ⟨rfl, bext HB0.out hb1⟩
end Go.Proofs.Ytnmebgiiajnnjaa
