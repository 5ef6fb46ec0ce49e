/-
  The arms of tree.isStmt but the one for loops. Printed by gen_arms.py.
-/
import Derived.Test.YtnmebgiiajnnjaaNodeM
namespace Go.Proofs.Ytnmebgiiajnnjaa
set_option linter.unusedSimpArgs false
set_option linter.unusedVariables false
open Go.RowKit
theorem enRanged : Enters Try.prog 63 := enters_of Try.func63 (by kernel_rfl) rfl

set_option maxHeartbeats 400000 in
theorem stmt_var (f : Nd → Bool) (n : Nat) (h1 : Ok 49 f n) (t : Nd) (a : Option Addr) (c : Nat) (w : World) (hkind : t.kind = 5) (ht : t.height ≤ n) (hg : Glob w) (hk : Kids w w.heap.size a t.kids) (hf : Fits t c) :
    Calls Try.prog 37 #[.agg #[.int .i64 t.kind, .string ⟨t.text.toArray⟩, .slice a t.kids.length c, .int .i64 t.pos]] w fun e w' => e = .returned (.bool (f t)) ∧ Below w.heap.size w w' := by
  have e5 : (t.kind == 5) = true := by simp [hkind]
  have HB0 := Lib.hid (below_alloc w (.cells #[.int .i64 t.kind, .string ⟨t.text.toArray⟩, .slice a t.kids.length c, .int .i64 t.pos] 24))
  have H := h1 t a c _ ht (hg.on HB0.out) (hk.on HB0.out) hf
  clear h1 hg hk hf hkind
  go_enter Try.func37, Try.ntmps37
  go_wp2_with fail
  refine H.mono ?_
  rintro e w1 ⟨rfl, hb1⟩
  go_wp2_with fail
  go_ret
  exact ⟨rfl, bext HB0.out hb1⟩

set_option maxHeartbeats 400000 in
theorem stmt_short (f : Nd → Bool) (n : Nat) (h1 : Ok 57 f n) (t : Nd) (a : Option Addr) (c : Nat) (w : World) (hkind : t.kind = 26) (ht : t.height ≤ n) (hg : Glob w) (hk : Kids w w.heap.size a t.kids) (hf : Fits t c) :
    Calls Try.prog 37 #[.agg #[.int .i64 t.kind, .string ⟨t.text.toArray⟩, .slice a t.kids.length c, .int .i64 t.pos]] w fun e w' => e = .returned (.bool (f t)) ∧ Below w.heap.size w w' := by
  have e5 : (t.kind == 5) = false := by simp [hkind]
  have e26 : (t.kind == 26) = true := by simp [hkind]
  have HB0 := Lib.hid (below_alloc w (.cells #[.int .i64 t.kind, .string ⟨t.text.toArray⟩, .slice a t.kids.length c, .int .i64 t.pos] 24))
  have H := h1 t a c _ ht (hg.on HB0.out) (hk.on HB0.out) hf
  clear h1 hg hk hf hkind
  go_enter Try.func37, Try.ntmps37
  go_wp2_with fail
  refine H.mono ?_
  rintro e w1 ⟨rfl, hb1⟩
  go_wp2_with fail
  go_ret
  exact ⟨rfl, bext HB0.out hb1⟩

set_option maxHeartbeats 400000 in
theorem stmt_set (f : Nd → Bool) (n : Nat) (h1 : Ok 58 f n) (t : Nd) (a : Option Addr) (c : Nat) (w : World) (hkind : t.kind = 27) (ht : t.height ≤ n) (hg : Glob w) (hk : Kids w w.heap.size a t.kids) (hf : Fits t c) :
    Calls Try.prog 37 #[.agg #[.int .i64 t.kind, .string ⟨t.text.toArray⟩, .slice a t.kids.length c, .int .i64 t.pos]] w fun e w' => e = .returned (.bool (f t)) ∧ Below w.heap.size w w' := by
  have e5 : (t.kind == 5) = false := by simp [hkind]
  have e26 : (t.kind == 26) = false := by simp [hkind]
  have e27 : (t.kind == 27) = true := by simp [hkind]
  have HB0 := Lib.hid (below_alloc w (.cells #[.int .i64 t.kind, .string ⟨t.text.toArray⟩, .slice a t.kids.length c, .int .i64 t.pos] 24))
  have H := h1 t a c _ ht (hg.on HB0.out) (hk.on HB0.out) hf
  clear h1 hg hk hf hkind
  go_enter Try.func37, Try.ntmps37
  go_wp2_with fail
  refine H.mono ?_
  rintro e w1 ⟨rfl, hb1⟩
  go_wp2_with fail
  go_ret
  exact ⟨rfl, bext HB0.out hb1⟩

set_option maxHeartbeats 400000 in
theorem stmt_inc (f : Nd → Bool) (n : Nat) (h1 : Ok 59 f n) (t : Nd) (a : Option Addr) (c : Nat) (w : World) (hkind : t.kind = 28) (ht : t.height ≤ n) (hg : Glob w) (hk : Kids w w.heap.size a t.kids) (hf : Fits t c) :
    Calls Try.prog 37 #[.agg #[.int .i64 t.kind, .string ⟨t.text.toArray⟩, .slice a t.kids.length c, .int .i64 t.pos]] w fun e w' => e = .returned (.bool (f t)) ∧ Below w.heap.size w w' := by
  have e5 : (t.kind == 5) = false := by simp [hkind]
  have e26 : (t.kind == 26) = false := by simp [hkind]
  have e27 : (t.kind == 27) = false := by simp [hkind]
  have e28 : (t.kind == 28) = true := by simp [hkind]
  have HB0 := Lib.hid (below_alloc w (.cells #[.int .i64 t.kind, .string ⟨t.text.toArray⟩, .slice a t.kids.length c, .int .i64 t.pos] 24))
  have H := h1 t a c _ ht (hg.on HB0.out) (hk.on HB0.out) hf
  clear h1 hg hk hf hkind
  go_enter Try.func37, Try.ntmps37
  go_wp2_with fail
  refine H.mono ?_
  rintro e w1 ⟨rfl, hb1⟩
  go_wp2_with fail
  go_ret
  exact ⟨rfl, bext HB0.out hb1⟩

set_option maxHeartbeats 400000 in
theorem stmt_call (f : Nd → Bool) (n : Nat) (h1 : Ok 60 f n) (t : Nd) (a : Option Addr) (c : Nat) (w : World) (hkind : t.kind = 29) (ht : t.height ≤ n) (hg : Glob w) (hk : Kids w w.heap.size a t.kids) (hf : Fits t c) :
    Calls Try.prog 37 #[.agg #[.int .i64 t.kind, .string ⟨t.text.toArray⟩, .slice a t.kids.length c, .int .i64 t.pos]] w fun e w' => e = .returned (.bool (f t)) ∧ Below w.heap.size w w' := by
  have e5 : (t.kind == 5) = false := by simp [hkind]
  have e26 : (t.kind == 26) = false := by simp [hkind]
  have e27 : (t.kind == 27) = false := by simp [hkind]
  have e28 : (t.kind == 28) = false := by simp [hkind]
  have e29 : (t.kind == 29) = true := by simp [hkind]
  have HB0 := Lib.hid (below_alloc w (.cells #[.int .i64 t.kind, .string ⟨t.text.toArray⟩, .slice a t.kids.length c, .int .i64 t.pos] 24))
  have H := h1 t a c _ ht (hg.on HB0.out) (hk.on HB0.out) hf
  clear h1 hg hk hf hkind
  go_enter Try.func37, Try.ntmps37
  go_wp2_with fail
  refine H.mono ?_
  rintro e w1 ⟨rfl, hb1⟩
  go_wp2_with fail
  go_ret
  exact ⟨rfl, bext HB0.out hb1⟩

set_option maxHeartbeats 400000 in
theorem stmt_if (f : Nd → Bool) (n : Nat) (h1 : Ok 61 f n) (t : Nd) (a : Option Addr) (c : Nat) (w : World) (hkind : t.kind = 30) (ht : t.height ≤ n) (hg : Glob w) (hk : Kids w w.heap.size a t.kids) (hf : Fits t c) :
    Calls Try.prog 37 #[.agg #[.int .i64 t.kind, .string ⟨t.text.toArray⟩, .slice a t.kids.length c, .int .i64 t.pos]] w fun e w' => e = .returned (.bool (f t)) ∧ Below w.heap.size w w' := by
  have e5 : (t.kind == 5) = false := by simp [hkind]
  have e26 : (t.kind == 26) = false := by simp [hkind]
  have e27 : (t.kind == 27) = false := by simp [hkind]
  have e28 : (t.kind == 28) = false := by simp [hkind]
  have e29 : (t.kind == 29) = false := by simp [hkind]
  have e30 : (t.kind == 30) = true := by simp [hkind]
  have HB0 := Lib.hid (below_alloc w (.cells #[.int .i64 t.kind, .string ⟨t.text.toArray⟩, .slice a t.kids.length c, .int .i64 t.pos] 24))
  have H := h1 t a c _ ht (hg.on HB0.out) (hk.on HB0.out) hf
  clear h1 hg hk hf hkind
  go_enter Try.func37, Try.ntmps37
  go_wp2_with fail
  refine H.mono ?_
  rintro e w1 ⟨rfl, hb1⟩
  go_wp2_with fail
  go_ret
  exact ⟨rfl, bext HB0.out hb1⟩

set_option maxHeartbeats 400000 in
theorem stmt_range (ex bl : Nd → Bool) (n : Nat) (h1 : Ok 36 ex n) (h2 : Ok 45 bl n) (t : Nd) (a : Option Addr) (c : Nat) (w : World) (hkind : t.kind = 32) (ht : t.height ≤ n + 1) (hg : Glob w) (hk : Kids w w.heap.size a t.kids) (hf : Fits t c) :
    Calls Try.prog 37 #[.agg #[.int .i64 t.kind, .string ⟨t.text.toArray⟩, .slice a t.kids.length c, .int .i64 t.pos]] w fun e w' => e = .returned (.bool (rangedL t.text && kids2 ex bl t.kids)) ∧ Below w.heap.size w w' := by
  have e5 : (t.kind == 5) = false := by simp [hkind]
  have e26 : (t.kind == 26) = false := by simp [hkind]
  have e27 : (t.kind == 27) = false := by simp [hkind]
  have e28 : (t.kind == 28) = false := by simp [hkind]
  have e29 : (t.kind == 29) = false := by simp [hkind]
  have e30 : (t.kind == 30) = false := by simp [hkind]
  have e31 : (t.kind == 31) = false := by simp [hkind]
  have e32 : (t.kind == 32) = true := by simp [hkind]
  have H1 := Lib.hid h1
  have H2 := Lib.hid h2
  have HG := Lib.hid hg
  have HK := Lib.hid hk
  have HF := Lib.hid hf
  have HB0 := Lib.hid (below_alloc w (.cells #[.int .i64 t.kind, .string ⟨t.text.toArray⟩, .slice a t.kids.length c, .int .i64 t.pos] 24))
  have hl : t.text.length ≤ 140737488351232 := hf.2.2.2.2.1
  have hs : SaysTx Try.prog 63 #[] t.text (rangedL t.text) w := says_ranged t.text hl w
  have HS := Lib.hid hs
  clear h1 h2 hg hk hf hs hkind
  go_enter Try.func37, Try.ntmps37
  cases hso : rangedL t.text with
  | true =>
    have hs1 := HS.out
    rw [hso] at hs1
    have HS1 := Lib.hid hs1
    clear hs1 hso
    go_wp2_with fail
    refine (named_yes t a c 63 #[] _ enRanged (HS1.out.on HB0.out)).mono ?_
    rintro e w1 ⟨rfl, hb1⟩
    have HB := Lib.hid (bext (bext HB0.out hb1) (below_alloc w1 (.cells #[.func (.func 36) #[] #[], .func (.func 45) #[] #[]] 30)))
    go_wp2_with fail
    refine (of2e t a c 32 _ (f1 := ex) (f2 := bl) (by simp) (by simp [go_sem]) enExpr (H1.out.kids ht (HG.out.on HB.out)) (by simp [go_sem]) enBlock (H2.out.kids ht (HG.out.on HB.out)) (HK.out.on HB.out) HF.out).mono ?_
    rintro e w2 ⟨rfl, hb2⟩
    go_wp2_with fail
    all_goals
      go_ret
      exact ⟨ret_bool (by simp_all), bext HB.out hb2⟩
  | false =>
    have hs1 := HS.out
    rw [hso] at hs1
    have HS1 := Lib.hid hs1
    clear hs1 hso
    go_wp2_with fail
    refine (named_no t a c 63 #[] _ enRanged (HS1.out.on HB0.out)).mono ?_
    rintro e w1 ⟨rfl, hb1⟩
    have HB := Lib.hid (bext (bext HB0.out hb1) (below_alloc w1 (.cells #[.func (.func 36) #[] #[], .func (.func 45) #[] #[]] 30)))
    go_wp2_with fail
    refine (ofz 32 rfl rfl _ _ _ _).mono ?_
    rintro e w2 ⟨rfl, hb2⟩
    go_wp2_with fail
    go_ret
    exact ⟨ret_bool (by rfl), bext HB.out hb2⟩
end Go.Proofs.Ytnmebgiiajnnjaa
