/-
  The arms of tree.isExpr that tree.of holds. Printed by gen_arms.py.
-/
import Derived.Test.YtnmebgiiajnnjaaNodeL
import Derived.Test.YtnmebgiiajnnjaaPlain
namespace Go.Proofs.Ytnmebgiiajnnjaa
set_option linter.unusedSimpArgs false
set_option linter.unusedVariables false
open Go.RowKit
theorem enPlain : Enters Try.prog 52 := enters_of Try.func52 (by kernel_rfl) rfl
theorem enUnary : Enters Try.prog 54 := enters_of Try.func54 (by kernel_rfl) rfl
theorem enBinary : Enters Try.prog 55 := enters_of Try.func55 (by kernel_rfl) rfl
theorem enShortText : Enters Try.prog 53 := enters_of Try.func53 (by kernel_rfl) rfl
def shortL (l : List UInt8) : Bool := decide (l.length ≤ 1000)
set_option maxHeartbeats 400000 in
theorem short_any (l : List UInt8) (w : World) :
    Calls Try.prog 53 #[.string ⟨l.toArray⟩] w fun e w' => e = .returned (.bool (shortL l)) ∧ Below w.heap.size w w' := by
  go_enter Try.func53, Try.ntmps53
  go_wp2_with fail
  all_goals
    go_ret
    refine ⟨ret_bool ?_, Below.refl _ _⟩
    unfold shortL
    first | rfl | (simp; done) | (simp; omega)
theorem says_short (l : List UInt8) (w : World) : SaysTx Try.prog 53 #[] l (shortL l) w := fun W _ => by simpa using short_any l W
theorem says_plain (l : List UInt8) (hl : l.length ≤ 140737488351232) (w : World) : SaysTx Try.prog 52 #[] l (plainL l) w := fun W _ => by simpa using plain_any l W (by omega)

set_option maxHeartbeats 400000 in
theorem expr_int (n : Nat)  (t : Nd) (a : Option Addr) (c : Nat) (w : World) (hkind : t.kind = 16) (ht : t.height ≤ n + 1) (hg : Glob w) (hk : Kids w w.heap.size a t.kids) (hf : Fits t c) :
    Calls Try.prog 36 #[.agg #[.int .i64 t.kind, .string ⟨t.text.toArray⟩, .slice a t.kids.length c, .int .i64 t.pos]] w fun e w' => e = .returned (.bool (plainL t.text && kids0  t.kids)) ∧ Below w.heap.size w w' := by
  have e16 : (t.kind == 16) = true := by simp [hkind]
  have HG := Lib.hid hg
  have HK := Lib.hid hk
  have HF := Lib.hid hf
  have HB0 := Lib.hid (below_alloc w (.cells #[.int .i64 t.kind, .string ⟨t.text.toArray⟩, .slice a t.kids.length c, .int .i64 t.pos] 24))
  have hl : t.text.length ≤ 140737488351232 := hf.2.2.2.2.1
  have hs : SaysTx Try.prog 52 #[] t.text (plainL t.text) w := says_plain t.text hl w
  have HS := Lib.hid hs
  clear  hg hk hf hs hkind
  go_enter Try.func36, Try.ntmps36
  cases hso : plainL t.text with
  | true =>
    have hs1 := HS.out
    rw [hso] at hs1
    have HS1 := Lib.hid hs1
    clear hs1 hso
    go_wp2_with fail
    refine (named_yes t a c 52 #[] _ enPlain (HS1.out.on HB0.out)).mono ?_
    rintro e w1 ⟨rfl, hb1⟩
    have HB := Lib.hid (bext HB0.out hb1)
    go_wp2_with fail
    refine (of0e t a c 16 _ (HK.out.on HB.out) HF.out).mono ?_
    rintro e w2 ⟨rfl, hb2⟩
    go_wp2_with fail
    all_goals
      go_ret
      exact ⟨ret_bool (by simp_all), bext HB.out hb2⟩
  | false =>
    have hs1 := HS.out
    rw [hso] at hs1
    have HS1 := Lib.hid hs1
    clear hs1 hso
    go_wp2_with fail
    refine (named_no t a c 52 #[] _ enPlain (HS1.out.on HB0.out)).mono ?_
    rintro e w1 ⟨rfl, hb1⟩
    have HB := Lib.hid (bext HB0.out hb1)
    go_wp2_with fail
    refine (ofz 16 rfl rfl _ _ _ _).mono ?_
    rintro e w2 ⟨rfl, hb2⟩
    go_wp2_with fail
    go_ret
    exact ⟨ret_bool (by rfl), bext HB.out hb2⟩

set_option maxHeartbeats 400000 in
theorem expr_str (n : Nat)  (t : Nd) (a : Option Addr) (c : Nat) (w : World) (hkind : t.kind = 17) (ht : t.height ≤ n + 1) (hg : Glob w) (hk : Kids w w.heap.size a t.kids) (hf : Fits t c) :
    Calls Try.prog 36 #[.agg #[.int .i64 t.kind, .string ⟨t.text.toArray⟩, .slice a t.kids.length c, .int .i64 t.pos]] w fun e w' => e = .returned (.bool (shortL t.text && kids0  t.kids)) ∧ Below w.heap.size w w' := by
  have e16 : (t.kind == 16) = false := by simp [hkind]
  have e17 : (t.kind == 17) = true := by simp [hkind]
  have HG := Lib.hid hg
  have HK := Lib.hid hk
  have HF := Lib.hid hf
  have HB0 := Lib.hid (below_alloc w (.cells #[.int .i64 t.kind, .string ⟨t.text.toArray⟩, .slice a t.kids.length c, .int .i64 t.pos] 24))
  have hl : t.text.length ≤ 140737488351232 := hf.2.2.2.2.1
  have hs : SaysTx Try.prog 53 #[] t.text (shortL t.text) w := says_short t.text w
  have HS := Lib.hid hs
  clear  hg hk hf hs hkind
  go_enter Try.func36, Try.ntmps36
  cases hso : shortL t.text with
  | true =>
    have hs1 := HS.out
    rw [hso] at hs1
    have HS1 := Lib.hid hs1
    clear hs1 hso
    go_wp2_with fail
    refine (named_yes t a c 53 #[] _ enShortText (HS1.out.on HB0.out)).mono ?_
    rintro e w1 ⟨rfl, hb1⟩
    have HB := Lib.hid (bext HB0.out hb1)
    go_wp2_with fail
    refine (of0e t a c 17 _ (HK.out.on HB.out) HF.out).mono ?_
    rintro e w2 ⟨rfl, hb2⟩
    go_wp2_with fail
    all_goals
      go_ret
      exact ⟨ret_bool (by simp_all), bext HB.out hb2⟩
  | false =>
    have hs1 := HS.out
    rw [hso] at hs1
    have HS1 := Lib.hid hs1
    clear hs1 hso
    go_wp2_with fail
    refine (named_no t a c 53 #[] _ enShortText (HS1.out.on HB0.out)).mono ?_
    rintro e w1 ⟨rfl, hb1⟩
    have HB := Lib.hid (bext HB0.out hb1)
    go_wp2_with fail
    refine (ofz 17 rfl rfl _ _ _ _).mono ?_
    rintro e w2 ⟨rfl, hb2⟩
    go_wp2_with fail
    go_ret
    exact ⟨ret_bool (by rfl), bext HB.out hb2⟩

set_option maxHeartbeats 400000 in
theorem expr_name (n : Nat)  (t : Nd) (a : Option Addr) (c : Nat) (w : World) (hkind : t.kind = 18) (ht : t.height ≤ n + 1) (hg : Glob w) (hk : Kids w w.heap.size a t.kids) (hf : Fits t c) :
    Calls Try.prog 36 #[.agg #[.int .i64 t.kind, .string ⟨t.text.toArray⟩, .slice a t.kids.length c, .int .i64 t.pos]] w fun e w' => e = .returned (.bool (nameL t.text && kids0  t.kids)) ∧ Below w.heap.size w w' := by
  have e16 : (t.kind == 16) = false := by simp [hkind]
  have e17 : (t.kind == 17) = false := by simp [hkind]
  have e18 : (t.kind == 18) = true := by simp [hkind]
  have HG := Lib.hid hg
  have HK := Lib.hid hk
  have HF := Lib.hid hf
  have HB0 := Lib.hid (below_alloc w (.cells #[.int .i64 t.kind, .string ⟨t.text.toArray⟩, .slice a t.kids.length c, .int .i64 t.pos] 24))
  have hl : t.text.length ≤ 140737488351232 := hf.2.2.2.2.1
  have hs : SaysTx Try.prog 32 #[] t.text (nameL t.text) w := says_name t.text hl w
  have HS := Lib.hid hs
  clear  hg hk hf hs hkind
  go_enter Try.func36, Try.ntmps36
  cases hso : nameL t.text with
  | true =>
    have hs1 := HS.out
    rw [hso] at hs1
    have HS1 := Lib.hid hs1
    clear hs1 hso
    go_wp2_with fail
    refine (named_yes t a c 32 #[] _ enName (HS1.out.on HB0.out)).mono ?_
    rintro e w1 ⟨rfl, hb1⟩
    have HB := Lib.hid (bext HB0.out hb1)
    go_wp2_with fail
    refine (of0e t a c 18 _ (HK.out.on HB.out) HF.out).mono ?_
    rintro e w2 ⟨rfl, hb2⟩
    go_wp2_with fail
    all_goals
      go_ret
      exact ⟨ret_bool (by simp_all), bext HB.out hb2⟩
  | false =>
    have hs1 := HS.out
    rw [hso] at hs1
    have HS1 := Lib.hid hs1
    clear hs1 hso
    go_wp2_with fail
    refine (named_no t a c 32 #[] _ enName (HS1.out.on HB0.out)).mono ?_
    rintro e w1 ⟨rfl, hb1⟩
    have HB := Lib.hid (bext HB0.out hb1)
    go_wp2_with fail
    refine (ofz 18 rfl rfl _ _ _ _).mono ?_
    rintro e w2 ⟨rfl, hb2⟩
    go_wp2_with fail
    go_ret
    exact ⟨ret_bool (by rfl), bext HB.out hb2⟩

set_option maxHeartbeats 400000 in
theorem expr_unary (ex : Nd → Bool) (n : Nat) (h1 : Ok 36 ex n) (t : Nd) (a : Option Addr) (c : Nat) (w : World) (hkind : t.kind = 19) (ht : t.height ≤ n + 1) (hg : Glob w) (hk : Kids w w.heap.size a t.kids) (hf : Fits t c) :
    Calls Try.prog 36 #[.agg #[.int .i64 t.kind, .string ⟨t.text.toArray⟩, .slice a t.kids.length c, .int .i64 t.pos]] w fun e w' => e = .returned (.bool (unaryL t.text && kids1 ex t.kids)) ∧ Below w.heap.size w w' := by
  have e16 : (t.kind == 16) = false := by simp [hkind]
  have e17 : (t.kind == 17) = false := by simp [hkind]
  have e18 : (t.kind == 18) = false := by simp [hkind]
  have e19 : (t.kind == 19) = true := by simp [hkind]
  have H1 := Lib.hid h1
  have HG := Lib.hid hg
  have HK := Lib.hid hk
  have HF := Lib.hid hf
  have HB0 := Lib.hid (below_alloc w (.cells #[.int .i64 t.kind, .string ⟨t.text.toArray⟩, .slice a t.kids.length c, .int .i64 t.pos] 24))
  have hl : t.text.length ≤ 140737488351232 := hf.2.2.2.2.1
  have hs : SaysTx Try.prog 54 #[] t.text (unaryL t.text) w := says_unary t.text w
  have HS := Lib.hid hs
  clear h1 hg hk hf hs hkind
  go_enter Try.func36, Try.ntmps36
  cases hso : unaryL t.text with
  | true =>
    have hs1 := HS.out
    rw [hso] at hs1
    have HS1 := Lib.hid hs1
    clear hs1 hso
    go_wp2_with fail
    refine (named_yes t a c 54 #[] _ enUnary (HS1.out.on HB0.out)).mono ?_
    rintro e w1 ⟨rfl, hb1⟩
    have HB := Lib.hid (bext (bext HB0.out hb1) (below_alloc w1 (.cells #[.func (.func 36) #[] #[]] 30)))
    go_wp2_with fail
    refine (of1e t a c 19 _ (f1 := ex) (by simp) (by simp [go_sem]) enExpr (H1.out.kids ht (HG.out.on HB.out)) (HK.out.on HB.out) HF.out).mono ?_
    rintro e w2 ⟨rfl, hb2⟩
    go_wp2_with fail
    all_goals
      go_ret
      exact ⟨ret_bool (by simp_all), bext HB.out hb2⟩
  | false =>
    have hs1 := HS.out
    rw [hso] at hs1
    have HS1 := Lib.hid hs1
    clear hs1 hso
    go_wp2_with fail
    refine (named_no t a c 54 #[] _ enUnary (HS1.out.on HB0.out)).mono ?_
    rintro e w1 ⟨rfl, hb1⟩
    have HB := Lib.hid (bext (bext HB0.out hb1) (below_alloc w1 (.cells #[.func (.func 36) #[] #[]] 30)))
    go_wp2_with fail
    refine (ofz 19 rfl rfl _ _ _ _).mono ?_
    rintro e w2 ⟨rfl, hb2⟩
    go_wp2_with fail
    go_ret
    exact ⟨ret_bool (by rfl), bext HB.out hb2⟩

set_option maxHeartbeats 400000 in
theorem expr_binary (ex : Nd → Bool) (n : Nat) (h1 : Ok 36 ex n) (t : Nd) (a : Option Addr) (c : Nat) (w : World) (hkind : t.kind = 20) (ht : t.height ≤ n + 1) (hg : Glob w) (hk : Kids w w.heap.size a t.kids) (hf : Fits t c) :
    Calls Try.prog 36 #[.agg #[.int .i64 t.kind, .string ⟨t.text.toArray⟩, .slice a t.kids.length c, .int .i64 t.pos]] w fun e w' => e = .returned (.bool (binaryL t.text && kids2 ex ex t.kids)) ∧ Below w.heap.size w w' := by
  have e16 : (t.kind == 16) = false := by simp [hkind]
  have e17 : (t.kind == 17) = false := by simp [hkind]
  have e18 : (t.kind == 18) = false := by simp [hkind]
  have e19 : (t.kind == 19) = false := by simp [hkind]
  have e20 : (t.kind == 20) = true := by simp [hkind]
  have H1 := Lib.hid h1
  have HG := Lib.hid hg
  have HK := Lib.hid hk
  have HF := Lib.hid hf
  have HB0 := Lib.hid (below_alloc w (.cells #[.int .i64 t.kind, .string ⟨t.text.toArray⟩, .slice a t.kids.length c, .int .i64 t.pos] 24))
  have hl : t.text.length ≤ 140737488351232 := hf.2.2.2.2.1
  have hs : SaysTx Try.prog 55 #[] t.text (binaryL t.text) w := says_binary t.text hl w hg
  have HS := Lib.hid hs
  clear h1 hg hk hf hs hkind
  go_enter Try.func36, Try.ntmps36
  cases hso : binaryL t.text with
  | true =>
    have hs1 := HS.out
    rw [hso] at hs1
    have HS1 := Lib.hid hs1
    clear hs1 hso
    go_wp2_with fail
    refine (named_yes t a c 55 #[] _ enBinary (HS1.out.on HB0.out)).mono ?_
    rintro e w1 ⟨rfl, hb1⟩
    have HB := Lib.hid (bext (bext HB0.out hb1) (below_alloc w1 (.cells #[.func (.func 36) #[] #[], .func (.func 36) #[] #[]] 30)))
    go_wp2_with fail
    refine (of2e t a c 20 _ (f1 := ex) (f2 := ex) (by simp) (by simp [go_sem]) enExpr (H1.out.kids ht (HG.out.on HB.out)) (by simp [go_sem]) enExpr (H1.out.kids ht (HG.out.on HB.out)) (HK.out.on HB.out) HF.out).mono ?_
    rintro e w2 ⟨rfl, hb2⟩
    go_wp2_with fail
    all_goals
      go_ret
      exact ⟨ret_bool (by simp_all), bext HB.out hb2⟩
  | false =>
    have hs1 := HS.out
    rw [hso] at hs1
    have HS1 := Lib.hid hs1
    clear hs1 hso
    go_wp2_with fail
    refine (named_no t a c 55 #[] _ enBinary (HS1.out.on HB0.out)).mono ?_
    rintro e w1 ⟨rfl, hb1⟩
    have HB := Lib.hid (bext (bext HB0.out hb1) (below_alloc w1 (.cells #[.func (.func 36) #[] #[], .func (.func 36) #[] #[]] 30)))
    go_wp2_with fail
    refine (ofz 20 rfl rfl _ _ _ _).mono ?_
    rintro e w2 ⟨rfl, hb2⟩
    go_wp2_with fail
    go_ret
    exact ⟨ret_bool (by rfl), bext HB.out hb2⟩

set_option maxHeartbeats 400000 in
theorem expr_field (ex : Nd → Bool) (n : Nat) (h1 : Ok 36 ex n) (t : Nd) (a : Option Addr) (c : Nat) (w : World) (hkind : t.kind = 23) (ht : t.height ≤ n + 1) (hg : Glob w) (hk : Kids w w.heap.size a t.kids) (hf : Fits t c) :
    Calls Try.prog 36 #[.agg #[.int .i64 t.kind, .string ⟨t.text.toArray⟩, .slice a t.kids.length c, .int .i64 t.pos]] w fun e w' => e = .returned (.bool (nameL t.text && kids1 ex t.kids)) ∧ Below w.heap.size w w' := by
  have e16 : (t.kind == 16) = false := by simp [hkind]
  have e17 : (t.kind == 17) = false := by simp [hkind]
  have e18 : (t.kind == 18) = false := by simp [hkind]
  have e19 : (t.kind == 19) = false := by simp [hkind]
  have e20 : (t.kind == 20) = false := by simp [hkind]
  have e21 : (t.kind == 21) = false := by simp [hkind]
  have e22 : (t.kind == 22) = false := by simp [hkind]
  have e23 : (t.kind == 23) = true := by simp [hkind]
  have H1 := Lib.hid h1
  have HG := Lib.hid hg
  have HK := Lib.hid hk
  have HF := Lib.hid hf
  have HB0 := Lib.hid (below_alloc w (.cells #[.int .i64 t.kind, .string ⟨t.text.toArray⟩, .slice a t.kids.length c, .int .i64 t.pos] 24))
  have hl : t.text.length ≤ 140737488351232 := hf.2.2.2.2.1
  have hs : SaysTx Try.prog 32 #[] t.text (nameL t.text) w := says_name t.text hl w
  have HS := Lib.hid hs
  clear h1 hg hk hf hs hkind
  go_enter Try.func36, Try.ntmps36
  cases hso : nameL t.text with
  | true =>
    have hs1 := HS.out
    rw [hso] at hs1
    have HS1 := Lib.hid hs1
    clear hs1 hso
    go_wp2_with fail
    refine (named_yes t a c 32 #[] _ enName (HS1.out.on HB0.out)).mono ?_
    rintro e w1 ⟨rfl, hb1⟩
    have HB := Lib.hid (bext (bext HB0.out hb1) (below_alloc w1 (.cells #[.func (.func 36) #[] #[]] 30)))
    go_wp2_with fail
    refine (of1e t a c 23 _ (f1 := ex) (by simp) (by simp [go_sem]) enExpr (H1.out.kids ht (HG.out.on HB.out)) (HK.out.on HB.out) HF.out).mono ?_
    rintro e w2 ⟨rfl, hb2⟩
    go_wp2_with fail
    all_goals
      go_ret
      exact ⟨ret_bool (by simp_all), bext HB.out hb2⟩
  | false =>
    have hs1 := HS.out
    rw [hso] at hs1
    have HS1 := Lib.hid hs1
    clear hs1 hso
    go_wp2_with fail
    refine (named_no t a c 32 #[] _ enName (HS1.out.on HB0.out)).mono ?_
    rintro e w1 ⟨rfl, hb1⟩
    have HB := Lib.hid (bext (bext HB0.out hb1) (below_alloc w1 (.cells #[.func (.func 36) #[] #[]] 30)))
    go_wp2_with fail
    refine (ofz 23 rfl rfl _ _ _ _).mono ?_
    rintro e w2 ⟨rfl, hb2⟩
    go_wp2_with fail
    go_ret
    exact ⟨ret_bool (by rfl), bext HB.out hb2⟩

set_option maxHeartbeats 400000 in
theorem expr_func (sg bl : Nd → Bool) (n : Nat) (h1 : Ok 38 sg n) (h2 : Ok 45 bl n) (t : Nd) (a : Option Addr) (c : Nat) (w : World) (hkind : ¬ t.kind = 16 ∧ ¬ t.kind = 17 ∧ ¬ t.kind = 18 ∧ ¬ t.kind = 19 ∧ ¬ t.kind = 20 ∧ ¬ t.kind = 21 ∧ ¬ t.kind = 22 ∧ ¬ t.kind = 23 ∧ ¬ t.kind = 24) (ht : t.height ≤ n + 1) (hg : Glob w) (hk : Kids w w.heap.size a t.kids) (hf : Fits t c) :
    Calls Try.prog 36 #[.agg #[.int .i64 t.kind, .string ⟨t.text.toArray⟩, .slice a t.kids.length c, .int .i64 t.pos]] w fun e w' => e = .returned (.bool (ofB 25 (kids2 sg bl) t)) ∧ Below w.heap.size w w' := by
  have e16 : (t.kind == 16) = false := by simp [hkind]
  have e17 : (t.kind == 17) = false := by simp [hkind]
  have e18 : (t.kind == 18) = false := by simp [hkind]
  have e19 : (t.kind == 19) = false := by simp [hkind]
  have e20 : (t.kind == 20) = false := by simp [hkind]
  have e21 : (t.kind == 21) = false := by simp [hkind]
  have e22 : (t.kind == 22) = false := by simp [hkind]
  have e23 : (t.kind == 23) = false := by simp [hkind]
  have e24 : (t.kind == 24) = false := by simp [hkind]
  have H1 := Lib.hid h1
  have H2 := Lib.hid h2
  have HG := Lib.hid hg
  have HK := Lib.hid hk
  have HF := Lib.hid hf
  have HB0 := Lib.hid (below_alloc w (.cells #[.int .i64 t.kind, .string ⟨t.text.toArray⟩, .slice a t.kids.length c, .int .i64 t.pos] 24))
  have HB := Lib.hid (bext HB0.out (below_alloc _ (.cells #[.func (.func 38) #[] #[], .func (.func 45) #[] #[]] 30)))
  clear h1 h2 hg hk hf hkind
  go_enter Try.func36, Try.ntmps36
  go_wp2_with fail
  refine (of2 t a c 25 _ (f1 := sg) (f2 := bl) (by simp) (by simp [go_sem]) enSig (H1.out.kids ht (HG.out.on HB.out)) (by simp [go_sem]) enBlock (H2.out.kids ht (HG.out.on HB.out)) (HK.out.on HB.out) HF.out).mono ?_
  rintro e w2 ⟨rfl, hb2⟩
  go_wp2_with fail
  go_ret
  exact ⟨rfl, bext HB.out hb2⟩
end Go.Proofs.Ytnmebgiiajnnjaa
