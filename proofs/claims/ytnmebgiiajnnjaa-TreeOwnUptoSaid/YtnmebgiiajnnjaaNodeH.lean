/-
  The walks that are alike: a node held by tree.of behind tree.named, one kid. Printed by gen_tree.py.
-/
import Derived.Test.YtnmebgiiajnnjaaNodeG
namespace Go.Proofs.Ytnmebgiiajnnjaa
set_option linter.unusedSimpArgs false
set_option linter.unusedVariables false
open Go.RowKit
def tildeL (l : List UInt8) : Bool := l.isEmpty || l == [126]
def stepsL (l : List UInt8) : Bool := l == [43, 43] || l == [45, 45]

set_option maxHeartbeats 400000 in
theorem tilde_any (l : List UInt8) (w : World) :
    Calls Try.prog 74 #[.string ⟨l.toArray⟩] w fun e w' => e = .returned (.bool (tildeL l)) ∧ Below w.heap.size w w' := by
  go_enter Try.func74, Try.ntmps74
  cases h : l.isEmpty <;> go_wp2
  all_goals
    go_ret
    refine ⟨ret_bool ?_, Below.refl _ _⟩
    simp_all [tildeL]

set_option maxHeartbeats 400000 in
theorem steps_any (l : List UInt8) (w : World) :
    Calls Try.prog 79 #[.string ⟨l.toArray⟩] w fun e w' => e = .returned (.bool (stepsL l)) ∧ Below w.heap.size w w' := by
  go_enter Try.func79, Try.ntmps79
  cases h : (l == [43, 43]) <;> go_wp2
  all_goals
    go_ret
    refine ⟨ret_bool ?_, Below.refl _ _⟩
    simp_all [stepsL]

set_option maxHeartbeats 400000 in
theorem term_ok (f : Nd → Bool) (n : Nat) (hok : Ok 35 f n) : Ok 73 (fun t => tildeL t.text && (t.kind == 15 && kids1 f t.kids)) (n + 1) := by
  intro t a c w ht hg hk hf
  have HT := Lib.hid hok
  have HG := Lib.hid hg
  have HK := Lib.hid hk
  have HF := Lib.hid hf
  have HB0 := Lib.hid (below_alloc w (.cells #[.int .i64 t.kind, .string ⟨t.text.toArray⟩, .slice a t.kids.length c, .int .i64 t.pos] 24))
  have hl : t.text.length ≤ 140737488351232 := hf.2.2.2.2.1
  have hs : SaysTx Try.prog 74 #[] t.text (tildeL t.text) w := fun W _ => by simpa using tilde_any t.text W
  have HS := Lib.hid hs
  clear hok hg hk hf hs
  go_enter Try.func73, Try.ntmps73
  cases hso : tildeL t.text with
  | true =>
    have hs1 := HS.out
    rw [hso] at hs1
    have HS1 := Lib.hid hs1
    have Hso := Lib.hid hso
    clear hs1 hso
    go_wp2_with fail
    refine (named_yes t a c 74 #[] _ (enters_of Try.func74 (by kernel_rfl) rfl) (HS1.out.on HB0.out)).mono ?_
    rintro e w1 ⟨rfl, hb1⟩
    have hB := bext (bext HB0.out hb1) (below_alloc w1 (.cells #[.func (.func 35) #[] #[]] 30))
    have HB := Lib.hid hB
    clear hB
    go_wp2_with fail
    refine (of1e t a c 15 _ (f1 := f) (by simp) (by simp [go_sem]) (enters_of Try.func35 (by kernel_rfl) rfl) (HT.out.kids ht (HG.out.on HB.out)) (HK.out.on HB.out) HF.out).mono ?_
    rintro e w2 ⟨rfl, hb2⟩
    go_wp2_with fail
    go_ret
    exact ⟨ret_bool (by rfl), bext HB.out hb2⟩
  | false =>
    have hs1 := HS.out
    rw [hso] at hs1
    have HS1 := Lib.hid hs1
    clear hs1 hso
    go_wp2_with fail
    refine (named_no t a c 74 #[] _ (enters_of Try.func74 (by kernel_rfl) rfl) (HS1.out.on HB0.out)).mono ?_
    rintro e w1 ⟨rfl, hb1⟩
    have hB := bext (bext HB0.out hb1) (below_alloc w1 (.cells #[.func (.func 35) #[] #[]] 30))
    have HB := Lib.hid hB
    clear hB
    go_wp2_with fail
    refine (ofz 15 rfl rfl _ _ _ _).mono ?_
    rintro e w2 ⟨rfl, hb2⟩
    go_wp2_with fail
    go_ret
    exact ⟨ret_bool (by rfl), bext HB.out hb2⟩

set_option maxHeartbeats 400000 in
theorem field_ok (f : Nd → Bool) (n : Nat) (hok : Ok 35 f n) : Ok 72 (fun t => nameL t.text && (t.kind == 9 && kids1 f t.kids)) (n + 1) := by
  intro t a c w ht hg hk hf
  have HT := Lib.hid hok
  have HG := Lib.hid hg
  have HK := Lib.hid hk
  have HF := Lib.hid hf
  have HB0 := Lib.hid (below_alloc w (.cells #[.int .i64 t.kind, .string ⟨t.text.toArray⟩, .slice a t.kids.length c, .int .i64 t.pos] 24))
  have hl : t.text.length ≤ 140737488351232 := hf.2.2.2.2.1
  have hs : SaysTx Try.prog 32 #[] t.text (nameL t.text) w := says_name t.text hl w
  have HS := Lib.hid hs
  clear hok hg hk hf hs
  go_enter Try.func72, Try.ntmps72
  cases hso : nameL t.text with
  | true =>
    have hs1 := HS.out
    rw [hso] at hs1
    have HS1 := Lib.hid hs1
    have Hso := Lib.hid hso
    clear hs1 hso
    go_wp2_with fail
    refine (named_yes t a c 32 #[] _ (enters_of Try.func32 (by kernel_rfl) rfl) (HS1.out.on HB0.out)).mono ?_
    rintro e w1 ⟨rfl, hb1⟩
    have hB := bext (bext HB0.out hb1) (below_alloc w1 (.cells #[.func (.func 35) #[] #[]] 30))
    have HB := Lib.hid hB
    clear hB
    go_wp2_with fail
    refine (of1e t a c 9 _ (f1 := f) (by simp) (by simp [go_sem]) (enters_of Try.func35 (by kernel_rfl) rfl) (HT.out.kids ht (HG.out.on HB.out)) (HK.out.on HB.out) HF.out).mono ?_
    rintro e w2 ⟨rfl, hb2⟩
    go_wp2_with fail
    go_ret
    exact ⟨ret_bool (by rfl), bext HB.out hb2⟩
  | false =>
    have hs1 := HS.out
    rw [hso] at hs1
    have HS1 := Lib.hid hs1
    clear hs1 hso
    go_wp2_with fail
    refine (named_no t a c 32 #[] _ (enters_of Try.func32 (by kernel_rfl) rfl) (HS1.out.on HB0.out)).mono ?_
    rintro e w1 ⟨rfl, hb1⟩
    have hB := bext (bext HB0.out hb1) (below_alloc w1 (.cells #[.func (.func 35) #[] #[]] 30))
    have HB := Lib.hid hB
    clear hB
    go_wp2_with fail
    refine (ofz 9 rfl rfl _ _ _ _).mono ?_
    rintro e w2 ⟨rfl, hb2⟩
    go_wp2_with fail
    go_ret
    exact ⟨ret_bool (by rfl), bext HB.out hb2⟩

set_option maxHeartbeats 400000 in
theorem inc_ok (f : Nd → Bool) (n : Nat) (hok : Ok 36 f n) : Ok 59 (fun t => stepsL t.text && (t.kind == 28 && kids1 f t.kids)) (n + 1) := by
  intro t a c w ht hg hk hf
  have HT := Lib.hid hok
  have HG := Lib.hid hg
  have HK := Lib.hid hk
  have HF := Lib.hid hf
  have HB0 := Lib.hid (below_alloc w (.cells #[.int .i64 t.kind, .string ⟨t.text.toArray⟩, .slice a t.kids.length c, .int .i64 t.pos] 24))
  have hl : t.text.length ≤ 140737488351232 := hf.2.2.2.2.1
  have hs : SaysTx Try.prog 79 #[] t.text (stepsL t.text) w := fun W _ => by simpa using steps_any t.text W
  have HS := Lib.hid hs
  clear hok hg hk hf hs
  go_enter Try.func59, Try.ntmps59
  cases hso : stepsL t.text with
  | true =>
    have hs1 := HS.out
    rw [hso] at hs1
    have HS1 := Lib.hid hs1
    have Hso := Lib.hid hso
    clear hs1 hso
    go_wp2_with fail
    refine (named_yes t a c 79 #[] _ (enters_of Try.func79 (by kernel_rfl) rfl) (HS1.out.on HB0.out)).mono ?_
    rintro e w1 ⟨rfl, hb1⟩
    have hB := bext (bext HB0.out hb1) (below_alloc w1 (.cells #[.func (.func 36) #[] #[]] 30))
    have HB := Lib.hid hB
    clear hB
    go_wp2_with fail
    refine (of1e t a c 28 _ (f1 := f) (by simp) (by simp [go_sem]) (enters_of Try.func36 (by kernel_rfl) rfl) (HT.out.kids ht (HG.out.on HB.out)) (HK.out.on HB.out) HF.out).mono ?_
    rintro e w2 ⟨rfl, hb2⟩
    go_wp2_with fail
    go_ret
    exact ⟨ret_bool (by rfl), bext HB.out hb2⟩
  | false =>
    have hs1 := HS.out
    rw [hso] at hs1
    have HS1 := Lib.hid hs1
    clear hs1 hso
    go_wp2_with fail
    refine (named_no t a c 79 #[] _ (enters_of Try.func79 (by kernel_rfl) rfl) (HS1.out.on HB0.out)).mono ?_
    rintro e w1 ⟨rfl, hb1⟩
    have hB := bext (bext HB0.out hb1) (below_alloc w1 (.cells #[.func (.func 36) #[] #[]] 30))
    have HB := Lib.hid hB
    clear hB
    go_wp2_with fail
    refine (ofz 28 rfl rfl _ _ _ _).mono ?_
    rintro e w2 ⟨rfl, hb2⟩
    go_wp2_with fail
    go_ret
    exact ⟨ret_bool (by rfl), bext HB.out hb2⟩

set_option maxHeartbeats 400000 in
theorem short_ok (f : Nd → Bool) (n : Nat) (hok : Ok 36 f n) : Ok 57 (fun t => boundL t.text && (t.kind == 26 && kids1 f t.kids)) (n + 1) := by
  intro t a c w ht hg hk hf
  have HT := Lib.hid hok
  have HG := Lib.hid hg
  have HK := Lib.hid hk
  have HF := Lib.hid hf
  have HB0 := Lib.hid (below_alloc w (.cells #[.int .i64 t.kind, .string ⟨t.text.toArray⟩, .slice a t.kids.length c, .int .i64 t.pos] 24))
  have hl : t.text.length ≤ 140737488351232 := hf.2.2.2.2.1
  have hs : SaysTx Try.prog 78 #[] t.text (boundL t.text) w := says_bound t.text hl w
  have HS := Lib.hid hs
  clear hok hg hk hf hs
  go_enter Try.func57, Try.ntmps57
  cases hso : boundL t.text with
  | true =>
    have hs1 := HS.out
    rw [hso] at hs1
    have HS1 := Lib.hid hs1
    have Hso := Lib.hid hso
    clear hs1 hso
    go_wp2_with fail
    refine (named_yes t a c 78 #[] _ (enters_of Try.func78 (by kernel_rfl) rfl) (HS1.out.on HB0.out)).mono ?_
    rintro e w1 ⟨rfl, hb1⟩
    have hB := bext (bext HB0.out hb1) (below_alloc w1 (.cells #[.func (.func 36) #[] #[]] 30))
    have HB := Lib.hid hB
    clear hB
    go_wp2_with fail
    refine (of1e t a c 26 _ (f1 := f) (by simp) (by simp [go_sem]) (enters_of Try.func36 (by kernel_rfl) rfl) (HT.out.kids ht (HG.out.on HB.out)) (HK.out.on HB.out) HF.out).mono ?_
    rintro e w2 ⟨rfl, hb2⟩
    go_wp2_with fail
    go_ret
    exact ⟨ret_bool (by rfl), bext HB.out hb2⟩
  | false =>
    have hs1 := HS.out
    rw [hso] at hs1
    have HS1 := Lib.hid hs1
    clear hs1 hso
    go_wp2_with fail
    refine (named_no t a c 78 #[] _ (enters_of Try.func78 (by kernel_rfl) rfl) (HS1.out.on HB0.out)).mono ?_
    rintro e w1 ⟨rfl, hb1⟩
    have hB := bext (bext HB0.out hb1) (below_alloc w1 (.cells #[.func (.func 36) #[] #[]] 30))
    have HB := Lib.hid hB
    clear hB
    go_wp2_with fail
    refine (ofz 26 rfl rfl _ _ _ _).mono ?_
    rintro e w2 ⟨rfl, hb2⟩
    go_wp2_with fail
    go_ret
    exact ⟨ret_bool (by rfl), bext HB.out hb2⟩

set_option maxHeartbeats 400000 in
theorem set_ok (f1 : Nd → Bool) (n : Nat) (h1 : Ok 36 f1 n) : Ok 58 (ofB 27 (kids2 f1 f1)) (n + 1) := by
  intro t a c w ht hg hk hf
  have H1 := Lib.hid h1
  have HG := Lib.hid hg
  have HK := Lib.hid hk
  have HF := Lib.hid hf
  have HB0 := Lib.hid (below_alloc w (.cells #[.int .i64 t.kind, .string ⟨t.text.toArray⟩, .slice a t.kids.length c, .int .i64 t.pos] 24))
  have HB := Lib.hid (bext HB0.out (below_alloc _ (.cells #[.func (.func 36) #[] #[], .func (.func 36) #[] #[]] 30)))
  clear h1 hg hk hf
  go_enter Try.func58, Try.ntmps58
  go_wp2_with fail
  refine (of2 t a c 27 _ (f1 := f1) (f2 := f1) (by simp) (by simp [go_sem]) (enters_of Try.func36 (by kernel_rfl) rfl) (H1.out.kids ht (HG.out.on HB.out)) (by simp [go_sem]) (enters_of Try.func36 (by kernel_rfl) rfl) (H1.out.kids ht (HG.out.on HB.out)) (HK.out.on HB.out) HF.out).mono ?_
  rintro e w2 ⟨rfl, hb2⟩
  go_wp2_with fail
  go_ret
  exact ⟨rfl, bext HB.out hb2⟩

set_option maxHeartbeats 400000 in
theorem call1_ok (f : Nd → Bool) (n : Nat) (hok : Ok 36 f n) : Ok 80 (fun t => t.kind == 21 && f t) n := by
  intro t a c w ht hg hk hf
  have HB0 := Lib.hid (below_alloc w (.cells #[.int .i64 t.kind, .string ⟨t.text.toArray⟩, .slice a t.kids.length c, .int .i64 t.pos] 24))
  have H := hok t a c _ ht (hg.on HB0.out) (hk.on HB0.out) hf
  clear hok hg hk hf
  go_enter Try.func80, Try.ntmps80
  cases h1 : (t.kind == 21) with
  | true =>
    go_wp2_with fail
    refine H.mono ?_
    rintro e w1 ⟨rfl, hb1⟩
    go_wp2_with fail
    go_ret
    exact ⟨ret_bool (by rfl), bext HB0.out hb1⟩
  | false =>
    clear H
    go_wp2_with fail
    go_ret
    exact ⟨ret_bool (by rfl), HB0.out⟩

set_option maxHeartbeats 400000 in
theorem call_ok (f1 : Nd → Bool) (n : Nat) (h1 : Ok 80 f1 n) : Ok 60 (ofB 29 (kids1 f1)) (n + 1) := by
  intro t a c w ht hg hk hf
  have H1 := Lib.hid h1
  have HG := Lib.hid hg
  have HK := Lib.hid hk
  have HF := Lib.hid hf
  have HB0 := Lib.hid (below_alloc w (.cells #[.int .i64 t.kind, .string ⟨t.text.toArray⟩, .slice a t.kids.length c, .int .i64 t.pos] 24))
  have HB := Lib.hid (bext HB0.out (below_alloc _ (.cells #[.func (.func 80) #[] #[]] 30)))
  clear h1 hg hk hf
  go_enter Try.func60, Try.ntmps60
  go_wp2_with fail
  refine (of1 t a c 29 _ (f1 := f1) (by simp) (by simp [go_sem]) (enters_of Try.func80 (by kernel_rfl) rfl) (H1.out.kids ht (HG.out.on HB.out)) (HK.out.on HB.out) HF.out).mono ?_
  rintro e w2 ⟨rfl, hb2⟩
  go_wp2_with fail
  go_ret
  exact ⟨rfl, bext HB.out hb2⟩

set_option maxHeartbeats 400000 in
theorem block_ok (f : Nd → Bool) (n : Nat) (hok : Ok 37 f n) : Ok 45 (fun t => t.kind == 36 && (t.text.isEmpty && t.kids.all f)) (n + 1) := by
  intro t a c w ht hg hk hf
  have HB0 := Lib.hid (below_alloc w (.cells #[.int .i64 t.kind, .string ⟨t.text.toArray⟩, .slice a t.kids.length c, .int .i64 t.pos] 24))
  have hl2 : t.kids.length ≤ 9223372036854775807 := by have := hf.2.2.2.2.2.1; have := hf.2.2.2.2.2.2; omega
  have H := all_any t.kids a c 37 #[] f _ (enters_of Try.func37 (by kernel_rfl) rfl) hl2 (hk.on HB0.out) (hok.kids ht (hg.on HB0.out))
  clear hok hg hk hf
  go_enter Try.func45, Try.ntmps45
  cases h1 : (t.kind == 36) with
  | true =>
    cases h2 : t.text.isEmpty with
    | true =>
      go_wp2_with fail
      refine H.mono ?_
      rintro e w1 ⟨rfl, hb1⟩
      go_wp2_with fail
      go_ret
      exact ⟨ret_bool (by rfl), bext HB0.out hb1⟩
    | false =>
      clear H
      go_wp2_with fail
      go_ret
      exact ⟨ret_bool (by rfl), HB0.out⟩
  | false =>
    clear H
    go_wp2_with fail
    go_ret
    exact ⟨ret_bool (by rfl), HB0.out⟩

set_option maxHeartbeats 400000 in
theorem struct_ok (f : Nd → Bool) (n : Nat) (hok : Ok 72 f n) : Ok 47 (fun t => t.kind == 13 && (t.text.isEmpty && t.kids.all f)) (n + 1) := by
  intro t a c w ht hg hk hf
  have HB0 := Lib.hid (below_alloc w (.cells #[.int .i64 t.kind, .string ⟨t.text.toArray⟩, .slice a t.kids.length c, .int .i64 t.pos] 24))
  have hl2 : t.kids.length ≤ 9223372036854775807 := by have := hf.2.2.2.2.2.1; have := hf.2.2.2.2.2.2; omega
  have H := all_any t.kids a c 72 #[] f _ (enters_of Try.func72 (by kernel_rfl) rfl) hl2 (hk.on HB0.out) (hok.kids ht (hg.on HB0.out))
  clear hok hg hk hf
  go_enter Try.func47, Try.ntmps47
  cases h1 : (t.kind == 13) with
  | true =>
    cases h2 : t.text.isEmpty with
    | true =>
      go_wp2_with fail
      refine H.mono ?_
      rintro e w1 ⟨rfl, hb1⟩
      go_wp2_with fail
      go_ret
      exact ⟨ret_bool (by rfl), bext HB0.out hb1⟩
    | false =>
      clear H
      go_wp2_with fail
      go_ret
      exact ⟨ret_bool (by rfl), HB0.out⟩
  | false =>
    clear H
    go_wp2_with fail
    go_ret
    exact ⟨ret_bool (by rfl), HB0.out⟩

set_option maxHeartbeats 400000 in
theorem params1_ok (f : Nd → Bool) (n : Nat) (hok : Ok 35 f n) : Ok 68 (fun t => t.kind == 10 && f t) n := by
  intro t a c w ht hg hk hf
  have HB0 := Lib.hid (below_alloc w (.cells #[.int .i64 t.kind, .string ⟨t.text.toArray⟩, .slice a t.kids.length c, .int .i64 t.pos] 24))
  have H := hok t a c _ ht (hg.on HB0.out) (hk.on HB0.out) hf
  clear hok hg hk hf
  go_enter Try.func68, Try.ntmps68
  cases h1 : (t.kind == 10) with
  | true =>
    go_wp2_with fail
    refine H.mono ?_
    rintro e w1 ⟨rfl, hb1⟩
    go_wp2_with fail
    go_ret
    exact ⟨ret_bool (by rfl), bext HB0.out hb1⟩
  | false =>
    clear H
    go_wp2_with fail
    go_ret
    exact ⟨ret_bool (by rfl), HB0.out⟩
end Go.Proofs.Ytnmebgiiajnnjaa
