/-
  tree.isInter and a parameter of types, walked.
-/
import Derived.Test.YtnmebgiiajnnjaaNodeI
namespace Go.Proofs.Ytnmebgiiajnnjaa
set_option linter.unusedSimpArgs false
set_option linter.unusedVariables false
open Go.RowKit
theorem enName : Enters Try.prog 32 := enters_of Try.func32 (by kernel_rfl) rfl
theorem enInter : Enters Try.prog 48 := enters_of Try.func48 (by kernel_rfl) rfl
theorem enTerm : Enters Try.prog 73 := enters_of Try.func73 (by kernel_rfl) rfl
theorem enParams1 : Enters Try.prog 68 := enters_of Try.func68 (by kernel_rfl) rfl
theorem enParams2 : Enters Try.prog 70 := enters_of Try.func70 (by kernel_rfl) rfl

set_option maxHeartbeats 400000 in
theorem inter_ok (f : Nd → Bool) (n : Nat) (hok : Ok 73 f n) : Ok 48 (fun t => t.kind == 14 && (t.text.isEmpty && (!t.kids.isEmpty && t.kids.all f))) (n + 1) := by
  intro t a c w ht hg hk hf
  have HB0 := Lib.hid (below_alloc w (.cells #[.int .i64 t.kind, .string ⟨t.text.toArray⟩, .slice a t.kids.length c, .int .i64 t.pos] 24))
  have hl2 : t.kids.length ≤ 9223372036854775807 := by have := hf.2.2.2.2.2.1; have := hf.2.2.2.2.2.2; omega
  have H := all_any t.kids a c 73 #[] f _ enTerm hl2 (hk.on HB0.out) (hok.kids ht (hg.on HB0.out))
  clear hok hg hk hf
  go_enter Try.func48, Try.ntmps48
  cases h1 : (t.kind == 14) with
  | true =>
    cases h2 : t.text.isEmpty with
    | true =>
      by_cases h3 : 0 < t.kids.length
      · have h4 : t.kids.isEmpty = false := by cases h : t.kids <;> simp_all
        rw [h4]
        have H4 := Lib.hid h4
        clear h4
        go_wp2_with fail
        refine H.mono ?_
        rintro e w1 ⟨rfl, hb1⟩
        go_wp2_with fail
        go_ret
        exact ⟨ret_bool (by rfl), bext HB0.out hb1⟩
      · have h4 : t.kids.isEmpty = true := by cases h : t.kids <;> simp_all
        rw [h4]
        clear H h4
        go_wp2_with fail
        go_ret
        exact ⟨ret_bool (by rfl), HB0.out⟩
    | false =>
      clear H
      go_wp2_with fail
      go_ret
      exact ⟨ret_bool (by rfl), HB0.out⟩
  | false =>
    clear H
    go_wp2_with fail
    go_ret
    exact ⟨ret_bool (by rfl), HB0.out⟩

theorem named_next_yes {t : Nd} {a : Option Addr} {c : Nat} {w : World} {b : Nat} {W : World} (hm : Mid t a c w b W) (g : Nat) (lb : Array Value) (eg : Enters Try.prog g) (hs : SaysTx Try.prog g lb t.text true w) :
    Calls Try.prog 43 #[.agg #[.int .i64 t.kind, .string ⟨t.text.toArray⟩, .slice a t.kids.length c, .int .i64 t.pos], .func (.func g) #[] lb] W fun e w' =>
      e = .returned (.agg #[.int .i64 t.kind, .string ⟨#[]⟩, .slice a t.kids.length c, .int .i64 t.pos]) ∧ Mid t a c w b w' ∧ Below W.heap.size W w' := by
  refine (named_yes t a c g lb W eg (hs.on hm.on)).mono ?_
  rintro e w' ⟨rfl, hb⟩
  exact ⟨rfl, hm.next hb, hb⟩
theorem named_next_no {t : Nd} {a : Option Addr} {c : Nat} {w : World} {b : Nat} {W : World} (hm : Mid t a c w b W) (g : Nat) (lb : Array Value) (eg : Enters Try.prog g) (hs : SaysTx Try.prog g lb t.text false w) :
    Calls Try.prog 43 #[.agg #[.int .i64 t.kind, .string ⟨t.text.toArray⟩, .slice a t.kids.length c, .int .i64 t.pos], .func (.func g) #[] lb] W fun e w' =>
      e = .returned (.agg #[.int .i64 37, .string ⟨#[]⟩, .slice none 0 0, .int .i64 0]) ∧ Mid t a c w b w' ∧ Below W.heap.size W w' := by
  refine (named_no t a c g lb W eg (hs.on hm.on)).mono ?_
  rintro e w' ⟨rfl, hb⟩
  exact ⟨rfl, hm.next hb, hb⟩

def tparamB (c1 it : Nd → Bool) (t : Nd) : Bool := nameL t.text && (t.kind == 7 && kids1 (fun k => c1 k || it k) t.kids)

theorem tparam_of (c1 it : Nd → Bool) (n : Nat) (t : Nd) (a : Option Addr) (c : Nat) (w : World) (ht : t.height ≤ n + 1) (h1 : Ok 68 c1 n) (h2 : Ok 48 it n)
    (hg : Glob w) (hk : Kids w w.heap.size a t.kids) (hf : Fits t c) (lb2 : Array Value) (w1 w2 : World) (hm1 : Mid t a c w w.heap.size w1) (hm2 : Mid t a c w w.heap.size w2)
    (ho2 : ∀ k p q, SaysNd Try.prog 68 #[] k p w1 → SaysNd Try.prog 48 #[] k q w1 → SaysNd Try.prog 71 lb2 k (p || q) w2) :
    Calls Try.prog 42 #[.agg #[.int .i64 t.kind, .string ⟨#[]⟩, .slice a t.kids.length c, .int .i64 t.pos], .int .i64 7, .slice (some ⟨w2.heap.size, 0, none⟩) 1 1]
      (w2.alloc (.cells #[.func (.func 71) #[] lb2] 30)) fun e w3 => e = .returned (.bool (t.kind == 7 && kids1 (fun k => c1 k || it k) t.kids)) ∧ Below w.heap.size w w3 := by
  have hA := below_alloc w2 (.cells #[.func (.func 71) #[] lb2] 30)
  have hV := bext hm2.on hA
  have hh : ∀ k, k ∈ t.kids → k.height ≤ n := fun k hk => by have := Nd.height_kid hk; omega
  refine (of1e t a c 7 _ (f1 := fun k => c1 k || it k) (by simp) (by simp [go_sem]) enOr
    (fun k hk => (ho2 k _ _ (h1.says (hh k hk) (hg.on hm1.on)) (h2.says (hh k hk) (hg.on hm1.on))).on hA) (hk.on hV) hf).mono ?_
  rintro e w3 ⟨rfl, hb3⟩
  exact ⟨rfl, bext hV hb3⟩

set_option maxHeartbeats 1000000 in
theorem params2_any (c1 it : Nd → Bool) (n : Nat) (h1 : Ok 68 c1 n) (h2 : Ok 48 it n) (t : Nd) (a : Option Addr) (c b : Nat) (w : World) (ht : t.height ≤ n + 1) (hg : Glob w)
    (hc : w.cell? ⟨b, 0, none⟩ = some (.func (.func 68) #[] #[])) (hk : Kids w w.heap.size a t.kids) (hf : Fits t c) :
    Calls Try.prog 70 #[.agg #[.int .i64 t.kind, .string ⟨t.text.toArray⟩, .slice a t.kids.length c, .int .i64 t.pos], .pointer (some ⟨b, 0, none⟩)] w fun e w' => e = .returned (.bool (tparamB c1 it t)) ∧ Below w.heap.size w w' := by
  have H1 := Lib.hid h1
  have H2 := Lib.hid h2
  have HG := Lib.hid hg
  have HK := Lib.hid hk
  have HF := Lib.hid hf
  have HCC := Lib.hid hc
  have hlt := cell_lt hc
  have hl : t.text.length ≤ 140737488351232 := hf.2.2.2.2.1
  have HS := Lib.hid (says_name t.text hl w)
  clear h1 h2 hg hk hf
  go_enter Try.func70, Try.ntmps70
  cases hso : nameL t.text with
  | true =>
    have hs1 := HS.out
    rw [hso] at hs1
    have Hso := Lib.hid hso
    have HC1 := Lib.hid (named_next_yes (mid0d t a c w 24) 32 #[] enName hs1)
    clear hs1 hso HS
    go_wp2_with fail
    go_region_with (first
      | (go_at_call 43
         refine HC1.out.mono ?_
         rintro e w1 ⟨rfl, hm1, hbb1⟩
         have hz1 := hm1.lt
         obtain ⟨a0, a1, a2, a3⟩ := hm1.four
         have hcb1 := cell_on hc hm1.on
         have HM1 := Lib.hid hm1
         clear hm1 hbb1)
      | (go_at_call 46
         refine (or_next HM1.out 68 48 #[] #[] enParams1 enInter).mono ?_
         rintro e w2 ⟨lb2, rfl, hm2, hbb2, ho2⟩
         have hz2 := hm2.lt
         obtain ⟨a4, a5, a6, a7⟩ := hm2.four
         have HM2 := Lib.hid hm2
         have HO2 := Lib.hid ho2
         clear hm2 ho2 hbb2)
      | (go_at_call 42
         refine (tparam_of c1 it n t a c w ht H1.out H2.out HG.out HK.out HF.out _ _ _ HM1.out HM2.out HO2.out).mono ?_
         rintro e w3 ⟨rfl, hb3⟩))
    all_goals
      go_wp2_with fail
      go_ret
      exact ⟨ret_bool (by simp [tparamB, Hso.out]), hb3⟩
  | false =>
    have hs1 := HS.out
    rw [hso] at hs1
    have Hso := Lib.hid hso
    have HC1 := Lib.hid (named_next_no (mid0d t a c w 24) 32 #[] enName hs1)
    clear hs1 hso HS
    go_wp2_with fail
    go_region_with (first
      | (go_at_call 43
         refine HC1.out.mono ?_
         rintro e w1 ⟨rfl, hm1, hbb1⟩
         have hz1 := hm1.lt
         obtain ⟨a0, a1, a2, a3⟩ := hm1.four
         have hcb1 := cell_on hc hm1.on
         have HM1 := Lib.hid hm1
         clear hm1 hbb1)
      | (go_at_call 46
         refine (or_next HM1.out 68 48 #[] #[] enParams1 enInter).mono ?_
         rintro e w2 ⟨lb2, rfl, hm2, hbb2, ho2⟩
         have hz2 := hm2.lt
         have HM2 := Lib.hid hm2
         clear hm2 ho2 hbb2)
      | (go_at_call 42
         refine (ofz 7 rfl rfl _ _ _ _).mono ?_
         rintro e w3 ⟨rfl, hb3⟩
         have HB3 := Lib.hid hb3
         clear hb3))
    all_goals
      go_wp2_with fail
      go_ret
      exact ⟨ret_bool (by simp [tparamB, Hso.out]), bext (bext HM2.out.on (below_alloc _ _)) HB3.out⟩
end Go.Proofs.Ytnmebgiiajnnjaa
