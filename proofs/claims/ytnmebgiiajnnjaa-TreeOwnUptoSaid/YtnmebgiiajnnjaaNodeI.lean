/-
  tree.isIf, walked: a region that draws its order around calls that make memory.
-/
import Derived.Test.YtnmebgiiajnnjaaNodeH
namespace Go.Proofs.Ytnmebgiiajnnjaa
set_option linter.unusedSimpArgs false
set_option linter.unusedVariables false
open Go.RowKit

/-- The node's own box, and what lay, are as they were. -/
structure Mid (t : Nd) (a : Option Addr) (c : Nat) (w : World) (b : Nat) (w1 : World) : Prop where
  on : Below w.heap.size w w1
  four : w1.cell? ⟨b, 0, none⟩ = some (.int .i64 t.kind) ∧ w1.cell? ⟨b, 1, none⟩ = some (.string ⟨t.text.toArray⟩) ∧ w1.cell? ⟨b, 2, none⟩ = some (.slice a t.kids.length c) ∧ w1.cell? ⟨b, 3, none⟩ = some (.int .i64 t.pos)
theorem Mid.lt {t : Nd} {a : Option Addr} {c : Nat} {w : World} {b : Nat} {w1 : World} (h : Mid t a c w b w1) : b < w1.heap.size := cell_lt h.four.1
theorem Mid.next {t : Nd} {a : Option Addr} {c : Nat} {w : World} {b : Nat} {w1 w2 : World} (h : Mid t a c w b w1) (hb : Below w1.heap.size w1 w2) : Mid t a c w b w2 :=
  ⟨bext h.on hb, cell_on h.four.1 hb, cell_on h.four.2.1 hb, cell_on h.four.2.2.1 hb, cell_on h.four.2.2.2 hb⟩
theorem mid0 (t : Nd) (a : Option Addr) (c : Nat) (w : World) (ty : TypeId) : Mid t a c w w.heap.size (w.alloc (.cells #[.int .i64 t.kind, .string ⟨t.text.toArray⟩, .slice a t.kids.length c, .int .i64 t.pos] ty)) :=
  ⟨below_alloc _ _, by simp [go_sem], by simp [go_sem], by simp [go_sem], by simp [go_sem]⟩
theorem mid0d (t : Nd) (a : Option Addr) (c : Nat) (w : World) (ty : TypeId) : Mid t a c w w.heap.size (w.alloc (.cells #[.int .i64 t.kind, .string ⟨t.text.toArray⟩, .slice a t.kids.length c, .int .i64 t.pos] ty)).drew :=
  ⟨(below_alloc _ _).drew, by simp [go_sem], by simp [go_sem], by simp [go_sem], by simp [go_sem]⟩
theorem or_next {t : Nd} {a : Option Addr} {c : Nat} {w : World} {b : Nat} {W : World} (hm : Mid t a c w b W) (g1 g2 : Nat) (lb1 lb2 : Array Value) (e1 : Enters Try.prog g1) (e2 : Enters Try.prog g2) :
    Calls Try.prog 46 #[.func (.func g1) #[] lb1, .func (.func g2) #[] lb2] W fun e w1 =>
      ∃ lb, e = .returned (.func (.func 71) #[] lb) ∧ Mid t a c w b w1 ∧ Below W.heap.size W w1 ∧ ∀ k p q, SaysNd Try.prog g1 lb1 k p W → SaysNd Try.prog g2 lb2 k q W → SaysNd Try.prog 71 lb k (p || q) w1 := by
  refine (or_any g1 g2 lb1 lb2 W e1 e2).mono ?_
  rintro e w1 ⟨lb, rfl, hb, h⟩
  exact ⟨lb, rfl, hm.next hb, hb, h⟩

theorem enEmpty : Enters Try.prog 62 := enters_of Try.func62 (by kernel_rfl) rfl
theorem enType : Enters Try.prog 35 := enters_of Try.func35 (by kernel_rfl) rfl
theorem enExpr : Enters Try.prog 36 := enters_of Try.func36 (by kernel_rfl) rfl
theorem enBlock : Enters Try.prog 45 := enters_of Try.func45 (by kernel_rfl) rfl
theorem enIf : Enters Try.prog 61 := enters_of Try.func61 (by kernel_rfl) rfl
theorem enOr : Enters Try.prog 71 := enters_of Try.func71 (by kernel_rfl) rfl

def ifB (ex bl i : Nd → Bool) : Nd → Bool := ofB 30 (kids3 ex bl (fun k => (emptyB k || bl k) || i k))

theorem if_of (ex bl i : Nd → Bool) (n : Nat) (t : Nd) (a : Option Addr) (c : Nat) (w : World) (ht : t.height ≤ n + 1) (h1 : Ok 36 ex n) (h2 : Ok 45 bl n) (h3 : Ok 61 i n)
    (hg : Glob w) (hk : Kids w w.heap.size a t.kids) (hf : Fits t c) (lb1 lb2 : Array Value) (w1 w2 : World)
    (hm1 : Mid t a c w w.heap.size w1) (ho1 : ∀ k p q, SaysNd Try.prog 62 #[] k p (w.alloc (.cells #[.int .i64 t.kind, .string ⟨t.text.toArray⟩, .slice a t.kids.length c, .int .i64 t.pos] 24)).drew → SaysNd Try.prog 45 #[] k q (w.alloc (.cells #[.int .i64 t.kind, .string ⟨t.text.toArray⟩, .slice a t.kids.length c, .int .i64 t.pos] 24)).drew → SaysNd Try.prog 71 lb1 k (p || q) w1)
    (hm2 : Mid t a c w w.heap.size w2) (ho2 : ∀ k p q, SaysNd Try.prog 71 lb1 k p w1 → SaysNd Try.prog 61 #[] k q w1 → SaysNd Try.prog 71 lb2 k (p || q) w2) :
    Calls Try.prog 42 #[.agg #[.int .i64 t.kind, .string ⟨t.text.toArray⟩, .slice a t.kids.length c, .int .i64 t.pos], .int .i64 30, .slice (some ⟨w2.heap.size, 0, none⟩) 3 3]
      (w2.alloc (.cells #[.func (.func 36) #[] #[], .func (.func 45) #[] #[], .func (.func 71) #[] lb2] 30))
      fun e w3 => e = .returned (.bool (ifB ex bl i t)) ∧ Below w.heap.size w w3 := by
  have hA := below_alloc w2 (.cells #[.func (.func 36) #[] #[], .func (.func 45) #[] #[], .func (.func 71) #[] lb2] 30)
  have hV := bext hm2.on hA
  have hD := (mid0d t a c w 24).on
  have hh : ∀ k, k ∈ t.kids → k.height ≤ n := fun k hk => by have := Nd.height_kid hk; omega
  refine (of3 t a c 30 _ (f1 := ex) (f2 := bl) (f3 := fun k => (emptyB k || bl k) || i k) (by simp) (by simp [go_sem]) enExpr (h1.kids ht (hg.on hV)) (by simp [go_sem]) enBlock (h2.kids ht (hg.on hV)) (by simp [go_sem]) enOr
    (fun k hk => (ho2 k _ _ (ho1 k _ _ ((empty_ok n).says (hh k hk) (hg.on hD)) (h2.says (hh k hk) (hg.on hD))) (h3.says (hh k hk) (hg.on hm1.on))).on hA) (hk.on hV) hf).mono ?_
  rintro e w3 ⟨rfl, hb3⟩
  exact ⟨rfl, bext hV hb3⟩

set_option maxHeartbeats 1000000 in
theorem if_ok (ex bl i : Nd → Bool) (n : Nat) (h1 : Ok 36 ex n) (h2 : Ok 45 bl n) (h3 : Ok 61 i n) : Ok 61 (ifB ex bl i) (n + 1) := by
  intro t a c w ht hg hk hf
  have H1 := Lib.hid h1
  have H2 := Lib.hid h2
  have H3 := Lib.hid h3
  have HG := Lib.hid hg
  have HK := Lib.hid hk
  have HF := Lib.hid hf
  have HC1 := Lib.hid (or_next (mid0d t a c w 24) 62 45 #[] #[] enEmpty enBlock)
  clear h1 h2 h3 hg hk hf
  go_enter Try.func61, Try.ntmps61
  go_wp2_with fail
  go_region_with (first
    | (go_at_call 46
       refine HC1.out.mono ?_
       clear HC1
       rintro e w1 ⟨lb1, rfl, hm1, hbb1, ho1⟩
       have hz1 := hm1.lt
       obtain ⟨a0, a1, a2, a3⟩ := hm1.four
       have HM1 := Lib.hid hm1
       have HO1 := Lib.hid ho1
       clear hm1 ho1 hbb1)
    | (go_at_call 46
       refine (or_next HM1.out 71 61 lb1 #[] enOr enIf).mono ?_
       rintro e w2 ⟨lb2, rfl, hm2, hbb2, ho2⟩
       have hz2 := hm2.lt
       obtain ⟨a4, a5, a6, a7⟩ := hm2.four
       have HM2 := Lib.hid hm2
       have HO2 := Lib.hid ho2
       clear hm2 ho2 hbb2)
    | (go_at_call 42
       refine (if_of ex bl i n t a c w ht H1.out H2.out H3.out HG.out HK.out HF.out _ _ _ _ HM1.out HO1.out HM2.out HO2.out).mono ?_
       rintro e w3 ⟨rfl, hb3⟩))
  all_goals
    go_wp2_with fail
    go_ret
    exact ⟨rfl, hb3⟩
end Go.Proofs.Ytnmebgiiajnnjaa
