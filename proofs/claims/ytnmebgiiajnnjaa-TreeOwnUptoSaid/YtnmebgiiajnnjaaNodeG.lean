/-
  tree.isType and isSignature, walked.
-/
import Derived.Test.YtnmebgiiajnnjaaNodeF
namespace Go.Proofs.Ytnmebgiiajnnjaa
set_option linter.unusedSimpArgs false
set_option linter.unusedVariables false
open Go.RowKit

set_option maxHeartbeats 400000 in
theorem isType1_any (l : List UInt8) (w : World) :
    Calls Try.prog 51 #[.string ⟨l.toArray⟩] w fun e w' => e = .returned (.bool l.isEmpty) ∧ Below w.heap.size w w' := by
  go_enter Try.func51, Try.ntmps51
  go_wp2_with fail
  go_ret
  exact ⟨rfl, Below.refl _ _⟩

set_option maxHeartbeats 400000 in
theorem isSignature_ok (ty : Nd → Bool) (n : Nat) (hty : Ok 35 ty n) : Ok 38 (sigB ty nameL) (n + 1) := by
  intro t a c w ht hg hk hf
  have H := signature_any ty nameL n hty t a c 32 #[] _ ht (hg.on (below_alloc w (.cells #[.int .i64 t.kind, .string ⟨t.text.toArray⟩, .slice a t.kids.length c, .int .i64 t.pos] 24))) (enters_of Try.func32 (by kernel_rfl) rfl) (fun l hl => says_name l hl _) (hk.on (below_alloc _ _)) hf
  have HB0 := Lib.hid (below_alloc w (.cells #[.int .i64 t.kind, .string ⟨t.text.toArray⟩, .slice a t.kids.length c, .int .i64 t.pos] 24))
  clear hty hg hk hf
  go_enter Try.func38, Try.ntmps38
  go_wp2_with fail
  refine H.mono ?_
  rintro e w1 ⟨rfl, hb1⟩
  go_wp2_with fail
  go_ret
  exact ⟨rfl, bext HB0.out hb1⟩

def typeB (ty : Nd → Bool) (t : Nd) : Bool :=
  if t.kind = 10 then nameL t.text && t.kids.all ty else if t.kind = 11 then ofB 11 (kids1 ty) t else if t.kind = 12 then sigB ty (fun l => l.isEmpty) t else false

set_option maxHeartbeats 1000000 in
theorem isType_ok (ty : Nd → Bool) (n : Nat) (hty : Ok 35 ty n) : Ok 35 (typeB ty) (n + 1) := by
  intro t a c w ht hg hk hf
  have HT := Lib.hid hty
  have HG := Lib.hid hg
  have HK := Lib.hid hk
  have HF := Lib.hid hf
  have HB0 := Lib.hid (below_alloc w (.cells #[.int .i64 t.kind, .string ⟨t.text.toArray⟩, .slice a t.kids.length c, .int .i64 t.pos] 24))
  have hl : t.text.length ≤ 140737488351232 := hf.2.2.2.2.1
  have hl2 : t.kids.length ≤ 9223372036854775807 := by have := hf.2.2.2.2.2.1; have := hf.2.2.2.2.2.2; omega
  clear hty hg hk hf
  go_enter Try.func35, Try.ntmps35
  by_cases h1 : t.kind = 10
  · have e1 : (t.kind == 10) = true := by simp [h1]
    have eT : typeB ty t = (nameL t.text && t.kids.all ty) := by simp [typeB, h1]
    have ET := Lib.hid eT
    clear h1 eT
    cases hn : nameL t.text with
    | true =>
      have Hn := Lib.hid hn
      have hN := fun W => name_any t.text W (by omega)
      simp only [hn] at hN
      have HN := Lib.hid hN
      clear hn hN
      go_wp2_with fail
      refine (HN.out _).mono ?_
      rintro e w1 ⟨rfl, hb1⟩
      obtain ⟨⟨a0, a1, a2, a3⟩, -⟩ := four_at (b := w.heap.size) hb1 (by simp) (by simp; rfl) (by simp; rfl) (by simp; rfl) (by simp; rfl) (by simp) (by simp) (by simp) (by simp)
      have hB := bext HB0.out hb1
      have HB := Lib.hid hB
      clear hB
      go_wp2_with fail
      refine (all_any t.kids a c 35 #[] ty _ (enters_of Try.func35 (by kernel_rfl) rfl) hl2 (HK.out.on HB.out) (HT.out.kids ht (HG.out.on HB.out))).mono ?_
      rintro e w2 ⟨rfl, hb2⟩
      go_wp2_with fail
      go_ret
      exact ⟨ret_bool (by rw [ET.out, Hn.out]; rfl), bext HB.out hb2⟩
    | false =>
      have Hn := Lib.hid hn
      have hN := fun W => name_any t.text W (by omega)
      simp only [hn] at hN
      have HN := Lib.hid hN
      clear hn hN
      go_wp2_with fail
      refine (HN.out _).mono ?_
      rintro e w1 ⟨rfl, hb1⟩
      go_wp2_with fail
      go_ret
      exact ⟨ret_bool (by rw [ET.out, Hn.out]; rfl), bext HB0.out hb1⟩
  · by_cases h2 : t.kind = 11
    · have e1 : (t.kind == 10) = false := by simp [h1]
      have e2 : (t.kind == 11) = true := by simp [h2]
      have eT : typeB ty t = ofB 11 (kids1 ty) t := by simp [typeB, h2]
      have ET := Lib.hid eT
      clear h1 h2 eT
      have hB := bext HB0.out (below_alloc _ (.cells #[.func (.func 35) #[] #[]] 30))
      have HB := Lib.hid hB
      clear hB
      go_wp2_with fail
      refine (of1 t a c 11 _ (f1 := ty) (by simp) (by simp [go_sem]) (enters_of Try.func35 (by kernel_rfl) rfl) (HT.out.kids ht (HG.out.on HB.out)) (HK.out.on HB.out) HF.out).mono ?_
      rintro e w2 ⟨rfl, hb2⟩
      go_wp2_with fail
      go_ret
      exact ⟨ret_bool ET.out.symm, bext HB.out hb2⟩
    · by_cases h3 : t.kind = 12
      · have e1 : (t.kind == 10) = false := by simp [h1]
        have e2 : (t.kind == 11) = false := by simp [h2]
        have e3 : (t.kind == 12) = true := by simp [h3]
        have eT : typeB ty t = sigB ty (fun l => l.isEmpty) t := by simp [typeB, h3]
        have ET := Lib.hid eT
        clear h1 h2 h3 eT
        go_wp2_with fail
        refine (signature_any ty (fun l => l.isEmpty) n HT.out t a c 51 #[] _ ht (HG.out.on HB0.out) (enters_of Try.func51 (by kernel_rfl) rfl) (fun l _ W _ => by simpa using isType1_any l W) (HK.out.on HB0.out) HF.out).mono ?_
        rintro e w1 ⟨rfl, hb1⟩
        go_wp2_with fail
        go_ret
        exact ⟨ret_bool ET.out.symm, bext HB0.out hb1⟩
      · have e1 : (t.kind == 10) = false := by simp [h1]
        have e2 : (t.kind == 11) = false := by simp [h2]
        have e3 : (t.kind == 12) = false := by simp [h3]
        have eT : typeB ty t = false := by simp [typeB, h1, h2, h3]
        have ET := Lib.hid eT
        clear h1 h2 h3 eT
        go_wp2_with fail
        go_ret
        exact ⟨ret_bool ET.out.symm, HB0.out⟩
end Go.Proofs.Ytnmebgiiajnnjaa
