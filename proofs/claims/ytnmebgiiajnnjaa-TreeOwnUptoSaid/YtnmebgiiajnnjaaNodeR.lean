/-
  tree.isStmt, walked.
-/
import Derived.Test.YtnmebgiiajnnjaaNodeQ
namespace Go.Proofs.Ytnmebgiiajnnjaa
set_option linter.unusedSimpArgs false
set_option linter.unusedVariables false
open Go.RowKit

def forB (sh se inc cal ex bl : Nd → Bool) : Nd → Bool :=
  ofB 31 (kids4 (fun k => (emptyB k || sh k) || (se k || inc k)) (fun k => emptyB k || ex k) (fun k => (emptyB k || se k) || (inc k || cal k)) bl)

theorem for_of (sh se inc cal ex bl : Nd → Bool) (n : Nat) (t : Nd) (a : Option Addr) (c : Nat) (w : World) (hk : Kids w w.heap.size a t.kids) (hf : Fits t c) (lb3 lb4 lb7 : Array Value) (w3 w4 w7 : World) (hm7 : Mid t a c w w.heap.size w7)
    (hb47 : Below w4.heap.size w4 w7) (hb34 : Below w3.heap.size w3 w4)
    (h3 : Tells 71 lb3 (fun k => (emptyB k || sh k) || (se k || inc k)) t.kids w3) (h4 : Tells 71 lb4 (fun k => emptyB k || ex k) t.kids w4)
    (h7 : Tells 71 lb7 (fun k => (emptyB k || se k) || (inc k || cal k)) t.kids w7) (h6 : Tells 45 #[] bl t.kids w7) :
    Calls Try.prog 42 #[.agg #[.int .i64 t.kind, .string ⟨t.text.toArray⟩, .slice a t.kids.length c, .int .i64 t.pos], .int .i64 31, .slice (some ⟨w7.heap.size, 0, none⟩) 4 4]
      (w7.alloc (.cells #[.func (.func 71) #[] lb3, .func (.func 71) #[] lb4, .func (.func 71) #[] lb7, .func (.func 45) #[] #[]] 30))
      fun e w8 => e = .returned (.bool (forB sh se inc cal ex bl t)) ∧ Mid t a c w w.heap.size w8 := by
  have hA := below_alloc w7 (.cells #[.func (.func 71) #[] lb3, .func (.func 71) #[] lb4, .func (.func 71) #[] lb7, .func (.func 45) #[] #[]] 30)
  refine (of4 t a c 31 _ (by simp) (by simp [go_sem]) enOr (h3.on (bext (bext hb34 hb47) hA)) (by simp [go_sem]) enOr (h4.on (bext hb47 hA)) (by simp [go_sem]) enOr (h7.on hA) (by simp [go_sem]) enBlock (h6.on hA) (hk.on (bext hm7.on hA)) hf).mono ?_
  rintro e w8 ⟨rfl, hb8⟩
  exact ⟨rfl, (hm7.next hA).next hb8⟩

set_option maxHeartbeats 4000000 in
theorem stmt_for (sh se inc cal ex bl : Nd → Bool) (n : Nat) (h1 : Ok 57 sh n) (h2 : Ok 58 se n) (h3 : Ok 59 inc n) (h4 : Ok 60 cal n) (h5 : Ok 36 ex n) (h6 : Ok 45 bl n)
    (t : Nd) (a : Option Addr) (c : Nat) (w : World) (hkind : t.kind = 31) (ht : t.height ≤ n + 1) (hg : Glob w) (hk : Kids w w.heap.size a t.kids) (hf : Fits t c) :
    Calls Try.prog 37 #[.agg #[.int .i64 t.kind, .string ⟨t.text.toArray⟩, .slice a t.kids.length c, .int .i64 t.pos]] w fun e w' => e = .returned (.bool (forB sh se inc cal ex bl t)) ∧ Below w.heap.size w w' := by
  have e5 : (t.kind == 5) = false := by simp [hkind]
  have e26 : (t.kind == 26) = false := by simp [hkind]
  have e27 : (t.kind == 27) = false := by simp [hkind]
  have e28 : (t.kind == 28) = false := by simp [hkind]
  have e29 : (t.kind == 29) = false := by simp [hkind]
  have e30 : (t.kind == 30) = false := by simp [hkind]
  have e31 : (t.kind == 31) = true := by simp [hkind]
  have hm := mid0d t a c w 24
  have hT : ∀ (K : Nat) (f : Nd → Bool) (W : World), Ok K f n → Below w.heap.size w W → Tells K #[] f t.kids W := fun K f W h hW => h.kids ht (hg.on hW)
  have X1 := Lib.hid h1
  have X2 := Lib.hid h2
  have X3 := Lib.hid h3
  have X4 := Lib.hid h4
  have X5 := Lib.hid h5
  have X6 := Lib.hid h6
  have HT := Lib.hid hT
  have HC1 := Lib.hid (or_tells hm enEmpty enShort (hT _ _ _ (empty_ok n) hm.on) (hT _ _ _ h1 hm.on))
  have HK := Lib.hid hk
  have HF := Lib.hid hf
  obtain ⟨a0, a1, a2, a3⟩ := hm.four
  clear h1 h2 h3 h4 h5 h6 hg hk hf hkind hm hT
  have T1 : True := trivial
  have T2 : True := trivial
  have T3 : True := trivial
  have T4 : True := trivial
  have T5 : True := trivial
  have T6 : True := trivial
  have T7 : True := trivial
  go_enter Try.func37, Try.ntmps37
  go_wp2_with fail
  go_region_held3 (fun w' => w'.cell? ⟨w.heap.size, 0, none⟩ = some (.int .i64 t.kind) ∧ w'.cell? ⟨w.heap.size, 1, none⟩ = some (.string ⟨t.text.toArray⟩) ∧ w'.cell? ⟨w.heap.size, 2, none⟩ = some (.slice a t.kids.length c) ∧ w'.cell? ⟨w.heap.size, 3, none⟩ = some (.int .i64 t.pos)) (go_keep)
    (first
      | (go_at_call 46
         clear T1
         refine HC1.out.mono ?_
         rintro e w1 ⟨lb1, rfl, hm1, hbb1, ho1⟩
         obtain ⟨b0, b1, b2, b3⟩ := hm1.four
         have hz1 := hm1.lt
         have HM1 := Lib.hid hm1
         have HO1 := Lib.hid ho1
         have HB1 := Lib.hid hbb1
         clear hm1 ho1 hbb1)
      | (go_at_call 46
         clear T2
         refine (or_tells HM1.out enSet enInc (HT.out _ _ _ X2.out HM1.out.on) (HT.out _ _ _ X3.out HM1.out.on)).mono ?_
         rintro e w2 ⟨lb2, rfl, hm2, hbb2, ho2⟩
         obtain ⟨b0, b1, b2, b3⟩ := hm2.four
         have hz2 := hm2.lt
         have HM2 := Lib.hid hm2
         have HO2 := Lib.hid ho2
         have HB2 := Lib.hid hbb2
         clear hm2 ho2 hbb2)
      | (go_at_call 46
         clear T3
         refine (or_tells HM2.out enOr enOr (HO1.out.on HB2.out) HO2.out).mono ?_
         rintro e w3 ⟨lb3, rfl, hm3, hbb3, ho3⟩
         obtain ⟨b0, b1, b2, b3⟩ := hm3.four
         have hz3 := hm3.lt
         have HM3 := Lib.hid hm3
         have HO3 := Lib.hid ho3
         have HB3 := Lib.hid hbb3
         clear hm3 ho3 hbb3)
      | (go_at_call 46
         clear T4
         refine (or_tells HM3.out enEmpty enExpr (HT.out _ _ _ (empty_ok n) HM3.out.on) (HT.out _ _ _ X5.out HM3.out.on)).mono ?_
         rintro e w4 ⟨lb4, rfl, hm4, hbb4, ho4⟩
         obtain ⟨b0, b1, b2, b3⟩ := hm4.four
         have hz4 := hm4.lt
         have HM4 := Lib.hid hm4
         have HO4 := Lib.hid ho4
         have HB4 := Lib.hid hbb4
         clear hm4 ho4 hbb4)
      | (go_at_call 46
         clear T5
         refine (or_tells HM4.out enEmpty enSet (HT.out _ _ _ (empty_ok n) HM4.out.on) (HT.out _ _ _ X2.out HM4.out.on)).mono ?_
         rintro e w5 ⟨lb5, rfl, hm5, hbb5, ho5⟩
         obtain ⟨b0, b1, b2, b3⟩ := hm5.four
         have hz5 := hm5.lt
         have HM5 := Lib.hid hm5
         have HO5 := Lib.hid ho5
         have HB5 := Lib.hid hbb5
         clear hm5 ho5 hbb5)
      | (go_at_call 46
         clear T6
         refine (or_tells HM5.out enInc enCall (HT.out _ _ _ X3.out HM5.out.on) (HT.out _ _ _ X4.out HM5.out.on)).mono ?_
         rintro e w6 ⟨lb6, rfl, hm6, hbb6, ho6⟩
         obtain ⟨b0, b1, b2, b3⟩ := hm6.four
         have hz6 := hm6.lt
         have HM6 := Lib.hid hm6
         have HO6 := Lib.hid ho6
         have HB6 := Lib.hid hbb6
         clear hm6 ho6 hbb6)
      | (go_at_call 46
         clear T7
         refine (or_tells HM6.out enOr enOr (HO5.out.on HB6.out) HO6.out).mono ?_
         rintro e w7 ⟨lb7, rfl, hm7, hbb7, ho7⟩
         obtain ⟨b0, b1, b2, b3⟩ := hm7.four
         have hz7 := hm7.lt
         have HM7 := Lib.hid hm7
         have HO7 := Lib.hid ho7
         have HB7 := Lib.hid hbb7
         clear hm7 ho7 hbb7)
      | (go_at_call 42
         refine (for_of sh se inc cal ex bl n t a c w HK.out HF.out lb3 lb4 lb7 w3 w4 w7 HM7.out (bext (bext HB5.out HB6.out) HB7.out) HB4.out HO3.out HO4.out HO7.out (HT.out _ _ _ X6.out HM7.out.on)).mono ?_
         rintro e w8 ⟨rfl, hm8⟩
         obtain ⟨b0, b1, b2, b3⟩ := hm8.four
         have HM8 := Lib.hid hm8
         clear hm8))
  all_goals
    go_wp2_with fail
    go_ret
    exact ⟨rfl, HM8.out.on⟩

set_option maxHeartbeats 400000 in
theorem stmt_bare (K : Int) (hK : K = 34 ∨ K = 35) (n : Nat) (t : Nd) (a : Option Addr) (c : Nat) (w : World) (hkind : t.kind = K) (ht : t.height ≤ n + 1) (hg : Glob w) (hk : Kids w w.heap.size a t.kids) (hf : Fits t c) :
    Calls Try.prog 37 #[.agg #[.int .i64 t.kind, .string ⟨t.text.toArray⟩, .slice a t.kids.length c, .int .i64 t.pos]] w fun e w' => e = .returned (.bool (t.text.isEmpty && kids0 t.kids)) ∧ Below w.heap.size w w' := by
  have e5 : (t.kind == 5) = false := by rcases hK with rfl | rfl <;> simp [hkind]
  have e26 : (t.kind == 26) = false := by rcases hK with rfl | rfl <;> simp [hkind]
  have e27 : (t.kind == 27) = false := by rcases hK with rfl | rfl <;> simp [hkind]
  have e28 : (t.kind == 28) = false := by rcases hK with rfl | rfl <;> simp [hkind]
  have e29 : (t.kind == 29) = false := by rcases hK with rfl | rfl <;> simp [hkind]
  have e30 : (t.kind == 30) = false := by rcases hK with rfl | rfl <;> simp [hkind]
  have e31 : (t.kind == 31) = false := by rcases hK with rfl | rfl <;> simp [hkind]
  have e32 : (t.kind == 32) = false := by rcases hK with rfl | rfl <;> simp [hkind]
  have e33 : (t.kind == 33) = false := by rcases hK with rfl | rfl <;> simp [hkind]
  have hm := mid0 t a c w 24
  have H := of0 t a c t.kind _ (hk.on hm.on) hf
  have e : ofB t.kind kids0 t = (t.text.isEmpty && kids0 t.kids) := by simp [ofB]
  rw [e] at H
  have HM := Lib.hid hm
  have e3 : (t.kind = 34 ∨ t.kind = 35) := by rcases hK with rfl | rfl <;> simp [hkind]
  clear hk hf hkind hm hg e
  go_enter Try.func37, Try.ntmps37
  rcases e3 with e3 | e3
  · have e34 : (t.kind == 34) = true := by simp [e3]
    clear e3
    go_wp2_with fail
    refine H.mono ?_
    rintro e w1 ⟨rfl, hb1⟩
    go_wp2_with fail
    go_ret
    exact ⟨rfl, bext HM.out.on hb1⟩
  · have e34 : (t.kind == 34) = false := by simp [e3]
    have e35 : (t.kind == 35) = true := by simp [e3]
    clear e3
    go_wp2_with fail
    refine H.mono ?_
    rintro e w1 ⟨rfl, hb1⟩
    go_wp2_with fail
    go_ret
    exact ⟨rfl, bext HM.out.on hb1⟩

set_option maxHeartbeats 400000 in
theorem stmt_block (bl : Nd → Bool) (n : Nat) (h1 : Ok 45 bl n) (t : Nd) (a : Option Addr) (c : Nat) (w : World)
    (hkind : ¬ t.kind = 5 ∧ ¬ t.kind = 26 ∧ ¬ t.kind = 27 ∧ ¬ t.kind = 28 ∧ ¬ t.kind = 29 ∧ ¬ t.kind = 30 ∧ ¬ t.kind = 31 ∧ ¬ t.kind = 32 ∧ ¬ t.kind = 33 ∧ ¬ t.kind = 34 ∧ ¬ t.kind = 35)
    (ht : t.height ≤ n) (hg : Glob w) (hk : Kids w w.heap.size a t.kids) (hf : Fits t c) :
    Calls Try.prog 37 #[.agg #[.int .i64 t.kind, .string ⟨t.text.toArray⟩, .slice a t.kids.length c, .int .i64 t.pos]] w fun e w' => e = .returned (.bool (bl t)) ∧ Below w.heap.size w w' := by
  have e5 : (t.kind == 5) = false := by simp [hkind]
  have e26 : (t.kind == 26) = false := by simp [hkind]
  have e27 : (t.kind == 27) = false := by simp [hkind]
  have e28 : (t.kind == 28) = false := by simp [hkind]
  have e29 : (t.kind == 29) = false := by simp [hkind]
  have e30 : (t.kind == 30) = false := by simp [hkind]
  have e31 : (t.kind == 31) = false := by simp [hkind]
  have e32 : (t.kind == 32) = false := by simp [hkind]
  have e33 : (t.kind == 33) = false := by simp [hkind]
  have e34 : (t.kind == 34) = false := by simp [hkind]
  have e35 : (t.kind == 35) = false := by simp [hkind]
  have HB0 := Lib.hid (below_alloc w (.cells #[.int .i64 t.kind, .string ⟨t.text.toArray⟩, .slice a t.kids.length c, .int .i64 t.pos] 24))
  have H := h1 t a c _ ht (hg.on HB0.out) (hk.on HB0.out) hf
  clear h1 hg hk hf hkind
  go_enter Try.func37, Try.ntmps37
  go_wp2_with fail
  refine H.mono ?_
  rintro e w1 ⟨rfl, hb1⟩
  go_wp2_with fail
  go_ret
  exact ⟨rfl, bext HB0.out hb1⟩

def stmtB (va sh se inc cal i ex bl bl' sh' se' inc' cal' : Nd → Bool) (t : Nd) : Bool :=
  if t.kind = 5 then va t else if t.kind = 26 then sh t else if t.kind = 27 then se t else if t.kind = 28 then inc t else if t.kind = 29 then cal t else if t.kind = 30 then i t else
  if t.kind = 31 then forB sh' se' inc' cal' ex bl' t else if t.kind = 32 then rangedL t.text && kids2 ex bl' t.kids else if t.kind = 33 then retB ex t else
  if t.kind = 34 then t.text.isEmpty && kids0 t.kids else if t.kind = 35 then t.text.isEmpty && kids0 t.kids else bl t

/-- At a level: what of its own level and what of the level below isStmt asks. -/
theorem stmt_ok (va sh se inc cal i ex bl bl' sh' se' inc' cal' : Nd → Bool) (n : Nat)
    (a1 : Ok 49 va (n + 1)) (a2 : Ok 57 sh (n + 1)) (a3 : Ok 58 se (n + 1)) (a4 : Ok 59 inc (n + 1)) (a5 : Ok 60 cal (n + 1))
    (a6 : Ok 61 i (n + 1)) (a7 : Ok 45 bl (n + 1)) (b1 : Ok 36 ex n) (b2 : Ok 45 bl' n) (b3 : Ok 57 sh' n)
    (b4 : Ok 58 se' n) (b5 : Ok 59 inc' n) (b6 : Ok 60 cal' n) : Ok 37 (stmtB va sh se inc cal i ex bl bl' sh' se' inc' cal') (n + 1) := by
  intro t a c w ht hg hk hf
  unfold stmtB
  by_cases k5 : t.kind = 5
  · simp only [if_pos k5]; exact stmt_var va (n + 1) a1 t a c w k5 ht hg hk hf
  simp only [if_neg k5]
  by_cases k26 : t.kind = 26
  · simp only [if_pos k26]; exact stmt_short sh (n + 1) a2 t a c w k26 ht hg hk hf
  simp only [if_neg k26]
  by_cases k27 : t.kind = 27
  · simp only [if_pos k27]; exact stmt_set se (n + 1) a3 t a c w k27 ht hg hk hf
  simp only [if_neg k27]
  by_cases k28 : t.kind = 28
  · simp only [if_pos k28]; exact stmt_inc inc (n + 1) a4 t a c w k28 ht hg hk hf
  simp only [if_neg k28]
  by_cases k29 : t.kind = 29
  · simp only [if_pos k29]; exact stmt_call cal (n + 1) a5 t a c w k29 ht hg hk hf
  simp only [if_neg k29]
  by_cases k30 : t.kind = 30
  · simp only [if_pos k30]; exact stmt_if i (n + 1) a6 t a c w k30 ht hg hk hf
  simp only [if_neg k30]
  by_cases k31 : t.kind = 31
  · simp only [if_pos k31]; exact stmt_for sh' se' inc' cal' ex bl' n b3 b4 b5 b6 b1 b2 t a c w k31 ht hg hk hf
  simp only [if_neg k31]
  by_cases k32 : t.kind = 32
  · simp only [if_pos k32]; exact stmt_range ex bl' n b1 b2 t a c w k32 ht hg hk hf
  simp only [if_neg k32]
  by_cases k33 : t.kind = 33
  · simp only [if_pos k33]; exact stmt_return ex n b1 t a c w k33 ht hg hk hf
  simp only [if_neg k33]
  by_cases k34 : t.kind = 34
  · simp only [if_pos k34]; exact stmt_bare 34 (.inl rfl) n t a c w k34 ht hg hk hf
  simp only [if_neg k34]
  by_cases k35 : t.kind = 35
  · simp only [if_pos k35]; exact stmt_bare 35 (.inr rfl) n t a c w k35 ht hg hk hf
  simp only [if_neg k35]
  exact stmt_block bl (n + 1) a7 t a c w ⟨k5, k26, k27, k28, k29, k30, k31, k32, k33, k34, k35⟩ ht hg hk hf
end Go.Proofs.Ytnmebgiiajnnjaa
