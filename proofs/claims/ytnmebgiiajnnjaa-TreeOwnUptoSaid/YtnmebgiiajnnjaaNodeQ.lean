/-
  The arm of tree.isStmt for returns, walked; Tells.
-/
import Derived.Test.YtnmebgiiajnnjaaNodeP
import Derived.Deep.RegionHeld3
namespace Go.Proofs.Ytnmebgiiajnnjaa
set_option linter.unusedSimpArgs false
set_option linter.unusedVariables false
open Go.RowKit
theorem enStmt : Enters Try.prog 37 := enters_of Try.func37 (by kernel_rfl) rfl
theorem enShort : Enters Try.prog 57 := enters_of Try.func57 (by kernel_rfl) rfl
theorem enSet : Enters Try.prog 58 := enters_of Try.func58 (by kernel_rfl) rfl
theorem enInc : Enters Try.prog 59 := enters_of Try.func59 (by kernel_rfl) rfl
theorem enCall : Enters Try.prog 60 := enters_of Try.func60 (by kernel_rfl) rfl

/-- The function value says f of each of these. -/
def Tells (g : Nat) (lb : Array Value) (f : Nd → Bool) (l : List Nd) (w : World) : Prop := ∀ k, k ∈ l → SaysNd Try.prog g lb k (f k) w
theorem Tells.on {g : Nat} {lb : Array Value} {f : Nd → Bool} {l : List Nd} {w w' : World} (h : Tells g lb f l w) (hb : Below w.heap.size w w') : Tells g lb f l w' := fun k hk => (h k hk).on hb

theorem or_tells {t : Nd} {a : Option Addr} {c : Nat} {w : World} {b : Nat} {W : World} (hm : Mid t a c w b W) {g1 g2 : Nat} {lb1 lb2 : Array Value} {p q : Nd → Bool} {l : List Nd} (e1 : Enters Try.prog g1) (e2 : Enters Try.prog g2)
    (h1 : Tells g1 lb1 p l W) (h2 : Tells g2 lb2 q l W) :
    Calls Try.prog 46 #[.func (.func g1) #[] lb1, .func (.func g2) #[] lb2] W fun e w1 =>
      ∃ lb, e = .returned (.func (.func 71) #[] lb) ∧ Mid t a c w b w1 ∧ Below W.heap.size W w1 ∧ Tells 71 lb (fun k => p k || q k) l w1 := by
  refine (or_next hm g1 g2 lb1 lb2 e1 e2).mono ?_
  rintro e w1 ⟨lb, rfl, hm1, hb, h⟩
  exact ⟨lb, rfl, hm1, hb, fun k hk => h k _ _ (h1 k hk) (h2 k hk)⟩

def retB (ex : Nd → Bool) : Nd → Bool := ofB 33 (kids1 (fun k => emptyB k || ex k))

set_option maxHeartbeats 1000000 in
theorem stmt_return (ex : Nd → Bool) (n : Nat) (h1 : Ok 36 ex n) (t : Nd) (a : Option Addr) (c : Nat) (w : World) (hkind : t.kind = 33) (ht : t.height ≤ n + 1) (hg : Glob w) (hk : Kids w w.heap.size a t.kids) (hf : Fits t c) :
    Calls Try.prog 37 #[.agg #[.int .i64 t.kind, .string ⟨t.text.toArray⟩, .slice a t.kids.length c, .int .i64 t.pos]] w fun e w' => e = .returned (.bool (retB ex t)) ∧ Below w.heap.size w w' := by
  have e5 : (t.kind == 5) = false := by simp [hkind]
  have e26 : (t.kind == 26) = false := by simp [hkind]
  have e27 : (t.kind == 27) = false := by simp [hkind]
  have e28 : (t.kind == 28) = false := by simp [hkind]
  have e29 : (t.kind == 29) = false := by simp [hkind]
  have e30 : (t.kind == 30) = false := by simp [hkind]
  have e31 : (t.kind == 31) = false := by simp [hkind]
  have e32 : (t.kind == 32) = false := by simp [hkind]
  have e33 : (t.kind == 33) = true := by simp [hkind]
  have hm := mid0d t a c w 24
  have HC1 := Lib.hid (or_tells hm enEmpty enExpr ((empty_ok n).kids ht (hg.on hm.on)) (h1.kids ht (hg.on hm.on)))
  have HK := Lib.hid hk
  have HF := Lib.hid hf
  clear h1 hg hk hf hkind hm
  go_enter Try.func37, Try.ntmps37
  go_wp2_with fail
  go_region_with (first
    | (go_at_call 46
       refine HC1.out.mono ?_
       rintro e w1 ⟨lb1, rfl, hm1, hbb1, ho1⟩
       have hz1 := hm1.lt
       obtain ⟨a0, a1, a2, a3⟩ := hm1.four
       have HM1 := Lib.hid hm1
       have HO1 := Lib.hid ho1
       clear hm1 ho1 hbb1)
    | (go_at_call 42
       refine (of1 t a c 33 _ (by simp) (by simp [go_sem]) enOr (HO1.out.on (below_alloc _ _)) (HK.out.on (bext HM1.out.on (below_alloc _ _))) HF.out).mono ?_
       rintro e w3 ⟨rfl, hb3⟩
       have HB3 := Lib.hid hb3
       clear hb3))
  all_goals
    go_wp2_with fail
    go_ret
    exact ⟨rfl, bext (bext HM1.out.on (below_alloc _ _)) HB3.out⟩
end Go.Proofs.Ytnmebgiiajnnjaa
