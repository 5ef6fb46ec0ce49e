/-
  The arm of tree.isStmt for returns, walked; Tells.
-/
import Derived.Test.YtnmebgiiajnnjaaGreatNodeP
import Derived.Deep.RegionHeld3
namespace Go.Proofs.YtnmebgiiajnnjaaGreat
set_option linter.unusedSimpArgs false
set_option linter.unusedVariables false
open Go.RowKit
theorem enStmt : Enters Tryz.prog 34 := enters_of Tryz.func34 (by kernel_rfl) rfl
theorem enShort : Enters Tryz.prog 74 := enters_of Tryz.func74 (by kernel_rfl) rfl
theorem enSet : Enters Tryz.prog 75 := enters_of Tryz.func75 (by kernel_rfl) rfl
theorem enInc : Enters Tryz.prog 76 := enters_of Tryz.func76 (by kernel_rfl) rfl
theorem enCall : Enters Tryz.prog 77 := enters_of Tryz.func77 (by kernel_rfl) rfl

/-- The function value says f of each of these. -/
def Tells (g : Nat) (lb : Array Value) (f : Nd → Bool) (l : List Nd) (w : World) : Prop := ∀ k, k ∈ l → SaysNd Tryz.prog g lb k (f k) w
theorem Tells.on {g : Nat} {lb : Array Value} {f : Nd → Bool} {l : List Nd} {w w' : World} (h : Tells g lb f l w) (hb : Below w.heap.size w w') : Tells g lb f l w' := fun k hk => (h k hk).on hb

theorem or_tells {t : Nd} {a : Option Addr} {c : Nat} {w : World} {b : Nat} {W : World} (hm : Mid t a c w b W) {g1 g2 : Nat} {lb1 lb2 : Array Value} {p q : Nd → Bool} {l : List Nd} (e1 : Enters Tryz.prog g1) (e2 : Enters Tryz.prog g2)
    (h1 : Tells g1 lb1 p l W) (h2 : Tells g2 lb2 q l W) :
    Calls Tryz.prog 63 #[.func (.func g1) #[] lb1, .func (.func g2) #[] lb2] W fun e w1 =>
      ∃ lb, e = .returned (.func (.func 96) #[] lb) ∧ Mid t a c w b w1 ∧ Below W.heap.size W w1 ∧ Tells 96 lb (fun k => p k || q k) l w1 := by
  refine (or_next hm g1 g2 lb1 lb2 e1 e2).mono ?_
  rintro e w1 ⟨lb, rfl, hm1, hb, h⟩
  exact ⟨lb, rfl, hm1, hb, fun k hk => h k _ _ (h1 k hk) (h2 k hk)⟩

def retB (ex : Nd → Bool) : Nd → Bool := ofB 33 (kids1 (fun k => emptyB k || ex k))

set_option maxHeartbeats 1000000 in
theorem stmt_return (ex : Nd → Bool) (n : Nat) (h1 : Ok 33 ex n) (t : Nd) (a : Option Addr) (c : Nat) (w : World) (hkind : t.kind = 33) (ht : t.height ≤ n + 1) (hg : Glob w) (hk : Kids w w.heap.size a t.kids) (hf : Fits t c) :
    Calls Tryz.prog 34 #[.agg #[.int .i64 t.kind, .string ⟨t.text.toArray⟩, .slice a t.kids.length c, .int .i64 t.pos]] w fun e w' => e = .returned (.bool (retB ex t)) ∧ Below w.heap.size w w' := by
  have e5 : (t.kind == 5) = false := by simp [hkind]
  have e26 : (t.kind == 26) = false := by simp [hkind]
  have e27 : (t.kind == 27) = false := by simp [hkind]
  have e28 : (t.kind == 28) = false := by simp [hkind]
  have e29 : (t.kind == 29) = false := by simp [hkind]
  have e30 : (t.kind == 30) = false := by simp [hkind]
  have e31 : (t.kind == 31) = false := by simp [hkind]
  have e32 : (t.kind == 32) = false := by simp [hkind]
  have e33 : (t.kind == 33) = true := by simp [hkind]
  have hm := mid0d t a c w 24
  have HC1 := Lib.hid (or_tells hm enEmpty enExpr ((empty_ok n).kids ht (hg.on hm.on)) (h1.kids ht (hg.on hm.on)))
  have HK := Lib.hid hk
  have HF := Lib.hid hf
  clear h1 hg hk hf hkind hm
  go_enter Tryz.func34, Tryz.ntmps34
  go_wp2_with fail
  go_region_with (first
    | (go_at_call 63
       refine HC1.out.mono ?_
       rintro e w1 ⟨lb1, rfl, hm1, hbb1, ho1⟩
       have hz1 := hm1.lt
       obtain ⟨a0, a1, a2, a3⟩ := hm1.four
       have HM1 := Lib.hid hm1
       have HO1 := Lib.hid ho1
       clear hm1 ho1 hbb1)
    | (go_at_call 59
       refine (of1 t a c 33 _ (by simp) (by simp [go_sem]) enOr (HO1.out.on (below_alloc _ _)) (HK.out.on (bext HM1.out.on (below_alloc _ _))) HF.out).mono ?_
       rintro e w3 ⟨rfl, hb3⟩
       have HB3 := Lib.hid hb3
       clear hb3))
  all_goals
    go_wp2_with fail
    go_ret
    exact ⟨rfl, bext (bext HM1.out.on (below_alloc _ _)) HB3.out⟩
end Go.Proofs.YtnmebgiiajnnjaaGreat
