/-
  small, walked
-/
import Derived.Test.YtnmebgiiajnnjaaRefA
namespace Go.Proofs.Ytnmebgiiajnnjaa
set_option linter.unusedSimpArgs false
set_option linter.unusedVariables false
open Go.RowKit

set_option maxHeartbeats 400000 in
theorem small_any (m : Int) (t : Nd) (a : Option Addr) (c : Nat) (w : World) (hk : Kids w w.heap.size a t.kids) (hf : Fits t c) :
    Calls Try.prog 9 #[.agg #[.int .i64 t.kind, .string ⟨t.text.toArray⟩, .slice a t.kids.length c, .int .i64 t.pos], .int .i64 m] w fun e w' => e = .returned (.bool (decide (wrap64 (walkL 1000 t).length ≤ m))) ∧ Below w.heap.size w w' := by
  have hb0 := below_alloc w (.cells #[.int .i64 t.kind, .string ⟨t.text.toArray⟩, .slice a t.kids.length c, .int .i64 t.pos] 24)
  have H := rsize_any 1000 (by omega) t a c _ (hk.on hb0) hf
  have HB0 := Lib.hid hb0
  have HC := Lib.hid H
  clear hb0 hk hf H
  go_enter Try.func9, Try.ntmps9
  go_wp2_with fail
  refine HC.out.mono ?_
  rintro e w1 ⟨rfl, hb1⟩
  go_wp2_with fail
  go_ret
  exact ⟨rfl, bext HB0.out hb1⟩
end Go.Proofs.Ytnmebgiiajnnjaa
