/-
  tree.signature, walked.
-/
import Derived.Test.YtnmebgiiajnnjaaNodeE
import Derived.Deep.RegionWith
import Derived.Laws.EntriesVeiled
import Derived.Deep.DeepMust
namespace Go.Proofs.Ytnmebgiiajnnjaa
set_option linter.unusedSimpArgs false
set_option linter.unusedVariables false
open Go.RowKit
def emptyB (t : Nd) : Bool := t.kind == 0 && (t.text.isEmpty && t.kids.isEmpty)
theorem empty_ok (n : Nat) : Ok 62 emptyB n := fun t a c w _ _ _ _ => empty_any t a c w


def listB (p : Nd → Bool) (t : Nd) : Bool := t.kind == 6 && (t.text.isEmpty && t.kids.all p)
theorem cell_on {w w' : World} {b o : Nat} {v : Value} (h : w.cell? ⟨b, o, none⟩ = some v) (hb : Below w.heap.size w w') : w'.cell? ⟨b, o, none⟩ = some v :=
  (hb.cell (p := ⟨b, o, none⟩) (cell_lt h)).trans h
theorem sig_says (ty : Nd → Bool) (so : List UInt8 → Bool) (n : Nat) (hty : Ok 35 ty n) (V : World) (B1 B2 g : Nat) (lb : Array Value)
    (hc1 : V.cell? ⟨B1, 0, none⟩ = some (.func (.func g) #[] lb)) (hc2 : V.cell? ⟨B2, 0, none⟩ = some (.func (.func 75) #[] #[.pointer (some ⟨B1, 0, none⟩)]))
    (eg : Enters Try.prog g) (hs : ∀ l : List UInt8, l.length ≤ 140737488351232 → SaysTx Try.prog g lb l (so l) V) (hg : Glob V) (k : Nd) (hk : k.height ≤ n + 1) :
    SaysNd Try.prog 76 #[.pointer (some ⟨B2, 0, none⟩)] k (listB (paramB ty so) k) V :=
  fun W' a' c' hW' hk' hf' => by
    refine sig2_any (paramB ty so) k a' c' B2 75 #[.pointer (some ⟨B1, 0, none⟩)] W' (cell_on hc2 hW') (enters_of Try.func75 (by kernel_rfl) rfl) ?_ hk' hf'
    intro p hp W'' a'' c'' hW'' hk'' hf''
    exact sig1_any ty so n hty p a'' c'' B1 g lb W'' (by have := Nd.height_kid hp; omega) (hg.on (bext hW' hW'')) (cell_on hc1 (bext hW' hW'')) eg (((hs _ hf''.2.2.2.2.1).on hW').on hW'') hk'' hf''

theorem below2 (w : World) (o1 o2 : Obj) : Below w.heap.size w ((w.alloc o1).alloc o2) := bext (below_alloc _ _) (below_alloc _ _)
theorem below3 (w : World) (o1 o2 o3 : Obj) : Below w.heap.size w (((w.alloc o1).alloc o2).alloc o3) := bext (below2 _ _ _) (below_alloc _ _)
theorem below3d (w : World) (o1 o2 o3 : Obj) : Below w.heap.size w (((w.alloc o1).alloc o2).alloc o3).drew := (below3 w o1 o2 o3).drew


/-- What stands behind signature's call of or. -/
structure SigMid (t : Nd) (a : Option Addr) (c g : Nat) (lb : Array Value) (w : World) (lb1 : Array Value) (w1 : World) : Prop where
  on : Below w.heap.size w w1
  x1 : w1.cell? ⟨w.heap.size + 1, 0, none⟩ = some (.func (.func g) #[] lb)
  x2 : w1.cell? ⟨w.heap.size + 1 + 1, 0, none⟩ = some (.func (.func 75) #[] #[.pointer (some ⟨w.heap.size + 1, 0, none⟩)])
  four : w1.cell? ⟨w.heap.size, 0, none⟩ = some (.int .i64 t.kind) ∧ w1.cell? ⟨w.heap.size, 1, none⟩ = some (.string ⟨t.text.toArray⟩) ∧ w1.cell? ⟨w.heap.size, 2, none⟩ = some (.slice a t.kids.length c) ∧ w1.cell? ⟨w.heap.size, 3, none⟩ = some (.int .i64 t.pos)
  tells : ∀ k p q, SaysNd Try.prog 62 #[] k p w → SaysNd Try.prog 35 #[] k q w → SaysNd Try.prog 71 lb1 k (p || q) w1

theorem sig_or (t : Nd) (a : Option Addr) (c g : Nat) (lb : Array Value) (w : World) :
    Calls Try.prog 46 #[.func (.func 62) #[] #[], .func (.func 35) #[] #[]]
      (((w.alloc (.cells #[.int .i64 t.kind, .string ⟨t.text.toArray⟩, .slice a t.kids.length c, .int .i64 t.pos] 24)).alloc (.cells #[.func (.func g) #[] lb] 52)).alloc (.cells #[.func (.func 75) #[] #[.pointer (some ⟨w.heap.size + 1, 0, none⟩)]] 30)).drew
      fun e w1 => ∃ lb1, e = .returned (.func (.func 71) #[] lb1) ∧ SigMid t a c g lb w lb1 w1 := by
  have hB := below3d w (.cells #[.int .i64 t.kind, .string ⟨t.text.toArray⟩, .slice a t.kids.length c, .int .i64 t.pos] 24) (.cells #[.func (.func g) #[] lb] 52) (.cells #[.func (.func 75) #[] #[.pointer (some ⟨w.heap.size + 1, 0, none⟩)]] 30)
  refine (or_any _ _ _ _ _ (enters_of Try.func62 (by kernel_rfl) rfl) (enters_of Try.func35 (by kernel_rfl) rfl)).mono ?_
  rintro e w1 ⟨lb1, rfl, hb1, hor⟩
  refine ⟨lb1, rfl, bext hB hb1, ?_, ?_, ?_, fun k p q h1 h2 => hor k p q (h1.on hB) (h2.on hB)⟩
  · rw [hb1.cell (p := ⟨w.heap.size + 1, 0, none⟩) (by simp)]; simp [go_sem]
  · rw [hb1.cell (p := ⟨w.heap.size + 1 + 1, 0, none⟩) (by simp)]; simp [go_sem]
  · exact (four_at (b := w.heap.size) hb1 (by simp; omega) (by simp [go_sem]) (by simp [go_sem]) (by simp [go_sem]) (by simp [go_sem]) (by simp [go_sem]) (by simp [go_sem]) (by simp [go_sem]) (by simp [go_sem])).1

theorem sig_of (ty : Nd → Bool) (so : List UInt8 → Bool) (n : Nat) (hty : Ok 35 ty n) (t : Nd) (a : Option Addr) (c g : Nat) (lb : Array Value) (w : World) (ht : t.height ≤ n + 1) (hg : Glob w)
    (eg : Enters Try.prog g) (hs : ∀ l : List UInt8, l.length ≤ 140737488351232 → SaysTx Try.prog g lb l (so l) w) (hk : Kids w w.heap.size a t.kids) (hf : Fits t c) (lb1 : Array Value) (w1 : World) (hm : SigMid t a c g lb w lb1 w1) :
    Calls Try.prog 42 #[.agg #[.int .i64 t.kind, .string ⟨t.text.toArray⟩, .slice a t.kids.length c, .int .i64 t.pos], .int .i64 12, .slice (some ⟨w1.heap.size, 0, none⟩) 2 2]
      (w1.alloc (.cells #[.func (.func 76) #[] #[.pointer (some ⟨w.heap.size + 1 + 1, 0, none⟩)], .func (.func 71) #[] lb1] 30))
      fun e w2 => e = .returned (.bool (sigB ty so t)) ∧ Below w.heap.size w w2 := by
  have hA := below_alloc w1 (.cells #[.func (.func 76) #[] #[.pointer (some ⟨w.heap.size + 1 + 1, 0, none⟩)], .func (.func 71) #[] lb1] 30)
  have hV := bext hm.on hA
  refine (of2 t a c 12 _ (f1 := listB (paramB ty so)) (f2 := fun r => emptyB r || ty r) (by simp) (by simp) (enters_of Try.func76 (by kernel_rfl) rfl)
          (fun k hk => sig_says ty so n hty _ (w.heap.size + 1) (w.heap.size + 1 + 1) g lb (cell_on hm.x1 hA) (cell_on hm.x2 hA) eg (fun l hl => (hs l hl).on hV) (hg.on hV) k (by have := Nd.height_kid hk; omega))
          (by simp) (enters_of Try.func71 (by kernel_rfl) rfl)
          (fun k hk => (hm.tells k _ _ ((empty_ok n).says (by have := Nd.height_kid hk; omega) hg) (hty.says (by have := Nd.height_kid hk; omega) hg)).on hA)
          (hk.on hV) hf).mono ?_
  rintro e w2 ⟨rfl, hb2⟩
  exact ⟨rfl, bext hV hb2⟩

set_option maxHeartbeats 1000000 in
theorem signature_any (ty : Nd → Bool) (so : List UInt8 → Bool) (n : Nat) (hty : Ok 35 ty n) (t : Nd) (a : Option Addr) (c g : Nat) (lb : Array Value) (w : World) (ht : t.height ≤ n + 1) (hg : Glob w)
    (eg : Enters Try.prog g) (hs : ∀ l : List UInt8, l.length ≤ 140737488351232 → SaysTx Try.prog g lb l (so l) w) (hk : Kids w w.heap.size a t.kids) (hf : Fits t c) :
    Calls Try.prog 50 #[.agg #[.int .i64 t.kind, .string ⟨t.text.toArray⟩, .slice a t.kids.length c, .int .i64 t.pos], .func (.func g) #[] lb] w fun e w' => e = .returned (.bool (sigB ty so t)) ∧ Below w.heap.size w w' := by
  have H2 := Lib.hid (sig_of ty so n hty t a c g lb w ht hg eg hs hk hf)
  clear hs hty hk hf hg eg
  go_enter Try.func50, Try.ntmps50
  go_wp2_with fail
  go_region_with (first
    | (go_at_call 46
       refine (sig_or t a c g lb w).mono ?_
       rintro e w1 ⟨lb1, rfl, hm⟩
       obtain ⟨a0, a1, a2, a3⟩ := hm.four
       have hz := cell_lt a0
       have HM := Lib.hid hm
       clear hm)
    | (go_at_call 42
       refine (H2.out _ _ HM.out).mono ?_
       rintro e w2 ⟨rfl, hb2⟩))
  all_goals
    go_wp2_with fail
    go_ret
    exact ⟨rfl, hb2⟩
end Go.Proofs.Ytnmebgiiajnnjaa
