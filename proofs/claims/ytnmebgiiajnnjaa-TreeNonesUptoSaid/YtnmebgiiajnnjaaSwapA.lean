/-
  tree.Swap$1, tree.Swap, walked
-/
import Derived.Test.YtnmebgiiajnnjaaCopyE
import Derived.Test.YtnmebgiiajnnjaaRightA
namespace Go.Proofs.Ytnmebgiiajnnjaa
set_option linter.unusedSimpArgs false
set_option linter.unusedVariables false
open Go.RowKit

/-- What is put in the place of a node: by, where kind and text are these and no kids are. -/
def swapF (kind : Int) (text : List UInt8) (by_ : Nd) (x : Nd) : Option Nd := if (x.kind == kind && (x.text == text && x.kids.isEmpty)) = true then some by_ else none

/-- What the closure has caught. -/
structure Caught (Zo : Nat → Prop) (y : Nd) (ay : Option Addr) (cy : Nat) (kind : Int) (text : List UInt8) (by_ kb tb : Nat) (w : World) : Prop where
  box : (w.cell? ⟨by_, 0, none⟩ = some (.int .i64 y.kind) ∧ w.cell? ⟨by_, 1, none⟩ = some (.string ⟨y.text.toArray⟩) ∧ w.cell? ⟨by_, 2, none⟩ = some (.slice (ay) y.kids.length cy) ∧ w.cell? ⟨by_, 3, none⟩ = some (.int .i64 y.pos))
  k : w.cell? ⟨kb, 0, none⟩ = some (.int .i64 kind)
  s : w.cell? ⟨tb, 0, none⟩ = some (.string ⟨text.toArray⟩)
  z : KidsZ w Zo ay y.kids ∨ y.height ≤ 100
  zl : ∀ b, Zo b → b < w.heap.size
  kids : Kids w w.heap.size ay y.kids
  fits : Fits y cy
theorem Caught.on {Zo : Nat → Prop} {y : Nd} {ay : Option Addr} {cy : Nat} {kind : Int} {text : List UInt8} {by_ kb tb : Nat} {w w' : World} (h : Caught Zo y ay cy kind text by_ kb tb w) (hb : Below w.heap.size w w') : Caught Zo y ay cy kind text by_ kb tb w' := by
  obtain ⟨hc, _⟩ := bcell hb
  have hs := hb.size
  exact ⟨cells_on hb h.box.1 h.box.2.1 h.box.2.2.1 h.box.2.2.2, (hc _ _ (cell_lt h.k)).trans h.k, (hc _ _ (cell_lt h.s)).trans h.s,
    h.z.imp (fun z => z.move (fun _ hb' => hb') (fun p v hp hv => (hb.cell (h.zl _ hp)).trans hv)) id, fun b hb' => by have := h.zl b hb'; omega, h.kids.on hb, h.fits⟩

theorem string_cells {b : Nat} {W W' : World} {v : Value} (hb : Below W.heap.size W W') (h : W.cell? ⟨b, 0, none⟩ = some v) : W'.cell? ⟨b, 0, none⟩ = some v := (hb.cell (p := ⟨b, 0, none⟩) (cell_lt h)).trans h

set_option maxRecDepth 100000 in
set_option maxHeartbeats 4000000 in
theorem swap1_at (Zo : Nat → Prop) (y : Nd) (ay : Option Addr) (cy : Nat) (kind : Int) (text : List UInt8) (by_ kb tb : Nat) (w : World) (h : Caught Zo y ay cy kind text by_ kb tb w) :
    AtSays 24 #[.pointer (some ⟨by_, 0, none⟩), .pointer (some ⟨kb, 0, none⟩), .pointer (some ⟨tb, 0, none⟩)] (swapF kind text y) Zo w := by
  intro W x a c hW hk hf
  have hCW := h.on hW
  obtain ⟨wa, hwa⟩ : ∃ wa, ((W.alloc (.cells #[.int .i64 x.kind, .string ⟨x.text.toArray⟩, .slice a x.kids.length c, .int .i64 x.pos] 24)).alloc (.cells #[.int .i64 0, .string ⟨#[]⟩, .slice none 0 0, .int .i64 0] 24)).drew = wa := ⟨_, rfl⟩
  have hba : Below W.heap.size W wa := by rw [← hwa]; exact (((Below.refl _ _).alloc (Nat.le_refl _) _).alloc (by simp) _).drew
  have hsz : wa.heap.size = W.heap.size + 2 := by rw [← hwa]; simp
  have hca := hCW.on hba
  have nx : (wa.cell? ⟨W.heap.size, 0, none⟩ = some (.int .i64 x.kind) ∧ wa.cell? ⟨W.heap.size, 1, none⟩ = some (.string ⟨x.text.toArray⟩) ∧ wa.cell? ⟨W.heap.size, 2, none⟩ = some (.slice (a) x.kids.length c) ∧ wa.cell? ⟨W.heap.size, 3, none⟩ = some (.int .i64 x.pos)) := by rw [← hwa]; refine ⟨?_, ?_, ?_, ?_⟩ <;> simp [go_sem]
  have nr : wa.cell? ⟨W.heap.size + 1, 0, none⟩ = some (.int .i64 0) ∧ wa.cell? ⟨W.heap.size + 1, 1, none⟩ = some (.string ⟨#[]⟩) ∧ wa.cell? ⟨W.heap.size + 1, 2, none⟩ = some (.slice none 0 0) ∧ wa.cell? ⟨W.heap.size + 1, 3, none⟩ = some (.int .i64 0) := by
    rw [← hwa]; refine ⟨?_, ?_, ?_, ?_⟩ <;> simp [go_sem]
  have nf : wa.frozen? ⟨W.heap.size + 1, 0, none⟩ = false ∧ wa.frozen? ⟨W.heap.size + 1, 1, none⟩ = false ∧ wa.frozen? ⟨W.heap.size + 1, 2, none⟩ = false ∧ wa.frozen? ⟨W.heap.size + 1, 3, none⟩ = false := by
    rw [← hwa]; refine ⟨?_, ?_, ?_, ?_⟩ <;> simp [go_sem]
  have hcall := (copy_any Zo y ay cy wa hca.z hca.zl hca.kids hca.fits).mono (R' := fun e w1 => ∃ a' c', e = .returned (.agg #[.int .i64 y.kind, .string ⟨y.text.toArray⟩, .slice a' y.kids.length c', .int .i64 y.pos]) ∧
      ((w1.cell? ⟨W.heap.size, 0, none⟩ = some (.int .i64 x.kind) ∧ w1.cell? ⟨W.heap.size, 1, none⟩ = some (.string ⟨x.text.toArray⟩) ∧ w1.cell? ⟨W.heap.size, 2, none⟩ = some (.slice (a) x.kids.length c) ∧ w1.cell? ⟨W.heap.size, 3, none⟩ = some (.int .i64 x.pos)) ∧ (w1.cell? ⟨by_, 0, none⟩ = some (.int .i64 y.kind) ∧ w1.cell? ⟨by_, 1, none⟩ = some (.string ⟨y.text.toArray⟩) ∧ w1.cell? ⟨by_, 2, none⟩ = some (.slice (ay) y.kids.length cy) ∧ w1.cell? ⟨by_, 3, none⟩ = some (.int .i64 y.pos)) ∧ w1.cell? ⟨kb, 0, none⟩ = some (.int .i64 kind) ∧ w1.cell? ⟨tb, 0, none⟩ = some (.string ⟨text.toArray⟩)) ∧
      (w1.cell? ⟨W.heap.size + 1, 0, none⟩ = some (.int .i64 0) ∧ w1.cell? ⟨W.heap.size + 1, 1, none⟩ = some (.string ⟨#[]⟩) ∧ w1.cell? ⟨W.heap.size + 1, 2, none⟩ = some (.slice none 0 0) ∧ w1.cell? ⟨W.heap.size + 1, 3, none⟩ = some (.int .i64 0)) ∧
      (w1.frozen? ⟨W.heap.size + 1, 0, none⟩ = false ∧ w1.frozen? ⟨W.heap.size + 1, 1, none⟩ = false ∧ w1.frozen? ⟨W.heap.size + 1, 2, none⟩ = false ∧ w1.frozen? ⟨W.heap.size + 1, 3, none⟩ = false) ∧
      W.heap.size + 1 < w1.heap.size ∧ Hid (Below wa.heap.size wa w1 ∧ Fits y c' ∧ KidsZ w1 (fun b => Zo b ∨ (wa.heap.size ≤ b ∧ b < w1.heap.size)) a' y.kids))
    (fun e w1 ⟨hb, a', c', he, hfit, hz⟩ => by
      obtain ⟨hc, hfz⟩ := bcell hb
      have hs := hb.size
      exact ⟨a', c', he, ⟨cells_on hb nx.1 nx.2.1 nx.2.2.1 nx.2.2.2, (hca.on hb).box, (hca.on hb).k, (hca.on hb).s⟩, cells_on hb nr.1 nr.2.1 nr.2.2.1 nr.2.2.2,
        ⟨(hfz _ _ (by omega)).trans nf.1, (hfz _ _ (by omega)).trans nf.2.1, (hfz _ _ (by omega)).trans nf.2.2.1, (hfz _ _ (by omega)).trans nf.2.2.2⟩, by omega, Lib.hid ⟨hb, hfit, hz⟩⟩)
  have hcx := hca
  rw [← hwa] at hcall hba hsz
  obtain ⟨⟨y0, y1, y2, y3⟩, k0, s0⟩ : (W.cell? ⟨by_, 0, none⟩ = some (.int .i64 y.kind) ∧ W.cell? ⟨by_, 1, none⟩ = some (.string ⟨y.text.toArray⟩) ∧ W.cell? ⟨by_, 2, none⟩ = some (.slice (ay) y.kids.length cy) ∧ W.cell? ⟨by_, 3, none⟩ = some (.int .i64 y.pos)) ∧ W.cell? ⟨kb, 0, none⟩ = some (.int .i64 kind) ∧ W.cell? ⟨tb, 0, none⟩ = some (.string ⟨text.toArray⟩) := ⟨hCW.box, hCW.k, hCW.s⟩
  have ly : by_ < W.heap.size := cell_lt y0
  have lk : kb < W.heap.size := cell_lt k0
  have lt : tb < W.heap.size := cell_lt s0
  have HC := Lib.hid hcall
  have HB := Lib.hid hba
  have HSZ := Lib.hid hsz
  have HZL := Lib.hid hCW.zl
  have hl63 : x.kids.length ≤ 9223372036854775807 := by have := hf.2.2.2.2.2.1; have := hf.2.2.2.2.2.2.1; omega
  have hlen := len_zero x.kids
  have HLE := Lib.hid hlen
  clear hcall hba hsz hca hcx hCW nx nr nf hk hf hW h hlen hwa
  show Calls Try.prog 24 #[.agg #[.int .i64 x.kind, .string ⟨x.text.toArray⟩, .slice a x.kids.length c, .int .i64 x.pos], .pointer (some ⟨by_, 0, none⟩), .pointer (some ⟨kb, 0, none⟩), .pointer (some ⟨tb, 0, none⟩)] W _
  go_enter Try.func24, Try.ntmps24
  cases h1 : (x.kind == kind)
  all_goals
    cases h2 : (x.text == text)
    all_goals
      cases h3 : x.kids.isEmpty
      all_goals
        have HE := Lib.hid (show swapF kind text y x = if (x.kind == kind && (x.text == text && x.kids.isEmpty)) = true then some y else none from rfl)
        rw [h1, h2, h3] at HE
        have e3 := HLE.out
        rw [h3] at e3
        clear h3
        -- BY HAND: the takes of a region with guards that are false
        go_wp2_with fail
        refine wp_region_held_drew (S := fun w' => (w'.cell? ⟨W.heap.size, 0, none⟩ = some (.int .i64 x.kind) ∧ w'.cell? ⟨W.heap.size, 1, none⟩ = some (.string ⟨x.text.toArray⟩) ∧ w'.cell? ⟨W.heap.size, 2, none⟩ = some (.slice (a) x.kids.length c) ∧ w'.cell? ⟨W.heap.size, 3, none⟩ = some (.int .i64 x.pos)) ∧ (w'.cell? ⟨by_, 0, none⟩ = some (.int .i64 y.kind) ∧ w'.cell? ⟨by_, 1, none⟩ = some (.string ⟨y.text.toArray⟩) ∧ w'.cell? ⟨by_, 2, none⟩ = some (.slice (ay) y.kids.length cy) ∧ w'.cell? ⟨by_, 3, none⟩ = some (.int .i64 y.pos)) ∧ w'.cell? ⟨kb, 0, none⟩ = some (.int .i64 kind) ∧ w'.cell? ⟨tb, 0, none⟩ = some (.string ⟨text.toArray⟩)) (by kernel_rfl) (by go_keep) (fun hHeld => ?_)
        first
          | (refine wpAnyH_take (i := 0) (v := ?_) rfl (by kernel_rfl) (by kernel_rfl) (by kernel_rfl) (fun _ _ _ h => h) (Or.inl ⟨?_, ?_⟩) (by assumption) ?_; rotate_left 1; (focus rfl); (focus (intro w hSw; (try dsimp only at hSw); go_simp; (try with_reducible rfl); done)); (try simp only [Act.put, List.setIfInBounds_toArray, List.set_cons_zero, List.set_cons_succ, List.getElem_toArray, List.getElem_cons_zero, List.getElem_cons_succ]))
          | (refine wpAnyH_take (i := 0) (v := undef) rfl (by kernel_rfl) (by kernel_rfl) (by kernel_rfl) (fun _ _ _ h => h) (Or.inr ⟨?_, rfl⟩) (by assumption) ?_; (focus rfl); (try simp only [Act.put, List.setIfInBounds_toArray, List.set_cons_zero, List.set_cons_succ, List.getElem_toArray, List.getElem_cons_zero, List.getElem_cons_succ]))
        first
          | (refine wpAnyH_take (i := 2) (v := ?_) rfl (by kernel_rfl) (by kernel_rfl) (by kernel_rfl) (fun _ _ _ h => h) (Or.inl ⟨?_, ?_⟩) (by assumption) ?_; rotate_left 1; (focus rfl); (focus (intro w hSw; (try dsimp only at hSw); go_simp; (try with_reducible rfl); done)); (try simp only [Act.put, List.setIfInBounds_toArray, List.set_cons_zero, List.set_cons_succ, List.getElem_toArray, List.getElem_cons_zero, List.getElem_cons_succ]))
          | (refine wpAnyH_take (i := 2) (v := undef) rfl (by kernel_rfl) (by kernel_rfl) (by kernel_rfl) (fun _ _ _ h => h) (Or.inr ⟨?_, rfl⟩) (by assumption) ?_; (focus rfl); (try simp only [Act.put, List.setIfInBounds_toArray, List.set_cons_zero, List.set_cons_succ, List.getElem_toArray, List.getElem_cons_zero, List.getElem_cons_succ]))
        first
          | (refine wpAnyH_take (i := 3) (v := ?_) rfl (by kernel_rfl) (by kernel_rfl) (by kernel_rfl) (fun _ _ _ h => h) (Or.inl ⟨?_, ?_⟩) (by assumption) ?_; rotate_left 1; (focus rfl); (focus (intro w hSw; (try dsimp only at hSw); go_simp; (try with_reducible rfl); done)); (try simp only [Act.put, List.setIfInBounds_toArray, List.set_cons_zero, List.set_cons_succ, List.getElem_toArray, List.getElem_cons_zero, List.getElem_cons_succ]))
          | (refine wpAnyH_take (i := 3) (v := undef) rfl (by kernel_rfl) (by kernel_rfl) (by kernel_rfl) (fun _ _ _ h => h) (Or.inr ⟨?_, rfl⟩) (by assumption) ?_; (focus rfl); (try simp only [Act.put, List.setIfInBounds_toArray, List.set_cons_zero, List.set_cons_succ, List.getElem_toArray, List.getElem_cons_zero, List.getElem_cons_succ]))
        first
          | (refine wpAnyH_take (i := 4) (v := ?_) rfl (by kernel_rfl) (by kernel_rfl) (by kernel_rfl) (fun _ _ _ h => h) (Or.inl ⟨?_, ?_⟩) (by assumption) ?_; rotate_left 1; (focus rfl); (focus (intro w hSw; (try dsimp only at hSw); go_simp; (try with_reducible rfl); done)); (try simp only [Act.put, List.setIfInBounds_toArray, List.set_cons_zero, List.set_cons_succ, List.getElem_toArray, List.getElem_cons_zero, List.getElem_cons_succ]))
          | (refine wpAnyH_take (i := 4) (v := undef) rfl (by kernel_rfl) (by kernel_rfl) (by kernel_rfl) (fun _ _ _ h => h) (Or.inr ⟨?_, rfl⟩) (by assumption) ?_; (focus rfl); (try simp only [Act.put, List.setIfInBounds_toArray, List.set_cons_zero, List.set_cons_succ, List.getElem_toArray, List.getElem_cons_zero, List.getElem_cons_succ]))
        first
          | (refine wpAnyH_take (i := 5) (v := ?_) rfl (by kernel_rfl) (by kernel_rfl) (by kernel_rfl) (fun _ _ _ h => h) (Or.inl ⟨?_, ?_⟩) (by assumption) ?_; rotate_left 1; (focus rfl); (focus (intro w hSw; (try dsimp only at hSw); go_simp; (try with_reducible rfl); done)); (try simp only [Act.put, List.setIfInBounds_toArray, List.set_cons_zero, List.set_cons_succ, List.getElem_toArray, List.getElem_cons_zero, List.getElem_cons_succ]))
          | (refine wpAnyH_take (i := 5) (v := undef) rfl (by kernel_rfl) (by kernel_rfl) (by kernel_rfl) (fun _ _ _ h => h) (Or.inr ⟨?_, rfl⟩) (by assumption) ?_; (focus rfl); (try simp only [Act.put, List.setIfInBounds_toArray, List.set_cons_zero, List.set_cons_succ, List.getElem_toArray, List.getElem_cons_zero, List.getElem_cons_succ]))
        refine wpAnyH_ready (rs := [1]) (by kernel_rfl) (by simp) ?_
        refine AllReadyH.cons rfl (fun K hK => ?_) AllReadyH.nil
        rw [if_pos (by rfl)]
        go_simp
        refine HC.out.mono ?_
        rintro e w1 ⟨a', c', rfl, ⟨⟨x0, x1, x2, x3⟩, ⟨y0, y1, y2, y3⟩, k0, s0⟩, ⟨r0, r1, r2, r3⟩, ⟨f0, f1, f2, f3⟩, hs1, hr1⟩
        refine hK.out _ _ ⟨⟨x0, x1, x2, x3⟩, ⟨y0, y1, y2, y3⟩, k0, s0⟩ (fun hHeld => ?_)
        clear hK K
        try simp only [Act.put, List.setIfInBounds_toArray, List.set_cons_zero, List.set_cons_succ]
        first
          | (refine wpAnyH_take (i := 6) (v := ?_) rfl (by kernel_rfl) (by kernel_rfl) (by kernel_rfl) (fun _ _ _ h => h) (Or.inl ⟨?_, ?_⟩) (by assumption) ?_; rotate_left 1; (focus rfl); (focus (intro w hSw; (try dsimp only at hSw); go_simp; (try with_reducible rfl); done)); (try simp only [Act.put, List.setIfInBounds_toArray, List.set_cons_zero, List.set_cons_succ, List.getElem_toArray, List.getElem_cons_zero, List.getElem_cons_succ]))
          | (refine wpAnyH_take (i := 6) (v := undef) rfl (by kernel_rfl) (by kernel_rfl) (by kernel_rfl) (fun _ _ _ h => h) (Or.inr ⟨?_, rfl⟩) (by assumption) ?_; (focus rfl); (try simp only [Act.put, List.setIfInBounds_toArray, List.set_cons_zero, List.set_cons_succ, List.getElem_toArray, List.getElem_cons_zero, List.getElem_cons_succ]))
        first
          | (refine wpAnyH_take (i := 7) (v := ?_) rfl (by kernel_rfl) (by kernel_rfl) (by kernel_rfl) (fun _ _ _ h => h) (Or.inl ⟨?_, ?_⟩) (by assumption) ?_; rotate_left 1; (focus rfl); (focus (intro w hSw; (try dsimp only at hSw); go_simp; (try with_reducible rfl); done)); (try simp only [Act.put, List.setIfInBounds_toArray, List.set_cons_zero, List.set_cons_succ, List.getElem_toArray, List.getElem_cons_zero, List.getElem_cons_succ]))
          | (refine wpAnyH_take (i := 7) (v := undef) rfl (by kernel_rfl) (by kernel_rfl) (by kernel_rfl) (fun _ _ _ h => h) (Or.inr ⟨?_, rfl⟩) (by assumption) ?_; (focus rfl); (try simp only [Act.put, List.setIfInBounds_toArray, List.set_cons_zero, List.set_cons_succ, List.getElem_toArray, List.getElem_cons_zero, List.getElem_cons_succ]))
        first
          | (refine wpAnyH_take (i := 8) (v := ?_) rfl (by kernel_rfl) (by kernel_rfl) (by kernel_rfl) (fun _ _ _ h => h) (Or.inl ⟨?_, ?_⟩) (by assumption) ?_; rotate_left 1; (focus rfl); (focus (intro w hSw; (try dsimp only at hSw); go_simp; (try with_reducible rfl); done)); (try simp only [Act.put, List.setIfInBounds_toArray, List.set_cons_zero, List.set_cons_succ, List.getElem_toArray, List.getElem_cons_zero, List.getElem_cons_succ]))
          | (refine wpAnyH_take (i := 8) (v := undef) rfl (by kernel_rfl) (by kernel_rfl) (by kernel_rfl) (fun _ _ _ h => h) (Or.inr ⟨?_, rfl⟩) (by assumption) ?_; (focus rfl); (try simp only [Act.put, List.setIfInBounds_toArray, List.set_cons_zero, List.set_cons_succ, List.getElem_toArray, List.getElem_cons_zero, List.getElem_cons_succ]))
        first
          | (refine wpAnyH_take (i := 9) (v := ?_) rfl (by kernel_rfl) (by kernel_rfl) (by kernel_rfl) (fun _ _ _ h => h) (Or.inl ⟨?_, ?_⟩) (by assumption) ?_; rotate_left 1; (focus rfl); (focus (intro w hSw; (try dsimp only at hSw); go_simp; (try with_reducible rfl); done)); (try simp only [Act.put, List.setIfInBounds_toArray, List.set_cons_zero, List.set_cons_succ, List.getElem_toArray, List.getElem_cons_zero, List.getElem_cons_succ]))
          | (refine wpAnyH_take (i := 9) (v := undef) rfl (by kernel_rfl) (by kernel_rfl) (by kernel_rfl) (fun _ _ _ h => h) (Or.inr ⟨?_, rfl⟩) (by assumption) ?_; (focus rfl); (try simp only [Act.put, List.setIfInBounds_toArray, List.set_cons_zero, List.set_cons_succ, List.getElem_toArray, List.getElem_cons_zero, List.getElem_cons_succ]))
        first
          | (refine wpAnyH_take (i := 10) (v := ?_) rfl (by kernel_rfl) (by kernel_rfl) (by kernel_rfl) (fun _ _ _ h => h) (Or.inl ⟨?_, ?_⟩) (by assumption) ?_; rotate_left 1; (focus rfl); (focus (intro w hSw; (try dsimp only at hSw); go_simp; (try with_reducible rfl); done)); (try simp only [Act.put, List.setIfInBounds_toArray, List.set_cons_zero, List.set_cons_succ, List.getElem_toArray, List.getElem_cons_zero, List.getElem_cons_succ]))
          | (refine wpAnyH_take (i := 10) (v := undef) rfl (by kernel_rfl) (by kernel_rfl) (by kernel_rfl) (fun _ _ _ h => h) (Or.inr ⟨?_, rfl⟩) (by assumption) ?_; (focus rfl); (try simp only [Act.put, List.setIfInBounds_toArray, List.set_cons_zero, List.set_cons_succ, List.getElem_toArray, List.getElem_cons_zero, List.getElem_cons_succ]))
        first
          | (refine wpAnyH_take (i := 11) (v := ?_) rfl (by kernel_rfl) (by kernel_rfl) (by kernel_rfl) (fun _ _ _ h => h) (Or.inl ⟨?_, ?_⟩) (by assumption) ?_; rotate_left 1; (focus rfl); (focus (intro w hSw; (try dsimp only at hSw); go_simp; (try with_reducible rfl); done)); (try simp only [Act.put, List.setIfInBounds_toArray, List.set_cons_zero, List.set_cons_succ, List.getElem_toArray, List.getElem_cons_zero, List.getElem_cons_succ]))
          | (refine wpAnyH_take (i := 11) (v := undef) rfl (by kernel_rfl) (by kernel_rfl) (by kernel_rfl) (fun _ _ _ h => h) (Or.inr ⟨?_, rfl⟩) (by assumption) ?_; (focus rfl); (try simp only [Act.put, List.setIfInBounds_toArray, List.set_cons_zero, List.set_cons_succ, List.getElem_toArray, List.getElem_cons_zero, List.getElem_cons_succ]))
        first
          | (refine wpAnyH_take (i := 12) (v := ?_) rfl (by kernel_rfl) (by kernel_rfl) (by kernel_rfl) (fun _ _ _ h => h) (Or.inl ⟨?_, ?_⟩) (by assumption) ?_; rotate_left 1; (focus rfl); (focus (intro w hSw; (try dsimp only at hSw); go_simp; (try with_reducible rfl); done)); (try simp only [Act.put, List.setIfInBounds_toArray, List.set_cons_zero, List.set_cons_succ, List.getElem_toArray, List.getElem_cons_zero, List.getElem_cons_succ]))
          | (refine wpAnyH_take (i := 12) (v := undef) rfl (by kernel_rfl) (by kernel_rfl) (by kernel_rfl) (fun _ _ _ h => h) (Or.inr ⟨?_, rfl⟩) (by assumption) ?_; (focus rfl); (try simp only [Act.put, List.setIfInBounds_toArray, List.set_cons_zero, List.set_cons_succ, List.getElem_toArray, List.getElem_cons_zero, List.getElem_cons_succ]))
        first
          | (refine wpAnyH_take (i := 13) (v := ?_) rfl (by kernel_rfl) (by kernel_rfl) (by kernel_rfl) (fun _ _ _ h => h) (Or.inl ⟨?_, ?_⟩) (by assumption) ?_; rotate_left 1; (focus rfl); (focus (intro w hSw; (try dsimp only at hSw); go_simp; (try with_reducible rfl); done)); (try simp only [Act.put, List.setIfInBounds_toArray, List.set_cons_zero, List.set_cons_succ, List.getElem_toArray, List.getElem_cons_zero, List.getElem_cons_succ]))
          | (refine wpAnyH_take (i := 13) (v := undef) rfl (by kernel_rfl) (by kernel_rfl) (by kernel_rfl) (fun _ _ _ h => h) (Or.inr ⟨?_, rfl⟩) (by assumption) ?_; (focus rfl); (try simp only [Act.put, List.setIfInBounds_toArray, List.set_cons_zero, List.set_cons_succ, List.getElem_toArray, List.getElem_cons_zero, List.getElem_cons_succ]))
        first
          | (refine wpAnyH_take (i := 14) (v := ?_) rfl (by kernel_rfl) (by kernel_rfl) (by kernel_rfl) (fun _ _ _ h => h) (Or.inl ⟨?_, ?_⟩) (by assumption) ?_; rotate_left 1; (focus rfl); (focus (intro w hSw; (try dsimp only at hSw); go_simp; (try with_reducible rfl); done)); (try simp only [Act.put, List.setIfInBounds_toArray, List.set_cons_zero, List.set_cons_succ, List.getElem_toArray, List.getElem_cons_zero, List.getElem_cons_succ]))
          | (refine wpAnyH_take (i := 14) (v := undef) rfl (by kernel_rfl) (by kernel_rfl) (by kernel_rfl) (fun _ _ _ h => h) (Or.inr ⟨?_, rfl⟩) (by assumption) ?_; (focus rfl); (try simp only [Act.put, List.setIfInBounds_toArray, List.set_cons_zero, List.set_cons_succ, List.getElem_toArray, List.getElem_cons_zero, List.getElem_cons_succ]))
        first
          | (refine wpAnyH_take (i := 15) (v := ?_) rfl (by kernel_rfl) (by kernel_rfl) (by kernel_rfl) (fun _ _ _ h => h) (Or.inl ⟨?_, ?_⟩) (by assumption) ?_; rotate_left 1; (focus rfl); (focus (intro w hSw; (try dsimp only at hSw); go_simp; (try with_reducible rfl); done)); (try simp only [Act.put, List.setIfInBounds_toArray, List.set_cons_zero, List.set_cons_succ, List.getElem_toArray, List.getElem_cons_zero, List.getElem_cons_succ]))
          | (refine wpAnyH_take (i := 15) (v := undef) rfl (by kernel_rfl) (by kernel_rfl) (by kernel_rfl) (fun _ _ _ h => h) (Or.inr ⟨?_, rfl⟩) (by assumption) ?_; (focus rfl); (try simp only [Act.put, List.setIfInBounds_toArray, List.set_cons_zero, List.set_cons_succ, List.getElem_toArray, List.getElem_cons_zero, List.getElem_cons_succ]))
        first
          | (refine wpAnyH_take (i := 16) (v := ?_) rfl (by kernel_rfl) (by kernel_rfl) (by kernel_rfl) (fun _ _ _ h => h) (Or.inl ⟨?_, ?_⟩) (by assumption) ?_; rotate_left 1; (focus rfl); (focus (intro w hSw; (try dsimp only at hSw); go_simp; (try with_reducible rfl); done)); (try simp only [Act.put, List.setIfInBounds_toArray, List.set_cons_zero, List.set_cons_succ, List.getElem_toArray, List.getElem_cons_zero, List.getElem_cons_succ]))
          | (refine wpAnyH_take (i := 16) (v := undef) rfl (by kernel_rfl) (by kernel_rfl) (by kernel_rfl) (fun _ _ _ h => h) (Or.inr ⟨?_, rfl⟩) (by assumption) ?_; (focus rfl); (try simp only [Act.put, List.setIfInBounds_toArray, List.set_cons_zero, List.set_cons_succ, List.getElem_toArray, List.getElem_cons_zero, List.getElem_cons_succ]))
        first
          | (refine wpAnyH_take (i := 17) (v := ?_) rfl (by kernel_rfl) (by kernel_rfl) (by kernel_rfl) (fun _ _ _ h => h) (Or.inl ⟨?_, ?_⟩) (by assumption) ?_; rotate_left 1; (focus rfl); (focus (intro w hSw; (try dsimp only at hSw); go_simp; (try with_reducible rfl); done)); (try simp only [Act.put, List.setIfInBounds_toArray, List.set_cons_zero, List.set_cons_succ, List.getElem_toArray, List.getElem_cons_zero, List.getElem_cons_succ]))
          | (refine wpAnyH_take (i := 17) (v := undef) rfl (by kernel_rfl) (by kernel_rfl) (by kernel_rfl) (fun _ _ _ h => h) (Or.inr ⟨?_, rfl⟩) (by assumption) ?_; (focus rfl); (try simp only [Act.put, List.setIfInBounds_toArray, List.set_cons_zero, List.set_cons_succ, List.getElem_toArray, List.getElem_cons_zero, List.getElem_cons_succ]))
        refine wpAnyH_ready (rs := [18]) (by kernel_rfl) (by simp) ?_
        refine AllReadyH.cons rfl (fun K hK => ?_) AllReadyH.nil
        rw [if_pos (by rfl)]
        go_simp
        refine hK.out _ _ ?_ (fun hHeld => ?_)
        · have e0 : ∀ (b o : Nat) (u : Value), b ≠ W.heap.size + 1 → w1.cell? ⟨b, o, none⟩ = some u → ((((w1.setCell ⟨W.heap.size + 1, 0, none⟩ (.int .i64 y.kind)).setCell ⟨W.heap.size + 1, 1, none⟩ (.string ⟨y.text.toArray⟩)).setCell ⟨W.heap.size + 1, 2, none⟩ (.slice a' y.kids.length c')).setCell ⟨W.heap.size + 1, 3, none⟩ (.int .i64 y.pos)).cell? ⟨b, o, none⟩ = some u := fun b o u hb h => by
            rw [cell_far_set (p := ⟨b, o, none⟩) hb, cell_far_set (p := ⟨b, o, none⟩) hb, cell_far_set (p := ⟨b, o, none⟩) hb, cell_far_set (p := ⟨b, o, none⟩) hb]; exact h
          exact ⟨⟨e0 _ _ _ (by omega) x0, e0 _ _ _ (by omega) x1, e0 _ _ _ (by omega) x2, e0 _ _ _ (by omega) x3⟩, ⟨e0 _ _ _ (by omega) y0, e0 _ _ _ (by omega) y1, e0 _ _ _ (by omega) y2, e0 _ _ _ (by omega) y3⟩, e0 _ _ _ (by omega) k0, e0 _ _ _ (by omega) s0⟩
        clear hK K
        try simp only [Act.put, List.setIfInBounds_toArray, List.set_cons_zero, List.set_cons_succ]
        first
          | (refine wpAnyH_take (i := 19) (v := ?_) rfl (by kernel_rfl) (by kernel_rfl) (by kernel_rfl) (fun _ _ _ h => h) (Or.inl ⟨?_, ?_⟩) (by assumption) ?_; rotate_left 1; (focus rfl); (focus (intro w hSw; (try dsimp only at hSw); go_simp; (try with_reducible rfl); done)); (try simp only [Act.put, List.setIfInBounds_toArray, List.set_cons_zero, List.set_cons_succ, List.getElem_toArray, List.getElem_cons_zero, List.getElem_cons_succ]))
          | (refine wpAnyH_take (i := 19) (v := undef) rfl (by kernel_rfl) (by kernel_rfl) (by kernel_rfl) (fun _ _ _ h => h) (Or.inr ⟨?_, rfl⟩) (by assumption) ?_; (focus rfl); (try simp only [Act.put, List.setIfInBounds_toArray, List.set_cons_zero, List.set_cons_succ, List.getElem_toArray, List.getElem_cons_zero, List.getElem_cons_succ]))
        refine wpAnyH_done (by kernel_rfl) ?_ _
        go_wp2_with fail
        have hb : Below W.heap.size W ((((w1.setCell ⟨W.heap.size + 1, 0, none⟩ (.int .i64 y.kind)).setCell ⟨W.heap.size + 1, 1, none⟩ (.string ⟨y.text.toArray⟩)).setCell ⟨W.heap.size + 1, 2, none⟩ (.slice a' y.kids.length c')).setCell ⟨W.heap.size + 1, 3, none⟩ (.int .i64 y.pos)) :=
          ((((bext HB.out hr1.out.1).setCell (p := ⟨W.heap.size + 1, 0, none⟩) (by simp) _).setCell (p := ⟨W.heap.size + 1, 1, none⟩) (by simp) _).setCell (p := ⟨W.heap.size + 1, 2, none⟩) (by simp) _).setCell (p := ⟨W.heap.size + 1, 3, none⟩) (by simp) _
        have hz := hr1.out.2.2.move (w' := ((((w1.setCell ⟨W.heap.size + 1, 0, none⟩ (.int .i64 y.kind)).setCell ⟨W.heap.size + 1, 1, none⟩ (.string ⟨y.text.toArray⟩)).setCell ⟨W.heap.size + 1, 2, none⟩ (.slice a' y.kids.length c')).setCell ⟨W.heap.size + 1, 3, none⟩ (.int .i64 y.pos)))
          (Z' := fun b => Zo b ∨ (W.heap.size ≤ b ∧ b < w1.heap.size)) (fun b hb' => hb'.imp id (fun h => ⟨by have := HSZ.out; omega, h.2⟩))
          (fun p v hp hv => by
            have h1 := HSZ.out
            have h2 : p.block ≠ W.heap.size + 1 := by
              rcases hp with hp | hp
              · have := HZL.out _ hp; omega
              · omega
            rw [cell_far_set h2, cell_far_set h2, cell_far_set h2, cell_far_set h2]
            exact hv)
        refine bodyPost_ret (v := .tuple #[.agg #[.int .i64 y.kind, .string ⟨y.text.toArray⟩, .slice a' y.kids.length c', .int .i64 y.pos], .bool (swapF kind text y x).isSome]) (by rw [HE.out]; simp [results, Try.results24, go_sem, r0, r1, r2, r3, hs1]) rfl ⟨hb, y, a', c', rfl, by rw [HE.out]; simp, hr1.out.2.1, .inr ?_⟩
        simpa [World.setCell] using hz
end Go.Proofs.Ytnmebgiiajnnjaa
