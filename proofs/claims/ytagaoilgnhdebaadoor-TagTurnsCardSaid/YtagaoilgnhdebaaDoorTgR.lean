/-
  tag: the law's same, of a constraint and itself, wherever the two lie: walked.
-/
import Derived.Deep.RegionHeld3
import Derived.Test.YtagaoilgnhdebaaDoorTgQ
namespace Go.Proofs.YtagaoilgnhdebaaDoor
set_option linter.unusedSimpArgs false
set_option linter.unusedVariables false
open Go.RowKit

/-- What the call on two parts leaves. -/
abbrev PairPost (x u : Xp) (a1 a2 a' a'' : Option Addr) (c1 c2 c' c'' B b o b' o' : Nat) (W : World) (e : Ending) (w' : World) : Prop :=
  e = .returned (.bool true) ∧ ((w'.cell? ⟨B, 0, none⟩ = some (.string ⟨x.op.toArray⟩) ∧ w'.cell? ⟨B, 1, none⟩ = some (.string ⟨x.tag.toArray⟩) ∧ w'.cell? ⟨B, 2, none⟩ = some (.slice a1 x.kids.length c1)) ∧
    (w'.cell? ⟨B + 1, 0, none⟩ = some (.string ⟨x.op.toArray⟩) ∧ w'.cell? ⟨B + 1, 1, none⟩ = some (.string ⟨x.tag.toArray⟩) ∧ w'.cell? ⟨B + 1, 2, none⟩ = some (.slice a2 x.kids.length c2)) ∧
    (w'.cell? ⟨b, o, none⟩ = some (.string ⟨u.op.toArray⟩) ∧ w'.cell? ⟨b, o + 1, none⟩ = some (.string ⟨u.tag.toArray⟩) ∧ w'.cell? ⟨b, o + 2, none⟩ = some (.slice a' u.kids.length c')) ∧
    (w'.cell? ⟨b', o', none⟩ = some (.string ⟨u.op.toArray⟩) ∧ w'.cell? ⟨b', o' + 1, none⟩ = some (.string ⟨u.tag.toArray⟩) ∧ w'.cell? ⟨b', o' + 2, none⟩ = some (.slice a'' u.kids.length c''))) ∧ Hid (Below W.heap.size W w')
theorem pair_post {x u : Xp} {a1 a2 a' a'' : Option Addr} {c1 c2 c' c'' B b o b' o' : Nat} {W : World} {f : Nat} {args : Array Value}
    (h1 : W.cell? ⟨B, 0, none⟩ = some (.string ⟨x.op.toArray⟩) ∧ W.cell? ⟨B, 1, none⟩ = some (.string ⟨x.tag.toArray⟩) ∧ W.cell? ⟨B, 2, none⟩ = some (.slice a1 x.kids.length c1))
    (h2 : W.cell? ⟨B + 1, 0, none⟩ = some (.string ⟨x.op.toArray⟩) ∧ W.cell? ⟨B + 1, 1, none⟩ = some (.string ⟨x.tag.toArray⟩) ∧ W.cell? ⟨B + 1, 2, none⟩ = some (.slice a2 x.kids.length c2))
    (h3 : Three W b o u a' c') (h4 : Three W b' o' u a'' c'')
    (hc : Calls Tryd.prog f args W fun e w' => e = .returned (.bool true) ∧ Below W.heap.size W w') : Calls Tryd.prog f args W (PairPost x u a1 a2 a' a'' c1 c2 c' c'' B b o b' o' W) :=
  hc.mono (fun e w' ⟨he, hb⟩ =>
    have hk : ∀ {p : Addr} {v : Value}, W.cell? p = some v → w'.cell? p = some v := fun h => (hb.cell (cell_lt1 h)).trans h
    ⟨he, ⟨⟨hk h1.1, hk h1.2.1, hk h1.2.2⟩, ⟨hk h2.1, hk h2.2.1, hk h2.2.2⟩, ⟨hk h3.1, hk h3.2.1, hk h3.2.2⟩, ⟨hk h4.1, hk h4.2.1, hk h4.2.2⟩⟩, Lib.hid hb⟩)

def SameOk (x : Xp) : Prop := ∀ (a1 a2 : Option Addr) (c1 c2 : Nat) (w : World), Xids w Any a1 x.kids → Fitx x c1 → Xids w Any a2 x.kids → Fitx x c2 →
    Calls Tryd.prog 22 #[.agg #[.string ⟨x.op.toArray⟩, .string ⟨x.tag.toArray⟩, .slice a1 x.kids.length c1], .agg #[.string ⟨x.op.toArray⟩, .string ⟨x.tag.toArray⟩, .slice a2 x.kids.length c2]] w fun e w' => e = .returned (.bool true) ∧ Below w.heap.size w w'
set_option maxRecDepth 100000 in
set_option maxHeartbeats 4000000 in
theorem same_any : ∀ (x : Xp), SameOk x := by
  refine Xp.ind (fun x ih => ?_)
  intro a1 a2 c1 c2 w hk hf hk' hf'
  have HI := Lib.hid ih
  have HK := Lib.hid hk
  have HK' := Lib.hid hk'
  have hl63 : x.kids.length ≤ 9223372036854775807 := by have := hf.2.2.1; have := hf.2.2.2.1; omega
  have hcap : x.kids.length ≤ c1 := hf.2.2.1
  have hcap' : x.kids.length ≤ c2 := hf'.2.2.1
  have hba : Below w.heap.size w ((w.alloc (.cells #[.string ⟨x.op.toArray⟩, .string ⟨x.tag.toArray⟩, .slice a1 x.kids.length c1] 29)).alloc (.cells #[.string ⟨x.op.toArray⟩, .string ⟨x.tag.toArray⟩, .slice a2 x.kids.length c2] 24)) := ((Below.refl _ _).alloc (Nat.le_refl _) _).alloc (by simp) _
  have HB0 := Lib.hid hba
  clear ih hk hf hk' hf' hba
  go_enter Tryd.func22, Tryd.ntmps22
  go_wp2_with fail
  go_loopw [5] (fun i wr => ∃ k : Nat, k ≤ x.kids.length ∧ i = .int .i64 k ∧ Below w.heap.size w wr ∧
    (wr.cell? ⟨w.heap.size, 0, none⟩ = some (.string ⟨x.op.toArray⟩) ∧ wr.cell? ⟨w.heap.size, 1, none⟩ = some (.string ⟨x.tag.toArray⟩) ∧ wr.cell? ⟨w.heap.size, 2, none⟩ = some (.slice a1 x.kids.length c1)) ∧
    (wr.cell? ⟨w.heap.size + 1, 0, none⟩ = some (.string ⟨x.op.toArray⟩) ∧ wr.cell? ⟨w.heap.size + 1, 1, none⟩ = some (.string ⟨x.tag.toArray⟩) ∧ wr.cell? ⟨w.heap.size + 1, 2, none⟩ = some (.slice a2 x.kids.length c2))) (fun i _ => x.kids.length - (intOf i).toNat)
  case atStart => exact ⟨0, by omega, rfl, HB0.out, ⟨by simp [go_sem], by simp [go_sem], by simp [go_sem]⟩, by simp [go_sem], by simp [go_sem], by simp [go_sem]⟩
  case round =>
    obtain ⟨k, hk1, rfl, hb, ⟨x0, x1, x2⟩, y0, y1, y2⟩ := hrel
    have HB := Lib.hid hb
    clear hb
    by_cases hlt : k < x.kids.length
    · obtain ⟨b, off, a', c', ha, -, ⟨p0, p1, p2⟩, hf, hn⟩ := (HK.out.on HB.out).get hlt
      obtain ⟨b', off', a'', c'', ha', -, ⟨q0, q1, q2⟩, hf', hn'⟩ := (HK'.out.on HB.out).get hlt
      subst ha ha'
      have hcall := HI.out x.kids[k] (List.getElem_mem hlt) a' a'' c' c'' wr.drew (hn.on (Below.refl _ _).drew) hf (hn'.on (Below.refl _ _).drew) hf'
      have HC := Lib.hid (pair_post (W := wr.drew) (x := x) (u := x.kids[k]) ⟨x0, x1, x2⟩ ⟨y0, y1, y2⟩ ⟨p0, p1, p2⟩ ⟨q0, q1, q2⟩ hcall)
      clear hf hn hf' hn' hcall
      go_wp2_with fail
      go_region_held3 (fun w' => (w'.cell? ⟨w.heap.size, 0, none⟩ = some (.string ⟨x.op.toArray⟩) ∧ w'.cell? ⟨w.heap.size, 1, none⟩ = some (.string ⟨x.tag.toArray⟩) ∧ w'.cell? ⟨w.heap.size, 2, none⟩ = some (.slice (some ⟨b, off, none⟩) x.kids.length c1)) ∧
          (w'.cell? ⟨w.heap.size + 1, 0, none⟩ = some (.string ⟨x.op.toArray⟩) ∧ w'.cell? ⟨w.heap.size + 1, 1, none⟩ = some (.string ⟨x.tag.toArray⟩) ∧ w'.cell? ⟨w.heap.size + 1, 2, none⟩ = some (.slice (some ⟨b', off', none⟩) x.kids.length c2)) ∧
          (w'.cell? ⟨b, off + k * 3, none⟩ = some (.string ⟨x.kids[k].op.toArray⟩) ∧ w'.cell? ⟨b, off + k * 3 + 1, none⟩ = some (.string ⟨x.kids[k].tag.toArray⟩) ∧ w'.cell? ⟨b, off + k * 3 + 2, none⟩ = some (.slice a' x.kids[k].kids.length c')) ∧
          (w'.cell? ⟨b', off' + k * 3, none⟩ = some (.string ⟨x.kids[k].op.toArray⟩) ∧ w'.cell? ⟨b', off' + k * 3 + 1, none⟩ = some (.string ⟨x.kids[k].tag.toArray⟩) ∧ w'.cell? ⟨b', off' + k * 3 + 2, none⟩ = some (.slice a'' x.kids[k].kids.length c''))) (go_keep)
        (first
          | (go_at_call 22
             refine HC.out.mono ?_
             rintro e w1 ⟨rfl, ⟨⟨x0, x1, x2⟩, ⟨y0, y1, y2⟩, ⟨p0, p1, p2⟩, ⟨q0, q1, q2⟩⟩, hb1⟩))
      all_goals
        go_wp2_with fail
        go_roundw
        case rel => exact ⟨k + 1, by omega, by go_num, bext HB.out (bext (Below.refl _ _).drew hb1.out), ⟨x0, x1, x2⟩, y0, y1, y2⟩
        case measure => simp [intOf]; omega
    · obtain rfl : k = x.kids.length := by omega
      go_wp2_with fail
      go_ret
      exact ⟨rfl, HB.out⟩
end Go.Proofs.YtagaoilgnhdebaaDoor
