/-
  slices.Backward over a row of digits; amounts held against one another.
-/
import Derived.RangeFuncBox
import Derived.RangeFuncNested
import Derived.RangeFuncBound
import Derived.RangeFuncCalls
import Derived.RangeFuncLeaves
import Derived.Shelf.Abstract
import Derived.Shelf.RegionOpen
import Derived.OwnWalkIn
import Derived.TacticsInMore
import Derived.LoopNIn
import Derived.LoopIn
import Derived.Test.YteiipiomcbohnaaDoorBgD
namespace Go.Proofs.YteiipiomcbohnaaDoor
set_option linter.unusedSimpArgs false
set_option linter.unusedVariables false
open Go.RowKit Go.Shelf
attribute [local go_sem] Oper.semAt_some

/-- A place of a row, and what stands there. -/
abbrev Pl (l : List Int) := { x : Nat × Int // x.1 < l.length ∧ x.2 = dgt l x.1 }
/-- From the last place down, k of them. -/
def come (l : List Int) (k : Nat) : List (Nat × Int) := (List.range k).map (fun j => (l.length - 1 - j, dgt l (l.length - 1 - j)))
theorem come_succ (l : List Int) (k : Nat) : come l (k + 1) = come l k ++ [(l.length - 1 - k, dgt l (l.length - 1 - k))] := by simp [come, List.range_succ]
theorem come_step {zs : List Int} {m : Nat} (hlt : m < zs.length) {pre : List (Pl zs)} (h : pre.map (·.1) = come zs (zs.length - (m + 1))) (hp : m < zs.length ∧ zs[m] = dgt zs m) :
    (pre ++ [(⟨(m, zs[m]), hp⟩ : Pl zs)]).map (fun x => x.1) = come zs (zs.length - m) := by
  have e : zs.length - m = zs.length - (m + 1) + 1 := by omega
  have e2 : zs.length - 1 - (zs.length - (m + 1)) = m := by omega
  rw [e, come_succ, List.map_append, h, e2, dgt_at hlt]
  rfl
def encP {l : List Int} (x : Pl l) : Array Value := #[.int .i64 (x.1.1 : Int), .int .i64 x.1.2]
/-- What a round keeps: what lay below n₀, and the iterator's box. -/
def KpB (n₀ Bs : Nat) (W W' : World) : Prop := Below n₀ W W' ∧ ∀ v, W.cell? ⟨Bs, 0, none⟩ = some v → W'.cell? ⟨Bs, 0, none⟩ = some v
theorem KpB.t {n₀ Bs : Nat} {A B C : World} (h : KpB n₀ Bs A B) (k : KpB n₀ Bs B C) : KpB n₀ Bs A C := ⟨h.1.trans k.1, fun v hv => k.2 v (h.2 v hv)⟩
theorem KpB.b {n₀ Bs : Nat} {w : World} (hn : n₀ ≤ w.heap.size) (W : World) (l : Nat) (o o' : Obj) (hl : w.heap.size ≤ l) (h : W.heap[l]? = some o) (hc : o.isCells = false) (hw : o.isWalk = false) : KpB n₀ Bs W (W.putObj l o') :=
  ⟨belowK_b hn W l o o' hl h hc hw, fun v hv => cell_kept hv (grownBy_putObj' W l o') (fun r e => by cases e; exact ⟨o, h, hc⟩)⟩
theorem KpB.refl (n₀ Bs : Nat) (W : World) : KpB n₀ Bs W W := ⟨Below.refl _ _, fun _ h => h⟩
theorem KpB.set {n₀ Bs : Nat} {W : World} (b : Nat) (o : Nat) (u : Value) (hb : n₀ ≤ b) (hne : Bs ≠ b) : KpB n₀ Bs W (W.setCell ⟨b, o, none⟩ u) :=
  ⟨(Below.refl _ _).setCell (p := ⟨b, o, none⟩) hb _, fun v hv => by rw [World.cell?_of_block (w := W) (Below.heap_setCell W ⟨b, o, none⟩ u Bs hne)]; exact hv⟩
theorem KpB.on {n₀ Bs : Nat} {W W' : World} (h : Below W.heap.size W W') (hn : n₀ ≤ W.heap.size) : KpB n₀ Bs W W' :=
  ⟨h.mono hn, fun v hv => ((bcell h).1 _ _ (cell_lt hv)).trans hv⟩
theorem keepsOthers_of_below {W W' : World} (h : Below W.heap.size W W') : KeepsOthers W W' := ⟨h.size, fun k o hk _ => (h.block k (Array.getElem?_eq_some_iff.1 hk).1).trans hk⟩

/-- One below a place. -/
def dn : Nat → Int
  | 0 => -1
  | m + 1 => m
theorem dn_eq (m : Nat) : dn m = (m : Int) - 1 := by cases m <;> simp [dn]

set_option maxRecDepth 100000 in
set_option maxHeartbeats 2000000 in
theorem backward1_in (F : Fence) (n : Nat) (hf : F.fn 83) (hro : F.round = none) (hn : 1 ≤ n) (l Bs n₀ c : Nat) (a : Option Addr) (zs : List Int) (hreach : zs.length ≤ 9223372036854775807) (J Jx : List (Pl zs) → World → Prop)
    (hY : ∀ pre x W, J pre W → pre.length < zs.length → YieldAt F (n - 1) Tryd.prog l (encP x) W fun e W' =>
      (e = .returned (.bool true) ∧ J (pre ++ [x]) W' ∧ KpB n₀ Bs W W') ∨ (e = .returned (.bool false) ∧ Jx (pre ++ [x]) W'))
    (W : World) (hBs : W.cell? ⟨Bs, 0, none⟩ = some (.slice a zs.length c)) (hc : ∀ j, (h : j < zs.length) → ∃ b off, a = some ⟨b, off, none⟩ ∧ b < n₀ ∧ W.cell? ⟨b, off + j, none⟩ = some (.int .i64 (zs[j]))) (h0 : J [] W) :
    CallsIn F n Tryd.prog 83 #[.func (.yield l) #[] #[], .pointer (some ⟨Bs, 0, none⟩)] W fun e W' => (∃ v, e = .returned v) ∧
      ((∃ ys, ys.map (·.1) = come zs zs.length ∧ J ys W') ∨ (∃ pre, (∃ k, k ≤ zs.length ∧ pre.map (·.1) = come zs k) ∧ Jx pre W')) := by
  refine callsIn_of_wp Tryd.func83 rfl hf ?_ hro
  simp only [Tryd.ntmps83, List.size_toArray, List.length_cons, List.length_nil, Nat.reduceAdd, Nat.reduceSub, Array.replicate_succ, Array.replicate_zero, List.push_toArray, List.append_toArray, List.nil_append, List.cons_append]
  have HC := Lib.hid hc
  clear hc
  gi_wp2
  gi_loopw [3] (fun i wr => ∃ (m : Nat) (pre : List (Pl zs)), m ≤ zs.length ∧ i = .int .i64 (dn m) ∧ Hid (pre.map (·.1) = come zs (zs.length - m)) ∧ pre.length = zs.length - m ∧ J pre wr ∧ KpB n₀ Bs W wr)
    (fun i _ => (intOf i + 1).toNat)
  case atStart => exact ⟨zs.length, [], by omega, by cases zs.length <;> simp [dn], Lib.hid (by simp [come]), by simp, h0, KpB.refl _ _ _⟩
  case round =>
    obtain ⟨m, pre, hm, rfl, hpre, hlen, hJs, hnx⟩ := hrel
    have hBs' := hnx.2 _ hBs
    cases m with
    | succ m =>
      obtain ⟨b, off, rfl, hbn, hcm⟩ := HC.out m (by omega)
      have hcx := (hnx.1.cell (p := ⟨b, off + m, none⟩) hbn).trans hcm
      have hlt : m < zs.length := by omega
      obtain ⟨fn, tmps, assign, body, hy, hR⟩ := hY _ ⟨(m, zs[m]), hlt, (dgt_at hlt).symm⟩ wr hJs (by omega)
      dsimp only [encP] at hy
      have HL := Lib.hid hlen
      clear hlen hcm
      simp only [dn]
      gi_wp2
      refine hR.mono ?_
      rintro e W3 (⟨rfl, hJ3, hk3⟩ | ⟨rfl, hJx3⟩)
      · gi_wp2
        go_roundw
        case rel =>
          refine ⟨m, _, by omega, by cases m <;> simp, Lib.hid (come_step hlt hpre.out _), ?_, hJ3, hnx.t hk3⟩
          · rw [List.length_append, HL.out, List.length_singleton]; omega
        case measure => simp [intOf]
      · gi_wp2
        refine bodyPost_ret (results_none rfl _ _ _) rfl ?_
        exact ⟨⟨_, rfl⟩, .inr ⟨_, ⟨zs.length - m, by omega, come_step hlt hpre.out _⟩, hJx3⟩⟩
    | zero =>
      simp only [dn]
      gi_wp2
      go_end0
      exact ⟨⟨_, rfl⟩, .inl ⟨_, hpre.out, hJs⟩⟩

theorem backward_in (F : Fence) (n : Nat) (hf : F.fn 64) (hro : F.round = none) (a : Option Addr) (len cap : Nat) (w : World) :
    CallsIn F n Tryd.prog 64 #[.slice a len cap] w fun e w' => e = .returned (.func (.func 83) #[] #[.pointer (some ⟨w.heap.size, 0, none⟩)]) ∧ w' = w.alloc (.cells #[.slice a len cap] 41) := by
  refine callsIn_of_wp Tryd.func64 rfl hf ?_ hro
  simp only [Tryd.ntmps64, List.size_toArray, List.length_cons, List.length_nil, Nat.reduceAdd, Nat.reduceSub, Array.replicate_succ, Array.replicate_zero, List.push_toArray, List.append_toArray, List.nil_append, List.cons_append]
  gi_wp2
  go_ret
  exact ⟨rfl, rfl⟩

theorem backward_stops (F : Fence) (n : Nat) (hf : F.fn 83) (hro : F.round = none) (hn : 1 ≤ n) (Bs n₀ c : Nat) (a : Option Addr) (zs : List Int) (w0 w : World) (hr : Row w0 a c zs) (hw0 : w0.heap.size ≤ n₀) (hn₀ : n₀ ≤ w.heap.size) (hb : Below n₀ w0 w)
    (hc : w.cell? ⟨Bs, 0, none⟩ = some (.slice a zs.length c)) :
    SeqStopsK F n Tryd.prog 83 #[.pointer (some ⟨Bs, 0, none⟩)] (fun x : Pl zs => encP x) (KpB n₀ Bs) (fun ys => ys.map (·.1) = come zs zs.length) (fun pre => ∃ k, k ≤ zs.length ∧ pre.map (·.1) = come zs k) zs.length w := fun l J Jx W hW _ _ hY h0 => by
  have hBs : Bs < w.heap.size := cell_lt hc
  refine backward1_in F n hf hro hn l Bs n₀ c a zs hr.len63 J Jx hY W ((hW.cell (p := ⟨Bs, 0, none⟩) hBs).trans hc) (fun j hj => ?_) h0
  obtain ⟨b, off, e, hcell⟩ := hr.cells j hj
  have hlt := cell_lt hcell
  simp only at hlt
  exact ⟨b, off, e, by omega, ((hW.cell (p := ⟨b, off + j, none⟩) (by show b < w.heap.size; omega)).trans (hb.cell (p := ⟨b, off + j, none⟩) (by show b < n₀; omega))).trans hcell⟩
end Go.Proofs.YteiipiomcbohnaaDoor
