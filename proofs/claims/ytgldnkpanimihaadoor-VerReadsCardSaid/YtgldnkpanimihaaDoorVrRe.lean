/-
  VerReads, walked.
-/
import Derived.ArgAppend
import Derived.Test.YtgldnkpanimihaaDoorVrRd
import Derived.Test.YtgldnkpanimihaaDoorVrO
import Derived.Test.YtgldnkpanimihaaDoorVrP
namespace Go.Proofs.YtgldnkpanimihaaDoor
set_option linter.unusedSimpArgs false
set_option linter.unusedVariables false
open Go.RowKit

theorem infoByte : (Tryd.prog.info? 5).map (fun i => (i.zero, i.size, i.bytes)) = some (some (.int .u8 0), 1, 1) := by kernel_rfl
/-- 'append([]byte{}, x...)': a copy. -/
theorem wpList_append_copy {P : Program} (w : World) {ops : Array Oper} {rest : List Oper} {o : Oper} {a : Act} {Q : Exit → Act → World → Prop}
    (hg : o.guard = none) (s x : Operand) (t : TypeId) (hop : o.op = Op.call { callee := Callee.builtin Builtin.append, args := #[s, x], argTypes := #[t, t] })
    (e : TypeId) (i : TypeInfo) (h1 : P.underlying t = some (.slice e)) (h2 : P.info? e = some i) (h3 : i.zero = some (.int .u8 0)) (h4 : i.size = 1) (h5 : i.bytes = 1)
    (g0 : Addr) (hs : a.eval s = .slice (some g0) 0 0) (ao : Option Addr) (c : Nat) (l : List UInt8) (hx : a.eval x = .slice ao l.length c) (hba : BAt w ao l) (hl : l.length ≤ 100000)
    (hK : ∀ (a' : Option Addr) (c' : Nat) w', BAt w' a' l → Below w.heap.size w w' → wpList P ops Q rest (a.put o.dst (.slice a' l.length c')) w') :
    wpList P ops Q (o :: rest) a w := by
  by_cases hl0 : l = []
  · subst hl0
    refine wpList_plain hg fun K hK' => ?_
    have hrun : (Builtin.append_ #[t, t] o.type #[.slice (some g0) 0 0, .slice ao 0 c]).run P w = .ok (.slice (some g0) 0 0) w := by
      cases ao <;> simp [Builtin.append_, run_underlying h1, sizeOf, typeInfo, h2, Builtin.lenOf, Builtin.firstCells, loadCells, loadCellsFrom, storeCells, Sem.run_pure]
    unfold Oper.wp
    simp only [List.length_nil] at hx
    simp [execOp, hop, resolve, invoke, builtin, hs, hx, hrun, Result.andThen]
    exact hK' _ _ (hK (some g0) 0 w (.inl rfl) (Below.refl _ _))
  · rcases hba with h | ⟨b, off, rfl, hlt, hc⟩
    · exact absurd h hl0
    have hpos : 0 < l.length := List.length_pos_iff.2 hl0
    have hcu : ∀ j u, (l.map fun c => Value.int .u8 (c.toNat : Int))[j]? = some u → w.cell? ((⟨b, off, none⟩ : Addr).add j) = some u := fun j u hu => by
      rw [List.getElem?_map] at hu
      rcases Nat.lt_or_ge j l.length with hj | hj
      · rw [List.getElem?_eq_getElem hj] at hu
        rw [Addr.add_lit, hc j hj]
        exact hu
      · rw [List.getElem?_eq_none hj] at hu; cases hu
    refine wpList_append_grows w hg s x t hop e i (.int .u8 0) 1 1 h1 h2 h3 h4 h5 rfl (by decide) (some g0) 0 0 [] hs (fun e => by cases e) rfl (fun _ _ j u h => by simp at h) ⟨b, off, none⟩ l.length c (l.map fun c => Value.int .u8 (c.toNat : Int)) hx (by simp) hcu
      (fun u hu => by obtain ⟨y, _, rfl⟩ := List.mem_map.1 hu; rfl) (by omega) (by unfold maxLen; omega) (by omega) (fun v' w' hown hgr => ?_)
    have hbel : Below w.heap.size w w' := (Below.refl _ w).grown hgr (Nat.le_refl _) (fun j e => by cases e)
    rcases hown.2 with ⟨_, h0⟩ | ⟨g, cap, cur, rfl, hbg, hh, _⟩
    · omega
    · simp only [Nat.zero_add] at hown ⊢
      refine hK _ _ _ (.inr ⟨g, 0, rfl, (Array.getElem?_eq_some_iff.1 hh).1, fun j hj => ?_⟩) hbel
      rw [Nat.zero_add, hown.cellAt j (by omega)]
      simp [hj]
set_option maxRecDepth 100000 in
set_option maxHeartbeats 8000000 in
theorem reads_in (b : List UInt8) (a : Option Addr) (c : Nat) (w : World) (hE : Env w) (hba : BAt w a b) (hb : b.length ≤ 1000) :
    Calls Tryd.prog 3 #[.slice a b.length c] w (Good w) := by
  obtain ⟨⟨p, m, e⟩, hr⟩ : ∃ r, readL b = r := ⟨_, rfl⟩
  have HR := Lib.hid (rd_of hr (by omega))
  have HF := fun w2 => Rf.read_ref b w2 hb
  unfold Rf.RfPost at HF
  rw [hr] at HF
  have HF := Lib.hid HF
  dsimp only at HF
  have HE := Lib.hid hE
  have HBA := Lib.hid hba
  obtain ⟨i0, hi, hz0, hz1, hz2⟩ := info_parts infoByte
  clear hr hE hba
  go_enter Tryd.func3, Tryd.ntmps3
  go_wp2_with (at_builtin; refine wpList_append_copy _ rfl _ _ 22 rfl 5 i0 Tryd.underlying22 hi hz0 hz1 hz2 _ rfl a c b rfl (HBA.out.on (below_alloc _ _)) (by omega) ?_; intro a1 c1 w1 hb1 hbel)
  have HB1 := Lib.hid (bext (below_alloc w _) hbel)
  refine (HR.out a1 c1 w1 (HE.out.on HB1.out) hb1).mono ?_
  rintro e' w2 ⟨rfl, h2⟩
  have hb3 := bext (bext HB1.out h2.out) (below_alloc w2 (.cells #[.string ⟨p.toArray⟩, .int .i64 m] 24))
  have hcv := (HBA.out.on hb3).conv c
  have P2 := Lib.hid (Pair.new w2 (.string ⟨p.toArray⟩) (.int .i64 m))
  have HB3 := Lib.hid hb3
  clear hb3 hbel hb1
  go_wp2_with fail
  refine (HF.out _).mono ?_
  rintro e' w4 ⟨rfl, h4⟩
  have P4 := P2.out.below h4.out
  have q0 := P4.c0
  have q1 := P4.c1
  clear P4
  have HB4 := Lib.hid (bext HB3.out h4.out)
  go_wp2_with fail
  refine (awake_any w4 (HE.out.on HB4.out)).mono ?_
  rintro e' w5 ⟨rfl, h5⟩
  go_wp2
  go_ret
  exact ⟨rfl, bext HB4.out h5.out⟩
set_option maxRecDepth 100000 in
set_option maxHeartbeats 4000000 in
theorem reads_law (b : List UInt8) (a : Option Addr) (c : Nat) (w : World) (hE : Env w) (hba : BAt w a b) (hb : b.length ≤ 9223372036854775807) :
    Calls Tryd.prog 3 #[.slice a b.length c] w (Good w) := by
  by_cases h1 : 1000 < (b.length : Int)
  · clear hE hba
    go_enter Tryd.func3, Tryd.ntmps3
    go_wp2
    go_ret
    exact ⟨rfl, Below.refl _ _⟩
  · exact reads_in b a c w hE hba (by omega)
end Go.Proofs.YtgldnkpanimihaaDoor
