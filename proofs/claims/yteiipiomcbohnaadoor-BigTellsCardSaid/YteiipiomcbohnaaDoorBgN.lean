/-
  division: what the loop keeps in memory.
-/
import Derived.Test.YteiipiomcbohnaaDoorBgL
namespace Go.Proofs.YteiipiomcbohnaaDoor
set_option linter.unusedSimpArgs false
set_option linter.unusedVariables false
open Go.RowKit

/-! The numbers. -/
def stp (v : Int) (s : List Int × Int) (x : Nat × Int) : List Int × Int := (s.1.set x.1 ((x.2 + 1000000000 * s.2) / v), x.2 + 1000000000 * s.2 - v * ((x.2 + 1000000000 * s.2) / v))
def stD (la : List Int) (v : Int) (pre : List (Nat × Int)) : List Int × Int := pre.foldl (stp v) (List.replicate la.length 0, 0)
theorem stD_snoc (la : List Int) (v : Int) (pre : List (Nat × Int)) (x : Nat × Int) : stD la v (pre ++ [x]) = stp v (stD la v pre) x := by unfold stD; rw [List.foldl_append]; rfl
theorem stD_nil (la : List Int) (v : Int) : stD la v [] = (List.replicate la.length 0, 0) := rfl
theorem stD_come {la : List Int} {v : Int} (hd : Dg la) (hv : 0 < v) : ∀ k, k ≤ la.length → DivI la (stD la v (come la k)).1 v (stD la v (come la k)).2 (la.length - k)
  | 0, _ => DivI.start la v
  | k + 1, hk => by
    have ih := stD_come hd hv k (by omega)
    rw [come_succ, stD_snoc]
    rw [show la.length - k = (la.length - 1 - k) + 1 by omega] at ih
    have := (ih.step hd hv (by omega)).1
    rw [show la.length - (k + 1) = la.length - 1 - k by omega]
    exact this

/-- Blocks of cells are as they were. -/
def CK (W W' : World) : Prop := ∀ (b : Nat) (cs : Array Value) (t : TypeId) (fr : Nat × Nat), W.heap[b]? = some (.cells cs t fr) → W'.heap[b]? = some (.cells cs t fr)
theorem CK.below {W W' : World} (h : Below W.heap.size W W') : CK W W' := fun b cs t fr hb => (h.block b (Array.getElem?_eq_some_iff.1 hb).1).trans hb
theorem CK.grown {W W' : World} {row : Option Nat} (hg : W.grownBy W' row) (hr : ∀ r, row = some r → ∃ o : Obj, W.heap[r]? = some o ∧ o.isCells = false) : CK W W' := fun b cs t fr hb =>
  (hg.block b (Array.getElem?_eq_some_iff.1 hb).1 (fun e => by
    obtain ⟨o, ho, hc⟩ := hr b e.symm
    rw [hb] at ho
    obtain rfl := Option.some.inj ho
    cases hc)).trans hb
theorem CK.cell {W W' : World} (h : CK W W') {p : Addr} {v : Value} (hp : W.cell? p = some v) (hs : p.spot = none) : W'.cell? p = some v := by
  obtain ⟨b, o, s⟩ := p
  simp only at hs
  subst hs
  unfold World.cell? at hp ⊢
  simp only at hp ⊢
  cases hb : W.heap[b]? with
  | none => rw [hb] at hp; cases hp
  | some x =>
    rw [hb] at hp
    cases x with
    | cells cs t fr => rw [h b cs t fr hb]; exact hp
    | _ => cases hp
theorem CK.frozen {W W' : World} (h : CK W W') {p : Addr} {v : Value} (hp : W.cell? p = some v) (hs : p.spot = none) : W'.frozen? p = W.frozen? p := by
  obtain ⟨b, o, s⟩ := p
  simp only at hs
  subst hs
  unfold World.cell? at hp
  simp only at hp
  cases hb : W.heap[b]? with
  | none => rw [hb] at hp; cases hp
  | some x =>
    cases x with
    | cells cs t fr => simp [World.frozen?, h b cs t fr hb, hb]
    | _ => rw [hb] at hp; cases hp
theorem CK.own {W W' : World} (h : CK W W') {base : Nat} {e : TypeId} {size : Nat} {v : Value} {n : Nat} {xs : List Value} (ho : W.ownsRow base e size v n xs) : W'.ownsRow base e size v n xs := by
  refine ⟨ho.1, ?_⟩
  rcases ho.2 with h2 | ⟨g, cap, cur, rfl, hb, hh, hr⟩
  · exact .inl h2
  · exact .inr ⟨g, cap, cur, rfl, hb, h _ _ _ _ hh, hr⟩
theorem CK.row {W W' : World} (h : CK W W') {a : Option Addr} {c : Nat} {l : List Int} (hr : Row W a c l) : Row W' a c l :=
  ⟨hr.cap, hr.reach, fun j hj => by
    obtain ⟨b, off, e, hc⟩ := hr.cells j hj
    exact ⟨b, off, e, h.cell hc rfl⟩⟩
theorem CK.res {W W' : World} {R : Nat} (h : CK W W') (hz : (W.cell? ⟨R, 0, none⟩ = some (.bool false) ∧ W.cell? ⟨R, 1, none⟩ = some (.slice none 0 0) ∧ W.frozen? ⟨R, 0, none⟩ = false ∧ W.frozen? ⟨R, 1, none⟩ = false)) : (W'.cell? ⟨R, 0, none⟩ = some (.bool false) ∧ W'.cell? ⟨R, 1, none⟩ = some (.slice none 0 0) ∧ W'.frozen? ⟨R, 0, none⟩ = false ∧ W'.frozen? ⟨R, 1, none⟩ = false) :=
  ⟨h.cell hz.1 rfl, h.cell hz.2.1 rfl, (h.frozen hz.1 rfl).trans hz.2.2.1, (h.frozen hz.2.1 rfl).trans hz.2.2.2⟩

theorem CK.trans {W W' W'' : World} (h : CK W W') (k : CK W' W'') : CK W W'' := fun b cs t fr hb => k _ _ _ _ (h _ _ _ _ hb)
/-- An amount comes back whose digits lie at a. -/
def PosAt (m : Nat) (a : Option Addr) (c : Nat) (w : World) (e : Ending) (w' : World) : Prop := e = .returned (.agg #[.bool false, .slice a (digs (m)).length c]) ∧ Hid (Row w' a c (digs m) ∧ Below w.heap.size w w')
theorem trimmed_posAt (l : List Int) (m : Nat) (a : Option Addr) (c : Nat) (w : World) (hr : Row w a c l) (hd : Dg l) (hv : val l = m) :
    Calls Tryd.prog 45 #[.agg #[.bool false, .slice a l.length c]] w (PosAt m a c w) :=
  (trimmed_at false l a c w hr hd).mono fun e w' h => by
    obtain ⟨b, n, he, hh⟩ := h
    obtain ⟨h1, h2, h3, h4⟩ := hh.out
    obtain ⟨rfl, rfl⟩ := sg_inj (b := b) (b' := false) (n := n) (n' := m) h1 (by simp [Ok]) (by rw [h2, hv])
    exact ⟨he, Lib.hid ⟨h3, h4⟩⟩
theorem fits_nat (r v d : Nat) (a1 a2 : Option Addr) (c1 c2 : Nat) (w : World) (h1 : Row w a1 c1 (digs r)) (h2 : Row w a2 c2 (digs v)) (hv : 0 < v) (hr : r < v * 1000000000) (m2 : (digs v).length ≤ 900) (hd : r / v = d) :
    Calls Tryd.prog 69 #[.slice a1 (digs r).length c1, .slice a2 (digs v).length c2] w fun e w' => e = .returned (.int .i64 (d : Int)) ∧ Hid (Below w.heap.size w w') :=
  (fits_any r v a1 a2 c1 c2 w h1 h2 hv hr m2).mono fun e w' ⟨he, hb⟩ => ⟨by rw [he, ← hd, Int.natCast_ediv], Lib.hid hb⟩

section
variable {F : Fence} {n : Nat} {P : Program}
/-- 'append(s, x...)' in a round: s the call's own, x whatever row. -/
theorem wpListIn_append_row (w : World) {ops : Array Oper} {rest : List Oper} {o : Oper} {a : Act} {Q : Exit → Act → World → Prop}
    (hg : o.guard = none) (s x : Operand) (t : TypeId) (hop : o.op = Op.call { callee := Callee.builtin Builtin.append, args := #[s, x], argTypes := #[t, t] })
    (base : Nat) (e : TypeId) (i : TypeInfo) (z : Value) (h1 : P.underlying t = some (.slice e)) (h2 : P.info? e = some i) (h3 : i.zero = some z) (h4 : i.size = 1) (h5 : i.bytes = 8) (h6 : z.cells.size = 1)
    (v : Value) (k : Nat) (xs : List Value) (hs : a.eval s = v) (hown : w.ownsRow base e 1 v k xs) (ao : Option Addr) (c : Nat) (l : List Int) (hx : a.eval x = .slice ao l.length c) (hrow : Row w ao c l)
    (b1 : k + l.length ≤ maxLen) (b2 : (k + l.length) * 8 ≤ 140737488355328) (b3 : base ≤ w.heap.size)
    (hK : ∀ v' w', w'.ownsRow base e 1 v' (k + l.length) (xs ++ l.map (Value.int .i64)) → w.grownBy w' v.ownBlock → wpListIn F n P ops Q rest (a.put o.dst v') w') :
    wpListIn F n P ops Q (o :: rest) a w := by
  cases ao with
  | some ad =>
    refine wpListIn_append_own w hg s x t hop base e i z 1 8 h1 h2 h3 h4 h5 h6 (by decide) v k xs hs hown ad l.length c (l.map (Value.int .i64)) hx (by simp) (fun j u hu => ?_) (fun u hu => ?_) b1 b2 b3 (fun v' w' r1 r2 _ => hK v' w' r1 r2)
    · rw [List.getElem?_map] at hu
      rcases Nat.lt_or_ge j l.length with hj | hj
      · rw [List.getElem?_eq_getElem hj] at hu
        obtain ⟨b, off, ea, hc⟩ := hrow.cells j hj
        simp only [Option.some.injEq] at ea
        subst ea
        have hadd : (⟨b, off, none⟩ : Addr).add j = ⟨b, off + j, none⟩ := by unfold Addr.add; split <;> simp_all
        rw [hadd, hc]
        exact hu
      · rw [List.getElem?_eq_none hj] at hu; cases hu
    · obtain ⟨y, _, rfl⟩ := List.mem_map.1 hu
      rfl
  | none =>
    have hl : l = [] := by
      cases l with
      | nil => rfl
      | cons y r =>
        obtain ⟨b, off, ea, _⟩ := hrow.cells 0 (by simp)
        cases ea
    subst hl
    refine wpListIn_plain hg fun K hK' => ?_
    have hrun : (Builtin.append_ #[t, t] o.type #[v, .slice none 0 c]).run P w = .ok v w := by
      rcases hown.2 with ⟨rfl, rfl⟩ | ⟨g, cap, cur, rfl, _, _, hnc, _⟩
      · simp [Builtin.append_, run_underlying h1, sizeOf, typeInfo, h2, Builtin.lenOf, Builtin.firstCells]
      · simp [Builtin.append_, run_underlying h1, sizeOf, typeInfo, h2, Builtin.lenOf, Builtin.firstCells, hnc, storeCells]
    unfold Oper.wpIn
    refine ⟨?_, ?_⟩
    · simp [Oper.about, hop, resolve, Target.leads, Sem.run_pure]
    · rw [Oper.semAt_plain F _ _ (by rw [hop]; intro c hc'; cases hc')]
      simp only [List.length_nil] at hx
      simp [execOp, hop, resolve, invoke, builtin, hs, hx, hrun, Result.andThen]
      exact hK' _ _ (hK v w (by simpa using hown) ⟨rfl, rfl, rfl, Nat.le_refl _, fun _ _ _ => rfl⟩)
end

theorem res2_new (X : World) {Y : World} {R : Nat} (hR : X.heap.size = R) (h : X.alloc (.cells #[.bool false, .slice none 0 0] 43) = Y) : (Y.cell? ⟨R, 0, none⟩ = some (.bool false) ∧ Y.cell? ⟨R, 1, none⟩ = some (.slice none 0 0) ∧ Y.frozen? ⟨R, 0, none⟩ = false ∧ Y.frozen? ⟨R, 1, none⟩ = false) := by
  subst h
  subst hR
  refine ⟨?_, ?_, ?_, ?_⟩ <;> simp [go_sem]
theorem row_one' (X : World) (x : Int) {R : Nat} (hR : X.heap.size = R) : Row (X.alloc (.cells #[.int .i64 x] 3)) (some ⟨R, 0, none⟩) 1 [x] := by
  subst hR
  exact row_one X x
/-- The boxes of a division. -/
structure DB (B Bq len : Nat) (b1 b2 : Bool) (v2 : Value) (r : Nat) (a : Option Addr) (c : Nat) (Q : List Int) (W : World) : Prop where
  g0 : W.cell? ⟨B, 0, none⟩ = some (.bool b1)
  h0 : W.cell? ⟨B + 1, 0, none⟩ = some (.bool b2)
  h1 : W.cell? ⟨B + 1, 1, none⟩ = some v2
  z1 : (W.cell? ⟨B + 1 + 1, 0, none⟩ = some (.bool false) ∧ W.cell? ⟨B + 1 + 1, 1, none⟩ = some (.slice none 0 0) ∧ W.frozen? ⟨B + 1 + 1, 0, none⟩ = false ∧ W.frozen? ⟨B + 1 + 1, 1, none⟩ = false)
  z2 : (W.cell? ⟨B + 1 + 1 + 1, 0, none⟩ = some (.bool false) ∧ W.cell? ⟨B + 1 + 1 + 1, 1, none⟩ = some (.slice none 0 0) ∧ W.frozen? ⟨B + 1 + 1 + 1, 0, none⟩ = false ∧ W.frozen? ⟨B + 1 + 1 + 1, 1, none⟩ = false)
  y0 : W.cell? ⟨B + 1 + 1 + 1 + 1, 0, none⟩ = some (.bool false)
  y1 : W.cell? ⟨B + 1 + 1 + 1 + 1, 1, none⟩ = some (.slice a (digs r).length c)
  f0 : W.frozen? ⟨B + 1 + 1 + 1 + 1, 0, none⟩ = false
  f1 : W.frozen? ⟨B + 1 + 1 + 1 + 1, 1, none⟩ = false
  hBq : B + 1 + 1 + 1 + 1 + 1 < Bq
  q : W.cell? ⟨Bq, 0, none⟩ = some (.slice (some ⟨B + 1 + 1 + 1 + 1 + 1, 0, none⟩) len len)
  own : W.ownsRow (B + 1 + 1 + 1 + 1 + 1) 3 1 (.slice (some ⟨B + 1 + 1 + 1 + 1 + 1, 0, none⟩) len len) len (Q.map (Value.int .i64))
  row : Row W a c (digs r)
  far : ∀ p, a = some p → B + 1 + 1 + 1 + 1 + 1 ≠ p.block
section
variable {B Bq len : Nat} {b1 b2 : Bool} {v2 : Value} {r : Nat} {a : Option Addr} {c : Nat} {Q : List Int} {W : World}
theorem DB.ck {W' : World} (h : DB B Bq len b1 b2 v2 r a c Q W) (k : CK W W') : DB B Bq len b1 b2 v2 r a c Q W' :=
  ⟨k.cell h.g0 rfl, k.cell h.h0 rfl, k.cell h.h1 rfl, k.res h.z1, k.res h.z2, k.cell h.y0 rfl, k.cell h.y1 rfl, (k.frozen h.y0 rfl).trans h.f0, (k.frozen h.y1 rfl).trans h.f1, h.hBq, k.cell h.q rfl, k.own h.own, k.row h.row, h.far⟩
theorem DB.on {W' : World} (h : DB B Bq len b1 b2 v2 r a c Q W) (k : Below W.heap.size W W') : DB B Bq len b1 b2 v2 r a c Q W' := h.ck (.below k)
theorem DB.ltG (h : DB B Bq len b1 b2 v2 r a c Q W) : B + 1 + 1 + 1 + 1 + 1 < W.heap.size := by
  have h1 := h.hBq
  have h2 := cell_lt h.q
  simp only at h2
  omega
theorem own_set {W : World} {base : Nat} {e : TypeId} {size : Nat} {v : Value} {n : Nat} {xs : List Value} {p : Addr} {u : Value} (ho : W.ownsRow base e size v n xs) (hp : v.ownBlock ≠ some p.block) : (W.setCell p u).ownsRow base e size v n xs := by
  refine ⟨ho.1, ?_⟩
  rcases ho.2 with h2 | ⟨g, cap, cur, rfl, hb, hh, hr⟩
  · exact .inl h2
  · refine .inr ⟨g, cap, cur, rfl, hb, ?_, hr⟩
    rw [Below.heap_setCell W p u g (fun e => hp (by simp [Value.ownBlock, e]))]
    exact hh
theorem cell_far {W : World} {p p' : Addr} {u v : Value} (h : W.cell? p = some v) (hne : p'.block ≠ p.block) : (W.setCell p' u).cell? p = some v := by
  rw [World.cell?_setCell_far W p' p u hne]; exact h
theorem DB.putRest {r' : Nat} {a' : Option Addr} {c' : Nat} (h : DB B Bq len b1 b2 v2 r a c Q W) (hr : Row W a' c' (digs r')) (hf : ∀ p, a' = some p → B + 1 + 1 + 1 + 1 + 1 ≠ p.block) :
    DB B Bq len b1 b2 v2 r' a' c' Q ((W.setCell ⟨B + 1 + 1 + 1 + 1, 0, none⟩ (.bool false)).setCell ⟨B + 1 + 1 + 1 + 1, 1, none⟩ (.slice a' (digs r').length c')) := by
  have far : ∀ {p : Addr} {v : Value}, W.cell? p = some v → B + 1 + 1 + 1 + 1 ≠ p.block → ((W.setCell ⟨B + 1 + 1 + 1 + 1, 0, none⟩ (.bool false)).setCell ⟨B + 1 + 1 + 1 + 1, 1, none⟩ (.slice a' (digs r').length c')).cell? p = some v :=
    fun hp hne => cell_far (cell_far hp hne) hne
  have hq := res_cells (.bool false) (.slice a' (digs r').length c') h.y0 h.y1
  refine ⟨far h.g0 (by show _ ≠ B; omega), far h.h0 (by show _ ≠ B + 1; omega), far h.h1 (by show _ ≠ B + 1; omega), ⟨far h.z1.1 (by show _ ≠ B + 1 + 1; omega), far h.z1.2.1 (by show _ ≠ B + 1 + 1; omega), ?_, ?_⟩,
    ⟨far h.z2.1 (by show _ ≠ B + 1 + 1 + 1; omega), far h.z2.2.1 (by show _ ≠ B + 1 + 1 + 1; omega), ?_, ?_⟩, hq.1, hq.2, ?_, ?_, h.hBq, far h.q (by have := h.hBq; show _ ≠ Bq; omega), own_set (own_set h.own (by simp [Value.ownBlock])) (by simp [Value.ownBlock]), ?_, hf⟩
  · simp [go_sem, h.z1.2.2.1]
  · simp [go_sem, h.z1.2.2.2]
  · simp [go_sem, h.z2.2.2.1]
  · simp [go_sem, h.z2.2.2.2]
  · simp [go_sem, h.f0]
  · simp [go_sem, h.f1]
  · refine (hr.set h.y0 (fun i e => by cases e) _).set (v := .slice a (digs r).length c) ?_ (fun i e => by cases e) _
    simp [go_sem, h.y1]
theorem DB.putQ (h : DB B Bq len b1 b2 v2 r a c Q W) (i : Nat) (x : Int) : DB B Bq len b1 b2 v2 r a c (Q.set i x) (W.setCell ⟨B + 1 + 1 + 1 + 1 + 1, i, none⟩ (.int .i64 x)) := by
  have far : ∀ {p : Addr} {v : Value}, W.cell? p = some v → B + 1 + 1 + 1 + 1 + 1 ≠ p.block → (W.setCell ⟨B + 1 + 1 + 1 + 1 + 1, i, none⟩ (.int .i64 x)).cell? p = some v := fun hp hne => cell_far hp hne
  have ho := (h.own.stored i (.int .i64 x)).1
  rw [← List.map_set] at ho
  refine ⟨far h.g0 (by show _ ≠ B; omega), far h.h0 (by show _ ≠ B + 1; omega), far h.h1 (by show _ ≠ B + 1; omega), ⟨far h.z1.1 (by show _ ≠ B + 1 + 1; omega), far h.z1.2.1 (by show _ ≠ B + 1 + 1; omega), ?_, ?_⟩,
    ⟨far h.z2.1 (by show _ ≠ B + 1 + 1 + 1; omega), far h.z2.2.1 (by show _ ≠ B + 1 + 1 + 1; omega), ?_, ?_⟩, far h.y0 (by show _ ≠ B + 1 + 1 + 1 + 1; omega), far h.y1 (by show _ ≠ B + 1 + 1 + 1 + 1; omega), ?_, ?_, h.hBq, far h.q (by have := h.hBq; show _ ≠ Bq; omega), ho, ?_, h.far⟩
  · simp [go_sem, h.z1.2.2.1]
  · simp [go_sem, h.z1.2.2.2]
  · simp [go_sem, h.z2.2.2.1]
  · simp [go_sem, h.z2.2.2.2]
  · simp [go_sem, h.f0]
  · simp [go_sem, h.f1]
  · refine ⟨h.row.cap, h.row.reach, fun j hj => ?_⟩
    obtain ⟨b, off, e, hc⟩ := h.row.cells j hj
    exact ⟨b, off, e, far hc (h.far ⟨b, off, none⟩ e)⟩
end
end Go.Proofs.YteiipiomcbohnaaDoor
