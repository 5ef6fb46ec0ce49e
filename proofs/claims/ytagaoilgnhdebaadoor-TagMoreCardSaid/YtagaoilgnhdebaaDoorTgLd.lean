/-
  the law TagMore, walked. (printed by gen_tagmore.py)
-/
import Derived.Test.YtagaoilgnhdebaaDoorTgLc
namespace Go.Proofs.YtagaoilgnhdebaaDoor
set_option linter.unusedSimpArgs false
set_option linter.unusedVariables false
open Go.RowKit

/-! The plain law: without a not, more tags let a constraint hold still. -/
theorem holds_mono {T U : List (List UInt8)} (h : ∀ s, T.contains s = true → U.contains s = true) : ∀ (n : Nat) (t : Xp), deniesX t = false → holdsX T n t = true → holdsX U n t = true
  | 0, _, _, h0 => by cases h0
  | n + 1, .mk op tag kids, hd, h0 => by
    have ih := holds_mono h n
    rw [deniesX_eq, deniesL_eq, Bool.or_eq_false_iff] at hd
    obtain ⟨hd1, hd2⟩ := hd
    have hk : ∀ k, k ∈ kids → deniesX k = false := fun k hk => by
      cases e : deniesX k with
      | false => rfl
      | true => exact absurd (List.any_eq_true.2 ⟨k, hk, e⟩) (by simpa using hd2)
    have h1 : ¬ op = [33] := of_decide_eq_false hd1
    rw [holdsX_mk, if_neg h1] at h0 ⊢
    by_cases h2 : op = [38, 38]
    · rw [if_pos h2] at h0 ⊢
      exact List.all_eq_true.2 fun k hkm => ih k (hk k hkm) (List.all_eq_true.1 h0 k hkm)
    · rw [if_neg h2] at h0 ⊢
      by_cases h3 : op = [124, 124]
      · rw [if_pos h3] at h0 ⊢
        obtain ⟨k, hkm, he⟩ := List.any_eq_true.1 h0
        exact List.any_eq_true.2 ⟨k, hkm, ih k (hk k hkm) he⟩
      · rw [if_neg h3] at h0 ⊢
        by_cases h4 : verT tag ≠ -1
        · rw [if_pos h4] at h0 ⊢; exact h0
        · rw [if_neg h4] at h0 ⊢; exact h _ h0
theorem more_holds {tags : List (List UInt8)} {more : List UInt8} {x : Xp} (hd : deniesX x = false) (hr : holdsR tags x = true) : holdsR (tags ++ [more]) x = true := by
  unfold holdsR at hr ⊢
  rw [Bool.and_eq_true] at hr ⊢
  exact ⟨hr.1, holds_mono (fun s hs => by simp only [List.contains_iff_mem, List.mem_append] at hs ⊢; exact .inl hs) 100 x hd hr.2⟩

/-- 'append([]string{}, l...)': a copy. -/
theorem wp_append_copyS {P : Program} (w : World) {o : Oper} {a : Act} {K : Act → World → Prop} {Q : Exit → Act → World → Prop} (s x : Operand) (t : TypeId)
    (ho : o.op = .call { callee := .builtin .append, args := #[s, x], argTypes := #[t, t] }) (e : TypeId) (i : TypeInfo) (h1 : P.underlying t = some (.slice e)) (h2 : P.info? e = some i) (h3 : i.zero = some (.string ByteArray.empty)) (h4 : i.size = 1) (h5 : i.bytes = 16)
    (base g : Nat) (hs : a.eval s = .slice (some ⟨g, 0, none⟩) 0 0) (hg : w.heap[g]? = some (.cells #[] e (0, 0))) (hbg : base ≤ g) (l : List (List UInt8)) (ao : Option Addr) (c : Nat) (hx : a.eval x = .slice ao l.length c) (hba : Strs w ao l) (hl : l.length ≤ 100) (hbase : base ≤ w.heap.size)
    (hK : ∀ v' w', w'.ownsRow base e 1 v' l.length (l.map valS) → w.grownBy w' (some g) → K (a.put o.dst v') w') : o.wp P a w K Q := by
  have hown : w.ownsRow base e 1 (.slice (some ⟨g, 0, none⟩) 0 0) 0 [] := ⟨rfl, .inr ⟨g, 0, #[], rfl, hbg, hg, Nat.le_refl _, by simp [maxLen], rfl, rfl⟩⟩
  cases l with
  | nil =>
    have hrun : (Builtin.append_ #[t, t] o.type #[.slice (some ⟨g, 0, none⟩) 0 0, .slice ao 0 c]).run P w = .ok (.slice (some ⟨g, 0, none⟩) 0 0) w := by
      cases ao <;> simp [Builtin.append_, run_underlying h1, sizeOf, typeInfo, h2, Builtin.lenOf, Builtin.firstCells, loadCells, loadCellsFrom, storeCells, Sem.run_pure]
    unfold Oper.wp
    simp only [List.length_nil] at hx
    simp [execOp, ho, resolve, invoke, builtin, hs, hx, hrun, Result.andThen]
    exact hK _ _ hown (World.grownBy.refl w _)
  | cons y r =>
    obtain ⟨b, off, rfl, _⟩ := hba 0 (by simp)
    refine wp_append_lies w s x t ho base e i (.string ByteArray.empty) 1 16 h1 h2 h3 h4 h5 rfl (by omega) _ 0 [] hs hown ⟨b, off, none⟩ (y :: r).length c ((y :: r).map valS) hx (by simp) (fun j u hu => ?_) (fun u hu => by obtain ⟨z, _, rfl⟩ := List.mem_map.1 hu; rfl) (by simp) (by unfold maxLen; omega) (by omega) hbase _ rfl ?_
    · rw [List.getElem?_map] at hu
      rcases Nat.lt_or_ge j (y :: r).length with hj | hj
      · rw [List.getElem?_eq_getElem hj] at hu
        obtain ⟨b', off', e', hc⟩ := hba j hj
        simp only [Option.some.injEq, Addr.mk.injEq, and_true] at e'
        obtain ⟨rfl, rfl⟩ := e'
        rw [Addr.add_lit, hc]
        exact hu
      · rw [List.getElem?_eq_none hj] at hu; cases hu
    · intro gg cap w' hown' hgrow _ _
      rw [Nat.zero_add] at hown'
      rw [Nat.zero_add]
      exact hK _ _ hown' hgrow

theorem strs_at {base : Nat} {e : TypeId} {g n cap : Nat} {l : List (List UInt8)} {w : World} (h : w.ownsRow base e 1 (.slice (some ⟨g, 0, none⟩) n cap) n (l.map valS)) (hn : l.length = n) (h0 : 0 < n) : Strs w (some ⟨g, 0, none⟩) l := by
  obtain ⟨g', cap', hv, _, _, _, hc⟩ := own_cells h h0
  simp only [Value.slice.injEq, Option.some.injEq, Addr.mk.injEq, and_true, true_and] at hv
  obtain ⟨rfl, rfl⟩ := hv
  intro j hj
  refine ⟨g, 0, rfl, ?_⟩
  rw [Nat.zero_add, hc j (by omega), List.getElem?_map, List.getElem?_eq_getElem hj]; rfl
theorem below_two (W : World) (o1 o2 : Obj) : Below W.heap.size W ((W.alloc o1).alloc o2) := ((Below.refl _ _).alloc (Nat.le_refl _) _).alloc (by simp) _
theorem two_first (W : World) (o1 o2 : Obj) : ((W.alloc o1).alloc o2).heap[W.heap.size]? = some o1 := by
  rw [(below_alloc (W.alloc o1) o2).block _ (by simp)]; exact heap_alloc_new W o1
theorem two_last (W : World) (o1 o2 : Obj) : ((W.alloc o1).alloc o2).heap[W.heap.size + 1]? = some o2 := by
  have := heap_alloc_new (W.alloc o1) o2
  simpa using this
theorem two_second (W : World) (o1 : Obj) (v : Value) (t : TypeId) : ((W.alloc o1).alloc (.cells #[v] t)).cell? ⟨W.heap.size + 1, 0, none⟩ = some v := by
  simp [go_sem]
theorem two_one (W : World) (v : Value) (t : TypeId) (o2 : Obj) : ((W.alloc (.cells #[v] t)).alloc o2).cell? ⟨W.heap.size, 0, none⟩ = some v := by
  simp [go_sem]
theorem cell_one {W : World} {g : Nat} {v : Value} (h : W.cell? ⟨g, 0, none⟩ = some v) : ∀ j u, [v][j]? = some u → W.cell? ((⟨g, 0, none⟩ : Addr).add j) = some u := by
  intro j u hu
  match j with
  | 0 =>
    simp at hu; subst hu
    simpa [Addr.add] using h
  | j + 1 => simp at hu
theorem keep3 {W W' : World} {n p : Nat} {x : Xp} {a : Option Addr} {c : Nat} (hb : Below n W W') (hn : n = W.heap.size) (h : (W.cell? ⟨p, 0, none⟩ = some (.string ⟨x.op.toArray⟩) ∧ W.cell? ⟨p, 1, none⟩ = some (.string ⟨x.tag.toArray⟩) ∧ W.cell? ⟨p, 2, none⟩ = some (.slice a x.kids.length c))) : (W'.cell? ⟨p, 0, none⟩ = some (.string ⟨x.op.toArray⟩) ∧ W'.cell? ⟨p, 1, none⟩ = some (.string ⟨x.tag.toArray⟩) ∧ W'.cell? ⟨p, 2, none⟩ = some (.slice a x.kids.length c)) := by
  subst hn; exact three_on' hb h.1 h.2.1 h.2.2

section
variable {w0 : World} {B : World → Prop} {K : List (Xp × Option Addr × Nat)} {L : List (List (List UInt8) × Option Addr)} {W : World} {tags : List (List UInt8)} {at_ : Option Addr}
theorem more_holds1 (h : Pk w0 B K [(tags, at_)] W) (hB : Keep B) (t : Xp) (r : Bool) (hr : holdsR tags t = r) (ht : tags.length ≤ 100) (a : Option Addr) (c : Nat) (hm : (t, a, c) ∈ K) {ct : Nat} :
    Calls Tryd.prog 14 #[.agg #[.string ⟨t.op.toArray⟩, .string ⟨t.tag.toArray⟩, .slice a t.kids.length c], .slice at_ tags.length ct] W (PkPost w0 B K [(tags, at_)] (.bool r)) := by
  rw [← hr]
  exact pk_holds h hB t a c hm tags at_ ct (by simp) (by omega)
theorem more_holds2 {more : List UInt8} {ab : Option Addr} (h : Pk w0 B K ((tags ++ [more], ab) :: L) W) (hB : Keep B) (t : Xp) (hr : holdsR (tags ++ [more]) t = true) (ht : tags.length ≤ 100) (a : Option Addr) (c : Nat) (hm : (t, a, c) ∈ K) (ct : Nat) :
    Calls Tryd.prog 14 #[.agg #[.string ⟨t.op.toArray⟩, .string ⟨t.tag.toArray⟩, .slice a t.kids.length c], .slice ab (tags.length + 1) ct] W (PkPost w0 B K ((tags ++ [more], ab) :: L) (.bool true)) := by
  have := pk_holds h hB t a c hm (tags ++ [more]) ab ct (by simp) (by simp; omega)
  rw [hr, show (tags ++ [more]).length = tags.length + 1 by simp] at this
  exact this
end

set_option maxRecDepth 100000 in
set_option maxHeartbeats 16000000 in
theorem more_any (x : Xp) (a0 : Option Addr) (c0 : Nat) (tags : List (List UInt8)) (at_ : Option Addr) (ct : Nat) (more : List UInt8) (w : World) (hE : Env w) (hk : Xids w Any a0 x.kids) (hf : Fitx x c0) (hs : Strs w at_ tags) (ht : tags.length ≤ 9223372036854775807) (htc : tags.length ≤ ct) :
    Calls Tryd.prog 7 #[.agg #[.string ⟨x.op.toArray⟩, .string ⟨x.tag.toArray⟩, .slice a0 x.kids.length c0], .slice at_ tags.length ct, .string ⟨more.toArray⟩] w (Good w) := by
  have HE := Lib.hid hE
  have HK := Lib.hid hk
  have HF := Lib.hid hf
  have HST := Lib.hid hs
  obtain ⟨wa, hwa, hba, p0, p1, p2, hsa⟩ := laid3r w x a0 c0
  have hsz := size_any x a0 c0 wa (hk.on hba) hf
  obtain ⟨N, hN⟩ : ∃ N, wrap64 (sizeX x) = N := ⟨_, rfl⟩
  have HN := Lib.hid hN
  rw [hN] at hsz
  have HSZ := Lib.hid hsz
  have HBA := Lib.hid hba
  clear hE hk hf hs hba hsz hN
  by_cases hn : 200 < N
  · go_enter Tryd.func7, Tryd.ntmps7
    go_wp2_with fail
    refine HSZ.out.mono ?_
    rintro e w1 ⟨rfl, hb1⟩
    obtain ⟨p0, p1, p2⟩ := three_on' hb1 p0 p1 p2
    have HB1 := Lib.hid (bext HBA.out hb1)
    have HSZ1 := Lib.hid (size_any x a0 c0 w1 (HK.out.on HB1.out) HF.out)
    rw [HN.out] at HSZ1
    clear hb1
    go_wp2_with fail
    refine HSZ1.out.mono ?_
    rintro e w2 ⟨rfl, hb2⟩
    have HB2 := Lib.hid (bext HB1.out hb2)
    clear hb2
    go_wp2_with fail
    refine bodyPost_ret (v := .bool true) (by simp [results, Tryd.results7, go_sem]) rfl ⟨rfl, HB2.out⟩
  by_cases hl : (20 : Int) < tags.length
  · go_enter Tryd.func7, Tryd.ntmps7
    go_wp2_with fail
    refine HSZ.out.mono ?_
    rintro e w1 ⟨rfl, hb1⟩
    obtain ⟨p0, p1, p2⟩ := three_on' hb1 p0 p1 p2
    have HB1 := Lib.hid (bext HBA.out hb1)
    have HSZ1 := Lib.hid (size_any x a0 c0 w1 (HK.out.on HB1.out) HF.out)
    rw [HN.out] at HSZ1
    clear hb1
    go_wp2_with fail
    refine HSZ1.out.mono ?_
    rintro e w2 ⟨rfl, hb2⟩
    have HB2 := Lib.hid (bext HB1.out hb2)
    clear hb2
    go_wp2_with fail
    refine bodyPost_ret (v := .bool true) (by simp [results, Tryd.results7, go_sem]) rfl ⟨rfl, HB2.out⟩
  cases hd : deniesX x with
  | true =>
    go_enter Tryd.func7, Tryd.ntmps7
    go_wp2_with fail
    refine HSZ.out.mono ?_
    rintro e w1 ⟨rfl, hb1⟩
    obtain ⟨p0, p1, p2⟩ := three_on' hb1 p0 p1 p2
    have HB1 := Lib.hid (bext HBA.out hb1)
    have HSZ1 := Lib.hid (size_any x a0 c0 w1 (HK.out.on HB1.out) HF.out)
    rw [HN.out] at HSZ1
    clear hb1
    have hdc := denies_any x a0 c0 w1 (HK.out.on HB1.out) HF.out
    rw [hd] at hdc
    have HDC := Lib.hid hdc
    clear hdc
    go_wp2_with fail
    refine HDC.out.mono ?_
    rintro e w2 ⟨rfl, hb2⟩
    obtain ⟨p0, p1, p2⟩ := three_on' hb2 p0 p1 p2
    have HB2 := Lib.hid (bext HB1.out hb2)
    have HSZ2 := Lib.hid (size_any x a0 c0 w2 (HK.out.on HB2.out) HF.out)
    rw [HN.out] at HSZ2
    clear hb2
    go_wp2_with fail
    refine HSZ2.out.mono ?_
    rintro e w3 ⟨rfl, hb3⟩
    have HB3 := Lib.hid (bext HB2.out hb3)
    have HW := Lib.hid (awake_any w3 (HE.out.on HB3.out))
    clear hb3
    go_wp2_with fail
    refine HW.out.mono ?_
    rintro e w4 ⟨rfl, hb4⟩
    have HB4 := Lib.hid (bext HB3.out hb4)
    clear hb4
    go_wp2_with fail
    refine bodyPost_ret (v := .bool true) (by simp [results, Tryd.results7, go_sem]) rfl ⟨rfl, HB4.out⟩
  | false =>
    have HD := Lib.hid hd
    go_enter Tryd.func7, Tryd.ntmps7
    go_wp2_with fail
    refine HSZ.out.mono ?_
    rintro e w1 ⟨rfl, hb1⟩
    obtain ⟨p0, p1, p2⟩ := three_on' hb1 p0 p1 p2
    have HB1 := Lib.hid (bext HBA.out hb1)
    have HSZ1 := Lib.hid (size_any x a0 c0 w1 (HK.out.on HB1.out) HF.out)
    rw [HN.out] at HSZ1
    clear hb1
    have hdc := denies_any x a0 c0 w1 (HK.out.on HB1.out) HF.out
    rw [hd] at hdc
    have HDC := Lib.hid hdc
    clear hdc hd
    go_wp2_with fail
    refine HDC.out.mono ?_
    rintro e w2 ⟨rfl, hb2⟩
    obtain ⟨p0, p1, p2⟩ := three_on' hb2 p0 p1 p2
    have HB2 := Lib.hid (bext HB1.out hb2)
    have HO := Lib.hid (of_any x a0 c0 w2 (HK.out.on HB2.out) HF.out)
    clear hb2
    go_wp2_with fail
    refine HO.out.mono ?_
    rintro e w3 ⟨hb3, a, c, rfl, hf3, hx3⟩
    have HB3 := Lib.hid (bext HB2.out hb3)
    have HX3 := Lib.hid hx3.any
    have HF3 := Lib.hid hf3
    clear hb3 hx3 hf3 HO HSZ1 HDC HSZ p0 p1 p2
    obtain ⟨w4, hw4, hb4, p0, p1, p2, hs4⟩ := laid3 w3 x a c
    obtain ⟨p, hp⟩ : ∃ p, w3.heap.size = p := ⟨_, rfl⟩
    have HM := Lib.hid (show (x, a, c) ∈ [(x, a, c)] from by simp)
    have HKB := Lib.hid (show Keep (fun W => (W.cell? ⟨p, 0, none⟩ = some (.string ⟨x.op.toArray⟩) ∧ W.cell? ⟨p, 1, none⟩ = some (.string ⟨x.tag.toArray⟩) ∧ W.cell? ⟨p, 2, none⟩ = some (.slice a x.kids.length c))) from fun W W' hb h => three_on' hb h.1 h.2.1 h.2.2)
    have HS2 := Lib.hid (show (tags, at_) ∈ [(tags, at_)] from by simp)
    have HP := Lib.hid (show Pk w (fun W => (W.cell? ⟨p, 0, none⟩ = some (.string ⟨x.op.toArray⟩) ∧ W.cell? ⟨p, 1, none⟩ = some (.string ⟨x.tag.toArray⟩) ∧ W.cell? ⟨p, 2, none⟩ = some (.slice a x.kids.length c))) [(x, a, c)] [(tags, at_)] w4.drew from
      ⟨bext (bext HB3.out hb4) (Below.refl _ _).drew, ((HE.out.on HB3.out).on hb4).on (Below.refl _ _).drew, by rw [← hp]; exact ⟨p0, p1, p2⟩, fun y hy => by
        rw [List.mem_singleton] at hy; subst hy; exact ⟨(HX3.out.on hb4).on (Below.refl _ _).drew, HF3.out⟩, fun y hy => by
        rw [List.mem_singleton] at hy; subst hy; exact ((HST.out.on HB3.out).on hb4).on (Below.refl _ _).drew⟩)
    have hp4 : w3.heap.size < w4.heap.size := by omega
    obtain ⟨ii, hi, hz0, hz1, hz2⟩ := info_parts infoS
    clear hb4 hs4
    rw [hp] at p0 p1 p2 hp4
    cases hr : holdsR tags x with
    | false =>
      have HR := Lib.hid (show holdsR tags x = false from hr)
      clear hr
      go_wp2_with fail
      refine wp_region_held_drew (S := fun w' => (w'.cell? ⟨p, 0, none⟩ = some (.string ⟨x.op.toArray⟩) ∧ w'.cell? ⟨p, 1, none⟩ = some (.string ⟨x.tag.toArray⟩) ∧ w'.cell? ⟨p, 2, none⟩ = some (.slice a x.kids.length c))) (by kernel_rfl) ⟨p0, p1, p2⟩ (fun hHeld => ?_)
      (refine wpAnyH_take (i := 0) (v := ?_) rfl (by decide +kernel) (by decide +kernel) (by decide +kernel) (fun _ _ _ h => h) (Or.inl ⟨?_, ?_⟩) hHeld ?_; rotate_left 1; (focus rfl); (focus (intro w9 hSw; have l0 := hSw.1; have l1 := hSw.2.1; have l2 := hSw.2.2; go_simp; (try with_reducible rfl); done)); (try simp only [Act.put, List.setIfInBounds_toArray, List.set_cons_zero, List.set_cons_succ, List.getElem_toArray, List.getElem_cons_zero, List.getElem_cons_succ]))
      (refine wpAnyH_take (i := 1) (v := ?_) rfl (by decide +kernel) (by decide +kernel) (by decide +kernel) (fun _ _ _ h => h) (Or.inl ⟨?_, ?_⟩) hHeld ?_; rotate_left 1; (focus rfl); (focus (intro w9 hSw; go_simp; (try with_reducible rfl); done)); (try simp only [Act.put, List.setIfInBounds_toArray, List.set_cons_zero, List.set_cons_succ, List.getElem_toArray, List.getElem_cons_zero, List.getElem_cons_succ]))
      refine wpAnyH_ready (rs := [2]) (by decide +kernel) (by simp) ?_
      refine AllReadyH.cons rfl (fun K hK => ?_) AllReadyH.nil
      rw [if_pos (by rfl)]
      go_simp
      refine (more_holds1 HP.out HKB.out x false HR.out (by omega) _ _ HM.out).mono ?_
      rintro e W2 ⟨rfl, ⟨q0, q1, q2⟩, HP2⟩
      have hpl2 : p < W2.heap.size := cell_lt1 q0
      refine hK.out _ _ ⟨q0, q1, q2⟩ (fun hHeld => ?_)
      clear hK K
      (try simp only [Act.put, List.setIfInBounds_toArray, List.set_cons_zero, List.set_cons_succ, List.getElem_toArray, List.getElem_cons_zero, List.getElem_cons_succ])
      (refine wpAnyH_take (i := 3) (v := ?_) rfl (by decide +kernel) (by decide +kernel) (by decide +kernel) (fun _ _ _ h => h) (Or.inl ⟨?_, ?_⟩) hHeld ?_; rotate_left 1; (focus rfl); (focus (intro w9 hSw; go_simp; (try with_reducible rfl); done)); (try simp only [Act.put, List.setIfInBounds_toArray, List.set_cons_zero, List.set_cons_succ, List.getElem_toArray, List.getElem_cons_zero, List.getElem_cons_succ]))
      (refine wpAnyH_take (i := 4) (v := ?_) rfl (by decide +kernel) (by decide +kernel) (by decide +kernel) (fun _ _ _ h => h) (Or.inl ⟨?_, ?_⟩) hHeld ?_; rotate_left 1; (focus rfl); (focus (intro w9 hSw; go_simp; (try with_reducible rfl); done)); (try simp only [Act.put, List.setIfInBounds_toArray, List.set_cons_zero, List.set_cons_succ, List.getElem_toArray, List.getElem_cons_zero, List.getElem_cons_succ]))
      (refine wpAnyH_take (i := 5) (v := undef) rfl (by decide +kernel) (by decide +kernel) (by decide +kernel) (fun _ _ _ h => h) (Or.inr ⟨?_, rfl⟩) hHeld ?_; (focus rfl); (try simp only [Act.put, List.setIfInBounds_toArray, List.set_cons_zero, List.set_cons_succ, List.getElem_toArray, List.getElem_cons_zero, List.getElem_cons_succ]))
      (refine wpAnyH_take (i := 6) (v := undef) rfl (by decide +kernel) (by decide +kernel) (by decide +kernel) (fun _ _ _ h => h) (Or.inr ⟨?_, rfl⟩) hHeld ?_; (focus rfl); (try simp only [Act.put, List.setIfInBounds_toArray, List.set_cons_zero, List.set_cons_succ, List.getElem_toArray, List.getElem_cons_zero, List.getElem_cons_succ]))
      (refine wpAnyH_take (i := 7) (v := undef) rfl (by decide +kernel) (by decide +kernel) (by decide +kernel) (fun _ _ _ h => h) (Or.inr ⟨?_, rfl⟩) hHeld ?_; (focus rfl); (try simp only [Act.put, List.setIfInBounds_toArray, List.set_cons_zero, List.set_cons_succ, List.getElem_toArray, List.getElem_cons_zero, List.getElem_cons_succ]))
      (refine wpAnyH_take (i := 8) (v := undef) rfl (by decide +kernel) (by decide +kernel) (by decide +kernel) (fun _ _ _ h => h) (Or.inr ⟨?_, rfl⟩) hHeld ?_; (focus rfl); (try simp only [Act.put, List.setIfInBounds_toArray, List.set_cons_zero, List.set_cons_succ, List.getElem_toArray, List.getElem_cons_zero, List.getElem_cons_succ]))
      (refine wpAnyH_take (i := 9) (v := undef) rfl (by decide +kernel) (by decide +kernel) (by decide +kernel) (fun _ _ _ h => h) (Or.inr ⟨?_, rfl⟩) hHeld ?_; (focus rfl); (try simp only [Act.put, List.setIfInBounds_toArray, List.set_cons_zero, List.set_cons_succ, List.getElem_toArray, List.getElem_cons_zero, List.getElem_cons_succ]))
      (refine wpAnyH_take (i := 10) (v := undef) rfl (by decide +kernel) (by decide +kernel) (by decide +kernel) (fun _ _ _ h => h) (Or.inr ⟨?_, rfl⟩) hHeld ?_; (focus rfl); (try simp only [Act.put, List.setIfInBounds_toArray, List.set_cons_zero, List.set_cons_succ, List.getElem_toArray, List.getElem_cons_zero, List.getElem_cons_succ]))
      (refine wpAnyH_take (i := 11) (v := undef) rfl (by decide +kernel) (by decide +kernel) (by decide +kernel) (fun _ _ _ h => h) (Or.inr ⟨?_, rfl⟩) hHeld ?_; (focus rfl); (try simp only [Act.put, List.setIfInBounds_toArray, List.set_cons_zero, List.set_cons_succ, List.getElem_toArray, List.getElem_cons_zero, List.getElem_cons_succ]))
      (refine wpAnyH_take (i := 12) (v := undef) rfl (by decide +kernel) (by decide +kernel) (by decide +kernel) (fun _ _ _ h => h) (Or.inr ⟨?_, rfl⟩) hHeld ?_; (focus rfl); (try simp only [Act.put, List.setIfInBounds_toArray, List.set_cons_zero, List.set_cons_succ, List.getElem_toArray, List.getElem_cons_zero, List.getElem_cons_succ]))
      (refine wpAnyH_take (i := 13) (v := ?_) rfl (by decide +kernel) (by decide +kernel) (by decide +kernel) (fun _ _ _ h => h) (Or.inl ⟨?_, ?_⟩) hHeld ?_; rotate_left 1; (focus rfl); (focus (intro w9 hSw; go_simp; (try with_reducible rfl); done)); (try simp only [Act.put, List.setIfInBounds_toArray, List.set_cons_zero, List.set_cons_succ, List.getElem_toArray, List.getElem_cons_zero, List.getElem_cons_succ]))
      (refine wpAnyH_take (i := 14) (v := ?_) rfl (by decide +kernel) (by decide +kernel) (by decide +kernel) (fun _ _ _ h => h) (Or.inl ⟨?_, ?_⟩) hHeld ?_; rotate_left 1; (focus rfl); (focus (intro w9 hSw; go_simp; (try with_reducible rfl); done)); (try simp only [Act.put, List.setIfInBounds_toArray, List.set_cons_zero, List.set_cons_succ, List.getElem_toArray, List.getElem_cons_zero, List.getElem_cons_succ]))
      refine wpAnyH_ready (rs := [15]) (by decide +kernel) (by simp) ?_
      refine AllReadyH.cons rfl (fun K hK => ?_) AllReadyH.nil
      rw [if_pos (by rfl)]
      go_simp
      refine (pk_awake HP2.out HKB.out).mono ?_
      rintro e W9 ⟨rfl, ⟨q0, q1, q2⟩, HP9⟩
      refine hK.out _ _ ⟨q0, q1, q2⟩ (fun hHeld => ?_)
      clear hK K
      (try simp only [Act.put, List.setIfInBounds_toArray, List.set_cons_zero, List.set_cons_succ, List.getElem_toArray, List.getElem_cons_zero, List.getElem_cons_succ])
      (refine wpAnyH_take (i := 16) (v := ?_) rfl (by decide +kernel) (by decide +kernel) (by decide +kernel) (fun _ _ _ h => h) (Or.inl ⟨?_, ?_⟩) hHeld ?_; rotate_left 1; (focus rfl); (focus (intro w9 hSw; go_simp; (try with_reducible rfl); done)); (try simp only [Act.put, List.setIfInBounds_toArray, List.set_cons_zero, List.set_cons_succ, List.getElem_toArray, List.getElem_cons_zero, List.getElem_cons_succ]))
      (refine wpAnyH_take (i := 17) (v := ?_) rfl (by decide +kernel) (by decide +kernel) (by decide +kernel) (fun _ _ _ h => h) (Or.inl ⟨?_, ?_⟩) hHeld ?_; rotate_left 1; (focus rfl); (focus (intro w9 hSw; go_simp; (try with_reducible rfl); done)); (try simp only [Act.put, List.setIfInBounds_toArray, List.set_cons_zero, List.set_cons_succ, List.getElem_toArray, List.getElem_cons_zero, List.getElem_cons_succ]))
      refine wpAnyH_done (by decide +kernel) ?_ _
      go_wp2_with fail
      go_ret
      exact ⟨rfl, HP9.out.below⟩
    | true =>
      have HR := Lib.hid hr
      have HR2 := Lib.hid (more_holds (more := more) HD.out hr)
      clear hr
      go_wp2_with fail
      refine wp_region_held_drew (S := fun w' => (w'.cell? ⟨p, 0, none⟩ = some (.string ⟨x.op.toArray⟩) ∧ w'.cell? ⟨p, 1, none⟩ = some (.string ⟨x.tag.toArray⟩) ∧ w'.cell? ⟨p, 2, none⟩ = some (.slice a x.kids.length c))) (by kernel_rfl) ⟨p0, p1, p2⟩ (fun hHeld => ?_)
      (refine wpAnyH_take (i := 0) (v := ?_) rfl (by decide +kernel) (by decide +kernel) (by decide +kernel) (fun _ _ _ h => h) (Or.inl ⟨?_, ?_⟩) hHeld ?_; rotate_left 1; (focus rfl); (focus (intro w9 hSw; have l0 := hSw.1; have l1 := hSw.2.1; have l2 := hSw.2.2; go_simp; (try with_reducible rfl); done)); (try simp only [Act.put, List.setIfInBounds_toArray, List.set_cons_zero, List.set_cons_succ, List.getElem_toArray, List.getElem_cons_zero, List.getElem_cons_succ]))
      (refine wpAnyH_take (i := 1) (v := ?_) rfl (by decide +kernel) (by decide +kernel) (by decide +kernel) (fun _ _ _ h => h) (Or.inl ⟨?_, ?_⟩) hHeld ?_; rotate_left 1; (focus rfl); (focus (intro w9 hSw; go_simp; (try with_reducible rfl); done)); (try simp only [Act.put, List.setIfInBounds_toArray, List.set_cons_zero, List.set_cons_succ, List.getElem_toArray, List.getElem_cons_zero, List.getElem_cons_succ]))
      refine wpAnyH_ready (rs := [2]) (by decide +kernel) (by simp) ?_
      refine AllReadyH.cons rfl (fun K hK => ?_) AllReadyH.nil
      rw [if_pos (by rfl)]
      go_simp
      refine (more_holds1 HP.out HKB.out x true HR.out (by omega) _ _ HM.out).mono ?_
      rintro e W2 ⟨rfl, ⟨q0, q1, q2⟩, HP2⟩
      have hpl2 : p < W2.heap.size := cell_lt1 q0
      refine hK.out _ _ ⟨q0, q1, q2⟩ (fun hHeld => ?_)
      clear hK K
      (try simp only [Act.put, List.setIfInBounds_toArray, List.set_cons_zero, List.set_cons_succ, List.getElem_toArray, List.getElem_cons_zero, List.getElem_cons_succ])
      (refine wpAnyH_take (i := 3) (v := ?_) rfl (by decide +kernel) (by decide +kernel) (by decide +kernel) (fun _ _ _ h => h) (Or.inl ⟨?_, ?_⟩) hHeld ?_; rotate_left 1; (focus rfl); (focus (intro w9 hSw; go_simp; (try with_reducible rfl); done)); (try simp only [Act.put, List.setIfInBounds_toArray, List.set_cons_zero, List.set_cons_succ, List.getElem_toArray, List.getElem_cons_zero, List.getElem_cons_succ]))
      (refine wpAnyH_take (i := 4) (v := ?_) rfl (by decide +kernel) (by decide +kernel) (by decide +kernel) (fun _ _ _ h => h) (Or.inl ⟨?_, ?_⟩) hHeld ?_; rotate_left 1; (focus rfl); (focus (intro w9 hSw; go_simp; (try with_reducible rfl); done)); (try simp only [Act.put, List.setIfInBounds_toArray, List.set_cons_zero, List.set_cons_succ, List.getElem_toArray, List.getElem_cons_zero, List.getElem_cons_succ]))
      (refine wpAnyH_take (i := 5) (v := ?_) rfl (by decide +kernel) (by decide +kernel) (by decide +kernel) (fun _ _ _ h => h) (Or.inl ⟨?_, ?_⟩) hHeld ?_; rotate_left 1; (focus rfl); (focus (intro w9 hSw; have l0 := hSw.1; have l1 := hSw.2.1; have l2 := hSw.2.2; go_simp; (try with_reducible rfl); done)); (try simp only [Act.put, List.setIfInBounds_toArray, List.set_cons_zero, List.set_cons_succ, List.getElem_toArray, List.getElem_cons_zero, List.getElem_cons_succ]))
      (refine wpAnyH_take (i := 7) (v := ?_) rfl (by decide +kernel) (by decide +kernel) (by decide +kernel) (fun _ _ _ h => h) (Or.inl ⟨?_, ?_⟩) hHeld ?_; rotate_left 1; (focus rfl); (focus (intro w9 hSw; go_simp; (try with_reducible rfl); done)); (try simp only [Act.put, List.setIfInBounds_toArray, List.set_cons_zero, List.set_cons_succ, List.getElem_toArray, List.getElem_cons_zero, List.getElem_cons_succ]))
      (refine wpAnyH_take (i := 9) (v := ?_) rfl (by decide +kernel) (by decide +kernel) (by decide +kernel) (fun _ _ _ h => h) (Or.inl ⟨?_, ?_⟩) hHeld ?_; rotate_left 1; (focus rfl); (focus (intro w9 hSw; go_simp; (try with_reducible rfl); done)); (try simp only [Act.put, List.setIfInBounds_toArray, List.set_cons_zero, List.set_cons_succ, List.getElem_toArray, List.getElem_cons_zero, List.getElem_cons_succ]))
      refine wpAnyH_ready (rs := [6, 10]) (by decide +kernel) (by simp) ?_
      refine AllReadyH.cons rfl (fun K hK => ?_) (AllReadyH.cons rfl (fun K hK => ?_) AllReadyH.nil)
      · rw [if_pos (by rfl)]
        go_simp
        refine hK.out _ _ (keep3 (below_alloc _ _) rfl hHeld) (fun hHeld => ?_)
        clear hK K
        (try simp only [Act.put, List.setIfInBounds_toArray, List.set_cons_zero, List.set_cons_succ, List.getElem_toArray, List.getElem_cons_zero, List.getElem_cons_succ])
        refine wpAnyH_ready (rs := [8, 10]) (by decide +kernel) (by simp) ?_
        refine AllReadyH.cons rfl (fun K hK => ?_) (AllReadyH.cons rfl (fun K hK => ?_) AllReadyH.nil)
        · rw [if_pos (by rfl)]
          refine wp_append_copyS _ _ _ _ (by rfl) 9 ii Tryd.underlying25 hi hz0 hz1 hz2 W2.heap.size W2.heap.size (by rfl) (heap_alloc_new W2 _) (Nat.le_refl _) tags at_ ct (by rfl) ((HP2.out.strs _ HS2.out).on (below_alloc _ _)) (by omega) (by simp) ?_
          intro v4 W4 hown4 hgrow4
          have HBL := Lib.hid ((below_alloc W2 _).grown hgrow4 (by simp) (fun j e => by simp at e; omega))
          have HO4 := Lib.hid hown4
          clear hown4 hgrow4
          refine hK.out _ _ (keep3 HBL.out rfl ⟨q0, q1, q2⟩) (fun hHeld => ?_)
          clear hK K
          (try simp only [Act.put, List.setIfInBounds_toArray, List.set_cons_zero, List.set_cons_succ, List.getElem_toArray, List.getElem_cons_zero, List.getElem_cons_succ])
          refine wpAnyH_ready (rs := [10]) (by decide +kernel) (by simp) ?_
          refine AllReadyH.cons rfl (fun K hK => ?_) AllReadyH.nil
          rw [if_pos (by rfl)]
          go_simp
          have HO := Lib.hid (HO4.out.alloc (.cells #[valS more] 9))
          replace HBL := Lib.hid (HBL.out.alloc (HBL.out.size) (.cells #[valS more] 9))
          refine hK.out _ _ (keep3 HBL.out rfl ⟨q0, q1, q2⟩) (fun hHeld => ?_)
          clear hK K
          (try simp only [Act.put, List.setIfInBounds_toArray, List.set_cons_zero, List.set_cons_succ, List.getElem_toArray, List.getElem_cons_zero, List.getElem_cons_succ])
          refine wpAnyH_ready (rs := [11]) (by decide +kernel) (by simp) ?_
          refine AllReadyH.cons rfl (fun K hK => ?_) AllReadyH.nil
          rw [if_pos (by rfl)]
          refine wp_append_lies _ _ _ _ (by rfl) W2.heap.size 9 ii (.string ByteArray.empty) 1 16 Tryd.underlying25 hi hz0 hz1 hz2 rfl (by omega) v4 tags.length (tags.map valS) (by rfl) HO.out ⟨W4.heap.size, 0, none⟩ 1 1 [valS more] (by rfl) (by rfl) (World.news_of_block (cs := #[valS more]) (t := 9) (fr := (0, 0)) (heap_alloc_new W4 _)) (by simp [valS, Value.oneCell']) (by omega) (by simp [maxLen]; omega) (by omega) (by have := HBL.out.size; first | omega | (simp at this ⊢; omega)) _ rfl ?_
          intro gg cap W6 hown6 hgrow6 hat6 hlt6
          have hB6 : Below W2.heap.size W2 W6 := HBL.out.grown hgrow6 (by have := HBL.out.size; first | omega | (simp at this ⊢; omega)) (fun j e => (own_lt HO.out j e).1)
          have hs6 : Strs W6 (some ⟨gg, 0, none⟩) (tags ++ [more]) := by
            have h8 : W6.ownsRow W2.heap.size 9 1 (.slice (some ⟨gg, 0, none⟩) (tags.length + 1) cap) (tags.length + 1) ((tags ++ [more]).map valS) := by
              have := hown6
              simpa using this
            exact strs_at h8 (by simp) (by simp)
          have HP6 := Lib.hid ((HP2.out.on HKB.out hB6).row hs6)
          have hq6 := HP6.out.cells
          clear hown6 hgrow6 hat6 hB6 hs6
          refine hK.out _ _ hq6 (fun hHeld => ?_)
          clear hK K
          (try simp only [Act.put, List.setIfInBounds_toArray, List.set_cons_zero, List.set_cons_succ, List.getElem_toArray, List.getElem_cons_zero, List.getElem_cons_succ])
          refine wpAnyH_ready (rs := [12]) (by decide +kernel) (by simp) ?_
          refine AllReadyH.cons rfl (fun K hK => ?_) AllReadyH.nil
          rw [if_pos (by rfl)]
          go_simp
          refine (more_holds2 HP6.out HKB.out x HR2.out (by omega) _ _ HM.out _).mono ?_
          rintro e W7 ⟨rfl, ⟨q0, q1, q2⟩, HP7⟩
          refine hK.out _ _ ⟨q0, q1, q2⟩ (fun hHeld => ?_)
          clear hK K
          (try simp only [Act.put, List.setIfInBounds_toArray, List.set_cons_zero, List.set_cons_succ, List.getElem_toArray, List.getElem_cons_zero, List.getElem_cons_succ])
          (refine wpAnyH_take (i := 13) (v := ?_) rfl (by decide +kernel) (by decide +kernel) (by decide +kernel) (fun _ _ _ h => h) (Or.inl ⟨?_, ?_⟩) hHeld ?_; rotate_left 1; (focus rfl); (focus (intro w9 hSw; go_simp; (try with_reducible rfl); done)); (try simp only [Act.put, List.setIfInBounds_toArray, List.set_cons_zero, List.set_cons_succ, List.getElem_toArray, List.getElem_cons_zero, List.getElem_cons_succ]))
          (refine wpAnyH_take (i := 14) (v := ?_) rfl (by decide +kernel) (by decide +kernel) (by decide +kernel) (fun _ _ _ h => h) (Or.inl ⟨?_, ?_⟩) hHeld ?_; rotate_left 1; (focus rfl); (focus (intro w9 hSw; go_simp; (try with_reducible rfl); done)); (try simp only [Act.put, List.setIfInBounds_toArray, List.set_cons_zero, List.set_cons_succ, List.getElem_toArray, List.getElem_cons_zero, List.getElem_cons_succ]))
          refine wpAnyH_ready (rs := [15]) (by decide +kernel) (by simp) ?_
          refine AllReadyH.cons rfl (fun K hK => ?_) AllReadyH.nil
          rw [if_pos (by rfl)]
          go_simp
          refine (pk_awake HP7.out HKB.out).mono ?_
          rintro e W9 ⟨rfl, ⟨q0, q1, q2⟩, HP9⟩
          refine hK.out _ _ ⟨q0, q1, q2⟩ (fun hHeld => ?_)
          clear hK K
          (try simp only [Act.put, List.setIfInBounds_toArray, List.set_cons_zero, List.set_cons_succ, List.getElem_toArray, List.getElem_cons_zero, List.getElem_cons_succ])
          (refine wpAnyH_take (i := 16) (v := ?_) rfl (by decide +kernel) (by decide +kernel) (by decide +kernel) (fun _ _ _ h => h) (Or.inl ⟨?_, ?_⟩) hHeld ?_; rotate_left 1; (focus rfl); (focus (intro w9 hSw; go_simp; (try with_reducible rfl); done)); (try simp only [Act.put, List.setIfInBounds_toArray, List.set_cons_zero, List.set_cons_succ, List.getElem_toArray, List.getElem_cons_zero, List.getElem_cons_succ]))
          (refine wpAnyH_take (i := 17) (v := ?_) rfl (by decide +kernel) (by decide +kernel) (by decide +kernel) (fun _ _ _ h => h) (Or.inl ⟨?_, ?_⟩) hHeld ?_; rotate_left 1; (focus rfl); (focus (intro w9 hSw; go_simp; (try with_reducible rfl); done)); (try simp only [Act.put, List.setIfInBounds_toArray, List.set_cons_zero, List.set_cons_succ, List.getElem_toArray, List.getElem_cons_zero, List.getElem_cons_succ]))
          refine wpAnyH_done (by decide +kernel) ?_ _
          go_wp2_with fail
          go_ret
          exact ⟨rfl, HP9.out.below⟩
        · rw [if_pos (by rfl)]
          go_simp
          refine hK.out _ _ (keep3 (below_alloc _ _) rfl hHeld) (fun hHeld => ?_)
          clear hK K
          (try simp only [Act.put, List.setIfInBounds_toArray, List.set_cons_zero, List.set_cons_succ, List.getElem_toArray, List.getElem_cons_zero, List.getElem_cons_succ])
          refine wpAnyH_ready (rs := [8]) (by decide +kernel) (by simp) ?_
          refine AllReadyH.cons rfl (fun K hK => ?_) AllReadyH.nil
          rw [if_pos (by rfl)]
          refine wp_append_copyS _ _ _ _ (by rfl) 9 ii Tryd.underlying25 hi hz0 hz1 hz2 W2.heap.size W2.heap.size (by rfl) (two_first W2 _ _) (Nat.le_refl _) tags at_ ct (by rfl) ((HP2.out.strs _ HS2.out).on (below_two W2 _ _)) (by omega) (by simp; omega) ?_
          intro v4 W4 hown4 hgrow4
          have HBL := Lib.hid ((below_two W2 _ _).grown hgrow4 (by simp; omega) (fun j e => by simp at e; omega))
          have HO := Lib.hid hown4
          have HC2 := Lib.hid (show W4.cell? ⟨W2.heap.size + 1, 0, none⟩ = some (valS more) from World.grownBy.cell hgrow4 (two_second W2 _ _ _) (by simp))
          clear hown4 hgrow4
          refine hK.out _ _ (keep3 HBL.out rfl ⟨q0, q1, q2⟩) (fun hHeld => ?_)
          clear hK K
          (try simp only [Act.put, List.setIfInBounds_toArray, List.set_cons_zero, List.set_cons_succ, List.getElem_toArray, List.getElem_cons_zero, List.getElem_cons_succ])
          refine wpAnyH_ready (rs := [11]) (by decide +kernel) (by simp) ?_
          refine AllReadyH.cons rfl (fun K hK => ?_) AllReadyH.nil
          rw [if_pos (by rfl)]
          refine wp_append_lies _ _ _ _ (by rfl) W2.heap.size 9 ii (.string ByteArray.empty) 1 16 Tryd.underlying25 hi hz0 hz1 hz2 rfl (by omega) v4 tags.length (tags.map valS) (by rfl) HO.out ⟨W2.heap.size + 1, 0, none⟩ 1 1 [valS more] (by rfl) (by rfl) (cell_one HC2.out) (by simp [valS, Value.oneCell']) (by omega) (by simp [maxLen]; omega) (by omega) (by have := HBL.out.size; first | omega | (simp at this ⊢; omega)) _ rfl ?_
          intro gg cap W6 hown6 hgrow6 hat6 hlt6
          have hB6 : Below W2.heap.size W2 W6 := HBL.out.grown hgrow6 (by have := HBL.out.size; first | omega | (simp at this ⊢; omega)) (fun j e => (own_lt HO.out j e).1)
          have hs6 : Strs W6 (some ⟨gg, 0, none⟩) (tags ++ [more]) := by
            have h8 : W6.ownsRow W2.heap.size 9 1 (.slice (some ⟨gg, 0, none⟩) (tags.length + 1) cap) (tags.length + 1) ((tags ++ [more]).map valS) := by
              have := hown6
              simpa using this
            exact strs_at h8 (by simp) (by simp)
          have HP6 := Lib.hid ((HP2.out.on HKB.out hB6).row hs6)
          have hq6 := HP6.out.cells
          clear hown6 hgrow6 hat6 hB6 hs6
          refine hK.out _ _ hq6 (fun hHeld => ?_)
          clear hK K
          (try simp only [Act.put, List.setIfInBounds_toArray, List.set_cons_zero, List.set_cons_succ, List.getElem_toArray, List.getElem_cons_zero, List.getElem_cons_succ])
          refine wpAnyH_ready (rs := [12]) (by decide +kernel) (by simp) ?_
          refine AllReadyH.cons rfl (fun K hK => ?_) AllReadyH.nil
          rw [if_pos (by rfl)]
          go_simp
          refine (more_holds2 HP6.out HKB.out x HR2.out (by omega) _ _ HM.out _).mono ?_
          rintro e W7 ⟨rfl, ⟨q0, q1, q2⟩, HP7⟩
          refine hK.out _ _ ⟨q0, q1, q2⟩ (fun hHeld => ?_)
          clear hK K
          (try simp only [Act.put, List.setIfInBounds_toArray, List.set_cons_zero, List.set_cons_succ, List.getElem_toArray, List.getElem_cons_zero, List.getElem_cons_succ])
          (refine wpAnyH_take (i := 13) (v := ?_) rfl (by decide +kernel) (by decide +kernel) (by decide +kernel) (fun _ _ _ h => h) (Or.inl ⟨?_, ?_⟩) hHeld ?_; rotate_left 1; (focus rfl); (focus (intro w9 hSw; go_simp; (try with_reducible rfl); done)); (try simp only [Act.put, List.setIfInBounds_toArray, List.set_cons_zero, List.set_cons_succ, List.getElem_toArray, List.getElem_cons_zero, List.getElem_cons_succ]))
          (refine wpAnyH_take (i := 14) (v := ?_) rfl (by decide +kernel) (by decide +kernel) (by decide +kernel) (fun _ _ _ h => h) (Or.inl ⟨?_, ?_⟩) hHeld ?_; rotate_left 1; (focus rfl); (focus (intro w9 hSw; go_simp; (try with_reducible rfl); done)); (try simp only [Act.put, List.setIfInBounds_toArray, List.set_cons_zero, List.set_cons_succ, List.getElem_toArray, List.getElem_cons_zero, List.getElem_cons_succ]))
          refine wpAnyH_ready (rs := [15]) (by decide +kernel) (by simp) ?_
          refine AllReadyH.cons rfl (fun K hK => ?_) AllReadyH.nil
          rw [if_pos (by rfl)]
          go_simp
          refine (pk_awake HP7.out HKB.out).mono ?_
          rintro e W9 ⟨rfl, ⟨q0, q1, q2⟩, HP9⟩
          refine hK.out _ _ ⟨q0, q1, q2⟩ (fun hHeld => ?_)
          clear hK K
          (try simp only [Act.put, List.setIfInBounds_toArray, List.set_cons_zero, List.set_cons_succ, List.getElem_toArray, List.getElem_cons_zero, List.getElem_cons_succ])
          (refine wpAnyH_take (i := 16) (v := ?_) rfl (by decide +kernel) (by decide +kernel) (by decide +kernel) (fun _ _ _ h => h) (Or.inl ⟨?_, ?_⟩) hHeld ?_; rotate_left 1; (focus rfl); (focus (intro w9 hSw; go_simp; (try with_reducible rfl); done)); (try simp only [Act.put, List.setIfInBounds_toArray, List.set_cons_zero, List.set_cons_succ, List.getElem_toArray, List.getElem_cons_zero, List.getElem_cons_succ]))
          (refine wpAnyH_take (i := 17) (v := ?_) rfl (by decide +kernel) (by decide +kernel) (by decide +kernel) (fun _ _ _ h => h) (Or.inl ⟨?_, ?_⟩) hHeld ?_; rotate_left 1; (focus rfl); (focus (intro w9 hSw; go_simp; (try with_reducible rfl); done)); (try simp only [Act.put, List.setIfInBounds_toArray, List.set_cons_zero, List.set_cons_succ, List.getElem_toArray, List.getElem_cons_zero, List.getElem_cons_succ]))
          refine wpAnyH_done (by decide +kernel) ?_ _
          go_wp2_with fail
          go_ret
          exact ⟨rfl, HP9.out.below⟩
      · rw [if_pos (by rfl)]
        go_simp
        refine hK.out _ _ (keep3 (below_alloc _ _) rfl hHeld) (fun hHeld => ?_)
        clear hK K
        (try simp only [Act.put, List.setIfInBounds_toArray, List.set_cons_zero, List.set_cons_succ, List.getElem_toArray, List.getElem_cons_zero, List.getElem_cons_succ])
        refine wpAnyH_ready (rs := [6]) (by decide +kernel) (by simp) ?_
        refine AllReadyH.cons rfl (fun K hK => ?_) AllReadyH.nil
        rw [if_pos (by rfl)]
        go_simp
        refine hK.out _ _ (keep3 (below_alloc _ _) rfl hHeld) (fun hHeld => ?_)
        clear hK K
        (try simp only [Act.put, List.setIfInBounds_toArray, List.set_cons_zero, List.set_cons_succ, List.getElem_toArray, List.getElem_cons_zero, List.getElem_cons_succ])
        refine wpAnyH_ready (rs := [8]) (by decide +kernel) (by simp) ?_
        refine AllReadyH.cons rfl (fun K hK => ?_) AllReadyH.nil
        rw [if_pos (by rfl)]
        refine wp_append_copyS _ _ _ _ (by rfl) 9 ii Tryd.underlying25 hi hz0 hz1 hz2 W2.heap.size (W2.heap.size + 1) (by rfl) (two_last W2 _ _) (by omega) tags at_ ct (by rfl) ((HP2.out.strs _ HS2.out).on (below_two W2 _ _)) (by omega) (by simp; omega) ?_
        intro v4 W4 hown4 hgrow4
        have HBL := Lib.hid ((below_two W2 _ _).grown hgrow4 (by simp; omega) (fun j e => by simp at e; omega))
        have HO := Lib.hid hown4
        have HC2 := Lib.hid (show W4.cell? ⟨W2.heap.size, 0, none⟩ = some (valS more) from World.grownBy.cell hgrow4 (two_one W2 _ _ _) (by simp))
        clear hown4 hgrow4
        refine hK.out _ _ (keep3 HBL.out rfl ⟨q0, q1, q2⟩) (fun hHeld => ?_)
        clear hK K
        (try simp only [Act.put, List.setIfInBounds_toArray, List.set_cons_zero, List.set_cons_succ, List.getElem_toArray, List.getElem_cons_zero, List.getElem_cons_succ])
        refine wpAnyH_ready (rs := [11]) (by decide +kernel) (by simp) ?_
        refine AllReadyH.cons rfl (fun K hK => ?_) AllReadyH.nil
        rw [if_pos (by rfl)]
        refine wp_append_lies _ _ _ _ (by rfl) W2.heap.size 9 ii (.string ByteArray.empty) 1 16 Tryd.underlying25 hi hz0 hz1 hz2 rfl (by omega) v4 tags.length (tags.map valS) (by rfl) HO.out ⟨W2.heap.size, 0, none⟩ 1 1 [valS more] (by rfl) (by rfl) (cell_one HC2.out) (by simp [valS, Value.oneCell']) (by omega) (by simp [maxLen]; omega) (by omega) (by have := HBL.out.size; first | omega | (simp at this ⊢; omega)) _ rfl ?_
        intro gg cap W6 hown6 hgrow6 hat6 hlt6
        have hB6 : Below W2.heap.size W2 W6 := HBL.out.grown hgrow6 (by have := HBL.out.size; first | omega | (simp at this ⊢; omega)) (fun j e => (own_lt HO.out j e).1)
        have hs6 : Strs W6 (some ⟨gg, 0, none⟩) (tags ++ [more]) := by
          have h8 : W6.ownsRow W2.heap.size 9 1 (.slice (some ⟨gg, 0, none⟩) (tags.length + 1) cap) (tags.length + 1) ((tags ++ [more]).map valS) := by
            have := hown6
            simpa using this
          exact strs_at h8 (by simp) (by simp)
        have HP6 := Lib.hid ((HP2.out.on HKB.out hB6).row hs6)
        have hq6 := HP6.out.cells
        clear hown6 hgrow6 hat6 hB6 hs6
        refine hK.out _ _ hq6 (fun hHeld => ?_)
        clear hK K
        (try simp only [Act.put, List.setIfInBounds_toArray, List.set_cons_zero, List.set_cons_succ, List.getElem_toArray, List.getElem_cons_zero, List.getElem_cons_succ])
        refine wpAnyH_ready (rs := [12]) (by decide +kernel) (by simp) ?_
        refine AllReadyH.cons rfl (fun K hK => ?_) AllReadyH.nil
        rw [if_pos (by rfl)]
        go_simp
        refine (more_holds2 HP6.out HKB.out x HR2.out (by omega) _ _ HM.out _).mono ?_
        rintro e W7 ⟨rfl, ⟨q0, q1, q2⟩, HP7⟩
        refine hK.out _ _ ⟨q0, q1, q2⟩ (fun hHeld => ?_)
        clear hK K
        (try simp only [Act.put, List.setIfInBounds_toArray, List.set_cons_zero, List.set_cons_succ, List.getElem_toArray, List.getElem_cons_zero, List.getElem_cons_succ])
        (refine wpAnyH_take (i := 13) (v := ?_) rfl (by decide +kernel) (by decide +kernel) (by decide +kernel) (fun _ _ _ h => h) (Or.inl ⟨?_, ?_⟩) hHeld ?_; rotate_left 1; (focus rfl); (focus (intro w9 hSw; go_simp; (try with_reducible rfl); done)); (try simp only [Act.put, List.setIfInBounds_toArray, List.set_cons_zero, List.set_cons_succ, List.getElem_toArray, List.getElem_cons_zero, List.getElem_cons_succ]))
        (refine wpAnyH_take (i := 14) (v := ?_) rfl (by decide +kernel) (by decide +kernel) (by decide +kernel) (fun _ _ _ h => h) (Or.inl ⟨?_, ?_⟩) hHeld ?_; rotate_left 1; (focus rfl); (focus (intro w9 hSw; go_simp; (try with_reducible rfl); done)); (try simp only [Act.put, List.setIfInBounds_toArray, List.set_cons_zero, List.set_cons_succ, List.getElem_toArray, List.getElem_cons_zero, List.getElem_cons_succ]))
        refine wpAnyH_ready (rs := [15]) (by decide +kernel) (by simp) ?_
        refine AllReadyH.cons rfl (fun K hK => ?_) AllReadyH.nil
        rw [if_pos (by rfl)]
        go_simp
        refine (pk_awake HP7.out HKB.out).mono ?_
        rintro e W9 ⟨rfl, ⟨q0, q1, q2⟩, HP9⟩
        refine hK.out _ _ ⟨q0, q1, q2⟩ (fun hHeld => ?_)
        clear hK K
        (try simp only [Act.put, List.setIfInBounds_toArray, List.set_cons_zero, List.set_cons_succ, List.getElem_toArray, List.getElem_cons_zero, List.getElem_cons_succ])
        (refine wpAnyH_take (i := 16) (v := ?_) rfl (by decide +kernel) (by decide +kernel) (by decide +kernel) (fun _ _ _ h => h) (Or.inl ⟨?_, ?_⟩) hHeld ?_; rotate_left 1; (focus rfl); (focus (intro w9 hSw; go_simp; (try with_reducible rfl); done)); (try simp only [Act.put, List.setIfInBounds_toArray, List.set_cons_zero, List.set_cons_succ, List.getElem_toArray, List.getElem_cons_zero, List.getElem_cons_succ]))
        (refine wpAnyH_take (i := 17) (v := ?_) rfl (by decide +kernel) (by decide +kernel) (by decide +kernel) (fun _ _ _ h => h) (Or.inl ⟨?_, ?_⟩) hHeld ?_; rotate_left 1; (focus rfl); (focus (intro w9 hSw; go_simp; (try with_reducible rfl); done)); (try simp only [Act.put, List.setIfInBounds_toArray, List.set_cons_zero, List.set_cons_succ, List.getElem_toArray, List.getElem_cons_zero, List.getElem_cons_succ]))
        refine wpAnyH_done (by decide +kernel) ?_ _
        go_wp2_with fail
        go_ret
        exact ⟨rfl, HP9.out.below⟩
end Go.Proofs.YtagaoilgnhdebaaDoor
