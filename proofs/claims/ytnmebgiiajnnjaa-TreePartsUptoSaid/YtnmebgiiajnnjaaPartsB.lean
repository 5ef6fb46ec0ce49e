/-
  A higher level says yes wherever a lower one does; so parts of right files are right. Plain.
-/
import Derived.Test.YtnmebgiiajnnjaaPartsA
namespace Go.Proofs.Ytnmebgiiajnnjaa
set_option linter.unusedSimpArgs false
set_option linter.unusedVariables false
open Go.RowKit

abbrev Im (f g : Nd → Bool) : Prop := ∀ k, f k = true → g k = true
theorem kids1_im {f g : Nd → Bool} (h : Im f g) {l : List Nd} (e : kids1 f l = true) : kids1 g l = true := by
  match l, e with
  | [a], e => exact h a e
theorem kids2_im {f g f' g' : Nd → Bool} (h : Im f f') (h' : Im g g') {l : List Nd} (e : kids2 f g l = true) : kids2 f' g' l = true := by
  obtain ⟨a, b, rfl, ha, hb⟩ := kids2_get e
  simp [kids2, h a ha, h' b hb]
theorem kids3_im {f g e f' g' e' : Nd → Bool} (h : Im f f') (h' : Im g g') (h2 : Im e e') {l : List Nd} (x : kids3 f g e l = true) : kids3 f' g' e' l = true := by
  obtain ⟨a, b, c, rfl, ha, hb, hc⟩ := kids3_get x
  simp [kids3, h a ha, h' b hb, h2 c hc]
theorem kids4_im {f g e i f' g' e' i' : Nd → Bool} (h : Im f f') (h' : Im g g') (h2 : Im e e') (h3 : Im i i') {l : List Nd} (x : kids4 f g e i l = true) : kids4 f' g' e' i' l = true := by
  obtain ⟨a, b, c, d, rfl, ha, hb, hc, hd⟩ := kids4_get x
  simp [kids4, h a ha, h' b hb, h2 c hc, h3 d hd]
theorem all_im {f g : Nd → Bool} (h : Im f g) {l : List Nd} (e : l.all f = true) : l.all g = true := List.all_eq_true.2 (fun k hk => h k (List.all_eq_true.1 e k hk))
theorem and_im {a b c : Bool} (h : b = true → c = true) (e : (a && b) = true) : (a && c) = true := by
  rw [Bool.and_eq_true] at e ⊢; exact ⟨e.1, h e.2⟩
theorem or_im {f g f' g' : Nd → Bool} (h : Im f f') (h' : Im g g') : Im (fun k => f k || g k) (fun k => f' k || g' k) := fun k e => by
  simp only [Bool.or_eq_true] at e ⊢; exact e.imp (h k) (h' k)
theorem or_im' {f f' : Nd → Bool} {c : Nd → Bool} (h : Im f f') : Im (fun k => c k || f k) (fun k => c k || f' k) := fun k e => by
  simp only [Bool.or_eq_true] at e ⊢; exact e.imp id (h k)
theorem of_im {K : Int} {ks ks' : List Nd → Bool} (h : ∀ l, ks l = true → ks' l = true) : Im (ofB K ks) (ofB K ks') := fun t e => by
  simp only [ofB, Bool.and_eq_true] at e ⊢; exact ⟨e.1, e.2.1, h _ e.2.2⟩
theorem sig_im {ty ty' : Nd → Bool} {so : List UInt8 → Bool} (h : Im ty ty') : Im (sigB ty so) (sigB ty' so) := fun t e => by
  unfold sigB at e ⊢
  refine of_im (fun l hl => kids2_im (fun k hk => ?_) (or_im' h) hl) t e
  exact and_im (and_im (all_im (fun q hq => by unfold paramB at hq ⊢; exact and_im (and_im (kids1_im h)) hq))) hk

structure Le (p q : Ps) : Prop where
  ty : Im p.ty q.ty
  sg : Im p.sg q.sg
  tm : Im p.tm q.tm
  it : Im p.it q.it
  fl : Im p.fl q.fl
  ss : Im p.ss q.ss
  pr : Im p.pr q.pr
  va : Im p.va q.va
  ex : Im p.ex q.ex
  inc : Im p.inc q.inc
  se : Im p.se q.se
  cal : Im p.cal q.cal
  sh : Im p.sh q.sh
  bl : Im p.bl q.bl
  iff_ : Im p.iff_ q.iff_
  st : Im p.st q.st
  dc : Im p.dc q.dc
theorem Le.refl (p : Ps) : Le p p := ⟨fun _ h => h, fun _ h => h, fun _ h => h, fun _ h => h, fun _ h => h, fun _ h => h, fun _ h => h, fun _ h => h, fun _ h => h, fun _ h => h, fun _ h => h, fun _ h => h, fun _ h => h, fun _ h => h, fun _ h => h, fun _ h => h, fun _ h => h⟩
theorem Le.trans {p q r : Ps} (h : Le p q) (k : Le q r) : Le p r :=
  ⟨fun t e => k.ty t (h.ty t e), fun t e => k.sg t (h.sg t e), fun t e => k.tm t (h.tm t e), fun t e => k.it t (h.it t e), fun t e => k.fl t (h.fl t e), fun t e => k.ss t (h.ss t e), fun t e => k.pr t (h.pr t e), fun t e => k.va t (h.va t e), fun t e => k.ex t (h.ex t e), fun t e => k.inc t (h.inc t e), fun t e => k.se t (h.se t e), fun t e => k.cal t (h.cal t e), fun t e => k.sh t (h.sh t e), fun t e => k.bl t (h.bl t e), fun t e => k.iff_ t (h.iff_ t e), fun t e => k.st t (h.st t e), fun t e => k.dc t (h.dc t e)⟩
theorem le_zero (q : Ps) : Le ps0 q := ⟨(fun _ h => by cases h), (fun _ h => by cases h), (fun _ h => by cases h), (fun _ h => by cases h), (fun _ h => by cases h), (fun _ h => by cases h), (fun _ h => by cases h), (fun _ h => by cases h), (fun _ h => by cases h), (fun _ h => by cases h), (fun _ h => by cases h), (fun _ h => by cases h), (fun _ h => by cases h), (fun _ h => by cases h), (fun _ h => by cases h), (fun _ h => by cases h), (fun _ h => by cases h)⟩

set_option maxHeartbeats 4000000 in
theorem le_step {p q : Ps} (h : Le p q) : Le (psStep p) (psStep q) := by
  have ty : Im (psStep p).ty (psStep q).ty := fun t e => by
    simp only [psStep, typeB] at e ⊢
    split at e
    · rename_i hk; rw [if_pos hk]; exact and_im (all_im h.ty) e
    · rename_i hk; rw [if_neg hk]
      split at e
      · rename_i hk; rw [if_pos hk]; exact of_im (fun l => kids1_im h.ty) t e
      · rename_i hk; rw [if_neg hk]
        split at e
        · rename_i hk; rw [if_pos hk]; exact sig_im h.ty t e
        · cases e
  have va : Im (varB p.ty p.ex) (varB q.ty q.ex) := fun t e => by
    unfold varB at e ⊢
    refine and_im (and_im (fun hv => ?_)) e
    generalize t.kids = l at hv
    match l, hv with
    | [x, y], hv =>
      simp only [varKids, Bool.and_eq_true, Bool.or_eq_true] at hv ⊢
      exact ⟨⟨hv.1.1.imp id (h.ty x), hv.1.2.imp id (h.ex y)⟩, hv.2⟩
  have bl : Im (rowB 36 p.st) (rowB 36 q.st) := fun t e => by unfold rowB at e ⊢; exact and_im (and_im (all_im h.st)) e
  have inc : Im (incB p.ex) (incB q.ex) := fun t e => by unfold incB at e ⊢; exact and_im (and_im (kids1_im h.ex)) e
  have sh : Im (shB p.ex) (shB q.ex) := fun t e => by unfold shB at e ⊢; exact and_im (and_im (kids1_im h.ex)) e
  have se : Im (ofB 27 (kids2 p.ex p.ex)) (ofB 27 (kids2 q.ex q.ex)) := of_im (fun l => kids2_im h.ex h.ex)
  have kd : ∀ {K : Int} {f g : Nd → Bool}, Im f g → Im (kindB K f) (kindB K g) := fun hf t e => by unfold kindB at e ⊢; exact and_im (hf t) e
  have cal : Im (ofB 29 (kids1 (kindB 21 p.ex))) (ofB 29 (kids1 (kindB 21 q.ex))) := of_im (fun l => kids1_im (kd h.ex))
  have iff_ : Im (ifB p.ex p.bl p.iff_) (ifB q.ex q.bl q.iff_) := of_im (fun l => kids3_im h.ex h.bl (or_im (or_im' h.bl) h.iff_))
  exact {
    ty := ty
    sg := fun t e => sig_im h.ty t e
    tm := fun t e => by simp only [psStep, termB] at e ⊢; exact and_im (and_im (kids1_im h.ty)) e
    it := fun t e => by simp only [psStep, interB] at e ⊢; exact and_im (and_im (and_im (all_im h.tm))) e
    fl := fun t e => by simp only [psStep, fieldB] at e ⊢; exact and_im (and_im (kids1_im h.ty)) e
    ss := fun t e => by simp only [psStep, rowB] at e ⊢; exact and_im (and_im (all_im h.fl)) e
    pr := fun t e => by
      simp only [psStep, listB] at e ⊢
      exact and_im (and_im (all_im (fun k hk => by unfold tparamB at hk ⊢; exact and_im (and_im (kids1_im (or_im (kd h.ty) h.it))) hk))) e
    va := va
    ex := fun t e => by
      simp only [psStep, exprB] at e ⊢
      split at e
      · rename_i hk; rw [if_pos hk]; exact e
      rename_i hk; rw [if_neg hk]
      split at e
      · rename_i hk; rw [if_pos hk]; exact e
      rename_i hk; rw [if_neg hk]
      split at e
      · rename_i hk; rw [if_pos hk]; exact e
      rename_i hk; rw [if_neg hk]
      split at e
      · rename_i hk; rw [if_pos hk]; exact and_im (kids1_im h.ex) e
      rename_i hk; rw [if_neg hk]
      split at e
      · rename_i hk; rw [if_pos hk]; exact and_im (kids2_im h.ex h.ex) e
      rename_i hk; rw [if_neg hk]
      split at e
      · rename_i hk; rw [if_pos hk]; unfold callB at e ⊢; exact and_im (and_im (all_im h.ex)) e
      rename_i hk; rw [if_neg hk]
      split at e
      · rename_i hk; rw [if_pos hk]
        refine and_im (fun hv => ?_) e
        generalize t.kids = l at hv
        match l, hv with
        | x :: y :: r, hv =>
          simp only [indexKids, Bool.and_eq_true] at hv ⊢
          exact ⟨h.ex x hv.1, all_im (fun k hk => by
            simp only [partB, Bool.or_eq_true, Bool.and_eq_true] at hk ⊢
            exact hk.imp (h.ex k) (fun z => ⟨z.1, h.ty k z.2⟩)) hv.2⟩
      rename_i hk; rw [if_neg hk]
      split at e
      · rename_i hk; rw [if_pos hk]; exact and_im (kids1_im h.ex) e
      rename_i hk; rw [if_neg hk]
      split at e
      · rename_i hk; rw [if_pos hk]
        refine and_im (fun hv => ?_) e
        generalize t.kids = l at hv
        match l, hv with
        | x :: r, hv =>
          simp only [litKids, Bool.and_eq_true] at hv ⊢
          exact ⟨hv.1, h.ty x hv.2.1, all_im h.ex hv.2.2⟩
      rename_i hk; rw [if_neg hk]
      exact of_im (fun l => kids2_im h.sg h.bl) t e
    inc := inc
    se := se
    cal := cal
    sh := sh
    bl := bl
    iff_ := iff_
    st := fun t e => by
      simp only [psStep, stmtB] at e ⊢
      split at e
      · rename_i hk; rw [if_pos hk]; exact va t e
      rename_i hk; rw [if_neg hk]
      split at e
      · rename_i hk; rw [if_pos hk]; exact sh t e
      rename_i hk; rw [if_neg hk]
      split at e
      · rename_i hk; rw [if_pos hk]; exact se t e
      rename_i hk; rw [if_neg hk]
      split at e
      · rename_i hk; rw [if_pos hk]; exact inc t e
      rename_i hk; rw [if_neg hk]
      split at e
      · rename_i hk; rw [if_pos hk]; exact cal t e
      rename_i hk; rw [if_neg hk]
      split at e
      · rename_i hk; rw [if_pos hk]; exact iff_ t e
      rename_i hk; rw [if_neg hk]
      split at e
      · rename_i hk; rw [if_pos hk]
        exact of_im (fun l => kids4_im (or_im (or_im' h.sh) (or_im h.se h.inc)) (or_im' h.ex) (or_im (or_im' h.se) (or_im h.inc h.cal)) h.bl) t e
      rename_i hk; rw [if_neg hk]
      split at e
      · rename_i hk; rw [if_pos hk]; exact and_im (kids2_im h.ex h.bl) e
      rename_i hk; rw [if_neg hk]
      split at e
      · rename_i hk; rw [if_pos hk]; exact of_im (fun l => kids1_im (or_im' h.ex)) t e
      rename_i hk; rw [if_neg hk]
      split at e
      · rename_i hk; rw [if_pos hk]; exact e
      rename_i hk; rw [if_neg hk]
      split at e
      · rename_i hk; rw [if_pos hk]; exact e
      rename_i hk; rw [if_neg hk]
      exact bl t e
    dc := fun t e => by
      simp only [psStep, declB] at e ⊢
      split at e
      · rename_i hk; rw [if_pos hk]; exact and_im (kids3_im h.pr h.sg h.bl) e
      rename_i hk; rw [if_neg hk]
      split at e
      · rename_i hk; rw [if_pos hk]; unfold typeDeclB at e ⊢; exact and_im (kids2_im h.pr (or_im (or_im h.ty h.ss) h.it)) e
      rename_i hk; rw [if_neg hk]
      split at e
      · rename_i hk; rw [if_pos hk]; exact and_im (kids2_im h.pr h.ty) e
      rename_i hk; rw [if_neg hk]
      exact va t e }

theorem lv_up : ∀ n, Le (lv n) (lv (n + 1))
  | 0 => le_zero _
  | n + 1 => le_step (lv_up n)
theorem lv_le {n m : Nat} (h : n ≤ m) : Le (lv n) (lv m) := by
  induction h with
  | refl => exact Le.refl _
  | step _ ih => exact ih.trans (lv_up _)

theorem sb_lv : ∀ n, n ≤ 100 → Sb (lv n) (InAll (PartsOk (lv 100)))
  | 0, _ => ⟨(fun _ h => by cases h), (fun _ h => by cases h), (fun _ h => by cases h), (fun _ h => by cases h), (fun _ h => by cases h), (fun _ h => by cases h), (fun _ h => by cases h), (fun _ h => by cases h), (fun _ h => by cases h), (fun _ h => by cases h), (fun _ h => by cases h), (fun _ h => by cases h), (fun _ h => by cases h), (fun _ h => by cases h), (fun _ h => by cases h), (fun _ h => by cases h), (fun _ h => by cases h)⟩
  | n + 1, hn => sb_step (lv n) (lv 100) (lv_le (by omega)).st (lv_le (by omega)).ex (sb_lv n (by omega))

theorem file_parts {t : Nd} (h : fileB (lv 100).dc t = true) : InAll (PartsOk (lv 100)) t ∧ ∀ k, k ∈ t.kids → (lv 100).dc k = true := by
  simp only [fileB, Bool.and_eq_true, beq_iff_eq] at h
  have hk := List.all_eq_true.1 h.2.2
  exact ⟨in_kind (PartsOk.other _) h.1 (by decide) (by decide) (fun k hkm => (sb_lv 100 (by omega)).dc k (hk k hkm)), hk⟩

/-- What is in a node is not higher and no more. -/
theorem in_small : ∀ (d : Nat) (t x : Nd), t.height ≤ d → x ∈ nodesL d t → x.height ≤ t.height ∧ (walkL d x).length ≤ (walkL d t).length
  | 0, t, x, h, hx => by simp [nodesL_zero] at hx
  | d + 1, t, x, h, hx => by
    rw [nodesL_succ] at hx
    rcases List.mem_cons.1 hx with rfl | hx
    · exact ⟨Nat.le_refl _, Nat.le_refl _⟩
    · obtain ⟨k, hkm, hxk⟩ := List.mem_flatMap.1 hx
      have hkh := Nd.height_kid hkm
      obtain ⟨h1, h2⟩ := in_small d k x (by omega) hxk
      refine ⟨by omega, ?_⟩
      have e : (walkL (d + 1) x).length = (walkL d x).length := by
        rw [← nodesL_len, ← nodesL_len, nodesL_deep (d + 1) d x (by omega) (by omega)]
      have h3 : (walkL d k).length ≤ (t.kids.flatMap (walkL d)).length := by
        obtain ⟨i, hi, rfl⟩ := List.getElem_of_mem hkm
        have := flat_room t.kids (walkL d) i hi
        omega
      rw [e, walkL, List.length_cons]
      omega
theorem kid_small {t k : Nd} (h : t.height ≤ 100) (hk : k ∈ t.kids) : k.height ≤ 100 ∧ (walkL 100 k).length ≤ (walkL 100 t).length := by
  have hkh := Nd.height_kid hk
  have := in_small 100 t k h (by rw [nodesL_succ]; exact List.mem_cons_of_mem _ (List.mem_flatMap.2 ⟨k, hk, by rw [nodesL_succ]; simp⟩))
  exact ⟨by omega, this.2⟩
end Go.Proofs.Ytnmebgiiajnnjaa
