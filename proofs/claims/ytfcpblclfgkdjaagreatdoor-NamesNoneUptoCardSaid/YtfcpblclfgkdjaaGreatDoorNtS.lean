/-
  What is in a right node has the kids that names reads.
-/
import Derived.Test.YtfcpblclfgkdjaaGreatDoorZA
namespace Go.Proofs.YtfcpblclfgkdjaaGreatDoor
set_option linter.unusedSimpArgs false
set_option linter.unusedVariables false
open Go.RowKit

/-- All that is in a node is so. -/
def InAll (G : Nd → Prop) (t : Nd) : Prop := ∀ d x, x ∈ nodesL d t → G x
theorem InAll.mk {G : Nd → Prop} {t : Nd} (h : G t) (hk : ∀ k, k ∈ t.kids → InAll G k) : InAll G t := fun d x hx => by
  cases d with
  | zero => simp [nodesL_zero] at hx
  | succ d =>
    rw [nodesL_succ] at hx
    rcases List.mem_cons.1 hx with rfl | hx
    · exact h
    · obtain ⟨k, hkm, hxk⟩ := List.mem_flatMap.1 hx
      exact hk k hkm d x hxk

theorem kids1_mem {f : Nd → Bool} {l : List Nd} (h : kids1 f l = true) : ∀ k, k ∈ l → f k = true := by
  match l, h with
  | [a], h => intro k hk; obtain rfl := List.mem_singleton.1 hk; exact h
theorem kids2_get {f g : Nd → Bool} {l : List Nd} (h : kids2 f g l = true) : ∃ a b, l = [a, b] ∧ f a = true ∧ g b = true := by
  match l, h with
  | [a, b], h => exact ⟨a, b, rfl, by simpa [kids2] using h⟩
theorem kids3_get {f g e : Nd → Bool} {l : List Nd} (h : kids3 f g e l = true) : ∃ a b c, l = [a, b, c] ∧ f a = true ∧ g b = true ∧ e c = true := by
  match l, h with
  | [a, b, c], h => exact ⟨a, b, c, rfl, by simpa [kids3] using h⟩
theorem kids4_get {f g e i : Nd → Bool} {l : List Nd} (h : kids4 f g e i l = true) : ∃ a b c d, l = [a, b, c, d] ∧ f a = true ∧ g b = true ∧ e c = true ∧ i d = true := by
  match l, h with
  | [a, b, c, d], h => exact ⟨a, b, c, d, rfl, by simpa [kids4] using h⟩
theorem kids0_nil {l : List Nd} (h : kids0 l = true) : l = [] := by
  match l, h with
  | [], _ => rfl

section
variable {G : Nd → Prop} (hG : ∀ t : Nd, t.kind ≠ 25 → t.kind ≠ 31 → t.kind ≠ 32 → G t)
include hG
theorem in_kind {t : Nd} {K : Int} (h : t.kind = K) (h1 : K ≠ 25) (h2 : K ≠ 31) (h3 : K ≠ 32) (hk : ∀ k, k ∈ t.kids → InAll G k) : InAll G t := InAll.mk (hG t (by rw [h]; exact h1) (by rw [h]; exact h2) (by rw [h]; exact h3)) hk
theorem in_empty {t : Nd} (h : emptyB t = true) : InAll G t := by
  simp only [emptyB, Bool.and_eq_true, beq_iff_eq, List.isEmpty_iff] at h
  exact in_kind hG h.1 (by decide) (by decide) (by decide) (fun k hk => by rw [h.2.2] at hk; cases hk)
theorem in_of {t : Nd} {K : Int} {ks : List Nd → Bool} (h : ofB K ks t = true) (h1 : K ≠ 25) (h2 : K ≠ 31) (h3 : K ≠ 32) (hk : ks t.kids = true → ∀ k, k ∈ t.kids → InAll G k) : InAll G t := by
  simp only [ofB, Bool.and_eq_true, beq_iff_eq] at h
  exact in_kind hG h.1 h1 h2 h3 (hk h.2.2)
theorem in_sig {ty : Nd → Bool} {so : List UInt8 → Bool} (hty : ∀ k, ty k = true → InAll G k) {t : Nd} (h : sigB ty so t = true) : InAll G t := by
  refine in_of hG h (by decide) (by decide) (by decide) (fun hk k hkm => ?_)
  obtain ⟨a, b, e, ha, hb⟩ := kids2_get hk
  rw [e] at hkm
  simp only [List.mem_cons, List.not_mem_nil, or_false] at hkm
  rcases hkm with rfl | rfl
  · simp only [Bool.and_eq_true, beq_iff_eq] at ha
    refine in_kind hG ha.1 (by decide) (by decide) (by decide) (fun q hq => ?_)
    have := List.all_eq_true.1 ha.2.2 q hq
    simp only [paramB, Bool.and_eq_true, beq_iff_eq] at this
    exact in_kind hG this.2.1 (by decide) (by decide) (by decide) (fun r hr => hty r (kids1_mem this.2.2 r hr))
  · rw [Bool.or_eq_true] at hb
    rcases hb with hb | hb
    · exact in_empty hG hb
    · exact hty _ hb
end

/-- Each question that answers yes says so of all that is in the node. -/
structure Sb (p : Ps) (M : Nd → Prop) : Prop where
  ty : ∀ t, p.ty t = true → M t
  sg : ∀ t, p.sg t = true → M t
  tm : ∀ t, p.tm t = true → M t
  it : ∀ t, p.it t = true → M t
  fl : ∀ t, p.fl t = true → M t
  ss : ∀ t, p.ss t = true → M t
  pr : ∀ t, p.pr t = true → M t
  va : ∀ t, p.va t = true → M t
  ex : ∀ t, p.ex t = true → M t
  inc : ∀ t, p.inc t = true → M t
  se : ∀ t, p.se t = true → M t
  cal : ∀ t, p.cal t = true → M t
  sh : ∀ t, p.sh t = true → M t
  bl : ∀ t, p.bl t = true → M t
  iff_ : ∀ t, p.iff_ t = true → M t
  st : ∀ t, p.st t = true → M t
  dc : ∀ t, p.dc t = true → M t
  sgk : ∀ t, p.sg t = true → ∃ x r, t.kids = x :: r

/-- What names reads of a node's kids. -/
def Loc (t : Nd) : Prop := (t.kind = 25 → ∃ s b x r, t.kids = [s, b] ∧ s.kids = x :: r) ∧ (t.kind = 31 → ∃ x q r, t.kids = x :: q :: r) ∧ (t.kind = 32 → ∃ x b, t.kids = [x, b])
theorem Loc.other (t : Nd) (h1 : t.kind ≠ 25) (h2 : t.kind ≠ 31) (h3 : t.kind ≠ 32) : Loc t := ⟨fun h => absurd h h1, fun h => absurd h h2, fun h => absurd h h3⟩

set_option maxHeartbeats 4000000 in
theorem sb_step (p : Ps) (h : Sb p (InAll Loc)) : Sb (psStep p) (InAll Loc) := by
  have hG := Loc.other
  have two : ∀ {f g : Nd → Bool} {t : Nd}, (∀ k, f k = true → InAll Loc k) → (∀ k, g k = true → InAll Loc k) → kids2 f g t.kids = true → ∀ k, k ∈ t.kids → InAll Loc k := fun hf hg hk k hkm => by
    obtain ⟨a, b, e, ha, hb⟩ := kids2_get hk
    rw [e] at hkm
    simp only [List.mem_cons, List.not_mem_nil, or_false] at hkm
    rcases hkm with rfl | rfl
    · exact hf _ ha
    · exact hg _ hb
  have ty : ∀ t, (psStep p).ty t = true → InAll Loc t := fun t ht => by
    simp only [psStep, typeB] at ht
    split at ht
    · rename_i hk
      rw [Bool.and_eq_true] at ht
      exact in_kind hG hk (by decide) (by decide) (by decide) (fun k hkm => h.ty k (List.all_eq_true.1 ht.2 k hkm))
    split at ht
    · exact in_of hG ht (by decide) (by decide) (by decide) (fun hk k hkm => h.ty k (kids1_mem hk k hkm))
    split at ht
    · exact in_sig hG h.ty ht
    · cases ht
  have va : ∀ t, varB p.ty p.ex t = true → InAll Loc t := fun t ht => by
    simp only [varB, Bool.and_eq_true, beq_iff_eq] at ht
    refine in_kind hG ht.2.1 (by decide) (by decide) (by decide) ?_
    have hv := ht.2.2
    generalize t.kids = l at hv
    match l, hv with
    | [x, y], hv =>
      simp only [varKids, Bool.and_eq_true, Bool.or_eq_true] at hv
      intro k hkm
      simp only [List.mem_cons, List.not_mem_nil, or_false] at hkm
      rcases hkm with rfl | rfl
      · exact hv.1.1.elim (in_empty hG) (h.ty _)
      · exact hv.1.2.elim (in_empty hG) (h.ex _)
  have bl : ∀ t, rowB 36 p.st t = true → InAll Loc t := fun t ht => by
    simp only [rowB, Bool.and_eq_true, beq_iff_eq] at ht
    have hall := List.all_eq_true.1 ht.2.2
    exact in_kind hG ht.1 (by decide) (by decide) (by decide) (fun k hk => h.st k (hall k hk))
  have inc : ∀ t, incB p.ex t = true → InAll Loc t := fun t ht => by
    simp only [incB, Bool.and_eq_true, beq_iff_eq] at ht
    exact in_kind hG ht.2.1 (by decide) (by decide) (by decide) (fun k hk => h.ex k (kids1_mem ht.2.2 k hk))
  have sh : ∀ t, shB p.ex t = true → InAll Loc t := fun t ht => by
    simp only [shB, Bool.and_eq_true, beq_iff_eq] at ht
    exact in_kind hG ht.2.1 (by decide) (by decide) (by decide) (fun k hk => h.ex k (kids1_mem ht.2.2 k hk))
  have se : ∀ t, ofB 27 (kids2 p.ex p.ex) t = true → InAll Loc t := fun t ht => in_of hG ht (by decide) (by decide) (by decide) (two h.ex h.ex)
  have cal : ∀ t, ofB 29 (kids1 (kindB 21 p.ex)) t = true → InAll Loc t := fun t ht => in_of hG ht (by decide) (by decide) (by decide) (fun hk k hkm => h.ex k (by
    have := kids1_mem hk k hkm
    simp only [kindB, Bool.and_eq_true] at this
    exact this.2))
  have iff_ : ∀ t, ifB p.ex p.bl p.iff_ t = true → InAll Loc t := fun t ht => in_of hG ht (by decide) (by decide) (by decide) (fun hk k hkm => by
    obtain ⟨a, b, c, e, ha, hb, hc⟩ := kids3_get hk
    rw [e] at hkm
    simp only [List.mem_cons, List.not_mem_nil, or_false] at hkm
    simp only [Bool.or_eq_true] at hc
    rcases hkm with rfl | rfl | rfl
    · exact h.ex _ ha
    · exact h.bl _ hb
    · exact hc.elim (fun hc => hc.elim (in_empty hG) (h.bl _)) (h.iff_ _))
  have one : ∀ {f : Nd → Bool} {t : Nd}, (∀ k, f k = true → InAll Loc k) → kids1 f t.kids = true → ∀ k, k ∈ t.kids → InAll Loc k := fun hf hk k hkm => hf k (kids1_mem hk k hkm)
  have nil : ∀ {t : Nd}, kids0 t.kids = true → ∀ k, k ∈ t.kids → InAll Loc k := fun hk k hkm => by rw [kids0_nil hk] at hkm; cases hkm
  exact {
    ty := ty
    sg := fun t ht => in_sig hG h.ty ht
    tm := fun t ht => by
      simp only [psStep, termB, Bool.and_eq_true, beq_iff_eq] at ht
      exact in_kind hG ht.2.1 (by decide) (by decide) (by decide) (one h.ty ht.2.2)
    it := fun t ht => by
      simp only [psStep, interB, Bool.and_eq_true, beq_iff_eq] at ht
      exact in_kind hG ht.1 (by decide) (by decide) (by decide) (fun k hk => h.tm k (List.all_eq_true.1 ht.2.2.2 k hk))
    fl := fun t ht => by
      simp only [psStep, fieldB, Bool.and_eq_true, beq_iff_eq] at ht
      exact in_kind hG ht.2.1 (by decide) (by decide) (by decide) (one h.ty ht.2.2)
    ss := fun t ht => by
      simp only [psStep, rowB, Bool.and_eq_true, beq_iff_eq] at ht
      exact in_kind hG ht.1 (by decide) (by decide) (by decide) (fun k hk => h.fl k (List.all_eq_true.1 ht.2.2 k hk))
    pr := fun t ht => by
      simp only [psStep, listB, Bool.and_eq_true, beq_iff_eq] at ht
      refine in_kind hG ht.1 (by decide) (by decide) (by decide) (fun k hk => ?_)
      have hk' := List.all_eq_true.1 ht.2.2 k hk
      simp only [tparamB, Bool.and_eq_true, beq_iff_eq] at hk'
      refine in_kind hG hk'.2.1 (by decide) (by decide) (by decide) (one (fun r hr => ?_) hk'.2.2)
      simp only [Bool.or_eq_true, kindB, Bool.and_eq_true] at hr
      exact hr.elim (fun hr => h.ty r hr.2) (h.it r)
    va := va
    ex := fun t ht => by
      simp only [psStep, exprB] at ht
      split at ht
      · rename_i hk; rw [Bool.and_eq_true] at ht; exact in_kind hG hk (by decide) (by decide) (by decide) (nil ht.2)
      split at ht
      · rename_i hk; rw [Bool.and_eq_true] at ht; exact in_kind hG hk (by decide) (by decide) (by decide) (nil ht.2)
      split at ht
      · rename_i hk; rw [Bool.and_eq_true] at ht; exact in_kind hG hk (by decide) (by decide) (by decide) (nil ht.2)
      split at ht
      · rename_i hk; rw [Bool.and_eq_true] at ht; exact in_kind hG hk (by decide) (by decide) (by decide) (one h.ex ht.2)
      split at ht
      · rename_i hk
        rw [Bool.and_eq_true] at ht
        exact in_kind hG hk (by decide) (by decide) (by decide) (two h.ex h.ex ht.2)
      split at ht
      · rename_i hk
        simp only [callB, Bool.and_eq_true] at ht
        exact in_kind hG hk (by decide) (by decide) (by decide) (fun k hkm => h.ex k (List.all_eq_true.1 ht.2.2 k hkm))
      split at ht
      · rename_i hk
        rw [Bool.and_eq_true] at ht
        refine in_kind hG hk (by decide) (by decide) (by decide) ?_
        have hv := ht.2
        generalize t.kids = l at hv
        match l, hv with
        | x :: y :: r, hv =>
          simp only [indexKids, Bool.and_eq_true] at hv
          intro k hkm
          rcases List.mem_cons.1 hkm with rfl | hkm
          · exact h.ex _ hv.1
          · have := List.all_eq_true.1 hv.2 k hkm
            simp only [partB, Bool.or_eq_true, Bool.and_eq_true] at this
            exact this.elim (h.ex k) (fun e => h.ty k e.2)
      split at ht
      · rename_i hk; rw [Bool.and_eq_true] at ht; exact in_kind hG hk (by decide) (by decide) (by decide) (one h.ex ht.2)
      split at ht
      · rename_i hk
        rw [Bool.and_eq_true] at ht
        refine in_kind hG hk (by decide) (by decide) (by decide) ?_
        have hv := ht.2
        generalize t.kids = l at hv
        match l, hv with
        | x :: r, hv =>
          simp only [litKids, Bool.and_eq_true] at hv
          intro k hkm
          rcases List.mem_cons.1 hkm with rfl | hkm
          · exact h.ty _ hv.2.1
          · exact h.ex k (List.all_eq_true.1 hv.2.2 k hkm)
      · simp only [ofB, Bool.and_eq_true, beq_iff_eq] at ht
        obtain ⟨a, b, e, ha, hb⟩ := kids2_get ht.2.2
        obtain ⟨x, r, er⟩ := h.sgk a ha
        exact InAll.mk ⟨fun _ => ⟨a, b, x, r, e, er⟩, (fun e => by rw [ht.1] at e; cases e), (fun e => by rw [ht.1] at e; cases e)⟩ (two h.sg h.bl ht.2.2)
    inc := inc
    se := se
    cal := cal
    sh := sh
    bl := bl
    iff_ := iff_
    st := fun t ht => by
      simp only [psStep, stmtB] at ht
      split at ht
      · exact va t ht
      split at ht
      · exact sh t ht
      split at ht
      · exact se t ht
      split at ht
      · exact inc t ht
      split at ht
      · exact cal t ht
      split at ht
      · exact iff_ t ht
      split at ht
      · simp only [forB, ofB, Bool.and_eq_true, beq_iff_eq] at ht
        obtain ⟨a, b, c, d, e, ha, hb, hc, hd⟩ := kids4_get ht.2.2
        refine InAll.mk ⟨(fun e => by rw [ht.1] at e; cases e), fun _ => ⟨_, _, _, e⟩, (fun e => by rw [ht.1] at e; cases e)⟩ (fun k hkm => ?_)
        rw [e] at hkm
        simp only [List.mem_cons, List.not_mem_nil, or_false] at hkm
        simp only [Bool.or_eq_true] at ha hb hc
        rcases hkm with rfl | rfl | rfl | rfl
        · exact ha.elim (fun e => e.elim (in_empty hG) (h.sh _)) (fun e => e.elim (h.se _) (h.inc _))
        · exact hb.elim (in_empty hG) (h.ex _)
        · exact hc.elim (fun e => e.elim (in_empty hG) (h.se _)) (fun e => e.elim (h.inc _) (h.cal _))
        · exact h.bl _ hd
      split at ht
      · rename_i hk
        rw [Bool.and_eq_true] at ht
        obtain ⟨a, b, e, -, -⟩ := kids2_get ht.2
        exact InAll.mk ⟨(fun e => by rw [hk] at e; cases e), (fun e => by rw [hk] at e; cases e), fun _ => ⟨a, b, e⟩⟩ (two h.ex h.bl ht.2)
      split at ht
      · exact in_of hG ht (by decide) (by decide) (by decide) (one (fun k hk => by
          rw [Bool.or_eq_true] at hk
          exact hk.elim (in_empty hG) (h.ex k)))
      split at ht
      · rename_i hk; rw [Bool.and_eq_true] at ht; exact in_kind hG hk (by decide) (by decide) (by decide) (nil ht.2)
      split at ht
      · rename_i hk; rw [Bool.and_eq_true] at ht; exact in_kind hG hk (by decide) (by decide) (by decide) (nil ht.2)
      · exact bl t ht
    dc := fun t ht => by
      simp only [psStep, declB] at ht
      split at ht
      · rename_i hk
        rw [Bool.and_eq_true] at ht
        obtain ⟨a, b, c, e, ha, hb, hc⟩ := kids3_get ht.2
        refine in_kind hG hk (by decide) (by decide) (by decide) (fun k hkm => ?_)
        rw [e] at hkm
        simp only [List.mem_cons, List.not_mem_nil, or_false] at hkm
        rcases hkm with rfl | rfl | rfl
        · exact h.pr _ ha
        · exact h.sg _ hb
        · exact h.bl _ hc
      split at ht
      · rename_i hk
        simp only [typeDeclB, Bool.and_eq_true] at ht
        refine in_kind hG hk (by decide) (by decide) (by decide) (two h.pr (fun k hk => ?_) ht.2)
        simp only [Bool.or_eq_true] at hk
        exact hk.elim (fun e => e.elim (h.ty k) (h.ss k)) (h.it k)
      split at ht
      · rename_i hk; rw [Bool.and_eq_true] at ht; exact in_kind hG hk (by decide) (by decide) (by decide) (two h.pr h.ty ht.2)
      · exact va t ht
    sgk := fun t ht => by
      simp only [psStep, sigB, ofB, Bool.and_eq_true, beq_iff_eq] at ht
      obtain ⟨a, b, e, -, -⟩ := kids2_get ht.2.2
      exact ⟨a, [b], e⟩ }
theorem sb_all : ∀ n, Sb (lv n) (InAll Loc)
  | 0 => by constructor <;> (intro t h; cases h)
  | n + 1 => sb_step (lv n) (sb_all n)
/-- A right statement, a right expression: all that is in it has these kids; it is not too deep. -/
theorem right_loc {l : List UInt8} (hl : l = sStmt ∨ l = sExpr) {t : Nd} (h : rightB l t = true) : InAll Loc t ∧ t.height ≤ 100 := by
  rcases hl with rfl | rfl
  · simp [rightB, sortFn, soB, sSig, sStmt, sExpr] at h
    exact ⟨(sb_all 100).st t h.2.2, h.1⟩
  · simp [rightB, sortFn, soB, sSig, sStmt, sExpr] at h
    exact ⟨(sb_all 100).ex t h.2.2, h.1⟩
end Go.Proofs.YtfcpblclfgkdjaaGreatDoor
