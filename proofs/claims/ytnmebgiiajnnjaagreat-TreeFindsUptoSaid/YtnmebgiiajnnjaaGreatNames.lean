/-
  tree.Names, walked: the keys of a map of texts, sorted.
  the map of names: which keys it has, each once. Plain.
-/
import Derived.Test.YtnmebgiiajnnjaaGreatSorts
import Derived.Test.YtnmebgiiajnnjaaGreatIterE
import Derived.Test.YtnmebgiiajnnjaaGreatWalkP
import Derived.Test.YtnmebgiiajnnjaaGreatIter
import Derived.Laws.OwnMore
import Derived.RangeFuncNested
import Derived.RangeFuncBound
import Derived.RangeFuncCalls
import Derived.RangeFuncWrites
import Derived.Maps.OwnIn
import Derived.Deep.AppendLies
import Derived.WideShapes
import Derived.ChangeMaps
namespace Go.Proofs.YtnmebgiiajnnjaaGreat
set_option linter.unusedSimpArgs false
set_option linter.unusedVariables false
open Go.RowKit Go.Maps Go.Shelf Go.Sort
attribute [local go_sem] Oper.semAt_some

theorem und44 : Tryz.prog.underlying 44 = some (.map 9 4) := by kernel_rfl
/-- Is it a name's node? -/
def nmB (t : Nd) : Bool := t.kind == 18 || t.kind == 10
def namesStep (D : DataW Unit) (t : Nd) : DataW Unit := if nmB t then D.put (.string t.text) (.lit (.bool true)) else D
/-- The map of names. -/
def namesD (l : List Nd) : DataW Unit := l.foldl namesStep (DataW.map [])
theorem namesD_snoc (l : List Nd) (t : Nd) : namesD (l ++ [t]) = namesStep (namesD l) t := by simp [namesD]
def headsN {n₀ : Nat} {w0 : World} (pre : List (Come n₀ w0)) : List Nd := pre.map (fun x => x.1.1)
theorem headsN_snoc {n₀ : Nat} {w0 : World} (pre : List (Come n₀ w0)) (x : Come n₀ w0) : headsN (pre ++ [x]) = headsN pre ++ [x.1.1] := by simp [headsN]
theorem headsN_er {n₀ : Nat} {w0 : World} {xs : List (Come n₀ w0)} {l : List (Nd × Nat)} (h : xs.map er = l) : headsN xs = l.map (·.1) := by
  rw [← h, headsN, List.map_map]
  rfl
/-- What is known of the map behind a part of the nodes. -/
def NInv (w : World) (l : List Nd) (W : World) : Prop :=
  W.cell? ⟨w.heap.size + 1 + 1, 0, none⟩ = some (.map (some (w.heap.size + 1))) ∧ (∃ nn, nn ≤ l.length ∧ W.ownsMap Tryz.prog 9 (plainElem Tryz.prog 4) (w.heap.size + 1) nn (namesD l)) ∧ Below w.heap.size w W
def namesPost (l : List Nd) (w : World) (e : Ending) (w' : World) : Prop :=
  ∃ (v : Value) (ss : List (List UInt8)), e = .returned v ∧ ss.Perm (strKeys (namesD l)) ∧ w'.ownsRow w.heap.size 9 1 v ss.length ((ss.mergeSort (fun x y => decide (x ≤ y))).map encStr) ∧ (v = .slice none 0 0 ↔ ss = []) ∧ Below w.heap.size w w'

theorem own_far {w w' : World} {base base' : Nat} {e : TypeId} {size : Nat} {v : Value} {n : Nat} {xs : List Value} (h : w.ownsRow base e size v n xs) (hb : base' ≤ base) (hk : ∀ g, base ≤ g → g < w.heap.size → w'.heap[g]? = w.heap[g]?) : w'.ownsRow base' e size v n xs := by
  refine ⟨h.1, ?_⟩
  rcases h.2 with h0 | ⟨g, cap, cur, hv, hg, hh, hr⟩
  · exact .inl h0
  · exact .inr ⟨g, cap, cur, hv, by omega, (hk g hg (Array.getElem?_eq_some_iff.1 hh).1).trans hh, hr⟩
set_option maxRecDepth 100000 in
set_option maxHeartbeats 8000000 in
theorem names_any (t : Nd) (a : Option Addr) (c : Nat) (w : World) (hN : (walkL 100 t).length ≤ 1048576) (hk : Kids w w.heap.size a t.kids) (hf : Fits t c) :
    Calls Tryz.prog 15 #[.agg #[.int .i64 t.kind, .string ⟨t.text.toArray⟩, .slice a t.kids.length c, .int .i64 t.pos]] w (namesPost (nodesL 100 t) w) := by
  refine callsIn_wide (n := 6).1 ?_
  have h1 : 1 ≤ 6 := by omega
  refine callsIn_of_wp_marks Tryz.func15 rfl trivial ?_ rfl
  simp only [Tryz.ntmps15, List.size_toArray, List.length_cons, List.length_nil, Nat.reduceAdd, Nat.reduceSub, Array.replicate_succ, Array.replicate_zero, List.push_toArray, List.append_toArray, List.nil_append, List.cons_append]
  have hmm := @run_makeMap Tryz.prog
  gi_wp2_with (refine ⟨trivial, ?_⟩; gi_at_call 23; refine (nodes_in Fence.wide _ trivial rfl _ _ _ 100 _).mono ?_; rintro e w' ⟨rfl, rfl⟩)
  obtain ⟨w4, hw4⟩ : ∃ w4, ((((w.alloc (.cells #[.int .i64 t.kind, .string ⟨t.text.toArray⟩, .slice a t.kids.length c, .int .i64 t.pos] 24)).alloc (.map #[] 0)).alloc (.cells #[.map (some (w.heap.size + 1))] 44)).alloc (.cells #[.int .i64 t.kind, .string ⟨t.text.toArray⟩, .slice a t.kids.length c, .int .i64 t.pos] 24)).alloc (.cells #[.int .i64 100] 3) = w4 := ⟨_, rfl⟩
  have hsz : w4.heap.size = w.heap.size + 5 := by rw [← hw4]; simp
  have hb4 : Below w.heap.size w w4 := by rw [← hw4]; exact (((((Below.refl _ w).alloc (Nat.le_refl _) _).alloc (by simp) _).alloc (by simp; omega) _).alloc (by simp; omega) _).alloc (by simp; omega) _
  have f0 : Four w4 (w.heap.size + 1 + 1 + 1) 0 t a c := by rw [← hw4]; refine ⟨?_, ?_, ?_, ?_⟩ <;> simp [go_sem]
  have f1 : w4.cell? ⟨w.heap.size + 1 + 1 + 1 + 1, 0, none⟩ = some (.int .i64 (100 : Nat)) := by rw [← hw4]; simp [go_sem]
  have fm : w4.cell? ⟨w.heap.size + 1 + 1, 0, none⟩ = some (.map (some (w.heap.size + 1))) := by rw [← hw4]; simp [go_sem]
  have o0 : w4.ownsMap Tryz.prog 9 (plainElem Tryz.prog 4) (w.heap.size + 1) 0 (DataW.map (H := Unit) []) := by
    have h := World.ownsMap_made (w.alloc (.cells #[.int .i64 t.kind, .string ⟨t.text.toArray⟩, .slice a t.kids.length c, .int .i64 t.pos] 24)) Tryz.prog 9 (plainElem Tryz.prog (H := Unit) 4)
    have hbl := h.lt
    have e1 : (w.alloc (.cells #[.int .i64 t.kind, .string ⟨t.text.toArray⟩, .slice a t.kids.length c, .int .i64 t.pos] 24)).heap.size = w.heap.size + 1 := by simp
    rw [e1] at h hbl
    obtain ⟨es, clock, hb, F, hs, hD⟩ := h
    refine ⟨es, clock, ?_, F, hs, hD⟩
    rw [← hw4]
    exact ((((Below.refl _ ((w.alloc (.cells #[.int .i64 t.kind, .string ⟨t.text.toArray⟩, .slice a t.kids.length c, .int .i64 t.pos] 24)).alloc (.map #[] 0))).alloc (Nat.le_refl _) _).alloc (by simp) _).alloc (by simp) _ |>.block _ hbl).trans hb
  rw [hw4]
  have hmr : ∀ W, Below w4.heap.size w4 W → Rng w.heap.size (fun (_ : World) b => b = w.heap.size + 1) W := fun W hW b hm => by
    have := hW.size
    subst hm
    exact ⟨by omega, by omega⟩
  refine wpIn_rangeFunc_ownH rfl h1 (gf := 48) (lb := #[.pointer (some ⟨w.heap.size + 1 + 1 + 1, 0, none⟩), .pointer (some ⟨w.heap.size + 1 + 1 + 1 + 1, 0, none⟩)]) rfl trivial (enters_of Tryz.func48 (by kernel_rfl) rfl)
    (nodes1_stops Fence.wide rfl (6 - 1) trivial trivial rfl (w.heap.size + 1 + 1 + 1) (w.heap.size + 1 + 1 + 1 + 1) w.heap.size w (fun _ b => b = w.heap.size + 1) t a c 100 (by omega) w4 hk hf (Sees.below hb4) (by omega) hmr (fun W o b hW hb => hb) f0 f1)
    KB.trans (fun W l o o' hl h hc hw => KB.put (Nat.le_succ _) (by omega) W l o o' hl h hc hw) (Below.refl _ _) (fun _ => rfl)
    (fun pre W => NInv w (headsN pre) W)
    (fun _ _ _ => False)
    (fun s A B row hs hg hr => by
      obtain ⟨q1, ⟨nn, q2, q3⟩, q4⟩ := hs
      exact ⟨cell_kept q1 hg (fun r e => (hr r e).2), ⟨nn, q2, q3.kept hg (fun e => by have := (hr _ e.symm).1; omega)⟩, q4.grown hg q4.size (fun k e => by have := (hr k e).1; omega)⟩)
    (fun _ _ _ _ _ hs _ _ => hs)
    ⟨fm, ⟨0, Nat.le_refl _, o0⟩, hb4⟩
    (fun x a' W => ∃ Bx, (W.cell? ⟨Bx, 0, none⟩ = some (.int .i64 x.1.1.kind) ∧ W.cell? ⟨Bx, 1, none⟩ = some (.string ⟨x.1.1.text.toArray⟩) ∧ W.cell? ⟨Bx, 2, none⟩ = some (.slice (x.1.2.1) x.1.1.kids.length x.1.2.2.1) ∧ W.cell? ⟨Bx, 3, none⟩ = some (.int .i64 x.1.1.pos)) ∧ a' = { tmps := #[.agg #[.int .i64 t.kind, .string ⟨t.text.toArray⟩, .slice a t.kids.length c, .int .i64 t.pos], .pointer (some ⟨w.heap.size, 0, none⟩), .slice none 0 0, .pointer (some ⟨w.heap.size + 1 + 1, 0, none⟩), .pointer (some ⟨Bx, 0, none⟩), .map (some (w.heap.size + 1)), .agg #[.int .i64 t.kind, .string ⟨t.text.toArray⟩, .slice a t.kids.length c, .int .i64 t.pos], .func (.func 48) #[] #[.pointer (some ⟨w.heap.size + 1 + 1 + 1, 0, none⟩), .pointer (some ⟨w.heap.size + 1 + 1 + 1 + 1, 0, none⟩)], .agg #[.int .i64 x.1.1.kind, .string ⟨x.1.1.text.toArray⟩, .slice x.1.2.1 x.1.1.kids.length x.1.2.2.1, .int .i64 x.1.1.pos], .int .i64 x.1.2.2.2, undef, undef, undef, undef, undef, undef, undef, undef, undef, undef, undef, undef, undef, undef], defers := [] })
    (fun x a' s A B row hs hg hr => by
      obtain ⟨Bx, hx, rfl⟩ := hs
      exact ⟨Bx, ⟨cell_kept hx.1 hg (fun r e => (hr r e).2), cell_kept hx.2.1 hg (fun r e => (hr r e).2), cell_kept hx.2.2.1 hg (fun r e => (hr r e).2), cell_kept hx.2.2.2 hg (fun r e => (hr r e).2)⟩, rfl⟩) ?assign ?body ?done ?stop
  case assign =>
    intro l pre x W K hi hK
    obtain ⟨q1, ⟨nn, q2, q3⟩, q4⟩ := hi
    have hlt : w.heap.size + 1 + 1 < W.heap.size := cell_lt q1
    simp [encC]
    gi_wp2
    have hwa : KB w.heap.size (fun (_ : World) b => b = w.heap.size + 1) W (W.alloc (.cells #[.int .i64 x.1.1.kind, .string ⟨x.1.1.text.toArray⟩, .slice x.1.2.1 x.1.1.kids.length x.1.2.2.1, .int .i64 x.1.1.pos] 24)) := KB.alloc _ (fun b h => h)
    exact hK _ _ ((KeepsOthers.alloc _ _).from _) hwa ⟨cell_alloc' _ q1, ⟨nn, q2, q3.kept (World.grownBy_alloc W _ none) (by simp)⟩, q4.alloc q4.size _⟩ ⟨W.heap.size, ⟨by simp [go_sem], by simp [go_sem], by simp [go_sem], by simp [go_sem]⟩, rfl⟩
  case body =>
    rintro l pre x a' W hl hr ⟨q1, ⟨nn, q2, q3⟩, q4⟩ ⟨Bx, ⟨x0, x1, x2, x3⟩, rfl⟩ hlen
    have HOWN := Lib.hid q3
    have HB := Lib.hid q4
    have hlt : w.heap.size + 1 + 1 < W.heap.size := cell_lt q1
    have hnn : nn < maxLen := by
      have : (headsN pre).length = pre.length := by simp [headsN]
      unfold maxLen; omega
    have hkey := key9 x.1.1.text (by have := x.2.2.2.2.2.2.1; unfold maxLen; omega)
    have HQ1 := Lib.hid q1
    have hdone : ∀ w1, W.ownsMap Tryz.prog 9 (plainElem (H := Unit) Tryz.prog 4) (w.heap.size + 1) nn (namesD (headsN pre)) → nmB x.1.1 = true → w1.ownsMap Tryz.prog 9 (plainElem Tryz.prog 4) (w.heap.size + 1) (nn + 1) ((namesD (headsN pre)).put (.string x.1.1.text) (.lit (.bool true))) → W.grownBy w1 (some (w.heap.size + 1)) →
        KeepsFrom w4.heap.size W w1 ∧ KB w.heap.size (fun (_ : World) b => b = w.heap.size + 1) W w1 ∧ NInv w (headsN (pre ++ [x])) w1 := by
      intro w1 _ hnm hown1 hgrow1
      refine ⟨KeepsFrom.of_grownBy hgrow1 (fun j e => by cases e; omega), ⟨hgrow1.size, fun p v hv hm => (hgrow1.cell_far p (cell_lt' hv) (fun e => hm (Option.some.inj e))).trans hv, fun b _ h => h, fun h b hb => ⟨(h b hb).1, by have := (h b hb).2; have := hgrow1.size; omega⟩⟩,
        (hgrow1.cell_far ⟨w.heap.size + 1 + 1, 0, none⟩ hlt (fun e => by simp at e)).trans HQ1.out, ⟨nn + 1, ?_, ?_⟩, HB.out.grown hgrow1 HB.out.size (fun k e => by cases e; omega)⟩
      · rw [headsN_snoc, List.length_append]; simp; exact q2
      · rw [headsN_snoc, namesD_snoc, namesStep, if_pos hnm]; exact hown1
    have HDONE := Lib.hid hdone
    have hno : nmB x.1.1 = false → NInv w (headsN (pre ++ [x])) W := fun hnm => by
      refine ⟨HQ1.out, ⟨nn, ?_, ?_⟩, HB.out⟩
      · rw [headsN_snoc, List.length_append]; omega
      · rw [headsN_snoc, namesD_snoc, namesStep, if_neg (by rw [hnm]; simp)]; exact HOWN.out
    have HNO := Lib.hid hno
    clear hdone hno hr hmr f0 f1 fm hb4 q3 q4 o0
    cases k18 : (x.1.1.kind == 18) with
    | true =>
      have HNM := Lib.hid (show nmB x.1.1 = true by rw [nmB, k18]; rfl)
      have hown := HOWN.out
      gi_wp2_with (gi_at_mapUpdate; refine wpListIn_mapUpdate_own _ rfl _ _ _ 44 rfl 9 4 law9 und44 _ (w.heap.size + 1) nn _ rfl HOWN.out hnn _ _ _ rfl rfl hkey _ [] (plainElem_bool Tryz.underlying4 true) ?_; intro w1 hown1 hgrow1)
      exact HDONE.out w1 HOWN.out HNM.out hown1 hgrow1
    | false =>
      cases k10 : (x.1.1.kind == 10) with
      | true =>
        have HNM := Lib.hid (show nmB x.1.1 = true by rw [nmB, k18, k10]; rfl)
        gi_wp2_with (gi_at_mapUpdate; refine wpListIn_mapUpdate_own _ rfl _ _ _ 44 rfl 9 4 law9 und44 _ (w.heap.size + 1) nn _ rfl HOWN.out hnn _ _ _ rfl rfl hkey _ [] (plainElem_bool Tryz.underlying4 true) ?_; intro w1 hown1 hgrow1)
        exact HDONE.out w1 HOWN.out HNM.out hown1 hgrow1
      | false =>
        have HNM := Lib.hid (show nmB x.1.1 = false by rw [nmB, k18, k10]; rfl)
        gi_wp2
        exact ⟨KeepsFrom.refl _ _, KB.refl _ _ _, HNO.out HNM.out⟩
  case done =>
    rintro D xs W hD hx ⟨q1, ⟨nn, q2, q3⟩, q4⟩ hK
    have hlt : w.heap.size + 1 + 1 < W.heap.size := cell_lt q1
    have hh : headsN xs = nodesL 100 t := headsN_er hx
    rw [hh] at q2 q3
    have hfK : Fence.wide.fn 27 := trivial
    have hfS : Fence.wide.fn 26 := trivial
    have hln : (nodesL 100 t).length ≤ 1048576 := by rw [nodesL, List.length_map]; exact hN
    have hsz2 := q3.size_le
    have hmax : Maps.size (namesD (nodesL 100 t)) ≤ maxLen := by unfold maxLen; omega
    have hbytes : Maps.size (namesD (nodesL 100 t)) * 16 ≤ 140737488355328 := by omega
    have HO := Lib.hid q3
    have H4 := Lib.hid q4
    clear hmr f0 f1 fm hb4 q3 q4 o0
    gi_wp2_with (first
      | (gi_at_call 27; refine (Tryz.maps_Keys_27 _ _).mono ?_; rintro e w' ⟨rfl, rfl⟩)
      | (gi_at_call 26; refine (Tryz.slices_Sorted_keys_26_27 (w.heap.size + 1) nn (namesD (nodesL 100 t)) _ W HO.out hmax hbytes).mono ?_; rintro e w' ⟨v, ss, rfl, hS, hrow, hnil, hb⟩))
    have hDl : D < W.heap.size := (Array.getElem?_eq_some_iff.1 hK).1
    have hK2 : w'.heap[D]? = some (.deferred (some [])) := (hb.block D (by simp; omega)).trans (((Below.refl W.heap.size W).alloc (Nat.le_refl _) _ |>.block D hDl).trans hK)
    refine ⟨by simp, .inl ⟨_, _, rfl, run_takeDeferred hK2, ?_⟩⟩
    refine ⟨_, results_tmp rfl _ _ _, ?_⟩
    have hW : Below W.heap.size W w' := ((Below.refl W.heap.size W).alloc (Nat.le_refl _) _).trans (hb.mono (by simp))
    have hbw : Below w.heap.size w w' := H4.out.trans (hW.mono H4.out.size)
    have hbk := belowK_b (w := w) (Nat.le_refl _) w' D _ (.deferred none) (by omega) hK2 rfl rfl
    refine ⟨v, ss, rfl, hS, own_far hrow (by have := H4.out.size; simp; omega) (fun g hg hgl => (grownBy_putObj' w' D (.deferred none)).block g hgl (fun e => by
      have e' : g = D := Option.some.inj e
      simp at hg
      omega)), hnil, hbw.trans hbk⟩
  case stop =>
    rintro D c pre W _ _ h _
    exact h.elim
end Go.Proofs.YtnmebgiiajnnjaaGreat

namespace Go.Proofs.YtnmebgiiajnnjaaGreat
set_option linter.unusedSimpArgs false
set_option linter.unusedVariables false
open Go.RowKit Go.Maps Go.Sort

theorem put_keys (s : List UInt8) (d : DataW Unit) (es : List (Lit × DataW Unit)) (hk : ∀ p, p ∈ es → ∃ b, p.1 = .string b) :
    ∃ es' : List (Lit × DataW Unit), (DataW.map es).put (.string s) d = .map es' ∧ (es'.map fun p => strOf p.1).Perm (s :: (es.map fun p => strOf p.1).filter (fun x => !(x == s))) ∧ ∀ p, p ∈ es' → ∃ b, p.1 = .string b := by
  refine ⟨DataW.insert (.string s, d) (es.filter fun p => !p.1.sameKey (.string s)), rfl, ?_, fun p hp => ?_⟩
  · refine ((Go.WideShapes.insert_perm _ _).map _).trans ?_
    rw [List.map_cons]
    refine List.Perm.cons _ ?_
    rw [List.filter_map]
    have : ∀ l : List (Lit × DataW Unit), (∀ p, p ∈ l → ∃ b, p.1 = .string b) → (l.filter fun p => !p.1.sameKey (.string s)) = l.filter ((fun x => !(x == s)) ∘ fun p => strOf p.1) := by
      intro l hl
      apply List.filter_congr
      intro p hp
      obtain ⟨b, hb⟩ := hl p hp
      simp [hb, Lit.sameKey, strOf]
    rw [this es hk]
  · rcases List.mem_cons.1 ((Go.WideShapes.insert_perm _ _).mem_iff.1 hp) with rfl | h
    · exact ⟨s, rfl⟩
    · exact hk p (List.mem_filter.1 h).1

/-- The keys of the map of names. -/
structure NamesOk (l : List Nd) (es : List (Lit × DataW Unit)) : Prop where
  eq : namesD l = .map es
  str : ∀ p, p ∈ es → ∃ b, p.1 = .string b
  nodup : (es.map fun p => strOf p.1).Nodup
  mem : ∀ x, x ∈ (es.map fun p => strOf p.1) ↔ ∃ t, t ∈ l ∧ nmB t = true ∧ t.text = x
theorem snoc_ind {α : Type} {P : List α → Prop} (h0 : P []) (h1 : ∀ l x, P l → P (l ++ [x])) (l : List α) : P l := by
  have : ∀ r : List α, P r.reverse := fun r => by
    induction r with
    | nil => exact h0
    | cons x r ih => rw [List.reverse_cons]; exact h1 _ _ ih
  have := this l.reverse
  rwa [List.reverse_reverse] at this
theorem names_ok (l : List Nd) : ∃ es, NamesOk l es := by
  refine snoc_ind (P := fun l => ∃ es, NamesOk l es) ?_ ?_ l
  · exact ⟨[], rfl, (fun p hp => by cases hp), by simp, fun x => by simp⟩
  · rintro l t ⟨es, h1, h2, h3, h4⟩
    rw [show (∃ es, NamesOk (l ++ [t]) es) = ∃ es, NamesOk (l ++ [t]) es from rfl]
    cases hb : nmB t with
    | false =>
      refine ⟨es, by rw [namesD_snoc, namesStep, hb]; exact h1, h2, h3, fun x => ?_⟩
      rw [h4]
      constructor
      · rintro ⟨u, hu, h⟩; exact ⟨u, by simp [hu], h⟩
      · rintro ⟨u, hu, h, hx⟩
        rcases List.mem_append.1 hu with hu | hu
        · exact ⟨u, hu, h, hx⟩
        · rw [List.mem_singleton.1 hu, hb] at h; cases h
    | true =>
      obtain ⟨es', e1, e2, e3⟩ := put_keys t.text (.lit (.bool true)) es h2
      refine ⟨es', by rw [namesD_snoc, namesStep, hb, if_pos rfl, h1]; exact e1, e3, ?_, fun x => ?_⟩
      · rw [e2.nodup_iff, List.nodup_cons]
        exact ⟨by simp, h3.filter _⟩
      · rw [e2.mem_iff, List.mem_cons, List.mem_filter, h4]
        constructor
        · rintro (rfl | ⟨⟨u, hu, h, hx⟩, _⟩)
          · exact ⟨t, by simp, hb, rfl⟩
          · exact ⟨u, by simp [hu], h, hx⟩
        · rintro ⟨u, hu, h, hx⟩
          by_cases hxt : x = t.text
          · exact .inl hxt
          · rcases List.mem_append.1 hu with hu | hu
            · exact .inr ⟨⟨u, hu, h, hx⟩, by simpa using hxt⟩
            · rw [List.mem_singleton.1 hu] at hx; exact absurd hx.symm hxt
/-- The names, in order, each once: the texts of the names' nodes. -/
theorem names_sorted {l : List Nd} {ss : List (List UInt8)} (h : ss.Perm (strKeys (namesD l))) :
    (∀ x, x ∈ ss.mergeSort (fun x y => decide (x ≤ y)) ↔ ∃ t, t ∈ l ∧ nmB t = true ∧ t.text = x) ∧ (ss.mergeSort (fun x y => decide (x ≤ y))).Pairwise (fun x y => x < y) := by
  obtain ⟨es, h1, h2, h3, h4⟩ := names_ok l
  have hk : strKeys (namesD l) = es.map fun p => strOf p.1 := by rw [h1]; rfl
  rw [hk] at h
  have hp := (List.mergeSort_perm ss (fun x y => decide (x ≤ y))).trans h
  refine ⟨fun x => by rw [hp.mem_iff]; exact h4 x, ?_⟩
  have hn : (ss.mergeSort (fun x y => decide (x ≤ y))).Nodup := hp.nodup_iff.2 h3
  have hs : (ss.mergeSort (fun x y => decide (x ≤ y))).Pairwise (fun x y => decide (x ≤ y) = true) :=
    List.pairwise_mergeSort (le := fun x y : List UInt8 => decide (x ≤ y)) (fun a b c h1 h2 => decide_eq_true (List.le_trans (of_decide_eq_true h1) (of_decide_eq_true h2))) (fun a b => by
      rcases List.le_total a b with h | h
      · simp [h]
      · simp [h]) ss
  refine (hs.and hn).imp ?_
  rintro a b ⟨h1, h2⟩
  have h1 := of_decide_eq_true h1
  rcases List.le_iff_lt_or_eq.1 h1 with h | h
  · exact h
  · exact absurd h h2
end Go.Proofs.YtnmebgiiajnnjaaGreat
