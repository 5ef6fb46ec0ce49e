/-
  tree.copied of whatever node
  tree.Copy, walked
-/
import Derived.Test.YtnmebgiiajnnjaaCopyC
namespace Go.Proofs.Ytnmebgiiajnnjaa
set_option linter.unusedSimpArgs false
set_option linter.unusedVariables false
open Go.RowKit

theorem node4_len (x : Nd × Option Addr × Nat) : (node4 x).length = 4 := rfl
theorem cells_len : ∀ (L : List (Nd × Option Addr × Nat)), (L.flatMap node4).length = L.length * 4
  | [] => rfl
  | x :: L => by rw [List.flatMap_cons, List.length_append, node4_len, cells_len L, List.length_cons]; omega
theorem cells_get : ∀ (L : List (Nd × Option Addr × Nat)) (j i : Nat) (hj : j < L.length) (hi : i < 4), (L.flatMap node4)[j * 4 + i]? = (node4 L[j])[i]?
  | [], _, _, h, _ => by simp at h
  | x :: L, 0, i, _, hi => by
    rw [List.flatMap_cons, List.getElem?_append_left (by rw [node4_len]; omega)]
    simp
  | x :: L, j + 1, i, hj, hi => by
    rw [List.flatMap_cons, List.getElem?_append_right (by rw [node4_len]; omega), node4_len]
    have e : (j + 1) * 4 + i - 4 = j * 4 + i := by omega
    rw [e, cells_get L j i (by simpa using hj) hi]
    simp

theorem Row.cells {Zo : Nat → Prop} {B : Nat} {l : List Nd} {v : Value} {w : World} (h : Row Zo B l v w) : ∀ g, v.ownBlock = some g → ∃ cs ty, w.heap[g]? = some (.cells cs ty (0, 0)) := by
  intro g hg
  obtain ⟨L, _, hown, _⟩ := h
  rcases hown.2 with ⟨rfl, _⟩ | ⟨g', cap, cur, rfl, _, hh, _⟩
  · cases hg
  · obtain rfl : g' = g := by simpa [Value.ownBlock] using hg
    exact ⟨_, _, hh⟩

/-- The row as kids: the four cells of each, its own kids in a zone without the row's block. -/
theorem Row.four {Zo : Nat → Prop} {B : Nat} {l : List Nd} {v : Value} {w : World} (h : Row Zo B l v w) (hne : l ≠ []) :
    ∃ g cap, v = .slice (some ⟨g, 0, none⟩) l.length cap ∧ B + 2 ≤ g ∧ g < w.heap.size ∧ l.length ≤ cap ∧ cap ≤ 9223372036854775807 ∧ (∀ o, w.frozen? ⟨g, o, none⟩ = false) ∧
      ∀ j (hj : j < l.length), ∃ a' c', Four w g (j * 4) l[j] a' c' ∧ Fits l[j] c' ∧ KidsZ w (fun b => (Zo b ∨ Fresh (B + 2) w b) ∧ b ≠ g) a' l[j].kids := by
  obtain ⟨L, hL, hown, hx⟩ := h
  have hLl : L.length = l.length := by rw [← hL]; simp
  rcases hown.2 with ⟨_, h0⟩ | ⟨g, cap, cur, hv, hb, hg, hcap, hmax, hcs, htk⟩
  · exact absurd (List.eq_nil_of_length_eq_zero h0) hne
  · refine ⟨g, cap, hv, hb, (Array.getElem?_eq_some_iff.1 hg).1, hcap, by simpa [maxLen] using hmax, fun o => by simp [World.frozen?, hg], fun j hj => ?_⟩
    have hjL : j < L.length := by omega
    have hlj : l[j] = L[j].1 := by simp [← hL]
    have hcell : ∀ i, i < 4 → w.cell? ⟨g, j * 4 + i, none⟩ = (node4 L[j])[i]? := by
      intro i hi
      rw [cell_of_row w g (j * 4 + i) cur _ (0, 0) hg, ← cells_get L j i hjL hi, ← htk, List.getElem?_take, if_pos (by omega)]
      simp
    have hm := hx _ (List.getElem_mem hjL)
    refine ⟨L[j].2.1, L[j].2.2, ⟨?_, ?_, ?_, ?_⟩, by rw [hlj]; exact hm.1, ?_⟩
    · have := hcell 0 (by omega); rw [hlj]; first | (exact this) | (simp [node4] at this ⊢; done) | (simp [node4] at this ⊢; exact this)
    · have := hcell 1 (by omega); rw [hlj]; first | (exact this) | (simp [node4] at this ⊢; done) | (simp [node4] at this ⊢; exact this)
    · have := hcell 2 (by omega); rw [hlj]; first | (exact this) | (simp [node4] at this ⊢; done) | (simp [node4] at this ⊢; exact this)
    · have := hcell 3 (by omega); rw [hlj]; first | (exact this) | (simp [node4] at this ⊢; done) | (simp [node4] at this ⊢; exact this)
    · rw [hlj]
      refine hm.2.mono (fun b hb => ⟨hb.1, fun e => hb.2 ?_⟩)
      rw [hv, e]; rfl

theorem copied_of_row {Zo : Nat → Prop} {t : Nd} {l : List Nd} {w : World} {e : Ending} {w' : World} {c : Nat} (hf : Fits t c) (hl : l.length = t.kids.length) (h : CopiedRow Zo t l w e w') : Copied Zo (.mk t.kind t.text l t.pos) w e w' := by
  obtain ⟨hb, v, he, hrow⟩ := h
  obtain ⟨f1, f2, f3, f4, f5, f6, f7, f8⟩ := hf
  cases l with
  | nil =>
    obtain ⟨L, hL, hown, hx⟩ := hrow
    rcases hown.2 with ⟨rfl, _⟩ | ⟨g, cap, cur, rfl, _, _, _, hmax, _⟩
    · exact ⟨hb, none, 0, he, ⟨f1, f2, f3, f4, f5, by simp, by omega, by simp⟩, KidsZ.nil _ _ _⟩
    · exact ⟨hb, _, cap, he, ⟨f1, f2, f3, f4, f5, by simp, by simpa [maxLen] using hmax, by simp⟩, KidsZ.nil _ _ _⟩
  | cons x l =>
    have hcl := hrow.cells
    obtain ⟨g, cap, rfl, hg1, hg2, hcap, hmax, -, h4⟩ := hrow.four (by simp)
    obtain ⟨cs, ty, hgc⟩ := hcl g rfl
    refine ⟨hb, _, cap, he, ⟨f1, f2, f3, f4, f5, hcap, hmax, by simp only [Nd.kids_mk]; omega⟩, ?_⟩
    rw [kidsZ_iff]
    intro j hj
    obtain ⟨a', c', h5, h6, h7⟩ := h4 j hj
    refine ⟨g, 0, a', c', rfl, .inr ⟨by omega, cs, ty, hgc⟩, by rw [Nat.zero_add]; exact h5, h6, h7.mono (fun b hb' => ?_)⟩
    rcases hb'.1 with h1 | h1
    · exact .inl h1
    · exact .inr (h1.low (by have := h1.lo; omega))

/-- copied, of whatever node: to a depth, what at gives put in. -/
theorem copied_any (f : Nd → Option Nd) (g : Nat) (lb : Array Value) (Zo : Nat → Prop) (hen : Enters Try.prog g) :
    ∀ (d : Nat), d ≤ 101 → ∀ (t : Nd) (a : Option Addr) (c : Nat) (w : World), AtSays g lb f Zo w → (KidsZ w Zo a t.kids ∨ t.height ≤ d ∧ ∀ x, f x = none) → (∀ b, Zo b → b < w.heap.size) → Kids w w.heap.size a t.kids → Fits t c →
      Calls Try.prog 23 #[.agg #[.int .i64 t.kind, .string ⟨t.text.toArray⟩, .slice a t.kids.length c, .int .i64 t.pos], .int .i64 d, .func (.func g) #[] lb] w (Copied Zo (copyL f d t) w)
  | 0, _, t, a, c, w, _, hz, hZ, _, hf => by
    rcases hz with hz | ⟨h, _⟩
    · exact copied_zero t a c g lb Zo w hz hZ hf
    · have := Nd.height_eq t; omega
  | d + 1, hd, t, a, c, w, hat, hz, hZ, hk, hf => by
    cases hy : f t with
    | some y =>
      have h := copied_some d (by omega) t y a c g lb f Zo w hen hat hy hk hZ hf
      have e : copyL f (d + 1) t = y := by rw [copyL, hy]
      rw [e]
      exact h
    | none =>
      have e : copyL f (d + 1) t = .mk t.kind t.text (t.kids.map (copyL f d)) t.pos := by rw [copyL, hy]
      have hdone : ∀ Zk : Nat → Prop, KidsZ w Zk a t.kids → (∀ b, Zk b → b < w.heap.size) → (∀ k, k ∈ t.kids → ∀ a' W, KidsZ W Zk a' k.kids → (KidsZ W Zo a' k.kids ∨ k.height ≤ d ∧ ∀ x, f x = none)) →
          Calls Try.prog 23 #[.agg #[.int .i64 t.kind, .string ⟨t.text.toArray⟩, .slice a t.kids.length c, .int .i64 t.pos], .int .i64 ((d : Int) + 1), .func (.func g) #[] lb] w (CopiedRow Zo t (t.kids.map (copyL f d)) w) := fun Zk hkz hZk hko =>
        copied_none d (by omega) t a c g lb f Zo w hen hat hy Zk hkz hZk hZ hf (fun k hkm a' c' W hW hk' hf' =>
          copied_any f g lb Zo hen d (by omega) k a' c' W (hat.on hW) (hko k hkm a' W hk') (fun b hb => Nat.lt_of_lt_of_le (hZ b hb) hW.size) (hk'.kids (fun b hb => Nat.lt_of_lt_of_le (hZk b hb) hW.size)) hf')
      rw [e]
      rcases hz with hz | ⟨hh, hfn⟩
      · exact (hdone Zo hz hZ (fun k _ a' W h => .inl h)).mono (fun e w' hr => copied_of_row hf (by simp) hr)
      · exact (hdone (· < w.heap.size) hk.toZ (fun b h => h) (fun k hkm a' W _ => .inr ⟨by have := Nd.height_kid hkm; omega, hfn⟩)).mono (fun e w' hr => copied_of_row hf (by simp) hr)
end Go.Proofs.Ytnmebgiiajnnjaa

namespace Go.Proofs.Ytnmebgiiajnnjaa
set_option linter.unusedSimpArgs false
set_option linter.unusedVariables false
open Go.RowKit

theorem copy_at (Zo : Nat → Prop) (w : World) : AtSays 25 #[] (fun _ => none) Zo w := fun W x a c _ _ hf => by
  have h := copy1_any x a c W
  have e : (#[.agg #[.int .i64 x.kind, .string ⟨x.text.toArray⟩, .slice a x.kids.length c, .int .i64 x.pos]] ++ #[] : Array Value) = #[.agg #[.int .i64 x.kind, .string ⟨x.text.toArray⟩, .slice a x.kids.length c, .int .i64 x.pos]] := by simp
  rw [e]
  exact h.mono (fun e W' ⟨he, hb⟩ => ⟨hb, x, a, c, he, .inr rfl, hf, .inl rfl⟩)

/-- Copy: a zone of its own where the node is not too deep. -/
theorem copy_call (Zo : Nat → Prop) (t : Nd) (a : Option Addr) (c : Nat) (w : World) (hz : KidsZ w Zo a t.kids ∨ t.height ≤ 100) (hZ : ∀ b, Zo b → b < w.heap.size) (hk : Kids w w.heap.size a t.kids) (hf : Fits t c) :
    Calls Try.prog 23 #[.agg #[.int .i64 t.kind, .string ⟨t.text.toArray⟩, .slice a t.kids.length c, .int .i64 t.pos], .int .i64 100, .func (.func 25) #[] #[]] w (Copied Zo t w) := by
  have h := copied_any (fun _ => none) 25 #[] Zo (enters_of Try.func25 (by kernel_rfl) rfl) 100 (by omega) t a c w (copy_at Zo w) (hz.imp id (fun h => ⟨h, fun _ => rfl⟩)) hZ hk hf
  rw [copyL_none] at h
  exact h

set_option maxHeartbeats 1000000 in
theorem copy_any (Zo : Nat → Prop) (t : Nd) (a : Option Addr) (c : Nat) (w : World) (hz : KidsZ w Zo a t.kids ∨ t.height ≤ 100) (hZ : ∀ b, Zo b → b < w.heap.size) (hk : Kids w w.heap.size a t.kids) (hf : Fits t c) :
    Calls Try.prog 17 #[.agg #[.int .i64 t.kind, .string ⟨t.text.toArray⟩, .slice a t.kids.length c, .int .i64 t.pos]] w (Copied Zo t w) := by
  obtain ⟨wa, hwa⟩ : ∃ wa, (w.alloc (.cells #[.int .i64 t.kind, .string ⟨t.text.toArray⟩, .slice a t.kids.length c, .int .i64 t.pos] 24)).alloc (.cells #[.int .i64 0, .string ⟨#[]⟩, .slice none 0 0, .int .i64 0] 24) = wa := ⟨_, rfl⟩
  have hba : Below w.heap.size w wa := by rw [← hwa]; exact ((Below.refl _ _).alloc (Nat.le_refl _) _).alloc (by simp) _
  have hsz : wa.heap.size = w.heap.size + 2 := by rw [← hwa]; simp
  have hcall := copy_call Zo t a c wa (hz.imp (fun h => h.move (fun _ hb => hb) (fun p _ hp hv => (hba.cell (hZ _ hp)).trans hv)) id) (fun b hb => by have := hZ b hb; omega) (hk.on hba) hf
  have HB := Lib.hid hba
  have n0 : wa.cell? ⟨w.heap.size, 0, none⟩ = some (.int .i64 t.kind) := by rw [← hwa]; simp [go_sem]
  have n1 : wa.cell? ⟨w.heap.size, 1, none⟩ = some (.string ⟨t.text.toArray⟩) := by rw [← hwa]; simp [go_sem]
  have n2 : wa.cell? ⟨w.heap.size, 2, none⟩ = some (.slice a t.kids.length c) := by rw [← hwa]; simp [go_sem]
  have n3 : wa.cell? ⟨w.heap.size, 3, none⟩ = some (.int .i64 t.pos) := by rw [← hwa]; simp [go_sem]
  have hB0 : Boxes t w.heap.size (.slice a t.kids.length c) wa := by
    rw [← hwa]
    refine ⟨⟨?_, ?_, ?_, ?_, ?_⟩, ⟨?_, ?_, ?_, ?_⟩, ?_, ?_, ?_, ?_⟩ <;> simp [go_sem]
  have HC := Lib.hid hcall
  have HZ := Lib.hid hZ
  have HSZ := Lib.hid hsz
  have HX := Lib.hid hB0
  clear hcall hba hk hf hZ hsz hB0 hz
  go_enter Try.func17, Try.ntmps17
  go_wp2_with fail
  refine HC.out.mono ?_
  rintro e w1 ⟨hb1, a', c', rfl, hfit, hkz⟩
  obtain ⟨-, ⟨r0, r1, r2, r3⟩, f0, f1, f2, f3⟩ := HX.out.on hb1
  have hs1 : w.heap.size + 1 < w1.heap.size := by have := HSZ.out; have := hb1.size; omega
  have HB1 := Lib.hid hb1
  have HF := Lib.hid hfit
  have HKZ := Lib.hid hkz
  clear hb1 hfit hkz hwa n0 n1 n2 n3
  go_wp2_with fail
  refine bodyPost_ret (v := .agg #[.int .i64 t.kind, .string ⟨t.text.toArray⟩, .slice a' t.kids.length c', .int .i64 t.pos]) (by simp [results, Try.results17, go_sem, r0, r1, r2, r3, hs1]) rfl ⟨?_, a', c', rfl, HF.out, HKZ.out.move ?_ ?_⟩
  · exact ((((bext HB.out HB1.out).setCell (p := ⟨w.heap.size + 1, 0, none⟩) (by simp) _).setCell (p := ⟨w.heap.size + 1, 1, none⟩) (by simp) _).setCell (p := ⟨w.heap.size + 1, 2, none⟩) (by simp) _).setCell (p := ⟨w.heap.size + 1, 3, none⟩) (by simp) _
  · intro b hb
    have h1 := HSZ.out
    rcases hb with hb | hb
    · exact .inl hb
    · exact .inr (((((hb.low (by have := hb.lo; omega)).set _ _).set _ _).set _ _).set _ _)
  · intro p v hp hv
    have h1 := HSZ.out
    have h2 : p.block ≠ w.heap.size + 1 := by
      rcases hp with hp | hp
      · have := HZ.out _ hp; omega
      · have := hp.lo; omega
    rw [cell_far_set h2, cell_far_set h2, cell_far_set h2, cell_far_set h2]
    exact hv
end Go.Proofs.Ytnmebgiiajnnjaa
