/-
  a copy lies in blocks of its own, its first row in none of those behind it
-/
import Derived.Test.YtnmebgiiajnnjaaCopyD
namespace Go.Proofs.Ytnmebgiiajnnjaa
set_option linter.unusedSimpArgs false
set_option linter.unusedVariables false
open Go.RowKit

/-- The slice at a holds these nodes, in a block that may be written; what is within them lies in other blocks of the zone. -/
def KidsO (w : World) (n m : Nat) (a : Option Addr) (l : List Nd) : Prop :=
  ∀ j (hj : j < l.length), ∃ g a' c', a = some ⟨g, 0, none⟩ ∧ (n ≤ g ∧ g < m) ∧ (∀ o, w.frozen? ⟨g, o, none⟩ = false) ∧ Four w g (j * 4) l[j] a' c' ∧ Fits l[j] c' ∧ KidsZ w (fun b => (n ≤ b ∧ b < m) ∧ b ≠ g) a' l[j].kids

theorem KidsO.kidsZ {w : World} {n m : Nat} {a : Option Addr} {l : List Nd} (h : KidsO w n m a l) : KidsZ w (fun b => n ≤ b ∧ b < m) a l := by
  rw [kidsZ_iff]
  intro j hj
  obtain ⟨g, a', c', ha, hg, -, h4, hf, hz⟩ := h j hj
  exact ⟨g, 0, a', c', ha, hg, by rw [Nat.zero_add]; exact h4, hf, hz.mono (fun b hb => hb.1)⟩
theorem KidsO.move {w w' : World} {n m n' m' : Nat} {a : Option Addr} {l : List Nd} (h : KidsO w n m a l) (hn : n' ≤ n) (hm : m ≤ m') (hb : ∀ b, n ≤ b → b < m → w'.heap[b]? = w.heap[b]?) : KidsO w' n' m' a l := by
  intro j hj
  obtain ⟨g, a', c', ha, hg, hfz, ⟨h0, h1, h2, h3⟩, hf, hz⟩ := h j hj
  have hc : ∀ p v, (n ≤ p.block ∧ p.block < m) → w.cell? p = some v → w'.cell? p = some v := fun p v hp hv => (World.cell?_of_block (hb _ hp.1 hp.2)).trans hv
  refine ⟨g, a', c', ha, ⟨by omega, by omega⟩, fun o => ?_, ⟨hc ⟨g, _, none⟩ _ hg h0, hc ⟨g, _, none⟩ _ hg h1, hc ⟨g, _, none⟩ _ hg h2, hc ⟨g, _, none⟩ _ hg h3⟩, hf, hz.move (fun b hb => ⟨⟨by omega, by omega⟩, hb.2⟩) (fun p v hp hv => hc p v hp.1 hv)⟩
  have e := hfz o
  have e2 := hb g hg.1 hg.2
  simp only [World.frozen?] at e ⊢
  rw [e2]; exact e

/-- What Copy hands back of a node that is not too deep. -/
def CopyO (t : Nd) (w : World) (e : Ending) (w' : World) : Prop :=
  Below w.heap.size w w' ∧ ∃ a' c', e = .returned (.agg #[.int .i64 t.kind, .string ⟨t.text.toArray⟩, .slice a' t.kids.length c', .int .i64 t.pos]) ∧ Fits t c' ∧ KidsO w' w.heap.size w'.heap.size a' t.kids

theorem own_of_row {t : Nd} {w : World} {e : Ending} {w' : World} {c : Nat} (hf : Fits t c) (h : CopiedRow (fun _ => False) t t.kids w e w') : CopyO t w e w' := by
  obtain ⟨hb, v, he, hrow⟩ := h
  obtain ⟨f1, f2, f3, f4, f5, f6, f7, f8⟩ := hf
  cases hl : t.kids with
  | nil =>
    rw [hl] at hrow
    obtain ⟨L, hL, hown, hx⟩ := hrow
    rcases hown.2 with ⟨rfl, _⟩ | ⟨g, cap, cur, rfl, _, _, _, hmax, _⟩
    · exact ⟨hb, none, 0, by rw [hl]; exact he, ⟨f1, f2, f3, f4, f5, by simp [hl], by omega, by simp [hl]⟩, fun j hj => by simp [hl] at hj⟩
    · exact ⟨hb, _, cap, by rw [hl]; exact he, ⟨f1, f2, f3, f4, f5, by simp [hl], by simpa [maxLen] using hmax, by simp [hl]⟩, fun j hj => by simp [hl] at hj⟩
  | cons x l =>
    obtain ⟨g, cap, rfl, hg1, hg2, hcap, hmax, hfz, h4⟩ := hrow.four (by rw [hl]; simp)
    refine ⟨hb, _, cap, he, ⟨f1, f2, f3, f4, f5, hcap, hmax, f8⟩, fun j hj => ?_⟩
    obtain ⟨a', c', h5, h6, h7⟩ := h4 j hj
    refine ⟨g, a', c', rfl, ⟨by omega, hg2⟩, hfz, h5, h6, h7.mono (fun b hb' => ⟨?_, hb'.2⟩)⟩
    rcases hb'.1 with h1 | h1
    · exact h1.elim
    · exact ⟨by have := h1.lo; omega, h1.hi⟩

theorem copied_own (t : Nd) (a : Option Addr) (c : Nat) (w : World) (hh : t.height ≤ 100) (hk : Kids w w.heap.size a t.kids) (hf : Fits t c) :
    Calls Try.prog 23 #[.agg #[.int .i64 t.kind, .string ⟨t.text.toArray⟩, .slice a t.kids.length c, .int .i64 t.pos], .int .i64 100, .func (.func 25) #[] #[]] w (CopyO t w) := by
  have hen : Enters Try.prog 25 := enters_of Try.func25 (by kernel_rfl) rfl
  have e : t.kids.map (copyL (fun _ => none) 99) = t.kids := by
    have : copyL (fun _ => none) 99 = id := funext (fun k => copyL_none 99 k)
    rw [this, List.map_id]
  have h := copied_none 99 (by omega) t a c 25 #[] (fun _ => none) (fun _ => False) w hen (copy_at _ w) rfl (· < w.heap.size) hk.toZ (fun b h => h) (fun b h => h.elim) hf
    (fun k hkm a' c' W hW hk' hf' => copied_any (fun _ => none) 25 #[] (fun _ => False) hen 99 (by omega) k a' c' W ((copy_at _ w).on hW) (.inr ⟨by have := Nd.height_kid hkm; omega, fun _ => rfl⟩) (fun b h => h.elim) (hk'.kids (fun b hb => Nat.lt_of_lt_of_le hb hW.size)) hf')
  rw [e] at h
  exact h.mono (fun e w' hr => own_of_row hf hr)

set_option maxHeartbeats 1000000 in
theorem copy_own (t : Nd) (a : Option Addr) (c : Nat) (w : World) (hh : t.height ≤ 100) (hk : Kids w w.heap.size a t.kids) (hf : Fits t c) :
    Calls Try.prog 17 #[.agg #[.int .i64 t.kind, .string ⟨t.text.toArray⟩, .slice a t.kids.length c, .int .i64 t.pos]] w (CopyO t w) := by
  obtain ⟨wa, hwa⟩ : ∃ wa, (w.alloc (.cells #[.int .i64 t.kind, .string ⟨t.text.toArray⟩, .slice a t.kids.length c, .int .i64 t.pos] 24)).alloc (.cells #[.int .i64 0, .string ⟨#[]⟩, .slice none 0 0, .int .i64 0] 24) = wa := ⟨_, rfl⟩
  have hba : Below w.heap.size w wa := by rw [← hwa]; exact ((Below.refl _ _).alloc (Nat.le_refl _) _).alloc (by simp) _
  have hsz : wa.heap.size = w.heap.size + 2 := by rw [← hwa]; simp
  have hcall := copied_own t a c wa hh (hk.on hba) hf
  have HB := Lib.hid hba
  have n0 : wa.cell? ⟨w.heap.size, 0, none⟩ = some (.int .i64 t.kind) := by rw [← hwa]; simp [go_sem]
  have n1 : wa.cell? ⟨w.heap.size, 1, none⟩ = some (.string ⟨t.text.toArray⟩) := by rw [← hwa]; simp [go_sem]
  have n2 : wa.cell? ⟨w.heap.size, 2, none⟩ = some (.slice a t.kids.length c) := by rw [← hwa]; simp [go_sem]
  have n3 : wa.cell? ⟨w.heap.size, 3, none⟩ = some (.int .i64 t.pos) := by rw [← hwa]; simp [go_sem]
  have hB0 : Boxes t w.heap.size (.slice a t.kids.length c) wa := by
    rw [← hwa]
    refine ⟨⟨?_, ?_, ?_, ?_, ?_⟩, ⟨?_, ?_, ?_, ?_⟩, ?_, ?_, ?_, ?_⟩ <;> simp [go_sem]
  have HC := Lib.hid hcall
  have HSZ := Lib.hid hsz
  have HX := Lib.hid hB0
  clear hcall hba hk hf hsz hB0 hh
  go_enter Try.func17, Try.ntmps17
  go_wp2_with fail
  refine HC.out.mono ?_
  rintro e w1 ⟨hb1, a', c', rfl, hfit, hkz⟩
  obtain ⟨-, ⟨r0, r1, r2, r3⟩, f0, f1, f2, f3⟩ := HX.out.on hb1
  have hs1 : w.heap.size + 1 < w1.heap.size := by have := HSZ.out; have := hb1.size; omega
  have HB1 := Lib.hid hb1
  have HF := Lib.hid hfit
  have HKZ := Lib.hid hkz
  clear hb1 hfit hkz hwa n0 n1 n2 n3
  go_wp2_with fail
  refine bodyPost_ret (v := .agg #[.int .i64 t.kind, .string ⟨t.text.toArray⟩, .slice a' t.kids.length c', .int .i64 t.pos]) (by simp [results, Try.results17, go_sem, r0, r1, r2, r3, hs1]) rfl ⟨?_, a', c', rfl, HF.out, HKZ.out.move ?_ ?_ ?_⟩
  · exact ((((bext HB.out HB1.out).setCell (p := ⟨w.heap.size + 1, 0, none⟩) (by simp) _).setCell (p := ⟨w.heap.size + 1, 1, none⟩) (by simp) _).setCell (p := ⟨w.heap.size + 1, 2, none⟩) (by simp) _).setCell (p := ⟨w.heap.size + 1, 3, none⟩) (by simp) _
  · have h1 := HSZ.out; omega
  · simp
  · intro b h0 _
    have h1 := HSZ.out
    rw [Below.heap_setCell _ _ _ _ (by show b ≠ w.heap.size + 1; omega), Below.heap_setCell _ _ _ _ (by show b ≠ w.heap.size + 1; omega), Below.heap_setCell _ _ _ _ (by show b ≠ w.heap.size + 1; omega), Below.heap_setCell _ _ _ _ (by show b ≠ w.heap.size + 1; omega)]
end Go.Proofs.Ytnmebgiiajnnjaa
