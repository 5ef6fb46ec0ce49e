/-
  tag: holds, Holds: walked, of right constraints.
-/
import Derived.Deep.RegionHeld3
import Derived.Laws.EntriesVeiled
import Derived.Test.YtagaoilgnhdebaaDoorTgE
import Derived.Test.YtagaoilgnhdebaaDoorTgN
import Derived.Test.YtagaoilgnhdebaaDoorTgT
namespace Go.Proofs.YtagaoilgnhdebaaDoor
set_option linter.unusedSimpArgs false
set_option linter.unusedVariables false
open Go.RowKit

theorem rightX_mk' (n : Nat) (op tag : List UInt8) (kids : List Xp) : rightX (n + 1) (.mk op tag kids) = if op = [] then tagB tag && kids.isEmpty
    else if op = [33] then decide (kids.length = 1) && (tag.isEmpty && kids.all (rightX n))
    else if op = [38, 38] ∨ op = [124, 124] then decide (2 ≤ kids.length) && (tag.isEmpty && kids.all (rightX n))
    else false := by rw [rightX]; rfl
theorem holdsX_mk (tags : List (List UInt8)) (n : Nat) (op tag : List UInt8) (kids : List Xp) : holdsX tags (n + 1) (.mk op tag kids) = if op = [33] then !(holdsX tags n (kids.headD default))
    else if op = [38, 38] then kids.all (holdsX tags n)
    else if op = [124, 124] then kids.any (holdsX tags n)
    else if verT tag ≠ -1 then decide (verT tag ≤ 24) else tags.contains tag := by rw [holdsX]; rfl
/-- How a right constraint may look. -/
theorem three_on' {w w1 : World} {b : Nat} {v0 v1 v2 : Value} (hb : Below w.heap.size w w1) (h0 : w.cell? ⟨b, 0, none⟩ = some v0) (h1 : w.cell? ⟨b, 1, none⟩ = some v1) (h2 : w.cell? ⟨b, 2, none⟩ = some v2) :
    w1.cell? ⟨b, 0, none⟩ = some v0 ∧ w1.cell? ⟨b, 1, none⟩ = some v1 ∧ w1.cell? ⟨b, 2, none⟩ = some v2 :=
  ⟨(hb.cell (cell_lt1 h0)).trans h0, (hb.cell (cell_lt1 h1)).trans h1, (hb.cell (cell_lt1 h2)).trans h2⟩
theorem right_cases {n : Nat} {t : Xp} (h : rightX (n + 1) t = true) :
    (∃ s, t = .mk [] s [] ∧ tagB s = true) ∨ (∃ k, t = .mk [33] [] [k] ∧ rightX n k = true) ∨ (∃ l, t = .mk [38, 38] [] l ∧ 2 ≤ l.length ∧ ∀ k, k ∈ l → rightX n k = true) ∨ (∃ l, t = .mk [124, 124] [] l ∧ 2 ≤ l.length ∧ ∀ k, k ∈ l → rightX n k = true) := by
  obtain ⟨op, tag, kids⟩ := t
  rw [rightX_mk'] at h
  by_cases h1 : op = []
  · subst h1
    simp only [if_true, Bool.and_eq_true, List.isEmpty_iff] at h
    obtain ⟨h2, rfl⟩ := h
    exact .inl ⟨tag, rfl, h2⟩
  · rw [if_neg h1] at h
    by_cases h2 : op = [33]
    · subst h2
      simp only [if_true, Bool.and_eq_true, decide_eq_true_eq, List.isEmpty_iff, List.all_eq_true] at h
      obtain ⟨hl, rfl, hk⟩ := h
      match kids, hl with
      | [k], _ => exact .inr (.inl ⟨k, rfl, hk k (by simp)⟩)
    · rw [if_neg h2] at h
      by_cases h3 : op = [38, 38]
      · subst h3
        simp only [true_or, if_true, Bool.and_eq_true, decide_eq_true_eq, List.isEmpty_iff, List.all_eq_true] at h
        obtain ⟨hl, rfl, hk⟩ := h
        exact .inr (.inr (.inl ⟨kids, rfl, hl, hk⟩))
      · by_cases h4 : op = [124, 124]
        · subst h4
          simp only [or_true, if_true, Bool.and_eq_true, decide_eq_true_eq, List.isEmpty_iff, List.all_eq_true] at h
          obtain ⟨hl, rfl, hk⟩ := h
          exact .inr (.inr (.inr ⟨kids, rfl, hl, hk⟩))
        · rw [if_neg (by rintro (h | h); exact h3 h; exact h4 h)] at h
          cases h

/-- What holds answers at n, of any right constraint, in any world that holds the tags. -/
def HoldsOk (tags : List (List UInt8)) (n : Nat) : Prop := ∀ (t : Xp) (a at_ : Option Addr) (c ct : Nat) (w : World), Env w → rightX n t = true → Xids w Any a t.kids → Fitx t c → Strs w at_ tags →
  Calls Tryd.prog 26 #[.agg #[.string ⟨t.op.toArray⟩, .string ⟨t.tag.toArray⟩, .slice a t.kids.length c], .slice at_ tags.length ct] w fun e w' => e = .returned (.bool (holdsX tags n t)) ∧ Below w.heap.size w w'

set_option maxHeartbeats 1000000 in
theorem holds1_any (tags : List (List UInt8)) (m : Nat) (ih : HoldsOk tags m) (t : Xp) (a at_ : Option Addr) (c ct b : Nat) (w : World) (hE : Env w) (hR : rightX m t = true)
    (hc : w.cell? ⟨b, 0, none⟩ = some (.slice at_ tags.length ct)) (hk : Xids w Any a t.kids) (hf : Fitx t c) (hs : Strs w at_ tags) :
    Calls Tryd.prog 37 #[.agg #[.string ⟨t.op.toArray⟩, .string ⟨t.tag.toArray⟩, .slice a t.kids.length c], .pointer (some ⟨b, 0, none⟩)] w fun e w' => e = .returned (.bool (holdsX tags m t)) ∧ Below w.heap.size w w' := by
  have hlt : b < w.heap.size := cell_lt1 hc
  have HI := Lib.hid (ih t a at_ c ct (w.alloc (.cells #[.string ⟨t.op.toArray⟩, .string ⟨t.tag.toArray⟩, .slice a t.kids.length c] 29)) (hE.on (below_alloc _ _)) hR (hk.on (below_alloc _ _)) hf (hs.on (below_alloc _ _)))
  clear ih hk hE hs
  go_enter Tryd.func37, Tryd.ntmps37
  go_wp2_with fail
  refine HI.out.mono ?_
  rintro e w1 ⟨rfl, hb1⟩
  go_wp2_with fail
  go_ret
  exact ⟨rfl, bext ((Below.refl _ _).alloc (Nat.le_refl _) _) hb1⟩

set_option maxHeartbeats 1000000 in
theorem holds2_any (tags : List (List UInt8)) (m : Nat) (ih : HoldsOk tags m) (t : Xp) (a at_ : Option Addr) (c ct b b2 : Nat) (w : World) (hE : Env w) (hR : rightX m t = true)
    (hc : w.cell? ⟨b, 0, none⟩ = some (.slice at_ tags.length ct)) (hc2 : w.cell? ⟨b2, 0, none⟩ = some (.func (.func 37) #[] #[.pointer (some ⟨b, 0, none⟩)])) (hk : Xids w Any a t.kids) (hf : Fitx t c) (hs : Strs w at_ tags) :
    Calls Tryd.prog 38 #[.agg #[.string ⟨t.op.toArray⟩, .string ⟨t.tag.toArray⟩, .slice a t.kids.length c], .pointer (some ⟨b2, 0, none⟩)] w fun e w' => e = .returned (.bool (!(holdsX tags m t))) ∧ Below w.heap.size w w' := by
  have hlt : b < w.heap.size := cell_lt1 hc
  have hlt2 : b2 < w.heap.size := cell_lt1 hc2
  have HI := Lib.hid (holds1_any tags m ih t a at_ c ct b (w.alloc (.cells #[.string ⟨t.op.toArray⟩, .string ⟨t.tag.toArray⟩, .slice a t.kids.length c] 29)) (hE.on (below_alloc _ _)) hR (((below_alloc w _).cell hlt).trans hc) (hk.on (below_alloc _ _)) hf (hs.on (below_alloc _ _)))
  have eg : ∀ args w, (callFunc 37 args).run Tryd.prog w = .ok (.enter 37 args) w := enters_of Tryd.func37 (by kernel_rfl) rfl
  clear ih hk hE hs
  go_enter Tryd.func38, Tryd.ntmps38
  go_wp2_with fail
  refine HI.out.mono ?_
  rintro e w1 ⟨rfl, hb1⟩
  go_wp2_with fail
  go_ret
  exact ⟨rfl, bext ((Below.refl _ _).alloc (Nat.le_refl _) _) hb1⟩

/-- The three blocks of holds. -/
theorem boxed_three (w : World) (x y z u v : Value) (T1 T2 T3 : TypeId) : ∃ wa, ((w.alloc (.cells #[x, y, z] T1)).alloc (.cells #[u] T2)).alloc (.cells #[v] T3) = wa ∧ Below w.heap.size w wa ∧
    wa.cell? ⟨w.heap.size, 0, none⟩ = some x ∧ wa.cell? ⟨w.heap.size, 1, none⟩ = some y ∧ wa.cell? ⟨w.heap.size, 2, none⟩ = some z ∧ wa.cell? ⟨w.heap.size + 1, 0, none⟩ = some u ∧ wa.cell? ⟨w.heap.size + 1 + 1, 0, none⟩ = some v ∧ wa.heap.size = w.heap.size + 3 :=
  ⟨_, rfl, (((Below.refl _ _).alloc (Nat.le_refl _) _).alloc (by simp) _).alloc (by simp; omega) _, by simp [go_sem], by simp [go_sem], by simp [go_sem], by simp [go_sem], by simp [go_sem], by simp⟩

set_option maxHeartbeats 4000000 in
theorem holds_leaf (tags : List (List UInt8)) (s : List UInt8) (a at_ : Option Addr) (c ct : Nat) (w : World) (hE : Env w) (hs : s.length ≤ 140737488351232) (ht : tags.length ≤ 9223372036854775807) (hS : Strs w at_ tags) :
    Calls Tryd.prog 26 #[.agg #[.string ⟨#[]⟩, .string ⟨s.toArray⟩, .slice a 0 c], .slice at_ tags.length ct] w fun e w' => e = .returned (.bool (if verT s ≠ -1 then decide (verT s ≤ 24) else tags.contains s)) ∧ Below w.heap.size w w' := by
  obtain ⟨wa, hwa, hba, c0, c1, c2, c3, c4, hsz⟩ := boxed_three w (.string ⟨#[]⟩) (.string ⟨s.toArray⟩) (.slice a 0 c) (.slice at_ tags.length ct) (.func (.func 37) #[] #[.pointer (some ⟨w.heap.size + 1, 0, none⟩)]) 29 25 32
  have HV := Lib.hid (version_any s wa (hE.on hba) hs)
  have HC := Lib.hid fun W (h : Strs W at_ tags) => contains_any tags s at_ ct W h ht
  have HS := Lib.hid (hS.on hba)
  have HB := Lib.hid hba
  obtain ⟨V, hV⟩ : ∃ V, verT s = V := ⟨_, rfl⟩
  rw [hV] at HV ⊢
  clear hba hS hV
  by_cases h1 : V = -1
  · have e1 : (V != -1) = false := by simpa using h1
    rw [if_neg (by simpa using h1)]
    go_enter Tryd.func26, Tryd.ntmps26
    go_wp2_with fail
    refine HV.out.mono ?_
    rintro e w1 ⟨rfl, hb1⟩
    obtain ⟨d0, d1, d2⟩ := three_on' hb1.out c0 c1 c2
    have d3 := (hb1.out.cell (cell_lt1 c3)).trans c3
    have HS1 := Lib.hid (HS.out.on hb1.out)
    have HB1 := Lib.hid (bext HB.out hb1.out)
    clear hb1
    go_wp2_with fail
    refine (HC.out _ HS1.out).mono ?_
    rintro e w2 ⟨rfl, rfl⟩
    go_wp2_with fail
    refine bodyPost_ret (v := .bool (tags.contains s)) (by simp [results, Tryd.results26, go_sem]) rfl ⟨rfl, HB1.out⟩
  · have e1 : (V != -1) = true := by simpa using h1
    rw [if_pos h1]
    go_enter Tryd.func26, Tryd.ntmps26
    go_wp2_with fail
    refine HV.out.mono ?_
    rintro e w1 ⟨rfl, hb1⟩
    have HB1 := Lib.hid (bext HB.out hb1.out)
    clear hb1
    go_wp2_with fail
    all_goals
      refine bodyPost_ret (v := .bool (decide (V ≤ 24))) (by simp [results, Tryd.results26, go_sem]) rfl ⟨rfl, HB1.out⟩

set_option maxHeartbeats 4000000 in
theorem holds_many (tags : List (List UInt8)) (n : Nat) (ih : HoldsOk tags n) (both : Bool) (ks : List Xp) (a at_ : Option Addr) (c ct : Nat) (w : World) (hE : Env w) (hk : Xids w Any a ks) (hks : ks.length ≤ 9223372036854775807) (hr : ∀ k, k ∈ ks → rightX n k = true) (hS : Strs w at_ tags) :
    Calls Tryd.prog 26 #[.agg #[.string ⟨if both then #[38, 38] else #[124, 124]⟩, .string ⟨#[]⟩, .slice a ks.length c], .slice at_ tags.length ct] w fun e w' => e = .returned (.bool (if both then ks.all (holdsX tags n) else ks.any (holdsX tags n))) ∧ Below w.heap.size w w' := by
  obtain ⟨O, hO⟩ : ∃ O : ByteArray, O = ⟨if both then #[38, 38] else #[124, 124]⟩ := ⟨_, rfl⟩
  obtain ⟨wa, hwa, hba, c0, c1, c2, c3, c4, hsz⟩ := boxed_three w (.string O) (.string ⟨#[]⟩) (.slice a ks.length c) (.slice at_ tags.length ct) (.func (.func 37) #[] #[.pointer (some ⟨w.heap.size + 1, 0, none⟩)]) 29 25 32
  have HB := Lib.hid hba
  rw [← hO]
  cases both with
  | true =>
    obtain rfl : O = ⟨#[38, 38]⟩ := hO
    have H := containsFunc_any ks a c 38 #[.pointer (some ⟨w.heap.size + 1 + 1, 0, none⟩)] (fun t => !holdsX tags n t) wa (enters_of Tryd.func38 (by kernel_rfl) rfl) hks (hk.on hba)
      (fun t ht W a' c' hb hk' hf => holds2_any tags n ih t a' at_ c' ct (w.heap.size + 1) (w.heap.size + 1 + 1) W ((hE.on hba).on hb) (hr t ht) ((hb.cell (cell_lt1 c3)).trans c3) ((hb.cell (cell_lt1 c4)).trans c4) hk' hf ((hS.on hba).on hb))
    have E := Lib.hid (not_any_not ks (holdsX tags n))
    have HC := Lib.hid H
    clear hba H ih hk hE hS
    go_enter Tryd.func26, Tryd.ntmps26
    go_wp2_with fail
    refine HC.out.mono ?_
    rintro e w' ⟨rfl, hb⟩
    have HB2 := Lib.hid (bext HB.out hb)
    clear hb
    go_wp2_with fail
    refine bodyPost_ret (v := .bool (!(ks.any fun t => !holdsX tags n t))) (by simp [results, Tryd.results26, go_sem]) rfl ⟨ret_bool E.out, HB2.out⟩
  | false =>
    obtain rfl : O = ⟨#[124, 124]⟩ := hO
    have H := containsFunc_any ks a c 37 #[.pointer (some ⟨w.heap.size + 1, 0, none⟩)] (holdsX tags n) wa (enters_of Tryd.func37 (by kernel_rfl) rfl) hks (hk.on hba)
      (fun t ht W a' c' hb hk' hf => holds1_any tags n ih t a' at_ c' ct (w.heap.size + 1) W ((hE.on hba).on hb) (hr t ht) ((hb.cell (cell_lt1 c3)).trans c3) hk' hf ((hS.on hba).on hb))
    have HC := Lib.hid H
    clear hba H ih hk hE hS
    go_enter Tryd.func26, Tryd.ntmps26
    go_wp2_with fail
    refine HC.out.mono ?_
    rintro e w' ⟨rfl, hb⟩
    have HB2 := Lib.hid (bext HB.out hb)
    clear hb
    go_wp2_with fail
    refine bodyPost_ret (v := .bool (ks.any (holdsX tags n))) (by simp [results, Tryd.results26, go_sem]) rfl ⟨rfl, HB2.out⟩
end Go.Proofs.YtagaoilgnhdebaaDoor
