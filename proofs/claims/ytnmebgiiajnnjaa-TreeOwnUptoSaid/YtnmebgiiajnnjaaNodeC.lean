/-
  tree.named and tree.of, walked.
-/
import Derived.Test.YtnmebgiiajnnjaaNodeB
namespace Go.Proofs.Ytnmebgiiajnnjaa
set_option linter.unusedSimpArgs false
set_option linter.unusedVariables false
open Go.RowKit
/-- The four cells of a struct in a block of its own, read in a later world. -/
theorem four_at {w w1 : World} {B b : Nat} {v0 v1 v2 v3 : Value} (hb : Below B w w1) (hB : b < B) (h0 : w.cell? ⟨b, 0, none⟩ = some v0) (h1 : w.cell? ⟨b, 1, none⟩ = some v1) (h2 : w.cell? ⟨b, 2, none⟩ = some v2) (h3 : w.cell? ⟨b, 3, none⟩ = some v3)
    (f0 : w.frozen? ⟨b, 0, none⟩ = false) (f1 : w.frozen? ⟨b, 1, none⟩ = false) (f2 : w.frozen? ⟨b, 2, none⟩ = false) (f3 : w.frozen? ⟨b, 3, none⟩ = false) :
    (w1.cell? ⟨b, 0, none⟩ = some v0 ∧ w1.cell? ⟨b, 1, none⟩ = some v1 ∧ w1.cell? ⟨b, 2, none⟩ = some v2 ∧ w1.cell? ⟨b, 3, none⟩ = some v3) ∧
    (w1.frozen? ⟨b, 0, none⟩ = false ∧ w1.frozen? ⟨b, 1, none⟩ = false ∧ w1.frozen? ⟨b, 2, none⟩ = false ∧ w1.frozen? ⟨b, 3, none⟩ = false) := by
  obtain ⟨hc, hf⟩ := bcell hb
  exact ⟨⟨(hc _ _ hB).trans h0, (hc _ _ hB).trans h1, (hc _ _ hB).trans h2, (hc _ _ hB).trans h3⟩, (hf _ _ hB).trans f0, (hf _ _ hB).trans f1, (hf _ _ hB).trans f2, (hf _ _ hB).trans f3⟩

set_option maxHeartbeats 400000 in
theorem named_yes (t : Nd) (a : Option Addr) (c : Nat) (g : Nat) (lb : Array Value) (w : World) (eg : Enters Try.prog g) (hs : SaysTx Try.prog g lb t.text true w) :
    Calls Try.prog 43 #[.agg #[.int .i64 t.kind, .string ⟨t.text.toArray⟩, .slice a t.kids.length c, .int .i64 t.pos], .func (.func g) #[] lb] w fun e w' =>
      e = .returned (.agg #[.int .i64 t.kind, .string ⟨#[]⟩, .slice a t.kids.length c, .int .i64 t.pos]) ∧ Below w.heap.size w w' := by
  unfold Enters at eg
  have HS := Lib.hid hs
  clear hs
  go_enter Try.func43, Try.ntmps43
  go_wp2_with fail
  refine (HS.out _ ?_).mono ?_
  · exact bext (below_alloc _ _) (below_alloc _ _)
  rintro e w1 ⟨rfl, hb1⟩
  obtain ⟨⟨a0, a1, a2, a3⟩, b0, b1, b2, b3⟩ := four_at (b := w.heap.size) hb1 (by simp; omega) (by simp; rfl) (by simp; rfl) (by simp; rfl) (by simp; rfl) (by simp) (by simp) (by simp) (by simp)
  obtain ⟨⟨c0, c1, c2, c3⟩, d0, d1, d2, d3⟩ := four_at (b := w.heap.size + 1) hb1 (by simp) (by simp; rfl) (by simp; rfl) (by simp; rfl) (by simp; rfl) (by simp) (by simp) (by simp) (by simp)
  have hz : w.heap.size + 1 < w1.heap.size := by have := hb1.size; simp at this; omega
  go_wp2_with fail
  refine bodyPost_ret (v := .agg #[.int .i64 t.kind, .string ⟨#[]⟩, .slice a t.kids.length c, .int .i64 t.pos]) (by simp [results, Try.results43, go_sem, c0, c1, c2, c3]) rfl ⟨rfl, ?_⟩
  have hB : Below w.heap.size w w1 := bext (bext (below_alloc _ _) (below_alloc _ _)) hb1
  repeat (refine Below.setCell ?_ (by simp) _)
  exact hB

set_option maxHeartbeats 400000 in
theorem named_no (t : Nd) (a : Option Addr) (c : Nat) (g : Nat) (lb : Array Value) (w : World) (eg : Enters Try.prog g) (hs : SaysTx Try.prog g lb t.text false w) :
    Calls Try.prog 43 #[.agg #[.int .i64 t.kind, .string ⟨t.text.toArray⟩, .slice a t.kids.length c, .int .i64 t.pos], .func (.func g) #[] lb] w fun e w' =>
      e = .returned (.agg #[.int .i64 37, .string ⟨#[]⟩, .slice none 0 0, .int .i64 0]) ∧ Below w.heap.size w w' := by
  unfold Enters at eg
  have HS := Lib.hid hs
  clear hs
  go_enter Try.func43, Try.ntmps43
  go_wp2_with fail
  refine (HS.out _ ?_).mono ?_
  · exact bext (below_alloc _ _) (below_alloc _ _)
  rintro e w1 ⟨rfl, hb1⟩
  obtain ⟨⟨a0, a1, a2, a3⟩, b0, b1, b2, b3⟩ := four_at (b := w.heap.size) hb1 (by simp; omega) (by simp; rfl) (by simp; rfl) (by simp; rfl) (by simp; rfl) (by simp) (by simp) (by simp) (by simp)
  obtain ⟨⟨c0, c1, c2, c3⟩, d0, d1, d2, d3⟩ := four_at (b := w.heap.size + 1) hb1 (by simp) (by simp; rfl) (by simp; rfl) (by simp; rfl) (by simp; rfl) (by simp) (by simp) (by simp) (by simp)
  have hz : w.heap.size + 1 < w1.heap.size := by have := hb1.size; simp at this; omega
  go_wp2_with fail
  refine bodyPost_ret (v := .agg #[.int .i64 37, .string ⟨#[]⟩, .slice none 0 0, .int .i64 0]) (by simp [results, Try.results43, go_sem, c0, c1, c2, c3]) rfl ⟨rfl, ?_⟩
  have hB : Below w.heap.size w w1 := bext (bext (below_alloc _ _) (below_alloc _ _)) hb1
  repeat (refine Below.setCell ?_ (by simp) _)
  exact hB

theorem take_all {p : Nat → Bool} {k : Nat} (h : (List.range k).all p = true) (hp : p k = true) : (List.range (k + 1)).all p = true := by
  rw [List.range_succ, List.all_append, h]; simp [hp]
theorem all_no {p : Nat → Bool} {k n : Nat} (hk : k < n) (hp : p k = false) : (List.range n).all p = false := by
  rw [List.all_eq_false]; exact ⟨k, by simpa using hk, by simp [hp]⟩

/-- The function values that lie in a row. -/
def FnsAt (w : World) (bs : Option Addr) (fs : List (Nat × Array Value)) : Prop :=
  ∀ i (h : i < fs.length), ∃ b off, bs = some ⟨b, off, none⟩ ∧ b < w.heap.size ∧ w.cell? ⟨b, off + i, none⟩ = some (.func (.func fs[i].1) #[] fs[i].2)
theorem FnsAt.on {w w' : World} {bs : Option Addr} {fs : List (Nat × Array Value)} (h : FnsAt w bs fs) (hb : Below w.heap.size w w') : FnsAt w' bs fs := fun i hi => by
  obtain ⟨b, off, e, hB, hc⟩ := h i hi
  exact ⟨b, off, e, by have := hb.size; omega, (hb.cell (p := ⟨b, off + i, none⟩) hB).trans hc⟩

set_option maxHeartbeats 1000000 in
theorem of_any (t : Nd) (a : Option Addr) (c : Nat) (kind : Int) (bs : Option Addr) (fs : List (Nat × Array Value)) (cc : Nat) (p : Nat → Bool) (w : World)
    (hfs : FnsAt w bs fs) (hent : ∀ i (h : i < fs.length), Enters Try.prog fs[i].1) (hk : Kids w w.heap.size a t.kids) (hf : Fits t c) (hm : fs.length ≤ 100)
    (hso : ∀ i (h : i < fs.length) (h' : i < t.kids.length), SaysNd Try.prog fs[i].1 fs[i].2 t.kids[i] (p i) w) :
    Calls Try.prog 42 #[.agg #[.int .i64 t.kind, .string ⟨t.text.toArray⟩, .slice a t.kids.length c, .int .i64 t.pos], .int .i64 kind, .slice bs fs.length cc] w fun e w' =>
      e = .returned (.bool (t.kind == kind && (t.text.isEmpty && (t.kids.length == fs.length && (List.range fs.length).all p)))) ∧ Below w.heap.size w w' := by
  have hb0 := below_alloc w (.cells #[.int .i64 t.kind, .string ⟨t.text.toArray⟩, .slice a t.kids.length c, .int .i64 t.pos] 24)
  have hfs0 := hfs.on hb0
  have hk0 := hk.on hb0
  have hz := hf.2.2.2.2.2
  have HF := Lib.hid hfs0
  have HK := Lib.hid hk0
  have HE := Lib.hid hent
  have HS := Lib.hid hso
  have HB0 := Lib.hid hb0
  have HFi := Lib.hid hf
  obtain ⟨hz1, hz2⟩ := hz
  clear hfs hfs0 hk hk0 hent hso hb0 hf
  go_enter Try.func42, Try.ntmps42
  by_cases h1 : t.kind = kind
  · have h1a : (t.kind == kind) = true := by simp [h1]
    have h1b : (t.kind != kind) = false := by simp [h1]
    rw [h1a]
    clear h1
    cases h2 : t.text.isEmpty with
    | false =>
      go_wp2_with fail
      go_ret
      exact ⟨ret_bool (by simp), HB0.out⟩
    | true =>
      by_cases h3 : t.kids.length = fs.length
      · have h3a : ((t.kids.length : Int) == (fs.length : Int)) = true := by simp [h3]
        have h3b : ((t.kids.length : Int) != (fs.length : Int)) = false := by simp [h3]
        have h3c : (t.kids.length == fs.length) = true := by simp [h3]
        rw [h3c]
        have H3 := Lib.hid h3
        clear h3 h3c
        go_wp2_with fail
        go_loopw [28] (fun i wr => ∃ k : Nat, k ≤ fs.length ∧ i = .int .i64 k ∧ (List.range k).all p = true ∧ Below (w.heap.size + 1) (w.alloc (.cells #[.int .i64 t.kind, .string ⟨t.text.toArray⟩, .slice a t.kids.length c, .int .i64 t.pos] 24)) wr) (fun i _ => fs.length - (intOf i).toNat)
        case atStart => exact ⟨0, by omega, rfl, rfl, Below.refl _ _⟩
        case round =>
          obtain ⟨k, hk1, rfl, hall, hb⟩ := hrel
          have Hall := Lib.hid hall
          have hbx : Below w.heap.size w wr := HB0.out.trans (hb.mono (by omega))
          have HBx := Lib.hid hbx
          clear hall hbx
          obtain ⟨⟨a0, a1, a2, a3⟩, b0, b1, b2, b3⟩ := four_at (b := w.heap.size) hb (by omega) (by simp; rfl) (by simp; rfl) (by simp; rfl) (by simp; rfl) (by simp) (by simp) (by simp) (by simp)
          by_cases hlt : k < fs.length
          · have hlt' : k < t.kids.length := by rw [H3.out]; exact hlt
            obtain ⟨fb, foff, ef, hfB, hfc⟩ := (HF.out.on (by simpa using hb)) k hlt
            obtain ⟨kb, koff, a', c', ek, hkB, ⟨k0, k1, k2, k3⟩, hkf, hkn⟩ := (HK.out.on (by simpa using hb)).get hlt'
            have eg := HE.out k hlt
            unfold Enters at eg
            subst ef ek
            have HC := HS.out k hlt hlt'
            cases hq : p k with
            | true =>
              rw [hq] at HC
              have HC' := Lib.hid HC
              have Hq := Lib.hid hq
              clear hq HC
              go_wp2_with fail
              refine (HC'.out _ _ _ HBx.out hkn hkf).mono ?_
              rintro e w1 ⟨rfl, hb1⟩
              go_wp2_with fail
              go_roundw
              case rel => exact ⟨k + 1, by omega, by go_num, take_all Hall.out Hq.out, hb.trans (hb1.mono (by have := hb.size; simp at this; omega))⟩
              case measure => simp [intOf]; omega
            | false =>
              rw [hq] at HC
              have HC' := Lib.hid HC
              have Hq := Lib.hid hq
              clear hq HC
              go_wp2_with fail
              refine (HC'.out _ _ _ HBx.out hkn hkf).mono ?_
              rintro e w1 ⟨rfl, hb1⟩
              go_wp2_with fail
              go_ret
              exact ⟨ret_bool (by rw [all_no hlt Hq.out]; rfl), bext HBx.out hb1⟩
          · obtain rfl : k = fs.length := by omega
            go_wp2_with fail
            go_ret
            exact ⟨ret_bool (by rw [Hall.out]; rfl), HBx.out⟩
      · have h3' : ((t.kids.length : Int) == (fs.length : Int)) = false := by simp; omega
        have h3b : ((t.kids.length : Int) != (fs.length : Int)) = true := by simp; omega
        have h3'' : (t.kids.length == fs.length) = false := by simp [h3]
        rw [h3'']
        have H3 := Lib.hid h3
        clear h3 h3''
        go_wp2_with fail
        go_ret
        exact ⟨ret_bool (by simp), HB0.out⟩
  · have h3 : (t.kind == kind) = false := by simp [h1]
    have h4 : (t.kind != kind) = true := by simp [h1]
    rw [h3]
    clear h1
    go_wp2_with fail
    go_ret
    exact ⟨ret_bool (by rfl), HB0.out⟩
end Go.Proofs.Ytnmebgiiajnnjaa
