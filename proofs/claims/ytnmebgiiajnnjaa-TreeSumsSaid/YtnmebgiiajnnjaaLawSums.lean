/-
  the law TreeSums, walked
-/
import Derived.Test.YtnmebgiiajnnjaaAwake
namespace Go.Proofs.Ytnmebgiiajnnjaa
set_option linter.unusedSimpArgs false
set_option linter.unusedVariables false
open Go.RowKit

theorem heights_snoc : ∀ (l : List Nd) (x : Nd), Nd.heights (l ++ [x]) = max (Nd.heights l) x.height
  | [], x => by simp [Nd.heights]
  | y :: l, x => by rw [List.cons_append, Nd.heights, heights_snoc l x, Nd.heights]; omega
theorem heights_take (l : List Nd) (k : Nat) (h : k < l.length) : Nd.heights (l.take (k + 1)) = max (Nd.heights (l.take k)) l[k].height := by
  rw [List.take_succ_eq_append_getElem h, heights_snoc]
theorem flat_len {l : List Nd} {d d' : Nat} (h : ∀ k, k ∈ l → k.height ≤ d ∧ k.height ≤ d') : (l.flatMap (walkL d)).length = (l.flatMap (walkL d')).length := by
  have e : ∀ dd, (l.flatMap (walkL dd)).length = (l.flatMap (nodesL dd)).length := fun dd => by
    have : l.flatMap (nodesL dd) = (l.flatMap (walkL dd)).map (·.1) := by rw [List.map_flatMap]; rfl
    rw [this, List.length_map]
  rw [e, e, flatMap_same (fun x hx => nodesL_deep d d' x (h x hx).1 (h x hx).2)]
theorem size_sum (t : Nd) (h : t.height ≤ 100) : (walkL 100 t).length = 1 + kidsN 100 t.kids.length t.kids := by
  rw [walkL, List.length_cons, kidsN, List.take_length, flat_len (d := 99) (d' := 100) (fun k hk => by have := Nd.height_kid hk; omega)]
  omega

set_option maxHeartbeats 4000000 in
theorem sums_law (t : Nd) (a : Option Addr) (c : Nat) (w : World) (hg : Glob w) (hk : Kids w w.heap.size a t.kids) (hf : Fits t c) :
    Calls Try.prog 4 #[.agg #[.int .i64 t.kind, .string ⟨t.text.toArray⟩, .slice a t.kids.length c, .int .i64 t.pos]] w fun e w' => e = .returned (.bool true) ∧ Below w.heap.size w w' := by
  have HB0 := Lib.hid (below_alloc w (.cells #[.int .i64 t.kind, .string ⟨t.text.toArray⟩, .slice a t.kids.length c, .int .i64 t.pos] 24))
  have HG := Lib.hid hg
  have HK := Lib.hid hk
  have HF := Lib.hid hf
  have hl63 : t.kids.length ≤ 9223372036854775807 := by have := hf.2.2.2.2.2.1; have := hf.2.2.2.2.2.2.1; omega
  have hcap : t.kids.length ≤ c := hf.2.2.2.2.2.1
  clear hg hk hf
  go_enter Try.func4, Try.ntmps4
  have HS := Lib.hid (small_any 500 t a c _ (HK.out.on HB0.out) HF.out)
  cases hs : decide (wrap64 (walkL 1000 t).length ≤ 500) with
  | false =>
    have HS' := HS.out
    rw [hs] at HS'
    have HT := Lib.hid HS'
    clear HS HS' hs
    go_wp2_with fail
    refine HT.out.mono ?_
    rintro e w1 ⟨rfl, hb1⟩
    go_wp2_with fail
    go_ret
    exact ⟨rfl, bext HB0.out hb1⟩
  | true =>
    have HS' := HS.out
    rw [hs] at HS'
    have HT := Lib.hid HS'
    clear HS HS' hs
    by_cases hd : t.height ≤ 90
    · have e1 : decide ((90 : Int) < min (t.height : Int) 101) = false := by simp; omega
      have HD := Lib.hid hd
      clear hd
      go_wp2_with fail
      refine HT.out.mono ?_
      rintro e w1 ⟨rfl, hb1⟩
      have HB1 := Lib.hid (bext HB0.out hb1)
      obtain ⟨a0, a1, a2, a3⟩ := cells_on hb1 (b := w.heap.size) (v0 := .int .i64 t.kind) (v1 := .string ⟨t.text.toArray⟩) (v2 := .slice a t.kids.length c) (v3 := .int .i64 t.pos) (by simp [go_sem]) (by simp [go_sem]) (by simp [go_sem]) (by simp [go_sem])
      clear hb1
      go_wp2_with fail
      have hdc := depth_any t a c w1 (HK.out.on HB1.out) HF.out
      rw [deepest_walk] at hdc
      refine hdc.mono ?_
      rintro e w2 ⟨rfl, hb2⟩
      have HB2 := Lib.hid (bext HB1.out hb2)
      obtain ⟨b0, b1, b2, b3⟩ := cells_on hb2 a0 a1 a2 a3
      clear hdc hb2 a0 a1 a2 a3
      go_wp2_with fail
      go_loopw [3, 4, 5] (fun m p i wr => ∃ k : Nat, k ≤ t.kids.length ∧ i = .int .i64 k ∧ m = .int .i64 (wrap64 (1 + kidsN 100 k t.kids)) ∧ p = .int .i64 (Nd.heights (t.kids.take k)) ∧ Below w.heap.size w wr ∧
        (wr.cell? ⟨w.heap.size, 0, none⟩ = some (.int .i64 t.kind) ∧ wr.cell? ⟨w.heap.size, 1, none⟩ = some (.string ⟨t.text.toArray⟩) ∧ wr.cell? ⟨w.heap.size, 2, none⟩ = some (.slice a t.kids.length c) ∧ wr.cell? ⟨w.heap.size, 3, none⟩ = some (.int .i64 t.pos))) (fun _ _ i _ => t.kids.length - (intOf i).toNat)
      case atStart => exact ⟨0, by omega, rfl, by simp [kidsN, wrap64], by simp [Nd.heights], HB2.out, b0, b1, b2, b3⟩
      case round =>
        clear b0 b1 b2 b3 e1
        obtain ⟨k, hk1, rfl, rfl, rfl, hb, a0, a1, a2, a3⟩ := hrel
        have HB := Lib.hid hb
        clear hb
        by_cases hlt : k < t.kids.length
        · obtain ⟨b, off, a', c', ha, hbB, ⟨h0', h1', h2', h3'⟩, hf', hn'⟩ := (HK.out.on HB.out).get hlt
          subst ha
          have hkh : t.kids[k].height ≤ 89 := by have := Nd.height_kid (List.getElem_mem hlt); have := HD.out; omega
          have HC := Lib.hid (size_any t.kids[k] a' c' wr hn' hf')
          have hdp : ∀ W, Below wr.heap.size wr W → Calls Try.prog 11 #[.agg #[.int .i64 t.kids[k].kind, .string ⟨t.kids[k].text.toArray⟩, .slice a' t.kids[k].kids.length c', .int .i64 t.kids[k].pos]] W fun e w' => e = .returned (.int .i64 (t.kids[k].height : Int)) ∧ Below W.heap.size W w' := fun W hW => by
            have := depth_any t.kids[k] a' c' W (hn'.on hW) hf'
            rw [deepest_walk] at this
            have e : min (t.kids[k].height : Int) 101 = t.kids[k].height := by omega
            rw [e] at this
            exact this
          have HDP := Lib.hid hdp
          have HKN := Lib.hid (wrap_add (1 + (kidsN 100 k t.kids : Int)) ((walkL 100 t.kids[k]).length : Int) (kidsN 100 (k + 1) t.kids : Int) (by have := kidsN_succ 100 k t.kids hlt; omega))
          have HHT := Lib.hid (show ((Nd.heights (t.kids.take (k + 1)) : Nat) : Int) = max (Nd.heights (t.kids.take k) : Int) (t.kids[k].height : Int) by have := heights_take t.kids k hlt; omega)
          have HF4 := Lib.hid (show wr.cell? ⟨b, off + k * 4, none⟩ = some (.int .i64 t.kids[k].kind) ∧ wr.cell? ⟨b, off + k * 4 + 1, none⟩ = some (.string ⟨t.kids[k].text.toArray⟩) ∧ wr.cell? ⟨b, off + k * 4 + 2, none⟩ = some (.slice a' t.kids[k].kids.length c') ∧ wr.cell? ⟨b, off + k * 4 + 3, none⟩ = some (.int .i64 t.kids[k].pos) from ⟨h0', h1', h2', h3'⟩)
          clear hf' hn' hdp
          go_wp2_with fail
          refine HC.out.mono ?_
          rintro e w3 ⟨rfl, hb3⟩
          obtain ⟨b0, b1, b2, b3⟩ := cells_on hb3 a0 a1 a2 a3
          have hc3 : ∀ (o : Nat) (u : Value), wr.cell? ⟨b, o, none⟩ = some u → w3.cell? ⟨b, o, none⟩ = some u := fun o u h => (hb3.cell (p := ⟨b, o, none⟩) hbB).trans h
          have g0 := hc3 _ _ h0'
          have g1 := hc3 _ _ h1'
          have g2 := hc3 _ _ h2'
          have g3 := hc3 _ _ h3'
          have hlb3 : b < w3.heap.size := by have := hb3.size; omega
          have HB3 := Lib.hid hb3
          clear hb3 hc3 h0' h1' h2' h3' a0 a1 a2 a3
          go_wp2_with fail
          refine (HDP.out _ HB3.out).mono ?_
          rintro e w4 ⟨rfl, hb4⟩
          obtain ⟨a0, a1, a2, a3⟩ := cells_on hb4 b0 b1 b2 b3
          have HB4 := Lib.hid (bext (bext HB.out HB3.out) hb4)
          clear hb4 b0 b1 b2 b3 g0 g1 g2 g3
          go_wp2_with fail
          go_roundw
          case rel =>
            first
              | exact ⟨k + 1, by omega, by go_num, by rw [HKN.out], by rw [HHT.out], HB4.out, a0, a1, a2, a3⟩
              | ((repeat apply Exists.intro); exact ⟨⟨k + 1, by omega, by go_num, by rw [HKN.out], by rw [HHT.out], HB4.out, a0, a1, a2, a3⟩, rfl⟩)
          case measure => simp [intOf]; omega
        · obtain rfl : k = t.kids.length := by omega
          have HSZ := Lib.hid (size_any t a c wr (HK.out.on HB.out) HF.out)
          have hE : (wrap64 ((walkL 100 t).length : Int) == wrap64 (1 + (kidsN 100 t.kids.length t.kids : Int))) = true := by
            rw [size_sum t (by have := HD.out; omega)]; simp
          have hhh : Nd.heights t.kids ≤ 89 := by have := HD.out; have := Nd.height_eq t; omega
          have hF : (min (t.height : Int) 101 == (Nd.heights t.kids : Int) + 1) = true := by have := HD.out; have := Nd.height_eq t; simp; omega
          have HE := Lib.hid hE
          have HFF := Lib.hid hF
          clear hE hF
          go_wp2_with fail
          refine HSZ.out.mono ?_
          rintro e w3 ⟨rfl, hb3⟩
          obtain ⟨b0, b1, b2, b3⟩ := cells_on hb3 a0 a1 a2 a3
          have HB3 := Lib.hid (bext HB.out hb3)
          have hE := HE.out
          clear hb3 a0 a1 a2 a3
          go_wp2_with fail
          have hdc := depth_any t a c w3 (HK.out.on HB3.out) HF.out
          rw [deepest_walk] at hdc
          refine hdc.mono ?_
          rintro e w4 ⟨rfl, hb4⟩
          have HB4 := Lib.hid (bext HB3.out hb4)
          have hF := HFF.out
          clear hdc hb4 b0 b1 b2 b3
          go_wp2_with fail
          refine (awake_any w4 (HG.out.on HB4.out)).mono ?_
          rintro e w5 ⟨rfl, hb5⟩
          go_wp2_with fail
          go_ret
          exact ⟨rfl, bext HB4.out hb5⟩
    · have e1 : decide ((90 : Int) < min (t.height : Int) 101) = true := by simp; omega
      clear hd
      go_wp2_with fail
      refine HT.out.mono ?_
      rintro e w1 ⟨rfl, hb1⟩
      have HB1 := Lib.hid (bext HB0.out hb1)
      obtain ⟨a0, a1, a2, a3⟩ := cells_on hb1 (b := w.heap.size) (v0 := .int .i64 t.kind) (v1 := .string ⟨t.text.toArray⟩) (v2 := .slice a t.kids.length c) (v3 := .int .i64 t.pos) (by simp [go_sem]) (by simp [go_sem]) (by simp [go_sem]) (by simp [go_sem])
      clear hb1
      go_wp2_with fail
      have hdc := depth_any t a c w1 (HK.out.on HB1.out) HF.out
      rw [deepest_walk] at hdc
      refine hdc.mono ?_
      rintro e w2 ⟨rfl, hb2⟩
      go_wp2_with fail
      go_ret
      exact ⟨rfl, bext HB1.out hb2⟩
end Go.Proofs.Ytnmebgiiajnnjaa
