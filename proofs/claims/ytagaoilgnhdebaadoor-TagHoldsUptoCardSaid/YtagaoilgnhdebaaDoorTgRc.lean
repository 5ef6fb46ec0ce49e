/-
  tag: the document's Holds, walked, of right constraints. (printed by gen_tagrh.py)
-/
import Derived.Deep.RegionHeld3
import Derived.Test.YtagaoilgnhdebaaDoorTgRa
import Derived.Test.YtagaoilgnhdebaaDoorTgRb
namespace Go.Proofs.YtagaoilgnhdebaaDoor
set_option linter.unusedSimpArgs false
set_option linter.unusedVariables false
open Go.RowKit

def RHoldsOk (tags : List (List UInt8)) (n : Nat) : Prop := ∀ (t : Xp) (a at_ : Option Addr) (c ct : Nat) (w : World), tags.length ≤ ct → rightX n t = true → Xids w Any a t.kids → Fitx t c → Strs w at_ tags →
  Calls Tryd.prog 18 #[.agg #[.string ⟨t.op.toArray⟩, .string ⟨t.tag.toArray⟩, .slice a t.kids.length c], .slice at_ tags.length ct] w fun e w' => e = .returned (.bool (holdsX tags n t)) ∧ Below w.heap.size w w'
theorem verT_two (s : List UInt8) : verT s = -1 ∨ (0 ≤ verT s ∧ verT s ≤ 99) := by
  rw [verT_eq]
  split
  · rcases numV_cases (s.drop 4) with ⟨v, _, _, h | ⟨_, h | ⟨h1, h | h⟩⟩⟩ | h
    · exact .inl h.2
    · exact .inl h.2
    · exact .inl h.2
    · right; rw [h.2]; omega
    · exact .inl h.2
  · exact .inl rfl
theorem contains_step {l : List (List UInt8)} {s : List UInt8} {k : Nat} (hk : k < l.length) (h : (l.take k).contains s = false) (hn : (l[k] == s) = false) : (l.take (k + 1)).contains s = false := by
  rw [List.take_succ_eq_append_getElem hk]
  simp only [List.contains_eq_any_beq, List.any_append] at h ⊢
  have e : (s == l[k]) = false := by
    rw [beq_eq_false_iff_ne] at hn ⊢
    exact fun e => hn e.symm
  rw [h]; simp [e]

/-- What the call on a part leaves. -/
abbrev PartPost3 (O S : ByteArray) (k : Xp) (a a' : Option Addr) (c c' B b o nk : Nat) (v : Value) (W : World) (e : Ending) (w' : World) : Prop :=
  e = .returned v ∧ ((w'.cell? ⟨B, 0, none⟩ = some (.string O) ∧ w'.cell? ⟨B, 1, none⟩ = some (.string S) ∧ w'.cell? ⟨B, 2, none⟩ = some (.slice a nk c)) ∧
    (w'.cell? ⟨b, o, none⟩ = some (.string ⟨k.op.toArray⟩) ∧ w'.cell? ⟨b, o + 1, none⟩ = some (.string ⟨k.tag.toArray⟩) ∧ w'.cell? ⟨b, o + 2, none⟩ = some (.slice a' k.kids.length c'))) ∧ Hid (Below W.heap.size W w')
theorem part_post3 {O S : ByteArray} {k : Xp} {a a' : Option Addr} {c c' B b o nk : Nat} {v : Value} {W : World} {f : Nat} {args : Array Value}
    (h0 : W.cell? ⟨B, 0, none⟩ = some (.string O)) (h1 : W.cell? ⟨B, 1, none⟩ = some (.string S)) (h2 : W.cell? ⟨B, 2, none⟩ = some (.slice a nk c)) (h5 : Three W b o k a' c')
    (hc : Calls Tryd.prog f args W fun e w' => e = .returned v ∧ Below W.heap.size W w') : Calls Tryd.prog f args W (PartPost3 O S k a a' c c' B b o nk v W) :=
  hc.mono (fun e w' ⟨he, hb⟩ =>
    have hk : ∀ {p : Addr} {v : Value}, W.cell? p = some v → w'.cell? p = some v := fun h => (hb.cell (cell_lt1 h)).trans h
    ⟨he, ⟨⟨hk h0, hk h1, hk h2⟩, ⟨hk h5.1, hk h5.2.1, hk h5.2.2⟩⟩, Lib.hid hb⟩)

set_option maxRecDepth 100000 in
set_option maxHeartbeats 4000000 in
theorem rholds_leaf (tags : List (List UInt8)) (s : List UInt8) (a at_ : Option Addr) (c ct : Nat) (w : World) (hs : s.length ≤ 140737488351232) (ht : tags.length ≤ 9223372036854775807) (htc : tags.length ≤ ct) (hS : Strs w at_ tags) :
    Calls Tryd.prog 18 #[.agg #[.string ⟨#[]⟩, .string ⟨s.toArray⟩, .slice a 0 c], .slice at_ tags.length ct] w fun e w' => e = .returned (.bool (if verT s ≠ -1 then decide (verT s ≤ 24) else tags.contains s)) ∧ Below w.heap.size w w' := by
  obtain ⟨wa, hwa, hba, c0, c1, c2, hsz⟩ := laid3q w (.string ⟨#[]⟩) (.string ⟨s.toArray⟩) (.slice a 0 c) 24
  have HV := Lib.hid (rversion_any s wa hs)
  have HS := Lib.hid (hS.on hba)
  have HB := Lib.hid hba
  have hv2 := verT_two s
  unfold RVer at HV
  obtain ⟨V, hV⟩ : ∃ V, verT s = V := ⟨_, rfl⟩
  rw [hV] at HV hv2 ⊢
  clear hba hS hV
  have hBl : w.heap.size < wa.heap.size := by omega
  by_cases h1 : V = -1
  · subst h1
    rw [if_neg (by simp)]
    obtain ⟨r, hr⟩ : ∃ r, tags.contains s = r := ⟨_, rfl⟩
    have HR := Lib.hid hr
    rw [hr]
    clear hr hv2
    go_enter Tryd.func18, Tryd.ntmps18
    go_wp2_with fail
    refine HV.out.mono ?_
    rintro e w1 ⟨rfl, h9⟩
    obtain rfl := h9
    go_wp2_with fail
    go_loopw [7] (fun i wr => ∃ k : Nat, k ≤ tags.length ∧ i = .int .i64 k ∧ (tags.take k).contains s = false ∧ Below wa.heap.size wa wr ∧ wr.cell? ⟨w.heap.size, 1, none⟩ = some (.string ⟨s.toArray⟩)) (fun i _ => tags.length - (intOf i).toNat)
    case atStart => exact ⟨0, by omega, rfl, by simp, Below.refl _ _, c1⟩
    case round =>
      obtain ⟨k, hk1, rfl, hcn, hbw, d1⟩ := hrel
      have HCN := Lib.hid hcn
      have HBW := Lib.hid hbw
      clear hcn hbw
      by_cases hlt : k < tags.length
      · obtain ⟨b, off, rfl, hcj⟩ := HS.out k hlt
        replace hcj := (HBW.out.cell (cell_lt1 hcj)).trans hcj
        have hbl : b < wr.heap.size := cell_lt1 hcj
        have hBl2 : w.heap.size < wr.heap.size := cell_lt1 d1
        obtain ⟨T, hT⟩ : ∃ T, tags[k] = T := ⟨_, rfl⟩
        rw [hT] at hcj
        cases he : (T == s) with
        | true =>
          have HF := Lib.hid (show r = true by
            rw [← HR.out, List.contains_iff_mem]
            rw [beq_iff_eq] at he
            rw [← he, ← hT]; exact List.getElem_mem hlt)
          clear hT
          go_wp2_with fail
          go_region_held3 (fun w' => w'.cell? ⟨b, off + k, none⟩ = some (.string ⟨T.toArray⟩) ∧ w'.cell? ⟨w.heap.size, 1, none⟩ = some (.string ⟨s.toArray⟩)) (go_keep) (fail)
          go_wp2_with fail
          go_ret
          exact ⟨by rw [HF.out]; rfl, bext HB.out (HBW.out.trans (Below.refl _ _).drew)⟩
        | false =>
          have HN := Lib.hid (contains_step hlt HCN.out (by rw [hT]; exact he))
          clear hT
          go_wp2_with fail
          go_region_held3 (fun w' => w'.cell? ⟨b, off + k, none⟩ = some (.string ⟨T.toArray⟩) ∧ w'.cell? ⟨w.heap.size, 1, none⟩ = some (.string ⟨s.toArray⟩)) (go_keep) (fail)
          go_wp2_with fail
          go_roundw
          case rel => exact ⟨k + 1, by omega, by go_num, HN.out, HBW.out.drew, by first | exact d1 | (simp [go_sem]; exact d1)⟩
          case measure => simp [intOf]; omega
      · obtain rfl : k = tags.length := by omega
        have h9 := HCN.out
        rw [List.take_length] at h9
        go_wp2_with fail
        go_ret
        exact ⟨by rw [← HR.out, h9]; rfl, bext HB.out HBW.out⟩
  · rw [if_pos h1]
    have h2 : 0 ≤ V := by omega
    clear hv2
    go_enter Tryd.func18, Tryd.ntmps18
    go_wp2_with fail
    refine HV.out.mono ?_
    rintro e w1 ⟨rfl, h9⟩
    obtain rfl := h9
    go_wp2_with fail
    all_goals
      refine bodyPost_ret (v := .bool (decide (V ≤ 24))) (by simp [results, Tryd.results18, go_sem]) rfl ⟨rfl, HB.out⟩

set_option maxRecDepth 100000 in
set_option maxHeartbeats 4000000 in
theorem rholds_not (tags : List (List UInt8)) (n : Nat) (ih : RHoldsOk tags n) (k : Xp) (a at_ : Option Addr) (c ct : Nat) (w : World) (hk : Xids w Any a [k]) (hc1 : 1 ≤ c) (htc : tags.length ≤ ct) (hr : rightX n k = true) (hS : Strs w at_ tags) :
    Calls Tryd.prog 18 #[.agg #[.string ⟨#[33]⟩, .string ⟨#[]⟩, .slice a 1 c], .slice at_ tags.length ct] w fun e w' => e = .returned (.bool (!(holdsX tags n k))) ∧ Below w.heap.size w w' := by
  obtain ⟨wa, hwa, hba, c0, c1, c2, hsz⟩ := laid3q w (.string ⟨#[33]⟩) (.string ⟨#[]⟩) (.slice a 1 c) 24
  have HB := Lib.hid hba
  obtain ⟨b, off, a', c', ha, -, h3, hf', hn'⟩ := (hk.on hba).get (j := 0) (by simp)
  simp only [List.getElem_cons_zero, Nat.zero_mul, Nat.add_zero] at h3 hf' hn'
  subst ha
  obtain ⟨p0, p1, p2⟩ := h3
  have HC := Lib.hid (ih k a' at_ c' ct wa htc hr hn' hf' (hS.on hba))
  have hblt : b < wa.heap.size := cell_lt1 p0
  have hBl : w.heap.size < wa.heap.size := by omega
  clear hba ih hk hS hn' hf' hr
  go_enter Tryd.func18, Tryd.ntmps18
  go_wp2_with fail
  refine HC.out.mono ?_
  rintro e w1 ⟨rfl, hb1⟩
  have HB1 := Lib.hid (bext HB.out hb1)
  clear hb1
  go_wp2_with fail
  refine bodyPost_ret (v := .bool (!(holdsX tags n k))) (by simp [results, Tryd.results18, go_sem]) rfl ⟨rfl, HB1.out⟩

set_option maxRecDepth 100000 in
set_option maxHeartbeats 4000000 in
theorem rholds_both (tags : List (List UInt8)) (n : Nat) (ih : RHoldsOk tags n) (ks : List Xp) (a at_ : Option Addr) (c ct : Nat) (w : World) (hk : Xids w Any a ks) (hks : ks.length ≤ 9223372036854775807) (hcap : ks.length ≤ c) (htc : tags.length ≤ ct) (hr : ∀ k, k ∈ ks → rightX n k = true) (hS : Strs w at_ tags) :
    Calls Tryd.prog 18 #[.agg #[.string ⟨#[38, 38]⟩, .string ⟨#[]⟩, .slice a ks.length c], .slice at_ tags.length ct] w fun e w' => e = .returned (.bool (ks.all (holdsX tags n))) ∧ Below w.heap.size w w' := by
  have HI := Lib.hid ih
  have HK := Lib.hid hk
  have HS := Lib.hid hS
  have HR := Lib.hid hr
  have HTC := Lib.hid htc
  have HB0 := Lib.hid (below_alloc w (.cells #[.string ⟨#[38, 38]⟩, .string ⟨#[]⟩, .slice a ks.length c] 24))
  obtain ⟨nt, hnt⟩ : ∃ nt, tags.length = nt := ⟨_, rfl⟩
  have HNT := Lib.hid hnt
  rw [hnt]
  clear ih hk hS hr hnt
  go_enter Tryd.func18, Tryd.ntmps18
  go_wp2_with fail
  go_loopw [5] (fun i wr => ∃ k : Nat, k ≤ ks.length ∧ i = .int .i64 k ∧ (ks.take k).any (fun t => !holdsX tags n t) = false ∧ Below w.heap.size w wr ∧
    (wr.cell? ⟨w.heap.size, 0, none⟩ = some (.string ⟨#[38, 38]⟩) ∧ wr.cell? ⟨w.heap.size, 1, none⟩ = some (.string ⟨#[]⟩) ∧ wr.cell? ⟨w.heap.size, 2, none⟩ = some (.slice a ks.length c))) (fun i _ => ks.length - (intOf i).toNat)
  case atStart => exact ⟨0, by omega, rfl, by simp, HB0.out, by simp [go_sem], by simp [go_sem], by simp [go_sem]⟩
  case round =>
    obtain ⟨k, hk1, rfl, hn, hb, d0, d1, d2⟩ := hrel
    have HN := Lib.hid hn
    have HB := Lib.hid hb
    clear hb hn
    by_cases hlt : k < ks.length
    · obtain ⟨b, off, a', c', ha, -, ⟨e0, e1, e2⟩, hf', hn'⟩ := (HK.out.on HB.out).get hlt
      subst ha
      have hbd : Below wr.heap.size wr wr.drew := (Below.refl _ _).drew
      have hC := HI.out ks[k] a' at_ c' ct wr.drew HTC.out (HR.out _ (List.getElem_mem hlt)) (hn'.on hbd) hf' ((HS.out.on HB.out).on hbd)
      rw [HNT.out] at hC
      have hbb : b < wr.heap.size := cell_lt1 e0
      have hBl : w.heap.size < wr.heap.size := cell_lt1 d0
      cases hd : holdsX tags n ks[k] with
      | false =>
        rw [hd] at hC
        have HC := Lib.hid (part_post3 (W := wr.drew) (B := w.heap.size) d0 d1 d2 ⟨e0, e1, e2⟩ hC)
        have HE := Lib.hid (any_at (q := (fun t => !holdsX tags n t)) hlt (by rw [hd]; rfl))
        clear hC hf' hn' hd hbd
        go_wp2_with fail
        go_region_held3 (fun w' => (w'.cell? ⟨w.heap.size, 0, none⟩ = some (.string ⟨#[38, 38]⟩) ∧ w'.cell? ⟨w.heap.size, 1, none⟩ = some (.string ⟨#[]⟩) ∧ w'.cell? ⟨w.heap.size, 2, none⟩ = some (.slice (some ⟨b, off, none⟩) ks.length c)) ∧
            (w'.cell? ⟨b, off + k * 3, none⟩ = some (.string ⟨ks[k].op.toArray⟩) ∧ w'.cell? ⟨b, off + k * 3 + 1, none⟩ = some (.string ⟨ks[k].tag.toArray⟩) ∧ w'.cell? ⟨b, off + k * 3 + 2, none⟩ = some (.slice a' ks[k].kids.length c'))) (go_keep)
          (first
            | (go_at_call 18
               refine HC.out.mono ?_
               rintro e w1 ⟨rfl, ⟨⟨d0, d1, d2⟩, ⟨e0, e1, e2⟩⟩, hb1⟩))
        all_goals
          go_wp2_with fail
          go_ret
          exact ⟨by rw [← not_any_not, HE.out]; rfl, bext HB.out (bext (Below.refl _ _).drew hb1.out)⟩
      | true =>
        rw [hd] at hC
        have HC := Lib.hid (part_post3 (W := wr.drew) (B := w.heap.size) d0 d1 d2 ⟨e0, e1, e2⟩ hC)
        have HE := Lib.hid (any_take (q := (fun t => !holdsX tags n t)) hlt HN.out (by rw [hd]; rfl))
        clear hC hf' hn' hd hbd
        go_wp2_with fail
        go_region_held3 (fun w' => (w'.cell? ⟨w.heap.size, 0, none⟩ = some (.string ⟨#[38, 38]⟩) ∧ w'.cell? ⟨w.heap.size, 1, none⟩ = some (.string ⟨#[]⟩) ∧ w'.cell? ⟨w.heap.size, 2, none⟩ = some (.slice (some ⟨b, off, none⟩) ks.length c)) ∧
            (w'.cell? ⟨b, off + k * 3, none⟩ = some (.string ⟨ks[k].op.toArray⟩) ∧ w'.cell? ⟨b, off + k * 3 + 1, none⟩ = some (.string ⟨ks[k].tag.toArray⟩) ∧ w'.cell? ⟨b, off + k * 3 + 2, none⟩ = some (.slice a' ks[k].kids.length c'))) (go_keep)
          (first
            | (go_at_call 18
               refine HC.out.mono ?_
               rintro e w1 ⟨rfl, ⟨⟨d0, d1, d2⟩, ⟨e0, e1, e2⟩⟩, hb1⟩))
        all_goals
          go_wp2_with fail
          go_roundw
          case rel => exact ⟨k + 1, by omega, by go_num, HE.out, bext HB.out (bext (Below.refl _ _).drew hb1.out), d0, d1, d2⟩
          case measure => simp [intOf]; omega
    · obtain rfl : k = ks.length := by omega
      go_wp2_with fail
      go_ret
      have h9 := HN.out
      rw [List.take_length] at h9
      exact ⟨by rw [← not_any_not, h9]; rfl, HB.out⟩

set_option maxRecDepth 100000 in
set_option maxHeartbeats 4000000 in
theorem rholds_one (tags : List (List UInt8)) (n : Nat) (ih : RHoldsOk tags n) (ks : List Xp) (a at_ : Option Addr) (c ct : Nat) (w : World) (hk : Xids w Any a ks) (hks : ks.length ≤ 9223372036854775807) (hcap : ks.length ≤ c) (htc : tags.length ≤ ct) (hr : ∀ k, k ∈ ks → rightX n k = true) (hS : Strs w at_ tags) :
    Calls Tryd.prog 18 #[.agg #[.string ⟨#[124, 124]⟩, .string ⟨#[]⟩, .slice a ks.length c], .slice at_ tags.length ct] w fun e w' => e = .returned (.bool (ks.any (holdsX tags n))) ∧ Below w.heap.size w w' := by
  have HI := Lib.hid ih
  have HK := Lib.hid hk
  have HS := Lib.hid hS
  have HR := Lib.hid hr
  have HTC := Lib.hid htc
  have HB0 := Lib.hid (below_alloc w (.cells #[.string ⟨#[124, 124]⟩, .string ⟨#[]⟩, .slice a ks.length c] 24))
  obtain ⟨nt, hnt⟩ : ∃ nt, tags.length = nt := ⟨_, rfl⟩
  have HNT := Lib.hid hnt
  rw [hnt]
  clear ih hk hS hr hnt
  go_enter Tryd.func18, Tryd.ntmps18
  go_wp2_with fail
  go_loopw [5] (fun i wr => ∃ k : Nat, k ≤ ks.length ∧ i = .int .i64 k ∧ (ks.take k).any (holdsX tags n) = false ∧ Below w.heap.size w wr ∧
    (wr.cell? ⟨w.heap.size, 0, none⟩ = some (.string ⟨#[124, 124]⟩) ∧ wr.cell? ⟨w.heap.size, 1, none⟩ = some (.string ⟨#[]⟩) ∧ wr.cell? ⟨w.heap.size, 2, none⟩ = some (.slice a ks.length c))) (fun i _ => ks.length - (intOf i).toNat)
  case atStart => exact ⟨0, by omega, rfl, by simp, HB0.out, by simp [go_sem], by simp [go_sem], by simp [go_sem]⟩
  case round =>
    obtain ⟨k, hk1, rfl, hn, hb, d0, d1, d2⟩ := hrel
    have HN := Lib.hid hn
    have HB := Lib.hid hb
    clear hb hn
    by_cases hlt : k < ks.length
    · obtain ⟨b, off, a', c', ha, -, ⟨e0, e1, e2⟩, hf', hn'⟩ := (HK.out.on HB.out).get hlt
      subst ha
      have hbd : Below wr.heap.size wr wr.drew := (Below.refl _ _).drew
      have hC := HI.out ks[k] a' at_ c' ct wr.drew HTC.out (HR.out _ (List.getElem_mem hlt)) (hn'.on hbd) hf' ((HS.out.on HB.out).on hbd)
      rw [HNT.out] at hC
      have hbb : b < wr.heap.size := cell_lt1 e0
      have hBl : w.heap.size < wr.heap.size := cell_lt1 d0
      cases hd : holdsX tags n ks[k] with
      | true =>
        rw [hd] at hC
        have HC := Lib.hid (part_post3 (W := wr.drew) (B := w.heap.size) d0 d1 d2 ⟨e0, e1, e2⟩ hC)
        have HE := Lib.hid (any_at (q := (holdsX tags n)) hlt (by rw [hd]))
        clear hC hf' hn' hd hbd
        go_wp2_with fail
        go_region_held3 (fun w' => (w'.cell? ⟨w.heap.size, 0, none⟩ = some (.string ⟨#[124, 124]⟩) ∧ w'.cell? ⟨w.heap.size, 1, none⟩ = some (.string ⟨#[]⟩) ∧ w'.cell? ⟨w.heap.size, 2, none⟩ = some (.slice (some ⟨b, off, none⟩) ks.length c)) ∧
            (w'.cell? ⟨b, off + k * 3, none⟩ = some (.string ⟨ks[k].op.toArray⟩) ∧ w'.cell? ⟨b, off + k * 3 + 1, none⟩ = some (.string ⟨ks[k].tag.toArray⟩) ∧ w'.cell? ⟨b, off + k * 3 + 2, none⟩ = some (.slice a' ks[k].kids.length c'))) (go_keep)
          (first
            | (go_at_call 18
               refine HC.out.mono ?_
               rintro e w1 ⟨rfl, ⟨⟨d0, d1, d2⟩, ⟨e0, e1, e2⟩⟩, hb1⟩))
        all_goals
          go_wp2_with fail
          go_ret
          exact ⟨by rw [HE.out]; rfl, bext HB.out (bext (Below.refl _ _).drew hb1.out)⟩
      | false =>
        rw [hd] at hC
        have HC := Lib.hid (part_post3 (W := wr.drew) (B := w.heap.size) d0 d1 d2 ⟨e0, e1, e2⟩ hC)
        have HE := Lib.hid (any_take (q := (holdsX tags n)) hlt HN.out (by rw [hd]))
        clear hC hf' hn' hd hbd
        go_wp2_with fail
        go_region_held3 (fun w' => (w'.cell? ⟨w.heap.size, 0, none⟩ = some (.string ⟨#[124, 124]⟩) ∧ w'.cell? ⟨w.heap.size, 1, none⟩ = some (.string ⟨#[]⟩) ∧ w'.cell? ⟨w.heap.size, 2, none⟩ = some (.slice (some ⟨b, off, none⟩) ks.length c)) ∧
            (w'.cell? ⟨b, off + k * 3, none⟩ = some (.string ⟨ks[k].op.toArray⟩) ∧ w'.cell? ⟨b, off + k * 3 + 1, none⟩ = some (.string ⟨ks[k].tag.toArray⟩) ∧ w'.cell? ⟨b, off + k * 3 + 2, none⟩ = some (.slice a' ks[k].kids.length c'))) (go_keep)
          (first
            | (go_at_call 18
               refine HC.out.mono ?_
               rintro e w1 ⟨rfl, ⟨⟨d0, d1, d2⟩, ⟨e0, e1, e2⟩⟩, hb1⟩))
        all_goals
          go_wp2_with fail
          go_roundw
          case rel => exact ⟨k + 1, by omega, by go_num, HE.out, bext HB.out (bext (Below.refl _ _).drew hb1.out), d0, d1, d2⟩
          case measure => simp [intOf]; omega
    · obtain rfl : k = ks.length := by omega
      go_wp2_with fail
      go_ret
      have h9 := HN.out
      rw [List.take_length] at h9
      exact ⟨by rw [h9]; rfl, HB.out⟩

theorem rholds_any (tags : List (List UInt8)) (ht : tags.length ≤ 9223372036854775807) : ∀ (n : Nat), RHoldsOk tags n
  | 0 => fun t a at_ c ct w _ hR => by cases hR
  | n + 1 => fun t a at_ c ct w htc hR hk hf hS => by
    have ih := rholds_any tags ht n
    rcases right_cases hR with ⟨s, rfl, hs⟩ | ⟨k, rfl, hk1⟩ | ⟨l, rfl, hl, hl2⟩ | ⟨l, rfl, hl, hl2⟩
    · rw [holdsX_mk, if_neg (by decide), if_neg (by decide), if_neg (by decide)]
      exact rholds_leaf tags s a at_ c ct w hf.2.1 ht htc hS
    · rw [holdsX_mk, if_pos rfl]
      exact rholds_not tags n ih k a at_ c ct w hk hf.2.2.1 htc hk1 hS
    · rw [holdsX_mk, if_neg (by decide), if_pos rfl]
      exact rholds_both tags n ih l a at_ c ct w hk (by have := hf.2.2.1; have := hf.2.2.2.1; simp at *; omega) hf.2.2.1 htc hl2 hS
    · rw [holdsX_mk, if_neg (by decide), if_neg (by decide), if_pos rfl]
      exact rholds_one tags n ih l a at_ c ct w hk (by have := hf.2.2.1; have := hf.2.2.2.1; simp at *; omega) hf.2.2.1 htc hl2 hS
end Go.Proofs.YtagaoilgnhdebaaDoor
