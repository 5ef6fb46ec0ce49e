/-
  a number, written.
-/
import Derived.Test.YteiipiomcbohnaaDoorBgP
namespace Go.Proofs.YteiipiomcbohnaaDoor
set_option linter.unusedSimpArgs false
set_option linter.unusedVariables false
open Go.RowKit Go.Shelf
attribute [local go_sem] Oper.semAt_some

/-- The figures of a digit, as they are written at a place. -/
def fig9 (len : Nat) (x : Nat × Int) : List UInt8 := if x.1 < len - 1 then List.replicate (9 - (Lib.decDigits x.2.toNat).length) 48 ++ Lib.decDigits x.2.toNat else Lib.decDigits x.2.toNat
def rend (len : Nat) (pre : List (Nat × Int)) : List UInt8 := pre.foldl (fun t x => t ++ fig9 len x) []
theorem rend_snoc (len : Nat) (pre : List (Nat × Int)) (x : Nat × Int) : rend len (pre ++ [x]) = rend len pre ++ fig9 len x := by unfold rend; rw [List.foldl_append]; rfl
theorem val_pos_of_last {l : List Int} (hd : Dg l) (hc : Cn l) (hne : l ≠ []) : 0 < val l := by
  have h0 := val_nonneg hd
  rcases Int.lt_or_eq_of_le h0 with h | h
  · exact h
  · exfalso
    have e := cn_digs hd hc
    rw [← h] at e
    rw [show (0 : Int).toNat = 0 from rfl, digs_zero] at e
    exact hne e
theorem cn_drop {l : List Int} (hc : Cn l) {k : Nat} (hk : k < l.length) : Cn (l.drop k) := by
  unfold Cn at *
  rw [List.getLast?_drop, if_neg (by omega)]
  exact hc
theorem rend_come {n : Nat} (k : Nat) (h1 : 1 ≤ k) (hk : k ≤ (digs n).length) : rend (digs n).length (come (digs n) k) = Lib.decDigits (val ((digs n).drop ((digs n).length - k))).toNat := by
  induction k with
  | zero => omega
  | succ k ih =>
    rw [come_succ, rend_snoc]
    obtain ⟨i, hi⟩ : ∃ i, (digs n).length - 1 - k = i := ⟨_, rfl⟩
    rw [hi]
    have hin : i < (digs n).length := by omega
    have e1 : (digs n).length - (k + 1) = i := by omega
    have e2 : (digs n).drop i = dgt (digs n) i :: (digs n).drop (i + 1) := by rw [dgt_at hin]; exact List.drop_eq_getElem_cons hin
    have hr := dgt_rng (digs_dg n) i
    rw [e1, e2, val]
    unfold fig9
    by_cases h0 : k = 0
    · subst h0
      have hl : ¬ i < (digs n).length - 1 := by omega
      rw [if_neg hl, List.drop_of_length_le (by omega), val]
      simp [rend, come]
    · have ih' := ih (by omega) (by omega)
      have e3 : (digs n).length - k = i + 1 := by omega
      rw [e3] at ih'
      have hp := val_pos_of_last ((digs_dg n).drop (i + 1)) (cn_drop (digs_cn n) (by omega)) (fun e => by have := congrArg List.length e; simp at this; omega)
      have hl : i < (digs n).length - 1 := by omega
      rw [if_pos hl, ih', ← dec_nine (by omega) (by omega)]
      congr 1
      omega
theorem rend_all {n : Nat} (h : n ≠ 0) : rend (digs n).length (come (digs n) (digs n).length) = Lib.decDigits n := by
  have hl : (digs n).length ≠ 0 := fun e => h (digs_nil.1 (List.eq_nil_of_length_eq_zero e))
  rw [rend_come _ (by omega) (Nat.le_refl _), Nat.sub_self, List.drop_zero, val_digs]
  rfl
/-- A number's text. -/
def textB (b : Bool) (n : Nat) : List UInt8 := (if b then [45] else []) ++ Lib.decDigits n
theorem textB_itoa {b : Bool} {n : Nat} (h : Ok b n) : textB b n = Lib.itoa (sg b n) := by
  unfold textB Lib.itoa sg Ok at *
  cases b with
  | false => rw [if_neg (by simp)]; simp
  | true =>
    have := h rfl
    have e : (if true = true then -(n : Int) else (n : Int)) = -(n : Int) := rfl
    have e2 : -(n : Int) < 0 := by omega
    have e3 : (-(n : Int)).natAbs = n := by omega
    simp [e2, e3]
    intro hh
    exact absurd hh this

theorem Bld.ck {B b : Nat} {l : List UInt8} {W W' : World} (h : Bld B b l W) (k : CK W W') : Bld B b l W' := by
  have key : ∀ p, Lib.BuilderAtF 78 5 B b p (Lib.byteCells l) W → Lib.BuilderAtF 78 5 B b p (Lib.byteCells l) W' := by
    rintro p ⟨h1, v, h2, h3, h4⟩
    refine ⟨h1, v, k _ _ _ _ h2, ⟨h3.1, ?_⟩, h4⟩
    rcases h3.2 with h5 | ⟨g, cap, cur, fz, e1, e2, e3, e4⟩
    · exact .inl h5
    · exact .inr ⟨g, cap, cur, fz, e1, e2, k _ _ _ _ e3, e4⟩
  exact h.imp (key _) (key _)
theorem Bld.cells {B b : Nat} {l : List UInt8} {W : World} (h : Bld B b l W) : ∃ cs fr, W.heap[b]? = some (.cells cs 78 fr) := by
  rcases h with ⟨_, v, h2, _⟩ | ⟨_, v, h2, _⟩
  · exact ⟨_, _, h2⟩
  · exact ⟨_, _, h2⟩
theorem Bld.new (w : World) : Bld w.heap.size w.heap.size [] (w.alloc (.cells #[.pointer none, .slice none 0 0] 78)) := Lib.IsBuilderF.of (Lib.fresh_isBuilder _ _ w)
theorem keepsOthers_of_ok {B b : Nat} {l : List UInt8} {W W' : World} (h : Bld B b l W) (hb : Below B W W') (hk : Lib.OthersKept 5 (some b) W W') : KeepsOthers W W' :=
  ⟨hb.size, fun k o ho hc => hk k o ho (fun e => by
    obtain ⟨cs, fr, hx⟩ := h.cells
    obtain rfl := Option.some.inj e
    rw [hx] at ho
    obtain rfl := Option.some.inj ho
    cases hc) (fun c fz e => by rw [e] at hc; cases hc)⟩
theorem box_of_ok {b Bs : Nat} {cs : Array Value} {fr : Nat × Nat} {W W' : World} (hs : W.heap[Bs]? = some (.cells cs 41 fr)) (hne : Bs ≠ b) (hk : Lib.OthersKept 5 (some b) W W') : W'.heap[Bs]? = some (.cells cs 41 fr) :=
  hk Bs _ hs (fun e => hne (Option.some.inj e)) (fun c fz e => by cases e)
theorem repeat_any (k : Nat) (w : World) (hk : k ≤ 9) :
    Calls Tryd.prog 65 #[.string ⟨#[48]⟩, .int .i64 (9 - (k : Int))] w fun e w' => e = .returned (.string ⟨(List.replicate (9 - k) 48).toArray⟩) ∧ Below w.heap.size w w' := by
  have hrep : ∀ c, Lib.repeatL [48] c = List.replicate c 48 := fun c => by
    induction c with
    | zero => rfl
    | succ c ih => rw [Lib.repeatL, ih]; rfl
  have := Tryd.strings_Repeat ⟨#[48]⟩ (9 - k) w (by omega) (by simp [ByteArray.size]; omega)
  rw [show ((9 - k : Nat) : Int) = 9 - (k : Int) by omega] at this
  refine this.mono fun e w' ⟨he, hb⟩ => ⟨by rw [he, ← hrep (9 - k)], hb⟩

theorem bytes_app (k : Nat) (D : List UInt8) : (⟨Array.replicate k 48⟩ ++ ⟨D.toArray⟩ : ByteArray) = ⟨(List.replicate k 48 ++ D).toArray⟩ := by
  apply ByteArray.ext
  simp

set_option maxRecDepth 100000 in
set_option maxHeartbeats 4000000 in
theorem string_any (b : Bool) (n : Nat) (a : Option Addr) (c : Nat) (w : World) (hT : Tab w) (h : Row w a c (digs n)) (m1 : (digs n).length ≤ 1000) (hok : Ok b n) :
    Calls Tryd.prog 43 #[.agg #[.bool b, .slice a (digs (n)).length c]] w fun e w' => e = .returned (.string ⟨(Lib.itoa (sg b n)).toArray⟩) ∧ Below w.heap.size w w' := by
  have H := Lib.hid h
  have HT := Lib.hid hT
  have HK := Lib.hid hok
  have l1 := h.len63
  clear h hT hok
  refine callsIn_wide (n := 5).1 ?_
  have hn1 : 1 ≤ 5 := by omega
  refine callsIn_of_wp_marks Tryd.func43 rfl trivial ?_ rfl
  simp only [Tryd.ntmps43, List.size_toArray, List.length_cons, List.length_nil, Nat.reduceAdd, Nat.reduceSub, Array.replicate_succ, Array.replicate_zero, List.push_toArray, List.append_toArray, List.nil_append, List.cons_append]
  by_cases h0 : n = 0
  · subst h0
    have hl : ((digs 0).length == 0) = true := by rw [digs_zero]; rfl
    have hb : b = false := by cases b with | false => rfl | true => exact absurd rfl (HK.out rfl)
    subst hb
    gi_wp2
    refine ⟨_, results_tmp rfl _ _ _, ?_, below_alloc _ _⟩
    show Ending.returned (.string ⟨#[48]⟩) = Ending.returned (.string ⟨(Lib.itoa (sg false (0 : Nat))).toArray⟩)
    have : Lib.itoa (sg false ((0 : Nat) : Int)) = [48] := by decide +kernel
    rw [this]
  · have hl : ((digs n).length == 0) = false := by
      rw [beq_eq_false_iff_ne]; intro e; exact h0 (digs_nil.1 (List.eq_nil_of_length_eq_zero e))
    have H0 := Lib.hid h0
    clear h0
    cases b with
    | false =>
      obtain ⟨w2, hw2⟩ : ∃ w2, ((w.alloc (.cells #[.bool false, .slice a (digs n).length c] 43)).alloc (.cells #[.pointer none, .slice none 0 0] 78)) = w2 := ⟨_, rfl⟩
      have hb2 : Below w.heap.size w w2 := by rw [← hw2]; exact ((Below.refl _ w).alloc (Nat.le_refl _) _).alloc (by simp) _
      have hd2 : Bld (w.heap.size + 1) (w.heap.size + 1) [] w2 := by
        rw [← hw2]
        have := Bld.new (w.alloc (.cells #[.bool false, .slice a (digs n).length c] 43))
        rw [World.size_alloc] at this
        exact this
      have hx2 : w2.cell? ⟨w.heap.size, 1, none⟩ = some (.slice a (digs n).length c) := by rw [← hw2]; simp [go_sem]
      have hs2 : w2.heap.size = w.heap.size + 1 + 1 := by rw [← hw2]; simp
      have HW2 := Lib.hid hw2
      clear hw2
      have hd3 := hd2
      have hb3 := hb2
      have hx3 := hx2
      have hs3 : w.heap.size + 1 + 1 ≤ w2.heap.size := by omega
      clear hd2 hb2 hx2 hs2
      have HD3 := Lib.hid hd3
      have HB3 := Lib.hid hb3
      have HX3 := Lib.hid hx3
      have HS3 := Lib.hid hs3
      clear hd3 hb3 hs3
      clear hx3
      gi_wp2_with (refine ⟨trivial, ?_⟩; gi_at_call 64; refine (backward_in Fence.wide _ trivial rfl _ _ _ _).mono ?_; rintro e w' ⟨rfl, rfl⟩)
      rw [HW2.out, ← show w2.heap.size = w.heap.size + 1 + 1 by rw [← HW2.out]; simp]
      obtain ⟨w4, hw4⟩ : ∃ w4, w2.alloc (.cells #[.slice a (digs n).length c] 41) = w4 := ⟨_, rfl⟩
      have hb34 : Below w2.heap.size w2 w4 := by rw [← hw4]; exact below_alloc _ _
      have hit : w4.heap[w2.heap.size]? = some (.cells #[.slice a (digs n).length c] 41 (0, 0)) := by rw [← hw4]; exact heap_alloc_new _ _
      have hs4 : w4.heap.size = w2.heap.size + 1 := by rw [← hw4]; simp
      rw [hw4]
      have hs3 := HS3.out
      have hb4 : Below w.heap.size w w4 := bext HB3.out hb34
      have hxw : w4.cell? ⟨w.heap.size, 1, none⟩ = some (.slice a (digs n).length c) := (hb34.cell (p := ⟨w.heap.size, 1, none⟩) (by show w.heap.size < w2.heap.size; omega)).trans HX3.out
      refine wpIn_rangeFunc_ownF rfl hn1 (gf := 83) (lb := #[.pointer (some ⟨w2.heap.size, 0, none⟩)]) rfl trivial (enters_of Tryd.func83 (by kernel_rfl) rfl)
        (backward_stops Fence.wide (5 - 1) trivial rfl (by omega) (w2.heap.size) w.heap.size c a (digs n) w w4 H.out (Nat.le_refl _) (by omega) hb4 (by simp [World.cell?, hit]))
        KpB.t (fun W l o o' hl h hc hw => KpB.b (w := w4) (by omega) W l o o' hl h hc hw) (Below.refl _ _) (fun _ => rfl)
        (fun pre W => (Bld (w.heap.size + 1) (w.heap.size + 1) ([] ++ rend (digs n).length (pre.map (·.1))) W ∧ (rend (digs n).length (pre.map (·.1))).length ≤ 9 * pre.length ∧ W.cell? ⟨w.heap.size, 1, none⟩ = some (.slice a (digs n).length c) ∧ W.heap[w2.heap.size]? = some (.cells #[.slice a (digs n).length c] 41 (0, 0))) ∧ Below w.heap.size w W)
        (fun _ _ _ => False)
        (fun s A B row hs hg hr => by
          obtain ⟨⟨h1, h2, h3, h4⟩, hb⟩ := hs
          have hck : CK A B := CK.grown hg (fun r e => (hr r e).2)
          exact ⟨⟨h1.ck hck, h2, hck.cell h3 rfl, hck _ _ _ _ h4⟩, hb.grown hg hb.size (fun k e => by have := (hr k e).1; omega)⟩)
        (fun _ _ _ _ _ hs _ _ => hs)
        ⟨⟨by simpa [rend] using HD3.out.ck (CK.below hb34), by simp [rend], hxw, hit⟩, hb4⟩
        (fun x => { tmps := #[.agg #[.bool false, .slice a (digs (n)).length c], .pointer (some ⟨w.heap.size, 0, none⟩), .string ⟨#[]⟩, .pointer (some ⟨w.heap.size + 1, 0, none⟩), .int .i64 (x.1.1 : Int), .int .i64 x.1.2, undef, .pointer (some ⟨w.heap.size, 1, none⟩), .slice a (digs n).length c, .int .i64 (digs n).length, .bool false, .pointer (some ⟨w.heap.size, 0, none⟩), .bool false, undef, .pointer (some ⟨w.heap.size, 1, none⟩), .slice a (digs n).length c, .func (.func 83) #[] #[.pointer (some ⟨w2.heap.size, 0, none⟩)], .int .i64 (x.1.1 : Int), .int .i64 x.1.2, undef, undef, undef, undef, undef, undef, undef, undef, undef, undef, undef, undef, undef, undef, undef, undef, undef], defers := [] }) ?assignfalse ?bodyfalse ?donefalse ?stopfalse
      case assignfalse =>
        intro l x W K hK
        gi_wp2
        simpa [encP] using hK
      case bodyfalse =>
        rintro l pre X W ⟨⟨hd, hlen, hx, hbox⟩, hb⟩ hpl
        have hi0 := X.2.1
        have hq := dgt_rng (digs_dg n) X.1.1
        rw [← X.2.2] at hq
        have hfig : fig9 (digs n).length X.1 = if X.1.1 < (digs n).length - 1 then List.replicate (9 - (Lib.decDigits X.1.2.toNat).length) 48 ++ Lib.decDigits X.1.2.toNat else Lib.decDigits X.1.2.toNat := rfl
        obtain ⟨i, hi1⟩ : ∃ i, X.1.1 = i := ⟨_, rfl⟩
        obtain ⟨x, hx1⟩ : ∃ x, X.1.2 = x := ⟨_, rfl⟩
        rw [hi1, hx1]
        rw [hi1] at hi0 hfig
        rw [hx1] at hq hfig
        obtain ⟨q0, q1⟩ := hq
        obtain ⟨D, hD⟩ : ∃ D, Lib.decDigits x.toNat = D := ⟨_, rfl⟩
        rw [hD] at hfig
        have hD9 : D.length ≤ 9 := by rw [← hD]; exact dec_len_le (by omega) (by decide)
        have hI := itoa_any x W (by omega) (by omega) (HT.out.on hb)
        have hit2 : Lib.itoa x = D := by unfold Lib.itoa; rw [if_neg (by omega)]; exact hD
        rw [hit2] at hI
        have HI := Lib.hid hI
        have HBD := Lib.hid hd
        have HBX := Lib.hid hbox
        have HBW := Lib.hid hb
        have HFG := Lib.hid hfig
        have HIX := Lib.hid (show X.1.1 = i ∧ X.1.2 = x from ⟨hi1, hx1⟩)
        have hWs : w.heap.size + 1 < W.heap.size := by obtain ⟨cs, fr, h⟩ := hd.cells; exact (Array.getElem?_eq_some_iff.1 h).1
        have hxW := hx
        clear hd hbox hb hfig hI hit2 hD hi1 hx1
        gi_wp2
        refine ⟨trivial, (CallsIn.inRound l (callsIn_wide.2 HI.out)).mono ?_⟩
        rintro e w5 ⟨rfl, hb5⟩
        have HB5 := Lib.hid hb5
        have hx5 : w5.cell? ⟨w.heap.size, 1, none⟩ = some (.slice a (digs n).length c) := (hb5.cell (p := ⟨w.heap.size, 1, none⟩) (by show w.heap.size < W.heap.size; omega)).trans hx
        clear hb5 hx
        by_cases hlt : i < (digs n).length - 1
        · have hlt2 : (i : Int) < ((digs n).length : Int) - 1 := by omega
          gi_wp2
          refine ⟨trivial, (CallsIn.inRound l (callsIn_wide.2 (repeat_any D.length w5 hD9))).mono ?_⟩
          rintro e w6 ⟨rfl, hb6⟩
          have hB6 := bext HB5.out hb6
          have hS := writeString_any (w.heap.size + 1) (w.heap.size + 1) ([] ++ rend (digs n).length (pre.map (·.1))) (List.replicate (9 - D.length) 48 ++ D) w6 (HBD.out.ck (CK.below hB6)) (by simp; omega) (by have := hB6.size; omega)
          rw [← bytes_app] at hS
          rw [if_pos hlt] at HFG
          have HS := Lib.hid hS
          have HB6 := Lib.hid hB6
          clear hS hB6 hb6 hx5
          gi_wp2
          refine ⟨trivial, (CallsIn.inRound l (callsIn_wide.2 HS.out)).mono ?_⟩
          rintro e w7 ⟨⟨v7, rfl⟩, hd7, hb7, hk7⟩
          gi_wp2
          have hbd6 := HBD.out.ck (CK.below HB6.out)
          have hbox6 := (CK.below HB6.out) _ _ _ _ HBX.out
          have hbox7 := box_of_ok hbox6 (by omega) hk7
          have hfe : [] ++ rend (digs n).length ((pre ++ [X]).map (·.1)) = [] ++ rend (digs n).length (pre.map (·.1)) ++ fig9 (digs n).length X.1 := by
            rw [List.map_append, List.map_singleton, rend_snoc, List.append_assoc]
          refine ⟨(keepsOthers_of_below HB6.out).trans (keepsOthers_of_ok hbd6 hb7 hk7), ?_, ⟨?_, ?_, ?_, hbox7⟩, (HBW.out.trans (HB6.out.mono HBW.out.size)).trans (hb7.mono (by omega))⟩
          · refine (KpB.on HB6.out HBW.out.size).t ⟨hb7.mono (by omega), fun v hv => ?_⟩
            have e6 : w6.cell? ⟨w2.heap.size, 0, none⟩ = some (.slice a (digs n).length c) := by simp [World.cell?, hbox6]
            rw [e6] at hv
            rw [← Option.some.inj hv]
            simp [World.cell?, hbox7]
          · rw [hfe, HFG.out]; exact hd7
          · rw [List.map_append, List.map_singleton, rend_snoc, HFG.out]; simp only [List.length_append, List.length_singleton, List.length_replicate]; omega
          · exact (hb7.cell (p := ⟨w.heap.size, 1, none⟩) (by show w.heap.size < w.heap.size + 1; omega)).trans ((CK.below HB6.out).cell hxW rfl)
        · have hlt2 : ¬ (i : Int) < ((digs n).length : Int) - 1 := by omega
          have hS := writeString_any (w.heap.size + 1) (w.heap.size + 1) ([] ++ rend (digs n).length (pre.map (·.1))) D w5 (HBD.out.ck (CK.below HB5.out)) (by simp; omega) (by have := HB5.out.size; omega)
          rw [if_neg hlt] at HFG
          have HS := Lib.hid hS
          have HB6 := HB5
          clear hS
          gi_wp2
          refine ⟨trivial, (CallsIn.inRound l (callsIn_wide.2 HS.out)).mono ?_⟩
          rintro e w7 ⟨⟨v7, rfl⟩, hd7, hb7, hk7⟩
          gi_wp2
          have hbd6 := HBD.out.ck (CK.below HB6.out)
          have hbox6 := (CK.below HB6.out) _ _ _ _ HBX.out
          have hbox7 := box_of_ok hbox6 (by omega) hk7
          have hfe : [] ++ rend (digs n).length ((pre ++ [X]).map (·.1)) = [] ++ rend (digs n).length (pre.map (·.1)) ++ fig9 (digs n).length X.1 := by
            rw [List.map_append, List.map_singleton, rend_snoc, List.append_assoc]
          refine ⟨(keepsOthers_of_below HB6.out).trans (keepsOthers_of_ok hbd6 hb7 hk7), ?_, ⟨?_, ?_, ?_, hbox7⟩, (HBW.out.trans (HB6.out.mono HBW.out.size)).trans (hb7.mono (by omega))⟩
          · refine (KpB.on HB6.out HBW.out.size).t ⟨hb7.mono (by omega), fun v hv => ?_⟩
            have e6 : w5.cell? ⟨w2.heap.size, 0, none⟩ = some (.slice a (digs n).length c) := by simp [World.cell?, hbox6]
            rw [e6] at hv
            rw [← Option.some.inj hv]
            simp [World.cell?, hbox7]
          · rw [hfe, HFG.out]; exact hd7
          · rw [List.map_append, List.map_singleton, rend_snoc, HFG.out]; simp only [List.length_append, List.length_singleton, List.length_replicate]; omega
          · exact (hb7.cell (p := ⟨w.heap.size, 1, none⟩) (by show w.heap.size < w.heap.size + 1; omega)).trans ((CK.below HB6.out).cell hxW rfl)
      case donefalse =>
        rintro D ys W hD hys ⟨⟨hd, hlen, hx, hbox⟩, hb⟩ hK
        rw [hys, rend_all H0.out] at hd
        have hDb : D ≠ w.heap.size + 1 := by rintro rfl; omega
        have hWs : w.heap.size + 1 < W.heap.size := by obtain ⟨cs, fr, h⟩ := hd.cells; exact (Array.getElem?_eq_some_iff.1 h).1
        have hS := bstring_any (w.heap.size + 1) (w.heap.size + 1) _ W hd (by omega)
        have HE := Lib.hid (show ([] ++ Lib.decDigits n : List UInt8) = Lib.itoa (sg false n) from textB_itoa HK.out)
        have HS := Lib.hid hS
        clear hd hlen hx hbox hys hS
        gi_wp2
        refine ⟨trivial, (callsIn_wide.2 HS.out).mono ?_⟩
        rintro e w8 ⟨rfl, hb8, hk8⟩
        have hK8 : w8.heap[D]? = some (.deferred (some [])) := hk8 D _ hK (fun e => hDb (Option.some.inj e)) (fun c fz e => by cases e)
        gi_wp2
        refine ⟨by simp, .inl ⟨_, _, rfl, run_takeDeferred hK8, ?_⟩⟩
        refine ⟨_, results_tmp rfl _ _ _, ?_, (hb.trans (hb8.mono (by omega))).trans (belowK_b (w := w) (Nat.le_refl _) w8 D _ _ (by omega) hK8 rfl rfl)⟩
        rw [← HE.out]
        rfl
      case stopfalse =>
        rintro D c pre W _ _ h _
        exact h.elim
    | true =>
      obtain ⟨w2, hw2⟩ : ∃ w2, ((w.alloc (.cells #[.bool true, .slice a (digs n).length c] 43)).alloc (.cells #[.pointer none, .slice none 0 0] 78)) = w2 := ⟨_, rfl⟩
      have hb2 : Below w.heap.size w w2 := by rw [← hw2]; exact ((Below.refl _ w).alloc (Nat.le_refl _) _).alloc (by simp) _
      have hd2 : Bld (w.heap.size + 1) (w.heap.size + 1) [] w2 := by
        rw [← hw2]
        have := Bld.new (w.alloc (.cells #[.bool true, .slice a (digs n).length c] 43))
        rw [World.size_alloc] at this
        exact this
      have hx2 : w2.cell? ⟨w.heap.size, 1, none⟩ = some (.slice a (digs n).length c) := by rw [← hw2]; simp [go_sem]
      have hs2 : w2.heap.size = w.heap.size + 1 + 1 := by rw [← hw2]; simp
      have HW2 := Lib.hid hw2
      clear hw2
      have HD2 := Lib.hid hd2
      have HS2 := Lib.hid hs2
      have HB2 := Lib.hid hb2
      have HX2 := Lib.hid hx2
      clear hd2 hs2 hb2 hx2
      gi_wp2_with fail
      rw [HW2.out]
      refine ⟨trivial, (callsIn_wide.2 (writeByte_any (w.heap.size + 1) (w.heap.size + 1) [] 45 w2 HD2.out (by simp) (by have := HS2.out; omega))).mono ?_⟩
      rintro e w3 ⟨rfl, hd3, hb23, hk23⟩
      have hb3 : Below w.heap.size w w3 := HB2.out.trans (hb23.mono (by omega))
      have hx3 : w3.cell? ⟨w.heap.size, 1, none⟩ = some (.slice a (digs n).length c) := (hb23.cell (p := ⟨w.heap.size, 1, none⟩) (by show w.heap.size < w.heap.size + 1; omega)).trans HX2.out
      have hs3 : w.heap.size + 1 + 1 ≤ w3.heap.size := by have := hb23.size; have := HS2.out; omega
      rw [List.nil_append] at hd3
      clear hb23 hk23
      have HD3 := Lib.hid hd3
      have HB3 := Lib.hid hb3
      have HS3 := Lib.hid hs3
      clear hd3 hb3 hs3
      gi_wp2_with (refine ⟨trivial, ?_⟩; gi_at_call 64; refine (backward_in Fence.wide _ trivial rfl _ _ _ _).mono ?_; rintro e w' ⟨rfl, rfl⟩)
      obtain ⟨w4, hw4⟩ : ∃ w4, w3.alloc (.cells #[.slice a (digs n).length c] 41) = w4 := ⟨_, rfl⟩
      have hb34 : Below w3.heap.size w3 w4 := by rw [← hw4]; exact below_alloc _ _
      have hit : w4.heap[w3.heap.size]? = some (.cells #[.slice a (digs n).length c] 41 (0, 0)) := by rw [← hw4]; exact heap_alloc_new _ _
      have hs4 : w4.heap.size = w3.heap.size + 1 := by rw [← hw4]; simp
      rw [hw4]
      have hs3 := HS3.out
      have hb4 : Below w.heap.size w w4 := bext HB3.out hb34
      have hxw : w4.cell? ⟨w.heap.size, 1, none⟩ = some (.slice a (digs n).length c) := (hb34.cell (p := ⟨w.heap.size, 1, none⟩) (by show w.heap.size < w3.heap.size; omega)).trans hx3
      refine wpIn_rangeFunc_ownF rfl hn1 (gf := 83) (lb := #[.pointer (some ⟨w3.heap.size, 0, none⟩)]) rfl trivial (enters_of Tryd.func83 (by kernel_rfl) rfl)
        (backward_stops Fence.wide (5 - 1) trivial rfl (by omega) (w3.heap.size) w.heap.size c a (digs n) w w4 H.out (Nat.le_refl _) (by omega) hb4 (by simp [World.cell?, hit]))
        KpB.t (fun W l o o' hl h hc hw => KpB.b (w := w4) (by omega) W l o o' hl h hc hw) (Below.refl _ _) (fun _ => rfl)
        (fun pre W => (Bld (w.heap.size + 1) (w.heap.size + 1) ([45] ++ rend (digs n).length (pre.map (·.1))) W ∧ (rend (digs n).length (pre.map (·.1))).length ≤ 9 * pre.length ∧ W.cell? ⟨w.heap.size, 1, none⟩ = some (.slice a (digs n).length c) ∧ W.heap[w3.heap.size]? = some (.cells #[.slice a (digs n).length c] 41 (0, 0))) ∧ Below w.heap.size w W)
        (fun _ _ _ => False)
        (fun s A B row hs hg hr => by
          obtain ⟨⟨h1, h2, h3, h4⟩, hb⟩ := hs
          have hck : CK A B := CK.grown hg (fun r e => (hr r e).2)
          exact ⟨⟨h1.ck hck, h2, hck.cell h3 rfl, hck _ _ _ _ h4⟩, hb.grown hg hb.size (fun k e => by have := (hr k e).1; omega)⟩)
        (fun _ _ _ _ _ hs _ _ => hs)
        ⟨⟨by simpa [rend] using HD3.out.ck (CK.below hb34), by simp [rend], hxw, hit⟩, hb4⟩
        (fun x => { tmps := #[.agg #[.bool true, .slice a (digs (n)).length c], .pointer (some ⟨w.heap.size, 0, none⟩), .string ⟨#[]⟩, .pointer (some ⟨w.heap.size + 1, 0, none⟩), .int .i64 (x.1.1 : Int), .int .i64 x.1.2, undef, .pointer (some ⟨w.heap.size, 1, none⟩), .slice a (digs n).length c, .int .i64 (digs n).length, .bool false, .pointer (some ⟨w.heap.size, 0, none⟩), .bool true, .nilIface, .pointer (some ⟨w.heap.size, 1, none⟩), .slice a (digs n).length c, .func (.func 83) #[] #[.pointer (some ⟨w3.heap.size, 0, none⟩)], .int .i64 (x.1.1 : Int), .int .i64 x.1.2, undef, undef, undef, undef, undef, undef, undef, undef, undef, undef, undef, undef, undef, undef, undef, undef, undef], defers := [] }) ?assigntrue ?bodytrue ?donetrue ?stoptrue
      case assigntrue =>
        intro l x W K hK
        gi_wp2
        simpa [encP] using hK
      case bodytrue =>
        rintro l pre X W ⟨⟨hd, hlen, hx, hbox⟩, hb⟩ hpl
        have hi0 := X.2.1
        have hq := dgt_rng (digs_dg n) X.1.1
        rw [← X.2.2] at hq
        have hfig : fig9 (digs n).length X.1 = if X.1.1 < (digs n).length - 1 then List.replicate (9 - (Lib.decDigits X.1.2.toNat).length) 48 ++ Lib.decDigits X.1.2.toNat else Lib.decDigits X.1.2.toNat := rfl
        obtain ⟨i, hi1⟩ : ∃ i, X.1.1 = i := ⟨_, rfl⟩
        obtain ⟨x, hx1⟩ : ∃ x, X.1.2 = x := ⟨_, rfl⟩
        rw [hi1, hx1]
        rw [hi1] at hi0 hfig
        rw [hx1] at hq hfig
        obtain ⟨q0, q1⟩ := hq
        obtain ⟨D, hD⟩ : ∃ D, Lib.decDigits x.toNat = D := ⟨_, rfl⟩
        rw [hD] at hfig
        have hD9 : D.length ≤ 9 := by rw [← hD]; exact dec_len_le (by omega) (by decide)
        have hI := itoa_any x W (by omega) (by omega) (HT.out.on hb)
        have hit2 : Lib.itoa x = D := by unfold Lib.itoa; rw [if_neg (by omega)]; exact hD
        rw [hit2] at hI
        have HI := Lib.hid hI
        have HBD := Lib.hid hd
        have HBX := Lib.hid hbox
        have HBW := Lib.hid hb
        have HFG := Lib.hid hfig
        have HIX := Lib.hid (show X.1.1 = i ∧ X.1.2 = x from ⟨hi1, hx1⟩)
        have hWs : w.heap.size + 1 < W.heap.size := by obtain ⟨cs, fr, h⟩ := hd.cells; exact (Array.getElem?_eq_some_iff.1 h).1
        have hxW := hx
        clear hd hbox hb hfig hI hit2 hD hi1 hx1
        gi_wp2
        refine ⟨trivial, (CallsIn.inRound l (callsIn_wide.2 HI.out)).mono ?_⟩
        rintro e w5 ⟨rfl, hb5⟩
        have HB5 := Lib.hid hb5
        have hx5 : w5.cell? ⟨w.heap.size, 1, none⟩ = some (.slice a (digs n).length c) := (hb5.cell (p := ⟨w.heap.size, 1, none⟩) (by show w.heap.size < W.heap.size; omega)).trans hx
        clear hb5 hx
        by_cases hlt : i < (digs n).length - 1
        · have hlt2 : (i : Int) < ((digs n).length : Int) - 1 := by omega
          gi_wp2
          refine ⟨trivial, (CallsIn.inRound l (callsIn_wide.2 (repeat_any D.length w5 hD9))).mono ?_⟩
          rintro e w6 ⟨rfl, hb6⟩
          have hB6 := bext HB5.out hb6
          have hS := writeString_any (w.heap.size + 1) (w.heap.size + 1) ([45] ++ rend (digs n).length (pre.map (·.1))) (List.replicate (9 - D.length) 48 ++ D) w6 (HBD.out.ck (CK.below hB6)) (by simp; omega) (by have := hB6.size; omega)
          rw [← bytes_app] at hS
          rw [if_pos hlt] at HFG
          have HS := Lib.hid hS
          have HB6 := Lib.hid hB6
          clear hS hB6 hb6 hx5
          gi_wp2
          refine ⟨trivial, (CallsIn.inRound l (callsIn_wide.2 HS.out)).mono ?_⟩
          rintro e w7 ⟨⟨v7, rfl⟩, hd7, hb7, hk7⟩
          gi_wp2
          have hbd6 := HBD.out.ck (CK.below HB6.out)
          have hbox6 := (CK.below HB6.out) _ _ _ _ HBX.out
          have hbox7 := box_of_ok hbox6 (by omega) hk7
          have hfe : [45] ++ rend (digs n).length ((pre ++ [X]).map (·.1)) = [45] ++ rend (digs n).length (pre.map (·.1)) ++ fig9 (digs n).length X.1 := by
            rw [List.map_append, List.map_singleton, rend_snoc, List.append_assoc]
          refine ⟨(keepsOthers_of_below HB6.out).trans (keepsOthers_of_ok hbd6 hb7 hk7), ?_, ⟨?_, ?_, ?_, hbox7⟩, (HBW.out.trans (HB6.out.mono HBW.out.size)).trans (hb7.mono (by omega))⟩
          · refine (KpB.on HB6.out HBW.out.size).t ⟨hb7.mono (by omega), fun v hv => ?_⟩
            have e6 : w6.cell? ⟨w3.heap.size, 0, none⟩ = some (.slice a (digs n).length c) := by simp [World.cell?, hbox6]
            rw [e6] at hv
            rw [← Option.some.inj hv]
            simp [World.cell?, hbox7]
          · rw [hfe, HFG.out]; exact hd7
          · rw [List.map_append, List.map_singleton, rend_snoc, HFG.out]; simp only [List.length_append, List.length_singleton, List.length_replicate]; omega
          · exact (hb7.cell (p := ⟨w.heap.size, 1, none⟩) (by show w.heap.size < w.heap.size + 1; omega)).trans ((CK.below HB6.out).cell hxW rfl)
        · have hlt2 : ¬ (i : Int) < ((digs n).length : Int) - 1 := by omega
          have hS := writeString_any (w.heap.size + 1) (w.heap.size + 1) ([45] ++ rend (digs n).length (pre.map (·.1))) D w5 (HBD.out.ck (CK.below HB5.out)) (by simp; omega) (by have := HB5.out.size; omega)
          rw [if_neg hlt] at HFG
          have HS := Lib.hid hS
          have HB6 := HB5
          clear hS
          gi_wp2
          refine ⟨trivial, (CallsIn.inRound l (callsIn_wide.2 HS.out)).mono ?_⟩
          rintro e w7 ⟨⟨v7, rfl⟩, hd7, hb7, hk7⟩
          gi_wp2
          have hbd6 := HBD.out.ck (CK.below HB6.out)
          have hbox6 := (CK.below HB6.out) _ _ _ _ HBX.out
          have hbox7 := box_of_ok hbox6 (by omega) hk7
          have hfe : [45] ++ rend (digs n).length ((pre ++ [X]).map (·.1)) = [45] ++ rend (digs n).length (pre.map (·.1)) ++ fig9 (digs n).length X.1 := by
            rw [List.map_append, List.map_singleton, rend_snoc, List.append_assoc]
          refine ⟨(keepsOthers_of_below HB6.out).trans (keepsOthers_of_ok hbd6 hb7 hk7), ?_, ⟨?_, ?_, ?_, hbox7⟩, (HBW.out.trans (HB6.out.mono HBW.out.size)).trans (hb7.mono (by omega))⟩
          · refine (KpB.on HB6.out HBW.out.size).t ⟨hb7.mono (by omega), fun v hv => ?_⟩
            have e6 : w5.cell? ⟨w3.heap.size, 0, none⟩ = some (.slice a (digs n).length c) := by simp [World.cell?, hbox6]
            rw [e6] at hv
            rw [← Option.some.inj hv]
            simp [World.cell?, hbox7]
          · rw [hfe, HFG.out]; exact hd7
          · rw [List.map_append, List.map_singleton, rend_snoc, HFG.out]; simp only [List.length_append, List.length_singleton, List.length_replicate]; omega
          · exact (hb7.cell (p := ⟨w.heap.size, 1, none⟩) (by show w.heap.size < w.heap.size + 1; omega)).trans ((CK.below HB6.out).cell hxW rfl)
      case donetrue =>
        rintro D ys W hD hys ⟨⟨hd, hlen, hx, hbox⟩, hb⟩ hK
        rw [hys, rend_all H0.out] at hd
        have hDb : D ≠ w.heap.size + 1 := by rintro rfl; omega
        have hWs : w.heap.size + 1 < W.heap.size := by obtain ⟨cs, fr, h⟩ := hd.cells; exact (Array.getElem?_eq_some_iff.1 h).1
        have hS := bstring_any (w.heap.size + 1) (w.heap.size + 1) _ W hd (by omega)
        have HE := Lib.hid (show ([45] ++ Lib.decDigits n : List UInt8) = Lib.itoa (sg true n) from textB_itoa HK.out)
        have HS := Lib.hid hS
        clear hd hlen hx hbox hys hS
        gi_wp2
        refine ⟨trivial, (callsIn_wide.2 HS.out).mono ?_⟩
        rintro e w8 ⟨rfl, hb8, hk8⟩
        have hK8 : w8.heap[D]? = some (.deferred (some [])) := hk8 D _ hK (fun e => hDb (Option.some.inj e)) (fun c fz e => by cases e)
        gi_wp2
        refine ⟨by simp, .inl ⟨_, _, rfl, run_takeDeferred hK8, ?_⟩⟩
        refine ⟨_, results_tmp rfl _ _ _, ?_, (hb.trans (hb8.mono (by omega))).trans (belowK_b (w := w) (Nat.le_refl _) w8 D _ _ (by omega) hK8 rfl rfl)⟩
        rw [← HE.out]
        rfl
      case stoptrue =>
        rintro D c pre W _ _ h _
        exact h.elim
end Go.Proofs.YteiipiomcbohnaaDoor
