/-
  a number, read.
-/
import Derived.Test.YteiipiomcbohnaaDoorBgPl
import Derived.Test.YteiipiomcbohnaaDoorBgQ
namespace Go.Proofs.YteiipiomcbohnaaDoor
set_option linter.unusedSimpArgs false
set_option linter.unusedVariables false
open Go.RowKit

theorem cut_to (l : List UInt8) (k : Nat) : (⟨l.toArray⟩ : ByteArray).extract 0 k = ⟨(l.take k).toArray⟩ := by rw [ByteArray.extract_mk]; simp
theorem cut_from (l : List UInt8) (k : Nat) : (⟨l.toArray⟩ : ByteArray).extract k l.length = ⟨(l.drop k).toArray⟩ := by rw [ByteArray.extract_mk, List.take_of_length_le (by simp)]

/-- The figures of a text: without a '-'. -/
def figs (s : List UInt8) : List UInt8 := if s.head? = some 45 then s.drop 1 else s
theorem trim_eq (s : List UInt8) : Lib.trimPrefix s [45] = figs s ∧ Lib.hasPrefix s [45] = (s.head? == some 45) := by
  unfold Lib.trimPrefix Lib.hasPrefix figs
  cases s with
  | nil => simp
  | cons x r =>
    by_cases h : x = 45
    · subst h; simp
    · have h1 : ((45 : UInt8) == x) = false := by simpa using fun e => h e.symm
      have h2 : (x == (45 : UInt8)) = false := by simpa using h
      simp [List.isPrefixOf, h, h1, h2]
theorem numB_eq (s : List UInt8) : numB s = if plB (figs s) && !(s == [45, 48]) then some (sg (s.head? == some 45) (dval (figs s))) else none := by
  unfold numB figs sg
  by_cases h : s.head? = some 45
  · rw [if_pos h, if_pos h, h]
    rfl
  · have h2 : (s.head? == some 45) = false := by simpa using h
    have h3 : (s == [45, 48]) = false := by
      rw [beq_eq_false_iff_ne]; rintro rfl; exact h rfl
    rw [if_neg h, if_neg h, h2, h3]
    simp
theorem cut_any (s : List UInt8) (w : World) :
    Calls Tryd.prog 56 #[.string ⟨s.toArray⟩, .string ⟨#[45]⟩] w fun e w' => e = .returned (.tuple #[.string ⟨(figs s).toArray⟩, .bool (s.head? == some 45)]) ∧ w = w' := by
  have h := Tryd.strings_CutPrefix ⟨s.toArray⟩ ⟨#[45]⟩ w
  simp only [(trim_eq s).1, (trim_eq s).2] at h
  exact h.mono fun e w' ⟨he, hw⟩ => ⟨he, hw.symm⟩
/-- A number comes back, or none. -/
def ParsePost (s : List UInt8) (w : World) (e : Ending) (w' : World) : Prop :=
  match numB s with
  | some z => ∃ (b : Bool) (n : Nat) (a : Option Addr) (c : Nat), e = .returned (.tuple #[.agg #[.bool b, .slice a (digs (n)).length c], .bool true]) ∧ Hid (Ok b n ∧ sg b n = z ∧ Row w' a c (digs n) ∧ Below w.heap.size w w')
  | none => e = .returned (.tuple #[.agg #[.bool false, .slice none 0 0], .bool false]) ∧ Below w.heap.size w w'

theorem val_chunk (P : List UInt8) (L : List Int) (cut : Nat) (Cc : List UInt8) (hC : P.drop cut = Cc) (hl : Cc.length = P.length - cut) (hcut : P.length - 9 = cut) :
    dval P * pw L.length + val L = dval (P.take cut) * pw (L ++ [dval Cc]).length + val (L ++ [dval Cc]) := by
  have e : P = P.take cut ++ Cc := by rw [← hC, List.take_append_drop]
  have e2 := dval_app (P.take cut) Cc.length Cc rfl
  rw [← e] at e2
  rw [e2, val_snoc, List.length_append, List.length_singleton, pw]
  by_cases h : P.length ≤ 9
  · have h0 : cut = 0 := by omega
    subst h0
    simp only [List.take_zero, dval_nil, Int.zero_mul, Int.zero_add]
    rw [Int.mul_comm, Int.add_comm]
  · have h9 : Cc.length = 9 := by omega
    rw [h9]
    grind
theorem pow10_le {k : Nat} (h : k ≤ 9) : (10 : Int) ^ k ≤ 1000000000 := by
  have h1 := Nat.pow_le_pow_right (show 0 < 10 by decide) h
  have h2 : ((10 ^ k : Nat) : Int) ≤ ((10 ^ 9 : Nat) : Int) := Int.ofNat_le.2 h1
  simpa using h2
theorem res2_below {W W' : World} {B R : Nat} (hb : Below B W W') (hR : R < B) (h : (W.cell? ⟨R, 0, none⟩ = some (.bool false) ∧ W.cell? ⟨R, 1, none⟩ = some (.slice none 0 0) ∧ W.frozen? ⟨R, 0, none⟩ = false ∧ W.frozen? ⟨R, 1, none⟩ = false)) : (W'.cell? ⟨R, 0, none⟩ = some (.bool false) ∧ W'.cell? ⟨R, 1, none⟩ = some (.slice none 0 0) ∧ W'.frozen? ⟨R, 0, none⟩ = false ∧ W'.frozen? ⟨R, 1, none⟩ = false) := by
  obtain ⟨hc, hf⟩ := bcell hb
  exact ⟨(hc _ _ hR).trans h.1, (hc _ _ hR).trans h.2.1, (hf _ _ hR).trans h.2.2.1, (hf _ _ hR).trans h.2.2.2⟩
def strLen : Value → Nat
  | .string s => s.size
  | _ => 0
set_option maxRecDepth 100000 in
set_option maxHeartbeats 4000000 in
theorem parse_any (s : List UInt8) (w : World) (hs : s.length ≤ 9223372036854775807) :
    Calls Tryd.prog 36 #[.string ⟨s.toArray⟩] w (ParsePost s w) := by
  have hfl : (figs s).length ≤ 9223372036854775807 := by
    unfold figs
    split
    · rw [List.length_drop]; omega
    · exact hs
  have HNB := Lib.hid (numB_eq s)
  obtain ⟨ds, hds⟩ : ∃ ds, figs s = ds := ⟨_, rfl⟩
  obtain ⟨bl, hbl⟩ : ∃ bl, (s.head? == some 45) = bl := ⟨_, rfl⟩
  have hC := cut_any s (w.alloc (.cells #[.bool false, .slice none 0 0] 43))
  have hP := plain_any ds (w.alloc (.cells #[.bool false, .slice none 0 0] 43)) (by rw [← hds]; exact hfl)
  rw [hds, hbl] at hC HNB
  rw [hds] at hfl
  have HC := Lib.hid hC
  have HP := Lib.hid hP
  clear hC hP hds hbl
  go_enter Tryd.func36, Tryd.ntmps36
  go_wp2_with fail
  refine HC.out.mono ?_
  rintro e w' ⟨rfl, rfl⟩
  go_wp2_with fail
  cases hp : plainL ds with
  | false =>
    rw [hp] at HP
    refine HP.out.mono ?_
    rintro e w2 ⟨rfl, hb2⟩
    obtain ⟨z0, z1, z2, z3⟩ := res2_on (res2_new w rfl rfl) hb2
    have hb1 := bext (below_alloc w _) hb2
    have HB1 := Lib.hid hb1
    clear hb2 hb1
    have hN : numB s = none := by rw [HNB.out]; unfold plB; rw [hp]; rfl
    have HN := Lib.hid hN
    clear hN hp
    go_wp2
    have hq := res_cells (.bool false) (.slice none 0 0) z0 z1
    refine bodyPost_ret (v := .tuple #[.agg #[.bool false, .slice none 0 0], .bool false]) (by simp [results, Tryd.results36, go_sem, hq.1, hq.2]) rfl ?_
    unfold ParsePost
    rw [HN.out]
    exact ⟨rfl, (HB1.out.setCell (p := ⟨w.heap.size, 0, none⟩) (Nat.le_refl _) _).setCell (p := ⟨w.heap.size, 1, none⟩) (Nat.le_refl _) _⟩
  | true =>
    rw [hp] at HP
    refine HP.out.mono ?_
    rintro e w2 ⟨rfl, hb2⟩
    obtain ⟨z0, z1, z2, z3⟩ := res2_on (res2_new w rfl rfl) hb2
    have hb1 := bext (below_alloc w _) hb2
    have HB1 := Lib.hid hb1
    clear hb2 hb1
    have HPP := Lib.hid hp
    clear hp
    by_cases h160 : ds.length ≤ 160
    · cases h48 : (s == [45, 48]) with
      | true =>
        have hN : numB s = none := by rw [HNB.out, h48]; simp
        have HN := Lib.hid hN
        have hs48 : s = [45, 48] := by simpa using h48
        clear hN h48
        subst hs48
        go_wp2
        have hq := res_cells (.bool false) (.slice none 0 0) z0 z1
        refine bodyPost_ret (v := .tuple #[.agg #[.bool false, .slice none 0 0], .bool false]) (by simp [results, Tryd.results36, go_sem, hq.1, hq.2]) rfl ?_
        unfold ParsePost
        rw [HN.out]
        exact ⟨rfl, (HB1.out.setCell (p := ⟨w.heap.size, 0, none⟩) (Nat.le_refl _) _).setCell (p := ⟨w.heap.size, 1, none⟩) (Nat.le_refl _) _⟩
      | false =>
        have hY : numB s = some (sg bl (dval ds)) := by rw [HNB.out, h48]; unfold plB; rw [HPP.out, decide_eq_true h160]; rfl
        have HY := Lib.hid hY
        clear hY
        obtain ⟨i0, hi, hz0, hz1, hz2⟩ := info_parts infoInt
        have hlt2 : w.heap.size < w2.heap.size := cell_lt z0
        go_wp2
        obtain ⟨W3, hW3⟩ : ∃ W3, w2.alloc (.cells #[.bool bl, .slice none 0 0] 43) = W3 := ⟨_, rfl⟩
        have g0 : W3.cell? ⟨w2.heap.size, 0, none⟩ = some (.bool bl) := by rw [← hW3]; simp [go_sem]
        have g1 : W3.cell? ⟨w2.heap.size, 1, none⟩ = some (.slice none 0 0) := by rw [← hW3]; simp [go_sem]
        have f0 : W3.frozen? ⟨w2.heap.size, 0, none⟩ = false := by rw [← hW3]; simp [go_sem]
        have f1 : W3.frozen? ⟨w2.heap.size, 1, none⟩ = false := by rw [← hW3]; simp [go_sem]
        have hb3 : Below w.heap.size w W3 := by rw [← hW3]; exact bext HB1.out (below_alloc _ _)
        have hz3 : (W3.cell? ⟨w.heap.size, 0, none⟩ = some (.bool false) ∧ W3.cell? ⟨w.heap.size, 1, none⟩ = some (.slice none 0 0) ∧ W3.frozen? ⟨w.heap.size, 0, none⟩ = false ∧ W3.frozen? ⟨w.heap.size, 1, none⟩ = false) := by rw [← hW3]; exact res2_on ⟨z0, z1, z2, z3⟩ (below_alloc _ _)
        rw [hW3]
        clear z0 z1 z2 z3
        go_loopw [4] (fun dv wr => ∃ (P : List UInt8) (L : List Int) (v : Value), dv = .string ⟨P.toArray⟩ ∧ Hid (P.all figureB = true ∧ Dg L ∧ dval ds = dval P * pw L.length + val L) ∧ P.length + L.length ≤ 160 ∧
            wr.cell? ⟨w2.heap.size, 0, none⟩ = some (.bool bl) ∧ wr.cell? ⟨w2.heap.size, 1, none⟩ = some v ∧ wr.frozen? ⟨w2.heap.size, 0, none⟩ = false ∧ wr.frozen? ⟨w2.heap.size, 1, none⟩ = false ∧
            wr.ownsRow (w2.heap.size + 1) 3 1 v L.length (L.map (Value.int .i64)) ∧ Hid ((wr.cell? ⟨w.heap.size, 0, none⟩ = some (.bool false) ∧ wr.cell? ⟨w.heap.size, 1, none⟩ = some (.slice none 0 0) ∧ wr.frozen? ⟨w.heap.size, 0, none⟩ = false ∧ wr.frozen? ⟨w.heap.size, 1, none⟩ = false)) ∧ Below w.heap.size w wr)
          (fun dv _ => strLen dv)
        case atStart =>
          refine ⟨ds, [], _, rfl, Lib.hid ⟨?_, Dg.nil, by simp [val, pw]⟩, by simpa using h160, g0, g1, f0, f1, World.ownsRow_nil _ _ _ _, Lib.hid hz3, hb3⟩
          have := HPP.out
          unfold plainL at this
          rw [Bool.and_eq_true] at this
          exact this.1
        case round =>
          obtain ⟨P, L, v, rfl, hP, hPL, k0, k1, kf0, kf1, hown, hz, hb⟩ := hrel
          clear g0 g1 f0 f1
          cases P with
          | nil =>
            obtain ⟨a, c, rfl, hrow, -⟩ := row_of_own hown rfl
            have hT := trimmed_any bl L a c wr hrow hP.out.2.1
            have hv : val L = dval ds := by have := hP.out.2.2; rw [dval_nil, Int.zero_mul, Int.zero_add] at this; exact this.symm
            rw [hv] at hT
            have HT := Lib.hid hT
            have HB := Lib.hid hb
            clear hrow hT hv hown hb
            go_wp2_with fail
            refine HT.out.mono ?_
            rintro e w6 ⟨b', n', a', c', rfl, hr6⟩
            have hb6 := bext HB.out hr6.out.2.2.2
            obtain ⟨z0, z1, z2, z3⟩ := res2_on hz.out hr6.out.2.2.2
            have HB6 := Lib.hid hb6
            clear k0 k1 kf0 kf1 hb6
            go_wp2
            have hq := res_cells (.bool b') (.slice a' (digs n').length c') z0 z1
            refine bodyPost_ret (v := .tuple #[.agg #[.bool b', .slice a' (digs (n')).length c'], .bool true]) (by simp [results, Tryd.results36, go_sem, hq.1, hq.2]) rfl ?_
            unfold ParsePost
            rw [HY.out]
            refine ⟨b', n', a', c', rfl, Lib.hid ⟨hr6.out.1, hr6.out.2.1, ?_, (HB6.out.setCell (p := ⟨w.heap.size, 0, none⟩) (Nat.le_refl _) _).setCell (p := ⟨w.heap.size, 1, none⟩) (Nat.le_refl _) _⟩⟩
            refine (hr6.out.2.2.1.set z0 (fun i e => by cases e) _).set (p := ⟨w.heap.size, 1, none⟩) (v := .slice none 0 0) ?_ (fun i e => by cases e) _
            simp [go_sem, z1]
          | cons p0 P0 =>
            obtain ⟨P, hPd⟩ : ∃ P, p0 :: P0 = P := ⟨_, rfl⟩
            rw [hPd] at hP hPL ⊢
            have hPne : P.isEmpty = false := by rw [← hPd]; rfl
            clear hPd
            have hPl : 0 < P.length := by cases P with | nil => cases hPne | cons _ _ => simp
            obtain ⟨cut, hcut⟩ : ∃ cut, P.length - 9 = cut := ⟨_, rfl⟩
            have ecut : max ((P.length : Int) - 9) 0 = (cut : Int) := by omega
            obtain ⟨Cc, hCc⟩ : ∃ Cc, P.drop cut = Cc := ⟨_, rfl⟩
            have hCl : Cc.length = P.length - cut := by rw [← hCc]; simp
            have hCa : Cc.all figureB = true := by rw [← hCc, List.all_eq_true]; exact fun x hx => List.all_eq_true.1 hP.out.1 x (List.mem_of_mem_drop hx)
            have hTa : (P.take cut).all figureB = true := by rw [List.all_eq_true]; exact fun x hx => List.all_eq_true.1 hP.out.1 x (List.mem_of_mem_take hx)
            have hCr := dval_rng Cc.length Cc rfl hCa
            have hval := val_chunk P L cut Cc hCc hCl hcut
            obtain ⟨wo, rfl⟩ : ∃ wo : World, wo = wr := ⟨_, rfl⟩
            have HCC := Lib.hid hCc
            have HCUT := Lib.hid hcut
            have HCL := Lib.hid hCl
            have HCA := Lib.hid hCa
            have HCR := Lib.hid hCr
            have HVAL := Lib.hid hval
            have ECUT := Lib.hid ecut
            have c9 : Cc.length ≤ 9 := by omega
            have cl : cut < P.length := by omega
            clear hCc hcut hCl hCa hCr hval ecut
            go_wp2
            rw [ECUT.out, Int.toNat_natCast, cut_from, HCC.out]
            go_loopw [8] (fun dv wi => ∃ k : Nat, k ≤ Cc.length ∧ wi = wo.iter ⟨Cc.toArray⟩ k ∧ dv = .int .i64 (dval (Cc.take k))) (fun _ wi => Cc.length - wi.iterPos wo.heap.size)
            case atStart => exact ⟨0, by omega, rfl, rfl⟩
            case round =>
              obtain ⟨k, hk, rfl, rfl⟩ := hrel
              by_cases hlt : k < Cc.length
              · obtain ⟨r, n, hd, hn, hr, hc⟩ := rune_at Cc k hlt
                have hnx : ∀ ty, (Instr.next (.pointer (some ⟨wo.heap.size, 0, none⟩)) true ty).run Tryd.prog (wo.iter ⟨Cc.toArray⟩ k) = _ := fun ty => next_at wo Cc k hlt r n hd ty
                have hfg := figB.1 (List.all_eq_true.1 HCA.out Cc[k] (List.getElem_mem hlt))
                have hTk : (Cc.take k).length = k := by simp; omega
                have hTka : (Cc.take k).all figureB = true := by rw [List.all_eq_true]; exact fun x hx => List.all_eq_true.1 HCA.out x (List.mem_of_mem_take hx)
                obtain ⟨d0, d1⟩ := dval_rng k (Cc.take k) hTk hTka
                have d2 : dval (Cc.take k) < 1000000000 := by
                  have := pow10_le (k := k) (by omega)
                  omega
                have hds : dval (Cc.take (k + 1)) = 10 * dval (Cc.take k) + ((Cc[k].toNat : Int) - 48) := by
                  rw [List.take_succ_eq_append_getElem hlt, dval_snoc]
                obtain ⟨hr1, hn1⟩ : r = Cc[k].toNat ∧ n = 1 := by omega
                subst hn1
                have hr2 : 48 ≤ (r : Int) ∧ (r : Int) ≤ 57 := by omega
                obtain ⟨r0, r1⟩ := hr2
                have hds2 : dval (Cc.take (k + 1)) = 10 * dval (Cc.take k) + ((r : Int) - 48) := by rw [hds, hr1]
                have HDS := Lib.hid hds2
                clear hds hds2 hr1 hfg hTk hTka d1 hd hc hn hr
                go_wp2_with fail
                go_roundw
                case rel => exact ⟨k + 1, by omega, rfl, by rw [HDS.out]⟩
                case measure => simp; omega
              · have hnx : ∀ ty, (Instr.next (.pointer (some ⟨wo.heap.size, 0, none⟩)) true ty).run Tryd.prog (wo.iter ⟨Cc.toArray⟩ k) = _ := fun ty => next_out wo Cc k hlt ty
                obtain rfl : k = Cc.length := by omega
                rw [List.take_length]
                have hbI : Below wo.heap.size wo (wo.iter ⟨Cc.toArray⟩ Cc.length) := below_iter _ _ _
                have hcw9 := pow10_le c9
                have hd0 := HCR.out.1
                have hd1 : dval Cc < 1000000000 := by have := HCR.out.2; omega
                obtain ⟨hcI, hfI⟩ := bcell hbI
                have m0 := (hcI _ _ (cell_lt k0)).trans k0
                have m1 := (hcI _ _ (cell_lt k1)).trans k1
                have mf0 := (hfI _ _ (cell_lt k0)).trans kf0
                have mf1 := (hfI _ _ (cell_lt k0)).trans kf1
                have hownI := (CK.below hbI).own hown
                have hzI := (CK.below hbI).res hz.out
                have hbW := hb.trans (hbI.mono hb.size)
                have hsI : w2.heap.size + 1 ≤ (wo.iter ⟨Cc.toArray⟩ Cc.length).heap.size := by have := cell_lt m0; simp only at this; omega
                obtain ⟨Dc, hDc⟩ : ∃ Dc, dval Cc = Dc := ⟨_, rfl⟩
                rw [hDc] at hd0 hd1 HVAL ⊢
                have hLl : L.length ≤ 160 := by omega
                have HBW := Lib.hid hbW
                have HZI := Lib.hid hzI
                have HTA := Lib.hid hTa
                have HCT := Lib.hid (cut_to P cut)
                clear hcI hfI hbI k0 k1 kf0 kf1 hown hDc hcw9 hz hb hbW hzI hTa
                go_wp2_with (at_builtin; refine wpList_append_own _ rfl _ _ 41 rfl (w2.heap.size + 1) 3 i0 (.int .i64 0) 1 8 Tryd.underlying41 hi hz0 hz1 hz2 rfl (by decide) _ _ _ rfl (hownI.alloc _) ⟨(wo.iter ⟨Cc.toArray⟩ Cc.length).heap.size, 0, none⟩ 1 1 [.int .i64 Dc] rfl rfl (cell_one_new _ _ _) (by simp [Value.oneCell']) (by unfold maxLen; omega) (by omega) (by simp; omega) ?_; intro v' w5 hown' hgrow _; obtain ⟨g', cap', rfl⟩ := ownsRow_succ hown'; have hb5 : Below (w2.heap.size + 1) (wo.iter ⟨Cc.toArray⟩ Cc.length) w5 := ((Below.refl _ _).alloc hsI _).grown hgrow (by simp; omega) (fun j e => (hownI.lt j e).1); obtain ⟨hc5, hf5⟩ := bcell hb5; have p0 := (hc5 _ _ (Nat.lt_succ_self w2.heap.size)).trans m0; have p1 := (hc5 _ _ (Nat.lt_succ_self w2.heap.size)).trans m1; have pf0 := (hf5 _ 0 (Nat.lt_succ_self w2.heap.size)).trans mf0; have pf1 := (hf5 _ 1 (Nat.lt_succ_self w2.heap.size)).trans mf1; have hlt5 : w2.heap.size + 1 ≤ w5.heap.size := Nat.le_trans hsI hb5.size; clear hc5 hf5)
                have hDg := hP.out.2.1.snoc hd0 hd1
                have hVal := hP.out.2.2.trans HVAL.out
                have HDg := Lib.hid (show (P.take cut).all figureB = true ∧ Dg (L ++ [Dc]) ∧ dval ds = dval (P.take cut) * pw (L ++ [Dc]).length + val (L ++ [Dc]) from ⟨HTA.out, hDg, hVal⟩)
                clear hDg hVal
                go_roundw
                case rel =>
                  refine ⟨P.take cut, L ++ [Dc], _, by rw [HCT.out], HDg, by simp; omega, ?_, World.cell?_setCell_same' _ _ _ (by rw [p1]; rfl), ?_, ?_, ?_, Lib.hid ?_, ?_⟩
                  · simp [go_sem, p0]
                  · simp [go_sem, pf0]
                  · simp [go_sem, pf1]
                  · have := own_set (p := ⟨w2.heap.size, 1, none⟩) (u := .slice (some ⟨g', 0, none⟩) (L.length + 1) cap') hown' (fun e => by have := (hown'.lt _ e).1; simp only at this; omega)
                    rw [map_snoc] at this
                    rw [List.length_append, List.length_singleton]
                    exact this
                  · have hz5 := res2_below hb5 (by omega) HZI.out
                    exact ⟨cell_far hz5.1 (by show w2.heap.size ≠ w.heap.size; omega), cell_far hz5.2.1 (by show w2.heap.size ≠ w.heap.size; omega), by simp [go_sem, hz5.2.2.1], by simp [go_sem, hz5.2.2.2]⟩
                  · exact (HBW.out.trans (hb5.mono (by omega))).setCell (p := ⟨w2.heap.size, 1, none⟩) (by show w.heap.size ≤ w2.heap.size; omega) _
                case measure => simp [strLen, ByteArray.size]; omega
    · have hN : numB s = none := by rw [HNB.out]; unfold plB; rw [decide_eq_false h160]; simp
      have HN := Lib.hid hN
      clear hN
      go_wp2
      have hq := res_cells (.bool false) (.slice none 0 0) z0 z1
      refine bodyPost_ret (v := .tuple #[.agg #[.bool false, .slice none 0 0], .bool false]) (by simp [results, Tryd.results36, go_sem, hq.1, hq.2]) rfl ?_
      unfold ParsePost
      rw [HN.out]
      exact ⟨rfl, (HB1.out.setCell (p := ⟨w.heap.size, 0, none⟩) (Nat.le_refl _) _).setCell (p := ⟨w.heap.size, 1, none⟩) (Nat.le_refl _) _⟩
end Go.Proofs.YteiipiomcbohnaaDoor
