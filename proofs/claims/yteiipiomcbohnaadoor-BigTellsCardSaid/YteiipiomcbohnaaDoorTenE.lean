/-
  the document's plain.
-/
import Derived.Test.YteiipiomcbohnaaDoorTenD
import Derived.Laws.BytesArg
namespace Go.Proofs.YteiipiomcbohnaaDoor.Ten
set_option linter.unusedSimpArgs false
set_option linter.unusedVariables false
open Go.RowKit

theorem infoU8 : (Tryd.prog.info? 5).map (fun i => (i.zero, i.size, i.bytes)) = some (some (.int .u8 0), 1, 1) := by kernel_rfl
theorem bmap_snoc (L : List Int) (x : Int) : L.map (Value.int .u8) ++ [Value.int .u8 x] = (L ++ [x]).map (Value.int .u8) := by simp
theorem brow_of_own {w : World} {base : Nat} {v : Value} {k : Nat} {L : List Int} (h : w.ownsRow base 5 1 v k (L.map (Value.int .u8))) (hk : L.length = k) :
    (k = 0 ∧ ∃ a c, v = .slice a 0 c) ∨ ∃ g cap, k ≠ 0 ∧ v = .slice (some ⟨g, 0, none⟩) k cap ∧ ∀ i, i < k → w.cell? ⟨g, 0 + i, none⟩ = some (.int .u8 (L.getD i 0)) := by
  by_cases h0 : k = 0
  · subst h0
    rcases h.2 with ⟨rfl, _⟩ | ⟨g, cap, cur, rfl, hbg, _, hnc, hcm, _⟩
    · exact .inl ⟨rfl, _, _, rfl⟩
    · exact .inl ⟨rfl, _, _, rfl⟩
  · rcases h.2 with ⟨rfl, h0'⟩ | ⟨g, cap, cur, rfl, hbg, _, hnc, hcm, _⟩
    · exact absurd h0' h0
    · refine .inr ⟨g, cap, h0, rfl, fun i hi => ?_⟩
      have hi' : i < L.length := by omega
      rw [Nat.zero_add, h.cellAt i (by omega), List.getElem?_map, List.getElem?_eq_getElem hi', List.getD_eq_getElem?_getD, List.getElem?_eq_getElem hi']; rfl

/-- The first n of the k lowest figures, from the highest on, as bytes. -/
def tops (l : List Int) (k n : Nat) : List Int := ((l.take k).reverse.take n).map fun d => 48 + d
theorem tops_step {l L : List Int} {k n j : Nat} (h : L = tops l k n) (hn : n < k) (hj : k - 1 - n = j) (hk : k ≤ l.length) : L ++ [48 + dgt l j] = tops l k (n + 1) := by
  subst h
  have hl : (l.take k).reverse.length = k := by simp; omega
  unfold tops
  rw [List.take_add_one, List.getElem?_eq_getElem (by omega), List.map_append]
  congr 1
  simp only [Option.toList_some, List.map_cons, List.map_nil]
  congr 2
  rw [dgt_at (by omega)]
  simp
  congr 1
  omega
theorem plain_zero {l : List Int} {k n : Nat} (hd : Dg l) (hv : val (l.take k) = val l) (hex : k ≤ 1 ∨ dgt l (k - 1) ≠ 0) (hk : k ≤ l.length) (h0 : n = 0) (hkn : n = k := by rfl) : Lib.decDigits (val l).toNat = [48] := by
  subst h0
  subst hkn
  rw [← hv]
  simp [val, dec_zero]
theorem plain_more {l L : List Int} {k : Nat} (hd : Dg l) (hv : val (l.take k) = val l) (hex : k ≤ 1 ∨ dgt l (k - 1) ≠ 0) (hk : k ≤ l.length) (h0 : k ≠ 0) (hL : L = tops l k k) : strOfNums L = ⟨(Lib.decDigits (val l).toNat).toArray⟩ := by
  have hM : L = (l.take k).reverse.map fun d => 48 + d := by rw [hL]; unfold tops; rw [List.take_of_length_le (by simp only [List.length_reverse, List.length_take]; omega)]
  clear hL
  unfold strOfNums
  congr 2
  obtain ⟨T, hT⟩ : ∃ T, L.map (fun n => UInt8.ofNat n.toNat) = T := ⟨_, rfl⟩
  rw [hT]
  have dM := hd.take k
  have hfr : fr T = l.take k := by
    rw [← hT, hM]
    unfold fr
    rw [← List.map_reverse, ← List.map_reverse, List.reverse_reverse, List.map_map, List.map_map]
    refine Eq.trans (List.map_congr_left (g := fun x => x) (fun x hx => ?_)) (by simp)
    obtain ⟨x0, x1⟩ := dM x hx
    have := nat_fig (d := x.toNat) (by omega)
    simp only [Function.comp]
    rw [show (48 + x).toNat = 48 + x.toNat by omega, this]
    omega
  have hTl : T.length = k := by rw [← fr_len, hfr]; simp; omega
  have hall : T.all figureB = true := by
    rw [List.all_eq_true]
    intro c hc
    rw [← hT, hM] at hc
    simp only [List.map_map, List.mem_map, Function.comp] at hc
    obtain ⟨x, hx, rfl⟩ := hc
    obtain ⟨x0, x1⟩ := dM x (List.mem_reverse.1 hx)
    rw [show (48 + x).toNat = 48 + x.toNat by omega]
    exact fig_ofNat (by omega)
  have hdv : dval T = val l := by rw [← val_fr', hfr, hv]
  have h1 := dec_of _ T rfl (by rintro rfl; exact h0 (by simpa using hTl.symm)) hall (by
    cases hT2 : T with
    | nil => rw [hT2] at hTl; exact absurd hTl.symm h0
    | cons c t =>
      by_cases hc : c = 48
      · right
        rcases hex with hk1 | hne
        · rw [hT2] at hTl
          have : t = [] := List.eq_nil_of_length_eq_zero (by simp at hTl; omega)
          rw [hc, this]
        · exfalso
          apply hne
          have e : dgt (fr T) (k - 1) = ((T[T.length - 1 - (k - 1)]'(by omega)).toNat : Int) - 48 := fr_at (by omega)
          have e2 : dgt (l.take k) (k - 1) = dgt l (k - 1) := by rw [dgt_at (by simp; omega), dgt_at (by omega)]; simp
          rw [hfr, e2] at e
          rw [e]
          have : T[T.length - 1 - (k - 1)]'(by omega) = c := by simp only [show T.length - 1 - (k - 1) = 0 by omega]; simp [hT2]
          rw [this, hc]
          rfl
      · left; simp [hc])
  rw [h1, hdv]

set_option maxRecDepth 100000 in
set_option maxHeartbeats 4000000 in
theorem plain_any (l : List Int) (a : Option Addr) (c : Nat) (w : World) (h1 : Row w a c l) (d1 : Dg l) (m1 : l.length ≤ 1000) :
    Calls Tryd.prog 71 #[.slice a l.length c] w fun e w' => e = .returned (.string ⟨(Lib.decDigits (val l).toNat).toArray⟩) ∧ Hid (Below w.heap.size w w') := by
  have H1 := Lib.hid h1
  have D1 := Lib.hid d1
  clear h1 d1
  obtain ⟨i0, hi, hz0, hz1, hz2⟩ := info_parts infoU8
  go_enter Tryd.func71, Tryd.ntmps71
  go_wp2
  go_loopw [3] (fun i wr => ∃ k : Nat, k ≤ l.length ∧ i = .int .i64 k ∧ Hid (val (l.take k) = val l) ∧ w = wr)
    (fun i _ => (intOf i).toNat)
  case atStart => exact ⟨l.length, Nat.le_refl _, rfl, Lib.hid (by rw [List.take_length]), rfl⟩
  case round =>
    obtain ⟨k, hkl, rfl, HV, rfl⟩ := hrel
    by_cases hk1 : 1 < k
    · obtain ⟨j, rfl⟩ : ∃ j, k = j + 1 := ⟨k - 1, by omega⟩
      have hjl : j < l.length := by omega
      obtain ⟨bb, off, rfl, hbl, hcs⟩ := H1.out.at (by omega)
      have hcx := hcs j hjl
      rw [← dgt_at hjl] at hcx
      clear hcs hbl
      by_cases hz : dgt l j = 0
      · have HV2 := Lib.hid (show val (l.take j) = val l by rw [← HV.out, val_take_dgt, hz]; omega)
        go_wp2
        go_roundw
        case rel => exact ⟨j, by omega, by go_num, HV2, by first | trivial | rfl⟩
        case measure => first | (simp [intOf]; done) | (simp [intOf]; omega)
      · have hex : j + 1 ≤ 1 ∨ dgt l (j + 1 - 1) ≠ 0 := .inr hz
        have hzb : (dgt l j == 0) = false := by simpa using hz
        clear hz
        have HEX := Lib.hid hex
        clear hex
        go_wp2
        clear hzb
        go_loopw [4, 5] (fun v i wr => ∃ (n : Nat) (L : List Int), n ≤ j + 1 ∧ i = .int .i64 (((j + 1 : Nat) : Int) - 1 - n) ∧ Hid (L = tops l (j + 1) n) ∧ Hid (L.length = n) ∧ wr.ownsRow w.heap.size 5 1 v n (L.map (Value.int .u8)) ∧ Below w.heap.size w wr)
          (fun _ i _ => (intOf i + 1).toNat)
        case atStart => exact ⟨0, [], by omega, by simp, Lib.hid rfl, Lib.hid rfl, World.ownsRow_nil _ _ _ _, Below.refl _ _⟩
        case round =>
          obtain ⟨n, L, hn, rfl, hL, hLn, hown, hb⟩ := hrel
          by_cases hlt : n < j + 1
          · obtain ⟨q, hj⟩ : ∃ q : Nat, ((j + 1 : Nat) : Int) - 1 - n = (q : Int) := ⟨j + 1 - 1 - n, by omega⟩
            have hj2 : (j : Int) - n = q := by omega
            have hj3 : (j : Int) + 1 - 1 - n = q := by omega
            have hjl : q < l.length := by omega
            obtain ⟨bb, off, ha9, hbl, hcs⟩ := H1.out.at (by omega)
            cases ha9
            have hcx := (hb.cell (p := ⟨bb, off + q, none⟩) hbl).trans (hcs q hjl)
            rw [← dgt_at hjl] at hcx
            obtain ⟨d0, d1⟩ := dgt_rng D1.out q
            have HS := Lib.hid (tops_step hL.out hlt (by omega : j + 1 - 1 - n = q) hkl)
            have h0j : (0 : Int) ≤ q := by omega
            clear hcs
            go_wp2_with (at_builtin; refine wpList_append_own _ rfl _ _ 76 rfl w.heap.size 5 i0 (.int .u8 0) 1 1 Tryd.underlying76 hi hz0 hz1 hz2 rfl (by decide) _ _ _ rfl (hown.alloc _) ⟨wr.heap.size, 0, none⟩ 1 1 [.int .u8 (48 + dgt l q)] rfl rfl (cell_one_new _ _ _) (by simp [Value.oneCell']) (by unfold maxLen; omega) (by omega) (by have := hb.size; simp; omega) ?_; intro v' w1 hown' hgrow _)
            have hb1 : Below w.heap.size w w1 := (hb.alloc hb.size _).grown hgrow (by have := hb.size; simp; omega) (fun j e => (hown.lt j e).1)
            rw [bmap_snoc] at hown'
            have HL2 := Lib.hid (show (L ++ [48 + dgt l q]).length = n + 1 by rw [List.length_append, hLn.out]; rfl)
            clear hown hgrow hb
            go_wp2
            go_roundw
            case rel => first | exact ⟨n + 1, _, by omega, by go_num, HS, HL2, hown', hb1⟩ | ((repeat apply Exists.intro); exact ⟨⟨n + 1, _, by omega, by go_num, HS, HL2, hown', hb1⟩, rfl⟩)
            case measure => simp [intOf]; omega
          · obtain rfl : n = j + 1 := by omega
            rcases brow_of_own hown hLn.out with ⟨hn0, a9, c9, rfl⟩ | ⟨g, cap, hgn, rfl, hcells⟩
            · have HR := Lib.hid (plain_zero D1.out HV.out HEX.out hkl hn0)
              go_wp2
              go_ret
              exact ⟨by rw [HR.out]; rfl, Lib.hid hb⟩
            · have hcv : ∀ dst, Tryd.prog.underlying dst = some .string → (convert 76 dst (.slice (some ⟨g, 0, none⟩) (j + 1) cap)).run Tryd.prog wr = .ok (.string (strOfNums L)) wr := run_convert_bytes_arg wr 76 5 Tryd.underlying76 Tryd.underlying5 g 0 (j + 1) cap L hLn.out hcells
              have hcs := hcv 9 Tryd.underlying9
              have HR := Lib.hid (plain_more D1.out HV.out HEX.out hkl hgn hL.out)
              clear hcv hcells
              go_wp2
              go_ret
              exact ⟨by rw [← HR.out]; rfl, Lib.hid hb⟩
    · have hex : k ≤ 1 ∨ dgt l (k - 1) ≠ 0 := .inl (by omega)
      have HEX := Lib.hid hex
      clear hex
      go_wp2
      go_loopw [4, 5] (fun v i wr => ∃ (n : Nat) (L : List Int), n ≤ k ∧ i = .int .i64 ((k : Int) - 1 - n) ∧ Hid (L = tops l k n) ∧ Hid (L.length = n) ∧ wr.ownsRow w.heap.size 5 1 v n (L.map (Value.int .u8)) ∧ Below w.heap.size w wr)
        (fun _ i _ => (intOf i + 1).toNat)
      case atStart => exact ⟨0, [], by omega, by simp, Lib.hid rfl, Lib.hid rfl, World.ownsRow_nil _ _ _ _, Below.refl _ _⟩
      case round =>
        obtain ⟨n, L, hn, rfl, hL, hLn, hown, hb⟩ := hrel
        by_cases hlt : n < k
        · obtain ⟨q, hj⟩ : ∃ q : Nat, (k : Int) - 1 - n = (q : Int) := ⟨k - 1 - n, by omega⟩
          have hjl : q < l.length := by omega
          obtain ⟨bb, off, ha9, hbl, hcs⟩ := H1.out.at (by omega)
          cases ha9
          have hcx := (hb.cell (p := ⟨bb, off + q, none⟩) hbl).trans (hcs q hjl)
          rw [← dgt_at hjl] at hcx
          obtain ⟨d0, d1⟩ := dgt_rng D1.out q
          have HS := Lib.hid (tops_step hL.out hlt (by omega : k - 1 - n = q) hkl)
          have h0j : (0 : Int) ≤ q := by omega
          clear hcs
          go_wp2_with (at_builtin; refine wpList_append_own _ rfl _ _ 76 rfl w.heap.size 5 i0 (.int .u8 0) 1 1 Tryd.underlying76 hi hz0 hz1 hz2 rfl (by decide) _ _ _ rfl (hown.alloc _) ⟨wr.heap.size, 0, none⟩ 1 1 [.int .u8 (48 + dgt l q)] rfl rfl (cell_one_new _ _ _) (by simp [Value.oneCell']) (by unfold maxLen; omega) (by omega) (by have := hb.size; simp; omega) ?_; intro v' w1 hown' hgrow _)
          have hb1 : Below w.heap.size w w1 := (hb.alloc hb.size _).grown hgrow (by have := hb.size; simp; omega) (fun j e => (hown.lt j e).1)
          rw [bmap_snoc] at hown'
          have HL2 := Lib.hid (show (L ++ [48 + dgt l q]).length = n + 1 by rw [List.length_append, hLn.out]; rfl)
          clear hown hgrow hb
          go_wp2
          go_roundw
          case rel => first | exact ⟨n + 1, _, by omega, by go_num, HS, HL2, hown', hb1⟩ | ((repeat apply Exists.intro); exact ⟨⟨n + 1, _, by omega, by go_num, HS, HL2, hown', hb1⟩, rfl⟩)
          case measure => simp [intOf]; omega
        · obtain rfl : n = k := by omega
          rcases brow_of_own hown hLn.out with ⟨hn0, a9, c9, rfl⟩ | ⟨g, cap, hgn, rfl, hcells⟩
          · have HR := Lib.hid (plain_zero D1.out HV.out HEX.out hkl hn0)
            go_wp2
            go_ret
            exact ⟨by rw [HR.out]; rfl, Lib.hid hb⟩
          · have hcv : ∀ dst, Tryd.prog.underlying dst = some .string → (convert 76 dst (.slice (some ⟨g, 0, none⟩) n cap)).run Tryd.prog wr = .ok (.string (strOfNums L)) wr := run_convert_bytes_arg wr 76 5 Tryd.underlying76 Tryd.underlying5 g 0 n cap L hLn.out hcells
            have hcs := hcv 9 Tryd.underlying9
            have HR := Lib.hid (plain_more D1.out HV.out HEX.out hkl hgn hL.out)
            clear hcv hcells
            go_wp2
            go_ret
            exact ⟨by rw [← HR.out]; rfl, Lib.hid hb⟩
end Go.Proofs.YteiipiomcbohnaaDoor.Ten
