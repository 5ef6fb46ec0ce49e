/-
  ver: versions' texts and minors, walked.
-/
import Derived.Lib.OthersKept
import Derived.Lib.AppendIntMem
import Derived.Lib.AtoiAllCases
import Derived.Lib.SmallJoins
import Derived.Lib.IndexMore
import Derived.Test.YtgldnkpanimihaaDoorShelf
import Derived.Test.YtgldnkpanimihaaDoorBgB
import Derived.Test.YtgldnkpanimihaaDoorVrA
namespace Go.Proofs.YtgldnkpanimihaaDoor
set_option linter.unusedSimpArgs false
set_option linter.unusedVariables false
open Go.RowKit

theorem var_on {P : Program} {w w' : World} {name : String} {cs : Array Value} (h : w.var? P name = some cs) (hb : Below w.heap.size w w') : w'.var? P name = some cs := by
  unfold World.var? at h ⊢
  cases hg : P.globalNamed name with
  | none => rw [hg] at h; cases h
  | some g =>
    rw [hg] at h
    simp only [Option.bind_some] at h ⊢
    cases hx : w.heap[g]? with
    | none => rw [hx] at h; cases h
    | some o =>
      rw [hb.block g (Array.getElem?_eq_some_iff.1 hx).1, hx]
      rw [hx] at h
      exact h
/-- The library's MaxLen is some number. -/
def Glob (w : World) : Prop := ∃ m, w.cell? ⟨0, 0, none⟩ = some (.int .i64 m)
theorem cell_lt0 {w : World} {p : Addr} {v : Value} (h : w.cell? p = some v) : p.block < w.heap.size := by
  unfold World.cell? at h
  rcases Nat.lt_or_ge p.block w.heap.size with hl | hl
  · exact hl
  · simp only [Array.getElem?_eq_none hl] at h
    cases h
theorem Glob.on {w w' : World} (h : Glob w) (hb : Below w.heap.size w w') : Glob w' := h.elim fun m h => ⟨m, (hb.cell (cell_lt0 h)).trans h⟩
def Tab (w : World) : Prop := Lib.TabIs Tryd.prog w "internal/strconv.uint64pow10" .u64 Lib.pow10Tab
theorem Tab.on {w w' : World} (h : Tab w) (hb : Below w.heap.size w w') : Tab w' := var_on h hb
def Vr (n : String) (w : World) : Prop := ∃ tp p, w.var? Tryd.prog n = some #[.iface tp p]
theorem Vr.on {n : String} {w w' : World} (h : Vr n w) (hb : Below w.heap.size w w') : Vr n w' := h.elim fun tp h => h.elim fun p h => ⟨tp, p, var_on h hb⟩
/-- What the library's variables hold. -/
structure Env (w : World) : Prop where
  glob : Glob w
  tab : Tab w
  rng : Vr "strconv.ErrRange" w
  syn : Vr "strconv.ErrSyntax" w
theorem Env.on {w w' : World} (h : Env w) (hb : Below w.heap.size w w') : Env w' := ⟨h.glob.on hb, h.tab.on hb, h.rng.on hb, h.syn.on hb⟩

theorem below_drewN' (w : World) (n : Nat) : Below w.heap.size w (w.drewN n) := ⟨rfl, rfl, rfl, Nat.le_refl _, fun _ _ => rfl⟩
theorem cut_any (s sep : List UInt8) (w : World) (hE : Env w) (hs : s.length ≤ 100000) :
    Calls Tryd.prog 27 #[.string ⟨s.toArray⟩, .string ⟨sep.toArray⟩] w fun e w' => e = .returned (.tuple #[.string ⟨(Lib.cut s sep).1.toArray⟩, .string ⟨(Lib.cut s sep).2.1.toArray⟩, .bool (Lib.cut s sep).2.2]) ∧ Hid (Below w.heap.size w w') :=
  hE.glob.elim fun m hm => (Tryd.strings_Cut ⟨s.toArray⟩ ⟨sep.toArray⟩ m w (by simp [ByteArray.size]; omega) hm).mono fun e w' ⟨he, n, hn⟩ => ⟨he, Lib.hid (by rw [hn]; exact below_drewN' w n)⟩
theorem itoa_any (n : Int) (w : World) (h0 : -9223372036854775808 ≤ n) (h1 : n ≤ 9223372036854775807) (hE : Env w) :
    Calls Tryd.prog 29 #[.int .i64 n] w fun e w' => e = .returned (.string ⟨(Lib.itoa n).toArray⟩) ∧ Hid (Below w.heap.size w w') :=
  (Tryd.strconv_Itoa n h0 h1 w hE.tab).mono fun e w' ⟨he, k, os, hw⟩ => ⟨he, Lib.hid (by rw [hw]; exact Lib.below_grow _ w (Nat.le_refl _) k os)⟩
theorem atoi_ok (s : List UInt8) (v : Int) (h : Lib.atoiAll s = .ok v) (w : World) (hs : s.length ≤ 100000) :
    Calls Tryd.prog 28 #[.string ⟨s.toArray⟩] w fun e w' => e = .returned (.tuple #[.int .i64 v, .nilIface]) ∧ Hid (Below w.heap.size w w') :=
  (Tryd.strconv_Atoi_ok ⟨s.toArray⟩ (by simp [ByteArray.size]; omega) v h w).mono fun e w' ⟨he, hw⟩ => ⟨he, Lib.hid (by
    rcases hw with rfl | ⟨t, rfl⟩
    · exact Below.refl _ _
    · exact Go.Joins.below_bytesWorld _ _ _ _ (Nat.le_refl _))⟩
/-- Told by an error: a number, and something that is not nil. -/
theorem atoi_err (s : List UInt8) (h : ∀ v, Lib.atoiAll s ≠ .ok v) (w : World) (hE : Env w) (hs : s.length ≤ 100000) :
    Calls Tryd.prog 28 #[.string ⟨s.toArray⟩] w fun e w' => ∃ (z : Int) (N : Nat), e = .returned (.tuple #[.int .i64 z, .iface 74 (.pointer (some ⟨N, 0, none⟩))]) ∧ Hid (Below w.heap.size w w') := by
  have hsz : (⟨s.toArray⟩ : ByteArray).size ≤ 281474976710656 := by simp [ByteArray.size]; omega
  cases ha : Lib.atoiAll s with
  | ok v => exact absurd ha (h v)
  | «syntax» =>
    obtain ⟨tp, p, hv⟩ := hE.syn
    exact (Tryd.strconv_Atoi_syntax_var ⟨s.toArray⟩ hsz ha tp p w hv).mono fun e w' ⟨N, he, _, _, hb⟩ => ⟨0, N, he, Lib.hid hb⟩
  | range =>
    obtain ⟨tp, p, hv⟩ := hE.rng
    exact (Tryd.strconv_Atoi_range_var ⟨s.toArray⟩ hsz ha tp p w hv).mono fun e w' ⟨N, he, _, _, hb⟩ => ⟨_, N, he, Lib.hid hb⟩

/-- A text's number of at most 99; an error's number. -/
def numG (D : List UInt8) : Int × Int :=
  match Lib.atoiAll D with
  | .ok v => if Lib.itoa v = D ∧ 0 ≤ v ∧ v ≤ 99 then (v, 0) else (0, 6)
  | _ => (0, 6)
def cutG (rest sep : List UInt8) (other : Int × Int) : Int × Int :=
  if (Lib.cut rest sep).2.2 then (if allB figureI (Lib.cut rest sep).2.1 then numG (Lib.cut rest sep).1 else (0, 6)) else other
def minG (rest : List UInt8) : Int × Int := cutG rest [46] (cutG rest [114, 99] (cutG rest [98, 101, 116, 97] (numG rest)))
def minorG (s : List UInt8) : Int × Int := if Lib.hasPrefix s [49, 46] then minG (s.drop 2) else (0, 6)

theorem cut_len (s sep : List UInt8) : (Lib.cut s sep).1.length ≤ s.length ∧ (Lib.cut s sep).2.1.length ≤ s.length := by
  unfold Lib.cut
  split <;> simp <;> omega
/-- How a text's number may come out. -/
theorem num_cases (D : List UInt8) : (∃ v, Lib.atoiAll D = .ok v ∧ (-9223372036854775808 ≤ v ∧ v ≤ 9223372036854775807) ∧ ((Lib.itoa v == D) = false ∧ numG D = (0, 6) ∨ (Lib.itoa v = D ∧ (v < 0 ∧ numG D = (0, 6) ∨ (¬ v < 0 ∧ (99 < v ∧ numG D = (0, 6) ∨ ¬ 99 < v ∧ numG D = (v, 0))))))) ∨ ((∀ v, Lib.atoiAll D ≠ .ok v) ∧ numG D = (0, 6)) := by
  unfold numG
  cases h : Lib.atoiAll D with
  | «syntax» => exact .inr ⟨(fun v e => by cases e), rfl⟩
  | range => exact .inr ⟨(fun v e => by cases e), rfl⟩
  | ok v =>
    refine .inl ⟨v, rfl, Lib.atoiAll_bounds h, ?_⟩
    simp only
    by_cases h1 : Lib.itoa v = D
    · refine .inr ⟨h1, ?_⟩
      by_cases h2 : v < 0
      · exact .inl ⟨h2, if_neg (by omega)⟩
      · refine .inr ⟨h2, ?_⟩
        by_cases h3 : 99 < v
        · exact .inl ⟨h3, if_neg (by omega)⟩
        · exact .inr ⟨h3, if_pos ⟨h1, by omega, by omega⟩⟩
    · exact .inl ⟨by simpa using h1, if_neg (fun h => h1 h.1)⟩
/-- No part of the first k that cut. -/
def NoC (R : List UInt8) (k : Int) : Prop := (0 < k → (Lib.cut R [46]).2.2 = false) ∧ (1 < k → (Lib.cut R [114, 99]).2.2 = false) ∧ (2 < k → (Lib.cut R [98, 101, 116, 97]).2.2 = false)
def MinPost (r : Int × Int) (w : World) (e : Ending) (w' : World) : Prop := e = .returned (.tuple #[.int .i64 r.1, .int .i64 r.2]) ∧ Hid (Below w.heap.size w w')

set_option maxRecDepth 100000 in
set_option maxHeartbeats 16000000 in
theorem minor_any (s : List UInt8) (w : World) (hE : Env w) (hs : s.length ≤ 100000) :
    Calls Tryd.prog 14 #[.string ⟨s.toArray⟩] w (MinPost (minorG s) w) := by
  have hP := Tryd.strings_CutPrefix ⟨s.toArray⟩ ⟨([49, 46] : List UInt8).toArray⟩ w
  simp only [List.toList_toArray] at hP
  obtain ⟨V, hV⟩ : ∃ V, minorG s = V := ⟨_, rfl⟩
  have HE := Lib.hid hE
  clear hE
  rw [hV]
  cases hp : Lib.hasPrefix s [49, 46] with
  | false =>
    have HV := Lib.hid (show V = (0, 6) by rw [← hV, minorG, hp]; rfl)
    rw [hp] at hP
    have HP := Lib.hid hP
    clear hV hP hp
    go_enter Tryd.func14, Tryd.ntmps14
    go_wp2_with fail
    refine HP.out.mono ?_
    rintro e w' ⟨rfl, h9⟩
    obtain rfl := h9
    go_wp2
    refine bodyPost_ret (v := .tuple #[.int .i64 0, .int .i64 6]) (by simp [results, Tryd.results14, go_sem]) rfl ?_
    exact ⟨by rw [HV.out], Lib.hid (Below.refl _ _)⟩
  | true =>
    have hV2 : V = minG (s.drop 2) := by rw [← hV, minorG, hp]; rfl
    rw [hp, Lib.trimPrefix, hp, if_pos rfl] at hP
    have hrl : (s.drop 2).length ≤ 100000 := by simp; omega
    have hP : Calls Tryd.prog 26 #[.string ⟨s.toArray⟩, .string ⟨#[49, 46]⟩] w fun e w' => e = .returned (.tuple #[.string ⟨(s.drop 2).toArray⟩, .bool true]) ∧ w' = w := hP
    obtain ⟨R, hR⟩ : ∃ R, s.drop 2 = R := ⟨_, rfl⟩
    rw [hR] at hV2 hP hrl
    have HP := Lib.hid hP
    have HV := Lib.hid hV2
    have HC := Lib.hid fun sep wa (hE : Env wa) => cut_any R sep wa hE hrl
    have HALL := Lib.hid fun (l : List UInt8) (hl : l.length ≤ 100000) wa => all_any 23 (enters_of Tryd.func23 (by kernel_rfl) rfl) figureI (fun c h => figureI_lt h) figure_any l wa (by omega)
    clear hV hP hp hV2 hR
    have i0 : ∀ w, (Instr.index 57 (.agg #[.string ⟨#[46]⟩, .string ⟨#[114, 99]⟩, .string ⟨#[98, 101, 116, 97]⟩]) (.int .i64 0)).run Tryd.prog w = .ok (.string ⟨#[46]⟩) w := fun _ => by kernel_rfl
    have i1 : ∀ w, (Instr.index 57 (.agg #[.string ⟨#[46]⟩, .string ⟨#[114, 99]⟩, .string ⟨#[98, 101, 116, 97]⟩]) (.int .i64 1)).run Tryd.prog w = .ok (.string ⟨#[114, 99]⟩) w := fun _ => by kernel_rfl
    have i2 : ∀ w, (Instr.index 57 (.agg #[.string ⟨#[46]⟩, .string ⟨#[114, 99]⟩, .string ⟨#[98, 101, 116, 97]⟩]) (.int .i64 2)).run Tryd.prog w = .ok (.string ⟨#[98, 101, 116, 97]⟩) w := fun _ => by kernel_rfl
    go_enter Tryd.func14, Tryd.ntmps14
    go_wp2_with fail
    refine HP.out.mono ?_
    rintro e w' ⟨rfl, h9⟩
    obtain rfl := h9.symm
    go_wp2
    go_loopw [6, 23] (fun d i wr => ∃ k : Int, 0 ≤ k ∧ k ≤ 3 ∧ i = .int .i64 k ∧ d = .string ⟨R.toArray⟩ ∧ Hid (NoC R k) ∧ Hid (Below w.heap.size w wr))
      (fun _ i _ => 3 - (intOf i).toNat)
    case atStart => exact ⟨0, by omega, by omega, rfl, rfl, Lib.hid ⟨(fun h => by omega), (fun h => by omega), (fun h => by omega)⟩, Lib.hid (Below.refl _ _)⟩
    case round =>
      obtain ⟨k, hk0, hk, rfl, rfl, hno, hb⟩ := hrel
      have HEr := Lib.hid (HE.out.on hb.out)
      rcases (show k = 0 ∨ k = 1 ∨ k = 2 ∨ k = 3 by omega) with rfl | rfl | rfl | rfl
      · have hC := HC.out [46] wr HEr.out
        obtain ⟨la, lb⟩ := cut_len R [46]
        cases ht : (Lib.cut R [46]).2.2 with
        | false =>
          have HNX := Lib.hid (show NoC R 1 from ⟨(fun _ => ht), (fun h => by omega), (fun h => by omega)⟩)
          rw [ht] at hC
          have HC2 := Lib.hid hC
          clear hC ht
          go_wp2_with fail
          refine HC2.out.mono ?_
          rintro e w2 ⟨rfl, hw2⟩
          go_wp2
          go_roundw
          case rel => exact ⟨1, by omega, by omega, by first | rfl | go_num, rfl, HNX, Lib.hid (bext hb.out hw2.out)⟩
          case measure => simp [intOf]
        | true =>
          rw [ht] at hC
          obtain ⟨ah, hah⟩ : ∃ ah, (Lib.cut R [46]).1 = ah := ⟨_, rfl⟩
          obtain ⟨bh, hbh⟩ : ∃ bh, (Lib.cut R [46]).2.1 = bh := ⟨_, rfl⟩
          have hG : minG R = (if allB figureI bh then numG ah else (0, 6)) := by
            unfold minG
            rw [cutG, ht, if_pos rfl, hah, hbh]
          rw [hah] at la
          rw [hbh] at lb
          rw [hah, hbh] at hC
          have HC2 := Lib.hid hC
          have HAL := Lib.hid fun wa => HALL.out bh (by omega) wa
          clear hC ht hah hbh
          cases hf : allB figureI bh with
          | false =>
            rw [hf] at HAL hG
            have HG := Lib.hid (HV.out.trans hG)
            clear hf hG
            go_wp2_with fail
            refine HC2.out.mono ?_
            rintro e w2 ⟨rfl, hw2⟩
            go_wp2_with fail
            refine (HAL.out w2).mono ?_
            rintro e w3 ⟨rfl, hw3⟩
            go_wp2
            refine bodyPost_ret (v := .tuple #[.int .i64 0, .int .i64 6]) (by simp [results, Tryd.results14, go_sem]) rfl ?_
            exact ⟨by rw [HG.out, if_neg (by decide)], Lib.hid (bext (bext hb.out hw2.out) hw3.out)⟩
          | true =>
            rw [hf, if_pos rfl] at hG
            rw [hf] at HAL
            have HG := Lib.hid (HV.out.trans hG)
            clear hf hG
            go_wp2_with fail
            refine HC2.out.mono ?_
            rintro e w2 ⟨rfl, hw2⟩
            go_wp2_with fail
            refine (HAL.out w2).mono ?_
            rintro e w3 ⟨rfl, hw3⟩
            have HB3 := Lib.hid (bext (bext hb.out hw2.out) hw3.out)
            have HE3 := Lib.hid (HE.out.on HB3.out)
            rcases num_cases ah with ⟨v, hok, ⟨v0, v1⟩, ⟨hne, hN⟩ | ⟨hie, ⟨hneg, hN⟩ | ⟨hneg, ⟨hbig, hN⟩ | ⟨hbig, hN⟩⟩⟩⟩ | ⟨herr, hN⟩
            · have HN := Lib.hid hN
              have HA := Lib.hid (atoi_ok ah v hok w3 (by omega))
              have HI := Lib.hid fun wa (hE : Env wa) => itoa_any v wa v0 v1 hE
              skip
              clear hok hN
              go_wp2_with fail
              refine HA.out.mono ?_
              rintro e wa ⟨rfl, hwa⟩
              go_wp2_with fail
              refine (HI.out wa (HE3.out.on hwa.out)).mono ?_
              rintro e wb ⟨rfl, hwb⟩
              go_wp2
              refine bodyPost_ret (v := .tuple #[.int .i64 0, .int .i64 6]) (by simp [results, Tryd.results14, go_sem]) rfl ?_
              exact ⟨by rw [HG.out, HN.out], Lib.hid (bext (bext HB3.out hwa.out) hwb.out)⟩
            · have HN := Lib.hid hN
              have HA := Lib.hid (atoi_ok ah v hok w3 (by omega))
              have HI := Lib.hid fun wa (hE : Env wa) => itoa_any v wa v0 v1 hE
              rw [hie] at HI
              clear hok hN
              go_wp2_with fail
              refine HA.out.mono ?_
              rintro e wa ⟨rfl, hwa⟩
              go_wp2_with fail
              refine (HI.out wa (HE3.out.on hwa.out)).mono ?_
              rintro e wb ⟨rfl, hwb⟩
              go_wp2
              refine bodyPost_ret (v := .tuple #[.int .i64 0, .int .i64 6]) (by simp [results, Tryd.results14, go_sem]) rfl ?_
              exact ⟨by rw [HG.out, HN.out], Lib.hid (bext (bext HB3.out hwa.out) hwb.out)⟩
            · have HN := Lib.hid hN
              have HA := Lib.hid (atoi_ok ah v hok w3 (by omega))
              have HI := Lib.hid fun wa (hE : Env wa) => itoa_any v wa v0 v1 hE
              rw [hie] at HI
              clear hok hN
              go_wp2_with fail
              refine HA.out.mono ?_
              rintro e wa ⟨rfl, hwa⟩
              go_wp2_with fail
              refine (HI.out wa (HE3.out.on hwa.out)).mono ?_
              rintro e wb ⟨rfl, hwb⟩
              go_wp2
              refine bodyPost_ret (v := .tuple #[.int .i64 0, .int .i64 6]) (by simp [results, Tryd.results14, go_sem]) rfl ?_
              exact ⟨by rw [HG.out, HN.out], Lib.hid (bext (bext HB3.out hwa.out) hwb.out)⟩
            · have HN := Lib.hid hN
              have HA := Lib.hid (atoi_ok ah v hok w3 (by omega))
              have HI := Lib.hid fun wa (hE : Env wa) => itoa_any v wa v0 v1 hE
              rw [hie] at HI
              clear hok hN
              go_wp2_with fail
              refine HA.out.mono ?_
              rintro e wa ⟨rfl, hwa⟩
              go_wp2_with fail
              refine (HI.out wa (HE3.out.on hwa.out)).mono ?_
              rintro e wb ⟨rfl, hwb⟩
              go_wp2
              refine bodyPost_ret (v := .tuple #[.int .i64 v, .int .i64 0]) (by simp [results, Tryd.results14, go_sem]) rfl ?_
              exact ⟨by rw [HG.out, HN.out], Lib.hid (bext (bext HB3.out hwa.out) hwb.out)⟩
            · have HN := Lib.hid hN
              have HA := Lib.hid (atoi_err ah herr w3 (HE3.out) (by omega))
              clear herr hN
              go_wp2_with fail
              refine HA.out.mono ?_
              rintro e wa ⟨z, N, rfl, hwa⟩
              go_wp2
              refine bodyPost_ret (v := .tuple #[.int .i64 0, .int .i64 6]) (by simp [results, Tryd.results14, go_sem]) rfl ?_
              exact ⟨by rw [HG.out, HN.out], Lib.hid (bext HB3.out hwa.out)⟩
      · have hC := HC.out [114, 99] wr HEr.out
        obtain ⟨la, lb⟩ := cut_len R [114, 99]
        cases ht : (Lib.cut R [114, 99]).2.2 with
        | false =>
          have HNX := Lib.hid (show NoC R 2 from ⟨(fun _ => hno.out.1 (by omega)), (fun _ => ht), (fun h => by omega)⟩)
          rw [ht] at hC
          have HC2 := Lib.hid hC
          clear hC ht
          go_wp2_with fail
          refine HC2.out.mono ?_
          rintro e w2 ⟨rfl, hw2⟩
          go_wp2
          go_roundw
          case rel => exact ⟨2, by omega, by omega, by first | rfl | go_num, rfl, HNX, Lib.hid (bext hb.out hw2.out)⟩
          case measure => simp [intOf]
        | true =>
          rw [ht] at hC
          obtain ⟨ah, hah⟩ : ∃ ah, (Lib.cut R [114, 99]).1 = ah := ⟨_, rfl⟩
          obtain ⟨bh, hbh⟩ : ∃ bh, (Lib.cut R [114, 99]).2.1 = bh := ⟨_, rfl⟩
          have hG : minG R = (if allB figureI bh then numG ah else (0, 6)) := by
            unfold minG
            rw [cutG, hno.out.1 (by omega), if_neg (by decide)]
            rw [cutG, ht, if_pos rfl, hah, hbh]
          rw [hah] at la
          rw [hbh] at lb
          rw [hah, hbh] at hC
          have HC2 := Lib.hid hC
          have HAL := Lib.hid fun wa => HALL.out bh (by omega) wa
          clear hC ht hah hbh
          cases hf : allB figureI bh with
          | false =>
            rw [hf] at HAL hG
            have HG := Lib.hid (HV.out.trans hG)
            clear hf hG
            go_wp2_with fail
            refine HC2.out.mono ?_
            rintro e w2 ⟨rfl, hw2⟩
            go_wp2_with fail
            refine (HAL.out w2).mono ?_
            rintro e w3 ⟨rfl, hw3⟩
            go_wp2
            refine bodyPost_ret (v := .tuple #[.int .i64 0, .int .i64 6]) (by simp [results, Tryd.results14, go_sem]) rfl ?_
            exact ⟨by rw [HG.out, if_neg (by decide)], Lib.hid (bext (bext hb.out hw2.out) hw3.out)⟩
          | true =>
            rw [hf, if_pos rfl] at hG
            rw [hf] at HAL
            have HG := Lib.hid (HV.out.trans hG)
            clear hf hG
            go_wp2_with fail
            refine HC2.out.mono ?_
            rintro e w2 ⟨rfl, hw2⟩
            go_wp2_with fail
            refine (HAL.out w2).mono ?_
            rintro e w3 ⟨rfl, hw3⟩
            have HB3 := Lib.hid (bext (bext hb.out hw2.out) hw3.out)
            have HE3 := Lib.hid (HE.out.on HB3.out)
            rcases num_cases ah with ⟨v, hok, ⟨v0, v1⟩, ⟨hne, hN⟩ | ⟨hie, ⟨hneg, hN⟩ | ⟨hneg, ⟨hbig, hN⟩ | ⟨hbig, hN⟩⟩⟩⟩ | ⟨herr, hN⟩
            · have HN := Lib.hid hN
              have HA := Lib.hid (atoi_ok ah v hok w3 (by omega))
              have HI := Lib.hid fun wa (hE : Env wa) => itoa_any v wa v0 v1 hE
              skip
              clear hok hN
              go_wp2_with fail
              refine HA.out.mono ?_
              rintro e wa ⟨rfl, hwa⟩
              go_wp2_with fail
              refine (HI.out wa (HE3.out.on hwa.out)).mono ?_
              rintro e wb ⟨rfl, hwb⟩
              go_wp2
              refine bodyPost_ret (v := .tuple #[.int .i64 0, .int .i64 6]) (by simp [results, Tryd.results14, go_sem]) rfl ?_
              exact ⟨by rw [HG.out, HN.out], Lib.hid (bext (bext HB3.out hwa.out) hwb.out)⟩
            · have HN := Lib.hid hN
              have HA := Lib.hid (atoi_ok ah v hok w3 (by omega))
              have HI := Lib.hid fun wa (hE : Env wa) => itoa_any v wa v0 v1 hE
              rw [hie] at HI
              clear hok hN
              go_wp2_with fail
              refine HA.out.mono ?_
              rintro e wa ⟨rfl, hwa⟩
              go_wp2_with fail
              refine (HI.out wa (HE3.out.on hwa.out)).mono ?_
              rintro e wb ⟨rfl, hwb⟩
              go_wp2
              refine bodyPost_ret (v := .tuple #[.int .i64 0, .int .i64 6]) (by simp [results, Tryd.results14, go_sem]) rfl ?_
              exact ⟨by rw [HG.out, HN.out], Lib.hid (bext (bext HB3.out hwa.out) hwb.out)⟩
            · have HN := Lib.hid hN
              have HA := Lib.hid (atoi_ok ah v hok w3 (by omega))
              have HI := Lib.hid fun wa (hE : Env wa) => itoa_any v wa v0 v1 hE
              rw [hie] at HI
              clear hok hN
              go_wp2_with fail
              refine HA.out.mono ?_
              rintro e wa ⟨rfl, hwa⟩
              go_wp2_with fail
              refine (HI.out wa (HE3.out.on hwa.out)).mono ?_
              rintro e wb ⟨rfl, hwb⟩
              go_wp2
              refine bodyPost_ret (v := .tuple #[.int .i64 0, .int .i64 6]) (by simp [results, Tryd.results14, go_sem]) rfl ?_
              exact ⟨by rw [HG.out, HN.out], Lib.hid (bext (bext HB3.out hwa.out) hwb.out)⟩
            · have HN := Lib.hid hN
              have HA := Lib.hid (atoi_ok ah v hok w3 (by omega))
              have HI := Lib.hid fun wa (hE : Env wa) => itoa_any v wa v0 v1 hE
              rw [hie] at HI
              clear hok hN
              go_wp2_with fail
              refine HA.out.mono ?_
              rintro e wa ⟨rfl, hwa⟩
              go_wp2_with fail
              refine (HI.out wa (HE3.out.on hwa.out)).mono ?_
              rintro e wb ⟨rfl, hwb⟩
              go_wp2
              refine bodyPost_ret (v := .tuple #[.int .i64 v, .int .i64 0]) (by simp [results, Tryd.results14, go_sem]) rfl ?_
              exact ⟨by rw [HG.out, HN.out], Lib.hid (bext (bext HB3.out hwa.out) hwb.out)⟩
            · have HN := Lib.hid hN
              have HA := Lib.hid (atoi_err ah herr w3 (HE3.out) (by omega))
              clear herr hN
              go_wp2_with fail
              refine HA.out.mono ?_
              rintro e wa ⟨z, N, rfl, hwa⟩
              go_wp2
              refine bodyPost_ret (v := .tuple #[.int .i64 0, .int .i64 6]) (by simp [results, Tryd.results14, go_sem]) rfl ?_
              exact ⟨by rw [HG.out, HN.out], Lib.hid (bext HB3.out hwa.out)⟩
      · have hC := HC.out [98, 101, 116, 97] wr HEr.out
        obtain ⟨la, lb⟩ := cut_len R [98, 101, 116, 97]
        cases ht : (Lib.cut R [98, 101, 116, 97]).2.2 with
        | false =>
          have HNX := Lib.hid (show NoC R 3 from ⟨(fun _ => hno.out.1 (by omega)), (fun _ => hno.out.2.1 (by omega)), (fun _ => ht)⟩)
          rw [ht] at hC
          have HC2 := Lib.hid hC
          clear hC ht
          go_wp2_with fail
          refine HC2.out.mono ?_
          rintro e w2 ⟨rfl, hw2⟩
          go_wp2
          go_roundw
          case rel => exact ⟨3, by omega, by omega, by first | rfl | go_num, rfl, HNX, Lib.hid (bext hb.out hw2.out)⟩
          case measure => simp [intOf]
        | true =>
          rw [ht] at hC
          obtain ⟨ah, hah⟩ : ∃ ah, (Lib.cut R [98, 101, 116, 97]).1 = ah := ⟨_, rfl⟩
          obtain ⟨bh, hbh⟩ : ∃ bh, (Lib.cut R [98, 101, 116, 97]).2.1 = bh := ⟨_, rfl⟩
          have hG : minG R = (if allB figureI bh then numG ah else (0, 6)) := by
            unfold minG
            rw [cutG, hno.out.1 (by omega), if_neg (by decide)]
            rw [cutG, hno.out.2.1 (by omega), if_neg (by decide)]
            rw [cutG, ht, if_pos rfl, hah, hbh]
          rw [hah] at la
          rw [hbh] at lb
          rw [hah, hbh] at hC
          have HC2 := Lib.hid hC
          have HAL := Lib.hid fun wa => HALL.out bh (by omega) wa
          clear hC ht hah hbh
          cases hf : allB figureI bh with
          | false =>
            rw [hf] at HAL hG
            have HG := Lib.hid (HV.out.trans hG)
            clear hf hG
            go_wp2_with fail
            refine HC2.out.mono ?_
            rintro e w2 ⟨rfl, hw2⟩
            go_wp2_with fail
            refine (HAL.out w2).mono ?_
            rintro e w3 ⟨rfl, hw3⟩
            go_wp2
            refine bodyPost_ret (v := .tuple #[.int .i64 0, .int .i64 6]) (by simp [results, Tryd.results14, go_sem]) rfl ?_
            exact ⟨by rw [HG.out, if_neg (by decide)], Lib.hid (bext (bext hb.out hw2.out) hw3.out)⟩
          | true =>
            rw [hf, if_pos rfl] at hG
            rw [hf] at HAL
            have HG := Lib.hid (HV.out.trans hG)
            clear hf hG
            go_wp2_with fail
            refine HC2.out.mono ?_
            rintro e w2 ⟨rfl, hw2⟩
            go_wp2_with fail
            refine (HAL.out w2).mono ?_
            rintro e w3 ⟨rfl, hw3⟩
            have HB3 := Lib.hid (bext (bext hb.out hw2.out) hw3.out)
            have HE3 := Lib.hid (HE.out.on HB3.out)
            rcases num_cases ah with ⟨v, hok, ⟨v0, v1⟩, ⟨hne, hN⟩ | ⟨hie, ⟨hneg, hN⟩ | ⟨hneg, ⟨hbig, hN⟩ | ⟨hbig, hN⟩⟩⟩⟩ | ⟨herr, hN⟩
            · have HN := Lib.hid hN
              have HA := Lib.hid (atoi_ok ah v hok w3 (by omega))
              have HI := Lib.hid fun wa (hE : Env wa) => itoa_any v wa v0 v1 hE
              skip
              clear hok hN
              go_wp2_with fail
              refine HA.out.mono ?_
              rintro e wa ⟨rfl, hwa⟩
              go_wp2_with fail
              refine (HI.out wa (HE3.out.on hwa.out)).mono ?_
              rintro e wb ⟨rfl, hwb⟩
              go_wp2
              refine bodyPost_ret (v := .tuple #[.int .i64 0, .int .i64 6]) (by simp [results, Tryd.results14, go_sem]) rfl ?_
              exact ⟨by rw [HG.out, HN.out], Lib.hid (bext (bext HB3.out hwa.out) hwb.out)⟩
            · have HN := Lib.hid hN
              have HA := Lib.hid (atoi_ok ah v hok w3 (by omega))
              have HI := Lib.hid fun wa (hE : Env wa) => itoa_any v wa v0 v1 hE
              rw [hie] at HI
              clear hok hN
              go_wp2_with fail
              refine HA.out.mono ?_
              rintro e wa ⟨rfl, hwa⟩
              go_wp2_with fail
              refine (HI.out wa (HE3.out.on hwa.out)).mono ?_
              rintro e wb ⟨rfl, hwb⟩
              go_wp2
              refine bodyPost_ret (v := .tuple #[.int .i64 0, .int .i64 6]) (by simp [results, Tryd.results14, go_sem]) rfl ?_
              exact ⟨by rw [HG.out, HN.out], Lib.hid (bext (bext HB3.out hwa.out) hwb.out)⟩
            · have HN := Lib.hid hN
              have HA := Lib.hid (atoi_ok ah v hok w3 (by omega))
              have HI := Lib.hid fun wa (hE : Env wa) => itoa_any v wa v0 v1 hE
              rw [hie] at HI
              clear hok hN
              go_wp2_with fail
              refine HA.out.mono ?_
              rintro e wa ⟨rfl, hwa⟩
              go_wp2_with fail
              refine (HI.out wa (HE3.out.on hwa.out)).mono ?_
              rintro e wb ⟨rfl, hwb⟩
              go_wp2
              refine bodyPost_ret (v := .tuple #[.int .i64 0, .int .i64 6]) (by simp [results, Tryd.results14, go_sem]) rfl ?_
              exact ⟨by rw [HG.out, HN.out], Lib.hid (bext (bext HB3.out hwa.out) hwb.out)⟩
            · have HN := Lib.hid hN
              have HA := Lib.hid (atoi_ok ah v hok w3 (by omega))
              have HI := Lib.hid fun wa (hE : Env wa) => itoa_any v wa v0 v1 hE
              rw [hie] at HI
              clear hok hN
              go_wp2_with fail
              refine HA.out.mono ?_
              rintro e wa ⟨rfl, hwa⟩
              go_wp2_with fail
              refine (HI.out wa (HE3.out.on hwa.out)).mono ?_
              rintro e wb ⟨rfl, hwb⟩
              go_wp2
              refine bodyPost_ret (v := .tuple #[.int .i64 v, .int .i64 0]) (by simp [results, Tryd.results14, go_sem]) rfl ?_
              exact ⟨by rw [HG.out, HN.out], Lib.hid (bext (bext HB3.out hwa.out) hwb.out)⟩
            · have HN := Lib.hid hN
              have HA := Lib.hid (atoi_err ah herr w3 (HE3.out) (by omega))
              clear herr hN
              go_wp2_with fail
              refine HA.out.mono ?_
              rintro e wa ⟨z, N, rfl, hwa⟩
              go_wp2
              refine bodyPost_ret (v := .tuple #[.int .i64 0, .int .i64 6]) (by simp [results, Tryd.results14, go_sem]) rfl ?_
              exact ⟨by rw [HG.out, HN.out], Lib.hid (bext HB3.out hwa.out)⟩
      · have HG := Lib.hid (show V = numG R by
          rw [HV.out]
          unfold minG
          rw [cutG, hno.out.1 (by omega), if_neg (by decide), cutG, hno.out.2.1 (by omega), if_neg (by decide), cutG, hno.out.2.2 (by omega), if_neg (by decide)])
        rcases num_cases R with ⟨v, hok, ⟨v0, v1⟩, ⟨hne, hN⟩ | ⟨hie, ⟨hneg, hN⟩ | ⟨hneg, ⟨hbig, hN⟩ | ⟨hbig, hN⟩⟩⟩⟩ | ⟨herr, hN⟩
        · have HN := Lib.hid hN
          have HA := Lib.hid (atoi_ok R v hok wr (by omega))
          have HI := Lib.hid fun wa (hE : Env wa) => itoa_any v wa v0 v1 hE
          skip
          clear hok hN
          go_wp2_with fail
          refine HA.out.mono ?_
          rintro e wa ⟨rfl, hwa⟩
          go_wp2_with fail
          refine (HI.out wa (HEr.out.on hwa.out)).mono ?_
          rintro e wb ⟨rfl, hwb⟩
          go_wp2
          refine bodyPost_ret (v := .tuple #[.int .i64 0, .int .i64 6]) (by simp [results, Tryd.results14, go_sem]) rfl ?_
          exact ⟨by rw [HG.out, HN.out], Lib.hid (bext (bext hb.out hwa.out) hwb.out)⟩
        · have HN := Lib.hid hN
          have HA := Lib.hid (atoi_ok R v hok wr (by omega))
          have HI := Lib.hid fun wa (hE : Env wa) => itoa_any v wa v0 v1 hE
          rw [hie] at HI
          clear hok hN
          go_wp2_with fail
          refine HA.out.mono ?_
          rintro e wa ⟨rfl, hwa⟩
          go_wp2_with fail
          refine (HI.out wa (HEr.out.on hwa.out)).mono ?_
          rintro e wb ⟨rfl, hwb⟩
          go_wp2
          refine bodyPost_ret (v := .tuple #[.int .i64 0, .int .i64 6]) (by simp [results, Tryd.results14, go_sem]) rfl ?_
          exact ⟨by rw [HG.out, HN.out], Lib.hid (bext (bext hb.out hwa.out) hwb.out)⟩
        · have HN := Lib.hid hN
          have HA := Lib.hid (atoi_ok R v hok wr (by omega))
          have HI := Lib.hid fun wa (hE : Env wa) => itoa_any v wa v0 v1 hE
          rw [hie] at HI
          clear hok hN
          go_wp2_with fail
          refine HA.out.mono ?_
          rintro e wa ⟨rfl, hwa⟩
          go_wp2_with fail
          refine (HI.out wa (HEr.out.on hwa.out)).mono ?_
          rintro e wb ⟨rfl, hwb⟩
          go_wp2
          refine bodyPost_ret (v := .tuple #[.int .i64 0, .int .i64 6]) (by simp [results, Tryd.results14, go_sem]) rfl ?_
          exact ⟨by rw [HG.out, HN.out], Lib.hid (bext (bext hb.out hwa.out) hwb.out)⟩
        · have HN := Lib.hid hN
          have HA := Lib.hid (atoi_ok R v hok wr (by omega))
          have HI := Lib.hid fun wa (hE : Env wa) => itoa_any v wa v0 v1 hE
          rw [hie] at HI
          clear hok hN
          go_wp2_with fail
          refine HA.out.mono ?_
          rintro e wa ⟨rfl, hwa⟩
          go_wp2_with fail
          refine (HI.out wa (HEr.out.on hwa.out)).mono ?_
          rintro e wb ⟨rfl, hwb⟩
          go_wp2
          refine bodyPost_ret (v := .tuple #[.int .i64 v, .int .i64 0]) (by simp [results, Tryd.results14, go_sem]) rfl ?_
          exact ⟨by rw [HG.out, HN.out], Lib.hid (bext (bext hb.out hwa.out) hwb.out)⟩
        · have HN := Lib.hid hN
          have HA := Lib.hid (atoi_err R herr wr (HEr.out) (by omega))
          clear herr hN
          go_wp2_with fail
          refine HA.out.mono ?_
          rintro e wa ⟨z, N, rfl, hwa⟩
          go_wp2
          refine bodyPost_ret (v := .tuple #[.int .i64 0, .int .i64 6]) (by simp [results, Tryd.results14, go_sem]) rfl ?_
          exact ⟨by rw [HG.out, HN.out], Lib.hid (bext hb.out hwa.out)⟩
end Go.Proofs.YtgldnkpanimihaaDoor
