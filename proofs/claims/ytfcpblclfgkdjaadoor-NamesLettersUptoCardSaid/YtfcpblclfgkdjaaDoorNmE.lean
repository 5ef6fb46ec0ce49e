/-
  names.Letters, walked.
-/
import Derived.Deep.RegionHeld3
import Derived.Maps.OwnIn
import Derived.StringKeys
import Derived.Test.YtfcpblclfgkdjaaDoorNmD
namespace Go.Proofs.YtfcpblclfgkdjaaDoor
set_option linter.unusedSimpArgs false
set_option linter.unusedVariables false
open Go.RowKit Go.Maps

theorem three_on {w w' : World} {b : Nat} {u0 u1 u2 : Value} (hb : Below w.heap.size w w') (h0 : w.cell? ⟨b, 0, none⟩ = some u0) (h1 : w.cell? ⟨b, 1, none⟩ = some u1) (h2 : w.cell? ⟨b, 2, none⟩ = some u2) :
    w'.cell? ⟨b, 0, none⟩ = some u0 ∧ w'.cell? ⟨b, 1, none⟩ = some u1 ∧ w'.cell? ⟨b, 2, none⟩ = some u2 :=
  ⟨(hb.cell (cell_lt1 h0)).trans h0, (hb.cell (cell_lt1 h1)).trans h1, (hb.cell (cell_lt1 h2)).trans h2⟩
/-- A type laid into a new block. -/
theorem laidT (w : World) (t : Ty) (a : Option Addr) (c : Nat) (i : TypeId) : ∃ wa, w.alloc (.cells #[.int .i64 t.kind, .string ⟨t.name.toArray⟩, .slice a t.args.length c] i) = wa ∧ Below w.heap.size w wa ∧
    wa.cell? ⟨w.heap.size, 0, none⟩ = some (.int .i64 t.kind) ∧ wa.cell? ⟨w.heap.size, 1, none⟩ = some (.string ⟨t.name.toArray⟩) ∧ wa.cell? ⟨w.heap.size, 2, none⟩ = some (.slice a t.args.length c) ∧ wa.heap.size = w.heap.size + 1 :=
  ⟨_, rfl, below_alloc _ _, by simp [go_sem], by simp [go_sem], by simp [go_sem], by simp⟩

theorem rowR_none {l : List Ty} (h : letsT l = none) : rowR l = ([], false) := by rw [rowR, h]
theorem rowR_some {l : List Ty} {s : List UInt8} (h : letsT l = some s) : rowR l = (cnt l.length ++ s, true) := by rw [rowR, h]
theorem let_void (k : Int) (nm : List UInt8) (l : List Ty) (h1 : ¬ (k = 1 ∧ l.length = 0)) (h7 : ¬ (k = 7 ∧ l.length = 0)) (h : letsT l = none) : letT (.mk k nm l) = [] := by
  rw [letT_mk, if_neg h1, if_neg h7, h]
theorem let_shape (k : Int) (nm : List UInt8) (l : List Ty) (s : List UInt8) (h1 : ¬ (k = 1 ∧ l.length = 0)) (h7 : ¬ (k = 7 ∧ l.length = 0)) (h : letsT l = some s) : letT (.mk k nm l) = shapeL k nm l.length s := by
  rw [letT_mk, if_neg h1, if_neg h7, h]

theorem rowR_no {l : List Ty} {S : List UInt8} (h : rowR l = (S, false)) : letsT l = none := by
  cases e : letsT l with
  | none => rfl
  | some s => rw [rowR_some e] at h; cases h
theorem rowR_yes {l : List Ty} {S : List UInt8} (h : rowR l = (S, true)) : ∃ s, letsT l = some s ∧ S = cnt l.length ++ s := by
  cases e : letsT l with
  | none => rw [rowR_none e] at h; cases h
  | some s => rw [rowR_some e] at h; exact ⟨s, rfl, (congrArg Prod.fst h).symm⟩
theorem trim_one (s : List UInt8) : Lib.trimPrefix (cnt 1 ++ s) [49, 120] = s := by
  have : cnt 1 = [49, 120] := by rw [cnt, dec_small (by omega)]; rfl
  rw [this]; simp [Lib.trimPrefix, Lib.hasPrefix]

/-! The map of basic types. -/
/-- How a text of a map reads. -/
def strElem : Value → Option (DataW Unit × List MemPlace)
  | .string s => some (.lit (.string s.data.toList), [])
  | _ => none
theorem strElem_mk (l : List UInt8) : strElem (.string ⟨l.toArray⟩) = some (.lit (.string l), []) := by simp [strElem]
theorem strElem_inv {v : Value} {l : List UInt8} {ps : List MemPlace} (h : strElem v = some (.lit (.string l), ps)) : v = .string ⟨l.toArray⟩ := by
  unfold strElem at h
  split at h
  · rename_i s
    simp only [Option.some.injEq, Prod.mk.injEq, DataW.lit.injEq, Lit.string.injEq] at h
    rw [← h.1]
  · cases h
theorem law9 : Keyed Tryd.prog 9 := string_keyed (by kernel_rfl)
theorem und41 : Tryd.prog.underlying 41 = some (.map 9 9) := by kernel_rfl
theorem key9 (l : List UInt8) (h : l.length ≤ maxLen) : keyOf Tryd.prog 9 (.string ⟨l.toArray⟩) = some (.string l) := by
  have := WideMaps.keyOf_string_mk (P := Tryd.prog) (k := 9) (by kernel_rfl) (s := ⟨l.toArray⟩) (by simpa [ByteArray.size] using h)
  simpa using this
theorem zero9 (w : World) : (zeroValue 9).run Tryd.prog w = .ok (.string ⟨#[]⟩) w := by kernel_rfl
def nInt : List UInt8 := [105, 110, 116]
def nStr : List UInt8 := [115, 116, 114, 105, 110, 103]
def nBool : List UInt8 := [98, 111, 111, 108]
def basicD : DataW Unit := (((DataW.map []).put (.string nInt) (.lit (.string [105]))).put (.string nStr) (.lit (.string [116]))).put (.string nBool) (.lit (.string [98]))
theorem put_map {D : DataW Unit} (h : IsMap D) (k : Lit) (d : DataW Unit) : IsMap (D.put k d) := by obtain ⟨es, rfl⟩ := h; exact ⟨_, rfl⟩
theorem basic_at (nm : List UInt8) : basicD.atKey (.string nm) (.lit (.string [])) = .lit (.string (basicL nm)) := by
  have m0 : IsMap (DataW.map [] : DataW Unit) := ⟨_, rfl⟩
  have m1 := put_map m0 (.string nInt) (.lit (.string [105]))
  have m2 := put_map m1 (.string nStr) (.lit (.string [116]))
  unfold basicD
  by_cases e3 : nm = nBool
  · subst e3
    rw [atKey_put_same m2 (by simp [WideAt.IsKeyLit])]; rfl
  rw [atKey_put_other (by simpa using e3)]
  by_cases e2 : nm = nStr
  · subst e2
    rw [atKey_put_same m1 (by simp [WideAt.IsKeyLit])]; rfl
  rw [atKey_put_other (by simpa using e2)]
  by_cases e1 : nm = nInt
  · subst e1
    rw [atKey_put_same m0 (by simp [WideAt.IsKeyLit])]; rfl
  rw [atKey_put_other (by simpa using e1)]
  have : basicL nm = [] := by
    unfold basicL
    unfold nInt at e1
    unfold nStr at e2
    unfold nBool at e3
    rw [if_neg e1, if_neg e2, if_neg e3]
  rw [this]; rfl

set_option maxRecDepth 100000 in
set_option maxHeartbeats 16000000 in
theorem Letters_any : ∀ (t : Ty), LetOk t := by
  refine Ty.ind (fun t ih => ?_)
  intro a c w hT hk hf hb
  obtain ⟨k, nm, l⟩ := t
  have hbl : tyLen (.mk k nm l) = 100 + nm.length + tysLen l := by rw [tyLen]
  have hl := tys_len l
  obtain ⟨wa, hwa, hba, c0, c1, c2, hs⟩ := laidT w (.mk k nm l) a c 34
  simp only [Ty.args_mk, Ty.kind_mk, Ty.name_mk] at hk ih hwa c0 c1 c2 ⊢
  have hR := row_any l a c wa (hT.on hba) (hk.on hba) (by omega) (by omega) ih
  have HBA := Lib.hid hba
  have HT := Lib.hid hT
  obtain ⟨S, b, hSb⟩ : ∃ S b, rowR l = (S, b) := ⟨_, _, rfl⟩
  rw [hSb] at hR
  have HRW := Lib.hid hR
  clear hR hba hT ih hk hf
  go_enter Tryd.func9, Tryd.ntmps9
  go_wp2_with fail
  refine HRW.out.mono ?_
  rintro e w1 ⟨rfl, hb1⟩
  obtain ⟨c0, c1, c2⟩ := three_on hb1 c0 c1 c2
  have HB1 := Lib.hid (bext HBA.out hb1)
  clear hb1 HRW hs hwa HBA
  have hS : (S, b).1.length ≤ 1000000000000000100 := by
    rw [← hSb]
    cases e : letsT l with
    | none => rw [rowR_none e]; simp
    | some s =>
      rw [rowR_some e]
      have h1 := cnt_len (n := l.length) (by omega)
      have h2 := lets_len (l := l) (fun t ht => let_len t (by have := tysLen_mem ht; omega)) s e
      simp only [List.length_append]; omega
  have hS0 : S.length ≤ 1000000000000000100 := hS
  have hS1 : S.length + 1 ≤ 9223372036854775807 := by omega
  have hnl : nm.length ≤ 1000000000000000000 := by omega
  clear hS
  by_cases l0 : l.length = 0
  · obtain rfl := List.eq_nil_of_length_eq_zero l0
    obtain ⟨hSs, rfl⟩ : S = cnt ([] : List Ty).length ++ [] ∧ b = true := by
      have e := rowR_some (l := []) (s := []) (by rw [letsT])
      rw [hSb] at e
      simpa using e
    clear hSb
    by_cases k1 : k = 1
    · subst k1
      have hmm := @run_makeMap Tryd.prog
      have o0 := World.ownsMap_made w1 Tryd.prog 9 strElem
      have b0 := (Below.refl _ w1).alloc (Nat.le_refl _) (.map #[] 0)
      obtain ⟨w2, r1, o1, g1⟩ := o0.update law9 und41 (by decide) (key9 nInt (by decide)) (strElem_mk [105])
      obtain ⟨w3, r2, o2, g2⟩ := o1.update law9 und41 (by decide) (key9 nStr (by decide)) (strElem_mk [116])
      obtain ⟨w4, r3, o3, g3⟩ := o2.update law9 und41 (by decide) (key9 nBool (by decide)) (strElem_mk [98])
      have hr : ∀ k, some w1.heap.size = some k → w1.heap.size ≤ k := fun k e => by cases e; exact Nat.le_refl _
      have b1 := b0.grown g1 b0.size hr
      have b2 := b1.grown g2 b1.size hr
      have b3 := b2.grown g3 b2.size hr
      obtain ⟨v, ps, hrun, hv⟩ := World.ownsMap.lookup (zd := .lit (.string [])) (zp := []) o3 law9 und41 (zero9 w4) (strElem_mk []) (key9 nm (by unfold maxLen; omega))
      rw [show ((((DataW.map []).put (.string nInt) (.lit (.string [105]))).put (.string nStr) (.lit (.string [116]))).put (.string nBool) (.lit (.string [98])) : DataW Unit) = basicD from rfl, basic_at] at hv
      obtain rfl := strElem_inv hv
      obtain ⟨c0, c1, c2⟩ := three_on b3 c0 c1 c2
      have HB3 := Lib.hid (bext HB1.out b3)
      have hl2 : letT (.mk 1 nm []) = basicL nm := by rw [letT_mk, if_pos ⟨rfl, rfl⟩]
      have HV := Lib.hid hl2
      clear o0 o1 o2 o3 b0 b1 b2 b3 g1 g2 g3 hr hv hl2
      simp only [nInt, nStr, nBool] at r1 r2 r3
      go_wp2_with fail
      go_ret
      exact ⟨by rw [HV.out]; rfl, HB3.out⟩
    have k1' : (k == 1) = false := by simpa using k1
    by_cases k7 : k = 7
    · subst k7
      have HV := Lib.hid (show letT (.mk 7 nm []) = [118] by rw [letT_mk, if_neg (fun h => k1 h.1), if_pos ⟨rfl, rfl⟩])
      go_wp2_with fail
      go_ret
      exact ⟨by rw [HV.out]; rfl, HB1.out⟩
    have k7' : (k == 7) = false := by simpa using k7
    have HL := Lib.hid (let_shape k nm [] [] (fun h => k1 h.1) (fun h => k7 h.1) (by rw [letsT]))
    by_cases k3 : k = 3
    · subst k3
      have k5 : ¬ (3 : Int) = 5 := by decide
      have k6 : ¬ (3 : Int) = 6 := by decide
      by_cases hnm : nm = []
      · have n2 : nm.isEmpty = true := by rw [hnm]; rfl
        have hv : letT (.mk 3 nm []) = [] := by rw [HL.out, shapeL, if_neg (fun h => k5 h.1), if_neg (fun h => k6 h.1), if_neg (fun h => h.2 hnm)]
        have HV := Lib.hid hv
        clear hv HL hSs hnm
        go_wp2_with fail
        all_goals
          go_ret
          exact ⟨by rw [HV.out]; rfl, HB1.out⟩
      · have n2 : nm.isEmpty = false := by cases nm with | nil => exact absurd rfl hnm | cons x r => rfl
        have hv : letT (.mk 3 nm []) = 110 :: (cnt nm.length ++ (nm ++ S)) := by rw [HL.out, shapeL, if_neg (fun h => k5 h.1), if_neg (fun h => k6 h.1), if_pos ⟨rfl, hnm⟩, hSs]
        have hc := cnt_len (n := nm.length) (by omega)
        have HI := Lib.hid (fun (W : World) (hb : Below w.heap.size w W) => itoa_any nm.length W (by omega) (HT.out.on hb))
        have HV := Lib.hid hv
        obtain ⟨D, hD⟩ : ∃ D, Lib.decDigits nm.length = D := ⟨_, rfl⟩
        have hcat : (⟨#[110]⟩ : ByteArray) ++ ⟨D.toArray⟩ ++ ⟨#[120]⟩ ++ ⟨nm.toArray⟩ ++ ⟨S.toArray⟩ = ⟨(110 :: (cnt nm.length ++ (nm ++ S))).toArray⟩ := by
          rw [cnt, hD, show (⟨#[110]⟩ : ByteArray) = ⟨[110].toArray⟩ from rfl, show (⟨#[120]⟩ : ByteArray) = ⟨[120].toArray⟩ from rfl, ncat, ncat, ncat, ncat]
          simp
        have hDl : D.length + 1 ≤ 21 := by simpa [cnt, hD] using hc
        rw [hD] at HI
        have HCAT := Lib.hid hcat
        have hl1 : ¬ 9223372036854775807 < 1 + D.length := by omega
        have hl2 : ¬ 9223372036854775807 < 1 + D.length + 1 := by omega
        have hl3 : ¬ 9223372036854775807 < 1 + D.length + 1 + nm.length := by omega
        have hl4 : ¬ 9223372036854775807 < 1 + D.length + 1 + nm.length + S.length := by omega
        clear hv hc hD hcat HL hSs hnm
        go_wp2_with fail
        replace HB1 : Hid (Below w.heap.size w w1.drew) := Lib.hid HB1.out.drew
        go_region_held3 (fun w' => (w'.cell? ⟨w.heap.size, 0, none⟩ = some (.int .i64 3) ∧ w'.cell? ⟨w.heap.size, 1, none⟩ = some (.string ⟨nm.toArray⟩) ∧ w'.cell? ⟨w.heap.size, 2, none⟩ = some (.slice a 0 c))) (go_keep)
          (first
            | (go_at_call 16
               refine (HI.out _ HB1.out).mono ?_
               rintro e w5 ⟨rfl, hb5⟩
               obtain ⟨c0, c1, c2⟩ := three_on hb5 c0 c1 c2
               have HB1 := Lib.hid (bext HB1.out hb5)))
        all_goals
          go_wp2_with fail
          go_ret
          exact ⟨by rw [HV.out, ← HCAT.out]; rfl, HB1.out⟩
    have k3' : (k == 3) = false := by simpa using k3
    have hv : letT (.mk k nm []) = [] := by rw [HL.out, shapeL, if_neg (fun h => absurd h.2 (by decide)), if_neg (fun h => absurd h.2 (by decide)), if_neg (fun h => k3 h.1)]
    have HV := Lib.hid hv
    clear hv HL hSs k1 k7 k3
    by_cases k5 : k = 5
    · subst k5
      go_wp2_with fail
      all_goals
        go_ret
        exact ⟨by rw [HV.out]; rfl, HB1.out⟩
    have k5' : (k == 5) = false := by simpa using k5
    by_cases k6 : k = 6
    · subst k6
      go_wp2_with fail
      all_goals
        go_ret
        exact ⟨by rw [HV.out]; rfl, HB1.out⟩
    have k6' : (k == 6) = false := by simpa using k6
    clear k5 k6
    go_wp2_with fail
    all_goals
      go_ret
      exact ⟨by rw [HV.out]; rfl, HB1.out⟩
  have n0 : ((l.length : Int) == 0) = false := by simp; intro h; exact l0 (by rw [h]; rfl)
  have q1 : ∀ k : Int, ¬ (k = 1 ∧ l.length = 0) := fun k h => l0 h.2
  have q7 : ∀ k : Int, ¬ (k = 7 ∧ l.length = 0) := fun k h => l0 h.2
  cases b with
  | false =>
    have hn := rowR_no hSb
    have HV := Lib.hid (let_void k nm l (q1 k) (q7 k) hn)
    clear hSb hn q1 q7
    by_cases k1 : (k == 1) = true
    · go_wp2_with fail
      all_goals
        go_ret
        exact ⟨by rw [HV.out]; rfl, HB1.out⟩
    · replace k1 : (k == 1) = false := by simpa using k1
      by_cases k7 : (k == 7) = true
      · go_wp2_with fail
        all_goals
          go_ret
          exact ⟨by rw [HV.out]; rfl, HB1.out⟩
      · replace k7 : (k == 7) = false := by simpa using k7
        go_wp2_with fail
        all_goals
          go_ret
          exact ⟨by rw [HV.out]; rfl, HB1.out⟩
  | true =>
    obtain ⟨s, hs, hSs⟩ := rowR_yes hSb
    have HL := Lib.hid (let_shape k nm l s (q1 k) (q7 k) hs)
    clear hSb hs q1 q7
    by_cases k5 : k = 5
    · subst k5
      by_cases l1 : l.length = 1
      · have n1 : ((l.length : Int) == 1) = true := by rw [l1]; rfl
        have hv : letT (.mk 5 nm l) = 115 :: s := by rw [HL.out, shapeL, if_pos ⟨rfl, l1⟩]
        have htp : Lib.trimPrefix S [49, 120] = s := by rw [hSs, l1]; exact trim_one s
        have hsl : s.length + 1 ≤ 9223372036854775807 := by rw [hSs] at hS1; simp at hS1; omega
        have HTP := Lib.hid (fun W => Tryd.strings_TrimPrefix ⟨S.toArray⟩ ⟨#[49, 120]⟩ W)
        rw [show (⟨S.toArray⟩ : ByteArray).data.toList = S from rfl, show (⟨#[49, 120]⟩ : ByteArray).data.toList = [49, 120] from rfl, htp] at HTP
        have HCC := ncat [115] s
        have HV := Lib.hid hv
        clear hv htp HL hSs
        go_wp2_with fail
        refine (HTP.out _).mono ?_
        rintro e w2 ⟨rfl, rfl⟩
        go_wp2_with fail
        go_ret
        exact ⟨by rw [HV.out]; exact congrArg (fun b => Ending.returned (.string b)) HCC, HB1.out⟩
      · have n1 : ((l.length : Int) == 1) = false := by simp; omega
        have hv : letT (.mk 5 nm l) = [] := by rw [HL.out, shapeL, if_neg (fun h => l1 h.2), if_neg (fun h => absurd h.1 (by decide)), if_neg (fun h => absurd h.1 (by decide))]
        have HV := Lib.hid hv
        clear hv HL hSs
        go_wp2_with fail
        all_goals
          go_ret
          exact ⟨by rw [HV.out]; rfl, HB1.out⟩
    have k5' : (k == 5) = false := by simpa using k5
    by_cases k6 : k = 6
    · subst k6
      have np : (0 : Int) < (l.length : Int) := by omega
      have hv : letT (.mk 6 nm l) = 102 :: S := by rw [HL.out, shapeL, if_neg (fun h => absurd h.1 (by decide)), if_pos ⟨rfl, by omega⟩, hSs]
      have HCC := ncat [102] S
      have HV := Lib.hid hv
      clear hv HL hSs
      go_wp2_with fail
      go_ret
      exact ⟨by rw [HV.out]; exact congrArg (fun b => Ending.returned (.string b)) HCC, HB1.out⟩
    have k6' : (k == 6) = false := by simpa using k6
    by_cases k3 : k = 3
    · subst k3
      by_cases hnm : nm = []
      · have n2 : nm.isEmpty = true := by rw [hnm]; rfl
        have hv : letT (.mk 3 nm l) = [] := by rw [HL.out, shapeL, if_neg (fun h => k5 h.1), if_neg (fun h => k6 h.1), if_neg (fun h => h.2 hnm)]
        have HV := Lib.hid hv
        clear hv HL hSs hnm
        go_wp2_with fail
        all_goals
          go_ret
          exact ⟨by rw [HV.out]; rfl, HB1.out⟩
      · have n2 : nm.isEmpty = false := by cases nm with | nil => exact absurd rfl hnm | cons x r => rfl
        have hv : letT (.mk 3 nm l) = 110 :: (cnt nm.length ++ (nm ++ S)) := by rw [HL.out, shapeL, if_neg (fun h => k5 h.1), if_neg (fun h => k6 h.1), if_pos ⟨rfl, hnm⟩, hSs]
        have hc := cnt_len (n := nm.length) (by omega)
        have HI := Lib.hid (fun (W : World) (hb : Below w.heap.size w W) => itoa_any nm.length W (by omega) (HT.out.on hb))
        have HV := Lib.hid hv
        obtain ⟨D, hD⟩ : ∃ D, Lib.decDigits nm.length = D := ⟨_, rfl⟩
        have hcat : (⟨#[110]⟩ : ByteArray) ++ ⟨D.toArray⟩ ++ ⟨#[120]⟩ ++ ⟨nm.toArray⟩ ++ ⟨S.toArray⟩ = ⟨(110 :: (cnt nm.length ++ (nm ++ S))).toArray⟩ := by
          rw [cnt, hD, show (⟨#[110]⟩ : ByteArray) = ⟨[110].toArray⟩ from rfl, show (⟨#[120]⟩ : ByteArray) = ⟨[120].toArray⟩ from rfl, ncat, ncat, ncat, ncat]
          simp
        have hDl : D.length + 1 ≤ 21 := by simpa [cnt, hD] using hc
        rw [hD] at HI
        have HCAT := Lib.hid hcat
        have hl1 : ¬ 9223372036854775807 < 1 + D.length := by omega
        have hl2 : ¬ 9223372036854775807 < 1 + D.length + 1 := by omega
        have hl3 : ¬ 9223372036854775807 < 1 + D.length + 1 + nm.length := by omega
        have hl4 : ¬ 9223372036854775807 < 1 + D.length + 1 + nm.length + S.length := by omega
        clear hv hc hD hcat HL hSs hnm
        go_wp2_with fail
        replace HB1 : Hid (Below w.heap.size w w1.drew) := Lib.hid HB1.out.drew
        go_region_held3 (fun w' => (w'.cell? ⟨w.heap.size, 0, none⟩ = some (.int .i64 3) ∧ w'.cell? ⟨w.heap.size, 1, none⟩ = some (.string ⟨nm.toArray⟩) ∧ w'.cell? ⟨w.heap.size, 2, none⟩ = some (.slice a l.length c))) (go_keep)
          (first
            | (go_at_call 16
               refine (HI.out _ HB1.out).mono ?_
               rintro e w5 ⟨rfl, hb5⟩
               obtain ⟨c0, c1, c2⟩ := three_on hb5 c0 c1 c2
               have HB1 := Lib.hid (bext HB1.out hb5)))
        all_goals
          go_wp2_with fail
          go_ret
          exact ⟨by rw [HV.out, ← HCAT.out]; rfl, HB1.out⟩
    have k3' : (k == 3) = false := by simpa using k3
    have hv : letT (.mk k nm l) = [] := by rw [HL.out, shapeL, if_neg (fun h => k5 h.1), if_neg (fun h => k6 h.1), if_neg (fun h => k3 h.1)]
    have HV := Lib.hid hv
    clear hv HL hSs k5 k6 k3
    by_cases k1 : (k == 1) = true
    · go_wp2_with fail
      all_goals
        go_ret
        exact ⟨by rw [HV.out]; rfl, HB1.out⟩
    · replace k1 : (k == 1) = false := by simpa using k1
      by_cases k7 : (k == 7) = true
      · go_wp2_with fail
        all_goals
          go_ret
          exact ⟨by rw [HV.out]; rfl, HB1.out⟩
      · replace k7 : (k == 7) = false := by simpa using k7
        go_wp2_with fail
        all_goals
          go_ret
          exact ⟨by rw [HV.out]; rfl, HB1.out⟩
end Go.Proofs.YtfcpblclfgkdjaaDoor
