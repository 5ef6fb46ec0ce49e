/-
  the law NamesJoint, walked.
-/
import Derived.BigQuiet
import Derived.Test.YtfcpblclfgkdjaaDoorNmG
namespace Go.Proofs.YtfcpblclfgkdjaaDoor
set_option linter.unusedSimpArgs false
set_option linter.unusedVariables false
open Go.RowKit

/-- What is known where i texts have been looked at, and k places of the next one. -/
structure ShI (l : List (List UInt8)) (M i : Nat) (s : List UInt8) (k : Nat) (sh : Bool) : Prop where
  one : M = 1 → sh = true
  past : ∀ t, t ∈ l.take i → (∃ q, Win t q M) → sh = true
  here : ∀ q, q < k → Win s q M → sh = true
theorem shI_start (l : List (List UInt8)) (M : Nat) (s : List UInt8) : ShI l M 0 s 0 (decide (M = 1)) :=
  ⟨fun h => by simp [h], fun t ht => by simp at ht, fun q hq => by omega⟩
theorem ShI.text {l : List (List UInt8)} {M i : Nat} {s s' : List UInt8} {sh : Bool} (h : ShI l M i s 0 sh) : ShI l M i s' 0 sh := ⟨h.one, h.past, fun q hq => by omega⟩
theorem ShI.next {l : List (List UInt8)} {M i k : Nat} {s s' : List UInt8} {sh : Bool} (h : ShI l M i s k sh) (hi : i < l.length) (hs : l[i] = s) (hM : 0 < M) (hk : s.length < k + M) : ShI l M (i + 1) s' 0 sh := by
  refine ⟨h.one, fun t ht hw => ?_, fun q hq => by omega⟩
  rw [List.take_succ_eq_append_getElem hi, List.mem_append, List.mem_singleton] at ht
  rcases ht with ht | ht
  · exact h.past t ht hw
  · obtain ⟨q, hq⟩ := hw
    rw [ht, hs] at hq
    have := hq.le hM
    exact h.here q (by omega) hq
theorem ShI.step {l : List (List UInt8)} {M i k : Nat} {s : List UInt8} {sh sh' : Bool} (h : ShI l M i s k sh) (h1 : sh = true → sh' = true) (h2 : Win s k M → sh' = true) : ShI l M i s (k + 1) sh' :=
  ⟨fun e => h1 (h.one e), fun t ht hw => h1 (h.past t ht hw), fun q hq hw => by
    by_cases e : q = k
    · subst e; exact h2 hw
    · exact h1 (h.here q (by omega) hw)⟩
theorem ShI.last {l : List (List UInt8)} {M : Nat} {s : List UInt8} {sh : Bool} (h : ShI l M l.length s 0 sh) (hM : M = jlong l 1) : sh = true := by
  rcases jlong_some l 1 with e | ⟨t, ht, q, hq⟩
  · exact h.one (by rw [hM, e])
  · exact h.past t (by rw [List.take_length]; exact ht) ⟨q, by rw [hM]; exact hq⟩

theorem win_of {s : List UInt8} {q n : Nat} (h : (s.drop q).take n = List.replicate n 95) : Win s q n := by
  intro i hi
  have := congrArg (fun l : List UInt8 => l[i]?) h
  simp only [List.getElem?_take, hi, if_true, List.getElem?_drop, List.getElem?_replicate] at this
  exact this
theorem of_win {s : List UInt8} {q n : Nat} (h : Win s q n) : (s.drop q).take n = List.replicate n 95 := by
  apply List.ext_getElem?
  intro i
  rw [List.getElem?_take, List.getElem?_replicate]
  by_cases hi : i < n
  · rw [if_pos hi, if_pos hi, List.getElem?_drop]; exact h i hi
  · rw [if_neg hi, if_neg hi]
theorem cut_mid (s : List UInt8) (q n : Nat) : (⟨s.toArray⟩ : ByteArray).extract q (q + n) = ⟨((s.drop q).take n).toArray⟩ := by
  rw [ByteArray.extract_mk]
  congr 1
  rw [← Array.toList_inj]
  simp [List.take_drop]
set_option maxHeartbeats 8000000 in
theorem joint_law (l : List (List UInt8)) (a : Option Addr) (c : Nat) (w : World) (hT : Tab w) (hs : Strs w a l) (hl : l.length ≤ 9223372036854775807) (hm : ∀ s ∈ l, s.length ≤ 140737488351232) :
    Calls Tryd.prog 3 #[.slice a l.length c] w (Good w) := by
  by_cases h20 : (20 : Int) < l.length
  · go_enter Tryd.func3, Tryd.ntmps3
    go_wp2_with fail
    go_ret
    exact ⟨rfl, Below.refl _ _⟩
  obtain ⟨M, hM⟩ : ∃ M, jlong l 1 = M := ⟨_, rfl⟩
  have hM1 : 1 ≤ M := by rw [← hM]; exact jlong_le l 1
  have hMb : M ≤ 140737488351232 := by
    rcases jlong_some l 1 with e | ⟨t, ht, q, hq⟩
    · omega
    · rw [hM] at hq
      have := hq.le hM1
      have := hm t ht
      omega
  have hJ := joint_any l a c w hs hl hm
  rw [hM] at hJ
  obtain ⟨J, hJ2⟩ : ∃ J, List.replicate (M + 1) (95 : UInt8) = J := ⟨_, rfl⟩
  have hJl : J.length = M + 1 := by rw [← hJ2]; simp
  rw [hJ2] at hJ
  have HJ := Lib.hid hJ
  have HJ2 := Lib.hid hJ2
  have HM := Lib.hid hM
  have HT := Lib.hid hT
  have HS := Lib.hid hs
  have n2 : ¬ (J.length : Int) < 2 := by omega
  clear hJ hJ2 hM hT hs
  go_enter Tryd.func3, Tryd.ntmps3
  go_wp2_with fail
  refine HJ.out.mono ?_
  rintro e w1 ⟨rfl, hb1⟩
  have HB1 := Lib.hid hb1
  clear hb1
  go_wp2_with fail
  go_loopw [4, 5] (fun sv i wr => ∃ (k : Nat) (sh : Bool), k ≤ l.length ∧ i = .int .i64 k ∧ sv = .bool sh ∧ Hid (ShI l M k [] 0 sh) ∧ Hid (Below w.heap.size w wr)) (fun _ i _ => l.length - (intOf i).toNat)
  case atStart =>
    refine ⟨0, decide (M = 1), by omega, rfl, ?_, Lib.hid (shI_start l M []), HB1⟩
    congr 1
    rw [Bool.eq_iff_iff]
    simp
    omega
  case round =>
    obtain ⟨i, sh, hi, rfl, rfl, HI, HB⟩ := hrel
    by_cases hlt : i < l.length
    · obtain ⟨b, off, ha, hc0⟩ := HS.out i hlt
      subst ha
      have hcell : ∀ W, Below w.heap.size w W → W.cell? ⟨b, off + i, none⟩ = some (.string ⟨l[i].toArray⟩) := fun W h => (h.cell (cell_lt1 hc0)).trans hc0
      have hc := hcell wr HB.out
      have HCELL := Lib.hid hcell
      clear hcell hc0
      have HML := Lib.hid (jlong_max l 1 l[i] (List.getElem_mem hlt))
      have HNX := Lib.hid (fun (k : Nat) (sh : Bool) (s : List UInt8) (hs : l[i] = s) (h : ShI l M i s k sh) (hk : s.length < k + M) => ShI.next (s' := []) h hlt hs hM1 hk)
      obtain ⟨s, hs2⟩ : ∃ s, l[i] = s := ⟨_, rfl⟩
      have HI2 := Lib.hid (ShI.text (s' := s) HI.out)
      rw [hs2] at hc HML HCELL
      have HNX2 := Lib.hid (fun k sh => HNX.out k sh s hs2)
      clear hs2 HNX
      by_cases h50 : (50 : Int) < s.length
      · go_wp2_with fail
        go_ret
        exact ⟨rfl, HB.out⟩
      · go_wp2_with fail
        go_loopw [4, 6] (fun sv k wi => ∃ (q : Nat) (sh : Bool), q ≤ s.length + 1 ∧ k = .int .i64 q ∧ sv = .bool sh ∧ Hid (ShI l M i s q sh) ∧ Hid (Below w.heap.size w wi)) (fun _ k _ => s.length + 1 - (intOf k).toNat)
        case atStart => exact ⟨0, sh, by omega, rfl, rfl, HI2, HB⟩
        case round =>
          obtain ⟨q, sh, hq, rfl, rfl, HQ, HB⟩ := hrel
          have hc := HCELL.out wr HB.out
          have e1 := cut_mid s q (M + 1)
          have e2 := cut_mid s q M
          have e3 : (⟨J.toArray⟩ : ByteArray).extract 1 (M + 1) = ⟨(List.replicate M 95).toArray⟩ := by
            rw [show M + 1 = 1 + M by omega, cut_mid, ← HJ2.out, List.replicate_succ, List.drop_succ_cons, List.drop_zero, List.take_of_length_le (by simp)]
          have hne : (s.drop q).take (M + 1) ≠ J := fun e => by
            rw [← HJ2.out] at e
            rcases HML.out _ _ (win_of e) with h | h
            · have := HM.out; omega
            · omega
          obtain ⟨P, hP⟩ : ∃ P, (s.drop q).take (M + 1) = P := ⟨_, rfl⟩
          obtain ⟨P2, hP2⟩ : ∃ P2, (s.drop q).take M = P2 := ⟨_, rfl⟩
          obtain ⟨J2, hJ22⟩ : ∃ J2, List.replicate M (95 : UInt8) = J2 := ⟨_, rfl⟩
          have HST := Lib.hid (fun sh' => HQ.out.step (sh' := sh'))
          have HW := Lib.hid (show Win s q M → P2 = J2 from fun h => by rw [← hP2, of_win h, hJ22])
          rw [hP] at e1 hne
          rw [hP2] at e2
          rw [hJ22] at e3
          have hne2 : (P == J) = false := by simpa using hne
          clear hP hP2 hJ22 hne
          have h2M : (0 : Int) ≤ (M : Int) := by omega
          by_cases h1 : (q : Int) + (M + 1) - 1 ≤ s.length
          · cases sh with
            | true =>
              have HN := Lib.hid (HST.out true (fun _ => rfl) (fun _ => rfl))
              by_cases h2 : (q : Int) + (M + 1) ≤ s.length
              · go_wp2_with fail
                go_quiet (fail)
                go_wp2_with fail
                go_roundw
                case rel => exact ⟨q + 1, true, by omega, by go_num, rfl, HN, Lib.hid (below_drewN HB.out _)⟩
                case measure => simp [intOf]; omega
              · go_wp2_with fail
                go_quiet (fail)
                go_wp2_with fail
                go_roundw
                case rel => exact ⟨q + 1, true, by omega, by go_num, rfl, HN, Lib.hid (below_drewN HB.out _)⟩
                case measure => simp [intOf]; omega
            | false =>
              have HN := Lib.hid (HST.out (P2 == J2) (fun h => by cases h) (fun h => by simpa using HW.out h))
              by_cases h2 : (q : Int) + (M + 1) ≤ s.length
              · go_wp2_with fail
                go_quiet (fail)
                go_wp2_with fail
                go_roundw
                case rel => exact ⟨q + 1, (P2 == J2), by omega, by go_num, rfl, HN, Lib.hid (below_drewN HB.out _)⟩
                case measure => simp [intOf]; omega
              · go_wp2_with fail
                go_quiet (fail)
                go_wp2_with fail
                go_roundw
                case rel => exact ⟨q + 1, (P2 == J2), by omega, by go_num, rfl, HN, Lib.hid (below_drewN HB.out _)⟩
                case measure => simp [intOf]; omega
          · have HN := Lib.hid (HNX2.out q sh HQ.out (by omega))
            go_wp2_with fail
            go_roundw
            case rel => exact ⟨i + 1, sh, by omega, by go_num, rfl, HN, HB⟩
            case measure => simp [intOf]; omega
    · obtain rfl : i = l.length := by omega
      have hsh := HI.out.last HM.out.symm
      subst hsh
      have HA := Lib.hid (fun W h => awake_any W (HT.out.on h))
      go_wp2_with fail
      refine (HA.out _ HB.out).mono ?_
      rintro e w2 ⟨rfl, hb2⟩
      have HB2 := Lib.hid (bext HB.out hb2)
      clear hb2
      go_wp2_with fail
      go_ret
      exact ⟨rfl, HB2.out⟩
end Go.Proofs.YtfcpblclfgkdjaaDoor
