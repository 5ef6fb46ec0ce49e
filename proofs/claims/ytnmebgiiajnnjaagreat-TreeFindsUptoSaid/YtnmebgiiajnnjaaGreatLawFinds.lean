/-
  the law TreeFinds, walked (of a node whose count does not wrap).
-/
import Derived.Deep.RegionHeld3
import Derived.BigQuiet
import Derived.Sort.Walk0
import Derived.Test.YtnmebgiiajnnjaaGreatAwake
import Derived.Test.YtnmebgiiajnnjaaGreatFindB
import Derived.Test.YtnmebgiiajnnjaaGreatAll
import Derived.Test.YtnmebgiiajnnjaaGreatNames
namespace Go.Proofs.YtnmebgiiajnnjaaGreat
set_option linter.unusedSimpArgs false
set_option linter.unusedVariables false
open Go.RowKit Go.Sort

theorem walk_more : ∀ (d : Nat) (t : Nd), (walkL d t).length ≤ (walkL (d + 1) t).length
  | 0, t => by simp [walkL]
  | d + 1, t => by
    rw [walkL, walkL, List.length_cons, List.length_cons]
    have : ∀ l : List Nd, (l.flatMap (walkL d)).length ≤ (l.flatMap (walkL (d + 1))).length := fun l => by
      induction l with
      | nil => simp
      | cons x r ih => rw [List.flatMap_cons, List.flatMap_cons, List.length_append, List.length_append]; have := walk_more d x; omega
    have := this t.kids
    omega
theorem walk_le {d e : Nat} (h : d ≤ e) (t : Nd) : (walkL d t).length ≤ (walkL e t).length := by
  induction h with
  | refl => exact Nat.le_refl _
  | step _ ih => exact Nat.le_trans ih (walk_more _ t)
/-- A row of All's, as nodes that lie. -/
theorem NRow.toKids {B base : Nat} {L : List (Nd × Option Addr × Nat)} {v : Value} {W : World} (h : NRow B base L v W) (hB : B ≤ W.heap.size) (hne : L ≠ []) :
    ∃ a c, v = .slice a (L.map (·.1)).length c ∧ Kids W W.heap.size a (L.map (·.1)) ∧ (L.map (·.1)).length ≤ c ∧ (L.map (·.1)).length ≤ 9223372036854775807 := by
  obtain ⟨g, cap, hv, hb, hg, hc, hm, hcell⟩ := h.lies hne
  refine ⟨some ⟨g, 0, none⟩, cap, by rw [hv]; simp, ?_, by simpa using hc, by unfold maxLen at hm; simp; omega⟩
  rw [kids_iff]
  intro j hj
  have hjL : j < L.length := by simpa using hj
  have hm := h.kids L[j] (List.getElem_mem hjL)
  have e : (L.map (·.1))[j] = L[j].1 := by simp
  have hcl : ∀ i, i < 4 → W.cell? ⟨g, 0 + j * 4 + i, none⟩ = (node4 L[j])[i]? := fun i hi => by
    have h4 : i < (node4 L[j]).length := by rw [node4_len]; exact hi
    rw [List.getElem?_eq_getElem h4]
    refine hcell _ _ ?_
    rw [Nat.zero_add, cells_get L j i hjL hi, List.getElem?_eq_getElem h4]
  rw [e]
  refine ⟨g, 0, L[j].2.1, L[j].2.2, rfl, hg, ⟨?_, ?_, ?_, ?_⟩, hm.1, hm.2.keep hB (fun _ _ => rfl)⟩
  · exact hcl 0 (by omega)
  · exact hcl 1 (by omega)
  · exact hcl 2 (by omega)
  · exact hcl 3 (by omega)
theorem Row.kids {Zo : Nat → Prop} {B : Nat} {l : List Nd} {v : Value} {w : World} (h : Row Zo B l v w) (hZ : ∀ b, Zo b → b < w.heap.size) : ∃ a c, v = .slice a l.length c ∧ Kids w w.heap.size a l ∧ l.length ≤ c ∧ l.length ≤ 9223372036854775807 := by
  cases l with
  | nil =>
    obtain ⟨L, _, hown, _⟩ := h
    rcases hown.2 with ⟨rfl, h0⟩ | ⟨g', cap, cur, rfl, _⟩
    · exact ⟨none, 0, rfl, Kids.nil _ _ _, by simp, by simp⟩
    · exact ⟨_, _, rfl, Kids.nil _ _ _, by simp, by simp⟩
  | cons x l =>
    obtain ⟨g, cap, rfl, hg1, hg2, hcap, hmax, -, h4⟩ := h.four (by simp)
    refine ⟨some ⟨g, 0, none⟩, cap, rfl, ?_, hcap, by omega⟩
    rw [kids_iff]
    intro j hj
    obtain ⟨a', c', hf4, hfit, hz⟩ := h4 j hj
    exact ⟨g, 0, a', c', rfl, hg2, by simpa using hf4, hfit, hz.kids (fun b hb => by
      rcases hb.1 with h1 | h1
      · exact hZ b h1
      · exact h1.hi)⟩
/-- A row of texts. -/
theorem strRow_own {w : World} {base n : Nat} {v : Value} {ss : List (List UInt8)} (h : w.ownsRow base 9 1 v n (ss.map encStr)) (hn : n = ss.length) : ∃ a c, v = .slice a ss.length c ∧ StrRow w a ss ∧ ss.length ≤ 9223372036854775807 := by
  subst hn
  rcases h.2 with ⟨rfl, h0⟩ | ⟨g, cap, cur, rfl, hb, hg, hcap, hmax, hcs, htk⟩
  · exact ⟨none, 0, by rw [h0], fun j hj => by omega, by omega⟩
  · refine ⟨_, cap, rfl, fun j hj => ⟨g, 0, rfl, ?_⟩, by unfold maxLen at hmax; omega⟩
    rw [Nat.zero_add, cell_of_row w g j cur _ (0, 0) hg]
    have : (cur.toList.take (ss.length * 1))[j]? = some (encStr ss[j]) := by rw [htk]; simp [hj]
    rw [List.getElem?_take, if_pos (by omega)] at this
    simpa [encStr] using this

structure FK (w : World) (aA : Option Addr) (A : List Nd) (aF : Option Addr) (F : List Nd) (aN : Option Addr) (N : List (List UInt8)) (W : World) : Prop where
  below : Below w.heap.size w W
  glob : Glob W
  kA : Kids W W.heap.size aA A
  kF : Kids W W.heap.size aF F
  kN : StrRow W aN N
theorem StrRow.on {w w' : World} {a : Option Addr} {l : List (List UInt8)} (h : StrRow w a l) (hb : Below w.heap.size w w') : StrRow w' a l := fun j hj => by
  obtain ⟨b, off, ha, hc⟩ := h j hj
  exact ⟨b, off, ha, keep_cell _ _ w w' hb hc⟩
theorem FK.on {w : World} {aA A aF F aN N W W'} (h : FK w aA A aF F aN N W) (hb : Below W.heap.size W W') : FK w aA A aF F aN N W' :=
  ⟨bext h.below hb, h.glob.on hb, h.kA.on hb, h.kF.on hb, h.kN.on hb⟩
theorem findL_take (kind : Int) (l : List Nd) (i : Nat) (h : i < l.length) : findL kind (l.take (i + 1)) = findL kind (l.take i) ++ (if (l[i].kind == kind) = true then [l[i]] else []) := by
  rw [List.take_succ_eq_append_getElem h, findL, List.filter_append]
  cases e : (l[i].kind == kind) <;> simp [findL, e]
theorem findL_pre (kind : Int) (l : List Nd) (i : Nat) : ∃ r, findL kind l = findL kind (l.take i) ++ r := ⟨findL kind (l.drop i), by unfold findL; rw [← List.filter_append, List.take_append_drop]⟩
/-- The next one of the kind. -/
theorem findL_at {kind : Int} {l : List Nd} {i : Nat} (h : i < l.length) (hk : (l[i].kind == kind) = true) : ∃ hlt : (findL kind (l.take i)).length < (findL kind l).length, (findL kind l)[(findL kind (l.take i)).length]'hlt = l[i] := by
  obtain ⟨r, hr⟩ := findL_pre kind l (i + 1)
  rw [findL_take kind l i h, if_pos hk] at hr
  have hlt : (findL kind (l.take i)).length < (findL kind l).length := by rw [hr]; simp
  refine ⟨hlt, ?_⟩
  have : (findL kind l)[(findL kind (l.take i)).length]? = some l[i] := by rw [hr]; simp
  rw [List.getElem?_eq_getElem hlt] at this
  exact Option.some.inj this
/-- Is a text among those of the first k? -/
def isIn (N : List (List UInt8)) (k : Nat) (s : List UInt8) : Bool := (N.take k).any (fun x => x == s)
theorem isIn_succ (N : List (List UInt8)) (k : Nat) (s : List UInt8) (h : k < N.length) : isIn N (k + 1) s = (isIn N k s || N[k] == s) := by
  unfold isIn
  rw [List.take_succ_eq_append_getElem h, List.any_append]; simp

/-- Is one of the first i nodes a name's with this text? -/
def isNm (A : List Nd) (i : Nat) (d : List UInt8) : Bool := (A.take i).any (fun q => nmB q && q.text == d)
theorem isNm_succ (A : List Nd) (i : Nat) (d : List UInt8) (h : i < A.length) : isNm A (i + 1) d = (isNm A i d || (nmB A[i] && A[i].text == d)) := by
  unfold isNm
  rw [List.take_succ_eq_append_getElem h, List.any_append]; simp
set_option maxRecDepth 100000 in
set_option maxHeartbeats 16000000 in
theorem finds_law (t : Nd) (a : Option Addr) (c : Nat) (kind : Int) (w : World) (hN : (walkL 1000 t).length ≤ 1048576) (hg : Glob w) (hk : Kids w w.heap.size a t.kids) (hf : Fits t c) :
    Calls Tryz.prog 4 #[.agg #[.int .i64 t.kind, .string ⟨t.text.toArray⟩, .slice a t.kids.length c, .int .i64 t.pos], .int .i64 kind] w fun e w' => e = .returned (.bool true) ∧ Below w.heap.size w w' := by
  have hN1 : (walkL 100 t).length ≤ 1048576 := by have := walk_le (d := 100) (e := 1000) (by omega) t; omega
  obtain ⟨wa, hwa, hba, e0, e1, e2, e3⟩ := laid4 w (.int .i64 t.kind) (.string ⟨t.text.toArray⟩) (.slice a t.kids.length c) (.int .i64 t.pos) 24
  have hsm := small_any 1000 t a c wa (hk.on hba) hf
  obtain ⟨b, hb⟩ : ∃ b, decide (wrap64 (walkL 1000 t).length ≤ 1000) = b := ⟨_, rfl⟩
  rw [hb] at hsm
  have HSM := Lib.hid hsm
  have HBA := Lib.hid hba
  have HK := Lib.hid hk
  have HF := Lib.hid hf
  have HG := Lib.hid hg
  have HN := Lib.hid hN1
  clear hsm hb hk hf hg hba hN hN1
  go_enter Tryz.func4, Tryz.ntmps4
  go_wp2_with fail
  refine HSM.out.mono ?_
  rintro e w1 ⟨rfl, hb1⟩
  obtain ⟨e0, e1, e2, e3⟩ := cells_on' hb1 e0 e1 e2 e3
  have HB1 := Lib.hid (bext HBA.out hb1)
  clear hb1
  cases b with
  | false =>
    go_wp2_with fail
    go_ret
    exact ⟨rfl, HB1.out⟩
  | true =>
  go_wp2_with fail
  refine (rall_any 100 (by omega) w.heap.size t a c w1 HB1.out.size (HK.out.below HB1.out (Nat.le_refl _)) HF.out (by rw [nodes_len]; exact HN.out)).mono ?_
  rintro e w2 ⟨hb2, vA, L, rfl, hL, hrow, -⟩
  obtain ⟨e0, e1, e2, e3⟩ := cells_on' hb2 e0 e1 e2 e3
  obtain ⟨aA, cA, rfl, hkA, hlA, hmA⟩ := hrow.toKids (by have := HB1.out.size; have := hb2.size; omega) (fun e => by rw [e] at hL; rw [nodes_succ] at hL; cases hL)
  rw [hL] at hkA hlA hmA ⊢
  have HB2 := Lib.hid (bext HB1.out hb2)
  have HKA := Lib.hid hkA
  clear hb2 hkA hrow hL L
  go_wp2_with fail
  refine (find_any t a c kind w2 HN.out (HK.out.on HB2.out) HF.out).mono ?_
  rintro e w3 ⟨hb3, vF, rfl, hrow⟩
  obtain ⟨e0, e1, e2, e3⟩ := cells_on' hb3 e0 e1 e2 e3
  obtain ⟨aF, cF, rfl, hkF, hlF, hmF⟩ := hrow.kids (fun b hb => by have := hb.1; have := hb3.size; omega)
  have HB3 := Lib.hid (bext HB2.out hb3)
  have HKA3 := Lib.hid (HKA.out.on hb3)
  have HKF := Lib.hid hkF
  clear hb3 hkF hrow HKA
  go_wp2_with fail
  refine (names_any t a c w3 HN.out (HK.out.on HB3.out) HF.out).mono ?_
  rintro e w4 ⟨vN, ss, rfl, hperm, hown, -, hb4⟩
  obtain ⟨hmem, hpw⟩ := names_sorted hperm
  obtain ⟨N, hNN⟩ : ∃ N, ss.mergeSort (fun x y => decide (x ≤ y)) = N := ⟨_, rfl⟩
  rw [hNN] at hown hmem hpw
  obtain ⟨aN, cN, rfl, hkN, hlN⟩ := strRow_own hown (by rw [← hNN]; simp)
  obtain ⟨A, hA⟩ : ∃ A, nodesL 100 t = A := ⟨_, rfl⟩
  rw [hA] at HKA3 HKF hlA hmA hlF hmF hmem ⊢
  have hFK : FK w aA A aF (findL kind A) aN N w4 := ⟨bext HB3.out hb4, HG.out.on (bext HB3.out hb4), HKA3.out.on hb4, HKF.out.on hb4, hkN⟩
  have HFK := Lib.hid hFK
  have HMEM := Lib.hid hmem
  have HPW := Lib.hid hpw
  obtain ⟨F, hF⟩ : ∃ F, findL kind A = F := ⟨_, rfl⟩
  have HFF := Lib.hid hF
  rw [hF] at HFK hlF hmF ⊢
  clear hFK hmem hpw hkN hown hperm hNN hb4 HKF HKA3 HB3 HB2 HB1 HBA HSM HK HF HN hA hF e0 e1 e2 e3 ss
  go_wp2_with fail
  go_loopw [8, 10] (fun kv iv wr => ∃ i : Nat, i ≤ A.length ∧ iv = .int .i64 i ∧ kv = .int .i64 ((findL kind (A.take i)).length : Nat) ∧ Hid (FK w aA A aF F aN N wr)) (fun _ iv _ => A.length - (intOf iv).toNat)
  case atStart => exact ⟨0, by omega, rfl, by simp [findL], HFK⟩
  case round =>
    obtain ⟨i, hi, rfl, rfl, HFK⟩ := hrel
    by_cases hlt : i < A.length
    · obtain ⟨bA, oA, a', c', haA, -, hq4, -, -⟩ := HFK.out.kA.get hlt
      subst haA
      have hmemA := List.getElem_mem hlt
      have hat := findL_at (kind := kind) hlt
      have htk := findL_take kind A i hlt
      have hQ : ∀ W, FK w (some ⟨bA, oA, none⟩) A aF F aN N W → ∃ a2 c2, Four W bA (oA + i * 4) A[i] a2 c2 := fun W h => by
        obtain ⟨b2, o2, a2, c2, e2, -, h4, -, -⟩ := h.kA.get hlt
        injection e2 with e2
        injection e2 with e3 e4
        subst e3 e4
        exact ⟨a2, c2, h4⟩
      obtain ⟨q, hq⟩ : ∃ q, A[i] = q := ⟨_, rfl⟩
      rw [hq] at hq4 hmemA htk
      simp only [hq] at hat hQ
      have HQ := Lib.hid hQ
      have HIS := Lib.hid (show nmB q = true → isIn N N.length q.text = true from fun h => by
        have hm := (HMEM.out q.text).2 ⟨q, hmemA, h, rfl⟩
        unfold isIn
        rw [List.take_length, List.any_eq_true]
        exact ⟨q.text, hm, by simp⟩)
      obtain ⟨K, hKK⟩ : ∃ K, (findL kind (A.take i)).length = K := ⟨_, rfl⟩
      rw [hKK]
      have HTK := Lib.hid htk
      have HAT := Lib.hid hat
      have HKK := Lib.hid hKK
      obtain ⟨p0, p1, p2, p3⟩ := hq4
      have hlb : bA < wr.heap.size := cell_lt p0
      clear hmemA hat htk hQ hq hKK
      cases hkd : (q.kind == kind) with
      | false =>
        have HK2 := Lib.hid (show (findL kind (A.take (i + 1))).length = K by rw [HTK.out, hkd]; simp [HKK.out])
        cases k18 : (q.kind == 18) with
        | true =>
          have HNMB := Lib.hid (show nmB q = true by rw [nmB, k18]; rfl)
          go_wp2_with fail
          go_loopw [11, 12] (fun sv jv wi => ∃ j : Nat, j ≤ N.length ∧ jv = .int .i64 j ∧ sv = .bool (isIn N j q.text) ∧ Hid (FK w (some ⟨bA, oA, none⟩) A aF F aN N wi)) (fun _ jv _ => N.length - (intOf jv).toNat)
          case atStart => exact ⟨0, by omega, rfl, by simp [isIn], HFK⟩
          case round =>
            obtain ⟨j, hj, rfl, rfl, HFK⟩ := hrel
            by_cases hjl : j < N.length
            · obtain ⟨a2, c2, hq2⟩ := HQ.out _ HFK.out
              obtain ⟨p0, p1, p2, p3⟩ := hq2
              obtain ⟨bN, oN, haN, hcN⟩ := HFK.out.kN j hjl
              have hsucc := isIn_succ N j q.text hjl
              subst haN
              obtain ⟨d, hd⟩ : ∃ d, N[j] = d := ⟨_, rfl⟩
              rw [hd] at hcN hsucc
              obtain ⟨r, hr⟩ : ∃ r, (d == q.text) = r := ⟨_, rfl⟩
              rw [hr] at hsucc
              have hlb9 : bA < wr.heap.size := cell_lt p0
              have hlb2 : bN < wr.heap.size := cell_lt hcN
              obtain ⟨sv, hsv⟩ : ∃ sv, isIn N j q.text = sv := ⟨_, rfl⟩
              rw [hsv] at hsucc ⊢
              have HSUC := Lib.hid hsucc
              clear hsucc hsv hd
              cases sv with
              | true =>
                go_wp2_with fail
                go_quiet (fail)
                all_goals
                  go_wp2_with fail
                  go_roundw
                  case rel => exact ⟨j + 1, by omega, by go_num, by rw [HSUC.out]; rfl, Lib.hid (HFK.out.on (below_drewN (Below.refl _ _) _))⟩
                  case measure => simp [intOf]; omega
              | false =>
                go_wp2_with fail
                go_quiet (fail)
                all_goals
                  go_wp2_with fail
                  go_roundw
                  case rel => exact ⟨j + 1, by omega, by go_num, by rw [HSUC.out]; rfl, Lib.hid (HFK.out.on (below_drewN (Below.refl _ _) _))⟩
                  case measure => simp [intOf]; omega
            · obtain rfl : j = N.length := by omega
              have hall : isIn N N.length q.text = true := HIS.out HNMB.out
              rw [hall]
              go_wp2_with fail
              go_roundw
              case rel => exact ⟨i + 1, by omega, by go_num, by rw [HK2.out], HFK⟩
              case measure => simp [intOf]; omega
        | false =>
        cases k10 : (q.kind == 10) with
        | true =>
          have HNMB := Lib.hid (show nmB q = true by rw [nmB, k18, k10]; rfl)
          go_wp2_with fail
          go_loopw [11, 12] (fun sv jv wi => ∃ j : Nat, j ≤ N.length ∧ jv = .int .i64 j ∧ sv = .bool (isIn N j q.text) ∧ Hid (FK w (some ⟨bA, oA, none⟩) A aF F aN N wi)) (fun _ jv _ => N.length - (intOf jv).toNat)
          case atStart => exact ⟨0, by omega, rfl, by simp [isIn], HFK⟩
          case round =>
            obtain ⟨j, hj, rfl, rfl, HFK⟩ := hrel
            by_cases hjl : j < N.length
            · obtain ⟨a2, c2, hq2⟩ := HQ.out _ HFK.out
              obtain ⟨p0, p1, p2, p3⟩ := hq2
              obtain ⟨bN, oN, haN, hcN⟩ := HFK.out.kN j hjl
              have hsucc := isIn_succ N j q.text hjl
              subst haN
              obtain ⟨d, hd⟩ : ∃ d, N[j] = d := ⟨_, rfl⟩
              rw [hd] at hcN hsucc
              obtain ⟨r, hr⟩ : ∃ r, (d == q.text) = r := ⟨_, rfl⟩
              rw [hr] at hsucc
              have hlb9 : bA < wr.heap.size := cell_lt p0
              have hlb2 : bN < wr.heap.size := cell_lt hcN
              obtain ⟨sv, hsv⟩ : ∃ sv, isIn N j q.text = sv := ⟨_, rfl⟩
              rw [hsv] at hsucc ⊢
              have HSUC := Lib.hid hsucc
              clear hsucc hsv hd
              cases sv with
              | true =>
                go_wp2_with fail
                go_quiet (fail)
                all_goals
                  go_wp2_with fail
                  go_roundw
                  case rel => exact ⟨j + 1, by omega, by go_num, by rw [HSUC.out]; rfl, Lib.hid (HFK.out.on (below_drewN (Below.refl _ _) _))⟩
                  case measure => simp [intOf]; omega
              | false =>
                go_wp2_with fail
                go_quiet (fail)
                all_goals
                  go_wp2_with fail
                  go_roundw
                  case rel => exact ⟨j + 1, by omega, by go_num, by rw [HSUC.out]; rfl, Lib.hid (HFK.out.on (below_drewN (Below.refl _ _) _))⟩
                  case measure => simp [intOf]; omega
            · obtain rfl : j = N.length := by omega
              have hall : isIn N N.length q.text = true := HIS.out HNMB.out
              rw [hall]
              go_wp2_with fail
              go_roundw
              case rel => exact ⟨i + 1, by omega, by go_num, by rw [HK2.out], HFK⟩
              case measure => simp [intOf]; omega
        | false =>
          go_wp2_with fail
          go_roundw
          case rel => exact ⟨i + 1, by omega, by go_num, by rw [HK2.out], HFK⟩
          case measure => simp [intOf]; omega
      | true =>
        have HK2 := Lib.hid (show (findL kind (A.take (i + 1))).length = K + 1 by rw [HTK.out, hkd]; simp [HKK.out])
        obtain ⟨hKlt, hKat⟩ := HAT.out hkd
        have hKF : ∃ h : K < F.length, F[K]'h = q := by
          have e1 := HKK.out
          have e2 := HFF.out
          subst e1 e2
          exact ⟨hKlt, hKat⟩
        obtain ⟨hKF, hFK2⟩ := hKF
        obtain ⟨bF, oF, a'', c'', haF, -, hr4, -, -⟩ := HFK.out.kF.get hKF
        rw [hFK2] at hr4
        subst haF
        obtain ⟨r0, r1, r2, r3⟩ := hr4
        have hlF : bF < wr.heap.size := cell_lt r0
        have nge : ¬ (F.length : Int) ≤ (K : Int) := by omega
        have eT : (q.text == q.text) = true := by simp
        have eL : ((q.kids.length : Int) == (q.kids.length : Int)) = true := by simp
        have eP : (q.pos == q.pos) = true := by simp
        clear hKlt hKat hFK2
        go_wp2_with fail
        go_quiet (fail)
        all_goals
          have HFKN := Lib.hid (fun n => HFK.out.on (below_drewN (Below.refl _ _) n))
          clear HFK
          cases k18 : (q.kind == 18) with
          | true =>
            have HNMB := Lib.hid (show nmB q = true by rw [nmB, k18]; rfl)
            go_wp2_with fail
            go_loopw [11, 12] (fun sv jv wi => ∃ j : Nat, j ≤ N.length ∧ jv = .int .i64 j ∧ sv = .bool (isIn N j q.text) ∧ Hid (FK w (some ⟨bA, oA, none⟩) A (some ⟨bF, oF, none⟩) F aN N wi)) (fun _ jv _ => N.length - (intOf jv).toNat)
            case atStart => exact ⟨0, by omega, rfl, by simp [isIn], Lib.hid (HFKN.out _)⟩
            case round =>
              obtain ⟨j, hj, rfl, rfl, HFK⟩ := hrel
              by_cases hjl : j < N.length
              · obtain ⟨a2, c2, hq2⟩ := HQ.out _ HFK.out
                obtain ⟨p0, p1, p2, p3⟩ := hq2
                obtain ⟨bN, oN, haN, hcN⟩ := HFK.out.kN j hjl
                have hsucc := isIn_succ N j q.text hjl
                subst haN
                obtain ⟨d, hd⟩ : ∃ d, N[j] = d := ⟨_, rfl⟩
                rw [hd] at hcN hsucc
                obtain ⟨r, hr⟩ : ∃ r, (d == q.text) = r := ⟨_, rfl⟩
                rw [hr] at hsucc
                have hlb9 : bA < wr.heap.size := cell_lt p0
                have hlb2 : bN < wr.heap.size := cell_lt hcN
                obtain ⟨sv, hsv⟩ : ∃ sv, isIn N j q.text = sv := ⟨_, rfl⟩
                rw [hsv] at hsucc ⊢
                have HSUC := Lib.hid hsucc
                clear hsucc hsv hd
                cases sv with
                | true =>
                  go_wp2_with fail
                  go_quiet (fail)
                  all_goals
                    go_wp2_with fail
                    go_roundw
                    case rel => exact ⟨j + 1, by omega, by go_num, by rw [HSUC.out]; rfl, Lib.hid (HFK.out.on (below_drewN (Below.refl _ _) _))⟩
                    case measure => simp [intOf]; omega
                | false =>
                  go_wp2_with fail
                  go_quiet (fail)
                  all_goals
                    go_wp2_with fail
                    go_roundw
                    case rel => exact ⟨j + 1, by omega, by go_num, by rw [HSUC.out]; rfl, Lib.hid (HFK.out.on (below_drewN (Below.refl _ _) _))⟩
                    case measure => simp [intOf]; omega
              · obtain rfl : j = N.length := by omega
                have hall : isIn N N.length q.text = true := HIS.out HNMB.out
                rw [hall]
                go_wp2_with fail
                go_roundw
                case rel => exact ⟨i + 1, by omega, by go_num, by rw [HK2.out]; go_num, HFK⟩
                case measure => simp [intOf]; omega
          | false =>
          cases k10 : (q.kind == 10) with
          | true =>
            have HNMB := Lib.hid (show nmB q = true by rw [nmB, k18, k10]; rfl)
            go_wp2_with fail
            go_loopw [11, 12] (fun sv jv wi => ∃ j : Nat, j ≤ N.length ∧ jv = .int .i64 j ∧ sv = .bool (isIn N j q.text) ∧ Hid (FK w (some ⟨bA, oA, none⟩) A (some ⟨bF, oF, none⟩) F aN N wi)) (fun _ jv _ => N.length - (intOf jv).toNat)
            case atStart => exact ⟨0, by omega, rfl, by simp [isIn], Lib.hid (HFKN.out _)⟩
            case round =>
              obtain ⟨j, hj, rfl, rfl, HFK⟩ := hrel
              by_cases hjl : j < N.length
              · obtain ⟨a2, c2, hq2⟩ := HQ.out _ HFK.out
                obtain ⟨p0, p1, p2, p3⟩ := hq2
                obtain ⟨bN, oN, haN, hcN⟩ := HFK.out.kN j hjl
                have hsucc := isIn_succ N j q.text hjl
                subst haN
                obtain ⟨d, hd⟩ : ∃ d, N[j] = d := ⟨_, rfl⟩
                rw [hd] at hcN hsucc
                obtain ⟨r, hr⟩ : ∃ r, (d == q.text) = r := ⟨_, rfl⟩
                rw [hr] at hsucc
                have hlb9 : bA < wr.heap.size := cell_lt p0
                have hlb2 : bN < wr.heap.size := cell_lt hcN
                obtain ⟨sv, hsv⟩ : ∃ sv, isIn N j q.text = sv := ⟨_, rfl⟩
                rw [hsv] at hsucc ⊢
                have HSUC := Lib.hid hsucc
                clear hsucc hsv hd
                cases sv with
                | true =>
                  go_wp2_with fail
                  go_quiet (fail)
                  all_goals
                    go_wp2_with fail
                    go_roundw
                    case rel => exact ⟨j + 1, by omega, by go_num, by rw [HSUC.out]; rfl, Lib.hid (HFK.out.on (below_drewN (Below.refl _ _) _))⟩
                    case measure => simp [intOf]; omega
                | false =>
                  go_wp2_with fail
                  go_quiet (fail)
                  all_goals
                    go_wp2_with fail
                    go_roundw
                    case rel => exact ⟨j + 1, by omega, by go_num, by rw [HSUC.out]; rfl, Lib.hid (HFK.out.on (below_drewN (Below.refl _ _) _))⟩
                    case measure => simp [intOf]; omega
              · obtain rfl : j = N.length := by omega
                have hall : isIn N N.length q.text = true := HIS.out HNMB.out
                rw [hall]
                go_wp2_with fail
                go_roundw
                case rel => exact ⟨i + 1, by omega, by go_num, by rw [HK2.out]; go_num, HFK⟩
                case measure => simp [intOf]; omega
          | false =>
            go_wp2_with fail
            go_roundw
            case rel => exact ⟨i + 1, by omega, by go_num, by rw [HK2.out]; go_num, Lib.hid (HFKN.out _)⟩
            case measure => simp [intOf]; omega
    · obtain rfl : i = A.length := by omega
      have HKF := Lib.hid (show (findL kind (A.take A.length)).length = F.length by rw [List.take_length, HFF.out])
      rw [HKF.out]
      go_wp2_with fail
      go_loopw [9, 13] (fun fv jv wr => ∃ j : Nat, j ≤ N.length ∧ jv = .int .i64 j ∧ fv = .int .i64 j ∧ Hid (FK w aA A aF F aN N wr)) (fun _ jv _ => N.length - (intOf jv).toNat)
      case atStart => exact ⟨0, by omega, rfl, rfl, HFK⟩
      case round =>
        obtain ⟨j, hj, rfl, rfl, HFK⟩ := hrel
        by_cases hjl : j < N.length
        · have hIS := (HMEM.out N[j]).1 (List.getElem_mem hjl)
          have HPJ := Lib.hid (fun (h : 0 < j) => (List.pairwise_iff_getElem.1 HPW.out) (j - 1) j (by omega) hjl (by omega))
          obtain ⟨d, hd⟩ : ∃ d, N[j] = d := ⟨_, rfl⟩
          rw [hd] at hIS
          have HIS := Lib.hid (show isNm A A.length d = true by
            obtain ⟨q, h1, h2, h3⟩ := hIS
            unfold isNm
            rw [List.take_length, List.any_eq_true]
            exact ⟨q, h1, by rw [h2, h3]; simp⟩)
          have HD := Lib.hid hd
          clear hIS hd
          go_wp2_with fail
          go_loopw [14, 15] (fun sv iv wr => ∃ i : Nat, i ≤ A.length ∧ iv = .int .i64 i ∧ sv = .bool (isNm A i d) ∧ Hid (FK w aA A aF F aN N wr)) (fun _ iv _ => A.length - (intOf iv).toNat)
          case atStart => exact ⟨0, by omega, rfl, by simp [isNm], HFK⟩
          case round =>
            obtain ⟨i, hi, rfl, rfl, HFK⟩ := hrel
            by_cases hil : i < A.length
            · obtain ⟨bA, oA, a', c', haA, -, ⟨p0, p1, p2, p3⟩, -, -⟩ := HFK.out.kA.get hil
              obtain ⟨bN, oN, haN, hcN⟩ := HFK.out.kN j hjl
              have hsucc := isNm_succ A i d hil
              rw [HD.out] at hcN
              subst haA haN
              obtain ⟨q, hq⟩ : ∃ q, A[i] = q := ⟨_, rfl⟩
              rw [hq] at p0 p1 p2 p3 hsucc
              obtain ⟨r, hr⟩ : ∃ r, (q.text == d) = r := ⟨_, rfl⟩
              rw [hr] at hsucc
              have hlb : bA < wr.heap.size := cell_lt p0
              have hlb2 : bN < wr.heap.size := cell_lt hcN
              obtain ⟨sv, hsv⟩ : ∃ sv, isNm A i d = sv := ⟨_, rfl⟩
              rw [hsv] at hsucc ⊢
              have HSUC := Lib.hid hsucc
              have HNB := Lib.hid (show nmB q = (q.kind == 18 || q.kind == 10) from rfl)
              clear hsucc hsv hq
              cases sv <;> cases k18 : (q.kind == 18) <;> cases k10 : (q.kind == 10)
              all_goals
                have HV := Lib.hid HSUC.out
                rw [HNB.out, k18, k10] at HV
                go_wp2_with fail
                go_quiet (fail)
                all_goals
                  go_wp2_with fail
                  go_roundw
                  case rel => exact ⟨i + 1, by omega, by go_num, by rw [HV.out]; cases r <;> rfl, Lib.hid (HFK.out.on (below_drewN (Below.refl _ _) _))⟩
                  case measure => simp [intOf]; omega
            · obtain rfl : i = A.length := by omega
              rw [HIS.out]
              obtain ⟨bN, oN, haN, hcN⟩ := HFK.out.kN j hjl
              rw [HD.out] at hcN
              subst haN
              have hlb2 : bN < wr.heap.size := cell_lt hcN
              by_cases hj0 : 0 < j
              · obtain ⟨bN', oN', haN', hcM⟩ := HFK.out.kN (j - 1) (by omega)
                injection haN' with haN'
                injection haN' with h1 h2
                subst h1 h2
                have hlt := HPJ.out hj0
                rw [HD.out] at hlt
                obtain ⟨m, hm⟩ : ∃ m, N[j - 1]'(by omega) = m := ⟨_, rfl⟩
                rw [hm] at hcM hlt
                have hj1 : (0 : Int) < (j : Int) := by omega
                obtain ⟨j', rfl⟩ : ∃ j', j = j' + 1 := ⟨j - 1, by omega⟩
                simp only [Nat.add_sub_cancel] at hcM
                have hbl : Op.bytesLess m d = true := by rw [bytesLess_eq]; exact decide_eq_true hlt
                clear hlt
                go_wp2_with fail
                go_quiet (fail)
                all_goals
                  go_wp2_with fail
                  go_roundw
                  case rel =>
                    first
                    | exact ⟨j' + 1 + 1, by omega, by go_num, by go_num, Lib.hid (HFK.out.on (below_drewN (Below.refl _ _) _))⟩
                    | exact ⟨_, _, j' + 1 + 1, by omega, by go_num, by go_num, Lib.hid (HFK.out.on (below_drewN (Below.refl _ _) _))⟩
                    | ((repeat apply Exists.intro); exact ⟨⟨j' + 1 + 1, by omega, by go_num, by go_num, Lib.hid (HFK.out.on (below_drewN (Below.refl _ _) _))⟩, rfl⟩)
                  case measure => simp [intOf]; omega
              · obtain rfl : j = 0 := by omega
                go_wp2_with fail
                go_quiet (fail)
                all_goals
                  go_wp2_with fail
                  go_roundw
                  case rel => exact ⟨0 + 1, by omega, by go_num, by go_num, Lib.hid (HFK.out.on (below_drewN (Below.refl _ _) _))⟩
                  case measure => simp [intOf]; omega
        · obtain rfl : j = N.length := by omega
          have HA := Lib.hid (awake_any wr HFK.out.glob)
          go_wp2_with fail
          refine HA.out.mono ?_
          rintro e w5 ⟨rfl, hb5⟩
          have HB5 := Lib.hid (bext HFK.out.below hb5)
          clear hb5
          go_wp2_with fail
          go_ret
          exact ⟨rfl, HB5.out⟩
end Go.Proofs.YtnmebgiiajnnjaaGreat
