/-
  the document's words, walked.
-/
import Derived.Test.YtgldnkpanimihaaDoorVrV
import Derived.Test.YtgldnkpanimihaaDoorVrK
import Derived.Maps.AppendAt
import Derived.Laws.OwnMore
namespace Go.Proofs.YtgldnkpanimihaaDoor.Rf
set_option linter.unusedSimpArgs false
set_option linter.unusedVariables false
open Go.RowKit

theorem note_nil : noteless [] = [] := by decide +kernel
theorem note_cons (c : UInt8) (t : List UInt8) : noteless (c :: t) = if c = 47 ∧ t.head? = some 47 then [] else c :: noteless t := by
  have hp : ([47, 47] : List UInt8).isPrefixOf (c :: t) = true ↔ c = 47 ∧ t.head? = some 47 := by
    cases t with
    | nil => simp [List.isPrefixOf]
    | cons x r =>
      simp only [List.isPrefixOf, Bool.and_true, Bool.and_eq_true, beq_iff_eq, List.head?_cons, Option.some.injEq]
      exact ⟨fun h => ⟨h.1.symm, h.2.symm⟩, fun h => ⟨h.1.symm, h.2.symm⟩⟩
  unfold noteless Lib.cut
  rw [Lib.index]
  by_cases h : c = 47 ∧ t.head? = some 47
  · rw [if_pos h, if_pos (hp.2 h)]
    rfl
  · rw [if_neg h, if_neg (fun e => h (hp.1 e))]
    have hge := Lib.index_ge t [47, 47]
    by_cases hm : Lib.index t [47, 47] = -1
    · rw [hm]; rfl
    · have hv : (if (Lib.index t [47, 47] == -1) = true then (-1 : Int) else Lib.index t [47, 47] + 1) = Lib.index t [47, 47] + 1 := if_neg (by simpa using hm)
      rw [hv, if_pos (by omega), if_pos (by omega)]
      obtain ⟨i, hi⟩ : ∃ i : Nat, Lib.index t [47, 47] = i := ⟨(Lib.index t [47, 47]).toNat, by omega⟩
      rw [hi, show ((i : Int) + 1).toNat = i + 1 by omega]
      rfl
/-- A line's words, with what has begun, up to its note. -/
def ww (cur : List UInt8) : List UInt8 → List (List UInt8)
  | [] => if cur = [] then [] else [cur]
  | c :: t => if c = 47 ∧ t.head? = some 47 then (if cur = [] then [] else [cur]) else if blankB c then (if cur = [] then ww [] t else cur :: ww [] t) else ww (cur ++ [c]) t
theorem ww_wf : ∀ (l cur : List UInt8), ww cur l = wf cur (noteless l)
  | [], cur => by rw [note_nil]; rfl
  | c :: t, cur => by
    rw [note_cons]
    unfold ww
    split
    · rfl
    · unfold wf
      split
      · rw [ww_wf t []]
      · exact ww_wf t _
theorem ww_words (l : List UInt8) : ww [] l = wordsG l := by rw [words_wf, ww_wf]
def strV (l : List UInt8) : Value := .string ⟨l.toArray⟩
theorem infoStr : (Tryd.prog.info? 9).map (fun i => (i.zero, i.size, i.bytes)) = some (some (.string ByteArray.empty), 1, 16) := by kernel_rfl
/-- Texts behind a slice's address. -/
def TxA (w : World) (a : Option Addr) (L : List (List UInt8)) : Prop := ∀ i (h : i < L.length), ∃ A, a = some ⟨A, 0, none⟩ ∧ w.cell? ⟨A, i, none⟩ = some (.string ⟨L[i].toArray⟩)
theorem txa_of {w : World} {base : Nat} {v : Value} {k : Nat} {L : List (List UInt8)} (h : w.ownsRow base 9 1 v k (L.map strV)) (hk : L.length = k) : ∃ a c, v = .slice a L.length c ∧ TxA w a L := by
  subst hk
  rcases h.2 with ⟨rfl, h0⟩ | ⟨g, cap, cur, rfl, hbg, _, hnc, hcm, _⟩
  · rw [List.eq_nil_of_length_eq_zero h0]
    exact ⟨none, 0, rfl, fun i hi => by simp at hi⟩
  · refine ⟨_, cap, rfl, fun j hj => ⟨g, rfl, ?_⟩⟩
    rw [h.cellAt j (by omega), List.getElem?_map, List.getElem?_eq_getElem hj]; rfl
theorem mapS_snoc (L : List (List UInt8)) (x : List UInt8) : L.map strV ++ [.string ⟨x.toArray⟩] = (L ++ [x]).map strV := by simp [strV]
def WPost (L : List (List UInt8)) (w : World) (e : Ending) (w' : World) : Prop := ∃ a c, e = .returned (.slice a L.length c) ∧ Hid (TxA w' a L ∧ Below w.heap.size w w')
theorem cat_one (cur : List UInt8) (d : UInt8) : (⟨cur.toArray⟩ : ByteArray) ++ ⟨#[d]⟩ = ⟨(cur ++ [d]).toArray⟩ := by apply ByteArray.ext; simp
theorem ext_one (l : List UInt8) (k : Nat) (h : k < l.length) : (⟨l.toArray⟩ : ByteArray).extract k (k + 1) = ⟨#[l[k]]⟩ := by
  rw [ext_list, List.take_add_one, List.getElem?_eq_getElem h, List.drop_append, List.drop_eq_nil_of_le (by simp; omega)]
  rw [show k - (l.take k).length = 0 by simp; omega]; rfl

set_option maxRecDepth 100000 in
set_option maxHeartbeats 8000000 in
theorem words_ref (l : List UInt8) (w : World) (hl : l.length ≤ 100000) :
    Calls Tryd.prog 21 #[.string ⟨l.toArray⟩] w (WPost (wordsG l) w) := by
  rw [← ww_words]
  obtain ⟨i0, hi, hz0, hz1, hz2⟩ := info_parts infoStr
  obtain ⟨R, hR⟩ : ∃ R, ww [] l = R := ⟨_, rfl⟩
  have HR := Lib.hid hR
  rw [hR]
  clear hR
  go_enter Tryd.func21, Tryd.ntmps21
  go_wp2
  go_loopw [3, 4, 5] (fun v o i wr => ∃ (k : Nat) (L : List (List UInt8)) (cur : List UInt8), k ≤ l.length ∧ o = .string ⟨cur.toArray⟩ ∧ i = .int .i64 k ∧ cur.length ≤ k ∧ L.length ≤ k ∧ Hid (R = L ++ ww cur (l.drop k)) ∧ wr.ownsRow w.heap.size 9 1 v L.length (L.map strV) ∧ Below w.heap.size w wr)
    (fun _ _ i _ => l.length - (intOf i).toNat)
  case atStart => exact ⟨0, [], [], by omega, rfl, rfl, by simp, by simp, Lib.hid HR.out.symm, World.ownsRow_nil _ _ _ _, Below.refl _ _⟩
  case round =>
    obtain ⟨k, L, cur, hk, rfl, rfl, hcl, hLl, hI, hown, hb⟩ := hrel
    by_cases hlt : k < l.length
    · have e2 := byte_at l k hlt
      have x1 := ext_one l k hlt
      obtain ⟨d, hd⟩ : ∃ d, l[k] = d := ⟨_, rfl⟩
      rw [hd] at e2 x1
      have HD := Lib.hid (show l.drop k = d :: l.drop (k + 1) by rw [drop_at hlt, hd])
      have hu := d.toNat_lt
      clear hd
      have hh : (l.drop (k + 1)).head? = l[k + 1]? := by rw [List.head?_drop]
      by_cases h47 : (d.toNat : Int) = 47
      · have hd47 : d = 47 := UInt8.toNat_inj.1 (by show d.toNat = 47; omega)
        have hb0 : blankB d = false := by rw [hd47]; decide
        have q47 : ((d.toNat : Int) == 47) = true := by simpa using h47
        have q32 : ((d.toNat : Int) == 32) = false := by rw [h47]; rfl
        have q9 : ((d.toNat : Int) == 9) = false := by rw [h47]; rfl
        have q13 : ((d.toNat : Int) == 13) = false := by rw [h47]; rfl
        by_cases hk1 : k + 1 < l.length
        · have e3 := byte_at l (k + 1) hk1
          obtain ⟨q, hq⟩ : ∃ q, l[k + 1] = q := ⟨_, rfl⟩
          rw [List.getElem?_eq_getElem hk1, hq] at hh
          rw [hq] at e3
          have hu2 := q.toNat_lt
          clear hq
          by_cases hq47 : (q.toNat : Int) = 47
          · have hqq : q = 47 := UInt8.toNat_inj.1 (by show q.toNat = 47; omega)
            have HI := Lib.hid (show R = L ++ (if cur = [] then [] else [cur]) by rw [hI.out, HD.out, ww, if_pos ⟨hd47, by rw [hh, hqq]⟩])
            have r47 : ((q.toNat : Int) == 47) = true := by simpa using hq47
            clear hh hqq hq47 hd47 hb0 h47
            by_cases hc : cur = []
            · subst hc
              obtain ⟨a, c, rfl, htx⟩ := txa_of hown rfl
              have HT := Lib.hid htx
              have HRL := Lib.hid (show R = L by rw [HI.out]; simp)
              clear hown htx HI
              go_wp2
              go_ret
              exact ⟨a, c, by rw [HRL.out]; rfl, Lib.hid ⟨by rw [HRL.out]; exact HT.out, hb⟩⟩
            · have hce : cur.isEmpty = false := by simpa using hc
              have HRL := Lib.hid (show R = L ++ [cur] by rw [HI.out, if_neg hc])
              clear HI hc
              go_wp2_with (at_builtin; refine wpList_append_own _ rfl _ _ 48 rfl w.heap.size 9 i0 (.string ByteArray.empty) 1 16 Tryd.underlying48 hi hz0 hz1 hz2 rfl (by decide) _ _ _ rfl (hown.alloc _) ⟨wr.heap.size, 0, none⟩ 1 1 [.string ⟨cur.toArray⟩] rfl rfl (cell_one_new _ _ _) (by simp [Value.oneCell']) (by unfold maxLen; omega) (by omega) (by have := hb.size; simp; omega) ?_; intro v' w1 hown' hgrow _)
              have hb1 : Below w.heap.size w w1 := (hb.alloc hb.size _).grown hgrow (by have := hb.size; simp; omega) (fun j e => (hown.lt j e).1)
              rw [mapS_snoc] at hown'
              obtain ⟨a, c, rfl, htx⟩ := txa_of hown' (by simp)
              have HT := Lib.hid htx
              clear hown hown' htx hgrow
              go_wp2
              go_ret
              exact ⟨a, c, by rw [HRL.out]; rfl, Lib.hid ⟨by rw [HRL.out]; exact HT.out, hb1⟩⟩
          · have hst : ww cur (l.drop k) = ww (cur ++ [d]) (l.drop (k + 1)) := by
              rw [HD.out, ww, if_neg (fun e => hq47 (by have h2 := e.2; rw [hh] at h2; cases h2; rfl)), if_neg (by rw [hb0]; decide)]
            have r47 : ((q.toNat : Int) == 47) = false := by simpa using hq47
            clear hh hq47 hd47 hb0 h47
            have HC := Lib.hid (cat_one cur d)
            have HI := Lib.hid (show R = L ++ ww (cur ++ [d]) (l.drop (k + 1)) by rw [hI.out, hst])
            clear hst HD hI
            go_wp2
            go_roundw
            case rel => exact ⟨k + 1, L, cur ++ [d], by omega, by rw [← HC.out], by go_num, by rw [List.length_append]; simp; omega, by omega, HI, hown, hb⟩
            case measure => simp [intOf]; omega
        · have hst : ww cur (l.drop k) = ww (cur ++ [d]) (l.drop (k + 1)) := by
            rw [HD.out, ww, if_neg (fun e => by have h2 := e.2; rw [hh, List.getElem?_eq_none (by omega)] at h2; cases h2), if_neg (by rw [hb0]; decide)]
          have hk2 : ¬ (k : Int) + 1 < l.length := by omega
          clear hh hd47 hb0 h47
          have HC := Lib.hid (cat_one cur d)
          have HI := Lib.hid (show R = L ++ ww (cur ++ [d]) (l.drop (k + 1)) by rw [hI.out, hst])
          clear hst HD hI
          go_wp2
          go_roundw
          case rel => exact ⟨k + 1, L, cur ++ [d], by omega, by rw [← HC.out], by go_num, by rw [List.length_append]; simp; omega, by omega, HI, hown, hb⟩
          case measure => simp [intOf]; omega
      · have hd47 : ¬ d = 47 := fun e => h47 (by rw [e]; rfl)
        have q47 : ((d.toNat : Int) == 47) = false := by simpa using h47
        clear hh
        cases hbl : blankB d with
        | true =>
          have hst : ww cur (l.drop k) = if cur = [] then ww [] (l.drop (k + 1)) else cur :: ww [] (l.drop (k + 1)) := by rw [HD.out, ww, if_neg (fun e => hd47 e.1), if_pos hbl]
          have hor : (d.toNat : Int) = 32 ∨ (d.toNat : Int) = 9 ∨ (d.toNat : Int) = 13 := by simpa [blankB, blankI] using hbl
          clear hbl hd47
          rcases hor with hv | hv | hv
          · have q32 : ((d.toNat : Int) == 32) = true := by rw [hv]; rfl
            have q9 : ((d.toNat : Int) == 9) = false := by rw [hv]; rfl
            have q13 : ((d.toNat : Int) == 13) = false := by rw [hv]; rfl
            clear hv h47
            by_cases hc : cur = []
            · subst hc
              have HI := Lib.hid (show R = L ++ ww [] (l.drop (k + 1)) by rw [hI.out, hst]; rfl)
              clear hst HD hI
              go_wp2
              go_roundw
              case rel => exact ⟨k + 1, L, [], by omega, rfl, by go_num, by simp, by omega, HI, hown, hb⟩
              case measure => simp [intOf]; omega
            · have hce : cur.isEmpty = false := by simpa using hc
              have HI := Lib.hid (show R = (L ++ [cur]) ++ ww [] (l.drop (k + 1)) by rw [hI.out, hst, if_neg hc]; simp)
              clear hst hc HD hI
              go_wp2_with (at_builtin; refine wpList_append_own _ rfl _ _ 48 rfl w.heap.size 9 i0 (.string ByteArray.empty) 1 16 Tryd.underlying48 hi hz0 hz1 hz2 rfl (by decide) _ _ _ rfl (hown.alloc _) ⟨wr.heap.size, 0, none⟩ 1 1 [.string ⟨cur.toArray⟩] rfl rfl (cell_one_new _ _ _) (by simp [Value.oneCell']) (by unfold maxLen; omega) (by omega) (by have := hb.size; simp; omega) ?_; intro v' w1 hown' hgrow _)
              have hb1 : Below w.heap.size w w1 := (hb.alloc hb.size _).grown hgrow (by have := hb.size; simp; omega) (fun j e => (hown.lt j e).1)
              rw [mapS_snoc] at hown'
              clear hown hgrow hb
              go_wp2
              go_roundw
              case rel => exact ⟨k + 1, L ++ [cur], [], by omega, rfl, by go_num, by simp, by simp; omega, HI, by rw [List.length_append]; exact hown', hb1⟩
              case measure => simp [intOf]; omega
          · have q32 : ((d.toNat : Int) == 32) = false := by rw [hv]; rfl
            have q9 : ((d.toNat : Int) == 9) = true := by rw [hv]; rfl
            have q13 : ((d.toNat : Int) == 13) = false := by rw [hv]; rfl
            clear hv h47
            by_cases hc : cur = []
            · subst hc
              have HI := Lib.hid (show R = L ++ ww [] (l.drop (k + 1)) by rw [hI.out, hst]; rfl)
              clear hst HD hI
              go_wp2
              go_roundw
              case rel => exact ⟨k + 1, L, [], by omega, rfl, by go_num, by simp, by omega, HI, hown, hb⟩
              case measure => simp [intOf]; omega
            · have hce : cur.isEmpty = false := by simpa using hc
              have HI := Lib.hid (show R = (L ++ [cur]) ++ ww [] (l.drop (k + 1)) by rw [hI.out, hst, if_neg hc]; simp)
              clear hst hc HD hI
              go_wp2_with (at_builtin; refine wpList_append_own _ rfl _ _ 48 rfl w.heap.size 9 i0 (.string ByteArray.empty) 1 16 Tryd.underlying48 hi hz0 hz1 hz2 rfl (by decide) _ _ _ rfl (hown.alloc _) ⟨wr.heap.size, 0, none⟩ 1 1 [.string ⟨cur.toArray⟩] rfl rfl (cell_one_new _ _ _) (by simp [Value.oneCell']) (by unfold maxLen; omega) (by omega) (by have := hb.size; simp; omega) ?_; intro v' w1 hown' hgrow _)
              have hb1 : Below w.heap.size w w1 := (hb.alloc hb.size _).grown hgrow (by have := hb.size; simp; omega) (fun j e => (hown.lt j e).1)
              rw [mapS_snoc] at hown'
              clear hown hgrow hb
              go_wp2
              go_roundw
              case rel => exact ⟨k + 1, L ++ [cur], [], by omega, rfl, by go_num, by simp, by simp; omega, HI, by rw [List.length_append]; exact hown', hb1⟩
              case measure => simp [intOf]; omega
          · have q32 : ((d.toNat : Int) == 32) = false := by rw [hv]; rfl
            have q9 : ((d.toNat : Int) == 9) = false := by rw [hv]; rfl
            have q13 : ((d.toNat : Int) == 13) = true := by rw [hv]; rfl
            clear hv h47
            by_cases hc : cur = []
            · subst hc
              have HI := Lib.hid (show R = L ++ ww [] (l.drop (k + 1)) by rw [hI.out, hst]; rfl)
              clear hst HD hI
              go_wp2
              go_roundw
              case rel => exact ⟨k + 1, L, [], by omega, rfl, by go_num, by simp, by omega, HI, hown, hb⟩
              case measure => simp [intOf]; omega
            · have hce : cur.isEmpty = false := by simpa using hc
              have HI := Lib.hid (show R = (L ++ [cur]) ++ ww [] (l.drop (k + 1)) by rw [hI.out, hst, if_neg hc]; simp)
              clear hst hc HD hI
              go_wp2_with (at_builtin; refine wpList_append_own _ rfl _ _ 48 rfl w.heap.size 9 i0 (.string ByteArray.empty) 1 16 Tryd.underlying48 hi hz0 hz1 hz2 rfl (by decide) _ _ _ rfl (hown.alloc _) ⟨wr.heap.size, 0, none⟩ 1 1 [.string ⟨cur.toArray⟩] rfl rfl (cell_one_new _ _ _) (by simp [Value.oneCell']) (by unfold maxLen; omega) (by omega) (by have := hb.size; simp; omega) ?_; intro v' w1 hown' hgrow _)
              have hb1 : Below w.heap.size w w1 := (hb.alloc hb.size _).grown hgrow (by have := hb.size; simp; omega) (fun j e => (hown.lt j e).1)
              rw [mapS_snoc] at hown'
              clear hown hgrow hb
              go_wp2
              go_roundw
              case rel => exact ⟨k + 1, L ++ [cur], [], by omega, rfl, by go_num, by simp, by simp; omega, HI, by rw [List.length_append]; exact hown', hb1⟩
              case measure => simp [intOf]; omega
        | false =>
          have hst : ww cur (l.drop k) = ww (cur ++ [d]) (l.drop (k + 1)) := by
            rw [HD.out, ww, if_neg (fun e => hd47 e.1), if_neg (by rw [hbl]; decide)]
          have hno : ¬ (d.toNat : Int) = 32 ∧ ¬ (d.toNat : Int) = 9 ∧ ¬ (d.toNat : Int) = 13 := by simpa [blankB, blankI] using hbl
          obtain ⟨n1, n2, n3⟩ := hno
          have q32 : ((d.toNat : Int) == 32) = false := by simpa using n1
          have q9 : ((d.toNat : Int) == 9) = false := by simpa using n2
          have q13 : ((d.toNat : Int) == 13) = false := by simpa using n3
          clear hbl hd47 h47 n1 n2 n3
          have HC := Lib.hid (cat_one cur d)
          have HI := Lib.hid (show R = L ++ ww (cur ++ [d]) (l.drop (k + 1)) by rw [hI.out, hst])
          clear hst HD hI
          go_wp2
          go_roundw
          case rel => exact ⟨k + 1, L, cur ++ [d], by omega, by rw [← HC.out], by go_num, by rw [List.length_append]; simp; omega, by omega, HI, hown, hb⟩
          case measure => simp [intOf]; omega
    · have HI := Lib.hid (show R = L ++ (if cur = [] then [] else [cur]) by rw [hI.out, List.drop_eq_nil_of_le (by omega)]; rfl)
      by_cases hc : cur = []
      · subst hc
        obtain ⟨a, c, rfl, htx⟩ := txa_of hown rfl
        have HT := Lib.hid htx
        have HRL := Lib.hid (show R = L by rw [HI.out]; simp)
        clear hown htx HI
        go_wp2
        go_ret
        exact ⟨a, c, by rw [HRL.out]; rfl, Lib.hid ⟨by rw [HRL.out]; exact HT.out, hb⟩⟩
      · have hce : cur.isEmpty = false := by simpa using hc
        have HRL := Lib.hid (show R = L ++ [cur] by rw [HI.out, if_neg hc])
        clear HI hc
        go_wp2_with (at_builtin; refine wpList_append_own _ rfl _ _ 48 rfl w.heap.size 9 i0 (.string ByteArray.empty) 1 16 Tryd.underlying48 hi hz0 hz1 hz2 rfl (by decide) _ _ _ rfl (hown.alloc _) ⟨wr.heap.size, 0, none⟩ 1 1 [.string ⟨cur.toArray⟩] rfl rfl (cell_one_new _ _ _) (by simp [Value.oneCell']) (by unfold maxLen; omega) (by omega) (by have := hb.size; simp; omega) ?_; intro v' w1 hown' hgrow _)
        have hb1 : Below w.heap.size w w1 := (hb.alloc hb.size _).grown hgrow (by have := hb.size; simp; omega) (fun j e => (hown.lt j e).1)
        rw [mapS_snoc] at hown'
        obtain ⟨a, c, rfl, htx⟩ := txa_of hown' (by simp)
        have HT := Lib.hid htx
        clear hown hown' htx hgrow
        go_wp2
        go_ret
        exact ⟨a, c, by rw [HRL.out]; rfl, Lib.hid ⟨by rw [HRL.out]; exact HT.out, hb1⟩⟩
end Go.Proofs.YtgldnkpanimihaaDoor.Rf
