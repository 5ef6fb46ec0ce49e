/-
  ported for this seat out of RrA, RrB, RefB (port.py)
-/
import Derived.Test.YtfcpblclfgkdjaaGreatDoorTok
import Derived.Test.YtfcpblclfgkdjaaGreatDoorZA
import Derived.Test.YtfcpblclfgkdjaaGreatDoorNd
import Derived.Deep.RegionHeld3
namespace Go.Proofs.YtfcpblclfgkdjaaGreatDoor
set_option linter.unusedSimpArgs false
set_option linter.unusedVariables false
open Go.RowKit

/-- The signs between two. -/
def signs13 : List (List UInt8) := [[43], [45], [42], [47], [37], [61, 61], [33, 61], [60], [60, 61], [62], [62, 61], [38, 38], [124, 124]]
theorem index_mem {s sub : List UInt8} (h : 0 ≤ Lib.index s sub) : ∃ j, j ≤ s.length ∧ Lib.occAt s sub j = true := by
  by_cases hx : ∃ j, j ≤ s.length ∧ Lib.occAt s sub j = true
  · exact hx
  · have := Lib.index_none (s := s) (sub := sub) (fun j hj => by
      cases e : Lib.occAt s sub j with
      | false => rfl
      | true => exact absurd ⟨j, hj, e⟩ hx)
    omega
theorem run_of {l : List UInt8} {c : UInt8} (hc : c ∉ l) : ∀ {r : List UInt8}, (l ++ [c]).isPrefixOf r = true → l = r.takeWhile (fun x => !(x == c)) := by
  induction l with
  | nil =>
    intro r h
    cases r with
    | nil => simp at h
    | cons x r =>
      have : c = x := by simpa using h
      simp [this]
  | cons y l ih =>
    intro r h
    cases r with
    | nil => simp at h
    | cons x r =>
      simp only [List.cons_append, List.isPrefixOf_cons_cons, Bool.and_eq_true] at h
      obtain rfl : y = x := by simpa using h.1
      have hy : (!(y == c)) = true := by simp; intro e; exact hc (by simp [e])
      rw [List.takeWhile_cons, if_pos hy, ← ih (fun hm => hc (by simp [hm])) h.2]
theorem runs_all : ∀ j, j < 34 → (signsText.drop j).head? = some 32 → ((signsText.drop (j + 1)).takeWhile (fun x => !(x == 32))) ∈ [] :: signs13 := by decide
theorem indexByte_mem {l : List UInt8} {c : UInt8} (h : decide (0 ≤ Lib.indexByte l c) = false) : c ∉ l := by
  induction l with
  | nil => simp
  | cons x l ih =>
    rw [decide_eq_false_iff_not] at h
    unfold Lib.indexByte at h
    by_cases hx : (x == c) = true
    · rw [if_pos hx] at h; exact absurd (by omega) h
    · rw [if_neg hx] at h
      have hne : x ≠ c := by simpa using hx
      have hge := Lib.indexByte_ge l c
      have h2 : ¬ 0 ≤ Lib.indexByte l c := by
        intro h0
        apply h
        rw [if_neg (by simp; omega)]
        omega
      have := ih (decide_eq_false h2)
      simp only [List.mem_cons, not_or]
      exact ⟨fun e => hne e.symm, this⟩
theorem binary_signs (l : List UInt8) : binaryL l = decide (l ∈ signs13) := by
  by_cases hm : l ∈ signs13
  · rw [decide_eq_true hm]
    simp only [signs13, List.mem_cons, List.not_mem_nil, or_false] at hm
    rcases hm with rfl | rfl | rfl | rfl | rfl | rfl | rfl | rfl | rfl | rfl | rfl | rfl | rfl <;> kernel_rfl
  · rw [decide_eq_false hm]
    unfold binaryL
    cases he : l.isEmpty with
    | true => rfl
    | false =>
      cases hs : decide (0 ≤ Lib.indexByte l 32) with
      | true => rfl
      | false =>
        simp only [Bool.not_false, Bool.true_and]
        rw [← Bool.not_eq_true]
        intro hc
        have hno := indexByte_mem hs
        unfold Lib.contains at hc
        obtain ⟨j, hj, ho⟩ := index_mem (of_decide_eq_true hc)
        have hj' : j < 34 := by have : signsText.length = 33 := rfl; omega
        unfold Lib.occAt at ho
        cases hd : signsText.drop j with
        | nil => rw [hd] at ho; simp at ho
        | cons x r =>
          rw [hd] at ho
          simp only [List.cons_append, List.nil_append, List.isPrefixOf_cons_cons, Bool.and_eq_true] at ho
          obtain rfl : (32 : UInt8) = x := by simpa using ho.1
          have hr : r = signsText.drop (j + 1) := by
            have := congrArg List.tail hd
            simpa using this.symm
          have hrun := run_of hno ho.2
          have := runs_all j hj' (by rw [hd]; rfl)
          rw [← hr, ← hrun] at this
          rcases List.mem_cons.1 this with e | e
          · rw [e] at he; cases he
          · exact hm e
end Go.Proofs.YtfcpblclfgkdjaaGreatDoor

namespace Go.Proofs.YtfcpblclfgkdjaaGreatDoor
set_option linter.unusedSimpArgs false
set_option linter.unusedVariables false
open Go.RowKit

/-- The slice that begins at a holds these texts. -/
def StrRow (w : World) (a : Option Addr) (l : List (List UInt8)) : Prop := ∀ j (h : j < l.length), ∃ b off, a = some ⟨b, off, none⟩ ∧ w.cell? ⟨b, off + j, none⟩ = some (.string ⟨l[j].toArray⟩)
theorem byte_at (s : List UInt8) (i : Nat) (h : i < s.length) : ((⟨s.toArray⟩ : ByteArray)[i]'(by simpa [ByteArray.size] using h)) = s[i] := by simp [ByteArray.getElem_eq_getElem_data]
set_option maxHeartbeats 1000000 in
theorem rin_any (s : List UInt8) (l : List (List UInt8)) (a : Option Addr) (c : Nat) (w : World) (hs : StrRow w a l) (hl : l.length ≤ 1000) :
    Calls Tryz.prog 68 #[.string ⟨s.toArray⟩, .slice a l.length c] w fun e w' => e = .returned (.bool (decide (s ∈ l))) ∧ w = w' := by
  have HS := Lib.hid hs
  clear hs
  go_enter Tryz.func68, Tryz.ntmps68
  go_wp2_with fail
  go_loopw [5] (fun i wr => ∃ k : Nat, k ≤ l.length ∧ i = .int .i64 k ∧ Hid (s ∉ l.take k) ∧ w = wr) (fun i _ => l.length - (intOf i).toNat)
  case atStart => exact ⟨0, by omega, rfl, Lib.hid (by simp), rfl⟩
  case round =>
    obtain ⟨k, hk, rfl, HV, rfl⟩ := hrel
    by_cases hlt : k < l.length
    · obtain ⟨b, off, ha, hc⟩ := HS.out k hlt
      subst ha
      obtain ⟨d, hd⟩ : ∃ d, l[k] = d := ⟨_, rfl⟩
      have HD := Lib.hid hd
      rw [hd] at hc
      clear hd
      by_cases he : d = s
      · have HR := Lib.hid (show decide (s ∈ l) = true by rw [← he, ← HD.out]; simp)
        have hb : (d == s) = true := by simpa using he
        clear he
        go_wp2_with fail
        go_ret
        exact ⟨ret_bool HR.out.symm, rfl⟩
      · have hb : (d == s) = false := by simpa using he
        have HN := Lib.hid (show s ∉ l.take (k + 1) by
          rw [List.take_succ_eq_append_getElem hlt, List.mem_append, HD.out]
          rintro (h | h)
          · exact HV.out h
          · exact he (List.mem_singleton.1 h).symm)
        clear he
        go_wp2_with fail
        go_roundw
        case rel => exact ⟨k + 1, by omega, by go_num, HN, by first | trivial | rfl⟩
        case measure => simp [intOf]; omega
    · have HR := Lib.hid (show decide (s ∈ l) = false by
        have := HV.out
        rw [List.take_of_length_le (by omega)] at this
        simpa using this)
      go_wp2_with fail
      go_ret
      exact ⟨ret_bool HR.out.symm, rfl⟩

def strCells (l : List (List UInt8)) : Array Value := (l.map fun s => Value.string ⟨s.toArray⟩).toArray
theorem strRow_new (w : World) (l : List (List UInt8)) (T : TypeId) : StrRow (w.alloc (.cells (strCells l) T)) (some ⟨w.heap.size, 0, none⟩) l := fun j hj =>
  ⟨_, _, rfl, by simp [go_sem, strCells]⟩
theorem rin_new (s : List UInt8) (l : List (List UInt8)) (c n : Nat) (w : World) (T : TypeId) (hn : l.length = n) (hl : n ≤ 1000) :
    Calls Tryz.prog 68 #[.string ⟨s.toArray⟩, .slice (some ⟨w.heap.size, 0, none⟩) n c] (w.alloc (.cells (strCells l) T)) fun e w' => e = .returned (.bool (decide (s ∈ l))) ∧ Below w.heap.size w w' := by
  subst hn
  refine (rin_any s l _ c _ (strRow_new w l T) hl).mono ?_
  rintro e w' ⟨rfl, rfl⟩
  exact ⟨rfl, below_alloc _ _⟩

set_option maxRecDepth 100000 in
set_option maxHeartbeats 4000000 in
theorem rword_any (l : List UInt8) (w : World) :
    Calls Tryz.prog 50 #[.string ⟨l.toArray⟩] w fun e w' => e = .returned (.int .i64 (wordI l)) ∧ Below w.heap.size w w' := by
  have h1 := rin_new l words1 14 14 w 9 rfl (by decide)
  have h2 := fun W => rin_new l words2 11 11 W 9 rfl (by decide)
  obtain ⟨b1, hb1⟩ : ∃ b, decide (l ∈ words1) = b := ⟨_, rfl⟩
  obtain ⟨b2, hb2⟩ : ∃ b, decide (l ∈ words2) = b := ⟨_, rfl⟩
  have hw : wordI l = if b1 = true then 1 else if b2 = true then 2 else 0 := by
    rw [← hb1, ← hb2]; simp [wordI]
  rw [hb1] at h1
  simp only [hb2] at h2
  simp only [strCells, words1, List.map_cons, List.map_nil] at h1
  simp only [strCells, words2, List.map_cons, List.map_nil] at h2
  rw [hw]
  clear hb1 hb2 hw
  have H1 := Lib.hid h1
  have H2 := Lib.hid h2
  clear h1 h2
  go_enter Tryz.func50, Tryz.ntmps50
  go_wp2_with fail
  refine H1.out.mono ?_
  rintro e w1 ⟨rfl, hb1⟩
  have HB1 := Lib.hid hb1
  clear hb1
  cases b1 with
  | true =>
    go_wp2_with fail
    go_ret
    exact ⟨rfl, HB1.out⟩
  | false =>
    go_wp2_with fail
    refine (H2.out w1).mono ?_
    rintro e w2 ⟨rfl, hb2⟩
    have HB2 := Lib.hid (bext HB1.out hb2)
    clear hb2
    cases b2 with
    | true =>
      go_wp2_with fail
      go_ret
      exact ⟨rfl, HB2.out⟩
    | false =>
      go_wp2_with fail
      go_ret
      exact ⟨rfl, HB2.out⟩

set_option maxHeartbeats 400000 in
theorem rletter_any (c : Int) (w : World) :
    Calls Tryz.prog 51 #[.int .u8 c] w fun e w' => e = .returned (.bool (letterI c)) ∧ w = w' := by
  go_enter Tryz.func51, Tryz.ntmps51
  go_wp2
  all_goals
    go_ret
    refine ⟨ret_bool ?_, rfl⟩
    rw [Bool.eq_iff_iff]; simp [letterI]; try omega

set_option maxHeartbeats 400000 in
theorem rfigure_any (c : Int) (w : World) :
    Calls Tryz.prog 49 #[.int .u8 c] w fun e w' => e = .returned (.bool (figureI c)) ∧ w = w' := by
  go_enter Tryz.func49, Tryz.ntmps49
  go_wp2
  all_goals
    go_ret
    refine ⟨ret_bool ?_, rfl⟩
    rw [Bool.eq_iff_iff]; simp [figureI]; try omega
theorem nameFrom_take {l : List UInt8} {k : Nat} (h : k ≤ l.length) : nameFrom false l = (nameFrom false (l.take k) && nameFrom false (l.drop k)) := by
  induction k generalizing l with
  | zero => simp [nameFrom]
  | succ k ih =>
    cases l with
    | nil => simp at h
    | cons x l => simp only [List.take_succ_cons, List.drop_succ_cons, nameFrom]; rw [ih (by simpa using h), Bool.and_assoc]

set_option maxHeartbeats 2000000 in
theorem rname_any (l : List UInt8) (w : World) (hl : l.length ≤ 9223372036854775807) :
    Calls Tryz.prog 27 #[.string ⟨l.toArray⟩] w fun e w' => e = .returned (.bool (nameT l)) ∧ Below w.heap.size w w' := by
  cases he : l.isEmpty with
  | true =>
    have HV := Lib.hid (show nameT l = false by simp [nameT, he])
    go_enter Tryz.func27, Tryz.ntmps27
    go_wp2_with fail
    go_ret
    exact ⟨ret_bool HV.out.symm, Below.refl _ _⟩
  | false =>
    have h0 : 0 < l.length := by cases l <;> simp_all
    have e0 := byte_at l 0 h0
    have hfirst : nameFrom true l = (letterB l[0] && nameFrom false (l.drop 1)) := by
      cases l with
      | nil => simp at h0
      | cons x r => simp [nameFrom, nameAt]
    have hff : nameFrom false l = ((letterB l[0] || figureB l[0]) && nameFrom false (l.drop 1)) := by
      cases l with
      | nil => simp at h0
      | cons x r => simp [nameFrom, nameAt]
    obtain ⟨d, hd⟩ : ∃ d, l[0] = d := ⟨_, rfl⟩
    rw [hd] at e0 hfirst hff
    clear hd
    by_cases hg : figureI d.toNat = true
    · have HV := Lib.hid (show nameT l = false by
        have : letterB d = false := by
          have := hg
          simp [figureI] at this
          unfold letterB letterI
          simp
          omega
        rw [nameT, hfirst, this]; rfl)
      clear hfirst hff
      go_enter Tryz.func27, Tryz.ntmps27
      go_wp2_with fail
      refine (rfigure_any _ _).mono ?_
      rintro e w1 ⟨rfl, rfl⟩
      go_wp2_with fail
      go_ret
      exact ⟨ret_bool HV.out.symm, Below.refl _ _⟩
    have hg' : figureI d.toNat = false := by simpa using hg
    have HFF := Lib.hid (show nameFrom true l = nameFrom false l by
      rw [hfirst, hff, show figureB d = false from hg', Bool.or_false])
    clear hg hfirst hff
    have hW := fun W => rword_any l W
    obtain ⟨n, hn⟩ : ∃ n, wordI l = n := ⟨_, rfl⟩
    simp only [hn] at hW
    have HW := Lib.hid hW
    have HN := Lib.hid hn
    clear hW hn
    by_cases hz : n = 0
    · subst hz
      have HE := Lib.hid (show nameT l = nameFrom false l by rw [nameT, HFF.out, he, HN.out]; simp)
      go_enter Tryz.func27, Tryz.ntmps27
      go_wp2_with fail
      refine (rfigure_any _ _).mono ?_
      rintro e w1 ⟨rfl, rfl⟩
      go_wp2_with fail
      refine (HW.out _).mono ?_
      rintro e w1 ⟨rfl, hb1⟩
      have HB1 := Lib.hid hb1
      clear hb1 e0 hg'
      go_wp2_with fail
      go_loopw [3] (fun i wr => ∃ k : Nat, k ≤ l.length ∧ i = .int .i64 k ∧ Hid (nameFrom false (l.take k) = true) ∧ w1 = wr) (fun i _ => l.length - (intOf i).toNat)
      case atStart => exact ⟨0, by omega, rfl, Lib.hid rfl, rfl⟩
      case round =>
        obtain ⟨k, hk, rfl, HV, rfl⟩ := hrel
        by_cases hlt : k < l.length
        · have e2 := byte_at l k hlt
          obtain ⟨d, hd⟩ : ∃ d, l[k] = d := ⟨_, rfl⟩
          have HD := Lib.hid hd
          rw [hd] at e2
          clear hd
          cases hlt1 : letterI d.toNat with
          | true =>
            have HV2 := Lib.hid (show nameFrom false (l.take (k + 1)) = true by
              rw [nameFrom_take (l := l.take (k + 1)) (k := k) (by simp; omega), List.take_take, Nat.min_eq_left (by omega), HV.out, List.take_succ_eq_append_getElem hlt, List.drop_append_of_le_length (by simp; omega), List.drop_of_length_le (by rw [List.length_take]; omega), HD.out]
              simp [nameFrom, nameAt, letterB, hlt1])
            go_wp2_with fail
            refine (rletter_any _ _).mono ?_
            rintro e w2 ⟨rfl, rfl⟩
            go_wp2_with fail
            go_roundw
            case rel => exact ⟨k + 1, by omega, by go_num, HV2, by first | trivial | rfl⟩
            case measure => simp [intOf]; omega
          | false =>
            cases hfg : figureI d.toNat with
            | true =>
              have HV2 := Lib.hid (show nameFrom false (l.take (k + 1)) = true by
                rw [nameFrom_take (l := l.take (k + 1)) (k := k) (by simp; omega), List.take_take, Nat.min_eq_left (by omega), HV.out, List.take_succ_eq_append_getElem hlt, List.drop_append_of_le_length (by simp; omega), List.drop_of_length_le (by rw [List.length_take]; omega), HD.out]
                simp [nameFrom, nameAt, figureB, hfg])
              go_wp2_with fail
              refine (rletter_any _ _).mono ?_
              rintro e w2 ⟨rfl, rfl⟩
              go_wp2_with fail
              refine (rfigure_any _ _).mono ?_
              rintro e w2 ⟨rfl, rfl⟩
              go_wp2_with fail
              go_roundw
              case rel => exact ⟨k + 1, by omega, by go_num, HV2, by first | trivial | rfl⟩
              case measure => simp [intOf]; omega
            | false =>
              have HR := Lib.hid (show nameT l = false by
                rw [HE.out, nameFrom_take hk, nameFrom_at hlt, HD.out]
                simp [nameAt, letterB, figureB, hlt1, hfg])
              go_wp2_with fail
              refine (rletter_any _ _).mono ?_
              rintro e w2 ⟨rfl, rfl⟩
              go_wp2_with fail
              refine (rfigure_any _ _).mono ?_
              rintro e w2 ⟨rfl, rfl⟩
              go_wp2_with fail
              go_ret
              exact ⟨ret_bool HR.out.symm, HB1.out⟩
        · have HR := Lib.hid (show nameT l = true by
            have := HV.out
            rw [List.take_of_length_le (by omega)] at this
            rw [HE.out, this])
          go_wp2_with fail
          go_ret
          exact ⟨ret_bool HR.out.symm, HB1.out⟩
    · have HE := Lib.hid (show nameT l = false by
        have : (wordI l == 0) = false := by rw [HN.out]; simpa using hz
        rw [nameT, this]; simp)
      have hz2 : (n != 0) = true := by simpa using hz
      clear hz
      go_enter Tryz.func27, Tryz.ntmps27
      go_wp2_with fail
      refine (rfigure_any _ _).mono ?_
      rintro e w1 ⟨rfl, rfl⟩
      go_wp2_with fail
      refine (HW.out _).mono ?_
      rintro e w1 ⟨rfl, hb1⟩
      have HB1 := Lib.hid hb1
      clear hb1
      go_wp2_with fail
      go_ret
      exact ⟨ret_bool HE.out.symm, HB1.out⟩

set_option maxHeartbeats 1000000 in
theorem rplain_any (l : List UInt8) (w : World) (hl : l.length ≤ 9223372036854775807) :
    Calls Tryz.prog 33 #[.string ⟨l.toArray⟩] w fun e w' => e = .returned (.bool (plainL l)) ∧ Below w.heap.size w w' := by
  have loop : ∀ (ok : plainL l = l.all figureB), (∀ d r, l = d :: r → l.length ≤ 200 ∧ (¬ 1 < (l.length : Int) ∨ (1 < (l.length : Int) ∧ ((d.toNat : Int) == 48) = false))) → l ≠ [] → Calls Tryz.prog 33 #[.string ⟨l.toArray⟩] w fun e w' => e = .returned (.bool (plainL l)) ∧ Below w.heap.size w w' := by
    intro ok hh hne
    have h0 : 0 < l.length := by cases l <;> simp_all
    have e0 := byte_at l 0 h0
    have HOK := Lib.hid ok
    obtain ⟨h200, hor⟩ := hh l[0] (l.drop 1) (by cases l with | nil => simp at h0 | cons x r => simp)
    have n0 : ((l.length : Int) == 0) = false := by simp; omega
    obtain ⟨d, hd⟩ : ∃ d, l[0] = d := ⟨_, rfl⟩
    rw [hd] at e0 hor
    clear hd ok hh hne
    rcases hor with h1 | ⟨h1, h48⟩
    all_goals
      go_enter Tryz.func33, Tryz.ntmps33
      go_wp2_with fail
      go_loopw [3] (fun i wr => ∃ k : Nat, k ≤ l.length ∧ i = .int .i64 k ∧ Hid ((l.take k).all figureB = true) ∧ w = wr) (fun i _ => l.length - (intOf i).toNat)
      case atStart => exact ⟨0, by omega, rfl, Lib.hid rfl, rfl⟩
      case round =>
        obtain ⟨k, hk, rfl, HV, rfl⟩ := hrel
        by_cases hlt : k < l.length
        · have e2 := byte_at l k hlt
          obtain ⟨d, hd⟩ : ∃ d, l[k] = d := ⟨_, rfl⟩
          have HD := Lib.hid hd
          rw [hd] at e2
          clear hd
          by_cases hf : figureI d.toNat = true
          · have HV2 := Lib.hid (show (l.take (k + 1)).all figureB = true by
              rw [List.take_succ_eq_append_getElem hlt, List.all_append, HV.out, HD.out]
              simp [figureB, hf])
            simp only [figureI, Bool.and_eq_true, decide_eq_true_eq] at hf
            obtain ⟨f0, f1⟩ := hf
            have g0 : ¬ (d.toNat : Int) < 48 := by omega
            have g1 : ¬ (57 : Int) < (d.toNat : Int) := by omega
            clear f0 f1
            go_wp2_with fail
            go_roundw
            case rel => exact ⟨k + 1, by omega, by go_num, HV2, by first | trivial | rfl⟩
            case measure => simp [intOf]; omega
          · have HR := Lib.hid (show plainL l = false by
              rw [HOK.out]
              rw [← Bool.not_eq_true, List.all_eq_true]
              intro ha
              have := ha l[k] (List.getElem_mem hlt)
              rw [HD.out] at this
              exact hf this)
            rcases (show (d.toNat : Int) < 48 ∨ (¬ (d.toNat : Int) < 48 ∧ 57 < (d.toNat : Int)) by simp [figureI] at hf; omega) with hq | ⟨hq2, hq⟩
            all_goals
              clear hf
              go_wp2_with fail
              go_ret
              exact ⟨ret_bool HR.out.symm, Below.refl _ _⟩
        · have HR := Lib.hid (show plainL l = true by
            have := HV.out
            rw [List.take_of_length_le (by omega)] at this
            rw [HOK.out, this])
          go_wp2_with fail
          go_ret
          exact ⟨ret_bool HR.out.symm, Below.refl _ _⟩
  cases l with
  | nil =>
    clear loop
    go_enter Tryz.func33, Tryz.ntmps33
    go_wp2_with fail
    go_ret
    exact ⟨rfl, Below.refl _ _⟩
  | cons x r =>
    by_cases h200 : (x :: r).length ≤ 200
    · by_cases h1 : r = []
      · subst h1
        refine loop ?_ (fun d r' e => ⟨by simp, .inl (by simp)⟩) (by simp)
        simp only [plainL]
        cases e : [x].all figureB with
        | false => rfl
        | true =>
          by_cases hx : x = 48
          · rw [hx]; rfl
          · simp [hx]
      · by_cases hx : x = 48
        · have HR := Lib.hid (show plainL (x :: r) = false by
            rw [plainL, hx]
            have : ((48 : UInt8) :: r == [48]) = false := by simpa using h1
            rw [this]; simp)
          have e0 := byte_at (x :: r) 0 (by simp)
          have hl1 : (1 : Int) < ((r.length : Int) + 1) := by cases r <;> simp_all; omega
          have hq : ((x.toNat : Int) == 48) = true := by rw [hx]; rfl
          have h2 : ¬ (200 : Int) < (r.length : Int) + 1 := by simp at h200; omega
          have h3 : ((r.length : Int) + 1 == 0) = false := by simp; omega
          rw [List.getElem_cons_zero] at e0
          clear loop h200 h1 hx
          go_enter Tryz.func33, Tryz.ntmps33
          go_wp2_with fail
          go_ret
          exact ⟨ret_bool HR.out.symm, Below.refl _ _⟩
        · refine loop ?_ (fun d r' e => ⟨h200, .inr ⟨?_, ?_⟩⟩) (by simp)
          · simp only [plainL]
            have : (x :: r == [48]) = false := by simp [h1]
            rw [this]
            simp [hx]
            intro _ _
            simpa using h200
          · have := List.length_pos_iff.2 h1; rw [List.length_cons]; omega
          · cases e
            rw [← Bool.not_eq_true]
            intro h
            exact hx (UInt8.toNat_inj.1 (by show x.toNat = 48; have : (x.toNat : Int) = 48 := by simpa using h
                                            omega))
    · have HR := Lib.hid (show plainL (x :: r) = false by
        rw [plainL]
        have : (x :: r == [48]) = false := by
          rw [← Bool.not_eq_true]
          intro h
          rw [eq_of_beq h] at h200
          simp at h200
        rw [this, decide_eq_false h200]; simp)
      have h2 : (200 : Int) < (r.length : Int) + 1 := by simp at h200; omega
      have h3 : ((r.length : Int) + 1 == 0) = false := by simp; omega
      clear loop h200
      go_enter Tryz.func33, Tryz.ntmps33
      go_wp2_with fail
      go_ret
      exact ⟨ret_bool HR.out.symm, Below.refl _ _⟩
end Go.Proofs.YtfcpblclfgkdjaaGreatDoor

namespace Go.Proofs.YtfcpblclfgkdjaaGreatDoor
set_option linter.unusedSimpArgs false
set_option linter.unusedVariables false
open Go.RowKit

set_option maxHeartbeats 400000 in
theorem rname6_any (l : List UInt8) (w : World) (hl : l.length ≤ 140737488351232) :
    Calls Tryz.prog 13 #[.string ⟨l.toArray⟩] w fun e w' => e = .returned (.bool (nameL l)) ∧ Below w.heap.size w w' := by
  have HN := Lib.hid (rname_any l w (by omega))
  by_cases h : l.length ≤ 100
  · have hn : nameL l = nameT l := by simp [nameL, h]
    have Hn := Lib.hid hn
    clear hn
    go_enter Tryz.func13, Tryz.ntmps13
    go_wp2_with fail
    refine HN.out.mono ?_
    rintro e w1 ⟨rfl, hb⟩
    go_wp2_with fail
    go_ret
    exact ⟨ret_bool Hn.out.symm, hb⟩
  · have hn : nameL l = false := by simp [nameL, h]
    have Hn := Lib.hid hn
    clear hn
    go_enter Tryz.func13, Tryz.ntmps13
    go_wp2_with fail
    go_ret
    exact ⟨ret_bool Hn.out.symm, Below.refl _ _⟩

set_option maxHeartbeats 400000 in
theorem rbound_any (l : List UInt8) (w : World) (hl : l.length ≤ 140737488351232) :
    Calls Tryz.prog 35 #[.string ⟨l.toArray⟩] w fun e w' => e = .returned (.bool (boundL l)) ∧ Below w.heap.size w w' := by
  go_enter Tryz.func35, Tryz.ntmps35
  go_wp2_with (go_at_call 13; refine (rname6_any _ _ hl).mono ?_; rintro e w' ⟨rfl, hb⟩)
  all_goals
    go_ret
    refine ⟨ret_bool ?_, hb⟩
    simp_all [boundL, bne]

set_option maxHeartbeats 400000 in
theorem rnothing_any (t : Nd) (a : Option Addr) (c : Nat) (w : World) :
    Calls Tryz.prog 36 #[.agg #[.int .i64 t.kind, .string ⟨t.text.toArray⟩, .slice a t.kids.length c, .int .i64 t.pos]] w fun e w' => e = .returned (.bool (emptyB t)) ∧ Below w.heap.size w w' := by
  go_enter Tryz.func36, Tryz.ntmps36
  go_wp2
  all_goals
    go_ret
    refine ⟨ret_bool ?_, (Below.refl _ _).alloc (Nat.le_refl _) _⟩
    unfold emptyB
  · simp_all [len_zero]
  · simp_all
  · simp_all

set_option maxHeartbeats 1000000 in
theorem rranged_any (l : List UInt8) (w : World) (hl : l.length ≤ 140737488351232) :
    Calls Tryz.prog 38 #[.string ⟨l.toArray⟩] w fun e w' => e = .returned (.bool (rangedL l)) ∧ Below w.heap.size w w' := by
  by_cases hm : 44 ∈ l
  · obtain ⟨pre, post, e, hp⟩ := parts_of hm
    have hb : rangedL l = (nameL pre && boundL post) := by rw [e, ranged_two hp]
    have hlen : l.length = pre.length + (post.length + 1) := by rw [e]; simp
    have x1 : (⟨l.toArray⟩ : ByteArray).extract 0 pre.length = ⟨pre.toArray⟩ := by rw [e, ByteArray.extract_mk]; simp
    have x2 : (⟨l.toArray⟩ : ByteArray).extract (pre.length + 1) l.length = ⟨post.toArray⟩ := by
      rw [ByteArray.extract_mk]
      congr 1
      rw [← Array.toList_inj]
      simp [e]
      exact List.take_of_length_le (by omega)
    have HAT := Lib.hid (fun (k : Nat) (h : k < pre.length) (h2 : k < l.length) => show l[k]'h2 ≠ 44 by
      intro e2
      apply hp
      rw [← e2]
      simp only [e, List.getElem_append_left h]
      exact List.getElem_mem h)
    have HB := Lib.hid hb
    have HN := Lib.hid (fun W => rname6_any pre W (by omega))
    have HD := Lib.hid (fun W => rbound_any post W (by omega))
    obtain ⟨P, hP⟩ : ∃ P, pre.length = P := ⟨_, rfl⟩
    obtain ⟨L, hL⟩ : ∃ L, l.length = L := ⟨_, rfl⟩
    have hPL : P < L := by omega
    rw [hP] at x1 x2 HAT
    have hPl : P < l.length := by omega
    have eC := byte_at l P hPl
    rw [show l[P]'hPl = 44 by subst hP; simp [e]] at eC
    rw [hL] at x2 hl
    have HL := Lib.hid hL
    clear hb e hp hm hP hlen
    go_enter Tryz.func38, Tryz.ntmps38
    go_wp2_with fail
    go_loopw [3] (fun i wr => ∃ k : Nat, k ≤ P ∧ i = .int .i64 k ∧ w = wr) (fun i _ => P - (intOf i).toNat)
    case atStart => exact ⟨0, by omega, rfl, rfl⟩
    case round =>
      obtain ⟨k, hk, rfl, rfl⟩ := hrel
      by_cases hlt : k < P
      · have hkl : k < l.length := by rw [hL]; omega
        have e2 := byte_at l k hkl
        have hne := HAT.out k hlt hkl
        obtain ⟨d, hd⟩ : ∃ d, l[k] = d := ⟨_, rfl⟩
        rw [hd] at e2 hne
        have hq : ((d.toNat : Int) == 44) = false := by
          rw [← Bool.not_eq_true]
          intro h
          exact hne (UInt8.toNat_inj.1 (by show d.toNat = 44; have : (d.toNat : Int) = 44 := by simpa using h
                                           omega))
        clear hd hne
        go_wp2_with fail
        go_roundw
        case rel => exact ⟨k + 1, by omega, by go_num, by first | trivial | rfl⟩
        case measure => simp [intOf]; omega
      · obtain rfl : k = P := by omega
        have hkl : k < l.length := by rw [hL]; omega
        clear hlt
        obtain ⟨r, hr⟩ : ∃ r, nameL pre = r := ⟨_, rfl⟩
        have HR := Lib.hid hr
        have HN' := Lib.hid (show ∀ W, Calls Tryz.prog 13 #[.string ⟨pre.toArray⟩] W fun e w' => e = .returned (.bool r) ∧ Below W.heap.size W w' from fun W => by have := HN.out W; rw [hr] at this; exact this)
        clear hr
        go_wp2_with fail
        refine (HN'.out _).mono ?_
        rintro e w1 ⟨rfl, hb1⟩
        cases r with
        | false =>
          go_wp2_with fail
          go_ret
          exact ⟨ret_bool (by rw [HB.out, HR.out]; rfl), hb1⟩
        | true =>
          go_wp2_with fail
          refine (HD.out _).mono ?_
          rintro e w2 ⟨rfl, hb2⟩
          go_wp2_with fail
          go_ret
          exact ⟨ret_bool (by rw [HB.out, HR.out]; rfl), bext hb1 hb2⟩
  · have HAT := Lib.hid (fun (k : Nat) (h : k < l.length) => show l[k] ≠ 44 from fun e => hm (by rw [← e]; exact List.getElem_mem h))
    have HB := Lib.hid (ranged_one hm)
    have HD := Lib.hid (fun W => rbound_any l W (by omega))
    clear hm
    go_enter Tryz.func38, Tryz.ntmps38
    go_wp2_with fail
    go_loopw [3] (fun i wr => ∃ k : Nat, k ≤ l.length ∧ i = .int .i64 k ∧ w = wr) (fun i _ => l.length - (intOf i).toNat)
    case atStart => exact ⟨0, by omega, rfl, rfl⟩
    case round =>
      obtain ⟨k, hk, rfl, rfl⟩ := hrel
      by_cases hlt : k < l.length
      · have e2 := byte_at l k hlt
        have hne := HAT.out k hlt
        obtain ⟨d, hd⟩ : ∃ d, l[k] = d := ⟨_, rfl⟩
        rw [hd] at e2 hne
        have hq : ((d.toNat : Int) == 44) = false := by
          rw [← Bool.not_eq_true]
          intro h
          exact hne (UInt8.toNat_inj.1 (by show d.toNat = 44; have : (d.toNat : Int) = 44 := by simpa using h
                                           omega))
        clear hd hne
        go_wp2_with fail
        go_roundw
        case rel => exact ⟨k + 1, by omega, by go_num, by first | trivial | rfl⟩
        case measure => simp [intOf]; omega
      · obtain rfl : k = l.length := by omega
        clear hlt
        cases he : l.isEmpty with
        | true =>
          have HR := Lib.hid (show rangedL l = true by rw [HB.out, he]; rfl)
          go_wp2_with fail
          go_ret
          exact ⟨ret_bool HR.out.symm, Below.refl _ _⟩
        | false =>
          have HR := Lib.hid (show rangedL l = boundL l by rw [HB.out, he]; rfl)
          go_wp2_with fail
          refine (HD.out _).mono ?_
          rintro e w1 ⟨rfl, hb1⟩
          go_wp2_with fail
          go_ret
          exact ⟨ret_bool HR.out.symm, hb1⟩

/-! What a walk over a node carries from call to call. -/
def Keep (B : World → Prop) : Prop := ∀ W W', Below W.heap.size W W' → B W → B W'
theorem keep_cell (p : Addr) (v : Value) : Keep (fun W => W.cell? p = some v) := fun W W' hb h => (hb.cell (by
  unfold World.cell? at h
  rcases Nat.lt_or_ge p.block W.heap.size with hl | hl
  · exact hl
  · simp only [Array.getElem?_eq_none hl] at h
    cases h)).trans h
theorem keep_and {A B : World → Prop} (hA : Keep A) (hB : Keep B) : Keep (fun W => A W ∧ B W) := fun W W' hb h => ⟨hA W W' hb h.1, hB W W' hb h.2⟩
theorem keep_true : Keep (fun _ => True) := fun _ _ _ h => h
theorem keep_four (b off : Nat) (t : Nd) (a : Option Addr) (c : Nat) : Keep (fun W => Four W b off t a c) := keep_and (keep_cell _ _) (keep_and (keep_cell _ _) (keep_and (keep_cell _ _) (keep_cell _ _)))
/-- Behind w0: the library's number, cells, known nodes of at most n within one another. -/
structure Nk (w0 : World) (n : Nat) (B : World → Prop) (K : List (Nd × Option Addr × Nat)) (W : World) : Prop where
  below : Below w0.heap.size w0 W
  glob : Glob W
  cells : B W
  known : ∀ y, y ∈ K → y.1.height ≤ n ∧ Kids W W.heap.size y.2.1 y.1.kids ∧ Fits y.1 y.2.2
section
variable {w0 : World} {n : Nat} {B : World → Prop} {K : List (Nd × Option Addr × Nat)} {W W' : World}
theorem Nk.on (h : Nk w0 n B K W) (hB : Keep B) (hb : Below W.heap.size W W') : Nk w0 n B K W' :=
  ⟨bext h.below hb, h.glob.on hb, hB W W' hb h.cells, fun y hy => ⟨(h.known y hy).1, (h.known y hy).2.1.on hb, (h.known y hy).2.2⟩⟩
abbrev NkPost (w0 : World) (n : Nat) (B : World → Prop) (K : List (Nd × Option Addr × Nat)) (v : Value) (e : Ending) (w' : World) : Prop := e = .returned v ∧ B w' ∧ Hid (Nk w0 n B K w')
theorem nk_post (h : Nk w0 n B K W) (hB : Keep B) {f : Nat} {args : Array Value} {v : Value} (hc : Calls Tryz.prog f args W fun e w' => e = .returned v ∧ Below W.heap.size W w') : Calls Tryz.prog f args W (NkPost w0 n B K v) :=
  hc.mono fun e w' ⟨he, hb⟩ => have h' := h.on hB hb; ⟨he, h'.cells, Lib.hid h'⟩
theorem nk_ok (h : Nk w0 n B K W) (hB : Keep B) {F : Nat} {f : Nd → Bool} (ho : Ok F f n) (t : Nd) (a : Option Addr) (c : Nat) (hm : (t, a, c) ∈ K) : Calls Tryz.prog F #[.agg #[.int .i64 t.kind, .string ⟨t.text.toArray⟩, .slice a t.kids.length c, .int .i64 t.pos]] W (NkPost w0 n B K (.bool (f t))) :=
  nk_post h hB (ho t a c W (h.known _ hm).1 h.glob (h.known _ hm).2.1 (h.known _ hm).2.2)
theorem nk_name (h : Nk w0 n B K W) (hB : Keep B) (l : List UInt8) (hl : l.length ≤ 140737488351232) : Calls Tryz.prog 13 #[.string ⟨l.toArray⟩] W (NkPost w0 n B K (.bool (nameL l))) :=
  nk_post h hB (rname6_any l W hl)
theorem nk_bound (h : Nk w0 n B K W) (hB : Keep B) (l : List UInt8) (hl : l.length ≤ 140737488351232) : Calls Tryz.prog 35 #[.string ⟨l.toArray⟩] W (NkPost w0 n B K (.bool (boundL l))) :=
  nk_post h hB (rbound_any l W hl)
theorem nk_ranged (h : Nk w0 n B K W) (hB : Keep B) (l : List UInt8) (hl : l.length ≤ 140737488351232) : Calls Tryz.prog 38 #[.string ⟨l.toArray⟩] W (NkPost w0 n B K (.bool (rangedL l))) :=
  nk_post h hB (rranged_any l W hl)
theorem nk_plain (h : Nk w0 n B K W) (hB : Keep B) (l : List UInt8) (hl : l.length ≤ 140737488351232) : Calls Tryz.prog 33 #[.string ⟨l.toArray⟩] W (NkPost w0 n B K (.bool (plainL l))) :=
  nk_post h hB (rplain_any l W (by omega))
theorem nk_nothing (h : Nk w0 n B K W) (hB : Keep B) (t : Nd) (a : Option Addr) (c : Nat) : Calls Tryz.prog 36 #[.agg #[.int .i64 t.kind, .string ⟨t.text.toArray⟩, .slice a t.kids.length c, .int .i64 t.pos]] W (NkPost w0 n B K (.bool (emptyB t))) :=
  nk_post h hB (rnothing_any t a c W)
/-- Cells more, nodes more. -/
theorem Nk.more (h : Nk w0 n B K W) {B' : World → Prop} {K' : List (Nd × Option Addr × Nat)} (hB : B' W) (hK : ∀ y, y ∈ K' → y ∈ K ∨ (y.1.height ≤ n ∧ Kids W W.heap.size y.2.1 y.1.kids ∧ Fits y.1 y.2.2)) : Nk w0 n B' K' W :=
  ⟨h.below, h.glob, hB, fun y hy => (hK y hy).elim (h.known y) id⟩
theorem Nk.less (h : Nk w0 n B K W) {B' : World → Prop} {K' : List (Nd × Option Addr × Nat)} (hB : B W → B' W) (hK : ∀ y, y ∈ K' → y ∈ K) : Nk w0 n B' K' W :=
  ⟨h.below, h.glob, hB h.cells, fun y hy => h.known y (hK y hy)⟩
end
theorem alls_no {α : Type} {f : α → Bool} {l : List α} {j : Nat} (hj : j < l.length) (h : f l[j] = false) : l.all f = false := by
  rw [← Bool.not_eq_true, List.all_eq_true]
  intro ha
  rw [ha _ (List.getElem_mem hj)] at h
  cases h
theorem alls_next {α : Type} {f : α → Bool} {l : List α} {j : Nat} (hj : j < l.length) (h0 : (l.take j).all f = true) (h : f l[j] = true) : (l.take (j + 1)).all f = true := by
  rw [List.take_succ_eq_append_getElem hj, List.all_append, h0]; simp [h]
theorem alls_end {α : Type} {f : α → Bool} {l : List α} (h0 : (l.take l.length).all f = true) : l.all f = true := by rwa [List.take_length] at h0
end Go.Proofs.YtfcpblclfgkdjaaGreatDoor

namespace Go.Proofs.YtfcpblclfgkdjaaGreatDoor
set_option linter.unusedSimpArgs false
set_option linter.unusedVariables false
open Go.RowKit

theorem Kids.one1 {w : World} {B : Nat} {a : Option Addr} {x : Nd} (h : Kids w B a [x]) : ∃ b off a1 c1, a = some ⟨b, off, none⟩ ∧ Four w b off x a1 c1 ∧ Fits x c1 ∧ Kids w B a1 x.kids := by
  obtain ⟨b, off, a1, c1, e, -, h1, h2, h3⟩ := h.get (j := 0) (by simp)
  exact ⟨b, off, a1, c1, e, by simpa using h1, by simpa using h2, by simpa using h3⟩
theorem Kids.two2 {w : World} {B : Nat} {a : Option Addr} {x y : Nd} (h : Kids w B a [x, y]) : ∃ b off a1 c1 a2 c2, a = some ⟨b, off, none⟩ ∧ (Four w b off x a1 c1 ∧ Fits x c1 ∧ Kids w B a1 x.kids) ∧ (Four w b (off + 4) y a2 c2 ∧ Fits y c2 ∧ Kids w B a2 y.kids) := by
  obtain ⟨b, off, a1, c1, e, -, h1, h2, h3⟩ := h.get (j := 0) (by simp)
  obtain ⟨b', off', a2, c2, e', -, h4, h5, h6⟩ := h.get (j := 1) (by simp)
  rw [e] at e'
  injection e' with e'
  injection e' with e1 e2
  subst e1 e2
  exact ⟨b, off, a1, c1, a2, c2, e, ⟨by simpa using h1, by simpa using h2, by simpa using h3⟩, by simpa using h4, by simpa using h5, by simpa using h6⟩

theorem laid4 (w : World) (v0 v1 v2 v3 : Value) (i : TypeId) : ∃ wa, w.alloc (.cells #[v0, v1, v2, v3] i) = wa ∧ Below w.heap.size w wa ∧
    wa.cell? ⟨w.heap.size, 0, none⟩ = some v0 ∧ wa.cell? ⟨w.heap.size, 1, none⟩ = some v1 ∧ wa.cell? ⟨w.heap.size, 2, none⟩ = some v2 ∧ wa.cell? ⟨w.heap.size, 3, none⟩ = some v3 :=
  ⟨_, rfl, below_alloc _ _, by simp [go_sem], by simp [go_sem], by simp [go_sem], by simp [go_sem]⟩
theorem Four.on {w w' : World} {b off : Nat} {t : Nd} {a : Option Addr} {c : Nat} (h : Four w b off t a c) (hb : Below w.heap.size w w') : Four w' b off t a c := keep_four b off t a c w w' hb h

/-- What the names of a signature's parameters must be. -/
def soOf (names : Bool) (l : List UInt8) : Bool := if names then nameL l else l.isEmpty
theorem sig_two (ty : Nd → Bool) (so : List UInt8 → Bool) (k : Int) (s : List UInt8) (x y : Nd) (p : Int) :
    sigB ty so (.mk k s [x, y] p) = (k == 12 && (s.isEmpty && ((x.kind == 6 && (x.text.isEmpty && x.kids.all (paramB ty so))) && (emptyB y || ty y)))) := by
  simp [sigB, ofB, kids2, emptyB]
theorem sig_not (ty : Nd → Bool) (so : List UInt8 → Bool) (k : Int) (s : List UInt8) (l : List Nd) (p : Int) (h : l.length ≠ 2) : sigB ty so (.mk k s l p) = false := by
  unfold sigB ofB
  match l, h with
  | [], _ => simp [kids2]
  | [_], _ => simp [kids2]
  | [_, _], h => simp at h
  | _ :: _ :: _ :: _, _ => simp [kids2]

set_option maxRecDepth 100000 in
set_option maxHeartbeats 8000000 in
theorem rsig_any (ty : Nd → Bool) (n : Nat) (h : Ok 15 ty n) (names : Bool) (t : Nd) (a : Option Addr) (c : Nat) (w : World) (ht : t.height ≤ n + 1) (hg : Glob w) (hk : Kids w w.heap.size a t.kids) (hf : Fits t c) :
    Calls Tryz.prog 18 #[.agg #[.int .i64 t.kind, .string ⟨t.text.toArray⟩, .slice a t.kids.length c, .int .i64 t.pos], .bool names] w fun e w' => e = .returned (.bool (sigB ty (soOf names) t)) ∧ Below w.heap.size w w' := by
  have hkid : ∀ x, x ∈ t.kids → x.height ≤ n := fun x hx => by have := Nd.height_kid hx; omega
  have hl2 : t.kids.length ≤ 9223372036854775807 := by have := hf.2.2.2.2.2.1; have := hf.2.2.2.2.2.2; omega
  obtain ⟨k, s, l, p⟩ := t
  simp only [Nd.kind_mk, Nd.text_mk, Nd.kids_mk, Nd.pos_mk] at *
  by_cases hlen : l.length = 2
  · obtain ⟨x, y, rfl⟩ : ∃ x y, l = [x, y] := by
      match l, hlen with
      | [x, y], _ => exact ⟨x, y, rfl⟩
    obtain ⟨b, off, a1, c1, a2, c2, rfl, ⟨⟨x0, x1, x2, x3⟩, fx, kx⟩, ⟨y0, y1, y2, y3⟩, fy, ky⟩ := hk.two2
    have hx := hkid x (by simp)
    have hy := hkid y (by simp)
    have hxl : x.kids.length ≤ 9223372036854775807 := by have := fx.2.2.2.2.2.1; have := fx.2.2.2.2.2.2; omega
    rw [sig_two]
    obtain ⟨PB, hPB⟩ : ∃ PB : Nd → Bool, PB = paramB ty (soOf names) := ⟨_, rfl⟩
    rw [← hPB]
    have HPB := Lib.hid (fun q => show PB q = (soOf names q.text && (q.kind == 8 && kids1 ty q.kids)) by rw [hPB]; rfl)
    clear hPB
    obtain ⟨wa, hwa, hba, c0, c1', c2', c3⟩ := laid4 w (.int .i64 k) (.string ⟨s.toArray⟩) (.slice (some ⟨b, off, none⟩) 2 c) (.int .i64 p) 25
    have fx' := Four.on ⟨x0, x1, x2, x3⟩ hba
    have fy' := Four.on ⟨y0, y1, y2, y3⟩ hba
    obtain ⟨S, hS⟩ : ∃ S : World → Prop, S = fun W => (W.cell? ⟨w.heap.size, 0, none⟩ = some (.int .i64 k) ∧ W.cell? ⟨w.heap.size, 1, none⟩ = some (.string ⟨s.toArray⟩) ∧ W.cell? ⟨w.heap.size, 2, none⟩ = some (.slice (some ⟨b, off, none⟩) 2 c) ∧ W.cell? ⟨w.heap.size, 3, none⟩ = some (.int .i64 p)) ∧
      Four W b off x a1 c1 ∧ Four W b (off + 4) y a2 c2 := ⟨_, rfl⟩
    have HKB := Lib.hid (show Keep S by rw [hS]; exact keep_and (keep_and (keep_cell _ _) (keep_and (keep_cell _ _) (keep_and (keep_cell _ _) (keep_cell _ _)))) (keep_and (keep_four _ _ _ _ _) (keep_four _ _ _ _ _)))
    have HP := Lib.hid (show Nk w n S [(x, a1, c1), (y, a2, c2)] wa from ⟨hba, hg.on hba, by rw [hS]; exact ⟨⟨c0, c1', c2', c3⟩, fx', fy'⟩, fun q hq => by
      simp only [List.mem_cons, List.not_mem_nil, or_false] at hq
      rcases hq with rfl | rfl
      · exact ⟨hx, kx.on hba, fx⟩
      · exact ⟨hy, ky.on hba, fy⟩⟩)
    have HT := Lib.hid h
    obtain ⟨x0, x1, x2, x3⟩ := fx'
    obtain ⟨y0, y1, y2, y3⟩ := fy'
    have HS := Lib.hid hS
    clear h hg hk hf hkid ht hlen fx kx fy ky hba hx hy hS
    cases names
    all_goals
      go_enter Tryz.func18, Tryz.ntmps18
      go_wp2_with (first
        | (go_at_call 36
           refine (nk_nothing HP.out HKB.out _ _ _).mono ?_
           rintro e w1 ⟨rfl, h1, HP⟩
           rw [HS.out] at h1
           obtain ⟨⟨c0, c1', c2', c3⟩, ⟨x0, x1, x2, x3⟩, y0, y1, y2, y3⟩ := h1)
        | (go_at_call 15
           refine (nk_ok HP.out HKB.out HT.out _ _ _ ?_).mono ?_
           focus (simp)
           rintro e w1 ⟨rfl, h1, HP⟩
           rw [HS.out] at h1
           obtain ⟨⟨c0, c1', c2', c3⟩, ⟨x0, x1, x2, x3⟩, y0, y1, y2, y3⟩ := h1))
      all_goals first
        | (go_ret
           exact ⟨ret_bool (by simp_all), HP.out.below⟩)
        | (have hy2 : (emptyB y || ty y) = true := by simp_all
           have e12 : k = 12 := by assumption
           have e0 : s = [] := by assumption
           have e6 : x.kind = 6 := by assumption
           have e00 : x.text = [] := by assumption
           have EX := Lib.hid (And.intro e6 e00)
           subst e12 e0
           clear e6 e00
           have HY2 := Lib.hid hy2
           clear hy2
           go_wp2_with fail
           go_loopw [6] (fun i wr => ∃ j : Nat, j ≤ x.kids.length ∧ i = .int .i64 j ∧ Hid ((x.kids.take j).all PB = true) ∧ Hid (Nk w n S [(x, a1, c1), (y, a2, c2)] wr)) (fun i _ => x.kids.length - (intOf i).toNat)
           case atStart => exact ⟨0, by omega, rfl, Lib.hid rfl, HP⟩
           case round =>
             obtain ⟨j, hj1, rfl, HALL, HP⟩ := hrel
             by_cases hlt : j < x.kids.length
             · obtain ⟨b', off', a', c', ha, -, hq4, hfq, hkq⟩ := (HP.out.known (x, a1, c1) (by simp)).2.1.get hlt
               have hqh := Nd.height_kid (List.getElem_mem hlt)
               have hxh := (HP.out.known (x, a1, c1) (by simp)).1
               have HNX := Lib.hid (fun e => alls_next (f := PB) hlt HALL.out e)
               have HNO := Lib.hid (fun e => alls_no (f := PB) hlt e)
               obtain ⟨q, hq⟩ : ∃ q, x.kids[j] = q := ⟨_, rfl⟩
               rw [hq] at hq4 hfq hkq hqh HNX HNO
               simp only at ha hxh
               subst ha
               clear hq
               obtain ⟨qk, qs, ql, qp⟩ := q
               simp only [Nd.kind_mk, Nd.text_mk, Nd.kids_mk, Nd.pos_mk] at hkq
               have hqs : qs.length ≤ 140737488351232 := hfq.2.2.2.2.1
               have hql2 : ql.length ≤ 9223372036854775807 := by have := hfq.2.2.2.2.2.1; have := hfq.2.2.2.2.2.2; simp only [Nd.kids_mk] at *; omega
               obtain ⟨d0, d1, d2, d3⟩ := hq4
               simp only [Nd.kind_mk, Nd.text_mk, Nd.kids_mk, Nd.pos_mk] at d0 d1 d2 d3
               by_cases hlen : ql.length = 1
               · obtain ⟨z, rfl⟩ : ∃ z, ql = [z] := by
                   match ql, hlen with
                   | [z], _ => exact ⟨z, rfl⟩
                 obtain ⟨bz, oz, az, cz, rfl, hz4, fz, kz⟩ := hkq.one1
                 have hzh := Nd.height_kid (t := .mk qk qs [z] qp) (k := z) (by simp)
                 have HPQ := Lib.hid (HPB.out (.mk qk qs [z] qp))
                 obtain ⟨S2, hS2⟩ : ∃ S2 : World → Prop, S2 = fun W => S W ∧ (W.cell? ⟨b', off' + j * 4, none⟩ = some (.int .i64 qk) ∧ W.cell? ⟨b', off' + j * 4 + 1, none⟩ = some (.string ⟨qs.toArray⟩) ∧ W.cell? ⟨b', off' + j * 4 + 2, none⟩ = some (.slice (some ⟨bz, oz, none⟩) 1 c')) ∧ Four W bz oz z az cz := ⟨_, rfl⟩
                 have HKB2 := Lib.hid (show Keep S2 by rw [hS2]; exact keep_and HKB.out (keep_and (keep_and (keep_cell _ _) (keep_and (keep_cell _ _) (keep_cell _ _))) (keep_four _ _ _ _ _)))
                 have HP2 := Lib.hid (show Nk w n S2 [(x, some ⟨b', off', none⟩, c1), (y, a2, c2), (z, az, cz)] wr from HP.out.more (by rw [hS2]; exact ⟨HP.out.cells, ⟨d0, d1, d2⟩, hz4⟩) (fun r hr => by
                   simp only [List.mem_cons, List.not_mem_nil, or_false] at hr ⊢
                   rcases hr with rfl | rfl | rfl
                   · exact .inl (.inl rfl)
                   · exact .inl (.inr rfl)
                   · exact .inr ⟨by show z.height ≤ n; omega, kz, fz⟩))
                 obtain ⟨z0, z1, z2, z3⟩ := hz4
                 have HS2 := Lib.hid hS2
                 clear hqh hxh hfq hkq fz kz hzh hlen hS2 d3
                 go_wp2_with (first
                   | (go_at_call 13
                      refine (nk_name HP2.out HKB2.out _ hqs).mono ?_
                      rintro e w1 ⟨rfl, h1, HP2⟩
                      rw [HS2.out] at h1
                      obtain ⟨-, ⟨d0, d1, d2⟩, z0, z1, z2, z3⟩ := h1)
                   | (go_at_call 15
                      refine (nk_ok HP2.out HKB2.out HT.out _ _ _ ?_).mono ?_
                      focus (simp)
                      rintro e w1 ⟨rfl, h1, HP2⟩
                      rw [HS2.out] at h1
                      obtain ⟨-, ⟨d0, d1, d2⟩, z0, z1, z2, z3⟩ := h1))
                 all_goals first
                   | (go_ret
                      exact ⟨ret_bool (by rw [HNO.out (by rw [HPQ.out]; simp_all [soOf, kids1])]; simp), HP2.out.below⟩)
                   | (have HA2 := Lib.hid (HNX.out (by rw [HPQ.out]; simp_all [soOf, kids1]))
                      have HN2 := Lib.hid (show Nk w n S [(x, some ⟨b', off', none⟩, c1), (y, a2, c2)] _ from HP2.out.less (fun h => by rw [HS2.out] at h; exact h.1) (by simp))
                      go_roundw
                      case rel =>
                        exact ⟨j + 1, by omega, by go_num, HA2, HN2⟩
                      case measure => simp [intOf]; omega)
               · have hn1 : ((ql.length : Int) != 1) = true := by simp; omega
                 have HV := Lib.hid (show x.kids.all PB = false from HNO.out (by
                   rw [HPB.out]
                   match ql, hlen with
                   | [], _ => simp [kids1]
                   | [_], h => simp at h
                   | _ :: _ :: _, _ => simp [kids1]))
                 clear hqh hxh hfq hkq hlen
                 go_wp2_with fail
                 all_goals
                   go_ret
                   exact ⟨ret_bool (by rw [HV.out]; simp), HP.out.below⟩
             · obtain rfl : j = x.kids.length := by omega
               have HV := Lib.hid (alls_end HALL.out)
               go_wp2_with fail
               go_ret
               exact ⟨ret_bool (by rw [HV.out, HY2.out, EX.out.1, EX.out.2]; rfl), HP.out.below⟩)
  · have hn : ((l.length : Int) != 2) = true := by simp; omega
    have HV := Lib.hid (sig_not ty (soOf names) k s l p hlen)
    clear hlen hkid h hg hk hf ht
    go_enter Tryz.func18, Tryz.ntmps18
    go_wp2_with fail
    all_goals
      go_ret
      exact ⟨ret_bool HV.out.symm, below_alloc _ _⟩
end Go.Proofs.YtfcpblclfgkdjaaGreatDoor

namespace Go.Proofs.YtfcpblclfgkdjaaGreatDoor
set_option linter.unusedSimpArgs false
set_option linter.unusedVariables false
open Go.RowKit

theorem eqL_long {f : Nd → Nd → Bool} : ∀ {l m : List Nd}, eqL f l m = true → l.length = m.length
  | [], [], _ => rfl
  | [], _ :: _, h => by simp [eqL] at h
  | _ :: _, [], h => by simp [eqL] at h
  | _ :: xs, _ :: ys, h => by rw [eqL, Bool.and_eq_true] at h; simp [eqL_long h.2]
theorem eqL_get {f : Nd → Nd → Bool} : ∀ {l m : List Nd}, eqL f l m = true → ∀ j (h1 : j < l.length) (h2 : j < m.length), f l[j] m[j] = true
  | [], [], _, j, h, _ => by simp at h
  | [], _ :: _, h, _, _, _ => by simp [eqL] at h
  | _ :: _, [], h, _, _, _ => by simp [eqL] at h
  | _ :: xs, _ :: ys, h, j, h1, h2 => by
    rw [eqL, Bool.and_eq_true] at h
    cases j with
    | zero => exact h.1
    | succ j => exact eqL_get h.2 j (by simpa using h1) (by simpa using h2)
theorem eqL_bad {f : Nd → Nd → Bool} {l m : List Nd} {j : Nat} (h1 : j < l.length) (h2 : j < m.length) (h : f l[j] m[j] = false) : eqL f l m = false := by
  cases e : eqL f l m with
  | false => rfl
  | true => rw [eqL_get e j h1 h2] at h; cases h
theorem eqL_far {f : Nd → Nd → Bool} {l m : List Nd} (h : l.length ≠ m.length) : eqL f l m = false := by
  cases e : eqL f l m with
  | false => rfl
  | true => exact absurd (eqL_long e) h

/-- What the call on two kids leaves. -/
abbrev KidPost (x y u v : Nd) (a1 a2 a' a'' : Option Addr) (c1 c2 c' c'' B b o b' o' : Nat) (s : Bool) (W : World) (e : Ending) (w' : World) : Prop :=
  e = .returned (.bool s) ∧ ((w'.cell? ⟨B, 0, none⟩ = some (.int .i64 x.kind) ∧ w'.cell? ⟨B, 1, none⟩ = some (.string ⟨x.text.toArray⟩) ∧ w'.cell? ⟨B, 2, none⟩ = some (.slice (a1) x.kids.length c1) ∧ w'.cell? ⟨B, 3, none⟩ = some (.int .i64 x.pos)) ∧ (w'.cell? ⟨B + 1, 0, none⟩ = some (.int .i64 y.kind) ∧ w'.cell? ⟨B + 1, 1, none⟩ = some (.string ⟨y.text.toArray⟩) ∧ w'.cell? ⟨B + 1, 2, none⟩ = some (.slice (a2) y.kids.length c2) ∧ w'.cell? ⟨B + 1, 3, none⟩ = some (.int .i64 y.pos)) ∧
    (w'.cell? ⟨b, o, none⟩ = some (.int .i64 u.kind) ∧ w'.cell? ⟨b, o + 1, none⟩ = some (.string ⟨u.text.toArray⟩) ∧ w'.cell? ⟨b, o + 2, none⟩ = some (.slice a' u.kids.length c') ∧ w'.cell? ⟨b, o + 3, none⟩ = some (.int .i64 u.pos)) ∧
    (w'.cell? ⟨b', o', none⟩ = some (.int .i64 v.kind) ∧ w'.cell? ⟨b', o' + 1, none⟩ = some (.string ⟨v.text.toArray⟩) ∧ w'.cell? ⟨b', o' + 2, none⟩ = some (.slice a'' v.kids.length c'') ∧ w'.cell? ⟨b', o' + 3, none⟩ = some (.int .i64 v.pos))) ∧ Hid (Below W.heap.size W w')
theorem kid_post {x y u v : Nd} {a1 a2 a' a'' : Option Addr} {c1 c2 c' c'' B b o b' o' : Nat} {s : Bool} {W : World} {f : Nat} {args : Array Value} (h1 : (W.cell? ⟨B, 0, none⟩ = some (.int .i64 x.kind) ∧ W.cell? ⟨B, 1, none⟩ = some (.string ⟨x.text.toArray⟩) ∧ W.cell? ⟨B, 2, none⟩ = some (.slice (a1) x.kids.length c1) ∧ W.cell? ⟨B, 3, none⟩ = some (.int .i64 x.pos))) (h2 : (W.cell? ⟨B + 1, 0, none⟩ = some (.int .i64 y.kind) ∧ W.cell? ⟨B + 1, 1, none⟩ = some (.string ⟨y.text.toArray⟩) ∧ W.cell? ⟨B + 1, 2, none⟩ = some (.slice (a2) y.kids.length c2) ∧ W.cell? ⟨B + 1, 3, none⟩ = some (.int .i64 y.pos))) (h3 : Four W b o u a' c') (h4 : Four W b' o' v a'' c'')
    (hc : Calls Tryz.prog f args W fun e w' => e = .returned (.bool s) ∧ Below W.heap.size W w') : Calls Tryz.prog f args W (KidPost x y u v a1 a2 a' a'' c1 c2 c' c'' B b o b' o' s W) :=
  hc.mono (fun e w' ⟨he, hb⟩ => by
    obtain ⟨hk, _⟩ := bcell hb
    have l1 := cell_lt h1.1
    have l2 := cell_lt h2.1
    have l3 := cell_lt h3.1
    have l4 := cell_lt h4.1
    exact ⟨he, ⟨⟨(hk _ _ l1).trans h1.1, (hk _ _ l1).trans h1.2.1, (hk _ _ l1).trans h1.2.2.1, (hk _ _ l1).trans h1.2.2.2⟩, ⟨(hk _ _ l2).trans h2.1, (hk _ _ l2).trans h2.2.1, (hk _ _ l2).trans h2.2.2.1, (hk _ _ l2).trans h2.2.2.2⟩,
      ⟨(hk _ _ l3).trans h3.1, (hk _ _ l3).trans h3.2.1, (hk _ _ l3).trans h3.2.2.1, (hk _ _ l3).trans h3.2.2.2⟩, ⟨(hk _ _ l4).trans h4.1, (hk _ _ l4).trans h4.2.1, (hk _ _ l4).trans h4.2.2.1, (hk _ _ l4).trans h4.2.2.2⟩⟩, Lib.hid hb⟩)

set_option maxRecDepth 100000 in
set_option maxHeartbeats 4000000 in
theorem rsame_any : ∀ (d : Nat), d ≤ 1000 → ∀ (x y : Nd) (a1 a2 : Option Addr) (c1 c2 : Nat) (w : World), Kids w w.heap.size a1 x.kids → Fits x c1 → Kids w w.heap.size a2 y.kids → Fits y c2 →
    Calls Tryz.prog 9 #[.agg #[.int .i64 x.kind, .string ⟨x.text.toArray⟩, .slice a1 x.kids.length c1, .int .i64 x.pos], .agg #[.int .i64 y.kind, .string ⟨y.text.toArray⟩, .slice a2 y.kids.length c2, .int .i64 y.pos], .int .i64 d] w fun e w' => e = .returned (.bool (sameB d x y)) ∧ Below w.heap.size w w'
  | 0, _, x, y, a1, a2, c1, c2, w, hk, hf, hk', hf' => by
    clear hk hf hk' hf'
    go_enter Tryz.func9, Tryz.ntmps9
    go_wp2_with fail
    go_ret
    exact ⟨rfl, ((Below.refl _ _).alloc (Nat.le_refl _) _).alloc (by simp) _⟩
  | d + 1, hd, x, y, a1, a2, c1, c2, w, hk, hf, hk', hf' => by
    have ih := rsame_any d (by omega)
    have HI := Lib.hid ih
    have HK := Lib.hid hk
    have HK' := Lib.hid hk'
    have hl63 : x.kids.length ≤ 9223372036854775807 := by have := hf.2.2.2.2.2.1; have := hf.2.2.2.2.2.2.1; omega
    have hl63' : y.kids.length ≤ 9223372036854775807 := by have := hf'.2.2.2.2.2.1; have := hf'.2.2.2.2.2.2.1; omega
    have hcap : x.kids.length ≤ c1 := hf.2.2.2.2.2.1
    have hcap' : y.kids.length ≤ c2 := hf'.2.2.2.2.2.1
    have h0 : ((d : Int) + 1 == 0) = false := by simp; omega
    have hwd : IntKind.i64.wrap (d : Int) = d := by rw [IntKind.wrap_i64]; omega
    have hba : Below w.heap.size w ((w.alloc (.cells #[.int .i64 x.kind, .string ⟨x.text.toArray⟩, .slice a1 x.kids.length c1, .int .i64 x.pos] 25)).alloc (.cells #[.int .i64 y.kind, .string ⟨y.text.toArray⟩, .slice a2 y.kids.length c2, .int .i64 y.pos] 25)) := ((Below.refl _ _).alloc (Nat.le_refl _) _).alloc (by simp) _
    have HB0 := Lib.hid hba
    clear ih hk hf hk' hf' hba
    go_enter Tryz.func9, Tryz.ntmps9
    cases h1 : (x.kind == y.kind) with
    | false =>
      have HE := Lib.hid (show sameB (d + 1) x y = false by rw [sameB, h1]; rfl)
      have h1' : (x.kind != y.kind) = true := by simp [bne, h1]
      go_wp2_with fail
      go_ret
      exact ⟨ret_bool HE.out.symm, HB0.out⟩
    | true =>
      have h1' : (x.kind != y.kind) = false := by simp [bne, h1]
      cases h2 : (x.text == y.text) with
      | false =>
        have HE := Lib.hid (show sameB (d + 1) x y = false by rw [sameB, h1, h2]; rfl)
        have h3 : ¬ x.text = y.text := by simpa using h2
        go_wp2_with fail
        go_ret
        exact ⟨ret_bool HE.out.symm, HB0.out⟩
      | true =>
        have HS := Lib.hid (show sameB (d + 1) x y = eqL (sameB d) x.kids y.kids by rw [sameB, h1, h2]; rfl)
        by_cases hl : x.kids.length = y.kids.length
        · have e1 : ((x.kids.length : Int) == (y.kids.length : Int)) = true := by simp [hl]
          have e2 : ((x.kids.length : Int) != (y.kids.length : Int)) = false := by simp [hl]
          have HL := Lib.hid hl
          clear hl
          go_wp2_with fail
          go_loopw [7] (fun i wr => ∃ k : Nat, k ≤ x.kids.length ∧ i = .int .i64 k ∧ (∀ j (p : j < x.kids.length) (q : j < y.kids.length), j < k → sameB d x.kids[j] y.kids[j] = true) ∧ Below w.heap.size w wr ∧
            (wr.cell? ⟨w.heap.size, 0, none⟩ = some (.int .i64 x.kind) ∧ wr.cell? ⟨w.heap.size, 1, none⟩ = some (.string ⟨x.text.toArray⟩) ∧ wr.cell? ⟨w.heap.size, 2, none⟩ = some (.slice (a1) x.kids.length c1) ∧ wr.cell? ⟨w.heap.size, 3, none⟩ = some (.int .i64 x.pos)) ∧ (wr.cell? ⟨w.heap.size + 1, 0, none⟩ = some (.int .i64 y.kind) ∧ wr.cell? ⟨w.heap.size + 1, 1, none⟩ = some (.string ⟨y.text.toArray⟩) ∧ wr.cell? ⟨w.heap.size + 1, 2, none⟩ = some (.slice (a2) y.kids.length c2) ∧ wr.cell? ⟨w.heap.size + 1, 3, none⟩ = some (.int .i64 y.pos))) (fun i _ => x.kids.length - (intOf i).toNat)
          case atStart => exact ⟨0, by omega, rfl, fun j _ _ h => by omega, HB0.out, ⟨by simp [go_sem], by simp [go_sem], by simp [go_sem], by simp [go_sem]⟩, by simp [go_sem], by simp [go_sem], by simp [go_sem], by simp [go_sem]⟩
          case round =>
            obtain ⟨k, hk1, rfl, hall, hb, ⟨x0, x1, x2, x3⟩, y0, y1, y2, y3⟩ := hrel
            have HB := Lib.hid hb
            have HA := Lib.hid hall
            clear hb hall
            by_cases hlt : k < x.kids.length
            · have hlt' : k < y.kids.length := by have := HL.out; omega
              obtain ⟨b, off, a', c', ha, hbB, ⟨p0, p1, p2, p3⟩, hf, hn⟩ := (HK.out.on HB.out).get hlt
              obtain ⟨b', off', a'', c'', ha', hbB', ⟨q0, q1, q2, q3⟩, hf', hn'⟩ := (HK'.out.on HB.out).get hlt'
              subst ha ha'
              have hlb : b < wr.heap.size := hbB
              have hlb' : b' < wr.heap.size := hbB'
              cases hs : sameB d x.kids[k] y.kids[k]
              all_goals
                have hcall := HI.out x.kids[k] y.kids[k] a' a'' c' c'' wr.drew (hn.on (Below.refl _ _).drew) hf (hn'.on (Below.refl _ _).drew) hf'
                rw [hs] at hcall
                have HC := Lib.hid (kid_post (W := wr.drew) (x := x) (y := y) (u := x.kids[k]) (v := y.kids[k]) ⟨x0, x1, x2, x3⟩ ⟨y0, y1, y2, y3⟩ ⟨p0, p1, p2, p3⟩ ⟨q0, q1, q2, q3⟩ hcall)
                have HSK := Lib.hid hs
                clear hf hn hf' hn' hs hcall
                go_wp2_with fail
                go_region_held3 (fun w' => (w'.cell? ⟨w.heap.size, 0, none⟩ = some (.int .i64 x.kind) ∧ w'.cell? ⟨w.heap.size, 1, none⟩ = some (.string ⟨x.text.toArray⟩) ∧ w'.cell? ⟨w.heap.size, 2, none⟩ = some (.slice (some ⟨b, off, none⟩) x.kids.length c1) ∧ w'.cell? ⟨w.heap.size, 3, none⟩ = some (.int .i64 x.pos)) ∧ (w'.cell? ⟨w.heap.size + 1, 0, none⟩ = some (.int .i64 y.kind) ∧ w'.cell? ⟨w.heap.size + 1, 1, none⟩ = some (.string ⟨y.text.toArray⟩) ∧ w'.cell? ⟨w.heap.size + 1, 2, none⟩ = some (.slice (some ⟨b', off', none⟩) y.kids.length c2) ∧ w'.cell? ⟨w.heap.size + 1, 3, none⟩ = some (.int .i64 y.pos)) ∧
                    (w'.cell? ⟨b, off + k * 4, none⟩ = some (.int .i64 x.kids[k].kind) ∧ w'.cell? ⟨b, off + k * 4 + 1, none⟩ = some (.string ⟨x.kids[k].text.toArray⟩) ∧ w'.cell? ⟨b, off + k * 4 + 2, none⟩ = some (.slice a' x.kids[k].kids.length c') ∧ w'.cell? ⟨b, off + k * 4 + 3, none⟩ = some (.int .i64 x.kids[k].pos)) ∧
                    (w'.cell? ⟨b', off' + k * 4, none⟩ = some (.int .i64 y.kids[k].kind) ∧ w'.cell? ⟨b', off' + k * 4 + 1, none⟩ = some (.string ⟨y.kids[k].text.toArray⟩) ∧ w'.cell? ⟨b', off' + k * 4 + 2, none⟩ = some (.slice a'' y.kids[k].kids.length c'') ∧ w'.cell? ⟨b', off' + k * 4 + 3, none⟩ = some (.int .i64 y.kids[k].pos))) (go_keep)
                  (first
                    | (go_at_call 9
                       refine HC.out.mono ?_
                       rintro e w1 ⟨rfl, ⟨⟨x0, x1, x2, x3⟩, ⟨y0, y1, y2, y3⟩, ⟨p0, p1, p2, p3⟩, ⟨q0, q1, q2, q3⟩⟩, hb1⟩))
              · all_goals
                  go_wp2_with fail
                  go_ret
                  exact ⟨ret_bool (by rw [HS.out, eqL_bad hlt hlt' HSK.out]), bext HB.out (bext (Below.refl _ _).drew hb1.out)⟩
              · all_goals
                  go_wp2_with fail
                  go_roundw
                  case rel =>
                    have hnew : ∀ j (p : j < x.kids.length) (q : j < y.kids.length), j < k + 1 → sameB d x.kids[j] y.kids[j] = true := fun j p q hj => by
                      by_cases e : j < k
                      · exact HA.out j p q e
                      · obtain rfl : j = k := by omega
                        exact HSK.out
                    first
                      | exact ⟨k + 1, by omega, by go_num, hnew, bext HB.out (bext (Below.refl _ _).drew hb1.out), ⟨x0, x1, x2, x3⟩, y0, y1, y2, y3⟩
                      | ((repeat apply Exists.intro); exact ⟨⟨k + 1, by omega, by go_num, hnew, bext HB.out (bext (Below.refl _ _).drew hb1.out), ⟨x0, x1, x2, x3⟩, y0, y1, y2, y3⟩, rfl⟩)
                  case measure => simp [intOf]; omega
            · obtain rfl : k = x.kids.length := by omega
              go_wp2_with fail
              go_ret
              exact ⟨ret_bool (by rw [HS.out, eqL_true HL.out (fun j p q => HA.out j p q p)]), HB.out⟩
        · have HE := Lib.hid (show sameB (d + 1) x y = false by rw [HS.out]; exact eqL_far hl)
          have e1 : ((x.kids.length : Int) == (y.kids.length : Int)) = false := by simp; omega
          have e2 : ((x.kids.length : Int) != (y.kids.length : Int)) = true := by simp; omega
          clear hl
          go_wp2_with fail
          go_ret
          exact ⟨ret_bool HE.out.symm, HB0.out⟩
end Go.Proofs.YtfcpblclfgkdjaaGreatDoor

