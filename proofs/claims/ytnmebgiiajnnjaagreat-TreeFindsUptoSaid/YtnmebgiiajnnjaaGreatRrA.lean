/-
  the document's list of signs is tree.go's text of signs; plain.
  the document's words, names and plain numbers (layers 2 and 3), walked.
-/
import Derived.Test.YtnmebgiiajnnjaaGreatTok
import Derived.Test.YtnmebgiiajnnjaaGreatTxt
import Derived.Test.YtnmebgiiajnnjaaGreatPlain
import Derived.Test.YtnmebgiiajnnjaaGreatNd
namespace Go.Proofs.YtnmebgiiajnnjaaGreat
set_option linter.unusedSimpArgs false
set_option linter.unusedVariables false
open Go.RowKit

/-- The signs between two. -/
def signs13 : List (List UInt8) := [[43], [45], [42], [47], [37], [61, 61], [33, 61], [60], [60, 61], [62], [62, 61], [38, 38], [124, 124]]
theorem index_mem {s sub : List UInt8} (h : 0 ≤ Lib.index s sub) : ∃ j, j ≤ s.length ∧ Lib.occAt s sub j = true := by
  by_cases hx : ∃ j, j ≤ s.length ∧ Lib.occAt s sub j = true
  · exact hx
  · have := Lib.index_none (s := s) (sub := sub) (fun j hj => by
      cases e : Lib.occAt s sub j with
      | false => rfl
      | true => exact absurd ⟨j, hj, e⟩ hx)
    omega
theorem run_of {l : List UInt8} {c : UInt8} (hc : c ∉ l) : ∀ {r : List UInt8}, (l ++ [c]).isPrefixOf r = true → l = r.takeWhile (fun x => !(x == c)) := by
  induction l with
  | nil =>
    intro r h
    cases r with
    | nil => simp at h
    | cons x r =>
      have : c = x := by simpa using h
      simp [this]
  | cons y l ih =>
    intro r h
    cases r with
    | nil => simp at h
    | cons x r =>
      simp only [List.cons_append, List.isPrefixOf_cons_cons, Bool.and_eq_true] at h
      obtain rfl : y = x := by simpa using h.1
      have hy : (!(y == c)) = true := by simp; intro e; exact hc (by simp [e])
      rw [List.takeWhile_cons, if_pos hy, ← ih (fun hm => hc (by simp [hm])) h.2]
theorem runs_all : ∀ j, j < 34 → (signsText.drop j).head? = some 32 → ((signsText.drop (j + 1)).takeWhile (fun x => !(x == 32))) ∈ [] :: signs13 := by decide
theorem indexByte_mem {l : List UInt8} {c : UInt8} (h : decide (0 ≤ Lib.indexByte l c) = false) : c ∉ l := by
  induction l with
  | nil => simp
  | cons x l ih =>
    rw [decide_eq_false_iff_not] at h
    unfold Lib.indexByte at h
    by_cases hx : (x == c) = true
    · rw [if_pos hx] at h; exact absurd (by omega) h
    · rw [if_neg hx] at h
      have hne : x ≠ c := by simpa using hx
      have hge := Lib.indexByte_ge l c
      have h2 : ¬ 0 ≤ Lib.indexByte l c := by
        intro h0
        apply h
        rw [if_neg (by simp; omega)]
        omega
      have := ih (decide_eq_false h2)
      simp only [List.mem_cons, not_or]
      exact ⟨fun e => hne e.symm, this⟩
theorem binary_signs (l : List UInt8) : binaryL l = decide (l ∈ signs13) := by
  by_cases hm : l ∈ signs13
  · rw [decide_eq_true hm]
    simp only [signs13, List.mem_cons, List.not_mem_nil, or_false] at hm
    rcases hm with rfl | rfl | rfl | rfl | rfl | rfl | rfl | rfl | rfl | rfl | rfl | rfl | rfl <;> kernel_rfl
  · rw [decide_eq_false hm]
    unfold binaryL
    cases he : l.isEmpty with
    | true => rfl
    | false =>
      cases hs : decide (0 ≤ Lib.indexByte l 32) with
      | true => rfl
      | false =>
        simp only [Bool.not_false, Bool.true_and]
        rw [← Bool.not_eq_true]
        intro hc
        have hno := indexByte_mem hs
        unfold Lib.contains at hc
        obtain ⟨j, hj, ho⟩ := index_mem (of_decide_eq_true hc)
        have hj' : j < 34 := by have : signsText.length = 33 := rfl; omega
        unfold Lib.occAt at ho
        cases hd : signsText.drop j with
        | nil => rw [hd] at ho; simp at ho
        | cons x r =>
          rw [hd] at ho
          simp only [List.cons_append, List.nil_append, List.isPrefixOf_cons_cons, Bool.and_eq_true] at ho
          obtain rfl : (32 : UInt8) = x := by simpa using ho.1
          have hr : r = signsText.drop (j + 1) := by
            have := congrArg List.tail hd
            simpa using this.symm
          have hrun := run_of hno ho.2
          have := runs_all j hj' (by rw [hd]; rfl)
          rw [← hr, ← hrun] at this
          rcases List.mem_cons.1 this with e | e
          · rw [e] at he; cases he
          · exact hm e
end Go.Proofs.YtnmebgiiajnnjaaGreat

namespace Go.Proofs.YtnmebgiiajnnjaaGreat
set_option linter.unusedSimpArgs false
set_option linter.unusedVariables false
open Go.RowKit

/-- The slice that begins at a holds these texts. -/
def StrRow (w : World) (a : Option Addr) (l : List (List UInt8)) : Prop := ∀ j (h : j < l.length), ∃ b off, a = some ⟨b, off, none⟩ ∧ w.cell? ⟨b, off + j, none⟩ = some (.string ⟨l[j].toArray⟩)
theorem byte_at (s : List UInt8) (i : Nat) (h : i < s.length) : ((⟨s.toArray⟩ : ByteArray)[i]'(by simpa [ByteArray.size] using h)) = s[i] := by simp [ByteArray.getElem_eq_getElem_data]
set_option maxHeartbeats 1000000 in
theorem rin_any (s : List UInt8) (l : List (List UInt8)) (a : Option Addr) (c : Nat) (w : World) (hs : StrRow w a l) (hl : l.length ≤ 1000) :
    Calls Tryz.prog 107 #[.string ⟨s.toArray⟩, .slice a l.length c] w fun e w' => e = .returned (.bool (decide (s ∈ l))) ∧ w = w' := by
  have HS := Lib.hid hs
  clear hs
  go_enter Tryz.func107, Tryz.ntmps107
  go_wp2_with fail
  go_loopw [5] (fun i wr => ∃ k : Nat, k ≤ l.length ∧ i = .int .i64 k ∧ Hid (s ∉ l.take k) ∧ w = wr) (fun i _ => l.length - (intOf i).toNat)
  case atStart => exact ⟨0, by omega, rfl, Lib.hid (by simp), rfl⟩
  case round =>
    obtain ⟨k, hk, rfl, HV, rfl⟩ := hrel
    by_cases hlt : k < l.length
    · obtain ⟨b, off, ha, hc⟩ := HS.out k hlt
      subst ha
      obtain ⟨d, hd⟩ : ∃ d, l[k] = d := ⟨_, rfl⟩
      have HD := Lib.hid hd
      rw [hd] at hc
      clear hd
      by_cases he : d = s
      · have HR := Lib.hid (show decide (s ∈ l) = true by rw [← he, ← HD.out]; simp)
        have hb : (d == s) = true := by simpa using he
        clear he
        go_wp2_with fail
        go_ret
        exact ⟨ret_bool HR.out.symm, rfl⟩
      · have hb : (d == s) = false := by simpa using he
        have HN := Lib.hid (show s ∉ l.take (k + 1) by
          rw [List.take_succ_eq_append_getElem hlt, List.mem_append, HD.out]
          rintro (h | h)
          · exact HV.out h
          · exact he (List.mem_singleton.1 h).symm)
        clear he
        go_wp2_with fail
        go_roundw
        case rel => exact ⟨k + 1, by omega, by go_num, HN, by first | trivial | rfl⟩
        case measure => simp [intOf]; omega
    · have HR := Lib.hid (show decide (s ∈ l) = false by
        have := HV.out
        rw [List.take_of_length_le (by omega)] at this
        simpa using this)
      go_wp2_with fail
      go_ret
      exact ⟨ret_bool HR.out.symm, rfl⟩

def strCells (l : List (List UInt8)) : Array Value := (l.map fun s => Value.string ⟨s.toArray⟩).toArray
theorem strRow_new (w : World) (l : List (List UInt8)) (T : TypeId) : StrRow (w.alloc (.cells (strCells l) T)) (some ⟨w.heap.size, 0, none⟩) l := fun j hj =>
  ⟨_, _, rfl, by simp [go_sem, strCells]⟩
theorem rin_new (s : List UInt8) (l : List (List UInt8)) (c n : Nat) (w : World) (T : TypeId) (hn : l.length = n) (hl : n ≤ 1000) :
    Calls Tryz.prog 107 #[.string ⟨s.toArray⟩, .slice (some ⟨w.heap.size, 0, none⟩) n c] (w.alloc (.cells (strCells l) T)) fun e w' => e = .returned (.bool (decide (s ∈ l))) ∧ Below w.heap.size w w' := by
  subst hn
  refine (rin_any s l _ c _ (strRow_new w l T) hl).mono ?_
  rintro e w' ⟨rfl, rfl⟩
  exact ⟨rfl, below_alloc _ _⟩

set_option maxRecDepth 100000 in
set_option maxHeartbeats 4000000 in
theorem rword_any (l : List UInt8) (w : World) :
    Calls Tryz.prog 82 #[.string ⟨l.toArray⟩] w fun e w' => e = .returned (.int .i64 (wordI l)) ∧ Below w.heap.size w w' := by
  have h1 := rin_new l words1 14 14 w 9 rfl (by decide)
  have h2 := fun W => rin_new l words2 11 11 W 9 rfl (by decide)
  obtain ⟨b1, hb1⟩ : ∃ b, decide (l ∈ words1) = b := ⟨_, rfl⟩
  obtain ⟨b2, hb2⟩ : ∃ b, decide (l ∈ words2) = b := ⟨_, rfl⟩
  have hw : wordI l = if b1 = true then 1 else if b2 = true then 2 else 0 := by
    rw [← hb1, ← hb2]; simp [wordI]
  rw [hb1] at h1
  simp only [hb2] at h2
  simp only [strCells, words1, List.map_cons, List.map_nil] at h1
  simp only [strCells, words2, List.map_cons, List.map_nil] at h2
  rw [hw]
  clear hb1 hb2 hw
  have H1 := Lib.hid h1
  have H2 := Lib.hid h2
  clear h1 h2
  go_enter Tryz.func82, Tryz.ntmps82
  go_wp2_with fail
  refine H1.out.mono ?_
  rintro e w1 ⟨rfl, hb1⟩
  have HB1 := Lib.hid hb1
  clear hb1
  cases b1 with
  | true =>
    go_wp2_with fail
    go_ret
    exact ⟨rfl, HB1.out⟩
  | false =>
    go_wp2_with fail
    refine (H2.out w1).mono ?_
    rintro e w2 ⟨rfl, hb2⟩
    have HB2 := Lib.hid (bext HB1.out hb2)
    clear hb2
    cases b2 with
    | true =>
      go_wp2_with fail
      go_ret
      exact ⟨rfl, HB2.out⟩
    | false =>
      go_wp2_with fail
      go_ret
      exact ⟨rfl, HB2.out⟩

set_option maxHeartbeats 400000 in
theorem rletter_any (c : Int) (w : World) :
    Calls Tryz.prog 83 #[.int .u8 c] w fun e w' => e = .returned (.bool (letterI c)) ∧ w = w' := by
  go_enter Tryz.func83, Tryz.ntmps83
  go_wp2
  all_goals
    go_ret
    refine ⟨ret_bool ?_, rfl⟩
    rw [Bool.eq_iff_iff]; simp [letterI]; try omega

set_option maxHeartbeats 400000 in
theorem rfigure_any (c : Int) (w : World) :
    Calls Tryz.prog 81 #[.int .u8 c] w fun e w' => e = .returned (.bool (figureI c)) ∧ w = w' := by
  go_enter Tryz.func81, Tryz.ntmps81
  go_wp2
  all_goals
    go_ret
    refine ⟨ret_bool ?_, rfl⟩
    rw [Bool.eq_iff_iff]; simp [figureI]; try omega
theorem nameFrom_take {l : List UInt8} {k : Nat} (h : k ≤ l.length) : nameFrom false l = (nameFrom false (l.take k) && nameFrom false (l.drop k)) := by
  induction k generalizing l with
  | zero => simp [nameFrom]
  | succ k ih =>
    cases l with
    | nil => simp at h
    | cons x l => simp only [List.take_succ_cons, List.drop_succ_cons, nameFrom]; rw [ih (by simpa using h), Bool.and_assoc]

set_option maxHeartbeats 2000000 in
theorem rname_any (l : List UInt8) (w : World) (hl : l.length ≤ 9223372036854775807) :
    Calls Tryz.prog 36 #[.string ⟨l.toArray⟩] w fun e w' => e = .returned (.bool (nameT l)) ∧ Below w.heap.size w w' := by
  cases he : l.isEmpty with
  | true =>
    have HV := Lib.hid (show nameT l = false by simp [nameT, he])
    go_enter Tryz.func36, Tryz.ntmps36
    go_wp2_with fail
    go_ret
    exact ⟨ret_bool HV.out.symm, Below.refl _ _⟩
  | false =>
    have h0 : 0 < l.length := by cases l <;> simp_all
    have e0 := byte_at l 0 h0
    have hfirst : nameFrom true l = (letterB l[0] && nameFrom false (l.drop 1)) := by
      cases l with
      | nil => simp at h0
      | cons x r => simp [nameFrom, nameAt]
    have hff : nameFrom false l = ((letterB l[0] || figureB l[0]) && nameFrom false (l.drop 1)) := by
      cases l with
      | nil => simp at h0
      | cons x r => simp [nameFrom, nameAt]
    obtain ⟨d, hd⟩ : ∃ d, l[0] = d := ⟨_, rfl⟩
    rw [hd] at e0 hfirst hff
    clear hd
    by_cases hg : figureI d.toNat = true
    · have HV := Lib.hid (show nameT l = false by
        have : letterB d = false := by
          have := hg
          simp [figureI] at this
          unfold letterB letterI
          simp
          omega
        rw [nameT, hfirst, this]; rfl)
      clear hfirst hff
      go_enter Tryz.func36, Tryz.ntmps36
      go_wp2_with fail
      refine (rfigure_any _ _).mono ?_
      rintro e w1 ⟨rfl, rfl⟩
      go_wp2_with fail
      go_ret
      exact ⟨ret_bool HV.out.symm, Below.refl _ _⟩
    have hg' : figureI d.toNat = false := by simpa using hg
    have HFF := Lib.hid (show nameFrom true l = nameFrom false l by
      rw [hfirst, hff, show figureB d = false from hg', Bool.or_false])
    clear hg hfirst hff
    have hW := fun W => rword_any l W
    obtain ⟨n, hn⟩ : ∃ n, wordI l = n := ⟨_, rfl⟩
    simp only [hn] at hW
    have HW := Lib.hid hW
    have HN := Lib.hid hn
    clear hW hn
    by_cases hz : n = 0
    · subst hz
      have HE := Lib.hid (show nameT l = nameFrom false l by rw [nameT, HFF.out, he, HN.out]; simp)
      go_enter Tryz.func36, Tryz.ntmps36
      go_wp2_with fail
      refine (rfigure_any _ _).mono ?_
      rintro e w1 ⟨rfl, rfl⟩
      go_wp2_with fail
      refine (HW.out _).mono ?_
      rintro e w1 ⟨rfl, hb1⟩
      have HB1 := Lib.hid hb1
      clear hb1 e0 hg'
      go_wp2_with fail
      go_loopw [3] (fun i wr => ∃ k : Nat, k ≤ l.length ∧ i = .int .i64 k ∧ Hid (nameFrom false (l.take k) = true) ∧ w1 = wr) (fun i _ => l.length - (intOf i).toNat)
      case atStart => exact ⟨0, by omega, rfl, Lib.hid rfl, rfl⟩
      case round =>
        obtain ⟨k, hk, rfl, HV, rfl⟩ := hrel
        by_cases hlt : k < l.length
        · have e2 := byte_at l k hlt
          obtain ⟨d, hd⟩ : ∃ d, l[k] = d := ⟨_, rfl⟩
          have HD := Lib.hid hd
          rw [hd] at e2
          clear hd
          cases hlt1 : letterI d.toNat with
          | true =>
            have HV2 := Lib.hid (show nameFrom false (l.take (k + 1)) = true by
              rw [nameFrom_take (l := l.take (k + 1)) (k := k) (by simp; omega), List.take_take, Nat.min_eq_left (by omega), HV.out, List.take_succ_eq_append_getElem hlt, List.drop_append_of_le_length (by simp; omega), List.drop_of_length_le (by rw [List.length_take]; omega), HD.out]
              simp [nameFrom, nameAt, letterB, hlt1])
            go_wp2_with fail
            refine (rletter_any _ _).mono ?_
            rintro e w2 ⟨rfl, rfl⟩
            go_wp2_with fail
            go_roundw
            case rel => exact ⟨k + 1, by omega, by go_num, HV2, by first | trivial | rfl⟩
            case measure => simp [intOf]; omega
          | false =>
            cases hfg : figureI d.toNat with
            | true =>
              have HV2 := Lib.hid (show nameFrom false (l.take (k + 1)) = true by
                rw [nameFrom_take (l := l.take (k + 1)) (k := k) (by simp; omega), List.take_take, Nat.min_eq_left (by omega), HV.out, List.take_succ_eq_append_getElem hlt, List.drop_append_of_le_length (by simp; omega), List.drop_of_length_le (by rw [List.length_take]; omega), HD.out]
                simp [nameFrom, nameAt, figureB, hfg])
              go_wp2_with fail
              refine (rletter_any _ _).mono ?_
              rintro e w2 ⟨rfl, rfl⟩
              go_wp2_with fail
              refine (rfigure_any _ _).mono ?_
              rintro e w2 ⟨rfl, rfl⟩
              go_wp2_with fail
              go_roundw
              case rel => exact ⟨k + 1, by omega, by go_num, HV2, by first | trivial | rfl⟩
              case measure => simp [intOf]; omega
            | false =>
              have HR := Lib.hid (show nameT l = false by
                rw [HE.out, nameFrom_take hk, nameFrom_at hlt, HD.out]
                simp [nameAt, letterB, figureB, hlt1, hfg])
              go_wp2_with fail
              refine (rletter_any _ _).mono ?_
              rintro e w2 ⟨rfl, rfl⟩
              go_wp2_with fail
              refine (rfigure_any _ _).mono ?_
              rintro e w2 ⟨rfl, rfl⟩
              go_wp2_with fail
              go_ret
              exact ⟨ret_bool HR.out.symm, HB1.out⟩
        · have HR := Lib.hid (show nameT l = true by
            have := HV.out
            rw [List.take_of_length_le (by omega)] at this
            rw [HE.out, this])
          go_wp2_with fail
          go_ret
          exact ⟨ret_bool HR.out.symm, HB1.out⟩
    · have HE := Lib.hid (show nameT l = false by
        have : (wordI l == 0) = false := by rw [HN.out]; simpa using hz
        rw [nameT, this]; simp)
      have hz2 : (n != 0) = true := by simpa using hz
      clear hz
      go_enter Tryz.func36, Tryz.ntmps36
      go_wp2_with fail
      refine (rfigure_any _ _).mono ?_
      rintro e w1 ⟨rfl, rfl⟩
      go_wp2_with fail
      refine (HW.out _).mono ?_
      rintro e w1 ⟨rfl, hb1⟩
      have HB1 := Lib.hid hb1
      clear hb1
      go_wp2_with fail
      go_ret
      exact ⟨ret_bool HE.out.symm, HB1.out⟩

set_option maxHeartbeats 1000000 in
theorem rplain_any (l : List UInt8) (w : World) (hl : l.length ≤ 9223372036854775807) :
    Calls Tryz.prog 42 #[.string ⟨l.toArray⟩] w fun e w' => e = .returned (.bool (plainL l)) ∧ Below w.heap.size w w' := by
  have loop : ∀ (ok : plainL l = l.all figureB), (∀ d r, l = d :: r → l.length ≤ 200 ∧ (¬ 1 < (l.length : Int) ∨ (1 < (l.length : Int) ∧ ((d.toNat : Int) == 48) = false))) → l ≠ [] → Calls Tryz.prog 42 #[.string ⟨l.toArray⟩] w fun e w' => e = .returned (.bool (plainL l)) ∧ Below w.heap.size w w' := by
    intro ok hh hne
    have h0 : 0 < l.length := by cases l <;> simp_all
    have e0 := byte_at l 0 h0
    have HOK := Lib.hid ok
    obtain ⟨h200, hor⟩ := hh l[0] (l.drop 1) (by cases l with | nil => simp at h0 | cons x r => simp)
    have n0 : ((l.length : Int) == 0) = false := by simp; omega
    obtain ⟨d, hd⟩ : ∃ d, l[0] = d := ⟨_, rfl⟩
    rw [hd] at e0 hor
    clear hd ok hh hne
    rcases hor with h1 | ⟨h1, h48⟩
    all_goals
      go_enter Tryz.func42, Tryz.ntmps42
      go_wp2_with fail
      go_loopw [3] (fun i wr => ∃ k : Nat, k ≤ l.length ∧ i = .int .i64 k ∧ Hid ((l.take k).all figureB = true) ∧ w = wr) (fun i _ => l.length - (intOf i).toNat)
      case atStart => exact ⟨0, by omega, rfl, Lib.hid rfl, rfl⟩
      case round =>
        obtain ⟨k, hk, rfl, HV, rfl⟩ := hrel
        by_cases hlt : k < l.length
        · have e2 := byte_at l k hlt
          obtain ⟨d, hd⟩ : ∃ d, l[k] = d := ⟨_, rfl⟩
          have HD := Lib.hid hd
          rw [hd] at e2
          clear hd
          by_cases hf : figureI d.toNat = true
          · have HV2 := Lib.hid (show (l.take (k + 1)).all figureB = true by
              rw [List.take_succ_eq_append_getElem hlt, List.all_append, HV.out, HD.out]
              simp [figureB, hf])
            simp only [figureI, Bool.and_eq_true, decide_eq_true_eq] at hf
            obtain ⟨f0, f1⟩ := hf
            have g0 : ¬ (d.toNat : Int) < 48 := by omega
            have g1 : ¬ (57 : Int) < (d.toNat : Int) := by omega
            clear f0 f1
            go_wp2_with fail
            go_roundw
            case rel => exact ⟨k + 1, by omega, by go_num, HV2, by first | trivial | rfl⟩
            case measure => simp [intOf]; omega
          · have HR := Lib.hid (show plainL l = false by
              rw [HOK.out]
              rw [← Bool.not_eq_true, List.all_eq_true]
              intro ha
              have := ha l[k] (List.getElem_mem hlt)
              rw [HD.out] at this
              exact hf this)
            rcases (show (d.toNat : Int) < 48 ∨ (¬ (d.toNat : Int) < 48 ∧ 57 < (d.toNat : Int)) by simp [figureI] at hf; omega) with hq | ⟨hq2, hq⟩
            all_goals
              clear hf
              go_wp2_with fail
              go_ret
              exact ⟨ret_bool HR.out.symm, Below.refl _ _⟩
        · have HR := Lib.hid (show plainL l = true by
            have := HV.out
            rw [List.take_of_length_le (by omega)] at this
            rw [HOK.out, this])
          go_wp2_with fail
          go_ret
          exact ⟨ret_bool HR.out.symm, Below.refl _ _⟩
  cases l with
  | nil =>
    clear loop
    go_enter Tryz.func42, Tryz.ntmps42
    go_wp2_with fail
    go_ret
    exact ⟨rfl, Below.refl _ _⟩
  | cons x r =>
    by_cases h200 : (x :: r).length ≤ 200
    · by_cases h1 : r = []
      · subst h1
        refine loop ?_ (fun d r' e => ⟨by simp, .inl (by simp)⟩) (by simp)
        simp only [plainL]
        cases e : [x].all figureB with
        | false => rfl
        | true =>
          by_cases hx : x = 48
          · rw [hx]; rfl
          · simp [hx]
      · by_cases hx : x = 48
        · have HR := Lib.hid (show plainL (x :: r) = false by
            rw [plainL, hx]
            have : ((48 : UInt8) :: r == [48]) = false := by simpa using h1
            rw [this]; simp)
          have e0 := byte_at (x :: r) 0 (by simp)
          have hl1 : (1 : Int) < ((r.length : Int) + 1) := by cases r <;> simp_all; omega
          have hq : ((x.toNat : Int) == 48) = true := by rw [hx]; rfl
          have h2 : ¬ (200 : Int) < (r.length : Int) + 1 := by simp at h200; omega
          have h3 : ((r.length : Int) + 1 == 0) = false := by simp; omega
          rw [List.getElem_cons_zero] at e0
          clear loop h200 h1 hx
          go_enter Tryz.func42, Tryz.ntmps42
          go_wp2_with fail
          go_ret
          exact ⟨ret_bool HR.out.symm, Below.refl _ _⟩
        · refine loop ?_ (fun d r' e => ⟨h200, .inr ⟨?_, ?_⟩⟩) (by simp)
          · simp only [plainL]
            have : (x :: r == [48]) = false := by simp [h1]
            rw [this]
            simp [hx]
            intro _ _
            simpa using h200
          · have := List.length_pos_iff.2 h1; rw [List.length_cons]; omega
          · cases e
            rw [← Bool.not_eq_true]
            intro h
            exact hx (UInt8.toNat_inj.1 (by show x.toNat = 48; have : (x.toNat : Int) = 48 := by simpa using h
                                            omega))
    · have HR := Lib.hid (show plainL (x :: r) = false by
        rw [plainL]
        have : (x :: r == [48]) = false := by
          rw [← Bool.not_eq_true]
          intro h
          rw [eq_of_beq h] at h200
          simp at h200
        rw [this, decide_eq_false h200]; simp)
      have h2 : (200 : Int) < (r.length : Int) + 1 := by simp at h200; omega
      have h3 : ((r.length : Int) + 1 == 0) = false := by simp; omega
      clear loop h200
      go_enter Tryz.func42, Tryz.ntmps42
      go_wp2_with fail
      go_ret
      exact ⟨ret_bool HR.out.symm, Below.refl _ _⟩
end Go.Proofs.YtnmebgiiajnnjaaGreat
