/-
  ver.words, ver.lines.
-/
import Derived.Laws.BytesArg
import Derived.Test.YtgldnkpanimihaaDoorVrC
namespace Go.Proofs.YtgldnkpanimihaaDoor
set_option linter.unusedSimpArgs false
set_option linter.unusedVariables false
open Go.RowKit Go.Shelf
attribute [local go_sem] Oper.semAt_some

def blankP (r : Nat) : Bool := blankI r
/-- A line's words. -/
def wordsG (line : List UInt8) : List (List UInt8) := (Lib.goFieldsP blankP ⟨(Lib.cut line [47, 47]).1.toArray⟩).map (·.data.toList)
theorem str_back (s : ByteArray) : (⟨s.data.toList.toArray⟩ : ByteArray) = s := by cases s; simp

/-- Texts one behind the other. -/
def Texts (w : World) (A : Nat) (l : List (List UInt8)) : Prop := ∀ i (h : i < l.length), w.cell? ⟨A, i, none⟩ = some (.string ⟨l[i].toArray⟩)
theorem Texts.put {w : World} {A : Nat} {l : List (List UInt8)} (h : Texts w A l) {k : Nat} {o : Obj} (o' : Obj) (hk : w.heap[k]? = some o) (hc : o.isCells = false) : Texts (w.putObj k o') A l :=
  fun i hi => cell_kept (h i hi) (grownBy_putObj' w k o') (fun r e => by cases e; exact ⟨o, hk, hc⟩)

set_option maxHeartbeats 1000000 in
theorem words_any (line : List UInt8) (w : World) (hE : Env w) (hl : line.length ≤ 100000) :
    Calls Tryd.prog 32 #[.string ⟨line.toArray⟩] w fun e w' => ∃ A, e = .returned (.slice (some ⟨A, 0, none⟩) (wordsG line).length (wordsG line).length) ∧ Hid (Texts w' A (wordsG line) ∧ Below w.heap.size w w' ∧ w.heap.size ≤ A) := by
  have hC := cut_any line [47, 47] w hE hl
  have hcl := (cut_len line [47, 47]).1
  have HG := Lib.hid (show wordsG line = (Lib.goFieldsP blankP ⟨(Lib.cut line [47, 47]).1.toArray⟩).map (·.data.toList) from rfl)
  obtain ⟨C, hCe⟩ : ∃ C, (Lib.cut line [47, 47]).1 = C := ⟨_, rfl⟩
  obtain ⟨C2, hC2⟩ : ∃ C, (Lib.cut line [47, 47]).2.1 = C := ⟨_, rfl⟩
  obtain ⟨b3, hb3⟩ : ∃ C, (Lib.cut line [47, 47]).2.2 = C := ⟨_, rfl⟩
  rw [hCe, hC2, hb3] at hC
  rw [hCe] at hcl HG
  have HC := Lib.hid hC
  have HF := Lib.hid fun w2 => Tryd.strings_FieldsFunc_grows 40 #[] (enters_of Tryd.func40 (by kernel_rfl) rfl) blankP ⟨C.toArray⟩ w2 (by simp [ByteArray.size]; omega)
    (fun W x _ _ => (blank_any x W).mono fun e w' h => ⟨h.1, by rw [← h.2]; exact Below.refl _ _⟩)
  clear hC hCe hC2 hb3
  go_enter Tryd.func32, Tryd.ntmps32
  go_wp2_with fail
  refine HC.out.mono ?_
  rintro e w2 ⟨rfl, h2⟩
  go_wp2_with fail
  refine (HF.out w2).mono ?_
  rintro e w3 ⟨A, rfl, hA, hown, hb⟩
  have HL := Lib.hid (show (wordsG line).length = (Lib.goFieldsP blankP ⟨C.toArray⟩).length by rw [HG.out, List.length_map])
  have HT := Lib.hid (show Texts w3 A (wordsG line) ∧ Below w.heap.size w w3 ∧ w.heap.size ≤ A by
    refine ⟨fun i hi => ?_, bext h2.out hb, Nat.le_trans h2.out.size hA⟩
    have hi' : i < (Lib.goFieldsP blankP ⟨C.toArray⟩).length := by rw [← HL.out]; exact hi
    have hgi : (wordsG line)[i] = (Lib.goFieldsP blankP ⟨C.toArray⟩)[i].data.toList := by
      have h := HG.out
      simp only [h, List.getElem_map]
    rw [hown.cellAt i (by omega), List.getElem?_map, List.getElem?_eq_getElem hi', hgi, str_back]
    rfl)
  clear hown hb hA
  go_wp2
  go_ret
  exact ⟨A, by rw [HL.out]; first | done | rfl | simp, HT⟩

set_option maxHeartbeats 1000000 in
theorem lines_any (v : Value) (a : Option Addr) (n c : Nat) (w : World) (hv : v = .slice a n c) :
    Calls Tryd.prog 20 #[v] w fun e w' => e = .returned (.func (.func 31) #[] #[.pointer (some ⟨w.heap.size, 0, none⟩)]) ∧ w' = w.alloc (.cells #[v] 22) := by
  subst hv
  go_enter Tryd.func20, Tryd.ntmps20
  go_wp2
  go_ret
  exact ⟨rfl, rfl⟩
end Go.Proofs.YtgldnkpanimihaaDoor
