/-
  tree.sorts: the map of questions, walked
-/
import Derived.Test.YtnmebgiiajnnjaaIterE
import Derived.Test.YtnmebgiiajnnjaaNodeS
import Derived.Maps.OwnIn
import Derived.StringKeys
namespace Go.Proofs.Ytnmebgiiajnnjaa
set_option linter.unusedSimpArgs false
set_option linter.unusedVariables false
open Go.RowKit Go.Maps

/-- How a function value of a map reads: by its number. -/
def fnElem : Value → Option (DataW Unit × List MemPlace)
  | .func (.func g) cap bound => if cap.size = 0 ∧ bound.size = 0 then some (.lit (.int .i64 g), []) else none
  | .nilFunc => some (.nil, [])
  | _ => none
theorem fnElem_mk (g : Nat) : fnElem (.func (.func g) #[] #[]) = some (.lit (.int .i64 g), []) := by simp [fnElem]
theorem fnElem_inv {v : Value} {g : Nat} {ps : List MemPlace} (h : fnElem v = some (.lit (.int .i64 g), ps)) : v = .func (.func g) #[] #[] := by
  unfold fnElem at h
  split at h
  · split at h
    · rename_i g' cap bound hs
      simp at h
      obtain ⟨h1, h2⟩ := hs
      rw [Array.size_eq_zero_iff] at h1 h2
      have hg : g' = g := Int.ofNat.inj h.1
      rw [h1, h2, hg]
    · cases h
  · simp at h
  · cases h
theorem fnElem_nil {v : Value} {ps : List MemPlace} (h : fnElem v = some (.nil, ps)) : v = .nilFunc := by
  unfold fnElem at h
  split at h
  · split at h <;> simp at h
  · rfl
  · cases h

theorem law9 : Keyed Try.prog 9 := string_keyed (by kernel_rfl)
theorem und47 : Try.prog.underlying 47 = some (.map 9 30) := by kernel_rfl
theorem key9 (l : List UInt8) (h : l.length ≤ maxLen) : keyOf Try.prog 9 (.string ⟨l.toArray⟩) = some (.string l) := by
  have := WideMaps.keyOf_string_mk (P := Try.prog) (k := 9) (by kernel_rfl) (s := ⟨l.toArray⟩) (by simpa [ByteArray.size] using h)
  simpa using this

def sFile : List UInt8 := [102, 105, 108, 101]
def sDecl : List UInt8 := [100, 101, 99, 108, 97, 114, 97, 116, 105, 111, 110]
def sType : List UInt8 := [116, 121, 112, 101]
def sExpr : List UInt8 := [101, 120, 112, 114, 101, 115, 115, 105, 111, 110]
def sStmt : List UInt8 := [115, 116, 97, 116, 101, 109, 101, 110, 116]
def sSig : List UInt8 := [115, 105, 103, 110, 97, 116, 117, 114, 101]

def sortsD : DataW Unit := ((((((DataW.map []).put (.string sFile) (.lit (.int .i64 (31 : Nat)))).put (.string sDecl) (.lit (.int .i64 (34 : Nat)))).put (.string sType) (.lit (.int .i64 (35 : Nat)))).put (.string sExpr) (.lit (.int .i64 (36 : Nat)))).put (.string sStmt) (.lit (.int .i64 (37 : Nat)))).put (.string sSig) (.lit (.int .i64 (38 : Nat)))

set_option maxHeartbeats 1000000 in
theorem sorts_any (w : World) : Calls Try.prog 26 #[] w fun e w' => e = .returned (.map (some w.heap.size)) ∧ w'.ownsMap Try.prog 9 fnElem w.heap.size 6 sortsD ∧ Below w.heap.size w w' := by
  have hmm := @run_makeMap Try.prog
  have o0 := World.ownsMap_made w Try.prog 9 fnElem
  have b0 := (Below.refl _ w).alloc (Nat.le_refl _) (.map #[] 0)
  obtain ⟨w1, r1, o1, g1⟩ := o0.update law9 und47 (by decide) (key9 sFile (by decide)) (fnElem_mk 31)
  obtain ⟨w2, r2, o2, g2⟩ := o1.update law9 und47 (by decide) (key9 sDecl (by decide)) (fnElem_mk 34)
  obtain ⟨w3, r3, o3, g3⟩ := o2.update law9 und47 (by decide) (key9 sType (by decide)) (fnElem_mk 35)
  obtain ⟨w4, r4, o4, g4⟩ := o3.update law9 und47 (by decide) (key9 sExpr (by decide)) (fnElem_mk 36)
  obtain ⟨w5, r5, o5, g5⟩ := o4.update law9 und47 (by decide) (key9 sStmt (by decide)) (fnElem_mk 37)
  obtain ⟨w6, r6, o6, g6⟩ := o5.update law9 und47 (by decide) (key9 sSig (by decide)) (fnElem_mk 38)
  have hr : ∀ k, some w.heap.size = some k → w.heap.size ≤ k := fun k e => by cases e; exact Nat.le_refl _
  have b1 := b0.grown g1 b0.size hr
  have b2 := b1.grown g2 b1.size hr
  have b3 := b2.grown g3 b2.size hr
  have b4 := b3.grown g4 b3.size hr
  have b5 := b4.grown g5 b4.size hr
  have b6 := b5.grown g6 b5.size hr
  have O6 := Lib.hid o6
  have B6 := Lib.hid b6
  clear o0 o1 o2 o3 o4 o5 o6 b0 b1 b2 b3 b4 b5 b6 g1 g2 g3 g4 g5 g6 hr
  simp only [sFile, sDecl, sType, sExpr, sStmt, sSig] at r1 r2 r3 r4 r5 r6
  go_enter Try.func26, Try.ntmps26
  go_wp2
  go_ret
  exact ⟨rfl, O6.out, B6.out⟩

/-- Which function answers of a sort. -/
def sortFn (l : List UInt8) : Option Nat :=
  if l = sSig then some 38 else if l = sStmt then some 37 else if l = sExpr then some 36 else
  if l = sType then some 35 else if l = sDecl then some 34 else if l = sFile then some 31 else none

def fnD (o : Option Nat) (z : DataW Unit) : DataW Unit := match o with | some g => .lit (.int .i64 (g : Int)) | none => z

theorem sorts_put (D : DataW Unit) (hD : IsMap D) (s l : List UInt8) (g : Nat) (o : Option Nat)
    (h1 : has D (.string l) = o.isSome) (h2 : ∀ z, D.atKey (.string l) z = fnD o z) :
    IsMap (D.put (.string s) (.lit (.int .i64 (g : Int)))) ∧ has (D.put (.string s) (.lit (.int .i64 (g : Int)))) (.string l) = (if l = s then some g else o).isSome ∧
    ∀ z, (D.put (.string s) (.lit (.int .i64 (g : Int)))).atKey (.string l) z = fnD (if l = s then some g else o) z := by
  refine ⟨?_, ?_, fun z => ?_⟩
  · obtain ⟨es, rfl⟩ := hD; exact ⟨_, rfl⟩
  · by_cases e : l = s
    · subst e; rw [if_pos rfl, has_put_same hD (by simp [WideAt.IsKeyLit])]; rfl
    · rw [if_neg e, has_put_other (by simpa using e), h1]
  · by_cases e : l = s
    · subst e; rw [if_pos rfl, atKey_put_same hD (by simp [WideAt.IsKeyLit])]; rfl
    · rw [if_neg e, atKey_put_other (by simpa using e), h2]

theorem sorts_at (l : List UInt8) : has sortsD (.string l) = (sortFn l).isSome ∧ ∀ z, sortsD.atKey (.string l) z = fnD (sortFn l) z := by
  obtain ⟨i1, a1, b1⟩ := sorts_put (.map []) ⟨_, rfl⟩ sFile l 31 none rfl (fun z => rfl)
  obtain ⟨i2, a2, b2⟩ := sorts_put _ i1 sDecl l 34 _ a1 b1
  obtain ⟨i3, a3, b3⟩ := sorts_put _ i2 sType l 35 _ a2 b2
  obtain ⟨i4, a4, b4⟩ := sorts_put _ i3 sExpr l 36 _ a3 b3
  obtain ⟨i5, a5, b5⟩ := sorts_put _ i4 sStmt l 37 _ a4 b4
  obtain ⟨i6, a6, b6⟩ := sorts_put _ i5 sSig l 38 _ a5 b5
  exact ⟨a6, b6⟩
end Go.Proofs.Ytnmebgiiajnnjaa
