/-
  what a laid row gives, and its witness world.
-/
import Derived.Test.YtfcpblclfgkdjaaGreatDoorCards
import Derived.Test.YtfcpblclfgkdjaaGreatDoorTie
import Derived.WalkKit
import Derived.ProofKit
import Derived.OpenShut
import Derived.Deep.DeepHandedRow
import Derived.Deep.DeepWitnessRowRef
import Derived.HandedShaped
import Derived.Stop.LaidErr
import Derived.Lib.LaidTab
import Derived.LaidSub
import Derived.MakeChecks
import Derived.Test.YtfcpblclfgkdjaaGreatDoorZN
namespace Go.Proofs.YtfcpblclfgkdjaaGreatDoor
set_option linter.unusedSimpArgs false
set_option linter.unusedVariables false
open Go.ChangeShapes Go.WideShapes Go.ChangeAt Go.RowKit

theorem own : ownKnob Tryz.prog.godebug = none := by kernel_rfl
theorem gPow : Tryz.prog.globalNamed "internal/strconv.uint64pow10" = some 3 := by kernel_rfl
theorem gPowType : (Tryz.prog.globals[3]?).map (·.type) = some 147 := by kernel_rfl
theorem cellsPow : Tryz.prog.cellsOf 147 = 20 := by kernel_rfl
theorem cellsU64 : Tryz.prog.cellsOf 103 = 1 := by kernel_rfl
theorem undPow : Tryz.prog.underlying 147 = some (.array 20 103) := by kernel_rfl
theorem undU64 : Tryz.prog.underlying 103 = some (.int .u64) := by kernel_rfl
/-- The rows' list. -/
noncomputable def tabs : List (String × DataW Unit) := Rows.namesTurnRow.laid
theorem tab_met {W : World} (h : laidMetH Tryz.prog tabs W) : Aw.Tab W := by
  have h1 := h.filter (fun x => x.1 == "internal/strconv.uint64pow10")
  have h2 : tabs.filter (fun x => x.1 == "internal/strconv.uint64pow10") = [("internal/strconv.uint64pow10", Lib.tabData .u64 Lib.pow10Tab)] := by rfl
  rw [h2, Go.MakeChecks.laidMetH_plain _ _ _ (by rfl)] at h1
  exact Lib.tabIs_of_head (rest := []) gPow gPowType undPow undU64 cellsU64 cellsPow h1
/-- A world for the witnesses: the tables hold what their initialisers lay. -/
def tab8 (l : List Int) : Array Value := (l.map fun z => Value.int .u8 z).toArray
def refill (cs : Array Value) : Obj → Obj
  | .cells _ t frozen => .cells cs t frozen
  | o => o
noncomputable def fills : List (Nat × Array Value) := [
  (3, (Lib.pow10Tab.map fun z => Value.int .u64 z).toArray),
  (4, tab8 [0, 1, 28, 2, 29, 14, 24, 3, 30, 22, 20, 15, 25, 17, 4, 8, 31, 27, 13, 23, 21, 19, 16, 7, 26, 12, 18, 6, 11, 5, 10, 9]),
  (5, tab8 [0, 1, 56, 2, 57, 49, 28, 3, 61, 58, 42, 50, 38, 29, 17, 4, 62, 47, 59, 36, 45, 43, 51, 22, 53, 39, 33, 30, 24, 18, 12, 5, 63, 55, 48, 27, 60, 41, 37, 16, 46, 35, 44, 21, 52, 32, 23, 11, 54, 26, 40, 15, 34, 20, 31, 10, 25, 14, 19, 9, 13, 8, 7, 6]),
  (2, tab8 [128, 191, 160, 191, 128, 159, 144, 191, 128, 143, 0, 0, 0, 0, 0, 0, 0, 0, 0, 0, 0, 0, 0, 0, 0, 0, 0, 0, 0, 0, 0, 0]),
  (1, (Go.Pinned.utf8FirstZ.map fun (z : Nat) => Value.int .u8 z).toArray)]
noncomputable def laidWorld (os : Os) : World :=
  let w0 := World.holding Tryz.prog os ⟨#[], #[], []⟩
  { w0 with heap := fills.foldl (fun h x => h.modify x.1 (refill x.2)) w0.heap }
theorem world_met (os : Os) (args : Array Value) : laidMet Tryz.prog tabs ((laidWorld os).forCall (fun _ _ => 0) ⟨#[], args, []⟩).memory :=
  laidMet_of_run' 8 (by kernel_rfl) (by kernel_rfl)
theorem str_of (s : ByteArray) : s = ⟨s.data.toList.toArray⟩ := by cases s; simp
def Fit (s : List UInt8) : Prop := s.length ≤ 9223372036854775807
theorem fit_of {s : ByteArray} (h : s.size ≤ maxLen) : Fit s.data.toList := by
  unfold Fit
  have : s.data.toList.length = s.size := Array.length_toList
  have h2 : maxLen ≤ 9223372036854775807 := by unfold maxLen; omega
  omega
end Go.Proofs.YtfcpblclfgkdjaaGreatDoor
