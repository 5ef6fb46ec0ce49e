/-
  what a laid row with strconv's two errors gives, and its witness world.
-/
import Derived.Test.YteiipiomcbohnaaDoorBgY
import Derived.Stop.LaidErr
import Derived.Deep.DeepWitnessRowRef
import Derived.Test.YteiipiomcbohnaaDoorTenV
namespace Go.Proofs.YteiipiomcbohnaaDoor.Ten
set_option linter.unusedSimpArgs false
set_option linter.unusedVariables false
open Go.ChangeShapes Go.WideShapes Go.ChangeAt Go.RowKit

theorem star : "*" ++ "errors.errorString" = "*errors.errorString" := by decide
theorem rowErr (u : TypeId) (h : Tryd.prog.typeName? 3 u = some "*errors.errorString") : u = 123 :=
  typeName_ptr_named (nm := "errors.errorString") (by rw [star]; kernel_rfl) (by kernel_rfl) (by decide) u (by rw [star]; exact h)
theorem tabs5_met {W : World} (h : laidMetH Tryd.prog Rows.bigTellsRow.laid W) : Tab W ∧ Vr W := by
  have h1 := h.filter (fun x => x.1 == "internal/strconv.uint64pow10")
  have h2 : Rows.bigTellsRow.laid.filter (fun x => x.1 == "internal/strconv.uint64pow10") = [("internal/strconv.uint64pow10", Lib.tabData .u64 Lib.pow10Tab)] := by rfl
  rw [h2, Go.MakeChecks.laidMetH_plain _ _ _ (by rfl)] at h1
  refine ⟨Lib.tabIs_of_head (rest := []) gPow gPowType undPow undU64 cellsU64 cellsPow h1, ?_⟩
  have h3 := h.filter (fun x => x.1 == "strconv.ErrRange")
  have h4 : Rows.bigTellsRow.laid.filter (fun x => x.1 == "strconv.ErrRange") = [("strconv.ErrRange", Rows.laid_strconv_ErrRange)] := by rfl
  rw [h4, Go.MakeChecks.laidMetH_plain _ _ _ (by rfl)] at h3
  obtain ⟨a1, t1, hv1, -⟩ := laid_sentinel (g := 1) h3 (by kernel_rfl) (by kernel_rfl) Tryd.underlying54 rowErr Tryd.underlying123 Tryd.underlying125 rfl rfl Tryd.underlying9 (by kernel_rfl) (by kernel_rfl)
  exact ⟨_, _, hv1⟩

def synS : ByteArray := { data := #[105, 110, 118, 97, 108, 105, 100, 32, 115, 121, 110, 116, 97, 120] }
def rngS : ByteArray := { data := #[118, 97, 108, 117, 101, 32, 111, 117, 116, 32, 111, 102, 32, 114, 97, 110, 103, 101] }
/-- So many blocks has the settled world. -/
noncomputable def low : Nat := (World.holding Tryd.prog default ⟨#[], #[], []⟩).heap.size
noncomputable def laidWorld5 (os : Os) : World :=
  let w0 := World.holding Tryd.prog os ⟨#[.cells #[.string synS] 125, .cells #[.string rngS] 125], #[], []⟩
  { w0 with heap := ((((w0.heap.modify 2 (refill (Lib.pow10Tab.map fun z => Value.int .u64 z).toArray)).modify 3 (refill (tab8 [0, 1, 28, 2, 29, 14, 24, 3, 30, 22, 20, 15, 25, 17, 4, 8, 31, 27, 13, 23, 21, 19, 16, 7, 26, 12, 18, 6, 11, 5, 10, 9]))).modify 4 (refill (tab8 [0, 1, 56, 2, 57, 49, 28, 3, 61, 58, 42, 50, 38, 29, 17, 4, 62, 47, 59, 36, 45, 43, 51, 22, 53, 39, 33, 30, 24, 18, 12, 5, 63, 55, 48, 27, 60, 41, 37, 16, 46, 35, 44, 21, 52, 32, 23, 11, 54, 26, 40, 15, 34, 20, 31, 10, 25, 14, 19, 9, 13, 8, 7, 6]))).modify 0 (refill #[.iface 123 (.pointer (some ⟨low, 0, none⟩))])).modify 1 (refill #[.iface 123 (.pointer (some ⟨low + 1, 0, none⟩))]) }
theorem world5_met (os : Os) : laidMet Tryd.prog Rows.bigTellsRow.laid ((laidWorld5 os).forCall (fun _ _ => 0) ⟨#[], #[.string ⟨#[]⟩, .string ⟨#[]⟩, .int .i64 0], []⟩).memory :=
  laidMet_of_run' 8 (by kernel_rfl) (by kernel_rfl)
end Go.Proofs.YteiipiomcbohnaaDoor.Ten
