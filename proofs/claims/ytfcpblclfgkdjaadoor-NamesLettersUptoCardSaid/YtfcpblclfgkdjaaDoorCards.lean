/-
  DERIVED. GIVEN WITH THE SEED: THE CARDS: each row of YtfcpblclfgkdjaaDoorRows.lean that lists a variable, with what it lists TIED to the program's text (the seventh form; the later family's looks); each row that meets fmt, with fmt's text TOLD by the authors' own Lean function (tested against real Go, not proved from fmt's source: count such statements apart). THE CARD IS WHAT COUNTS. Prove the row's statement (the work); the ties are given (YtfcpblclfgkdjaaDoorTie.lean); close each card by the builder's one call (the guide's Derived/Test/ToyasCard.lean, 'card_holds'). Laid BY PROGRAM, IN A SANDBOX (cutbox-door.mjs). By AI agents, Wed Nov 11 2026. No macro, syntax, notation, axiom, sorry.
-/
import Derived.Test.YtfcpblclfgkdjaaDoorRows
import GoSem.ClaimSeven
namespace Go.Proofs.YtfcpblclfgkdjaaDoor
namespace Rows

/-- THE TIED CARD OF 'demoticlaw17.NamesJoint'. -/
def namesJointCard : Claim7 := { stood := { row := namesJointRow, standIns := [], harness := (true, "8a9873e88bbd67330274ff958ec868c7f4a3011daed53c35ecdd97ea1ced41b2"), looks := false }, kinds := [], alts := [], laidByText := true, laidKinds := [.data, .data, .data, .data, .pinned], laidTests := true, laidLooks := .later }
def NamesJointCardSaid : Prop := Claim7.holds Tryd.pinned (.plain (OpenSpec.ofChange namesJointSpec)) namesJointCard

/-- THE TIED CARD OF 'demoticlaw17.NamesLetters'. -/
def namesLettersCard : Claim7 := { stood := { row := namesLettersRow, standIns := [], harness := (true, "8a9873e88bbd67330274ff958ec868c7f4a3011daed53c35ecdd97ea1ced41b2"), looks := false }, kinds := [], alts := [], laidByText := true, laidKinds := [.data, .data, .data, .data, .pinned], laidTests := true, laidLooks := .later }
def NamesLettersCardSaid : Prop := Claim7.holds Tryd.pinned (.plain (OpenSpec.ofChange namesLettersSpec)) namesLettersCard

/-- THE SECOND FORM's CARD OF 'demoticlaw17.NamesJoint'. -/
def namesJointUptoCard : Claim7 := { stood := { row := namesJointUptoRow, standIns := [], harness := (true, "8a9873e88bbd67330274ff958ec868c7f4a3011daed53c35ecdd97ea1ced41b2"), looks := false }, kinds := [], alts := [], laidByText := true, laidKinds := [.data, .data, .data, .data, .pinned], laidTests := true, laidLooks := .later }
def NamesJointUptoCardSaid : Prop := Claim7.holds Tryd.pinned (.plain (OpenSpec.upto namesJointSpec)) namesJointUptoCard

/-- THE SECOND FORM's CARD OF 'demoticlaw17.NamesLetters'. -/
def namesLettersUptoCard : Claim7 := { stood := { row := namesLettersUptoRow, standIns := [], harness := (true, "8a9873e88bbd67330274ff958ec868c7f4a3011daed53c35ecdd97ea1ced41b2"), looks := false }, kinds := [], alts := [], laidByText := true, laidKinds := [.data, .data, .data, .data, .pinned], laidTests := true, laidLooks := .later }
def NamesLettersUptoCardSaid : Prop := Claim7.holds Tryd.pinned (.plain (OpenSpec.upto namesLettersSpec)) namesLettersUptoCard
end Rows
end Go.Proofs.YtfcpblclfgkdjaaDoor
