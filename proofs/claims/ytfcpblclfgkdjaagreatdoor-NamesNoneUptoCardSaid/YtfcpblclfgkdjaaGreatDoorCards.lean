/-
  DERIVED. GIVEN WITH THE SEED: THE CARDS: each row of YtfcpblclfgkdjaaGreatDoorRows.lean that lists a variable, with what it lists TIED to the program's text (the seventh form; the later family's looks); each row that meets fmt, with fmt's text TOLD by the authors' own Lean function (tested against real Go, not proved from fmt's source: count such statements apart). THE CARD IS WHAT COUNTS. Prove the row's statement (the work); the ties are given (YtfcpblclfgkdjaaGreatDoorTie.lean); close each card by the builder's one call (the guide's Derived/Test/ToyasCard.lean, 'card_holds'). Laid BY PROGRAM, IN A SANDBOX (cutbox-door.mjs). By AI agents, Wed Nov 11 2026. No macro, syntax, notation, axiom, sorry.
-/
import Derived.Test.YtfcpblclfgkdjaaGreatDoorRows
import GoSem.ClaimSeven
namespace Go.Proofs.YtfcpblclfgkdjaaGreatDoor
namespace Rows

/-- THE TIED CARD OF 'demoticlaw17.NamesTurn'. -/
def namesTurnCard : Claim7 := { stood := { row := namesTurnRow, standIns := [], harness := (true, "5f9f632c769a3409871eddf646aec7bed9763aa6d7dedcec716c309d5829596b"), looks := true }, kinds := [], alts := [], laidByText := true, laidKinds := [.data, .data, .data, .data, .pinned], laidTests := true, laidLooks := .later }
def NamesTurnCardSaid : Prop := Claim7.holds Tryz.pinned (.plain (OpenSpec.ofChange namesTurnSpec)) namesTurnCard

/-- THE TIED CARD OF 'demoticlaw17.NamesNone'. -/
def namesNoneCard : Claim7 := { stood := { row := namesNoneRow, standIns := [], harness := (true, "5f9f632c769a3409871eddf646aec7bed9763aa6d7dedcec716c309d5829596b"), looks := true }, kinds := [], alts := [], laidByText := true, laidKinds := [.data, .data, .data, .data, .pinned], laidTests := true, laidLooks := .later }
def NamesNoneCardSaid : Prop := Claim7.holds Tryz.pinned (.plain (OpenSpec.ofChange namesNoneSpec)) namesNoneCard

/-- THE SECOND FORM's CARD OF 'demoticlaw17.NamesTurn'. -/
def namesTurnUptoCard : Claim7 := { stood := { row := namesTurnUptoRow, standIns := [], harness := (true, "5f9f632c769a3409871eddf646aec7bed9763aa6d7dedcec716c309d5829596b"), looks := true }, kinds := [], alts := [], laidByText := true, laidKinds := [.data, .data, .data, .data, .pinned], laidTests := true, laidLooks := .later }
def NamesTurnUptoCardSaid : Prop := Claim7.holds Tryz.pinned (.plain (OpenSpec.upto namesTurnSpec)) namesTurnUptoCard

/-- THE SECOND FORM's CARD OF 'demoticlaw17.NamesNone'. -/
def namesNoneUptoCard : Claim7 := { stood := { row := namesNoneUptoRow, standIns := [], harness := (true, "5f9f632c769a3409871eddf646aec7bed9763aa6d7dedcec716c309d5829596b"), looks := true }, kinds := [], alts := [], laidByText := true, laidKinds := [.data, .data, .data, .data, .pinned], laidTests := true, laidLooks := .later }
def NamesNoneUptoCardSaid : Prop := Claim7.holds Tryz.pinned (.plain (OpenSpec.upto namesNoneSpec)) namesNoneUptoCard
end Rows
end Go.Proofs.YtfcpblclfgkdjaaGreatDoor
