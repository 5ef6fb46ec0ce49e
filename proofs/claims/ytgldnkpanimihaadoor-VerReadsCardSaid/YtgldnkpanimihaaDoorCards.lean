/-
  DERIVED. GIVEN WITH THE SEED: THE CARDS: each row of YtgldnkpanimihaaDoorRows.lean that lists a variable, with what it lists TIED to the program's text (the seventh form; the later family's looks); each row that meets fmt, with fmt's text TOLD by the authors' own Lean function (tested against real Go, not proved from fmt's source: count such statements apart). THE CARD IS WHAT COUNTS. Prove the row's statement (the work); the ties are given (YtgldnkpanimihaaDoorTie.lean); close each card by the builder's one call (the guide's Derived/Test/ToyasCard.lean, 'card_holds'). Laid BY PROGRAM, IN A SANDBOX (cutbox-door.mjs). By AI agents, Wed Nov 11 2026. No macro, syntax, notation, axiom, sorry.
-/
import Derived.Test.YtgldnkpanimihaaDoorRows
import GoSem.ClaimSeven
namespace Go.Proofs.YtgldnkpanimihaaDoor
namespace Rows

/-- THE TIED CARD OF 'demoticlaw04.VerReads'. -/
def verReadsCard : Claim7 := { stood := { row := verReadsRow, standIns := [], harness := (true, "6eee1a1fe1e5584c0c876d892baaca3689ea0f773101fe2537deb655f3b2ad75"), looks := true }, kinds := [], alts := [], laidByText := true, laidKinds := [.data, .data, .data, .data, .sentinel, .sentinel, .pinned], laidTests := true, laidLooks := .later }
def VerReadsCardSaid : Prop := Claim7.holds Tryd.pinned (.plain (OpenSpec.ofChange verReadsSpec)) verReadsCard

/-- THE TIED CARD OF 'demoticlaw04.VerNotes'. -/
def verNotesCard : Claim7 := { stood := { row := verNotesRow, standIns := [], harness := (true, "6eee1a1fe1e5584c0c876d892baaca3689ea0f773101fe2537deb655f3b2ad75"), looks := true }, kinds := [], alts := [], laidByText := true, laidKinds := [.data, .data, .data, .data, .sentinel, .sentinel, .pinned], laidTests := true, laidLooks := .later }
def VerNotesCardSaid : Prop := Claim7.holds Tryd.pinned (.plain (OpenSpec.ofChange verNotesSpec)) verNotesCard

/-- THE TIED CARD OF 'demoticlaw04.VerPaths'. -/
def verPathsCard : Claim7 := { stood := { row := verPathsRow, standIns := [], harness := (true, "6eee1a1fe1e5584c0c876d892baaca3689ea0f773101fe2537deb655f3b2ad75"), looks := true }, kinds := [], alts := [], laidByText := true, laidKinds := [.data, .data, .data, .data, .sentinel, .sentinel, .pinned], laidTests := true, laidLooks := .later }
def VerPathsCardSaid : Prop := Claim7.holds Tryd.pinned (.plain (OpenSpec.ofChange verPathsSpec)) verPathsCard

/-- THE TIED CARD OF 'demoticlaw04.VerChains'. -/
def verChainsCard : Claim7 := { stood := { row := verChainsRow, standIns := [], harness := (true, "6eee1a1fe1e5584c0c876d892baaca3689ea0f773101fe2537deb655f3b2ad75"), looks := true }, kinds := [], alts := [], laidByText := true, laidKinds := [.data, .data, .data, .data, .sentinel, .sentinel, .pinned], laidTests := true, laidLooks := .later }
def VerChainsCardSaid : Prop := Claim7.holds Tryd.pinned (.plain (OpenSpec.ofChange verChainsSpec)) verChainsCard

/-- THE TIED CARD OF 'demoticlaw04.VerMinors'. -/
def verMinorsCard : Claim7 := { stood := { row := verMinorsRow, standIns := [], harness := (true, "6eee1a1fe1e5584c0c876d892baaca3689ea0f773101fe2537deb655f3b2ad75"), looks := true }, kinds := [], alts := [], laidByText := true, laidKinds := [.data, .data, .data, .data, .sentinel, .sentinel, .pinned], laidTests := true, laidLooks := .later }
def VerMinorsCardSaid : Prop := Claim7.holds Tryd.pinned (.plain (OpenSpec.ofChange verMinorsSpec)) verMinorsCard

/-- THE TIED CARD OF 'demoticlaw04.VerRests'. -/
def verRestsCard : Claim7 := { stood := { row := verRestsRow, standIns := [], harness := (true, "6eee1a1fe1e5584c0c876d892baaca3689ea0f773101fe2537deb655f3b2ad75"), looks := true }, kinds := [], alts := [], laidByText := true, laidKinds := [.data, .data, .data, .data, .sentinel, .sentinel, .pinned], laidTests := true, laidLooks := .later }
def VerRestsCardSaid : Prop := Claim7.holds Tryd.pinned (.plain (OpenSpec.ofChange verRestsSpec)) verRestsCard

/-- THE TIED CARD OF 'demoticlaw04.VerBack'. -/
def verBackCard : Claim7 := { stood := { row := verBackRow, standIns := [], harness := (true, "6eee1a1fe1e5584c0c876d892baaca3689ea0f773101fe2537deb655f3b2ad75"), looks := true }, kinds := [], alts := [], laidByText := true, laidKinds := [.data, .data, .data, .data, .sentinel, .sentinel, .pinned], laidTests := true, laidLooks := .later }
def VerBackCardSaid : Prop := Claim7.holds Tryd.pinned (.plain (OpenSpec.ofChange verBackSpec)) verBackCard

/-- THE SECOND FORM's CARD OF 'demoticlaw04.VerReads'. -/
def verReadsUptoCard : Claim7 := { stood := { row := verReadsUptoRow, standIns := [], harness := (true, "6eee1a1fe1e5584c0c876d892baaca3689ea0f773101fe2537deb655f3b2ad75"), looks := true }, kinds := [], alts := [], laidByText := true, laidKinds := [.data, .data, .data, .data, .sentinel, .sentinel, .pinned], laidTests := true, laidLooks := .later }
def VerReadsUptoCardSaid : Prop := Claim7.holds Tryd.pinned (.plain (OpenSpec.upto verReadsSpec)) verReadsUptoCard

/-- THE SECOND FORM's CARD OF 'demoticlaw04.VerNotes'. -/
def verNotesUptoCard : Claim7 := { stood := { row := verNotesUptoRow, standIns := [], harness := (true, "6eee1a1fe1e5584c0c876d892baaca3689ea0f773101fe2537deb655f3b2ad75"), looks := true }, kinds := [], alts := [], laidByText := true, laidKinds := [.data, .data, .data, .data, .sentinel, .sentinel, .pinned], laidTests := true, laidLooks := .later }
def VerNotesUptoCardSaid : Prop := Claim7.holds Tryd.pinned (.plain (OpenSpec.upto verNotesSpec)) verNotesUptoCard

/-- THE SECOND FORM's CARD OF 'demoticlaw04.VerPaths'. -/
def verPathsUptoCard : Claim7 := { stood := { row := verPathsUptoRow, standIns := [], harness := (true, "6eee1a1fe1e5584c0c876d892baaca3689ea0f773101fe2537deb655f3b2ad75"), looks := true }, kinds := [], alts := [], laidByText := true, laidKinds := [.data, .data, .data, .data, .sentinel, .sentinel, .pinned], laidTests := true, laidLooks := .later }
def VerPathsUptoCardSaid : Prop := Claim7.holds Tryd.pinned (.plain (OpenSpec.upto verPathsSpec)) verPathsUptoCard

/-- THE SECOND FORM's CARD OF 'demoticlaw04.VerChains'. -/
def verChainsUptoCard : Claim7 := { stood := { row := verChainsUptoRow, standIns := [], harness := (true, "6eee1a1fe1e5584c0c876d892baaca3689ea0f773101fe2537deb655f3b2ad75"), looks := true }, kinds := [], alts := [], laidByText := true, laidKinds := [.data, .data, .data, .data, .sentinel, .sentinel, .pinned], laidTests := true, laidLooks := .later }
def VerChainsUptoCardSaid : Prop := Claim7.holds Tryd.pinned (.plain (OpenSpec.upto verChainsSpec)) verChainsUptoCard

/-- THE SECOND FORM's CARD OF 'demoticlaw04.VerMinors'. -/
def verMinorsUptoCard : Claim7 := { stood := { row := verMinorsUptoRow, standIns := [], harness := (true, "6eee1a1fe1e5584c0c876d892baaca3689ea0f773101fe2537deb655f3b2ad75"), looks := true }, kinds := [], alts := [], laidByText := true, laidKinds := [.data, .data, .data, .data, .sentinel, .sentinel, .pinned], laidTests := true, laidLooks := .later }
def VerMinorsUptoCardSaid : Prop := Claim7.holds Tryd.pinned (.plain (OpenSpec.upto verMinorsSpec)) verMinorsUptoCard

/-- THE SECOND FORM's CARD OF 'demoticlaw04.VerRests'. -/
def verRestsUptoCard : Claim7 := { stood := { row := verRestsUptoRow, standIns := [], harness := (true, "6eee1a1fe1e5584c0c876d892baaca3689ea0f773101fe2537deb655f3b2ad75"), looks := true }, kinds := [], alts := [], laidByText := true, laidKinds := [.data, .data, .data, .data, .sentinel, .sentinel, .pinned], laidTests := true, laidLooks := .later }
def VerRestsUptoCardSaid : Prop := Claim7.holds Tryd.pinned (.plain (OpenSpec.upto verRestsSpec)) verRestsUptoCard

/-- THE SECOND FORM's CARD OF 'demoticlaw04.VerBack'. -/
def verBackUptoCard : Claim7 := { stood := { row := verBackUptoRow, standIns := [], harness := (true, "6eee1a1fe1e5584c0c876d892baaca3689ea0f773101fe2537deb655f3b2ad75"), looks := true }, kinds := [], alts := [], laidByText := true, laidKinds := [.data, .data, .data, .data, .sentinel, .sentinel, .pinned], laidTests := true, laidLooks := .later }
def VerBackUptoCardSaid : Prop := Claim7.holds Tryd.pinned (.plain (OpenSpec.upto verBackSpec)) verBackUptoCard
end Rows
end Go.Proofs.YtgldnkpanimihaaDoor
