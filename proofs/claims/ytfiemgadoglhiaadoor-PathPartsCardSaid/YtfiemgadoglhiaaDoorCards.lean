/-
  DERIVED. GIVEN WITH THE SEED: THE CARDS: each row of YtfiemgadoglhiaaDoorRows.lean that lists a variable, with what it lists TIED to the program's text (the seventh form; the later family's looks); each row that meets fmt, with fmt's text TOLD by the authors' own Lean function (tested against real Go, not proved from fmt's source: count such statements apart). THE CARD IS WHAT COUNTS. Prove the row's statement (the work); the ties are given (YtfiemgadoglhiaaDoorTie.lean); close each card by the builder's one call (the guide's Derived/Test/ToyasCard.lean, 'card_holds'). Laid BY PROGRAM, IN A SANDBOX (cutbox-door.mjs). By AI agents, Wed Nov 11 2026. No macro, syntax, notation, axiom, sorry.
-/
import Derived.Test.YtfiemgadoglhiaaDoorRows
import GoSem.ClaimSeven
namespace Go.Proofs.YtfiemgadoglhiaaDoor
namespace Rows

/-- THE TIED CARD OF 'counterpanelaw04.PathTells'. -/
def pathTellsCard : Claim7 := { stood := { row := pathTellsRow, standIns := [], harness := (true, "6fe23f754fe7cc344b5115bce90370d53e4612d64c21a8284a2e76ed55b833f6"), looks := false }, kinds := [], alts := [], laidByText := true, laidKinds := [.data, .pinned], laidTests := true, laidLooks := .later }
def PathTellsCardSaid : Prop := Claim7.holds Tryd.pinned (.plain (OpenSpec.ofChange pathTellsSpec)) pathTellsCard

/-- THE TIED CARD OF 'counterpanelaw04.PathWithin'. -/
def pathWithinCard : Claim7 := { stood := { row := pathWithinRow, standIns := [], harness := (true, "6fe23f754fe7cc344b5115bce90370d53e4612d64c21a8284a2e76ed55b833f6"), looks := false }, kinds := [], alts := [], laidByText := true, laidKinds := [.data, .pinned], laidTests := true, laidLooks := .later }
def PathWithinCardSaid : Prop := Claim7.holds Tryd.pinned (.plain (OpenSpec.ofChange pathWithinSpec)) pathWithinCard

/-- THE TIED CARD OF 'counterpanelaw04.PathMoved'. -/
def pathMovedCard : Claim7 := { stood := { row := pathMovedRow, standIns := [], harness := (true, "6fe23f754fe7cc344b5115bce90370d53e4612d64c21a8284a2e76ed55b833f6"), looks := false }, kinds := [], alts := [], laidByText := true, laidKinds := [.data, .pinned], laidTests := true, laidLooks := .later }
def PathMovedCardSaid : Prop := Claim7.holds Tryd.pinned (.plain (OpenSpec.ofChange pathMovedSpec)) pathMovedCard

/-- THE TIED CARD OF 'counterpanelaw04.PathParts'. -/
def pathPartsCard : Claim7 := { stood := { row := pathPartsRow, standIns := [], harness := (true, "6fe23f754fe7cc344b5115bce90370d53e4612d64c21a8284a2e76ed55b833f6"), looks := false }, kinds := [], alts := [], laidByText := true, laidKinds := [.data, .pinned], laidTests := true, laidLooks := .later }
def PathPartsCardSaid : Prop := Claim7.holds Tryd.pinned (.plain (OpenSpec.ofChange pathPartsSpec)) pathPartsCard

/-- THE TIED CARD OF 'counterpanelaw04.PathChain'. -/
def pathChainCard : Claim7 := { stood := { row := pathChainRow, standIns := [], harness := (true, "6fe23f754fe7cc344b5115bce90370d53e4612d64c21a8284a2e76ed55b833f6"), looks := false }, kinds := [], alts := [], laidByText := true, laidKinds := [.data, .pinned], laidTests := true, laidLooks := .later }
def PathChainCardSaid : Prop := Claim7.holds Tryd.pinned (.plain (OpenSpec.ofChange pathChainSpec)) pathChainCard

/-- THE SECOND FORM's CARD OF 'counterpanelaw04.PathTells'. -/
def pathTellsUptoCard : Claim7 := { stood := { row := pathTellsUptoRow, standIns := [], harness := (true, "6fe23f754fe7cc344b5115bce90370d53e4612d64c21a8284a2e76ed55b833f6"), looks := false }, kinds := [], alts := [], laidByText := true, laidKinds := [.data, .pinned], laidTests := true, laidLooks := .later }
def PathTellsUptoCardSaid : Prop := Claim7.holds Tryd.pinned (.plain (OpenSpec.upto pathTellsSpec)) pathTellsUptoCard

/-- THE SECOND FORM's CARD OF 'counterpanelaw04.PathWithin'. -/
def pathWithinUptoCard : Claim7 := { stood := { row := pathWithinUptoRow, standIns := [], harness := (true, "6fe23f754fe7cc344b5115bce90370d53e4612d64c21a8284a2e76ed55b833f6"), looks := false }, kinds := [], alts := [], laidByText := true, laidKinds := [.data, .pinned], laidTests := true, laidLooks := .later }
def PathWithinUptoCardSaid : Prop := Claim7.holds Tryd.pinned (.plain (OpenSpec.upto pathWithinSpec)) pathWithinUptoCard

/-- THE SECOND FORM's CARD OF 'counterpanelaw04.PathMoved'. -/
def pathMovedUptoCard : Claim7 := { stood := { row := pathMovedUptoRow, standIns := [], harness := (true, "6fe23f754fe7cc344b5115bce90370d53e4612d64c21a8284a2e76ed55b833f6"), looks := false }, kinds := [], alts := [], laidByText := true, laidKinds := [.data, .pinned], laidTests := true, laidLooks := .later }
def PathMovedUptoCardSaid : Prop := Claim7.holds Tryd.pinned (.plain (OpenSpec.upto pathMovedSpec)) pathMovedUptoCard

/-- THE SECOND FORM's CARD OF 'counterpanelaw04.PathParts'. -/
def pathPartsUptoCard : Claim7 := { stood := { row := pathPartsUptoRow, standIns := [], harness := (true, "6fe23f754fe7cc344b5115bce90370d53e4612d64c21a8284a2e76ed55b833f6"), looks := false }, kinds := [], alts := [], laidByText := true, laidKinds := [.data, .pinned], laidTests := true, laidLooks := .later }
def PathPartsUptoCardSaid : Prop := Claim7.holds Tryd.pinned (.plain (OpenSpec.upto pathPartsSpec)) pathPartsUptoCard

/-- THE SECOND FORM's CARD OF 'counterpanelaw04.PathChain'. -/
def pathChainUptoCard : Claim7 := { stood := { row := pathChainUptoRow, standIns := [], harness := (true, "6fe23f754fe7cc344b5115bce90370d53e4612d64c21a8284a2e76ed55b833f6"), looks := false }, kinds := [], alts := [], laidByText := true, laidKinds := [.data, .pinned], laidTests := true, laidLooks := .later }
def PathChainUptoCardSaid : Prop := Claim7.holds Tryd.pinned (.plain (OpenSpec.upto pathChainSpec)) pathChainUptoCard
end Rows
end Go.Proofs.YtfiemgadoglhiaaDoor
