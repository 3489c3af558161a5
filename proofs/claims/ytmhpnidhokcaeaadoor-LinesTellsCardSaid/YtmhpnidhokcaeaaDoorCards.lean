/-
  DERIVED. GIVEN WITH THE SEED: THE CARDS: each row of YtmhpnidhokcaeaaDoorRows.lean that lists a variable, with what it lists TIED to the program's text (the seventh form; the later family's looks); each row that meets fmt, with fmt's text TOLD by the authors' own Lean function (tested against real Go, not proved from fmt's source: count such statements apart). THE CARD IS WHAT COUNTS. Prove the row's statement (the work); the ties are given (YtmhpnidhokcaeaaDoorTie.lean); close each card by the builder's one call (the guide's Derived/Test/ToyasCard.lean, 'card_holds'). Laid BY PROGRAM, IN A SANDBOX (cutbox-door.mjs). By AI agents, Wed Nov 11 2026. No macro, syntax, notation, axiom, sorry.
-/
import Derived.Test.YtmhpnidhokcaeaaDoorRows
import GoSem.ClaimSeven
namespace Go.Proofs.YtmhpnidhokcaeaaDoor
namespace Rows

/-- THE TIED CARD OF 'counterpanelaw05.LinesPieces'. -/
def linesPiecesCard : Claim7 := { stood := { row := linesPiecesRow, standIns := [], harness := (true, "6ac812cdb4fa0bf1158bd13cfb0f8a004ca61a713e759df65ecc1fc69c2d95d3"), looks := false }, kinds := [], alts := [], laidByText := true, laidKinds := [.data, .pinned], laidTests := true, laidLooks := .later }
def LinesPiecesCardSaid : Prop := Claim7.holds Tryd.pinned (.plain (OpenSpec.ofChange linesPiecesSpec)) linesPiecesCard

/-- THE TIED CARD OF 'counterpanelaw05.LinesTokens'. -/
def linesTokensCard : Claim7 := { stood := { row := linesTokensRow, standIns := [], harness := (true, "6ac812cdb4fa0bf1158bd13cfb0f8a004ca61a713e759df65ecc1fc69c2d95d3"), looks := false }, kinds := [], alts := [], laidByText := true, laidKinds := [.data, .pinned], laidTests := true, laidLooks := .later }
def LinesTokensCardSaid : Prop := Claim7.holds Tryd.pinned (.plain (OpenSpec.ofChange linesTokensSpec)) linesTokensCard

/-- THE TIED CARD OF 'counterpanelaw05.LinesMany'. -/
def linesManyCard : Claim7 := { stood := { row := linesManyRow, standIns := [], harness := (true, "6ac812cdb4fa0bf1158bd13cfb0f8a004ca61a713e759df65ecc1fc69c2d95d3"), looks := false }, kinds := [], alts := [], laidByText := true, laidKinds := [.data, .pinned], laidTests := true, laidLooks := .later }
def LinesManyCardSaid : Prop := Claim7.holds Tryd.pinned (.plain (OpenSpec.ofChange linesManySpec)) linesManyCard

/-- THE TIED CARD OF 'counterpanelaw05.LinesOther'. -/
def linesOtherCard : Claim7 := { stood := { row := linesOtherRow, standIns := [], harness := (true, "6ac812cdb4fa0bf1158bd13cfb0f8a004ca61a713e759df65ecc1fc69c2d95d3"), looks := false }, kinds := [], alts := [], laidByText := true, laidKinds := [.data, .pinned], laidTests := true, laidLooks := .later }
def LinesOtherCardSaid : Prop := Claim7.holds Tryd.pinned (.plain (OpenSpec.ofChange linesOtherSpec)) linesOtherCard

/-- THE TIED CARD OF 'counterpanelaw05.LinesTells'. -/
def linesTellsCard : Claim7 := { stood := { row := linesTellsRow, standIns := [], harness := (true, "6ac812cdb4fa0bf1158bd13cfb0f8a004ca61a713e759df65ecc1fc69c2d95d3"), looks := false }, kinds := [], alts := [], laidByText := true, laidKinds := [.data, .pinned], laidTests := true, laidLooks := .later }
def LinesTellsCardSaid : Prop := Claim7.holds Tryd.pinned (.plain (OpenSpec.ofChange linesTellsSpec)) linesTellsCard

/-- THE TIED CARD OF 'counterpanelaw05.LinesBack'. -/
def linesBackCard : Claim7 := { stood := { row := linesBackRow, standIns := [], harness := (true, "6ac812cdb4fa0bf1158bd13cfb0f8a004ca61a713e759df65ecc1fc69c2d95d3"), looks := false }, kinds := [], alts := [], laidByText := true, laidKinds := [.data, .pinned], laidTests := true, laidLooks := .later }
def LinesBackCardSaid : Prop := Claim7.holds Tryd.pinned (.plain (OpenSpec.ofChange linesBackSpec)) linesBackCard

/-- THE SECOND FORM's CARD OF 'counterpanelaw05.LinesPieces'. -/
def linesPiecesUptoCard : Claim7 := { stood := { row := linesPiecesUptoRow, standIns := [], harness := (true, "6ac812cdb4fa0bf1158bd13cfb0f8a004ca61a713e759df65ecc1fc69c2d95d3"), looks := false }, kinds := [], alts := [], laidByText := true, laidKinds := [.data, .pinned], laidTests := true, laidLooks := .later }
def LinesPiecesUptoCardSaid : Prop := Claim7.holds Tryd.pinned (.plain (OpenSpec.upto linesPiecesSpec)) linesPiecesUptoCard

/-- THE SECOND FORM's CARD OF 'counterpanelaw05.LinesTokens'. -/
def linesTokensUptoCard : Claim7 := { stood := { row := linesTokensUptoRow, standIns := [], harness := (true, "6ac812cdb4fa0bf1158bd13cfb0f8a004ca61a713e759df65ecc1fc69c2d95d3"), looks := false }, kinds := [], alts := [], laidByText := true, laidKinds := [.data, .pinned], laidTests := true, laidLooks := .later }
def LinesTokensUptoCardSaid : Prop := Claim7.holds Tryd.pinned (.plain (OpenSpec.upto linesTokensSpec)) linesTokensUptoCard

/-- THE SECOND FORM's CARD OF 'counterpanelaw05.LinesMany'. -/
def linesManyUptoCard : Claim7 := { stood := { row := linesManyUptoRow, standIns := [], harness := (true, "6ac812cdb4fa0bf1158bd13cfb0f8a004ca61a713e759df65ecc1fc69c2d95d3"), looks := false }, kinds := [], alts := [], laidByText := true, laidKinds := [.data, .pinned], laidTests := true, laidLooks := .later }
def LinesManyUptoCardSaid : Prop := Claim7.holds Tryd.pinned (.plain (OpenSpec.upto linesManySpec)) linesManyUptoCard

/-- THE SECOND FORM's CARD OF 'counterpanelaw05.LinesOther'. -/
def linesOtherUptoCard : Claim7 := { stood := { row := linesOtherUptoRow, standIns := [], harness := (true, "6ac812cdb4fa0bf1158bd13cfb0f8a004ca61a713e759df65ecc1fc69c2d95d3"), looks := false }, kinds := [], alts := [], laidByText := true, laidKinds := [.data, .pinned], laidTests := true, laidLooks := .later }
def LinesOtherUptoCardSaid : Prop := Claim7.holds Tryd.pinned (.plain (OpenSpec.upto linesOtherSpec)) linesOtherUptoCard

/-- THE SECOND FORM's CARD OF 'counterpanelaw05.LinesTells'. -/
def linesTellsUptoCard : Claim7 := { stood := { row := linesTellsUptoRow, standIns := [], harness := (true, "6ac812cdb4fa0bf1158bd13cfb0f8a004ca61a713e759df65ecc1fc69c2d95d3"), looks := false }, kinds := [], alts := [], laidByText := true, laidKinds := [.data, .pinned], laidTests := true, laidLooks := .later }
def LinesTellsUptoCardSaid : Prop := Claim7.holds Tryd.pinned (.plain (OpenSpec.upto linesTellsSpec)) linesTellsUptoCard

/-- THE SECOND FORM's CARD OF 'counterpanelaw05.LinesBack'. -/
def linesBackUptoCard : Claim7 := { stood := { row := linesBackUptoRow, standIns := [], harness := (true, "6ac812cdb4fa0bf1158bd13cfb0f8a004ca61a713e759df65ecc1fc69c2d95d3"), looks := false }, kinds := [], alts := [], laidByText := true, laidKinds := [.data, .pinned], laidTests := true, laidLooks := .later }
def LinesBackUptoCardSaid : Prop := Claim7.holds Tryd.pinned (.plain (OpenSpec.upto linesBackSpec)) linesBackUptoCard
end Rows
end Go.Proofs.YtmhpnidhokcaeaaDoor
