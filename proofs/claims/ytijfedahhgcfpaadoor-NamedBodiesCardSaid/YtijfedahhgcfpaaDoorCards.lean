/-
  DERIVED. GIVEN WITH THE SEED: THE CARDS: each row of YtijfedahhgcfpaaDoorRows.lean that lists a variable, with what it lists TIED to the program's text (the seventh form; the later family's looks); each row that meets fmt, with fmt's text TOLD by the authors' own Lean function (tested against real Go, not proved from fmt's source: count such statements apart). THE CARD IS WHAT COUNTS. Prove the row's statement (the work); the ties are given (YtijfedahhgcfpaaDoorTie.lean); close each card by the builder's one call (the guide's Derived/Test/ToyasCard.lean, 'card_holds'). Laid BY PROGRAM, IN A SANDBOX (cutbox-door.mjs). By AI agents, Wed Nov 11 2026. No macro, syntax, notation, axiom, sorry.
-/
import Derived.Test.YtijfedahhgcfpaaDoorRows
import GoSem.ClaimSeven
namespace Go.Proofs.YtijfedahhgcfpaaDoor
namespace Rows

/-- THE TIED CARD OF 'counterpanelaw13.NamedBack'. -/
def namedBackCard : Claim7 := { stood := { row := namedBackRow, standIns := [], harness := (true, "1c71c952e2012e82216dc3671ad5d8a8ac10f3ec45a2a0798f717eee6e8bdc34"), looks := false }, kinds := [], alts := [], laidByText := true, laidKinds := [.data, .data, .data, .data, .pinned], laidTests := true, laidLooks := .later }
def NamedBackCardSaid : Prop := Claim7.holds Tryd.pinned (.plain (OpenSpec.ofChange namedBackSpec)) namedBackCard

/-- THE TIED CARD OF 'counterpanelaw13.NamedCut'. -/
def namedCutCard : Claim7 := { stood := { row := namedCutRow, standIns := [], harness := (true, "1c71c952e2012e82216dc3671ad5d8a8ac10f3ec45a2a0798f717eee6e8bdc34"), looks := false }, kinds := [], alts := [], laidByText := true, laidKinds := [.data, .data, .data, .data, .pinned], laidTests := true, laidLooks := .later }
def NamedCutCardSaid : Prop := Claim7.holds Tryd.pinned (.plain (OpenSpec.ofChange namedCutSpec)) namedCutCard

/-- THE TIED CARD OF 'counterpanelaw13.NamedBodies'. -/
def namedBodiesCard : Claim7 := { stood := { row := namedBodiesRow, standIns := [], harness := (true, "1c71c952e2012e82216dc3671ad5d8a8ac10f3ec45a2a0798f717eee6e8bdc34"), looks := false }, kinds := [], alts := [], laidByText := true, laidKinds := [.data, .data, .data, .data, .pinned], laidTests := true, laidLooks := .later }
def NamedBodiesCardSaid : Prop := Claim7.holds Tryd.pinned (.plain (OpenSpec.ofChange namedBodiesSpec)) namedBodiesCard

/-- THE TIED CARD OF 'counterpanelaw13.NamedLabels'. -/
def namedLabelsCard : Claim7 := { stood := { row := namedLabelsRow, standIns := [], harness := (true, "1c71c952e2012e82216dc3671ad5d8a8ac10f3ec45a2a0798f717eee6e8bdc34"), looks := false }, kinds := [], alts := [], laidByText := true, laidKinds := [.data, .data, .data, .data, .pinned], laidTests := true, laidLooks := .later }
def NamedLabelsCardSaid : Prop := Claim7.holds Tryd.pinned (.plain (OpenSpec.ofChange namedLabelsSpec)) namedLabelsCard

/-- THE SECOND FORM's CARD OF 'counterpanelaw13.NamedBack'. -/
def namedBackUptoCard : Claim7 := { stood := { row := namedBackUptoRow, standIns := [], harness := (true, "1c71c952e2012e82216dc3671ad5d8a8ac10f3ec45a2a0798f717eee6e8bdc34"), looks := false }, kinds := [], alts := [], laidByText := true, laidKinds := [.data, .data, .data, .data, .pinned], laidTests := true, laidLooks := .later }
def NamedBackUptoCardSaid : Prop := Claim7.holds Tryd.pinned (.plain (OpenSpec.upto namedBackSpec)) namedBackUptoCard

/-- THE SECOND FORM's CARD OF 'counterpanelaw13.NamedCut'. -/
def namedCutUptoCard : Claim7 := { stood := { row := namedCutUptoRow, standIns := [], harness := (true, "1c71c952e2012e82216dc3671ad5d8a8ac10f3ec45a2a0798f717eee6e8bdc34"), looks := false }, kinds := [], alts := [], laidByText := true, laidKinds := [.data, .data, .data, .data, .pinned], laidTests := true, laidLooks := .later }
def NamedCutUptoCardSaid : Prop := Claim7.holds Tryd.pinned (.plain (OpenSpec.upto namedCutSpec)) namedCutUptoCard

/-- THE SECOND FORM's CARD OF 'counterpanelaw13.NamedBodies'. -/
def namedBodiesUptoCard : Claim7 := { stood := { row := namedBodiesUptoRow, standIns := [], harness := (true, "1c71c952e2012e82216dc3671ad5d8a8ac10f3ec45a2a0798f717eee6e8bdc34"), looks := false }, kinds := [], alts := [], laidByText := true, laidKinds := [.data, .data, .data, .data, .pinned], laidTests := true, laidLooks := .later }
def NamedBodiesUptoCardSaid : Prop := Claim7.holds Tryd.pinned (.plain (OpenSpec.upto namedBodiesSpec)) namedBodiesUptoCard

/-- THE SECOND FORM's CARD OF 'counterpanelaw13.NamedLabels'. -/
def namedLabelsUptoCard : Claim7 := { stood := { row := namedLabelsUptoRow, standIns := [], harness := (true, "1c71c952e2012e82216dc3671ad5d8a8ac10f3ec45a2a0798f717eee6e8bdc34"), looks := false }, kinds := [], alts := [], laidByText := true, laidKinds := [.data, .data, .data, .data, .pinned], laidTests := true, laidLooks := .later }
def NamedLabelsUptoCardSaid : Prop := Claim7.holds Tryd.pinned (.plain (OpenSpec.upto namedLabelsSpec)) namedLabelsUptoCard
end Rows
end Go.Proofs.YtijfedahhgcfpaaDoor
