/-
  DERIVED. GIVEN WITH THE SEED: THE CARDS: each row of YthfgkkpibkkiaaaDoorRows.lean that lists a variable, with what it lists TIED to the program's text (the seventh form; the later family's looks); each row that meets fmt, with fmt's text TOLD by the authors' own Lean function (tested against real Go, not proved from fmt's source: count such statements apart). THE CARD IS WHAT COUNTS. Prove the row's statement (the work); the ties are given (YthfgkkpibkkiaaaDoorTie.lean); close each card by the builder's one call (the guide's Derived/Test/ToyasCard.lean, 'card_holds'). Laid BY PROGRAM, IN A SANDBOX (cutbox-door.mjs). By AI agents, Wed Nov 11 2026. No macro, syntax, notation, axiom, sorry.
-/
import Derived.Test.YthfgkkpibkkiaaaDoorRows
import GoSem.ClaimSeven
namespace Go.Proofs.YthfgkkpibkkiaaaDoor
namespace Rows

/-- THE TIED CARD OF 'counterpanelaw20.SessionBack'. -/
def sessionBackCard : Claim7 := { stood := { row := sessionBackRow, standIns := [], harness := (true, "14afe1a5ce1377cefaae126f23660fad2148002df51caba54abc20f5b3e664be"), looks := true }, kinds := [], alts := [], laidByText := true, laidKinds := [.data, .data, .data, .sentinel, .sentinel], laidTests := true, laidLooks := .later }
def SessionBackCardSaid : Prop := Claim7.holds Tryd.pinned (.plain (OpenSpec.ofChange sessionBackSpec)) sessionBackCard

/-- THE TIED CARD OF 'counterpanelaw20.SessionPlays'. -/
def sessionPlaysCard : Claim7 := { stood := { row := sessionPlaysRow, standIns := [], harness := (true, "14afe1a5ce1377cefaae126f23660fad2148002df51caba54abc20f5b3e664be"), looks := true }, kinds := [], alts := [], laidByText := true, laidKinds := [.data, .data, .data, .sentinel, .sentinel], laidTests := true, laidLooks := .later }
def SessionPlaysCardSaid : Prop := Claim7.holds Tryd.pinned (.plain (OpenSpec.ofChange sessionPlaysSpec)) sessionPlaysCard

/-- THE TIED CARD OF 'counterpanelaw20.SessionOrder'. -/
def sessionOrderCard : Claim7 := { stood := { row := sessionOrderRow, standIns := [], harness := (true, "14afe1a5ce1377cefaae126f23660fad2148002df51caba54abc20f5b3e664be"), looks := true }, kinds := [], alts := [], laidByText := true, laidKinds := [.data, .data, .data, .sentinel, .sentinel], laidTests := true, laidLooks := .later }
def SessionOrderCardSaid : Prop := Claim7.holds Tryd.pinned (.plain (OpenSpec.ofChange sessionOrderSpec)) sessionOrderCard

/-- THE TIED CARD OF 'counterpanelaw20.SessionLive'. -/
def sessionLiveCard : Claim7 := { stood := { row := sessionLiveRow, standIns := [], harness := (true, "14afe1a5ce1377cefaae126f23660fad2148002df51caba54abc20f5b3e664be"), looks := true }, kinds := [], alts := [], laidByText := true, laidKinds := [.data, .data, .data, .sentinel, .sentinel], laidTests := true, laidLooks := .later }
def SessionLiveCardSaid : Prop := Claim7.holds Tryd.pinned (.plain (OpenSpec.ofChange sessionLiveSpec)) sessionLiveCard

/-- THE TIED CARD OF 'counterpanelaw20.SessionEpochs'. -/
def sessionEpochsCard : Claim7 := { stood := { row := sessionEpochsRow, standIns := [], harness := (true, "14afe1a5ce1377cefaae126f23660fad2148002df51caba54abc20f5b3e664be"), looks := true }, kinds := [], alts := [], laidByText := true, laidKinds := [.data, .data, .data, .sentinel, .sentinel], laidTests := true, laidLooks := .later }
def SessionEpochsCardSaid : Prop := Claim7.holds Tryd.pinned (.plain (OpenSpec.ofChange sessionEpochsSpec)) sessionEpochsCard

/-- THE TIED CARD OF 'counterpanelaw20.SessionWindow'. -/
def sessionWindowCard : Claim7 := { stood := { row := sessionWindowRow, standIns := [], harness := (true, "14afe1a5ce1377cefaae126f23660fad2148002df51caba54abc20f5b3e664be"), looks := true }, kinds := [], alts := [], laidByText := true, laidKinds := [.data, .data, .data, .sentinel, .sentinel], laidTests := true, laidLooks := .later }
def SessionWindowCardSaid : Prop := Claim7.holds Tryd.pinned (.plain (OpenSpec.ofChange sessionWindowSpec)) sessionWindowCard

/-- THE TIED CARD OF 'counterpanelaw20.SessionSame'. -/
def sessionSameCard : Claim7 := { stood := { row := sessionSameRow, standIns := [], harness := (true, "14afe1a5ce1377cefaae126f23660fad2148002df51caba54abc20f5b3e664be"), looks := true }, kinds := [], alts := [], laidByText := true, laidKinds := [.data, .data, .data, .sentinel, .sentinel], laidTests := true, laidLooks := .later }
def SessionSameCardSaid : Prop := Claim7.holds Tryd.pinned (.plain (OpenSpec.ofChange sessionSameSpec)) sessionSameCard

/-- THE TIED CARD OF 'counterpanelaw20.SessionLimits'. -/
def sessionLimitsCard : Claim7 := { stood := { row := sessionLimitsRow, standIns := [], harness := (true, "14afe1a5ce1377cefaae126f23660fad2148002df51caba54abc20f5b3e664be"), looks := true }, kinds := [], alts := [], laidByText := true, laidKinds := [.data, .data, .data, .sentinel, .sentinel], laidTests := true, laidLooks := .later }
def SessionLimitsCardSaid : Prop := Claim7.holds Tryd.pinned (.plain (OpenSpec.ofChange sessionLimitsSpec)) sessionLimitsCard

/-- THE TIED CARD OF 'counterpanelaw20.SessionBytes'. -/
def sessionBytesCard : Claim7 := { stood := { row := sessionBytesRow, standIns := [], harness := (true, "14afe1a5ce1377cefaae126f23660fad2148002df51caba54abc20f5b3e664be"), looks := true }, kinds := [], alts := [], laidByText := true, laidKinds := [.data, .data, .data, .sentinel, .sentinel], laidTests := true, laidLooks := .later }
def SessionBytesCardSaid : Prop := Claim7.holds Tryd.pinned (.plain (OpenSpec.ofChange sessionBytesSpec)) sessionBytesCard

/-- THE SECOND FORM's CARD OF 'counterpanelaw20.SessionBack'. -/
def sessionBackUptoCard : Claim7 := { stood := { row := sessionBackUptoRow, standIns := [], harness := (true, "14afe1a5ce1377cefaae126f23660fad2148002df51caba54abc20f5b3e664be"), looks := true }, kinds := [], alts := [], laidByText := true, laidKinds := [.data, .data, .data, .sentinel, .sentinel], laidTests := true, laidLooks := .later }
def SessionBackUptoCardSaid : Prop := Claim7.holds Tryd.pinned (.plain (OpenSpec.upto sessionBackSpec)) sessionBackUptoCard

/-- THE SECOND FORM's CARD OF 'counterpanelaw20.SessionPlays'. -/
def sessionPlaysUptoCard : Claim7 := { stood := { row := sessionPlaysUptoRow, standIns := [], harness := (true, "14afe1a5ce1377cefaae126f23660fad2148002df51caba54abc20f5b3e664be"), looks := true }, kinds := [], alts := [], laidByText := true, laidKinds := [.data, .data, .data, .sentinel, .sentinel], laidTests := true, laidLooks := .later }
def SessionPlaysUptoCardSaid : Prop := Claim7.holds Tryd.pinned (.plain (OpenSpec.upto sessionPlaysSpec)) sessionPlaysUptoCard

/-- THE SECOND FORM's CARD OF 'counterpanelaw20.SessionOrder'. -/
def sessionOrderUptoCard : Claim7 := { stood := { row := sessionOrderUptoRow, standIns := [], harness := (true, "14afe1a5ce1377cefaae126f23660fad2148002df51caba54abc20f5b3e664be"), looks := true }, kinds := [], alts := [], laidByText := true, laidKinds := [.data, .data, .data, .sentinel, .sentinel], laidTests := true, laidLooks := .later }
def SessionOrderUptoCardSaid : Prop := Claim7.holds Tryd.pinned (.plain (OpenSpec.upto sessionOrderSpec)) sessionOrderUptoCard

/-- THE SECOND FORM's CARD OF 'counterpanelaw20.SessionLive'. -/
def sessionLiveUptoCard : Claim7 := { stood := { row := sessionLiveUptoRow, standIns := [], harness := (true, "14afe1a5ce1377cefaae126f23660fad2148002df51caba54abc20f5b3e664be"), looks := true }, kinds := [], alts := [], laidByText := true, laidKinds := [.data, .data, .data, .sentinel, .sentinel], laidTests := true, laidLooks := .later }
def SessionLiveUptoCardSaid : Prop := Claim7.holds Tryd.pinned (.plain (OpenSpec.upto sessionLiveSpec)) sessionLiveUptoCard

/-- THE SECOND FORM's CARD OF 'counterpanelaw20.SessionEpochs'. -/
def sessionEpochsUptoCard : Claim7 := { stood := { row := sessionEpochsUptoRow, standIns := [], harness := (true, "14afe1a5ce1377cefaae126f23660fad2148002df51caba54abc20f5b3e664be"), looks := true }, kinds := [], alts := [], laidByText := true, laidKinds := [.data, .data, .data, .sentinel, .sentinel], laidTests := true, laidLooks := .later }
def SessionEpochsUptoCardSaid : Prop := Claim7.holds Tryd.pinned (.plain (OpenSpec.upto sessionEpochsSpec)) sessionEpochsUptoCard

/-- THE SECOND FORM's CARD OF 'counterpanelaw20.SessionWindow'. -/
def sessionWindowUptoCard : Claim7 := { stood := { row := sessionWindowUptoRow, standIns := [], harness := (true, "14afe1a5ce1377cefaae126f23660fad2148002df51caba54abc20f5b3e664be"), looks := true }, kinds := [], alts := [], laidByText := true, laidKinds := [.data, .data, .data, .sentinel, .sentinel], laidTests := true, laidLooks := .later }
def SessionWindowUptoCardSaid : Prop := Claim7.holds Tryd.pinned (.plain (OpenSpec.upto sessionWindowSpec)) sessionWindowUptoCard

/-- THE SECOND FORM's CARD OF 'counterpanelaw20.SessionSame'. -/
def sessionSameUptoCard : Claim7 := { stood := { row := sessionSameUptoRow, standIns := [], harness := (true, "14afe1a5ce1377cefaae126f23660fad2148002df51caba54abc20f5b3e664be"), looks := true }, kinds := [], alts := [], laidByText := true, laidKinds := [.data, .data, .data, .sentinel, .sentinel], laidTests := true, laidLooks := .later }
def SessionSameUptoCardSaid : Prop := Claim7.holds Tryd.pinned (.plain (OpenSpec.upto sessionSameSpec)) sessionSameUptoCard

/-- THE SECOND FORM's CARD OF 'counterpanelaw20.SessionLimits'. -/
def sessionLimitsUptoCard : Claim7 := { stood := { row := sessionLimitsUptoRow, standIns := [], harness := (true, "14afe1a5ce1377cefaae126f23660fad2148002df51caba54abc20f5b3e664be"), looks := true }, kinds := [], alts := [], laidByText := true, laidKinds := [.data, .data, .data, .sentinel, .sentinel], laidTests := true, laidLooks := .later }
def SessionLimitsUptoCardSaid : Prop := Claim7.holds Tryd.pinned (.plain (OpenSpec.upto sessionLimitsSpec)) sessionLimitsUptoCard

/-- THE SECOND FORM's CARD OF 'counterpanelaw20.SessionBytes'. -/
def sessionBytesUptoCard : Claim7 := { stood := { row := sessionBytesUptoRow, standIns := [], harness := (true, "14afe1a5ce1377cefaae126f23660fad2148002df51caba54abc20f5b3e664be"), looks := true }, kinds := [], alts := [], laidByText := true, laidKinds := [.data, .data, .data, .sentinel, .sentinel], laidTests := true, laidLooks := .later }
def SessionBytesUptoCardSaid : Prop := Claim7.holds Tryd.pinned (.plain (OpenSpec.upto sessionBytesSpec)) sessionBytesUptoCard
end Rows
end Go.Proofs.YthfgkkpibkkiaaaDoor
