/-
  NARROWER THAN 'FOR EVERY INPUT', by the rows' own cells (each row's printed sentence says how): LinesPieces: laid · LinesTokens: laid · LinesMany: laid · LinesOther: laid · LinesTells: laid · LinesBack: laid.
  DERIVED. THE GIVEN ROWS OF THIS SEAT. 6 by the template 'for every input the law returns true; each argument reads behind the call as it read before'; 0 by the template 'total and deterministic' (their statements: YtmhpnidhokcaeaaDoorTotals.lean).
  GIVEN WITH THE SEED: the statements are not yours to turn. If you find one false, say at which input.
  Laid BY PROGRAM, IN A SANDBOX (cutbox-rows.mjs): the forced cells as the released guide's own fill.sh prints them over the translation 3bba71914348497d… (all of the seat's roots in one cut). By AI agents, Wed Nov 11 2026. No macro, syntax, notation, axiom, sorry.
-/
import Derived.Test.YtmhpnidhokcaeaaDoorChecked
import GoSem.PinnedTables
import GoSem.Claim
import GoSem.ClaimJoined
import GoSem.ClaimMapViews
import Derived.JoinedTies
import Derived.KernelRfl
namespace Go.Proofs.YtmhpnidhokcaeaaDoor
/- THE CELL 'sum', in the pinned program and in every row, IS THE sha256 OF THE DUMP (.gsa) THAT YtmhpnidhokcaeaaDoorProg.lean LOADS. Nothing in Lean hashes anything: it is a label: what it is worth is what the hold of that sum in a sandbox is worth. -/
noncomputable def Tryd.pinned : Pinned := { name := "ytmhpnidhokcaeaadoor", sum := "3bba71914348497df21c21109b692f1ad2dc3f96b3582d8197389b58db77bf40", checked := Tryd.checked }
namespace Rows
def none {H : Type} : Left H := { results := [], args := [] }

/- WHAT THE LISTED PACKAGE-LEVEL VARIABLES READ AS WHEN THE CALL BEGINS. Each datum BY PROGRAM (the guide's laid-datum.mjs) off the statement by which the dump's own 'gosem.cut.vars' lays the variable. In a bare row this is a premise. The card (YtmhpnidhokcaeaaDoorCards.lean) ties it to the program's text. -/
def laid_unicode_utf8_acceptRanges {H : Type} : DataW H := .agg [.agg [.lit (.int .u8 128), .lit (.int .u8 191)], .agg [.lit (.int .u8 160), .lit (.int .u8 191)], .agg [.lit (.int .u8 128), .lit (.int .u8 159)], .agg [.lit (.int .u8 144), .lit (.int .u8 191)], .agg [.lit (.int .u8 128), .lit (.int .u8 143)], .agg [.lit (.int .u8 0), .lit (.int .u8 0)], .agg [.lit (.int .u8 0), .lit (.int .u8 0)], .agg [.lit (.int .u8 0), .lit (.int .u8 0)], .agg [.lit (.int .u8 0), .lit (.int .u8 0)], .agg [.lit (.int .u8 0), .lit (.int .u8 0)], .agg [.lit (.int .u8 0), .lit (.int .u8 0)], .agg [.lit (.int .u8 0), .lit (.int .u8 0)], .agg [.lit (.int .u8 0), .lit (.int .u8 0)], .agg [.lit (.int .u8 0), .lit (.int .u8 0)], .agg [.lit (.int .u8 0), .lit (.int .u8 0)], .agg [.lit (.int .u8 0), .lit (.int .u8 0)]]
/-- One of Go's own tables, pinned by name: the form's constant. -/
def laid_unicode_utf8_first : DataW Unit := Go.Pinned.utf8First

/-- 'counterpanelaw05.LinesPieces': WHATEVER THE INPUT: true; the input reads as it did. -/
def linesPiecesSpec : ChangeSpec := { name := "linesPieces", fn := fun _ => fun
  | [d] => { results := [.lit (.bool true)], args := [d] }
  | _ => none }
def linesPiecesRow : OpenClaim := { program := "ytmhpnidhokcaeaadoor", sum := "3bba71914348497df21c21109b692f1ad2dc3f96b3582d8197389b58db77bf40", func := "counterpane/counterpanelaw05.LinesPieces", spec := "linesPieces", inPlace := ["internal/bytealg.CountString", "internal/bytealg.IndexByteString", "internal/bytealg.IndexString", "internal/abi.NoEscape"], unfollowed := true, recurses := true, named := ["unicode/utf8.first", "unicode/utf8.acceptRanges", "internal/bytealg.MaxLen"], apart := false, laid := [("unicode/utf8.acceptRanges", laid_unicode_utf8_acceptRanges), ("unicode/utf8.first", laid_unicode_utf8_first)] }
def LinesPiecesSaid : Prop := linesPiecesRow.holds Tryd.pinned (OpenSpec.ofChange linesPiecesSpec)

/-- ITS FALSE NEIGHBOUR: 'it returns false'. Refute it at one input. -/
def linesPiecesWrong : ChangeSpec := { name := "linesPieces", fn := fun _ => fun
  | [d] => { results := [.lit (.bool false)], args := [d] }
  | _ => none }
def LinesPiecesWrongFalsely : Prop := linesPiecesRow.holds Tryd.pinned (OpenSpec.ofChange linesPiecesWrong)

/-- 'counterpanelaw05.LinesTokens': WHATEVER THE INPUT: true; the input reads as it did. -/
def linesTokensSpec : ChangeSpec := { name := "linesTokens", fn := fun _ => fun
  | [d1, d2, d3] => { results := [.lit (.bool true)], args := [d1, d2, d3] }
  | _ => none }
def linesTokensRow : OpenClaim := { program := "ytmhpnidhokcaeaadoor", sum := "3bba71914348497df21c21109b692f1ad2dc3f96b3582d8197389b58db77bf40", func := "counterpane/counterpanelaw05.LinesTokens", spec := "linesTokens", inPlace := ["internal/bytealg.CountString", "internal/bytealg.IndexByteString", "internal/bytealg.IndexString", "internal/abi.NoEscape"], unfollowed := true, recurses := true, named := ["unicode/utf8.first", "unicode/utf8.acceptRanges", "internal/bytealg.MaxLen"], apart := false, laid := [("unicode/utf8.acceptRanges", laid_unicode_utf8_acceptRanges), ("unicode/utf8.first", laid_unicode_utf8_first)] }
def LinesTokensSaid : Prop := linesTokensRow.holds Tryd.pinned (OpenSpec.ofChange linesTokensSpec)

/-- ITS FALSE NEIGHBOUR: 'it returns false'. Refute it at one input. -/
def linesTokensWrong : ChangeSpec := { name := "linesTokens", fn := fun _ => fun
  | [d1, d2, d3] => { results := [.lit (.bool false)], args := [d1, d2, d3] }
  | _ => none }
def LinesTokensWrongFalsely : Prop := linesTokensRow.holds Tryd.pinned (OpenSpec.ofChange linesTokensWrong)

/-- 'counterpanelaw05.LinesMany': WHATEVER THE INPUT: true; the input reads as it did. -/
def linesManySpec : ChangeSpec := { name := "linesMany", fn := fun _ => fun
  | [d1, d2] => { results := [.lit (.bool true)], args := [d1, d2] }
  | _ => none }
def linesManyRow : OpenClaim := { program := "ytmhpnidhokcaeaadoor", sum := "3bba71914348497df21c21109b692f1ad2dc3f96b3582d8197389b58db77bf40", func := "counterpane/counterpanelaw05.LinesMany", spec := "linesMany", inPlace := ["internal/bytealg.CountString", "internal/bytealg.IndexByteString", "internal/bytealg.IndexString", "internal/abi.NoEscape"], unfollowed := true, recurses := true, named := ["unicode/utf8.first", "unicode/utf8.acceptRanges", "internal/bytealg.MaxLen"], apart := false, laid := [("unicode/utf8.acceptRanges", laid_unicode_utf8_acceptRanges), ("unicode/utf8.first", laid_unicode_utf8_first)] }
def LinesManySaid : Prop := linesManyRow.holds Tryd.pinned (OpenSpec.ofChange linesManySpec)

/-- ITS FALSE NEIGHBOUR: 'it returns false'. Refute it at one input. -/
def linesManyWrong : ChangeSpec := { name := "linesMany", fn := fun _ => fun
  | [d1, d2] => { results := [.lit (.bool false)], args := [d1, d2] }
  | _ => none }
def LinesManyWrongFalsely : Prop := linesManyRow.holds Tryd.pinned (OpenSpec.ofChange linesManyWrong)

/-- 'counterpanelaw05.LinesOther': WHATEVER THE INPUT: true; the input reads as it did. -/
def linesOtherSpec : ChangeSpec := { name := "linesOther", fn := fun _ => fun
  | [d1, d2, d3] => { results := [.lit (.bool true)], args := [d1, d2, d3] }
  | _ => none }
def linesOtherRow : OpenClaim := { program := "ytmhpnidhokcaeaadoor", sum := "3bba71914348497df21c21109b692f1ad2dc3f96b3582d8197389b58db77bf40", func := "counterpane/counterpanelaw05.LinesOther", spec := "linesOther", inPlace := ["internal/bytealg.CountString", "internal/bytealg.IndexByteString", "internal/bytealg.IndexString", "internal/abi.NoEscape"], unfollowed := true, recurses := true, named := ["unicode/utf8.first", "unicode/utf8.acceptRanges", "internal/bytealg.MaxLen"], apart := false, laid := [("unicode/utf8.acceptRanges", laid_unicode_utf8_acceptRanges), ("unicode/utf8.first", laid_unicode_utf8_first)] }
def LinesOtherSaid : Prop := linesOtherRow.holds Tryd.pinned (OpenSpec.ofChange linesOtherSpec)

/-- ITS FALSE NEIGHBOUR: 'it returns false'. Refute it at one input. -/
def linesOtherWrong : ChangeSpec := { name := "linesOther", fn := fun _ => fun
  | [d1, d2, d3] => { results := [.lit (.bool false)], args := [d1, d2, d3] }
  | _ => none }
def LinesOtherWrongFalsely : Prop := linesOtherRow.holds Tryd.pinned (OpenSpec.ofChange linesOtherWrong)

/-- 'counterpanelaw05.LinesTells': WHATEVER THE INPUT: true; the input reads as it did. -/
def linesTellsSpec : ChangeSpec := { name := "linesTells", fn := fun _ => fun
  | [d1, d2, d3, d4] => { results := [.lit (.bool true)], args := [d1, d2, d3, d4] }
  | _ => none }
def linesTellsRow : OpenClaim := { program := "ytmhpnidhokcaeaadoor", sum := "3bba71914348497df21c21109b692f1ad2dc3f96b3582d8197389b58db77bf40", func := "counterpane/counterpanelaw05.LinesTells", spec := "linesTells", inPlace := ["internal/bytealg.CountString", "internal/bytealg.IndexByteString", "internal/bytealg.IndexString", "internal/abi.NoEscape"], unfollowed := true, recurses := true, named := ["unicode/utf8.first", "unicode/utf8.acceptRanges", "internal/bytealg.MaxLen"], apart := false, laid := [("unicode/utf8.acceptRanges", laid_unicode_utf8_acceptRanges), ("unicode/utf8.first", laid_unicode_utf8_first)] }
def LinesTellsSaid : Prop := linesTellsRow.holds Tryd.pinned (OpenSpec.ofChange linesTellsSpec)

/-- ITS FALSE NEIGHBOUR: 'it returns false'. Refute it at one input. -/
def linesTellsWrong : ChangeSpec := { name := "linesTells", fn := fun _ => fun
  | [d1, d2, d3, d4] => { results := [.lit (.bool false)], args := [d1, d2, d3, d4] }
  | _ => none }
def LinesTellsWrongFalsely : Prop := linesTellsRow.holds Tryd.pinned (OpenSpec.ofChange linesTellsWrong)

/-- 'counterpanelaw05.LinesBack': WHATEVER THE INPUT: true; the input reads as it did. -/
def linesBackSpec : ChangeSpec := { name := "linesBack", fn := fun _ => fun
  | [d1, d2] => { results := [.lit (.bool true)], args := [d1, d2] }
  | _ => none }
def linesBackRow : OpenClaim := { program := "ytmhpnidhokcaeaadoor", sum := "3bba71914348497df21c21109b692f1ad2dc3f96b3582d8197389b58db77bf40", func := "counterpane/counterpanelaw05.LinesBack", spec := "linesBack", inPlace := ["internal/bytealg.CountString", "internal/bytealg.IndexByteString", "internal/bytealg.IndexString", "internal/abi.NoEscape"], unfollowed := true, recurses := true, named := ["unicode/utf8.first", "unicode/utf8.acceptRanges", "internal/bytealg.MaxLen"], apart := false, laid := [("unicode/utf8.acceptRanges", laid_unicode_utf8_acceptRanges), ("unicode/utf8.first", laid_unicode_utf8_first)] }
def LinesBackSaid : Prop := linesBackRow.holds Tryd.pinned (OpenSpec.ofChange linesBackSpec)

/-- ITS FALSE NEIGHBOUR: 'it returns false'. Refute it at one input. -/
def linesBackWrong : ChangeSpec := { name := "linesBack", fn := fun _ => fun
  | [d1, d2] => { results := [.lit (.bool false)], args := [d1, d2] }
  | _ => none }
def LinesBackWrongFalsely : Prop := linesBackRow.holds Tryd.pinned (OpenSpec.ofChange linesBackWrong)

/- THE SECOND FORM. 'bulk': how many values and letters a reading holds, each counted each time it is reached (what is shared counts as often as it is met; a slice's spare places count too). A statement '..UptoSaid' is the law's where the arguments, and the package variables that the reading takes, are together of bulk at most 1048576: NARROWER than '..Said'. Prove '..Said' where nothing that the law and all that it calls make is longer than what came in: it says more and counts as full. Else prove '..UptoSaid'. A law counts once. -/
mutual
def uptoBulk {H : Type} : DataW H → Nat
  | .lit (.string bytes) => bytes.length + 1
  | .lit _ => 1
  | .nil => 1
  | .ptr d => uptoBulk d + 1
  | .slice elems spare => uptoBulkAll elems + uptoBulkAll spare + 1
  | .agg parts => uptoBulkAll parts + 1
  | .iface _ d => uptoBulk d + 1
  | .map entries => uptoBulkEntries entries + 1
  | .held _ => 1
def uptoBulkAll {H : Type} : List (DataW H) → Nat
  | [] => 0
  | d :: r => uptoBulk d + uptoBulkAll r
def uptoBulkEntries {H : Type} : List (Lit × DataW H) → Nat
  | [] => 0
  | x :: r => uptoBulkEntry x + uptoBulkEntries r
def uptoBulkEntry {H : Type} : Lit × DataW H → Nat
  | (.string bytes, d) => bytes.length + uptoBulk d + 1
  | (_, d) => uptoBulk d + 1
 end
def uptoSmall : (H : Type) → List (DataW H) → Bool := fun _ ds => decide (uptoBulkAll ds ≤ 1048576)
def OpenSpec.upto (s : _root_.Go.ChangeSpec) : _root_.Go.OpenSpec := { _root_.Go.OpenSpec.ofChange s with cond := some uptoSmall }

/-- 'counterpanelaw05.LinesPieces', WHERE WHAT IT READS IS OF BULK AT MOST 1048576: true; the input reads as it did. -/
def linesPiecesUptoRow : OpenClaim := { program := "ytmhpnidhokcaeaadoor", sum := "3bba71914348497df21c21109b692f1ad2dc3f96b3582d8197389b58db77bf40", func := "counterpane/counterpanelaw05.LinesPieces", spec := "linesPieces", inPlace := ["internal/bytealg.CountString", "internal/bytealg.IndexByteString", "internal/bytealg.IndexString", "internal/abi.NoEscape"], unfollowed := true, recurses := true, named := ["unicode/utf8.first", "unicode/utf8.acceptRanges", "internal/bytealg.MaxLen"], apart := false, laid := [("unicode/utf8.acceptRanges", laid_unicode_utf8_acceptRanges), ("unicode/utf8.first", laid_unicode_utf8_first)], narrowed := true }
def LinesPiecesUptoSaid : Prop := linesPiecesUptoRow.holds Tryd.pinned (OpenSpec.upto linesPiecesSpec)

/-- 'counterpanelaw05.LinesTokens', WHERE WHAT IT READS IS OF BULK AT MOST 1048576: true; the input reads as it did. -/
def linesTokensUptoRow : OpenClaim := { program := "ytmhpnidhokcaeaadoor", sum := "3bba71914348497df21c21109b692f1ad2dc3f96b3582d8197389b58db77bf40", func := "counterpane/counterpanelaw05.LinesTokens", spec := "linesTokens", inPlace := ["internal/bytealg.CountString", "internal/bytealg.IndexByteString", "internal/bytealg.IndexString", "internal/abi.NoEscape"], unfollowed := true, recurses := true, named := ["unicode/utf8.first", "unicode/utf8.acceptRanges", "internal/bytealg.MaxLen"], apart := false, laid := [("unicode/utf8.acceptRanges", laid_unicode_utf8_acceptRanges), ("unicode/utf8.first", laid_unicode_utf8_first)], narrowed := true }
def LinesTokensUptoSaid : Prop := linesTokensUptoRow.holds Tryd.pinned (OpenSpec.upto linesTokensSpec)

/-- 'counterpanelaw05.LinesMany', WHERE WHAT IT READS IS OF BULK AT MOST 1048576: true; the input reads as it did. -/
def linesManyUptoRow : OpenClaim := { program := "ytmhpnidhokcaeaadoor", sum := "3bba71914348497df21c21109b692f1ad2dc3f96b3582d8197389b58db77bf40", func := "counterpane/counterpanelaw05.LinesMany", spec := "linesMany", inPlace := ["internal/bytealg.CountString", "internal/bytealg.IndexByteString", "internal/bytealg.IndexString", "internal/abi.NoEscape"], unfollowed := true, recurses := true, named := ["unicode/utf8.first", "unicode/utf8.acceptRanges", "internal/bytealg.MaxLen"], apart := false, laid := [("unicode/utf8.acceptRanges", laid_unicode_utf8_acceptRanges), ("unicode/utf8.first", laid_unicode_utf8_first)], narrowed := true }
def LinesManyUptoSaid : Prop := linesManyUptoRow.holds Tryd.pinned (OpenSpec.upto linesManySpec)

/-- 'counterpanelaw05.LinesOther', WHERE WHAT IT READS IS OF BULK AT MOST 1048576: true; the input reads as it did. -/
def linesOtherUptoRow : OpenClaim := { program := "ytmhpnidhokcaeaadoor", sum := "3bba71914348497df21c21109b692f1ad2dc3f96b3582d8197389b58db77bf40", func := "counterpane/counterpanelaw05.LinesOther", spec := "linesOther", inPlace := ["internal/bytealg.CountString", "internal/bytealg.IndexByteString", "internal/bytealg.IndexString", "internal/abi.NoEscape"], unfollowed := true, recurses := true, named := ["unicode/utf8.first", "unicode/utf8.acceptRanges", "internal/bytealg.MaxLen"], apart := false, laid := [("unicode/utf8.acceptRanges", laid_unicode_utf8_acceptRanges), ("unicode/utf8.first", laid_unicode_utf8_first)], narrowed := true }
def LinesOtherUptoSaid : Prop := linesOtherUptoRow.holds Tryd.pinned (OpenSpec.upto linesOtherSpec)

/-- 'counterpanelaw05.LinesTells', WHERE WHAT IT READS IS OF BULK AT MOST 1048576: true; the input reads as it did. -/
def linesTellsUptoRow : OpenClaim := { program := "ytmhpnidhokcaeaadoor", sum := "3bba71914348497df21c21109b692f1ad2dc3f96b3582d8197389b58db77bf40", func := "counterpane/counterpanelaw05.LinesTells", spec := "linesTells", inPlace := ["internal/bytealg.CountString", "internal/bytealg.IndexByteString", "internal/bytealg.IndexString", "internal/abi.NoEscape"], unfollowed := true, recurses := true, named := ["unicode/utf8.first", "unicode/utf8.acceptRanges", "internal/bytealg.MaxLen"], apart := false, laid := [("unicode/utf8.acceptRanges", laid_unicode_utf8_acceptRanges), ("unicode/utf8.first", laid_unicode_utf8_first)], narrowed := true }
def LinesTellsUptoSaid : Prop := linesTellsUptoRow.holds Tryd.pinned (OpenSpec.upto linesTellsSpec)

/-- 'counterpanelaw05.LinesBack', WHERE WHAT IT READS IS OF BULK AT MOST 1048576: true; the input reads as it did. -/
def linesBackUptoRow : OpenClaim := { program := "ytmhpnidhokcaeaadoor", sum := "3bba71914348497df21c21109b692f1ad2dc3f96b3582d8197389b58db77bf40", func := "counterpane/counterpanelaw05.LinesBack", spec := "linesBack", inPlace := ["internal/bytealg.CountString", "internal/bytealg.IndexByteString", "internal/bytealg.IndexString", "internal/abi.NoEscape"], unfollowed := true, recurses := true, named := ["unicode/utf8.first", "unicode/utf8.acceptRanges", "internal/bytealg.MaxLen"], apart := false, laid := [("unicode/utf8.acceptRanges", laid_unicode_utf8_acceptRanges), ("unicode/utf8.first", laid_unicode_utf8_first)], narrowed := true }
def LinesBackUptoSaid : Prop := linesBackUptoRow.holds Tryd.pinned (OpenSpec.upto linesBackSpec)

end Rows
end Go.Proofs.YtmhpnidhokcaeaaDoor
