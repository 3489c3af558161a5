/-
  No cell of these rows narrows 'for every input' (looked for: loops, veiled, ifaces, maps, wideKeys, modest, calm, conditions, laid).
  DERIVED. THE GIVEN ROWS OF THIS SEAT. 7 by the template 'for every input the law returns true; each argument reads behind the call as it read before'; 0 by the template 'total and deterministic' (their statements: YtbfpmlblnfablaaTotals.lean).
  GIVEN WITH THE SEED: the statements are not yours to turn. If you find one false, say at which input.
  Laid BY PROGRAM, IN A SANDBOX (cutbox-rows.mjs): the forced cells as the released guide's own fill.sh prints them over the translation 3ecaa40ffbb02700… (all of the seat's roots in one cut). By AI agents, Wed Nov 11 2026. No macro, syntax, notation, axiom, sorry.
-/
import Derived.Test.YtbfpmlblnfablaaChecked
import GoSem.Claim
import GoSem.ClaimJoined
import GoSem.ClaimMapViews
import Derived.JoinedTies
import Derived.KernelRfl
namespace Go.Proofs.Ytbfpmlblnfablaa
/- THE CELL 'sum', in the pinned program and in every row, IS THE sha256 OF THE DUMP (.gsa) THAT YtbfpmlblnfablaaProg.lean LOADS. Nothing in Lean hashes anything: it is a label: what it is worth is what the hold of that sum in a sandbox is worth. -/
noncomputable def Try.pinned : Pinned := { name := "ytbfpmlblnfablaa", sum := "3ecaa40ffbb02700e8e7ac8f2df5d7dec7dbf973b1e13fe31b11dcb911c4c9df", checked := Try.checked }
namespace Rows
def none {H : Type} : Left H := { results := [], args := [] }

/-- 'counterpanelaw01.DiskRenames': WHATEVER THE INPUT: true; the input reads as it did. -/
def diskRenamesSpec : ChangeSpec := { name := "diskRenames", fn := fun _ => fun
  | [d1, d2, d3, d4] => { results := [.lit (.bool true)], args := [d1, d2, d3, d4] }
  | _ => none }
def diskRenamesRow : OpenClaim := { program := "ytbfpmlblnfablaa", sum := "3ecaa40ffbb02700e8e7ac8f2df5d7dec7dbf973b1e13fe31b11dcb911c4c9df", func := "counterpane/counterpanelaw01.DiskRenames", spec := "diskRenames", inPlace := ["internal/bytealg.IndexByteString", "internal/bytealg.IndexString", "maps.clone"], unfollowed := true, recurses := true, named := ["internal/bytealg.MaxLen"], apart := false }
def DiskRenamesSaid : Prop := diskRenamesRow.holds Try.pinned (OpenSpec.ofChange diskRenamesSpec)

/-- ITS FALSE NEIGHBOUR: 'it returns false'. Refute it at one input. -/
def diskRenamesWrong : ChangeSpec := { name := "diskRenames", fn := fun _ => fun
  | [d1, d2, d3, d4] => { results := [.lit (.bool false)], args := [d1, d2, d3, d4] }
  | _ => none }
def DiskRenamesWrongFalsely : Prop := diskRenamesRow.holds Try.pinned (OpenSpec.ofChange diskRenamesWrong)

/-- 'counterpanelaw01.DiskRoom': WHATEVER THE INPUT: true; the input reads as it did. -/
def diskRoomSpec : ChangeSpec := { name := "diskRoom", fn := fun _ => fun
  | [d1, d2, d3, d4] => { results := [.lit (.bool true)], args := [d1, d2, d3, d4] }
  | _ => none }
def diskRoomRow : OpenClaim := { program := "ytbfpmlblnfablaa", sum := "3ecaa40ffbb02700e8e7ac8f2df5d7dec7dbf973b1e13fe31b11dcb911c4c9df", func := "counterpane/counterpanelaw01.DiskRoom", spec := "diskRoom", inPlace := ["internal/bytealg.IndexByteString", "internal/bytealg.IndexString", "maps.clone"], unfollowed := true, recurses := true, named := ["internal/bytealg.MaxLen"], apart := false }
def DiskRoomSaid : Prop := diskRoomRow.holds Try.pinned (OpenSpec.ofChange diskRoomSpec)

/-- ITS FALSE NEIGHBOUR: 'it returns false'. Refute it at one input. -/
def diskRoomWrong : ChangeSpec := { name := "diskRoom", fn := fun _ => fun
  | [d1, d2, d3, d4] => { results := [.lit (.bool false)], args := [d1, d2, d3, d4] }
  | _ => none }
def DiskRoomWrongFalsely : Prop := diskRoomRow.holds Try.pinned (OpenSpec.ofChange diskRoomWrong)

/-- 'counterpanelaw01.DiskFuse': WHATEVER THE INPUT: true; the input reads as it did. -/
def diskFuseSpec : ChangeSpec := { name := "diskFuse", fn := fun _ => fun
  | [d1, d2, d3] => { results := [.lit (.bool true)], args := [d1, d2, d3] }
  | _ => none }
def diskFuseRow : OpenClaim := { program := "ytbfpmlblnfablaa", sum := "3ecaa40ffbb02700e8e7ac8f2df5d7dec7dbf973b1e13fe31b11dcb911c4c9df", func := "counterpane/counterpanelaw01.DiskFuse", spec := "diskFuse", inPlace := ["internal/bytealg.IndexByteString", "internal/bytealg.IndexString", "maps.clone"], unfollowed := true, recurses := true, named := ["internal/bytealg.MaxLen"], apart := false }
def DiskFuseSaid : Prop := diskFuseRow.holds Try.pinned (OpenSpec.ofChange diskFuseSpec)

/-- ITS FALSE NEIGHBOUR: 'it returns false'. Refute it at one input. -/
def diskFuseWrong : ChangeSpec := { name := "diskFuse", fn := fun _ => fun
  | [d1, d2, d3] => { results := [.lit (.bool false)], args := [d1, d2, d3] }
  | _ => none }
def DiskFuseWrongFalsely : Prop := diskFuseRow.holds Try.pinned (OpenSpec.ofChange diskFuseWrong)

/-- 'counterpanelaw01.DiskStays': WHATEVER THE INPUT: true; the input reads as it did. -/
def diskStaysSpec : ChangeSpec := { name := "diskStays", fn := fun _ => fun
  | [d1, d2, d3] => { results := [.lit (.bool true)], args := [d1, d2, d3] }
  | _ => none }
def diskStaysRow : OpenClaim := { program := "ytbfpmlblnfablaa", sum := "3ecaa40ffbb02700e8e7ac8f2df5d7dec7dbf973b1e13fe31b11dcb911c4c9df", func := "counterpane/counterpanelaw01.DiskStays", spec := "diskStays", inPlace := ["internal/bytealg.IndexByteString", "internal/bytealg.IndexString", "maps.clone"], unfollowed := true, recurses := true, named := ["internal/bytealg.MaxLen"], apart := false }
def DiskStaysSaid : Prop := diskStaysRow.holds Try.pinned (OpenSpec.ofChange diskStaysSpec)

/-- ITS FALSE NEIGHBOUR: 'it returns false'. Refute it at one input. -/
def diskStaysWrong : ChangeSpec := { name := "diskStays", fn := fun _ => fun
  | [d1, d2, d3] => { results := [.lit (.bool false)], args := [d1, d2, d3] }
  | _ => none }
def DiskStaysWrongFalsely : Prop := diskStaysRow.holds Try.pinned (OpenSpec.ofChange diskStaysWrong)

/-- 'counterpanelaw01.DiskRefused': WHATEVER THE INPUT: true; the input reads as it did. -/
def diskRefusedSpec : ChangeSpec := { name := "diskRefused", fn := fun _ => fun
  | [d1, d2] => { results := [.lit (.bool true)], args := [d1, d2] }
  | _ => none }
def diskRefusedRow : OpenClaim := { program := "ytbfpmlblnfablaa", sum := "3ecaa40ffbb02700e8e7ac8f2df5d7dec7dbf973b1e13fe31b11dcb911c4c9df", func := "counterpane/counterpanelaw01.DiskRefused", spec := "diskRefused", inPlace := ["internal/bytealg.IndexByteString", "internal/bytealg.IndexString", "maps.clone"], unfollowed := true, recurses := true, named := ["internal/bytealg.MaxLen"], apart := false }
def DiskRefusedSaid : Prop := diskRefusedRow.holds Try.pinned (OpenSpec.ofChange diskRefusedSpec)

/-- ITS FALSE NEIGHBOUR: 'it returns false'. Refute it at one input. -/
def diskRefusedWrong : ChangeSpec := { name := "diskRefused", fn := fun _ => fun
  | [d1, d2] => { results := [.lit (.bool false)], args := [d1, d2] }
  | _ => none }
def DiskRefusedWrongFalsely : Prop := diskRefusedRow.holds Try.pinned (OpenSpec.ofChange diskRefusedWrong)

/-- 'counterpanelaw01.DiskKept': WHATEVER THE INPUT: true; the input reads as it did. -/
def diskKeptSpec : ChangeSpec := { name := "diskKept", fn := fun _ => fun
  | [d1, d2, d3] => { results := [.lit (.bool true)], args := [d1, d2, d3] }
  | _ => none }
def diskKeptRow : OpenClaim := { program := "ytbfpmlblnfablaa", sum := "3ecaa40ffbb02700e8e7ac8f2df5d7dec7dbf973b1e13fe31b11dcb911c4c9df", func := "counterpane/counterpanelaw01.DiskKept", spec := "diskKept", inPlace := ["internal/bytealg.IndexByteString", "internal/bytealg.IndexString", "maps.clone"], unfollowed := true, recurses := true, named := ["internal/bytealg.MaxLen"], apart := false }
def DiskKeptSaid : Prop := diskKeptRow.holds Try.pinned (OpenSpec.ofChange diskKeptSpec)

/-- ITS FALSE NEIGHBOUR: 'it returns false'. Refute it at one input. -/
def diskKeptWrong : ChangeSpec := { name := "diskKept", fn := fun _ => fun
  | [d1, d2, d3] => { results := [.lit (.bool false)], args := [d1, d2, d3] }
  | _ => none }
def DiskKeptWrongFalsely : Prop := diskKeptRow.holds Try.pinned (OpenSpec.ofChange diskKeptWrong)

/-- 'counterpanelaw01.DiskPlays': WHATEVER THE INPUT: true; the input reads as it did. -/
def diskPlaysSpec : ChangeSpec := { name := "diskPlays", fn := fun _ => fun
  | [d1, d2, d3] => { results := [.lit (.bool true)], args := [d1, d2, d3] }
  | _ => none }
def diskPlaysRow : OpenClaim := { program := "ytbfpmlblnfablaa", sum := "3ecaa40ffbb02700e8e7ac8f2df5d7dec7dbf973b1e13fe31b11dcb911c4c9df", func := "counterpane/counterpanelaw01.DiskPlays", spec := "diskPlays", inPlace := ["internal/bytealg.IndexByteString", "internal/bytealg.IndexString", "maps.clone"], unfollowed := true, recurses := true, named := ["internal/bytealg.MaxLen"], apart := false }
def DiskPlaysSaid : Prop := diskPlaysRow.holds Try.pinned (OpenSpec.ofChange diskPlaysSpec)

/-- ITS FALSE NEIGHBOUR: 'it returns false'. Refute it at one input. -/
def diskPlaysWrong : ChangeSpec := { name := "diskPlays", fn := fun _ => fun
  | [d1, d2, d3] => { results := [.lit (.bool false)], args := [d1, d2, d3] }
  | _ => none }
def DiskPlaysWrongFalsely : Prop := diskPlaysRow.holds Try.pinned (OpenSpec.ofChange diskPlaysWrong)

/- THE SECOND FORM. 'bulk': how many values and letters a reading holds, each counted each time it is reached (what is shared counts as often as it is met; a slice's spare places count too). A statement '..UptoSaid' is the law's where the arguments, and the package variables that the reading takes, are together of bulk at most 1048576: NARROWER than '..Said'. Prove '..Said' where nothing that the law and all that it calls make is longer than what came in: it says more and counts as full. Else prove '..UptoSaid'. A law counts once. -/
mutual
def uptoBulk {H : Type} : DataW H → Nat
  | .lit (.string bytes) => bytes.length + 1
  | .lit _ => 1
  | .nil => 1
  | .ptr d => uptoBulk d + 1
  | .slice elems spare => uptoBulkAll elems + uptoBulkAll spare + 1
  | .agg parts => uptoBulkAll parts + 1
  | .iface _ d => uptoBulk d + 1
  | .map entries => uptoBulkEntries entries + 1
  | .held _ => 1
def uptoBulkAll {H : Type} : List (DataW H) → Nat
  | [] => 0
  | d :: r => uptoBulk d + uptoBulkAll r
def uptoBulkEntries {H : Type} : List (Lit × DataW H) → Nat
  | [] => 0
  | x :: r => uptoBulkEntry x + uptoBulkEntries r
def uptoBulkEntry {H : Type} : Lit × DataW H → Nat
  | (.string bytes, d) => bytes.length + uptoBulk d + 1
  | (_, d) => uptoBulk d + 1
 end
def uptoSmall : (H : Type) → List (DataW H) → Bool := fun _ ds => decide (uptoBulkAll ds ≤ 1048576)
def OpenSpec.upto (s : _root_.Go.ChangeSpec) : _root_.Go.OpenSpec := { _root_.Go.OpenSpec.ofChange s with cond := some uptoSmall }

/-- 'counterpanelaw01.DiskRenames', WHERE WHAT IT READS IS OF BULK AT MOST 1048576: true; the input reads as it did. -/
def diskRenamesUptoRow : OpenClaim := { program := "ytbfpmlblnfablaa", sum := "3ecaa40ffbb02700e8e7ac8f2df5d7dec7dbf973b1e13fe31b11dcb911c4c9df", func := "counterpane/counterpanelaw01.DiskRenames", spec := "diskRenames", inPlace := ["internal/bytealg.IndexByteString", "internal/bytealg.IndexString", "maps.clone"], unfollowed := true, recurses := true, named := ["internal/bytealg.MaxLen"], apart := false, narrowed := true }
def DiskRenamesUptoSaid : Prop := diskRenamesUptoRow.holds Try.pinned (OpenSpec.upto diskRenamesSpec)

/-- 'counterpanelaw01.DiskRoom', WHERE WHAT IT READS IS OF BULK AT MOST 1048576: true; the input reads as it did. -/
def diskRoomUptoRow : OpenClaim := { program := "ytbfpmlblnfablaa", sum := "3ecaa40ffbb02700e8e7ac8f2df5d7dec7dbf973b1e13fe31b11dcb911c4c9df", func := "counterpane/counterpanelaw01.DiskRoom", spec := "diskRoom", inPlace := ["internal/bytealg.IndexByteString", "internal/bytealg.IndexString", "maps.clone"], unfollowed := true, recurses := true, named := ["internal/bytealg.MaxLen"], apart := false, narrowed := true }
def DiskRoomUptoSaid : Prop := diskRoomUptoRow.holds Try.pinned (OpenSpec.upto diskRoomSpec)

/-- 'counterpanelaw01.DiskFuse', WHERE WHAT IT READS IS OF BULK AT MOST 1048576: true; the input reads as it did. -/
def diskFuseUptoRow : OpenClaim := { program := "ytbfpmlblnfablaa", sum := "3ecaa40ffbb02700e8e7ac8f2df5d7dec7dbf973b1e13fe31b11dcb911c4c9df", func := "counterpane/counterpanelaw01.DiskFuse", spec := "diskFuse", inPlace := ["internal/bytealg.IndexByteString", "internal/bytealg.IndexString", "maps.clone"], unfollowed := true, recurses := true, named := ["internal/bytealg.MaxLen"], apart := false, narrowed := true }
def DiskFuseUptoSaid : Prop := diskFuseUptoRow.holds Try.pinned (OpenSpec.upto diskFuseSpec)

/-- 'counterpanelaw01.DiskStays', WHERE WHAT IT READS IS OF BULK AT MOST 1048576: true; the input reads as it did. -/
def diskStaysUptoRow : OpenClaim := { program := "ytbfpmlblnfablaa", sum := "3ecaa40ffbb02700e8e7ac8f2df5d7dec7dbf973b1e13fe31b11dcb911c4c9df", func := "counterpane/counterpanelaw01.DiskStays", spec := "diskStays", inPlace := ["internal/bytealg.IndexByteString", "internal/bytealg.IndexString", "maps.clone"], unfollowed := true, recurses := true, named := ["internal/bytealg.MaxLen"], apart := false, narrowed := true }
def DiskStaysUptoSaid : Prop := diskStaysUptoRow.holds Try.pinned (OpenSpec.upto diskStaysSpec)

/-- 'counterpanelaw01.DiskRefused', WHERE WHAT IT READS IS OF BULK AT MOST 1048576: true; the input reads as it did. -/
def diskRefusedUptoRow : OpenClaim := { program := "ytbfpmlblnfablaa", sum := "3ecaa40ffbb02700e8e7ac8f2df5d7dec7dbf973b1e13fe31b11dcb911c4c9df", func := "counterpane/counterpanelaw01.DiskRefused", spec := "diskRefused", inPlace := ["internal/bytealg.IndexByteString", "internal/bytealg.IndexString", "maps.clone"], unfollowed := true, recurses := true, named := ["internal/bytealg.MaxLen"], apart := false, narrowed := true }
def DiskRefusedUptoSaid : Prop := diskRefusedUptoRow.holds Try.pinned (OpenSpec.upto diskRefusedSpec)

/-- 'counterpanelaw01.DiskKept', WHERE WHAT IT READS IS OF BULK AT MOST 1048576: true; the input reads as it did. -/
def diskKeptUptoRow : OpenClaim := { program := "ytbfpmlblnfablaa", sum := "3ecaa40ffbb02700e8e7ac8f2df5d7dec7dbf973b1e13fe31b11dcb911c4c9df", func := "counterpane/counterpanelaw01.DiskKept", spec := "diskKept", inPlace := ["internal/bytealg.IndexByteString", "internal/bytealg.IndexString", "maps.clone"], unfollowed := true, recurses := true, named := ["internal/bytealg.MaxLen"], apart := false, narrowed := true }
def DiskKeptUptoSaid : Prop := diskKeptUptoRow.holds Try.pinned (OpenSpec.upto diskKeptSpec)

/-- 'counterpanelaw01.DiskPlays', WHERE WHAT IT READS IS OF BULK AT MOST 1048576: true; the input reads as it did. -/
def diskPlaysUptoRow : OpenClaim := { program := "ytbfpmlblnfablaa", sum := "3ecaa40ffbb02700e8e7ac8f2df5d7dec7dbf973b1e13fe31b11dcb911c4c9df", func := "counterpane/counterpanelaw01.DiskPlays", spec := "diskPlays", inPlace := ["internal/bytealg.IndexByteString", "internal/bytealg.IndexString", "maps.clone"], unfollowed := true, recurses := true, named := ["internal/bytealg.MaxLen"], apart := false, narrowed := true }
def DiskPlaysUptoSaid : Prop := diskPlaysUptoRow.holds Try.pinned (OpenSpec.upto diskPlaysSpec)

end Rows
end Go.Proofs.Ytbfpmlblnfablaa
