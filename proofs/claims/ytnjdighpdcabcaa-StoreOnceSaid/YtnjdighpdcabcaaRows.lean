/-
  No cell of these rows narrows 'for every input' (looked for: loops, veiled, ifaces, maps, wideKeys, modest, calm, conditions, laid).
  DERIVED. THE GIVEN ROWS OF THIS SEAT. 3 by the template 'for every input the law returns true; each argument reads behind the call as it read before'; 0 by the template 'total and deterministic' (their statements: YtnjdighpdcabcaaTotals.lean).
  GIVEN WITH THE SEED: the statements are not yours to turn. If you find one false, say at which input.
  Laid BY PROGRAM, IN A SANDBOX (cutbox-rows.mjs): the forced cells as the released guide's own fill.sh prints them over the translation 27f5346331765dfd… (all of the seat's roots in one cut). By AI agents, Wed Nov 11 2026. No macro, syntax, notation, axiom, sorry.
-/
import Derived.Test.YtnjdighpdcabcaaChecked
import GoSem.Claim
import GoSem.ClaimJoined
import GoSem.ClaimMapViews
import Derived.JoinedTies
import Derived.KernelRfl
namespace Go.Proofs.Ytnjdighpdcabcaa
/- THE CELL 'sum', in the pinned program and in every row, IS THE sha256 OF THE DUMP (.gsa) THAT YtnjdighpdcabcaaProg.lean LOADS. Nothing in Lean hashes anything: it is a label: what it is worth is what the hold of that sum in a sandbox is worth. -/
noncomputable def Try.pinned : Pinned := { name := "ytnjdighpdcabcaa", sum := "27f5346331765dfdb5460b7dc1f3a9e1a730dfbf7e18820deb8c62963d737102", checked := Try.checked }
namespace Rows
def none {H : Type} : Left H := { results := [], args := [] }

/-- 'counterpanelaw03.StoreRoots': WHATEVER THE INPUT: true; the input reads as it did. -/
def storeRootsSpec : ChangeSpec := { name := "storeRoots", fn := fun _ => fun
  | [d] => { results := [.lit (.bool true)], args := [d] }
  | _ => none }
def storeRootsRow : OpenClaim := { program := "ytnjdighpdcabcaa", sum := "27f5346331765dfdb5460b7dc1f3a9e1a730dfbf7e18820deb8c62963d737102", func := "counterpane/counterpanelaw03.StoreRoots", spec := "storeRoots", inPlace := ["internal/abi.NoEscape", "internal/bytealg.IndexByteString", "internal/bytealg.IndexString", "maps.clone"], unfollowed := true, recurses := true, named := ["internal/bytealg.MaxLen"], apart := false }
def StoreRootsSaid : Prop := storeRootsRow.holds Try.pinned (OpenSpec.ofChange storeRootsSpec)

/-- ITS FALSE NEIGHBOUR: 'it returns false'. Refute it at one input. -/
def storeRootsWrong : ChangeSpec := { name := "storeRoots", fn := fun _ => fun
  | [d] => { results := [.lit (.bool false)], args := [d] }
  | _ => none }
def StoreRootsWrongFalsely : Prop := storeRootsRow.holds Try.pinned (OpenSpec.ofChange storeRootsWrong)

/-- 'counterpanelaw03.StoreOnce': WHATEVER THE INPUT: true; the input reads as it did. -/
def storeOnceSpec : ChangeSpec := { name := "storeOnce", fn := fun _ => fun
  | [d1, d2, d3, d4, d5] => { results := [.lit (.bool true)], args := [d1, d2, d3, d4, d5] }
  | _ => none }
def storeOnceRow : OpenClaim := { program := "ytnjdighpdcabcaa", sum := "27f5346331765dfdb5460b7dc1f3a9e1a730dfbf7e18820deb8c62963d737102", func := "counterpane/counterpanelaw03.StoreOnce", spec := "storeOnce", inPlace := ["internal/abi.NoEscape", "internal/bytealg.IndexByteString", "internal/bytealg.IndexString", "maps.clone"], unfollowed := true, recurses := true, named := ["internal/bytealg.MaxLen"], apart := false }
def StoreOnceSaid : Prop := storeOnceRow.holds Try.pinned (OpenSpec.ofChange storeOnceSpec)

/-- ITS FALSE NEIGHBOUR: 'it returns false'. Refute it at one input. -/
def storeOnceWrong : ChangeSpec := { name := "storeOnce", fn := fun _ => fun
  | [d1, d2, d3, d4, d5] => { results := [.lit (.bool false)], args := [d1, d2, d3, d4, d5] }
  | _ => none }
def StoreOnceWrongFalsely : Prop := storeOnceRow.holds Try.pinned (OpenSpec.ofChange storeOnceWrong)

/-- 'counterpanelaw03.StoreClash': WHATEVER THE INPUT: true; the input reads as it did. -/
def storeClashSpec : ChangeSpec := { name := "storeClash", fn := fun _ => fun
  | [d1, d2] => { results := [.lit (.bool true)], args := [d1, d2] }
  | _ => none }
def storeClashRow : OpenClaim := { program := "ytnjdighpdcabcaa", sum := "27f5346331765dfdb5460b7dc1f3a9e1a730dfbf7e18820deb8c62963d737102", func := "counterpane/counterpanelaw03.StoreClash", spec := "storeClash", inPlace := ["internal/abi.NoEscape", "internal/bytealg.IndexByteString", "internal/bytealg.IndexString", "maps.clone"], unfollowed := true, recurses := true, named := ["internal/bytealg.MaxLen"], apart := false }
def StoreClashSaid : Prop := storeClashRow.holds Try.pinned (OpenSpec.ofChange storeClashSpec)

/-- ITS FALSE NEIGHBOUR: 'it returns false'. Refute it at one input. -/
def storeClashWrong : ChangeSpec := { name := "storeClash", fn := fun _ => fun
  | [d1, d2] => { results := [.lit (.bool false)], args := [d1, d2] }
  | _ => none }
def StoreClashWrongFalsely : Prop := storeClashRow.holds Try.pinned (OpenSpec.ofChange storeClashWrong)

/- THE SECOND FORM. 'bulk': how many values and letters a reading holds, each counted each time it is reached (what is shared counts as often as it is met; a slice's spare places count too). A statement '..UptoSaid' is the law's where the arguments, and the package variables that the reading takes, are together of bulk at most 1048576: NARROWER than '..Said'. Prove '..Said' where nothing that the law and all that it calls make is longer than what came in: it says more and counts as full. Else prove '..UptoSaid'. A law counts once. -/
mutual
def uptoBulk {H : Type} : DataW H → Nat
  | .lit (.string bytes) => bytes.length + 1
  | .lit _ => 1
  | .nil => 1
  | .ptr d => uptoBulk d + 1
  | .slice elems spare => uptoBulkAll elems + uptoBulkAll spare + 1
  | .agg parts => uptoBulkAll parts + 1
  | .iface _ d => uptoBulk d + 1
  | .map entries => uptoBulkEntries entries + 1
  | .held _ => 1
def uptoBulkAll {H : Type} : List (DataW H) → Nat
  | [] => 0
  | d :: r => uptoBulk d + uptoBulkAll r
def uptoBulkEntries {H : Type} : List (Lit × DataW H) → Nat
  | [] => 0
  | x :: r => uptoBulkEntry x + uptoBulkEntries r
def uptoBulkEntry {H : Type} : Lit × DataW H → Nat
  | (.string bytes, d) => bytes.length + uptoBulk d + 1
  | (_, d) => uptoBulk d + 1
 end
def uptoSmall : (H : Type) → List (DataW H) → Bool := fun _ ds => decide (uptoBulkAll ds ≤ 1048576)
def OpenSpec.upto (s : _root_.Go.ChangeSpec) : _root_.Go.OpenSpec := { _root_.Go.OpenSpec.ofChange s with cond := some uptoSmall }

/-- 'counterpanelaw03.StoreRoots', WHERE WHAT IT READS IS OF BULK AT MOST 1048576: true; the input reads as it did. -/
def storeRootsUptoRow : OpenClaim := { program := "ytnjdighpdcabcaa", sum := "27f5346331765dfdb5460b7dc1f3a9e1a730dfbf7e18820deb8c62963d737102", func := "counterpane/counterpanelaw03.StoreRoots", spec := "storeRoots", inPlace := ["internal/abi.NoEscape", "internal/bytealg.IndexByteString", "internal/bytealg.IndexString", "maps.clone"], unfollowed := true, recurses := true, named := ["internal/bytealg.MaxLen"], apart := false, narrowed := true }
def StoreRootsUptoSaid : Prop := storeRootsUptoRow.holds Try.pinned (OpenSpec.upto storeRootsSpec)

/-- 'counterpanelaw03.StoreOnce', WHERE WHAT IT READS IS OF BULK AT MOST 1048576: true; the input reads as it did. -/
def storeOnceUptoRow : OpenClaim := { program := "ytnjdighpdcabcaa", sum := "27f5346331765dfdb5460b7dc1f3a9e1a730dfbf7e18820deb8c62963d737102", func := "counterpane/counterpanelaw03.StoreOnce", spec := "storeOnce", inPlace := ["internal/abi.NoEscape", "internal/bytealg.IndexByteString", "internal/bytealg.IndexString", "maps.clone"], unfollowed := true, recurses := true, named := ["internal/bytealg.MaxLen"], apart := false, narrowed := true }
def StoreOnceUptoSaid : Prop := storeOnceUptoRow.holds Try.pinned (OpenSpec.upto storeOnceSpec)

/-- 'counterpanelaw03.StoreClash', WHERE WHAT IT READS IS OF BULK AT MOST 1048576: true; the input reads as it did. -/
def storeClashUptoRow : OpenClaim := { program := "ytnjdighpdcabcaa", sum := "27f5346331765dfdb5460b7dc1f3a9e1a730dfbf7e18820deb8c62963d737102", func := "counterpane/counterpanelaw03.StoreClash", spec := "storeClash", inPlace := ["internal/abi.NoEscape", "internal/bytealg.IndexByteString", "internal/bytealg.IndexString", "maps.clone"], unfollowed := true, recurses := true, named := ["internal/bytealg.MaxLen"], apart := false, narrowed := true }
def StoreClashUptoSaid : Prop := storeClashUptoRow.holds Try.pinned (OpenSpec.upto storeClashSpec)

end Rows
end Go.Proofs.Ytnjdighpdcabcaa
