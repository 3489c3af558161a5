-- PRINTED BY print.sh 35421559b90ae4d0a3588c463048766b98c2df88dd9212a6774a882060cdf62d: not written by this session
import Derived.Test.YtnjdighpdcabcaaProg
import Derived.Below
import Derived.Deep.Draws
import Derived.Deep.AppendLies
import Derived.Maps.AppendAt
import Derived.OwnWalk
import Derived.Laws.BytesArg
import Derived.Laws.MakeOwn
import Derived.Laws.OwnMore
import Derived.Deep.OwnRows
import Derived.Tactics
import Derived.Lib.ConvBytes
import Derived.Laws.Slices
import Derived.WalkKit
import Derived.KernelRfl
import Derived.RowKit3
import Derived.Deep.LoopGhost
import Derived.Deep.QuietTactic
import Derived.BigQuiet
import Derived.WideLaws
import Derived.Deep.DeepCutAuto
import Derived.Deep.CutBlock
import Derived.Deep.RegionHeld3
import Derived.Laws.Rows
import Derived.Lib.AppendStr
import Derived.ArgAppend
import Derived.Laws.IdiomCopy
import Derived.OrdersHeld
import Derived.Laws.BitsLemmas
import Derived.RowKit
import Derived.Test.YtnjdighpdcabcaaWWords
import Derived.Test.YtnjdighpdcabcaaWLast
import Derived.Test.YtnjdighpdcabcaaWTab
import Derived.Test.YtnjdighpdcabcaaWFour
import Derived.Test.YtnjdighpdcabcaaWQPut
import Derived.Test.YtnjdighpdcabcaaWApart
import Derived.Test.YtnjdighpdcabcaaWArr
import Derived.Test.YtnjdighpdcabcaaWZeros
import Derived.Test.YtnjdighpdcabcaaWFoot
import Derived.Test.YtnjdighpdcabcaaWKept
import Derived.Test.YtnjdighpdcabcaaWShare
import Derived.Test.YtnjdighpdcabcaaWN
import Derived.Test.YtnjdighpdcabcaaWFootNe
import Derived.Test.YtnjdighpdcabcaaWAt
import Derived.Test.YtnjdighpdcabcaaWEqStruct
import Derived.Test.YtnjdighpdcabcaaWRepsOne
import Derived.Test.YtnjdighpdcabcaaWInv
import Derived.Test.YtnjdighpdcabcaaWInvWords
import Derived.Test.YtnjdighpdcabcaaWGuard
import Derived.Test.YtnjdighpdcabcaaWNEv
import Derived.Test.YtnjdighpdcabcaaWMore
namespace Go.Proofs.Ytnjdighpdcabcaa.PStoreClash
open Go.RowKit Go.Proofs.YtnjdighpdcabcaaW.PrintWords Go.Proofs.YtnjdighpdcabcaaW.PrintLast Go.Proofs.YtnjdighpdcabcaaW.PrintMore
attribute [local go_sem] max2_int min2_int max_two min_two max_three min_three max_four min_four   -- for this text's walks alone
set_option linter.unusedVariables false
set_option linter.unusedSimpArgs false



def errW : Option Int → Value
  | none => .nilIface
  | some c => .iface 0 (.int .i64 c)
theorem errW_none : errW none = .nilIface := rfl
theorem errW_some (c : Int) : errW (some c) = .iface 0 (.int .i64 c) := rfl

theorem info5 : (Try.prog.info? 5).map (fun i => (i.zero, i.size, i.bytes)) = some (some (.int .u8 0), 1, 1) := by kernel_rfl
theorem info84 : (Try.prog.info? 84).map (fun i => (i.zero, i.size, i.bytes)) = some (some (.int .u32 0), 1, 4) := by kernel_rfl
-- the values' own types

end Go.Proofs.Ytnjdighpdcabcaa.PStoreClash
