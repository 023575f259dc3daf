/- Written by a program of this session (ownprint.py) out of the translation's print, some proofs replaced: Go functions as Lean functions, and that the Go code comes to their answers. -/
import Derived.Test.YtldpmehcpiamlaaProg
import Derived.Below
import Derived.Deep.Draws
import Derived.Deep.AppendLies
import Derived.Maps.AppendAt
import Derived.OwnWalk
import Derived.Laws.BytesArg
import Derived.Laws.MakeOwn
import Derived.Laws.OwnMore
import Derived.Deep.OwnRows
import Derived.Tactics
import Derived.Lib.ConvBytes
import Derived.Laws.Slices
import Derived.WalkKit
import Derived.KernelRfl
import Derived.RowKit3
import Derived.Deep.LoopGhost
import Derived.Deep.QuietTactic
import Derived.BigQuiet
import Derived.WideLaws
import Derived.Deep.DeepCutAuto
import Derived.Deep.CutBlock
import Derived.Deep.RegionHeld3
import Derived.Laws.Rows
import Derived.Lib.AppendStr
import Derived.ArgAppend
import Derived.Laws.IdiomCopy
import Derived.OrdersHeld
import Derived.Laws.BitsLemmas
import Derived.RowKit
import Derived.Test.YtldpmehcpiamlaaWWords
import Derived.Test.YtldpmehcpiamlaaWLast
import Derived.Test.YtldpmehcpiamlaaWTab
import Derived.Test.YtldpmehcpiamlaaWFour
import Derived.Test.YtldpmehcpiamlaaWQPut
import Derived.Test.YtldpmehcpiamlaaWApart
import Derived.Test.YtldpmehcpiamlaaWArr
import Derived.Test.YtldpmehcpiamlaaWZeros
import Derived.Test.YtldpmehcpiamlaaWFoot
import Derived.Test.YtldpmehcpiamlaaWKept
import Derived.Test.YtldpmehcpiamlaaWShare
import Derived.Test.YtldpmehcpiamlaaWN
import Derived.Test.YtldpmehcpiamlaaWFootNe
import Derived.Test.YtldpmehcpiamlaaWAt
import Derived.Test.YtldpmehcpiamlaaWEqStruct
import Derived.Test.YtldpmehcpiamlaaWRepsOne
import Derived.Test.YtldpmehcpiamlaaWInv
import Derived.Test.YtldpmehcpiamlaaWInvWords
import Derived.Test.YtldpmehcpiamlaaWGuard
import Derived.Test.YtldpmehcpiamlaaWNEv
import Derived.Test.YtldpmehcpiamlaaWMore
namespace Go.Proofs.Ytldpmehcpiamlaa.PBitsRows
open Go.RowKit Go.Proofs.YtldpmehcpiamlaaW.PrintWords Go.Proofs.YtldpmehcpiamlaaW.PrintLast Go.Proofs.YtldpmehcpiamlaaW.PrintMore
attribute [local go_sem] max2_int min2_int max_two min_two max_three min_three max_four min_four   -- for this text's walks alone
set_option linter.unusedVariables false
set_option linter.unusedSimpArgs false



def errW : Option Int → Value
  | none => .nilIface
  | some c => .iface 0 (.int .i64 c)
theorem errW_none : errW none = .nilIface := rfl
theorem errW_some (c : Int) : errW (some c) = .iface 0 (.int .i64 c) := rfl

theorem info5 : (Try.prog.info? 5).map (fun i => (i.zero, i.size, i.bytes)) = some (some (.int .u8 0), 1, 1) := by kernel_rfl
-- the values' own types

end Go.Proofs.Ytldpmehcpiamlaa.PBitsRows
