-- Written by a program of this session (handprint.py) out of the translation: Go functions as Lean functions, and that the Go code comes to their answers; the row of the law.
import Derived.Test.YtcjcbnhncfohmaaProg
import Derived.Below
import Derived.Deep.Draws
import Derived.Deep.AppendLies
import Derived.Maps.AppendAt
import Derived.OwnWalk
import Derived.Laws.BytesArg
import Derived.Laws.MakeOwn
import Derived.Laws.OwnMore
import Derived.Deep.OwnRows
import Derived.Tactics
import Derived.Lib.ConvBytes
import Derived.Laws.Slices
import Derived.WalkKit
import Derived.KernelRfl
import Derived.RowKit3
import Derived.Deep.LoopGhost
import Derived.Deep.QuietTactic
import Derived.BigQuiet
import Derived.WideLaws
import Derived.Deep.DeepCutAuto
import Derived.Deep.CutBlock
import Derived.Deep.RegionHeld3
import Derived.Laws.Rows
import Derived.Lib.AppendStr
import Derived.ArgAppend
import Derived.Laws.IdiomCopy
import Derived.OrdersHeld
import Derived.Laws.BitsLemmas
import Derived.RowKit
import Derived.Test.YtcjcbnhncfohmaaHand
import Derived.Test.YtcjcbnhncfohmaaWWords
import Derived.Test.YtcjcbnhncfohmaaWLast
import Derived.Test.YtcjcbnhncfohmaaWTab
import Derived.Test.YtcjcbnhncfohmaaWFour
import Derived.Test.YtcjcbnhncfohmaaWQPut
import Derived.Test.YtcjcbnhncfohmaaWApart
import Derived.Test.YtcjcbnhncfohmaaWArr
import Derived.Test.YtcjcbnhncfohmaaWZeros
import Derived.Test.YtcjcbnhncfohmaaWFoot
import Derived.Test.YtcjcbnhncfohmaaWKept
import Derived.Test.YtcjcbnhncfohmaaWShare
import Derived.Test.YtcjcbnhncfohmaaWN
import Derived.Test.YtcjcbnhncfohmaaWFootNe
import Derived.Test.YtcjcbnhncfohmaaWAt
import Derived.Test.YtcjcbnhncfohmaaWEqStruct
import Derived.Test.YtcjcbnhncfohmaaWRepsOne
import Derived.Test.YtcjcbnhncfohmaaWInv
import Derived.Test.YtcjcbnhncfohmaaWInvWords
import Derived.Test.YtcjcbnhncfohmaaWGuard
import Derived.Test.YtcjcbnhncfohmaaWNEv
import Derived.Test.YtcjcbnhncfohmaaWMore
namespace Go.Proofs.Ytcjcbnhncfohmaa.QAluShifts
open Go.RowKit Go.Proofs.YtcjcbnhncfohmaaW.PrintWords Go.Proofs.YtcjcbnhncfohmaaW.PrintLast Go.Proofs.YtcjcbnhncfohmaaW.PrintMore
attribute [local go_sem] max2_int min2_int max_two min_two max_three min_three max_four min_four   -- for this text's walks alone
set_option linter.unusedVariables false
set_option linter.unusedSimpArgs false



def errW : Option Int → Value
  | none => .nilIface
  | some c => .iface 0 (.int .i64 c)
theorem errW_none : errW none = .nilIface := rfl
theorem errW_some (c : Int) : errW (some c) = .iface 0 (.int .i64 c) := rfl

-- the values' own types

end Go.Proofs.Ytcjcbnhncfohmaa.QAluShifts
