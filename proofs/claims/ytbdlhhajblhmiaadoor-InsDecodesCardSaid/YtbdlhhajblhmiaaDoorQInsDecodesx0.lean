-- Written by a program of this session (handprint.py) out of the translation: Go functions as Lean functions, and that the Go code comes to their answers; the row of the law.
import Derived.Test.YtbdlhhajblhmiaaDoorProg
import Derived.Below
import Derived.Deep.Draws
import Derived.Deep.AppendLies
import Derived.Maps.AppendAt
import Derived.OwnWalk
import Derived.Laws.BytesArg
import Derived.Laws.MakeOwn
import Derived.Laws.OwnMore
import Derived.Deep.OwnRows
import Derived.Tactics
import Derived.Lib.ConvBytes
import Derived.Laws.Slices
import Derived.WalkKit
import Derived.KernelRfl
import Derived.RowKit3
import Derived.Deep.LoopGhost
import Derived.Deep.QuietTactic
import Derived.BigQuiet
import Derived.WideLaws
import Derived.Deep.DeepCutAuto
import Derived.Deep.CutBlock
import Derived.Deep.RegionHeld3
import Derived.Laws.Rows
import Derived.Lib.AppendStr
import Derived.ArgAppend
import Derived.Laws.IdiomCopy
import Derived.OrdersHeld
import Derived.Laws.BitsLemmas
import Derived.RowKit
import Derived.Test.YtbdlhhajblhmiaaDoorInsN
import Derived.Test.YtbdlhhajblhmiaaDoorWWords
import Derived.Test.YtbdlhhajblhmiaaDoorWLast
import Derived.Test.YtbdlhhajblhmiaaDoorWTab
import Derived.Test.YtbdlhhajblhmiaaDoorWFour
import Derived.Test.YtbdlhhajblhmiaaDoorWQPut
import Derived.Test.YtbdlhhajblhmiaaDoorWApart
import Derived.Test.YtbdlhhajblhmiaaDoorWArr
import Derived.Test.YtbdlhhajblhmiaaDoorWZeros
import Derived.Test.YtbdlhhajblhmiaaDoorWFoot
import Derived.Test.YtbdlhhajblhmiaaDoorWKept
import Derived.Test.YtbdlhhajblhmiaaDoorWShare
import Derived.Test.YtbdlhhajblhmiaaDoorWN
import Derived.Test.YtbdlhhajblhmiaaDoorWFootNe
import Derived.Test.YtbdlhhajblhmiaaDoorWAt
import Derived.Test.YtbdlhhajblhmiaaDoorWEqStruct
import Derived.Test.YtbdlhhajblhmiaaDoorWRepsOne
import Derived.Test.YtbdlhhajblhmiaaDoorWInv
import Derived.Test.YtbdlhhajblhmiaaDoorWInvWords
import Derived.Test.YtbdlhhajblhmiaaDoorWGuard
import Derived.Test.YtbdlhhajblhmiaaDoorWNEv
import Derived.Test.YtbdlhhajblhmiaaDoorWMore
namespace Go.Proofs.YtbdlhhajblhmiaaDoor.QInsDecodes
open Go.RowKit Go.Proofs.YtbdlhhajblhmiaaDoorW.PrintWords Go.Proofs.YtbdlhhajblhmiaaDoorW.PrintLast Go.Proofs.YtbdlhhajblhmiaaDoorW.PrintMore
attribute [local go_sem] max2_int min2_int max_two min_two max_three min_three max_four min_four   -- for this text's walks alone
set_option linter.unusedVariables false
set_option linter.unusedSimpArgs false



def errW : Option Int → Value
  | none => .nilIface
  | some c => .iface 0 (.int .i64 c)
theorem errW_none : errW none = .nilIface := rfl
theorem errW_some (c : Int) : errW (some c) = .iface 0 (.int .i64 c) := rfl

theorem info38 : (Tryd.prog.info? 38).map (fun i => (i.zero, i.size, i.bytes)) = some (some (.int .u64 0), 1, 8) := by kernel_rfl
-- the values' own types

end Go.Proofs.YtbdlhhajblhmiaaDoor.QInsDecodes
