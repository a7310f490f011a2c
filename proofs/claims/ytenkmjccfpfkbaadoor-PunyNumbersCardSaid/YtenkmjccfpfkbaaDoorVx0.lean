-- Printed by this session's own turn of the print (wip/mkprint.py), with parts that were proved by hand.
import Derived.Test.YtenkmjccfpfkbaaDoorProg
import Derived.Below
import Derived.Deep.Draws
import Derived.Deep.AppendLies
import Derived.Maps.AppendAt
import Derived.OwnWalk
import Derived.Laws.BytesArg
import Derived.Laws.MakeOwn
import Derived.Laws.OwnMore
import Derived.Deep.OwnRows
import Derived.Tactics
import Derived.Lib.ConvBytes
import Derived.Laws.Slices
import Derived.WalkKit
import Derived.KernelRfl
import Derived.RowKit3
import Derived.Deep.LoopGhost
import Derived.Deep.QuietTactic
import Derived.BigQuiet
import Derived.WideLaws
import Derived.Deep.DeepCutAuto
import Derived.Deep.CutBlock
import Derived.Deep.RegionHeld3
import Derived.Laws.Rows
import Derived.Lib.AppendStr
import Derived.ArgAppend
import Derived.Laws.IdiomCopy
import Derived.OrdersHeld
import Derived.Laws.BitsLemmas
import Derived.RowKit
import Derived.Test.YtenkmjccfpfkbaaDoorE
import Derived.Test.YtenkmjccfpfkbaaDoorWWords
import Derived.Test.YtenkmjccfpfkbaaDoorWLast
import Derived.Test.YtenkmjccfpfkbaaDoorWTab
import Derived.Test.YtenkmjccfpfkbaaDoorWFour
import Derived.Test.YtenkmjccfpfkbaaDoorWQPut
import Derived.Test.YtenkmjccfpfkbaaDoorWApart
import Derived.Test.YtenkmjccfpfkbaaDoorWArr
import Derived.Test.YtenkmjccfpfkbaaDoorWZeros
import Derived.Test.YtenkmjccfpfkbaaDoorWFoot
import Derived.Test.YtenkmjccfpfkbaaDoorWKept
import Derived.Test.YtenkmjccfpfkbaaDoorWShare
import Derived.Test.YtenkmjccfpfkbaaDoorWN
import Derived.Test.YtenkmjccfpfkbaaDoorWFootNe
import Derived.Test.YtenkmjccfpfkbaaDoorWAt
import Derived.Test.YtenkmjccfpfkbaaDoorWEqStruct
import Derived.Test.YtenkmjccfpfkbaaDoorWRepsOne
import Derived.Test.YtenkmjccfpfkbaaDoorWInv
import Derived.Test.YtenkmjccfpfkbaaDoorWInvWords
import Derived.Test.YtenkmjccfpfkbaaDoorWGuard
import Derived.Test.YtenkmjccfpfkbaaDoorWNEv
import Derived.Test.YtenkmjccfpfkbaaDoorWMore
namespace Go.Proofs.YtenkmjccfpfkbaaDoor.V
open Go.RowKit Go.Proofs.YtenkmjccfpfkbaaDoorW.PrintWords Go.Proofs.YtenkmjccfpfkbaaDoorW.PrintLast Go.Proofs.YtenkmjccfpfkbaaDoorW.PrintMore Go.Proofs.YtenkmjccfpfkbaaDoor.Er
attribute [local go_sem] max2_int min2_int max_two min_two max_three min_three max_four min_four   -- for this text's walks alone
set_option linter.unusedVariables false
set_option linter.unusedSimpArgs false




theorem info5 : (Tryd.prog.info? 5).map (fun i => (i.zero, i.size, i.bytes)) = some (some (.int .u8 0), 1, 1) := by kernel_rfl
theorem info21 : (Tryd.prog.info? 21).map (fun i => (i.zero, i.size, i.bytes)) = some (some (.int .i32 0), 1, 4) := by kernel_rfl
-- the values' own types

end Go.Proofs.YtenkmjccfpfkbaaDoor.V
