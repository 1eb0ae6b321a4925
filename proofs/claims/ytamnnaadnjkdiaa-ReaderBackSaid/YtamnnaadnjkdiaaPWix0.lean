-- WRITTEN by a program of this session's own (wip/gen/mkprint.py), over the kit's print: not printed by print.sh itself
import Derived.Test.YtamnnaadnjkdiaaProg
import Derived.Lib.SlBytesConst
import Derived.Outline
import Derived.Laws.BitsAllLaws
import Derived.Laws.Externs
import Derived.Below
import Derived.Deep.Draws
import Derived.Deep.AppendLies
import Derived.Maps.AppendAt
import Derived.OwnWalk
import Derived.Laws.BytesArg
import Derived.Laws.MakeOwn
import Derived.Laws.OwnMore
import Derived.Deep.OwnRows
import Derived.Tactics
import Derived.Lib.ConvBytes
import Derived.Laws.Slices
import Derived.WalkKit
import Derived.KernelRfl
import Derived.RowKit3
import Derived.Deep.LoopGhost
import Derived.Deep.QuietTactic
import Derived.BigQuiet
import Derived.WideLaws
import Derived.Deep.DeepCutAuto
import Derived.Deep.CutBlock
import Derived.Deep.RegionHeld3
import Derived.Laws.Rows
import Derived.Lib.AppendStr
import Derived.ArgAppend
import Derived.Laws.IdiomCopy
import Derived.OrdersHeld
import Derived.Laws.BitsLemmas
import Derived.RowKit
import Derived.Test.YtamnnaadnjkdiaaWWords
import Derived.Test.YtamnnaadnjkdiaaWLast
import Derived.Test.YtamnnaadnjkdiaaWTab
import Derived.Test.YtamnnaadnjkdiaaWFour
import Derived.Test.YtamnnaadnjkdiaaWQPut
import Derived.Test.YtamnnaadnjkdiaaWApart
import Derived.Test.YtamnnaadnjkdiaaWArr
import Derived.Test.YtamnnaadnjkdiaaWZeros
import Derived.Test.YtamnnaadnjkdiaaWFoot
import Derived.Test.YtamnnaadnjkdiaaWKept
import Derived.Test.YtamnnaadnjkdiaaWShare
import Derived.Test.YtamnnaadnjkdiaaWN
import Derived.Test.YtamnnaadnjkdiaaWFootNe
import Derived.Test.YtamnnaadnjkdiaaWAt
import Derived.Test.YtamnnaadnjkdiaaWEqStruct
import Derived.Test.YtamnnaadnjkdiaaWRepsOne
import Derived.Test.YtamnnaadnjkdiaaWInv
import Derived.Test.YtamnnaadnjkdiaaWInvWords
import Derived.Test.YtamnnaadnjkdiaaWGuard
import Derived.Test.YtamnnaadnjkdiaaWNEv
import Derived.Test.YtamnnaadnjkdiaaWMore
namespace Go.Proofs.Ytamnnaadnjkdiaa.PWi
open Go.RowKit Go.Proofs.YtamnnaadnjkdiaaW.PrintWords Go.Proofs.YtamnnaadnjkdiaaW.PrintLast Go.Proofs.YtamnnaadnjkdiaaW.PrintMore
attribute [local go_sem] max2_int min2_int max_two min_two max_three min_three max_four min_four   -- for this text's walks alone
set_option linter.unusedVariables false
set_option linter.unusedSimpArgs false



def errW : Option Int → Value
  | none => .nilIface
  | some c => .iface 0 (.int .i64 c)
theorem errW_none : errW none = .nilIface := rfl
theorem errW_some (c : Int) : errW (some c) = .iface 0 (.int .i64 c) := rfl

theorem info5 : (Try.prog.info? 5).map (fun i => (i.zero, i.size, i.bytes)) = some (some (.int .u8 0), 1, 1) := by kernel_rfl
-- the values' own types

end Go.Proofs.Ytamnnaadnjkdiaa.PWi
