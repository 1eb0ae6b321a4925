-- WRITTEN by a program of this session's own (wip/gen/mkprint.py), over the kit's print: not printed by print.sh itself
import Derived.Test.YtnmjelcicbfjdaaDoorProg
import Derived.Lib.SlBytesConst
import Derived.Outline
import Derived.Laws.BitsAllLaws
import Derived.Laws.Externs
import Derived.Below
import Derived.Deep.Draws
import Derived.Deep.AppendLies
import Derived.Maps.AppendAt
import Derived.OwnWalk
import Derived.Laws.BytesArg
import Derived.Laws.MakeOwn
import Derived.Laws.OwnMore
import Derived.Deep.OwnRows
import Derived.Tactics
import Derived.Lib.ConvBytes
import Derived.Laws.Slices
import Derived.WalkKit
import Derived.KernelRfl
import Derived.RowKit3
import Derived.Deep.LoopGhost
import Derived.Deep.QuietTactic
import Derived.BigQuiet
import Derived.WideLaws
import Derived.Deep.DeepCutAuto
import Derived.Deep.CutBlock
import Derived.Deep.RegionHeld3
import Derived.Laws.Rows
import Derived.Lib.AppendStr
import Derived.ArgAppend
import Derived.Laws.IdiomCopy
import Derived.OrdersHeld
import Derived.Laws.BitsLemmas
import Derived.RowKit
import Derived.Test.YtnmjelcicbfjdaaDoorUt
import Derived.Test.YtnmjelcicbfjdaaDoorQTail
import Derived.Test.YtnmjelcicbfjdaaDoorWWords
import Derived.Test.YtnmjelcicbfjdaaDoorWLast
import Derived.Test.YtnmjelcicbfjdaaDoorWTab
import Derived.Test.YtnmjelcicbfjdaaDoorWFour
import Derived.Test.YtnmjelcicbfjdaaDoorWQPut
import Derived.Test.YtnmjelcicbfjdaaDoorWApart
import Derived.Test.YtnmjelcicbfjdaaDoorWArr
import Derived.Test.YtnmjelcicbfjdaaDoorWZeros
import Derived.Test.YtnmjelcicbfjdaaDoorWFoot
import Derived.Test.YtnmjelcicbfjdaaDoorWKept
import Derived.Test.YtnmjelcicbfjdaaDoorWShare
import Derived.Test.YtnmjelcicbfjdaaDoorWN
import Derived.Test.YtnmjelcicbfjdaaDoorWFootNe
import Derived.Test.YtnmjelcicbfjdaaDoorWAt
import Derived.Test.YtnmjelcicbfjdaaDoorWEqStruct
import Derived.Test.YtnmjelcicbfjdaaDoorWRepsOne
import Derived.Test.YtnmjelcicbfjdaaDoorWInv
import Derived.Test.YtnmjelcicbfjdaaDoorWInvWords
import Derived.Test.YtnmjelcicbfjdaaDoorWGuard
import Derived.Test.YtnmjelcicbfjdaaDoorWNEv
import Derived.Test.YtnmjelcicbfjdaaDoorWMore
namespace Go.Proofs.YtnmjelcicbfjdaaDoor.PCo
open Go.RowKit Go.Proofs.YtnmjelcicbfjdaaDoorW.PrintWords Go.Proofs.YtnmjelcicbfjdaaDoorW.PrintLast Go.Proofs.YtnmjelcicbfjdaaDoorW.PrintMore
attribute [local go_sem] max2_int min2_int max_two min_two max_three min_three max_four min_four   -- for this text's walks alone
set_option linter.unusedVariables false
set_option linter.unusedSimpArgs false



def errW : Option Int → Value
  | none => .nilIface
  | some c => .iface 0 (.int .i64 c)
theorem errW_none : errW none = .nilIface := rfl
theorem errW_some (c : Int) : errW (some c) = .iface 0 (.int .i64 c) := rfl

theorem info9 : (Tryd.prog.info? 9).map (fun i => (i.zero, i.size, i.bytes)) = some (some (.string ⟨#[]⟩), 1, 16) := by kernel_rfl
-- the values' own types

end Go.Proofs.YtnmjelcicbfjdaaDoor.PCo
