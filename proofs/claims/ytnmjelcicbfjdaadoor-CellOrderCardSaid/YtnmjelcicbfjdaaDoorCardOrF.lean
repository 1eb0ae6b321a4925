-- WRITTEN by a program of this session's own (wip/gen/card.py)
/- decklelaw04.CellOrder: a part of its card. -/
import Derived.Test.YtnmjelcicbfjdaaDoorCardOrA
import Derived.ProofKit
namespace Go.Proofs.YtnmjelcicbfjdaaDoor.cellOrder
open Go.ChangeShapes Go.WideShapes Go.ChangeAt Go.RowKit Go.Lib Go.Proofs.YtnmjelcicbfjdaaDoorW.PrintWords
open Go.ChangeMaps (open_string shut_string)
set_option linter.unusedVariables false
set_option maxRecDepth 100000
theorem closed_ : joinedFacts Tryd.pinned.checked.prog 3 Tryd.f3 (OpenSpec.ofChange Rows.cellOrderSpec).bare Rows.cellOrderRow = true := by kernel_rfl
end Go.Proofs.YtnmjelcicbfjdaaDoor.cellOrder
