-- WRITTEN by a program of this session's own (wip/gen/card.py)
/- decklelaw04.CellChecks: a part of its card. -/
import Derived.Test.YtnmjelcicbfjdaaDoorCardCkA
import Derived.ProofKit
namespace Go.Proofs.YtnmjelcicbfjdaaDoor.cellChecks
open Go.ChangeShapes Go.WideShapes Go.ChangeAt Go.RowKit Go.Lib Go.Proofs.YtnmjelcicbfjdaaDoorW.PrintWords
open Go.ChangeMaps (open_string shut_string)
set_option linter.unusedVariables false
set_option maxRecDepth 100000
theorem closed_ : joinedFacts Tryd.pinned.checked.prog 6 Tryd.f6 (OpenSpec.ofChange Rows.cellChecksSpec).bare Rows.cellChecksRow = true := by kernel_rfl
end Go.Proofs.YtnmjelcicbfjdaaDoor.cellChecks
