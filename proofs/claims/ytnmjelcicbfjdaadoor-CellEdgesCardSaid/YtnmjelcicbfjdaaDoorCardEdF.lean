-- WRITTEN by a program of this session's own (wip/gen/card.py)
/- decklelaw04.CellEdges: a part of its card. -/
import Derived.Test.YtnmjelcicbfjdaaDoorCardEdA
import Derived.ProofKit
namespace Go.Proofs.YtnmjelcicbfjdaaDoor.cellEdges
open Go.ChangeShapes Go.WideShapes Go.ChangeAt Go.RowKit Go.Lib Go.Proofs.YtnmjelcicbfjdaaDoorW.PrintWords
open Go.ChangeMaps (open_string shut_string)
set_option linter.unusedVariables false
set_option maxRecDepth 100000
theorem closed_ : joinedFacts Tryd.pinned.checked.prog 4 Tryd.f4 (OpenSpec.ofChange Rows.cellEdgesSpec).bare Rows.cellEdgesRow = true := by kernel_rfl
end Go.Proofs.YtnmjelcicbfjdaaDoor.cellEdges
