-- WRITTEN by a program of this session's own (wip/gen/card.py)
/- decklelaw09.ColumnSteps: a part of its card. -/
import Derived.Test.YtmoopdhnnpjcfaaDoorCardStA
import Derived.ProofKit
namespace Go.Proofs.YtmoopdhnnpjcfaaDoor.columnSteps
open Go.ChangeShapes Go.WideShapes Go.ChangeAt Go.RowKit Go.Lib Go.Proofs.YtmoopdhnnpjcfaaDoorW.PrintWords
open Go.ChangeMaps (open_string shut_string)
set_option linter.unusedVariables false
set_option maxRecDepth 100000
theorem closed_ : joinedFacts Tryd.pinned.checked.prog 7 Tryd.f7 (OpenSpec.ofChange Rows.columnStepsSpec).bare Rows.columnStepsRow = true := by kernel_rfl
end Go.Proofs.YtmoopdhnnpjcfaaDoor.columnSteps
