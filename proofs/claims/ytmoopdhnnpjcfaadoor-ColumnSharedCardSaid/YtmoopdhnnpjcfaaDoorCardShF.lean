-- WRITTEN by a program of this session's own (wip/gen/card.py)
/- decklelaw09.ColumnShared: a part of its card. -/
import Derived.Test.YtmoopdhnnpjcfaaDoorCardShA
import Derived.ProofKit
namespace Go.Proofs.YtmoopdhnnpjcfaaDoor.columnShared
open Go.ChangeShapes Go.WideShapes Go.ChangeAt Go.RowKit Go.Lib Go.Proofs.YtmoopdhnnpjcfaaDoorW.PrintWords
open Go.ChangeMaps (open_string shut_string)
set_option linter.unusedVariables false
set_option maxRecDepth 100000
theorem closed_ : joinedFacts Tryd.pinned.checked.prog 9 Tryd.f9 (OpenSpec.ofChange Rows.columnSharedSpec).bare Rows.columnSharedRow = true := by kernel_rfl
end Go.Proofs.YtmoopdhnnpjcfaaDoor.columnShared
