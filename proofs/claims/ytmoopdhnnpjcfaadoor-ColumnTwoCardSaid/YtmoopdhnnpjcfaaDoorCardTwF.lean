-- WRITTEN by a program of this session's own (wip/gen/card.py)
/- decklelaw09.ColumnTwo: a part of its card. -/
import Derived.Test.YtmoopdhnnpjcfaaDoorCardTwA
import Derived.ProofKit
namespace Go.Proofs.YtmoopdhnnpjcfaaDoor.columnTwo
open Go.ChangeShapes Go.WideShapes Go.ChangeAt Go.RowKit Go.Lib Go.Proofs.YtmoopdhnnpjcfaaDoorW.PrintWords
open Go.ChangeMaps (open_string shut_string)
set_option linter.unusedVariables false
set_option maxRecDepth 100000
theorem closed_ : joinedFacts Tryd.pinned.checked.prog 6 Tryd.f6 (OpenSpec.ofChange Rows.columnTwoSpec).bare Rows.columnTwoRow = true := by kernel_rfl
end Go.Proofs.YtmoopdhnnpjcfaaDoor.columnTwo
