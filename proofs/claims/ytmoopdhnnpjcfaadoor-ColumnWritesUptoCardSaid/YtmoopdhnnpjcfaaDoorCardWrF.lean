-- WRITTEN by a program of this session's own (wip/gen/card.py)
/- decklelaw09.ColumnWrites: a part of its card. -/
import Derived.Test.YtmoopdhnnpjcfaaDoorCardWrA
import Derived.ProofKit
namespace Go.Proofs.YtmoopdhnnpjcfaaDoor.columnWrites
open Go.ChangeShapes Go.WideShapes Go.ChangeAt Go.RowKit Go.Lib Go.Proofs.YtmoopdhnnpjcfaaDoorW.PrintWords
open Go.ChangeMaps (open_string shut_string)
set_option linter.unusedVariables false
set_option maxRecDepth 100000
theorem closed_ : joinedFacts Tryd.pinned.checked.prog 3 Tryd.f3 (Rows.OpenSpec.upto Rows.columnWritesSpec).bare Rows.columnWritesUptoRow = true := by kernel_rfl
end Go.Proofs.YtmoopdhnnpjcfaaDoor.columnWrites
