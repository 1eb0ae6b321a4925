import Derived.Test.YtmoopdhnnpjcfaaDoorCardGrA
import Derived.ProofKit
/-! ColumnGreatest: the card, further. -/
namespace Go.Proofs.YtmoopdhnnpjcfaaDoor.columnGreatest
open Go.ChangeShapes Go.WideShapes Go.ChangeAt Go.RowKit Go.Lib
set_option linter.unusedVariables false
set_option maxRecDepth 100000
theorem closed_ : joinedFacts Tryd.pinned.checked.prog 8 Tryd.f8 (OpenSpec.ofChange Rows.columnGreatestSpec).bare Rows.columnGreatestRow = true := by kernel_rfl
end Go.Proofs.YtmoopdhnnpjcfaaDoor.columnGreatest
