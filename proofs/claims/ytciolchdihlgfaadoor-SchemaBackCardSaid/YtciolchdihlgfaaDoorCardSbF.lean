-- WRITTEN by a program of this session's own (wip/gen/card.py)
/- decklelaw05.SchemaBack: a part of its card. -/
import Derived.Test.YtciolchdihlgfaaDoorCardSbA
import Derived.ProofKit
namespace Go.Proofs.YtciolchdihlgfaaDoor.schemaBack
open Go.ChangeShapes Go.WideShapes Go.ChangeAt Go.RowKit Go.Lib Go.Proofs.YtciolchdihlgfaaDoorW.PrintWords
open Go.ChangeMaps (open_string shut_string)
set_option linter.unusedVariables false
set_option maxRecDepth 100000
theorem closed_ : joinedFacts Tryd.pinned.checked.prog 5 Tryd.f5 (OpenSpec.ofChange Rows.schemaBackSpec).bare Rows.schemaBackRow = true := by kernel_rfl
end Go.Proofs.YtciolchdihlgfaaDoor.schemaBack
