-- WRITTEN by a program of this session's own (wip/gen/card.py)
/- decklelaw05.SchemaOne: a part of its card. -/
import Derived.Test.YtciolchdihlgfaaDoorCardSoA
import Derived.ProofKit
namespace Go.Proofs.YtciolchdihlgfaaDoor.schemaOne
open Go.ChangeShapes Go.WideShapes Go.ChangeAt Go.RowKit Go.Lib Go.Proofs.YtciolchdihlgfaaDoorW.PrintWords
open Go.ChangeMaps (open_string shut_string)
set_option linter.unusedVariables false
set_option maxRecDepth 100000
theorem closed_ : joinedFacts Tryd.pinned.checked.prog 4 Tryd.f4 (OpenSpec.ofChange Rows.schemaOneSpec).bare Rows.schemaOneRow = true := by kernel_rfl
end Go.Proofs.YtciolchdihlgfaaDoor.schemaOne
