-- WRITTEN by a program of this session's own (wip/gen/card.py)
/- decklelaw05.SchemaWrites: a part of its card. -/
import Derived.Test.YtnmjelcicbfjdaaDoorCardSwA
import Derived.ProofKit
namespace Go.Proofs.YtnmjelcicbfjdaaDoor.schemaWrites
open Go.ChangeShapes Go.WideShapes Go.ChangeAt Go.RowKit Go.Lib Go.Proofs.YtnmjelcicbfjdaaDoorW.PrintWords
open Go.ChangeMaps (open_string shut_string)
set_option linter.unusedVariables false
set_option maxRecDepth 100000
theorem closed_ : joinedFacts Tryd.pinned.checked.prog 8 Tryd.f8 (OpenSpec.ofChange Rows.schemaWritesSpec).bare Rows.schemaWritesRow = true := by kernel_rfl
end Go.Proofs.YtnmjelcicbfjdaaDoor.schemaWrites
