-- WRITTEN by a program of this session's own (wip/gen/mkprint.py), over the kit's print: not printed by print.sh itself
import Derived.Test.YtnmjelcicbfjdaaDoorPCox0
import Derived.Test.YtnmjelcicbfjdaaDoorPCox1
import Derived.Test.YtnmjelcicbfjdaaDoorPCox2
namespace Go.Proofs.YtnmjelcicbfjdaaDoor.PCo
open Go.RowKit Go.Proofs.YtnmjelcicbfjdaaDoorW.PrintWords Go.Proofs.YtnmjelcicbfjdaaDoorW.PrintLast Go.Proofs.YtnmjelcicbfjdaaDoorW.PrintMore
attribute [local go_sem] max2_int min2_int max_two min_two max_three min_three max_four min_four   -- for this text's walks alone
set_option linter.unusedVariables false
set_option linter.unusedSimpArgs false

end Go.Proofs.YtnmjelcicbfjdaaDoor.PCo
