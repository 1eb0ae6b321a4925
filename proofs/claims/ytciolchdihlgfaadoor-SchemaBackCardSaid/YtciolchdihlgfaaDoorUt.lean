import Derived.Test.YtciolchdihlgfaaDoorWMore
/-! No function of this program reads the two tables of utf8. -/
namespace Go.Proofs.YtciolchdihlgfaaDoor
open Go.RowKit
def UtfW (_ : World) : Prop := True
theorem UtfW.below {w W : World} (_ : UtfW w) (_ : Below w.heap.size w W) : UtfW W := trivial
end Go.Proofs.YtciolchdihlgfaaDoor
