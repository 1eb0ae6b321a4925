import Derived.Test.YtciolchdihlgfaaGreatDoorVal
import Derived.Test.YtciolchdihlgfaaGreatDoorWMore
/-! The fact of the world that utf8.ValidString's contract asks: the two tables stand. -/
namespace Go.Proofs.YtciolchdihlgfaaGreatDoor
open Go.RowKit
def UtfW (w : World) : Prop := Lib.Utf8Tabs (Tryz.laysValid_ren.g 3) (Tryz.laysValid_ren.g 4) w
theorem UtfW.below {w W : World} (h : UtfW w) (hb : Below w.heap.size w W) : UtfW W := Utf8Tabs_below h hb
end Go.Proofs.YtciolchdihlgfaaGreatDoor
