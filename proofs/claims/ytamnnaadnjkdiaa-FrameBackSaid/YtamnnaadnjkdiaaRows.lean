/-
  No cell of these rows narrows 'for every input' (looked for: loops, veiled, ifaces, maps, wideKeys, modest, calm, conditions, laid).
  DERIVED. THE GIVEN ROWS OF THIS SEAT. 11 by the template 'for every input the law returns true; each argument reads behind the call as it read before'; 0 by the template 'total and deterministic' (their statements: YtamnnaadnjkdiaaTotals.lean).
  GIVEN WITH THE SEED: the statements are not yours to turn. If you find one false, say at which input.
  Laid BY PROGRAM, IN A SANDBOX (cutbox-rows.mjs): the forced cells as the released guide's own fill.sh prints them over the translation e6352423dde0381c… (all of the seat's roots in one cut). By AI agents, Wed Nov 11 2026. No macro, syntax, notation, axiom, sorry.
-/
import Derived.Test.YtamnnaadnjkdiaaChecked
import GoSem.Claim
import GoSem.ClaimJoined
import GoSem.ClaimMapViews
import Derived.JoinedTies
import Derived.KernelRfl
namespace Go.Proofs.Ytamnnaadnjkdiaa
/- THE CELL 'sum', in the pinned program and in every row, IS THE sha256 OF THE DUMP (.gsa) THAT YtamnnaadnjkdiaaProg.lean LOADS. Nothing in Lean hashes anything: it is a label: what it is worth is what the hold of that sum in a sandbox is worth. -/
noncomputable def Try.pinned : Pinned := { name := "ytamnnaadnjkdiaa", sum := "e6352423dde0381ca92ac96a87073a3fa29a3d34ef8b8e27d394d354ca3485a1", checked := Try.checked }
namespace Rows
def none {H : Type} : Left H := { results := [], args := [] }

/-- 'decklelaw03.ReaderMust': WHATEVER THE INPUT: true; the input reads as it did. -/
def readerMustSpec : ChangeSpec := { name := "readerMust", fn := fun _ => fun
  | [d1, d2, d3] => { results := [.lit (.bool true)], args := [d1, d2, d3] }
  | _ => none }
def readerMustRow : OpenClaim := { program := "ytamnnaadnjkdiaa", sum := "e6352423dde0381ca92ac96a87073a3fa29a3d34ef8b8e27d394d354ca3485a1", func := "deckle/decklelaw03.ReaderMust", spec := "readerMust", unfollowed := true, recurses := true, apart := false }
def ReaderMustSaid : Prop := readerMustRow.holds Try.pinned (OpenSpec.ofChange readerMustSpec)

/-- ITS FALSE NEIGHBOUR: 'it returns false'. Refute it at one input. -/
def readerMustWrong : ChangeSpec := { name := "readerMust", fn := fun _ => fun
  | [d1, d2, d3] => { results := [.lit (.bool false)], args := [d1, d2, d3] }
  | _ => none }
def ReaderMustWrongFalsely : Prop := readerMustRow.holds Try.pinned (OpenSpec.ofChange readerMustWrong)

/-- 'decklelaw03.ReaderInside': WHATEVER THE INPUT: true; the input reads as it did. -/
def readerInsideSpec : ChangeSpec := { name := "readerInside", fn := fun _ => fun
  | [d1, d2, d3] => { results := [.lit (.bool true)], args := [d1, d2, d3] }
  | _ => none }
def readerInsideRow : OpenClaim := { program := "ytamnnaadnjkdiaa", sum := "e6352423dde0381ca92ac96a87073a3fa29a3d34ef8b8e27d394d354ca3485a1", func := "deckle/decklelaw03.ReaderInside", spec := "readerInside", unfollowed := true, recurses := true, apart := false }
def ReaderInsideSaid : Prop := readerInsideRow.holds Try.pinned (OpenSpec.ofChange readerInsideSpec)

/-- ITS FALSE NEIGHBOUR: 'it returns false'. Refute it at one input. -/
def readerInsideWrong : ChangeSpec := { name := "readerInside", fn := fun _ => fun
  | [d1, d2, d3] => { results := [.lit (.bool false)], args := [d1, d2, d3] }
  | _ => none }
def ReaderInsideWrongFalsely : Prop := readerInsideRow.holds Try.pinned (OpenSpec.ofChange readerInsideWrong)

/-- 'decklelaw03.ReaderActs': WHATEVER THE INPUT: true; the input reads as it did. -/
def readerActsSpec : ChangeSpec := { name := "readerActs", fn := fun _ => fun
  | [d1, d2] => { results := [.lit (.bool true)], args := [d1, d2] }
  | _ => none }
def readerActsRow : OpenClaim := { program := "ytamnnaadnjkdiaa", sum := "e6352423dde0381ca92ac96a87073a3fa29a3d34ef8b8e27d394d354ca3485a1", func := "deckle/decklelaw03.ReaderActs", spec := "readerActs", unfollowed := true, recurses := true, apart := false }
def ReaderActsSaid : Prop := readerActsRow.holds Try.pinned (OpenSpec.ofChange readerActsSpec)

/-- ITS FALSE NEIGHBOUR: 'it returns false'. Refute it at one input. -/
def readerActsWrong : ChangeSpec := { name := "readerActs", fn := fun _ => fun
  | [d1, d2] => { results := [.lit (.bool false)], args := [d1, d2] }
  | _ => none }
def ReaderActsWrongFalsely : Prop := readerActsRow.holds Try.pinned (OpenSpec.ofChange readerActsWrong)

/-- 'decklelaw03.ReaderNone': WHATEVER THE INPUT: true; the input reads as it did. -/
def readerNoneSpec : ChangeSpec := { name := "readerNone", fn := fun _ => fun
  | [d1, d2] => { results := [.lit (.bool true)], args := [d1, d2] }
  | _ => none }
def readerNoneRow : OpenClaim := { program := "ytamnnaadnjkdiaa", sum := "e6352423dde0381ca92ac96a87073a3fa29a3d34ef8b8e27d394d354ca3485a1", func := "deckle/decklelaw03.ReaderNone", spec := "readerNone", unfollowed := true, recurses := true, apart := false }
def ReaderNoneSaid : Prop := readerNoneRow.holds Try.pinned (OpenSpec.ofChange readerNoneSpec)

/-- ITS FALSE NEIGHBOUR: 'it returns false'. Refute it at one input. -/
def readerNoneWrong : ChangeSpec := { name := "readerNone", fn := fun _ => fun
  | [d1, d2] => { results := [.lit (.bool false)], args := [d1, d2] }
  | _ => none }
def ReaderNoneWrongFalsely : Prop := readerNoneRow.holds Try.pinned (OpenSpec.ofChange readerNoneWrong)

/-- 'decklelaw11.FrameTurns': WHATEVER THE INPUT: true; the input reads as it did. -/
def frameTurnsSpec : ChangeSpec := { name := "frameTurns", fn := fun _ => fun
  | [d1, d2, d3] => { results := [.lit (.bool true)], args := [d1, d2, d3] }
  | _ => none }
def frameTurnsRow : OpenClaim := { program := "ytamnnaadnjkdiaa", sum := "e6352423dde0381ca92ac96a87073a3fa29a3d34ef8b8e27d394d354ca3485a1", func := "deckle/decklelaw11.FrameTurns", spec := "frameTurns", unfollowed := true, recurses := true, apart := false }
def FrameTurnsSaid : Prop := frameTurnsRow.holds Try.pinned (OpenSpec.ofChange frameTurnsSpec)

/-- ITS FALSE NEIGHBOUR: 'it returns false'. Refute it at one input. -/
def frameTurnsWrong : ChangeSpec := { name := "frameTurns", fn := fun _ => fun
  | [d1, d2, d3] => { results := [.lit (.bool false)], args := [d1, d2, d3] }
  | _ => none }
def FrameTurnsWrongFalsely : Prop := frameTurnsRow.holds Try.pinned (OpenSpec.ofChange frameTurnsWrong)

/-- 'decklelaw11.FrameCuts': WHATEVER THE INPUT: true; the input reads as it did. -/
def frameCutsSpec : ChangeSpec := { name := "frameCuts", fn := fun _ => fun
  | [d1, d2, d3] => { results := [.lit (.bool true)], args := [d1, d2, d3] }
  | _ => none }
def frameCutsRow : OpenClaim := { program := "ytamnnaadnjkdiaa", sum := "e6352423dde0381ca92ac96a87073a3fa29a3d34ef8b8e27d394d354ca3485a1", func := "deckle/decklelaw11.FrameCuts", spec := "frameCuts", unfollowed := true, recurses := true, apart := false }
def FrameCutsSaid : Prop := frameCutsRow.holds Try.pinned (OpenSpec.ofChange frameCutsSpec)

/-- ITS FALSE NEIGHBOUR: 'it returns false'. Refute it at one input. -/
def frameCutsWrong : ChangeSpec := { name := "frameCuts", fn := fun _ => fun
  | [d1, d2, d3] => { results := [.lit (.bool false)], args := [d1, d2, d3] }
  | _ => none }
def FrameCutsWrongFalsely : Prop := frameCutsRow.holds Try.pinned (OpenSpec.ofChange frameCutsWrong)

/-- 'decklelaw03.ReaderBack': WHATEVER THE INPUT: true; the input reads as it did. -/
def readerBackSpec : ChangeSpec := { name := "readerBack", fn := fun _ => fun
  | [d1, d2] => { results := [.lit (.bool true)], args := [d1, d2] }
  | _ => none }
def readerBackRow : OpenClaim := { program := "ytamnnaadnjkdiaa", sum := "e6352423dde0381ca92ac96a87073a3fa29a3d34ef8b8e27d394d354ca3485a1", func := "deckle/decklelaw03.ReaderBack", spec := "readerBack", unfollowed := true, recurses := true, apart := false }
def ReaderBackSaid : Prop := readerBackRow.holds Try.pinned (OpenSpec.ofChange readerBackSpec)

/-- ITS FALSE NEIGHBOUR: 'it returns false'. Refute it at one input. -/
def readerBackWrong : ChangeSpec := { name := "readerBack", fn := fun _ => fun
  | [d1, d2] => { results := [.lit (.bool false)], args := [d1, d2] }
  | _ => none }
def ReaderBackWrongFalsely : Prop := readerBackRow.holds Try.pinned (OpenSpec.ofChange readerBackWrong)

/-- 'decklelaw11.FrameWrites': WHATEVER THE INPUT: true; the input reads as it did. -/
def frameWritesSpec : ChangeSpec := { name := "frameWrites", fn := fun _ => fun
  | [d1, d2, d3] => { results := [.lit (.bool true)], args := [d1, d2, d3] }
  | _ => none }
def frameWritesRow : OpenClaim := { program := "ytamnnaadnjkdiaa", sum := "e6352423dde0381ca92ac96a87073a3fa29a3d34ef8b8e27d394d354ca3485a1", func := "deckle/decklelaw11.FrameWrites", spec := "frameWrites", unfollowed := true, recurses := true, apart := false }
def FrameWritesSaid : Prop := frameWritesRow.holds Try.pinned (OpenSpec.ofChange frameWritesSpec)

/-- ITS FALSE NEIGHBOUR: 'it returns false'. Refute it at one input. -/
def frameWritesWrong : ChangeSpec := { name := "frameWrites", fn := fun _ => fun
  | [d1, d2, d3] => { results := [.lit (.bool false)], args := [d1, d2, d3] }
  | _ => none }
def FrameWritesWrongFalsely : Prop := frameWritesRow.holds Try.pinned (OpenSpec.ofChange frameWritesWrong)

/-- 'decklelaw11.FrameLong': WHATEVER THE INPUT: true; the input reads as it did. -/
def frameLongSpec : ChangeSpec := { name := "frameLong", fn := fun _ => fun
  | [d] => { results := [.lit (.bool true)], args := [d] }
  | _ => none }
def frameLongRow : OpenClaim := { program := "ytamnnaadnjkdiaa", sum := "e6352423dde0381ca92ac96a87073a3fa29a3d34ef8b8e27d394d354ca3485a1", func := "deckle/decklelaw11.FrameLong", spec := "frameLong", unfollowed := true, recurses := true, apart := false }
def FrameLongSaid : Prop := frameLongRow.holds Try.pinned (OpenSpec.ofChange frameLongSpec)

/-- ITS FALSE NEIGHBOUR: 'it returns false'. Refute it at one input. -/
def frameLongWrong : ChangeSpec := { name := "frameLong", fn := fun _ => fun
  | [d] => { results := [.lit (.bool false)], args := [d] }
  | _ => none }
def FrameLongWrongFalsely : Prop := frameLongRow.holds Try.pinned (OpenSpec.ofChange frameLongWrong)

/-- 'decklelaw11.FrameNexts': WHATEVER THE INPUT: true; the input reads as it did. -/
def frameNextsSpec : ChangeSpec := { name := "frameNexts", fn := fun _ => fun
  | [d] => { results := [.lit (.bool true)], args := [d] }
  | _ => none }
def frameNextsRow : OpenClaim := { program := "ytamnnaadnjkdiaa", sum := "e6352423dde0381ca92ac96a87073a3fa29a3d34ef8b8e27d394d354ca3485a1", func := "deckle/decklelaw11.FrameNexts", spec := "frameNexts", unfollowed := true, recurses := true, apart := false }
def FrameNextsSaid : Prop := frameNextsRow.holds Try.pinned (OpenSpec.ofChange frameNextsSpec)

/-- ITS FALSE NEIGHBOUR: 'it returns false'. Refute it at one input. -/
def frameNextsWrong : ChangeSpec := { name := "frameNexts", fn := fun _ => fun
  | [d] => { results := [.lit (.bool false)], args := [d] }
  | _ => none }
def FrameNextsWrongFalsely : Prop := frameNextsRow.holds Try.pinned (OpenSpec.ofChange frameNextsWrong)

/-- 'decklelaw11.FrameBack': WHATEVER THE INPUT: true; the input reads as it did. -/
def frameBackSpec : ChangeSpec := { name := "frameBack", fn := fun _ => fun
  | [d1, d2] => { results := [.lit (.bool true)], args := [d1, d2] }
  | _ => none }
def frameBackRow : OpenClaim := { program := "ytamnnaadnjkdiaa", sum := "e6352423dde0381ca92ac96a87073a3fa29a3d34ef8b8e27d394d354ca3485a1", func := "deckle/decklelaw11.FrameBack", spec := "frameBack", unfollowed := true, recurses := true, apart := false }
def FrameBackSaid : Prop := frameBackRow.holds Try.pinned (OpenSpec.ofChange frameBackSpec)

/-- ITS FALSE NEIGHBOUR: 'it returns false'. Refute it at one input. -/
def frameBackWrong : ChangeSpec := { name := "frameBack", fn := fun _ => fun
  | [d1, d2] => { results := [.lit (.bool false)], args := [d1, d2] }
  | _ => none }
def FrameBackWrongFalsely : Prop := frameBackRow.holds Try.pinned (OpenSpec.ofChange frameBackWrong)

/- THE SECOND FORM. 'bulk': how many values and letters a reading holds, each counted each time it is reached (what is shared counts as often as it is met; a slice's spare places count too). A statement '..UptoSaid' is the law's where the arguments, and the package variables that the reading takes, are together of bulk at most 1048576: NARROWER than '..Said'. Prove '..Said' where nothing that the law and all that it calls make is longer than what came in: it says more and counts as full. Else prove '..UptoSaid'. A law counts once. -/
mutual
def uptoBulk {H : Type} : DataW H → Nat
  | .lit (.string bytes) => bytes.length + 1
  | .lit _ => 1
  | .nil => 1
  | .ptr d => uptoBulk d + 1
  | .slice elems spare => uptoBulkAll elems + uptoBulkAll spare + 1
  | .agg parts => uptoBulkAll parts + 1
  | .iface _ d => uptoBulk d + 1
  | .map entries => uptoBulkEntries entries + 1
  | .held _ => 1
def uptoBulkAll {H : Type} : List (DataW H) → Nat
  | [] => 0
  | d :: r => uptoBulk d + uptoBulkAll r
def uptoBulkEntries {H : Type} : List (Lit × DataW H) → Nat
  | [] => 0
  | x :: r => uptoBulkEntry x + uptoBulkEntries r
def uptoBulkEntry {H : Type} : Lit × DataW H → Nat
  | (.string bytes, d) => bytes.length + uptoBulk d + 1
  | (_, d) => uptoBulk d + 1
 end
def uptoSmall : (H : Type) → List (DataW H) → Bool := fun _ ds => decide (uptoBulkAll ds ≤ 1048576)
def OpenSpec.upto (s : _root_.Go.ChangeSpec) : _root_.Go.OpenSpec := { _root_.Go.OpenSpec.ofChange s with cond := some uptoSmall }

/-- 'decklelaw03.ReaderMust', WHERE WHAT IT READS IS OF BULK AT MOST 1048576: true; the input reads as it did. -/
def readerMustUptoRow : OpenClaim := { program := "ytamnnaadnjkdiaa", sum := "e6352423dde0381ca92ac96a87073a3fa29a3d34ef8b8e27d394d354ca3485a1", func := "deckle/decklelaw03.ReaderMust", spec := "readerMust", unfollowed := true, recurses := true, apart := false, narrowed := true }
def ReaderMustUptoSaid : Prop := readerMustUptoRow.holds Try.pinned (OpenSpec.upto readerMustSpec)

/-- 'decklelaw03.ReaderInside', WHERE WHAT IT READS IS OF BULK AT MOST 1048576: true; the input reads as it did. -/
def readerInsideUptoRow : OpenClaim := { program := "ytamnnaadnjkdiaa", sum := "e6352423dde0381ca92ac96a87073a3fa29a3d34ef8b8e27d394d354ca3485a1", func := "deckle/decklelaw03.ReaderInside", spec := "readerInside", unfollowed := true, recurses := true, apart := false, narrowed := true }
def ReaderInsideUptoSaid : Prop := readerInsideUptoRow.holds Try.pinned (OpenSpec.upto readerInsideSpec)

/-- 'decklelaw03.ReaderActs', WHERE WHAT IT READS IS OF BULK AT MOST 1048576: true; the input reads as it did. -/
def readerActsUptoRow : OpenClaim := { program := "ytamnnaadnjkdiaa", sum := "e6352423dde0381ca92ac96a87073a3fa29a3d34ef8b8e27d394d354ca3485a1", func := "deckle/decklelaw03.ReaderActs", spec := "readerActs", unfollowed := true, recurses := true, apart := false, narrowed := true }
def ReaderActsUptoSaid : Prop := readerActsUptoRow.holds Try.pinned (OpenSpec.upto readerActsSpec)

/-- 'decklelaw03.ReaderNone', WHERE WHAT IT READS IS OF BULK AT MOST 1048576: true; the input reads as it did. -/
def readerNoneUptoRow : OpenClaim := { program := "ytamnnaadnjkdiaa", sum := "e6352423dde0381ca92ac96a87073a3fa29a3d34ef8b8e27d394d354ca3485a1", func := "deckle/decklelaw03.ReaderNone", spec := "readerNone", unfollowed := true, recurses := true, apart := false, narrowed := true }
def ReaderNoneUptoSaid : Prop := readerNoneUptoRow.holds Try.pinned (OpenSpec.upto readerNoneSpec)

/-- 'decklelaw11.FrameTurns', WHERE WHAT IT READS IS OF BULK AT MOST 1048576: true; the input reads as it did. -/
def frameTurnsUptoRow : OpenClaim := { program := "ytamnnaadnjkdiaa", sum := "e6352423dde0381ca92ac96a87073a3fa29a3d34ef8b8e27d394d354ca3485a1", func := "deckle/decklelaw11.FrameTurns", spec := "frameTurns", unfollowed := true, recurses := true, apart := false, narrowed := true }
def FrameTurnsUptoSaid : Prop := frameTurnsUptoRow.holds Try.pinned (OpenSpec.upto frameTurnsSpec)

/-- 'decklelaw11.FrameCuts', WHERE WHAT IT READS IS OF BULK AT MOST 1048576: true; the input reads as it did. -/
def frameCutsUptoRow : OpenClaim := { program := "ytamnnaadnjkdiaa", sum := "e6352423dde0381ca92ac96a87073a3fa29a3d34ef8b8e27d394d354ca3485a1", func := "deckle/decklelaw11.FrameCuts", spec := "frameCuts", unfollowed := true, recurses := true, apart := false, narrowed := true }
def FrameCutsUptoSaid : Prop := frameCutsUptoRow.holds Try.pinned (OpenSpec.upto frameCutsSpec)

/-- 'decklelaw03.ReaderBack', WHERE WHAT IT READS IS OF BULK AT MOST 1048576: true; the input reads as it did. -/
def readerBackUptoRow : OpenClaim := { program := "ytamnnaadnjkdiaa", sum := "e6352423dde0381ca92ac96a87073a3fa29a3d34ef8b8e27d394d354ca3485a1", func := "deckle/decklelaw03.ReaderBack", spec := "readerBack", unfollowed := true, recurses := true, apart := false, narrowed := true }
def ReaderBackUptoSaid : Prop := readerBackUptoRow.holds Try.pinned (OpenSpec.upto readerBackSpec)

/-- 'decklelaw11.FrameWrites', WHERE WHAT IT READS IS OF BULK AT MOST 1048576: true; the input reads as it did. -/
def frameWritesUptoRow : OpenClaim := { program := "ytamnnaadnjkdiaa", sum := "e6352423dde0381ca92ac96a87073a3fa29a3d34ef8b8e27d394d354ca3485a1", func := "deckle/decklelaw11.FrameWrites", spec := "frameWrites", unfollowed := true, recurses := true, apart := false, narrowed := true }
def FrameWritesUptoSaid : Prop := frameWritesUptoRow.holds Try.pinned (OpenSpec.upto frameWritesSpec)

/-- 'decklelaw11.FrameLong', WHERE WHAT IT READS IS OF BULK AT MOST 1048576: true; the input reads as it did. -/
def frameLongUptoRow : OpenClaim := { program := "ytamnnaadnjkdiaa", sum := "e6352423dde0381ca92ac96a87073a3fa29a3d34ef8b8e27d394d354ca3485a1", func := "deckle/decklelaw11.FrameLong", spec := "frameLong", unfollowed := true, recurses := true, apart := false, narrowed := true }
def FrameLongUptoSaid : Prop := frameLongUptoRow.holds Try.pinned (OpenSpec.upto frameLongSpec)

/-- 'decklelaw11.FrameNexts', WHERE WHAT IT READS IS OF BULK AT MOST 1048576: true; the input reads as it did. -/
def frameNextsUptoRow : OpenClaim := { program := "ytamnnaadnjkdiaa", sum := "e6352423dde0381ca92ac96a87073a3fa29a3d34ef8b8e27d394d354ca3485a1", func := "deckle/decklelaw11.FrameNexts", spec := "frameNexts", unfollowed := true, recurses := true, apart := false, narrowed := true }
def FrameNextsUptoSaid : Prop := frameNextsUptoRow.holds Try.pinned (OpenSpec.upto frameNextsSpec)

/-- 'decklelaw11.FrameBack', WHERE WHAT IT READS IS OF BULK AT MOST 1048576: true; the input reads as it did. -/
def frameBackUptoRow : OpenClaim := { program := "ytamnnaadnjkdiaa", sum := "e6352423dde0381ca92ac96a87073a3fa29a3d34ef8b8e27d394d354ca3485a1", func := "deckle/decklelaw11.FrameBack", spec := "frameBack", unfollowed := true, recurses := true, apart := false, narrowed := true }
def FrameBackUptoSaid : Prop := frameBackUptoRow.holds Try.pinned (OpenSpec.upto frameBackSpec)

end Rows
end Go.Proofs.Ytamnnaadnjkdiaa
