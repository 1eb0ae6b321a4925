/-
  No cell of these rows narrows 'for every input' (looked for: loops, veiled, ifaces, maps, wideKeys, modest, calm, conditions, laid).
  DERIVED. THE GIVEN ROWS OF THIS SEAT. 12 by the template 'for every input the law returns true; each argument reads behind the call as it read before'; 0 by the template 'total and deterministic' (their statements: YtkngkjgapgnmbaaTotals.lean).
  GIVEN WITH THE SEED: the statements are not yours to turn. If you find one false, say at which input.
  Laid BY PROGRAM, IN A SANDBOX (cutbox-rows.mjs): the forced cells as the released guide's own fill.sh prints them over the translation 3ab275dec4b6d44b… (all of the seat's roots in one cut). By AI agents, Wed Nov 11 2026. No macro, syntax, notation, axiom, sorry.
-/
import Derived.Test.YtkngkjgapgnmbaaChecked
import GoSem.Claim
import GoSem.ClaimJoined
import GoSem.ClaimMapViews
import Derived.JoinedTies
import Derived.KernelRfl
namespace Go.Proofs.Ytkngkjgapgnmbaa
/- THE CELL 'sum', in the pinned program and in every row, IS THE sha256 OF THE DUMP (.gsa) THAT YtkngkjgapgnmbaaProg.lean LOADS. Nothing in Lean hashes anything: it is a label: what it is worth is what the hold of that sum in a sandbox is worth. -/
noncomputable def Try.pinned : Pinned := { name := "ytkngkjgapgnmbaa", sum := "3ab275dec4b6d44b599714ca5ff057de51abe0d9711e500b96d5e547f32b8d29", checked := Try.checked }
namespace Rows
def none {H : Type} : Left H := { results := [], args := [] }

/-- 'decklelaw02.CrcPieces': WHATEVER THE INPUT: true; the input reads as it did. -/
def crcPiecesSpec : ChangeSpec := { name := "crcPieces", fn := fun _ => fun
  | [d1, d2] => { results := [.lit (.bool true)], args := [d1, d2] }
  | _ => none }
def crcPiecesRow : OpenClaim := { program := "ytkngkjgapgnmbaa", sum := "3ab275dec4b6d44b599714ca5ff057de51abe0d9711e500b96d5e547f32b8d29", func := "deckle/decklelaw02.CrcPieces", spec := "crcPieces", unfollowed := true, recurses := true, apart := false }
def CrcPiecesSaid : Prop := crcPiecesRow.holds Try.pinned (OpenSpec.ofChange crcPiecesSpec)

/-- ITS FALSE NEIGHBOUR: 'it returns false'. Refute it at one input. -/
def crcPiecesWrong : ChangeSpec := { name := "crcPieces", fn := fun _ => fun
  | [d1, d2] => { results := [.lit (.bool false)], args := [d1, d2] }
  | _ => none }
def CrcPiecesWrongFalsely : Prop := crcPiecesRow.holds Try.pinned (OpenSpec.ofChange crcPiecesWrong)

/-- 'decklelaw02.CrcPuts': WHATEVER THE INPUT: true; the input reads as it did. -/
def crcPutsSpec : ChangeSpec := { name := "crcPuts", fn := fun _ => fun
  | [d1, d2] => { results := [.lit (.bool true)], args := [d1, d2] }
  | _ => none }
def crcPutsRow : OpenClaim := { program := "ytkngkjgapgnmbaa", sum := "3ab275dec4b6d44b599714ca5ff057de51abe0d9711e500b96d5e547f32b8d29", func := "deckle/decklelaw02.CrcPuts", spec := "crcPuts", unfollowed := true, recurses := true, apart := false }
def CrcPutsSaid : Prop := crcPutsRow.holds Try.pinned (OpenSpec.ofChange crcPutsSpec)

/-- ITS FALSE NEIGHBOUR: 'it returns false'. Refute it at one input. -/
def crcPutsWrong : ChangeSpec := { name := "crcPuts", fn := fun _ => fun
  | [d1, d2] => { results := [.lit (.bool false)], args := [d1, d2] }
  | _ => none }
def CrcPutsWrongFalsely : Prop := crcPutsRow.holds Try.pinned (OpenSpec.ofChange crcPutsWrong)

/-- 'decklelaw02.CrcSums': WHATEVER THE INPUT: true; the input reads as it did. -/
def crcSumsSpec : ChangeSpec := { name := "crcSums", fn := fun _ => fun
  | [d1, d2] => { results := [.lit (.bool true)], args := [d1, d2] }
  | _ => none }
def crcSumsRow : OpenClaim := { program := "ytkngkjgapgnmbaa", sum := "3ab275dec4b6d44b599714ca5ff057de51abe0d9711e500b96d5e547f32b8d29", func := "deckle/decklelaw02.CrcSums", spec := "crcSums", unfollowed := true, recurses := true, apart := false }
def CrcSumsSaid : Prop := crcSumsRow.holds Try.pinned (OpenSpec.ofChange crcSumsSpec)

/-- ITS FALSE NEIGHBOUR: 'it returns false'. Refute it at one input. -/
def crcSumsWrong : ChangeSpec := { name := "crcSums", fn := fun _ => fun
  | [d1, d2] => { results := [.lit (.bool false)], args := [d1, d2] }
  | _ => none }
def CrcSumsWrongFalsely : Prop := crcSumsRow.holds Try.pinned (OpenSpec.ofChange crcSumsWrong)

/-- 'decklelaw02.CrcOpens': WHATEVER THE INPUT: true; the input reads as it did. -/
def crcOpensSpec : ChangeSpec := { name := "crcOpens", fn := fun _ => fun
  | [d] => { results := [.lit (.bool true)], args := [d] }
  | _ => none }
def crcOpensRow : OpenClaim := { program := "ytkngkjgapgnmbaa", sum := "3ab275dec4b6d44b599714ca5ff057de51abe0d9711e500b96d5e547f32b8d29", func := "deckle/decklelaw02.CrcOpens", spec := "crcOpens", unfollowed := true, recurses := true, apart := false }
def CrcOpensSaid : Prop := crcOpensRow.holds Try.pinned (OpenSpec.ofChange crcOpensSpec)

/-- ITS FALSE NEIGHBOUR: 'it returns false'. Refute it at one input. -/
def crcOpensWrong : ChangeSpec := { name := "crcOpens", fn := fun _ => fun
  | [d] => { results := [.lit (.bool false)], args := [d] }
  | _ => none }
def CrcOpensWrongFalsely : Prop := crcOpensRow.holds Try.pinned (OpenSpec.ofChange crcOpensWrong)

/-- 'decklelaw02.CrcTurns': WHATEVER THE INPUT: true; the input reads as it did. -/
def crcTurnsSpec : ChangeSpec := { name := "crcTurns", fn := fun _ => fun
  | [d1, d2] => { results := [.lit (.bool true)], args := [d1, d2] }
  | _ => none }
def crcTurnsRow : OpenClaim := { program := "ytkngkjgapgnmbaa", sum := "3ab275dec4b6d44b599714ca5ff057de51abe0d9711e500b96d5e547f32b8d29", func := "deckle/decklelaw02.CrcTurns", spec := "crcTurns", unfollowed := true, recurses := true, apart := false }
def CrcTurnsSaid : Prop := crcTurnsRow.holds Try.pinned (OpenSpec.ofChange crcTurnsSpec)

/-- ITS FALSE NEIGHBOUR: 'it returns false'. Refute it at one input. -/
def crcTurnsWrong : ChangeSpec := { name := "crcTurns", fn := fun _ => fun
  | [d1, d2] => { results := [.lit (.bool false)], args := [d1, d2] }
  | _ => none }
def CrcTurnsWrongFalsely : Prop := crcTurnsRow.holds Try.pinned (OpenSpec.ofChange crcTurnsWrong)

/-- 'decklelaw02.CrcBursts': WHATEVER THE INPUT: true; the input reads as it did. -/
def crcBurstsSpec : ChangeSpec := { name := "crcBursts", fn := fun _ => fun
  | [d1, d2, d3] => { results := [.lit (.bool true)], args := [d1, d2, d3] }
  | _ => none }
def crcBurstsRow : OpenClaim := { program := "ytkngkjgapgnmbaa", sum := "3ab275dec4b6d44b599714ca5ff057de51abe0d9711e500b96d5e547f32b8d29", func := "deckle/decklelaw02.CrcBursts", spec := "crcBursts", unfollowed := true, recurses := true, apart := false }
def CrcBurstsSaid : Prop := crcBurstsRow.holds Try.pinned (OpenSpec.ofChange crcBurstsSpec)

/-- ITS FALSE NEIGHBOUR: 'it returns false'. Refute it at one input. -/
def crcBurstsWrong : ChangeSpec := { name := "crcBursts", fn := fun _ => fun
  | [d1, d2, d3] => { results := [.lit (.bool false)], args := [d1, d2, d3] }
  | _ => none }
def CrcBurstsWrongFalsely : Prop := crcBurstsRow.holds Try.pinned (OpenSpec.ofChange crcBurstsWrong)

/-- 'decklelaw07.WeightOrder': WHATEVER THE INPUT: true; the input reads as it did. -/
def weightOrderSpec : ChangeSpec := { name := "weightOrder", fn := fun _ => fun
  | [d1, d2, d3] => { results := [.lit (.bool true)], args := [d1, d2, d3] }
  | _ => none }
def weightOrderRow : OpenClaim := { program := "ytkngkjgapgnmbaa", sum := "3ab275dec4b6d44b599714ca5ff057de51abe0d9711e500b96d5e547f32b8d29", func := "deckle/decklelaw07.WeightOrder", spec := "weightOrder", inPlace := ["math/bits.Add64"], apart := false }
def WeightOrderSaid : Prop := weightOrderRow.holds Try.pinned (OpenSpec.ofChange weightOrderSpec)

/-- ITS FALSE NEIGHBOUR: 'it returns false'. Refute it at one input. -/
def weightOrderWrong : ChangeSpec := { name := "weightOrder", fn := fun _ => fun
  | [d1, d2, d3] => { results := [.lit (.bool false)], args := [d1, d2, d3] }
  | _ => none }
def WeightOrderWrongFalsely : Prop := weightOrderRow.holds Try.pinned (OpenSpec.ofChange weightOrderWrong)

/-- 'decklelaw07.WeightPieces': WHATEVER THE INPUT: true; the input reads as it did. -/
def weightPiecesSpec : ChangeSpec := { name := "weightPieces", fn := fun _ => fun
  | [d1, d2] => { results := [.lit (.bool true)], args := [d1, d2] }
  | _ => none }
def weightPiecesRow : OpenClaim := { program := "ytkngkjgapgnmbaa", sum := "3ab275dec4b6d44b599714ca5ff057de51abe0d9711e500b96d5e547f32b8d29", func := "deckle/decklelaw07.WeightPieces", spec := "weightPieces", inPlace := ["math/bits.Add64"], apart := false }
def WeightPiecesSaid : Prop := weightPiecesRow.holds Try.pinned (OpenSpec.ofChange weightPiecesSpec)

/-- ITS FALSE NEIGHBOUR: 'it returns false'. Refute it at one input. -/
def weightPiecesWrong : ChangeSpec := { name := "weightPieces", fn := fun _ => fun
  | [d1, d2] => { results := [.lit (.bool false)], args := [d1, d2] }
  | _ => none }
def WeightPiecesWrongFalsely : Prop := weightPiecesRow.holds Try.pinned (OpenSpec.ofChange weightPiecesWrong)

/-- 'decklelaw07.WeightSums': WHATEVER THE INPUT: true; the input reads as it did. -/
def weightSumsSpec : ChangeSpec := { name := "weightSums", fn := fun _ => fun
  | [d] => { results := [.lit (.bool true)], args := [d] }
  | _ => none }
def weightSumsRow : OpenClaim := { program := "ytkngkjgapgnmbaa", sum := "3ab275dec4b6d44b599714ca5ff057de51abe0d9711e500b96d5e547f32b8d29", func := "deckle/decklelaw07.WeightSums", spec := "weightSums", inPlace := ["math/bits.Add64"], apart := false }
def WeightSumsSaid : Prop := weightSumsRow.holds Try.pinned (OpenSpec.ofChange weightSumsSpec)

/-- ITS FALSE NEIGHBOUR: 'it returns false'. Refute it at one input. -/
def weightSumsWrong : ChangeSpec := { name := "weightSums", fn := fun _ => fun
  | [d] => { results := [.lit (.bool false)], args := [d] }
  | _ => none }
def WeightSumsWrongFalsely : Prop := weightSumsRow.holds Try.pinned (OpenSpec.ofChange weightSumsWrong)

/-- 'decklelaw07.WeightNone': WHATEVER THE INPUT: true; the input reads as it did. -/
def weightNoneSpec : ChangeSpec := { name := "weightNone", fn := fun _ => fun
  | [d] => { results := [.lit (.bool true)], args := [d] }
  | _ => none }
def weightNoneRow : OpenClaim := { program := "ytkngkjgapgnmbaa", sum := "3ab275dec4b6d44b599714ca5ff057de51abe0d9711e500b96d5e547f32b8d29", func := "deckle/decklelaw07.WeightNone", spec := "weightNone", inPlace := ["math/bits.Add64"], apart := false }
def WeightNoneSaid : Prop := weightNoneRow.holds Try.pinned (OpenSpec.ofChange weightNoneSpec)

/-- ITS FALSE NEIGHBOUR: 'it returns false'. Refute it at one input. -/
def weightNoneWrong : ChangeSpec := { name := "weightNone", fn := fun _ => fun
  | [d] => { results := [.lit (.bool false)], args := [d] }
  | _ => none }
def WeightNoneWrongFalsely : Prop := weightNoneRow.holds Try.pinned (OpenSpec.ofChange weightNoneWrong)

/-- 'decklelaw01.WireRows': WHATEVER THE INPUT: true; the input reads as it did. -/
def wireRowsSpec : ChangeSpec := { name := "wireRows", fn := fun _ => fun
  | [d] => { results := [.lit (.bool true)], args := [d] }
  | _ => none }
def wireRowsRow : OpenClaim := { program := "ytkngkjgapgnmbaa", sum := "3ab275dec4b6d44b599714ca5ff057de51abe0d9711e500b96d5e547f32b8d29", func := "deckle/decklelaw01.WireRows", spec := "wireRows", apart := false }
def WireRowsSaid : Prop := wireRowsRow.holds Try.pinned (OpenSpec.ofChange wireRowsSpec)

/-- ITS FALSE NEIGHBOUR: 'it returns false'. Refute it at one input. -/
def wireRowsWrong : ChangeSpec := { name := "wireRows", fn := fun _ => fun
  | [d] => { results := [.lit (.bool false)], args := [d] }
  | _ => none }
def WireRowsWrongFalsely : Prop := wireRowsRow.holds Try.pinned (OpenSpec.ofChange wireRowsWrong)

/-- 'decklelaw07.WeightAdds': WHATEVER THE INPUT: true; the input reads as it did. -/
def weightAddsSpec : ChangeSpec := { name := "weightAdds", fn := fun _ => fun
  | [d1, d2] => { results := [.lit (.bool true)], args := [d1, d2] }
  | _ => none }
def weightAddsRow : OpenClaim := { program := "ytkngkjgapgnmbaa", sum := "3ab275dec4b6d44b599714ca5ff057de51abe0d9711e500b96d5e547f32b8d29", func := "deckle/decklelaw07.WeightAdds", spec := "weightAdds", inPlace := ["math/bits.Add64"], apart := false }
def WeightAddsSaid : Prop := weightAddsRow.holds Try.pinned (OpenSpec.ofChange weightAddsSpec)

/-- ITS FALSE NEIGHBOUR: 'it returns false'. Refute it at one input. -/
def weightAddsWrong : ChangeSpec := { name := "weightAdds", fn := fun _ => fun
  | [d1, d2] => { results := [.lit (.bool false)], args := [d1, d2] }
  | _ => none }
def WeightAddsWrongFalsely : Prop := weightAddsRow.holds Try.pinned (OpenSpec.ofChange weightAddsWrong)

/- THE SECOND FORM. 'bulk': how many values and letters a reading holds, each counted each time it is reached (what is shared counts as often as it is met; a slice's spare places count too). A statement '..UptoSaid' is the law's where the arguments, and the package variables that the reading takes, are together of bulk at most 1048576: NARROWER than '..Said'. Prove '..Said' where nothing that the law and all that it calls make is longer than what came in: it says more and counts as full. Else prove '..UptoSaid'. A law counts once. -/
mutual
def uptoBulk {H : Type} : DataW H → Nat
  | .lit (.string bytes) => bytes.length + 1
  | .lit _ => 1
  | .nil => 1
  | .ptr d => uptoBulk d + 1
  | .slice elems spare => uptoBulkAll elems + uptoBulkAll spare + 1
  | .agg parts => uptoBulkAll parts + 1
  | .iface _ d => uptoBulk d + 1
  | .map entries => uptoBulkEntries entries + 1
  | .held _ => 1
def uptoBulkAll {H : Type} : List (DataW H) → Nat
  | [] => 0
  | d :: r => uptoBulk d + uptoBulkAll r
def uptoBulkEntries {H : Type} : List (Lit × DataW H) → Nat
  | [] => 0
  | x :: r => uptoBulkEntry x + uptoBulkEntries r
def uptoBulkEntry {H : Type} : Lit × DataW H → Nat
  | (.string bytes, d) => bytes.length + uptoBulk d + 1
  | (_, d) => uptoBulk d + 1
 end
def uptoSmall : (H : Type) → List (DataW H) → Bool := fun _ ds => decide (uptoBulkAll ds ≤ 1048576)
def OpenSpec.upto (s : _root_.Go.ChangeSpec) : _root_.Go.OpenSpec := { _root_.Go.OpenSpec.ofChange s with cond := some uptoSmall }

/-- 'decklelaw02.CrcPieces', WHERE WHAT IT READS IS OF BULK AT MOST 1048576: true; the input reads as it did. -/
def crcPiecesUptoRow : OpenClaim := { program := "ytkngkjgapgnmbaa", sum := "3ab275dec4b6d44b599714ca5ff057de51abe0d9711e500b96d5e547f32b8d29", func := "deckle/decklelaw02.CrcPieces", spec := "crcPieces", unfollowed := true, recurses := true, apart := false, narrowed := true }
def CrcPiecesUptoSaid : Prop := crcPiecesUptoRow.holds Try.pinned (OpenSpec.upto crcPiecesSpec)

/-- 'decklelaw02.CrcPuts', WHERE WHAT IT READS IS OF BULK AT MOST 1048576: true; the input reads as it did. -/
def crcPutsUptoRow : OpenClaim := { program := "ytkngkjgapgnmbaa", sum := "3ab275dec4b6d44b599714ca5ff057de51abe0d9711e500b96d5e547f32b8d29", func := "deckle/decklelaw02.CrcPuts", spec := "crcPuts", unfollowed := true, recurses := true, apart := false, narrowed := true }
def CrcPutsUptoSaid : Prop := crcPutsUptoRow.holds Try.pinned (OpenSpec.upto crcPutsSpec)

/-- 'decklelaw02.CrcSums', WHERE WHAT IT READS IS OF BULK AT MOST 1048576: true; the input reads as it did. -/
def crcSumsUptoRow : OpenClaim := { program := "ytkngkjgapgnmbaa", sum := "3ab275dec4b6d44b599714ca5ff057de51abe0d9711e500b96d5e547f32b8d29", func := "deckle/decklelaw02.CrcSums", spec := "crcSums", unfollowed := true, recurses := true, apart := false, narrowed := true }
def CrcSumsUptoSaid : Prop := crcSumsUptoRow.holds Try.pinned (OpenSpec.upto crcSumsSpec)

/-- 'decklelaw02.CrcOpens', WHERE WHAT IT READS IS OF BULK AT MOST 1048576: true; the input reads as it did. -/
def crcOpensUptoRow : OpenClaim := { program := "ytkngkjgapgnmbaa", sum := "3ab275dec4b6d44b599714ca5ff057de51abe0d9711e500b96d5e547f32b8d29", func := "deckle/decklelaw02.CrcOpens", spec := "crcOpens", unfollowed := true, recurses := true, apart := false, narrowed := true }
def CrcOpensUptoSaid : Prop := crcOpensUptoRow.holds Try.pinned (OpenSpec.upto crcOpensSpec)

/-- 'decklelaw02.CrcTurns', WHERE WHAT IT READS IS OF BULK AT MOST 1048576: true; the input reads as it did. -/
def crcTurnsUptoRow : OpenClaim := { program := "ytkngkjgapgnmbaa", sum := "3ab275dec4b6d44b599714ca5ff057de51abe0d9711e500b96d5e547f32b8d29", func := "deckle/decklelaw02.CrcTurns", spec := "crcTurns", unfollowed := true, recurses := true, apart := false, narrowed := true }
def CrcTurnsUptoSaid : Prop := crcTurnsUptoRow.holds Try.pinned (OpenSpec.upto crcTurnsSpec)

/-- 'decklelaw02.CrcBursts', WHERE WHAT IT READS IS OF BULK AT MOST 1048576: true; the input reads as it did. -/
def crcBurstsUptoRow : OpenClaim := { program := "ytkngkjgapgnmbaa", sum := "3ab275dec4b6d44b599714ca5ff057de51abe0d9711e500b96d5e547f32b8d29", func := "deckle/decklelaw02.CrcBursts", spec := "crcBursts", unfollowed := true, recurses := true, apart := false, narrowed := true }
def CrcBurstsUptoSaid : Prop := crcBurstsUptoRow.holds Try.pinned (OpenSpec.upto crcBurstsSpec)

/-- 'decklelaw07.WeightOrder', WHERE WHAT IT READS IS OF BULK AT MOST 1048576: true; the input reads as it did. -/
def weightOrderUptoRow : OpenClaim := { program := "ytkngkjgapgnmbaa", sum := "3ab275dec4b6d44b599714ca5ff057de51abe0d9711e500b96d5e547f32b8d29", func := "deckle/decklelaw07.WeightOrder", spec := "weightOrder", inPlace := ["math/bits.Add64"], apart := false, narrowed := true }
def WeightOrderUptoSaid : Prop := weightOrderUptoRow.holds Try.pinned (OpenSpec.upto weightOrderSpec)

/-- 'decklelaw07.WeightPieces', WHERE WHAT IT READS IS OF BULK AT MOST 1048576: true; the input reads as it did. -/
def weightPiecesUptoRow : OpenClaim := { program := "ytkngkjgapgnmbaa", sum := "3ab275dec4b6d44b599714ca5ff057de51abe0d9711e500b96d5e547f32b8d29", func := "deckle/decklelaw07.WeightPieces", spec := "weightPieces", inPlace := ["math/bits.Add64"], apart := false, narrowed := true }
def WeightPiecesUptoSaid : Prop := weightPiecesUptoRow.holds Try.pinned (OpenSpec.upto weightPiecesSpec)

/-- 'decklelaw07.WeightSums', WHERE WHAT IT READS IS OF BULK AT MOST 1048576: true; the input reads as it did. -/
def weightSumsUptoRow : OpenClaim := { program := "ytkngkjgapgnmbaa", sum := "3ab275dec4b6d44b599714ca5ff057de51abe0d9711e500b96d5e547f32b8d29", func := "deckle/decklelaw07.WeightSums", spec := "weightSums", inPlace := ["math/bits.Add64"], apart := false, narrowed := true }
def WeightSumsUptoSaid : Prop := weightSumsUptoRow.holds Try.pinned (OpenSpec.upto weightSumsSpec)

/-- 'decklelaw07.WeightNone', WHERE WHAT IT READS IS OF BULK AT MOST 1048576: true; the input reads as it did. -/
def weightNoneUptoRow : OpenClaim := { program := "ytkngkjgapgnmbaa", sum := "3ab275dec4b6d44b599714ca5ff057de51abe0d9711e500b96d5e547f32b8d29", func := "deckle/decklelaw07.WeightNone", spec := "weightNone", inPlace := ["math/bits.Add64"], apart := false, narrowed := true }
def WeightNoneUptoSaid : Prop := weightNoneUptoRow.holds Try.pinned (OpenSpec.upto weightNoneSpec)

/-- 'decklelaw01.WireRows', WHERE WHAT IT READS IS OF BULK AT MOST 1048576: true; the input reads as it did. -/
def wireRowsUptoRow : OpenClaim := { program := "ytkngkjgapgnmbaa", sum := "3ab275dec4b6d44b599714ca5ff057de51abe0d9711e500b96d5e547f32b8d29", func := "deckle/decklelaw01.WireRows", spec := "wireRows", apart := false, narrowed := true }
def WireRowsUptoSaid : Prop := wireRowsUptoRow.holds Try.pinned (OpenSpec.upto wireRowsSpec)

/-- 'decklelaw07.WeightAdds', WHERE WHAT IT READS IS OF BULK AT MOST 1048576: true; the input reads as it did. -/
def weightAddsUptoRow : OpenClaim := { program := "ytkngkjgapgnmbaa", sum := "3ab275dec4b6d44b599714ca5ff057de51abe0d9711e500b96d5e547f32b8d29", func := "deckle/decklelaw07.WeightAdds", spec := "weightAdds", inPlace := ["math/bits.Add64"], apart := false, narrowed := true }
def WeightAddsUptoSaid : Prop := weightAddsUptoRow.holds Try.pinned (OpenSpec.upto weightAddsSpec)

end Rows
end Go.Proofs.Ytkngkjgapgnmbaa
