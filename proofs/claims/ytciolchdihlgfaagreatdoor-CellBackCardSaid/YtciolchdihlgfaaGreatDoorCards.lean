/-
  DERIVED. GIVEN WITH THE SEED: THE CARDS: each row of YtciolchdihlgfaaGreatDoorRows.lean that lists a variable, with what it lists TIED to the program's text (the seventh form; the later family's looks); each row that meets fmt, with fmt's text TOLD by the authors' own Lean function (tested against real Go, not proved from fmt's source: count such statements apart). THE CARD IS WHAT COUNTS. Prove the row's statement (the work); the ties are given (YtciolchdihlgfaaGreatDoorTie.lean); close each card by the builder's one call (the guide's Derived/Test/ToyasCard.lean, 'card_holds'). Laid BY PROGRAM, IN A SANDBOX (cutbox-door.mjs). By AI agents, Wed Nov 11 2026. No macro, syntax, notation, axiom, sorry.
-/
import Derived.Test.YtciolchdihlgfaaGreatDoorRows
import GoSem.ClaimSeven
namespace Go.Proofs.YtciolchdihlgfaaGreatDoor
namespace Rows

/-- THE TIED CARD OF 'decklelaw04.CellTexts'. -/
def cellTextsCard : Claim7 := { stood := { row := cellTextsRow, standIns := [], harness := (true, "5d4332c331e5b2bd539ff75bf60f70c5403d278c789d87b1ad27424454b6a2ad"), looks := true }, kinds := [], alts := [], laidByText := true, laidKinds := [.data, .data, .data, .data, .sentinel, .sentinel, .pinned], laidTests := true, laidLooks := .later }
def CellTextsCardSaid : Prop := Claim7.holds Tryz.pinned (.plain (OpenSpec.ofChange cellTextsSpec)) cellTextsCard

/-- THE TIED CARD OF 'decklelaw04.CellBack'. -/
def cellBackCard : Claim7 := { stood := { row := cellBackRow, standIns := [], harness := (true, "5d4332c331e5b2bd539ff75bf60f70c5403d278c789d87b1ad27424454b6a2ad"), looks := true }, kinds := [], alts := [], laidByText := true, laidKinds := [.data, .data, .data, .data, .sentinel, .sentinel, .pinned], laidTests := true, laidLooks := .later }
def CellBackCardSaid : Prop := Claim7.holds Tryz.pinned (.plain (OpenSpec.ofChange cellBackSpec)) cellBackCard

/-- THE TIED CARD OF 'decklelaw06.RowFirst'. -/
def rowFirstCard : Claim7 := { stood := { row := rowFirstRow, standIns := [], harness := (true, "5d4332c331e5b2bd539ff75bf60f70c5403d278c789d87b1ad27424454b6a2ad"), looks := true }, kinds := [], alts := [], laidByText := true, laidKinds := [.data, .data, .data, .data, .sentinel, .sentinel, .widerDeep, .pinned], laidTests := true, laidLooks := .later }
def RowFirstCardSaid : Prop := Claim7.holds Tryz.pinned (.plain (OpenSpec.ofChange rowFirstSpec)) rowFirstCard

/-- THE TIED CARD OF 'decklelaw06.RowOrder'. -/
def rowOrderCard : Claim7 := { stood := { row := rowOrderRow, standIns := [], harness := (true, "5d4332c331e5b2bd539ff75bf60f70c5403d278c789d87b1ad27424454b6a2ad"), looks := true }, kinds := [], alts := [], laidByText := true, laidKinds := [.data, .data, .data, .data, .sentinel, .sentinel, .widerDeep, .pinned], laidTests := true, laidLooks := .later }
def RowOrderCardSaid : Prop := Claim7.holds Tryz.pinned (.plain (OpenSpec.ofChange rowOrderSpec)) rowOrderCard

/-- THE TIED CARD OF 'decklelaw06.RowChecks'. -/
def rowChecksCard : Claim7 := { stood := { row := rowChecksRow, standIns := [], harness := (true, "5d4332c331e5b2bd539ff75bf60f70c5403d278c789d87b1ad27424454b6a2ad"), looks := true }, kinds := [], alts := [], laidByText := true, laidKinds := [.data, .data, .data, .data, .sentinel, .sentinel, .widerDeep, .pinned], laidTests := true, laidLooks := .later }
def RowChecksCardSaid : Prop := Claim7.holds Tryz.pinned (.plain (OpenSpec.ofChange rowChecksSpec)) rowChecksCard

/-- THE TIED CARD OF 'decklelaw06.RowTexts'. -/
def rowTextsCard : Claim7 := { stood := { row := rowTextsRow, standIns := [], harness := (true, "5d4332c331e5b2bd539ff75bf60f70c5403d278c789d87b1ad27424454b6a2ad"), looks := true }, kinds := [], alts := [], laidByText := true, laidKinds := [.data, .data, .data, .data, .sentinel, .sentinel, .widerDeep, .pinned], laidTests := true, laidLooks := .later }
def RowTextsCardSaid : Prop := Claim7.holds Tryz.pinned (.plain (OpenSpec.ofChange rowTextsSpec)) rowTextsCard

/-- THE TIED CARD OF 'decklelaw06.RowBack'. -/
def rowBackCard : Claim7 := { stood := { row := rowBackRow, standIns := [], harness := (true, "5d4332c331e5b2bd539ff75bf60f70c5403d278c789d87b1ad27424454b6a2ad"), looks := true }, kinds := [], alts := [], laidByText := true, laidKinds := [.data, .data, .data, .data, .sentinel, .sentinel, .widerDeep, .pinned], laidTests := true, laidLooks := .later }
def RowBackCardSaid : Prop := Claim7.holds Tryz.pinned (.plain (OpenSpec.ofChange rowBackSpec)) rowBackCard

/-- THE TIED CARD OF 'decklelaw08.ZsetCollects'. -/
def zsetCollectsCard : Claim7 := { stood := { row := zsetCollectsRow, standIns := [], harness := (true, "5d4332c331e5b2bd539ff75bf60f70c5403d278c789d87b1ad27424454b6a2ad"), looks := true }, kinds := [], alts := [], laidByText := true, laidKinds := [.data, .data, .data, .data, .sentinel, .sentinel, .widerDeep, .pinned], laidTests := true, laidLooks := .later }
def ZsetCollectsCardSaid : Prop := Claim7.holds Tryz.pinned (.plain (OpenSpec.ofChange zsetCollectsSpec)) zsetCollectsCard

/-- THE TIED CARD OF 'decklelaw08.ZsetTexts'. -/
def zsetTextsCard : Claim7 := { stood := { row := zsetTextsRow, standIns := [], harness := (true, "5d4332c331e5b2bd539ff75bf60f70c5403d278c789d87b1ad27424454b6a2ad"), looks := true }, kinds := [], alts := [], laidByText := true, laidKinds := [.data, .data, .data, .data, .sentinel, .sentinel, .widerDeep, .pinned], laidTests := true, laidLooks := .later }
def ZsetTextsCardSaid : Prop := Claim7.holds Tryz.pinned (.plain (OpenSpec.ofChange zsetTextsSpec)) zsetTextsCard

/-- THE TIED CARD OF 'decklelaw08.ZsetOrder'. -/
def zsetOrderCard : Claim7 := { stood := { row := zsetOrderRow, standIns := [], harness := (true, "5d4332c331e5b2bd539ff75bf60f70c5403d278c789d87b1ad27424454b6a2ad"), looks := true }, kinds := [], alts := [], laidByText := true, laidKinds := [.data, .data, .data, .data, .sentinel, .sentinel, .widerDeep, .pinned], laidTests := true, laidLooks := .later }
def ZsetOrderCardSaid : Prop := Claim7.holds Tryz.pinned (.plain (OpenSpec.ofChange zsetOrderSpec)) zsetOrderCard

/-- THE TIED CARD OF 'decklelaw08.ZsetOver'. -/
def zsetOverCard : Claim7 := { stood := { row := zsetOverRow, standIns := [], harness := (true, "5d4332c331e5b2bd539ff75bf60f70c5403d278c789d87b1ad27424454b6a2ad"), looks := true }, kinds := [], alts := [], laidByText := true, laidKinds := [.data, .data, .data, .data, .sentinel, .sentinel, .widerDeep, .pinned], laidTests := true, laidLooks := .later }
def ZsetOverCardSaid : Prop := Claim7.holds Tryz.pinned (.plain (OpenSpec.ofChange zsetOverSpec)) zsetOverCard

/-- THE TIED CARD OF 'decklelaw08.ZsetGroup'. -/
def zsetGroupCard : Claim7 := { stood := { row := zsetGroupRow, standIns := [], harness := (true, "5d4332c331e5b2bd539ff75bf60f70c5403d278c789d87b1ad27424454b6a2ad"), looks := true }, kinds := [], alts := [], laidByText := true, laidKinds := [.data, .data, .data, .data, .sentinel, .sentinel, .widerDeep, .pinned], laidTests := true, laidLooks := .later }
def ZsetGroupCardSaid : Prop := Claim7.holds Tryz.pinned (.plain (OpenSpec.ofChange zsetGroupSpec)) zsetGroupCard

/-- THE TIED CARD OF 'decklelaw08.ZsetNegs'. -/
def zsetNegsCard : Claim7 := { stood := { row := zsetNegsRow, standIns := [], harness := (true, "5d4332c331e5b2bd539ff75bf60f70c5403d278c789d87b1ad27424454b6a2ad"), looks := true }, kinds := [], alts := [], laidByText := true, laidKinds := [.data, .data, .data, .data, .sentinel, .sentinel, .widerDeep, .pinned], laidTests := true, laidLooks := .later }
def ZsetNegsCardSaid : Prop := Claim7.holds Tryz.pinned (.plain (OpenSpec.ofChange zsetNegsSpec)) zsetNegsCard

/-- THE TIED CARD OF 'decklelaw08.ZsetLess'. -/
def zsetLessCard : Claim7 := { stood := { row := zsetLessRow, standIns := [], harness := (true, "5d4332c331e5b2bd539ff75bf60f70c5403d278c789d87b1ad27424454b6a2ad"), looks := true }, kinds := [], alts := [], laidByText := true, laidKinds := [.data, .data, .data, .data, .sentinel, .sentinel, .widerDeep, .pinned], laidTests := true, laidLooks := .later }
def ZsetLessCardSaid : Prop := Claim7.holds Tryz.pinned (.plain (OpenSpec.ofChange zsetLessSpec)) zsetLessCard

/-- THE TIED CARD OF 'decklelaw08.ZsetSums'. -/
def zsetSumsCard : Claim7 := { stood := { row := zsetSumsRow, standIns := [], harness := (true, "5d4332c331e5b2bd539ff75bf60f70c5403d278c789d87b1ad27424454b6a2ad"), looks := true }, kinds := [], alts := [], laidByText := true, laidKinds := [.data, .data, .data, .data, .sentinel, .sentinel, .widerDeep, .pinned], laidTests := true, laidLooks := .later }
def ZsetSumsCardSaid : Prop := Claim7.holds Tryz.pinned (.plain (OpenSpec.ofChange zsetSumsSpec)) zsetSumsCard

/-- THE SECOND FORM's CARD OF 'decklelaw04.CellTexts'. -/
def cellTextsUptoCard : Claim7 := { stood := { row := cellTextsUptoRow, standIns := [], harness := (true, "5d4332c331e5b2bd539ff75bf60f70c5403d278c789d87b1ad27424454b6a2ad"), looks := true }, kinds := [], alts := [], laidByText := true, laidKinds := [.data, .data, .data, .data, .sentinel, .sentinel, .pinned], laidTests := true, laidLooks := .later }
def CellTextsUptoCardSaid : Prop := Claim7.holds Tryz.pinned (.plain (OpenSpec.upto cellTextsSpec)) cellTextsUptoCard

/-- THE SECOND FORM's CARD OF 'decklelaw04.CellBack'. -/
def cellBackUptoCard : Claim7 := { stood := { row := cellBackUptoRow, standIns := [], harness := (true, "5d4332c331e5b2bd539ff75bf60f70c5403d278c789d87b1ad27424454b6a2ad"), looks := true }, kinds := [], alts := [], laidByText := true, laidKinds := [.data, .data, .data, .data, .sentinel, .sentinel, .pinned], laidTests := true, laidLooks := .later }
def CellBackUptoCardSaid : Prop := Claim7.holds Tryz.pinned (.plain (OpenSpec.upto cellBackSpec)) cellBackUptoCard

/-- THE SECOND FORM's CARD OF 'decklelaw06.RowFirst'. -/
def rowFirstUptoCard : Claim7 := { stood := { row := rowFirstUptoRow, standIns := [], harness := (true, "5d4332c331e5b2bd539ff75bf60f70c5403d278c789d87b1ad27424454b6a2ad"), looks := true }, kinds := [], alts := [], laidByText := true, laidKinds := [.data, .data, .data, .data, .sentinel, .sentinel, .widerDeep, .pinned], laidTests := true, laidLooks := .later }
def RowFirstUptoCardSaid : Prop := Claim7.holds Tryz.pinned (.plain (OpenSpec.upto rowFirstSpec)) rowFirstUptoCard

/-- THE SECOND FORM's CARD OF 'decklelaw06.RowOrder'. -/
def rowOrderUptoCard : Claim7 := { stood := { row := rowOrderUptoRow, standIns := [], harness := (true, "5d4332c331e5b2bd539ff75bf60f70c5403d278c789d87b1ad27424454b6a2ad"), looks := true }, kinds := [], alts := [], laidByText := true, laidKinds := [.data, .data, .data, .data, .sentinel, .sentinel, .widerDeep, .pinned], laidTests := true, laidLooks := .later }
def RowOrderUptoCardSaid : Prop := Claim7.holds Tryz.pinned (.plain (OpenSpec.upto rowOrderSpec)) rowOrderUptoCard

/-- THE SECOND FORM's CARD OF 'decklelaw06.RowChecks'. -/
def rowChecksUptoCard : Claim7 := { stood := { row := rowChecksUptoRow, standIns := [], harness := (true, "5d4332c331e5b2bd539ff75bf60f70c5403d278c789d87b1ad27424454b6a2ad"), looks := true }, kinds := [], alts := [], laidByText := true, laidKinds := [.data, .data, .data, .data, .sentinel, .sentinel, .widerDeep, .pinned], laidTests := true, laidLooks := .later }
def RowChecksUptoCardSaid : Prop := Claim7.holds Tryz.pinned (.plain (OpenSpec.upto rowChecksSpec)) rowChecksUptoCard

/-- THE SECOND FORM's CARD OF 'decklelaw06.RowTexts'. -/
def rowTextsUptoCard : Claim7 := { stood := { row := rowTextsUptoRow, standIns := [], harness := (true, "5d4332c331e5b2bd539ff75bf60f70c5403d278c789d87b1ad27424454b6a2ad"), looks := true }, kinds := [], alts := [], laidByText := true, laidKinds := [.data, .data, .data, .data, .sentinel, .sentinel, .widerDeep, .pinned], laidTests := true, laidLooks := .later }
def RowTextsUptoCardSaid : Prop := Claim7.holds Tryz.pinned (.plain (OpenSpec.upto rowTextsSpec)) rowTextsUptoCard

/-- THE SECOND FORM's CARD OF 'decklelaw06.RowBack'. -/
def rowBackUptoCard : Claim7 := { stood := { row := rowBackUptoRow, standIns := [], harness := (true, "5d4332c331e5b2bd539ff75bf60f70c5403d278c789d87b1ad27424454b6a2ad"), looks := true }, kinds := [], alts := [], laidByText := true, laidKinds := [.data, .data, .data, .data, .sentinel, .sentinel, .widerDeep, .pinned], laidTests := true, laidLooks := .later }
def RowBackUptoCardSaid : Prop := Claim7.holds Tryz.pinned (.plain (OpenSpec.upto rowBackSpec)) rowBackUptoCard

/-- THE SECOND FORM's CARD OF 'decklelaw08.ZsetCollects'. -/
def zsetCollectsUptoCard : Claim7 := { stood := { row := zsetCollectsUptoRow, standIns := [], harness := (true, "5d4332c331e5b2bd539ff75bf60f70c5403d278c789d87b1ad27424454b6a2ad"), looks := true }, kinds := [], alts := [], laidByText := true, laidKinds := [.data, .data, .data, .data, .sentinel, .sentinel, .widerDeep, .pinned], laidTests := true, laidLooks := .later }
def ZsetCollectsUptoCardSaid : Prop := Claim7.holds Tryz.pinned (.plain (OpenSpec.upto zsetCollectsSpec)) zsetCollectsUptoCard

/-- THE SECOND FORM's CARD OF 'decklelaw08.ZsetTexts'. -/
def zsetTextsUptoCard : Claim7 := { stood := { row := zsetTextsUptoRow, standIns := [], harness := (true, "5d4332c331e5b2bd539ff75bf60f70c5403d278c789d87b1ad27424454b6a2ad"), looks := true }, kinds := [], alts := [], laidByText := true, laidKinds := [.data, .data, .data, .data, .sentinel, .sentinel, .widerDeep, .pinned], laidTests := true, laidLooks := .later }
def ZsetTextsUptoCardSaid : Prop := Claim7.holds Tryz.pinned (.plain (OpenSpec.upto zsetTextsSpec)) zsetTextsUptoCard

/-- THE SECOND FORM's CARD OF 'decklelaw08.ZsetOrder'. -/
def zsetOrderUptoCard : Claim7 := { stood := { row := zsetOrderUptoRow, standIns := [], harness := (true, "5d4332c331e5b2bd539ff75bf60f70c5403d278c789d87b1ad27424454b6a2ad"), looks := true }, kinds := [], alts := [], laidByText := true, laidKinds := [.data, .data, .data, .data, .sentinel, .sentinel, .widerDeep, .pinned], laidTests := true, laidLooks := .later }
def ZsetOrderUptoCardSaid : Prop := Claim7.holds Tryz.pinned (.plain (OpenSpec.upto zsetOrderSpec)) zsetOrderUptoCard

/-- THE SECOND FORM's CARD OF 'decklelaw08.ZsetOver'. -/
def zsetOverUptoCard : Claim7 := { stood := { row := zsetOverUptoRow, standIns := [], harness := (true, "5d4332c331e5b2bd539ff75bf60f70c5403d278c789d87b1ad27424454b6a2ad"), looks := true }, kinds := [], alts := [], laidByText := true, laidKinds := [.data, .data, .data, .data, .sentinel, .sentinel, .widerDeep, .pinned], laidTests := true, laidLooks := .later }
def ZsetOverUptoCardSaid : Prop := Claim7.holds Tryz.pinned (.plain (OpenSpec.upto zsetOverSpec)) zsetOverUptoCard

/-- THE SECOND FORM's CARD OF 'decklelaw08.ZsetGroup'. -/
def zsetGroupUptoCard : Claim7 := { stood := { row := zsetGroupUptoRow, standIns := [], harness := (true, "5d4332c331e5b2bd539ff75bf60f70c5403d278c789d87b1ad27424454b6a2ad"), looks := true }, kinds := [], alts := [], laidByText := true, laidKinds := [.data, .data, .data, .data, .sentinel, .sentinel, .widerDeep, .pinned], laidTests := true, laidLooks := .later }
def ZsetGroupUptoCardSaid : Prop := Claim7.holds Tryz.pinned (.plain (OpenSpec.upto zsetGroupSpec)) zsetGroupUptoCard

/-- THE SECOND FORM's CARD OF 'decklelaw08.ZsetNegs'. -/
def zsetNegsUptoCard : Claim7 := { stood := { row := zsetNegsUptoRow, standIns := [], harness := (true, "5d4332c331e5b2bd539ff75bf60f70c5403d278c789d87b1ad27424454b6a2ad"), looks := true }, kinds := [], alts := [], laidByText := true, laidKinds := [.data, .data, .data, .data, .sentinel, .sentinel, .widerDeep, .pinned], laidTests := true, laidLooks := .later }
def ZsetNegsUptoCardSaid : Prop := Claim7.holds Tryz.pinned (.plain (OpenSpec.upto zsetNegsSpec)) zsetNegsUptoCard

/-- THE SECOND FORM's CARD OF 'decklelaw08.ZsetLess'. -/
def zsetLessUptoCard : Claim7 := { stood := { row := zsetLessUptoRow, standIns := [], harness := (true, "5d4332c331e5b2bd539ff75bf60f70c5403d278c789d87b1ad27424454b6a2ad"), looks := true }, kinds := [], alts := [], laidByText := true, laidKinds := [.data, .data, .data, .data, .sentinel, .sentinel, .widerDeep, .pinned], laidTests := true, laidLooks := .later }
def ZsetLessUptoCardSaid : Prop := Claim7.holds Tryz.pinned (.plain (OpenSpec.upto zsetLessSpec)) zsetLessUptoCard

/-- THE SECOND FORM's CARD OF 'decklelaw08.ZsetSums'. -/
def zsetSumsUptoCard : Claim7 := { stood := { row := zsetSumsUptoRow, standIns := [], harness := (true, "5d4332c331e5b2bd539ff75bf60f70c5403d278c789d87b1ad27424454b6a2ad"), looks := true }, kinds := [], alts := [], laidByText := true, laidKinds := [.data, .data, .data, .data, .sentinel, .sentinel, .widerDeep, .pinned], laidTests := true, laidLooks := .later }
def ZsetSumsUptoCardSaid : Prop := Claim7.holds Tryz.pinned (.plain (OpenSpec.upto zsetSumsSpec)) zsetSumsUptoCard
end Rows
end Go.Proofs.YtciolchdihlgfaaGreatDoor
