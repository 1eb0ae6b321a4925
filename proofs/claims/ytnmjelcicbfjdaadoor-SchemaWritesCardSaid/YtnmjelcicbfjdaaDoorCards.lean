/-
  DERIVED. GIVEN WITH THE SEED: THE CARDS: each row of YtnmjelcicbfjdaaDoorRows.lean that lists a variable, with what it lists TIED to the program's text (the seventh form; the later family's looks); each row that meets fmt, with fmt's text TOLD by the authors' own Lean function (tested against real Go, not proved from fmt's source: count such statements apart). THE CARD IS WHAT COUNTS. Prove the row's statement (the work); the ties are given (YtnmjelcicbfjdaaDoorTie.lean); close each card by the builder's one call (the guide's Derived/Test/ToyasCard.lean, 'card_holds'). Laid BY PROGRAM, IN A SANDBOX (cutbox-door.mjs). By AI agents, Wed Nov 11 2026. No macro, syntax, notation, axiom, sorry.
-/
import Derived.Test.YtnmjelcicbfjdaaDoorRows
import GoSem.ClaimSeven
namespace Go.Proofs.YtnmjelcicbfjdaaDoor
namespace Rows

/-- THE TIED CARD OF 'decklelaw04.CellOrder'. -/
def cellOrderCard : Claim7 := { stood := { row := cellOrderRow, standIns := [], harness := (true, "ef714be5bb0ff6c07bd5df656f52c62732a6f3aa3f5cbe82a1345b03698c59e0"), looks := true }, kinds := [], alts := [], laidByText := true, laidKinds := [.data, .data, .data, .data, .pinned], laidTests := true, laidLooks := .later }
def CellOrderCardSaid : Prop := Claim7.holds Tryd.pinned (.plain (OpenSpec.ofChange cellOrderSpec)) cellOrderCard

/-- THE TIED CARD OF 'decklelaw04.CellEdges'. -/
def cellEdgesCard : Claim7 := { stood := { row := cellEdgesRow, standIns := [], harness := (true, "ef714be5bb0ff6c07bd5df656f52c62732a6f3aa3f5cbe82a1345b03698c59e0"), looks := true }, kinds := [], alts := [], laidByText := true, laidKinds := [.data, .data, .data, .data, .pinned], laidTests := true, laidLooks := .later }
def CellEdgesCardSaid : Prop := Claim7.holds Tryd.pinned (.plain (OpenSpec.ofChange cellEdgesSpec)) cellEdgesCard

/-- THE TIED CARD OF 'decklelaw04.CellFloats'. -/
def cellFloatsCard : Claim7 := { stood := { row := cellFloatsRow, standIns := [], harness := (true, "ef714be5bb0ff6c07bd5df656f52c62732a6f3aa3f5cbe82a1345b03698c59e0"), looks := true }, kinds := [], alts := [], laidByText := true, laidKinds := [.data, .data, .data, .data, .pinned], laidTests := true, laidLooks := .later }
def CellFloatsCardSaid : Prop := Claim7.holds Tryd.pinned (.plain (OpenSpec.ofChange cellFloatsSpec)) cellFloatsCard

/-- THE TIED CARD OF 'decklelaw04.CellChecks'. -/
def cellChecksCard : Claim7 := { stood := { row := cellChecksRow, standIns := [], harness := (true, "ef714be5bb0ff6c07bd5df656f52c62732a6f3aa3f5cbe82a1345b03698c59e0"), looks := true }, kinds := [], alts := [], laidByText := true, laidKinds := [.data, .data, .data, .data, .widerDeep, .pinned], laidTests := true, laidLooks := .later }
def CellChecksCardSaid : Prop := Claim7.holds Tryd.pinned (.plain (OpenSpec.ofChange cellChecksSpec)) cellChecksCard

/-- THE TIED CARD OF 'decklelaw05.SchemaPrints'. -/
def schemaPrintsCard : Claim7 := { stood := { row := schemaPrintsRow, standIns := [], harness := (true, "ef714be5bb0ff6c07bd5df656f52c62732a6f3aa3f5cbe82a1345b03698c59e0"), looks := true }, kinds := [], alts := [], laidByText := true, laidKinds := [.data, .widerDeep, .pinned], laidTests := true, laidLooks := .later }
def SchemaPrintsCardSaid : Prop := Claim7.holds Tryd.pinned (.plain (OpenSpec.ofChange schemaPrintsSpec)) schemaPrintsCard

/-- THE TIED CARD OF 'decklelaw05.SchemaWrites'. -/
def schemaWritesCard : Claim7 := { stood := { row := schemaWritesRow, standIns := [], harness := (true, "ef714be5bb0ff6c07bd5df656f52c62732a6f3aa3f5cbe82a1345b03698c59e0"), looks := true }, kinds := [], alts := [], laidByText := true, laidKinds := [.data, .widerDeep, .pinned], laidTests := true, laidLooks := .later }
def SchemaWritesCardSaid : Prop := Claim7.holds Tryd.pinned (.plain (OpenSpec.ofChange schemaWritesSpec)) schemaWritesCard

/-- THE TIED CARD OF 'decklelaw05.SchemaReads'. -/
def schemaReadsCard : Claim7 := { stood := { row := schemaReadsRow, standIns := [], harness := (true, "ef714be5bb0ff6c07bd5df656f52c62732a6f3aa3f5cbe82a1345b03698c59e0"), looks := true }, kinds := [], alts := [], laidByText := true, laidKinds := [.data, .widerDeep, .pinned], laidTests := true, laidLooks := .later }
def SchemaReadsCardSaid : Prop := Claim7.holds Tryd.pinned (.plain (OpenSpec.ofChange schemaReadsSpec)) schemaReadsCard

/-- THE TIED CARD OF 'decklelaw05.SchemaOne'. -/
def schemaOneCard : Claim7 := { stood := { row := schemaOneRow, standIns := [], harness := (true, "ef714be5bb0ff6c07bd5df656f52c62732a6f3aa3f5cbe82a1345b03698c59e0"), looks := true }, kinds := [], alts := [], laidByText := true, laidKinds := [.data, .widerDeep, .pinned], laidTests := true, laidLooks := .later }
def SchemaOneCardSaid : Prop := Claim7.holds Tryd.pinned (.plain (OpenSpec.ofChange schemaOneSpec)) schemaOneCard

/-- THE TIED CARD OF 'decklelaw05.SchemaBack'. -/
def schemaBackCard : Claim7 := { stood := { row := schemaBackRow, standIns := [], harness := (true, "ef714be5bb0ff6c07bd5df656f52c62732a6f3aa3f5cbe82a1345b03698c59e0"), looks := true }, kinds := [], alts := [], laidByText := true, laidKinds := [.data, .widerDeep, .pinned], laidTests := true, laidLooks := .later }
def SchemaBackCardSaid : Prop := Claim7.holds Tryd.pinned (.plain (OpenSpec.ofChange schemaBackSpec)) schemaBackCard

/-- THE SECOND FORM's CARD OF 'decklelaw04.CellOrder'. -/
def cellOrderUptoCard : Claim7 := { stood := { row := cellOrderUptoRow, standIns := [], harness := (true, "ef714be5bb0ff6c07bd5df656f52c62732a6f3aa3f5cbe82a1345b03698c59e0"), looks := true }, kinds := [], alts := [], laidByText := true, laidKinds := [.data, .data, .data, .data, .pinned], laidTests := true, laidLooks := .later }
def CellOrderUptoCardSaid : Prop := Claim7.holds Tryd.pinned (.plain (OpenSpec.upto cellOrderSpec)) cellOrderUptoCard

/-- THE SECOND FORM's CARD OF 'decklelaw04.CellEdges'. -/
def cellEdgesUptoCard : Claim7 := { stood := { row := cellEdgesUptoRow, standIns := [], harness := (true, "ef714be5bb0ff6c07bd5df656f52c62732a6f3aa3f5cbe82a1345b03698c59e0"), looks := true }, kinds := [], alts := [], laidByText := true, laidKinds := [.data, .data, .data, .data, .pinned], laidTests := true, laidLooks := .later }
def CellEdgesUptoCardSaid : Prop := Claim7.holds Tryd.pinned (.plain (OpenSpec.upto cellEdgesSpec)) cellEdgesUptoCard

/-- THE SECOND FORM's CARD OF 'decklelaw04.CellFloats'. -/
def cellFloatsUptoCard : Claim7 := { stood := { row := cellFloatsUptoRow, standIns := [], harness := (true, "ef714be5bb0ff6c07bd5df656f52c62732a6f3aa3f5cbe82a1345b03698c59e0"), looks := true }, kinds := [], alts := [], laidByText := true, laidKinds := [.data, .data, .data, .data, .pinned], laidTests := true, laidLooks := .later }
def CellFloatsUptoCardSaid : Prop := Claim7.holds Tryd.pinned (.plain (OpenSpec.upto cellFloatsSpec)) cellFloatsUptoCard

/-- THE SECOND FORM's CARD OF 'decklelaw04.CellChecks'. -/
def cellChecksUptoCard : Claim7 := { stood := { row := cellChecksUptoRow, standIns := [], harness := (true, "ef714be5bb0ff6c07bd5df656f52c62732a6f3aa3f5cbe82a1345b03698c59e0"), looks := true }, kinds := [], alts := [], laidByText := true, laidKinds := [.data, .data, .data, .data, .widerDeep, .pinned], laidTests := true, laidLooks := .later }
def CellChecksUptoCardSaid : Prop := Claim7.holds Tryd.pinned (.plain (OpenSpec.upto cellChecksSpec)) cellChecksUptoCard

/-- THE SECOND FORM's CARD OF 'decklelaw05.SchemaPrints'. -/
def schemaPrintsUptoCard : Claim7 := { stood := { row := schemaPrintsUptoRow, standIns := [], harness := (true, "ef714be5bb0ff6c07bd5df656f52c62732a6f3aa3f5cbe82a1345b03698c59e0"), looks := true }, kinds := [], alts := [], laidByText := true, laidKinds := [.data, .widerDeep, .pinned], laidTests := true, laidLooks := .later }
def SchemaPrintsUptoCardSaid : Prop := Claim7.holds Tryd.pinned (.plain (OpenSpec.upto schemaPrintsSpec)) schemaPrintsUptoCard

/-- THE SECOND FORM's CARD OF 'decklelaw05.SchemaWrites'. -/
def schemaWritesUptoCard : Claim7 := { stood := { row := schemaWritesUptoRow, standIns := [], harness := (true, "ef714be5bb0ff6c07bd5df656f52c62732a6f3aa3f5cbe82a1345b03698c59e0"), looks := true }, kinds := [], alts := [], laidByText := true, laidKinds := [.data, .widerDeep, .pinned], laidTests := true, laidLooks := .later }
def SchemaWritesUptoCardSaid : Prop := Claim7.holds Tryd.pinned (.plain (OpenSpec.upto schemaWritesSpec)) schemaWritesUptoCard

/-- THE SECOND FORM's CARD OF 'decklelaw05.SchemaReads'. -/
def schemaReadsUptoCard : Claim7 := { stood := { row := schemaReadsUptoRow, standIns := [], harness := (true, "ef714be5bb0ff6c07bd5df656f52c62732a6f3aa3f5cbe82a1345b03698c59e0"), looks := true }, kinds := [], alts := [], laidByText := true, laidKinds := [.data, .widerDeep, .pinned], laidTests := true, laidLooks := .later }
def SchemaReadsUptoCardSaid : Prop := Claim7.holds Tryd.pinned (.plain (OpenSpec.upto schemaReadsSpec)) schemaReadsUptoCard

/-- THE SECOND FORM's CARD OF 'decklelaw05.SchemaOne'. -/
def schemaOneUptoCard : Claim7 := { stood := { row := schemaOneUptoRow, standIns := [], harness := (true, "ef714be5bb0ff6c07bd5df656f52c62732a6f3aa3f5cbe82a1345b03698c59e0"), looks := true }, kinds := [], alts := [], laidByText := true, laidKinds := [.data, .widerDeep, .pinned], laidTests := true, laidLooks := .later }
def SchemaOneUptoCardSaid : Prop := Claim7.holds Tryd.pinned (.plain (OpenSpec.upto schemaOneSpec)) schemaOneUptoCard

/-- THE SECOND FORM's CARD OF 'decklelaw05.SchemaBack'. -/
def schemaBackUptoCard : Claim7 := { stood := { row := schemaBackUptoRow, standIns := [], harness := (true, "ef714be5bb0ff6c07bd5df656f52c62732a6f3aa3f5cbe82a1345b03698c59e0"), looks := true }, kinds := [], alts := [], laidByText := true, laidKinds := [.data, .widerDeep, .pinned], laidTests := true, laidLooks := .later }
def SchemaBackUptoCardSaid : Prop := Claim7.holds Tryd.pinned (.plain (OpenSpec.upto schemaBackSpec)) schemaBackUptoCard
end Rows
end Go.Proofs.YtnmjelcicbfjdaaDoor
