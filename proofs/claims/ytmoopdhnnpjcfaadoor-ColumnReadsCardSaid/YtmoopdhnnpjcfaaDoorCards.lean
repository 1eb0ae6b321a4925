/-
  DERIVED. GIVEN WITH THE SEED: THE CARDS: each row of YtmoopdhnnpjcfaaDoorRows.lean that lists a variable, with what it lists TIED to the program's text (the seventh form; the later family's looks); each row that meets fmt, with fmt's text TOLD by the authors' own Lean function (tested against real Go, not proved from fmt's source: count such statements apart). THE CARD IS WHAT COUNTS. Prove the row's statement (the work); the ties are given (YtmoopdhnnpjcfaaDoorTie.lean); close each card by the builder's one call (the guide's Derived/Test/ToyasCard.lean, 'card_holds'). Laid BY PROGRAM, IN A SANDBOX (cutbox-door.mjs). By AI agents, Wed Nov 11 2026. No macro, syntax, notation, axiom, sorry.
-/
import Derived.Test.YtmoopdhnnpjcfaaDoorRows
import GoSem.ClaimSeven
namespace Go.Proofs.YtmoopdhnnpjcfaaDoor
namespace Rows

/-- THE TIED CARD OF 'decklelaw09.ColumnWrites'. -/
def columnWritesCard : Claim7 := { stood := { row := columnWritesRow, standIns := [], harness := (true, "93a07898f1d5f07634eb384773fce3cbc09323510c25a06279647776b74e1739"), looks := true }, kinds := [], alts := [], laidByText := true, laidKinds := [.data, .pinned], laidTests := true, laidLooks := .later }
def ColumnWritesCardSaid : Prop := Claim7.holds Tryd.pinned (.plain (OpenSpec.ofChange columnWritesSpec)) columnWritesCard

/-- THE TIED CARD OF 'decklelaw09.ColumnReads'. -/
def columnReadsCard : Claim7 := { stood := { row := columnReadsRow, standIns := [], harness := (true, "93a07898f1d5f07634eb384773fce3cbc09323510c25a06279647776b74e1739"), looks := true }, kinds := [], alts := [], laidByText := true, laidKinds := [.data, .pinned], laidTests := true, laidLooks := .later }
def ColumnReadsCardSaid : Prop := Claim7.holds Tryd.pinned (.plain (OpenSpec.ofChange columnReadsSpec)) columnReadsCard

/-- THE TIED CARD OF 'decklelaw09.ColumnOne'. -/
def columnOneCard : Claim7 := { stood := { row := columnOneRow, standIns := [], harness := (true, "93a07898f1d5f07634eb384773fce3cbc09323510c25a06279647776b74e1739"), looks := true }, kinds := [], alts := [], laidByText := true, laidKinds := [.data, .pinned], laidTests := true, laidLooks := .later }
def ColumnOneCardSaid : Prop := Claim7.holds Tryd.pinned (.plain (OpenSpec.ofChange columnOneSpec)) columnOneCard

/-- THE TIED CARD OF 'decklelaw09.ColumnTwo'. -/
def columnTwoCard : Claim7 := { stood := { row := columnTwoRow, standIns := [], harness := (true, "93a07898f1d5f07634eb384773fce3cbc09323510c25a06279647776b74e1739"), looks := true }, kinds := [], alts := [], laidByText := true, laidKinds := [.data, .pinned], laidTests := true, laidLooks := .later }
def ColumnTwoCardSaid : Prop := Claim7.holds Tryd.pinned (.plain (OpenSpec.ofChange columnTwoSpec)) columnTwoCard

/-- THE TIED CARD OF 'decklelaw09.ColumnSteps'. -/
def columnStepsCard : Claim7 := { stood := { row := columnStepsRow, standIns := [], harness := (true, "93a07898f1d5f07634eb384773fce3cbc09323510c25a06279647776b74e1739"), looks := true }, kinds := [], alts := [], laidByText := true, laidKinds := [.data, .pinned], laidTests := true, laidLooks := .later }
def ColumnStepsCardSaid : Prop := Claim7.holds Tryd.pinned (.plain (OpenSpec.ofChange columnStepsSpec)) columnStepsCard

/-- THE TIED CARD OF 'decklelaw09.ColumnGreatest'. -/
def columnGreatestCard : Claim7 := { stood := { row := columnGreatestRow, standIns := [], harness := (true, "93a07898f1d5f07634eb384773fce3cbc09323510c25a06279647776b74e1739"), looks := true }, kinds := [], alts := [], laidByText := true, laidKinds := [.data, .pinned], laidTests := true, laidLooks := .later }
def ColumnGreatestCardSaid : Prop := Claim7.holds Tryd.pinned (.plain (OpenSpec.ofChange columnGreatestSpec)) columnGreatestCard

/-- THE TIED CARD OF 'decklelaw09.ColumnShared'. -/
def columnSharedCard : Claim7 := { stood := { row := columnSharedRow, standIns := [], harness := (true, "93a07898f1d5f07634eb384773fce3cbc09323510c25a06279647776b74e1739"), looks := true }, kinds := [], alts := [], laidByText := true, laidKinds := [.data, .pinned], laidTests := true, laidLooks := .later }
def ColumnSharedCardSaid : Prop := Claim7.holds Tryd.pinned (.plain (OpenSpec.ofChange columnSharedSpec)) columnSharedCard

/-- THE TIED CARD OF 'decklelaw09.ColumnBack'. -/
def columnBackCard : Claim7 := { stood := { row := columnBackRow, standIns := [], harness := (true, "93a07898f1d5f07634eb384773fce3cbc09323510c25a06279647776b74e1739"), looks := true }, kinds := [], alts := [], laidByText := true, laidKinds := [.data, .pinned], laidTests := true, laidLooks := .later }
def ColumnBackCardSaid : Prop := Claim7.holds Tryd.pinned (.plain (OpenSpec.ofChange columnBackSpec)) columnBackCard

/-- THE TIED CARD OF 'decklelaw04.CellOrder'. -/
def cellOrderCard : Claim7 := { stood := { row := cellOrderRow, standIns := [], harness := (true, "93a07898f1d5f07634eb384773fce3cbc09323510c25a06279647776b74e1739"), looks := true }, kinds := [], alts := [], laidByText := true, laidKinds := [.data, .data, .data, .data, .pinned], laidTests := true, laidLooks := .later }
def CellOrderCardSaid : Prop := Claim7.holds Tryd.pinned (.plain (OpenSpec.ofChange cellOrderSpec)) cellOrderCard

/-- THE TIED CARD OF 'decklelaw04.CellEdges'. -/
def cellEdgesCard : Claim7 := { stood := { row := cellEdgesRow, standIns := [], harness := (true, "93a07898f1d5f07634eb384773fce3cbc09323510c25a06279647776b74e1739"), looks := true }, kinds := [], alts := [], laidByText := true, laidKinds := [.data, .data, .data, .data, .pinned], laidTests := true, laidLooks := .later }
def CellEdgesCardSaid : Prop := Claim7.holds Tryd.pinned (.plain (OpenSpec.ofChange cellEdgesSpec)) cellEdgesCard

/-- THE TIED CARD OF 'decklelaw04.CellFloats'. -/
def cellFloatsCard : Claim7 := { stood := { row := cellFloatsRow, standIns := [], harness := (true, "93a07898f1d5f07634eb384773fce3cbc09323510c25a06279647776b74e1739"), looks := true }, kinds := [], alts := [], laidByText := true, laidKinds := [.data, .data, .data, .data, .pinned], laidTests := true, laidLooks := .later }
def CellFloatsCardSaid : Prop := Claim7.holds Tryd.pinned (.plain (OpenSpec.ofChange cellFloatsSpec)) cellFloatsCard

/-- THE TIED CARD OF 'decklelaw04.CellChecks'. -/
def cellChecksCard : Claim7 := { stood := { row := cellChecksRow, standIns := [], harness := (true, "93a07898f1d5f07634eb384773fce3cbc09323510c25a06279647776b74e1739"), looks := true }, kinds := [], alts := [], laidByText := true, laidKinds := [.data, .data, .data, .data, .widerDeep, .pinned], laidTests := true, laidLooks := .later }
def CellChecksCardSaid : Prop := Claim7.holds Tryd.pinned (.plain (OpenSpec.ofChange cellChecksSpec)) cellChecksCard

/-- THE TIED CARD OF 'decklelaw05.SchemaPrints'. -/
def schemaPrintsCard : Claim7 := { stood := { row := schemaPrintsRow, standIns := [], harness := (true, "93a07898f1d5f07634eb384773fce3cbc09323510c25a06279647776b74e1739"), looks := true }, kinds := [], alts := [], laidByText := true, laidKinds := [.data, .widerDeep, .pinned], laidTests := true, laidLooks := .later }
def SchemaPrintsCardSaid : Prop := Claim7.holds Tryd.pinned (.plain (OpenSpec.ofChange schemaPrintsSpec)) schemaPrintsCard

/-- THE TIED CARD OF 'decklelaw05.SchemaWrites'. -/
def schemaWritesCard : Claim7 := { stood := { row := schemaWritesRow, standIns := [], harness := (true, "93a07898f1d5f07634eb384773fce3cbc09323510c25a06279647776b74e1739"), looks := true }, kinds := [], alts := [], laidByText := true, laidKinds := [.data, .widerDeep, .pinned], laidTests := true, laidLooks := .later }
def SchemaWritesCardSaid : Prop := Claim7.holds Tryd.pinned (.plain (OpenSpec.ofChange schemaWritesSpec)) schemaWritesCard

/-- THE TIED CARD OF 'decklelaw05.SchemaReads'. -/
def schemaReadsCard : Claim7 := { stood := { row := schemaReadsRow, standIns := [], harness := (true, "93a07898f1d5f07634eb384773fce3cbc09323510c25a06279647776b74e1739"), looks := true }, kinds := [], alts := [], laidByText := true, laidKinds := [.data, .widerDeep, .pinned], laidTests := true, laidLooks := .later }
def SchemaReadsCardSaid : Prop := Claim7.holds Tryd.pinned (.plain (OpenSpec.ofChange schemaReadsSpec)) schemaReadsCard

/-- THE TIED CARD OF 'decklelaw05.SchemaOne'. -/
def schemaOneCard : Claim7 := { stood := { row := schemaOneRow, standIns := [], harness := (true, "93a07898f1d5f07634eb384773fce3cbc09323510c25a06279647776b74e1739"), looks := true }, kinds := [], alts := [], laidByText := true, laidKinds := [.data, .widerDeep, .pinned], laidTests := true, laidLooks := .later }
def SchemaOneCardSaid : Prop := Claim7.holds Tryd.pinned (.plain (OpenSpec.ofChange schemaOneSpec)) schemaOneCard

/-- THE TIED CARD OF 'decklelaw05.SchemaBack'. -/
def schemaBackCard : Claim7 := { stood := { row := schemaBackRow, standIns := [], harness := (true, "93a07898f1d5f07634eb384773fce3cbc09323510c25a06279647776b74e1739"), looks := true }, kinds := [], alts := [], laidByText := true, laidKinds := [.data, .widerDeep, .pinned], laidTests := true, laidLooks := .later }
def SchemaBackCardSaid : Prop := Claim7.holds Tryd.pinned (.plain (OpenSpec.ofChange schemaBackSpec)) schemaBackCard

/-- THE SECOND FORM's CARD OF 'decklelaw09.ColumnWrites'. -/
def columnWritesUptoCard : Claim7 := { stood := { row := columnWritesUptoRow, standIns := [], harness := (true, "93a07898f1d5f07634eb384773fce3cbc09323510c25a06279647776b74e1739"), looks := true }, kinds := [], alts := [], laidByText := true, laidKinds := [.data, .pinned], laidTests := true, laidLooks := .later }
def ColumnWritesUptoCardSaid : Prop := Claim7.holds Tryd.pinned (.plain (OpenSpec.upto columnWritesSpec)) columnWritesUptoCard

/-- THE SECOND FORM's CARD OF 'decklelaw09.ColumnReads'. -/
def columnReadsUptoCard : Claim7 := { stood := { row := columnReadsUptoRow, standIns := [], harness := (true, "93a07898f1d5f07634eb384773fce3cbc09323510c25a06279647776b74e1739"), looks := true }, kinds := [], alts := [], laidByText := true, laidKinds := [.data, .pinned], laidTests := true, laidLooks := .later }
def ColumnReadsUptoCardSaid : Prop := Claim7.holds Tryd.pinned (.plain (OpenSpec.upto columnReadsSpec)) columnReadsUptoCard

/-- THE SECOND FORM's CARD OF 'decklelaw09.ColumnOne'. -/
def columnOneUptoCard : Claim7 := { stood := { row := columnOneUptoRow, standIns := [], harness := (true, "93a07898f1d5f07634eb384773fce3cbc09323510c25a06279647776b74e1739"), looks := true }, kinds := [], alts := [], laidByText := true, laidKinds := [.data, .pinned], laidTests := true, laidLooks := .later }
def ColumnOneUptoCardSaid : Prop := Claim7.holds Tryd.pinned (.plain (OpenSpec.upto columnOneSpec)) columnOneUptoCard

/-- THE SECOND FORM's CARD OF 'decklelaw09.ColumnTwo'. -/
def columnTwoUptoCard : Claim7 := { stood := { row := columnTwoUptoRow, standIns := [], harness := (true, "93a07898f1d5f07634eb384773fce3cbc09323510c25a06279647776b74e1739"), looks := true }, kinds := [], alts := [], laidByText := true, laidKinds := [.data, .pinned], laidTests := true, laidLooks := .later }
def ColumnTwoUptoCardSaid : Prop := Claim7.holds Tryd.pinned (.plain (OpenSpec.upto columnTwoSpec)) columnTwoUptoCard

/-- THE SECOND FORM's CARD OF 'decklelaw09.ColumnSteps'. -/
def columnStepsUptoCard : Claim7 := { stood := { row := columnStepsUptoRow, standIns := [], harness := (true, "93a07898f1d5f07634eb384773fce3cbc09323510c25a06279647776b74e1739"), looks := true }, kinds := [], alts := [], laidByText := true, laidKinds := [.data, .pinned], laidTests := true, laidLooks := .later }
def ColumnStepsUptoCardSaid : Prop := Claim7.holds Tryd.pinned (.plain (OpenSpec.upto columnStepsSpec)) columnStepsUptoCard

/-- THE SECOND FORM's CARD OF 'decklelaw09.ColumnGreatest'. -/
def columnGreatestUptoCard : Claim7 := { stood := { row := columnGreatestUptoRow, standIns := [], harness := (true, "93a07898f1d5f07634eb384773fce3cbc09323510c25a06279647776b74e1739"), looks := true }, kinds := [], alts := [], laidByText := true, laidKinds := [.data, .pinned], laidTests := true, laidLooks := .later }
def ColumnGreatestUptoCardSaid : Prop := Claim7.holds Tryd.pinned (.plain (OpenSpec.upto columnGreatestSpec)) columnGreatestUptoCard

/-- THE SECOND FORM's CARD OF 'decklelaw09.ColumnShared'. -/
def columnSharedUptoCard : Claim7 := { stood := { row := columnSharedUptoRow, standIns := [], harness := (true, "93a07898f1d5f07634eb384773fce3cbc09323510c25a06279647776b74e1739"), looks := true }, kinds := [], alts := [], laidByText := true, laidKinds := [.data, .pinned], laidTests := true, laidLooks := .later }
def ColumnSharedUptoCardSaid : Prop := Claim7.holds Tryd.pinned (.plain (OpenSpec.upto columnSharedSpec)) columnSharedUptoCard

/-- THE SECOND FORM's CARD OF 'decklelaw09.ColumnBack'. -/
def columnBackUptoCard : Claim7 := { stood := { row := columnBackUptoRow, standIns := [], harness := (true, "93a07898f1d5f07634eb384773fce3cbc09323510c25a06279647776b74e1739"), looks := true }, kinds := [], alts := [], laidByText := true, laidKinds := [.data, .pinned], laidTests := true, laidLooks := .later }
def ColumnBackUptoCardSaid : Prop := Claim7.holds Tryd.pinned (.plain (OpenSpec.upto columnBackSpec)) columnBackUptoCard

/-- THE SECOND FORM's CARD OF 'decklelaw04.CellOrder'. -/
def cellOrderUptoCard : Claim7 := { stood := { row := cellOrderUptoRow, standIns := [], harness := (true, "93a07898f1d5f07634eb384773fce3cbc09323510c25a06279647776b74e1739"), looks := true }, kinds := [], alts := [], laidByText := true, laidKinds := [.data, .data, .data, .data, .pinned], laidTests := true, laidLooks := .later }
def CellOrderUptoCardSaid : Prop := Claim7.holds Tryd.pinned (.plain (OpenSpec.upto cellOrderSpec)) cellOrderUptoCard

/-- THE SECOND FORM's CARD OF 'decklelaw04.CellEdges'. -/
def cellEdgesUptoCard : Claim7 := { stood := { row := cellEdgesUptoRow, standIns := [], harness := (true, "93a07898f1d5f07634eb384773fce3cbc09323510c25a06279647776b74e1739"), looks := true }, kinds := [], alts := [], laidByText := true, laidKinds := [.data, .data, .data, .data, .pinned], laidTests := true, laidLooks := .later }
def CellEdgesUptoCardSaid : Prop := Claim7.holds Tryd.pinned (.plain (OpenSpec.upto cellEdgesSpec)) cellEdgesUptoCard

/-- THE SECOND FORM's CARD OF 'decklelaw04.CellFloats'. -/
def cellFloatsUptoCard : Claim7 := { stood := { row := cellFloatsUptoRow, standIns := [], harness := (true, "93a07898f1d5f07634eb384773fce3cbc09323510c25a06279647776b74e1739"), looks := true }, kinds := [], alts := [], laidByText := true, laidKinds := [.data, .data, .data, .data, .pinned], laidTests := true, laidLooks := .later }
def CellFloatsUptoCardSaid : Prop := Claim7.holds Tryd.pinned (.plain (OpenSpec.upto cellFloatsSpec)) cellFloatsUptoCard

/-- THE SECOND FORM's CARD OF 'decklelaw04.CellChecks'. -/
def cellChecksUptoCard : Claim7 := { stood := { row := cellChecksUptoRow, standIns := [], harness := (true, "93a07898f1d5f07634eb384773fce3cbc09323510c25a06279647776b74e1739"), looks := true }, kinds := [], alts := [], laidByText := true, laidKinds := [.data, .data, .data, .data, .widerDeep, .pinned], laidTests := true, laidLooks := .later }
def CellChecksUptoCardSaid : Prop := Claim7.holds Tryd.pinned (.plain (OpenSpec.upto cellChecksSpec)) cellChecksUptoCard

/-- THE SECOND FORM's CARD OF 'decklelaw05.SchemaPrints'. -/
def schemaPrintsUptoCard : Claim7 := { stood := { row := schemaPrintsUptoRow, standIns := [], harness := (true, "93a07898f1d5f07634eb384773fce3cbc09323510c25a06279647776b74e1739"), looks := true }, kinds := [], alts := [], laidByText := true, laidKinds := [.data, .widerDeep, .pinned], laidTests := true, laidLooks := .later }
def SchemaPrintsUptoCardSaid : Prop := Claim7.holds Tryd.pinned (.plain (OpenSpec.upto schemaPrintsSpec)) schemaPrintsUptoCard

/-- THE SECOND FORM's CARD OF 'decklelaw05.SchemaWrites'. -/
def schemaWritesUptoCard : Claim7 := { stood := { row := schemaWritesUptoRow, standIns := [], harness := (true, "93a07898f1d5f07634eb384773fce3cbc09323510c25a06279647776b74e1739"), looks := true }, kinds := [], alts := [], laidByText := true, laidKinds := [.data, .widerDeep, .pinned], laidTests := true, laidLooks := .later }
def SchemaWritesUptoCardSaid : Prop := Claim7.holds Tryd.pinned (.plain (OpenSpec.upto schemaWritesSpec)) schemaWritesUptoCard

/-- THE SECOND FORM's CARD OF 'decklelaw05.SchemaReads'. -/
def schemaReadsUptoCard : Claim7 := { stood := { row := schemaReadsUptoRow, standIns := [], harness := (true, "93a07898f1d5f07634eb384773fce3cbc09323510c25a06279647776b74e1739"), looks := true }, kinds := [], alts := [], laidByText := true, laidKinds := [.data, .widerDeep, .pinned], laidTests := true, laidLooks := .later }
def SchemaReadsUptoCardSaid : Prop := Claim7.holds Tryd.pinned (.plain (OpenSpec.upto schemaReadsSpec)) schemaReadsUptoCard

/-- THE SECOND FORM's CARD OF 'decklelaw05.SchemaOne'. -/
def schemaOneUptoCard : Claim7 := { stood := { row := schemaOneUptoRow, standIns := [], harness := (true, "93a07898f1d5f07634eb384773fce3cbc09323510c25a06279647776b74e1739"), looks := true }, kinds := [], alts := [], laidByText := true, laidKinds := [.data, .widerDeep, .pinned], laidTests := true, laidLooks := .later }
def SchemaOneUptoCardSaid : Prop := Claim7.holds Tryd.pinned (.plain (OpenSpec.upto schemaOneSpec)) schemaOneUptoCard

/-- THE SECOND FORM's CARD OF 'decklelaw05.SchemaBack'. -/
def schemaBackUptoCard : Claim7 := { stood := { row := schemaBackUptoRow, standIns := [], harness := (true, "93a07898f1d5f07634eb384773fce3cbc09323510c25a06279647776b74e1739"), looks := true }, kinds := [], alts := [], laidByText := true, laidKinds := [.data, .widerDeep, .pinned], laidTests := true, laidLooks := .later }
def SchemaBackUptoCardSaid : Prop := Claim7.holds Tryd.pinned (.plain (OpenSpec.upto schemaBackSpec)) schemaBackUptoCard
end Rows
end Go.Proofs.YtmoopdhnnpjcfaaDoor
