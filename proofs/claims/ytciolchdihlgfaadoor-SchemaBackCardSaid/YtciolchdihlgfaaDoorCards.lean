/-
  DERIVED. GIVEN WITH THE SEED: THE CARDS: each row of YtciolchdihlgfaaDoorRows.lean that lists a variable, with what it lists TIED to the program's text (the seventh form; the later family's looks); each row that meets fmt, with fmt's text TOLD by the authors' own Lean function (tested against real Go, not proved from fmt's source: count such statements apart). THE CARD IS WHAT COUNTS. Prove the row's statement (the work); the ties are given (YtciolchdihlgfaaDoorTie.lean); close each card by the builder's one call (the guide's Derived/Test/ToyasCard.lean, 'card_holds'). Laid BY PROGRAM, IN A SANDBOX (cutbox-door.mjs). By AI agents, Wed Nov 11 2026. No macro, syntax, notation, axiom, sorry.
-/
import Derived.Test.YtciolchdihlgfaaDoorRows
import GoSem.ClaimSeven
namespace Go.Proofs.YtciolchdihlgfaaDoor
namespace Rows

/-- THE TIED CARD OF 'decklelaw05.SchemaReads'. -/
def schemaReadsCard : Claim7 := { stood := { row := schemaReadsRow, standIns := [], harness := (true, "45efb0b84ac4b45df487c3e146aa87d2e6d1cd1c85f0ef8282e2e0a14feaf4eb"), looks := true }, kinds := [], alts := [], laidByText := true, laidKinds := [.data, .widerDeep, .pinned], laidTests := true, laidLooks := .later }
def SchemaReadsCardSaid : Prop := Claim7.holds Tryd.pinned (.plain (OpenSpec.ofChange schemaReadsSpec)) schemaReadsCard

/-- THE TIED CARD OF 'decklelaw05.SchemaOne'. -/
def schemaOneCard : Claim7 := { stood := { row := schemaOneRow, standIns := [], harness := (true, "45efb0b84ac4b45df487c3e146aa87d2e6d1cd1c85f0ef8282e2e0a14feaf4eb"), looks := true }, kinds := [], alts := [], laidByText := true, laidKinds := [.data, .widerDeep, .pinned], laidTests := true, laidLooks := .later }
def SchemaOneCardSaid : Prop := Claim7.holds Tryd.pinned (.plain (OpenSpec.ofChange schemaOneSpec)) schemaOneCard

/-- THE TIED CARD OF 'decklelaw05.SchemaBack'. -/
def schemaBackCard : Claim7 := { stood := { row := schemaBackRow, standIns := [], harness := (true, "45efb0b84ac4b45df487c3e146aa87d2e6d1cd1c85f0ef8282e2e0a14feaf4eb"), looks := true }, kinds := [], alts := [], laidByText := true, laidKinds := [.data, .widerDeep, .pinned], laidTests := true, laidLooks := .later }
def SchemaBackCardSaid : Prop := Claim7.holds Tryd.pinned (.plain (OpenSpec.ofChange schemaBackSpec)) schemaBackCard

/-- THE SECOND FORM's CARD OF 'decklelaw05.SchemaReads'. -/
def schemaReadsUptoCard : Claim7 := { stood := { row := schemaReadsUptoRow, standIns := [], harness := (true, "45efb0b84ac4b45df487c3e146aa87d2e6d1cd1c85f0ef8282e2e0a14feaf4eb"), looks := true }, kinds := [], alts := [], laidByText := true, laidKinds := [.data, .widerDeep, .pinned], laidTests := true, laidLooks := .later }
def SchemaReadsUptoCardSaid : Prop := Claim7.holds Tryd.pinned (.plain (OpenSpec.upto schemaReadsSpec)) schemaReadsUptoCard

/-- THE SECOND FORM's CARD OF 'decklelaw05.SchemaOne'. -/
def schemaOneUptoCard : Claim7 := { stood := { row := schemaOneUptoRow, standIns := [], harness := (true, "45efb0b84ac4b45df487c3e146aa87d2e6d1cd1c85f0ef8282e2e0a14feaf4eb"), looks := true }, kinds := [], alts := [], laidByText := true, laidKinds := [.data, .widerDeep, .pinned], laidTests := true, laidLooks := .later }
def SchemaOneUptoCardSaid : Prop := Claim7.holds Tryd.pinned (.plain (OpenSpec.upto schemaOneSpec)) schemaOneUptoCard

/-- THE SECOND FORM's CARD OF 'decklelaw05.SchemaBack'. -/
def schemaBackUptoCard : Claim7 := { stood := { row := schemaBackUptoRow, standIns := [], harness := (true, "45efb0b84ac4b45df487c3e146aa87d2e6d1cd1c85f0ef8282e2e0a14feaf4eb"), looks := true }, kinds := [], alts := [], laidByText := true, laidKinds := [.data, .widerDeep, .pinned], laidTests := true, laidLooks := .later }
def SchemaBackUptoCardSaid : Prop := Claim7.holds Tryd.pinned (.plain (OpenSpec.upto schemaBackSpec)) schemaBackUptoCard
end Rows
end Go.Proofs.YtciolchdihlgfaaDoor
