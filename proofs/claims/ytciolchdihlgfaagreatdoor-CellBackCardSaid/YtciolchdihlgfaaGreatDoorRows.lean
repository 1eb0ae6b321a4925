/-
  NARROWER THAN 'FOR EVERY INPUT', by the rows' own cells (each row's printed sentence says how): CellTexts: laid · CellBack: laid · RowFirst: laid · RowOrder: laid · RowChecks: laid · RowTexts: laid · RowBack: laid · ZsetCollects: laid · ZsetTexts: laid · ZsetOrder: laid · ZsetOver: laid · ZsetGroup: laid · ZsetNegs: laid · ZsetLess: laid · ZsetSums: laid.
  DERIVED. THE GIVEN ROWS OF THIS SEAT. 15 by the template 'for every input the law returns true; each argument reads behind the call as it read before'; 0 by the template 'total and deterministic' (their statements: YtciolchdihlgfaaGreatDoorTotals.lean).
  GIVEN WITH THE SEED: the statements are not yours to turn. If you find one false, say at which input.
  Laid BY PROGRAM, IN A SANDBOX (cutbox-rows.mjs): the forced cells as the released guide's own fill.sh prints them over the translation 80ed5191ce81a652… (all of the seat's roots in one cut). By AI agents, Wed Nov 11 2026. No macro, syntax, notation, axiom, sorry.
-/
import Derived.Test.YtciolchdihlgfaaGreatDoorChecked
import GoSem.PinnedTables
import GoSem.Claim
import GoSem.ClaimJoined
import GoSem.ClaimMapViews
import Derived.JoinedTies
import Derived.KernelRfl
namespace Go.Proofs.YtciolchdihlgfaaGreatDoor
/- THE CELL 'sum', in the pinned program and in every row, IS THE sha256 OF THE DUMP (.gsa) THAT YtciolchdihlgfaaGreatDoorProg.lean LOADS. Nothing in Lean hashes anything: it is a label: what it is worth is what the hold of that sum in a sandbox is worth. -/
noncomputable def Tryz.pinned : Pinned := { name := "ytciolchdihlgfaagreatdoor", sum := "80ed5191ce81a652c3a46270ad6f6a7a34923313fd3193ac43d1fde6c8abba81", checked := Tryz.checked }
namespace Rows
def none {H : Type} : Left H := { results := [], args := [] }

/- WHAT THE LISTED PACKAGE-LEVEL VARIABLES READ AS WHEN THE CALL BEGINS. Each datum BY PROGRAM (the guide's laid-datum.mjs) off the statement by which the dump's own 'gosem.cut.vars' lays the variable. In a bare row this is a premise. The card (YtciolchdihlgfaaGreatDoorCards.lean) ties it to the program's text. -/
def laid_math_bits_deBruijn32tab {H : Type} : DataW H := .agg [.lit (.int .u8 0), .lit (.int .u8 1), .lit (.int .u8 28), .lit (.int .u8 2), .lit (.int .u8 29), .lit (.int .u8 14), .lit (.int .u8 24), .lit (.int .u8 3), .lit (.int .u8 30), .lit (.int .u8 22), .lit (.int .u8 20), .lit (.int .u8 15), .lit (.int .u8 25), .lit (.int .u8 17), .lit (.int .u8 4), .lit (.int .u8 8), .lit (.int .u8 31), .lit (.int .u8 27), .lit (.int .u8 13), .lit (.int .u8 23), .lit (.int .u8 21), .lit (.int .u8 19), .lit (.int .u8 16), .lit (.int .u8 7), .lit (.int .u8 26), .lit (.int .u8 12), .lit (.int .u8 18), .lit (.int .u8 6), .lit (.int .u8 11), .lit (.int .u8 5), .lit (.int .u8 10), .lit (.int .u8 9)]
def laid_math_bits_deBruijn64tab {H : Type} : DataW H := .agg [.lit (.int .u8 0), .lit (.int .u8 1), .lit (.int .u8 56), .lit (.int .u8 2), .lit (.int .u8 57), .lit (.int .u8 49), .lit (.int .u8 28), .lit (.int .u8 3), .lit (.int .u8 61), .lit (.int .u8 58), .lit (.int .u8 42), .lit (.int .u8 50), .lit (.int .u8 38), .lit (.int .u8 29), .lit (.int .u8 17), .lit (.int .u8 4), .lit (.int .u8 62), .lit (.int .u8 47), .lit (.int .u8 59), .lit (.int .u8 36), .lit (.int .u8 45), .lit (.int .u8 43), .lit (.int .u8 51), .lit (.int .u8 22), .lit (.int .u8 53), .lit (.int .u8 39), .lit (.int .u8 33), .lit (.int .u8 30), .lit (.int .u8 24), .lit (.int .u8 18), .lit (.int .u8 12), .lit (.int .u8 5), .lit (.int .u8 63), .lit (.int .u8 55), .lit (.int .u8 48), .lit (.int .u8 27), .lit (.int .u8 60), .lit (.int .u8 41), .lit (.int .u8 37), .lit (.int .u8 16), .lit (.int .u8 46), .lit (.int .u8 35), .lit (.int .u8 44), .lit (.int .u8 21), .lit (.int .u8 52), .lit (.int .u8 32), .lit (.int .u8 23), .lit (.int .u8 11), .lit (.int .u8 54), .lit (.int .u8 26), .lit (.int .u8 40), .lit (.int .u8 15), .lit (.int .u8 34), .lit (.int .u8 20), .lit (.int .u8 31), .lit (.int .u8 10), .lit (.int .u8 25), .lit (.int .u8 14), .lit (.int .u8 19), .lit (.int .u8 9), .lit (.int .u8 13), .lit (.int .u8 8), .lit (.int .u8 7), .lit (.int .u8 6)]
def laid_internal_strconv_uint64pow10 {H : Type} : DataW H := .agg [.lit (.int .u64 1), .lit (.int .u64 10), .lit (.int .u64 100), .lit (.int .u64 1000), .lit (.int .u64 10000), .lit (.int .u64 100000), .lit (.int .u64 1000000), .lit (.int .u64 10000000), .lit (.int .u64 100000000), .lit (.int .u64 1000000000), .lit (.int .u64 10000000000), .lit (.int .u64 100000000000), .lit (.int .u64 1000000000000), .lit (.int .u64 10000000000000), .lit (.int .u64 100000000000000), .lit (.int .u64 1000000000000000), .lit (.int .u64 10000000000000000), .lit (.int .u64 100000000000000000), .lit (.int .u64 1000000000000000000), .lit (.int .u64 10000000000000000000)]
def laid_unicode_utf8_acceptRanges {H : Type} : DataW H := .agg [.agg [.lit (.int .u8 128), .lit (.int .u8 191)], .agg [.lit (.int .u8 160), .lit (.int .u8 191)], .agg [.lit (.int .u8 128), .lit (.int .u8 159)], .agg [.lit (.int .u8 144), .lit (.int .u8 191)], .agg [.lit (.int .u8 128), .lit (.int .u8 143)], .agg [.lit (.int .u8 0), .lit (.int .u8 0)], .agg [.lit (.int .u8 0), .lit (.int .u8 0)], .agg [.lit (.int .u8 0), .lit (.int .u8 0)], .agg [.lit (.int .u8 0), .lit (.int .u8 0)], .agg [.lit (.int .u8 0), .lit (.int .u8 0)], .agg [.lit (.int .u8 0), .lit (.int .u8 0)], .agg [.lit (.int .u8 0), .lit (.int .u8 0)], .agg [.lit (.int .u8 0), .lit (.int .u8 0)], .agg [.lit (.int .u8 0), .lit (.int .u8 0)], .agg [.lit (.int .u8 0), .lit (.int .u8 0)], .agg [.lit (.int .u8 0), .lit (.int .u8 0)]]
def laid_strconv_ErrRange {H : Type} : DataW H := .iface "*errors.errorString" (.ptr (.agg [.lit (.string [118, 97, 108, 117, 101, 32, 111, 117, 116, 32, 111, 102, 32, 114, 97, 110, 103, 101])]))
def laid_strconv_ErrSyntax {H : Type} : DataW H := .iface "*errors.errorString" (.ptr (.agg [.lit (.string [105, 110, 118, 97, 108, 105, 100, 32, 115, 121, 110, 116, 97, 120])]))
/-- One of Go's own tables, pinned by name: the form's constant. -/
def laid_unicode_utf8_first : DataW Unit := Go.Pinned.utf8First
def laid_deckle_cell_names {H : Type} : DataW H := .agg [.lit (.string [105, 110, 116]), .lit (.string [117, 105, 110, 116]), .lit (.string [98, 111, 111, 108]), .lit (.string [98, 121, 116, 101, 115]), .lit (.string [116, 101, 120, 116]), .lit (.string [102, 108, 111, 97, 116])]

/-- 'decklelaw04.CellTexts': WHATEVER THE INPUT: true; the input reads as it did. -/
def cellTextsSpec : ChangeSpec := { name := "cellTexts", fn := fun _ => fun
  | [d1, d2, d3] => { results := [.lit (.bool true)], args := [d1, d2, d3] }
  | _ => none }
def cellTextsRow : OpenClaim := { program := "ytciolchdihlgfaagreatdoor", sum := "80ed5191ce81a652c3a46270ad6f6a7a34923313fd3193ac43d1fde6c8abba81", func := "deckle/decklelaw04.CellTexts", spec := "cellTexts", inPlace := ["math.Float64bits", "math.Float64frombits", "internal/abi.NoEscape", "internal/bytealg.MakeNoZero", "internal/bytealg.abigen_runtime_cmpstring", "internal/bytealg.IndexByteString", "internal/bytealg.IndexString"], named := ["unicode/utf8.first", "unicode/utf8.acceptRanges", "internal/strconv.uint64pow10", "math/bits.deBruijn32tab", "math/bits.deBruijn64tab", "strconv.ErrSyntax", "strconv.ErrRange", "internal/bytealg.MaxLen"], apart := false, laid := [("math/bits.deBruijn32tab", laid_math_bits_deBruijn32tab), ("math/bits.deBruijn64tab", laid_math_bits_deBruijn64tab), ("internal/strconv.uint64pow10", laid_internal_strconv_uint64pow10), ("unicode/utf8.acceptRanges", laid_unicode_utf8_acceptRanges), ("strconv.ErrRange", laid_strconv_ErrRange), ("strconv.ErrSyntax", laid_strconv_ErrSyntax), ("unicode/utf8.first", laid_unicode_utf8_first)] }
def CellTextsSaid : Prop := cellTextsRow.holds Tryz.pinned (OpenSpec.ofChange cellTextsSpec)

/-- ITS FALSE NEIGHBOUR: 'it returns false'. Refute it at one input. -/
def cellTextsWrong : ChangeSpec := { name := "cellTexts", fn := fun _ => fun
  | [d1, d2, d3] => { results := [.lit (.bool false)], args := [d1, d2, d3] }
  | _ => none }
def CellTextsWrongFalsely : Prop := cellTextsRow.holds Tryz.pinned (OpenSpec.ofChange cellTextsWrong)

/-- 'decklelaw04.CellBack': WHATEVER THE INPUT: true; the input reads as it did. -/
def cellBackSpec : ChangeSpec := { name := "cellBack", fn := fun _ => fun
  | [d1, d2, d3] => { results := [.lit (.bool true)], args := [d1, d2, d3] }
  | _ => none }
def cellBackRow : OpenClaim := { program := "ytciolchdihlgfaagreatdoor", sum := "80ed5191ce81a652c3a46270ad6f6a7a34923313fd3193ac43d1fde6c8abba81", func := "deckle/decklelaw04.CellBack", spec := "cellBack", inPlace := ["math.Float64bits", "math.Float64frombits", "internal/abi.NoEscape", "internal/bytealg.MakeNoZero", "internal/bytealg.abigen_runtime_cmpstring", "internal/bytealg.IndexByteString", "internal/bytealg.IndexString"], named := ["unicode/utf8.first", "unicode/utf8.acceptRanges", "internal/strconv.uint64pow10", "math/bits.deBruijn32tab", "math/bits.deBruijn64tab", "strconv.ErrSyntax", "strconv.ErrRange", "internal/bytealg.MaxLen"], apart := false, laid := [("math/bits.deBruijn32tab", laid_math_bits_deBruijn32tab), ("math/bits.deBruijn64tab", laid_math_bits_deBruijn64tab), ("internal/strconv.uint64pow10", laid_internal_strconv_uint64pow10), ("unicode/utf8.acceptRanges", laid_unicode_utf8_acceptRanges), ("strconv.ErrRange", laid_strconv_ErrRange), ("strconv.ErrSyntax", laid_strconv_ErrSyntax), ("unicode/utf8.first", laid_unicode_utf8_first)] }
def CellBackSaid : Prop := cellBackRow.holds Tryz.pinned (OpenSpec.ofChange cellBackSpec)

/-- ITS FALSE NEIGHBOUR: 'it returns false'. Refute it at one input. -/
def cellBackWrong : ChangeSpec := { name := "cellBack", fn := fun _ => fun
  | [d1, d2, d3] => { results := [.lit (.bool false)], args := [d1, d2, d3] }
  | _ => none }
def CellBackWrongFalsely : Prop := cellBackRow.holds Tryz.pinned (OpenSpec.ofChange cellBackWrong)

/-- 'decklelaw06.RowFirst': WHATEVER THE INPUT: true; the input reads as it did. -/
def rowFirstSpec : ChangeSpec := { name := "rowFirst", fn := fun _ => fun
  | [d1, d2] => { results := [.lit (.bool true)], args := [d1, d2] }
  | _ => none }
def rowFirstRow : OpenClaim := { program := "ytciolchdihlgfaagreatdoor", sum := "80ed5191ce81a652c3a46270ad6f6a7a34923313fd3193ac43d1fde6c8abba81", func := "deckle/decklelaw06.RowFirst", spec := "rowFirst", inPlace := ["internal/bytealg.IndexByteString", "internal/bytealg.IndexString", "internal/bytealg.CountString", "internal/abi.NoEscape", "internal/bytealg.MakeNoZero", "internal/bytealg.abigen_runtime_cmpstring"], unfollowed := true, recurses := true, named := ["unicode/utf8.first", "unicode/utf8.acceptRanges", "deckle/cell.names", "internal/bytealg.MaxLen", "strconv.ErrSyntax", "strconv.ErrRange", "internal/strconv.uint64pow10", "math/bits.deBruijn32tab", "math/bits.deBruijn64tab"], apart := false, laid := [("math/bits.deBruijn32tab", laid_math_bits_deBruijn32tab), ("math/bits.deBruijn64tab", laid_math_bits_deBruijn64tab), ("internal/strconv.uint64pow10", laid_internal_strconv_uint64pow10), ("unicode/utf8.acceptRanges", laid_unicode_utf8_acceptRanges), ("strconv.ErrRange", laid_strconv_ErrRange), ("strconv.ErrSyntax", laid_strconv_ErrSyntax), ("deckle/cell.names", laid_deckle_cell_names), ("unicode/utf8.first", laid_unicode_utf8_first)] }
def RowFirstSaid : Prop := rowFirstRow.holds Tryz.pinned (OpenSpec.ofChange rowFirstSpec)

/-- ITS FALSE NEIGHBOUR: 'it returns false'. Refute it at one input. -/
def rowFirstWrong : ChangeSpec := { name := "rowFirst", fn := fun _ => fun
  | [d1, d2] => { results := [.lit (.bool false)], args := [d1, d2] }
  | _ => none }
def RowFirstWrongFalsely : Prop := rowFirstRow.holds Tryz.pinned (OpenSpec.ofChange rowFirstWrong)

/-- 'decklelaw06.RowOrder': WHATEVER THE INPUT: true; the input reads as it did. -/
def rowOrderSpec : ChangeSpec := { name := "rowOrder", fn := fun _ => fun
  | [d1, d2] => { results := [.lit (.bool true)], args := [d1, d2] }
  | _ => none }
def rowOrderRow : OpenClaim := { program := "ytciolchdihlgfaagreatdoor", sum := "80ed5191ce81a652c3a46270ad6f6a7a34923313fd3193ac43d1fde6c8abba81", func := "deckle/decklelaw06.RowOrder", spec := "rowOrder", inPlace := ["internal/bytealg.IndexByteString", "internal/bytealg.IndexString", "internal/bytealg.CountString", "internal/abi.NoEscape", "internal/bytealg.MakeNoZero", "internal/bytealg.abigen_runtime_cmpstring"], unfollowed := true, recurses := true, named := ["unicode/utf8.first", "unicode/utf8.acceptRanges", "deckle/cell.names", "internal/bytealg.MaxLen", "strconv.ErrSyntax", "strconv.ErrRange", "internal/strconv.uint64pow10", "math/bits.deBruijn32tab", "math/bits.deBruijn64tab"], apart := false, laid := [("math/bits.deBruijn32tab", laid_math_bits_deBruijn32tab), ("math/bits.deBruijn64tab", laid_math_bits_deBruijn64tab), ("internal/strconv.uint64pow10", laid_internal_strconv_uint64pow10), ("unicode/utf8.acceptRanges", laid_unicode_utf8_acceptRanges), ("strconv.ErrRange", laid_strconv_ErrRange), ("strconv.ErrSyntax", laid_strconv_ErrSyntax), ("deckle/cell.names", laid_deckle_cell_names), ("unicode/utf8.first", laid_unicode_utf8_first)] }
def RowOrderSaid : Prop := rowOrderRow.holds Tryz.pinned (OpenSpec.ofChange rowOrderSpec)

/-- ITS FALSE NEIGHBOUR: 'it returns false'. Refute it at one input. -/
def rowOrderWrong : ChangeSpec := { name := "rowOrder", fn := fun _ => fun
  | [d1, d2] => { results := [.lit (.bool false)], args := [d1, d2] }
  | _ => none }
def RowOrderWrongFalsely : Prop := rowOrderRow.holds Tryz.pinned (OpenSpec.ofChange rowOrderWrong)

/-- 'decklelaw06.RowChecks': WHATEVER THE INPUT: true; the input reads as it did. -/
def rowChecksSpec : ChangeSpec := { name := "rowChecks", fn := fun _ => fun
  | [d1, d2, d3] => { results := [.lit (.bool true)], args := [d1, d2, d3] }
  | _ => none }
def rowChecksRow : OpenClaim := { program := "ytciolchdihlgfaagreatdoor", sum := "80ed5191ce81a652c3a46270ad6f6a7a34923313fd3193ac43d1fde6c8abba81", func := "deckle/decklelaw06.RowChecks", spec := "rowChecks", inPlace := ["internal/bytealg.IndexByteString", "internal/bytealg.IndexString", "internal/bytealg.CountString", "internal/abi.NoEscape", "internal/bytealg.MakeNoZero", "internal/bytealg.abigen_runtime_cmpstring", "math.Float64frombits"], unfollowed := true, recurses := true, named := ["unicode/utf8.first", "unicode/utf8.acceptRanges", "deckle/cell.names", "internal/bytealg.MaxLen", "strconv.ErrSyntax", "strconv.ErrRange", "internal/strconv.uint64pow10", "math/bits.deBruijn32tab", "math/bits.deBruijn64tab"], apart := false, laid := [("math/bits.deBruijn32tab", laid_math_bits_deBruijn32tab), ("math/bits.deBruijn64tab", laid_math_bits_deBruijn64tab), ("internal/strconv.uint64pow10", laid_internal_strconv_uint64pow10), ("unicode/utf8.acceptRanges", laid_unicode_utf8_acceptRanges), ("strconv.ErrRange", laid_strconv_ErrRange), ("strconv.ErrSyntax", laid_strconv_ErrSyntax), ("deckle/cell.names", laid_deckle_cell_names), ("unicode/utf8.first", laid_unicode_utf8_first)] }
def RowChecksSaid : Prop := rowChecksRow.holds Tryz.pinned (OpenSpec.ofChange rowChecksSpec)

/-- ITS FALSE NEIGHBOUR: 'it returns false'. Refute it at one input. -/
def rowChecksWrong : ChangeSpec := { name := "rowChecks", fn := fun _ => fun
  | [d1, d2, d3] => { results := [.lit (.bool false)], args := [d1, d2, d3] }
  | _ => none }
def RowChecksWrongFalsely : Prop := rowChecksRow.holds Tryz.pinned (OpenSpec.ofChange rowChecksWrong)

/-- 'decklelaw06.RowTexts': WHATEVER THE INPUT: true; the input reads as it did. -/
def rowTextsSpec : ChangeSpec := { name := "rowTexts", fn := fun _ => fun
  | [d1, d2, d3] => { results := [.lit (.bool true)], args := [d1, d2, d3] }
  | _ => none }
def rowTextsRow : OpenClaim := { program := "ytciolchdihlgfaagreatdoor", sum := "80ed5191ce81a652c3a46270ad6f6a7a34923313fd3193ac43d1fde6c8abba81", func := "deckle/decklelaw06.RowTexts", spec := "rowTexts", inPlace := ["internal/bytealg.IndexByteString", "internal/bytealg.IndexString", "internal/bytealg.CountString", "internal/abi.NoEscape", "internal/bytealg.MakeNoZero", "internal/bytealg.abigen_runtime_cmpstring"], unfollowed := true, recurses := true, named := ["unicode/utf8.first", "unicode/utf8.acceptRanges", "deckle/cell.names", "internal/bytealg.MaxLen", "strconv.ErrSyntax", "strconv.ErrRange", "internal/strconv.uint64pow10", "math/bits.deBruijn32tab", "math/bits.deBruijn64tab"], apart := false, laid := [("math/bits.deBruijn32tab", laid_math_bits_deBruijn32tab), ("math/bits.deBruijn64tab", laid_math_bits_deBruijn64tab), ("internal/strconv.uint64pow10", laid_internal_strconv_uint64pow10), ("unicode/utf8.acceptRanges", laid_unicode_utf8_acceptRanges), ("strconv.ErrRange", laid_strconv_ErrRange), ("strconv.ErrSyntax", laid_strconv_ErrSyntax), ("deckle/cell.names", laid_deckle_cell_names), ("unicode/utf8.first", laid_unicode_utf8_first)] }
def RowTextsSaid : Prop := rowTextsRow.holds Tryz.pinned (OpenSpec.ofChange rowTextsSpec)

/-- ITS FALSE NEIGHBOUR: 'it returns false'. Refute it at one input. -/
def rowTextsWrong : ChangeSpec := { name := "rowTexts", fn := fun _ => fun
  | [d1, d2, d3] => { results := [.lit (.bool false)], args := [d1, d2, d3] }
  | _ => none }
def RowTextsWrongFalsely : Prop := rowTextsRow.holds Tryz.pinned (OpenSpec.ofChange rowTextsWrong)

/-- 'decklelaw06.RowBack': WHATEVER THE INPUT: true; the input reads as it did. -/
def rowBackSpec : ChangeSpec := { name := "rowBack", fn := fun _ => fun
  | [d1, d2, d3] => { results := [.lit (.bool true)], args := [d1, d2, d3] }
  | _ => none }
def rowBackRow : OpenClaim := { program := "ytciolchdihlgfaagreatdoor", sum := "80ed5191ce81a652c3a46270ad6f6a7a34923313fd3193ac43d1fde6c8abba81", func := "deckle/decklelaw06.RowBack", spec := "rowBack", inPlace := ["internal/bytealg.IndexByteString", "internal/bytealg.IndexString", "internal/bytealg.CountString", "internal/abi.NoEscape", "internal/bytealg.MakeNoZero", "internal/bytealg.abigen_runtime_cmpstring"], unfollowed := true, recurses := true, named := ["unicode/utf8.first", "unicode/utf8.acceptRanges", "deckle/cell.names", "internal/bytealg.MaxLen", "strconv.ErrSyntax", "strconv.ErrRange", "internal/strconv.uint64pow10", "math/bits.deBruijn32tab", "math/bits.deBruijn64tab"], apart := false, laid := [("math/bits.deBruijn32tab", laid_math_bits_deBruijn32tab), ("math/bits.deBruijn64tab", laid_math_bits_deBruijn64tab), ("internal/strconv.uint64pow10", laid_internal_strconv_uint64pow10), ("unicode/utf8.acceptRanges", laid_unicode_utf8_acceptRanges), ("strconv.ErrRange", laid_strconv_ErrRange), ("strconv.ErrSyntax", laid_strconv_ErrSyntax), ("deckle/cell.names", laid_deckle_cell_names), ("unicode/utf8.first", laid_unicode_utf8_first)] }
def RowBackSaid : Prop := rowBackRow.holds Tryz.pinned (OpenSpec.ofChange rowBackSpec)

/-- ITS FALSE NEIGHBOUR: 'it returns false'. Refute it at one input. -/
def rowBackWrong : ChangeSpec := { name := "rowBack", fn := fun _ => fun
  | [d1, d2, d3] => { results := [.lit (.bool false)], args := [d1, d2, d3] }
  | _ => none }
def RowBackWrongFalsely : Prop := rowBackRow.holds Tryz.pinned (OpenSpec.ofChange rowBackWrong)

/-- 'decklelaw08.ZsetCollects': WHATEVER THE INPUT: true; the input reads as it did. -/
def zsetCollectsSpec : ChangeSpec := { name := "zsetCollects", fn := fun _ => fun
  | [d1, d2] => { results := [.lit (.bool true)], args := [d1, d2] }
  | _ => none }
def zsetCollectsRow : OpenClaim := { program := "ytciolchdihlgfaagreatdoor", sum := "80ed5191ce81a652c3a46270ad6f6a7a34923313fd3193ac43d1fde6c8abba81", func := "deckle/decklelaw08.ZsetCollects", spec := "zsetCollects", inPlace := ["internal/bytealg.IndexByteString", "internal/bytealg.IndexString", "internal/bytealg.abigen_runtime_cmpstring", "math/bits.Add64", "internal/abi.NoEscape", "internal/bytealg.MakeNoZero", "internal/bytealg.CountString", "math.Float64frombits"], unfollowed := true, recurses := true, named := ["unicode/utf8.first", "unicode/utf8.acceptRanges", "deckle/cell.names", "internal/strconv.uint64pow10", "math/bits.deBruijn32tab", "math/bits.deBruijn64tab", "internal/bytealg.MaxLen", "strconv.ErrSyntax", "strconv.ErrRange"], apart := false, laid := [("math/bits.deBruijn32tab", laid_math_bits_deBruijn32tab), ("math/bits.deBruijn64tab", laid_math_bits_deBruijn64tab), ("internal/strconv.uint64pow10", laid_internal_strconv_uint64pow10), ("unicode/utf8.acceptRanges", laid_unicode_utf8_acceptRanges), ("strconv.ErrRange", laid_strconv_ErrRange), ("strconv.ErrSyntax", laid_strconv_ErrSyntax), ("deckle/cell.names", laid_deckle_cell_names), ("unicode/utf8.first", laid_unicode_utf8_first)] }
def ZsetCollectsSaid : Prop := zsetCollectsRow.holds Tryz.pinned (OpenSpec.ofChange zsetCollectsSpec)

/-- ITS FALSE NEIGHBOUR: 'it returns false'. Refute it at one input. -/
def zsetCollectsWrong : ChangeSpec := { name := "zsetCollects", fn := fun _ => fun
  | [d1, d2] => { results := [.lit (.bool false)], args := [d1, d2] }
  | _ => none }
def ZsetCollectsWrongFalsely : Prop := zsetCollectsRow.holds Tryz.pinned (OpenSpec.ofChange zsetCollectsWrong)

/-- 'decklelaw08.ZsetTexts': WHATEVER THE INPUT: true; the input reads as it did. -/
def zsetTextsSpec : ChangeSpec := { name := "zsetTexts", fn := fun _ => fun
  | [d1, d2, d3] => { results := [.lit (.bool true)], args := [d1, d2, d3] }
  | _ => none }
def zsetTextsRow : OpenClaim := { program := "ytciolchdihlgfaagreatdoor", sum := "80ed5191ce81a652c3a46270ad6f6a7a34923313fd3193ac43d1fde6c8abba81", func := "deckle/decklelaw08.ZsetTexts", spec := "zsetTexts", inPlace := ["internal/bytealg.IndexByteString", "internal/bytealg.IndexString", "internal/bytealg.abigen_runtime_cmpstring", "math/bits.Add64", "internal/abi.NoEscape", "internal/bytealg.MakeNoZero", "internal/bytealg.CountString", "math.Float64frombits"], unfollowed := true, recurses := true, named := ["unicode/utf8.first", "unicode/utf8.acceptRanges", "deckle/cell.names", "internal/strconv.uint64pow10", "math/bits.deBruijn32tab", "math/bits.deBruijn64tab", "internal/bytealg.MaxLen", "strconv.ErrSyntax", "strconv.ErrRange"], apart := false, laid := [("math/bits.deBruijn32tab", laid_math_bits_deBruijn32tab), ("math/bits.deBruijn64tab", laid_math_bits_deBruijn64tab), ("internal/strconv.uint64pow10", laid_internal_strconv_uint64pow10), ("unicode/utf8.acceptRanges", laid_unicode_utf8_acceptRanges), ("strconv.ErrRange", laid_strconv_ErrRange), ("strconv.ErrSyntax", laid_strconv_ErrSyntax), ("deckle/cell.names", laid_deckle_cell_names), ("unicode/utf8.first", laid_unicode_utf8_first)] }
def ZsetTextsSaid : Prop := zsetTextsRow.holds Tryz.pinned (OpenSpec.ofChange zsetTextsSpec)

/-- ITS FALSE NEIGHBOUR: 'it returns false'. Refute it at one input. -/
def zsetTextsWrong : ChangeSpec := { name := "zsetTexts", fn := fun _ => fun
  | [d1, d2, d3] => { results := [.lit (.bool false)], args := [d1, d2, d3] }
  | _ => none }
def ZsetTextsWrongFalsely : Prop := zsetTextsRow.holds Tryz.pinned (OpenSpec.ofChange zsetTextsWrong)

/-- 'decklelaw08.ZsetOrder': WHATEVER THE INPUT: true; the input reads as it did. -/
def zsetOrderSpec : ChangeSpec := { name := "zsetOrder", fn := fun _ => fun
  | [d1, d2, d3] => { results := [.lit (.bool true)], args := [d1, d2, d3] }
  | _ => none }
def zsetOrderRow : OpenClaim := { program := "ytciolchdihlgfaagreatdoor", sum := "80ed5191ce81a652c3a46270ad6f6a7a34923313fd3193ac43d1fde6c8abba81", func := "deckle/decklelaw08.ZsetOrder", spec := "zsetOrder", inPlace := ["internal/bytealg.IndexByteString", "internal/bytealg.IndexString", "internal/bytealg.abigen_runtime_cmpstring", "math/bits.Add64", "internal/abi.NoEscape", "internal/bytealg.MakeNoZero", "internal/bytealg.CountString"], unfollowed := true, recurses := true, named := ["unicode/utf8.first", "unicode/utf8.acceptRanges", "deckle/cell.names", "internal/strconv.uint64pow10", "math/bits.deBruijn32tab", "math/bits.deBruijn64tab", "internal/bytealg.MaxLen", "strconv.ErrSyntax", "strconv.ErrRange"], apart := false, laid := [("math/bits.deBruijn32tab", laid_math_bits_deBruijn32tab), ("math/bits.deBruijn64tab", laid_math_bits_deBruijn64tab), ("internal/strconv.uint64pow10", laid_internal_strconv_uint64pow10), ("unicode/utf8.acceptRanges", laid_unicode_utf8_acceptRanges), ("strconv.ErrRange", laid_strconv_ErrRange), ("strconv.ErrSyntax", laid_strconv_ErrSyntax), ("deckle/cell.names", laid_deckle_cell_names), ("unicode/utf8.first", laid_unicode_utf8_first)] }
def ZsetOrderSaid : Prop := zsetOrderRow.holds Tryz.pinned (OpenSpec.ofChange zsetOrderSpec)

/-- ITS FALSE NEIGHBOUR: 'it returns false'. Refute it at one input. -/
def zsetOrderWrong : ChangeSpec := { name := "zsetOrder", fn := fun _ => fun
  | [d1, d2, d3] => { results := [.lit (.bool false)], args := [d1, d2, d3] }
  | _ => none }
def ZsetOrderWrongFalsely : Prop := zsetOrderRow.holds Tryz.pinned (OpenSpec.ofChange zsetOrderWrong)

/-- 'decklelaw08.ZsetOver': WHATEVER THE INPUT: true; the input reads as it did. -/
def zsetOverSpec : ChangeSpec := { name := "zsetOver", fn := fun _ => fun
  | [d1, d2, d3] => { results := [.lit (.bool true)], args := [d1, d2, d3] }
  | _ => none }
def zsetOverRow : OpenClaim := { program := "ytciolchdihlgfaagreatdoor", sum := "80ed5191ce81a652c3a46270ad6f6a7a34923313fd3193ac43d1fde6c8abba81", func := "deckle/decklelaw08.ZsetOver", spec := "zsetOver", inPlace := ["internal/bytealg.IndexByteString", "internal/bytealg.IndexString", "internal/bytealg.abigen_runtime_cmpstring", "math/bits.Add64", "internal/abi.NoEscape", "internal/bytealg.MakeNoZero", "internal/bytealg.CountString"], unfollowed := true, recurses := true, named := ["unicode/utf8.first", "unicode/utf8.acceptRanges", "deckle/cell.names", "internal/strconv.uint64pow10", "math/bits.deBruijn32tab", "math/bits.deBruijn64tab", "internal/bytealg.MaxLen", "strconv.ErrSyntax", "strconv.ErrRange"], apart := false, laid := [("math/bits.deBruijn32tab", laid_math_bits_deBruijn32tab), ("math/bits.deBruijn64tab", laid_math_bits_deBruijn64tab), ("internal/strconv.uint64pow10", laid_internal_strconv_uint64pow10), ("unicode/utf8.acceptRanges", laid_unicode_utf8_acceptRanges), ("strconv.ErrRange", laid_strconv_ErrRange), ("strconv.ErrSyntax", laid_strconv_ErrSyntax), ("deckle/cell.names", laid_deckle_cell_names), ("unicode/utf8.first", laid_unicode_utf8_first)] }
def ZsetOverSaid : Prop := zsetOverRow.holds Tryz.pinned (OpenSpec.ofChange zsetOverSpec)

/-- ITS FALSE NEIGHBOUR: 'it returns false'. Refute it at one input. -/
def zsetOverWrong : ChangeSpec := { name := "zsetOver", fn := fun _ => fun
  | [d1, d2, d3] => { results := [.lit (.bool false)], args := [d1, d2, d3] }
  | _ => none }
def ZsetOverWrongFalsely : Prop := zsetOverRow.holds Tryz.pinned (OpenSpec.ofChange zsetOverWrong)

/-- 'decklelaw08.ZsetGroup': WHATEVER THE INPUT: true; the input reads as it did. -/
def zsetGroupSpec : ChangeSpec := { name := "zsetGroup", fn := fun _ => fun
  | [d1, d2] => { results := [.lit (.bool true)], args := [d1, d2] }
  | _ => none }
def zsetGroupRow : OpenClaim := { program := "ytciolchdihlgfaagreatdoor", sum := "80ed5191ce81a652c3a46270ad6f6a7a34923313fd3193ac43d1fde6c8abba81", func := "deckle/decklelaw08.ZsetGroup", spec := "zsetGroup", inPlace := ["internal/bytealg.IndexByteString", "internal/bytealg.IndexString", "internal/bytealg.abigen_runtime_cmpstring", "math/bits.Add64", "internal/abi.NoEscape", "internal/bytealg.MakeNoZero", "internal/bytealg.CountString"], unfollowed := true, recurses := true, named := ["unicode/utf8.first", "unicode/utf8.acceptRanges", "deckle/cell.names", "internal/strconv.uint64pow10", "math/bits.deBruijn32tab", "math/bits.deBruijn64tab", "internal/bytealg.MaxLen", "strconv.ErrSyntax", "strconv.ErrRange"], apart := false, laid := [("math/bits.deBruijn32tab", laid_math_bits_deBruijn32tab), ("math/bits.deBruijn64tab", laid_math_bits_deBruijn64tab), ("internal/strconv.uint64pow10", laid_internal_strconv_uint64pow10), ("unicode/utf8.acceptRanges", laid_unicode_utf8_acceptRanges), ("strconv.ErrRange", laid_strconv_ErrRange), ("strconv.ErrSyntax", laid_strconv_ErrSyntax), ("deckle/cell.names", laid_deckle_cell_names), ("unicode/utf8.first", laid_unicode_utf8_first)] }
def ZsetGroupSaid : Prop := zsetGroupRow.holds Tryz.pinned (OpenSpec.ofChange zsetGroupSpec)

/-- ITS FALSE NEIGHBOUR: 'it returns false'. Refute it at one input. -/
def zsetGroupWrong : ChangeSpec := { name := "zsetGroup", fn := fun _ => fun
  | [d1, d2] => { results := [.lit (.bool false)], args := [d1, d2] }
  | _ => none }
def ZsetGroupWrongFalsely : Prop := zsetGroupRow.holds Tryz.pinned (OpenSpec.ofChange zsetGroupWrong)

/-- 'decklelaw08.ZsetNegs': WHATEVER THE INPUT: true; the input reads as it did. -/
def zsetNegsSpec : ChangeSpec := { name := "zsetNegs", fn := fun _ => fun
  | [d1, d2] => { results := [.lit (.bool true)], args := [d1, d2] }
  | _ => none }
def zsetNegsRow : OpenClaim := { program := "ytciolchdihlgfaagreatdoor", sum := "80ed5191ce81a652c3a46270ad6f6a7a34923313fd3193ac43d1fde6c8abba81", func := "deckle/decklelaw08.ZsetNegs", spec := "zsetNegs", inPlace := ["internal/bytealg.IndexByteString", "internal/bytealg.IndexString", "internal/bytealg.abigen_runtime_cmpstring", "math/bits.Add64", "internal/abi.NoEscape", "internal/bytealg.MakeNoZero", "internal/bytealg.CountString"], unfollowed := true, recurses := true, named := ["unicode/utf8.first", "unicode/utf8.acceptRanges", "deckle/cell.names", "internal/strconv.uint64pow10", "math/bits.deBruijn32tab", "math/bits.deBruijn64tab", "internal/bytealg.MaxLen", "strconv.ErrSyntax", "strconv.ErrRange"], apart := false, laid := [("math/bits.deBruijn32tab", laid_math_bits_deBruijn32tab), ("math/bits.deBruijn64tab", laid_math_bits_deBruijn64tab), ("internal/strconv.uint64pow10", laid_internal_strconv_uint64pow10), ("unicode/utf8.acceptRanges", laid_unicode_utf8_acceptRanges), ("strconv.ErrRange", laid_strconv_ErrRange), ("strconv.ErrSyntax", laid_strconv_ErrSyntax), ("deckle/cell.names", laid_deckle_cell_names), ("unicode/utf8.first", laid_unicode_utf8_first)] }
def ZsetNegsSaid : Prop := zsetNegsRow.holds Tryz.pinned (OpenSpec.ofChange zsetNegsSpec)

/-- ITS FALSE NEIGHBOUR: 'it returns false'. Refute it at one input. -/
def zsetNegsWrong : ChangeSpec := { name := "zsetNegs", fn := fun _ => fun
  | [d1, d2] => { results := [.lit (.bool false)], args := [d1, d2] }
  | _ => none }
def ZsetNegsWrongFalsely : Prop := zsetNegsRow.holds Tryz.pinned (OpenSpec.ofChange zsetNegsWrong)

/-- 'decklelaw08.ZsetLess': WHATEVER THE INPUT: true; the input reads as it did. -/
def zsetLessSpec : ChangeSpec := { name := "zsetLess", fn := fun _ => fun
  | [d1, d2, d3] => { results := [.lit (.bool true)], args := [d1, d2, d3] }
  | _ => none }
def zsetLessRow : OpenClaim := { program := "ytciolchdihlgfaagreatdoor", sum := "80ed5191ce81a652c3a46270ad6f6a7a34923313fd3193ac43d1fde6c8abba81", func := "deckle/decklelaw08.ZsetLess", spec := "zsetLess", inPlace := ["internal/bytealg.IndexByteString", "internal/bytealg.IndexString", "internal/bytealg.abigen_runtime_cmpstring", "math/bits.Add64", "internal/abi.NoEscape", "internal/bytealg.MakeNoZero", "internal/bytealg.CountString"], unfollowed := true, recurses := true, named := ["unicode/utf8.first", "unicode/utf8.acceptRanges", "deckle/cell.names", "internal/strconv.uint64pow10", "math/bits.deBruijn32tab", "math/bits.deBruijn64tab", "internal/bytealg.MaxLen", "strconv.ErrSyntax", "strconv.ErrRange"], apart := false, laid := [("math/bits.deBruijn32tab", laid_math_bits_deBruijn32tab), ("math/bits.deBruijn64tab", laid_math_bits_deBruijn64tab), ("internal/strconv.uint64pow10", laid_internal_strconv_uint64pow10), ("unicode/utf8.acceptRanges", laid_unicode_utf8_acceptRanges), ("strconv.ErrRange", laid_strconv_ErrRange), ("strconv.ErrSyntax", laid_strconv_ErrSyntax), ("deckle/cell.names", laid_deckle_cell_names), ("unicode/utf8.first", laid_unicode_utf8_first)] }
def ZsetLessSaid : Prop := zsetLessRow.holds Tryz.pinned (OpenSpec.ofChange zsetLessSpec)

/-- ITS FALSE NEIGHBOUR: 'it returns false'. Refute it at one input. -/
def zsetLessWrong : ChangeSpec := { name := "zsetLess", fn := fun _ => fun
  | [d1, d2, d3] => { results := [.lit (.bool false)], args := [d1, d2, d3] }
  | _ => none }
def ZsetLessWrongFalsely : Prop := zsetLessRow.holds Tryz.pinned (OpenSpec.ofChange zsetLessWrong)

/-- 'decklelaw08.ZsetSums': WHATEVER THE INPUT: true; the input reads as it did. -/
def zsetSumsSpec : ChangeSpec := { name := "zsetSums", fn := fun _ => fun
  | [d1, d2, d3] => { results := [.lit (.bool true)], args := [d1, d2, d3] }
  | _ => none }
def zsetSumsRow : OpenClaim := { program := "ytciolchdihlgfaagreatdoor", sum := "80ed5191ce81a652c3a46270ad6f6a7a34923313fd3193ac43d1fde6c8abba81", func := "deckle/decklelaw08.ZsetSums", spec := "zsetSums", inPlace := ["internal/bytealg.IndexByteString", "internal/bytealg.IndexString", "internal/bytealg.abigen_runtime_cmpstring", "math/bits.Add64", "internal/abi.NoEscape", "internal/bytealg.MakeNoZero", "internal/bytealg.CountString", "math.Float64frombits"], unfollowed := true, recurses := true, named := ["unicode/utf8.first", "unicode/utf8.acceptRanges", "deckle/cell.names", "internal/strconv.uint64pow10", "math/bits.deBruijn32tab", "math/bits.deBruijn64tab", "internal/bytealg.MaxLen", "strconv.ErrSyntax", "strconv.ErrRange"], apart := false, laid := [("math/bits.deBruijn32tab", laid_math_bits_deBruijn32tab), ("math/bits.deBruijn64tab", laid_math_bits_deBruijn64tab), ("internal/strconv.uint64pow10", laid_internal_strconv_uint64pow10), ("unicode/utf8.acceptRanges", laid_unicode_utf8_acceptRanges), ("strconv.ErrRange", laid_strconv_ErrRange), ("strconv.ErrSyntax", laid_strconv_ErrSyntax), ("deckle/cell.names", laid_deckle_cell_names), ("unicode/utf8.first", laid_unicode_utf8_first)] }
def ZsetSumsSaid : Prop := zsetSumsRow.holds Tryz.pinned (OpenSpec.ofChange zsetSumsSpec)

/-- ITS FALSE NEIGHBOUR: 'it returns false'. Refute it at one input. -/
def zsetSumsWrong : ChangeSpec := { name := "zsetSums", fn := fun _ => fun
  | [d1, d2, d3] => { results := [.lit (.bool false)], args := [d1, d2, d3] }
  | _ => none }
def ZsetSumsWrongFalsely : Prop := zsetSumsRow.holds Tryz.pinned (OpenSpec.ofChange zsetSumsWrong)

/- THE SECOND FORM. 'bulk': how many values and letters a reading holds, each counted each time it is reached (what is shared counts as often as it is met; a slice's spare places count too). A statement '..UptoSaid' is the law's where the arguments, and the package variables that the reading takes, are together of bulk at most 1048576: NARROWER than '..Said'. Prove '..Said' where nothing that the law and all that it calls make is longer than what came in: it says more and counts as full. Else prove '..UptoSaid'. A law counts once. -/
mutual
def uptoBulk {H : Type} : DataW H → Nat
  | .lit (.string bytes) => bytes.length + 1
  | .lit _ => 1
  | .nil => 1
  | .ptr d => uptoBulk d + 1
  | .slice elems spare => uptoBulkAll elems + uptoBulkAll spare + 1
  | .agg parts => uptoBulkAll parts + 1
  | .iface _ d => uptoBulk d + 1
  | .map entries => uptoBulkEntries entries + 1
  | .held _ => 1
def uptoBulkAll {H : Type} : List (DataW H) → Nat
  | [] => 0
  | d :: r => uptoBulk d + uptoBulkAll r
def uptoBulkEntries {H : Type} : List (Lit × DataW H) → Nat
  | [] => 0
  | x :: r => uptoBulkEntry x + uptoBulkEntries r
def uptoBulkEntry {H : Type} : Lit × DataW H → Nat
  | (.string bytes, d) => bytes.length + uptoBulk d + 1
  | (_, d) => uptoBulk d + 1
 end
def uptoSmall : (H : Type) → List (DataW H) → Bool := fun _ ds => decide (uptoBulkAll ds ≤ 1048576)
def OpenSpec.upto (s : _root_.Go.ChangeSpec) : _root_.Go.OpenSpec := { _root_.Go.OpenSpec.ofChange s with cond := some uptoSmall }

/-- 'decklelaw04.CellTexts', WHERE WHAT IT READS IS OF BULK AT MOST 1048576: true; the input reads as it did. -/
def cellTextsUptoRow : OpenClaim := { program := "ytciolchdihlgfaagreatdoor", sum := "80ed5191ce81a652c3a46270ad6f6a7a34923313fd3193ac43d1fde6c8abba81", func := "deckle/decklelaw04.CellTexts", spec := "cellTexts", inPlace := ["math.Float64bits", "math.Float64frombits", "internal/abi.NoEscape", "internal/bytealg.MakeNoZero", "internal/bytealg.abigen_runtime_cmpstring", "internal/bytealg.IndexByteString", "internal/bytealg.IndexString"], named := ["unicode/utf8.first", "unicode/utf8.acceptRanges", "internal/strconv.uint64pow10", "math/bits.deBruijn32tab", "math/bits.deBruijn64tab", "strconv.ErrSyntax", "strconv.ErrRange", "internal/bytealg.MaxLen"], apart := false, laid := [("math/bits.deBruijn32tab", laid_math_bits_deBruijn32tab), ("math/bits.deBruijn64tab", laid_math_bits_deBruijn64tab), ("internal/strconv.uint64pow10", laid_internal_strconv_uint64pow10), ("unicode/utf8.acceptRanges", laid_unicode_utf8_acceptRanges), ("strconv.ErrRange", laid_strconv_ErrRange), ("strconv.ErrSyntax", laid_strconv_ErrSyntax), ("unicode/utf8.first", laid_unicode_utf8_first)], narrowed := true }
def CellTextsUptoSaid : Prop := cellTextsUptoRow.holds Tryz.pinned (OpenSpec.upto cellTextsSpec)

/-- 'decklelaw04.CellBack', WHERE WHAT IT READS IS OF BULK AT MOST 1048576: true; the input reads as it did. -/
def cellBackUptoRow : OpenClaim := { program := "ytciolchdihlgfaagreatdoor", sum := "80ed5191ce81a652c3a46270ad6f6a7a34923313fd3193ac43d1fde6c8abba81", func := "deckle/decklelaw04.CellBack", spec := "cellBack", inPlace := ["math.Float64bits", "math.Float64frombits", "internal/abi.NoEscape", "internal/bytealg.MakeNoZero", "internal/bytealg.abigen_runtime_cmpstring", "internal/bytealg.IndexByteString", "internal/bytealg.IndexString"], named := ["unicode/utf8.first", "unicode/utf8.acceptRanges", "internal/strconv.uint64pow10", "math/bits.deBruijn32tab", "math/bits.deBruijn64tab", "strconv.ErrSyntax", "strconv.ErrRange", "internal/bytealg.MaxLen"], apart := false, laid := [("math/bits.deBruijn32tab", laid_math_bits_deBruijn32tab), ("math/bits.deBruijn64tab", laid_math_bits_deBruijn64tab), ("internal/strconv.uint64pow10", laid_internal_strconv_uint64pow10), ("unicode/utf8.acceptRanges", laid_unicode_utf8_acceptRanges), ("strconv.ErrRange", laid_strconv_ErrRange), ("strconv.ErrSyntax", laid_strconv_ErrSyntax), ("unicode/utf8.first", laid_unicode_utf8_first)], narrowed := true }
def CellBackUptoSaid : Prop := cellBackUptoRow.holds Tryz.pinned (OpenSpec.upto cellBackSpec)

/-- 'decklelaw06.RowFirst', WHERE WHAT IT READS IS OF BULK AT MOST 1048576: true; the input reads as it did. -/
def rowFirstUptoRow : OpenClaim := { program := "ytciolchdihlgfaagreatdoor", sum := "80ed5191ce81a652c3a46270ad6f6a7a34923313fd3193ac43d1fde6c8abba81", func := "deckle/decklelaw06.RowFirst", spec := "rowFirst", inPlace := ["internal/bytealg.IndexByteString", "internal/bytealg.IndexString", "internal/bytealg.CountString", "internal/abi.NoEscape", "internal/bytealg.MakeNoZero", "internal/bytealg.abigen_runtime_cmpstring"], unfollowed := true, recurses := true, named := ["unicode/utf8.first", "unicode/utf8.acceptRanges", "deckle/cell.names", "internal/bytealg.MaxLen", "strconv.ErrSyntax", "strconv.ErrRange", "internal/strconv.uint64pow10", "math/bits.deBruijn32tab", "math/bits.deBruijn64tab"], apart := false, laid := [("math/bits.deBruijn32tab", laid_math_bits_deBruijn32tab), ("math/bits.deBruijn64tab", laid_math_bits_deBruijn64tab), ("internal/strconv.uint64pow10", laid_internal_strconv_uint64pow10), ("unicode/utf8.acceptRanges", laid_unicode_utf8_acceptRanges), ("strconv.ErrRange", laid_strconv_ErrRange), ("strconv.ErrSyntax", laid_strconv_ErrSyntax), ("deckle/cell.names", laid_deckle_cell_names), ("unicode/utf8.first", laid_unicode_utf8_first)], narrowed := true }
def RowFirstUptoSaid : Prop := rowFirstUptoRow.holds Tryz.pinned (OpenSpec.upto rowFirstSpec)

/-- 'decklelaw06.RowOrder', WHERE WHAT IT READS IS OF BULK AT MOST 1048576: true; the input reads as it did. -/
def rowOrderUptoRow : OpenClaim := { program := "ytciolchdihlgfaagreatdoor", sum := "80ed5191ce81a652c3a46270ad6f6a7a34923313fd3193ac43d1fde6c8abba81", func := "deckle/decklelaw06.RowOrder", spec := "rowOrder", inPlace := ["internal/bytealg.IndexByteString", "internal/bytealg.IndexString", "internal/bytealg.CountString", "internal/abi.NoEscape", "internal/bytealg.MakeNoZero", "internal/bytealg.abigen_runtime_cmpstring"], unfollowed := true, recurses := true, named := ["unicode/utf8.first", "unicode/utf8.acceptRanges", "deckle/cell.names", "internal/bytealg.MaxLen", "strconv.ErrSyntax", "strconv.ErrRange", "internal/strconv.uint64pow10", "math/bits.deBruijn32tab", "math/bits.deBruijn64tab"], apart := false, laid := [("math/bits.deBruijn32tab", laid_math_bits_deBruijn32tab), ("math/bits.deBruijn64tab", laid_math_bits_deBruijn64tab), ("internal/strconv.uint64pow10", laid_internal_strconv_uint64pow10), ("unicode/utf8.acceptRanges", laid_unicode_utf8_acceptRanges), ("strconv.ErrRange", laid_strconv_ErrRange), ("strconv.ErrSyntax", laid_strconv_ErrSyntax), ("deckle/cell.names", laid_deckle_cell_names), ("unicode/utf8.first", laid_unicode_utf8_first)], narrowed := true }
def RowOrderUptoSaid : Prop := rowOrderUptoRow.holds Tryz.pinned (OpenSpec.upto rowOrderSpec)

/-- 'decklelaw06.RowChecks', WHERE WHAT IT READS IS OF BULK AT MOST 1048576: true; the input reads as it did. -/
def rowChecksUptoRow : OpenClaim := { program := "ytciolchdihlgfaagreatdoor", sum := "80ed5191ce81a652c3a46270ad6f6a7a34923313fd3193ac43d1fde6c8abba81", func := "deckle/decklelaw06.RowChecks", spec := "rowChecks", inPlace := ["internal/bytealg.IndexByteString", "internal/bytealg.IndexString", "internal/bytealg.CountString", "internal/abi.NoEscape", "internal/bytealg.MakeNoZero", "internal/bytealg.abigen_runtime_cmpstring", "math.Float64frombits"], unfollowed := true, recurses := true, named := ["unicode/utf8.first", "unicode/utf8.acceptRanges", "deckle/cell.names", "internal/bytealg.MaxLen", "strconv.ErrSyntax", "strconv.ErrRange", "internal/strconv.uint64pow10", "math/bits.deBruijn32tab", "math/bits.deBruijn64tab"], apart := false, laid := [("math/bits.deBruijn32tab", laid_math_bits_deBruijn32tab), ("math/bits.deBruijn64tab", laid_math_bits_deBruijn64tab), ("internal/strconv.uint64pow10", laid_internal_strconv_uint64pow10), ("unicode/utf8.acceptRanges", laid_unicode_utf8_acceptRanges), ("strconv.ErrRange", laid_strconv_ErrRange), ("strconv.ErrSyntax", laid_strconv_ErrSyntax), ("deckle/cell.names", laid_deckle_cell_names), ("unicode/utf8.first", laid_unicode_utf8_first)], narrowed := true }
def RowChecksUptoSaid : Prop := rowChecksUptoRow.holds Tryz.pinned (OpenSpec.upto rowChecksSpec)

/-- 'decklelaw06.RowTexts', WHERE WHAT IT READS IS OF BULK AT MOST 1048576: true; the input reads as it did. -/
def rowTextsUptoRow : OpenClaim := { program := "ytciolchdihlgfaagreatdoor", sum := "80ed5191ce81a652c3a46270ad6f6a7a34923313fd3193ac43d1fde6c8abba81", func := "deckle/decklelaw06.RowTexts", spec := "rowTexts", inPlace := ["internal/bytealg.IndexByteString", "internal/bytealg.IndexString", "internal/bytealg.CountString", "internal/abi.NoEscape", "internal/bytealg.MakeNoZero", "internal/bytealg.abigen_runtime_cmpstring"], unfollowed := true, recurses := true, named := ["unicode/utf8.first", "unicode/utf8.acceptRanges", "deckle/cell.names", "internal/bytealg.MaxLen", "strconv.ErrSyntax", "strconv.ErrRange", "internal/strconv.uint64pow10", "math/bits.deBruijn32tab", "math/bits.deBruijn64tab"], apart := false, laid := [("math/bits.deBruijn32tab", laid_math_bits_deBruijn32tab), ("math/bits.deBruijn64tab", laid_math_bits_deBruijn64tab), ("internal/strconv.uint64pow10", laid_internal_strconv_uint64pow10), ("unicode/utf8.acceptRanges", laid_unicode_utf8_acceptRanges), ("strconv.ErrRange", laid_strconv_ErrRange), ("strconv.ErrSyntax", laid_strconv_ErrSyntax), ("deckle/cell.names", laid_deckle_cell_names), ("unicode/utf8.first", laid_unicode_utf8_first)], narrowed := true }
def RowTextsUptoSaid : Prop := rowTextsUptoRow.holds Tryz.pinned (OpenSpec.upto rowTextsSpec)

/-- 'decklelaw06.RowBack', WHERE WHAT IT READS IS OF BULK AT MOST 1048576: true; the input reads as it did. -/
def rowBackUptoRow : OpenClaim := { program := "ytciolchdihlgfaagreatdoor", sum := "80ed5191ce81a652c3a46270ad6f6a7a34923313fd3193ac43d1fde6c8abba81", func := "deckle/decklelaw06.RowBack", spec := "rowBack", inPlace := ["internal/bytealg.IndexByteString", "internal/bytealg.IndexString", "internal/bytealg.CountString", "internal/abi.NoEscape", "internal/bytealg.MakeNoZero", "internal/bytealg.abigen_runtime_cmpstring"], unfollowed := true, recurses := true, named := ["unicode/utf8.first", "unicode/utf8.acceptRanges", "deckle/cell.names", "internal/bytealg.MaxLen", "strconv.ErrSyntax", "strconv.ErrRange", "internal/strconv.uint64pow10", "math/bits.deBruijn32tab", "math/bits.deBruijn64tab"], apart := false, laid := [("math/bits.deBruijn32tab", laid_math_bits_deBruijn32tab), ("math/bits.deBruijn64tab", laid_math_bits_deBruijn64tab), ("internal/strconv.uint64pow10", laid_internal_strconv_uint64pow10), ("unicode/utf8.acceptRanges", laid_unicode_utf8_acceptRanges), ("strconv.ErrRange", laid_strconv_ErrRange), ("strconv.ErrSyntax", laid_strconv_ErrSyntax), ("deckle/cell.names", laid_deckle_cell_names), ("unicode/utf8.first", laid_unicode_utf8_first)], narrowed := true }
def RowBackUptoSaid : Prop := rowBackUptoRow.holds Tryz.pinned (OpenSpec.upto rowBackSpec)

/-- 'decklelaw08.ZsetCollects', WHERE WHAT IT READS IS OF BULK AT MOST 1048576: true; the input reads as it did. -/
def zsetCollectsUptoRow : OpenClaim := { program := "ytciolchdihlgfaagreatdoor", sum := "80ed5191ce81a652c3a46270ad6f6a7a34923313fd3193ac43d1fde6c8abba81", func := "deckle/decklelaw08.ZsetCollects", spec := "zsetCollects", inPlace := ["internal/bytealg.IndexByteString", "internal/bytealg.IndexString", "internal/bytealg.abigen_runtime_cmpstring", "math/bits.Add64", "internal/abi.NoEscape", "internal/bytealg.MakeNoZero", "internal/bytealg.CountString", "math.Float64frombits"], unfollowed := true, recurses := true, named := ["unicode/utf8.first", "unicode/utf8.acceptRanges", "deckle/cell.names", "internal/strconv.uint64pow10", "math/bits.deBruijn32tab", "math/bits.deBruijn64tab", "internal/bytealg.MaxLen", "strconv.ErrSyntax", "strconv.ErrRange"], apart := false, laid := [("math/bits.deBruijn32tab", laid_math_bits_deBruijn32tab), ("math/bits.deBruijn64tab", laid_math_bits_deBruijn64tab), ("internal/strconv.uint64pow10", laid_internal_strconv_uint64pow10), ("unicode/utf8.acceptRanges", laid_unicode_utf8_acceptRanges), ("strconv.ErrRange", laid_strconv_ErrRange), ("strconv.ErrSyntax", laid_strconv_ErrSyntax), ("deckle/cell.names", laid_deckle_cell_names), ("unicode/utf8.first", laid_unicode_utf8_first)], narrowed := true }
def ZsetCollectsUptoSaid : Prop := zsetCollectsUptoRow.holds Tryz.pinned (OpenSpec.upto zsetCollectsSpec)

/-- 'decklelaw08.ZsetTexts', WHERE WHAT IT READS IS OF BULK AT MOST 1048576: true; the input reads as it did. -/
def zsetTextsUptoRow : OpenClaim := { program := "ytciolchdihlgfaagreatdoor", sum := "80ed5191ce81a652c3a46270ad6f6a7a34923313fd3193ac43d1fde6c8abba81", func := "deckle/decklelaw08.ZsetTexts", spec := "zsetTexts", inPlace := ["internal/bytealg.IndexByteString", "internal/bytealg.IndexString", "internal/bytealg.abigen_runtime_cmpstring", "math/bits.Add64", "internal/abi.NoEscape", "internal/bytealg.MakeNoZero", "internal/bytealg.CountString", "math.Float64frombits"], unfollowed := true, recurses := true, named := ["unicode/utf8.first", "unicode/utf8.acceptRanges", "deckle/cell.names", "internal/strconv.uint64pow10", "math/bits.deBruijn32tab", "math/bits.deBruijn64tab", "internal/bytealg.MaxLen", "strconv.ErrSyntax", "strconv.ErrRange"], apart := false, laid := [("math/bits.deBruijn32tab", laid_math_bits_deBruijn32tab), ("math/bits.deBruijn64tab", laid_math_bits_deBruijn64tab), ("internal/strconv.uint64pow10", laid_internal_strconv_uint64pow10), ("unicode/utf8.acceptRanges", laid_unicode_utf8_acceptRanges), ("strconv.ErrRange", laid_strconv_ErrRange), ("strconv.ErrSyntax", laid_strconv_ErrSyntax), ("deckle/cell.names", laid_deckle_cell_names), ("unicode/utf8.first", laid_unicode_utf8_first)], narrowed := true }
def ZsetTextsUptoSaid : Prop := zsetTextsUptoRow.holds Tryz.pinned (OpenSpec.upto zsetTextsSpec)

/-- 'decklelaw08.ZsetOrder', WHERE WHAT IT READS IS OF BULK AT MOST 1048576: true; the input reads as it did. -/
def zsetOrderUptoRow : OpenClaim := { program := "ytciolchdihlgfaagreatdoor", sum := "80ed5191ce81a652c3a46270ad6f6a7a34923313fd3193ac43d1fde6c8abba81", func := "deckle/decklelaw08.ZsetOrder", spec := "zsetOrder", inPlace := ["internal/bytealg.IndexByteString", "internal/bytealg.IndexString", "internal/bytealg.abigen_runtime_cmpstring", "math/bits.Add64", "internal/abi.NoEscape", "internal/bytealg.MakeNoZero", "internal/bytealg.CountString"], unfollowed := true, recurses := true, named := ["unicode/utf8.first", "unicode/utf8.acceptRanges", "deckle/cell.names", "internal/strconv.uint64pow10", "math/bits.deBruijn32tab", "math/bits.deBruijn64tab", "internal/bytealg.MaxLen", "strconv.ErrSyntax", "strconv.ErrRange"], apart := false, laid := [("math/bits.deBruijn32tab", laid_math_bits_deBruijn32tab), ("math/bits.deBruijn64tab", laid_math_bits_deBruijn64tab), ("internal/strconv.uint64pow10", laid_internal_strconv_uint64pow10), ("unicode/utf8.acceptRanges", laid_unicode_utf8_acceptRanges), ("strconv.ErrRange", laid_strconv_ErrRange), ("strconv.ErrSyntax", laid_strconv_ErrSyntax), ("deckle/cell.names", laid_deckle_cell_names), ("unicode/utf8.first", laid_unicode_utf8_first)], narrowed := true }
def ZsetOrderUptoSaid : Prop := zsetOrderUptoRow.holds Tryz.pinned (OpenSpec.upto zsetOrderSpec)

/-- 'decklelaw08.ZsetOver', WHERE WHAT IT READS IS OF BULK AT MOST 1048576: true; the input reads as it did. -/
def zsetOverUptoRow : OpenClaim := { program := "ytciolchdihlgfaagreatdoor", sum := "80ed5191ce81a652c3a46270ad6f6a7a34923313fd3193ac43d1fde6c8abba81", func := "deckle/decklelaw08.ZsetOver", spec := "zsetOver", inPlace := ["internal/bytealg.IndexByteString", "internal/bytealg.IndexString", "internal/bytealg.abigen_runtime_cmpstring", "math/bits.Add64", "internal/abi.NoEscape", "internal/bytealg.MakeNoZero", "internal/bytealg.CountString"], unfollowed := true, recurses := true, named := ["unicode/utf8.first", "unicode/utf8.acceptRanges", "deckle/cell.names", "internal/strconv.uint64pow10", "math/bits.deBruijn32tab", "math/bits.deBruijn64tab", "internal/bytealg.MaxLen", "strconv.ErrSyntax", "strconv.ErrRange"], apart := false, laid := [("math/bits.deBruijn32tab", laid_math_bits_deBruijn32tab), ("math/bits.deBruijn64tab", laid_math_bits_deBruijn64tab), ("internal/strconv.uint64pow10", laid_internal_strconv_uint64pow10), ("unicode/utf8.acceptRanges", laid_unicode_utf8_acceptRanges), ("strconv.ErrRange", laid_strconv_ErrRange), ("strconv.ErrSyntax", laid_strconv_ErrSyntax), ("deckle/cell.names", laid_deckle_cell_names), ("unicode/utf8.first", laid_unicode_utf8_first)], narrowed := true }
def ZsetOverUptoSaid : Prop := zsetOverUptoRow.holds Tryz.pinned (OpenSpec.upto zsetOverSpec)

/-- 'decklelaw08.ZsetGroup', WHERE WHAT IT READS IS OF BULK AT MOST 1048576: true; the input reads as it did. -/
def zsetGroupUptoRow : OpenClaim := { program := "ytciolchdihlgfaagreatdoor", sum := "80ed5191ce81a652c3a46270ad6f6a7a34923313fd3193ac43d1fde6c8abba81", func := "deckle/decklelaw08.ZsetGroup", spec := "zsetGroup", inPlace := ["internal/bytealg.IndexByteString", "internal/bytealg.IndexString", "internal/bytealg.abigen_runtime_cmpstring", "math/bits.Add64", "internal/abi.NoEscape", "internal/bytealg.MakeNoZero", "internal/bytealg.CountString"], unfollowed := true, recurses := true, named := ["unicode/utf8.first", "unicode/utf8.acceptRanges", "deckle/cell.names", "internal/strconv.uint64pow10", "math/bits.deBruijn32tab", "math/bits.deBruijn64tab", "internal/bytealg.MaxLen", "strconv.ErrSyntax", "strconv.ErrRange"], apart := false, laid := [("math/bits.deBruijn32tab", laid_math_bits_deBruijn32tab), ("math/bits.deBruijn64tab", laid_math_bits_deBruijn64tab), ("internal/strconv.uint64pow10", laid_internal_strconv_uint64pow10), ("unicode/utf8.acceptRanges", laid_unicode_utf8_acceptRanges), ("strconv.ErrRange", laid_strconv_ErrRange), ("strconv.ErrSyntax", laid_strconv_ErrSyntax), ("deckle/cell.names", laid_deckle_cell_names), ("unicode/utf8.first", laid_unicode_utf8_first)], narrowed := true }
def ZsetGroupUptoSaid : Prop := zsetGroupUptoRow.holds Tryz.pinned (OpenSpec.upto zsetGroupSpec)

/-- 'decklelaw08.ZsetNegs', WHERE WHAT IT READS IS OF BULK AT MOST 1048576: true; the input reads as it did. -/
def zsetNegsUptoRow : OpenClaim := { program := "ytciolchdihlgfaagreatdoor", sum := "80ed5191ce81a652c3a46270ad6f6a7a34923313fd3193ac43d1fde6c8abba81", func := "deckle/decklelaw08.ZsetNegs", spec := "zsetNegs", inPlace := ["internal/bytealg.IndexByteString", "internal/bytealg.IndexString", "internal/bytealg.abigen_runtime_cmpstring", "math/bits.Add64", "internal/abi.NoEscape", "internal/bytealg.MakeNoZero", "internal/bytealg.CountString"], unfollowed := true, recurses := true, named := ["unicode/utf8.first", "unicode/utf8.acceptRanges", "deckle/cell.names", "internal/strconv.uint64pow10", "math/bits.deBruijn32tab", "math/bits.deBruijn64tab", "internal/bytealg.MaxLen", "strconv.ErrSyntax", "strconv.ErrRange"], apart := false, laid := [("math/bits.deBruijn32tab", laid_math_bits_deBruijn32tab), ("math/bits.deBruijn64tab", laid_math_bits_deBruijn64tab), ("internal/strconv.uint64pow10", laid_internal_strconv_uint64pow10), ("unicode/utf8.acceptRanges", laid_unicode_utf8_acceptRanges), ("strconv.ErrRange", laid_strconv_ErrRange), ("strconv.ErrSyntax", laid_strconv_ErrSyntax), ("deckle/cell.names", laid_deckle_cell_names), ("unicode/utf8.first", laid_unicode_utf8_first)], narrowed := true }
def ZsetNegsUptoSaid : Prop := zsetNegsUptoRow.holds Tryz.pinned (OpenSpec.upto zsetNegsSpec)

/-- 'decklelaw08.ZsetLess', WHERE WHAT IT READS IS OF BULK AT MOST 1048576: true; the input reads as it did. -/
def zsetLessUptoRow : OpenClaim := { program := "ytciolchdihlgfaagreatdoor", sum := "80ed5191ce81a652c3a46270ad6f6a7a34923313fd3193ac43d1fde6c8abba81", func := "deckle/decklelaw08.ZsetLess", spec := "zsetLess", inPlace := ["internal/bytealg.IndexByteString", "internal/bytealg.IndexString", "internal/bytealg.abigen_runtime_cmpstring", "math/bits.Add64", "internal/abi.NoEscape", "internal/bytealg.MakeNoZero", "internal/bytealg.CountString"], unfollowed := true, recurses := true, named := ["unicode/utf8.first", "unicode/utf8.acceptRanges", "deckle/cell.names", "internal/strconv.uint64pow10", "math/bits.deBruijn32tab", "math/bits.deBruijn64tab", "internal/bytealg.MaxLen", "strconv.ErrSyntax", "strconv.ErrRange"], apart := false, laid := [("math/bits.deBruijn32tab", laid_math_bits_deBruijn32tab), ("math/bits.deBruijn64tab", laid_math_bits_deBruijn64tab), ("internal/strconv.uint64pow10", laid_internal_strconv_uint64pow10), ("unicode/utf8.acceptRanges", laid_unicode_utf8_acceptRanges), ("strconv.ErrRange", laid_strconv_ErrRange), ("strconv.ErrSyntax", laid_strconv_ErrSyntax), ("deckle/cell.names", laid_deckle_cell_names), ("unicode/utf8.first", laid_unicode_utf8_first)], narrowed := true }
def ZsetLessUptoSaid : Prop := zsetLessUptoRow.holds Tryz.pinned (OpenSpec.upto zsetLessSpec)

/-- 'decklelaw08.ZsetSums', WHERE WHAT IT READS IS OF BULK AT MOST 1048576: true; the input reads as it did. -/
def zsetSumsUptoRow : OpenClaim := { program := "ytciolchdihlgfaagreatdoor", sum := "80ed5191ce81a652c3a46270ad6f6a7a34923313fd3193ac43d1fde6c8abba81", func := "deckle/decklelaw08.ZsetSums", spec := "zsetSums", inPlace := ["internal/bytealg.IndexByteString", "internal/bytealg.IndexString", "internal/bytealg.abigen_runtime_cmpstring", "math/bits.Add64", "internal/abi.NoEscape", "internal/bytealg.MakeNoZero", "internal/bytealg.CountString", "math.Float64frombits"], unfollowed := true, recurses := true, named := ["unicode/utf8.first", "unicode/utf8.acceptRanges", "deckle/cell.names", "internal/strconv.uint64pow10", "math/bits.deBruijn32tab", "math/bits.deBruijn64tab", "internal/bytealg.MaxLen", "strconv.ErrSyntax", "strconv.ErrRange"], apart := false, laid := [("math/bits.deBruijn32tab", laid_math_bits_deBruijn32tab), ("math/bits.deBruijn64tab", laid_math_bits_deBruijn64tab), ("internal/strconv.uint64pow10", laid_internal_strconv_uint64pow10), ("unicode/utf8.acceptRanges", laid_unicode_utf8_acceptRanges), ("strconv.ErrRange", laid_strconv_ErrRange), ("strconv.ErrSyntax", laid_strconv_ErrSyntax), ("deckle/cell.names", laid_deckle_cell_names), ("unicode/utf8.first", laid_unicode_utf8_first)], narrowed := true }
def ZsetSumsUptoSaid : Prop := zsetSumsUptoRow.holds Tryz.pinned (OpenSpec.upto zsetSumsSpec)

end Rows
end Go.Proofs.YtciolchdihlgfaaGreatDoor
