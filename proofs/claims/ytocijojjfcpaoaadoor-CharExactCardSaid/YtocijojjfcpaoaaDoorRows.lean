/-
  NARROWER THAN 'FOR EVERY INPUT', by the rows' own cells (each row's printed sentence says how): WidthOf: laid · WidthTable: laid · WidthTexts: laid · WidthCuts: laid · CharJoined: laid · ClassKeys: laid · ClassPoint: laid · ClassTexts: laid · ClassSigns: laid · CharRange: laid · ClassTable: laid · CharBack: laid · ClassNames: laid · CharSteps: laid · CharExact: laid.
  DERIVED. THE GIVEN ROWS OF THIS SEAT. 15 by the template 'for every input the law returns true; each argument reads behind the call as it read before'; 0 by the template 'total and deterministic' (their statements: YtocijojjfcpaoaaDoorTotals.lean).
  GIVEN WITH THE SEED: the statements are not yours to turn. If you find one false, say at which input.
  Laid BY PROGRAM, IN A SANDBOX (cutbox-rows.mjs): the forced cells as the released guide's own fill.sh prints them over the translation cc449e2bd08a4dc8… (all of the seat's roots in one cut). By AI agents, Wed Nov 11 2026. No macro, syntax, notation, axiom, sorry.
-/
import Derived.Test.YtocijojjfcpaoaaDoorChecked
import GoSem.PinnedTables
import GoSem.Claim
import GoSem.ClaimJoined
import GoSem.ClaimMapViews
import Derived.JoinedTies
import Derived.KernelRfl
namespace Go.Proofs.YtocijojjfcpaoaaDoor
/- THE CELL 'sum', in the pinned program and in every row, IS THE sha256 OF THE DUMP (.gsa) THAT YtocijojjfcpaoaaDoorProg.lean LOADS. Nothing in Lean hashes anything: it is a label: what it is worth is what the hold of that sum in a sandbox is worth. -/
noncomputable def Tryd.pinned : Pinned := { name := "ytocijojjfcpaoaadoor", sum := "cc449e2bd08a4dc8bef128bace310370eaa11c3f72bdc98e45e58481bc494acc", checked := Tryd.checked }
namespace Rows
def none {H : Type} : Left H := { results := [], args := [] }

/- WHAT THE LISTED PACKAGE-LEVEL VARIABLES READ AS WHEN THE CALL BEGINS. Each datum BY PROGRAM (the guide's laid-datum.mjs) off the statement by which the dump's own 'gosem.cut.vars' lays the variable. In a bare row this is a premise. The card (YtocijojjfcpaoaaDoorCards.lean) ties it to the program's text. -/
def laid_colophon_width_double {H : Type} : DataW H := .agg [.agg [.lit (.int .i64 4352), .lit (.int .i64 4447)], .agg [.lit (.int .i64 11904), .lit (.int .i64 12350)], .agg [.lit (.int .i64 12353), .lit (.int .i64 42191)], .agg [.lit (.int .i64 44032), .lit (.int .i64 55203)], .agg [.lit (.int .i64 63744), .lit (.int .i64 64255)], .agg [.lit (.int .i64 65072), .lit (.int .i64 65135)], .agg [.lit (.int .i64 65280), .lit (.int .i64 65376)], .agg [.lit (.int .i64 65504), .lit (.int .i64 65510)], .agg [.lit (.int .i64 127744), .lit (.int .i64 128591)], .agg [.lit (.int .i64 129280), .lit (.int .i64 129535)], .agg [.lit (.int .i64 131072), .lit (.int .i64 262141)]]
def laid_colophon_width_none {H : Type} : DataW H := .agg [.agg [.lit (.int .i64 768), .lit (.int .i64 879)], .agg [.lit (.int .i64 8203), .lit (.int .i64 8207)], .agg [.lit (.int .i64 8400), .lit (.int .i64 8447)], .agg [.lit (.int .i64 65024), .lit (.int .i64 65039)], .agg [.lit (.int .i64 65056), .lit (.int .i64 65071)]]
def laid_unicode_utf8_acceptRanges {H : Type} : DataW H := .agg [.agg [.lit (.int .u8 128), .lit (.int .u8 191)], .agg [.lit (.int .u8 160), .lit (.int .u8 191)], .agg [.lit (.int .u8 128), .lit (.int .u8 159)], .agg [.lit (.int .u8 144), .lit (.int .u8 191)], .agg [.lit (.int .u8 128), .lit (.int .u8 143)], .agg [.lit (.int .u8 0), .lit (.int .u8 0)], .agg [.lit (.int .u8 0), .lit (.int .u8 0)], .agg [.lit (.int .u8 0), .lit (.int .u8 0)], .agg [.lit (.int .u8 0), .lit (.int .u8 0)], .agg [.lit (.int .u8 0), .lit (.int .u8 0)], .agg [.lit (.int .u8 0), .lit (.int .u8 0)], .agg [.lit (.int .u8 0), .lit (.int .u8 0)], .agg [.lit (.int .u8 0), .lit (.int .u8 0)], .agg [.lit (.int .u8 0), .lit (.int .u8 0)], .agg [.lit (.int .u8 0), .lit (.int .u8 0)], .agg [.lit (.int .u8 0), .lit (.int .u8 0)]]
/-- One of Go's own tables, pinned by name: the form's constant. -/
def laid_unicode_utf8_first : DataW Unit := Go.Pinned.utf8First
def laid_colophon_class_letters {H : Type} : DataW H := .agg [.agg [.lit (.int .i64 65), .lit (.int .i64 90)], .agg [.lit (.int .i64 97), .lit (.int .i64 122)], .agg [.lit (.int .i64 192), .lit (.int .i64 214)], .agg [.lit (.int .i64 216), .lit (.int .i64 246)], .agg [.lit (.int .i64 248), .lit (.int .i64 591)], .agg [.lit (.int .i64 913), .lit (.int .i64 929)], .agg [.lit (.int .i64 931), .lit (.int .i64 974)], .agg [.lit (.int .i64 1024), .lit (.int .i64 1119)], .agg [.lit (.int .i64 1488), .lit (.int .i64 1514)], .agg [.lit (.int .i64 1568), .lit (.int .i64 1610)], .agg [.lit (.int .i64 2308), .lit (.int .i64 2361)], .agg [.lit (.int .i64 12353), .lit (.int .i64 12438)], .agg [.lit (.int .i64 12449), .lit (.int .i64 12538)], .agg [.lit (.int .i64 19968), .lit (.int .i64 40959)], .agg [.lit (.int .i64 44032), .lit (.int .i64 55203)], .agg [.lit (.int .i64 66560), .lit (.int .i64 66639)], .agg [.lit (.int .i64 131072), .lit (.int .i64 196607)]]
def laid_colophon_class_others {H : Type} : DataW H := .agg [.agg [.lit (.int .i64 48), .lit (.int .i64 57)], .agg [.lit (.int .i64 95), .lit (.int .i64 95)], .agg [.lit (.int .i64 768), .lit (.int .i64 879)]]

/-- 'colophonlaw02.WidthOf': WHATEVER THE INPUT: true; the input reads as it did. -/
def widthOfSpec : ChangeSpec := { name := "widthOf", fn := fun _ => fun
  | [d] => { results := [.lit (.bool true)], args := [d] }
  | _ => none }
def widthOfRow : OpenClaim := { program := "ytocijojjfcpaoaadoor", sum := "cc449e2bd08a4dc8bef128bace310370eaa11c3f72bdc98e45e58481bc494acc", func := "colophon/colophonlaw02.WidthOf", spec := "widthOf", named := ["colophon/width.double", "colophon/width.none"], apart := false, laid := [("colophon/width.double", laid_colophon_width_double), ("colophon/width.none", laid_colophon_width_none)] }
def WidthOfSaid : Prop := widthOfRow.holds Tryd.pinned (OpenSpec.ofChange widthOfSpec)

/-- ITS FALSE NEIGHBOUR: 'it returns false'. Refute it at one input. -/
def widthOfWrong : ChangeSpec := { name := "widthOf", fn := fun _ => fun
  | [d] => { results := [.lit (.bool false)], args := [d] }
  | _ => none }
def WidthOfWrongFalsely : Prop := widthOfRow.holds Tryd.pinned (OpenSpec.ofChange widthOfWrong)

/-- 'colophonlaw02.WidthTable': WHATEVER THE INPUT: true; the input reads as it did. -/
def widthTableSpec : ChangeSpec := { name := "widthTable", fn := fun _ => fun
  | [d] => { results := [.lit (.bool true)], args := [d] }
  | _ => none }
def widthTableRow : OpenClaim := { program := "ytocijojjfcpaoaadoor", sum := "cc449e2bd08a4dc8bef128bace310370eaa11c3f72bdc98e45e58481bc494acc", func := "colophon/colophonlaw02.WidthTable", spec := "widthTable", named := ["colophon/width.double", "colophon/width.none"], apart := false, laid := [("colophon/width.double", laid_colophon_width_double), ("colophon/width.none", laid_colophon_width_none)] }
def WidthTableSaid : Prop := widthTableRow.holds Tryd.pinned (OpenSpec.ofChange widthTableSpec)

/-- ITS FALSE NEIGHBOUR: 'it returns false'. Refute it at one input. -/
def widthTableWrong : ChangeSpec := { name := "widthTable", fn := fun _ => fun
  | [d] => { results := [.lit (.bool false)], args := [d] }
  | _ => none }
def WidthTableWrongFalsely : Prop := widthTableRow.holds Tryd.pinned (OpenSpec.ofChange widthTableWrong)

/-- 'colophonlaw02.WidthTexts': WHATEVER THE INPUT: true; the input reads as it did. -/
def widthTextsSpec : ChangeSpec := { name := "widthTexts", fn := fun _ => fun
  | [d1, d2] => { results := [.lit (.bool true)], args := [d1, d2] }
  | _ => none }
def widthTextsRow : OpenClaim := { program := "ytocijojjfcpaoaadoor", sum := "cc449e2bd08a4dc8bef128bace310370eaa11c3f72bdc98e45e58481bc494acc", func := "colophon/colophonlaw02.WidthTexts", spec := "widthTexts", named := ["colophon/width.double", "colophon/width.none"], apart := false, laid := [("colophon/width.double", laid_colophon_width_double), ("colophon/width.none", laid_colophon_width_none)] }
def WidthTextsSaid : Prop := widthTextsRow.holds Tryd.pinned (OpenSpec.ofChange widthTextsSpec)

/-- ITS FALSE NEIGHBOUR: 'it returns false'. Refute it at one input. -/
def widthTextsWrong : ChangeSpec := { name := "widthTexts", fn := fun _ => fun
  | [d1, d2] => { results := [.lit (.bool false)], args := [d1, d2] }
  | _ => none }
def WidthTextsWrongFalsely : Prop := widthTextsRow.holds Tryd.pinned (OpenSpec.ofChange widthTextsWrong)

/-- 'colophonlaw02.WidthCuts': WHATEVER THE INPUT: true; the input reads as it did. -/
def widthCutsSpec : ChangeSpec := { name := "widthCuts", fn := fun _ => fun
  | [d1, d2, d3, d4] => { results := [.lit (.bool true)], args := [d1, d2, d3, d4] }
  | _ => none }
def widthCutsRow : OpenClaim := { program := "ytocijojjfcpaoaadoor", sum := "cc449e2bd08a4dc8bef128bace310370eaa11c3f72bdc98e45e58481bc494acc", func := "colophon/colophonlaw02.WidthCuts", spec := "widthCuts", named := ["unicode/utf8.first", "unicode/utf8.acceptRanges", "colophon/width.double", "colophon/width.none"], apart := false, laid := [("colophon/width.double", laid_colophon_width_double), ("colophon/width.none", laid_colophon_width_none), ("unicode/utf8.acceptRanges", laid_unicode_utf8_acceptRanges), ("unicode/utf8.first", laid_unicode_utf8_first)] }
def WidthCutsSaid : Prop := widthCutsRow.holds Tryd.pinned (OpenSpec.ofChange widthCutsSpec)

/-- ITS FALSE NEIGHBOUR: 'it returns false'. Refute it at one input. -/
def widthCutsWrong : ChangeSpec := { name := "widthCuts", fn := fun _ => fun
  | [d1, d2, d3, d4] => { results := [.lit (.bool false)], args := [d1, d2, d3, d4] }
  | _ => none }
def WidthCutsWrongFalsely : Prop := widthCutsRow.holds Tryd.pinned (OpenSpec.ofChange widthCutsWrong)

/-- 'colophonlaw01.CharJoined': WHATEVER THE INPUT: true; the input reads as it did. -/
def charJoinedSpec : ChangeSpec := { name := "charJoined", fn := fun _ => fun
  | [d1, d2] => { results := [.lit (.bool true)], args := [d1, d2] }
  | _ => none }
def charJoinedRow : OpenClaim := { program := "ytocijojjfcpaoaadoor", sum := "cc449e2bd08a4dc8bef128bace310370eaa11c3f72bdc98e45e58481bc494acc", func := "colophon/colophonlaw01.CharJoined", spec := "charJoined", inPlace := ["internal/abi.NoEscape"], named := ["unicode/utf8.first", "unicode/utf8.acceptRanges"], apart := false, laid := [("unicode/utf8.acceptRanges", laid_unicode_utf8_acceptRanges), ("unicode/utf8.first", laid_unicode_utf8_first)] }
def CharJoinedSaid : Prop := charJoinedRow.holds Tryd.pinned (OpenSpec.ofChange charJoinedSpec)

/-- ITS FALSE NEIGHBOUR: 'it returns false'. Refute it at one input. -/
def charJoinedWrong : ChangeSpec := { name := "charJoined", fn := fun _ => fun
  | [d1, d2] => { results := [.lit (.bool false)], args := [d1, d2] }
  | _ => none }
def CharJoinedWrongFalsely : Prop := charJoinedRow.holds Tryd.pinned (OpenSpec.ofChange charJoinedWrong)

/-- 'colophonlaw04.ClassKeys': WHATEVER THE INPUT: true; the input reads as it did. -/
def classKeysSpec : ChangeSpec := { name := "classKeys", fn := fun _ => fun
  | [] => { results := [.lit (.bool true)], args := [] }
  | _ => none }
def classKeysRow : OpenClaim := { program := "ytocijojjfcpaoaadoor", sum := "cc449e2bd08a4dc8bef128bace310370eaa11c3f72bdc98e45e58481bc494acc", func := "colophon/colophonlaw04.ClassKeys", spec := "classKeys", inPlace := ["internal/bytealg.IndexByteString"], named := ["unicode/utf8.first", "unicode/utf8.acceptRanges", "colophon/class.others", "colophon/class.letters"], apart := false, laid := [("unicode/utf8.acceptRanges", laid_unicode_utf8_acceptRanges), ("colophon/class.letters", laid_colophon_class_letters), ("colophon/class.others", laid_colophon_class_others), ("unicode/utf8.first", laid_unicode_utf8_first)] }
def ClassKeysSaid : Prop := classKeysRow.holds Tryd.pinned (OpenSpec.ofChange classKeysSpec)

/-- ITS FALSE NEIGHBOUR: 'it returns false'. Refute it at one input. -/
def classKeysWrong : ChangeSpec := { name := "classKeys", fn := fun _ => fun
  | [] => { results := [.lit (.bool false)], args := [] }
  | _ => none }
def ClassKeysWrongFalsely : Prop := classKeysRow.holds Tryd.pinned (OpenSpec.ofChange classKeysWrong)

/-- 'colophonlaw04.ClassPoint': WHATEVER THE INPUT: true; the input reads as it did. -/
def classPointSpec : ChangeSpec := { name := "classPoint", fn := fun _ => fun
  | [d] => { results := [.lit (.bool true)], args := [d] }
  | _ => none }
def classPointRow : OpenClaim := { program := "ytocijojjfcpaoaadoor", sum := "cc449e2bd08a4dc8bef128bace310370eaa11c3f72bdc98e45e58481bc494acc", func := "colophon/colophonlaw04.ClassPoint", spec := "classPoint", inPlace := ["internal/bytealg.IndexByteString"], named := ["colophon/class.letters", "colophon/class.others", "unicode/utf8.first", "unicode/utf8.acceptRanges"], apart := false, laid := [("unicode/utf8.acceptRanges", laid_unicode_utf8_acceptRanges), ("colophon/class.letters", laid_colophon_class_letters), ("colophon/class.others", laid_colophon_class_others), ("unicode/utf8.first", laid_unicode_utf8_first)] }
def ClassPointSaid : Prop := classPointRow.holds Tryd.pinned (OpenSpec.ofChange classPointSpec)

/-- ITS FALSE NEIGHBOUR: 'it returns false'. Refute it at one input. -/
def classPointWrong : ChangeSpec := { name := "classPoint", fn := fun _ => fun
  | [d] => { results := [.lit (.bool false)], args := [d] }
  | _ => none }
def ClassPointWrongFalsely : Prop := classPointRow.holds Tryd.pinned (OpenSpec.ofChange classPointWrong)

/-- 'colophonlaw04.ClassTexts': WHATEVER THE INPUT: true; the input reads as it did. -/
def classTextsSpec : ChangeSpec := { name := "classTexts", fn := fun _ => fun
  | [d1, d2] => { results := [.lit (.bool true)], args := [d1, d2] }
  | _ => none }
def classTextsRow : OpenClaim := { program := "ytocijojjfcpaoaadoor", sum := "cc449e2bd08a4dc8bef128bace310370eaa11c3f72bdc98e45e58481bc494acc", func := "colophon/colophonlaw04.ClassTexts", spec := "classTexts", inPlace := ["internal/bytealg.IndexByteString"], named := ["unicode/utf8.first", "unicode/utf8.acceptRanges", "colophon/class.others", "colophon/class.letters"], apart := false, laid := [("unicode/utf8.acceptRanges", laid_unicode_utf8_acceptRanges), ("colophon/class.letters", laid_colophon_class_letters), ("colophon/class.others", laid_colophon_class_others), ("unicode/utf8.first", laid_unicode_utf8_first)] }
def ClassTextsSaid : Prop := classTextsRow.holds Tryd.pinned (OpenSpec.ofChange classTextsSpec)

/-- ITS FALSE NEIGHBOUR: 'it returns false'. Refute it at one input. -/
def classTextsWrong : ChangeSpec := { name := "classTexts", fn := fun _ => fun
  | [d1, d2] => { results := [.lit (.bool false)], args := [d1, d2] }
  | _ => none }
def ClassTextsWrongFalsely : Prop := classTextsRow.holds Tryd.pinned (OpenSpec.ofChange classTextsWrong)

/-- 'colophonlaw04.ClassSigns': WHATEVER THE INPUT: true; the input reads as it did. -/
def classSignsSpec : ChangeSpec := { name := "classSigns", fn := fun _ => fun
  | [d1, d2] => { results := [.lit (.bool true)], args := [d1, d2] }
  | _ => none }
def classSignsRow : OpenClaim := { program := "ytocijojjfcpaoaadoor", sum := "cc449e2bd08a4dc8bef128bace310370eaa11c3f72bdc98e45e58481bc494acc", func := "colophon/colophonlaw04.ClassSigns", spec := "classSigns", inPlace := ["internal/bytealg.IndexByteString"], named := ["colophon/class.letters", "colophon/class.others", "unicode/utf8.first", "unicode/utf8.acceptRanges"], apart := false, laid := [("unicode/utf8.acceptRanges", laid_unicode_utf8_acceptRanges), ("colophon/class.letters", laid_colophon_class_letters), ("colophon/class.others", laid_colophon_class_others), ("unicode/utf8.first", laid_unicode_utf8_first)] }
def ClassSignsSaid : Prop := classSignsRow.holds Tryd.pinned (OpenSpec.ofChange classSignsSpec)

/-- ITS FALSE NEIGHBOUR: 'it returns false'. Refute it at one input. -/
def classSignsWrong : ChangeSpec := { name := "classSigns", fn := fun _ => fun
  | [d1, d2] => { results := [.lit (.bool false)], args := [d1, d2] }
  | _ => none }
def ClassSignsWrongFalsely : Prop := classSignsRow.holds Tryd.pinned (OpenSpec.ofChange classSignsWrong)

/-- 'colophonlaw01.CharRange': WHATEVER THE INPUT: true; the input reads as it did. -/
def charRangeSpec : ChangeSpec := { name := "charRange", fn := fun _ => fun
  | [d] => { results := [.lit (.bool true)], args := [d] }
  | _ => none }
def charRangeRow : OpenClaim := { program := "ytocijojjfcpaoaadoor", sum := "cc449e2bd08a4dc8bef128bace310370eaa11c3f72bdc98e45e58481bc494acc", func := "colophon/colophonlaw01.CharRange", spec := "charRange", inPlace := ["internal/abi.NoEscape"], named := ["unicode/utf8.first", "unicode/utf8.acceptRanges"], apart := false, laid := [("unicode/utf8.acceptRanges", laid_unicode_utf8_acceptRanges), ("unicode/utf8.first", laid_unicode_utf8_first)] }
def CharRangeSaid : Prop := charRangeRow.holds Tryd.pinned (OpenSpec.ofChange charRangeSpec)

/-- ITS FALSE NEIGHBOUR: 'it returns false'. Refute it at one input. -/
def charRangeWrong : ChangeSpec := { name := "charRange", fn := fun _ => fun
  | [d] => { results := [.lit (.bool false)], args := [d] }
  | _ => none }
def CharRangeWrongFalsely : Prop := charRangeRow.holds Tryd.pinned (OpenSpec.ofChange charRangeWrong)

/-- 'colophonlaw04.ClassTable': WHATEVER THE INPUT: true; the input reads as it did. -/
def classTableSpec : ChangeSpec := { name := "classTable", fn := fun _ => fun
  | [d] => { results := [.lit (.bool true)], args := [d] }
  | _ => none }
def classTableRow : OpenClaim := { program := "ytocijojjfcpaoaadoor", sum := "cc449e2bd08a4dc8bef128bace310370eaa11c3f72bdc98e45e58481bc494acc", func := "colophon/colophonlaw04.ClassTable", spec := "classTable", inPlace := ["internal/bytealg.IndexByteString"], named := ["colophon/class.letters", "colophon/class.others", "colophon/width.double", "colophon/width.none", "unicode/utf8.first", "unicode/utf8.acceptRanges"], apart := false, laid := [("colophon/width.double", laid_colophon_width_double), ("colophon/width.none", laid_colophon_width_none), ("unicode/utf8.acceptRanges", laid_unicode_utf8_acceptRanges), ("colophon/class.letters", laid_colophon_class_letters), ("colophon/class.others", laid_colophon_class_others), ("unicode/utf8.first", laid_unicode_utf8_first)] }
def ClassTableSaid : Prop := classTableRow.holds Tryd.pinned (OpenSpec.ofChange classTableSpec)

/-- ITS FALSE NEIGHBOUR: 'it returns false'. Refute it at one input. -/
def classTableWrong : ChangeSpec := { name := "classTable", fn := fun _ => fun
  | [d] => { results := [.lit (.bool false)], args := [d] }
  | _ => none }
def ClassTableWrongFalsely : Prop := classTableRow.holds Tryd.pinned (OpenSpec.ofChange classTableWrong)

/-- 'colophonlaw01.CharBack': WHATEVER THE INPUT: true; the input reads as it did. -/
def charBackSpec : ChangeSpec := { name := "charBack", fn := fun _ => fun
  | [d1, d2] => { results := [.lit (.bool true)], args := [d1, d2] }
  | _ => none }
def charBackRow : OpenClaim := { program := "ytocijojjfcpaoaadoor", sum := "cc449e2bd08a4dc8bef128bace310370eaa11c3f72bdc98e45e58481bc494acc", func := "colophon/colophonlaw01.CharBack", spec := "charBack", inPlace := ["internal/abi.NoEscape"], named := ["unicode/utf8.first", "unicode/utf8.acceptRanges"], apart := false, laid := [("unicode/utf8.acceptRanges", laid_unicode_utf8_acceptRanges), ("unicode/utf8.first", laid_unicode_utf8_first)] }
def CharBackSaid : Prop := charBackRow.holds Tryd.pinned (OpenSpec.ofChange charBackSpec)

/-- ITS FALSE NEIGHBOUR: 'it returns false'. Refute it at one input. -/
def charBackWrong : ChangeSpec := { name := "charBack", fn := fun _ => fun
  | [d1, d2] => { results := [.lit (.bool false)], args := [d1, d2] }
  | _ => none }
def CharBackWrongFalsely : Prop := charBackRow.holds Tryd.pinned (OpenSpec.ofChange charBackWrong)

/-- 'colophonlaw04.ClassNames': WHATEVER THE INPUT: true; the input reads as it did. -/
def classNamesSpec : ChangeSpec := { name := "classNames", fn := fun _ => fun
  | [d1, d2] => { results := [.lit (.bool true)], args := [d1, d2] }
  | _ => none }
def classNamesRow : OpenClaim := { program := "ytocijojjfcpaoaadoor", sum := "cc449e2bd08a4dc8bef128bace310370eaa11c3f72bdc98e45e58481bc494acc", func := "colophon/colophonlaw04.ClassNames", spec := "classNames", inPlace := ["internal/bytealg.IndexByteString", "internal/abi.NoEscape"], named := ["unicode/utf8.first", "unicode/utf8.acceptRanges", "colophon/class.others", "colophon/class.letters", "colophon/width.double", "colophon/width.none"], apart := false, laid := [("colophon/width.double", laid_colophon_width_double), ("colophon/width.none", laid_colophon_width_none), ("unicode/utf8.acceptRanges", laid_unicode_utf8_acceptRanges), ("colophon/class.letters", laid_colophon_class_letters), ("colophon/class.others", laid_colophon_class_others), ("unicode/utf8.first", laid_unicode_utf8_first)] }
def ClassNamesSaid : Prop := classNamesRow.holds Tryd.pinned (OpenSpec.ofChange classNamesSpec)

/-- ITS FALSE NEIGHBOUR: 'it returns false'. Refute it at one input. -/
def classNamesWrong : ChangeSpec := { name := "classNames", fn := fun _ => fun
  | [d1, d2] => { results := [.lit (.bool false)], args := [d1, d2] }
  | _ => none }
def ClassNamesWrongFalsely : Prop := classNamesRow.holds Tryd.pinned (OpenSpec.ofChange classNamesWrong)

/-- 'colophonlaw01.CharSteps': WHATEVER THE INPUT: true; the input reads as it did. -/
def charStepsSpec : ChangeSpec := { name := "charSteps", fn := fun _ => fun
  | [d] => { results := [.lit (.bool true)], args := [d] }
  | _ => none }
def charStepsRow : OpenClaim := { program := "ytocijojjfcpaoaadoor", sum := "cc449e2bd08a4dc8bef128bace310370eaa11c3f72bdc98e45e58481bc494acc", func := "colophon/colophonlaw01.CharSteps", spec := "charSteps", inPlace := ["internal/abi.NoEscape"], named := ["unicode/utf8.first", "unicode/utf8.acceptRanges"], apart := false, laid := [("unicode/utf8.acceptRanges", laid_unicode_utf8_acceptRanges), ("unicode/utf8.first", laid_unicode_utf8_first)] }
def CharStepsSaid : Prop := charStepsRow.holds Tryd.pinned (OpenSpec.ofChange charStepsSpec)

/-- ITS FALSE NEIGHBOUR: 'it returns false'. Refute it at one input. -/
def charStepsWrong : ChangeSpec := { name := "charSteps", fn := fun _ => fun
  | [d] => { results := [.lit (.bool false)], args := [d] }
  | _ => none }
def CharStepsWrongFalsely : Prop := charStepsRow.holds Tryd.pinned (OpenSpec.ofChange charStepsWrong)

/-- 'colophonlaw01.CharExact': WHATEVER THE INPUT: true; the input reads as it did. -/
def charExactSpec : ChangeSpec := { name := "charExact", fn := fun _ => fun
  | [d] => { results := [.lit (.bool true)], args := [d] }
  | _ => none }
def charExactRow : OpenClaim := { program := "ytocijojjfcpaoaadoor", sum := "cc449e2bd08a4dc8bef128bace310370eaa11c3f72bdc98e45e58481bc494acc", func := "colophon/colophonlaw01.CharExact", spec := "charExact", inPlace := ["internal/abi.NoEscape"], named := ["unicode/utf8.first", "unicode/utf8.acceptRanges"], apart := false, laid := [("unicode/utf8.acceptRanges", laid_unicode_utf8_acceptRanges), ("unicode/utf8.first", laid_unicode_utf8_first)] }
def CharExactSaid : Prop := charExactRow.holds Tryd.pinned (OpenSpec.ofChange charExactSpec)

/-- ITS FALSE NEIGHBOUR: 'it returns false'. Refute it at one input. -/
def charExactWrong : ChangeSpec := { name := "charExact", fn := fun _ => fun
  | [d] => { results := [.lit (.bool false)], args := [d] }
  | _ => none }
def CharExactWrongFalsely : Prop := charExactRow.holds Tryd.pinned (OpenSpec.ofChange charExactWrong)

/- THE SECOND FORM. 'bulk': how many values and letters a reading holds, each counted each time it is reached (what is shared counts as often as it is met; a slice's spare places count too). A statement '..UptoSaid' is the law's where the arguments, and the package variables that the reading takes, are together of bulk at most 1048576: NARROWER than '..Said'. Prove '..Said' where nothing that the law and all that it calls make is longer than what came in: it says more and counts as full. Else prove '..UptoSaid'. A law counts once. -/
mutual
def uptoBulk {H : Type} : DataW H → Nat
  | .lit (.string bytes) => bytes.length + 1
  | .lit _ => 1
  | .nil => 1
  | .ptr d => uptoBulk d + 1
  | .slice elems spare => uptoBulkAll elems + uptoBulkAll spare + 1
  | .agg parts => uptoBulkAll parts + 1
  | .iface _ d => uptoBulk d + 1
  | .map entries => uptoBulkEntries entries + 1
  | .held _ => 1
def uptoBulkAll {H : Type} : List (DataW H) → Nat
  | [] => 0
  | d :: r => uptoBulk d + uptoBulkAll r
def uptoBulkEntries {H : Type} : List (Lit × DataW H) → Nat
  | [] => 0
  | x :: r => uptoBulkEntry x + uptoBulkEntries r
def uptoBulkEntry {H : Type} : Lit × DataW H → Nat
  | (.string bytes, d) => bytes.length + uptoBulk d + 1
  | (_, d) => uptoBulk d + 1
 end
def uptoSmall : (H : Type) → List (DataW H) → Bool := fun _ ds => decide (uptoBulkAll ds ≤ 1048576)
def OpenSpec.upto (s : _root_.Go.ChangeSpec) : _root_.Go.OpenSpec := { _root_.Go.OpenSpec.ofChange s with cond := some uptoSmall }

/-- 'colophonlaw02.WidthOf', WHERE WHAT IT READS IS OF BULK AT MOST 1048576: true; the input reads as it did. -/
def widthOfUptoRow : OpenClaim := { program := "ytocijojjfcpaoaadoor", sum := "cc449e2bd08a4dc8bef128bace310370eaa11c3f72bdc98e45e58481bc494acc", func := "colophon/colophonlaw02.WidthOf", spec := "widthOf", named := ["colophon/width.double", "colophon/width.none"], apart := false, laid := [("colophon/width.double", laid_colophon_width_double), ("colophon/width.none", laid_colophon_width_none)], narrowed := true }
def WidthOfUptoSaid : Prop := widthOfUptoRow.holds Tryd.pinned (OpenSpec.upto widthOfSpec)

/-- 'colophonlaw02.WidthTable', WHERE WHAT IT READS IS OF BULK AT MOST 1048576: true; the input reads as it did. -/
def widthTableUptoRow : OpenClaim := { program := "ytocijojjfcpaoaadoor", sum := "cc449e2bd08a4dc8bef128bace310370eaa11c3f72bdc98e45e58481bc494acc", func := "colophon/colophonlaw02.WidthTable", spec := "widthTable", named := ["colophon/width.double", "colophon/width.none"], apart := false, laid := [("colophon/width.double", laid_colophon_width_double), ("colophon/width.none", laid_colophon_width_none)], narrowed := true }
def WidthTableUptoSaid : Prop := widthTableUptoRow.holds Tryd.pinned (OpenSpec.upto widthTableSpec)

/-- 'colophonlaw02.WidthTexts', WHERE WHAT IT READS IS OF BULK AT MOST 1048576: true; the input reads as it did. -/
def widthTextsUptoRow : OpenClaim := { program := "ytocijojjfcpaoaadoor", sum := "cc449e2bd08a4dc8bef128bace310370eaa11c3f72bdc98e45e58481bc494acc", func := "colophon/colophonlaw02.WidthTexts", spec := "widthTexts", named := ["colophon/width.double", "colophon/width.none"], apart := false, laid := [("colophon/width.double", laid_colophon_width_double), ("colophon/width.none", laid_colophon_width_none)], narrowed := true }
def WidthTextsUptoSaid : Prop := widthTextsUptoRow.holds Tryd.pinned (OpenSpec.upto widthTextsSpec)

/-- 'colophonlaw02.WidthCuts', WHERE WHAT IT READS IS OF BULK AT MOST 1048576: true; the input reads as it did. -/
def widthCutsUptoRow : OpenClaim := { program := "ytocijojjfcpaoaadoor", sum := "cc449e2bd08a4dc8bef128bace310370eaa11c3f72bdc98e45e58481bc494acc", func := "colophon/colophonlaw02.WidthCuts", spec := "widthCuts", named := ["unicode/utf8.first", "unicode/utf8.acceptRanges", "colophon/width.double", "colophon/width.none"], apart := false, laid := [("colophon/width.double", laid_colophon_width_double), ("colophon/width.none", laid_colophon_width_none), ("unicode/utf8.acceptRanges", laid_unicode_utf8_acceptRanges), ("unicode/utf8.first", laid_unicode_utf8_first)], narrowed := true }
def WidthCutsUptoSaid : Prop := widthCutsUptoRow.holds Tryd.pinned (OpenSpec.upto widthCutsSpec)

/-- 'colophonlaw01.CharJoined', WHERE WHAT IT READS IS OF BULK AT MOST 1048576: true; the input reads as it did. -/
def charJoinedUptoRow : OpenClaim := { program := "ytocijojjfcpaoaadoor", sum := "cc449e2bd08a4dc8bef128bace310370eaa11c3f72bdc98e45e58481bc494acc", func := "colophon/colophonlaw01.CharJoined", spec := "charJoined", inPlace := ["internal/abi.NoEscape"], named := ["unicode/utf8.first", "unicode/utf8.acceptRanges"], apart := false, laid := [("unicode/utf8.acceptRanges", laid_unicode_utf8_acceptRanges), ("unicode/utf8.first", laid_unicode_utf8_first)], narrowed := true }
def CharJoinedUptoSaid : Prop := charJoinedUptoRow.holds Tryd.pinned (OpenSpec.upto charJoinedSpec)

/-- 'colophonlaw04.ClassKeys', WHERE WHAT IT READS IS OF BULK AT MOST 1048576: true; the input reads as it did. -/
def classKeysUptoRow : OpenClaim := { program := "ytocijojjfcpaoaadoor", sum := "cc449e2bd08a4dc8bef128bace310370eaa11c3f72bdc98e45e58481bc494acc", func := "colophon/colophonlaw04.ClassKeys", spec := "classKeys", inPlace := ["internal/bytealg.IndexByteString"], named := ["unicode/utf8.first", "unicode/utf8.acceptRanges", "colophon/class.others", "colophon/class.letters"], apart := false, laid := [("unicode/utf8.acceptRanges", laid_unicode_utf8_acceptRanges), ("colophon/class.letters", laid_colophon_class_letters), ("colophon/class.others", laid_colophon_class_others), ("unicode/utf8.first", laid_unicode_utf8_first)], narrowed := true }
def ClassKeysUptoSaid : Prop := classKeysUptoRow.holds Tryd.pinned (OpenSpec.upto classKeysSpec)

/-- 'colophonlaw04.ClassPoint', WHERE WHAT IT READS IS OF BULK AT MOST 1048576: true; the input reads as it did. -/
def classPointUptoRow : OpenClaim := { program := "ytocijojjfcpaoaadoor", sum := "cc449e2bd08a4dc8bef128bace310370eaa11c3f72bdc98e45e58481bc494acc", func := "colophon/colophonlaw04.ClassPoint", spec := "classPoint", inPlace := ["internal/bytealg.IndexByteString"], named := ["colophon/class.letters", "colophon/class.others", "unicode/utf8.first", "unicode/utf8.acceptRanges"], apart := false, laid := [("unicode/utf8.acceptRanges", laid_unicode_utf8_acceptRanges), ("colophon/class.letters", laid_colophon_class_letters), ("colophon/class.others", laid_colophon_class_others), ("unicode/utf8.first", laid_unicode_utf8_first)], narrowed := true }
def ClassPointUptoSaid : Prop := classPointUptoRow.holds Tryd.pinned (OpenSpec.upto classPointSpec)

/-- 'colophonlaw04.ClassTexts', WHERE WHAT IT READS IS OF BULK AT MOST 1048576: true; the input reads as it did. -/
def classTextsUptoRow : OpenClaim := { program := "ytocijojjfcpaoaadoor", sum := "cc449e2bd08a4dc8bef128bace310370eaa11c3f72bdc98e45e58481bc494acc", func := "colophon/colophonlaw04.ClassTexts", spec := "classTexts", inPlace := ["internal/bytealg.IndexByteString"], named := ["unicode/utf8.first", "unicode/utf8.acceptRanges", "colophon/class.others", "colophon/class.letters"], apart := false, laid := [("unicode/utf8.acceptRanges", laid_unicode_utf8_acceptRanges), ("colophon/class.letters", laid_colophon_class_letters), ("colophon/class.others", laid_colophon_class_others), ("unicode/utf8.first", laid_unicode_utf8_first)], narrowed := true }
def ClassTextsUptoSaid : Prop := classTextsUptoRow.holds Tryd.pinned (OpenSpec.upto classTextsSpec)

/-- 'colophonlaw04.ClassSigns', WHERE WHAT IT READS IS OF BULK AT MOST 1048576: true; the input reads as it did. -/
def classSignsUptoRow : OpenClaim := { program := "ytocijojjfcpaoaadoor", sum := "cc449e2bd08a4dc8bef128bace310370eaa11c3f72bdc98e45e58481bc494acc", func := "colophon/colophonlaw04.ClassSigns", spec := "classSigns", inPlace := ["internal/bytealg.IndexByteString"], named := ["colophon/class.letters", "colophon/class.others", "unicode/utf8.first", "unicode/utf8.acceptRanges"], apart := false, laid := [("unicode/utf8.acceptRanges", laid_unicode_utf8_acceptRanges), ("colophon/class.letters", laid_colophon_class_letters), ("colophon/class.others", laid_colophon_class_others), ("unicode/utf8.first", laid_unicode_utf8_first)], narrowed := true }
def ClassSignsUptoSaid : Prop := classSignsUptoRow.holds Tryd.pinned (OpenSpec.upto classSignsSpec)

/-- 'colophonlaw01.CharRange', WHERE WHAT IT READS IS OF BULK AT MOST 1048576: true; the input reads as it did. -/
def charRangeUptoRow : OpenClaim := { program := "ytocijojjfcpaoaadoor", sum := "cc449e2bd08a4dc8bef128bace310370eaa11c3f72bdc98e45e58481bc494acc", func := "colophon/colophonlaw01.CharRange", spec := "charRange", inPlace := ["internal/abi.NoEscape"], named := ["unicode/utf8.first", "unicode/utf8.acceptRanges"], apart := false, laid := [("unicode/utf8.acceptRanges", laid_unicode_utf8_acceptRanges), ("unicode/utf8.first", laid_unicode_utf8_first)], narrowed := true }
def CharRangeUptoSaid : Prop := charRangeUptoRow.holds Tryd.pinned (OpenSpec.upto charRangeSpec)

/-- 'colophonlaw04.ClassTable', WHERE WHAT IT READS IS OF BULK AT MOST 1048576: true; the input reads as it did. -/
def classTableUptoRow : OpenClaim := { program := "ytocijojjfcpaoaadoor", sum := "cc449e2bd08a4dc8bef128bace310370eaa11c3f72bdc98e45e58481bc494acc", func := "colophon/colophonlaw04.ClassTable", spec := "classTable", inPlace := ["internal/bytealg.IndexByteString"], named := ["colophon/class.letters", "colophon/class.others", "colophon/width.double", "colophon/width.none", "unicode/utf8.first", "unicode/utf8.acceptRanges"], apart := false, laid := [("colophon/width.double", laid_colophon_width_double), ("colophon/width.none", laid_colophon_width_none), ("unicode/utf8.acceptRanges", laid_unicode_utf8_acceptRanges), ("colophon/class.letters", laid_colophon_class_letters), ("colophon/class.others", laid_colophon_class_others), ("unicode/utf8.first", laid_unicode_utf8_first)], narrowed := true }
def ClassTableUptoSaid : Prop := classTableUptoRow.holds Tryd.pinned (OpenSpec.upto classTableSpec)

/-- 'colophonlaw01.CharBack', WHERE WHAT IT READS IS OF BULK AT MOST 1048576: true; the input reads as it did. -/
def charBackUptoRow : OpenClaim := { program := "ytocijojjfcpaoaadoor", sum := "cc449e2bd08a4dc8bef128bace310370eaa11c3f72bdc98e45e58481bc494acc", func := "colophon/colophonlaw01.CharBack", spec := "charBack", inPlace := ["internal/abi.NoEscape"], named := ["unicode/utf8.first", "unicode/utf8.acceptRanges"], apart := false, laid := [("unicode/utf8.acceptRanges", laid_unicode_utf8_acceptRanges), ("unicode/utf8.first", laid_unicode_utf8_first)], narrowed := true }
def CharBackUptoSaid : Prop := charBackUptoRow.holds Tryd.pinned (OpenSpec.upto charBackSpec)

/-- 'colophonlaw04.ClassNames', WHERE WHAT IT READS IS OF BULK AT MOST 1048576: true; the input reads as it did. -/
def classNamesUptoRow : OpenClaim := { program := "ytocijojjfcpaoaadoor", sum := "cc449e2bd08a4dc8bef128bace310370eaa11c3f72bdc98e45e58481bc494acc", func := "colophon/colophonlaw04.ClassNames", spec := "classNames", inPlace := ["internal/bytealg.IndexByteString", "internal/abi.NoEscape"], named := ["unicode/utf8.first", "unicode/utf8.acceptRanges", "colophon/class.others", "colophon/class.letters", "colophon/width.double", "colophon/width.none"], apart := false, laid := [("colophon/width.double", laid_colophon_width_double), ("colophon/width.none", laid_colophon_width_none), ("unicode/utf8.acceptRanges", laid_unicode_utf8_acceptRanges), ("colophon/class.letters", laid_colophon_class_letters), ("colophon/class.others", laid_colophon_class_others), ("unicode/utf8.first", laid_unicode_utf8_first)], narrowed := true }
def ClassNamesUptoSaid : Prop := classNamesUptoRow.holds Tryd.pinned (OpenSpec.upto classNamesSpec)

/-- 'colophonlaw01.CharSteps', WHERE WHAT IT READS IS OF BULK AT MOST 1048576: true; the input reads as it did. -/
def charStepsUptoRow : OpenClaim := { program := "ytocijojjfcpaoaadoor", sum := "cc449e2bd08a4dc8bef128bace310370eaa11c3f72bdc98e45e58481bc494acc", func := "colophon/colophonlaw01.CharSteps", spec := "charSteps", inPlace := ["internal/abi.NoEscape"], named := ["unicode/utf8.first", "unicode/utf8.acceptRanges"], apart := false, laid := [("unicode/utf8.acceptRanges", laid_unicode_utf8_acceptRanges), ("unicode/utf8.first", laid_unicode_utf8_first)], narrowed := true }
def CharStepsUptoSaid : Prop := charStepsUptoRow.holds Tryd.pinned (OpenSpec.upto charStepsSpec)

/-- 'colophonlaw01.CharExact', WHERE WHAT IT READS IS OF BULK AT MOST 1048576: true; the input reads as it did. -/
def charExactUptoRow : OpenClaim := { program := "ytocijojjfcpaoaadoor", sum := "cc449e2bd08a4dc8bef128bace310370eaa11c3f72bdc98e45e58481bc494acc", func := "colophon/colophonlaw01.CharExact", spec := "charExact", inPlace := ["internal/abi.NoEscape"], named := ["unicode/utf8.first", "unicode/utf8.acceptRanges"], apart := false, laid := [("unicode/utf8.acceptRanges", laid_unicode_utf8_acceptRanges), ("unicode/utf8.first", laid_unicode_utf8_first)], narrowed := true }
def CharExactUptoSaid : Prop := charExactUptoRow.holds Tryd.pinned (OpenSpec.upto charExactSpec)

end Rows
end Go.Proofs.YtocijojjfcpaoaaDoor
