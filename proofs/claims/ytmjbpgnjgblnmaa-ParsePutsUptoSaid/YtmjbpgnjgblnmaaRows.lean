/-
  No cell of these rows narrows 'for every input' (looked for: loops, veiled, ifaces, maps, wideKeys, modest, calm, conditions, laid).
  DERIVED. THE GIVEN ROWS OF THIS SEAT. 5 by the template 'for every input the law returns true; each argument reads behind the call as it read before'; 0 by the template 'total and deterministic' (their statements: YtmjbpgnjgblnmaaTotals.lean).
  GIVEN WITH THE SEED: the statements are not yours to turn. If you find one false, say at which input.
  Laid BY PROGRAM, IN A SANDBOX (cutbox-rows.mjs): the forced cells as the released guide's own fill.sh prints them over the translation be0d0c6edad61399… (all of the seat's roots in one cut). By AI agents, Wed Nov 11 2026. No macro, syntax, notation, axiom, sorry.
-/
import Derived.Test.YtmjbpgnjgblnmaaChecked
import GoSem.Claim
import GoSem.ClaimJoined
import GoSem.ClaimMapViews
import Derived.JoinedTies
import Derived.KernelRfl
namespace Go.Proofs.Ytmjbpgnjgblnmaa
/- THE CELL 'sum', in the pinned program and in every row, IS THE sha256 OF THE DUMP (.gsa) THAT YtmjbpgnjgblnmaaProg.lean LOADS. Nothing in Lean hashes anything: it is a label: what it is worth is what the hold of that sum in a sandbox is worth. -/
noncomputable def Try.pinned : Pinned := { name := "ytmjbpgnjgblnmaa", sum := "be0d0c6edad6139923c6bd8ff12a1dcb74463b23dec99fe4186ac2bfab6531fd", checked := Try.checked }
namespace Rows
def none {H : Type} : Left H := { results := [], args := [] }

/-- 'colophonlaw12.ParsePuts': WHATEVER THE INPUT: true; the input reads as it did. -/
def parsePutsSpec : ChangeSpec := { name := "parsePuts", fn := fun _ => fun
  | [d1, d2, d3] => { results := [.lit (.bool true)], args := [d1, d2, d3] }
  | _ => none }
def parsePutsRow : OpenClaim := { program := "ytmjbpgnjgblnmaa", sum := "be0d0c6edad6139923c6bd8ff12a1dcb74463b23dec99fe4186ac2bfab6531fd", func := "colophon/colophonlaw12.ParsePuts", spec := "parsePuts", unfollowed := true, recurses := true, apart := false }
def ParsePutsSaid : Prop := parsePutsRow.holds Try.pinned (OpenSpec.ofChange parsePutsSpec)

/-- ITS FALSE NEIGHBOUR: 'it returns false'. Refute it at one input. -/
def parsePutsWrong : ChangeSpec := { name := "parsePuts", fn := fun _ => fun
  | [d1, d2, d3] => { results := [.lit (.bool false)], args := [d1, d2, d3] }
  | _ => none }
def ParsePutsWrongFalsely : Prop := parsePutsRow.holds Try.pinned (OpenSpec.ofChange parsePutsWrong)

/-- 'colophonlaw12.ParseNests': WHATEVER THE INPUT: true; the input reads as it did. -/
def parseNestsSpec : ChangeSpec := { name := "parseNests", fn := fun _ => fun
  | [d] => { results := [.lit (.bool true)], args := [d] }
  | _ => none }
def parseNestsRow : OpenClaim := { program := "ytmjbpgnjgblnmaa", sum := "be0d0c6edad6139923c6bd8ff12a1dcb74463b23dec99fe4186ac2bfab6531fd", func := "colophon/colophonlaw12.ParseNests", spec := "parseNests", unfollowed := true, recurses := true, apart := false }
def ParseNestsSaid : Prop := parseNestsRow.holds Try.pinned (OpenSpec.ofChange parseNestsSpec)

/-- ITS FALSE NEIGHBOUR: 'it returns false'. Refute it at one input. -/
def parseNestsWrong : ChangeSpec := { name := "parseNests", fn := fun _ => fun
  | [d] => { results := [.lit (.bool false)], args := [d] }
  | _ => none }
def ParseNestsWrongFalsely : Prop := parseNestsRow.holds Try.pinned (OpenSpec.ofChange parseNestsWrong)

/-- 'colophonlaw12.ParseNotes': WHATEVER THE INPUT: true; the input reads as it did. -/
def parseNotesSpec : ChangeSpec := { name := "parseNotes", fn := fun _ => fun
  | [d] => { results := [.lit (.bool true)], args := [d] }
  | _ => none }
def parseNotesRow : OpenClaim := { program := "ytmjbpgnjgblnmaa", sum := "be0d0c6edad6139923c6bd8ff12a1dcb74463b23dec99fe4186ac2bfab6531fd", func := "colophon/colophonlaw12.ParseNotes", spec := "parseNotes", unfollowed := true, recurses := true, apart := false }
def ParseNotesSaid : Prop := parseNotesRow.holds Try.pinned (OpenSpec.ofChange parseNotesSpec)

/-- ITS FALSE NEIGHBOUR: 'it returns false'. Refute it at one input. -/
def parseNotesWrong : ChangeSpec := { name := "parseNotes", fn := fun _ => fun
  | [d] => { results := [.lit (.bool false)], args := [d] }
  | _ => none }
def ParseNotesWrongFalsely : Prop := parseNotesRow.holds Try.pinned (OpenSpec.ofChange parseNotesWrong)

/-- 'colophonlaw14.SyntaxBegins': WHATEVER THE INPUT: true; the input reads as it did. -/
def syntaxBeginsSpec : ChangeSpec := { name := "syntaxBegins", fn := fun _ => fun
  | [d1, d2] => { results := [.lit (.bool true)], args := [d1, d2] }
  | _ => none }
def syntaxBeginsRow : OpenClaim := { program := "ytmjbpgnjgblnmaa", sum := "be0d0c6edad6139923c6bd8ff12a1dcb74463b23dec99fe4186ac2bfab6531fd", func := "colophon/colophonlaw14.SyntaxBegins", spec := "syntaxBegins", unfollowed := true, recurses := true, apart := false }
def SyntaxBeginsSaid : Prop := syntaxBeginsRow.holds Try.pinned (OpenSpec.ofChange syntaxBeginsSpec)

/-- ITS FALSE NEIGHBOUR: 'it returns false'. Refute it at one input. -/
def syntaxBeginsWrong : ChangeSpec := { name := "syntaxBegins", fn := fun _ => fun
  | [d1, d2] => { results := [.lit (.bool false)], args := [d1, d2] }
  | _ => none }
def SyntaxBeginsWrongFalsely : Prop := syntaxBeginsRow.holds Try.pinned (OpenSpec.ofChange syntaxBeginsWrong)

/-- 'colophonlaw14.SyntaxWhole': WHATEVER THE INPUT: true; the input reads as it did. -/
def syntaxWholeSpec : ChangeSpec := { name := "syntaxWhole", fn := fun _ => fun
  | [d] => { results := [.lit (.bool true)], args := [d] }
  | _ => none }
def syntaxWholeRow : OpenClaim := { program := "ytmjbpgnjgblnmaa", sum := "be0d0c6edad6139923c6bd8ff12a1dcb74463b23dec99fe4186ac2bfab6531fd", func := "colophon/colophonlaw14.SyntaxWhole", spec := "syntaxWhole", unfollowed := true, recurses := true, apart := false }
def SyntaxWholeSaid : Prop := syntaxWholeRow.holds Try.pinned (OpenSpec.ofChange syntaxWholeSpec)

/-- ITS FALSE NEIGHBOUR: 'it returns false'. Refute it at one input. -/
def syntaxWholeWrong : ChangeSpec := { name := "syntaxWhole", fn := fun _ => fun
  | [d] => { results := [.lit (.bool false)], args := [d] }
  | _ => none }
def SyntaxWholeWrongFalsely : Prop := syntaxWholeRow.holds Try.pinned (OpenSpec.ofChange syntaxWholeWrong)

/- THE SECOND FORM. 'bulk': how many values and letters a reading holds, each counted each time it is reached (what is shared counts as often as it is met; a slice's spare places count too). A statement '..UptoSaid' is the law's where the arguments, and the package variables that the reading takes, are together of bulk at most 1048576: NARROWER than '..Said'. Prove '..Said' where nothing that the law and all that it calls make is longer than what came in: it says more and counts as full. Else prove '..UptoSaid'. A law counts once. -/
mutual
def uptoBulk {H : Type} : DataW H → Nat
  | .lit (.string bytes) => bytes.length + 1
  | .lit _ => 1
  | .nil => 1
  | .ptr d => uptoBulk d + 1
  | .slice elems spare => uptoBulkAll elems + uptoBulkAll spare + 1
  | .agg parts => uptoBulkAll parts + 1
  | .iface _ d => uptoBulk d + 1
  | .map entries => uptoBulkEntries entries + 1
  | .held _ => 1
def uptoBulkAll {H : Type} : List (DataW H) → Nat
  | [] => 0
  | d :: r => uptoBulk d + uptoBulkAll r
def uptoBulkEntries {H : Type} : List (Lit × DataW H) → Nat
  | [] => 0
  | x :: r => uptoBulkEntry x + uptoBulkEntries r
def uptoBulkEntry {H : Type} : Lit × DataW H → Nat
  | (.string bytes, d) => bytes.length + uptoBulk d + 1
  | (_, d) => uptoBulk d + 1
 end
def uptoSmall : (H : Type) → List (DataW H) → Bool := fun _ ds => decide (uptoBulkAll ds ≤ 1048576)
def OpenSpec.upto (s : _root_.Go.ChangeSpec) : _root_.Go.OpenSpec := { _root_.Go.OpenSpec.ofChange s with cond := some uptoSmall }

/-- 'colophonlaw12.ParsePuts', WHERE WHAT IT READS IS OF BULK AT MOST 1048576: true; the input reads as it did. -/
def parsePutsUptoRow : OpenClaim := { program := "ytmjbpgnjgblnmaa", sum := "be0d0c6edad6139923c6bd8ff12a1dcb74463b23dec99fe4186ac2bfab6531fd", func := "colophon/colophonlaw12.ParsePuts", spec := "parsePuts", unfollowed := true, recurses := true, apart := false, narrowed := true }
def ParsePutsUptoSaid : Prop := parsePutsUptoRow.holds Try.pinned (OpenSpec.upto parsePutsSpec)

/-- 'colophonlaw12.ParseNests', WHERE WHAT IT READS IS OF BULK AT MOST 1048576: true; the input reads as it did. -/
def parseNestsUptoRow : OpenClaim := { program := "ytmjbpgnjgblnmaa", sum := "be0d0c6edad6139923c6bd8ff12a1dcb74463b23dec99fe4186ac2bfab6531fd", func := "colophon/colophonlaw12.ParseNests", spec := "parseNests", unfollowed := true, recurses := true, apart := false, narrowed := true }
def ParseNestsUptoSaid : Prop := parseNestsUptoRow.holds Try.pinned (OpenSpec.upto parseNestsSpec)

/-- 'colophonlaw12.ParseNotes', WHERE WHAT IT READS IS OF BULK AT MOST 1048576: true; the input reads as it did. -/
def parseNotesUptoRow : OpenClaim := { program := "ytmjbpgnjgblnmaa", sum := "be0d0c6edad6139923c6bd8ff12a1dcb74463b23dec99fe4186ac2bfab6531fd", func := "colophon/colophonlaw12.ParseNotes", spec := "parseNotes", unfollowed := true, recurses := true, apart := false, narrowed := true }
def ParseNotesUptoSaid : Prop := parseNotesUptoRow.holds Try.pinned (OpenSpec.upto parseNotesSpec)

/-- 'colophonlaw14.SyntaxBegins', WHERE WHAT IT READS IS OF BULK AT MOST 1048576: true; the input reads as it did. -/
def syntaxBeginsUptoRow : OpenClaim := { program := "ytmjbpgnjgblnmaa", sum := "be0d0c6edad6139923c6bd8ff12a1dcb74463b23dec99fe4186ac2bfab6531fd", func := "colophon/colophonlaw14.SyntaxBegins", spec := "syntaxBegins", unfollowed := true, recurses := true, apart := false, narrowed := true }
def SyntaxBeginsUptoSaid : Prop := syntaxBeginsUptoRow.holds Try.pinned (OpenSpec.upto syntaxBeginsSpec)

/-- 'colophonlaw14.SyntaxWhole', WHERE WHAT IT READS IS OF BULK AT MOST 1048576: true; the input reads as it did. -/
def syntaxWholeUptoRow : OpenClaim := { program := "ytmjbpgnjgblnmaa", sum := "be0d0c6edad6139923c6bd8ff12a1dcb74463b23dec99fe4186ac2bfab6531fd", func := "colophon/colophonlaw14.SyntaxWhole", spec := "syntaxWhole", unfollowed := true, recurses := true, apart := false, narrowed := true }
def SyntaxWholeUptoSaid : Prop := syntaxWholeUptoRow.holds Try.pinned (OpenSpec.upto syntaxWholeSpec)

end Rows
end Go.Proofs.Ytmjbpgnjgblnmaa
