/-
  No cell of these rows narrows 'for every input' (looked for: loops, veiled, ifaces, maps, wideKeys, modest, calm, conditions, laid).
  DERIVED. THE GIVEN ROWS OF THIS SEAT. 6 by the template 'for every input the law returns true; each argument reads behind the call as it read before'; 0 by the template 'total and deterministic' (their statements: YtbopnglncjdnmaaTotals.lean).
  GIVEN WITH THE SEED: the statements are not yours to turn. If you find one false, say at which input.
  Laid BY PROGRAM, IN A SANDBOX (cutbox-rows.mjs): the forced cells as the released guide's own fill.sh prints them over the translation 876c3cb2e8237a4f… (all of the seat's roots in one cut). By AI agents, Wed Nov 11 2026. No macro, syntax, notation, axiom, sorry.
-/
import Derived.Test.YtbopnglncjdnmaaChecked
import GoSem.Claim
import GoSem.ClaimJoined
import GoSem.ClaimMapViews
import Derived.JoinedTies
import Derived.KernelRfl
namespace Go.Proofs.Ytbopnglncjdnmaa
/- THE CELL 'sum', in the pinned program and in every row, IS THE sha256 OF THE DUMP (.gsa) THAT YtbopnglncjdnmaaProg.lean LOADS. Nothing in Lean hashes anything: it is a label: what it is worth is what the hold of that sum in a sandbox is worth. -/
noncomputable def Try.pinned : Pinned := { name := "ytbopnglncjdnmaa", sum := "876c3cb2e8237a4fb03e27b946981bd571e65ad96885a6566dade0a3c67ed50e", checked := Try.checked }
namespace Rows
def none {H : Type} : Left H := { results := [], args := [] }

/-- 'colophonlaw12.ParseNames': WHATEVER THE INPUT: true; the input reads as it did. -/
def parseNamesSpec : ChangeSpec := { name := "parseNames", fn := fun _ => fun
  | [] => { results := [.lit (.bool true)], args := [] }
  | _ => none }
def parseNamesRow : OpenClaim := { program := "ytbopnglncjdnmaa", sum := "876c3cb2e8237a4fb03e27b946981bd571e65ad96885a6566dade0a3c67ed50e", func := "colophon/colophonlaw12.ParseNames", spec := "parseNames", apart := false }
def ParseNamesSaid : Prop := parseNamesRow.holds Try.pinned (OpenSpec.ofChange parseNamesSpec)

/-- ITS FALSE NEIGHBOUR: 'it returns false'. Refute it at one input. -/
def parseNamesWrong : ChangeSpec := { name := "parseNames", fn := fun _ => fun
  | [] => { results := [.lit (.bool false)], args := [] }
  | _ => none }
def ParseNamesWrongFalsely : Prop := parseNamesRow.holds Try.pinned (OpenSpec.ofChange parseNamesWrong)

/-- 'colophonlaw14.SyntaxNames': WHATEVER THE INPUT: true; the input reads as it did. -/
def syntaxNamesSpec : ChangeSpec := { name := "syntaxNames", fn := fun _ => fun
  | [] => { results := [.lit (.bool true)], args := [] }
  | _ => none }
def syntaxNamesRow : OpenClaim := { program := "ytbopnglncjdnmaa", sum := "876c3cb2e8237a4fb03e27b946981bd571e65ad96885a6566dade0a3c67ed50e", func := "colophon/colophonlaw14.SyntaxNames", spec := "syntaxNames", apart := false }
def SyntaxNamesSaid : Prop := syntaxNamesRow.holds Try.pinned (OpenSpec.ofChange syntaxNamesSpec)

/-- ITS FALSE NEIGHBOUR: 'it returns false'. Refute it at one input. -/
def syntaxNamesWrong : ChangeSpec := { name := "syntaxNames", fn := fun _ => fun
  | [] => { results := [.lit (.bool false)], args := [] }
  | _ => none }
def SyntaxNamesWrongFalsely : Prop := syntaxNamesRow.holds Try.pinned (OpenSpec.ofChange syntaxNamesWrong)

/-- 'colophonlaw13.TreeNames': WHATEVER THE INPUT: true; the input reads as it did. -/
def treeNamesSpec : ChangeSpec := { name := "treeNames", fn := fun _ => fun
  | [] => { results := [.lit (.bool true)], args := [] }
  | _ => none }
def treeNamesRow : OpenClaim := { program := "ytbopnglncjdnmaa", sum := "876c3cb2e8237a4fb03e27b946981bd571e65ad96885a6566dade0a3c67ed50e", func := "colophon/colophonlaw13.TreeNames", spec := "treeNames", apart := false }
def TreeNamesSaid : Prop := treeNamesRow.holds Try.pinned (OpenSpec.ofChange treeNamesSpec)

/-- ITS FALSE NEIGHBOUR: 'it returns false'. Refute it at one input. -/
def treeNamesWrong : ChangeSpec := { name := "treeNames", fn := fun _ => fun
  | [] => { results := [.lit (.bool false)], args := [] }
  | _ => none }
def TreeNamesWrongFalsely : Prop := treeNamesRow.holds Try.pinned (OpenSpec.ofChange treeNamesWrong)

/-- 'colophonlaw05.RingLine': WHATEVER THE INPUT: true; the input reads as it did. -/
def ringLineSpec : ChangeSpec := { name := "ringLine", fn := fun _ => fun
  | [d1, d2, d3] => { results := [.lit (.bool true)], args := [d1, d2, d3] }
  | _ => none }
def ringLineRow : OpenClaim := { program := "ytbopnglncjdnmaa", sum := "876c3cb2e8237a4fb03e27b946981bd571e65ad96885a6566dade0a3c67ed50e", func := "colophon/colophonlaw05.RingLine", spec := "ringLine", apart := false }
def RingLineSaid : Prop := ringLineRow.holds Try.pinned (OpenSpec.ofChange ringLineSpec)

/-- ITS FALSE NEIGHBOUR: 'it returns false'. Refute it at one input. -/
def ringLineWrong : ChangeSpec := { name := "ringLine", fn := fun _ => fun
  | [d1, d2, d3] => { results := [.lit (.bool false)], args := [d1, d2, d3] }
  | _ => none }
def RingLineWrongFalsely : Prop := ringLineRow.holds Try.pinned (OpenSpec.ofChange ringLineWrong)

/-- 'colophonlaw05.RingNames': WHATEVER THE INPUT: true; the input reads as it did. -/
def ringNamesSpec : ChangeSpec := { name := "ringNames", fn := fun _ => fun
  | [] => { results := [.lit (.bool true)], args := [] }
  | _ => none }
def ringNamesRow : OpenClaim := { program := "ytbopnglncjdnmaa", sum := "876c3cb2e8237a4fb03e27b946981bd571e65ad96885a6566dade0a3c67ed50e", func := "colophon/colophonlaw05.RingNames", spec := "ringNames", apart := false }
def RingNamesSaid : Prop := ringNamesRow.holds Try.pinned (OpenSpec.ofChange ringNamesSpec)

/-- ITS FALSE NEIGHBOUR: 'it returns false'. Refute it at one input. -/
def ringNamesWrong : ChangeSpec := { name := "ringNames", fn := fun _ => fun
  | [] => { results := [.lit (.bool false)], args := [] }
  | _ => none }
def RingNamesWrongFalsely : Prop := ringNamesRow.holds Try.pinned (OpenSpec.ofChange ringNamesWrong)

/-- 'colophonlaw05.RingPlays': WHATEVER THE INPUT: true; the input reads as it did. -/
def ringPlaysSpec : ChangeSpec := { name := "ringPlays", fn := fun _ => fun
  | [d1, d2, d3] => { results := [.lit (.bool true)], args := [d1, d2, d3] }
  | _ => none }
def ringPlaysRow : OpenClaim := { program := "ytbopnglncjdnmaa", sum := "876c3cb2e8237a4fb03e27b946981bd571e65ad96885a6566dade0a3c67ed50e", func := "colophon/colophonlaw05.RingPlays", spec := "ringPlays", apart := false }
def RingPlaysSaid : Prop := ringPlaysRow.holds Try.pinned (OpenSpec.ofChange ringPlaysSpec)

/-- ITS FALSE NEIGHBOUR: 'it returns false'. Refute it at one input. -/
def ringPlaysWrong : ChangeSpec := { name := "ringPlays", fn := fun _ => fun
  | [d1, d2, d3] => { results := [.lit (.bool false)], args := [d1, d2, d3] }
  | _ => none }
def RingPlaysWrongFalsely : Prop := ringPlaysRow.holds Try.pinned (OpenSpec.ofChange ringPlaysWrong)

/- THE SECOND FORM. 'bulk': how many values and letters a reading holds, each counted each time it is reached (what is shared counts as often as it is met; a slice's spare places count too). A statement '..UptoSaid' is the law's where the arguments, and the package variables that the reading takes, are together of bulk at most 1048576: NARROWER than '..Said'. Prove '..Said' where nothing that the law and all that it calls make is longer than what came in: it says more and counts as full. Else prove '..UptoSaid'. A law counts once. -/
mutual
def uptoBulk {H : Type} : DataW H → Nat
  | .lit (.string bytes) => bytes.length + 1
  | .lit _ => 1
  | .nil => 1
  | .ptr d => uptoBulk d + 1
  | .slice elems spare => uptoBulkAll elems + uptoBulkAll spare + 1
  | .agg parts => uptoBulkAll parts + 1
  | .iface _ d => uptoBulk d + 1
  | .map entries => uptoBulkEntries entries + 1
  | .held _ => 1
def uptoBulkAll {H : Type} : List (DataW H) → Nat
  | [] => 0
  | d :: r => uptoBulk d + uptoBulkAll r
def uptoBulkEntries {H : Type} : List (Lit × DataW H) → Nat
  | [] => 0
  | x :: r => uptoBulkEntry x + uptoBulkEntries r
def uptoBulkEntry {H : Type} : Lit × DataW H → Nat
  | (.string bytes, d) => bytes.length + uptoBulk d + 1
  | (_, d) => uptoBulk d + 1
 end
def uptoSmall : (H : Type) → List (DataW H) → Bool := fun _ ds => decide (uptoBulkAll ds ≤ 1048576)
def OpenSpec.upto (s : _root_.Go.ChangeSpec) : _root_.Go.OpenSpec := { _root_.Go.OpenSpec.ofChange s with cond := some uptoSmall }

/-- 'colophonlaw12.ParseNames', WHERE WHAT IT READS IS OF BULK AT MOST 1048576: true; the input reads as it did. -/
def parseNamesUptoRow : OpenClaim := { program := "ytbopnglncjdnmaa", sum := "876c3cb2e8237a4fb03e27b946981bd571e65ad96885a6566dade0a3c67ed50e", func := "colophon/colophonlaw12.ParseNames", spec := "parseNames", apart := false, narrowed := true }
def ParseNamesUptoSaid : Prop := parseNamesUptoRow.holds Try.pinned (OpenSpec.upto parseNamesSpec)

/-- 'colophonlaw14.SyntaxNames', WHERE WHAT IT READS IS OF BULK AT MOST 1048576: true; the input reads as it did. -/
def syntaxNamesUptoRow : OpenClaim := { program := "ytbopnglncjdnmaa", sum := "876c3cb2e8237a4fb03e27b946981bd571e65ad96885a6566dade0a3c67ed50e", func := "colophon/colophonlaw14.SyntaxNames", spec := "syntaxNames", apart := false, narrowed := true }
def SyntaxNamesUptoSaid : Prop := syntaxNamesUptoRow.holds Try.pinned (OpenSpec.upto syntaxNamesSpec)

/-- 'colophonlaw13.TreeNames', WHERE WHAT IT READS IS OF BULK AT MOST 1048576: true; the input reads as it did. -/
def treeNamesUptoRow : OpenClaim := { program := "ytbopnglncjdnmaa", sum := "876c3cb2e8237a4fb03e27b946981bd571e65ad96885a6566dade0a3c67ed50e", func := "colophon/colophonlaw13.TreeNames", spec := "treeNames", apart := false, narrowed := true }
def TreeNamesUptoSaid : Prop := treeNamesUptoRow.holds Try.pinned (OpenSpec.upto treeNamesSpec)

/-- 'colophonlaw05.RingLine', WHERE WHAT IT READS IS OF BULK AT MOST 1048576: true; the input reads as it did. -/
def ringLineUptoRow : OpenClaim := { program := "ytbopnglncjdnmaa", sum := "876c3cb2e8237a4fb03e27b946981bd571e65ad96885a6566dade0a3c67ed50e", func := "colophon/colophonlaw05.RingLine", spec := "ringLine", apart := false, narrowed := true }
def RingLineUptoSaid : Prop := ringLineUptoRow.holds Try.pinned (OpenSpec.upto ringLineSpec)

/-- 'colophonlaw05.RingNames', WHERE WHAT IT READS IS OF BULK AT MOST 1048576: true; the input reads as it did. -/
def ringNamesUptoRow : OpenClaim := { program := "ytbopnglncjdnmaa", sum := "876c3cb2e8237a4fb03e27b946981bd571e65ad96885a6566dade0a3c67ed50e", func := "colophon/colophonlaw05.RingNames", spec := "ringNames", apart := false, narrowed := true }
def RingNamesUptoSaid : Prop := ringNamesUptoRow.holds Try.pinned (OpenSpec.upto ringNamesSpec)

/-- 'colophonlaw05.RingPlays', WHERE WHAT IT READS IS OF BULK AT MOST 1048576: true; the input reads as it did. -/
def ringPlaysUptoRow : OpenClaim := { program := "ytbopnglncjdnmaa", sum := "876c3cb2e8237a4fb03e27b946981bd571e65ad96885a6566dade0a3c67ed50e", func := "colophon/colophonlaw05.RingPlays", spec := "ringPlays", apart := false, narrowed := true }
def RingPlaysUptoSaid : Prop := ringPlaysUptoRow.holds Try.pinned (OpenSpec.upto ringPlaysSpec)

end Rows
end Go.Proofs.Ytbopnglncjdnmaa
