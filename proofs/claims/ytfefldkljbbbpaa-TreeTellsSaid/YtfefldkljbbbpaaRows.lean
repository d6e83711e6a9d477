/-
  NARROWER THAN 'FOR EVERY INPUT', by the rows' own cells (each row's printed sentence says how): TreeSame: loops · TreeBack: loops · TreeNotes: loops · TreeTells: loops.
  DERIVED. THE GIVEN ROWS OF THIS SEAT. 5 by the template 'for every input the law returns true; each argument reads behind the call as it read before'; 0 by the template 'total and deterministic' (their statements: YtfefldkljbbbpaaTotals.lean).
  GIVEN WITH THE SEED: the statements are not yours to turn. If you find one false, say at which input.
  Laid BY PROGRAM, IN A SANDBOX (cutbox-rows.mjs): the forced cells as the released guide's own fill.sh prints them over the translation ee831cb3ecafa9fd… (all of the seat's roots in one cut). By AI agents, Wed Nov 11 2026. No macro, syntax, notation, axiom, sorry.
-/
import Derived.Test.YtfefldkljbbbpaaChecked
import GoSem.Claim
import GoSem.ClaimJoined
import GoSem.ClaimMapViews
import Derived.JoinedTies
import Derived.KernelRfl
namespace Go.Proofs.Ytfefldkljbbbpaa
/- THE CELL 'sum', in the pinned program and in every row, IS THE sha256 OF THE DUMP (.gsa) THAT YtfefldkljbbbpaaProg.lean LOADS. Nothing in Lean hashes anything: it is a label: what it is worth is what the hold of that sum in a sandbox is worth. -/
noncomputable def Try.pinned : Pinned := { name := "ytfefldkljbbbpaa", sum := "ee831cb3ecafa9fd56425820f42187a7c4c73ee3f0c8201a66f17c8b11c19c0e", checked := Try.checked }
namespace Rows
def none {H : Type} : Left H := { results := [], args := [] }

/-- 'colophonlaw13.TreeBuilds': WHATEVER THE INPUT: true; the input reads as it did. -/
def treeBuildsSpec : ChangeSpec := { name := "treeBuilds", fn := fun _ => fun
  | [d1, d2] => { results := [.lit (.bool true)], args := [d1, d2] }
  | _ => none }
def treeBuildsRow : OpenClaim := { program := "ytfefldkljbbbpaa", sum := "ee831cb3ecafa9fd56425820f42187a7c4c73ee3f0c8201a66f17c8b11c19c0e", func := "colophon/colophonlaw13.TreeBuilds", spec := "treeBuilds", unfollowed := true, recurses := true, apart := false }
def TreeBuildsSaid : Prop := treeBuildsRow.holds Try.pinned (OpenSpec.ofChange treeBuildsSpec)

/-- ITS FALSE NEIGHBOUR: 'it returns false'. Refute it at one input. -/
def treeBuildsWrong : ChangeSpec := { name := "treeBuilds", fn := fun _ => fun
  | [d1, d2] => { results := [.lit (.bool false)], args := [d1, d2] }
  | _ => none }
def TreeBuildsWrongFalsely : Prop := treeBuildsRow.holds Try.pinned (OpenSpec.ofChange treeBuildsWrong)

/-- 'colophonlaw13.TreeSame': WHATEVER THE INPUT: true; the input reads as it did. -/
def treeSameSpec : ChangeSpec := { name := "treeSame", fn := fun _ => fun
  | [d1, d2] => { results := [.lit (.bool true)], args := [d1, d2] }
  | _ => none }
def treeSameRow : OpenClaim := { program := "ytfefldkljbbbpaa", sum := "ee831cb3ecafa9fd56425820f42187a7c4c73ee3f0c8201a66f17c8b11c19c0e", func := "colophon/colophonlaw13.TreeSame", spec := "treeSame", unfollowed := true, recurses := true, loops := true, apart := false }
def TreeSameSaid : Prop := treeSameRow.holds Try.pinned (OpenSpec.ofChange treeSameSpec)

/-- ITS FALSE NEIGHBOUR: 'it returns false'. Refute it at one input. -/
def treeSameWrong : ChangeSpec := { name := "treeSame", fn := fun _ => fun
  | [d1, d2] => { results := [.lit (.bool false)], args := [d1, d2] }
  | _ => none }
def TreeSameWrongFalsely : Prop := treeSameRow.holds Try.pinned (OpenSpec.ofChange treeSameWrong)

/-- 'colophonlaw13.TreeBack': WHATEVER THE INPUT: true; the input reads as it did. -/
def treeBackSpec : ChangeSpec := { name := "treeBack", fn := fun _ => fun
  | [d1, d2] => { results := [.lit (.bool true)], args := [d1, d2] }
  | _ => none }
def treeBackRow : OpenClaim := { program := "ytfefldkljbbbpaa", sum := "ee831cb3ecafa9fd56425820f42187a7c4c73ee3f0c8201a66f17c8b11c19c0e", func := "colophon/colophonlaw13.TreeBack", spec := "treeBack", unfollowed := true, recurses := true, loops := true, apart := false }
def TreeBackSaid : Prop := treeBackRow.holds Try.pinned (OpenSpec.ofChange treeBackSpec)

/-- ITS FALSE NEIGHBOUR: 'it returns false'. Refute it at one input. -/
def treeBackWrong : ChangeSpec := { name := "treeBack", fn := fun _ => fun
  | [d1, d2] => { results := [.lit (.bool false)], args := [d1, d2] }
  | _ => none }
def TreeBackWrongFalsely : Prop := treeBackRow.holds Try.pinned (OpenSpec.ofChange treeBackWrong)

/-- 'colophonlaw13.TreeNotes': WHATEVER THE INPUT: true; the input reads as it did. -/
def treeNotesSpec : ChangeSpec := { name := "treeNotes", fn := fun _ => fun
  | [d1, d2, d3] => { results := [.lit (.bool true)], args := [d1, d2, d3] }
  | _ => none }
def treeNotesRow : OpenClaim := { program := "ytfefldkljbbbpaa", sum := "ee831cb3ecafa9fd56425820f42187a7c4c73ee3f0c8201a66f17c8b11c19c0e", func := "colophon/colophonlaw13.TreeNotes", spec := "treeNotes", unfollowed := true, recurses := true, loops := true, apart := false }
def TreeNotesSaid : Prop := treeNotesRow.holds Try.pinned (OpenSpec.ofChange treeNotesSpec)

/-- ITS FALSE NEIGHBOUR: 'it returns false'. Refute it at one input. -/
def treeNotesWrong : ChangeSpec := { name := "treeNotes", fn := fun _ => fun
  | [d1, d2, d3] => { results := [.lit (.bool false)], args := [d1, d2, d3] }
  | _ => none }
def TreeNotesWrongFalsely : Prop := treeNotesRow.holds Try.pinned (OpenSpec.ofChange treeNotesWrong)

/-- 'colophonlaw13.TreeTells': WHATEVER THE INPUT: true; the input reads as it did. -/
def treeTellsSpec : ChangeSpec := { name := "treeTells", fn := fun _ => fun
  | [d1, d2] => { results := [.lit (.bool true)], args := [d1, d2] }
  | _ => none }
def treeTellsRow : OpenClaim := { program := "ytfefldkljbbbpaa", sum := "ee831cb3ecafa9fd56425820f42187a7c4c73ee3f0c8201a66f17c8b11c19c0e", func := "colophon/colophonlaw13.TreeTells", spec := "treeTells", unfollowed := true, recurses := true, loops := true, apart := false }
def TreeTellsSaid : Prop := treeTellsRow.holds Try.pinned (OpenSpec.ofChange treeTellsSpec)

/-- ITS FALSE NEIGHBOUR: 'it returns false'. Refute it at one input. -/
def treeTellsWrong : ChangeSpec := { name := "treeTells", fn := fun _ => fun
  | [d1, d2] => { results := [.lit (.bool false)], args := [d1, d2] }
  | _ => none }
def TreeTellsWrongFalsely : Prop := treeTellsRow.holds Try.pinned (OpenSpec.ofChange treeTellsWrong)

/- THE SECOND FORM. 'bulk': how many values and letters a reading holds, each counted each time it is reached (what is shared counts as often as it is met; a slice's spare places count too). A statement '..UptoSaid' is the law's where the arguments, and the package variables that the reading takes, are together of bulk at most 1048576: NARROWER than '..Said'. Prove '..Said' where nothing that the law and all that it calls make is longer than what came in: it says more and counts as full. Else prove '..UptoSaid'. A law counts once. -/
mutual
def uptoBulk {H : Type} : DataW H → Nat
  | .lit (.string bytes) => bytes.length + 1
  | .lit _ => 1
  | .nil => 1
  | .ptr d => uptoBulk d + 1
  | .slice elems spare => uptoBulkAll elems + uptoBulkAll spare + 1
  | .agg parts => uptoBulkAll parts + 1
  | .iface _ d => uptoBulk d + 1
  | .map entries => uptoBulkEntries entries + 1
  | .held _ => 1
def uptoBulkAll {H : Type} : List (DataW H) → Nat
  | [] => 0
  | d :: r => uptoBulk d + uptoBulkAll r
def uptoBulkEntries {H : Type} : List (Lit × DataW H) → Nat
  | [] => 0
  | x :: r => uptoBulkEntry x + uptoBulkEntries r
def uptoBulkEntry {H : Type} : Lit × DataW H → Nat
  | (.string bytes, d) => bytes.length + uptoBulk d + 1
  | (_, d) => uptoBulk d + 1
 end
def uptoSmall : (H : Type) → List (DataW H) → Bool := fun _ ds => decide (uptoBulkAll ds ≤ 1048576)
def OpenSpec.upto (s : _root_.Go.ChangeSpec) : _root_.Go.OpenSpec := { _root_.Go.OpenSpec.ofChange s with cond := some uptoSmall }

/-- 'colophonlaw13.TreeBuilds', WHERE WHAT IT READS IS OF BULK AT MOST 1048576: true; the input reads as it did. -/
def treeBuildsUptoRow : OpenClaim := { program := "ytfefldkljbbbpaa", sum := "ee831cb3ecafa9fd56425820f42187a7c4c73ee3f0c8201a66f17c8b11c19c0e", func := "colophon/colophonlaw13.TreeBuilds", spec := "treeBuilds", unfollowed := true, recurses := true, apart := false, narrowed := true }
def TreeBuildsUptoSaid : Prop := treeBuildsUptoRow.holds Try.pinned (OpenSpec.upto treeBuildsSpec)

/-- 'colophonlaw13.TreeSame', WHERE WHAT IT READS IS OF BULK AT MOST 1048576: true; the input reads as it did. -/
def treeSameUptoRow : OpenClaim := { program := "ytfefldkljbbbpaa", sum := "ee831cb3ecafa9fd56425820f42187a7c4c73ee3f0c8201a66f17c8b11c19c0e", func := "colophon/colophonlaw13.TreeSame", spec := "treeSame", unfollowed := true, recurses := true, loops := true, apart := false, narrowed := true }
def TreeSameUptoSaid : Prop := treeSameUptoRow.holds Try.pinned (OpenSpec.upto treeSameSpec)

/-- 'colophonlaw13.TreeBack', WHERE WHAT IT READS IS OF BULK AT MOST 1048576: true; the input reads as it did. -/
def treeBackUptoRow : OpenClaim := { program := "ytfefldkljbbbpaa", sum := "ee831cb3ecafa9fd56425820f42187a7c4c73ee3f0c8201a66f17c8b11c19c0e", func := "colophon/colophonlaw13.TreeBack", spec := "treeBack", unfollowed := true, recurses := true, loops := true, apart := false, narrowed := true }
def TreeBackUptoSaid : Prop := treeBackUptoRow.holds Try.pinned (OpenSpec.upto treeBackSpec)

/-- 'colophonlaw13.TreeNotes', WHERE WHAT IT READS IS OF BULK AT MOST 1048576: true; the input reads as it did. -/
def treeNotesUptoRow : OpenClaim := { program := "ytfefldkljbbbpaa", sum := "ee831cb3ecafa9fd56425820f42187a7c4c73ee3f0c8201a66f17c8b11c19c0e", func := "colophon/colophonlaw13.TreeNotes", spec := "treeNotes", unfollowed := true, recurses := true, loops := true, apart := false, narrowed := true }
def TreeNotesUptoSaid : Prop := treeNotesUptoRow.holds Try.pinned (OpenSpec.upto treeNotesSpec)

/-- 'colophonlaw13.TreeTells', WHERE WHAT IT READS IS OF BULK AT MOST 1048576: true; the input reads as it did. -/
def treeTellsUptoRow : OpenClaim := { program := "ytfefldkljbbbpaa", sum := "ee831cb3ecafa9fd56425820f42187a7c4c73ee3f0c8201a66f17c8b11c19c0e", func := "colophon/colophonlaw13.TreeTells", spec := "treeTells", unfollowed := true, recurses := true, loops := true, apart := false, narrowed := true }
def TreeTellsUptoSaid : Prop := treeTellsUptoRow.holds Try.pinned (OpenSpec.upto treeTellsSpec)

end Rows
end Go.Proofs.Ytfefldkljbbbpaa
