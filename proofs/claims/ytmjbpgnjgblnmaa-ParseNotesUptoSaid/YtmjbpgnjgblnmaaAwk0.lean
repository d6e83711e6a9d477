/- awake: a small program's tokens, in plain words. -/
import Derived.Test.YtmjbpgnjgblnmaaAll
set_option linter.unusedVariables false
set_option linter.unusedSimpArgs false
namespace Go.Proofs.Ytmjbpgnjgblnmaa
open Go.RowKit Go.Proofs.YtmjbpgnjgblnmaaW.PrintWords Go.Proofs.YtmjbpgnjgblnmaaW.PrintLast Go.Proofs.YtmjbpgnjgblnmaaW.PrintMore

def awkL : List Tk := [⟨2, ⟨#[112, 114, 111, 103, 114, 97, 109]⟩, ⟨0, 0, 0⟩, 0⟩, ⟨1, ⟨#[112]⟩, ⟨0, 0, 0⟩, 0⟩, ⟨6, ⟨#[59]⟩, ⟨0, 0, 0⟩, 0⟩, ⟨2, ⟨#[98, 101, 103, 105, 110]⟩, ⟨0, 0, 0⟩, 0⟩, ⟨2, ⟨#[115, 107, 105, 112]⟩, ⟨0, 0, 0⟩, 0⟩, ⟨2, ⟨#[101, 110, 100]⟩, ⟨0, 0, 0⟩, 0⟩, ⟨6, ⟨#[46]⟩, ⟨0, 0, 0⟩, 0⟩]
def tkCells (t : Tk) : List Value := [.int .u8 t.f0, .string t.f1, .int .i64 t.f2.f0, .int .i64 t.f2.f1, .int .i64 t.f2.f2, .int .i64 t.f3]
def awkS : Nat → Par × Nat
  | 0 => (newPar, 0)
  | i + 1 => ((put (awkS i).1 (PParseNotes.rd_T35 awkL i)).2.2, (awkS i).2 + (put (awkS i).1 (PParseNotes.rd_T35 awkL i)).1.length)
def awkOk (i : Nat) : Bool := ((put (awkS i).1 (PParseNotes.rd_T35 awkL i)).2.1 == 0) && decide ((awkS i).1.todo.length ≤ 100) && decide (-100 ≤ (awkS i).1.depth) && decide ((awkS i).1.depth ≤ 100) && decide ((awkS i).2 ≤ 100) && decide ((put (awkS i).1 (PParseNotes.rd_T35 awkL i)).1.length ≤ 100)
theorem awk_all : (List.range 8).all (fun i => (i == 7) || awkOk i) = true := by kernel_rfl
theorem awk_end : ((awkS 7).2 == 14 && (awkS 7).1.depth == 1 && (awkS 7).1.todo.length == 1 && !(awkS 7).1.closed && (awkS 7).1.wrong == 0) = true := by kernel_rfl
theorem awk_sign : ((put newPar ⟨6, ⟨#[59]⟩, ⟨0, 0, 0⟩, 0⟩).2.1 == 120) = true := by kernel_rfl
end Go.Proofs.Ytmjbpgnjgblnmaa
