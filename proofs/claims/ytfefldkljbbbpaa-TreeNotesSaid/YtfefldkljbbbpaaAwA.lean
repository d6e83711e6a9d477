/- awake of chapter 13: what it lays, in plain words. -/
import Derived.Test.YtfefldkljbbbpaaLawP
import Derived.Test.YtfefldkljbbbpaaBuildA
import Derived.Test.YtfefldkljbbbpaaEvW
import Derived.Test.YtfefldkljbbbpaaOkL
set_option linter.unusedVariables false
set_option linter.unusedSimpArgs false
namespace Go.Proofs.Ytfefldkljbbbpaa
open Go.RowKit Go.Shelf Go.Proofs.YtfefldkljbbbpaaW.PrintWords Go.Proofs.YtfefldkljbbbpaaW.PrintLast Go.Proofs.YtfefldkljbbbpaaW.PrintMore

theorem ev_at : ∀ (xs : List Ev) (i : Nat) (x : Ev), xs[i]? = some x → ∀ (j : Nat) (v : Value), (evCells x)[j]? = some v → (xs.flatMap evCells)[i * 8 + j]? = some v
  | [], i, k, h, _, _, _ => by simp at h
  | y :: ys, i, k, h, j, v, hj => by
    have hlt : j < 8 := (List.getElem?_eq_some_iff.1 hj).1
    have h8 : (evCells y).length = 8 := rfl
    rw [List.flatMap_cons]
    cases i with
    | zero =>
      simp at h
      subst h
      rw [List.getElem?_append_left (by omega), Nat.zero_mul, Nat.zero_add]
      exact hj
    | succ i =>
      rw [List.getElem?_append_right (by omega), h8, show (i + 1) * 8 + j - 8 = i * 8 + j by omega]
      exact ev_at ys i k (by simpa using h) j v hj
/-- Events that lie in a block can be read. -/
theorem ev_row {w : World} {b : Nat} {xs : List Ev} {cells : Array Value} {T : TypeId} (hh : w.heap[b]? = some (.cells cells T (0, 0))) (he : cells.toList = xs.flatMap evCells) (hl : xs.length ≤ 1073741824) : Kd.C kEv w (some ⟨b, 0, none⟩) xs.length xs := by
  refine ⟨rfl, by omega, fun _ => ⟨⟨b, 0, none⟩, rfl, fun j p hp => ⟨evCells p, rfl, PTreeSame.k32_mk w p, fun i u hu => ?_⟩⟩⟩
  show w.cell? ((⟨b, 0, none⟩ : Addr).add (j * 8 + i)) = some u
  rw [show (⟨b, 0, none⟩ : Addr).add (j * 8 + i) = ⟨b, j * 8 + i, none⟩ by simp [Addr.add]; omega]
  refine (cell_of_row _ _ _ _ _ _ hh).trans ?_
  rw [← Array.getElem?_toList, he]
  exact ev_at xs j p hp i u hu

def skipT : Tk := ⟨2, ⟨#[115, 107, 105, 112]⟩, ⟨0, 0, 0⟩, 0⟩
def skipL : List Ev := [⟨1, 13, noTk⟩, ⟨2, 0, skipT⟩, ⟨3, 13, noTk⟩]
def skipN : Nd := ⟨13, noTk, [⟨0, skipT, []⟩]⟩
theorem skip_bld : bld skipL = (skipN, 0) := bld_some (by simp [runB, skipL, skipT, isNote, addKid, skipN, noTk])
theorem skip_bld2 : bld (skipL.take 2) = (noNd, 130) := bld_none (by simp [runB, skipL, skipT, isNote, addKid, skipN, noTk])
theorem skip_tells : tells skipN = skipL := by simp [skipN, tells_eq, tellsL, evTok, isNote, skipT, evOpen, evClose, skipL, noTk]
theorem skip_dep : dep skipN = 1 := by simp [skipN, dep, depL]
theorem skip_nds : nds skipN = 2 := by simp [skipN, nds, ndsL]
theorem skip_same : sameN 2 skipN skipN = true := by simp [sameN, skipN, plainL, isKid, isNote, skipT]
end Go.Proofs.Ytfefldkljbbbpaa
