/- What Build computes, in plain words. -/
import Derived.Test.YtfefldkljbbbpaaOwn
set_option linter.unusedVariables false
namespace Go.Proofs.Ytfefldkljbbbpaa
def isNote (t : Tk) : Bool := t.f0 == 7 || t.f0 == 8
def addKid (t x : Nd) : Nd := ⟨t.f0, t.f1, t.f2 ++ [x]⟩
/-- The machine: what is left of the events; the open nodes, the innermost first. -/
def runB : List Ev → List Nd → Option Nd
  | [], _ => none
  | e :: l, S =>
    if e.f0 = 1 then (if e.f1 = 0 ∨ S.length = 1000 then none else runB l (⟨e.f1, noTk, []⟩ :: S))
    else if e.f0 = 2 ∨ e.f0 = 4 then
      match S with
      | [] => none
      | t :: S' => if isNote e.f2 = (e.f0 == 4) then runB l (addKid t ⟨0, e.f2, []⟩ :: S') else none
    else if e.f0 = 3 then
      match S with
      | [] => none
      | t :: S' => if t.f0 = e.f1 then (match S' with
        | [] => if l = [] then some t else none
        | u :: S'' => runB l (addKid u t :: S'')) else none
    else none
/-- What Build answers: the tree and the number. -/
def bld (l : List Ev) : Nd × Int := match runB l [] with
  | none => (noNd, 130)
  | some x => (x, 0)
theorem bld_none {l : List Ev} (h : runB l [] = none) : bld l = (noNd, 130) := by rw [bld, h]
theorem bld_some {l : List Ev} {x : Nd} (h : runB l [] = some x) : bld l = (x, 0) := by rw [bld, h]

/-- None of the open nodes has more kids than events have come. -/
def Small (i : Nat) (S : List Nd) : Prop := S.length ≤ 1000 ∧ ∀ t ∈ S, t.f2.length ≤ i
theorem Small.nil : Small 0 [] := ⟨by decide, fun t h => by cases h⟩
theorem Small.next {i : Nat} {S : List Nd} (h : Small i S) : Small (i + 1) S := ⟨h.1, fun t ht => Nat.le_succ_of_le (h.2 t ht)⟩
theorem Small.push {i : Nat} {S : List Nd} (h : Small i S) (k : Int) (hS : S.length ≠ 1000) : Small (i + 1) (⟨k, noTk, []⟩ :: S) :=
  ⟨by have := h.1; simp only [List.length_cons]; omega, fun t ht => by
    rcases List.mem_cons.1 ht with rfl | ht
    · exact Nat.zero_le _
    · exact Nat.le_succ_of_le (h.2 t ht)⟩
theorem Small.add {i : Nat} {S : List Nd} {t x : Nd} (h : Small i (t :: S)) : Small (i + 1) (addKid t x :: S) :=
  ⟨h.1, fun y hy => by
    rcases List.mem_cons.1 hy with rfl | hy
    · have := h.2 t List.mem_cons_self
      simp only [addKid, List.length_append, List.length_singleton]
      omega
    · exact Nat.le_succ_of_le (h.2 y (List.mem_cons_of_mem _ hy))⟩
theorem Small.pop {i : Nat} {S : List Nd} {t : Nd} (h : Small i (t :: S)) : Small i S := ⟨by have := h.1; simp only [List.length_cons] at this; omega, fun y hy => h.2 y (List.mem_cons_of_mem _ hy)⟩
end Go.Proofs.Ytfefldkljbbbpaa
