/- What a tree tells, in plain words; how many nodes it has. -/
import Derived.Test.YtfefldkljbbbpaaBk
set_option linter.unusedVariables false
namespace Go.Proofs.Ytfefldkljbbbpaa
def evOpen (k : Int) : Ev := ⟨1, k, noTk⟩
def evClose (k : Int) : Ev := ⟨3, k, noTk⟩
def evTok (t : Tk) : Ev := ⟨if isNote t then 4 else 2, 0, t⟩
mutual
def tells : Nd → List Ev
  | ⟨k, t, kids⟩ => if k = 0 then [evTok t] else evOpen k :: (tellsL kids ++ [evClose k])
def tellsL : List Nd → List Ev
  | [] => []
  | x :: xs => tells x ++ tellsL xs
end
mutual
def nds : Nd → Nat
  | ⟨_, _, kids⟩ => 1 + ndsL kids
def ndsL : List Nd → Nat
  | [] => 0
  | x :: xs => nds x + ndsL xs
end
theorem nds_eq (x : Nd) : nds x = 1 + ndsL x.f2 := by obtain ⟨k, t, kids⟩ := x; rw [nds]
theorem nds_pos (x : Nd) : 1 ≤ nds x := by rw [nds_eq]; omega
theorem tells_eq (x : Nd) : tells x = if x.f0 = 0 then [evTok x.f1] else evOpen x.f0 :: (tellsL x.f2 ++ [evClose x.f0]) := by obtain ⟨k, t, kids⟩ := x; rw [tells]
theorem tellsL_append : ∀ (a b : List Nd), tellsL (a ++ b) = tellsL a ++ tellsL b
  | [], b => by rw [List.nil_append, tellsL, List.nil_append]
  | x :: a, b => by rw [List.cons_append, tellsL, tellsL, tellsL_append a b, List.append_assoc]
theorem ndsL_append : ∀ (a b : List Nd), ndsL (a ++ b) = ndsL a + ndsL b
  | [], b => by rw [List.nil_append, ndsL, Nat.zero_add]
  | x :: a, b => by rw [List.cons_append, ndsL, ndsL, ndsL_append a b, Nat.add_assoc]
theorem tellsL_one (x : Nd) : tellsL [x] = tells x := by rw [tellsL, tellsL, List.append_nil]
theorem ndsL_one (x : Nd) : ndsL [x] = nds x := by rw [ndsL, ndsL]; omega
theorem ndsL_mem {x : Nd} : ∀ {l : List Nd}, x ∈ l → nds x ≤ ndsL l
  | y :: l, h => by
    rw [ndsL]
    rcases List.mem_cons.1 h with rfl | h
    · omega
    · have := ndsL_mem h; omega
theorem ndsL_len : ∀ (l : List Nd), l.length ≤ ndsL l
  | [] => by simp [ndsL]
  | x :: l => by
    have := ndsL_len l
    have := nds_pos x
    rw [ndsL, List.length_cons]; omega
mutual
theorem tells_len : ∀ (x : Nd), (tells x).length ≤ 2 * nds x
  | ⟨k, t, kids⟩ => by
    rw [tells, nds]
    have := tellsL_len kids
    split
    · simp only [List.length_cons, List.length_nil]; omega
    · simp only [List.length_cons, List.length_append, List.length_nil]; omega
theorem tellsL_len : ∀ (l : List Nd), (tellsL l).length ≤ 2 * ndsL l
  | [] => by simp [tellsL]
  | x :: l => by
    have := tells_len x
    have := tellsL_len l
    rw [tellsL, ndsL, List.length_append]; omega
end
theorem take_tells {l : List Nd} {k : Nat} {x : Nd} (h : l[k]? = some x) : tellsL (l.take (k + 1)) = tellsL (l.take k) ++ tells x := by
  rw [List.take_add_one, h, tellsL_append]
  simp [tellsL_one]
theorem take_nds {l : List Nd} (k : Nat) : ndsL (l.take k) ≤ ndsL l := by
  have h := ndsL_append (l.take k) (l.drop k)
  rw [List.take_append_drop] at h
  omega
end Go.Proofs.Ytfefldkljbbbpaa
