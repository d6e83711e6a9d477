/- There and back, in plain words: what Events tells, Build takes just where the tree is neither flat nor too deep. -/
import Derived.Test.YtfefldkljbbbpaaBackP
set_option linter.unusedVariables false
set_option linter.unusedSimpArgs false
namespace Go.Proofs.Ytfefldkljbbbpaa
open Go.RowKit Go.Proofs.YtfefldkljbbbpaaW.PrintWords Go.Proofs.YtfefldkljbbbpaaW.PrintLast Go.Proofs.YtfefldkljbbbpaaW.PrintMore

mutual
/-- A tree as Build makes it. -/
def canonN : Nd → Nd
  | ⟨k, t, kids⟩ => if k = 0 then ⟨0, t, []⟩ else ⟨k, noTk, canonL kids⟩
def canonL : List Nd → List Nd
  | [] => []
  | x :: xs => canonN x :: canonL xs
end
theorem run_open (k : Int) (rest : List Ev) (S : List Nd) (hk : k ≠ 0) : runB (evOpen k :: rest) S = if S.length = 1000 then none else runB rest (⟨k, noTk, []⟩ :: S) := by
  conv => lhs; unfold runB
  simp [evOpen, hk]
theorem run_tok (t : Tk) (rest : List Ev) (u : Nd) (S : List Nd) : runB (evTok t :: rest) (u :: S) = runB rest (addKid u ⟨0, t, []⟩ :: S) := by
  conv => lhs; unfold runB
  cases h : isNote t <;> simp [evTok, h]
theorem run_tok0 (t : Tk) (rest : List Ev) : runB (evTok t :: rest) [] = none := by
  unfold runB
  cases h : isNote t <;> simp [evTok, h]
theorem run_close (k : Int) (rest : List Ev) (u v : Nd) (S : List Nd) (hk : u.f0 = k) : runB (evClose k :: rest) (u :: v :: S) = runB rest (addKid v u :: S) := by
  conv => lhs; unfold runB
  simp [evClose, hk]
theorem run_close0 (k : Int) (rest : List Ev) (u : Nd) (hk : u.f0 = k) : runB (evClose k :: rest) [u] = if rest = [] then some u else none := by
  unfold runB
  simp [evClose, hk]
mutual
theorem run_node : ∀ (n : Nd) (rest : List Ev) (S : List Nd), S.length ≤ 1000 → n.f0 ≠ 0 → runB (tells n ++ rest) S = if dep n + S.length ≤ 1000 then (match S with | [] => if rest = [] then some (canonN n) else none | u :: S' => runB rest (addKid u (canonN n) :: S')) else none
  | ⟨k, t, kids⟩, rest, S, hS, hk => by
    have hk' : k ≠ 0 := hk
    rw [tells_eq, if_neg hk, dep_eq, if_neg hk, canonN, if_neg hk']
    dsimp only
    rw [List.cons_append, List.append_assoc, run_open _ _ _ hk']
    by_cases h1 : S.length = 1000
    · rw [if_pos h1, if_neg (by omega)]
    · rw [if_neg h1, run_kids kids _ _ S (by omega)]
      by_cases h2 : depL kids + (S.length + 1) ≤ 1000
      · rw [if_pos h2, if_pos (by omega), List.nil_append]
        cases S with
        | nil => exact run_close0 _ _ _ rfl
        | cons u S' => exact run_close _ _ _ _ _ rfl
      · rw [if_neg h2, if_neg (by omega)]
theorem run_kids : ∀ (l : List Nd) (rest : List Ev) (u : Nd) (S : List Nd), S.length < 1000 → runB (tellsL l ++ rest) (u :: S) = if depL l + (S.length + 1) ≤ 1000 then runB rest (⟨u.f0, u.f1, u.f2 ++ canonL l⟩ :: S) else none
  | [], rest, u, S, hS => by
    rw [tellsL, depL, canonL, List.nil_append, List.append_nil, if_pos (by omega)]
    obtain ⟨a, b, c⟩ := u
    rfl
  | x :: xs, rest, u, S, hS => by
    rw [tellsL, depL, canonL, List.append_assoc]
    by_cases hx : x.f0 = 0
    · have hd : dep x = 0 := by rw [dep_eq, if_pos hx]
      have hc : canonN x = ⟨0, x.f1, []⟩ := by obtain ⟨k, t, kids⟩ := x; rw [canonN, if_pos hx]
      rw [tells_eq, if_pos hx, List.singleton_append, run_tok, run_kids xs rest _ S hS, hd, hc]
      simp [addKid, List.append_assoc]
    · rw [run_node x _ (u :: S) (by simp; omega) hx]
      dsimp only
      by_cases h1 : dep x + (u :: S).length ≤ 1000
      · rw [if_pos h1, run_kids xs rest _ S hS]
        simp only [List.length_cons] at h1
        by_cases h2 : depL xs + (S.length + 1) ≤ 1000
        · rw [if_pos h2, if_pos (by omega)]
          simp [addKid, List.append_assoc]
        · rw [if_neg h2, if_neg (by omega)]
      · simp only [List.length_cons] at h1
        rw [if_neg (by simpa using h1), if_neg (by omega)]
end
/-- Build takes what Events tells just where 1 ≤ depth ≤ 1000, and makes the tree as Build makes it. -/
theorem back_run (n : Nd) : runB (tells n) [] = if 1 ≤ dep n ∧ dep n ≤ 1000 then some (canonN n) else none := by
  by_cases hk : n.f0 = 0
  · rw [tells_eq, if_pos hk, run_tok0, dep_eq, if_pos hk, if_neg (by omega)]
  · have := run_node n [] [] (by decide) hk
    rw [List.append_nil] at this
    rw [this]
    have h1 : 1 ≤ dep n := by rw [dep_eq, if_neg hk]; omega
    by_cases h2 : dep n ≤ 1000
    · have h3 : dep n + ([] : List Nd).length ≤ 1000 := h2
      have h4 : 1 ≤ dep n ∧ dep n ≤ 1000 := ⟨h1, h2⟩
      simp only [if_pos h3, if_pos h4]
      rfl
    · have h3 : ¬ dep n + ([] : List Nd).length ≤ 1000 := h2
      have h4 : ¬ (1 ≤ dep n ∧ dep n ≤ 1000) := fun h => h2 h.2
      simp only [if_neg h3, if_neg h4]
end Go.Proofs.Ytfefldkljbbbpaa
