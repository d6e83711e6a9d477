/- How much is to come: a token lays few things anew. -/
import Derived.Test.YtmjbpgnjgblnmaaPut
set_option linter.unusedVariables false
namespace Go.Proofs.Ytmjbpgnjgblnmaa
theorem expand_len {f : RId} {c : ByteArray} {l : List Eff} (h : f.expand c = some l) (s : PSt) : (effs s l).todo.length ≤ s.todo.length + 11 ∧ (effs s l).evs.length ≤ s.evs.length + 1 ∧ s.depth ≤ (effs s l).depth ∧ (effs s l).depth ≤ s.depth + 1 := by
  cases f
  all_goals
    simp only [RId.expand] at h
    repeat' split at h
  all_goals first
    | (cases h; done)
    | (cases h; simp only [effs, List.foldl, Eff.act, List.length_append, List.length_cons, List.length_nil]; omega)
theorem turn_len {c : ByteArray} {s s' : PSt} (h : turn c s = .on s') : s'.todo.length ≤ s.todo.length + 11 ∧ s'.evs.length ≤ s.evs.length + 1 ∧ s.depth - 1 ≤ s'.depth ∧ s'.depth ≤ s.depth + 1 := by
  unfold turn at h
  split at h
  · cases h
  · split at h <;> cases h
  · rename_i k r hr
    cases h
    rw [hr]
    simp only [List.length_append, List.length_cons, List.length_nil]
    omega
  · rename_i f r hr
    split at h
    · cases h
    · rename_i l hl
      cases h
      have := expand_len hl { s with todo := r }
      rw [hr]
      simp only [List.length_cons] at this ⊢
      omega
theorem turns_len (c : ByteArray) : ∀ (n : Nat) (s : PSt) (r : Bool × PSt), turns c n s = some r → r.2.todo.length ≤ s.todo.length + 11 * n
  | 0, s, r, h => by simp [turns] at h
  | n + 1, s, r, h => by
    rw [turns] at h
    split at h
    · rename_i s' hs
      have h1 := turn_len hs
      have h2 := turns_len c n s' r h
      omega
    all_goals
      rename_i s' hs
      cases h
      unfold turn at hs
      split at hs
      · cases hs <;> simp_all
      · rename_i x r hr
        split at hs <;> cases hs <;> simp only [hr, List.length_cons] <;> omega
      · cases hs
      · rename_i f r hr
        split at hs <;> cases hs <;> simp only [hr, List.length_cons] <;> omega
theorem some_len (c : ByteArray) : ∀ (m : Nat) (s : PSt), s.todo.length = m → ∃ r, turns c (m + 7) s = some r ∧ r.2.todo.length ≤ m + 77 := by
  intro m
  induction m with
  | zero =>
    intro s hs
    have h0 : s.todo = [] := List.length_eq_zero_iff.1 hs
    exact ⟨(false, s), by simp only [turns, turn, h0], by simp only [hs]; omega⟩
  | succ m ih =>
    intro s hs
    cases ht : s.todo with
    | nil => rw [ht] at hs; cases hs
    | cons t r =>
      have hr : r.length = m := by rw [ht] at hs; simpa using hs
      have key : ∀ {n : Nat}, OkTop c n t → n ≤ 7 → ∃ r, turns c (m + 1 + 7) s = some r ∧ r.2.todo.length ≤ m + 1 + 77 := fun {n} ho hn => by
        obtain ⟨q, ks, h1, h2, h3⟩ := ho s r ht
        have h4 := turns_len c n s q h1
        obtain ⟨j, hj⟩ := Nat.exists_eq_add_of_le (show n ≤ m + 1 + 7 by omega)
        exact ⟨q, by rw [hj]; exact turns_mono c n s q j h1, by omega⟩
      cases t with
      | word x => exact key (ok_word c x) (by omega)
      | fin k =>
        obtain ⟨q, h1, h2⟩ := ih { todo := r, evs := s.evs ++ [(3, k)], depth := s.depth - 1 } hr
        refine ⟨q, ?_, by omega⟩
        rw [show m + 1 + 7 = (m + 7) + 1 by omega, turns]; simp only [turn, ht]; exact h1
      | rule f =>
        rcases gone_any c f with hg | hg
        · obtain ⟨q, h1, h2⟩ := ih { s with todo := r } hr
          refine ⟨q, ?_, by omega⟩
          rw [show m + 1 + 7 = (m + 7) + 1 by omega, turns]; simp only [turn, ht, hg, effs, List.foldl]; exact h1
        · exact key hg (by omega)
theorem token_len (t : Tk) (todo : List WT) (depth : Int) : (token t todo depth).2.todo.length ≤ todo.length + 77 := by
  obtain ⟨r, h1, h2⟩ := some_len (codeOf t) todo.length ⟨todo, [], depth⟩ rfl
  obtain ⟨b, s⟩ := r
  unfold token
  rw [h1]
  cases b with
  | false => exact h2
  | true =>
    simp only
    split
    · exact h2
    · split <;> exact h2
theorem put_len (p : Par) (t : Tk) : (put p t).2.2.todo.length ≤ p.todo.length + 77 := by
  have h := token_len t p.todo (preD p)
  unfold put
  split
  · simp only; omega
  split
  · simp only; omega
  split
  · simp only; omega
  simp only
  split <;> simp only <;> omega
end Go.Proofs.Ytmjbpgnjgblnmaa
