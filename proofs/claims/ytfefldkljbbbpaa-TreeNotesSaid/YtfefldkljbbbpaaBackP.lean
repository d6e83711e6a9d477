/- There and back, in plain words: what Build takes, Events tells. -/
import Derived.Test.YtfefldkljbbbpaaLawP
import Derived.Test.YtfefldkljbbbpaaBk
set_option linter.unusedVariables false
set_option linter.unusedSimpArgs false
namespace Go.Proofs.Ytfefldkljbbbpaa
open Go.RowKit Go.Proofs.YtfefldkljbbbpaaW.PrintWords Go.Proofs.YtfefldkljbbbpaaW.PrintLast Go.Proofs.YtfefldkljbbbpaaW.PrintMore

/-- An event as Events writes it. -/
def canon (e : Ev) : Ev := if e.f0 = 2 ∨ e.f0 = 4 then ⟨e.f0, 0, e.f2⟩ else ⟨e.f0, e.f1, noTk⟩
/-- What has been told of the open nodes, the innermost first. -/
def toldS : List Nd → List Ev
  | [] => []
  | t :: S => toldS S ++ (evOpen t.f0 :: tellsL t.f2)
theorem toldS_add (t x : Nd) (S : List Nd) : toldS (addKid t x :: S) = toldS (t :: S) ++ tells x := by
  simp [toldS, addKid, tellsL_append, tellsL_one]
theorem run_tells : ∀ (l : List Ev) (S : List Nd) (a : Nd), (∀ t ∈ S, t.f0 ≠ 0) → runB l S = some a → toldS S ++ l.map canon = tells a ∧ a.f0 ≠ 0 := by
  intro l
  induction l with
  | nil => intro S a _ h; simp [runB] at h
  | cons e l ih =>
    intro S a hS h
    unfold runB at h
    by_cases h1 : e.f0 = 1
    · rw [if_pos h1] at h
      by_cases h2 : e.f1 = 0 ∨ S.length = 1000
      · rw [if_pos h2] at h; cases h
      · rw [if_neg h2] at h
        obtain ⟨h3, h4⟩ := ih _ a (fun t ht => by
          rcases List.mem_cons.1 ht with rfl | ht
          · exact fun h0 => h2 (.inl h0)
          · exact hS t ht) h
        refine ⟨?_, h4⟩
        rw [← h3]
        simp [toldS, tellsL, canon, h1, evOpen]
    · rw [if_neg h1] at h
      by_cases h2 : e.f0 = 2 ∨ e.f0 = 4
      · rw [if_pos h2] at h
        cases S with
        | nil => cases h
        | cons t S' =>
          dsimp only at h
          by_cases h3 : isNote e.f2 = (e.f0 == 4)
          · rw [if_pos h3] at h
            obtain ⟨h5, h4⟩ := ih _ a (fun x hx => by
              rcases List.mem_cons.1 hx with rfl | hx
              · exact hS t List.mem_cons_self
              · exact hS x (List.mem_cons_of_mem _ hx)) h
            refine ⟨?_, h4⟩
            rw [← h5, toldS_add, tells_eq, if_pos rfl]
            have : canon e = evTok e.f2 := by
              unfold canon evTok
              rw [if_pos h2, h3]
              rcases h2 with h2 | h2 <;> rw [h2] <;> rfl
            simp [this]
          · rw [if_neg h3] at h; cases h
      · rw [if_neg h2] at h
        by_cases h3 : e.f0 = 3
        · rw [if_pos h3] at h
          cases S with
          | nil => cases h
          | cons t S' =>
            dsimp only at h
            by_cases h5 : t.f0 = e.f1
            · rw [if_pos h5] at h
              have hc : canon e = evClose t.f0 := by
                unfold canon
                rw [if_neg h2, h3, h5]
                rfl
              have ht : tells t = evOpen t.f0 :: (tellsL t.f2 ++ [evClose t.f0]) := by rw [tells_eq, if_neg (hS t List.mem_cons_self)]
              cases S' with
              | nil =>
                dsimp only at h
                by_cases h6 : l = []
                · rw [if_pos h6] at h
                  cases h
                  subst h6
                  exact ⟨by simp [toldS, hc, ht], hS _ List.mem_cons_self⟩
                · rw [if_neg h6] at h; cases h
              | cons u S'' =>
                dsimp only at h
                obtain ⟨h7, h4⟩ := ih _ a (fun x hx => by
                  rcases List.mem_cons.1 hx with rfl | hx
                  · exact hS u (List.mem_cons_of_mem _ List.mem_cons_self)
                  · exact hS x (List.mem_cons_of_mem _ (List.mem_cons_of_mem _ hx))) h
                refine ⟨?_, h4⟩
                rw [← h7, toldS_add, ht]
                simp [toldS, hc]
            · rw [if_neg h5] at h; cases h
        · rw [if_neg h3] at h; cases h
theorem bld_tells {l : List Ev} {a : Nd} (h : runB l [] = some a) : tells a = l.map canon ∧ a.f0 ≠ 0 := by
  obtain ⟨h1, h2⟩ := run_tells l [] a (by simp) h
  exact ⟨by rw [← h1]; rfl, h2⟩
end Go.Proofs.Ytfefldkljbbbpaa
