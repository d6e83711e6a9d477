/- Boxes of nodes and rows of events: their cells, also later; how many nodes Build makes. -/
import Derived.Test.YtfefldkljbbbpaaEvW
import Derived.Test.YtfefldkljbbbpaaBackS
set_option linter.unusedVariables false
set_option linter.unusedSimpArgs false
namespace Go.Proofs.Ytfefldkljbbbpaa
open Go.RowKit Go.Shelf Go.Proofs.YtfefldkljbbbpaaW.PrintWords Go.Proofs.YtfefldkljbbbpaaW.PrintLast Go.Proofs.YtfefldkljbbbpaaW.PrintMore

theorem nd_box {W : World} {b : Nat} {v0 v1 v2 v3 v4 v5 v6 v7 : Value} (h : W.heap[b]? = some (.cells #[v0, v1, v2, v3, v4, v5, v6, v7] TN (0, 0))) (V : World) (hV : Below W.heap.size W V) :
    V.cell? ⟨b, 0, none⟩ = some v0 ∧ V.cell? ⟨b, 1, none⟩ = some v1 ∧ V.cell? ⟨b, 2, none⟩ = some v2 ∧ V.cell? ⟨b, 3, none⟩ = some v3 ∧ V.cell? ⟨b, 4, none⟩ = some v4 ∧ V.cell? ⟨b, 5, none⟩ = some v5 ∧ V.cell? ⟨b, 6, none⟩ = some v6 ∧ V.cell? ⟨b, 7, none⟩ = some v7 :=
  ⟨pw_cell_below hV (cell_of_row _ _ _ _ _ _ h), pw_cell_below hV (cell_of_row _ _ _ _ _ _ h), pw_cell_below hV (cell_of_row _ _ _ _ _ _ h), pw_cell_below hV (cell_of_row _ _ _ _ _ _ h), pw_cell_below hV (cell_of_row _ _ _ _ _ _ h), pw_cell_below hV (cell_of_row _ _ _ _ _ _ h), pw_cell_below hV (cell_of_row _ _ _ _ _ _ h), pw_cell_below hV (cell_of_row _ _ _ _ _ _ h)⟩
theorem nd_new {W : World} {cs : Array Value} : ∃ V, W.alloc (.cells cs TN) = V ∧ V.heap[W.heap.size]? = some (.cells cs TN (0, 0)) ∧ Below W.heap.size W V ∧ V.heap.size = W.heap.size + 1 :=
  ⟨_, rfl, World.alloc_heap_new _ _, (Below.refl _ W).alloc (Nat.le_refl _) _, World.size_alloc _ _⟩
theorem run_nds : ∀ (l : List Ev) (S : List Nd) (a : Nd), runB l S = some a → nds a ≤ l.length + ndsL S
  | [], S, a, h => by simp [runB] at h
  | e :: l, S, a, h => by
    unfold runB at h
    rw [List.length_cons]
    split at h
    · split at h
      · cases h
      · have := run_nds l _ a h
        simp only [ndsL, nds] at this
        omega
    · split at h
      · split at h
        · cases h
        · rename_i t S' 
          split at h
          · have := run_nds l _ a h
            simp only [addKid, ndsL, nds, ndsL_append] at this
            rw [ndsL, nds_eq t]
            omega
          · cases h
      · split at h
        · split at h
          · cases h
          · rename_i t S'
            split at h
            · split at h
              · split at h
                · injection h with h
                  subst h
                  rw [ndsL]; omega
                · cases h
              · rename_i u S''
                have := run_nds l _ a h
                simp only [addKid, ndsL, nds, ndsL_append] at this
                rw [ndsL, ndsL, nds_eq u]
                omega
            · cases h
        · cases h
end Go.Proofs.Ytfefldkljbbbpaa
