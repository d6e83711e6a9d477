/- There and back: the tree that comes back is the same, and as deep. -/
import Derived.Test.YtfefldkljbbbpaaBackQ
import Derived.Test.YtfefldkljbbbpaaColl
set_option linter.unusedVariables false
set_option linter.unusedSimpArgs false
namespace Go.Proofs.Ytfefldkljbbbpaa
open Go.RowKit Go.Proofs.YtfefldkljbbbpaaW.PrintWords Go.Proofs.YtfefldkljbbbpaaW.PrintLast Go.Proofs.YtfefldkljbbbpaaW.PrintMore

theorem canon_f0 (x : Nd) : (canonN x).f0 = x.f0 := by
  obtain ⟨k, t, kids⟩ := x
  rw [canonN]
  by_cases h : k = 0
  · rw [if_pos h, h]
  · rw [if_neg h]
theorem canon_leaf (x : Nd) (h : x.f0 = 0) : canonN x = ⟨0, x.f1, []⟩ := by obtain ⟨k, t, kids⟩ := x; rw [canonN, if_pos h]
theorem canon_inner (x : Nd) (h : x.f0 ≠ 0) : canonN x = ⟨x.f0, noTk, canonL x.f2⟩ := by obtain ⟨k, t, kids⟩ := x; rw [canonN, if_neg h]
theorem canon_kid (x : Nd) : isKid (canonN x) = isKid x := by
  by_cases h : x.f0 = 0
  · rw [canon_leaf x h]
    simp [isKid, h]
  · unfold isKid
    have hb : (x.f0 != 0) = true := bne_iff_ne.2 h
    rw [canon_f0, hb, Bool.true_or, Bool.true_or]
theorem canonL_map : ∀ l : List Nd, canonL l = l.map canonN
  | [] => by rw [canonL]; rfl
  | x :: xs => by rw [canonL, canonL_map xs]; rfl
theorem plain_canon : ∀ l : List Nd, plainL (canonL l) = (plainL l).map canonN
  | [] => by rw [canonL]; rfl
  | x :: xs => by
    rw [canonL]
    unfold plainL
    have := plain_canon xs
    unfold plainL at this
    by_cases h : isKid x = true
    · rw [List.filter_cons_of_pos (by rw [canon_kid]; exact h), List.filter_cons_of_pos h, this, List.map_cons]
    · rw [List.filter_cons_of_neg (by rw [canon_kid]; exact h), List.filter_cons_of_neg h, this]
theorem same_canon : ∀ (k : Nat) (x : Nd), sameN k (canonN x) x = true
  | 0, x => by rw [sameN]
  | k + 1, x => by
    rw [sameN, if_pos (canon_f0 x), canon_f0]
    by_cases h : x.f0 = 0
    · rw [if_pos h, canon_leaf x h]
      simp
    · rw [if_neg h, canon_inner x h]
      dsimp only
      rw [plain_canon, List.length_map, beq_self_eq_true, Bool.true_and, List.all_eq_true]
      intro q hq
      obtain ⟨i, hi⟩ := List.mem_iff_getElem?.1 hq
      rw [List.getElem?_zip_eq_some] at hi
      obtain ⟨h1, h2⟩ := hi
      rw [List.getElem?_map, h2] at h1
      have : q.1 = canonN q.2 := by simpa using h1.symm
      rw [this]
      exact same_canon k q.2
mutual
theorem dep_canon : ∀ x : Nd, dep (canonN x) = dep x
  | ⟨k, t, kids⟩ => by
    rw [canonN]
    by_cases h : k = 0
    · rw [if_pos h, dep, dep, if_pos rfl, if_pos h]
    · rw [if_neg h, dep, dep, if_neg h, if_neg h, depL_canon kids]
theorem depL_canon : ∀ l : List Nd, depL (canonL l) = depL l
  | [] => by rw [canonL]
  | x :: xs => by rw [canonL, depL, depL, dep_canon x, depL_canon xs]
end
mutual
theorem nds_canon : ∀ x : Nd, nds (canonN x) ≤ nds x
  | ⟨k, t, kids⟩ => by
    rw [canonN]
    by_cases h : k = 0
    · rw [if_pos h, nds, nds, ndsL]; omega
    · rw [if_neg h, nds, nds]
      have := ndsL_canon kids
      omega
theorem ndsL_canon : ∀ l : List Nd, ndsL (canonL l) ≤ ndsL l
  | [] => by rw [canonL]; omega
  | x :: xs => by
    rw [canonL, ndsL, ndsL]
    have := nds_canon x
    have := ndsL_canon xs
    omega
end
end Go.Proofs.Ytfefldkljbbbpaa
