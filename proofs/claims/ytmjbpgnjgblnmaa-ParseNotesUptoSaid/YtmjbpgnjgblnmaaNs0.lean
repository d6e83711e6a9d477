/- ParseNests: what holds from event to event. -/
import Derived.Test.YtmjbpgnjgblnmaaAwk
set_option linter.unusedVariables false
set_option linter.unusedSimpArgs false
namespace Go.Proofs.Ytmjbpgnjgblnmaa
open Go.RowKit Go.Proofs.YtmjbpgnjgblnmaaW.PrintWords Go.Proofs.YtmjbpgnjgblnmaaW.PrintLast Go.Proofs.YtmjbpgnjgblnmaaW.PrintMore

theorem infoNk : (Try.prog.info? 44).map (fun i => (i.zero, i.size, i.bytes)) = some (some (.int .u8 0), 1, 1) := by kernel_rfl
def nkCells (o : List Int) : List Value := o.reverse.map (Value.int .u8)
theorem nk_cons (k : Int) (o : List Int) : nkCells (k :: o) = nkCells o ++ [.int .u8 k] := by simp [nkCells]
theorem nk_len (o : List Int) : (nkCells o).length = o.length := by simp [nkCells]
structure NestI (W1 : World) (l : List Tk) (E : List Ev) (fin : List Int × List Tk) (i : Nat) (wr : World) (o : List Int) (k : Nat) (vo : Value) : Prop where
  run : nest (decide (i = 0)) o (l.drop k) (E.drop i) = some fin
  below : Below W1.heap.size W1 wr
  open_ : wr.ownsRow W1.heap.size 44 1 vo o.length (nkCells o)
  most : o.length ≤ 1000
  kle : k ≤ l.length
theorem row_top1 {w : World} {base : Nat} {T : TypeId} {v : Value} {n : Nat} {xs : List Value} {y : Value} (h : w.ownsRow base T 1 v (n + 1) (xs ++ [y])) (hx : xs.length = n) :
    ∃ g cap, v = .slice (some ⟨g, 0, none⟩) (n + 1) cap ∧ n + 1 ≤ cap ∧ w.cell? ⟨g, n, none⟩ = some y ∧ g < w.heap.size ∧ w.ownsRow base T 1 (.slice (some ⟨g, 0, none⟩) n cap) n xs := by
  rcases h.2 with ⟨_, hn⟩ | ⟨g, cap, cur, rfl, hb, hh, hl, hm, hs, ht⟩
  · omega
  · have hlt := blk_lt hh
    have hxs : xs.length = n * 1 := by omega
    refine ⟨g, cap, rfl, hl, ?_, hlt, hxs, .inr ⟨g, cap, cur, rfl, hb, hh, by omega, hm, hs, ?_⟩⟩
    · have hj : (xs ++ [y])[n]? = some y := by rw [List.getElem?_append_right (by omega), hx, Nat.sub_self]; rfl
      rw [← ht, List.getElem?_take_of_lt (by omega), Array.getElem?_toList] at hj
      rw [cell_of_row _ _ _ _ _ _ hh]
      exact hj
    · have hz := congrArg (List.take (n * 1)) ht
      rw [List.take_take, Nat.min_eq_left (by omega), List.take_left' hxs] at hz
      exact hz
/-- An event's cells in a row. -/
theorem ev_at {w : World} {base : Nat} {E : List Ev} {v : Value} (h : w.ownsRow base 46 8 v E.length (E.flatMap evCells)) {i : Nat} {e : Ev} (he : E[i]? = some e) :
    ∃ g cap, v = .slice (some ⟨g, 0, none⟩) E.length cap ∧ ∀ V, Below w.heap.size w V → ∀ j u, (evCells e)[j]? = some u → V.cell? ⟨g, i * 8 + j, none⟩ = some u := by
  have hi := (List.getElem?_eq_some_iff.1 he).1
  obtain ⟨g, cap, rfl, hg, hlt⟩ := h.form (by omega)
  refine ⟨g, cap, rfl, fun V hV j u hj => ?_⟩
  have hj8 : j < 8 := by have := (List.getElem?_eq_some_iff.1 hj).1; rwa [evCells_len] at this
  have key : ∀ (L : List Ev) (n : Nat), L[n]? = some e → (L.flatMap evCells)[n * 8 + j]? = some u := by
    intro L
    induction L with
    | nil => intro n hn; cases hn
    | cons a L ih =>
      intro n hn
      cases n with
      | zero =>
        simp only [List.getElem?_cons_zero, Option.some.injEq] at hn
        subst hn
        rw [List.flatMap_cons, Nat.zero_mul, Nat.zero_add, List.getElem?_append_left (by rw [evCells_len]; omega)]
        exact hj
      | succ n =>
        rw [List.flatMap_cons, List.getElem?_append_right (by rw [evCells_len]; omega), evCells_len, show (n + 1) * 8 + j - 8 = n * 8 + j by omega]
        exact ih n (by simpa using hn)
  have h1 := row_news h (i * 8 + j) u (key E i he)
  have hadd : (⟨g, 0, none⟩ : Addr).add (i * 8 + j) = ⟨g, i * 8 + j, none⟩ := by unfold Addr.add; split <;> simp_all
  rw [hadd] at h1
  exact pw_cell_below hV h1
theorem eight {f : Nat → Value → Prop} {a b c d e g h i : Value} (H : ∀ j u, [a, b, c, d, e, g, h, i][j]? = some u → f j u) : f 0 a ∧ f 1 b ∧ f 2 c ∧ f 3 d ∧ f 4 e ∧ f 5 g ∧ f 6 h ∧ f 7 i :=
  ⟨H 0 _ rfl, H 1 _ rfl, H 2 _ rfl, H 3 _ rfl, H 4 _ rfl, H 5 _ rfl, H 6 _ rfl, H 7 _ rfl⟩
/-- The three kinds of event. -/
theorem nest_kinds {b : Bool} {o : List Int} {l : List Tk} {e : Ev} {r : List Ev} {fin : List Int × List Tk} (h : nest b o l (e :: r) = some fin) :
    (∃ k, e = ⟨1, k, noTk⟩ ∧ (b = true ↔ k = 1) ∧ o.length + 1 ≤ 1000 ∧ nest false (k :: o) l r = some fin) ∨
    (∃ k o', e = ⟨3, k, noTk⟩ ∧ o = k :: o' ∧ nest false o' l r = some fin) ∨
    (∃ t l' kd nt, e = ⟨kd, 0, t⟩ ∧ (kd = 2 ∧ nt = false ∨ kd = 4 ∧ nt = true) ∧ l = t :: l' ∧ isNote t = nt ∧ o ≠ [] ∧ nest false o l' r = some fin) := by
  rw [nest_cons] at h
  obtain ⟨e0, e1, e2⟩ := e
  dsimp only at h
  by_cases h1 : e0 = 1
  · rw [if_pos h1] at h
    split at h
    · rename_i hc
      obtain ⟨c1, c2, c3⟩ := hc
      subst h1; subst c1
      exact .inl ⟨e1, rfl, c2, c3, h⟩
    · cases h
  · rw [if_neg h1] at h
    by_cases h3 : e0 = 3
    · rw [if_pos h3] at h
      split at h
      · cases h
      · rename_i k o'
        split at h
        · rename_i hc
          obtain ⟨c1, c2⟩ := hc
          subst h3; subst c2; subst c1
          exact .inr (.inl ⟨_, o', rfl, rfl, h⟩)
        · cases h
    · rw [if_neg h3] at h
      split at h
      · rename_i h24
        split at h
        · cases h
        · rename_i t l'
          split at h
          · rename_i hc
            obtain ⟨c1, c2, c3, c4⟩ := hc
            subst c1; subst c2
            refine .inr (.inr ⟨e2, l', e0, isNote e2, rfl, ?_, rfl, rfl, c4, h⟩)
            rcases h24 with h2 | h4
            · left
              refine ⟨h2, ?_⟩
              cases hn : isNote e2
              · rfl
              · have := c3.2 hn
                omega
            · exact .inr ⟨h4, c3.1 h4⟩
          · cases h
      · cases h
theorem drop_get {α : Type} {L : List α} {i : Nat} {x : α} (h : L[i]? = some x) : L.drop i = x :: L.drop (i + 1) := by
  have hi := (List.getElem?_eq_some_iff.1 h).1
  rw [List.drop_eq_getElem_cons hi]
  have := (List.getElem?_eq_some_iff.1 h).2
  rw [this]
theorem drop_eq {l : List Tk} {k n : Nat} (hk : k ≤ l.length) (hn : n ≤ l.length) (h : l.drop k = l.drop n) : k = n := by
  have := congrArg List.length h
  rw [List.length_drop, List.length_drop] at this
  omega
theorem box_cells {w : World} {g : Nat} {e : Ev} {T : TypeId} (h : w.heap[g]? = some (.cells (evCells e).toArray T (0, 0))) : w.cell? ⟨g, 0, none⟩ = some (.int .u8 e.f0) ∧ w.cell? ⟨g, 1, none⟩ = some (.int .u8 e.f1) ∧ w.cell? ⟨g, 2, none⟩ = some (.int .u8 e.f2.f0) ∧ w.cell? ⟨g, 3, none⟩ = some (.string e.f2.f1) ∧ w.cell? ⟨g, 4, none⟩ = some (.int .i64 e.f2.f2.f0) ∧ w.cell? ⟨g, 5, none⟩ = some (.int .i64 e.f2.f2.f1) ∧ w.cell? ⟨g, 6, none⟩ = some (.int .i64 e.f2.f2.f2) ∧ w.cell? ⟨g, 7, none⟩ = some (.int .i64 e.f2.f3) :=
  ⟨cell_of_row _ _ _ _ _ _ h, cell_of_row _ _ _ _ _ _ h, cell_of_row _ _ _ _ _ _ h, cell_of_row _ _ _ _ _ _ h, cell_of_row _ _ _ _ _ _ h, cell_of_row _ _ _ _ _ _ h, cell_of_row _ _ _ _ _ _ h, cell_of_row _ _ _ _ _ _ h⟩
end Go.Proofs.Ytmjbpgnjgblnmaa
