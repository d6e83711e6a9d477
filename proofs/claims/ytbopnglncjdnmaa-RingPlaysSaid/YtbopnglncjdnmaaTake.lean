/- A ring of numbers: what is taken out. -/
import Derived.Test.YtbopnglncjdnmaaPush
set_option linter.unusedSimpArgs false
set_option linter.unusedVariables false
namespace Go.Proofs.Ytbopnglncjdnmaa
open Go.RowKit

/-- Behind 'take': the count is one less, the cell is empty. -/
structure Taken (w w' : World) (b c room first n k m : Nat) (cs : Array Value) : Prop where
  rb : RB w' b room first m n (.slice (some ⟨c, 0, none⟩) n n)
  row : ∃ t, w'.heap[c]? = some (.cells (cs.setIfInBounds k (.int .i64 0)) t (0, 0))
  side : Side (fun k => k = b ∨ k = c) w w'

set_option maxHeartbeats 1000000 in
set_option maxRecDepth 100000 in
theorem take_run (b c room first n : Nat) (cs : Array Value) (l : List Int) (i m : Nat) (x : Int) (w : World) (h : RAt w b c room first n cs l) (hx : l[i]? = some x) (hm : l.length = m + 1) :
    Calls Try.prog 31 #[.pointer (some ⟨b, 0, none⟩), .int .i64 i] w fun e w' => e = .returned (.int .i64 x) ∧ Taken w w' b c room first n (spotOf first n i) m cs := by
  have hil : i < l.length := (List.getElem?_eq_some_iff.1 hx).1
  have hmany := h.many
  have hmost := h.most
  have hr := h.room2
  have hn : n ≠ 0 := by omega
  have hf := h.fst_ hn
  obtain ⟨k, hk⟩ : ∃ k, spotOf first n i = k := ⟨_, rfl⟩
  have hkn : k < n := by rw [← hk]; exact spot_lt (by omega)
  have hki : (k : Int) < n := by omega
  have hcx : cs[k]? = some (.int .i64 x) := by rw [← hk]; exact h.at_ i x hx
  rw [hk]
  have c2 := h.cells.c2
  have c3 := h.cells.c3
  rw [if_neg hn] at c3
  rw [hm] at c2
  have f2 := h.cells.f 2
  obtain ⟨hcb, tc, hcc⟩ := h.row hn
  have dk : w.cell? ⟨c, k, none⟩ = some (.int .i64 x) := by rw [cell_of_heap hcc]; exact hcx
  have fk : w.frozen? ⟨c, k, none⟩ = false := frozen_of_heap hcc
  have HRB0 := h.rb
  rw [if_neg hn, hm] at HRB0
  have HRB := Lib.hid HRB0
  have HCC := Lib.hid hcc
  have HC1 : Hid (∀ w', RCells w' b room first (m + 1) n (.slice (some ⟨c, 0, none⟩) n n) → Calls Try.prog 30 #[.pointer (some ⟨b, 0, none⟩), .int .i64 i] w' fun e w'' => e = .returned (.int .i64 k) ∧ ∃ q, w'' = w'.drewN q) := by
    refine Lib.hid fun w' h' => ?_
    rw [← hk]
    exact cell_run b room first (m + 1) n i _ _ h' (by omega) (by omega) hf (by omega)
  have hmb : m + 1 ≤ 2097152 := by omega
  clear h hx hm hk hcx hcc HRB0 hf
  obtain ⟨m1, hm1⟩ : ∃ m1, m + 1 = m1 := ⟨_, rfl⟩
  have wr1 : IntKind.i64.wrap ((m1 : Int) - 1) = m := by rw [IntKind.wrap_i64]; omega
  have wr2 : (m1 : Int) - 1 = m := by omega
  have wr3 : wrap64 (m : Int) = m := by unfold wrap64; omega
  rw [hm1] at c2 HC1 HRB
  clear hm1
  go_enter Try.func31, Try.ntmps31
  go_wp2_with (go_at_call 30; (with_reducible refine (HC1.out _ HRB.out.cells).mono ?_); rintro e w2 ⟨rfl, q, rfl⟩)
  go_ret
  refine ⟨rfl, ((HRB.out.drewN q).side hcb.symm).set2 m, ⟨tc, ?_⟩, (((Side.refl _ w).drewN q).setCell (Or.inr rfl) _).setCell (Or.inl rfl) _⟩
  rw [heap_set_other _ _ _ _ _ hcb]
  exact heap_set_self _ c k _ HCC.out

/-- A ring of numbers, whatever its row. -/
def RingAt (w : World) (b c room : Nat) (l : List Int) : Prop := ∃ first n cs, RAt w b c room first n cs l
theorem RingAt.drewN {w : World} {b c room : Nat} {l : List Int} (h : RingAt w b c room l) (q : Nat) : RingAt (w.drewN q) b c room l := by
  obtain ⟨f, n, cs, h⟩ := h
  exact ⟨f, n, cs, h.own, h.row, h.size, h.room1, h.room2, h.most, h.many, h.fst_, h.ints, h.at_⟩
/-- Another's side leaves a ring alone. -/
theorem RingAt.keep {w w' : World} {b c room : Nat} {l : List Int} (h : RingAt w b c room l) (hb : w'.heap[b]? = w.heap[b]?) (hc : w'.heap[c]? = w.heap[c]?) : RingAt w' b c room l := by
  obtain ⟨f, n, cs, h⟩ := h
  exact ⟨f, n, cs, by rw [hb]; exact h.own, fun hn => by rw [hc]; exact h.row hn, h.size, h.room1, h.room2, h.most, h.many, h.fst_, h.ints, h.at_⟩

theorem push_ok (b c room : Nat) (l : List Int) (x : Int) (w : World) (h : RingAt w b c room l) (hl : l.length < room) :
    Calls Try.prog 11 #[.pointer (some ⟨b, 0, none⟩), .int .i64 x] w fun e w' => e = .returned (.int .i64 0) ∧ Side (fun k => k = b ∨ k = c) w w' ∧ ∃ c', (c' = c ∨ w.heap.size ≤ c') ∧ RingAt w' b c' room (l ++ [x]) := by
  obtain ⟨f, n, cs, h⟩ := h
  have hm := h.many
  rcases Nat.lt_or_ge l.length n with hn | hn
  · exact (push_room b c room f n cs l x w h hn).mono fun e w' ⟨h1, h2, cs', h3⟩ => ⟨h1, h2, c, Or.inl rfl, f, n, cs', h3⟩
  · exact (push_grow b c room f n cs l x w h (by omega) (by omega)).mono fun e w' ⟨h1, h2, f', c', n', cs', h3, h4⟩ => ⟨h1, h2.mono (fun k _ hk => Or.inl hk), c', Or.inr h3, f', n', cs', h4⟩
theorem push_no (b c room : Nat) (l : List Int) (x : Int) (w : World) (h : RingAt w b c room l) (hl : l.length = room) :
    Calls Try.prog 11 #[.pointer (some ⟨b, 0, none⟩), .int .i64 x] w fun e w' => e = .returned (.int .i64 50) ∧ ∃ m, w' = w.drewN m := by
  obtain ⟨f, n, cs, h⟩ := h
  exact push_full b c room f n cs l x w h hl

theorem Taken.front {w w' : World} {b c room first n m : Nat} {cs : Array Value} {x : Int} {l : List Int} (h : RAt w b c room first n cs (x :: l)) (hm : l.length = m) (ht : Taken w w' b c room first n (spotOf first n 0) m cs) :
    RAt (w'.setCell ⟨b, 1, none⟩ (.int .i64 (spotOf first n 1 : Nat))) b c room (spotOf first n 1) n (cs.setIfInBounds (spotOf first n 0) (.int .i64 0)) l := by
  have hmany := h.many
  rw [List.length_cons] at hmany
  have hn : n ≠ 0 := by omega
  have hf := h.fst_ hn
  obtain ⟨hcb, _, _⟩ := h.row hn
  obtain ⟨t, ht2⟩ := ht.row
  refine ⟨by rw [if_neg hn, hm]; exact ht.rb.set1 _, fun _ => ⟨hcb, t, by rw [heap_set_other _ _ _ _ _ hcb]; exact ht2⟩, by rw [Array.size_setIfInBounds]; exact h.size, h.room1, h.room2, h.most, by omega, fun _ => spot_lt (by omega), fun j hj => ?_, fun i y hy => ?_⟩
  · rw [Array.getElem?_setIfInBounds]
    split
    · rw [h.size, if_pos (by omega)]; exact ⟨0, rfl⟩
    · exact h.ints j hj
  · have hil : i < l.length := (List.getElem?_eq_some_iff.1 hy).1
    have e : spotOf (spotOf first n 1) n i = spotOf first n (i + 1) := by
      unfold spotOf
      rw [Nat.mod_add_mod]
      congr 1
      omega
    have hne : spotOf first n 0 ≠ spotOf first n (i + 1) := by
      rw [spot_eq hf (by omega), spot_eq hf (by omega)]
      split <;> split <;> omega
    rw [e, Array.getElem?_setIfInBounds_ne hne]
    exact h.at_ (i + 1) y (by rw [List.getElem?_cons_succ]; exact hy)
theorem Taken.back {w w' : World} {b c room first n m : Nat} {cs : Array Value} {x : Int} {l : List Int} (h : RAt w b c room first n cs (l ++ [x])) (hm : l.length = m) (ht : Taken w w' b c room first n (spotOf first n m) m cs) :
    RAt w' b c room first n (cs.setIfInBounds (spotOf first n m) (.int .i64 0)) l := by
  have hmany := h.many
  rw [List.length_append, List.length_singleton] at hmany
  have hn : n ≠ 0 := by omega
  have hf := h.fst_ hn
  obtain ⟨hcb, _, _⟩ := h.row hn
  obtain ⟨t, ht2⟩ := ht.row
  refine ⟨by rw [if_neg hn, hm]; exact ht.rb, fun _ => ⟨hcb, t, ht2⟩, by rw [Array.size_setIfInBounds]; exact h.size, h.room1, h.room2, h.most, by omega, fun _ => hf, fun j hj => ?_, fun i y hy => ?_⟩
  · rw [Array.getElem?_setIfInBounds]
    split
    · rw [h.size, if_pos (by omega)]; exact ⟨0, rfl⟩
    · exact h.ints j hj
  · have hil : i < l.length := (List.getElem?_eq_some_iff.1 hy).1
    have hne : spotOf first n m ≠ spotOf first n i := by
      rw [spot_eq hf (by omega), spot_eq hf (by omega)]
      split <;> split <;> omega
    rw [Array.getElem?_setIfInBounds_ne hne]
    exact h.at_ i y (by rw [List.getElem?_append_left hil]; exact hy)
end Go.Proofs.Ytbopnglncjdnmaa
