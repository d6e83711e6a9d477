/- A ring of numbers: PopFront, PopBack, At, New. -/
import Derived.Test.YtbopnglncjdnmaaTake
set_option linter.unusedSimpArgs false
set_option linter.unusedVariables false
namespace Go.Proofs.Ytbopnglncjdnmaa
open Go.RowKit

/-- A draw ahead of a store turns nothing of a ring. -/
theorem RAt.drewN0 {w : World} {b c room first n o : Nat} {v : Value} {cs : Array Value} {l : List Int} (h : RAt (w.setCell ⟨b, o, none⟩ v) b c room first n cs l) (q : Nat) : RAt ((w.drewN q).setCell ⟨b, o, none⟩ v) b c room first n cs l :=
  ⟨h.own, h.row, h.size, h.room1, h.room2, h.most, h.many, h.fst_, h.ints, h.at_⟩

set_option maxHeartbeats 1000000 in
set_option maxRecDepth 100000 in
theorem pop_front (b c room : Nat) (x : Int) (l : List Int) (w : World) (h0 : RingAt w b c room (x :: l)) :
    Calls Try.prog 13 #[.pointer (some ⟨b, 0, none⟩)] w fun e w' => e = .returned (.tuple #[.int .i64 x, .int .i64 0]) ∧ Side (fun k => k = b ∨ k = c) w w' ∧ RingAt w' b c room l := by
  obtain ⟨first, n, cs, h⟩ := h0
  have hmany := h.many
  rw [List.length_cons] at hmany
  have hmost := h.most
  have hr := h.room2
  have hn : n ≠ 0 := by omega
  have hf := h.fst_ hn
  obtain ⟨m, hm⟩ : ∃ m, l.length = m := ⟨_, rfl⟩
  have c2 := h.cells.c2
  rw [List.length_cons, hm] at c2
  obtain ⟨m1, hm1⟩ : ∃ m1, m + 1 = m1 := ⟨_, rfl⟩
  rw [hm1] at c2
  have g1 : ((m1 : Int) == 0) = false := by rw [beq_eq_false_iff_ne]; omega
  have HT : Hid (∀ q, Calls Try.prog 31 #[.pointer (some ⟨b, 0, none⟩), .int .i64 0] (w.drewN q) fun e w' => e = .returned (.int .i64 x) ∧ Taken (w.drewN q) w' b c room first n (spotOf first n 0) m cs) :=
    Lib.hid fun q => take_run b c room first n cs (x :: l) 0 m x (w.drewN q) ⟨h.own, h.row, h.size, h.room1, h.room2, h.most, h.many, h.fst_, h.ints, h.at_⟩ rfl (by rw [List.length_cons, hm])
  have HT0 : Hid (Calls Try.prog 31 #[.pointer (some ⟨b, 0, none⟩), .int .i64 0] w fun e w' => e = .returned (.int .i64 x) ∧ Taken w w' b c room first n (spotOf first n 0) m cs) :=
    Lib.hid (take_run b c room first n cs (x :: l) 0 m x w h rfl (by rw [List.length_cons, hm]))
  obtain ⟨k, hk⟩ : ∃ k, spotOf first n 1 = k := ⟨_, rfl⟩
  have HC1 : Hid (∀ w', RCells w' b room first m n (.slice (some ⟨c, 0, none⟩) n n) → Calls Try.prog 30 #[.pointer (some ⟨b, 0, none⟩), .int .i64 1] w' fun e w'' => e = .returned (.int .i64 k) ∧ ∃ q, w'' = w'.drewN q) := by
    refine Lib.hid fun w' h' => ?_
    rw [← hk]
    exact cell_run b room first m n 1 _ _ h' (by omega) (by omega) hf (by omega)
  have HH := Lib.hid h
  have HM := Lib.hid hm
  have HK := Lib.hid hk
  clear h hm hk hm1
  go_enter Try.func13, Try.ntmps13
  go_wp2_with (first | (go_at_call 31; (with_reducible refine HT0.out.mono ?_); rintro e w2 ⟨rfl, ht⟩; have HTK := Lib.hid ht; have f1 := ht.rb.cells.f 1; have e1 := ht.rb.cells.c1; clear ht) | (go_at_call 30; (with_reducible refine (HC1.out _ HTK.out.rb.cells).mono ?_); rintro e w3 ⟨rfl, q, rfl⟩))
  go_ret2
  have hfr := HTK.out.front HH.out HM.out
  rw [HK.out] at hfr
  exact ⟨rfl, (HTK.out.side.drewN q).setCell (Or.inl rfl) _, _, _, _, RAt.drewN0 hfr q⟩

set_option maxHeartbeats 1000000 in
set_option maxRecDepth 100000 in
theorem pop_front_none (b c room : Nat) (w : World) (h0 : RingAt w b c room []) :
    Calls Try.prog 13 #[.pointer (some ⟨b, 0, none⟩)] w fun e w' => e = .returned (.tuple #[.int .i64 0, .int .i64 51]) ∧ ∃ q, w' = w.drewN q := by
  obtain ⟨first, n, cs, h⟩ := h0
  have c2 := h.cells.c2
  rw [List.length_nil] at c2
  clear h
  go_enter Try.func13, Try.ntmps13
  go_wp2
  go_ret2
  exact ⟨rfl, 0, rfl⟩

set_option maxHeartbeats 1000000 in
set_option maxRecDepth 100000 in
theorem pop_back (b c room : Nat) (x : Int) (l : List Int) (w : World) (h0 : RingAt w b c room (l ++ [x])) :
    Calls Try.prog 15 #[.pointer (some ⟨b, 0, none⟩)] w fun e w' => e = .returned (.tuple #[.int .i64 x, .int .i64 0]) ∧ Side (fun k => k = b ∨ k = c) w w' ∧ RingAt w' b c room l := by
  obtain ⟨first, n, cs, h⟩ := h0
  have hmany := h.many
  rw [List.length_append, List.length_singleton] at hmany
  have hmost := h.most
  have hr := h.room2
  have hn : n ≠ 0 := by omega
  obtain ⟨m, hm⟩ : ∃ m, l.length = m := ⟨_, rfl⟩
  have c2 := h.cells.c2
  rw [List.length_append, List.length_singleton, hm] at c2
  obtain ⟨m1, hm1⟩ : ∃ m1, m + 1 = m1 := ⟨_, rfl⟩
  rw [hm1] at c2
  have g1 : ((m1 : Int) == 0) = false := by rw [beq_eq_false_iff_ne]; omega
  have wr1 : IntKind.i64.wrap ((m1 : Int) - 1) = m := by rw [IntKind.wrap_i64]; omega
  have wr2 : (m1 : Int) - 1 = m := by omega
  have wr3 : wrap64 (m : Int) = m := by unfold wrap64; omega
  have hxm : (l ++ [x])[m]? = some x := by rw [← hm]; simp
  have HT : Hid (∀ q, Calls Try.prog 31 #[.pointer (some ⟨b, 0, none⟩), .int .i64 m] (w.drewN q) fun e w' => e = .returned (.int .i64 x) ∧ Taken (w.drewN q) w' b c room first n (spotOf first n m) m cs) :=
    Lib.hid fun q => take_run b c room first n cs (l ++ [x]) m m x (w.drewN q) ⟨h.own, h.row, h.size, h.room1, h.room2, h.most, h.many, h.fst_, h.ints, h.at_⟩ hxm (by rw [List.length_append, List.length_singleton, hm])
  have HT0 : Hid (Calls Try.prog 31 #[.pointer (some ⟨b, 0, none⟩), .int .i64 m] w fun e w' => e = .returned (.int .i64 x) ∧ Taken w w' b c room first n (spotOf first n m) m cs) := HT.out 0
  have HH := Lib.hid h
  have HM := Lib.hid hm
  clear h hm hm1 hxm
  go_enter Try.func15, Try.ntmps15
  go_wp2_with (first | (go_at_call 31; (with_reducible refine HT0.out.mono ?_); rintro e w2 ⟨rfl, ht⟩; have HTK := Lib.hid ht; clear ht))
  go_ret2
  exact ⟨rfl, HTK.out.side, _, _, _, HTK.out.back HH.out HM.out⟩

set_option maxHeartbeats 1000000 in
set_option maxRecDepth 100000 in
theorem pop_back_none (b c room : Nat) (w : World) (h0 : RingAt w b c room []) :
    Calls Try.prog 15 #[.pointer (some ⟨b, 0, none⟩)] w fun e w' => e = .returned (.tuple #[.int .i64 0, .int .i64 51]) ∧ ∃ q, w' = w.drewN q := by
  obtain ⟨first, n, cs, h⟩ := h0
  have c2 := h.cells.c2
  rw [List.length_nil] at c2
  clear h
  go_enter Try.func15, Try.ntmps15
  go_wp2
  go_ret2
  exact ⟨rfl, 0, rfl⟩

set_option maxHeartbeats 1000000 in
set_option maxRecDepth 100000 in
theorem at_ok (b c room : Nat) (l : List Int) (i : Nat) (x : Int) (w : World) (h0 : RingAt w b c room l) (hx : l[i]? = some x) :
    Calls Try.prog 14 #[.pointer (some ⟨b, 0, none⟩), .int .i64 i] w fun e w' => e = .returned (.tuple #[.int .i64 x, .int .i64 0]) ∧ ∃ q, w' = w.drewN q := by
  obtain ⟨first, n, cs, h⟩ := h0
  have hil : i < l.length := (List.getElem?_eq_some_iff.1 hx).1
  have hmany := h.many
  have hmost := h.most
  have hr := h.room2
  have hn : n ≠ 0 := by omega
  have hf := h.fst_ hn
  obtain ⟨k, hk⟩ : ∃ k, spotOf first n i = k := ⟨_, rfl⟩
  have hkn : k < n := by rw [← hk]; exact spot_lt (by omega)
  have hki : (k : Int) < n := by omega
  have hcx : cs[k]? = some (.int .i64 x) := by rw [← hk]; exact h.at_ i x hx
  obtain ⟨m, hm⟩ : ∃ m, l.length = m := ⟨_, rfl⟩
  rw [hm] at hil hmany
  have c2 := h.cells.c2
  have c3 := h.cells.c3
  rw [if_neg hn] at c3
  rw [hm] at c2
  obtain ⟨hcb, tc, hcc⟩ := h.row hn
  have dk : w.cell? ⟨c, k, none⟩ = some (.int .i64 x) := by rw [cell_of_heap hcc]; exact hcx
  have HC1 : Hid (∀ q, Calls Try.prog 30 #[.pointer (some ⟨b, 0, none⟩), .int .i64 i] (w.drewN q) fun e w'' => e = .returned (.int .i64 k) ∧ ∃ q', w'' = (w.drewN q).drewN q') := by
    refine Lib.hid fun q => ?_
    have hc := (h.rb.drewN q).cells
    rw [if_neg hn] at hc
    rw [← hk]
    exact cell_run b room first l.length n i _ _ hc (by omega) (by omega) hf (by omega)
  have hi1 : decide ((i : Int) < 0) = false := decide_eq_false (by omega)
  have hi2 : decide ((m : Int) ≤ i) = false := decide_eq_false (by omega)
  have hi3 : decide (m ≤ i) = false := decide_eq_false (by omega)
  clear h hx hm hk hcx hcc hf
  go_enter Try.func14, Try.ntmps14
  go_wp2_with (fail)
  go_quiet ((go_at_call 30; refine Calls.quiet_of (HC1.out _)))
  go_wp2
  go_ret2
  exact ⟨rfl, _, rfl⟩
end Go.Proofs.Ytbopnglncjdnmaa
