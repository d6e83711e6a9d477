/- Rings: At and Set out of bounds and within, Len, Room, New; nil rings. -/
import Derived.Test.YtbopnglncjdnmaaTPops
set_option linter.unusedSimpArgs false
set_option linter.unusedVariables false
namespace Go.Proofs.Ytbopnglncjdnmaa
open Go.RowKit

set_option maxHeartbeats 1000000 in
set_option maxRecDepth 100000 in
theorem at_bad (b c room : Nat) (l : List Int) (i : Int) (w : World) (h0 : RingAt w b c room l) (hi : i < 0 ∨ (l.length : Int) ≤ i) :
    Calls Try.prog 14 #[.pointer (some ⟨b, 0, none⟩), .int .i64 i] w fun e w' => e = .returned (.tuple #[.int .i64 0, .int .i64 1]) ∧ Side (fun _ => False) w w' := by
  obtain ⟨first, n, cs, h⟩ := h0
  have c2 := h.cells.c2
  have hbl := (heap_lt h.own.choose_spec)
  have hm := h.many
  have hmm := h.most
  have hr := h.room2
  obtain ⟨m, hlm⟩ : ∃ m, l.length = m := ⟨_, rfl⟩
  rw [hlm] at c2 hi hm
  clear h hlm
  have cs2 : (decide (i < 0) = true) ∨ (decide (i < 0) = false ∧ decide ((m : Int) ≤ i) = true) := by
    by_cases h1 : i < 0
    · exact Or.inl (decide_eq_true h1)
    · exact Or.inr ⟨decide_eq_false h1, decide_eq_true (by omega)⟩
  clear hi
  rcases cs2 with d1 | ⟨d1, d2⟩ <;> (
    go_enter Try.func14, Try.ntmps14
    go_wp2_with (fail)
    repeat (go_quiet (fail); try go_wp2_with (fail))
    go_ret2
    first | exact ⟨rfl, Side.refl _ w⟩ | exact ⟨rfl, (Side.refl _ w).drewN _⟩)

set_option maxHeartbeats 1000000 in
set_option maxRecDepth 100000 in
theorem set_bad (b c room : Nat) (l : List Int) (i : Int) (x : Int) (w : World) (h0 : RingAt w b c room l) (hi : i < 0 ∨ (l.length : Int) ≤ i) :
    Calls Try.prog 40 #[.pointer (some ⟨b, 0, none⟩), .int .i64 i, .int .i64 x] w fun e w' => e = .returned (.int .i64 1) ∧ Side (fun _ => False) w w' := by
  obtain ⟨first, n, cs, h⟩ := h0
  have c2 := h.cells.c2
  have hbl := (heap_lt h.own.choose_spec)
  have hm := h.many
  have hmm := h.most
  have hr := h.room2
  obtain ⟨m, hlm⟩ : ∃ m, l.length = m := ⟨_, rfl⟩
  rw [hlm] at c2 hi hm
  clear h hlm
  have cs2 : (decide (i < 0) = true) ∨ (decide (i < 0) = false ∧ decide ((m : Int) ≤ i) = true) := by
    by_cases h1 : i < 0
    · exact Or.inl (decide_eq_true h1)
    · exact Or.inr ⟨decide_eq_false h1, decide_eq_true (by omega)⟩
  clear hi
  rcases cs2 with d1 | ⟨d1, d2⟩ <;> (
    go_enter Try.func40, Try.ntmps40
    go_wp2_with (fail)
    repeat (go_quiet (fail); try go_wp2_with (fail))
    go_ret
    first | exact ⟨rfl, Side.refl _ w⟩ | exact ⟨rfl, (Side.refl _ w).drewN _⟩ | exact ⟨rfl, (Side.refl _ w).alloc _⟩ | exact ⟨rfl, ((Side.refl _ w).alloc _).drewN _⟩)

set_option maxHeartbeats 1000000 in
set_option maxRecDepth 100000 in
theorem tat_bad (b c room : Nat) (l : List Int) (i : Int) (w : World) (h0 : ThingAt w b c room l) (hi : i < 0 ∨ (l.length : Int) ≤ i) :
    Calls Try.prog 18 #[.pointer (some ⟨b, 0, none⟩), .int .i64 i] w fun e w' => e = .returned (.tuple #[.agg #[.string ⟨#[]⟩, .int .i64 0, .int .i64 0], .int .i64 1]) ∧ Side (fun _ => False) w w' := by
  obtain ⟨first, n, cs, h⟩ := h0
  have c2 := h.cells.c2
  have hbl := h.rb.lt
  have hm := h.many
  have hmm := h.most
  have hr := h.room2
  obtain ⟨m, hlm⟩ : ∃ m, l.length = m := ⟨_, rfl⟩
  rw [hlm] at c2 hi hm
  clear h hlm
  have cs2 : (decide (i < 0) = true) ∨ (decide (i < 0) = false ∧ decide ((m : Int) ≤ i) = true) := by
    by_cases h1 : i < 0
    · exact Or.inl (decide_eq_true h1)
    · exact Or.inr ⟨decide_eq_false h1, decide_eq_true (by omega)⟩
  clear hi
  rcases cs2 with d1 | ⟨d1, d2⟩ <;> (
    go_enter Try.func18, Try.ntmps18
    go_wp2_with (fail)
    repeat (go_quiet (fail); try go_wp2_with (fail))
    refine ⟨rfl, .tuple #[.agg #[.string ⟨#[]⟩, .int .i64 0, .int .i64 0], .int .i64 1], ?_, rfl, ?_⟩
    · rw [results_cell_tmp rfl]
      go_simp
      try rfl
    · first | exact ((Side.refl _ w).alloc _).alloc _ | exact (((Side.refl _ w).alloc _).alloc _).drewN _)

set_option maxHeartbeats 1000000 in
set_option maxRecDepth 100000 in
theorem tset_bad (b c room : Nat) (l : List Int) (i : Int) (x : Int) (w : World) (h0 : ThingAt w b c room l) (hi : i < 0 ∨ (l.length : Int) ≤ i) :
    Calls Try.prog 21 #[.pointer (some ⟨b, 0, none⟩), .int .i64 i, .agg (thCells x)] w fun e w' => e = .returned (.int .i64 1) ∧ Side (fun _ => False) w w' := by
  obtain ⟨first, n, cs, h⟩ := h0
  have c2 := h.cells.c2
  have hbl := h.rb.lt
  have hm := h.many
  have hmm := h.most
  have hr := h.room2
  obtain ⟨m, hlm⟩ : ∃ m, l.length = m := ⟨_, rfl⟩
  rw [hlm] at c2 hi hm
  clear h hlm
  have cs2 : (decide (i < 0) = true) ∨ (decide (i < 0) = false ∧ decide ((m : Int) ≤ i) = true) := by
    by_cases h1 : i < 0
    · exact Or.inl (decide_eq_true h1)
    · exact Or.inr ⟨decide_eq_false h1, decide_eq_true (by omega)⟩
  clear hi
  rcases cs2 with d1 | ⟨d1, d2⟩ <;> (
    go_enter Try.func21, Try.ntmps21
    go_wp2_with (fail)
    repeat (go_quiet (fail); try go_wp2_with (fail))
    go_ret
    first | exact ⟨rfl, Side.refl _ w⟩ | exact ⟨rfl, (Side.refl _ w).drewN _⟩ | exact ⟨rfl, (Side.refl _ w).alloc _⟩ | exact ⟨rfl, ((Side.refl _ w).alloc _).drewN _⟩)

set_option maxHeartbeats 1000000 in
set_option maxRecDepth 100000 in
theorem tlen_run (b c room : Nat) (l : List Int) (w : World) (h0 : ThingAt w b c room l) :
    Calls Try.prog 22 #[.pointer (some ⟨b, 0, none⟩)] w fun e w' => e = .returned (.int .i64 l.length) ∧ w' = w := by
  obtain ⟨first, n, cs, h⟩ := h0
  have c2 := h.cells.c2
  go_enter Try.func22, Try.ntmps22
  go_wp2
  go_ret
  exact ⟨rfl, rfl⟩

set_option maxHeartbeats 1000000 in
set_option maxRecDepth 100000 in
theorem troom_run (b c room : Nat) (l : List Int) (w : World) (h0 : ThingAt w b c room l) :
    Calls Try.prog 23 #[.pointer (some ⟨b, 0, none⟩)] w fun e w' => e = .returned (.int .i64 room) ∧ w' = w := by
  obtain ⟨first, n, cs, h⟩ := h0
  have c0 := h.cells.c0
  go_enter Try.func23, Try.ntmps23
  go_wp2
  go_ret
  exact ⟨rfl, rfl⟩

set_option maxHeartbeats 1000000 in
set_option maxRecDepth 100000 in
theorem tnew_run (room : Nat) (w : World) (h1 : 1 ≤ room) (h2 : room ≤ 2097152) :
    Calls Try.prog 25 #[.int .i64 room] w fun e w' => e = .returned (.tuple #[.pointer (some ⟨w.heap.size, 0, none⟩), .int .i64 0]) ∧ Side (fun _ => False) w w' ∧ ThingAt w' w.heap.size w.heap.size room [] := by
  have d1 : decide ((room : Int) < 1) = false := decide_eq_false (by omega)
  have d2 : decide ((2097152 : Int) < room) = false := decide_eq_false (by omega)
  go_enter Try.func25, Try.ntmps25
  go_wp2
  go_ret2
  refine ⟨rfl, (Side.refl _ w).alloc _, 0, 0, #[], ⟨59, ?_⟩, fun h => absurd rfl h, rfl, h1, h2, Nat.zero_le _, Nat.le_refl _, fun h => absurd rfl h, fun i x hx => by cases hx⟩
  exact heap_new w _

set_option maxHeartbeats 1000000 in
set_option maxRecDepth 100000 in
theorem new_bad (room : Int) (w : World) (h1 : room < 1 ∨ 2097152 < room) :
    Calls Try.prog 10 #[.int .i64 room] w fun e w' => e = .returned (.tuple #[.pointer none, .int .i64 1]) ∧ w' = w := by
  have cs2 : (decide (room < 1) = true) ∨ (decide (room < 1) = false ∧ decide ((2097152 : Int) < room) = true) := by
    by_cases h : room < 1
    · exact Or.inl (decide_eq_true h)
    · exact Or.inr ⟨decide_eq_false h, decide_eq_true (by omega)⟩
  clear h1
  rcases cs2 with d1 | ⟨d1, d2⟩ <;> (
    go_enter Try.func10, Try.ntmps10
    go_wp2
    go_ret2
    exact ⟨rfl, rfl⟩)

set_option maxHeartbeats 1000000 in
set_option maxRecDepth 100000 in
theorem tnew_bad (room : Int) (w : World) (h1 : room < 1 ∨ 2097152 < room) :
    Calls Try.prog 25 #[.int .i64 room] w fun e w' => e = .returned (.tuple #[.pointer none, .int .i64 1]) ∧ w' = w := by
  have cs2 : (decide (room < 1) = true) ∨ (decide (room < 1) = false ∧ decide ((2097152 : Int) < room) = true) := by
    by_cases h : room < 1
    · exact Or.inl (decide_eq_true h)
    · exact Or.inr ⟨decide_eq_false h, decide_eq_true (by omega)⟩
  clear h1
  rcases cs2 with d1 | ⟨d1, d2⟩ <;> (
    go_enter Try.func25, Try.ntmps25
    go_wp2
    go_ret2
    exact ⟨rfl, rfl⟩)

end Go.Proofs.Ytbopnglncjdnmaa
