/- A new ring; a ring of the call's own; layer 5's examples. -/
import Derived.Test.YtbopnglncjdnmaaPops
set_option linter.unusedSimpArgs false
set_option linter.unusedVariables false
namespace Go.Proofs.Ytbopnglncjdnmaa
open Go.RowKit

set_option maxHeartbeats 1000000 in
set_option maxRecDepth 100000 in
theorem new_run (room : Nat) (w : World) (h1 : 1 ≤ room) (h2 : room ≤ 2097152) :
    Calls Try.prog 10 #[.int .i64 room] w fun e w' => e = .returned (.tuple #[.pointer (some ⟨w.heap.size, 0, none⟩), .int .i64 0]) ∧ Side (fun _ => False) w w' ∧ RingAt w' w.heap.size w.heap.size room [] := by
  have d1 : decide ((room : Int) < 1) = false := decide_eq_false (by omega)
  have d2 : decide ((2097152 : Int) < room) = false := decide_eq_false (by omega)
  go_enter Try.func10, Try.ntmps10
  go_wp2
  go_ret2
  refine ⟨rfl, (Side.refl _ w).alloc _, 0, 0, #[], ⟨55, ?_⟩, fun h => absurd rfl h, rfl, h1, h2, Nat.zero_le _, Nat.le_refl _, fun h => absurd rfl h, fun k hk => by omega, fun i x hx => by cases hx⟩
  · show (w.heap.push _)[w.heap.size]? = _
    rw [Array.getElem?_push, if_pos rfl]; rfl
theorem room_run (b c room : Nat) (l : List Int) (w : World) (h : RingAt w b c room l) :
    Calls Try.prog 28 #[.pointer (some ⟨b, 0, none⟩)] w fun e w' => e = .returned (.int .i64 room) ∧ w' = w := by
  obtain ⟨f, n, cs, h⟩ := h
  have c0 := h.cells.c0
  go_enter Try.func28, Try.ntmps28
  go_wp2
  go_ret
  exact ⟨rfl, rfl⟩

/-- A ring that the call has made for itself. -/
def Mine (w0 w : World) (b room : Nat) (l : List Int) : Prop := ∃ c, w0.heap.size ≤ b ∧ w0.heap.size ≤ c ∧ RingAt w b c room l ∧ Below w0.heap.size w0 w
theorem Mine.drewN {w0 w : World} {b room : Nat} {l : List Int} (h : Mine w0 w b room l) (q : Nat) : Mine w0 (w.drewN q) b room l := by
  obtain ⟨c, h1, h2, h3, h4⟩ := h
  exact ⟨c, h1, h2, h3.drewN q, ⟨h4.os, h4.tape, h4.output, h4.size, h4.block⟩⟩
theorem Mine.below {w0 w : World} {b room : Nat} {l : List Int} (h : Mine w0 w b room l) : Below w0.heap.size w0 w := by
  obtain ⟨c, h1, h2, h3, h4⟩ := h
  exact h4
theorem mine_new (w0 w : World) (room : Nat) (h1 : 1 ≤ room) (h2 : room ≤ 2097152) (hb : Below w0.heap.size w0 w) :
    Calls Try.prog 10 #[.int .i64 room] w fun e w' => ∃ b, e = .returned (.tuple #[.pointer (some ⟨b, 0, none⟩), .int .i64 0]) ∧ Mine w0 w' b room [] :=
  (new_run room w h1 h2).mono fun e w' ⟨he, hs, hr⟩ => ⟨_, he, _, hb.size, hb.size, hr, hb.trans (hs.below (fun k hk => hk.elim) hb.size)⟩
theorem mine_push {w0 w : World} {b room : Nat} {l : List Int} (x : Int) (h : Mine w0 w b room l) (hl : l.length < room) :
    Calls Try.prog 11 #[.pointer (some ⟨b, 0, none⟩), .int .i64 x] w fun e w' => e = .returned (.int .i64 0) ∧ Mine w0 w' b room (l ++ [x]) := by
  obtain ⟨c, h1, h2, h3, h4⟩ := h
  refine (push_ok b c room l x w h3 hl).mono fun e w' ⟨he, hs, c', hc, hr⟩ => ⟨he, c', h1, ?_, hr, h4.trans (hs.below (fun k hk => ?_) h4.size)⟩
  · have := h4.size
    rcases hc with hc | hc <;> omega
  · rcases hk with hk | hk <;> omega
theorem mine_push_no {w0 w : World} {b room : Nat} {l : List Int} (x : Int) (h : Mine w0 w b room l) (hl : l.length = room) :
    Calls Try.prog 11 #[.pointer (some ⟨b, 0, none⟩), .int .i64 x] w fun e w' => e = .returned (.int .i64 50) ∧ Mine w0 w' b room l := by
  have h' := h
  obtain ⟨c, h1, h2, h3, h4⟩ := h
  exact (push_no b c room l x w h3 hl).mono fun e w' ⟨he, m, hw⟩ => ⟨he, by rw [hw]; exact h'.drewN m⟩
theorem mine_front {w0 w : World} {b room : Nat} {x : Int} {l : List Int} (h : Mine w0 w b room (x :: l)) :
    Calls Try.prog 13 #[.pointer (some ⟨b, 0, none⟩)] w fun e w' => e = .returned (.tuple #[.int .i64 x, .int .i64 0]) ∧ Mine w0 w' b room l := by
  obtain ⟨c, h1, h2, h3, h4⟩ := h
  exact (pop_front b c room x l w h3).mono fun e w' ⟨he, hs, hr⟩ => ⟨he, c, h1, h2, hr, h4.trans (hs.below (fun k hk => by rcases hk with hk | hk <;> omega) h4.size)⟩
theorem mine_front_no {w0 w : World} {b room : Nat} (h : Mine w0 w b room []) :
    Calls Try.prog 13 #[.pointer (some ⟨b, 0, none⟩)] w fun e w' => e = .returned (.tuple #[.int .i64 0, .int .i64 51]) ∧ Mine w0 w' b room [] := by
  have h' := h
  obtain ⟨c, h1, h2, h3, h4⟩ := h
  exact (pop_front_none b c room w h3).mono fun e w' ⟨he, m, hw⟩ => ⟨he, by rw [hw]; exact h'.drewN m⟩
theorem mine_back {w0 w : World} {b room : Nat} {x : Int} {l : List Int} (h : Mine w0 w b room (l ++ [x])) :
    Calls Try.prog 15 #[.pointer (some ⟨b, 0, none⟩)] w fun e w' => e = .returned (.tuple #[.int .i64 x, .int .i64 0]) ∧ Mine w0 w' b room l := by
  obtain ⟨c, h1, h2, h3, h4⟩ := h
  exact (pop_back b c room x l w h3).mono fun e w' ⟨he, hs, hr⟩ => ⟨he, c, h1, h2, hr, h4.trans (hs.below (fun k hk => by rcases hk with hk | hk <;> omega) h4.size)⟩
theorem mine_back_no {w0 w : World} {b room : Nat} (h : Mine w0 w b room []) :
    Calls Try.prog 15 #[.pointer (some ⟨b, 0, none⟩)] w fun e w' => e = .returned (.tuple #[.int .i64 0, .int .i64 51]) ∧ Mine w0 w' b room [] := by
  have h' := h
  obtain ⟨c, h1, h2, h3, h4⟩ := h
  exact (pop_back_none b c room w h3).mono fun e w' ⟨he, m, hw⟩ => ⟨he, by rw [hw]; exact h'.drewN m⟩
theorem mine_at {w0 w : World} {b room : Nat} {l : List Int} (i : Nat) {x : Int} (h : Mine w0 w b room l) (hx : l[i]? = some x) :
    Calls Try.prog 14 #[.pointer (some ⟨b, 0, none⟩), .int .i64 i] w fun e w' => e = .returned (.tuple #[.int .i64 x, .int .i64 0]) ∧ Mine w0 w' b room l := by
  have h' := h
  obtain ⟨c, h1, h2, h3, h4⟩ := h
  exact (at_ok b c room l i x w h3 hx).mono fun e w' ⟨he, m, hw⟩ => ⟨he, by rw [hw]; exact h'.drewN m⟩
theorem mine_len {w0 w : World} {b room : Nat} {l : List Int} (h : Mine w0 w b room l) :
    Calls Try.prog 12 #[.pointer (some ⟨b, 0, none⟩)] w fun e w' => e = .returned (.int .i64 l.length) ∧ w' = w := by
  obtain ⟨c, h1, h2, ⟨f, n, cs, h3⟩, h4⟩ := h
  exact len_run b c room f n cs l w h3
theorem mine_room {w0 w : World} {b room : Nat} {l : List Int} (h : Mine w0 w b room l) :
    Calls Try.prog 28 #[.pointer (some ⟨b, 0, none⟩)] w fun e w' => e = .returned (.int .i64 room) ∧ w' = w := by
  obtain ⟨c, h1, h2, h3, h4⟩ := h
  exact room_run b c room l w h3

set_option maxHeartbeats 1000000 in
set_option maxRecDepth 100000 in
theorem awake05 (w0 w : World) (hb : Below w0.heap.size w0 w) : Calls Try.prog 9 #[] w fun e w' => e = .returned (.bool true) ∧ Below w0.heap.size w0 w' := by
  have HB := Lib.hid hb
  clear hb
  have CP1 : Hid (∀ b w, Mine w0 w b 2 [] → _) := Lib.hid fun b w h => mine_push (w0 := w0) (w := w) (b := b) (room := 2) (l := []) 5 h (by decide)
  have CP2 : Hid (∀ b w, Mine w0 w b 2 [5] → _) := Lib.hid fun b w h => mine_push (w0 := w0) (w := w) (b := b) (room := 2) (l := [5]) 6 h (by decide)
  have CP3 : Hid (∀ b w, Mine w0 w b 2 [5, 6] → _) := Lib.hid fun b w h => mine_push_no (w0 := w0) (w := w) (b := b) (room := 2) (l := [5, 6]) 7 h rfl
  have CP4 : Hid (∀ b w, Mine w0 w b 2 [6] → _) := Lib.hid fun b w h => mine_push (w0 := w0) (w := w) (b := b) (room := 2) (l := [6]) 8 h (by decide)
  have CA : Hid (∀ b w, Mine w0 w b 2 [6, 8] → Calls Try.prog 14 #[.pointer (some ⟨b, 0, none⟩), .int .i64 1] w fun e w' => e = .returned (.tuple #[.int .i64 8, .int .i64 0]) ∧ Mine w0 w' b 2 [6, 8]) := Lib.hid fun b w h => mine_at (w0 := w0) (w := w) (b := b) (room := 2) (l := [6, 8]) 1 (x := 8) h rfl
  have CL : Hid (∀ b w, Mine w0 w b 2 [6, 8] → Calls Try.prog 12 #[.pointer (some ⟨b, 0, none⟩)] w fun e w' => e = .returned (.int .i64 2) ∧ w' = w) := Lib.hid fun b w h => mine_len (w0 := w0) (w := w) (b := b) (room := 2) (l := [6, 8]) h
  go_enter Try.func9, Try.ntmps9
  go_wp2_with (first
    | (go_at_call 10; refine (mine_new w0 _ 2 (by omega) (by omega) HB.out).mono ?_; rintro e w1 ⟨b, rfl, h1⟩; have H1 := Lib.hid h1; clear h1)
    | (go_at_call 11; (with_reducible refine (CP1.out _ _ H1.out).mono ?_); rintro e w2 ⟨rfl, h2⟩; have H2 := Lib.hid h2; clear h2)
    | (go_at_call 11; (with_reducible refine (CP2.out _ _ H2.out).mono ?_); rintro e w3 ⟨rfl, h3⟩; have H3 := Lib.hid h3; clear h3)
    | (go_at_call 11; (with_reducible refine (CP3.out _ _ H3.out).mono ?_); rintro e w4 ⟨rfl, h4⟩; have H4 := Lib.hid h4; clear h4)
    | (go_at_call 13; (with_reducible refine (mine_front H4.out).mono ?_); rintro e w5 ⟨rfl, h5⟩; have H5 := Lib.hid h5; clear h5)
    | (go_at_call 11; (with_reducible refine (CP4.out _ _ H5.out).mono ?_); rintro e w6 ⟨rfl, h6⟩; have H6 := Lib.hid h6; clear h6)
    | (go_at_call 14; (with_reducible refine (CA.out _ _ H6.out).mono ?_); rintro e w7 ⟨rfl, h7⟩; have H7 := Lib.hid h7; clear h7)
    | (go_at_call 12; (with_reducible refine (CL.out _ _ H7.out).mono ?_); rintro e w8 ⟨rfl, rfl⟩)
    | (go_at_call 28; (with_reducible refine (mine_room H7.out).mono ?_); rintro e w9 ⟨rfl, rfl⟩))
  go_ret
  exact ⟨rfl, H7.out.below⟩
end Go.Proofs.Ytbopnglncjdnmaa
