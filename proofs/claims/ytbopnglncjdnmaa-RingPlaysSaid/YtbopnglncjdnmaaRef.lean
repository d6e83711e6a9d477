/- The document's ring: a room and a list. -/
import Derived.Test.YtbopnglncjdnmaaSets2
import Derived.Deep.RegionLawGrows
set_option linter.unusedSimpArgs false
set_option linter.unusedVariables false
namespace Go.Proofs.Ytbopnglncjdnmaa
open Go.RowKit

/-- The two cells of the document's ring. -/
def QB (w : World) (q most : Nat) (v : Value) : Prop := ∃ t, w.heap[q]? = some (.cells #[.int .i64 most, v] t (0, 0))
theorem QB.c0 {w : World} {q most : Nat} {v : Value} (h : QB w q most v) : w.cell? ⟨q, 0, none⟩ = some (.int .i64 most) := by obtain ⟨t, h⟩ := h; rw [cell_of_heap h]; rfl
theorem QB.c1 {w : World} {q most : Nat} {v : Value} (h : QB w q most v) : w.cell? ⟨q, 1, none⟩ = some v := by obtain ⟨t, h⟩ := h; rw [cell_of_heap h]; rfl
theorem QB.f {w : World} {q most : Nat} {v : Value} (h : QB w q most v) (k : Nat) : w.frozen? ⟨q, k, none⟩ = false := by obtain ⟨t, h⟩ := h; exact frozen_of_heap h
theorem QB.lt {w : World} {q most : Nat} {v : Value} (h : QB w q most v) : q < w.heap.size := by obtain ⟨t, h⟩ := h; exact heap_lt h
theorem QB.set1 {w : World} {q most : Nat} {v : Value} (h : QB w q most v) (u : Value) : QB (w.setCell ⟨q, 1, none⟩ u) q most u := by
  obtain ⟨t, h⟩ := h
  exact ⟨t, heap_set_self w q 1 _ h⟩
theorem QB.side {w : World} {q c k most : Nat} {v u : Value} (h : QB w q most v) (hc : q ≠ c) : QB (w.setCell ⟨c, k, none⟩ u) q most v := by
  obtain ⟨t, h⟩ := h
  exact ⟨t, by rw [heap_set_other _ _ _ _ _ hc]; exact h⟩

/-- Where its list lies: nowhere, or in block c from o on. -/
inductive QRow (w : World) (q c : Nat) : Option Addr → Nat → List Int → Prop
  | none : QRow w q c none 0 []
  | some (o cap : Nat) (cs : Array Value) (t : TypeId) (l : List Int) (hcq : c ≠ q) (hc : w.heap[c]? = some (.cells cs t (0, 0))) (hl : l.length ≤ cap) (ho : o + cap ≤ cs.size) (hat : ∀ i x, l[i]? = some x → cs[o + i]? = some (.int .i64 x)) : QRow w q c (some ⟨c, o, none⟩) cap l
structure QAt (w : World) (q c most : Nat) (l : List Int) : Prop where
  room1 : 1 ≤ most
  room2 : most ≤ 2097152
  many : l.length ≤ most
  at_ : ∃ A cap, QB w q most (.slice A l.length cap) ∧ QRow w q c A cap l

set_option maxHeartbeats 1000000 in
set_option maxRecDepth 100000 in
theorem qnew_run (room : Nat) (w : World) (h1 : 1 ≤ room) (h2 : room ≤ 2097152) :
    Calls Try.prog 24 #[.int .i64 room] w fun e w' => e = .returned (.tuple #[.pointer (some ⟨w.heap.size, 0, none⟩), .int .i64 0]) ∧ Side (fun _ => False) w w' ∧ QAt w' w.heap.size w.heap.size room [] := by
  have d1 : decide ((room : Int) < 1) = false := decide_eq_false (by omega)
  have d2 : decide ((2097152 : Int) < room) = false := decide_eq_false (by omega)
  go_enter Try.func24, Try.ntmps24
  go_wp2
  go_ret2
  exact ⟨rfl, (Side.refl _ w).alloc _, h1, h2, Nat.zero_le _, none, 0, ⟨62, heap_new w _⟩, .none⟩
set_option maxHeartbeats 1000000 in
set_option maxRecDepth 100000 in
theorem qnew_bad (room : Int) (w : World) (h1 : room < 1 ∨ 2097152 < room) :
    Calls Try.prog 24 #[.int .i64 room] w fun e w' => e = .returned (.tuple #[.pointer none, .int .i64 1]) ∧ w' = w := by
  have cs2 : (decide (room < 1) = true) ∨ (decide (room < 1) = false ∧ decide ((2097152 : Int) < room) = true) := by
    by_cases h : room < 1
    · exact Or.inl (decide_eq_true h)
    · exact Or.inr ⟨decide_eq_false h, decide_eq_true (by omega)⟩
  clear h1
  rcases cs2 with d1 | ⟨d1, d2⟩ <;> (
    go_enter Try.func24, Try.ntmps24
    go_wp2
    go_ret2
    exact ⟨rfl, rfl⟩)
set_option maxHeartbeats 1000000 in
set_option maxRecDepth 100000 in
theorem qlen_run (q c most : Nat) (l : List Int) (w : World) (h0 : QAt w q c most l) :
    Calls Try.prog 27 #[.pointer (some ⟨q, 0, none⟩)] w fun e w' => e = .returned (.int .i64 l.length) ∧ w' = w := by
  obtain ⟨A, cap, hb, hrow⟩ := h0.at_
  have c1 := hb.c1
  go_enter Try.func27, Try.ntmps27
  go_wp2
  go_ret
  exact ⟨rfl, rfl⟩
set_option maxHeartbeats 1000000 in
set_option maxRecDepth 100000 in
theorem qroom_run (q c most : Nat) (l : List Int) (w : World) (h0 : QAt w q c most l) :
    Calls Try.prog 41 #[.pointer (some ⟨q, 0, none⟩)] w fun e w' => e = .returned (.int .i64 most) ∧ w' = w := by
  obtain ⟨A, cap, hb, hrow⟩ := h0.at_
  have c0 := hb.c0
  go_enter Try.func41, Try.ntmps41
  go_wp2
  go_ret
  exact ⟨rfl, rfl⟩
set_option maxHeartbeats 1000000 in
set_option maxRecDepth 100000 in
theorem qat_bad (q c most : Nat) (l : List Int) (i : Int) (w : World) (h0 : QAt w q c most l) (hi : i < 0 ∨ (l.length : Int) ≤ i) :
    Calls Try.prog 38 #[.pointer (some ⟨q, 0, none⟩), .int .i64 i] w fun e w' => e = .returned (.tuple #[.int .i64 0, .int .i64 1]) ∧ Side (fun _ => False) w w' := by
  obtain ⟨A, cap, hb, hrow⟩ := h0.at_
  have c1 := hb.c1
  obtain ⟨m, hm⟩ : ∃ m, l.length = m := ⟨_, rfl⟩
  rw [hm] at c1 hi
  have cs2 : (decide (i < 0) = true) ∨ (decide (i < 0) = false ∧ decide ((m : Int) ≤ i) = true) := by
    by_cases h1 : i < 0
    · exact Or.inl (decide_eq_true h1)
    · exact Or.inr ⟨decide_eq_false h1, decide_eq_true (by omega)⟩
  clear hi hm hb hrow h0
  rcases cs2 with d1 | ⟨d1, d2⟩ <;> (
    go_enter Try.func38, Try.ntmps38
    go_wp2_with (fail)
    repeat (go_quiet (fail); try go_wp2_with (fail))
    go_ret2
    first | exact ⟨rfl, Side.refl _ w⟩ | exact ⟨rfl, (Side.refl _ w).drewN _⟩)
theorem qset_bad (q c most : Nat) (l : List Int) (i x : Int) (w : World) (h0 : QAt w q c most l) (hi : i < 0 ∨ (l.length : Int) ≤ i) :
    Calls Try.prog 39 #[.pointer (some ⟨q, 0, none⟩), .int .i64 i, .int .i64 x] w fun e w' => e = .returned (.int .i64 1) ∧ Side (fun _ => False) w w' := by
  obtain ⟨A, cap, hb, hrow⟩ := h0.at_
  have c1 := hb.c1
  obtain ⟨m, hm⟩ : ∃ m, l.length = m := ⟨_, rfl⟩
  rw [hm] at c1 hi
  have cs2 : (decide (i < 0) = true) ∨ (decide (i < 0) = false ∧ decide ((m : Int) ≤ i) = true) := by
    by_cases h1 : i < 0
    · exact Or.inl (decide_eq_true h1)
    · exact Or.inr ⟨decide_eq_false h1, decide_eq_true (by omega)⟩
  clear hi hm hb hrow h0
  rcases cs2 with d1 | ⟨d1, d2⟩ <;> (
    go_enter Try.func39, Try.ntmps39
    go_wp2_with (fail)
    repeat (go_quiet (fail); try go_wp2_with (fail))
    go_ret
    first | exact ⟨rfl, Side.refl _ w⟩ | exact ⟨rfl, (Side.refl _ w).drewN _⟩)
set_option maxHeartbeats 1000000 in
set_option maxRecDepth 100000 in
theorem qat_ok (q c most : Nat) (l : List Int) (i : Nat) (x : Int) (w : World) (h0 : QAt w q c most l) (hx : l[i]? = some x) :
    Calls Try.prog 38 #[.pointer (some ⟨q, 0, none⟩), .int .i64 i] w fun e w' => e = .returned (.tuple #[.int .i64 x, .int .i64 0]) ∧ Side (fun _ => False) w w' := by
  have hil : i < l.length := (List.getElem?_eq_some_iff.1 hx).1
  obtain ⟨A, cap, hb, hrow⟩ := h0.at_
  cases hrow with
  | none => simp at hil
  | some o cap cs t l hcq hc hl ho hat =>
    have hmany := h0.many
    have hroom := h0.room2
    obtain ⟨m, hm⟩ : ∃ m, l.length = m := ⟨_, rfl⟩
    have c1 := hb.c1
    rw [hm] at c1 hil hl hmany
    have hi1 : decide ((i : Int) < 0) = false := decide_eq_false (by omega)
    have hi2 : decide ((m : Int) ≤ i) = false := decide_eq_false (by omega)
    have hi3 : decide (m ≤ i) = false := decide_eq_false (by omega)
    have hi4 : (i : Int) < m := by omega
    have d1 : w.cell? ⟨c, o + i, none⟩ = some (.int .i64 x) := by rw [cell_of_heap hc]; exact hat i x hx
    clear h0 hb hc hat hx hm
    go_enter Try.func38, Try.ntmps38
    go_wp2_with (fail)
    repeat (go_quiet (fail); try go_wp2_with (fail))
    go_ret2
    first | exact ⟨rfl, Side.refl _ w⟩ | exact ⟨rfl, (Side.refl _ w).drewN _⟩
set_option maxHeartbeats 1000000 in
set_option maxRecDepth 100000 in
theorem qset_ok (q c most : Nat) (l : List Int) (i : Nat) (x : Int) (w : World) (h0 : QAt w q c most l) (hil : i < l.length) :
    Calls Try.prog 39 #[.pointer (some ⟨q, 0, none⟩), .int .i64 i, .int .i64 x] w fun e w' => e = .returned (.int .i64 0) ∧ Side (fun k => k = q ∨ k = c) w w' ∧ QAt w' q c most (l.set i x) := by
  obtain ⟨A, cap, hb, hrow⟩ := h0.at_
  cases hrow with
  | none => simp at hil
  | some o cap cs t l hcq hc hl ho hat =>
    have hmany := h0.many
    have hroom := h0.room2
    obtain ⟨m, hm⟩ : ∃ m, l.length = m := ⟨_, rfl⟩
    have c1 := hb.c1
    rw [hm] at c1 hil hl hmany
    have hi1 : decide ((i : Int) < 0) = false := decide_eq_false (by omega)
    have hi2 : decide ((m : Int) ≤ i) = false := decide_eq_false (by omega)
    have hi3 : decide (m ≤ i) = false := decide_eq_false (by omega)
    have hi4 : (i : Int) < m := by omega
    obtain ⟨old, hold⟩ : ∃ x, cs[o + i]? = some x := ⟨_, Array.getElem?_eq_getElem (by omega)⟩
    have d1 : w.cell? ⟨c, o + i, none⟩ = some old := by rw [cell_of_heap hc]; exact hold
    have f1 : w.frozen? ⟨c, o + i, none⟩ = false := frozen_of_heap hc
    have H0 := Lib.hid h0
    have HB := Lib.hid hb
    have HC := Lib.hid hc
    have HA := Lib.hid hat
    have HM := Lib.hid hm
    have HO := Lib.hid ho
    clear h0 hb hc hat hm hold ho
    go_enter Try.func39, Try.ntmps39
    go_wp2_with (fail)
    try (go_region_held3 (fun w' => w'.cell? ⟨q, 1, none⟩ = some (.slice (some ⟨c, o, none⟩) m cap)) (go_keep) (fail))
    try go_wp2_with (fail)
    go_ret
    have hm' : l.length = m := HM.out
    have ho' : o + cap ≤ cs.size := HO.out
    refine ⟨rfl, by first | exact (Side.refl _ w).setCell (Or.inr rfl) _ | exact (Side.refl _ w).drew.setCell (Or.inr rfl) _ | exact ((Side.refl _ w).setCell (Or.inr rfl) _).drew, H0.out.room1, hroom, by rw [List.length_set, hm']; exact hmany, some ⟨c, o, none⟩, cap, ?_, .some o cap (cs.setIfInBounds (o + i) (.int .i64 x)) t _ hcq ?_ (by rw [List.length_set, hm']; exact hl) (by rw [Array.size_setIfInBounds]; exact ho') fun j y hy => ?_⟩
    · rw [List.length_set]
      exact HB.out.side hcq.symm
    · exact heap_set_self _ _ _ _ HC.out
    · have hjl : j < l.length := by have := (List.getElem?_eq_some_iff.1 hy).1; rw [List.length_set] at this; exact this
      rw [List.getElem?_set] at hy
      split at hy
      · rename_i hij
        subst hij
        rw [if_pos hjl] at hy
        cases hy
        rw [Array.getElem?_setIfInBounds_self_of_lt (by omega)]
      · rw [Array.getElem?_setIfInBounds_ne (by omega)]
        exact HA.out j y hy
end Go.Proofs.Ytbopnglncjdnmaa
