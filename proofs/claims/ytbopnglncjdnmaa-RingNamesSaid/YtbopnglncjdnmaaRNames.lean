/- RingNames: a nil ring, the numbers, the examples. -/
import Derived.Test.YtbopnglncjdnmaaAwake
import Derived.Test.YtbopnglncjdnmaaThing
set_option linter.unusedSimpArgs false
set_option linter.unusedVariables false
namespace Go.Proofs.Ytbopnglncjdnmaa
open Go.RowKit

set_option maxRecDepth 100000 in
theorem nil_front (w : World) : Calls Try.prog 16 #[.pointer none] w fun e w' => e = .returned (.tuple #[.agg #[.string ⟨#[]⟩, .int .i64 0, .int .i64 0], .int .i64 3]) ∧ w' = (w.alloc (.cells #[.string ⟨#[]⟩, .int .i64 0, .int .i64 0] 36)).alloc (.cells #[.string ⟨#[]⟩, .int .i64 0, .int .i64 0] 36) := by
  go_enter Try.func16, Try.ntmps16
  go_wp2
  refine ⟨rfl, .tuple #[.agg #[.string ⟨#[]⟩, .int .i64 0, .int .i64 0], .int .i64 3], ?_, rfl, rfl⟩
  rw [results_cell_tmp rfl]
  go_simp
set_option maxRecDepth 100000 in
theorem nil_back (w : World) : Calls Try.prog 17 #[.pointer none] w fun e w' => e = .returned (.tuple #[.agg #[.string ⟨#[]⟩, .int .i64 0, .int .i64 0], .int .i64 3]) ∧ w' = (w.alloc (.cells #[.string ⟨#[]⟩, .int .i64 0, .int .i64 0] 36)).alloc (.cells #[.string ⟨#[]⟩, .int .i64 0, .int .i64 0] 36) := by
  go_enter Try.func17, Try.ntmps17
  go_wp2
  refine ⟨rfl, .tuple #[.agg #[.string ⟨#[]⟩, .int .i64 0, .int .i64 0], .int .i64 3], ?_, rfl, rfl⟩
  rw [results_cell_tmp rfl]
  go_simp
set_option maxRecDepth 100000 in
theorem nil_at (w : World) : Calls Try.prog 18 #[.pointer none, .int .i64 0] w fun e w' => e = .returned (.tuple #[.agg #[.string ⟨#[]⟩, .int .i64 0, .int .i64 0], .int .i64 3]) ∧ w' = (w.alloc (.cells #[.string ⟨#[]⟩, .int .i64 0, .int .i64 0] 36)).alloc (.cells #[.string ⟨#[]⟩, .int .i64 0, .int .i64 0] 36) := by
  go_enter Try.func18, Try.ntmps18
  go_wp2
  refine ⟨rfl, .tuple #[.agg #[.string ⟨#[]⟩, .int .i64 0, .int .i64 0], .int .i64 3], ?_, rfl, rfl⟩
  rw [results_cell_tmp rfl]
  go_simp
set_option maxRecDepth 100000 in
theorem nil_push (w : World) : Calls Try.prog 19 #[.pointer none, .agg (thCells 1)] w fun e w' => e = .returned (.int .i64 3) ∧ w' = w.alloc (.cells (thCells 1) 36) := by
  go_enter Try.func19, Try.ntmps19
  go_wp2
  go_ret
  exact ⟨rfl, rfl⟩
set_option maxRecDepth 100000 in
theorem nil_set (w : World) : Calls Try.prog 21 #[.pointer none, .int .i64 0, .agg (thCells 1)] w fun e w' => e = .returned (.int .i64 3) ∧ w' = w.alloc (.cells (thCells 1) 36) := by
  go_enter Try.func21, Try.ntmps21
  go_wp2
  go_ret
  exact ⟨rfl, rfl⟩
set_option maxRecDepth 100000 in
theorem nil_len (w : World) : Calls Try.prog 22 #[.pointer none] w fun e w' => e = .returned (.int .i64 0) ∧ w' = w := by
  go_enter Try.func22, Try.ntmps22
  go_wp2
  go_ret
  exact ⟨rfl, rfl⟩
set_option maxRecDepth 100000 in
theorem nil_room (w : World) : Calls Try.prog 23 #[.pointer none] w fun e w' => e = .returned (.int .i64 0) ∧ w' = w := by
  go_enter Try.func23, Try.ntmps23
  go_wp2
  go_ret
  exact ⟨rfl, rfl⟩

set_option maxHeartbeats 2000000 in
set_option maxRecDepth 100000 in
theorem ringNames_walk (w : World) : Calls Try.prog 7 #[] w fun e w' => e = .returned (.bool true) ∧ Below w.heap.size w w' := by
  have HEQ := thing_eq
  go_enter Try.func7, Try.ntmps7
  go_wp2_with (first
    | (go_at_call 16; (with_reducible refine (nil_front _).mono ?_); rintro e w1 ⟨rfl, rfl⟩)
    | (go_at_call 17; (with_reducible refine (nil_back _).mono ?_); rintro e w1 ⟨rfl, rfl⟩)
    | (go_at_call 18; (with_reducible refine (nil_at _).mono ?_); rintro e w1 ⟨rfl, rfl⟩)
    | (go_at_call 19; (with_reducible refine (nil_push _).mono ?_); rintro e w1 ⟨rfl, rfl⟩)
    | (go_at_call 21; (with_reducible refine (nil_set _).mono ?_); rintro e w1 ⟨rfl, rfl⟩)
    | (go_at_call 22; (with_reducible refine (nil_len _).mono ?_); rintro e w1 ⟨rfl, rfl⟩)
    | (go_at_call 23; (with_reducible refine (nil_room _).mono ?_); rintro e w1 ⟨rfl, rfl⟩)
    | (go_at_call 20; (with_reducible refine (thing_any 1 _ (by omega) (by omega)).mono ?_); rintro e w1 ⟨rfl, rfl⟩)
    | (go_at_call 9; (refine (awake05 w _ (by repeat (first | exact Below.refl _ _ | refine Below.alloc ?_ (by first | (simp; done) | (simp; omega)) _))).mono ?_); rintro e w2 ⟨rfl, hb⟩; have HB := Lib.hid hb; clear hb))
  go_ret
  exact ⟨rfl, HB.out⟩
end Go.Proofs.Ytbopnglncjdnmaa
