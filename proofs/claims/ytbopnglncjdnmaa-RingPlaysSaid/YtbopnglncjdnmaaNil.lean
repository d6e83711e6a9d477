/- Rings of three kinds, nil or not: one contract a method. -/
import Derived.Test.YtbopnglncjdnmaaRef2
set_option linter.unusedSimpArgs false
set_option linter.unusedVariables false
namespace Go.Proofs.Ytbopnglncjdnmaa
open Go.RowKit

set_option maxHeartbeats 1000000 in
set_option maxRecDepth 100000 in
theorem rnil_push (x : Int) (w : World) : Calls Try.prog 11 #[.pointer none, .int .i64 x] w fun e w' => e = .returned (.int .i64 3) ∧ Side (fun _ => False) w w' := by
  go_enter Try.func11, Try.ntmps11
  go_wp2
  go_ret
  first | exact ⟨rfl, Side.refl _ w⟩ | exact ⟨rfl, (Side.refl _ w).alloc _⟩
set_option maxHeartbeats 1000000 in
set_option maxRecDepth 100000 in
theorem rnil_front (w : World) : Calls Try.prog 13 #[.pointer none] w fun e w' => e = .returned (.tuple #[.int .i64 0, .int .i64 3]) ∧ Side (fun _ => False) w w' := by
  go_enter Try.func13, Try.ntmps13
  go_wp2
  go_ret2
  exact ⟨rfl, Side.refl _ w⟩
set_option maxHeartbeats 1000000 in
set_option maxRecDepth 100000 in
theorem rnil_back (w : World) : Calls Try.prog 15 #[.pointer none] w fun e w' => e = .returned (.tuple #[.int .i64 0, .int .i64 3]) ∧ Side (fun _ => False) w w' := by
  go_enter Try.func15, Try.ntmps15
  go_wp2
  go_ret2
  exact ⟨rfl, Side.refl _ w⟩
set_option maxHeartbeats 1000000 in
set_option maxRecDepth 100000 in
theorem rnil_at (i : Int) (w : World) : Calls Try.prog 14 #[.pointer none, .int .i64 i] w fun e w' => e = .returned (.tuple #[.int .i64 0, .int .i64 3]) ∧ Side (fun _ => False) w w' := by
  go_enter Try.func14, Try.ntmps14
  go_wp2
  go_ret2
  exact ⟨rfl, Side.refl _ w⟩
set_option maxHeartbeats 1000000 in
set_option maxRecDepth 100000 in
theorem rnil_set (i : Int) (x : Int) (w : World) : Calls Try.prog 40 #[.pointer none, .int .i64 i, .int .i64 x] w fun e w' => e = .returned (.int .i64 3) ∧ Side (fun _ => False) w w' := by
  go_enter Try.func40, Try.ntmps40
  go_wp2
  go_ret
  first | exact ⟨rfl, Side.refl _ w⟩ | exact ⟨rfl, (Side.refl _ w).alloc _⟩
set_option maxHeartbeats 1000000 in
set_option maxRecDepth 100000 in
theorem rnil_len (w : World) : Calls Try.prog 12 #[.pointer none] w fun e w' => e = .returned (.int .i64 0) ∧ Side (fun _ => False) w w' := by
  go_enter Try.func12, Try.ntmps12
  go_wp2
  go_ret
  first | exact ⟨rfl, Side.refl _ w⟩ | exact ⟨rfl, (Side.refl _ w).alloc _⟩
set_option maxHeartbeats 1000000 in
set_option maxRecDepth 100000 in
theorem rnil_room (w : World) : Calls Try.prog 28 #[.pointer none] w fun e w' => e = .returned (.int .i64 0) ∧ Side (fun _ => False) w w' := by
  go_enter Try.func28, Try.ntmps28
  go_wp2
  go_ret
  first | exact ⟨rfl, Side.refl _ w⟩ | exact ⟨rfl, (Side.refl _ w).alloc _⟩
set_option maxHeartbeats 1000000 in
set_option maxRecDepth 100000 in
theorem tnil_push (x : Int) (w : World) : Calls Try.prog 19 #[.pointer none, .agg (thCells x)] w fun e w' => e = .returned (.int .i64 3) ∧ Side (fun _ => False) w w' := by
  go_enter Try.func19, Try.ntmps19
  go_wp2
  go_ret
  first | exact ⟨rfl, Side.refl _ w⟩ | exact ⟨rfl, (Side.refl _ w).alloc _⟩
set_option maxHeartbeats 1000000 in
set_option maxRecDepth 100000 in
theorem tnil_front (w : World) : Calls Try.prog 16 #[.pointer none] w fun e w' => e = .returned (.tuple #[.agg #[.string ⟨#[]⟩, .int .i64 0, .int .i64 0], .int .i64 3]) ∧ Side (fun _ => False) w w' := by
  go_enter Try.func16, Try.ntmps16
  go_wp2
  refine ⟨rfl, .tuple #[.agg #[.string ⟨#[]⟩, .int .i64 0, .int .i64 0], .int .i64 3], ?_, rfl, ?_⟩
  · rw [results_cell_tmp rfl]
    go_simp
    try rfl
  · exact ((Side.refl _ w).alloc _).alloc _
set_option maxHeartbeats 1000000 in
set_option maxRecDepth 100000 in
theorem tnil_back (w : World) : Calls Try.prog 17 #[.pointer none] w fun e w' => e = .returned (.tuple #[.agg #[.string ⟨#[]⟩, .int .i64 0, .int .i64 0], .int .i64 3]) ∧ Side (fun _ => False) w w' := by
  go_enter Try.func17, Try.ntmps17
  go_wp2
  refine ⟨rfl, .tuple #[.agg #[.string ⟨#[]⟩, .int .i64 0, .int .i64 0], .int .i64 3], ?_, rfl, ?_⟩
  · rw [results_cell_tmp rfl]
    go_simp
    try rfl
  · exact ((Side.refl _ w).alloc _).alloc _
set_option maxHeartbeats 1000000 in
set_option maxRecDepth 100000 in
theorem tnil_at (i : Int) (w : World) : Calls Try.prog 18 #[.pointer none, .int .i64 i] w fun e w' => e = .returned (.tuple #[.agg #[.string ⟨#[]⟩, .int .i64 0, .int .i64 0], .int .i64 3]) ∧ Side (fun _ => False) w w' := by
  go_enter Try.func18, Try.ntmps18
  go_wp2
  refine ⟨rfl, .tuple #[.agg #[.string ⟨#[]⟩, .int .i64 0, .int .i64 0], .int .i64 3], ?_, rfl, ?_⟩
  · rw [results_cell_tmp rfl]
    go_simp
    try rfl
  · exact ((Side.refl _ w).alloc _).alloc _
set_option maxHeartbeats 1000000 in
set_option maxRecDepth 100000 in
theorem tnil_set (i : Int) (x : Int) (w : World) : Calls Try.prog 21 #[.pointer none, .int .i64 i, .agg (thCells x)] w fun e w' => e = .returned (.int .i64 3) ∧ Side (fun _ => False) w w' := by
  go_enter Try.func21, Try.ntmps21
  go_wp2
  go_ret
  first | exact ⟨rfl, Side.refl _ w⟩ | exact ⟨rfl, (Side.refl _ w).alloc _⟩
set_option maxHeartbeats 1000000 in
set_option maxRecDepth 100000 in
theorem tnil_len (w : World) : Calls Try.prog 22 #[.pointer none] w fun e w' => e = .returned (.int .i64 0) ∧ Side (fun _ => False) w w' := by
  go_enter Try.func22, Try.ntmps22
  go_wp2
  go_ret
  first | exact ⟨rfl, Side.refl _ w⟩ | exact ⟨rfl, (Side.refl _ w).alloc _⟩
set_option maxHeartbeats 1000000 in
set_option maxRecDepth 100000 in
theorem tnil_room (w : World) : Calls Try.prog 23 #[.pointer none] w fun e w' => e = .returned (.int .i64 0) ∧ Side (fun _ => False) w w' := by
  go_enter Try.func23, Try.ntmps23
  go_wp2
  go_ret
  first | exact ⟨rfl, Side.refl _ w⟩ | exact ⟨rfl, (Side.refl _ w).alloc _⟩
set_option maxHeartbeats 1000000 in
set_option maxRecDepth 100000 in
theorem qnil_push (x : Int) (w : World) : Calls Try.prog 35 #[.pointer none, .int .i64 x] w fun e w' => e = .returned (.int .i64 3) ∧ Side (fun _ => False) w w' := by
  go_enter Try.func35, Try.ntmps35
  go_wp2
  go_ret
  first | exact ⟨rfl, Side.refl _ w⟩ | exact ⟨rfl, (Side.refl _ w).alloc _⟩
set_option maxHeartbeats 1000000 in
set_option maxRecDepth 100000 in
theorem qnil_front (w : World) : Calls Try.prog 36 #[.pointer none] w fun e w' => e = .returned (.tuple #[.int .i64 0, .int .i64 3]) ∧ Side (fun _ => False) w w' := by
  go_enter Try.func36, Try.ntmps36
  go_wp2
  go_ret2
  exact ⟨rfl, Side.refl _ w⟩
set_option maxHeartbeats 1000000 in
set_option maxRecDepth 100000 in
theorem qnil_back (w : World) : Calls Try.prog 37 #[.pointer none] w fun e w' => e = .returned (.tuple #[.int .i64 0, .int .i64 3]) ∧ Side (fun _ => False) w w' := by
  go_enter Try.func37, Try.ntmps37
  go_wp2
  go_ret2
  exact ⟨rfl, Side.refl _ w⟩
set_option maxHeartbeats 1000000 in
set_option maxRecDepth 100000 in
theorem qnil_at (i : Int) (w : World) : Calls Try.prog 38 #[.pointer none, .int .i64 i] w fun e w' => e = .returned (.tuple #[.int .i64 0, .int .i64 3]) ∧ Side (fun _ => False) w w' := by
  go_enter Try.func38, Try.ntmps38
  go_wp2
  go_ret2
  exact ⟨rfl, Side.refl _ w⟩
set_option maxHeartbeats 1000000 in
set_option maxRecDepth 100000 in
theorem qnil_set (i : Int) (x : Int) (w : World) : Calls Try.prog 39 #[.pointer none, .int .i64 i, .int .i64 x] w fun e w' => e = .returned (.int .i64 3) ∧ Side (fun _ => False) w w' := by
  go_enter Try.func39, Try.ntmps39
  go_wp2
  go_ret
  first | exact ⟨rfl, Side.refl _ w⟩ | exact ⟨rfl, (Side.refl _ w).alloc _⟩
set_option maxHeartbeats 1000000 in
set_option maxRecDepth 100000 in
theorem qnil_len (w : World) : Calls Try.prog 27 #[.pointer none] w fun e w' => e = .returned (.int .i64 0) ∧ Side (fun _ => False) w w' := by
  go_enter Try.func27, Try.ntmps27
  go_wp2
  go_ret
  first | exact ⟨rfl, Side.refl _ w⟩ | exact ⟨rfl, (Side.refl _ w).alloc _⟩
set_option maxHeartbeats 1000000 in
set_option maxRecDepth 100000 in
theorem qnil_room (w : World) : Calls Try.prog 41 #[.pointer none] w fun e w' => e = .returned (.int .i64 0) ∧ Side (fun _ => False) w w' := by
  go_enter Try.func41, Try.ntmps41
  go_wp2
  go_ret
  first | exact ⟨rfl, Side.refl _ w⟩ | exact ⟨rfl, (Side.refl _ w).alloc _⟩
end Go.Proofs.Ytbopnglncjdnmaa
