/- RingPlays: whatever the two rooms, whatever the script. -/
import Derived.Test.YtbopnglncjdnmaaPlays
import Derived.Test.YtbopnglncjdnmaaPlaysB
import Derived.Test.YtbopnglncjdnmaaPlaysC
import Derived.Test.YtbopnglncjdnmaaPlaysD
import Derived.Deep.Slices
import Derived.ChangeArms
import Derived.OpenShut
set_option linter.unusedSimpArgs false
set_option linter.unusedVariables false
namespace Go.Proofs.Ytbopnglncjdnmaa
open Go.RowKit Go.ChangeShapes Go.Deep

set_option maxHeartbeats 1000000 in
set_option maxRecDepth 100000 in
theorem ringPlays_long (room other : Int) (n cap : Nat) (A : Option Addr) (W : World) (hn : 16777216 < n) :
    Calls Try.prog 8 #[.int .i64 room, .int .i64 other, .slice A n cap] W fun e w' => e = .returned (.bool true) ∧ Below W.heap.size W w' := by
  have d1 : decide ((16777216 : Int) < n) = true := decide_eq_true (by omega)
  have d2 : decide (16777216 < n) = true := decide_eq_true (by omega)
  go_enter Try.func8, Try.ntmps8
  go_wp2_with (fail)
  go_ret
  exact ⟨rfl, Below.refl _ _⟩
theorem ringPlays_walk (room other : Int) (A : Option Addr) (n cap : Nat) (W : World) (hS : ScriptAt W A n) :
    Calls Try.prog 8 #[.int .i64 room, .int .i64 other, .slice A n cap] W fun e w' => e = .returned (.bool true) ∧ Below W.heap.size W w' := by
  by_cases hn : n ≤ 16777216
  · by_cases ha : 1 ≤ room ∧ room ≤ 2097152
    · obtain ⟨k, rfl⟩ : ∃ k : Nat, room = k := ⟨room.toNat, by omega⟩
      by_cases hb : 1 ≤ other ∧ other ≤ 2097152
      · obtain ⟨j, rfl⟩ : ∃ j : Nat, other = j := ⟨other.toNat, by omega⟩
        exact ringPlays_ok k j n cap A W (by omega) (by omega) (by omega) (by omega) hS hn
      · exact ringPlays_b k n cap other A W (by omega) (by omega) (by omega) hS hn
    · by_cases hb : 1 ≤ other ∧ other ≤ 2097152
      · obtain ⟨j, rfl⟩ : ∃ j : Nat, other = j := ⟨other.toNat, by omega⟩
        exact ringPlays_c j n cap room A W (by omega) (by omega) (by omega) hS hn
      · exact ringPlays_d n cap room other A W (by omega) (by omega) hS hn
  · exact ringPlays_long room other n cap A W (by omega)

theorem laidOut0 : laidOutB Try.prog = true := by kernel_rfl
theorem act_struct : Try.prog.underlying 50 = some (.struct #[⟨"Kind", 3, 0, false, "", "", 0⟩, ⟨"Other", 4, 1, false, "", "", 8⟩, ⟨"I", 3, 2, false, "", "", 16⟩, ⟨"X", 3, 3, false, "", "", 24⟩]) := by kernel_rfl
theorem acts_arg {H : Type} {enc : TypeId × Value → H} {W : World} {a0 : Option Addr} {len cap : Nat} {d : DataW H} {ps : List MemPlace} (h : DataW.Trod enc Try.prog W 0 (fun _ => true) true 43 (.slice a0 len cap) d ps) : ScriptAt W a0 len := by
  obtain ⟨fuel, hf⟩ := h
  rcases open_slice Try.underlying43 hf with ⟨hcs, hx⟩ | ⟨a, len', cap', m, n, D, Pl, hcs, _, hl, hm, hmm, hx, hel⟩
  · simp [Value.cells] at hcs
    obtain ⟨rfl, rfl, rfl⟩ := hcs
    intro i hi
    omega
  · simp [Value.cells] at hcs
    obtain ⟨rfl, rfl, rfl⟩ := hcs
    simp only [if_true] at hmm
    intro i hi
    obtain ⟨cs', hc, ht⟩ := hel i (by omega)
    have hce : Try.prog.cellsOf 50 = 4 := by kernel_rfl
    have hci : Try.prog.cellsOf 3 = 1 := by kernel_rfl
    have hcb : Try.prog.cellsOf 4 = 1 := by kernel_rfl
    rw [hce] at hc
    obtain ⟨hb, hlen, hcell⟩ := World.cells?_some hc
    obtain ⟨xs, n', _, _, hlc, hxs, hfs⟩ := DataW.trod_struct act_struct ht
    have g0 := hfs 0 ⟨"Kind", 3, 0, false, "", "", 0⟩ rfl
    have g1 := hfs 1 ⟨"Other", 4, 1, false, "", "", 8⟩ rfl
    have g2 := hfs 2 ⟨"I", 3, 2, false, "", "", 16⟩ rfl
    have g3 := hfs 3 ⟨"X", 3, 3, false, "", "", 24⟩ rfl
    match cs', hlen with
    | [c0, c1, c2, c3], _ =>
      dsimp only at g0 g1 g2 g3
      rw [hci] at g0 g2 g3
      rw [hcb] at g1
      match xs, hxs with
      | [x0, x1, x2, x3], _ =>
        obtain ⟨z0, e0, _, w0⟩ := DataW.trod_int Try.underlying3 g0
        obtain ⟨z1, e1, _⟩ := DataW.trod_bool Try.underlying4 g1
        obtain ⟨z2, e2, _, w2⟩ := DataW.trod_int Try.underlying3 g2
        obtain ⟨z3, e3, _, w3⟩ := DataW.trod_int Try.underlying3 g3
        simp at e0 e1 e2 e3
        subst e0 e1 e2 e3
        have k0 := hcell 0 (by omega)
        have k1 := hcell 1 (by omega)
        have k2 := hcell 2 (by omega)
        have k3 := hcell 3 (by omega)
        have a0 : ((a.add (i * 4)).add 0) = a.add (i * 4) := by simp [Addr.add]
        rw [a0] at k0
        refine ⟨a, z0, z1, z2, z3, rfl, ?_, k0, k1, k2, k3, bounds_i64 w3⟩
        have := World.block_lt_of_cell? W _ k0
        rw [adb] at this
        exact this
end Go.Proofs.Ytbopnglncjdnmaa
