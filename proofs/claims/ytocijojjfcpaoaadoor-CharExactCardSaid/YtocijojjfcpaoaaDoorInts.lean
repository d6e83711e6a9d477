/- A list of numbers among a law's arguments. -/
import Derived.Test.YtocijojjfcpaoaaDoorC
import Derived.ChangeSlices
import Derived.SizedLaws
set_option linter.unusedVariables false
namespace Go.Proofs.YtocijojjfcpaoaaDoor
open Go.RowKit Go.ChangeShapes Go.Proofs.YtocijojjfcpaoaaDoorW.PrintWords

theorem laidOut0 : laidOutB Tryd.prog = true := by kernel_rfl
theorem lits_len {H : Type} (l : List Int) : (lits (H := H) .i64 l).length = l.length := by simp [lits]

theorem ints_arg {H : Type} {enc : TypeId × Value → H} {W : World} {a0 : Option Addr} {len cap : Nat} {d : DataW H} {ps : List MemPlace} (h : DataW.Trod enc Tryd.prog W 0 (fun _ => true) true 33 (.slice a0 len cap) d ps) :
    ∃ l : List Int, l.length = len ∧ CI W a0 l ∧ len ≤ cap ∧ ((d = .nil ∧ len = 0) ∨ ∃ s, d = .slice (lits .i64 l) s) ∧ (∀ x ∈ l, (Lit.int .i64 x).wf = true) := by
  obtain ⟨fuel, hf⟩ := h
  rcases open_ints Tryd.underlying33 Tryd.underlying3 (by kernel_rfl) hf with ⟨hcs, hx⟩ | ⟨a, len', cap', zs, hcs, _, hl, hm, hz, hx, hcell, hwz⟩
  · simp [Value.cells] at hcs
    obtain ⟨rfl, rfl, rfl⟩ := hcs
    simp only [Prod.mk.injEq] at hx
    obtain ⟨rfl, rfl⟩ := hx
    exact ⟨[], rfl, Kd.C_nil _ _, Nat.le_refl _, Or.inl ⟨rfl, rfl⟩, fun x hx => by cases hx⟩
  · simp [Value.cells] at hcs
    obtain ⟨rfl, rfl, rfl⟩ := hcs
    simp only [Prod.mk.injEq] at hx
    obtain ⟨rfl, rfl⟩ := hx
    simp only [if_true] at hz
    have hlen : (zs.take len).length = len := by rw [List.length_take]; omega
    refine ⟨zs.take len, hlen, ?_, hl, Or.inr ⟨_, rfl⟩, fun x hx => hwz x (List.mem_of_mem_take hx)⟩
    refine Kd.C_of_reads (enc := Value.int .i64) (d := (0 : Int)) (h1 := fun _ => rfl) ⟨rfl, by rw [hlen]; unfold maxLen at hm; omega, fun hn => ⟨_, rfl, fun j hj => ?_⟩⟩
    rw [hlen] at hj
    rw [hcell j (by omega)]
    simp [List.getD_eq_getElem?_getD, hj]
end Go.Proofs.YtocijojjfcpaoaaDoor
