/- Events: the closure that calls itself, and what is told. -/
import Derived.Test.YtfefldkljbbbpaaTells
import Derived.Test.YtfefldkljbbbpaaBuildA
set_option linter.unusedVariables false
set_option linter.unusedSimpArgs false
namespace Go.Proofs.Ytfefldkljbbbpaa
open Go.RowKit Go.Proofs.YtfefldkljbbbpaaW.PrintWords Go.Proofs.YtfefldkljbbbpaaW.PrintLast Go.Proofs.YtfefldkljbbbpaaW.PrintMore

abbrev TE : TypeId := 32
theorem infoEv : (Try.prog.info? 32).map (fun i => (i.zero, i.size, i.bytes)) = some (some (.agg #[(.int .u8 0), (.int .u8 0), (.int .u8 0), (.string ⟨#[]⟩), (.int .i64 0), (.int .i64 0), (.int .i64 0), (.int .i64 0)]), 8, 64) := by kernel_rfl
def evCells (e : Ev) : List Value := [.int .u8 e.f0, .int .u8 e.f1, .int .u8 e.f2.f0, .string e.f2.f1, .int .i64 e.f2.f2.f0, .int .i64 e.f2.f2.f1, .int .i64 e.f2.f2.f2, .int .i64 e.f2.f3]
theorem ev_M (w : World) (base : Nat) (e : Ev) : kEv.M w base (fun _ => False) e (evCells e) := PTreeSame.k32_mkM w base _ e

/-- The closure's state: what has been told so far; the box of 'out', the box of 'walk'. -/
structure Out (w0 w : World) (xs : List Ev) : Prop where
  out : ∃ v, w.heap[w0.heap.size + 1]? = some (.cells #[v] 22 (0, 0)) ∧ Kd.R kEv TE w (w0.heap.size + 3) (fun _ => True) v xs
  walk : w.heap[w0.heap.size + 2]? = some (.cells #[.func (.func 29) #[] #[.pointer (some ⟨w0.heap.size + 1, 0, none⟩), .pointer (some ⟨w0.heap.size + 2, 0, none⟩)]] 40 (0, 0))
  below : Below w0.heap.size w0 w
  size : w0.heap.size + 3 ≤ w.heap.size
theorem Out.keep {w0 w w' : World} {xs : List Ev} (h : Out w0 w xs) (hb : Below w.heap.size w w') : Out w0 w' xs := by
  obtain ⟨v, h1, h2⟩ := h.out
  have hs := h.size
  exact ⟨⟨v, (hb.block _ (by omega)).trans h1, Kd.R_below h2 hb⟩, (hb.block _ (by omega)).trans h.walk, h.below.trans (hb.mono (by omega)), Nat.le_trans hs hb.size⟩
/-- An event is told: the list has grown, and the box holds it. -/
theorem Out.told {w0 w w4 w5 : World} {xs : List Ev} {e : Ev} {v v1 : Value} (h : Out w0 w xs) (hr : Kd.R kEv TE w (w0.heap.size + 3) (fun _ => True) v xs) (h4 : Kd.R kEv TE w4 (w0.heap.size + 3) (fun _ => True) v1 (xs ++ [e])) (hg : w.grownBy w4 v.ownBlock) (h5 : w5.heap[w0.heap.size + 1]? = some (.cells [v1].toArray 22 (0, 0))) (hu : Upd (w0.heap.size + 1) w4 w5) : Out w0 w5 (xs ++ [e]) := by
  have hs := h.size
  have hvb : ∀ k, v.ownBlock = some k → w0.heap.size + 3 ≤ k := Kd.R_base hr
  have e2 := (hg.block (w0.heap.size + 2) (by omega) (fun he => by have := hvb _ he.symm; omega)).trans h.walk
  refine ⟨⟨v1, h5, ?_⟩, (hu.far _ (by omega)).trans e2, ?_, by rw [hu.size]; exact Nat.le_trans hs hg.size⟩
  · exact Kd.R_mono (Kd.R_step (ok := fun k => True ∧ w0.heap.size + 3 ≤ k) (Kd.R_mono (Kd.R_bound h4) (fun k hk => ⟨trivial, hk.2.1⟩)) (fun k hk _ => hu.far k (by have := hk.2; omega))) (fun _ _ => trivial)
  · exact hu.below (h.below.grown hg (by omega) (fun k hk => by have := hvb k hk; omega)) (by omega)
theorem told_far {w0 w w4 w5 : World} {xs : List Ev} {v : Value} {b : Nat} {C : Array Value} (hr : Kd.R kEv TE w (w0.heap.size + 3) (fun _ => True) v xs) (hg : w.grownBy w4 v.ownBlock) (hu : Upd (w0.heap.size + 1) w4 w5) (hb : w.heap[b]? = some (.cells C TN (0, 0))) (hne : b ≠ w0.heap.size + 1) : w5.heap[b]? = some (.cells C TN (0, 0)) := by
  refine (hu.far b hne).trans ((hg.block b (blk_lt hb) fun he => ?_).trans hb)
  obtain ⟨c2, h2⟩ := Kd.R_typed hr b he.symm
  rw [hb] at h2
  injection h2 with h2
  injection h2 with _ h2
  exact absurd h2 (by decide)
/-- Boxes of nodes stay. -/
def Keeps (w w' : World) : Prop := ∀ (b : Nat) (C : Array Value), w.heap[b]? = some (.cells C TN (0, 0)) → w'.heap[b]? = some (.cells C TN (0, 0))
theorem Keeps.of_below {w w' : World} (h : Below w.heap.size w w') : Keeps w w' := fun b C hb => (h.block b (blk_lt hb)).trans hb
theorem Keeps.trans {w w' w2 : World} (h : Keeps w w') (h2 : Keeps w' w2) : Keeps w w2 := fun b C hb => h2 b C (h b C hb)
theorem Out.ne {w0 w : World} {xs : List Ev} (h : Out w0 w xs) {b : Nat} {C : Array Value} (hb : w.heap[b]? = some (.cells C TN (0, 0))) : b ≠ w0.heap.size + 1 := by
  rintro rfl
  obtain ⟨v, hv, _⟩ := h.out
  rw [hb] at hv
  injection hv with hv
  injection hv with _ hv
  exact absurd hv (by decide)
theorem Keeps.told {w0 w w4 w5 : World} {xs : List Ev} {v : Value} (h : Out w0 w xs) (hr : Kd.R kEv TE w (w0.heap.size + 3) (fun _ => True) v xs) (hg : w.grownBy w4 v.ownBlock) (hu : Upd (w0.heap.size + 1) w4 w5) : Keeps w w5 := fun b C hb => told_far hr hg hu hb (h.ne hb)
theorem infoEvS : (Try.prog.info? 22).map (·.size) = some 1 := by kernel_rfl
end Go.Proofs.Ytfefldkljbbbpaa
