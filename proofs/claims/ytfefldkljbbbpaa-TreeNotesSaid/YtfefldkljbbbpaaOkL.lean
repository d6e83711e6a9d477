/- Same: plain laws of lists; what a round may write. -/
import Derived.Test.YtfefldkljbbbpaaColl
set_option linter.unusedVariables false
set_option linter.unusedSimpArgs false
namespace Go.Proofs.Ytfefldkljbbbpaa
open Go.RowKit Go.Shelf Go.Proofs.YtfefldkljbbbpaaW.PrintWords Go.Proofs.YtfefldkljbbbpaaW.PrintLast Go.Proofs.YtfefldkljbbbpaaW.PrintMore

theorem beq_cast (a b : Nat) : ((a : Int) == (b : Int)) = (a == b) := by
  by_cases h : a = b
  · rw [h, beq_self_eq_true, beq_self_eq_true]
  · have h' : (a : Int) ≠ (b : Int) := by omega
    rw [beq_eq_false_iff_ne.2 h, beq_eq_false_iff_ne.2 h']
/-- So far each node of xs has its like in ys. -/
def okL (p : Nd → Nd → Bool) (xs ys : List Nd) : Prop := xs.length ≤ ys.length ∧ ∀ (i : Nat) a b, xs[i]? = some a → ys[i]? = some b → p a b = true
theorem okL_nil (p : Nd → Nd → Bool) (ys : List Nd) : okL p [] ys := ⟨by simp, fun i a b h => by simp at h⟩
theorem okL_snoc {p : Nd → Nd → Bool} {xs ys : List Nd} {a b : Nd} (h : okL p xs ys) (hb : ys[xs.length]? = some b) : okL p (xs ++ [a]) ys ↔ p a b = true := by
  have hlt := (List.getElem?_eq_some_iff.1 hb).1
  constructor
  · intro h'
    exact h'.2 xs.length a b (by simp) hb
  · intro hp
    refine ⟨by simp; omega, fun i a' b' ha hb' => ?_⟩
    by_cases hi : i < xs.length
    · exact h.2 i a' b' (by rwa [List.getElem?_append_left hi] at ha) hb'
    · have : i < (xs ++ [a]).length := (List.getElem?_eq_some_iff.1 ha).1
      have hi' : i = xs.length := by simp at this; omega
      subst hi'
      simp at ha
      rw [hb] at hb'
      cases hb'
      rw [← ha]
      exact hp
theorem okL_long {p : Nd → Nd → Bool} {xs ys : List Nd} {a : Nd} (h : ys.length ≤ xs.length) : ¬ okL p (xs ++ [a]) ys := fun h' => by
  have := h'.1
  simp at this
  omega
theorem okL_all {p : Nd → Nd → Bool} {xs ys : List Nd} (h : okL p xs ys) : (xs.length == ys.length && (xs.zip ys).all fun q => p q.1 q.2) = (xs.length == ys.length) := by
  have : ((xs.zip ys).all fun q => p q.1 q.2) = true := by
    rw [List.all_eq_true]
    intro q hq
    obtain ⟨i, hi⟩ := List.mem_iff_getElem?.1 hq
    rw [List.getElem?_zip_eq_some] at hi
    exact h.2 i _ _ hi.1 hi.2
  rw [this, Bool.and_true]
theorem okL_bad {p : Nd → Nd → Bool} {pre xs ys : List Nd} (h : ¬ okL p pre ys) (hp : pre <+: xs) : (xs.length == ys.length && (xs.zip ys).all fun q => p q.1 q.2) = false := by
  rw [Bool.and_eq_false_iff]
  by_cases hl : xs.length = ys.length
  · right
    rw [← Bool.not_eq_true]
    intro ha
    rw [List.all_eq_true] at ha
    obtain ⟨t, rfl⟩ := hp
    refine h ⟨by simp at hl; omega, fun i a b h1 h2 => ?_⟩
    have hi := (List.getElem?_eq_some_iff.1 h1).1
    exact ha (a, b) (List.mem_iff_getElem?.2 ⟨i, by rw [List.getElem?_zip_eq_some]; exact ⟨by rw [List.getElem?_append_left hi]; exact h1, h2⟩⟩)
  · left
    exact beq_eq_false_iff_ne.2 hl

/-- From W1 to V: all but two boxes lies as it lay. -/
structure Rel2 (W1 : World) (b1 b2 : Nat) (V : World) : Prop where
  os : V.os = W1.os
  tape : V.tape = W1.tape
  output : V.output = W1.output
  size : W1.heap.size ≤ V.heap.size
  block : ∀ k, k < W1.heap.size → k ≠ b1 → k ≠ b2 → V.heap[k]? = W1.heap[k]?
theorem Rel2.refl (W1 : World) (b1 b2 : Nat) : Rel2 W1 b1 b2 W1 := ⟨rfl, rfl, rfl, Nat.le_refl _, fun _ _ _ _ => rfl⟩
theorem Rel2.grown {W1 V V' : World} {b1 b2 : Nat} {row : Option Nat} (h : Rel2 W1 b1 b2 V) (hg : V.grownBy V' row) (hr : ∀ j, row = some j → j = b1 ∨ j = b2 ∨ W1.heap.size ≤ j) : Rel2 W1 b1 b2 V' :=
  ⟨hg.os.trans h.os, hg.tape.trans h.tape, hg.output.trans h.output, Nat.le_trans h.size hg.size, fun k hk h1 h2 => (hg.block k (Nat.lt_of_lt_of_le hk h.size) (fun e => by rcases hr k e.symm with h | h | h <;> omega)).trans (h.block k hk h1 h2)⟩
theorem rel2_own {β : Type} {W1 : World} {b1 b2 Bd : Nat} (hB : W1.heap.size ≤ Bd) : OwnFrom Bd (fun (_ : β) V => Rel2 W1 b1 b2 V) := fun s X Y row h hg hr =>
  h.grown hg fun j e => .inr (.inr (Nat.le_trans hB (hr j e).1))
theorem Rel2.below {w W1 V : World} {b1 b2 : Nat} (h : Rel2 W1 b1 b2 V) (hb : Below w.heap.size w W1) (h1 : w.heap.size ≤ b1) (h2 : w.heap.size ≤ b2) : Below w.heap.size w V :=
  ⟨h.os.trans hb.os, h.tape.trans hb.tape, h.output.trans hb.output, Nat.le_trans hb.size h.size, fun k hk => (h.block k (Nat.lt_of_lt_of_le hk hb.size) (by omega) (by omega)).trans (hb.block k hk)⟩
theorem Rel2.row {W1 V : World} {b1 b2 base : Nat} {v : Value} {n : Nat} {xs : List Value} (h : Rel2 W1 b1 b2 V) (ho : W1.ownsRow base TN 8 v n xs) {t1 t2 : TypeId} {v1 v2 : Value} (h1 : Boxed W1 b1 t1 v1) (ht1 : t1 ≠ TN) (h2 : Boxed W1 b2 t2 v2) (ht2 : t2 ≠ TN) : V.ownsRow base TN 8 v n xs := by
  have n1 := h1.not_row ht1 ho
  have n2 := h2.not_row ht2 ho
  refine Go.Proofs.YtfefldkljbbbpaaW.PrintWords.own_move ho fun k hk => h.block k ?_ (fun e => n1 (by rw [hk, e])) (fun e => n2 (by rw [hk, e]))
  obtain ⟨cells, hc⟩ := own_typed ho k hk
  exact (Array.getElem?_eq_some_iff.1 hc).1

/-- The i-th of the kids that are collected. -/
theorem kv_at {w0 : World} {m : Nat} : ∀ (ys : List (KV w0 m)) (i : Nat) (k : KV w0 m), ys[i]? = some k → ∀ (j : Nat) (v : Value), (ndCells k.x.f0 k.x.f1 (.slice k.A k.x.f2.length k.c))[j]? = some v → (kvCells ys)[i * 8 + j]? = some v
  | [], i, k, h, _, _, _ => by simp at h
  | y :: ys, i, k, h, j, v, hj => by
    have hlt : j < 8 := (List.getElem?_eq_some_iff.1 hj).1
    have he : kvCells (y :: ys) = ndCells y.x.f0 y.x.f1 (.slice y.A y.x.f2.length y.c) ++ kvCells ys := by simp [kvCells, ndCells]
    rw [he]
    cases i with
    | zero =>
      simp at h
      subst h
      rw [List.getElem?_append_left (by rw [ndCells_len]; omega), Nat.zero_mul, Nat.zero_add]
      exact hj
    | succ i =>
      rw [List.getElem?_append_right (by rw [ndCells_len]; omega), ndCells_len, show (i + 1) * 8 + j - 8 = i * 8 + j by omega]
      exact kv_at ys i k (by simpa using h) j v hj

/-- The way out, past the two loops' marks. -/
theorem same_leave {fn : Func} (hr : fn.results = #[.cell 4 4]) {tmps : Array Value} {V : World} {D D2 s2 : Nat} {b : Bool} {R : Ending → World → Prop} (ht : tmps.getD 4 undef = .pointer (some ⟨s2, 0, none⟩)) (h2 : V.heap[D2]? = some (.deferred (some []))) (h1 : V.heap[D]? = some (.deferred (some []))) (hne : D ≠ D2) (hb : Boxed V s2 4 (.bool b))
    (hR : R (.returned (.bool b)) ((V.putObj D2 (.deferred none)).putObj D (.deferred none))) : bodyPostM Fence.wide 8 Try.prog fn R .ret { tmps := tmps, defers := [{ target := .collected D2, args := #[] }, { target := .collected D, args := #[] }] } V := by
  have hd : s2 ≠ D ∧ s2 ≠ D2 := by
    constructor
    · rintro rfl
      rw [show V.heap[s2]? = _ from hb] at h1
      cases h1
    · rintro rfl
      rw [show V.heap[s2]? = _ from hb] at h2
      cases h2
  have g2 := grownBy_putObj' V D2 (.deferred none)
  have h1' : (V.putObj D2 (.deferred none)).heap[D]? = some (.deferred (some [])) := (g2.block D (Array.getElem?_eq_some_iff.1 h1).1 (by simpa using hne)).trans h1
  have hb2 := hb.kept g2 (by simpa using hd.2)
  have hb3 := hb2.kept (grownBy_putObj' (V.putObj D2 (.deferred none)) D (.deferred none)) (by simpa using hd.1)
  refine ⟨by simp, .inl ⟨_, _, rfl, run_takeDeferred h2, ?_⟩⟩
  refine ⟨by simp, .inl ⟨_, _, rfl, run_takeDeferred h1', ?_⟩⟩
  exact ⟨_, results_cellB hr _ _ s2 b ht hb3.cell, hR⟩
end Go.Proofs.Ytfefldkljbbbpaa
