/- Copies: the walks of copied and kept. -/
import Derived.Test.YtfefldkljbbbpaaG2
import Derived.Test.YtfefldkljbbbpaaG6
import Derived.Laws.MakeOwn
import Derived.Deep.QuietTactic
/- Copies: a tree in memory of its own, behind each list a marked place. -/
set_option linter.unusedVariables false
set_option linter.unusedSimpArgs false
namespace Go.Proofs.Ytfefldkljbbbpaa
open Go.RowKit Go.Shelf Go.Proofs.YtfefldkljbbbpaaW.PrintWords Go.Proofs.YtfefldkljbbbpaaW.PrintLast Go.Proofs.YtfefldkljbbbpaaW.PrintMore

def markC : List Value := ndCells 99 noTk (.slice none 0 0)
mutual
def Cop (w : World) (base : Nat) : Nd → List Value → Prop
  | ⟨k, t, kids⟩, cs => ∃ g cells, base ≤ g ∧ cs = ndCells k t (.slice (some ⟨g, 0, none⟩) kids.length (kids.length + 1)) ∧ w.heap[g]? = some (.cells (cells ++ markC).toArray TN (0, 0)) ∧ kids.length + 1 ≤ maxLen ∧ CopL w base kids cells
def CopL (w : World) (base : Nat) : List Nd → List Value → Prop
  | [], cells => cells = []
  | x :: xs, cells => ∃ c cs, cells = c ++ cs ∧ Cop w base x c ∧ CopL w base xs cs
end
theorem cop_iff {w : World} {base : Nat} {x : Nd} {cs : List Value} : Cop w base x cs ↔ ∃ g cells, base ≤ g ∧ cs = ndCells x.f0 x.f1 (.slice (some ⟨g, 0, none⟩) x.f2.length (x.f2.length + 1)) ∧ w.heap[g]? = some (.cells (cells ++ markC).toArray TN (0, 0)) ∧ x.f2.length + 1 ≤ maxLen ∧ CopL w base x.f2 cells := by
  obtain ⟨k, t, kids⟩ := x
  rw [Cop]
theorem cop_len {w : World} {base : Nat} {x : Nd} {cs : List Value} (h : Cop w base x cs) : cs.length = 8 := by
  rw [cop_iff] at h
  obtain ⟨g, cells, _, rfl, _⟩ := h
  rfl
theorem copL_len {w : World} {base : Nat} : ∀ {xs : List Nd} {cs : List Value}, CopL w base xs cs → cs.length = xs.length * 8
  | [], cs, h => by rw [CopL] at h; subst h; rfl
  | x :: xs, cs, h => by
    rw [CopL] at h
    obtain ⟨c, cs', rfl, h2, h3⟩ := h
    have := cop_len h2
    have := copL_len h3
    simp only [List.length_append, List.length_cons]
    omega
mutual
theorem cop_move {w w1 : World} {base : Nat} (hm : ∀ b, base ≤ b → b < w.heap.size → w1.heap[b]? = w.heap[b]?) : ∀ (x : Nd) {cs : List Value}, Cop w base x cs → Cop w1 base x cs
  | ⟨k, t, kids⟩, cs, h => by
    rw [Cop] at h ⊢
    obtain ⟨g, cells, h1, h2, h3, h4, h5⟩ := h
    exact ⟨g, cells, h1, h2, (hm g h1 (blk_lt h3)).trans h3, h4, copL_move hm kids h5⟩
theorem copL_move {w w1 : World} {base : Nat} (hm : ∀ b, base ≤ b → b < w.heap.size → w1.heap[b]? = w.heap[b]?) : ∀ (xs : List Nd) {cs : List Value}, CopL w base xs cs → CopL w1 base xs cs
  | [], cs, h => by rw [CopL] at h ⊢; exact h
  | x :: xs, cs, h => by
    rw [CopL] at h ⊢
    obtain ⟨c, cs', h1, h2, h3⟩ := h
    exact ⟨c, cs', h1, cop_move hm x h2, copL_move hm xs h3⟩
end
mutual
theorem cop_lower {w : World} {base base' : Nat} (hle : base' ≤ base) : ∀ (x : Nd) {cs : List Value}, Cop w base x cs → Cop w base' x cs
  | ⟨k, t, kids⟩, cs, h => by
    rw [Cop] at h ⊢
    obtain ⟨g, cells, h1, h2, h3, h4, h5⟩ := h
    exact ⟨g, cells, Nat.le_trans hle h1, h2, h3, h4, copL_lower hle kids h5⟩
theorem copL_lower {w : World} {base base' : Nat} (hle : base' ≤ base) : ∀ (xs : List Nd) {cs : List Value}, CopL w base xs cs → CopL w base' xs cs
  | [], cs, h => by rw [CopL] at h ⊢; exact h
  | x :: xs, cs, h => by
    rw [CopL] at h ⊢
    obtain ⟨c, cs', h1, h2, h3⟩ := h
    exact ⟨c, cs', h1, cop_lower hle x h2, copL_lower hle xs h3⟩
end
theorem cop_below {w w1 : World} {base : Nat} {x : Nd} {cs : List Value} (h : Cop w base x cs) (hb : Below w.heap.size w w1) : Cop w1 base x cs := cop_move (fun b _ hl => hb.block b hl) x h
theorem copL_below {w w1 : World} {base : Nat} {xs : List Nd} {cs : List Value} (h : CopL w base xs cs) (hb : Below w.heap.size w w1) : CopL w1 base xs cs := copL_move (fun b _ hl => hb.block b hl) xs h
theorem copL_snoc {w : World} {base : Nat} : ∀ {xs : List Nd} {x : Nd} {cs c : List Value}, CopL w base xs cs → Cop w base x c → CopL w base (xs ++ [x]) (cs ++ c)
  | [], x, cs, c, h, hx => by
    rw [CopL] at h
    subst h
    rw [List.nil_append, List.nil_append, CopL]
    exact ⟨c, [], by rw [List.append_nil], hx, by rw [CopL]⟩
  | y :: ys, x, cs, c, h, hx => by
    rw [CopL] at h
    obtain ⟨c', cs', rfl, h2, h3⟩ := h
    rw [List.cons_append, CopL]
    exact ⟨c', cs' ++ c, by rw [List.append_assoc], h2, copL_snoc h3 hx⟩
theorem copL_get {w : World} {base : Nat} : ∀ {xs : List Nd} {cs : List Value}, CopL w base xs cs → ∀ (i : Nat) (x : Nd), xs[i]? = some x → ∃ c, Cop w base x c ∧ ∀ (j : Nat) (v : Value), c[j]? = some v → cs[i * 8 + j]? = some v
  | [], cs, h, i, x, hx => by simp at hx
  | y :: ys, cs, h, i, x, hx => by
    rw [CopL] at h
    obtain ⟨c', cs', rfl, h2, h3⟩ := h
    have h8 := cop_len h2
    cases i with
    | zero =>
      simp at hx
      subst hx
      exact ⟨c', h2, fun j v hj => by rw [Nat.zero_mul, Nat.zero_add, List.getElem?_append_left (List.getElem?_eq_some_iff.1 hj).1]; exact hj⟩
    | succ i =>
      obtain ⟨c, h4, h5⟩ := copL_get h3 i x (by simpa using hx)
      exact ⟨c, h4, fun j v hj => by rw [List.getElem?_append_right (by omega), h8, show (i + 1) * 8 + j - 8 = i * 8 + j by omega]; exact h5 j v hj⟩
/-- A copy's list is a row. -/
theorem cop_row {w : World} {base g : Nat} {kids : List Nd} {cells : List Value} (h1 : base ≤ g) (h2 : w.heap[g]? = some (.cells (cells ++ markC).toArray TN (0, 0))) (h3 : kids.length + 1 ≤ maxLen) (h4 : CopL w base kids cells) : w.ownsRow base TN 8 (.slice (some ⟨g, 0, none⟩) kids.length (kids.length + 1)) kids.length cells := by
  have hl := copL_len h4
  refine ⟨hl, .inr ⟨g, kids.length + 1, _, rfl, h1, h2, Nat.le_succ _, h3, ?_, ?_⟩⟩
  · rw [List.size_toArray, List.length_append, hl]
    simp only [markC, ndCells, List.length_cons, List.length_nil]
    omega
  · rw [← hl]; simp
mutual
theorem cop_K {w : World} {base : Nat} : ∀ (x : Nd) {cs : List Value}, Cop w base x cs → kNd.K w x cs
  | ⟨k, t, kids⟩, cs, h => by
    rw [Cop] at h
    obtain ⟨g, cells, h1, rfl, h3, h4, h5⟩ := h
    obtain ⟨A, c, he, hc, hr⟩ := row_C (cop_row h1 h3 h4 h5) (copL_reps kids h5)
    injection he with e1 _ e3
    subst e1 e3
    exact PTreeSame.k35_mk w ⟨k, t, kids⟩ hc hr
theorem copL_reps {w : World} {base : Nat} : ∀ (xs : List Nd) {cs : List Value}, CopL w base xs cs → Reps (kNd.K w) 8 xs cs
  | [], cs, h => by rw [CopL] at h; subst h; exact Reps.none _ _
  | x :: xs, cs, h => by
    rw [CopL] at h
    obtain ⟨c, cs', rfl, h2, h3⟩ := h
    have := Kd.reps_append ((Reps.none (kNd.K w) 8).snoc (cop_K x h2) (cop_len h2)) (copL_reps xs h3)
    simpa using this
end
/-- What stands in a copy, by parts. -/
theorem cop_C {w : World} {base : Nat} {x : Nd} {cs : List Value} (h : Cop w base x cs) : ∃ g, cs = ndCells x.f0 x.f1 (.slice (some ⟨g, 0, none⟩) x.f2.length (x.f2.length + 1)) ∧ Kd.C kNd w (some ⟨g, 0, none⟩) x.f2.length x.f2 := by
  rw [cop_iff] at h
  obtain ⟨g, cells, h1, rfl, h3, h4, h5⟩ := h
  obtain ⟨A, c, he, hc, hr⟩ := row_C (cop_row h1 h3 h4 h5) (copL_reps _ h5)
  injection he with e1 _ e3
  subst e1 e3
  exact ⟨g, rfl, hr⟩

/-- A copy under way. -/
structure CInv (w wr : World) (x : Nd) (A : Option Addr) (c : Nat) (i : Nat) : Prop where
  b0 : wr.heap[w.heap.size]? = some (.cells #[.int .u8 x.f0, .int .u8 x.f1.f0, .string x.f1.f1, .int .i64 x.f1.f2.f0, .int .i64 x.f1.f2.f1, .int .i64 x.f1.f2.f2, .int .i64 x.f1.f3, .slice A x.f2.length c] TN (0, 0))
  b1 : wr.heap[w.heap.size + 1]? = some (.cells #[.int .u8 0, .int .u8 0, .string ⟨#[]⟩, .int .i64 0, .int .i64 0, .int .i64 0, .int .i64 0, .slice none 0 0] TN (0, 0))
  b2 : wr.heap[w.heap.size + 2]? = some (.cells #[.int .u8 x.f0, .int .u8 x.f1.f0, .string x.f1.f1, .int .i64 x.f1.f2.f0, .int .i64 x.f1.f2.f1, .int .i64 x.f1.f2.f2, .int .i64 x.f1.f3, .slice (some ⟨w.heap.size + 3, 0, none⟩) x.f2.length (x.f2.length + 1)] TN (0, 0))
  b3 : ∃ cells rest, wr.heap[w.heap.size + 3]? = some (.cells (cells ++ rest).toArray TN (0, 0)) ∧ rest.length = (x.f2.length + 1 - i) * 8 ∧ CopL wr (w.heap.size + 4) (x.f2.take i) cells
  below : Below w.heap.size w wr
  size : w.heap.size + 4 ≤ wr.heap.size
theorem CInv.later {w wr wr' : World} {x : Nd} {A : Option Addr} {c i : Nat} (h : CInv w wr x A c i) (hb : Below wr.heap.size wr wr') : CInv w wr' x A c i := by
  obtain ⟨cells, rest, h1, h2, h3⟩ := h.b3
  exact ⟨(hb.block _ (blk_lt h.b0)).trans h.b0, (hb.block _ (blk_lt h.b1)).trans h.b1, (hb.block _ (blk_lt h.b2)).trans h.b2, ⟨cells, rest, (hb.block _ (blk_lt h1)).trans h1, h2, copL_below h3 hb⟩, h.below.trans (hb.mono (by have := h.size; omega)), Nat.le_trans h.size hb.size⟩
/-- One kid is laid. -/
theorem CInv.put {w wr : World} {x y : Nd} {A : Option Addr} {c i base : Nat} {cs : List Value} (h : CInv w wr x A c i) (hi : i < x.f2.length) (hy : x.f2[i]? = some y) (hc : Cop wr base y cs) (hbase : w.heap.size + 4 ≤ base) :
    (∃ cur, wr.heap[w.heap.size + 3]? = some (.cells cur TN (0, 0)) ∧ i * 8 + 8 ≤ cur.size) ∧ CInv w (wr.setCells (w.heap.size + 3) (i * 8) cs) x A c (i + 1) := by
  obtain ⟨cells, rest, h1, h2, h3⟩ := h.b3
  have hl := copL_len h3
  have h8 := cop_len hc
  rw [List.length_take, Nat.min_eq_left (by omega)] at hl
  have hfit : i * 8 + cs.length ≤ (cells ++ rest).toArray.size := by simp only [List.size_toArray, List.length_append]; omega
  obtain ⟨cur', k1, k2, k3⟩ := setCells_row cs (i * 8) wr (cells ++ rest).toArray h1 hfit
  refine ⟨⟨_, h1, by rw [h8] at hfit; exact hfit⟩, ?_⟩
  have far : ∀ b, b ≠ w.heap.size + 3 → (wr.setCells (w.heap.size + 3) (i * 8) cs).heap[b]? = wr.heap[b]? := fun b hb => setCells_far cs (i * 8) b hb
  have hg := setCells_grown wr (w.heap.size + 3) (i * 8) cs
  refine ⟨(far _ (by omega)).trans h.b0, (far _ (by omega)).trans h.b1, (far _ (by omega)).trans h.b2, ⟨cells ++ cs, rest.drop 8, ?_, ?_, ?_⟩, h.below.grown hg (by have := h.size; omega) (fun k e => by cases e; omega), Nat.le_trans h.size hg.size⟩
  · rw [k1]
    have : cur'.toList = cells ++ cs ++ rest.drop 8 := by
      rw [k3, ← hl]
      simp [h8, List.drop_append]
    have e : cur' = (cells ++ cs ++ rest.drop 8).toArray := Array.ext' (by simpa using this)
    rw [e]
  · rw [List.length_drop, h2]; omega
  · rw [List.take_add_one, hy]
    refine copL_snoc (copL_move (fun b hb _ => far b (by omega)) _ h3) ?_
    exact cop_lower hbase y (cop_move (fun b hb _ => far b (by omega)) y hc)
def CopPost (w : World) (x : Nd) (e : Ending) (w' : World) : Prop := ∃ g, e = .returned (.agg (ndCells x.f0 x.f1 (.slice (some ⟨g, 0, none⟩) x.f2.length (x.f2.length + 1))).toArray) ∧ Cop w' w.heap.size x (ndCells x.f0 x.f1 (.slice (some ⟨g, 0, none⟩) x.f2.length (x.f2.length + 1))) ∧ Below w.heap.size w w'
/-- The mark is set behind the list. -/
theorem CInv.done {w wr : World} {x : Nd} {A : Option Addr} {c : Nat} (h : CInv w wr x A c x.f2.length) (hm : x.f2.length + 1 ≤ maxLen) :
    (∃ cur, wr.heap[w.heap.size + 3]? = some (.cells cur TN (0, 0)) ∧ x.f2.length * 8 + 8 ≤ cur.size) ∧ (∀ V, V = wr.setCells (w.heap.size + 3) (x.f2.length * 8) markC → Cop V (w.heap.size + 3) x (ndCells x.f0 x.f1 (.slice (some ⟨w.heap.size + 3, 0, none⟩) x.f2.length (x.f2.length + 1))) ∧ (∀ b, b ≠ w.heap.size + 3 → V.heap[b]? = wr.heap[b]?) ∧ Below w.heap.size w V ∧ wr.heap.size ≤ V.heap.size) := by
  obtain ⟨cells, rest, h1, h2, h3⟩ := h.b3
  have hl := copL_len h3
  have h8 : markC.length = 8 := rfl
  rw [List.length_take, Nat.min_self] at hl
  rw [Nat.add_sub_cancel_left, Nat.one_mul] at h2
  have hfit : x.f2.length * 8 + markC.length ≤ (cells ++ rest).toArray.size := by simp only [List.size_toArray, List.length_append]; omega
  obtain ⟨cur', k1, k2, k3⟩ := setCells_row markC (x.f2.length * 8) wr (cells ++ rest).toArray h1 hfit
  refine ⟨⟨_, h1, hfit⟩, fun V hV => ?_⟩
  subst hV
  have far : ∀ b, b ≠ w.heap.size + 3 → (wr.setCells (w.heap.size + 3) (x.f2.length * 8) markC).heap[b]? = wr.heap[b]? := fun b hb => setCells_far markC _ b hb
  have hg := setCells_grown wr (w.heap.size + 3) (x.f2.length * 8) markC
  refine ⟨cop_iff.2 ⟨_, cells, by omega, rfl, ?_, hm, ?_⟩, far, h.below.grown hg (by have := h.size; omega) (fun k e => by cases e; omega), hg.size⟩
  · rw [k1]
    have : cur'.toList = cells ++ markC := by
      rw [k3, ← hl]
      simp [h8, List.drop_append, h2]
    have e : cur' = (cells ++ markC).toArray := Array.ext' (by simpa using this)
    rw [e]
  · rw [List.take_length] at h3
    exact copL_lower (by omega) _ (copL_move (fun b hb _ => far b (by omega)) _ h3)
theorem CInv.start (w : World) (x : Nd) (A : Option Addr) (c : Nat) (zs : Array Value) (hzs : zs.size = (x.f2.length + 1) * 8) : CInv w ((((w.alloc (.cells #[.int .u8 x.f0, .int .u8 x.f1.f0, .string x.f1.f1, .int .i64 x.f1.f2.f0, .int .i64 x.f1.f2.f1, .int .i64 x.f1.f2.f2, .int .i64 x.f1.f3, .slice A x.f2.length c] TN)).alloc (.cells #[.int .u8 0, .int .u8 0, .string ⟨#[]⟩, .int .i64 0, .int .i64 0, .int .i64 0, .int .i64 0, .slice none 0 0] TN)).alloc (.cells #[.int .u8 x.f0, .int .u8 x.f1.f0, .string x.f1.f1, .int .i64 x.f1.f2.f0, .int .i64 x.f1.f2.f1, .int .i64 x.f1.f2.f2, .int .i64 x.f1.f3, .slice (some ⟨w.heap.size + 1 + 1 + 1, 0, none⟩) x.f2.length (x.f2.length + 1)] TN)).alloc (.cells zs TN)) x A c 0 := by
  have old : ∀ {w : World} {o o' : Obj} {k : Nat}, w.heap[k]? = some o' → (w.alloc o).heap[k]? = some o' := fun {w} {o} {o'} {k} h => (Below.heap_alloc w o k (Array.getElem?_eq_some_iff.1 h).1).trans h
  have new : ∀ (w : World) (o : Obj) (k : Nat), k = w.heap.size → (w.alloc o).heap[k]? = some o := fun w o k h => h ▸ World.alloc_heap_new w o
  refine ⟨old (old (old (new w _ _ rfl))), old (old (new _ _ _ (by simp))), old (new _ _ _ (by simp)), ⟨[], zs.toList, new _ _ _ (by simp), by simpa using hzs, by rw [List.take_zero, CopL]⟩, ?_, by simp⟩
  exact ((((Below.refl _ w).alloc (Nat.le_refl _) _).alloc (by simp) _).alloc (by simp <;> omega) _).alloc (by simp <;> omega) _
/-- Cells of a block are written, in a plain region. -/
theorem wl_cells {ops : Array Oper} {rest : List Oper} {o : Oper} {a : Act} {Q : Exit → Act → World → Prop} {W : World} (hgd : o.guard = none) (hd : o.dst = none) (t : TypeId) (p x : Operand) (ho : o.op = .store t p x) {g off : Nat} {e : TypeId} {cur : Array Value} (u : Value) (seg : List Value)
    (haddr : a.eval p = .pointer (some ⟨g, off, none⟩)) (hx : a.eval x = u) (hu : u.cells.toList = seg) (ht : (Try.prog.info? t).map (·.size) = some seg.length) (h1 : ∀ v ∈ seg, v.oneCell' = true) (hh : W.heap[g]? = some (.cells cur e (0, 0))) (hfit : off + seg.length ≤ cur.size)
    (h : ∀ w5, w5 = W.setCells g off seg → wpList Try.prog ops Q rest a w5) : wpList Try.prog ops Q (o :: rest) a W := by
  refine wpList_plain hgd fun K hK => ?_
  have hrun := run_store_run (P := Try.prog) t u seg hh hu ht hfit h1
  unfold Oper.wp execOp
  simp only [ho, haddr, hx, Sem.run_bind, Sem.run_pure, Result.andThen_ok, hrun]
  show K (a.put o.dst undef) _
  rw [hd]
  exact hK _ _ (h _ rfl)
end Go.Proofs.Ytfefldkljbbbpaa

/- copied: the walk. (Printed by gencop.py.) -/
set_option linter.unusedVariables false
set_option linter.unusedSimpArgs false
namespace Go.Proofs.Ytfefldkljbbbpaa
open Go.RowKit Go.Shelf Go.Proofs.YtfefldkljbbbpaaW.PrintWords Go.Proofs.YtfefldkljbbbpaaW.PrintLast Go.Proofs.YtfefldkljbbbpaaW.PrintMore

theorem make_nodes (n : Nat) (hn : n ≤ 1073741824) : ∃ zs : Array Value, zs.size = (n + 1) * 8 ∧ ∀ w, (Instr.makeSlice 33 (.int .i64 n) (.int .i64 ((n : Int) + 1))).run Try.prog w = .ok (.slice (some ⟨w.heap.size, 0, none⟩) n (n + 1)) (w.alloc (.cells zs TN)) := by
  obtain ⟨i, z, hi, hz, hs, hb⟩ : ∃ i z, Try.prog.info? 35 = some i ∧ i.zero = some z ∧ i.size = 8 ∧ i.bytes = 88 := by
    obtain ⟨i, hi, he⟩ := Option.map_eq_some_iff.1 infoNd
    simp only [Prod.mk.injEq] at he
    exact ⟨i, _, hi, he.1, he.2.1, he.2.2⟩
  refine ⟨madeCells z.cells ((n + 1) * i.size), by rw [size_madeCells, hs], fun w => ?_⟩
  have h := run_make (P := Try.prog) w 33 35 i z Try.underlying33 hi hz .i64 .i64 n ((n : Int) + 1) (by omega) (by omega) (by rw [hb]; omega) (by omega)
  rw [Int.toNat_natCast, show ((n : Int) + 1).toNat = n + 1 from by omega] at h
  exact h

set_option maxRecDepth 100000 in
set_option maxHeartbeats 4000000 in
theorem copied_any : ∀ (N : Nat) (x : Nd) (A : Option Addr) (c : Nat) (w : World), nds x ≤ N → nds x ≤ 1073741824 → x.f2.length ≤ c → Kd.C kNd w A x.f2.length x.f2 →
    Calls Try.prog 15 #[.agg #[.int .u8 x.f0, .int .u8 x.f1.f0, .string x.f1.f1, .int .i64 x.f1.f2.f0, .int .i64 x.f1.f2.f1, .int .i64 x.f1.f2.f2, .int .i64 x.f1.f3, .slice A x.f2.length c]] w fun e w' => CopPost w x e w' := by
  intro N
  induction N with
  | zero => intro x A c w hN; have := nds_pos x; omega
  | succ N ih =>
    intro x A c w hN hbig hlc hC
    have hn : x.f2.length ≤ 1073741823 := by rw [nds_eq] at hbig; have := ndsL_len x.f2; omega
    obtain ⟨zs, hzs, hmk⟩ := make_nodes x.f2.length (by omega)
    have IH := Lib.hid ih
    have HC := Lib.hid hC
    have HLC := Lib.hid hlc
    have HNN := Lib.hid (And.intro hN hbig)
    have HZS := Lib.hid hzs
    clear ih hC hlc hN hbig hzs
    go_enter Try.func15, Try.ntmps15
    go_upto_region 3 with (fail)
    obtain ⟨W0, hW0⟩ : ∃ V, ((((w.alloc (.cells #[.int .u8 x.f0, .int .u8 x.f1.f0, .string x.f1.f1, .int .i64 x.f1.f2.f0, .int .i64 x.f1.f2.f1, .int .i64 x.f1.f2.f2, .int .i64 x.f1.f3, .slice A x.f2.length c] TN)).alloc (.cells #[.int .u8 0, .int .u8 0, .string ⟨#[]⟩, .int .i64 0, .int .i64 0, .int .i64 0, .int .i64 0, .slice none 0 0] TN)).alloc (.cells #[.int .u8 x.f0, .int .u8 x.f1.f0, .string x.f1.f1, .int .i64 x.f1.f2.f0, .int .i64 x.f1.f2.f1, .int .i64 x.f1.f2.f2, .int .i64 x.f1.f3, .slice (some ⟨w.heap.size + 1 + 1 + 1, 0, none⟩) x.f2.length (x.f2.length + 1)] TN)).alloc (.cells zs TN)) = V := ⟨_, rfl⟩
    have HI0 : Hid (CInv w W0 x A c 0) := Lib.hid (hW0 ▸ CInv.start w x A c zs HZS.out)
    rw [hW0]
    clear hW0 hmk
    go_wp2
    go_loopw [4] (fun iv wr => ∃ i : Nat, i ≤ x.f2.length ∧ iv = .int .i64 i ∧ Hid (CInv w wr x A c i)) (fun iv _ => x.f2.length - (intOf iv).toNat)
    case atStart => exact ⟨0, Nat.zero_le _, rfl, HI0⟩
    case round =>
      obtain ⟨i, hi, rfl, H⟩ := hrel
      obtain ⟨q0, q1, q2, q3, q4, q5, q6, q7⟩ := nd_box (b := w.heap.size) H.out.b0 wr (Below.refl _ _)
      by_cases hlt : i < x.f2.length
      · have dlt : decide (i < x.f2.length) = true := decide_eq_true hlt
        obtain ⟨y, hy⟩ : ∃ y, x.f2[i]? = some y := ⟨_, List.getElem?_eq_getElem hlt⟩
        go_upto_region 6 with (fail)
        obtain ⟨Wd, hWd⟩ : ∃ V, wr.drew = V := ⟨_, rfl⟩
        have hbd : Below wr.heap.size wr Wd := by rw [← hWd]; exact (Below.refl _ wr).drew
        have hD := H.out.later hbd
        obtain ⟨ad, A1, c1, rfl, hcs, hl1, hC1⟩ := kid_at (Kd.C_below HC.out hD.below) i y hlt hy
        have hSall : ∀ V, Below Wd.heap.size Wd V → V.cell? ⟨w.heap.size, 7, none⟩ = some (.slice (some ad) x.f2.length c) ∧ V.cell? ⟨w.heap.size + 1 + 1, 7, none⟩ = some (.slice (some ⟨w.heap.size + 1 + 1 + 1, 0, none⟩) x.f2.length (x.f2.length + 1)) ∧ V.cell? (ad.add (i * 8)) = some (.int .u8 y.f0) ∧ V.cell? ⟨(ad.add (i * 8)).block, (ad.add (i * 8)).off + 1, none⟩ = some (.int .u8 y.f1.f0) ∧ V.cell? ⟨(ad.add (i * 8)).block, (ad.add (i * 8)).off + 2, none⟩ = some (.string y.f1.f1) ∧ V.cell? ⟨(ad.add (i * 8)).block, (ad.add (i * 8)).off + 3, none⟩ = some (.int .i64 y.f1.f2.f0) ∧ V.cell? ⟨(ad.add (i * 8)).block, (ad.add (i * 8)).off + 4, none⟩ = some (.int .i64 y.f1.f2.f1) ∧ V.cell? ⟨(ad.add (i * 8)).block, (ad.add (i * 8)).off + 5, none⟩ = some (.int .i64 y.f1.f2.f2) ∧ V.cell? ⟨(ad.add (i * 8)).block, (ad.add (i * 8)).off + 6, none⟩ = some (.int .i64 y.f1.f3) ∧ V.cell? ⟨(ad.add (i * 8)).block, (ad.add (i * 8)).off + 7, none⟩ = some (.slice A1 y.f2.length c1) := fun V hV => ⟨(nd_box (b := w.heap.size) hD.b0 V hV).2.2.2.2.2.2.2, (nd_box (b := w.heap.size + 1 + 1) hD.b2 V hV).2.2.2.2.2.2.2, pw_cell_below hV hcs.1, pw_cell_below hV hcs.2.1, pw_cell_below hV hcs.2.2.1, pw_cell_below hV hcs.2.2.2.1, pw_cell_below hV hcs.2.2.2.2.1, pw_cell_below hV hcs.2.2.2.2.2.1, pw_cell_below hV hcs.2.2.2.2.2.2.1, pw_cell_below hV hcs.2.2.2.2.2.2.2⟩
        have HD := Lib.hid hD
        have HSA := Lib.hid hSall
        have HS := Lib.hid (hSall Wd (Below.refl _ _))
        have HY := Lib.hid hy
        have HWd := Lib.hid hWd
        have hny : nds y ≤ ndsL x.f2 := ndsL_mem (List.mem_of_getElem? hy)
        have HCL := Lib.hid (IH.out y A1 c1 Wd (by have := HNN.out.1; rw [nds_eq] at this; omega) (by have := HNN.out.2; rw [nds_eq] at this; omega) hl1 hC1)
        have g1 : (0 : Int) ≤ (i : Int) := by omega
        have g2 : (i : Int) < (x.f2.length : Int) := by omega
        clear hbd hD hcs hl1 hC1 hSall hy hWd hny q0 q1 q2 q3 q4 q5 q6 q7
        refine wp_region_P (fun w' => w'.cell? ⟨w.heap.size, 7, none⟩ = some (.slice (some ad) x.f2.length c) ∧ w'.cell? ⟨w.heap.size + 1 + 1, 7, none⟩ = some (.slice (some ⟨w.heap.size + 1 + 1 + 1, 0, none⟩) x.f2.length (x.f2.length + 1)) ∧ w'.cell? (ad.add (i * 8)) = some (.int .u8 y.f0) ∧ w'.cell? ⟨(ad.add (i * 8)).block, (ad.add (i * 8)).off + 1, none⟩ = some (.int .u8 y.f1.f0) ∧ w'.cell? ⟨(ad.add (i * 8)).block, (ad.add (i * 8)).off + 2, none⟩ = some (.string y.f1.f1) ∧ w'.cell? ⟨(ad.add (i * 8)).block, (ad.add (i * 8)).off + 3, none⟩ = some (.int .i64 y.f1.f2.f0) ∧ w'.cell? ⟨(ad.add (i * 8)).block, (ad.add (i * 8)).off + 4, none⟩ = some (.int .i64 y.f1.f2.f1) ∧ w'.cell? ⟨(ad.add (i * 8)).block, (ad.add (i * 8)).off + 5, none⟩ = some (.int .i64 y.f1.f2.f2) ∧ w'.cell? ⟨(ad.add (i * 8)).block, (ad.add (i * 8)).off + 6, none⟩ = some (.int .i64 y.f1.f3) ∧ w'.cell? ⟨(ad.add (i * 8)).block, (ad.add (i * 8)).off + 7, none⟩ = some (.slice A1 y.f2.length c1)) (fun j => Nat.ble j 9) (by kernel_rfl) ?_
        rw [HWd.out]
        refine anyP_take (i := 0) (oi := { dst := some 23, op := Go.Op.fieldAddr 35 (Go.Operand.tmp 3) 2, type := 0, pos := "law.go:52", after := #[], guard := none }) (v := ?_) rfl (by kernel_rfl) (fun _ _ _ h => h) (Or.inl ⟨by rfl, ?_⟩) HS.out ?_
        rotate_left
        · intro w9 hSw; (try dsimp only at hSw); go_simp; try (with_reducible rfl)
        try simp only [Act.put, List.setIfInBounds_toArray, List.set_cons_zero, List.set_cons_succ]
        refine anyP_take (i := 1) (oi := { dst := some 24, op := Go.Op.load 33 (Go.Operand.tmp 23), type := 33, pos := "law.go:52", after := #[{ on := 0, ground := Go.Ground.data }], guard := none }) (v := ?_) rfl (by kernel_rfl) (fun _ _ _ h => h) (Or.inl ⟨by rfl, ?_⟩) HS.out ?_
        rotate_left
        · intro w9 hSw; (try dsimp only at hSw); go_simp; try (with_reducible rfl)
        try simp only [Act.put, List.setIfInBounds_toArray, List.set_cons_zero, List.set_cons_succ]
        refine anyP_take (i := 2) (oi := { dst := some 25, op := Go.Op.move (Go.Operand.tmp 4), type := 3, pos := "law.go:52", after := #[], guard := none }) (v := ?_) rfl (by kernel_rfl) (fun _ _ _ h => h) (Or.inl ⟨by rfl, ?_⟩) HS.out ?_
        rotate_left
        · intro w9 hSw; (try dsimp only at hSw); go_simp; try (with_reducible rfl)
        try simp only [Act.put, List.setIfInBounds_toArray, List.set_cons_zero, List.set_cons_succ]
        refine anyP_take (i := 3) (oi := { dst := some 26, op := Go.Op.fieldAddr 35 (Go.Operand.tmp 1) 2, type := 0, pos := "law.go:52", after := #[], guard := none }) (v := ?_) rfl (by kernel_rfl) (fun _ _ _ h => h) (Or.inl ⟨by rfl, ?_⟩) HS.out ?_
        rotate_left
        · intro w9 hSw; (try dsimp only at hSw); go_simp; try (with_reducible rfl)
        try simp only [Act.put, List.setIfInBounds_toArray, List.set_cons_zero, List.set_cons_succ]
        refine anyP_take (i := 4) (oi := { dst := some 27, op := Go.Op.load 33 (Go.Operand.tmp 26), type := 33, pos := "law.go:52", after := #[{ on := 3, ground := Go.Ground.data }], guard := none }) (v := ?_) rfl (by kernel_rfl) (fun _ _ _ h => h) (Or.inl ⟨by rfl, ?_⟩) HS.out ?_
        rotate_left
        · intro w9 hSw; (try dsimp only at hSw); go_simp; try (with_reducible rfl)
        try simp only [Act.put, List.setIfInBounds_toArray, List.set_cons_zero, List.set_cons_succ]
        refine anyP_take (i := 5) (oi := { dst := some 28, op := Go.Op.move (Go.Operand.tmp 4), type := 3, pos := "law.go:52", after := #[], guard := none }) (v := ?_) rfl (by kernel_rfl) (fun _ _ _ h => h) (Or.inl ⟨by rfl, ?_⟩) HS.out ?_
        rotate_left
        · intro w9 hSw; (try dsimp only at hSw); go_simp; try (with_reducible rfl)
        try simp only [Act.put, List.setIfInBounds_toArray, List.set_cons_zero, List.set_cons_succ]
        refine anyP_take (i := 6) (oi := { dst := some 29, op := Go.Op.indexAddr 33 (Go.Operand.tmp 27) (Go.Operand.tmp 28), type := 0, pos := "law.go:52", after := #[{ on := 4, ground := Go.Ground.data }, { on := 5, ground := Go.Ground.data }], guard := none }) (v := ?_) rfl (by kernel_rfl) (fun _ _ _ h => h) (Or.inl ⟨by rfl, ?_⟩) HS.out ?_
        rotate_left
        · intro w9 hSw; (try dsimp only at hSw); go_simp; try (with_reducible rfl)
        try simp only [Act.put, List.setIfInBounds_toArray, List.set_cons_zero, List.set_cons_succ]
        refine anyP_take (i := 7) (oi := { dst := some 30, op := Go.Op.load 35 (Go.Operand.tmp 29), type := 35, pos := "law.go:52", after := #[{ on := 6, ground := Go.Ground.data }], guard := none }) (v := ?_) rfl (by kernel_rfl) (fun _ _ _ h => h) (Or.inl ⟨by rfl, ?_⟩) HS.out ?_
        rotate_left
        · intro w9 hSw; (try dsimp only at hSw); go_simp; try (with_reducible rfl)
        try simp only [Act.put, List.setIfInBounds_toArray, List.set_cons_zero, List.set_cons_succ]
        refine anyP_ready (rs := [8]) (by kernel_rfl) (by simp) ?_
        refine ReadyP.cons (o := { dst := some 31, op := Go.Op.call { callee := Go.Callee.value (Go.Operand.func 15), args := #[Go.Operand.tmp 30], argTypes := #[35] }, type := 35, pos := "law.go:52", after := #[{ on := 7, ground := Go.Ground.data }], guard := none }) rfl (fun K hK => ?_) ReadyP.nil
        go_simp
        refine (HCL.out).mono ?_
        rintro e w2 ⟨g, rfl, hcop, hb2⟩
        refine hK.out _ _ (fun _ => HSA.out w2 hb2) ?_
        have HS2 := Lib.hid (HSA.out w2 hb2)
        obtain ⟨⟨cur, hh, hf⟩, hput⟩ := (HD.out.later hb2).put (by omega) HY.out hcop HD.out.size
        have HH := Lib.hid hh
        have HF := Lib.hid hf
        have HP := Lib.hid hput
        clear hK K hb2 hcop hh hf hput
        try simp only [Act.put, List.setIfInBounds_toArray, List.set_cons_zero, List.set_cons_succ]
        refine anyP_take (i := 9) (oi := { dst := some 32, op := Go.Op.indexAddr 33 (Go.Operand.tmp 24) (Go.Operand.tmp 25), type := 0, pos := "law.go:52", after := #[{ on := 1, ground := Go.Ground.data }, { on := 2, ground := Go.Ground.data }, { on := 0, ground := Go.Ground.phase }, { on := 1, ground := Go.Ground.phase }, { on := 2, ground := Go.Ground.phase }, { on := 3, ground := Go.Ground.phase }, { on := 4, ground := Go.Ground.phase }, { on := 5, ground := Go.Ground.phase }, { on := 6, ground := Go.Ground.phase }, { on := 7, ground := Go.Ground.phase }, { on := 8, ground := Go.Ground.phase }], guard := none }) (v := ?_) rfl (by kernel_rfl) (fun _ _ _ h => h) (Or.inl ⟨by rfl, ?_⟩) HS2.out ?_
        rotate_left
        · intro w9 hSw; (try dsimp only at hSw); go_simp; try (with_reducible rfl)
        try simp only [Act.put, List.setIfInBounds_toArray, List.set_cons_zero, List.set_cons_succ]
        refine anyP_ready (rs := [10]) (by kernel_rfl) (by simp) ?_
        refine ReadyP.cons (o := { dst := none, op := Go.Op.store 35 (Go.Operand.tmp 32) (Go.Operand.tmp 31), type := 0, pos := "law.go:52", after := #[{ on := 9, ground := Go.Ground.data }, { on := 8, ground := Go.Ground.data }, { on := 8, ground := Go.Ground.chain }, { on := 0, ground := Go.Ground.phase }, { on := 1, ground := Go.Ground.phase }, { on := 2, ground := Go.Ground.phase }, { on := 3, ground := Go.Ground.phase }, { on := 4, ground := Go.Ground.phase }, { on := 5, ground := Go.Ground.phase }, { on := 6, ground := Go.Ground.phase }, { on := 7, ground := Go.Ground.phase }, { on := 8, ground := Go.Ground.phase }], guard := none }) rfl (fun K hK => ?_) ReadyP.nil
        refine step_store rfl rfl 35 (.tmp 32) (.tmp 31) rfl (g := w.heap.size + 1 + 1 + 1) (off := i * 8) _ (ndCells y.f0 y.f1 (.slice (some ⟨g, 0, none⟩) y.f2.length (y.f2.length + 1))) rfl rfl rfl infoNd8 (ndCells_one _ _ rfl) HH.out HF.out ?_
        refine hK.out _ _ (fun h => absurd h (by decide)) ?_
        clear hK K
        have HP5 : Hid (CInv w (w2.setCells (w.heap.size + 1 + 1 + 1) (i * 8) (ndCells y.f0 y.f1 (.slice (some ⟨g, 0, none⟩) y.f2.length (y.f2.length + 1)))) x (some ad) c (i + 1)) := HP
        clear HP HH HF
        generalize w2.setCells (w.heap.size + 1 + 1 + 1) (i * 8) (ndCells y.f0 y.f1 (.slice (some ⟨g, 0, none⟩) y.f2.length (y.f2.length + 1))) = w5 at HP5 ⊢
        refine anyP_done (by kernel_rfl) ?_ _
        try simp only [Exit.then]
        go_wp2
        go_roundw
        case rel => exact ⟨i + 1, by omega, by go_num, HP5⟩
        case measure => simp [intOf] <;> omega
      · have dlt : decide (i < x.f2.length) = false := decide_eq_false hlt
        obtain rfl : i = x.f2.length := by omega
        have g2 : (x.f2.length : Int) < (x.f2.length : Int) + 1 := by omega
        obtain ⟨p0, p1, p2, p3, p4, p5, p6, p7⟩ := nd_box (b := w.heap.size + 1 + 1) H.out.b2 wr (Below.refl _ _)
        obtain ⟨⟨cur, hh, hf⟩, hdone⟩ := H.out.done (by have : maxLen = 9223372036854775807 := rfl; omega)
        have HH := Lib.hid hh
        have HF := Lib.hid hf
        have HDN := Lib.hid hdone
        clear hh hf hdone
        go_wp2_with (first
          | ((with_reducible refine gate_ (.store 35 (.tmp 45) (.tmp 44)) rfl ?_); refine wl_cells rfl rfl _ _ _ rfl (g := w.heap.size + 3) (off := x.f2.length * 8) (.agg markC.toArray) markC rfl rfl rfl infoNd8 (ndCells_one _ _ rfl) HH.out HF.out ?_; intro w5 hw5; obtain ⟨hcop, far, hb5, hz5⟩ := HDN.out w5 hw5; have H5 := Lib.hid (And.intro hcop hb5); obtain ⟨p0, p1, p2, p3, p4, p5, p6, p7⟩ := nd_box (b := w.heap.size + 1 + 1) ((far _ (by omega)).trans H.out.b2) w5 (Below.refl _ _); have HB := Lib.hid ((far (w.heap.size + 1) (by omega)).trans H.out.b1); clear hw5 hcop far hb5 hz5)
          | ((with_reducible refine gate_ (.store 35 (.tmp 2) (.tmp 46)) rfl ?_); refine wl_box rfl rfl _ _ _ rfl (g := w.heap.size + 1) (.agg (ndCells x.f0 x.f1 (.slice (some ⟨w.heap.size + 1 + 1 + 1, 0, none⟩) x.f2.length (x.f2.length + 1))).toArray) (ndCells x.f0 x.f1 (.slice (some ⟨w.heap.size + 1 + 1 + 1, 0, none⟩) x.f2.length (x.f2.length + 1))) rfl rfl rfl infoNd8 (ndCells_one _ _ rfl) HB.out rfl ?_; intro w6 h6 hu6; have HU := Lib.hid hu6; have H6 := Lib.hid h6; obtain ⟨r0, r1, r2, r3, r4, r5, r6, r7⟩ := nd_box (b := w.heap.size + 1) h6 w6 (Below.refl _ _); clear h6 hu6))
        refine bodyPost_ret (v := .agg (ndCells x.f0 x.f1 (.slice (some ⟨w.heap.size + 1 + 1 + 1, 0, none⟩) x.f2.length (x.f2.length + 1))).toArray) ?_ rfl ⟨w.heap.size + 3, rfl, ?_, HU.out.below H5.out.2 (by omega)⟩
        · unfold results
          rw [show Try.f15.results = #[.cell 2 35] from rfl]
          go_simp
          rfl
        · exact cop_lower (by omega) _ (cop_move (fun b hb _ => HU.out.far b (by omega)) x H5.out.1)
end Go.Proofs.Ytfefldkljbbbpaa

/- kept: the walk. (Printed by genkept.py.) -/
set_option linter.unusedVariables false
set_option linter.unusedSimpArgs false
namespace Go.Proofs.Ytfefldkljbbbpaa
open Go.RowKit Go.Shelf Go.Proofs.YtfefldkljbbbpaaW.PrintWords Go.Proofs.YtfefldkljbbbpaaW.PrintLast Go.Proofs.YtfefldkljbbbpaaW.PrintMore

set_option maxRecDepth 100000 in
set_option maxHeartbeats 4000000 in
theorem kept_any : ∀ (N : Nat) (x : Nd) (A : Option Addr) (c g base : Nat) (w : World), nds x ≤ N → nds x ≤ 1073741824 → x.f2.length ≤ c → Kd.C kNd w A x.f2.length x.f2 → Cop w base x (ndCells x.f0 x.f1 (.slice (some ⟨g, 0, none⟩) x.f2.length (x.f2.length + 1))) →
    Calls Try.prog 18 #[.agg #[.int .u8 x.f0, .int .u8 x.f1.f0, .string x.f1.f1, .int .i64 x.f1.f2.f0, .int .i64 x.f1.f2.f1, .int .i64 x.f1.f2.f2, .int .i64 x.f1.f3, .slice (some ⟨g, 0, none⟩) x.f2.length (x.f2.length + 1)], .agg #[.int .u8 x.f0, .int .u8 x.f1.f0, .string x.f1.f1, .int .i64 x.f1.f2.f0, .int .i64 x.f1.f2.f1, .int .i64 x.f1.f2.f2, .int .i64 x.f1.f3, .slice A x.f2.length c]] w fun e w' => e = .returned (.bool true) ∧ Below w.heap.size w w' := by
  intro N
  induction N with
  | zero => intro x A c g base w hN; have := nds_pos x; omega
  | succ N ih =>
    intro x A c g base w hN hbig hlc hC hcop
    have hn : x.f2.length ≤ 1073741823 := by rw [nds_eq] at hbig; have := ndsL_len x.f2; omega
    rw [cop_iff] at hcop
    obtain ⟨g', cells, hgb, he, hh, hmx, hL⟩ := hcop
    obtain rfl : g = g' := by simp [ndCells] at he; exact he
    have IH := Lib.hid ih
    have HC := Lib.hid hC
    have HLC := Lib.hid hlc
    have HNN := Lib.hid (And.intro hN hbig)
    have HL := Lib.hid hL
    have HH := Lib.hid hh
    have HLEN := Lib.hid (copL_len hL)
    obtain ⟨W0, hW0⟩ : ∃ V, (w.alloc (.cells #[.int .u8 x.f0, .int .u8 x.f1.f0, .string x.f1.f1, .int .i64 x.f1.f2.f0, .int .i64 x.f1.f2.f1, .int .i64 x.f1.f2.f2, .int .i64 x.f1.f3, .slice (some ⟨g, 0, none⟩) x.f2.length (x.f2.length + 1)] TN)).alloc (.cells #[.int .u8 x.f0, .int .u8 x.f1.f0, .string x.f1.f1, .int .i64 x.f1.f2.f0, .int .i64 x.f1.f2.f1, .int .i64 x.f1.f2.f2, .int .i64 x.f1.f3, .slice A x.f2.length c] TN) = V := ⟨_, rfl⟩
    have hb0 : Below w.heap.size w W0 := by rw [← hW0]; exact ((Below.refl _ w).alloc (Nat.le_refl _) _).alloc (by simp) _
    have h0 : W0.heap[w.heap.size]? = some (.cells #[.int .u8 x.f0, .int .u8 x.f1.f0, .string x.f1.f1, .int .i64 x.f1.f2.f0, .int .i64 x.f1.f2.f1, .int .i64 x.f1.f2.f2, .int .i64 x.f1.f3, .slice (some ⟨g, 0, none⟩) x.f2.length (x.f2.length + 1)] TN (0, 0)) := by rw [← hW0]; exact (Below.heap_alloc _ _ _ (by simp)).trans (World.alloc_heap_new w _)
    have h1 : W0.heap[w.heap.size + 1]? = some (.cells #[.int .u8 x.f0, .int .u8 x.f1.f0, .string x.f1.f1, .int .i64 x.f1.f2.f0, .int .i64 x.f1.f2.f1, .int .i64 x.f1.f2.f2, .int .i64 x.f1.f3, .slice A x.f2.length c] TN (0, 0)) := by
      rw [← hW0]
      have := World.alloc_heap_new (w.alloc (.cells #[.int .u8 x.f0, .int .u8 x.f1.f0, .string x.f1.f1, .int .i64 x.f1.f2.f0, .int .i64 x.f1.f2.f1, .int .i64 x.f1.f2.f2, .int .i64 x.f1.f3, .slice (some ⟨g, 0, none⟩) x.f2.length (x.f2.length + 1)] TN)) (.cells #[.int .u8 x.f0, .int .u8 x.f1.f0, .string x.f1.f1, .int .i64 x.f1.f2.f0, .int .i64 x.f1.f2.f1, .int .i64 x.f1.f2.f2, .int .i64 x.f1.f3, .slice A x.f2.length c] TN)
      rwa [World.size_alloc] at this
    have HW0 := Lib.hid hW0
    have HB0 := Lib.hid hb0
    have H0 := Lib.hid (nd_box h0)
    have H1 := Lib.hid (nd_box h1)
    clear ih hC hlc hN hbig hh hL hb0 h0 h1 hgb he hmx hW0
    go_enter Try.func18, Try.ntmps18
    go_upto_region 3 with (fail)
    rw [HW0.out]
    clear HW0
    go_wp2
    go_loopw [5] (fun iv wr => ∃ i : Nat, i ≤ x.f2.length ∧ iv = .int .i64 i ∧ Hid (Below W0.heap.size W0 wr)) (fun iv _ => x.f2.length - (intOf iv).toNat)
    case atStart => exact ⟨0, Nat.zero_le _, rfl, Lib.hid (Below.refl _ _)⟩
    case round =>
      obtain ⟨i, hi, rfl, HR⟩ := hrel
      obtain ⟨p0, p1, p2, p3, p4, p5, p6, p7⟩ := H0.out wr HR.out
      obtain ⟨q0, q1, q2, q3, q4, q5, q6, q7⟩ := H1.out wr HR.out
      by_cases hlt : i < x.f2.length
      · have dlt : decide (i < x.f2.length) = true := decide_eq_true hlt
        obtain ⟨y, hy⟩ : ∃ y, x.f2[i]? = some y := ⟨_, List.getElem?_eq_getElem hlt⟩
        go_upto_region 6 with (fail)
        obtain ⟨Wd, hWd⟩ : ∃ V, wr.drew = V := ⟨_, rfl⟩
        have hbd : Below wr.heap.size wr Wd := by rw [← hWd]; exact (Below.refl _ wr).drew
        have hwd : Below w.heap.size w Wd := (HB0.out.trans (HR.out.mono HB0.out.size)).trans (hbd.mono (HB0.out.trans (HR.out.mono HB0.out.size)).size)
        have h0d : Below W0.heap.size W0 Wd := HR.out.trans (hbd.mono HR.out.size)
        obtain ⟨ad, A1, c1, rfl, hcs, hl1, hC1⟩ := kid_at (Kd.C_below HC.out hwd) i y hlt hy
        obtain ⟨cy, hcy, hcell⟩ := copL_get HL.out i y hy
        obtain ⟨gy, rfl, -⟩ := cop_C hcy
        have hhd : Wd.heap[g]? = some (.cells (cells ++ markC).toArray TN (0, 0)) := (hwd.block g (blk_lt HH.out)).trans HH.out
        have hat : ∀ (j : Nat) (v : Value), (ndCells y.f0 y.f1 (.slice (some ⟨gy, 0, none⟩) y.f2.length (y.f2.length + 1)))[j]? = some v → Wd.cell? ⟨g, i * 8 + j, none⟩ = some v := fun j v hj => by
          have := hcell j v hj
          have hlt2 := (List.getElem?_eq_some_iff.1 this).1
          rw [cell_of_row _ _ _ _ _ _ hhd]
          simp only [List.getElem?_toArray]
          rw [List.getElem?_append_left hlt2]
          exact this
        have hSall : ∀ V, Below Wd.heap.size Wd V → V.cell? ⟨w.heap.size, 7, none⟩ = some (.slice (some ⟨g, 0, none⟩) x.f2.length (x.f2.length + 1)) ∧ V.cell? ⟨w.heap.size + 1, 7, none⟩ = some (.slice (some ad) x.f2.length c) ∧ V.cell? (ad.add (i * 8)) = some (.int .u8 y.f0) ∧ V.cell? ⟨(ad.add (i * 8)).block, (ad.add (i * 8)).off + 1, none⟩ = some (.int .u8 y.f1.f0) ∧ V.cell? ⟨(ad.add (i * 8)).block, (ad.add (i * 8)).off + 2, none⟩ = some (.string y.f1.f1) ∧ V.cell? ⟨(ad.add (i * 8)).block, (ad.add (i * 8)).off + 3, none⟩ = some (.int .i64 y.f1.f2.f0) ∧ V.cell? ⟨(ad.add (i * 8)).block, (ad.add (i * 8)).off + 4, none⟩ = some (.int .i64 y.f1.f2.f1) ∧ V.cell? ⟨(ad.add (i * 8)).block, (ad.add (i * 8)).off + 5, none⟩ = some (.int .i64 y.f1.f2.f2) ∧ V.cell? ⟨(ad.add (i * 8)).block, (ad.add (i * 8)).off + 6, none⟩ = some (.int .i64 y.f1.f3) ∧ V.cell? ⟨(ad.add (i * 8)).block, (ad.add (i * 8)).off + 7, none⟩ = some (.slice A1 y.f2.length c1) ∧ V.cell? ⟨g, i * 8, none⟩ = some (.int .u8 y.f0) ∧ V.cell? ⟨g, i * 8 + 1, none⟩ = some (.int .u8 y.f1.f0) ∧ V.cell? ⟨g, i * 8 + 2, none⟩ = some (.string y.f1.f1) ∧ V.cell? ⟨g, i * 8 + 3, none⟩ = some (.int .i64 y.f1.f2.f0) ∧ V.cell? ⟨g, i * 8 + 4, none⟩ = some (.int .i64 y.f1.f2.f1) ∧ V.cell? ⟨g, i * 8 + 5, none⟩ = some (.int .i64 y.f1.f2.f2) ∧ V.cell? ⟨g, i * 8 + 6, none⟩ = some (.int .i64 y.f1.f3) ∧ V.cell? ⟨g, i * 8 + 7, none⟩ = some (.slice (some ⟨gy, 0, none⟩) y.f2.length (y.f2.length + 1)) := fun V hV => ⟨(H0.out V (h0d.trans (hV.mono h0d.size))).2.2.2.2.2.2.2, (H1.out V (h0d.trans (hV.mono h0d.size))).2.2.2.2.2.2.2, pw_cell_below hV hcs.1, pw_cell_below hV hcs.2.1, pw_cell_below hV hcs.2.2.1, pw_cell_below hV hcs.2.2.2.1, pw_cell_below hV hcs.2.2.2.2.1, pw_cell_below hV hcs.2.2.2.2.2.1, pw_cell_below hV hcs.2.2.2.2.2.2.1, pw_cell_below hV hcs.2.2.2.2.2.2.2, pw_cell_below hV (hat 0 _ rfl), pw_cell_below hV (hat 1 _ rfl), pw_cell_below hV (hat 2 _ rfl), pw_cell_below hV (hat 3 _ rfl), pw_cell_below hV (hat 4 _ rfl), pw_cell_below hV (hat 5 _ rfl), pw_cell_below hV (hat 6 _ rfl), pw_cell_below hV (hat 7 _ rfl)⟩
        have HSA := Lib.hid hSall
        have HS := Lib.hid (hSall Wd (Below.refl _ _))
        have HWd := Lib.hid hWd
        have HBD := Lib.hid h0d
        have hny : nds y ≤ ndsL x.f2 := ndsL_mem (List.mem_of_getElem? hy)
        have HKC := Lib.hid (IH.out y A1 c1 gy base Wd (by have := HNN.out.1; rw [nds_eq] at this; omega) (by have := HNN.out.2; rw [nds_eq] at this; omega) hl1 hC1 (cop_below hcy hwd))
        have g1 : (0 : Int) ≤ (i : Int) := by omega
        have g2 : (i : Int) < (x.f2.length : Int) := by omega
        clear hbd hwd h0d hcs hl1 hC1 hcy hcell hhd hat hSall hy hWd hny p0 p1 p2 p3 p4 p5 p6 p7 q0 q1 q2 q3 q4 q5 q6 q7
        refine wp_region_P (fun w' => w'.cell? ⟨w.heap.size, 7, none⟩ = some (.slice (some ⟨g, 0, none⟩) x.f2.length (x.f2.length + 1)) ∧ w'.cell? ⟨w.heap.size + 1, 7, none⟩ = some (.slice (some ad) x.f2.length c) ∧ w'.cell? (ad.add (i * 8)) = some (.int .u8 y.f0) ∧ w'.cell? ⟨(ad.add (i * 8)).block, (ad.add (i * 8)).off + 1, none⟩ = some (.int .u8 y.f1.f0) ∧ w'.cell? ⟨(ad.add (i * 8)).block, (ad.add (i * 8)).off + 2, none⟩ = some (.string y.f1.f1) ∧ w'.cell? ⟨(ad.add (i * 8)).block, (ad.add (i * 8)).off + 3, none⟩ = some (.int .i64 y.f1.f2.f0) ∧ w'.cell? ⟨(ad.add (i * 8)).block, (ad.add (i * 8)).off + 4, none⟩ = some (.int .i64 y.f1.f2.f1) ∧ w'.cell? ⟨(ad.add (i * 8)).block, (ad.add (i * 8)).off + 5, none⟩ = some (.int .i64 y.f1.f2.f2) ∧ w'.cell? ⟨(ad.add (i * 8)).block, (ad.add (i * 8)).off + 6, none⟩ = some (.int .i64 y.f1.f3) ∧ w'.cell? ⟨(ad.add (i * 8)).block, (ad.add (i * 8)).off + 7, none⟩ = some (.slice A1 y.f2.length c1) ∧ w'.cell? ⟨g, i * 8, none⟩ = some (.int .u8 y.f0) ∧ w'.cell? ⟨g, i * 8 + 1, none⟩ = some (.int .u8 y.f1.f0) ∧ w'.cell? ⟨g, i * 8 + 2, none⟩ = some (.string y.f1.f1) ∧ w'.cell? ⟨g, i * 8 + 3, none⟩ = some (.int .i64 y.f1.f2.f0) ∧ w'.cell? ⟨g, i * 8 + 4, none⟩ = some (.int .i64 y.f1.f2.f1) ∧ w'.cell? ⟨g, i * 8 + 5, none⟩ = some (.int .i64 y.f1.f2.f2) ∧ w'.cell? ⟨g, i * 8 + 6, none⟩ = some (.int .i64 y.f1.f3) ∧ w'.cell? ⟨g, i * 8 + 7, none⟩ = some (.slice (some ⟨gy, 0, none⟩) y.f2.length (y.f2.length + 1))) (fun _ => true) (by kernel_rfl) ?_
        rw [HWd.out]
        refine anyP_take (i := 0) (oi := { dst := some 36, op := Go.Op.fieldAddr 35 (Go.Operand.tmp 2) 2, type := 0, pos := "law.go:65", after := #[], guard := none }) (v := ?_) rfl (by kernel_rfl) (fun _ _ _ h => h) (Or.inl ⟨by rfl, ?_⟩) HS.out ?_
        rotate_left
        · intro w9 hSw; (try dsimp only at hSw); go_simp; try (with_reducible rfl)
        try simp only [Act.put, List.setIfInBounds_toArray, List.set_cons_zero, List.set_cons_succ]
        refine anyP_take (i := 1) (oi := { dst := some 37, op := Go.Op.load 33 (Go.Operand.tmp 36), type := 33, pos := "law.go:65", after := #[{ on := 0, ground := Go.Ground.data }], guard := none }) (v := ?_) rfl (by kernel_rfl) (fun _ _ _ h => h) (Or.inl ⟨by rfl, ?_⟩) HS.out ?_
        rotate_left
        · intro w9 hSw; (try dsimp only at hSw); go_simp; try (with_reducible rfl)
        try simp only [Act.put, List.setIfInBounds_toArray, List.set_cons_zero, List.set_cons_succ]
        refine anyP_take (i := 2) (oi := { dst := some 38, op := Go.Op.move (Go.Operand.tmp 5), type := 3, pos := "law.go:65", after := #[], guard := none }) (v := ?_) rfl (by kernel_rfl) (fun _ _ _ h => h) (Or.inl ⟨by rfl, ?_⟩) HS.out ?_
        rotate_left
        · intro w9 hSw; (try dsimp only at hSw); go_simp; try (with_reducible rfl)
        try simp only [Act.put, List.setIfInBounds_toArray, List.set_cons_zero, List.set_cons_succ]
        refine anyP_take (i := 3) (oi := { dst := some 39, op := Go.Op.indexAddr 33 (Go.Operand.tmp 37) (Go.Operand.tmp 38), type := 0, pos := "law.go:65", after := #[{ on := 1, ground := Go.Ground.data }, { on := 2, ground := Go.Ground.data }], guard := none }) (v := ?_) rfl (by kernel_rfl) (fun _ _ _ h => h) (Or.inl ⟨by rfl, ?_⟩) HS.out ?_
        rotate_left
        · intro w9 hSw; (try dsimp only at hSw); go_simp; try (with_reducible rfl)
        try simp only [Act.put, List.setIfInBounds_toArray, List.set_cons_zero, List.set_cons_succ]
        refine anyP_take (i := 4) (oi := { dst := some 40, op := Go.Op.load 35 (Go.Operand.tmp 39), type := 35, pos := "law.go:65", after := #[{ on := 3, ground := Go.Ground.data }], guard := none }) (v := ?_) rfl (by kernel_rfl) (fun _ _ _ h => h) (Or.inl ⟨by rfl, ?_⟩) HS.out ?_
        rotate_left
        · intro w9 hSw; (try dsimp only at hSw); go_simp; try (with_reducible rfl)
        try simp only [Act.put, List.setIfInBounds_toArray, List.set_cons_zero, List.set_cons_succ]
        refine anyP_take (i := 5) (oi := { dst := some 41, op := Go.Op.fieldAddr 35 (Go.Operand.tmp 3) 2, type := 0, pos := "law.go:65", after := #[], guard := none }) (v := ?_) rfl (by kernel_rfl) (fun _ _ _ h => h) (Or.inl ⟨by rfl, ?_⟩) HS.out ?_
        rotate_left
        · intro w9 hSw; (try dsimp only at hSw); go_simp; try (with_reducible rfl)
        try simp only [Act.put, List.setIfInBounds_toArray, List.set_cons_zero, List.set_cons_succ]
        refine anyP_take (i := 6) (oi := { dst := some 42, op := Go.Op.load 33 (Go.Operand.tmp 41), type := 33, pos := "law.go:65", after := #[{ on := 5, ground := Go.Ground.data }], guard := none }) (v := ?_) rfl (by kernel_rfl) (fun _ _ _ h => h) (Or.inl ⟨by rfl, ?_⟩) HS.out ?_
        rotate_left
        · intro w9 hSw; (try dsimp only at hSw); go_simp; try (with_reducible rfl)
        try simp only [Act.put, List.setIfInBounds_toArray, List.set_cons_zero, List.set_cons_succ]
        refine anyP_take (i := 7) (oi := { dst := some 43, op := Go.Op.move (Go.Operand.tmp 5), type := 3, pos := "law.go:65", after := #[], guard := none }) (v := ?_) rfl (by kernel_rfl) (fun _ _ _ h => h) (Or.inl ⟨by rfl, ?_⟩) HS.out ?_
        rotate_left
        · intro w9 hSw; (try dsimp only at hSw); go_simp; try (with_reducible rfl)
        try simp only [Act.put, List.setIfInBounds_toArray, List.set_cons_zero, List.set_cons_succ]
        refine anyP_take (i := 8) (oi := { dst := some 44, op := Go.Op.indexAddr 33 (Go.Operand.tmp 42) (Go.Operand.tmp 43), type := 0, pos := "law.go:65", after := #[{ on := 6, ground := Go.Ground.data }, { on := 7, ground := Go.Ground.data }], guard := none }) (v := ?_) rfl (by kernel_rfl) (fun _ _ _ h => h) (Or.inl ⟨by rfl, ?_⟩) HS.out ?_
        rotate_left
        · intro w9 hSw; (try dsimp only at hSw); go_simp; try (with_reducible rfl)
        try simp only [Act.put, List.setIfInBounds_toArray, List.set_cons_zero, List.set_cons_succ]
        refine anyP_take (i := 9) (oi := { dst := some 45, op := Go.Op.load 35 (Go.Operand.tmp 44), type := 35, pos := "law.go:65", after := #[{ on := 8, ground := Go.Ground.data }], guard := none }) (v := ?_) rfl (by kernel_rfl) (fun _ _ _ h => h) (Or.inl ⟨by rfl, ?_⟩) HS.out ?_
        rotate_left
        · intro w9 hSw; (try dsimp only at hSw); go_simp; try (with_reducible rfl)
        try simp only [Act.put, List.setIfInBounds_toArray, List.set_cons_zero, List.set_cons_succ]
        refine anyP_ready (rs := [10]) (by kernel_rfl) (by simp) ?_
        refine ReadyP.cons (o := { dst := some 46, op := Go.Op.call { callee := Go.Callee.value (Go.Operand.func 18), args := #[Go.Operand.tmp 40, Go.Operand.tmp 45], argTypes := #[35, 35] }, type := 4, pos := "law.go:65", after := #[{ on := 4, ground := Go.Ground.data }, { on := 9, ground := Go.Ground.data }], guard := none }) rfl (fun K hK => ?_) ReadyP.nil
        go_simp
        refine (HKC.out).mono ?_
        rintro e w2 ⟨rfl, hb2⟩
        refine hK.out _ _ (fun _ => HSA.out w2 hb2) ?_
        have HS2 := Lib.hid (HSA.out w2 hb2)
        have HB2 := Lib.hid (HBD.out.trans (hb2.mono HBD.out.size))
        clear hK K hb2
        try simp only [Act.put, List.setIfInBounds_toArray, List.set_cons_zero, List.set_cons_succ]
        refine anyP_take (i := 11) (oi := { dst := some 6, op := Go.Op.assign (Go.Operand.tmp 46), type := 4, pos := "law.go:65", after := #[{ on := 10, ground := Go.Ground.data }, { on := 10, ground := Go.Ground.chain }, { on := 0, ground := Go.Ground.phase }, { on := 1, ground := Go.Ground.phase }, { on := 2, ground := Go.Ground.phase }, { on := 3, ground := Go.Ground.phase }, { on := 4, ground := Go.Ground.phase }, { on := 5, ground := Go.Ground.phase }, { on := 6, ground := Go.Ground.phase }, { on := 7, ground := Go.Ground.phase }, { on := 8, ground := Go.Ground.phase }, { on := 9, ground := Go.Ground.phase }, { on := 10, ground := Go.Ground.phase }], guard := none }) (v := ?_) rfl (by kernel_rfl) (fun _ _ _ h => h) (Or.inl ⟨by rfl, ?_⟩) HS2.out ?_
        rotate_left
        · intro w9 hSw; (try dsimp only at hSw); go_simp; try (with_reducible rfl)
        try simp only [Act.put, List.setIfInBounds_toArray, List.set_cons_zero, List.set_cons_succ]
        refine anyP_done (by kernel_rfl) ?_ _
        try simp only [Exit.then]
        go_wp2
        go_roundw
        case rel => exact ⟨i + 1, by omega, by go_num, HB2⟩
        case measure => simp [intOf] <;> omega
      · have dlt : decide (i < x.f2.length) = false := decide_eq_false hlt
        obtain rfl : i = x.f2.length := by omega
        have g2 : (x.f2.length : Int) < (x.f2.length : Int) + 1 := by omega
        have hw : Below w.heap.size w wr := HB0.out.trans (HR.out.mono HB0.out.size)
        have hhd : wr.heap[g]? = some (.cells (cells ++ markC).toArray TN (0, 0)) := (hw.block g (blk_lt HH.out)).trans HH.out
        have m0 : wr.cell? ⟨g, x.f2.length * 8, none⟩ = some (.int .u8 99) := by
          rw [cell_of_row _ _ _ _ _ _ hhd]
          simp only [List.getElem?_toArray]
          rw [List.getElem?_append_right (by rw [HLEN.out]; exact Nat.le_refl _), HLEN.out, Nat.sub_self]
          rfl
        have HW := Lib.hid hw
        clear hw hhd
        go_wp2
        go_ret
        exact ⟨rfl, HW.out⟩
end Go.Proofs.Ytfefldkljbbbpaa
