/- What the claim stands on: part Je. -/
import Derived.Test.YtfefldkljbbbpaaJc
import Derived.Test.YtfefldkljbbbpaaJd
import Derived.Laws.MakeOwn
import Derived.Deep.QuietTactic
set_option linter.unusedVariables false
set_option linter.unusedSimpArgs false
namespace Go.Proofs.Ytfefldkljbbbpaa
open Go.RowKit Go.Shelf Go.Proofs.YtfefldkljbbbpaaW.PrintWords Go.Proofs.YtfefldkljbbbpaaW.PrintLast Go.Proofs.YtfefldkljbbbpaaW.PrintMore
def markC : List Value := ndCells 99 noTk (.slice none 0 0)
mutual
def Cop (w : World) (base : Nat) : Nd → List Value → Prop
  | ⟨k, t, kids⟩, cs => ∃ g cells, base ≤ g ∧ cs = ndCells k t (.slice (some ⟨g, 0, none⟩) kids.length (kids.length + 1)) ∧ w.heap[g]? = some (.cells (cells ++ markC).toArray TN (0, 0)) ∧ kids.length + 1 ≤ maxLen ∧ CopL w base kids cells
def CopL (w : World) (base : Nat) : List Nd → List Value → Prop
  | [], cells => cells = []
  | x :: xs, cells => ∃ c cs, cells = c ++ cs ∧ Cop w base x c ∧ CopL w base xs cs
end
theorem cop_iff {w : World} {base : Nat} {x : Nd} {cs : List Value} : Cop w base x cs ↔ ∃ g cells, base ≤ g ∧ cs = ndCells x.f0 x.f1 (.slice (some ⟨g, 0, none⟩) x.f2.length (x.f2.length + 1)) ∧ w.heap[g]? = some (.cells (cells ++ markC).toArray TN (0, 0)) ∧ x.f2.length + 1 ≤ maxLen ∧ CopL w base x.f2 cells := by
  obtain ⟨k, t, kids⟩ := x
  rw [Cop]
theorem cop_len {w : World} {base : Nat} {x : Nd} {cs : List Value} (h : Cop w base x cs) : cs.length = 8 := by
  rw [cop_iff] at h
  obtain ⟨g, cells, _, rfl, _⟩ := h
  rfl
theorem copL_len {w : World} {base : Nat} : ∀ {xs : List Nd} {cs : List Value}, CopL w base xs cs → cs.length = xs.length * 8
  | [], cs, h => by rw [CopL] at h; subst h; rfl
  | x :: xs, cs, h => by
    rw [CopL] at h
    obtain ⟨c, cs', rfl, h2, h3⟩ := h
    have := cop_len h2
    have := copL_len h3
    simp only [List.length_append, List.length_cons]
    omega
mutual
theorem cop_move {w w1 : World} {base : Nat} (hm : ∀ b, base ≤ b → b < w.heap.size → w1.heap[b]? = w.heap[b]?) : ∀ (x : Nd) {cs : List Value}, Cop w base x cs → Cop w1 base x cs
  | ⟨k, t, kids⟩, cs, h => by
    rw [Cop] at h ⊢
    obtain ⟨g, cells, h1, h2, h3, h4, h5⟩ := h
    exact ⟨g, cells, h1, h2, (hm g h1 (blk_lt h3)).trans h3, h4, copL_move hm kids h5⟩
theorem copL_move {w w1 : World} {base : Nat} (hm : ∀ b, base ≤ b → b < w.heap.size → w1.heap[b]? = w.heap[b]?) : ∀ (xs : List Nd) {cs : List Value}, CopL w base xs cs → CopL w1 base xs cs
  | [], cs, h => by rw [CopL] at h ⊢; exact h
  | x :: xs, cs, h => by
    rw [CopL] at h ⊢
    obtain ⟨c, cs', h1, h2, h3⟩ := h
    exact ⟨c, cs', h1, cop_move hm x h2, copL_move hm xs h3⟩
end
mutual
theorem cop_lower {w : World} {base base' : Nat} (hle : base' ≤ base) : ∀ (x : Nd) {cs : List Value}, Cop w base x cs → Cop w base' x cs
  | ⟨k, t, kids⟩, cs, h => by
    rw [Cop] at h ⊢
    obtain ⟨g, cells, h1, h2, h3, h4, h5⟩ := h
    exact ⟨g, cells, Nat.le_trans hle h1, h2, h3, h4, copL_lower hle kids h5⟩
theorem copL_lower {w : World} {base base' : Nat} (hle : base' ≤ base) : ∀ (xs : List Nd) {cs : List Value}, CopL w base xs cs → CopL w base' xs cs
  | [], cs, h => by rw [CopL] at h ⊢; exact h
  | x :: xs, cs, h => by
    rw [CopL] at h ⊢
    obtain ⟨c, cs', h1, h2, h3⟩ := h
    exact ⟨c, cs', h1, cop_lower hle x h2, copL_lower hle xs h3⟩
end
theorem cop_below {w w1 : World} {base : Nat} {x : Nd} {cs : List Value} (h : Cop w base x cs) (hb : Below w.heap.size w w1) : Cop w1 base x cs := cop_move (fun b _ hl => hb.block b hl) x h
theorem copL_below {w w1 : World} {base : Nat} {xs : List Nd} {cs : List Value} (h : CopL w base xs cs) (hb : Below w.heap.size w w1) : CopL w1 base xs cs := copL_move (fun b _ hl => hb.block b hl) xs h
theorem copL_snoc {w : World} {base : Nat} : ∀ {xs : List Nd} {x : Nd} {cs c : List Value}, CopL w base xs cs → Cop w base x c → CopL w base (xs ++ [x]) (cs ++ c)
  | [], x, cs, c, h, hx => by
    rw [CopL] at h
    subst h
    rw [List.nil_append, List.nil_append, CopL]
    exact ⟨c, [], by rw [List.append_nil], hx, by rw [CopL]⟩
  | y :: ys, x, cs, c, h, hx => by
    rw [CopL] at h
    obtain ⟨c', cs', rfl, h2, h3⟩ := h
    rw [List.cons_append, CopL]
    exact ⟨c', cs' ++ c, by rw [List.append_assoc], h2, copL_snoc h3 hx⟩
theorem copL_get {w : World} {base : Nat} : ∀ {xs : List Nd} {cs : List Value}, CopL w base xs cs → ∀ (i : Nat) (x : Nd), xs[i]? = some x → ∃ c, Cop w base x c ∧ ∀ (j : Nat) (v : Value), c[j]? = some v → cs[i * 8 + j]? = some v
  | [], cs, h, i, x, hx => by simp at hx
  | y :: ys, cs, h, i, x, hx => by
    rw [CopL] at h
    obtain ⟨c', cs', rfl, h2, h3⟩ := h
    have h8 := cop_len h2
    cases i with
    | zero =>
      simp at hx
      subst hx
      exact ⟨c', h2, fun j v hj => by rw [Nat.zero_mul, Nat.zero_add, List.getElem?_append_left (List.getElem?_eq_some_iff.1 hj).1]; exact hj⟩
    | succ i =>
      obtain ⟨c, h4, h5⟩ := copL_get h3 i x (by simpa using hx)
      exact ⟨c, h4, fun j v hj => by rw [List.getElem?_append_right (by omega), h8, show (i + 1) * 8 + j - 8 = i * 8 + j by omega]; exact h5 j v hj⟩
/-- A copy's list is a row. -/
theorem cop_row {w : World} {base g : Nat} {kids : List Nd} {cells : List Value} (h1 : base ≤ g) (h2 : w.heap[g]? = some (.cells (cells ++ markC).toArray TN (0, 0))) (h3 : kids.length + 1 ≤ maxLen) (h4 : CopL w base kids cells) : w.ownsRow base TN 8 (.slice (some ⟨g, 0, none⟩) kids.length (kids.length + 1)) kids.length cells := by
  have hl := copL_len h4
  refine ⟨hl, .inr ⟨g, kids.length + 1, _, rfl, h1, h2, Nat.le_succ _, h3, ?_, ?_⟩⟩
  · rw [List.size_toArray, List.length_append, hl]
    simp only [markC, ndCells, List.length_cons, List.length_nil]
    omega
  · rw [← hl]; simp
mutual
theorem cop_K {w : World} {base : Nat} : ∀ (x : Nd) {cs : List Value}, Cop w base x cs → kNd.K w x cs
  | ⟨k, t, kids⟩, cs, h => by
    rw [Cop] at h
    obtain ⟨g, cells, h1, rfl, h3, h4, h5⟩ := h
    obtain ⟨A, c, he, hc, hr⟩ := row_C (cop_row h1 h3 h4 h5) (copL_reps kids h5)
    injection he with e1 _ e3
    subst e1 e3
    exact PTreeSame.k35_mk w ⟨k, t, kids⟩ hc hr
theorem copL_reps {w : World} {base : Nat} : ∀ (xs : List Nd) {cs : List Value}, CopL w base xs cs → Reps (kNd.K w) 8 xs cs
  | [], cs, h => by rw [CopL] at h; subst h; exact Reps.none _ _
  | x :: xs, cs, h => by
    rw [CopL] at h
    obtain ⟨c, cs', rfl, h2, h3⟩ := h
    have := Kd.reps_append ((Reps.none (kNd.K w) 8).snoc (cop_K x h2) (cop_len h2)) (copL_reps xs h3)
    simpa using this
end
/-- What stands in a copy, by parts. -/
theorem cop_C {w : World} {base : Nat} {x : Nd} {cs : List Value} (h : Cop w base x cs) : ∃ g, cs = ndCells x.f0 x.f1 (.slice (some ⟨g, 0, none⟩) x.f2.length (x.f2.length + 1)) ∧ Kd.C kNd w (some ⟨g, 0, none⟩) x.f2.length x.f2 := by
  rw [cop_iff] at h
  obtain ⟨g, cells, h1, rfl, h3, h4, h5⟩ := h
  obtain ⟨A, c, he, hc, hr⟩ := row_C (cop_row h1 h3 h4 h5) (copL_reps _ h5)
  injection he with e1 _ e3
  subst e1 e3
  exact ⟨g, rfl, hr⟩
/-- A copy under way. -/
structure CInv (w wr : World) (x : Nd) (A : Option Addr) (c : Nat) (i : Nat) : Prop where
  b0 : wr.heap[w.heap.size]? = some (.cells #[.int .u8 x.f0, .int .u8 x.f1.f0, .string x.f1.f1, .int .i64 x.f1.f2.f0, .int .i64 x.f1.f2.f1, .int .i64 x.f1.f2.f2, .int .i64 x.f1.f3, .slice A x.f2.length c] TN (0, 0))
  b1 : wr.heap[w.heap.size + 1]? = some (.cells #[.int .u8 0, .int .u8 0, .string ⟨#[]⟩, .int .i64 0, .int .i64 0, .int .i64 0, .int .i64 0, .slice none 0 0] TN (0, 0))
  b2 : wr.heap[w.heap.size + 2]? = some (.cells #[.int .u8 x.f0, .int .u8 x.f1.f0, .string x.f1.f1, .int .i64 x.f1.f2.f0, .int .i64 x.f1.f2.f1, .int .i64 x.f1.f2.f2, .int .i64 x.f1.f3, .slice (some ⟨w.heap.size + 3, 0, none⟩) x.f2.length (x.f2.length + 1)] TN (0, 0))
  b3 : ∃ cells rest, wr.heap[w.heap.size + 3]? = some (.cells (cells ++ rest).toArray TN (0, 0)) ∧ rest.length = (x.f2.length + 1 - i) * 8 ∧ CopL wr (w.heap.size + 4) (x.f2.take i) cells
  below : Below w.heap.size w wr
  size : w.heap.size + 4 ≤ wr.heap.size
theorem CInv.later {w wr wr' : World} {x : Nd} {A : Option Addr} {c i : Nat} (h : CInv w wr x A c i) (hb : Below wr.heap.size wr wr') : CInv w wr' x A c i := by
  obtain ⟨cells, rest, h1, h2, h3⟩ := h.b3
  exact ⟨(hb.block _ (blk_lt h.b0)).trans h.b0, (hb.block _ (blk_lt h.b1)).trans h.b1, (hb.block _ (blk_lt h.b2)).trans h.b2, ⟨cells, rest, (hb.block _ (blk_lt h1)).trans h1, h2, copL_below h3 hb⟩, h.below.trans (hb.mono (by have := h.size; omega)), Nat.le_trans h.size hb.size⟩
/-- One kid is laid. -/
theorem CInv.put {w wr : World} {x y : Nd} {A : Option Addr} {c i base : Nat} {cs : List Value} (h : CInv w wr x A c i) (hi : i < x.f2.length) (hy : x.f2[i]? = some y) (hc : Cop wr base y cs) (hbase : w.heap.size + 4 ≤ base) :
    (∃ cur, wr.heap[w.heap.size + 3]? = some (.cells cur TN (0, 0)) ∧ i * 8 + 8 ≤ cur.size) ∧ CInv w (wr.setCells (w.heap.size + 3) (i * 8) cs) x A c (i + 1) := by
  obtain ⟨cells, rest, h1, h2, h3⟩ := h.b3
  have hl := copL_len h3
  have h8 := cop_len hc
  rw [List.length_take, Nat.min_eq_left (by omega)] at hl
  have hfit : i * 8 + cs.length ≤ (cells ++ rest).toArray.size := by simp only [List.size_toArray, List.length_append]; omega
  obtain ⟨cur', k1, k2, k3⟩ := setCells_row cs (i * 8) wr (cells ++ rest).toArray h1 hfit
  refine ⟨⟨_, h1, by rw [h8] at hfit; exact hfit⟩, ?_⟩
  have far : ∀ b, b ≠ w.heap.size + 3 → (wr.setCells (w.heap.size + 3) (i * 8) cs).heap[b]? = wr.heap[b]? := fun b hb => setCells_far cs (i * 8) b hb
  have hg := setCells_grown wr (w.heap.size + 3) (i * 8) cs
  refine ⟨(far _ (by omega)).trans h.b0, (far _ (by omega)).trans h.b1, (far _ (by omega)).trans h.b2, ⟨cells ++ cs, rest.drop 8, ?_, ?_, ?_⟩, h.below.grown hg (by have := h.size; omega) (fun k e => by cases e; omega), Nat.le_trans h.size hg.size⟩
  · rw [k1]
    have : cur'.toList = cells ++ cs ++ rest.drop 8 := by
      rw [k3, ← hl]
      simp [h8, List.drop_append]
    have e : cur' = (cells ++ cs ++ rest.drop 8).toArray := Array.ext' (by simpa using this)
    rw [e]
  · rw [List.length_drop, h2]; omega
  · rw [List.take_add_one, hy]
    refine copL_snoc (copL_move (fun b hb _ => far b (by omega)) _ h3) ?_
    exact cop_lower hbase y (cop_move (fun b hb _ => far b (by omega)) y hc)
def CopPost (w : World) (x : Nd) (e : Ending) (w' : World) : Prop := ∃ g, e = .returned (.agg (ndCells x.f0 x.f1 (.slice (some ⟨g, 0, none⟩) x.f2.length (x.f2.length + 1))).toArray) ∧ Cop w' w.heap.size x (ndCells x.f0 x.f1 (.slice (some ⟨g, 0, none⟩) x.f2.length (x.f2.length + 1))) ∧ Below w.heap.size w w'
/-- The mark is set behind the list. -/
theorem CInv.done {w wr : World} {x : Nd} {A : Option Addr} {c : Nat} (h : CInv w wr x A c x.f2.length) (hm : x.f2.length + 1 ≤ maxLen) :
    (∃ cur, wr.heap[w.heap.size + 3]? = some (.cells cur TN (0, 0)) ∧ x.f2.length * 8 + 8 ≤ cur.size) ∧ (∀ V, V = wr.setCells (w.heap.size + 3) (x.f2.length * 8) markC → Cop V (w.heap.size + 3) x (ndCells x.f0 x.f1 (.slice (some ⟨w.heap.size + 3, 0, none⟩) x.f2.length (x.f2.length + 1))) ∧ (∀ b, b ≠ w.heap.size + 3 → V.heap[b]? = wr.heap[b]?) ∧ Below w.heap.size w V ∧ wr.heap.size ≤ V.heap.size) := by
  obtain ⟨cells, rest, h1, h2, h3⟩ := h.b3
  have hl := copL_len h3
  have h8 : markC.length = 8 := rfl
  rw [List.length_take, Nat.min_self] at hl
  rw [Nat.add_sub_cancel_left, Nat.one_mul] at h2
  have hfit : x.f2.length * 8 + markC.length ≤ (cells ++ rest).toArray.size := by simp only [List.size_toArray, List.length_append]; omega
  obtain ⟨cur', k1, k2, k3⟩ := setCells_row markC (x.f2.length * 8) wr (cells ++ rest).toArray h1 hfit
  refine ⟨⟨_, h1, hfit⟩, fun V hV => ?_⟩
  subst hV
  have far : ∀ b, b ≠ w.heap.size + 3 → (wr.setCells (w.heap.size + 3) (x.f2.length * 8) markC).heap[b]? = wr.heap[b]? := fun b hb => setCells_far markC _ b hb
  have hg := setCells_grown wr (w.heap.size + 3) (x.f2.length * 8) markC
  refine ⟨cop_iff.2 ⟨_, cells, by omega, rfl, ?_, hm, ?_⟩, far, h.below.grown hg (by have := h.size; omega) (fun k e => by cases e; omega), hg.size⟩
  · rw [k1]
    have : cur'.toList = cells ++ markC := by
      rw [k3, ← hl]
      simp [h8, List.drop_append, h2]
    have e : cur' = (cells ++ markC).toArray := Array.ext' (by simpa using this)
    rw [e]
  · rw [List.take_length] at h3
    exact copL_lower (by omega) _ (copL_move (fun b hb _ => far b (by omega)) _ h3)
theorem CInv.start (w : World) (x : Nd) (A : Option Addr) (c : Nat) (zs : Array Value) (hzs : zs.size = (x.f2.length + 1) * 8) : CInv w ((((w.alloc (.cells #[.int .u8 x.f0, .int .u8 x.f1.f0, .string x.f1.f1, .int .i64 x.f1.f2.f0, .int .i64 x.f1.f2.f1, .int .i64 x.f1.f2.f2, .int .i64 x.f1.f3, .slice A x.f2.length c] TN)).alloc (.cells #[.int .u8 0, .int .u8 0, .string ⟨#[]⟩, .int .i64 0, .int .i64 0, .int .i64 0, .int .i64 0, .slice none 0 0] TN)).alloc (.cells #[.int .u8 x.f0, .int .u8 x.f1.f0, .string x.f1.f1, .int .i64 x.f1.f2.f0, .int .i64 x.f1.f2.f1, .int .i64 x.f1.f2.f2, .int .i64 x.f1.f3, .slice (some ⟨w.heap.size + 1 + 1 + 1, 0, none⟩) x.f2.length (x.f2.length + 1)] TN)).alloc (.cells zs TN)) x A c 0 := by
  have old : ∀ {w : World} {o o' : Obj} {k : Nat}, w.heap[k]? = some o' → (w.alloc o).heap[k]? = some o' := fun {w} {o} {o'} {k} h => (Below.heap_alloc w o k (Array.getElem?_eq_some_iff.1 h).1).trans h
  have new : ∀ (w : World) (o : Obj) (k : Nat), k = w.heap.size → (w.alloc o).heap[k]? = some o := fun w o k h => h ▸ World.alloc_heap_new w o
  refine ⟨old (old (old (new w _ _ rfl))), old (old (new _ _ _ (by simp))), old (new _ _ _ (by simp)), ⟨[], zs.toList, new _ _ _ (by simp), by simpa using hzs, by rw [List.take_zero, CopL]⟩, ?_, by simp⟩
  exact ((((Below.refl _ w).alloc (Nat.le_refl _) _).alloc (by simp) _).alloc (by simp <;> omega) _).alloc (by simp <;> omega) _
/-- Cells of a block are written, in a plain region. -/
theorem wl_cells {ops : Array Oper} {rest : List Oper} {o : Oper} {a : Act} {Q : Exit → Act → World → Prop} {W : World} (hgd : o.guard = none) (hd : o.dst = none) (t : TypeId) (p x : Operand) (ho : o.op = .store t p x) {g off : Nat} {e : TypeId} {cur : Array Value} (u : Value) (seg : List Value)
    (haddr : a.eval p = .pointer (some ⟨g, off, none⟩)) (hx : a.eval x = u) (hu : u.cells.toList = seg) (ht : (Try.prog.info? t).map (·.size) = some seg.length) (h1 : ∀ v ∈ seg, v.oneCell' = true) (hh : W.heap[g]? = some (.cells cur e (0, 0))) (hfit : off + seg.length ≤ cur.size)
    (h : ∀ w5, w5 = W.setCells g off seg → wpList Try.prog ops Q rest a w5) : wpList Try.prog ops Q (o :: rest) a W := by
  refine wpList_plain hgd fun K hK => ?_
  have hrun := run_store_run (P := Try.prog) t u seg hh hu ht hfit h1
  unfold Oper.wp execOp
  simp only [ho, haddr, hx, Sem.run_bind, Sem.run_pure, Result.andThen_ok, hrun]
  show K (a.put o.dst undef) _
  rw [hd]
  exact hK _ _ (h _ rfl)
end Go.Proofs.Ytfefldkljbbbpaa
set_option linter.unusedVariables false
set_option linter.unusedSimpArgs false
namespace Go.Proofs.Ytfefldkljbbbpaa
open Go.RowKit Go.Shelf Go.Proofs.YtfefldkljbbbpaaW.PrintWords Go.Proofs.YtfefldkljbbbpaaW.PrintLast Go.Proofs.YtfefldkljbbbpaaW.PrintMore
theorem make_nodes (n : Nat) (hn : n ≤ 1073741824) : ∃ zs : Array Value, zs.size = (n + 1) * 8 ∧ ∀ w, (Instr.makeSlice 33 (.int .i64 n) (.int .i64 ((n : Int) + 1))).run Try.prog w = .ok (.slice (some ⟨w.heap.size, 0, none⟩) n (n + 1)) (w.alloc (.cells zs TN)) := by
  obtain ⟨i, z, hi, hz, hs, hb⟩ : ∃ i z, Try.prog.info? 35 = some i ∧ i.zero = some z ∧ i.size = 8 ∧ i.bytes = 88 := by
    obtain ⟨i, hi, he⟩ := Option.map_eq_some_iff.1 infoNd
    simp only [Prod.mk.injEq] at he
    exact ⟨i, _, hi, he.1, he.2.1, he.2.2⟩
  refine ⟨madeCells z.cells ((n + 1) * i.size), by rw [size_madeCells, hs], fun w => ?_⟩
  have h := run_make (P := Try.prog) w 33 35 i z Try.underlying33 hi hz .i64 .i64 n ((n : Int) + 1) (by omega) (by omega) (by rw [hb]; omega) (by omega)
  rw [Int.toNat_natCast, show ((n : Int) + 1).toNat = n + 1 from by omega] at h
  exact h
set_option maxRecDepth 100000 in
set_option maxHeartbeats 4000000 in
theorem copied_any : ∀ (N : Nat) (x : Nd) (A : Option Addr) (c : Nat) (w : World), nds x ≤ N → nds x ≤ 1073741824 → x.f2.length ≤ c → Kd.C kNd w A x.f2.length x.f2 →
    Calls Try.prog 15 #[.agg #[.int .u8 x.f0, .int .u8 x.f1.f0, .string x.f1.f1, .int .i64 x.f1.f2.f0, .int .i64 x.f1.f2.f1, .int .i64 x.f1.f2.f2, .int .i64 x.f1.f3, .slice A x.f2.length c]] w fun e w' => CopPost w x e w' := by
  intro N
  induction N with
  | zero => intro x A c w hN; have := nds_pos x; omega
  | succ N ih =>
    intro x A c w hN hbig hlc hC
    have hn : x.f2.length ≤ 1073741823 := by rw [nds_eq] at hbig; have := ndsL_len x.f2; omega
    obtain ⟨zs, hzs, hmk⟩ := make_nodes x.f2.length (by omega)
    have IH := Lib.hid ih
    have HC := Lib.hid hC
    have HLC := Lib.hid hlc
    have HNN := Lib.hid (And.intro hN hbig)
    have HZS := Lib.hid hzs
    clear ih hC hlc hN hbig hzs
    go_enter Try.func15, Try.ntmps15
    go_upto_region 3 with (fail)
    obtain ⟨W0, hW0⟩ : ∃ V, ((((w.alloc (.cells #[.int .u8 x.f0, .int .u8 x.f1.f0, .string x.f1.f1, .int .i64 x.f1.f2.f0, .int .i64 x.f1.f2.f1, .int .i64 x.f1.f2.f2, .int .i64 x.f1.f3, .slice A x.f2.length c] TN)).alloc (.cells #[.int .u8 0, .int .u8 0, .string ⟨#[]⟩, .int .i64 0, .int .i64 0, .int .i64 0, .int .i64 0, .slice none 0 0] TN)).alloc (.cells #[.int .u8 x.f0, .int .u8 x.f1.f0, .string x.f1.f1, .int .i64 x.f1.f2.f0, .int .i64 x.f1.f2.f1, .int .i64 x.f1.f2.f2, .int .i64 x.f1.f3, .slice (some ⟨w.heap.size + 1 + 1 + 1, 0, none⟩) x.f2.length (x.f2.length + 1)] TN)).alloc (.cells zs TN)) = V := ⟨_, rfl⟩
    have HI0 : Hid (CInv w W0 x A c 0) := Lib.hid (hW0 ▸ CInv.start w x A c zs HZS.out)
    rw [hW0]
    clear hW0 hmk
    go_wp2
    go_loopw [4] (fun iv wr => ∃ i : Nat, i ≤ x.f2.length ∧ iv = .int .i64 i ∧ Hid (CInv w wr x A c i)) (fun iv _ => x.f2.length - (intOf iv).toNat)
    case atStart => exact ⟨0, Nat.zero_le _, rfl, HI0⟩
    case round =>
      obtain ⟨i, hi, rfl, H⟩ := hrel
      obtain ⟨q0, q1, q2, q3, q4, q5, q6, q7⟩ := nd_box (b := w.heap.size) H.out.b0 wr (Below.refl _ _)
      by_cases hlt : i < x.f2.length
      · have dlt : decide (i < x.f2.length) = true := decide_eq_true hlt
        obtain ⟨y, hy⟩ : ∃ y, x.f2[i]? = some y := ⟨_, List.getElem?_eq_getElem hlt⟩
        go_upto_region 6 with (fail)
        obtain ⟨Wd, hWd⟩ : ∃ V, wr.drew = V := ⟨_, rfl⟩
        have hbd : Below wr.heap.size wr Wd := by rw [← hWd]; exact (Below.refl _ wr).drew
        have hD := H.out.later hbd
        obtain ⟨ad, A1, c1, rfl, hcs, hl1, hC1⟩ := kid_at (Kd.C_below HC.out hD.below) i y hlt hy
        have hSall : ∀ V, Below Wd.heap.size Wd V → V.cell? ⟨w.heap.size, 7, none⟩ = some (.slice (some ad) x.f2.length c) ∧ V.cell? ⟨w.heap.size + 1 + 1, 7, none⟩ = some (.slice (some ⟨w.heap.size + 1 + 1 + 1, 0, none⟩) x.f2.length (x.f2.length + 1)) ∧ V.cell? (ad.add (i * 8)) = some (.int .u8 y.f0) ∧ V.cell? ⟨(ad.add (i * 8)).block, (ad.add (i * 8)).off + 1, none⟩ = some (.int .u8 y.f1.f0) ∧ V.cell? ⟨(ad.add (i * 8)).block, (ad.add (i * 8)).off + 2, none⟩ = some (.string y.f1.f1) ∧ V.cell? ⟨(ad.add (i * 8)).block, (ad.add (i * 8)).off + 3, none⟩ = some (.int .i64 y.f1.f2.f0) ∧ V.cell? ⟨(ad.add (i * 8)).block, (ad.add (i * 8)).off + 4, none⟩ = some (.int .i64 y.f1.f2.f1) ∧ V.cell? ⟨(ad.add (i * 8)).block, (ad.add (i * 8)).off + 5, none⟩ = some (.int .i64 y.f1.f2.f2) ∧ V.cell? ⟨(ad.add (i * 8)).block, (ad.add (i * 8)).off + 6, none⟩ = some (.int .i64 y.f1.f3) ∧ V.cell? ⟨(ad.add (i * 8)).block, (ad.add (i * 8)).off + 7, none⟩ = some (.slice A1 y.f2.length c1) := fun V hV => ⟨(nd_box (b := w.heap.size) hD.b0 V hV).2.2.2.2.2.2.2, (nd_box (b := w.heap.size + 1 + 1) hD.b2 V hV).2.2.2.2.2.2.2, pw_cell_below hV hcs.1, pw_cell_below hV hcs.2.1, pw_cell_below hV hcs.2.2.1, pw_cell_below hV hcs.2.2.2.1, pw_cell_below hV hcs.2.2.2.2.1, pw_cell_below hV hcs.2.2.2.2.2.1, pw_cell_below hV hcs.2.2.2.2.2.2.1, pw_cell_below hV hcs.2.2.2.2.2.2.2⟩
        have HD := Lib.hid hD
        have HSA := Lib.hid hSall
        have HS := Lib.hid (hSall Wd (Below.refl _ _))
        have HY := Lib.hid hy
        have HWd := Lib.hid hWd
        have hny : nds y ≤ ndsL x.f2 := ndsL_mem (List.mem_of_getElem? hy)
        have HCL := Lib.hid (IH.out y A1 c1 Wd (by have := HNN.out.1; rw [nds_eq] at this; omega) (by have := HNN.out.2; rw [nds_eq] at this; omega) hl1 hC1)
        have g1 : (0 : Int) ≤ (i : Int) := by omega
        have g2 : (i : Int) < (x.f2.length : Int) := by omega
        clear hbd hD hcs hl1 hC1 hSall hy hWd hny q0 q1 q2 q3 q4 q5 q6 q7
        refine wp_region_P (fun w' => w'.cell? ⟨w.heap.size, 7, none⟩ = some (.slice (some ad) x.f2.length c) ∧ w'.cell? ⟨w.heap.size + 1 + 1, 7, none⟩ = some (.slice (some ⟨w.heap.size + 1 + 1 + 1, 0, none⟩) x.f2.length (x.f2.length + 1)) ∧ w'.cell? (ad.add (i * 8)) = some (.int .u8 y.f0) ∧ w'.cell? ⟨(ad.add (i * 8)).block, (ad.add (i * 8)).off + 1, none⟩ = some (.int .u8 y.f1.f0) ∧ w'.cell? ⟨(ad.add (i * 8)).block, (ad.add (i * 8)).off + 2, none⟩ = some (.string y.f1.f1) ∧ w'.cell? ⟨(ad.add (i * 8)).block, (ad.add (i * 8)).off + 3, none⟩ = some (.int .i64 y.f1.f2.f0) ∧ w'.cell? ⟨(ad.add (i * 8)).block, (ad.add (i * 8)).off + 4, none⟩ = some (.int .i64 y.f1.f2.f1) ∧ w'.cell? ⟨(ad.add (i * 8)).block, (ad.add (i * 8)).off + 5, none⟩ = some (.int .i64 y.f1.f2.f2) ∧ w'.cell? ⟨(ad.add (i * 8)).block, (ad.add (i * 8)).off + 6, none⟩ = some (.int .i64 y.f1.f3) ∧ w'.cell? ⟨(ad.add (i * 8)).block, (ad.add (i * 8)).off + 7, none⟩ = some (.slice A1 y.f2.length c1)) (fun j => Nat.ble j 9) (by kernel_rfl) ?_
        rw [HWd.out]
        refine anyP_take (i := 0) (oi := { dst := some 23, op := Go.Op.fieldAddr 35 (Go.Operand.tmp 3) 2, type := 0, pos := "law.go:52", after := #[], guard := none }) (v := ?_) rfl (by kernel_rfl) (fun _ _ _ h => h) (Or.inl ⟨by rfl, ?_⟩) HS.out ?_
        rotate_left
        · intro w9 hSw; (try dsimp only at hSw); go_simp; try (with_reducible rfl)
        try simp only [Act.put, List.setIfInBounds_toArray, List.set_cons_zero, List.set_cons_succ]
        refine anyP_take (i := 1) (oi := { dst := some 24, op := Go.Op.load 33 (Go.Operand.tmp 23), type := 33, pos := "law.go:52", after := #[{ on := 0, ground := Go.Ground.data }], guard := none }) (v := ?_) rfl (by kernel_rfl) (fun _ _ _ h => h) (Or.inl ⟨by rfl, ?_⟩) HS.out ?_
        rotate_left
        · intro w9 hSw; (try dsimp only at hSw); go_simp; try (with_reducible rfl)
        try simp only [Act.put, List.setIfInBounds_toArray, List.set_cons_zero, List.set_cons_succ]
        refine anyP_take (i := 2) (oi := { dst := some 25, op := Go.Op.move (Go.Operand.tmp 4), type := 3, pos := "law.go:52", after := #[], guard := none }) (v := ?_) rfl (by kernel_rfl) (fun _ _ _ h => h) (Or.inl ⟨by rfl, ?_⟩) HS.out ?_
        rotate_left
        · intro w9 hSw; (try dsimp only at hSw); go_simp; try (with_reducible rfl)
        try simp only [Act.put, List.setIfInBounds_toArray, List.set_cons_zero, List.set_cons_succ]
        refine anyP_take (i := 3) (oi := { dst := some 26, op := Go.Op.fieldAddr 35 (Go.Operand.tmp 1) 2, type := 0, pos := "law.go:52", after := #[], guard := none }) (v := ?_) rfl (by kernel_rfl) (fun _ _ _ h => h) (Or.inl ⟨by rfl, ?_⟩) HS.out ?_
        rotate_left
        · intro w9 hSw; (try dsimp only at hSw); go_simp; try (with_reducible rfl)
        try simp only [Act.put, List.setIfInBounds_toArray, List.set_cons_zero, List.set_cons_succ]
        refine anyP_take (i := 4) (oi := { dst := some 27, op := Go.Op.load 33 (Go.Operand.tmp 26), type := 33, pos := "law.go:52", after := #[{ on := 3, ground := Go.Ground.data }], guard := none }) (v := ?_) rfl (by kernel_rfl) (fun _ _ _ h => h) (Or.inl ⟨by rfl, ?_⟩) HS.out ?_
        rotate_left
        · intro w9 hSw; (try dsimp only at hSw); go_simp; try (with_reducible rfl)
        try simp only [Act.put, List.setIfInBounds_toArray, List.set_cons_zero, List.set_cons_succ]
        refine anyP_take (i := 5) (oi := { dst := some 28, op := Go.Op.move (Go.Operand.tmp 4), type := 3, pos := "law.go:52", after := #[], guard := none }) (v := ?_) rfl (by kernel_rfl) (fun _ _ _ h => h) (Or.inl ⟨by rfl, ?_⟩) HS.out ?_
        rotate_left
        · intro w9 hSw; (try dsimp only at hSw); go_simp; try (with_reducible rfl)
        try simp only [Act.put, List.setIfInBounds_toArray, List.set_cons_zero, List.set_cons_succ]
        refine anyP_take (i := 6) (oi := { dst := some 29, op := Go.Op.indexAddr 33 (Go.Operand.tmp 27) (Go.Operand.tmp 28), type := 0, pos := "law.go:52", after := #[{ on := 4, ground := Go.Ground.data }, { on := 5, ground := Go.Ground.data }], guard := none }) (v := ?_) rfl (by kernel_rfl) (fun _ _ _ h => h) (Or.inl ⟨by rfl, ?_⟩) HS.out ?_
        rotate_left
        · intro w9 hSw; (try dsimp only at hSw); go_simp; try (with_reducible rfl)
        try simp only [Act.put, List.setIfInBounds_toArray, List.set_cons_zero, List.set_cons_succ]
        refine anyP_take (i := 7) (oi := { dst := some 30, op := Go.Op.load 35 (Go.Operand.tmp 29), type := 35, pos := "law.go:52", after := #[{ on := 6, ground := Go.Ground.data }], guard := none }) (v := ?_) rfl (by kernel_rfl) (fun _ _ _ h => h) (Or.inl ⟨by rfl, ?_⟩) HS.out ?_
        rotate_left
        · intro w9 hSw; (try dsimp only at hSw); go_simp; try (with_reducible rfl)
        try simp only [Act.put, List.setIfInBounds_toArray, List.set_cons_zero, List.set_cons_succ]
        refine anyP_ready (rs := [8]) (by kernel_rfl) (by simp) ?_
        refine ReadyP.cons (o := { dst := some 31, op := Go.Op.call { callee := Go.Callee.value (Go.Operand.func 15), args := #[Go.Operand.tmp 30], argTypes := #[35] }, type := 35, pos := "law.go:52", after := #[{ on := 7, ground := Go.Ground.data }], guard := none }) rfl (fun K hK => ?_) ReadyP.nil
        go_simp
        refine (HCL.out).mono ?_
        rintro e w2 ⟨g, rfl, hcop, hb2⟩
        refine hK.out _ _ (fun _ => HSA.out w2 hb2) ?_
        have HS2 := Lib.hid (HSA.out w2 hb2)
        obtain ⟨⟨cur, hh, hf⟩, hput⟩ := (HD.out.later hb2).put (by omega) HY.out hcop HD.out.size
        have HH := Lib.hid hh
        have HF := Lib.hid hf
        have HP := Lib.hid hput
        clear hK K hb2 hcop hh hf hput
        try simp only [Act.put, List.setIfInBounds_toArray, List.set_cons_zero, List.set_cons_succ]
        refine anyP_take (i := 9) (oi := { dst := some 32, op := Go.Op.indexAddr 33 (Go.Operand.tmp 24) (Go.Operand.tmp 25), type := 0, pos := "law.go:52", after := #[{ on := 1, ground := Go.Ground.data }, { on := 2, ground := Go.Ground.data }, { on := 0, ground := Go.Ground.phase }, { on := 1, ground := Go.Ground.phase }, { on := 2, ground := Go.Ground.phase }, { on := 3, ground := Go.Ground.phase }, { on := 4, ground := Go.Ground.phase }, { on := 5, ground := Go.Ground.phase }, { on := 6, ground := Go.Ground.phase }, { on := 7, ground := Go.Ground.phase }, { on := 8, ground := Go.Ground.phase }], guard := none }) (v := ?_) rfl (by kernel_rfl) (fun _ _ _ h => h) (Or.inl ⟨by rfl, ?_⟩) HS2.out ?_
        rotate_left
        · intro w9 hSw; (try dsimp only at hSw); go_simp; try (with_reducible rfl)
        try simp only [Act.put, List.setIfInBounds_toArray, List.set_cons_zero, List.set_cons_succ]
        refine anyP_ready (rs := [10]) (by kernel_rfl) (by simp) ?_
        refine ReadyP.cons (o := { dst := none, op := Go.Op.store 35 (Go.Operand.tmp 32) (Go.Operand.tmp 31), type := 0, pos := "law.go:52", after := #[{ on := 9, ground := Go.Ground.data }, { on := 8, ground := Go.Ground.data }, { on := 8, ground := Go.Ground.chain }, { on := 0, ground := Go.Ground.phase }, { on := 1, ground := Go.Ground.phase }, { on := 2, ground := Go.Ground.phase }, { on := 3, ground := Go.Ground.phase }, { on := 4, ground := Go.Ground.phase }, { on := 5, ground := Go.Ground.phase }, { on := 6, ground := Go.Ground.phase }, { on := 7, ground := Go.Ground.phase }, { on := 8, ground := Go.Ground.phase }], guard := none }) rfl (fun K hK => ?_) ReadyP.nil
        refine step_store rfl rfl 35 (.tmp 32) (.tmp 31) rfl (g := w.heap.size + 1 + 1 + 1) (off := i * 8) _ (ndCells y.f0 y.f1 (.slice (some ⟨g, 0, none⟩) y.f2.length (y.f2.length + 1))) rfl rfl rfl infoNd8 (ndCells_one _ _ rfl) HH.out HF.out ?_
        refine hK.out _ _ (fun h => absurd h (by decide)) ?_
        clear hK K
        have HP5 : Hid (CInv w (w2.setCells (w.heap.size + 1 + 1 + 1) (i * 8) (ndCells y.f0 y.f1 (.slice (some ⟨g, 0, none⟩) y.f2.length (y.f2.length + 1)))) x (some ad) c (i + 1)) := HP
        clear HP HH HF
        generalize w2.setCells (w.heap.size + 1 + 1 + 1) (i * 8) (ndCells y.f0 y.f1 (.slice (some ⟨g, 0, none⟩) y.f2.length (y.f2.length + 1))) = w5 at HP5 ⊢
        refine anyP_done (by kernel_rfl) ?_ _
        try simp only [Exit.then]
        go_wp2
        go_roundw
        case rel => exact ⟨i + 1, by omega, by go_num, HP5⟩
        case measure => simp [intOf] <;> omega
      · have dlt : decide (i < x.f2.length) = false := decide_eq_false hlt
        obtain rfl : i = x.f2.length := by omega
        have g2 : (x.f2.length : Int) < (x.f2.length : Int) + 1 := by omega
        obtain ⟨p0, p1, p2, p3, p4, p5, p6, p7⟩ := nd_box (b := w.heap.size + 1 + 1) H.out.b2 wr (Below.refl _ _)
        obtain ⟨⟨cur, hh, hf⟩, hdone⟩ := H.out.done (by have : maxLen = 9223372036854775807 := rfl; omega)
        have HH := Lib.hid hh
        have HF := Lib.hid hf
        have HDN := Lib.hid hdone
        clear hh hf hdone
        go_wp2_with (first
          | ((with_reducible refine gate_ (.store 35 (.tmp 45) (.tmp 44)) rfl ?_); refine wl_cells rfl rfl _ _ _ rfl (g := w.heap.size + 3) (off := x.f2.length * 8) (.agg markC.toArray) markC rfl rfl rfl infoNd8 (ndCells_one _ _ rfl) HH.out HF.out ?_; intro w5 hw5; obtain ⟨hcop, far, hb5, hz5⟩ := HDN.out w5 hw5; have H5 := Lib.hid (And.intro hcop hb5); obtain ⟨p0, p1, p2, p3, p4, p5, p6, p7⟩ := nd_box (b := w.heap.size + 1 + 1) ((far _ (by omega)).trans H.out.b2) w5 (Below.refl _ _); have HB := Lib.hid ((far (w.heap.size + 1) (by omega)).trans H.out.b1); clear hw5 hcop far hb5 hz5)
          | ((with_reducible refine gate_ (.store 35 (.tmp 2) (.tmp 46)) rfl ?_); refine wl_box rfl rfl _ _ _ rfl (g := w.heap.size + 1) (.agg (ndCells x.f0 x.f1 (.slice (some ⟨w.heap.size + 1 + 1 + 1, 0, none⟩) x.f2.length (x.f2.length + 1))).toArray) (ndCells x.f0 x.f1 (.slice (some ⟨w.heap.size + 1 + 1 + 1, 0, none⟩) x.f2.length (x.f2.length + 1))) rfl rfl rfl infoNd8 (ndCells_one _ _ rfl) HB.out rfl ?_; intro w6 h6 hu6; have HU := Lib.hid hu6; have H6 := Lib.hid h6; obtain ⟨r0, r1, r2, r3, r4, r5, r6, r7⟩ := nd_box (b := w.heap.size + 1) h6 w6 (Below.refl _ _); clear h6 hu6))
        refine bodyPost_ret (v := .agg (ndCells x.f0 x.f1 (.slice (some ⟨w.heap.size + 1 + 1 + 1, 0, none⟩) x.f2.length (x.f2.length + 1))).toArray) ?_ rfl ⟨w.heap.size + 3, rfl, ?_, HU.out.below H5.out.2 (by omega)⟩
        · unfold results
          rw [show Try.f15.results = #[.cell 2 35] from rfl]
          go_simp
          rfl
        · exact cop_lower (by omega) _ (cop_move (fun b hb _ => HU.out.far b (by omega)) x H5.out.1)
end Go.Proofs.Ytfefldkljbbbpaa
set_option linter.unusedVariables false
set_option linter.unusedSimpArgs false
namespace Go.Proofs.Ytfefldkljbbbpaa
open Go.RowKit Go.Shelf Go.Proofs.YtfefldkljbbbpaaW.PrintWords Go.Proofs.YtfefldkljbbbpaaW.PrintLast Go.Proofs.YtfefldkljbbbpaaW.PrintMore
set_option maxRecDepth 100000 in
set_option maxHeartbeats 4000000 in
theorem kept_any : ∀ (N : Nat) (x : Nd) (A : Option Addr) (c g base : Nat) (w : World), nds x ≤ N → nds x ≤ 1073741824 → x.f2.length ≤ c → Kd.C kNd w A x.f2.length x.f2 → Cop w base x (ndCells x.f0 x.f1 (.slice (some ⟨g, 0, none⟩) x.f2.length (x.f2.length + 1))) →
    Calls Try.prog 18 #[.agg #[.int .u8 x.f0, .int .u8 x.f1.f0, .string x.f1.f1, .int .i64 x.f1.f2.f0, .int .i64 x.f1.f2.f1, .int .i64 x.f1.f2.f2, .int .i64 x.f1.f3, .slice (some ⟨g, 0, none⟩) x.f2.length (x.f2.length + 1)], .agg #[.int .u8 x.f0, .int .u8 x.f1.f0, .string x.f1.f1, .int .i64 x.f1.f2.f0, .int .i64 x.f1.f2.f1, .int .i64 x.f1.f2.f2, .int .i64 x.f1.f3, .slice A x.f2.length c]] w fun e w' => e = .returned (.bool true) ∧ Below w.heap.size w w' := by
  intro N
  induction N with
  | zero => intro x A c g base w hN; have := nds_pos x; omega
  | succ N ih =>
    intro x A c g base w hN hbig hlc hC hcop
    have hn : x.f2.length ≤ 1073741823 := by rw [nds_eq] at hbig; have := ndsL_len x.f2; omega
    rw [cop_iff] at hcop
    obtain ⟨g', cells, hgb, he, hh, hmx, hL⟩ := hcop
    obtain rfl : g = g' := by simp [ndCells] at he; exact he
    have IH := Lib.hid ih
    have HC := Lib.hid hC
    have HLC := Lib.hid hlc
    have HNN := Lib.hid (And.intro hN hbig)
    have HL := Lib.hid hL
    have HH := Lib.hid hh
    have HLEN := Lib.hid (copL_len hL)
    obtain ⟨W0, hW0⟩ : ∃ V, (w.alloc (.cells #[.int .u8 x.f0, .int .u8 x.f1.f0, .string x.f1.f1, .int .i64 x.f1.f2.f0, .int .i64 x.f1.f2.f1, .int .i64 x.f1.f2.f2, .int .i64 x.f1.f3, .slice (some ⟨g, 0, none⟩) x.f2.length (x.f2.length + 1)] TN)).alloc (.cells #[.int .u8 x.f0, .int .u8 x.f1.f0, .string x.f1.f1, .int .i64 x.f1.f2.f0, .int .i64 x.f1.f2.f1, .int .i64 x.f1.f2.f2, .int .i64 x.f1.f3, .slice A x.f2.length c] TN) = V := ⟨_, rfl⟩
    have hb0 : Below w.heap.size w W0 := by rw [← hW0]; exact ((Below.refl _ w).alloc (Nat.le_refl _) _).alloc (by simp) _
    have h0 : W0.heap[w.heap.size]? = some (.cells #[.int .u8 x.f0, .int .u8 x.f1.f0, .string x.f1.f1, .int .i64 x.f1.f2.f0, .int .i64 x.f1.f2.f1, .int .i64 x.f1.f2.f2, .int .i64 x.f1.f3, .slice (some ⟨g, 0, none⟩) x.f2.length (x.f2.length + 1)] TN (0, 0)) := by rw [← hW0]; exact (Below.heap_alloc _ _ _ (by simp)).trans (World.alloc_heap_new w _)
    have h1 : W0.heap[w.heap.size + 1]? = some (.cells #[.int .u8 x.f0, .int .u8 x.f1.f0, .string x.f1.f1, .int .i64 x.f1.f2.f0, .int .i64 x.f1.f2.f1, .int .i64 x.f1.f2.f2, .int .i64 x.f1.f3, .slice A x.f2.length c] TN (0, 0)) := by
      rw [← hW0]
      have := World.alloc_heap_new (w.alloc (.cells #[.int .u8 x.f0, .int .u8 x.f1.f0, .string x.f1.f1, .int .i64 x.f1.f2.f0, .int .i64 x.f1.f2.f1, .int .i64 x.f1.f2.f2, .int .i64 x.f1.f3, .slice (some ⟨g, 0, none⟩) x.f2.length (x.f2.length + 1)] TN)) (.cells #[.int .u8 x.f0, .int .u8 x.f1.f0, .string x.f1.f1, .int .i64 x.f1.f2.f0, .int .i64 x.f1.f2.f1, .int .i64 x.f1.f2.f2, .int .i64 x.f1.f3, .slice A x.f2.length c] TN)
      rwa [World.size_alloc] at this
    have HW0 := Lib.hid hW0
    have HB0 := Lib.hid hb0
    have H0 := Lib.hid (nd_box h0)
    have H1 := Lib.hid (nd_box h1)
    clear ih hC hlc hN hbig hh hL hb0 h0 h1 hgb he hmx hW0
    go_enter Try.func18, Try.ntmps18
    go_upto_region 3 with (fail)
    rw [HW0.out]
    clear HW0
    go_wp2
    go_loopw [5] (fun iv wr => ∃ i : Nat, i ≤ x.f2.length ∧ iv = .int .i64 i ∧ Hid (Below W0.heap.size W0 wr)) (fun iv _ => x.f2.length - (intOf iv).toNat)
    case atStart => exact ⟨0, Nat.zero_le _, rfl, Lib.hid (Below.refl _ _)⟩
    case round =>
      obtain ⟨i, hi, rfl, HR⟩ := hrel
      obtain ⟨p0, p1, p2, p3, p4, p5, p6, p7⟩ := H0.out wr HR.out
      obtain ⟨q0, q1, q2, q3, q4, q5, q6, q7⟩ := H1.out wr HR.out
      by_cases hlt : i < x.f2.length
      · have dlt : decide (i < x.f2.length) = true := decide_eq_true hlt
        obtain ⟨y, hy⟩ : ∃ y, x.f2[i]? = some y := ⟨_, List.getElem?_eq_getElem hlt⟩
        go_upto_region 6 with (fail)
        obtain ⟨Wd, hWd⟩ : ∃ V, wr.drew = V := ⟨_, rfl⟩
        have hbd : Below wr.heap.size wr Wd := by rw [← hWd]; exact (Below.refl _ wr).drew
        have hwd : Below w.heap.size w Wd := (HB0.out.trans (HR.out.mono HB0.out.size)).trans (hbd.mono (HB0.out.trans (HR.out.mono HB0.out.size)).size)
        have h0d : Below W0.heap.size W0 Wd := HR.out.trans (hbd.mono HR.out.size)
        obtain ⟨ad, A1, c1, rfl, hcs, hl1, hC1⟩ := kid_at (Kd.C_below HC.out hwd) i y hlt hy
        obtain ⟨cy, hcy, hcell⟩ := copL_get HL.out i y hy
        obtain ⟨gy, rfl, -⟩ := cop_C hcy
        have hhd : Wd.heap[g]? = some (.cells (cells ++ markC).toArray TN (0, 0)) := (hwd.block g (blk_lt HH.out)).trans HH.out
        have hat : ∀ (j : Nat) (v : Value), (ndCells y.f0 y.f1 (.slice (some ⟨gy, 0, none⟩) y.f2.length (y.f2.length + 1)))[j]? = some v → Wd.cell? ⟨g, i * 8 + j, none⟩ = some v := fun j v hj => by
          have := hcell j v hj
          have hlt2 := (List.getElem?_eq_some_iff.1 this).1
          rw [cell_of_row _ _ _ _ _ _ hhd]
          simp only [List.getElem?_toArray]
          rw [List.getElem?_append_left hlt2]
          exact this
        have hSall : ∀ V, Below Wd.heap.size Wd V → V.cell? ⟨w.heap.size, 7, none⟩ = some (.slice (some ⟨g, 0, none⟩) x.f2.length (x.f2.length + 1)) ∧ V.cell? ⟨w.heap.size + 1, 7, none⟩ = some (.slice (some ad) x.f2.length c) ∧ V.cell? (ad.add (i * 8)) = some (.int .u8 y.f0) ∧ V.cell? ⟨(ad.add (i * 8)).block, (ad.add (i * 8)).off + 1, none⟩ = some (.int .u8 y.f1.f0) ∧ V.cell? ⟨(ad.add (i * 8)).block, (ad.add (i * 8)).off + 2, none⟩ = some (.string y.f1.f1) ∧ V.cell? ⟨(ad.add (i * 8)).block, (ad.add (i * 8)).off + 3, none⟩ = some (.int .i64 y.f1.f2.f0) ∧ V.cell? ⟨(ad.add (i * 8)).block, (ad.add (i * 8)).off + 4, none⟩ = some (.int .i64 y.f1.f2.f1) ∧ V.cell? ⟨(ad.add (i * 8)).block, (ad.add (i * 8)).off + 5, none⟩ = some (.int .i64 y.f1.f2.f2) ∧ V.cell? ⟨(ad.add (i * 8)).block, (ad.add (i * 8)).off + 6, none⟩ = some (.int .i64 y.f1.f3) ∧ V.cell? ⟨(ad.add (i * 8)).block, (ad.add (i * 8)).off + 7, none⟩ = some (.slice A1 y.f2.length c1) ∧ V.cell? ⟨g, i * 8, none⟩ = some (.int .u8 y.f0) ∧ V.cell? ⟨g, i * 8 + 1, none⟩ = some (.int .u8 y.f1.f0) ∧ V.cell? ⟨g, i * 8 + 2, none⟩ = some (.string y.f1.f1) ∧ V.cell? ⟨g, i * 8 + 3, none⟩ = some (.int .i64 y.f1.f2.f0) ∧ V.cell? ⟨g, i * 8 + 4, none⟩ = some (.int .i64 y.f1.f2.f1) ∧ V.cell? ⟨g, i * 8 + 5, none⟩ = some (.int .i64 y.f1.f2.f2) ∧ V.cell? ⟨g, i * 8 + 6, none⟩ = some (.int .i64 y.f1.f3) ∧ V.cell? ⟨g, i * 8 + 7, none⟩ = some (.slice (some ⟨gy, 0, none⟩) y.f2.length (y.f2.length + 1)) := fun V hV => ⟨(H0.out V (h0d.trans (hV.mono h0d.size))).2.2.2.2.2.2.2, (H1.out V (h0d.trans (hV.mono h0d.size))).2.2.2.2.2.2.2, pw_cell_below hV hcs.1, pw_cell_below hV hcs.2.1, pw_cell_below hV hcs.2.2.1, pw_cell_below hV hcs.2.2.2.1, pw_cell_below hV hcs.2.2.2.2.1, pw_cell_below hV hcs.2.2.2.2.2.1, pw_cell_below hV hcs.2.2.2.2.2.2.1, pw_cell_below hV hcs.2.2.2.2.2.2.2, pw_cell_below hV (hat 0 _ rfl), pw_cell_below hV (hat 1 _ rfl), pw_cell_below hV (hat 2 _ rfl), pw_cell_below hV (hat 3 _ rfl), pw_cell_below hV (hat 4 _ rfl), pw_cell_below hV (hat 5 _ rfl), pw_cell_below hV (hat 6 _ rfl), pw_cell_below hV (hat 7 _ rfl)⟩
        have HSA := Lib.hid hSall
        have HS := Lib.hid (hSall Wd (Below.refl _ _))
        have HWd := Lib.hid hWd
        have HBD := Lib.hid h0d
        have hny : nds y ≤ ndsL x.f2 := ndsL_mem (List.mem_of_getElem? hy)
        have HKC := Lib.hid (IH.out y A1 c1 gy base Wd (by have := HNN.out.1; rw [nds_eq] at this; omega) (by have := HNN.out.2; rw [nds_eq] at this; omega) hl1 hC1 (cop_below hcy hwd))
        have g1 : (0 : Int) ≤ (i : Int) := by omega
        have g2 : (i : Int) < (x.f2.length : Int) := by omega
        clear hbd hwd h0d hcs hl1 hC1 hcy hcell hhd hat hSall hy hWd hny p0 p1 p2 p3 p4 p5 p6 p7 q0 q1 q2 q3 q4 q5 q6 q7
        refine wp_region_P (fun w' => w'.cell? ⟨w.heap.size, 7, none⟩ = some (.slice (some ⟨g, 0, none⟩) x.f2.length (x.f2.length + 1)) ∧ w'.cell? ⟨w.heap.size + 1, 7, none⟩ = some (.slice (some ad) x.f2.length c) ∧ w'.cell? (ad.add (i * 8)) = some (.int .u8 y.f0) ∧ w'.cell? ⟨(ad.add (i * 8)).block, (ad.add (i * 8)).off + 1, none⟩ = some (.int .u8 y.f1.f0) ∧ w'.cell? ⟨(ad.add (i * 8)).block, (ad.add (i * 8)).off + 2, none⟩ = some (.string y.f1.f1) ∧ w'.cell? ⟨(ad.add (i * 8)).block, (ad.add (i * 8)).off + 3, none⟩ = some (.int .i64 y.f1.f2.f0) ∧ w'.cell? ⟨(ad.add (i * 8)).block, (ad.add (i * 8)).off + 4, none⟩ = some (.int .i64 y.f1.f2.f1) ∧ w'.cell? ⟨(ad.add (i * 8)).block, (ad.add (i * 8)).off + 5, none⟩ = some (.int .i64 y.f1.f2.f2) ∧ w'.cell? ⟨(ad.add (i * 8)).block, (ad.add (i * 8)).off + 6, none⟩ = some (.int .i64 y.f1.f3) ∧ w'.cell? ⟨(ad.add (i * 8)).block, (ad.add (i * 8)).off + 7, none⟩ = some (.slice A1 y.f2.length c1) ∧ w'.cell? ⟨g, i * 8, none⟩ = some (.int .u8 y.f0) ∧ w'.cell? ⟨g, i * 8 + 1, none⟩ = some (.int .u8 y.f1.f0) ∧ w'.cell? ⟨g, i * 8 + 2, none⟩ = some (.string y.f1.f1) ∧ w'.cell? ⟨g, i * 8 + 3, none⟩ = some (.int .i64 y.f1.f2.f0) ∧ w'.cell? ⟨g, i * 8 + 4, none⟩ = some (.int .i64 y.f1.f2.f1) ∧ w'.cell? ⟨g, i * 8 + 5, none⟩ = some (.int .i64 y.f1.f2.f2) ∧ w'.cell? ⟨g, i * 8 + 6, none⟩ = some (.int .i64 y.f1.f3) ∧ w'.cell? ⟨g, i * 8 + 7, none⟩ = some (.slice (some ⟨gy, 0, none⟩) y.f2.length (y.f2.length + 1))) (fun _ => true) (by kernel_rfl) ?_
        rw [HWd.out]
        refine anyP_take (i := 0) (oi := { dst := some 36, op := Go.Op.fieldAddr 35 (Go.Operand.tmp 2) 2, type := 0, pos := "law.go:65", after := #[], guard := none }) (v := ?_) rfl (by kernel_rfl) (fun _ _ _ h => h) (Or.inl ⟨by rfl, ?_⟩) HS.out ?_
        rotate_left
        · intro w9 hSw; (try dsimp only at hSw); go_simp; try (with_reducible rfl)
        try simp only [Act.put, List.setIfInBounds_toArray, List.set_cons_zero, List.set_cons_succ]
        refine anyP_take (i := 1) (oi := { dst := some 37, op := Go.Op.load 33 (Go.Operand.tmp 36), type := 33, pos := "law.go:65", after := #[{ on := 0, ground := Go.Ground.data }], guard := none }) (v := ?_) rfl (by kernel_rfl) (fun _ _ _ h => h) (Or.inl ⟨by rfl, ?_⟩) HS.out ?_
        rotate_left
        · intro w9 hSw; (try dsimp only at hSw); go_simp; try (with_reducible rfl)
        try simp only [Act.put, List.setIfInBounds_toArray, List.set_cons_zero, List.set_cons_succ]
        refine anyP_take (i := 2) (oi := { dst := some 38, op := Go.Op.move (Go.Operand.tmp 5), type := 3, pos := "law.go:65", after := #[], guard := none }) (v := ?_) rfl (by kernel_rfl) (fun _ _ _ h => h) (Or.inl ⟨by rfl, ?_⟩) HS.out ?_
        rotate_left
        · intro w9 hSw; (try dsimp only at hSw); go_simp; try (with_reducible rfl)
        try simp only [Act.put, List.setIfInBounds_toArray, List.set_cons_zero, List.set_cons_succ]
        refine anyP_take (i := 3) (oi := { dst := some 39, op := Go.Op.indexAddr 33 (Go.Operand.tmp 37) (Go.Operand.tmp 38), type := 0, pos := "law.go:65", after := #[{ on := 1, ground := Go.Ground.data }, { on := 2, ground := Go.Ground.data }], guard := none }) (v := ?_) rfl (by kernel_rfl) (fun _ _ _ h => h) (Or.inl ⟨by rfl, ?_⟩) HS.out ?_
        rotate_left
        · intro w9 hSw; (try dsimp only at hSw); go_simp; try (with_reducible rfl)
        try simp only [Act.put, List.setIfInBounds_toArray, List.set_cons_zero, List.set_cons_succ]
        refine anyP_take (i := 4) (oi := { dst := some 40, op := Go.Op.load 35 (Go.Operand.tmp 39), type := 35, pos := "law.go:65", after := #[{ on := 3, ground := Go.Ground.data }], guard := none }) (v := ?_) rfl (by kernel_rfl) (fun _ _ _ h => h) (Or.inl ⟨by rfl, ?_⟩) HS.out ?_
        rotate_left
        · intro w9 hSw; (try dsimp only at hSw); go_simp; try (with_reducible rfl)
        try simp only [Act.put, List.setIfInBounds_toArray, List.set_cons_zero, List.set_cons_succ]
        refine anyP_take (i := 5) (oi := { dst := some 41, op := Go.Op.fieldAddr 35 (Go.Operand.tmp 3) 2, type := 0, pos := "law.go:65", after := #[], guard := none }) (v := ?_) rfl (by kernel_rfl) (fun _ _ _ h => h) (Or.inl ⟨by rfl, ?_⟩) HS.out ?_
        rotate_left
        · intro w9 hSw; (try dsimp only at hSw); go_simp; try (with_reducible rfl)
        try simp only [Act.put, List.setIfInBounds_toArray, List.set_cons_zero, List.set_cons_succ]
        refine anyP_take (i := 6) (oi := { dst := some 42, op := Go.Op.load 33 (Go.Operand.tmp 41), type := 33, pos := "law.go:65", after := #[{ on := 5, ground := Go.Ground.data }], guard := none }) (v := ?_) rfl (by kernel_rfl) (fun _ _ _ h => h) (Or.inl ⟨by rfl, ?_⟩) HS.out ?_
        rotate_left
        · intro w9 hSw; (try dsimp only at hSw); go_simp; try (with_reducible rfl)
        try simp only [Act.put, List.setIfInBounds_toArray, List.set_cons_zero, List.set_cons_succ]
        refine anyP_take (i := 7) (oi := { dst := some 43, op := Go.Op.move (Go.Operand.tmp 5), type := 3, pos := "law.go:65", after := #[], guard := none }) (v := ?_) rfl (by kernel_rfl) (fun _ _ _ h => h) (Or.inl ⟨by rfl, ?_⟩) HS.out ?_
        rotate_left
        · intro w9 hSw; (try dsimp only at hSw); go_simp; try (with_reducible rfl)
        try simp only [Act.put, List.setIfInBounds_toArray, List.set_cons_zero, List.set_cons_succ]
        refine anyP_take (i := 8) (oi := { dst := some 44, op := Go.Op.indexAddr 33 (Go.Operand.tmp 42) (Go.Operand.tmp 43), type := 0, pos := "law.go:65", after := #[{ on := 6, ground := Go.Ground.data }, { on := 7, ground := Go.Ground.data }], guard := none }) (v := ?_) rfl (by kernel_rfl) (fun _ _ _ h => h) (Or.inl ⟨by rfl, ?_⟩) HS.out ?_
        rotate_left
        · intro w9 hSw; (try dsimp only at hSw); go_simp; try (with_reducible rfl)
        try simp only [Act.put, List.setIfInBounds_toArray, List.set_cons_zero, List.set_cons_succ]
        refine anyP_take (i := 9) (oi := { dst := some 45, op := Go.Op.load 35 (Go.Operand.tmp 44), type := 35, pos := "law.go:65", after := #[{ on := 8, ground := Go.Ground.data }], guard := none }) (v := ?_) rfl (by kernel_rfl) (fun _ _ _ h => h) (Or.inl ⟨by rfl, ?_⟩) HS.out ?_
        rotate_left
        · intro w9 hSw; (try dsimp only at hSw); go_simp; try (with_reducible rfl)
        try simp only [Act.put, List.setIfInBounds_toArray, List.set_cons_zero, List.set_cons_succ]
        refine anyP_ready (rs := [10]) (by kernel_rfl) (by simp) ?_
        refine ReadyP.cons (o := { dst := some 46, op := Go.Op.call { callee := Go.Callee.value (Go.Operand.func 18), args := #[Go.Operand.tmp 40, Go.Operand.tmp 45], argTypes := #[35, 35] }, type := 4, pos := "law.go:65", after := #[{ on := 4, ground := Go.Ground.data }, { on := 9, ground := Go.Ground.data }], guard := none }) rfl (fun K hK => ?_) ReadyP.nil
        go_simp
        refine (HKC.out).mono ?_
        rintro e w2 ⟨rfl, hb2⟩
        refine hK.out _ _ (fun _ => HSA.out w2 hb2) ?_
        have HS2 := Lib.hid (HSA.out w2 hb2)
        have HB2 := Lib.hid (HBD.out.trans (hb2.mono HBD.out.size))
        clear hK K hb2
        try simp only [Act.put, List.setIfInBounds_toArray, List.set_cons_zero, List.set_cons_succ]
        refine anyP_take (i := 11) (oi := { dst := some 6, op := Go.Op.assign (Go.Operand.tmp 46), type := 4, pos := "law.go:65", after := #[{ on := 10, ground := Go.Ground.data }, { on := 10, ground := Go.Ground.chain }, { on := 0, ground := Go.Ground.phase }, { on := 1, ground := Go.Ground.phase }, { on := 2, ground := Go.Ground.phase }, { on := 3, ground := Go.Ground.phase }, { on := 4, ground := Go.Ground.phase }, { on := 5, ground := Go.Ground.phase }, { on := 6, ground := Go.Ground.phase }, { on := 7, ground := Go.Ground.phase }, { on := 8, ground := Go.Ground.phase }, { on := 9, ground := Go.Ground.phase }, { on := 10, ground := Go.Ground.phase }], guard := none }) (v := ?_) rfl (by kernel_rfl) (fun _ _ _ h => h) (Or.inl ⟨by rfl, ?_⟩) HS2.out ?_
        rotate_left
        · intro w9 hSw; (try dsimp only at hSw); go_simp; try (with_reducible rfl)
        try simp only [Act.put, List.setIfInBounds_toArray, List.set_cons_zero, List.set_cons_succ]
        refine anyP_done (by kernel_rfl) ?_ _
        try simp only [Exit.then]
        go_wp2
        go_roundw
        case rel => exact ⟨i + 1, by omega, by go_num, HB2⟩
        case measure => simp [intOf] <;> omega
      · have dlt : decide (i < x.f2.length) = false := decide_eq_false hlt
        obtain rfl : i = x.f2.length := by omega
        have g2 : (x.f2.length : Int) < (x.f2.length : Int) + 1 := by omega
        have hw : Below w.heap.size w wr := HB0.out.trans (HR.out.mono HB0.out.size)
        have hhd : wr.heap[g]? = some (.cells (cells ++ markC).toArray TN (0, 0)) := (hw.block g (blk_lt HH.out)).trans HH.out
        have m0 : wr.cell? ⟨g, x.f2.length * 8, none⟩ = some (.int .u8 99) := by
          rw [cell_of_row _ _ _ _ _ _ hhd]
          simp only [List.getElem?_toArray]
          rw [List.getElem?_append_right (by rw [HLEN.out]; exact Nat.le_refl _), HLEN.out, Nat.sub_self]
          rfl
        have HW := Lib.hid hw
        clear hw hhd
        go_wp2
        go_ret
        exact ⟨rfl, HW.out⟩
end Go.Proofs.Ytfefldkljbbbpaa
set_option linter.unusedVariables false
set_option linter.unusedSimpArgs false
namespace Go.Proofs.Ytfefldkljbbbpaa
open Go.RowKit Go.Shelf Go.Proofs.YtfefldkljbbbpaaW.PrintWords Go.Proofs.YtfefldkljbbbpaaW.PrintLast Go.Proofs.YtfefldkljbbbpaaW.PrintMore
attribute [local go_sem] Oper.semAt_some
set_option maxRecDepth 100000 in
set_option maxHeartbeats 8000000 in
theorem same_any : ∀ (k : Nat) (w : World) (x y : Nd) (A B : Option Addr) (c d : Nat), nds x ≤ k → x.f2.length ≤ c → y.f2.length ≤ d → Kd.C kNd w A x.f2.length x.f2 → Kd.C kNd w B y.f2.length y.f2 → nds x ≤ 1073741824 → nds y ≤ 1073741824 →
    Calls Try.prog 17 #[.agg #[.int .u8 x.f0, .int .u8 x.f1.f0, .string x.f1.f1, .int .i64 x.f1.f2.f0, .int .i64 x.f1.f2.f1, .int .i64 x.f1.f2.f2, .int .i64 x.f1.f3, .slice A x.f2.length c], .agg #[.int .u8 y.f0, .int .u8 y.f1.f0, .string y.f1.f1, .int .i64 y.f1.f2.f0, .int .i64 y.f1.f2.f1, .int .i64 y.f1.f2.f2, .int .i64 y.f1.f3, .slice B y.f2.length d]] w fun e w' => e = .returned (.bool (sameN k x y)) ∧ Below w.heap.size w w' := by
  intro k
  induction k with
  | zero => intro w x y A B c d hk; have := nds_pos x; omega
  | succ k ih =>
    intro w x y A B c d hk hlc hld hCx hCy hl24 hl24'
    by_cases hleaf : x.f0 ≠ y.f0 ∨ x.f0 = 0
    · exact same_leaf w x y A B c d k hleaf
    · have h0 : x.f0 = y.f0 := Classical.not_not.1 fun h => hleaf (.inl h)
      have h1 : x.f0 ≠ 0 := fun h => hleaf (.inr h)
      have hs : sameN (k + 1) x y = ((plainL x.f2).length == (plainL y.f2).length && ((plainL x.f2).zip (plainL y.f2)).all fun p => sameN k p.1 p.2) := by rw [sameN, if_pos h0, if_neg h1]
      rw [hs]
      have dk : (y.f0 == (0 : Int)) = false := beq_eq_false_iff_ne.2 (h0 ▸ h1)
      have IH := Lib.hid ih
      have HCX := Lib.hid hCx
      have HCY := Lib.hid hCy
      have HLX := Lib.hid hlc
      have HLY := Lib.hid hld
      have HNX := Lib.hid hk
      have HMX := Lib.hid hl24
      have HMY := Lib.hid hl24'
      rw [h0]
      clear hleaf hs h0 h1 ih hCx hCy hlc hld hk hl24 hl24'
      refine (callsIn_wide (n := 8)).1 ?_
      refine callsIn_of_wp_marks Try.func17 rfl trivial ?_ rfl
      simp only [Try.ntmps17, List.size_toArray, List.length_cons, List.length_nil, Nat.reduceAdd, Nat.reduceSub, Array.replicate_succ, Array.replicate_zero, List.push_toArray, List.append_toArray, List.nil_append, List.cons_append]
      gi_wp2_with (refine ⟨trivial, ?_⟩; gi_at_call 28; refine (kids_in _ y B y.f2.length d _).mono ?_; rintro e w' ⟨rfl, rfl⟩)
      obtain ⟨W0, hW0⟩ : ∃ W0, ((((w.alloc (.cells #[.int .u8 y.f0, .int .u8 x.f1.f0, .string x.f1.f1, .int .i64 x.f1.f2.f0, .int .i64 x.f1.f2.f1, .int .i64 x.f1.f2.f2, .int .i64 x.f1.f3, .slice A x.f2.length c] TN)).alloc (.cells #[.int .u8 y.f0, .int .u8 y.f1.f0, .string y.f1.f1, .int .i64 y.f1.f2.f0, .int .i64 y.f1.f2.f1, .int .i64 y.f1.f2.f2, .int .i64 y.f1.f3, .slice B y.f2.length d] TN)).alloc (.cells #[.bool false] 4)).alloc (.cells #[.slice none 0 0] 33)).alloc (.cells #[.int .u8 y.f0, .int .u8 y.f1.f0, .string y.f1.f1, .int .i64 y.f1.f2.f0, .int .i64 y.f1.f2.f1, .int .i64 y.f1.f2.f2, .int .i64 y.f1.f3, .slice B y.f2.length d] TN) = W0 := ⟨_, rfl⟩
      have hz0 : W0.heap.size = w.heap.size + 1 + 1 + 1 + 1 + 1 := by rw [← hW0]; simp
      have hb0 : Below w.heap.size w W0 := by
        rw [← hW0]
        exact ((((((Below.refl _ w).alloc (Nat.le_refl _) _).alloc (by simp) _).alloc (by simp; omega) _).alloc (by simp; omega) _).alloc (by simp; omega) _)
      have g3 : Boxed W0 (w.heap.size + 1 + 1 + 1) 33 (.slice none 0 0) := by
        rw [← hW0]
        have := (Boxed.new (((w.alloc (.cells #[.int .u8 y.f0, .int .u8 x.f1.f0, .string x.f1.f1, .int .i64 x.f1.f2.f0, .int .i64 x.f1.f2.f1, .int .i64 x.f1.f2.f2, .int .i64 x.f1.f3, .slice A x.f2.length c] TN)).alloc (.cells #[.int .u8 y.f0, .int .u8 y.f1.f0, .string y.f1.f1, .int .i64 y.f1.f2.f0, .int .i64 y.f1.f2.f1, .int .i64 y.f1.f2.f2, .int .i64 y.f1.f3, .slice B y.f2.length d] TN)).alloc (.cells #[.bool false] 4)) 33 (.slice none 0 0)).alloc (.cells #[.int .u8 y.f0, .int .u8 y.f1.f0, .string y.f1.f1, .int .i64 y.f1.f2.f0, .int .i64 y.f1.f2.f1, .int .i64 y.f1.f2.f2, .int .i64 y.f1.f3, .slice B y.f2.length d] TN)
        simpa only [World.size_alloc] using this
      have g2 : Boxed W0 (w.heap.size + 1 + 1) 4 (.bool false) := by
        rw [← hW0]
        have := ((Boxed.new ((w.alloc (.cells #[.int .u8 y.f0, .int .u8 x.f1.f0, .string x.f1.f1, .int .i64 x.f1.f2.f0, .int .i64 x.f1.f2.f1, .int .i64 x.f1.f2.f2, .int .i64 x.f1.f3, .slice A x.f2.length c] TN)).alloc (.cells #[.int .u8 y.f0, .int .u8 y.f1.f0, .string y.f1.f1, .int .i64 y.f1.f2.f0, .int .i64 y.f1.f2.f1, .int .i64 y.f1.f2.f2, .int .i64 y.f1.f3, .slice B y.f2.length d] TN)) 4 (.bool false)).alloc (.cells #[.slice none 0 0] 33)).alloc (.cells #[.int .u8 y.f0, .int .u8 y.f1.f0, .string y.f1.f1, .int .i64 y.f1.f2.f0, .int .i64 y.f1.f2.f1, .int .i64 y.f1.f2.f2, .int .i64 y.f1.f3, .slice B y.f2.length d] TN)
        simpa only [World.size_alloc] using this
      have g4 : W0.heap[w.heap.size + 1 + 1 + 1 + 1]? = some (.cells #[.int .u8 y.f0, .int .u8 y.f1.f0, .string y.f1.f1, .int .i64 y.f1.f2.f0, .int .i64 y.f1.f2.f1, .int .i64 y.f1.f2.f2, .int .i64 y.f1.f3, .slice B y.f2.length d] TN) := by
        rw [← hW0]
        have := World.alloc_heap_new ((((w.alloc (.cells #[.int .u8 y.f0, .int .u8 x.f1.f0, .string x.f1.f1, .int .i64 x.f1.f2.f0, .int .i64 x.f1.f2.f1, .int .i64 x.f1.f2.f2, .int .i64 x.f1.f3, .slice A x.f2.length c] TN)).alloc (.cells #[.int .u8 y.f0, .int .u8 y.f1.f0, .string y.f1.f1, .int .i64 y.f1.f2.f0, .int .i64 y.f1.f2.f1, .int .i64 y.f1.f2.f2, .int .i64 y.f1.f3, .slice B y.f2.length d] TN)).alloc (.cells #[.bool false] 4)).alloc (.cells #[.slice none 0 0] 33)) (.cells #[.int .u8 y.f0, .int .u8 y.f1.f0, .string y.f1.f1, .int .i64 y.f1.f2.f0, .int .i64 y.f1.f2.f1, .int .i64 y.f1.f2.f2, .int .i64 y.f1.f3, .slice B y.f2.length d] TN)
        simpa only [World.size_alloc] using this
      have g0 : W0.heap[w.heap.size]? = some (.cells #[.int .u8 y.f0, .int .u8 x.f1.f0, .string x.f1.f1, .int .i64 x.f1.f2.f0, .int .i64 x.f1.f2.f1, .int .i64 x.f1.f2.f2, .int .i64 x.f1.f3, .slice A x.f2.length c] TN) := by
        rw [← hW0]
        refine Eq.trans (((((Below.refl (w.heap.size + 1) (w.alloc (.cells #[.int .u8 y.f0, .int .u8 x.f1.f0, .string x.f1.f1, .int .i64 x.f1.f2.f0, .int .i64 x.f1.f2.f1, .int .i64 x.f1.f2.f2, .int .i64 x.f1.f3, .slice A x.f2.length c] TN))).alloc (by simp) _).alloc (by simp) _).alloc (by simp <;> omega) _).alloc (by simp <;> omega) _ |>.block w.heap.size (by omega)) ?_
        exact World.alloc_heap_new w _
      rw [hW0]
      clear hW0
      obtain ⟨s0, hs0⟩ : ∃ s, w.heap.size = s := ⟨_, rfl⟩
      obtain ⟨s1, hs1⟩ : ∃ s, s0 + 1 = s := ⟨_, rfl⟩
      obtain ⟨s2, hs2⟩ : ∃ s, s1 + 1 = s := ⟨_, rfl⟩
      obtain ⟨s3, hs3⟩ : ∃ s, s2 + 1 = s := ⟨_, rfl⟩
      obtain ⟨s4, hs4⟩ : ∃ s, s3 + 1 = s := ⟨_, rfl⟩
      obtain ⟨XV, hXV⟩ : ∃ v, Value.agg #[.int .u8 y.f0, .int .u8 x.f1.f0, .string x.f1.f1, .int .i64 x.f1.f2.f0, .int .i64 x.f1.f2.f1, .int .i64 x.f1.f2.f2, .int .i64 x.f1.f3, .slice A x.f2.length c] = v := ⟨_, rfl⟩
      obtain ⟨YV, hYV⟩ : ∃ v, Value.agg #[.int .u8 y.f0, .int .u8 y.f1.f0, .string y.f1.f1, .int .i64 y.f1.f2.f0, .int .i64 y.f1.f2.f1, .int .i64 y.f1.f2.f2, .int .i64 y.f1.f3, .slice B y.f2.length d] = v := ⟨_, rfl⟩
      rw [hs0, hs1, hs2, hs3, hs4] at hz0
      rw [hs0, hs1, hs2, hs3] at g3
      rw [hs0, hs1, hs2] at g2
      rw [hs0, hs1, hs2, hs3, hs4] at g4
      rw [hs0] at g0
      rw [hXV, hYV, hs0, hs1, hs2, hs3, hs4]
      have hk7 : W0.cell? ⟨s4, 7, none⟩ = some (.slice B y.f2.length d) := cell_of_row _ _ _ _ _ _ g4
      have hmy : y.f2.length ≤ 1073741824 := by have := HMY.out; rw [nds_eq] at this; have := ndsL_len y.f2; omega
      have HZ := Lib.hid (show s0 + 1 = s1 ∧ s1 + 1 = s2 ∧ s2 + 1 = s3 ∧ s3 + 1 = s4 ∧ W0.heap.size = s4 + 1 ∧ w.heap.size = s0 from ⟨hs1, hs2, hs3, hs4, hz0, hs0⟩)
      have HXV := Lib.hid hXV
      have HYV := Lib.hid hYV
      have HG0 := Lib.hid g0
      have HG2 := Lib.hid g2
      have HB0 := Lib.hid hb0
      clear hXV hYV hs0 hs1 hs2 hs3 hs4 g0 g2 g4
      refine wpIn_rangeFunc_ownH rfl (by decide) (gf := 36) (lb := #[.pointer (some ⟨s4, 0, none⟩)]) rfl trivial (enters_of Try.func36 (by kernel_rfl) rfl)
        (kids_stops 7 (by decide) w y B d HCY.out (nds y) (by have := nds_eq y; omega) W0 hb0 s4 hk7 (by omega) hmy) belowK_t (belowK_b hb0.size) (Below.refl _ _) (fun _ => rfl)
        (Coll w W0 (nds y) s3) (fun _ _ _ => False) (coll_own (Nat.le_refl _)) (fun _ _ _ _ _ h _ _ => h)
        ⟨World.grownBy.refl _ _, _, g3, by simp [kvCells], .inl ⟨rfl, rfl⟩⟩
        (fun k a' W => ∃ Bx, W0.heap.size ≤ Bx ∧ W.heap[Bx]? = some (.cells #[.int .u8 k.x.f0, .int .u8 k.x.f1.f0, .string k.x.f1.f1, .int .i64 k.x.f1.f2.f0, .int .i64 k.x.f1.f2.f1, .int .i64 k.x.f1.f2.f2, .int .i64 k.x.f1.f3, .slice k.A k.x.f2.length k.c] TN) ∧ a' = { tmps := #[XV, YV, .pointer (some ⟨s0, 0, none⟩), .pointer (some ⟨s1, 0, none⟩), .pointer (some ⟨s2, 0, none⟩), .pointer (some ⟨s3, 0, none⟩), .pointer (some ⟨Bx, 0, none⟩), undef, undef, .pointer (some ⟨s0, 0, none⟩), .int .u8 y.f0, .pointer (some ⟨s1, 0, none⟩), .int .u8 y.f0, .bool false, .pointer (some ⟨s0, 0, none⟩), .int .u8 y.f0, .bool false, undef, undef, undef, undef, undef, undef, undef, undef, undef, undef, undef, undef, undef, undef, undef, undef, YV, .func (.func 36) #[] #[.pointer (some ⟨s4, 0, none⟩)], KV.val k, undef, undef, undef, undef, undef, undef, undef, undef, undef, undef, undef, undef, undef, undef, undef, undef, undef, undef, undef, undef, undef, undef, undef, undef, undef, undef, undef, undef], defers := [] }) ?hAx ?assign ?body ?done ?stop
      case hAx =>
        rintro k a' _ X Y row ⟨Bx, h1, h2, h3⟩ hg hr
        refine ⟨Bx, h1, (hg.block Bx (Array.getElem?_eq_some_iff.1 h2).1 fun e => ?_).trans h2, h3⟩
        obtain ⟨_, o, ho, hc⟩ := hr Bx e.symm
        rw [h2] at ho; cases ho; cases hc
      case assign =>
        rintro l pre k W K hI hK
        unfold KV.val
        gi_wp2
        exact hK _ _ ((KeepsOthers.alloc _ _).from _) ((Below.refl _ W).alloc (Nat.le_trans HB0.out.size hI.1.size) _) ((coll_own (Nat.le_refl _)).alloc _ hI) ⟨W.heap.size, hI.1.size, World.alloc_heap_new _ _, rfl⟩
      case body =>
        rintro l pre k a' W hl hloop ⟨hg, u, hu, ho⟩ ⟨Bx, hBx, hcx, rfl⟩ hlt
        obtain ⟨A5, c5, rfl⟩ : ∃ A5 c5, u = .slice A5 pre.length c5 := by
          rcases ho.2 with ⟨rfl, h0⟩ | ⟨g, cap, cur, rfl, _⟩
          · exact ⟨none, 0, by rw [h0]⟩
          · exact ⟨_, cap, rfl⟩
        obtain ⟨Wd, hWd⟩ : ∃ V, W.drew = V := ⟨_, rfl⟩
        have hrel : KeepsFrom W0.heap.size W Wd ∧ Below w.heap.size W Wd := by rw [← hWd]; exact ⟨(KeepsOthers.drew W).from _, (Below.refl _ W).drew⟩
        have hgd : W0.grownBy Wd (some s3) := by rw [← hWd]; exact ⟨hg.os, hg.tape, hg.output, hg.size, hg.block⟩
        have hbd : Boxed Wd s3 33 (.slice A5 pre.length c5) := by rw [← hWd]; exact hu
        have hod : Wd.ownsRow W0.heap.size TN 8 (.slice A5 pre.length c5) pre.length (kvCells pre) := by rw [← hWd]; exact ho.drew
        have hcd : Wd.heap[Bx]? = some (.cells #[.int .u8 k.x.f0, .int .u8 k.x.f1.f0, .string k.x.f1.f1, .int .i64 k.x.f1.f2.f0, .int .i64 k.x.f1.f2.f1, .int .i64 k.x.f1.f2.f2, .int .i64 k.x.f1.f3, .slice k.A k.x.f2.length k.c] TN) := by rw [← hWd]; exact hcx
        have hSall : ∀ V, Below Wd.heap.size Wd V → V.cell? ⟨s3, 0, none⟩ = some (.slice A5 pre.length c5) ∧ V.cell? ⟨Bx, 0, none⟩ = some (.int .u8 k.x.f0) ∧ V.cell? ⟨Bx, 1, none⟩ = some (.int .u8 k.x.f1.f0) ∧ V.cell? ⟨Bx, 2, none⟩ = some (.string k.x.f1.f1) ∧ V.cell? ⟨Bx, 3, none⟩ = some (.int .i64 k.x.f1.f2.f0) ∧ V.cell? ⟨Bx, 4, none⟩ = some (.int .i64 k.x.f1.f2.f1) ∧ V.cell? ⟨Bx, 5, none⟩ = some (.int .i64 k.x.f1.f2.f2) ∧ V.cell? ⟨Bx, 6, none⟩ = some (.int .i64 k.x.f1.f3) ∧ V.cell? ⟨Bx, 7, none⟩ = some (.slice k.A k.x.f2.length k.c) := fun V hV => ⟨(hV.cell (p := ⟨s3, 0, none⟩) hbd.lt).trans hbd.cell, (hV.cell (p := ⟨Bx, 0, none⟩) (Array.getElem?_eq_some_iff.1 hcd).1).trans (cell_of_row _ _ _ _ _ _ hcd), (hV.cell (p := ⟨Bx, 1, none⟩) (Array.getElem?_eq_some_iff.1 hcd).1).trans (cell_of_row _ _ _ _ _ _ hcd), (hV.cell (p := ⟨Bx, 2, none⟩) (Array.getElem?_eq_some_iff.1 hcd).1).trans (cell_of_row _ _ _ _ _ _ hcd), (hV.cell (p := ⟨Bx, 3, none⟩) (Array.getElem?_eq_some_iff.1 hcd).1).trans (cell_of_row _ _ _ _ _ _ hcd), (hV.cell (p := ⟨Bx, 4, none⟩) (Array.getElem?_eq_some_iff.1 hcd).1).trans (cell_of_row _ _ _ _ _ _ hcd), (hV.cell (p := ⟨Bx, 5, none⟩) (Array.getElem?_eq_some_iff.1 hcd).1).trans (cell_of_row _ _ _ _ _ _ hcd), (hV.cell (p := ⟨Bx, 6, none⟩) (Array.getElem?_eq_some_iff.1 hcd).1).trans (cell_of_row _ _ _ _ _ _ hcd), (hV.cell (p := ⟨Bx, 7, none⟩) (Array.getElem?_eq_some_iff.1 hcd).1).trans (cell_of_row _ _ _ _ _ _ hcd)⟩
        have HSA := Lib.hid hSall
        have HS := Lib.hid (hSall Wd (Below.refl _ _))
        have HREL := Lib.hid hrel
        have HGD := Lib.hid hgd
        have HBD := Lib.hid hbd
        have HOD := Lib.hid hod
        have HWd := Lib.hid hWd
        have HQ8 : Hid ((pre.length + 1) * 88 ≤ 140737488355328) := Lib.hid (by omega)
        have HBA : Hid (W0.heap.size ≤ Wd.heap.size) := Lib.hid hgd.size
        clear hrel hgd hbd hod hcd hSall hg hu ho hcx hWd hloop
        refine wpIn_block ?_
        refine wp_region_RIn (fun w' => w'.cell? ⟨s3, 0, none⟩ = some (.slice A5 pre.length c5) ∧ w'.cell? ⟨Bx, 0, none⟩ = some (.int .u8 k.x.f0) ∧ w'.cell? ⟨Bx, 1, none⟩ = some (.int .u8 k.x.f1.f0) ∧ w'.cell? ⟨Bx, 2, none⟩ = some (.string k.x.f1.f1) ∧ w'.cell? ⟨Bx, 3, none⟩ = some (.int .i64 k.x.f1.f2.f0) ∧ w'.cell? ⟨Bx, 4, none⟩ = some (.int .i64 k.x.f1.f2.f1) ∧ w'.cell? ⟨Bx, 5, none⟩ = some (.int .i64 k.x.f1.f2.f2) ∧ w'.cell? ⟨Bx, 6, none⟩ = some (.int .i64 k.x.f1.f3) ∧ w'.cell? ⟨Bx, 7, none⟩ = some (.slice k.A k.x.f2.length k.c)) (fun j => Nat.ble j 3) (by kernel_rfl) (by kernel_rfl) ?_
        rw [HWd.out]
        refine anyR_take (i := 0) (oi := { dst := some 36, op := Go.Op.load 33 (Go.Operand.tmp 5), type := 33, pos := "tree.go:93", after := #[], guard := none }) (v := ?_) rfl (by kernel_rfl) (fun _ _ _ h => h) (Or.inl ⟨by rfl, ?_⟩) HS.out ?_
        rotate_left
        · intro w9 hSw; (try dsimp only at hSw); go_simp; try (with_reducible rfl)
        try simp only [Act.put, List.setIfInBounds_toArray, List.set_cons_zero, List.set_cons_succ]
        refine anyR_take (i := 1) (oi := { dst := some 37, op := Go.Op.load 35 (Go.Operand.tmp 6), type := 35, pos := "tree.go:93", after := #[], guard := none }) (v := ?_) rfl (by kernel_rfl) (fun _ _ _ h => h) (Or.inl ⟨by rfl, ?_⟩) HS.out ?_
        rotate_left
        · intro w9 hSw; (try dsimp only at hSw); go_simp; try (with_reducible rfl)
        try simp only [Act.put, List.setIfInBounds_toArray, List.set_cons_zero, List.set_cons_succ]
        refine anyR_take (i := 2) (oi := { dst := some 38, op := Go.Op.call { callee := Go.Callee.builtin Go.Builtin.len, args := #[Go.Operand.tmp 36], argTypes := #[33] }, type := 3, pos := "tree.go:93", after := #[{ on := 0, ground := Go.Ground.data }], guard := none }) (v := ?_) rfl (by kernel_rfl) (fun _ _ _ h => h) (Or.inl ⟨by rfl, ?_⟩) HS.out ?_
        rotate_left
        · intro w9 hSw; (try dsimp only at hSw); go_simp; try (with_reducible rfl)
        try simp only [Act.put, List.setIfInBounds_toArray, List.set_cons_zero, List.set_cons_succ]
        refine anyR_ready (rs := [3]) (by kernel_rfl) (by simp) ?_
        refine ReadyR.cons (o := { dst := some 39, op := Go.Op.buildSlice 33 1 #[(0, Go.Operand.const (Go.Value.agg #[Go.Value.int Go.IntKind.u8 0, Go.Value.int Go.IntKind.u8 0, Go.Value.string { data := #[] }, Go.Value.int Go.IntKind.i64 0, Go.Value.int Go.IntKind.i64 0, Go.Value.int Go.IntKind.i64 0, Go.Value.int Go.IntKind.i64 0, Go.Value.slice none 0 0]))], type := 33, pos := "tree.go:93", after := #[], guard := none }) rfl (fun K hK => ?_) ReadyR.nil
        go_simp
        refine hK.out _ _ (fun _ => ?_) ?_
        · exact HSA.out _ ((Below.refl Wd.heap.size Wd).alloc (Nat.le_refl _) _)
        clear hK K
        try simp only [Act.put, List.setIfInBounds_toArray, List.set_cons_zero, List.set_cons_succ]
        refine anyR_ready (rs := [4]) (by kernel_rfl) (by simp) ?_
        refine ReadyR.cons (o := { dst := some 40, op := Go.Op.call { callee := Go.Callee.builtin Go.Builtin.append, args := #[Go.Operand.tmp 36, Go.Operand.tmp 39], argTypes := #[33, 33] }, type := 33, pos := "tree.go:93", after := #[{ on := 0, ground := Go.Ground.data }, { on := 3, ground := Go.Ground.data }, { on := 0, ground := Go.Ground.phase }, { on := 1, ground := Go.Ground.phase }, { on := 2, ground := Go.Ground.phase }, { on := 3, ground := Go.Ground.phase }], guard := none }) rfl (fun K hK => ?_) ReadyR.nil
        refine step_kid rfl (.tmp 36) (.tmp 39) rfl W0.heap.size (cs := zNd) rfl rfl HOD.out rfl zNd_one HBA.out HQ8.out ?_
        intro g1 c1 w1 ho hg hat
        refine hK.out _ _ (fun h => absurd h (by decide)) ?_
        clear hK K
        try simp only [Act.put, List.setIfInBounds_toArray, List.set_cons_zero, List.set_cons_succ]
        obtain ⟨⟨cur1, hh1, hf1⟩, ⟨cur4, hh4, hf4⟩, hb3, hb2, finA, finB⟩ := coll_push (k := k) (s3 := s3) (by have := HZ.out; omega) (by have := HZ.out; omega) HREL.out HGD.out HBD.out HOD.out hg ho
        have HH1 := Lib.hid hh1
        have HH4 := Lib.hid hh4
        have HH3 := Lib.hid hb3
        have HH2 := Lib.hid hb2
        have HF1 := Lib.hid hf1
        have HF4 := Lib.hid hf4
        have FA := Lib.hid finA
        have FB := Lib.hid finB
        clear hh1 hh4 hb3 hb2 hf1 hf4 finA finB ho hg hat
        have hqq : (pre.length : Int) < (pre.length : Int) + 1 := by omega
        refine anyR_take0 (i := 5) (oi := { dst := some 41, op := Go.Op.indexAddr 33 (Go.Operand.tmp 40) (Go.Operand.tmp 38), type := 0, pos := "tree.go:93", after := #[{ on := 4, ground := Go.Ground.data }, { on := 2, ground := Go.Ground.data }, { on := 0, ground := Go.Ground.phase }, { on := 1, ground := Go.Ground.phase }, { on := 2, ground := Go.Ground.phase }, { on := 3, ground := Go.Ground.phase }, { on := 4, ground := Go.Ground.phase }, { on := 7, ground := Go.Ground.gcOnly Go.Departure.appendInPlace }], guard := none }) (v := ?_) rfl (by kernel_rfl) (fun _ _ _ h => h) (Or.inl ⟨by rfl, ?_⟩) ?_
        rotate_left
        · intro w9; go_simp; try (with_reducible rfl)
        try simp only [Act.put, List.setIfInBounds_toArray, List.set_cons_zero, List.set_cons_succ]
        refine anyR_ready (rs := [6, 7]) (by kernel_rfl) (by simp) ?_
        refine ReadyR.cons (o := { dst := none, op := Go.Op.store 35 (Go.Operand.tmp 41) (Go.Operand.tmp 37), type := 0, pos := "tree.go:93", after := #[{ on := 5, ground := Go.Ground.data }, { on := 1, ground := Go.Ground.data }, { on := 4, ground := Go.Ground.chain }, { on := 0, ground := Go.Ground.phase }, { on := 1, ground := Go.Ground.phase }, { on := 2, ground := Go.Ground.phase }, { on := 3, ground := Go.Ground.phase }, { on := 4, ground := Go.Ground.phase }, { on := 7, ground := Go.Ground.gcOnly Go.Departure.appendInPlace }], guard := none }) rfl (fun K hK => ?_) (ReadyR.cons (o := { dst := none, op := Go.Op.store 33 (Go.Operand.tmp 5) (Go.Operand.tmp 40), type := 0, pos := "tree.go:93", after := #[{ on := 4, ground := Go.Ground.data }, { on := 4, ground := Go.Ground.chain }, { on := 6, ground := Go.Ground.textOnly Go.Departure.appendInPlace }, { on := 0, ground := Go.Ground.phase }, { on := 1, ground := Go.Ground.phase }, { on := 2, ground := Go.Ground.phase }, { on := 3, ground := Go.Ground.phase }, { on := 4, ground := Go.Ground.phase }, { on := 5, ground := Go.Ground.textOnly Go.Departure.appendInPlace }, { on := 6, ground := Go.Ground.textOnly Go.Departure.appendInPlace }], guard := none }) rfl (fun K hK => ?_) ReadyR.nil)
        · refine step_store rfl rfl 35 (.tmp 41) (.tmp 37) rfl _ (ndCells k.x.f0 k.x.f1 (.slice k.A k.x.f2.length k.c)) rfl rfl rfl infoNd8 (ndCells_one _ _ rfl) HH1.out HF1.out ?_
          refine hK.out _ _ (fun h => absurd h (by decide)) ?_
          clear hK K
          generalize w1.setCells g1 (pre.length * 8) (ndCells k.x.f0 k.x.f1 (.slice k.A k.x.f2.length k.c)) = w2x at HH2 FA ⊢
          refine anyR_ready (rs := [7]) (by kernel_rfl) (by simp) ?_
          refine ReadyR.cons (o := { dst := none, op := Go.Op.store 33 (Go.Operand.tmp 5) (Go.Operand.tmp 40), type := 0, pos := "tree.go:93", after := #[{ on := 4, ground := Go.Ground.data }, { on := 4, ground := Go.Ground.chain }, { on := 6, ground := Go.Ground.textOnly Go.Departure.appendInPlace }, { on := 0, ground := Go.Ground.phase }, { on := 1, ground := Go.Ground.phase }, { on := 2, ground := Go.Ground.phase }, { on := 3, ground := Go.Ground.phase }, { on := 4, ground := Go.Ground.phase }, { on := 5, ground := Go.Ground.textOnly Go.Departure.appendInPlace }, { on := 6, ground := Go.Ground.textOnly Go.Departure.appendInPlace }], guard := none }) rfl (fun K hK => ?_) ReadyR.nil
          refine step_store rfl rfl 33 (.tmp 5) (.tmp 40) rfl _ [.slice (some ⟨g1, 0, none⟩) (pre.length + 1) c1] rfl rfl rfl infoNdS (fun u hu => by rw [List.mem_singleton.1 hu]; rfl) HH2.out (Nat.le_refl 1) ?_
          refine hK.out _ _ (fun h => absurd h (by decide)) ?_
          clear hK K
          refine anyR_done (by kernel_rfl) ?_ _
          exact FA.out
        · refine step_store rfl rfl 33 (.tmp 5) (.tmp 40) rfl _ [.slice (some ⟨g1, 0, none⟩) (pre.length + 1) c1] rfl rfl rfl infoNdS (fun u hu => by rw [List.mem_singleton.1 hu]; rfl) HH3.out (Nat.le_refl 1) ?_
          refine hK.out _ _ (fun h => absurd h (by decide)) ?_
          clear hK K
          generalize w1.setCells s3 0 [.slice (some ⟨g1, 0, none⟩) (pre.length + 1) c1] = w2x at HH4 FB ⊢
          refine anyR_ready (rs := [6]) (by kernel_rfl) (by simp) ?_
          refine ReadyR.cons (o := { dst := none, op := Go.Op.store 35 (Go.Operand.tmp 41) (Go.Operand.tmp 37), type := 0, pos := "tree.go:93", after := #[{ on := 5, ground := Go.Ground.data }, { on := 1, ground := Go.Ground.data }, { on := 4, ground := Go.Ground.chain }, { on := 0, ground := Go.Ground.phase }, { on := 1, ground := Go.Ground.phase }, { on := 2, ground := Go.Ground.phase }, { on := 3, ground := Go.Ground.phase }, { on := 4, ground := Go.Ground.phase }, { on := 7, ground := Go.Ground.gcOnly Go.Departure.appendInPlace }], guard := none }) rfl (fun K hK => ?_) ReadyR.nil
          refine step_store rfl rfl 35 (.tmp 41) (.tmp 37) rfl _ (ndCells k.x.f0 k.x.f1 (.slice k.A k.x.f2.length k.c)) rfl rfl rfl infoNd8 (ndCells_one _ _ rfl) HH4.out HF4.out ?_
          refine hK.out _ _ (fun h => absurd h (by decide)) ?_
          clear hK K
          refine anyR_done (by kernel_rfl) ?_ _
          exact FB.out
      case done =>
        rintro D ys W hD hS ⟨hg, u, hu, ho⟩ hDef
        obtain ⟨A5, c5, rfl⟩ : ∃ A5 c5, u = .slice A5 ys.length c5 := by
          rcases ho.2 with ⟨rfl, h0⟩ | ⟨g, cap, cur, rfl, _⟩
          · exact ⟨none, 0, by rw [h0]⟩
          · exact ⟨_, cap, rfl⟩
        have hz := HZ.out
        have hn03 : some s0 ≠ some s3 := by simp; omega
        have hn23 : some s2 ≠ some s3 := by simp; omega
        have hxs : W.heap[s0]? = some (.cells #[.int .u8 y.f0, .int .u8 x.f1.f0, .string x.f1.f1, .int .i64 x.f1.f2.f0, .int .i64 x.f1.f2.f1, .int .i64 x.f1.f2.f2, .int .i64 x.f1.f3, .slice A x.f2.length c] TN) := (hg.block s0 (by omega) hn03).trans HG0.out
        have hb2 : Boxed W s2 4 (.bool false) := HG2.out.kept hg hn23
        have hBW : Below w.heap.size w W := HB0.out.grown hg HB0.out.size (fun j e => by cases e; omega)
        obtain ⟨W6, hW6⟩ : ∃ V, W.alloc (.cells #[.int .i64 0] 3) = V := ⟨_, rfl⟩
        obtain ⟨W7, hW7⟩ : ∃ V, W6.setCell ⟨W.heap.size, 0, none⟩ (.int .i64 0) = V := ⟨_, rfl⟩
        have b6 : Boxed W6 W.heap.size 3 (.int .i64 0) := by rw [← hW6]; exact Boxed.new _ _ _
        have c6 := b6.cell
        have f6 := b6.frozen
        have b7 : Boxed W7 W.heap.size 3 (.int .i64 0) := by rw [← hW7]; exact b6.set _
        have hg7 : W.grownBy W7 none := by
          rw [← hW7, ← hW6]
          exact ⟨rfl, rfl, rfl, by simp, fun k hk _ => (Below.heap_setCell _ _ _ k (by show k ≠ W.heap.size; omega)).trans (Below.heap_alloc W _ k hk)⟩
        have hz7 : W7.heap.size = W.heap.size + 1 := by rw [← hW7, ← hW6]; simp
        replace hxs : W7.heap[s0]? = some (.cells #[.int .u8 y.f0, .int .u8 x.f1.f0, .string x.f1.f1, .int .i64 x.f1.f2.f0, .int .i64 x.f1.f2.f1, .int .i64 x.f1.f2.f2, .int .i64 x.f1.f3, .slice A x.f2.length c] TN) := (hg7.block s0 (Array.getElem?_eq_some_iff.1 hxs).1 (by simp)).trans hxs
        replace ho := ho.kept hg7 (Classical.em _)
        replace hb2 := hb2.kept hg7 (by simp)
        obtain ⟨q0, q1, q2, q3, q4, q5, q6, q7⟩ : W7.cell? ⟨s0, 0, none⟩ = some (.int .u8 y.f0) ∧ W7.cell? ⟨s0, 1, none⟩ = some (.int .u8 x.f1.f0) ∧ W7.cell? ⟨s0, 2, none⟩ = some (.string x.f1.f1) ∧ W7.cell? ⟨s0, 3, none⟩ = some (.int .i64 x.f1.f2.f0) ∧ W7.cell? ⟨s0, 4, none⟩ = some (.int .i64 x.f1.f2.f1) ∧ W7.cell? ⟨s0, 5, none⟩ = some (.int .i64 x.f1.f2.f2) ∧ W7.cell? ⟨s0, 6, none⟩ = some (.int .i64 x.f1.f3) ∧ W7.cell? ⟨s0, 7, none⟩ = some (.slice A x.f2.length c) := ⟨cell_of_row _ _ _ _ _ _ hxs, cell_of_row _ _ _ _ _ _ hxs, cell_of_row _ _ _ _ _ _ hxs, cell_of_row _ _ _ _ _ _ hxs, cell_of_row _ _ _ _ _ _ hxs, cell_of_row _ _ _ _ _ _ hxs, cell_of_row _ _ _ _ _ _ hxs, cell_of_row _ _ _ _ _ _ hxs⟩
        have HG := Lib.hid hg
        have HU := Lib.hid hu
        have HO := Lib.hid ho
        have HD := Lib.hid (And.intro hD hDef)
        have HSS := Lib.hid hS
        have HBW := Lib.hid hBW
        have HB2 := Lib.hid hb2
        have HB7 := Lib.hid b7
        have HG7 := Lib.hid hg7
        have HZ7 := Lib.hid hz7
        clear b6 b7 hg7 hz7 hn03 hn23 hg hu ho hD hDef hS hz hxs hBW hb2 hb0 g3 hz0 hk7 hmy
        gi_wp2_with (refine ⟨trivial, ?_⟩; gi_at_call 28; refine (kids_in _ ⟨y.f0, x.f1, x.f2⟩ A x.f2.length c _).mono ?_; rintro e w' ⟨rfl, rfl⟩)
        clear q0 q1 q2 q3 q4 q5 q6 q7
        have hz7 := HZ7.out
        have b7 := HB7.out
        obtain ⟨s7, hs7⟩ : ∃ s, W.heap.size = s := ⟨_, rfl⟩
        obtain ⟨s8, hs8⟩ : ∃ s, W7.heap.size = s := ⟨_, rfl⟩
        rw [hs7] at b7
        rw [hs7, hs8] at hz7
        rw [HXV.out, hs7, hs8]
        obtain ⟨W1, hW1⟩ : ∃ V, W7.alloc (.cells #[.int .u8 y.f0, .int .u8 x.f1.f0, .string x.f1.f1, .int .i64 x.f1.f2.f0, .int .i64 x.f1.f2.f1, .int .i64 x.f1.f2.f2, .int .i64 x.f1.f3, .slice A x.f2.length c] TN) = V := ⟨_, rfl⟩
        have hz1 : W1.heap.size = s8 + 1 := by rw [← hW1, World.size_alloc, hs8]
        have hg71 : W7.grownBy W1 none := by rw [← hW1]; exact World.grownBy_alloc _ _ _
        have hk1 : W1.heap[s8]? = some (.cells #[.int .u8 y.f0, .int .u8 x.f1.f0, .string x.f1.f1, .int .i64 x.f1.f2.f0, .int .i64 x.f1.f2.f1, .int .i64 x.f1.f2.f2, .int .i64 x.f1.f3, .slice A x.f2.length c] TN) := by rw [← hW1, ← hs8]; exact World.alloc_heap_new _ _
        have hkc : W1.cell? ⟨s8, 7, none⟩ = some (.slice A x.f2.length c) := cell_of_row _ _ _ _ _ _ hk1
        have b71 := b7.kept hg71 (by simp)
        have b21 := HB2.out.kept hg71 (by simp)
        have b31 : Boxed W1 s3 33 (.slice A5 ys.length c5) := (HU.out.kept HG7.out (by simp)).kept hg71 (by simp)
        have ho1 := HO.out.kept hg71 (Classical.em _)
        have hB1 : Below w.heap.size w W1 := (HBW.out.grown HG7.out HBW.out.size (fun _ e => nomatch e)).grown hg71 (Nat.le_trans HBW.out.size HG7.out.size) (fun _ e => nomatch e)
        have hdl : D < W.heap.size := (Array.getElem?_eq_some_iff.1 HD.out.2).1
        have hd1 : W1.heap[D]? = some (.deferred (some [])) := (hg71.block D (Nat.lt_of_lt_of_le hdl HG7.out.size) (by simp)).trans ((HG7.out.block D hdl (by simp)).trans HD.out.2)
        have hlx : x.f2.length ≤ 1073741824 := by have := HMX.out; rw [nds_eq] at this; have := ndsL_len x.f2; omega
        have hmx : ndsL x.f2 ≤ nds x - 1 := by rw [nds_eq]; omega
        have hz := HZ.out
        have hgs := HG.out.size
        have hs37 : s3 < s7 := by omega
        rw [hW1]
        clear hW1 hg71 hk1
        have HZB := Lib.hid (And.intro hz7 (And.intro hz1 (And.intro hgs hs37)))
        have hs23 : s2 < W1.heap.size ∧ s3 < W1.heap.size ∧ s7 < W1.heap.size ∧ s2 ≠ s3 ∧ s3 ≠ s7 ∧ s2 ≠ s7 ∧ w.heap.size ≤ s2 ∧ w.heap.size ≤ s7 := by omega
        have hs8W : s8 < W1.heap.size := by omega
        have HNE := Lib.hid hs23
        clear hz7 hz1 hs37 hgs hz hs23
        refine wpIn_rangeFunc_ownH rfl (by decide) (gf := 36) (lb := #[.pointer (some ⟨s8, 0, none⟩)]) rfl trivial (enters_of Try.func36 (by kernel_rfl) rfl)
          (kids_stops 7 (by decide) w x A c HCX.out (nds x - 1) hmx W1 hB1 s8 hkc hs8W hlx) belowK_t (belowK_b hB1.size) (Below.refl _ _) (fun _ => rfl)
          (fun pre V => Rel2 W1 s2 s7 V ∧ Boxed V s2 4 (.bool false) ∧ Boxed V s7 3 (.int .i64 (pre.length : Nat)) ∧ okL (sameN k) (pre.map (·.x)) (ys.map (·.x)))
          (fun e pre V => e = .ret ∧ Rel2 W1 s2 s7 V ∧ Boxed V s2 4 (.bool false) ∧ ¬ okL (sameN k) (pre.map (·.x)) (ys.map (·.x)))
          (OwnFrom.and (rel2_own (Nat.le_refl _)) (OwnFrom.and (Own.from (boxed_own s2 _ (fun _ => .bool false)) _) (OwnFrom.and (Own.from (boxed_own s7 _ (fun pre : List (KV w (nds x - 1)) => .int .i64 (pre.length : Nat))) _) (ownFrom_pure _ _))))
          (fun e => OwnFrom.and (ownFrom_pure _ _) (OwnFrom.and (rel2_own (Nat.le_refl _)) (OwnFrom.and (Own.from (boxed_own s2 _ (fun _ => .bool false)) _) (ownFrom_pure _ _))))
          ⟨Rel2.refl _ _ _, b21, b71, okL_nil _ _⟩
          (fun q a' V => ∃ Bx, W1.heap.size ≤ Bx ∧ V.heap[Bx]? = some (.cells #[.int .u8 q.x.f0, .int .u8 q.x.f1.f0, .string q.x.f1.f1, .int .i64 q.x.f1.f2.f0, .int .i64 q.x.f1.f2.f1, .int .i64 q.x.f1.f2.f2, .int .i64 q.x.f1.f3, .slice q.A q.x.f2.length q.c] TN) ∧ a' = { tmps := #[XV, YV, .pointer (some ⟨s0, 0, none⟩), .pointer (some ⟨s1, 0, none⟩), .pointer (some ⟨s2, 0, none⟩), .pointer (some ⟨s3, 0, none⟩), undef, .pointer (some ⟨s7, 0, none⟩), .pointer (some ⟨Bx, 0, none⟩), .pointer (some ⟨s0, 0, none⟩), .int .u8 y.f0, .pointer (some ⟨s1, 0, none⟩), .int .u8 y.f0, .bool false, .pointer (some ⟨s0, 0, none⟩), .int .u8 y.f0, .bool false, undef, undef, undef, undef, undef, undef, undef, undef, undef, undef, undef, undef, undef, undef, undef, undef, YV, .func (.func 36) #[] #[.pointer (some ⟨s4, 0, none⟩)], undef, undef, undef, undef, undef, undef, undef, XV, .func (.func 36) #[] #[.pointer (some ⟨s8, 0, none⟩)], KV.val q, undef, undef, undef, undef, undef, undef, undef, undef, undef, undef, undef, undef, undef, undef, undef, undef, undef, undef, undef], defers := [] }) ?hAx2 ?assign2 ?body2 ?done2 ?stop2
        case hAx2 =>
          rintro q a' _ X Y row ⟨Bx, h1, h2, h3⟩ hg hr
          refine ⟨Bx, h1, (hg.block Bx (Array.getElem?_eq_some_iff.1 h2).1 fun e => ?_).trans h2, h3⟩
          obtain ⟨_, o, ho, hc⟩ := hr Bx e.symm
          rw [h2] at ho; cases ho; cases hc
        case assign2 =>
          rintro l pre q V K hI hK
          unfold KV.val
          gi_wp2
          exact hK _ _ ((KeepsOthers.alloc _ _).from _) ((Below.refl _ V).alloc (Nat.le_trans hB1.size hI.1.size) _) ⟨hI.1.grown (World.grownBy_alloc _ _ none) (fun _ e => nomatch e), hI.2.1.alloc _, hI.2.2.1.alloc _, hI.2.2.2⟩ ⟨V.heap.size, hI.1.size, World.alloc_heap_new _ _, rfl⟩
        case body2 =>
          rintro l pre q a' V hl hloop ⟨hR, v2, v7, hok⟩ ⟨Bx, hBx, hcx, rfl⟩ hlt
          have hne := HNE.out
          have v3 : Boxed V s3 33 (.slice A5 ys.length c5) := (hR.block s3 b31.lt (by omega) (by omega)).trans b31
          have hoV := hR.row ho1 b21 (by decide) b71 (by decide)
          have hbv := hR.below hB1 (by omega) (by omega)
          obtain ⟨Vd, hVd⟩ : ∃ U, V.drew = U := ⟨_, rfl⟩
          have hrd : Rel2 W1 s2 s7 Vd := by rw [← hVd]; exact ⟨hR.os, hR.tape, hR.output, hR.size, hR.block⟩
          have hkd : KeepsOthers V Vd := by rw [← hVd]; exact KeepsOthers.drew V
          have hbd : Below w.heap.size V Vd := by rw [← hVd]; exact (Below.refl _ V).drew
          have d2 : Boxed Vd s2 4 (.bool false) := by rw [← hVd]; exact v2
          have d7 : Boxed Vd s7 3 (.int .i64 (pre.length : Nat)) := by rw [← hVd]; exact v7
          have d3 : Boxed Vd s3 33 (.slice A5 ys.length c5) := by rw [← hVd]; exact v3
          have hod : Vd.ownsRow W0.heap.size TN 8 (.slice A5 ys.length c5) ys.length (kvCells ys) := by rw [← hVd]; exact hoV.drew
          have hcd : Vd.heap[Bx]? = some (.cells #[.int .u8 q.x.f0, .int .u8 q.x.f1.f0, .string q.x.f1.f1, .int .i64 q.x.f1.f2.f0, .int .i64 q.x.f1.f2.f1, .int .i64 q.x.f1.f2.f2, .int .i64 q.x.f1.f3, .slice q.A q.x.f2.length q.c] TN) := by rw [← hVd]; exact hcx
          have hub : pre.length ≤ 1073741824 := by omega
          have hok1 := hok.1
          rw [List.length_map, List.length_map] at hok1
          have HNE := Lib.hid hne
          have HOK := Lib.hid hok
          have HREL := Lib.hid (And.intro hrd (And.intro hkd hbd))
          have HD2 := Lib.hid d2
          have HD7 := Lib.hid d7
          have HD3 := Lib.hid d3
          have HOD := Lib.hid hod
          have HCD := Lib.hid hcd
          have HBVD := Lib.hid (hbv.trans hbd)
          have HVd := Lib.hid hVd
          clear hne hbv hR v2 v3 v7 hok hrd hkd hbd d2 d7 d3 hoV hcx hVd hloop hd1 hB1 b71 b21 b31 ho1 hkc hlx hmx hdl
          by_cases hi : pre.length < ys.length
          · obtain ⟨z, hz⟩ : ∃ z, ys[pre.length]? = some z := ⟨ys[pre.length], List.getElem?_eq_getElem hi⟩
            obtain ⟨g5, rfl⟩ : ∃ g5, A5 = some ⟨g5, 0, none⟩ := by
              rcases HOD.out.2 with ⟨he, h0⟩ | ⟨g, cap, cur, he, _⟩
              · omega
              · injection he with he; exact ⟨g, he⟩
            have hel : ∀ U, Below Vd.heap.size Vd U → ∀ (j : Nat) v, (ndCells z.x.f0 z.x.f1 (.slice z.A z.x.f2.length z.c))[j]? = some v → U.cell? ⟨g5, pre.length * 8 + j, none⟩ = some v := by
              intro U hU j v hj
              have hg5 : g5 < Vd.heap.size := own_lt HOD.out g5 rfl
              refine (hU.cell (p := ⟨g5, pre.length * 8 + j, none⟩) hg5).trans ?_
              have hj8 : j < 8 := (List.getElem?_eq_some_iff.1 hj).1
              rw [HOD.out.cellAt (pre.length * 8 + j) (by omega)]
              exact kv_at ys pre.length z hz j v hj
            have hSall : ∀ U, Below Vd.heap.size Vd U → U.cell? ⟨s7, 0, none⟩ = some (.int .i64 (pre.length : Nat)) ∧ U.cell? ⟨s3, 0, none⟩ = some (.slice (some ⟨g5, 0, none⟩) ys.length c5) ∧ U.cell? ⟨Bx, 0, none⟩ = some (.int .u8 q.x.f0) ∧ U.cell? ⟨Bx, 1, none⟩ = some (.int .u8 q.x.f1.f0) ∧ U.cell? ⟨Bx, 2, none⟩ = some (.string q.x.f1.f1) ∧ U.cell? ⟨Bx, 3, none⟩ = some (.int .i64 q.x.f1.f2.f0) ∧ U.cell? ⟨Bx, 4, none⟩ = some (.int .i64 q.x.f1.f2.f1) ∧ U.cell? ⟨Bx, 5, none⟩ = some (.int .i64 q.x.f1.f2.f2) ∧ U.cell? ⟨Bx, 6, none⟩ = some (.int .i64 q.x.f1.f3) ∧ U.cell? ⟨Bx, 7, none⟩ = some (.slice q.A q.x.f2.length q.c) ∧ U.cell? ⟨g5, pre.length * 8, none⟩ = some (.int .u8 z.x.f0) ∧ U.cell? ⟨g5, pre.length * 8 + 1, none⟩ = some (.int .u8 z.x.f1.f0) ∧ U.cell? ⟨g5, pre.length * 8 + 2, none⟩ = some (.string z.x.f1.f1) ∧ U.cell? ⟨g5, pre.length * 8 + 3, none⟩ = some (.int .i64 z.x.f1.f2.f0) ∧ U.cell? ⟨g5, pre.length * 8 + 4, none⟩ = some (.int .i64 z.x.f1.f2.f1) ∧ U.cell? ⟨g5, pre.length * 8 + 5, none⟩ = some (.int .i64 z.x.f1.f2.f2) ∧ U.cell? ⟨g5, pre.length * 8 + 6, none⟩ = some (.int .i64 z.x.f1.f3) ∧ U.cell? ⟨g5, pre.length * 8 + 7, none⟩ = some (.slice z.A z.x.f2.length z.c) := fun U hU => ⟨(hU.cell (p := ⟨s7, 0, none⟩) HD7.out.lt).trans HD7.out.cell, (hU.cell (p := ⟨s3, 0, none⟩) HD3.out.lt).trans HD3.out.cell, (hU.cell (p := ⟨Bx, 0, none⟩) (Array.getElem?_eq_some_iff.1 HCD.out).1).trans (cell_of_row _ _ _ _ _ _ HCD.out), (hU.cell (p := ⟨Bx, 1, none⟩) (Array.getElem?_eq_some_iff.1 HCD.out).1).trans (cell_of_row _ _ _ _ _ _ HCD.out), (hU.cell (p := ⟨Bx, 2, none⟩) (Array.getElem?_eq_some_iff.1 HCD.out).1).trans (cell_of_row _ _ _ _ _ _ HCD.out), (hU.cell (p := ⟨Bx, 3, none⟩) (Array.getElem?_eq_some_iff.1 HCD.out).1).trans (cell_of_row _ _ _ _ _ _ HCD.out), (hU.cell (p := ⟨Bx, 4, none⟩) (Array.getElem?_eq_some_iff.1 HCD.out).1).trans (cell_of_row _ _ _ _ _ _ HCD.out), (hU.cell (p := ⟨Bx, 5, none⟩) (Array.getElem?_eq_some_iff.1 HCD.out).1).trans (cell_of_row _ _ _ _ _ _ HCD.out), (hU.cell (p := ⟨Bx, 6, none⟩) (Array.getElem?_eq_some_iff.1 HCD.out).1).trans (cell_of_row _ _ _ _ _ _ HCD.out), (hU.cell (p := ⟨Bx, 7, none⟩) (Array.getElem?_eq_some_iff.1 HCD.out).1).trans (cell_of_row _ _ _ _ _ _ HCD.out), hel U hU 0 _ rfl, hel U hU 1 _ rfl, hel U hU 2 _ rfl, hel U hU 3 _ rfl, hel U hU 4 _ rfl, hel U hU 5 _ rfl, hel U hU 6 _ rfl, hel U hU 7 _ rfl⟩
            have HSA := Lib.hid hSall
            have HS := Lib.hid (hSall Vd (Below.refl _ _))
            have HI := Lib.hid hi
            have HZI := Lib.hid hz
            have dn : ((pre.length : Int) == (ys.length : Int)) = false := by rw [beq_cast]; exact beq_eq_false_iff_ne.2 (by omega)
            have hpi : (pre.length : Int) < (ys.length : Int) := by omega
            clear hel hSall hi hz
            refine wpIn_block ?_
            refine wpIn_seq ?_
            refine wpIn_seq ?_
            refine wp_region_RIn (fun w' => w'.cell? ⟨s7, 0, none⟩ = some (.int .i64 (pre.length : Nat)) ∧ w'.cell? ⟨s3, 0, none⟩ = some (.slice (some ⟨g5, 0, none⟩) ys.length c5) ∧ w'.cell? ⟨Bx, 0, none⟩ = some (.int .u8 q.x.f0) ∧ w'.cell? ⟨Bx, 1, none⟩ = some (.int .u8 q.x.f1.f0) ∧ w'.cell? ⟨Bx, 2, none⟩ = some (.string q.x.f1.f1) ∧ w'.cell? ⟨Bx, 3, none⟩ = some (.int .i64 q.x.f1.f2.f0) ∧ w'.cell? ⟨Bx, 4, none⟩ = some (.int .i64 q.x.f1.f2.f1) ∧ w'.cell? ⟨Bx, 5, none⟩ = some (.int .i64 q.x.f1.f2.f2) ∧ w'.cell? ⟨Bx, 6, none⟩ = some (.int .i64 q.x.f1.f3) ∧ w'.cell? ⟨Bx, 7, none⟩ = some (.slice q.A q.x.f2.length q.c) ∧ w'.cell? ⟨g5, pre.length * 8, none⟩ = some (.int .u8 z.x.f0) ∧ w'.cell? ⟨g5, pre.length * 8 + 1, none⟩ = some (.int .u8 z.x.f1.f0) ∧ w'.cell? ⟨g5, pre.length * 8 + 2, none⟩ = some (.string z.x.f1.f1) ∧ w'.cell? ⟨g5, pre.length * 8 + 3, none⟩ = some (.int .i64 z.x.f1.f2.f0) ∧ w'.cell? ⟨g5, pre.length * 8 + 4, none⟩ = some (.int .i64 z.x.f1.f2.f1) ∧ w'.cell? ⟨g5, pre.length * 8 + 5, none⟩ = some (.int .i64 z.x.f1.f2.f2) ∧ w'.cell? ⟨g5, pre.length * 8 + 6, none⟩ = some (.int .i64 z.x.f1.f3) ∧ w'.cell? ⟨g5, pre.length * 8 + 7, none⟩ = some (.slice z.A z.x.f2.length z.c)) (fun _ => true) (by kernel_rfl) (by kernel_rfl) ?_
            rw [HVd.out]
            refine anyR_take (i := 0) (oi := { dst := some 45, op := Go.Op.load 3 (Go.Operand.tmp 7), type := 3, pos := "tree.go:97", after := #[], guard := none }) (v := ?_) rfl (by kernel_rfl) (fun _ _ _ h => h) (Or.inl ⟨by rfl, ?_⟩) HS.out ?_
            rotate_left
            · intro w9 hSw; (try dsimp only at hSw); go_simp; try (with_reducible rfl)
            try simp only [Act.put, List.setIfInBounds_toArray, List.set_cons_zero, List.set_cons_succ]
            refine anyR_take (i := 1) (oi := { dst := some 46, op := Go.Op.load 33 (Go.Operand.tmp 5), type := 33, pos := "tree.go:97", after := #[], guard := none }) (v := ?_) rfl (by kernel_rfl) (fun _ _ _ h => h) (Or.inl ⟨by rfl, ?_⟩) HS.out ?_
            rotate_left
            · intro w9 hSw; (try dsimp only at hSw); go_simp; try (with_reducible rfl)
            try simp only [Act.put, List.setIfInBounds_toArray, List.set_cons_zero, List.set_cons_succ]
            refine anyR_take (i := 2) (oi := { dst := some 47, op := Go.Op.call { callee := Go.Callee.builtin Go.Builtin.len, args := #[Go.Operand.tmp 46], argTypes := #[33] }, type := 3, pos := "tree.go:97", after := #[{ on := 1, ground := Go.Ground.data }], guard := none }) (v := ?_) rfl (by kernel_rfl) (fun _ _ _ h => h) (Or.inl ⟨by rfl, ?_⟩) HS.out ?_
            rotate_left
            · intro w9 hSw; (try dsimp only at hSw); go_simp; try (with_reducible rfl)
            try simp only [Act.put, List.setIfInBounds_toArray, List.set_cons_zero, List.set_cons_succ]
            refine anyR_take (i := 3) (oi := { dst := some 48, op := Go.Op.binOp Go.BinOp.eql 3 (Go.Operand.tmp 45) (Go.Operand.tmp 47) 3, type := 4, pos := "tree.go:97", after := #[{ on := 0, ground := Go.Ground.data }, { on := 2, ground := Go.Ground.data }], guard := none }) (v := ?_) rfl (by kernel_rfl) (fun _ _ _ h => h) (Or.inl ⟨by rfl, ?_⟩) HS.out ?_
            rotate_left
            · intro w9 hSw; (try dsimp only at hSw); go_simp; try (with_reducible rfl)
            try simp only [Act.put, List.setIfInBounds_toArray, List.set_cons_zero, List.set_cons_succ]
            refine anyR_take (i := 4) (oi := { dst := some 49, op := Go.Op.move (Go.Operand.tmp 48), type := 4, pos := "tree.go:97", after := #[{ on := 3, ground := Go.Ground.data }], guard := none }) (v := ?_) rfl (by kernel_rfl) (fun _ _ _ h => h) (Or.inl ⟨by rfl, ?_⟩) HS.out ?_
            rotate_left
            · intro w9 hSw; (try dsimp only at hSw); go_simp; try (with_reducible rfl)
            try simp only [Act.put, List.setIfInBounds_toArray, List.set_cons_zero, List.set_cons_succ]
            refine anyR_take (i := 5) (oi := { dst := some 50, op := Go.Op.load 35 (Go.Operand.tmp 8), type := 35, pos := "tree.go:97", after := #[{ on := 4, ground := Go.Ground.guard }], guard := some (4, false) }) (v := ?_) rfl (by kernel_rfl) (fun _ _ _ h => h) (Or.inl ⟨by rfl, ?_⟩) HS.out ?_
            rotate_left
            · intro w9 hSw; (try dsimp only at hSw); go_simp; try (with_reducible rfl)
            try simp only [Act.put, List.setIfInBounds_toArray, List.set_cons_zero, List.set_cons_succ]
            refine anyR_take (i := 6) (oi := { dst := some 51, op := Go.Op.load 33 (Go.Operand.tmp 5), type := 33, pos := "tree.go:97", after := #[{ on := 4, ground := Go.Ground.guard }], guard := some (4, false) }) (v := ?_) rfl (by kernel_rfl) (fun _ _ _ h => h) (Or.inl ⟨by rfl, ?_⟩) HS.out ?_
            rotate_left
            · intro w9 hSw; (try dsimp only at hSw); go_simp; try (with_reducible rfl)
            try simp only [Act.put, List.setIfInBounds_toArray, List.set_cons_zero, List.set_cons_succ]
            refine anyR_take (i := 7) (oi := { dst := some 52, op := Go.Op.load 3 (Go.Operand.tmp 7), type := 3, pos := "tree.go:97", after := #[{ on := 4, ground := Go.Ground.guard }], guard := some (4, false) }) (v := ?_) rfl (by kernel_rfl) (fun _ _ _ h => h) (Or.inl ⟨by rfl, ?_⟩) HS.out ?_
            rotate_left
            · intro w9 hSw; (try dsimp only at hSw); go_simp; try (with_reducible rfl)
            try simp only [Act.put, List.setIfInBounds_toArray, List.set_cons_zero, List.set_cons_succ]
            refine anyR_take (i := 8) (oi := { dst := some 53, op := Go.Op.indexAddr 33 (Go.Operand.tmp 51) (Go.Operand.tmp 52), type := 0, pos := "tree.go:97", after := #[{ on := 6, ground := Go.Ground.data }, { on := 7, ground := Go.Ground.data }, { on := 4, ground := Go.Ground.guard }], guard := some (4, false) }) (v := ?_) rfl (by kernel_rfl) (fun _ _ _ h => h) (Or.inl ⟨by rfl, ?_⟩) HS.out ?_
            rotate_left
            · intro w9 hSw; (try dsimp only at hSw); go_simp; try (with_reducible rfl)
            try simp only [Act.put, List.setIfInBounds_toArray, List.set_cons_zero, List.set_cons_succ]
            refine anyR_take (i := 9) (oi := { dst := some 54, op := Go.Op.load 35 (Go.Operand.tmp 53), type := 35, pos := "tree.go:97", after := #[{ on := 8, ground := Go.Ground.data }, { on := 4, ground := Go.Ground.guard }], guard := some (4, false) }) (v := ?_) rfl (by kernel_rfl) (fun _ _ _ h => h) (Or.inl ⟨by rfl, ?_⟩) HS.out ?_
            rotate_left
            · intro w9 hSw; (try dsimp only at hSw); go_simp; try (with_reducible rfl)
            try simp only [Act.put, List.setIfInBounds_toArray, List.set_cons_zero, List.set_cons_succ]
            refine anyR_ready (rs := [10]) (by kernel_rfl) (by simp) ?_
            refine ReadyR.cons (o := { dst := some 55, op := Go.Op.call { callee := Go.Callee.value (Go.Operand.func 17), args := #[Go.Operand.tmp 50, Go.Operand.tmp 54], argTypes := #[35, 35] }, type := 4, pos := "tree.go:97", after := #[{ on := 5, ground := Go.Ground.data }, { on := 9, ground := Go.Ground.data }, { on := 4, ground := Go.Ground.chain }, { on := 4, ground := Go.Ground.guard }], guard := some (4, false) }) rfl (fun K hK => ?_) ReadyR.nil
            go_simp
            refine (IH.out Vd q.x z.x q.A z.A q.c z.c (by have := q.hm; have := HNX.out; omega) q.hc z.hc (Kd.C_below q.hC HBVD.out) (Kd.C_below z.hC HBVD.out) (by have := q.hm; have := HMX.out; omega) (by have := z.hm; have := HMY.out; omega)).mono ?_
            rintro e w2 ⟨rfl, hb2⟩
            refine hK.out _ _ (fun _ => HSA.out w2 hb2) ?_
            clear hK K
            try simp only [Act.put, List.setIfInBounds_toArray, List.set_cons_zero, List.set_cons_succ]
            have HS2 := Lib.hid (HSA.out w2 hb2)
            have hgw := grown_of_below hb2 none
            have e7 := HD7.out.kept hgw (by simp)
            have e2 := HD2.out.kept hgw (by simp)
            have hrw := HREL.out.1.grown hgw (fun _ e => nomatch e)
            have hkw : KeepsOthers V w2 := HREL.out.2.1.trans (KeepsOthers.of_grownBy hgw (fun _ _ e => nomatch e))
            have hbw : Below w.heap.size V w2 := HREL.out.2.2.trans (hb2.mono HBVD.out.size)
            have c7 := e7.cell
            have f7 := e7.frozen
            have c2 := e2.cell
            have f2 := e2.frozen
            have HE := Lib.hid (And.intro e7 (And.intro e2 (And.intro hrw (And.intro hkw hbw))))
            clear hb2 hgw e7 e2 hrw hkw hbw
            have hsn : okL (sameN k) ((pre ++ [q]).map (·.x)) (ys.map (·.x)) ↔ sameN k q.x z.x = true := by
              rw [List.map_append]
              exact okL_snoc HOK.out (by rw [List.getElem?_map, List.length_map, HZI.out]; rfl)
            have HSN := Lib.hid hsn
            clear hsn
            cases hsz : sameN k q.x z.x with
            | true =>
              refine anyR_take (i := 11) (oi := { dst := some 56, op := Go.Op.unOp Go.UnOp.not 4 (Go.Operand.tmp 55), type := 4, pos := "tree.go:97", after := #[{ on := 10, ground := Go.Ground.data }, { on := 4, ground := Go.Ground.guard }], guard := some (4, false) }) (v := ?_) rfl (by kernel_rfl) (fun _ _ _ h => h) (Or.inl ⟨by rfl, ?_⟩) HS2.out ?_
              rotate_left
              · intro w9 hSw; (try dsimp only at hSw); go_simp; try (with_reducible rfl)
              try simp only [Act.put, List.setIfInBounds_toArray, List.set_cons_zero, List.set_cons_succ]
              refine anyR_take (i := 12) (oi := { dst := some 57, op := Go.Op.pick (Go.Operand.tmp 49) (Go.Operand.const (Go.Value.bool true)) (Go.Operand.tmp 56), type := 4, pos := "tree.go:97", after := #[{ on := 4, ground := Go.Ground.data }, { on := 11, ground := Go.Ground.data }], guard := none }) (v := ?_) rfl (by kernel_rfl) (fun _ _ _ h => h) (Or.inl ⟨by rfl, ?_⟩) HS2.out ?_
              rotate_left
              · intro w9 hSw; (try dsimp only at hSw); go_simp; try (with_reducible rfl)
              try simp only [Act.put, List.setIfInBounds_toArray, List.set_cons_zero, List.set_cons_succ]
              refine anyR_done (by kernel_rfl) ?_ _
              simp only [Exit.then]
              gi_wp2
              have hl' : (((pre ++ [q]).length : Nat) : Int) = (pre.length : Int) + 1 := by simp
              obtain ⟨e7, e2, hrw, hkw, hbw⟩ := HE.out
              have hne := HNE.out
              refine ⟨(hkw.trans (KeepsOthers.setCell _ _ _)).from _, hbw.setCell (p := ⟨s7, 0, none⟩) hne.2.2.2.2.2.2.2 _, hrw.grown (grownBy_setCell' w2 s7 _) (fun j e => by cases e; exact .inr (.inl rfl)), e2.other hne.2.2.2.2.2.1 _, ?_, HSN.out.2 hsz⟩
              rw [hl']
              exact e7.set _
            | false =>
              refine anyR_take (i := 11) (oi := { dst := some 56, op := Go.Op.unOp Go.UnOp.not 4 (Go.Operand.tmp 55), type := 4, pos := "tree.go:97", after := #[{ on := 10, ground := Go.Ground.data }, { on := 4, ground := Go.Ground.guard }], guard := some (4, false) }) (v := ?_) rfl (by kernel_rfl) (fun _ _ _ h => h) (Or.inl ⟨by rfl, ?_⟩) HS2.out ?_
              rotate_left
              · intro w9 hSw; (try dsimp only at hSw); go_simp; try (with_reducible rfl)
              try simp only [Act.put, List.setIfInBounds_toArray, List.set_cons_zero, List.set_cons_succ]
              refine anyR_take (i := 12) (oi := { dst := some 57, op := Go.Op.pick (Go.Operand.tmp 49) (Go.Operand.const (Go.Value.bool true)) (Go.Operand.tmp 56), type := 4, pos := "tree.go:97", after := #[{ on := 4, ground := Go.Ground.data }, { on := 11, ground := Go.Ground.data }], guard := none }) (v := ?_) rfl (by kernel_rfl) (fun _ _ _ h => h) (Or.inl ⟨by rfl, ?_⟩) HS2.out ?_
              rotate_left
              · intro w9 hSw; (try dsimp only at hSw); go_simp; try (with_reducible rfl)
              try simp only [Act.put, List.setIfInBounds_toArray, List.set_cons_zero, List.set_cons_succ]
              refine anyR_done (by kernel_rfl) ?_ _
              simp only [Exit.then]
              gi_wp2
              obtain ⟨e7, e2, hrw, hkw, hbw⟩ := HE.out
              exact ⟨(hkw.trans (KeepsOthers.setCell _ _ _)).from _, rfl, hrw.grown (grownBy_setCell' w2 s2 _) (fun j e => by cases e; exact .inl rfl), e2.set _, fun h => by rw [HSN.out.1 h] at hsz; cases hsz⟩
          · have hpe : pre.length = ys.length := by omega
            have dn : ((pre.length : Int) == (ys.length : Int)) = true := by rw [hpe]; exact beq_self_eq_true _
            have HS : Hid (Vd.cell? ⟨s7, 0, none⟩ = some (.int .i64 (pre.length : Nat)) ∧ Vd.cell? ⟨s3, 0, none⟩ = some (.slice A5 ys.length c5)) := Lib.hid ⟨HD7.out.cell, HD3.out.cell⟩
            have HPE := Lib.hid hpe
            have c2 := HD2.out.cell
            have f2 := HD2.out.frozen
            clear hpe hi
            refine wpIn_block ?_
            refine wpIn_seq ?_
            refine wpIn_seq ?_
            refine wp_region_RIn (fun w' => w'.cell? ⟨s7, 0, none⟩ = some (.int .i64 (pre.length : Nat)) ∧ w'.cell? ⟨s3, 0, none⟩ = some (.slice A5 ys.length c5)) (fun _ => true) (by kernel_rfl) (by kernel_rfl) ?_
            rw [HVd.out]
            refine anyR_take (i := 0) (oi := { dst := some 45, op := Go.Op.load 3 (Go.Operand.tmp 7), type := 3, pos := "tree.go:97", after := #[], guard := none }) (v := ?_) rfl (by kernel_rfl) (fun _ _ _ h => h) (Or.inl ⟨by rfl, ?_⟩) HS.out ?_
            rotate_left
            · intro w9 hSw; (try dsimp only at hSw); go_simp; try (with_reducible rfl)
            try simp only [Act.put, List.setIfInBounds_toArray, List.set_cons_zero, List.set_cons_succ]
            refine anyR_take (i := 1) (oi := { dst := some 46, op := Go.Op.load 33 (Go.Operand.tmp 5), type := 33, pos := "tree.go:97", after := #[], guard := none }) (v := ?_) rfl (by kernel_rfl) (fun _ _ _ h => h) (Or.inl ⟨by rfl, ?_⟩) HS.out ?_
            rotate_left
            · intro w9 hSw; (try dsimp only at hSw); go_simp; try (with_reducible rfl)
            try simp only [Act.put, List.setIfInBounds_toArray, List.set_cons_zero, List.set_cons_succ]
            refine anyR_take (i := 2) (oi := { dst := some 47, op := Go.Op.call { callee := Go.Callee.builtin Go.Builtin.len, args := #[Go.Operand.tmp 46], argTypes := #[33] }, type := 3, pos := "tree.go:97", after := #[{ on := 1, ground := Go.Ground.data }], guard := none }) (v := ?_) rfl (by kernel_rfl) (fun _ _ _ h => h) (Or.inl ⟨by rfl, ?_⟩) HS.out ?_
            rotate_left
            · intro w9 hSw; (try dsimp only at hSw); go_simp; try (with_reducible rfl)
            try simp only [Act.put, List.setIfInBounds_toArray, List.set_cons_zero, List.set_cons_succ]
            refine anyR_take (i := 3) (oi := { dst := some 48, op := Go.Op.binOp Go.BinOp.eql 3 (Go.Operand.tmp 45) (Go.Operand.tmp 47) 3, type := 4, pos := "tree.go:97", after := #[{ on := 0, ground := Go.Ground.data }, { on := 2, ground := Go.Ground.data }], guard := none }) (v := ?_) rfl (by kernel_rfl) (fun _ _ _ h => h) (Or.inl ⟨by rfl, ?_⟩) HS.out ?_
            rotate_left
            · intro w9 hSw; (try dsimp only at hSw); go_simp; try (with_reducible rfl)
            try simp only [Act.put, List.setIfInBounds_toArray, List.set_cons_zero, List.set_cons_succ]
            refine anyR_take (i := 4) (oi := { dst := some 49, op := Go.Op.move (Go.Operand.tmp 48), type := 4, pos := "tree.go:97", after := #[{ on := 3, ground := Go.Ground.data }], guard := none }) (v := ?_) rfl (by kernel_rfl) (fun _ _ _ h => h) (Or.inl ⟨by rfl, ?_⟩) HS.out ?_
            rotate_left
            · intro w9 hSw; (try dsimp only at hSw); go_simp; try (with_reducible rfl)
            try simp only [Act.put, List.setIfInBounds_toArray, List.set_cons_zero, List.set_cons_succ]
            refine anyR_take (i := 5) (oi := { dst := some 50, op := Go.Op.load 35 (Go.Operand.tmp 8), type := 35, pos := "tree.go:97", after := #[{ on := 4, ground := Go.Ground.guard }], guard := some (4, false) }) (v := undef) rfl (by kernel_rfl) (fun _ _ _ h => h) (Or.inr ⟨by rfl, rfl⟩) HS.out ?_
            try simp only [Act.put, List.setIfInBounds_toArray, List.set_cons_zero, List.set_cons_succ]
            refine anyR_take (i := 6) (oi := { dst := some 51, op := Go.Op.load 33 (Go.Operand.tmp 5), type := 33, pos := "tree.go:97", after := #[{ on := 4, ground := Go.Ground.guard }], guard := some (4, false) }) (v := undef) rfl (by kernel_rfl) (fun _ _ _ h => h) (Or.inr ⟨by rfl, rfl⟩) HS.out ?_
            try simp only [Act.put, List.setIfInBounds_toArray, List.set_cons_zero, List.set_cons_succ]
            refine anyR_take (i := 7) (oi := { dst := some 52, op := Go.Op.load 3 (Go.Operand.tmp 7), type := 3, pos := "tree.go:97", after := #[{ on := 4, ground := Go.Ground.guard }], guard := some (4, false) }) (v := undef) rfl (by kernel_rfl) (fun _ _ _ h => h) (Or.inr ⟨by rfl, rfl⟩) HS.out ?_
            try simp only [Act.put, List.setIfInBounds_toArray, List.set_cons_zero, List.set_cons_succ]
            refine anyR_take (i := 8) (oi := { dst := some 53, op := Go.Op.indexAddr 33 (Go.Operand.tmp 51) (Go.Operand.tmp 52), type := 0, pos := "tree.go:97", after := #[{ on := 6, ground := Go.Ground.data }, { on := 7, ground := Go.Ground.data }, { on := 4, ground := Go.Ground.guard }], guard := some (4, false) }) (v := undef) rfl (by kernel_rfl) (fun _ _ _ h => h) (Or.inr ⟨by rfl, rfl⟩) HS.out ?_
            try simp only [Act.put, List.setIfInBounds_toArray, List.set_cons_zero, List.set_cons_succ]
            refine anyR_take (i := 9) (oi := { dst := some 54, op := Go.Op.load 35 (Go.Operand.tmp 53), type := 35, pos := "tree.go:97", after := #[{ on := 8, ground := Go.Ground.data }, { on := 4, ground := Go.Ground.guard }], guard := some (4, false) }) (v := undef) rfl (by kernel_rfl) (fun _ _ _ h => h) (Or.inr ⟨by rfl, rfl⟩) HS.out ?_
            try simp only [Act.put, List.setIfInBounds_toArray, List.set_cons_zero, List.set_cons_succ]
            refine anyR_take (i := 10) (oi := { dst := some 55, op := Go.Op.call { callee := Go.Callee.value (Go.Operand.func 17), args := #[Go.Operand.tmp 50, Go.Operand.tmp 54], argTypes := #[35, 35] }, type := 4, pos := "tree.go:97", after := #[{ on := 5, ground := Go.Ground.data }, { on := 9, ground := Go.Ground.data }, { on := 4, ground := Go.Ground.chain }, { on := 4, ground := Go.Ground.guard }], guard := some (4, false) }) (v := undef) rfl (by kernel_rfl) (fun _ _ _ h => h) (Or.inr ⟨by rfl, rfl⟩) HS.out ?_
            try simp only [Act.put, List.setIfInBounds_toArray, List.set_cons_zero, List.set_cons_succ]
            refine anyR_take (i := 11) (oi := { dst := some 56, op := Go.Op.unOp Go.UnOp.not 4 (Go.Operand.tmp 55), type := 4, pos := "tree.go:97", after := #[{ on := 10, ground := Go.Ground.data }, { on := 4, ground := Go.Ground.guard }], guard := some (4, false) }) (v := undef) rfl (by kernel_rfl) (fun _ _ _ h => h) (Or.inr ⟨by rfl, rfl⟩) HS.out ?_
            try simp only [Act.put, List.setIfInBounds_toArray, List.set_cons_zero, List.set_cons_succ]
            refine anyR_take (i := 12) (oi := { dst := some 57, op := Go.Op.pick (Go.Operand.tmp 49) (Go.Operand.const (Go.Value.bool true)) (Go.Operand.tmp 56), type := 4, pos := "tree.go:97", after := #[{ on := 4, ground := Go.Ground.data }, { on := 11, ground := Go.Ground.data }], guard := none }) (v := ?_) rfl (by kernel_rfl) (fun _ _ _ h => h) (Or.inl ⟨by rfl, ?_⟩) HS.out ?_
            rotate_left
            · intro w9 hSw; (try dsimp only at hSw); go_simp; try (with_reducible rfl)
            try simp only [Act.put, List.setIfInBounds_toArray, List.set_cons_zero, List.set_cons_succ]
            refine anyR_done (by kernel_rfl) ?_ _
            simp only [Exit.then]
            gi_wp2
            obtain ⟨hrd, hkd, hbd⟩ := HREL.out
            refine ⟨(hkd.trans (KeepsOthers.setCell _ _ _)).from _, rfl, hrd.grown (grownBy_setCell' Vd s2 _) (fun j e => by cases e; exact .inl rfl), HD2.out.set _, ?_⟩
            rw [List.map_append]
            exact okL_long (Nat.le_of_eq (by rw [List.length_map, List.length_map, HPE.out]))
        case done2 =>
          rintro D2 zs V hD2 hzs ⟨hR, v2, v7, hok⟩ hDef2
          have hne := HNE.out
          have v3 : Boxed V s3 33 (.slice A5 ys.length c5) := (hR.block s3 b31.lt (by omega) (by omega)).trans b31
          have hvD : V.heap[D]? = some (.deferred (some [])) := (hR.block D (Array.getElem?_eq_some_iff.1 hd1).1 (fun e => by rw [e, show W1.heap[s2]? = _ from b21] at hd1; cases hd1) (fun e => by rw [e, show W1.heap[s7]? = _ from b71] at hd1; cases hd1)).trans hd1
          have hDD : D ≠ D2 := by have := (Array.getElem?_eq_some_iff.1 hd1).1; omega
          have c7 := v7.cell
          have c3 := v3.cell
          have c2 := v2.cell
          have f2 := v2.frozen
          have hbv := hR.below hB1 (by omega) (by omega)
          have hres := okL_all hok
          rw [hzs, HSS.out] at hres
          have hl1 : zs.length = (plainL x.f2).length := by rw [← hzs, List.length_map]
          have hl2 : ys.length = (plainL y.f2).length := by rw [← HSS.out, List.length_map]
          have g2 := grownBy_setCell' V s2 (.bool ((zs.length : Int) == (ys.length : Int)))
          have w2 := v2.set (.bool ((zs.length : Int) == (ys.length : Int)))
          have hn2 : D2 ≠ s2 := fun e => by rw [e, show V.heap[s2]? = _ from v2] at hDef2; cases hDef2
          have hn1 : D ≠ s2 := fun e => by rw [e, show V.heap[s2]? = _ from v2] at hvD; cases hvD
          have hD2w : (V.setCell ⟨s2, 0, none⟩ (.bool ((zs.length : Int) == (ys.length : Int)))).heap[D2]? = some (.deferred (some [])) := (g2.block D2 (Array.getElem?_eq_some_iff.1 hDef2).1 (by simpa using hn2)).trans hDef2
          have hDw : (V.setCell ⟨s2, 0, none⟩ (.bool ((zs.length : Int) == (ys.length : Int)))).heap[D]? = some (.deferred (some [])) := (g2.block D (Array.getElem?_eq_some_iff.1 hvD).1 (by simpa using hn1)).trans hvD
          have HW2 := Lib.hid w2
          have HD2w := Lib.hid hD2w
          have HDw := Lib.hid hDw
          have HDD := Lib.hid hDD
          have HBV := Lib.hid hbv
          have HRES := Lib.hid hres
          have HL := Lib.hid (And.intro hl1 hl2)
          have HDG := Lib.hid (And.intro hD2 HD.out.1)
          clear hn1 hn2 w2 hD2w hDw hDD hbv hres hl1 hl2 g2 hvD hne v2 v3 v7 hR hok hD2 hDef2 hd1 hzs hB1 b71 b21 b31 ho1 hkc hlx hmx hdl
          gi_wp2
          refine same_leave (b := ((zs.length : Int) == (ys.length : Int))) rfl rfl HD2w.out HDw.out HDD.out HW2.out ⟨?_, ?_⟩
          · rw [HRES.out, ← HL.out.1, ← HL.out.2, beq_cast]
          · have h0 := HZ.out
            have h1 := HNE.out
            have h2 := HDG.out
            exact ((HBV.out.setCell (p := ⟨s2, 0, none⟩) h1.2.2.2.2.2.2.1 _).grown (grownBy_putObj' _ D2 _) (Nat.le_trans HBV.out.size (grownBy_setCell' V s2 _).size) (fun j e => by cases e; omega)).grown (grownBy_putObj' _ D _) (Nat.le_trans HBV.out.size (Nat.le_trans (grownBy_setCell' V s2 _).size (grownBy_putObj' _ D2 _).size)) (fun j e => by cases e; omega)
        case stop2 =>
          rintro D2 e pre V hD2 hpre ⟨rfl, hR, v2, hbad⟩ hDef2
          have hne := HNE.out
          have hvD : V.heap[D]? = some (.deferred (some [])) := (hR.block D (Array.getElem?_eq_some_iff.1 hd1).1 (fun e => by rw [e, show W1.heap[s2]? = _ from b21] at hd1; cases hd1) (fun e => by rw [e, show W1.heap[s7]? = _ from b71] at hd1; cases hd1)).trans hd1
          have hDD : D ≠ D2 := by have := (Array.getElem?_eq_some_iff.1 hd1).1; omega
          have hbv := hR.below hB1 (by omega) (by omega)
          rw [HSS.out] at hbad
          have hres := okL_bad hbad hpre
          have h0 := HZ.out
          have hd0 := HD.out.1
          have hfin := (hbv.grown (grownBy_putObj' V D2 (.deferred none)) hbv.size (fun j e => by cases e; omega)).grown (grownBy_putObj' _ D (.deferred none)) (Nat.le_trans hbv.size (by simp)) (fun j e => by cases e; omega)
          gi_wp2
          exact same_leave (b := false) rfl rfl hDef2 hvD hDD v2 ⟨by rw [hres], hfin⟩
      case stop =>
        rintro D e pre W _ _ h _
        exact h.elim
end Go.Proofs.Ytfefldkljbbbpaa
