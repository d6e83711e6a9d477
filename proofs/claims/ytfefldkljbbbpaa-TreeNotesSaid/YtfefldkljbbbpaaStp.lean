/- Steps of a region: an append of one node, a store of cells. -/
import Derived.Test.YtfefldkljbbbpaaOwn
import Derived.Test.YtfefldkljbbbpaaReg
set_option linter.unusedVariables false
set_option linter.unusedSimpArgs false
namespace Go.Proofs.Ytfefldkljbbbpaa
open Go.RowKit Go.Proofs.YtfefldkljbbbpaaW.PrintWords Go.Proofs.YtfefldkljbbbpaaW.PrintLast Go.Proofs.YtfefldkljbbbpaaW.PrintMore

theorem infoNd : (Try.prog.info? 35).map (fun i => (i.zero, i.size, i.bytes)) = some (some (.agg #[(.int .u8 0), (.int .u8 0), (.string ⟨#[]⟩), (.int .i64 0), (.int .i64 0), (.int .i64 0), (.int .i64 0), (.slice none 0 0)]), 8, 88) := by kernel_rfl
theorem infoNdS : (Try.prog.info? 33).map (·.size) = some 1 := by kernel_rfl
theorem infoNd8 : (Try.prog.info? 35).map (·.size) = some 8 := by kernel_rfl
theorem ndCells_one (k : Int) (t : Tk) {v : Value} (hv : v.oneCell' = true) : ∀ u ∈ ndCells k t v, u.oneCell' = true := by
  intro u hu
  simp only [ndCells, List.mem_cons, List.not_mem_nil, or_false] at hu
  rcases hu with rfl | rfl | rfl | rfl | rfl | rfl | rfl | rfl <;> first | rfl | exact hv
theorem slice_one (A : Option Addr) (n c : Nat) : (Value.slice A n c).oneCell' = true := rfl

/-- append(u, x) of one node, at the level of a run; what is laid is a list with a head. -/
theorem run_kid {W : World} (base : Nat) (ty : TypeId) {u : Value} {q : Nat} {kc cs : List Value} (HO : W.ownsRow base TN 8 u q kc) (hcs : cs.length = 8) (h1 : ∀ v ∈ cs, v.oneCell' = true) (hbase : base ≤ W.heap.size) (hl : (q + 1) * 88 ≤ 140737488355328) :
    ∃ g1 c1 w1, (Builtin.append_ #[33, 33] ty #[u, .slice (some ⟨W.heap.size, 0, none⟩) 1 1]).run Try.prog (W.alloc (.cells cs.toArray TN)) = .ok (.slice (some ⟨g1, 0, none⟩) (q + 1) c1) w1 ∧
      w1.ownsRow base TN 8 (.slice (some ⟨g1, 0, none⟩) (q + 1) c1) (q + 1) (kc ++ cs) ∧ W.grownBy w1 u.ownBlock ∧ (u.ownBlock = some g1 ∨ W.heap.size < g1) := by
  obtain ⟨i0, hi, hzz⟩ := Option.map_eq_some_iff.1 infoNd
  simp only [Prod.mk.injEq] at hzz
  obtain ⟨hz0, hz1, hz2⟩ := hzz
  obtain ⟨v1, w1, hr, ho, hg, _, hat⟩ := run_append_own_at (P := Try.prog) (W.alloc (.cells cs.toArray TN)) base 33 ty TN i0 _ 8 88 Try.underlying33 hi hz0 hz1 hz2 rfl (by decide) u q kc (HO.alloc _) ⟨W.heap.size, 0, none⟩ 1 1 cs (by rw [hcs])
    (by simpa using World.news_of_block (cs := cs.toArray) (t := TN) (fr := (0, 0)) (heap_alloc_new W (.cells cs.toArray TN))) h1 (by simp only [maxLen]; omega) hl (by rw [World.size_alloc]; omega)
  have ho' := ho
  rcases ho.2 with ⟨_, hn⟩ | ⟨g1, c1, cur, rfl, _⟩
  · omega
  · refine ⟨g1, c1, w1, hr, ho', World.grownBy.trans (World.grownBy_alloc W _ _) hg, ?_⟩
    rcases hat with he | he
    · exact .inl he.symm
    · rw [World.size_alloc] at he
      have : g1 = W.heap.size + 1 := by simpa [Value.ownBlock] using he
      exact .inr (by omega)

section
variable {ops : Array Oper} {o : Oper} {a : Act} {Q : Exit → Act → World → Prop} {K : Act → World → Prop} {E : Prop}
theorem step_kid {W : World} (hgd : o.guard = none) (s x : Operand) (ho : o.op = .call { callee := .builtin .append, args := #[s, x], argTypes := #[33, 33] }) (base : Nat) {u : Value} {q : Nat} {kc cs : List Value} (hs : a.eval s = u) (hx : a.eval x = .slice (some ⟨W.heap.size, 0, none⟩) 1 1)
    (HO : W.ownsRow base TN 8 u q kc) (hcs : cs.length = 8) (h1 : ∀ v ∈ cs, v.oneCell' = true) (hbase : base ≤ W.heap.size) (hl : (q + 1) * 88 ≤ 140737488355328)
    (h : ∀ g1 c1 w1, w1.ownsRow base TN 8 (.slice (some ⟨g1, 0, none⟩) (q + 1) c1) (q + 1) (kc ++ cs) → W.grownBy w1 u.ownBlock → (u.ownBlock = some g1 ∨ W.heap.size < g1) → K (a.put o.dst (.slice (some ⟨g1, 0, none⟩) (q + 1) c1)) w1) :
    if Region.wanted o (yielded ops a.tmps) = true then Oper.wp Try.prog o a (W.alloc (.cells cs.toArray TN)) K Q else E := by
  have hw : Region.wanted o (yielded ops a.tmps) = true := by simp [Region.wanted, hgd]
  rw [if_pos hw]
  obtain ⟨g1, c1, w1, hr, h1, h2, h3⟩ := run_kid base o.type HO hcs h1 hbase hl
  unfold Oper.wp execOp
  simp only [ho, resolve, invoke, builtin, Sem.run_bind, Sem.run_pure, Result.andThen_ok, List.map_toArray, List.map_cons, List.map_nil, hs, hx, hr]
  exact h g1 c1 w1 h1 h2 h3
/-- *p = u: cells of a block are written. -/
theorem step_store {W : World} (hgd : o.guard = none) (hd : o.dst = none) (t : TypeId) (p x : Operand) (ho : o.op = .store t p x) {g off : Nat} {e : TypeId} {cur : Array Value} (u : Value) (seg : List Value) (haddr : a.eval p = .pointer (some ⟨g, off, none⟩)) (hx : a.eval x = u) (hu : u.cells.toList = seg)
    (ht : (Try.prog.info? t).map (·.size) = some seg.length) (h1 : ∀ v ∈ seg, v.oneCell' = true) (hh : W.heap[g]? = some (.cells cur e (0, 0))) (hfit : off + seg.length ≤ cur.size) (h : K a (W.setCells g off seg)) :
    if Region.wanted o (yielded ops a.tmps) = true then Oper.wp Try.prog o a W K Q else E := by
  have hw : Region.wanted o (yielded ops a.tmps) = true := by simp [Region.wanted, hgd]
  rw [if_pos hw]
  have hrun := run_store_run (P := Try.prog) t u seg hh hu ht hfit h1
  unfold Oper.wp execOp
  simp only [ho, haddr, hx, Sem.run_bind, Sem.run_pure, Result.andThen_ok, hrun]
  show K (a.put o.dst undef) _
  rw [hd]
  exact h
end

/-! What a store leaves of a row. -/
theorem row_set {w : World} {base g n cap : Nat} {cells : List Value} (h : w.ownsRow base TN 8 (.slice (some ⟨g, 0, none⟩) n cap) n cells) (off : Nat) (seg : List Value) (hf : off + seg.length ≤ cells.length) :
    (w.setCells g off seg).ownsRow base TN 8 (.slice (some ⟨g, 0, none⟩) n cap) n (cells.take off ++ seg ++ cells.drop (off + seg.length)) ∧ ∃ cur, w.heap[g]? = some (.cells cur TN (0, 0)) ∧ off + seg.length ≤ cur.size := by
  rcases h.2 with ⟨he, _⟩ | ⟨g', cap', cur, he, hb, hh, hl, hm, hs, ht⟩
  · cases he
  · injection he with he _ hc
    injection he with he
    injection he with he
    subst he; subst hc
    have hlen := h.1
    have hle : n * 8 ≤ cap * 8 := Nat.mul_le_mul_right _ hl
    obtain ⟨cur', h3, h4, h5⟩ := setCells_row seg off w cur hh (by omega)
    refine ⟨⟨?_, .inr ⟨g, cap, cur', rfl, hb, h3, hl, hm, by rw [h4]; exact hs, ?_⟩⟩, cur, hh, by omega⟩
    · simp only [List.length_append, List.length_take, List.length_drop]
      omega
    · rw [h5, ← ht, List.take_take, Nat.min_eq_left (by omega), List.drop_take]
      have hc1 : (cur.toList.take off ++ seg).length = off + seg.length := by
        rw [List.length_append, List.length_take, Array.length_toList]
        omega
      rw [List.take_append, hc1, List.take_of_length_le (by rw [hc1]; omega)]
/-- The last cells of a row. -/
theorem row_set_end {w : World} {base g n cap : Nat} {xs ys : List Value} (h : w.ownsRow base TN 8 (.slice (some ⟨g, 0, none⟩) n cap) n (xs ++ ys)) (off : Nat) (seg : List Value) (ho : xs.length = off) (hl : seg.length = ys.length) :
    (w.setCells g off seg).ownsRow base TN 8 (.slice (some ⟨g, 0, none⟩) n cap) n (xs ++ seg) ∧ ∃ cur, w.heap[g]? = some (.cells cur TN (0, 0)) ∧ off + seg.length ≤ cur.size := by
  have := row_set h off seg (by rw [List.length_append]; omega)
  rw [List.take_append_of_le_length (by omega), List.take_of_length_le (by omega), List.drop_of_length_le (by rw [List.length_append]; omega), List.append_nil] at this
  exact this
theorem setCells_grown (w : World) (g off : Nat) (seg : List Value) : w.grownBy (w.setCells g off seg) (some g) :=
  ⟨(setCells_same g seg off w).1, (setCells_same g seg off w).2.1, (setCells_same g seg off w).2.2.1, by rw [(setCells_same g seg off w).2.2.2]; exact Nat.le_refl _, fun k _ hk => setCells_far seg off k (fun he => hk (by rw [he]))⟩
end Go.Proofs.Ytfefldkljbbbpaa
