/- The parser in memory; steps. -/
import Derived.Test.YtmjbpgnjgblnmaaPut
import Derived.Test.YtmjbpgnjgblnmaaG1
import Derived.Lib.Hide
import Derived.Below
import Derived.Laws.AppendOwn
import Derived.Deep.MidRow
/- The parser in memory. -/
set_option linter.unusedVariables false
namespace Go.Proofs.Ytmjbpgnjgblnmaa
open Go.RowKit Go.Proofs.YtmjbpgnjgblnmaaW.PrintWords Go.Proofs.YtmjbpgnjgblnmaaW.PrintLast Go.Proofs.YtmjbpgnjgblnmaaW.PrintMore

def wCells : WT → List Value
  | .word s => [.string s, .int .u8 0, .nilFunc]
  | .fin k => [.string ⟨#[]⟩, .int .u8 k, .nilFunc]
  | .rule f => [.string ⟨#[]⟩, .int .u8 0, .func (.func f.num) #[] #[]]
theorem wCells_len (x : WT) : (wCells x).length = 3 := by cases x <;> rfl
theorem wCells_one (x : WT) : ∀ v ∈ wCells x, v.oneCell' = true := by
  cases x <;> (intro v hv; simp only [wCells, List.mem_cons, List.not_mem_nil, or_false] at hv; rcases hv with rfl | rfl | rfl <;> rfl)
def evCells (e : Ev) : List Value := [.int .u8 e.f0, .int .u8 e.f1, .int .u8 e.f2.f0, .string e.f2.f1, .int .i64 e.f2.f2.f0, .int .i64 e.f2.f2.f1, .int .i64 e.f2.f2.f2, .int .i64 e.f2.f3]
/-- The parser p: its cells, its rows of things to come (the next last) and of events. -/
structure PAt (w : World) (p : Nat) (s : List WT) (es : List Ev) (d : Int) (b : Bool) (wr : Int) (cl : Bool) (vt ve : Value) : Prop where
  box : w.heap[p]? = some (.cells #[vt, ve, .int .i64 d, .bool b, .int .i64 wr, .bool cl] 67 (0, 0))
  todo : w.ownsRow p 71 3 vt s.length (s.reverse.flatMap wCells)
  evs : w.ownsRow p 46 8 ve es.length (es.flatMap evCells)
/-- From w to w' only the parser and its rows change; its rows are the old ones, or new. -/
structure PStep (p : Nat) (vt ve : Value) (w : World) (vt' ve' : Value) (w' : World) : Prop where
  os : w'.os = w.os
  tape : w'.tape = w.tape
  output : w'.output = w.output
  size : w.heap.size ≤ w'.heap.size
  block : ∀ k, k < w.heap.size → k ≠ p → some k ≠ vt.ownBlock → some k ≠ ve.ownBlock → w'.heap[k]? = w.heap[k]?
  ft : ∀ g, vt'.ownBlock = some g → vt.ownBlock = some g ∨ w.heap.size ≤ g
  fe : ∀ g, ve'.ownBlock = some g → ve.ownBlock = some g ∨ w.heap.size ≤ g
theorem PStep.refl (p : Nat) (vt ve : Value) (w : World) : PStep p vt ve w vt ve w := ⟨rfl, rfl, rfl, Nat.le_refl _, fun _ _ _ _ _ => rfl, fun _ h => .inl h, fun _ h => .inl h⟩
theorem PStep.trans {p : Nat} {a b a' b' a2 b2 : Value} {w w' w2 : World} (h : PStep p a b w a' b' w') (h' : PStep p a' b' w' a2 b2 w2) : PStep p a b w a2 b2 w2 := by
  refine ⟨h'.os.trans h.os, h'.tape.trans h.tape, h'.output.trans h.output, Nat.le_trans h.size h'.size, fun k hk h0 h1 h2 => ?_, fun g hg => ?_, fun g hg => ?_⟩
  · rw [h'.block k (Nat.lt_of_lt_of_le hk h.size) h0 (fun e => ?_) (fun e => ?_), h.block k hk h0 h1 h2]
    · rcases h.ft k e.symm with h3 | h3
      · exact h1 h3.symm
      · omega
    · rcases h.fe k e.symm with h3 | h3
      · exact h2 h3.symm
      · omega
  · rcases h'.ft g hg with h3 | h3
    · exact h.ft g h3
    · exact .inr (Nat.le_trans h.size h3)
  · rcases h'.fe g hg with h3 | h3
    · exact h.fe g h3
    · exact .inr (Nat.le_trans h.size h3)
end Go.Proofs.Ytmjbpgnjgblnmaa

/- Steps: one thing is appended, cells are stored. -/
set_option linter.unusedVariables false
namespace Go.Proofs.Ytmjbpgnjgblnmaa
open Go.RowKit Go.Proofs.YtmjbpgnjgblnmaaW.PrintWords Go.Proofs.YtmjbpgnjgblnmaaW.PrintLast Go.Proofs.YtmjbpgnjgblnmaaW.PrintMore

theorem infoWt : (Try.prog.info? 71).map (fun i => (i.zero, i.size, i.bytes)) = some (some (.agg #[.string ⟨#[]⟩, .int .u8 0, .nilFunc]), 3, 32) := by kernel_rfl
/-- append(u, x) of one node, at the level of a run; what is laid is a list with a head. -/
theorem run_want {W : World} (base : Nat) (ty : TypeId) {u : Value} {q : Nat} {kc cs : List Value} (HO : W.ownsRow base 71 3 u q kc) (hcs : cs.length = 3) (h1 : ∀ v ∈ cs, v.oneCell' = true) (hbase : base ≤ W.heap.size) (hl : (q + 1) * 32 ≤ 140737488355328) :
    ∃ g1 c1 w1, (Builtin.append_ #[65, 65] ty #[u, .slice (some ⟨W.heap.size, 0, none⟩) 1 1]).run Try.prog (W.alloc (.cells cs.toArray 71)) = .ok (.slice (some ⟨g1, 0, none⟩) (q + 1) c1) w1 ∧
      w1.ownsRow base 71 3 (.slice (some ⟨g1, 0, none⟩) (q + 1) c1) (q + 1) (kc ++ cs) ∧ W.grownBy w1 u.ownBlock ∧ (u.ownBlock = some g1 ∨ W.heap.size < g1) := by
  obtain ⟨i0, hi, hzz⟩ := Option.map_eq_some_iff.1 infoWt
  simp only [Prod.mk.injEq] at hzz
  obtain ⟨hz0, hz1, hz2⟩ := hzz
  obtain ⟨v1, w1, hr, ho, hg, _, hat⟩ := run_append_own_at (P := Try.prog) (W.alloc (.cells cs.toArray 71)) base 65 ty 71 i0 _ 3 32 Try.underlying65 hi hz0 hz1 hz2 rfl (by decide) u q kc (HO.alloc _) ⟨W.heap.size, 0, none⟩ 1 1 cs (by rw [hcs])
    (by simpa using World.news_of_block (cs := cs.toArray) (t := 71) (fr := (0, 0)) (heap_alloc_new W (.cells cs.toArray 71))) h1 (by simp only [maxLen]; omega) hl (by rw [World.size_alloc]; omega)
  have ho' := ho
  rcases ho.2 with ⟨_, hn⟩ | ⟨g1, c1, cur, rfl, _⟩
  · omega
  · refine ⟨g1, c1, w1, hr, ho', World.grownBy.trans (World.grownBy_alloc W _ _) hg, ?_⟩
    rcases hat with he | he
    · exact .inl he.symm
    · rw [World.size_alloc] at he
      have : g1 = W.heap.size + 1 := by simpa [Value.ownBlock] using he
      exact .inr (by omega)

section
variable {ops : Array Oper} {o : Oper} {a : Act} {Q : Exit → Act → World → Prop} {K : Act → World → Prop} {E : Prop}
theorem step_want {W : World} (hgd : o.guard = none) (s x : Operand) (ho : o.op = .call { callee := .builtin .append, args := #[s, x], argTypes := #[65, 65] }) (base : Nat) {u : Value} {q : Nat} {kc cs : List Value} (hs : a.eval s = u) (hx : a.eval x = .slice (some ⟨W.heap.size, 0, none⟩) 1 1)
    (HO : W.ownsRow base 71 3 u q kc) (hcs : cs.length = 3) (h1 : ∀ v ∈ cs, v.oneCell' = true) (hbase : base ≤ W.heap.size) (hl : (q + 1) * 32 ≤ 140737488355328)
    (h : ∀ g1 c1 w1, w1.ownsRow base 71 3 (.slice (some ⟨g1, 0, none⟩) (q + 1) c1) (q + 1) (kc ++ cs) → W.grownBy w1 u.ownBlock → (u.ownBlock = some g1 ∨ W.heap.size < g1) → K (a.put o.dst (.slice (some ⟨g1, 0, none⟩) (q + 1) c1)) w1) :
    if Region.wanted o (yielded ops a.tmps) = true then Oper.wp Try.prog o a (W.alloc (.cells cs.toArray 71)) K Q else E := by
  have hw : Region.wanted o (yielded ops a.tmps) = true := by simp [Region.wanted, hgd]
  rw [if_pos hw]
  obtain ⟨g1, c1, w1, hr, h1, h2, h3⟩ := run_want base o.type HO hcs h1 hbase hl
  unfold Oper.wp execOp
  simp only [ho, resolve, invoke, builtin, Sem.run_bind, Sem.run_pure, Result.andThen_ok, List.map_toArray, List.map_cons, List.map_nil, hs, hx, hr]
  exact h g1 c1 w1 h1 h2 h3
/-- *p = u: cells of a block are written. -/
theorem step_store {W : World} (hgd : o.guard = none) (hd : o.dst = none) (t : TypeId) (p x : Operand) (ho : o.op = .store t p x) {g off : Nat} {e : TypeId} {cur : Array Value} (u : Value) (seg : List Value) (haddr : a.eval p = .pointer (some ⟨g, off, none⟩)) (hx : a.eval x = u) (hu : u.cells.toList = seg)
    (ht : (Try.prog.info? t).map (·.size) = some seg.length) (h1 : ∀ v ∈ seg, v.oneCell' = true) (hh : W.heap[g]? = some (.cells cur e (0, 0))) (hfit : off + seg.length ≤ cur.size) (h : K a (W.setCells g off seg)) :
    if Region.wanted o (yielded ops a.tmps) = true then Oper.wp Try.prog o a W K Q else E := by
  have hw : Region.wanted o (yielded ops a.tmps) = true := by simp [Region.wanted, hgd]
  rw [if_pos hw]
  have hrun := run_store_run (P := Try.prog) t u seg hh hu ht hfit h1
  unfold Oper.wp execOp
  simp only [ho, haddr, hx, Sem.run_bind, Sem.run_pure, Result.andThen_ok, hrun]
  show K (a.put o.dst undef) _
  rw [hd]
  exact h
end

end Go.Proofs.Ytmjbpgnjgblnmaa

/- Steps: an event is appended, the parser's cells are stored, the next thing is taken. -/
set_option linter.unusedVariables false
namespace Go.Proofs.Ytmjbpgnjgblnmaa
open Go.RowKit Go.Proofs.YtmjbpgnjgblnmaaW.PrintWords Go.Proofs.YtmjbpgnjgblnmaaW.PrintLast Go.Proofs.YtmjbpgnjgblnmaaW.PrintMore

theorem infoEv : (Try.prog.info? 46).map (fun i => (i.zero, i.size, i.bytes)) = some (some (.agg #[.int .u8 0, .int .u8 0, .int .u8 0, .string ⟨#[]⟩, .int .i64 0, .int .i64 0, .int .i64 0, .int .i64 0]), 8, 64) := by kernel_rfl
theorem evCells_len (e : Ev) : (evCells e).length = 8 := rfl
theorem evCells_one (e : Ev) : ∀ v ∈ evCells e, v.oneCell' = true := by
  intro v hv; simp only [evCells, List.mem_cons, List.not_mem_nil, or_false] at hv; rcases hv with rfl | rfl | rfl | rfl | rfl | rfl | rfl | rfl <;> rfl
theorem run_ev {W : World} (base : Nat) (ty : TypeId) {u : Value} {q : Nat} {kc cs : List Value} (HO : W.ownsRow base 46 8 u q kc) (hcs : cs.length = 8) (h1 : ∀ v ∈ cs, v.oneCell' = true) (hbase : base ≤ W.heap.size) (hl : (q + 1) * 64 ≤ 140737488355328) :
    ∃ g1 c1 w1, (Builtin.append_ #[38, 38] ty #[u, .slice (some ⟨W.heap.size, 0, none⟩) 1 1]).run Try.prog (W.alloc (.cells cs.toArray 46)) = .ok (.slice (some ⟨g1, 0, none⟩) (q + 1) c1) w1 ∧
      w1.ownsRow base 46 8 (.slice (some ⟨g1, 0, none⟩) (q + 1) c1) (q + 1) (kc ++ cs) ∧ W.grownBy w1 u.ownBlock ∧ (u.ownBlock = some g1 ∨ W.heap.size < g1) := by
  obtain ⟨i0, hi, hzz⟩ := Option.map_eq_some_iff.1 infoEv
  simp only [Prod.mk.injEq] at hzz
  obtain ⟨hz0, hz1, hz2⟩ := hzz
  obtain ⟨v1, w1, hr, ho, hg, _, hat⟩ := run_append_own_at (P := Try.prog) (W.alloc (.cells cs.toArray 46)) base 38 ty 46 i0 _ 8 64 Try.underlying38 hi hz0 hz1 hz2 rfl (by decide) u q kc (HO.alloc _) ⟨W.heap.size, 0, none⟩ 1 1 cs (by rw [hcs])
    (by simpa using World.news_of_block (cs := cs.toArray) (t := 46) (fr := (0, 0)) (heap_alloc_new W (.cells cs.toArray 46))) h1 (by simp only [maxLen]; omega) hl (by rw [World.size_alloc]; omega)
  have ho' := ho
  rcases ho.2 with ⟨_, hn⟩ | ⟨g1, c1, cur, rfl, _⟩
  · omega
  · refine ⟨g1, c1, w1, hr, ho', World.grownBy.trans (World.grownBy_alloc W _ _) hg, ?_⟩
    rcases hat with he | he
    · exact .inl he.symm
    · rw [World.size_alloc] at he
      have : g1 = W.heap.size + 1 := by simpa [Value.ownBlock] using he
      exact .inr (by omega)
section
variable {ops : Array Oper} {o : Oper} {a : Act} {Q : Exit → Act → World → Prop} {K : Act → World → Prop} {E : Prop}
theorem step_ev {W : World} (hgd : o.guard = none) (s x : Operand) (ho : o.op = .call { callee := .builtin .append, args := #[s, x], argTypes := #[38, 38] }) (base : Nat) {u : Value} {q : Nat} {kc cs : List Value} (hs : a.eval s = u) (hx : a.eval x = .slice (some ⟨W.heap.size, 0, none⟩) 1 1)
    (HO : W.ownsRow base 46 8 u q kc) (hcs : cs.length = 8) (h1 : ∀ v ∈ cs, v.oneCell' = true) (hbase : base ≤ W.heap.size) (hl : (q + 1) * 64 ≤ 140737488355328)
    (h : ∀ g1 c1 w1, w1.ownsRow base 46 8 (.slice (some ⟨g1, 0, none⟩) (q + 1) c1) (q + 1) (kc ++ cs) → W.grownBy w1 u.ownBlock → (u.ownBlock = some g1 ∨ W.heap.size < g1) → K (a.put o.dst (.slice (some ⟨g1, 0, none⟩) (q + 1) c1)) w1) :
    if Region.wanted o (yielded ops a.tmps) = true then Oper.wp Try.prog o a (W.alloc (.cells cs.toArray 46)) K Q else E := by
  have hw : Region.wanted o (yielded ops a.tmps) = true := by simp [Region.wanted, hgd]
  rw [if_pos hw]
  obtain ⟨g1, c1, w1, hr, h1, h2, h3⟩ := run_ev base o.type HO hcs h1 hbase hl
  unfold Oper.wp execOp
  simp only [ho, resolve, invoke, builtin, Sem.run_bind, Sem.run_pure, Result.andThen_ok, List.map_toArray, List.map_cons, List.map_nil, hs, hx, hr]
  exact h g1 c1 w1 h1 h2 h3
end
/-- One of the parser's cells is written. -/
theorem PAt.upd {w : World} {p : Nat} {s : List WT} {es : List Ev} {d : Int} {b : Bool} {wr : Int} {cl : Bool} {vt ve : Value} (H : PAt w p s es d b wr cl vt ve) (off : Nat) (v : Value) (hoff : off < 6)
    {s' : List WT} {es' : List Ev} {d' : Int} {b' : Bool} {wr' : Int} {cl' : Bool} {vt' ve' : Value}
    (hc : [vt, ve, .int .i64 d, .bool b, .int .i64 wr, .bool cl].take off ++ [v] ++ [vt, ve, .int .i64 d, .bool b, .int .i64 wr, .bool cl].drop (off + 1) = [vt', ve', .int .i64 d', .bool b', .int .i64 wr', .bool cl'])
    (ht : w.ownsRow p 71 3 vt' s'.length (s'.reverse.flatMap wCells)) (he : w.ownsRow p 46 8 ve' es'.length (es'.flatMap evCells))
    (ft : ∀ g, vt'.ownBlock = some g → vt.ownBlock = some g) (fe : ∀ g, ve'.ownBlock = some g → ve.ownBlock = some g) :
    PAt (w.setCells p off [v]) p s' es' d' b' wr' cl' vt' ve' ∧ PStep p vt ve w vt' ve' (w.setCells p off [v]) := by
  obtain ⟨cur', k1, k2, k3⟩ := setCells_row [v] off w _ H.box (by simp; omega)
  have hfar : ∀ q, q ≠ p → (w.setCells p off [v]).heap[q]? = w.heap[q]? := fun q hq => setCells_far _ off q hq
  have hsm := setCells_same p [v] off w
  refine ⟨⟨?_, ?_, ?_⟩, ⟨hsm.1, hsm.2.1, hsm.2.2.1, by rw [hsm.2.2.2]; exact Nat.le_refl _, fun q _ h0 _ _ => hfar q h0, fun g h => .inl (ft g h), fun g h => .inl (fe g h)⟩⟩
  · rw [k1]
    have : cur' = #[vt', ve', .int .i64 d', .bool b', .int .i64 wr', .bool cl'] := by
      apply Array.toList_inj.1
      rw [k3]
      exact hc
    rw [this]
  · refine own_move ht (fun q hq => hfar q (fun e => ?_))
    obtain ⟨cs, hc2⟩ := own_typed ht q hq
    rw [e, H.box] at hc2; cases hc2
  · refine own_move he (fun q hq => hfar q (fun e => ?_))
    obtain ⟨cs, hc2⟩ := own_typed he q hq
    rw [e, H.box] at hc2; cases hc2
theorem PAt.cell {w : World} {p : Nat} {s : List WT} {es : List Ev} {d : Int} {b : Bool} {wr : Int} {cl : Bool} {vt ve : Value} (H : PAt w p s es d b wr cl vt ve) :
    w.cell? ⟨p, 0, none⟩ = some vt ∧ w.cell? ⟨p, 1, none⟩ = some ve ∧ w.cell? ⟨p, 2, none⟩ = some (.int .i64 d) ∧ w.cell? ⟨p, 3, none⟩ = some (.bool b) ∧ w.cell? ⟨p, 4, none⟩ = some (.int .i64 wr) ∧ w.cell? ⟨p, 5, none⟩ = some (.bool cl) :=
  ⟨cell_of_row _ _ _ _ _ _ H.box, cell_of_row _ _ _ _ _ _ H.box, cell_of_row _ _ _ _ _ _ H.box, cell_of_row _ _ _ _ _ _ H.box, cell_of_row _ _ _ _ _ _ H.box, cell_of_row _ _ _ _ _ _ H.box⟩
theorem PAt.frozen {w : World} {p : Nat} {s : List WT} {es : List Ev} {d : Int} {b : Bool} {wr : Int} {cl : Bool} {vt ve : Value} (H : PAt w p s es d b wr cl vt ve) (k : Nat) : w.frozen? ⟨p, k, none⟩ = false := by
  simp [World.frozen?, H.box]
/-- Whatever leaves the parser's blocks alone. -/
theorem PAt.move {w w1 : World} {p : Nat} {s : List WT} {es : List Ev} {d : Int} {b : Bool} {wr : Int} {cl : Bool} {vt ve : Value} (H : PAt w p s es d b wr cl vt ve) (h : ∀ k, k < w.heap.size → w1.heap[k]? = w.heap[k]?) : PAt w1 p s es d b wr cl vt ve :=
  ⟨(h p (blk_lt H.box)).trans H.box, own_move H.todo (fun q hq => h q (own_lt H.todo q hq)), own_move H.evs (fun q hq => h q (own_lt H.evs q hq))⟩
theorem PAt.below {w w1 : World} {p : Nat} {s : List WT} {es : List Ev} {d : Int} {b : Bool} {wr : Int} {cl : Bool} {vt ve : Value} (H : PAt w p s es d b wr cl vt ve) (h : Below w.heap.size w w1) : PAt w1 p s es d b wr cl vt ve := H.move h.block
theorem PStep.below {p : Nat} {vt ve : Value} {w w1 : World} (h : Below w.heap.size w w1) : PStep p vt ve w vt ve w1 := ⟨h.os, h.tape, h.output, h.size, fun k hk _ _ _ => h.block k hk, fun _ h => .inl h, fun _ h => .inl h⟩
/-- Behind the append of an event and the store of the slice. -/
theorem ev_next {p : Nat} {wr w1 : World} {s : List WT} {es : List Ev} {d : Int} {b : Bool} {wc : Int} {cl : Bool} {vt ve : Value} {g1 c1 : Nat} {e : Ev} (H : PAt wr p s es d b wc cl vt ve)
    (ho : w1.ownsRow p 46 8 (.slice (some ⟨g1, 0, none⟩) (es.length + 1) c1) (es.length + 1) (es.flatMap evCells ++ evCells e)) (hg : wr.grownBy w1 ve.ownBlock) (hat : ve.ownBlock = some g1 ∨ wr.heap.size < g1) :
    (∃ cur : Array Value, w1.heap[p]? = some (.cells cur 67 (0, 0)) ∧ 1 + 1 ≤ cur.size) ∧ ∀ V, V = w1.setCells p 1 [.slice (some ⟨g1, 0, none⟩) (es.length + 1) c1] →
      PAt V p s (es ++ [e]) d b wc cl vt (.slice (some ⟨g1, 0, none⟩) (es.length + 1) c1) ∧ PStep p vt ve wr vt (.slice (some ⟨g1, 0, none⟩) (es.length + 1) c1) V := by
  have hpe : ve.ownBlock ≠ some p := fun e => by
    obtain ⟨cs, hc⟩ := own_typed H.evs p e
    rw [H.box] at hc; cases hc
  have hbp : w1.heap[p]? = _ := (hg.block p (blk_lt H.box) (fun e => hpe e.symm)).trans H.box
  refine ⟨⟨_, hbp, by simp⟩, ?_⟩
  rintro _ rfl
  have hte : ∀ q, vt.ownBlock = some q → some q ≠ ve.ownBlock := fun q hq e => by
    obtain ⟨cs, hc⟩ := own_typed H.todo q hq
    obtain ⟨cs2, hc2⟩ := own_typed H.evs q e.symm
    rw [hc] at hc2; cases hc2
  have H1 : PAt w1 p s [] d b wc cl vt (.slice none 0 0) → True := fun _ => trivial
  obtain ⟨cur', k1, k2, k3⟩ := setCells_row [.slice (some ⟨g1, 0, none⟩) (es.length + 1) c1] 1 w1 _ hbp (by simp)
  have hfar : ∀ q, q ≠ p → (w1.setCells p 1 [.slice (some ⟨g1, 0, none⟩) (es.length + 1) c1]).heap[q]? = w1.heap[q]? := fun q hq => setCells_far _ 1 q hq
  have hsm := setCells_same p [.slice (some ⟨g1, 0, none⟩) (es.length + 1) c1] 1 w1
  have hgp : g1 ≠ p := fun e => by
    obtain ⟨cs, hc⟩ := own_typed ho g1 (by simp [Value.ownBlock])
    rw [e, hbp] at hc; cases hc
  refine ⟨⟨?_, ?_, ?_⟩, ⟨?_, ?_, ?_, ?_, ?_, ?_, ?_⟩⟩
  · rw [k1]
    have : cur' = #[vt, .slice (some ⟨g1, 0, none⟩) (es.length + 1) c1, .int .i64 d, .bool b, .int .i64 wc, .bool cl] := by
      apply Array.toList_inj.1
      rw [k3]
      rfl
    rw [this]
  · refine own_move H.todo (fun q hq => ?_)
    obtain ⟨cs, hc⟩ := own_typed H.todo q hq
    rw [hfar q (fun e => by rw [e, H.box] at hc; cases hc)]
    exact hg.block q (blk_lt hc) (hte q hq)
  · have h2 := own_move ho (w1 := w1.setCells p 1 [.slice (some ⟨g1, 0, none⟩) (es.length + 1) c1]) (fun q hq => hfar q (fun e => hgp ((show g1 = q by simpa [Value.ownBlock] using hq).trans e)))
    simp only [List.length_append, List.length_cons, List.length_nil, Nat.zero_add, List.flatMap_append, List.flatMap_cons, List.flatMap_nil, List.append_nil]
    exact h2
  · exact hsm.1.trans hg.os
  · exact hsm.2.1.trans hg.tape
  · exact hsm.2.2.1.trans hg.output
  · rw [hsm.2.2.2]; exact hg.size
  · intro q hq h0 h1 h2
    rw [hfar q h0]
    exact hg.block q hq h2
  · exact fun g h => .inl h
  · intro g hg'
    have : g1 = g := by simpa [Value.ownBlock] using hg'
    subst this
    rcases hat with h | h
    · exact .inl h
    · exact .inr (by omega)
/-- The row of what is to come, and its last one. -/
theorem todo_top {w : World} {base : Nat} {x : WT} {r : List WT} {vt : Value} (h : w.ownsRow base 71 3 vt (x :: r).length ((x :: r).reverse.flatMap wCells)) :
    ∃ g cap, vt = .slice (some ⟨g, 0, none⟩) (r.length + 1) cap ∧ r.length + 1 ≤ cap ∧ cap ≤ maxLen ∧ (∀ j v, (wCells x)[j]? = some v → w.cell? ⟨g, r.length * 3 + j, none⟩ = some v ∧ w.frozen? ⟨g, r.length * 3 + j, none⟩ = false) ∧
      w.ownsRow base 71 3 (.slice (some ⟨g, 0, none⟩) r.length cap) r.length (r.reverse.flatMap wCells) := by
  have hfl : ∀ l : List WT, (l.flatMap wCells).length = l.length * 3 := fun l => by
    induction l with
    | nil => rfl
    | cons a l ih => rw [List.flatMap_cons, List.length_append, wCells_len, ih, List.length_cons]; omega
  have hx : (r.reverse.flatMap wCells).length = r.length * 3 := by rw [hfl, List.length_reverse]
  rw [List.reverse_cons, List.flatMap_append, List.flatMap_cons, List.flatMap_nil, List.append_nil, List.length_cons] at h
  rcases h.2 with ⟨_, hn⟩ | ⟨g, cap, cur, rfl, hb, hh, hl, hm, hs, ht⟩
  · omega
  · refine ⟨g, cap, rfl, hl, hm, fun j v hj => ?_, hx, .inr ⟨g, cap, cur, rfl, hb, hh, by omega, hm, hs, ?_⟩⟩
    · have hj3 : j < 3 := by have := (List.getElem?_eq_some_iff.1 hj).1; rwa [wCells_len] at this
      have hj' : (r.reverse.flatMap wCells ++ wCells x)[r.length * 3 + j]? = some v := by
        rw [List.getElem?_append_right (by omega), hx, show r.length * 3 + j - r.length * 3 = j by omega]
        exact hj
      rw [← ht, List.getElem?_take_of_lt (by omega), Array.getElem?_toList] at hj'
      exact ⟨by rw [cell_of_row _ _ _ _ _ _ hh]; exact hj', by simp [World.frozen?, hh]⟩
    · have hz := congrArg (List.take (r.length * 3)) ht
      rw [List.take_take, Nat.min_eq_left (by omega), List.take_left' hx] at hz
      exact hz
end Go.Proofs.Ytmjbpgnjgblnmaa
