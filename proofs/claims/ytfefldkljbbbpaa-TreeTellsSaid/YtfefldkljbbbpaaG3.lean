/- Build: what it lays; events. -/
import Derived.Test.YtfefldkljbbbpaaG2
import Derived.Test.YtfefldkljbbbpaaPTreeSamex3
import Derived.Lib.Hide
/- What the walk of Build stands on. -/
set_option linter.unusedVariables false
set_option linter.unusedSimpArgs false
namespace Go.Proofs.Ytfefldkljbbbpaa
open Go.RowKit Go.Proofs.YtfefldkljbbbpaaW.PrintWords Go.Proofs.YtfefldkljbbbpaaW.PrintLast Go.Proofs.YtfefldkljbbbpaaW.PrintMore

abbrev zNd : List Value := [.int .u8 0, .int .u8 0, .string ⟨#[]⟩, .int .i64 0, .int .i64 0, .int .i64 0, .int .i64 0, .slice none 0 0]
theorem zNd_one : ∀ v ∈ zNd, v.oneCell' = true := ndCells_one 0 noTk rfl

/-- An event's cells. -/
structure EvAt (w : World) (A : Option Addr) (i : Nat) (e : Ev) : Prop where
  cell : ∃ ad, A = some ad ∧ w.cell? (ad.add (i * 8)) = some (.int .u8 e.f0) ∧ w.cell? ⟨(ad.add (i * 8)).block, (ad.add (i * 8)).off + 1, none⟩ = some (.int .u8 e.f1) ∧ w.cell? ⟨(ad.add (i * 8)).block, (ad.add (i * 8)).off + 2, none⟩ = some (.int .u8 e.f2.f0) ∧ w.cell? ⟨(ad.add (i * 8)).block, (ad.add (i * 8)).off + 3, none⟩ = some (.string e.f2.f1) ∧ w.cell? ⟨(ad.add (i * 8)).block, (ad.add (i * 8)).off + 4, none⟩ = some (.int .i64 e.f2.f2.f0) ∧ w.cell? ⟨(ad.add (i * 8)).block, (ad.add (i * 8)).off + 5, none⟩ = some (.int .i64 e.f2.f2.f1) ∧ w.cell? ⟨(ad.add (i * 8)).block, (ad.add (i * 8)).off + 6, none⟩ = some (.int .i64 e.f2.f2.f2) ∧ w.cell? ⟨(ad.add (i * 8)).block, (ad.add (i * 8)).off + 7, none⟩ = some (.int .i64 e.f2.f3)
theorem evAt_of {w : World} {A : Option Addr} {n : Nat} {l : List Ev} (h : Kd.C kEv w A n l) (i : Nat) (e : Ev) (hi : i < n) (he : l[i]? = some e) : EvAt w A i e := by
  obtain ⟨ad, h0, r⟩ := PTreeSame.at_T32 h (i : Int) (by omega) (by omega)
  have hr : PTreeSame.rd_T32 l (i : Int) = e := by simp [PTreeSame.rd_T32, List.getD, he]
  rw [hr, Int.toNat_natCast] at r
  exact ⟨ad, h0, r⟩
theorem comment_any (t : Tk) (w : World) : Calls Try.prog 25 #[.agg #[.int .u8 t.f0, .string t.f1, .int .i64 t.f2.f0, .int .i64 t.f2.f1, .int .i64 t.f2.f2, .int .i64 t.f3]] w fun e w' => e = .returned (.bool (isNote t)) ∧ Below w.heap.size w w' := by
  refine PTreeSame.tree_comment.calls t.f0 t.f1 t.f2.f0 t.f2.f1 t.f2.f2 t.f3 (isNote t) w ?_
  unfold PTreeSame.tree_comment.f isNote
  by_cases h : t.f0 = 7
  · rw [if_pos h, h]; rfl
  · rw [if_neg h, beq_eq_false_iff_ne.2 h]; rfl
theorem box8 {w w1 : World} {a b c d e f g h : Value} {T : TypeId} (hb : Below (w.heap.size + 1) (w.alloc (.cells #[a, b, c, d, e, f, g, h] T)) w1) :
    w1.cell? ⟨w.heap.size, 0, none⟩ = some a ∧ w1.cell? ⟨w.heap.size, 1, none⟩ = some b ∧ w1.cell? ⟨w.heap.size, 2, none⟩ = some c ∧ w1.cell? ⟨w.heap.size, 3, none⟩ = some d ∧ w1.cell? ⟨w.heap.size, 4, none⟩ = some e ∧ w1.cell? ⟨w.heap.size, 5, none⟩ = some f ∧ w1.cell? ⟨w.heap.size, 6, none⟩ = some g ∧ w1.cell? ⟨w.heap.size, 7, none⟩ = some h := by
  have hn : (w.alloc (.cells #[a, b, c, d, e, f, g, h] T)).heap[w.heap.size]? = some (.cells #[a, b, c, d, e, f, g, h] T) := by
    show (w.heap.push _)[w.heap.size]? = _
    rw [Array.getElem?_push, if_pos rfl]
  have hc : ∀ (j : Nat) v, (#[a, b, c, d, e, f, g, h] : Array Value)[j]? = some v → w1.cell? ⟨w.heap.size, j, none⟩ = some v := fun j v hj =>
    (hb.cell (p := ⟨w.heap.size, j, none⟩) (show w.heap.size < w.heap.size + 1 by omega)).trans ((cell_of_row _ _ _ _ _ _ hn).trans hj)
  exact ⟨hc 0 _ rfl, hc 1 _ rfl, hc 2 _ rfl, hc 3 _ rfl, hc 4 _ rfl, hc 5 _ rfl, hc 6 _ rfl, hc 7 _ rfl⟩

/-! A store into a box of eight cells, as an event. -/
structure Upd (g : Nat) (W w5 : World) : Prop where
  far : ∀ k, k ≠ g → w5.heap[k]? = W.heap[k]?
  os : w5.os = W.os
  tape : w5.tape = W.tape
  output : w5.output = W.output
  size : w5.heap.size = W.heap.size
theorem Upd.below {g B : Nat} {w W w5 : World} (h : Upd g W w5) (hb : Below B w W) (hg : B ≤ g) : Below B w w5 :=
  ⟨h.os.trans hb.os, h.tape.trans hb.tape, h.output.trans hb.output, by rw [h.size]; exact hb.size, fun k hk => (h.far k (by omega)).trans (hb.block k hk)⟩
theorem wl_box {ops : Array Oper} {rest : List Oper} {o : Oper} {a : Act} {Q : Exit → Act → World → Prop} {W : World} (hgd : o.guard = none) (hd : o.dst = none) (t : TypeId) (p x : Operand) (ho : o.op = .store t p x) {g : Nat} {e : TypeId} {cur : Array Value} (u : Value) (seg : List Value)
    (haddr : a.eval p = .pointer (some ⟨g, 0, none⟩)) (hx : a.eval x = u) (hu : u.cells.toList = seg) (ht : (Try.prog.info? t).map (·.size) = some seg.length) (h1 : ∀ v ∈ seg, v.oneCell' = true) (hh : W.heap[g]? = some (.cells cur e (0, 0))) (hfit : cur.size = seg.length)
    (h : ∀ w5, w5.heap[g]? = some (.cells seg.toArray e (0, 0)) → Upd g W w5 → wpList Try.prog ops Q rest a w5) : wpList Try.prog ops Q (o :: rest) a W := by
  refine wpList_plain hgd fun K hK => ?_
  have hrun := run_store_run (P := Try.prog) (o := 0) t u seg hh hu ht (by omega) h1
  unfold Oper.wp execOp
  simp only [ho, haddr, hx, Sem.run_bind, Sem.run_pure, Result.andThen_ok, hrun]
  show K (a.put o.dst undef) _
  rw [hd]
  obtain ⟨cur', h3, h4, h5⟩ := setCells_row seg 0 W cur hh (by omega)
  have hs := setCells_same g seg 0 W
  refine hK a _ (h _ ?_ ⟨fun k hk => setCells_far seg 0 k hk, hs.1, hs.2.1, hs.2.2.1, hs.2.2.2⟩)
  rw [h3]
  congr 2
  apply Array.toList_inj.1
  rw [h5, List.take_zero, List.nil_append, List.drop_of_length_le (by rw [Array.length_toList]; omega), List.append_nil]
theorem cells8 {w : World} {g : Nat} {T : TypeId} {a b c d e f p q : Value} (h : w.heap[g]? = some (.cells [a, b, c, d, e, f, p, q].toArray T (0, 0))) :
    w.cell? ⟨g, 0, none⟩ = some a ∧ w.cell? ⟨g, 1, none⟩ = some b ∧ w.cell? ⟨g, 2, none⟩ = some c ∧ w.cell? ⟨g, 3, none⟩ = some d ∧ w.cell? ⟨g, 4, none⟩ = some e ∧ w.cell? ⟨g, 5, none⟩ = some f ∧ w.cell? ⟨g, 6, none⟩ = some p ∧ w.cell? ⟨g, 7, none⟩ = some q :=
  ⟨blk_cell h 0, blk_cell h 1, blk_cell h 2, blk_cell h 3, blk_cell h 4, blk_cell h 5, blk_cell h 6, blk_cell h 7⟩

/-! The loop's relation. -/
abbrev zBox (w : World) : World := w.alloc (.cells #[.int .u8 0, .int .u8 0, .string ⟨#[]⟩, .int .i64 0, .int .i64 0, .int .i64 0, .int .i64 0, .slice none 0 0] TN)
structure BInv (w wr : World) (l : List Ev) (i : Nat) (v : Value) (S : List Nd) : Prop where
  run : runB (l.drop i) S = runB l []
  small : Small i S
  nz : S = [] → i = 0
  own : OwnS wr (w.heap.size + 1) v S.reverse (fun _ => True)
  below : Below (w.heap.size + 1) (zBox w) wr
def BuildPost (w : World) (l : List Ev) (e : Ending) (w' : World) : Prop :=
  ∃ v, e = .returned (.tuple #[.agg #[.int .u8 (bld l).1.f0, .int .u8 (bld l).1.f1.f0, .string (bld l).1.f1.f1, .int .i64 (bld l).1.f1.f2.f0, .int .i64 (bld l).1.f1.f2.f1, .int .i64 (bld l).1.f1.f2.f2, .int .i64 (bld l).1.f1.f3, v], .int .i64 (bld l).2]) ∧ OwnS w' w.heap.size v (bld l).1.f2 (fun _ => True) ∧ Below w.heap.size w w'
theorem BInv.start (w : World) (l : List Ev) : BInv w (zBox w) l 0 (.slice none 0 0) [] := ⟨by rw [List.drop_zero], Small.nil, fun _ => rfl, ownS_nil _ _ _, Below.refl _ _⟩
theorem BInv.out {w wr : World} {l : List Ev} {i : Nat} {v : Value} {S : List Nd} (h : BInv w wr l i v S) : Below w.heap.size w wr := ((Below.refl w.heap.size w).alloc (Nat.le_refl _) _).trans (h.below.mono (Nat.le_succ _))
theorem BInv.box {w wr : World} {l : List Ev} {i : Nat} {v : Value} {S : List Nd} (h : BInv w wr l i v S) : wr.heap[w.heap.size]? = some (.cells zNd.toArray TN (0, 0)) := by
  refine (h.below.block w.heap.size (Nat.lt_succ_self _)).trans ?_
  show (w.heap.push _)[w.heap.size]? = _
  rw [Array.getElem?_push, if_pos rfl]
theorem box_later {w wr W : World} (h : wr.heap[w.heap.size]? = some (.cells zNd.toArray TN (0, 0))) (hb : Below wr.heap.size wr W) : W.heap[w.heap.size]? = some (.cells zNd.toArray TN (0, 0)) := (hb.block _ (blk_lt h)).trans h
/-- An error's end. -/
theorem BuildPost.err {w w5 : World} {l : List Ev} (hr : runB l [] = none) (hb : Below w.heap.size w w5) : BuildPost w l (.returned (.tuple #[.agg zNd.toArray, .int .i64 130])) w5 := by
  refine ⟨.slice none 0 0, ?_, ?_, hb⟩
  · rw [bld_none hr]; rfl
  · rw [bld_none hr]; exact ownS_nil _ _ _
theorem drop_cons {l : List Ev} {i : Nat} {e : Ev} (h : l[i]? = some e) : l.drop i = e :: l.drop (i + 1) := by
  have hl := (List.getElem?_eq_some_iff.1 h)
  rw [List.drop_eq_getElem_cons hl.1, hl.2]

theorem topsX_later {W w1 : World} {base g cap : Nat} {S : List Nd} {t : Nd} {u : Value} {F G1 G2 Gk : Nat → Prop} {cells kc : List Value} (H : TopsX W base g cap S t u F cells G1 G2 kc Gk) (hb : Below W.heap.size W w1) : TopsX w1 base g cap S t u F cells G1 G2 kc Gk :=
  ⟨row_move H.row (fun k hk => hb.block k (own_lt H.row k hk)), ownL_step H.rest (fun b _ hl => hb.block b hl.2.1), row_move H.krow (fun k hk => hb.block k (own_lt H.krow k hk)), ownL_step H.kids (fun b _ hl => hb.block b hl.2.1), H.own, H.sub, H.apart, H.n1, H.n2, H.fg, H.f1, H.f2⟩
theorem topsX_at {w : World} {base g cap : Nat} {S : List Nd} {t : Nd} {u : Value} {F G1 G2 Gk : Nat → Prop} {cells kc : List Value} (H : TopsX w base g cap S t u F cells G1 G2 kc Gk) (j : Nat) (v : Value) (hj : (ndCells t.f0 t.f1 u)[j]? = some v) : w.cell? ⟨g, S.length * 8 + j, none⟩ = some v ∧ w.frozen? ⟨g, S.length * 8 + j, none⟩ = false := top_at ⟨_, _, _, _, _, H⟩ j v hj

/-! The innermost node is taken off. -/
theorem row_cut {w : World} {base g n cap : Nat} {xs ys : List Value} (h : w.ownsRow base TN 8 (.slice (some ⟨g, 0, none⟩) (n + 1) cap) (n + 1) (xs ++ ys)) (hx : xs.length = n * 8) : w.ownsRow base TN 8 (.slice (some ⟨g, 0, none⟩) n cap) n xs := by
  rcases h.2 with ⟨he, _⟩ | ⟨g', cap', cur, he, hb, hh, hl, hm, hs, ht⟩
  · cases he
  · injection he with he _ hc
    injection he with he
    injection he with he
    subst he; subst hc
    refine ⟨hx, .inr ⟨g, cap, cur, rfl, hb, hh, by omega, hm, hs, ?_⟩⟩
    have hz := congrArg (List.take (n * 8)) ht
    rw [List.take_take, Nat.min_eq_left (by omega), List.take_left' hx] at hz
    exact hz
theorem popped {w : World} {base g cap : Nat} {S S2 : List Nd} {t u2 : Nd} {u : Value} {F G1 G2 Gk : Nat → Prop} {cells kc : List Value} (H : TopsX w base g cap S t u F cells G1 G2 kc Gk) (hS : S = S2 ++ [u2]) :
    ∃ (uu : Value) (cells' : List Value) (G1' G2' : Nat → Prop) (kc' : List Value) (Gk' : Nat → Prop), TopsX w base g cap S2 u2 uu (fun b => b = g ∨ G1 b) cells' G1' G2' kc' Gk' := by
  have hrow := row_cut H.row (ownL_len H.rest)
  subst hS
  have ho : OwnS w base (.slice (some ⟨g, 0, none⟩) (S2 ++ [u2]).length cap) (S2 ++ [u2]) (fun b => b = g ∨ G1 b) := by
    refine ⟨cells, G1, hrow, H.rest, fun b hb => ?_, fun b hb => .inr hb⟩
    have : g = b := by simpa [Value.ownBlock] using hb
    subst this
    exact ⟨.inl rfl, H.n1⟩
  obtain ⟨g', cap', uu, he, hx⟩ := tops_of ho
  injection he with he _ hc
  injection he with he
  injection he with he
  subst he; subst hc
  obtain ⟨c1, d1, d2, k1, e1, hX⟩ := hx.top
  exact ⟨uu, c1, d1, d2, k1, e1, hX⟩
theorem top_own {w : World} {base g cap : Nat} {S : List Nd} {t : Nd} {u : Value} {F G1 G2 Gk : Nat → Prop} {cells kc : List Value} (H : TopsX w base g cap S t u F cells G1 G2 kc Gk) : Own w base t (ndCells t.f0 t.f1 u) G2 := own_iff.2 ⟨u, rfl, kc, Gk, H.krow, H.kids, H.own, H.sub⟩
theorem top_ownS {w : World} {base g cap : Nat} {S : List Nd} {t : Nd} {u : Value} {F G1 G2 Gk : Nat → Prop} {cells kc : List Value} (H : TopsX w base g cap S t u F cells G1 G2 kc Gk) : OwnS w base u t.f2 G2 := ⟨kc, Gk, H.krow, H.kids, H.own, H.sub⟩
theorem ownS_upd {W w5 : World} {g base : Nat} {v : Value} {kids : List Nd} {F : Nat → Prop} (h : OwnS W base v kids F) (hu : Upd g W w5) (hg : g < base) : OwnS w5 base v kids F := ownS_step h (fun b _ hl => hu.far b (by have := hl.1; omega))
theorem topsX_cap {w : World} {base g cap : Nat} {S : List Nd} {t : Nd} {u : Value} {F G1 G2 Gk : Nat → Prop} {cells kc : List Value} (H : TopsX w base g cap S t u F cells G1 G2 kc Gk) : S.length + 1 ≤ cap := by
  rcases H.row.2 with ⟨he, _⟩ | ⟨g', cap', cur, he, hb, hh, hl, hm, hs, ht⟩
  · cases he
  · injection he with _ _ hc
    omega
/-- The tree's end. -/
theorem BuildPost.ok {w w5 : World} {l : List Ev} {t : Nd} {u : Value} (hr : runB l [] = some t) (ho : OwnS w5 (w.heap.size + 1) u t.f2 (fun _ => True)) (hb : Below w.heap.size w w5) : BuildPost w l (.returned (.tuple #[.agg #[.int .u8 t.f0, .int .u8 t.f1.f0, .string t.f1.f1, .int .i64 t.f1.f2.f0, .int .i64 t.f1.f2.f1, .int .i64 t.f1.f2.f2, .int .i64 t.f1.f3, u], .int .i64 0])) w5 := by
  refine ⟨u, ?_, ?_, hb⟩
  · rw [bld_some hr]
  · rw [bld_some hr]; exact ownS_lower (Nat.le_succ _) ho
end Go.Proofs.Ytfefldkljbbbpaa

/- Events: the closure that calls itself, and what is told. -/
set_option linter.unusedVariables false
set_option linter.unusedSimpArgs false
namespace Go.Proofs.Ytfefldkljbbbpaa
open Go.RowKit Go.Proofs.YtfefldkljbbbpaaW.PrintWords Go.Proofs.YtfefldkljbbbpaaW.PrintLast Go.Proofs.YtfefldkljbbbpaaW.PrintMore

abbrev TE : TypeId := 32
theorem infoEv : (Try.prog.info? 32).map (fun i => (i.zero, i.size, i.bytes)) = some (some (.agg #[(.int .u8 0), (.int .u8 0), (.int .u8 0), (.string ⟨#[]⟩), (.int .i64 0), (.int .i64 0), (.int .i64 0), (.int .i64 0)]), 8, 64) := by kernel_rfl
def evCells (e : Ev) : List Value := [.int .u8 e.f0, .int .u8 e.f1, .int .u8 e.f2.f0, .string e.f2.f1, .int .i64 e.f2.f2.f0, .int .i64 e.f2.f2.f1, .int .i64 e.f2.f2.f2, .int .i64 e.f2.f3]
theorem ev_M (w : World) (base : Nat) (e : Ev) : kEv.M w base (fun _ => False) e (evCells e) := PTreeSame.k32_mkM w base _ e

/-- The closure's state: what has been told so far; the box of 'out', the box of 'walk'. -/
structure Out (w0 w : World) (xs : List Ev) : Prop where
  out : ∃ v, w.heap[w0.heap.size + 1]? = some (.cells #[v] 22 (0, 0)) ∧ Kd.R kEv TE w (w0.heap.size + 3) (fun _ => True) v xs
  walk : w.heap[w0.heap.size + 2]? = some (.cells #[.func (.func 29) #[] #[.pointer (some ⟨w0.heap.size + 1, 0, none⟩), .pointer (some ⟨w0.heap.size + 2, 0, none⟩)]] 40 (0, 0))
  below : Below w0.heap.size w0 w
  size : w0.heap.size + 3 ≤ w.heap.size
theorem Out.keep {w0 w w' : World} {xs : List Ev} (h : Out w0 w xs) (hb : Below w.heap.size w w') : Out w0 w' xs := by
  obtain ⟨v, h1, h2⟩ := h.out
  have hs := h.size
  exact ⟨⟨v, (hb.block _ (by omega)).trans h1, Kd.R_below h2 hb⟩, (hb.block _ (by omega)).trans h.walk, h.below.trans (hb.mono (by omega)), Nat.le_trans hs hb.size⟩
/-- An event is told: the list has grown, and the box holds it. -/
theorem Out.told {w0 w w4 w5 : World} {xs : List Ev} {e : Ev} {v v1 : Value} (h : Out w0 w xs) (hr : Kd.R kEv TE w (w0.heap.size + 3) (fun _ => True) v xs) (h4 : Kd.R kEv TE w4 (w0.heap.size + 3) (fun _ => True) v1 (xs ++ [e])) (hg : w.grownBy w4 v.ownBlock) (h5 : w5.heap[w0.heap.size + 1]? = some (.cells [v1].toArray 22 (0, 0))) (hu : Upd (w0.heap.size + 1) w4 w5) : Out w0 w5 (xs ++ [e]) := by
  have hs := h.size
  have hvb : ∀ k, v.ownBlock = some k → w0.heap.size + 3 ≤ k := Kd.R_base hr
  have e2 := (hg.block (w0.heap.size + 2) (by omega) (fun he => by have := hvb _ he.symm; omega)).trans h.walk
  refine ⟨⟨v1, h5, ?_⟩, (hu.far _ (by omega)).trans e2, ?_, by rw [hu.size]; exact Nat.le_trans hs hg.size⟩
  · exact Kd.R_mono (Kd.R_step (ok := fun k => True ∧ w0.heap.size + 3 ≤ k) (Kd.R_mono (Kd.R_bound h4) (fun k hk => ⟨trivial, hk.2.1⟩)) (fun k hk _ => hu.far k (by have := hk.2; omega))) (fun _ _ => trivial)
  · exact hu.below (h.below.grown hg (by omega) (fun k hk => by have := hvb k hk; omega)) (by omega)
theorem told_far {w0 w w4 w5 : World} {xs : List Ev} {v : Value} {b : Nat} {C : Array Value} (hr : Kd.R kEv TE w (w0.heap.size + 3) (fun _ => True) v xs) (hg : w.grownBy w4 v.ownBlock) (hu : Upd (w0.heap.size + 1) w4 w5) (hb : w.heap[b]? = some (.cells C TN (0, 0))) (hne : b ≠ w0.heap.size + 1) : w5.heap[b]? = some (.cells C TN (0, 0)) := by
  refine (hu.far b hne).trans ((hg.block b (blk_lt hb) fun he => ?_).trans hb)
  obtain ⟨c2, h2⟩ := Kd.R_typed hr b he.symm
  rw [hb] at h2
  injection h2 with h2
  injection h2 with _ h2
  exact absurd h2 (by decide)
/-- Boxes of nodes stay. -/
def Keeps (w w' : World) : Prop := ∀ (b : Nat) (C : Array Value), w.heap[b]? = some (.cells C TN (0, 0)) → w'.heap[b]? = some (.cells C TN (0, 0))
theorem Keeps.of_below {w w' : World} (h : Below w.heap.size w w') : Keeps w w' := fun b C hb => (h.block b (blk_lt hb)).trans hb
theorem Keeps.trans {w w' w2 : World} (h : Keeps w w') (h2 : Keeps w' w2) : Keeps w w2 := fun b C hb => h2 b C (h b C hb)
theorem Out.ne {w0 w : World} {xs : List Ev} (h : Out w0 w xs) {b : Nat} {C : Array Value} (hb : w.heap[b]? = some (.cells C TN (0, 0))) : b ≠ w0.heap.size + 1 := by
  rintro rfl
  obtain ⟨v, hv, _⟩ := h.out
  rw [hb] at hv
  injection hv with hv
  injection hv with _ hv
  exact absurd hv (by decide)
theorem Keeps.told {w0 w w4 w5 : World} {xs : List Ev} {v : Value} (h : Out w0 w xs) (hr : Kd.R kEv TE w (w0.heap.size + 3) (fun _ => True) v xs) (hg : w.grownBy w4 v.ownBlock) (hu : Upd (w0.heap.size + 1) w4 w5) : Keeps w w5 := fun b C hb => told_far hr hg hu hb (h.ne hb)
theorem infoEvS : (Try.prog.info? 22).map (·.size) = some 1 := by kernel_rfl
end Go.Proofs.Ytfefldkljbbbpaa
