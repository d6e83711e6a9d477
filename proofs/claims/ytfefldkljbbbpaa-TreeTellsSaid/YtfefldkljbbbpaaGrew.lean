/- Rows that are handed on and grow: what a call leaves. Tokens of a tree. -/
import Derived.Test.YtfefldkljbbbpaaG6
set_option linter.unusedVariables false
set_option linter.unusedSimpArgs false
namespace Go.Proofs.Ytfefldkljbbbpaa
open Go.RowKit Go.Shelf Go.Proofs.YtfefldkljbbbpaaW.PrintWords Go.Proofs.YtfefldkljbbbpaaW.PrintLast Go.Proofs.YtfefldkljbbbpaaW.PrintMore

structure Grew {α : Type} (d : Kd α) (T B : Nat) (w w' : World) (v v' : Value) (ys : List α) : Prop where
  row : d.R T w' B (fun _ => True) v' ys
  grown : w.grownBy w' v.ownBlock
  at_ : v'.ownBlock = v.ownBlock ∨ ∃ b, v'.ownBlock = some b ∧ w.heap.size ≤ b
theorem grown_trans {w w1 w2 : World} {r r1 : Option Nat} (h : w.grownBy w1 r) (h1 : w1.grownBy w2 r1) (hr : r1 = r ∨ ∃ b, r1 = some b ∧ w.heap.size ≤ b) : w.grownBy w2 r :=
  ⟨h1.os.trans h.os, h1.tape.trans h.tape, h1.output.trans h.output, Nat.le_trans h.size h1.size, fun k hk hn => (h1.block k (Nat.lt_of_lt_of_le hk h.size) (by
    rcases hr with rfl | ⟨b, rfl, hb⟩
    · exact hn
    · intro e; cases e; omega)).trans (h.block k hk hn)⟩
theorem Grew.trans {α : Type} {d : Kd α} {T B : Nat} {w w1 w2 : World} {v v1 v2 : Value} {ys zs : List α} (h : Grew d T B w w1 v v1 ys) (h1 : Grew d T B w1 w2 v1 v2 zs) : Grew d T B w w2 v v2 zs := by
  refine ⟨h1.row, grown_trans h.grown h1.grown h.at_, ?_⟩
  rcases h1.at_ with e | ⟨b, e, hb⟩
  · rw [e]; exact h.at_
  · exact .inr ⟨b, e, Nat.le_trans h.grown.size hb⟩
/-- Ahead of it something was laid. -/
theorem Grew.ahead {α : Type} {d : Kd α} {T B : Nat} {w w0 w1 : World} {v v1 : Value} {ys : List α} (hb : Below w.heap.size w w0) (h : Grew d T B w0 w1 v v1 ys) : Grew d T B w w1 v v1 ys :=
  ⟨h.row, ⟨h.grown.os.trans hb.os, h.grown.tape.trans hb.tape, h.grown.output.trans hb.output, Nat.le_trans hb.size h.grown.size, fun k hk hn => (h.grown.block k (Nat.lt_of_lt_of_le hk hb.size) hn).trans (hb.block k hk)⟩, by
    rcases h.at_ with e | ⟨b, e, hb'⟩
    · exact .inl e
    · exact .inr ⟨b, e, Nat.le_trans hb.size hb'⟩⟩
theorem Grew.later {α : Type} {d : Kd α} {T B : Nat} {w w1 w2 : World} {v v1 : Value} {ys : List α} (h : Grew d T B w w1 v v1 ys) (hb : Below w1.heap.size w1 w2) : Grew d T B w w2 v v1 ys :=
  ⟨Kd.R_below h.row hb, ⟨hb.os.trans h.grown.os, hb.tape.trans h.grown.tape, hb.output.trans h.grown.output, Nat.le_trans h.grown.size hb.size, fun k hk hn => (hb.block k (Nat.lt_of_lt_of_le hk h.grown.size)).trans (h.grown.block k hk hn)⟩, h.at_⟩
theorem Grew.old {α : Type} {d : Kd α} {T B : Nat} {w0 w w1 : World} {v v1 : Value} {xs ys : List α} (h : Grew d T B w w1 v v1 ys) (hr : d.R T w B (fun _ => True) v xs) (hb : Below w0.heap.size w0 w) (hB : w0.heap.size ≤ B) : Below w0.heap.size w0 w1 :=
  hb.grown h.grown hb.size (fun k hk => Nat.le_trans hB (Kd.R_base hr k hk))
/-- A box of another type stays. -/
theorem Grew.box {α : Type} {d : Kd α} {T B b t : Nat} {w w1 : World} {v v1 : Value} {xs ys : List α} {C : Array Value} (h : Grew d T B w w1 v v1 ys) (hr : d.R T w B (fun _ => True) v xs) (hb : w.heap[b]? = some (.cells C t (0, 0))) (hne : T ≠ t) : w1.heap[b]? = some (.cells C t (0, 0)) := by
  refine (h.grown.block b (blk_lt hb) fun e => ?_).trans hb
  obtain ⟨c2, h2⟩ := Kd.R_typed hr b e.symm
  rw [hb] at h2
  injection h2 with h2
  injection h2 with _ h2
  exact hne h2.symm
mutual
def toks : Nd → List Tk
  | ⟨k, t, kids⟩ => if k = 0 then [t] else toksL kids
def toksL : List Nd → List Tk
  | [] => []
  | x :: xs => toks x ++ toksL xs
end
theorem toks_eq (x : Nd) : toks x = if x.f0 = 0 then [x.f1] else toksL x.f2 := by obtain ⟨k, t, kids⟩ := x; rw [toks]
theorem toksL_append : ∀ (a b : List Nd), toksL (a ++ b) = toksL a ++ toksL b
  | [], b => by rw [List.nil_append, toksL, List.nil_append]
  | x :: a, b => by rw [List.cons_append, toksL, toksL, toksL_append a b, List.append_assoc]
theorem take_toks {l : List Nd} {k : Nat} {x : Nd} (h : l[k]? = some x) : toksL (l.take (k + 1)) = toksL (l.take k) ++ toks x := by
  rw [List.take_add_one, h, toksL_append]
  simp [toksL]
mutual
theorem toks_len : ∀ (x : Nd), (toks x).length ≤ nds x
  | ⟨k, t, kids⟩ => by
    rw [toks, nds]
    have := toksL_len kids
    split
    · simp
    · omega
theorem toksL_len : ∀ (l : List Nd), (toksL l).length ≤ ndsL l
  | [] => by simp [toksL]
  | x :: l => by
    have := toks_len x
    have := toksL_len l
    rw [toksL, ndsL, List.length_append]; omega
end
theorem infoTk : (Try.prog.info? 30).map (fun i => (i.zero, i.size, i.bytes)) = some (some (.agg #[(.int .u8 0), (.string ⟨#[]⟩), (.int .i64 0), (.int .i64 0), (.int .i64 0), (.int .i64 0)]), 6, 56) := by kernel_rfl
def tkCells6 (t : Tk) : List Value := [.int .u8 t.f0, .string t.f1, .int .i64 t.f2.f0, .int .i64 t.f2.f1, .int .i64 t.f2.f2, .int .i64 t.f3]
theorem tk_M (w : World) (base : Nat) (t : Tk) : kTk.M w base (fun _ => False) t (tkCells6 t) := PTreeSame.k30_mkM w base _ t
end Go.Proofs.Ytfefldkljbbbpaa
