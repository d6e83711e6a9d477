/- Same: its leaves; the list that it collects. -/
import Derived.Test.YtfefldkljbbbpaaKids
import Derived.Test.YtfefldkljbbbpaaStp
import Derived.Test.YtfefldkljbbbpaaAdd
import Derived.Test.YtfefldkljbbbpaaRegIn
set_option linter.unusedVariables false
set_option linter.unusedSimpArgs false
namespace Go.Proofs.Ytfefldkljbbbpaa
open Go.RowKit Go.Shelf Go.Proofs.YtfefldkljbbbpaaW.PrintWords Go.Proofs.YtfefldkljbbbpaaW.PrintLast Go.Proofs.YtfefldkljbbbpaaW.PrintMore
attribute [local go_sem] Oper.semAt_some

def sameN : Nat → Nd → Nd → Bool
  | 0, _, _ => true
  | k + 1, x, y => if x.f0 = y.f0 then (if x.f0 = 0 then x.f1.f0 == y.f1.f0 && x.f1.f1.toList == y.f1.f1.toList
      else (plainL x.f2).length == (plainL y.f2).length && ((plainL x.f2).zip (plainL y.f2)).all fun p => sameN k p.1 p.2) else false

theorem results_cellB {fn : Func} (hr : fn.results = #[.cell 4 4]) (tmps : Array Value) (w : World) (B : Nat) (b : Bool) (hp : tmps.getD 4 undef = .pointer (some ⟨B, 0, none⟩)) (hc : w.cell? ⟨B, 0, none⟩ = some (.bool b)) :
    (results fn tmps).run Try.prog w = .ok (.bool b) w := by
  have hp' : tmps[4]?.getD undef = .pointer (some ⟨B, 0, none⟩) := by simpa using hp
  simp [results, hr, hp', asAddr, loadVar, go_sem, hc]

set_option maxRecDepth 100000 in
set_option maxHeartbeats 4000000 in
theorem same_leaf (w : World) (x y : Nd) (A B : Option Addr) (c d : Nat) (k : Nat) (h : x.f0 ≠ y.f0 ∨ x.f0 = 0) :
    Calls Try.prog 17 #[.agg #[.int .u8 x.f0, .int .u8 x.f1.f0, .string x.f1.f1, .int .i64 x.f1.f2.f0, .int .i64 x.f1.f2.f1, .int .i64 x.f1.f2.f2, .int .i64 x.f1.f3, .slice A x.f2.length c], .agg #[.int .u8 y.f0, .int .u8 y.f1.f0, .string y.f1.f1, .int .i64 y.f1.f2.f0, .int .i64 y.f1.f2.f1, .int .i64 y.f1.f2.f2, .int .i64 y.f1.f3, .slice B y.f2.length d]] w fun e w' => e = .returned (.bool (sameN (k + 1) x y)) ∧ Below w.heap.size w w' := by
  have H := Lib.hid h
  by_cases h0 : x.f0 = y.f0
  · have hx : x.f0 = 0 := by rcases h with h | h; exact absurd h0 h; exact h
    have dk : (x.f0 != y.f0) = false := by simp [h0]
    have hs : sameN (k + 1) x y = (x.f1.f0 == y.f1.f0 && x.f1.f1.toList == y.f1.f1.toList) := by rw [sameN, if_pos h0, if_pos hx]
    rw [hs]
    have hy : y.f0 = 0 := by rw [← h0]; exact hx
    rw [hx, hy]
    clear H h hs h0 hx hy dk
    by_cases h1 : x.f1.f0 = y.f1.f0
    · have d1 : (x.f1.f0 == y.f1.f0) = true := by simp [h1]
      rw [d1]
      go_enter Try.func17, Try.ntmps17
      go_wp2
      refine bodyPost_ret (results_cellB rfl _ _ (w.heap.size + 1 + 1) (x.f1.f1.toList == y.f1.f1.toList) rfl ?_) rfl ?_
      · go_simp
      · exact ⟨rfl, (((Below.refl _ w).alloc (Nat.le_refl _) _).alloc (by simp) _).alloc (by simp; omega) _⟩
    · have d1 : (x.f1.f0 == y.f1.f0) = false := by simp [h1]
      rw [d1]
      go_enter Try.func17, Try.ntmps17
      go_wp2
      refine bodyPost_ret (results_cellB rfl _ _ (w.heap.size + 1 + 1) false rfl ?_) rfl ?_
      · go_simp
      · exact ⟨rfl, (((Below.refl _ w).alloc (Nat.le_refl _) _).alloc (by simp) _).alloc (by simp; omega) _⟩
  · have dk : (x.f0 != y.f0) = true := by simp [h0]
    have hs : sameN (k + 1) x y = false := by rw [sameN, if_neg h0]
    rw [hs]
    clear H h hs h0
    go_enter Try.func17, Try.ntmps17
    go_wp2
    refine bodyPost_ret (results_cellB rfl _ _ (w.heap.size + 1 + 1) false rfl ?_) rfl ?_
    · go_simp
    · exact ⟨rfl, (((Below.refl _ w).alloc (Nat.le_refl _) _).alloc (by simp) _).alloc (by simp; omega) _⟩

/-- The cells of the kids that are collected. -/
def kvCells {w0 : World} {m : Nat} (ks : List (KV w0 m)) : List Value := ks.flatMap fun k => [.int .u8 k.x.f0, .int .u8 k.x.f1.f0, .string k.x.f1.f1, .int .i64 k.x.f1.f2.f0, .int .i64 k.x.f1.f2.f1, .int .i64 k.x.f1.f2.f2, .int .i64 k.x.f1.f3, .slice k.A k.x.f2.length k.c]
/-- The list under way: a box (block B) holds a slice that owns the kids' cells. -/
def Coll (w0 W0 : World) (m B : Nat) (ks : List (KV w0 m)) (W : World) : Prop :=
  W0.grownBy W (some B) ∧ ∃ u, Boxed W B 33 u ∧ W.ownsRow W0.heap.size TN 8 u ks.length (kvCells ks)

theorem coll_own {w0 W0 : World} {m B Bd : Nat} (hB : W0.heap.size ≤ Bd) : OwnFrom Bd (Coll w0 W0 m B) := by
  rintro s X Y row ⟨h1, u, hu, ho⟩ hg hr
  have hrow : ∀ r, row = some r → ∃ o : Obj, X.heap[r]? = some o ∧ o.isCells = false := fun r e => (hr r e).2
  refine ⟨⟨hg.os.trans h1.os, hg.tape.trans h1.tape, hg.output.trans h1.output, Nat.le_trans h1.size hg.size, fun k hk hne => ?_⟩, ?_⟩
  · rw [hg.block k (Nat.lt_of_lt_of_le hk h1.size) (fun e => by have := (hr k e.symm).1; omega), h1.block k hk hne]
  · obtain ⟨v, a, b, _⟩ := holdsRow_own W0.heap.size B 33 TN 8 (fun ks : List (KV w0 m) => ks.length) kvCells (fun _ _ => True) s X Y row ⟨u, hu, ho, trivial⟩ hg hrow
    exact ⟨v, a, b⟩

/-- From V to V': what is no cells lies as it lay (from W0 on), what lay below w0 too, and what lay below W0 but the box. -/
structure Rel3 (w0 W0 : World) (B : Nat) (V V' : World) : Prop where
  kf : KeepsFrom W0.heap.size V V'
  bl : Below w0.heap.size V V'
  lo : ∀ j, j < W0.heap.size → j ≠ B → V'.heap[j]? = V.heap[j]?
theorem Rel3.trans {w0 W0 : World} {B : Nat} {X Y Z : World} (h : Rel3 w0 W0 B X Y) (h' : Rel3 w0 W0 B Y Z) : Rel3 w0 W0 B X Z := ⟨h.kf.trans h'.kf, h.bl.trans h'.bl, fun j a b => (h'.lo j a b).trans (h.lo j a b)⟩
theorem rel3_row {w0 W0 : World} {B g : Nat} {V V' : World} (hz : w0.heap.size ≤ W0.heap.size) (hg : V.grownBy V' (some g)) (hge : W0.heap.size ≤ g) (hz' : W0.heap.size ≤ V.heap.size) (hc : ∀ o, V.heap[g]? = some o → o.isCells = true) : Rel3 w0 W0 B V V' :=
  ⟨(KeepsOthers.of_grownBy hg (fun j o e ho => by cases e; exact hc o ho)).from _, (Below.refl _ V).grown hg (Nat.le_trans hz hz') (fun j e => by cases e; omega), fun j hj _ => hg.block j (Nat.lt_of_lt_of_le hj hz') (fun e => by cases e; omega)⟩
theorem rel3_new {w0 W0 : World} {B : Nat} {V V' : World} (hz : w0.heap.size ≤ W0.heap.size) (hg : V.grownBy V' none) (hz' : W0.heap.size ≤ V.heap.size) : Rel3 w0 W0 B V V' :=
  ⟨(KeepsOthers.of_grownBy hg (fun j o e ho => nomatch e)).from _, (Below.refl _ V).grown hg (Nat.le_trans hz hz') (fun j e => nomatch e), fun j hj _ => hg.block j (Nat.lt_of_lt_of_le hj hz') (fun e => nomatch e)⟩
theorem rel3_box {w0 W0 : World} {B : Nat} {V : World} (v : Value) (h0 : w0.heap.size ≤ B) : Rel3 w0 W0 B V (V.setCell ⟨B, 0, none⟩ v) :=
  ⟨(KeepsOthers.setCell _ _ _).from _, (Below.refl _ V).setCell (p := ⟨B, 0, none⟩) h0 _, fun j _ hne => Below.heap_setCell V ⟨B, 0, none⟩ v j hne⟩

theorem kv_len {w0 : World} {m : Nat} (k : KV w0 m) : (ndCells k.x.f0 k.x.f1 (.slice k.A k.x.f2.length k.c)).length = 8 := rfl
theorem kvCells_snoc {w0 : World} {m : Nat} (pre : List (KV w0 m)) (k : KV w0 m) : kvCells (pre ++ [k]) = kvCells pre ++ ndCells k.x.f0 k.x.f1 (.slice k.A k.x.f2.length k.c) := by
  simp [kvCells, ndCells]

/-- What is behind a round in which one kid has been put to the list. -/
def Fin3 (w0 W0 : World) (m B : Nat) (W : World) (ks : List (KV w0 m)) (V : World) : Prop := KeepsFrom W0.heap.size W V ∧ Below w0.heap.size W V ∧ Coll w0 W0 m B ks V
theorem coll_push {w0 W0 W Wd w1 : World} {s3 g1 c1 c5 : Nat} {A5 : Option Addr} {m : Nat} {pre : List (KV w0 m)} {k : KV w0 m} (h3 : s3 < W0.heap.size) (h3' : w0.heap.size ≤ s3)
    (hrel : KeepsFrom W0.heap.size W Wd ∧ Below w0.heap.size W Wd) (hgd : W0.grownBy Wd (some s3)) (hbd : Boxed Wd s3 33 (.slice A5 pre.length c5)) (hod : Wd.ownsRow W0.heap.size TN 8 (.slice A5 pre.length c5) pre.length (kvCells pre))
    (hg : Wd.grownBy w1 (Value.slice A5 pre.length c5).ownBlock) (ho : w1.ownsRow W0.heap.size TN 8 (.slice (some ⟨g1, 0, none⟩) (pre.length + 1) c1) (pre.length + 1) (kvCells pre ++ zNd)) :
    (∃ cur, w1.heap[g1]? = some (.cells cur TN (0, 0)) ∧ pre.length * 8 + 8 ≤ cur.size) ∧
    (∃ cur, (w1.setCells s3 0 [.slice (some ⟨g1, 0, none⟩) (pre.length + 1) c1]).heap[g1]? = some (.cells cur TN (0, 0)) ∧ pre.length * 8 + 8 ≤ cur.size) ∧
    w1.heap[s3]? = some (.cells #[.slice A5 pre.length c5] 33 (0, 0)) ∧
    (w1.setCells g1 (pre.length * 8) (ndCells k.x.f0 k.x.f1 (.slice k.A k.x.f2.length k.c))).heap[s3]? = some (.cells #[.slice A5 pre.length c5] 33 (0, 0)) ∧
    Fin3 w0 W0 m s3 W (pre ++ [k]) ((w1.setCells g1 (pre.length * 8) (ndCells k.x.f0 k.x.f1 (.slice k.A k.x.f2.length k.c))).setCells s3 0 [.slice (some ⟨g1, 0, none⟩) (pre.length + 1) c1]) ∧
    Fin3 w0 W0 m s3 W (pre ++ [k]) ((w1.setCells s3 0 [.slice (some ⟨g1, 0, none⟩) (pre.length + 1) c1]).setCells g1 (pre.length * 8) (ndCells k.x.f0 k.x.f1 (.slice k.A k.x.f2.length k.c))) := by
  have hz : w0.heap.size ≤ W0.heap.size := by omega
  have hb1 : Boxed w1 s3 33 (.slice A5 pre.length c5) := hbd.kept hg (hbd.not_row (by decide) hod)
  have hkl : (kvCells pre).length = pre.length * 8 := hod.1
  have hge : W0.heap.size ≤ g1 := by
    rcases ho.2 with ⟨_, h⟩ | ⟨g, cap, cur, he, h, _⟩
    · omega
    · injection he with he _ _
      injection he with he
      injection he with he
      omega
  have hne : s3 ≠ g1 := by omega
  have r0 : Rel3 w0 W0 s3 Wd w1 := by
    rcases hod.2 with ⟨he, _⟩ | ⟨g, cap, cur, he, h, hh, _⟩
    · rw [he] at hg
      exact rel3_new hz hg hgd.size
    · rw [he] at hg
      exact rel3_row hz hg h hgd.size (fun o ho => by rw [hh] at ho; cases ho; rfl)
  have hs1 : W0.heap.size ≤ w1.heap.size := Nat.le_trans hgd.size hg.size
  obtain ⟨hoA, cur1, hh1, hf1⟩ := row_set_end ho (pre.length * 8) (ndCells k.x.f0 k.x.f1 (.slice k.A k.x.f2.length k.c)) hkl rfl
  have hoB : (w1.setCell ⟨s3, 0, none⟩ (.slice (some ⟨g1, 0, none⟩) (pre.length + 1) c1)).ownsRow W0.heap.size TN 8 (.slice (some ⟨g1, 0, none⟩) (pre.length + 1) c1) (pre.length + 1) (kvCells pre ++ zNd) :=
    ho.kept (grownBy_setCell' w1 s3 _) (.inr (fun e => hne (by simpa [Value.ownBlock] using e.symm)))
  obtain ⟨hoB', cur4, hh4, hf4⟩ := row_set_end hoB (pre.length * 8) (ndCells k.x.f0 k.x.f1 (.slice k.A k.x.f2.length k.c)) hkl rfl
  have hbA : Boxed (w1.setCells g1 (pre.length * 8) (ndCells k.x.f0 k.x.f1 (.slice k.A k.x.f2.length k.c))) s3 33 (.slice A5 pre.length c5) := hb1.kept (setCells_grown _ _ _ _) (fun e => hne (by simpa using e))
  have hsA : w1.heap.size ≤ (w1.setCells g1 (pre.length * 8) (ndCells k.x.f0 k.x.f1 (.slice k.A k.x.f2.length k.c))).heap.size := (setCells_grown _ _ _ _).size
  have fin : ∀ V, Rel3 w0 W0 s3 w1 V → Boxed V s3 33 (.slice (some ⟨g1, 0, none⟩) (pre.length + 1) c1) → V.ownsRow W0.heap.size TN 8 (.slice (some ⟨g1, 0, none⟩) (pre.length + 1) c1) (pre.length + 1) (kvCells pre ++ ndCells k.x.f0 k.x.f1 (.slice k.A k.x.f2.length k.c)) → Fin3 w0 W0 m s3 W (pre ++ [k]) V := by
    intro V hr hb ho
    have hR := r0.trans hr
    refine ⟨hrel.1.trans hR.kf, hrel.2.trans hR.bl, ⟨hR.bl.os.trans hgd.os, hR.bl.tape.trans hgd.tape, hR.bl.output.trans hgd.output, Nat.le_trans hgd.size hR.bl.size, fun j hj hne => (hR.lo j hj (fun e => hne (by rw [e]))).trans (hgd.block j hj hne)⟩, _, hb, ?_⟩
    rw [kvCells_snoc, List.length_append]
    exact ho
  refine ⟨⟨cur1, hh1, hf1⟩, ⟨cur4, hh4, hf4⟩, hb1, hbA, fin _ ?_ ?_ ?_, fin _ ?_ ?_ ?_⟩
  · exact (rel3_row hz (setCells_grown _ _ _ _) hge hs1 (fun o h => by rw [hh1] at h; cases h; rfl)).trans (rel3_box _ h3')
  · exact hbA.set _
  · exact hoA.kept (grownBy_setCell' _ s3 _) (.inr (fun e => hne (by simpa [Value.ownBlock] using e.symm)))
  · exact (rel3_box (B := s3) _ h3').trans (rel3_row hz (setCells_grown _ _ _ _) hge (Nat.le_trans hs1 (grownBy_setCell' w1 s3 _).size) (fun o h => by rw [hh4] at h; cases h; rfl))
  · exact (hb1.set _).kept (setCells_grown _ _ _ _) (fun e => hne (by simpa using e))
  · exact hoB'
end Go.Proofs.Ytfefldkljbbbpaa
