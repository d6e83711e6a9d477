/- What the claim stands on: part Jr. -/
import Derived.Test.YtmjbpgnjgblnmaaJq
import Derived.Laws.EntriesVeiled
set_option linter.unusedVariables false
set_option linter.unusedSimpArgs false
set_option maxRecDepth 100000
namespace Go.Proofs.Ytmjbpgnjgblnmaa.Tr
open Go.RowKit Go.Proofs.YtmjbpgnjgblnmaaW.PrintWords Go.Proofs.YtmjbpgnjgblnmaaW.PrintLast Go.Proofs.YtmjbpgnjgblnmaaW.PrintMore
theorem w64 {a : Int} (h0 : 0 ≤ a) (h1 : a ≤ 549755813888) : wrap64 a = a := by
 unfold wrap64
 omega
theorem rd_nd (l : List Nd) (i : Nat) (x : Nd) (h : l[i]? = some x) : PSyntaxWhole.rd_T51 l (i : Int) = x := by
 simp [PSyntaxWhole.rd_T51, List.getD, h]
mutual
def dep : Nd → Nat
 | ⟨k, _, kids⟩ => if k = 0 then 0 else depL kids + 1
def depL : List Nd → Nat
 | [] => 0
 | x :: xs => max (dep x) (depL xs)
end
theorem dep_eq (x : Nd) : dep x = if x.f0 = 0 then 0 else depL x.f2 + 1 := by obtain ⟨k, t, kids⟩ := x; rw [dep]
theorem depL_append : ∀ (a b : List Nd), depL (a ++ b) = max (depL a) (depL b)
 | [], b => by rw [List.nil_append, depL]; omega
 | x :: a, b => by rw [List.cons_append, depL, depL, depL_append a b]; omega
theorem depL_take (l : List Nd) (i : Nat) (x : Nd) (h : l[i]? = some x) : depL (l.take (i + 1)) = max (depL (l.take i)) (dep x) := by
 rw [List.take_add_one, h, depL_append]
 simp [depL]
mutual
theorem dep_le : ∀ x : Nd, dep x ≤ nds x
 | ⟨k, t, kids⟩ => by
  rw [dep, nds]
  have := depL_le kids
  split <;> omega
theorem depL_le : ∀ l : List Nd, depL l ≤ ndsL l
 | [] => by rw [depL]; omega
 | x :: xs => by
  rw [depL, ndsL]
  have := dep_le x
  have := depL_le xs
  omega
end
theorem mx_nat (a b : Nat) : mx (a : Int) (b : Int) = ((max a b : Nat) : Int) := by
 unfold mx
 split <;> omega
theorem leO_some {α : Type} {a b : Option α} (h : LeO a b) {r : α} (ha : a = some r) : b = some r := h r ha
theorem dep_mono {k k' : Nat} (h : k ≤ k') (x : Nd) {r : Int} (hr : PSyntaxWhole.tree_Depth.f k x.f0 x.f1.f0 x.f1.f1 x.f1.f2.f0 x.f1.f2.f1 x.f1.f2.f2 x.f1.f3 x.f2 = some r) : PSyntaxWhole.tree_Depth.f k' x.f0 x.f1.f0 x.f1.f1 x.f1.f2.f0 x.f1.f2.f1 x.f1.f2.f2 x.f1.f3 x.f2 = some r := by
 induction h with
 | refl => exact hr
 | step _ ih => exact leO_some (PSyntaxWhole.tree_Depth.mono _ _ _ _ _ _ _ _ _) ih
theorem depth_f : ∀ (N : Nat) (x : Nd), nds x ≤ N → nds x ≤ 274877906946 → ∃ k, PSyntaxWhole.tree_Depth.f k x.f0 x.f1.f0 x.f1.f1 x.f1.f2.f0 x.f1.f2.f1 x.f1.f2.f2 x.f1.f3 x.f2 = some (dep x : Int) := by
 intro N
 induction N with
 | zero => intro x h; have := nds_pos x; omega
 | succ N ih =>
  intro x hN hs
  by_cases hk : x.f0 = 0
  ·exact ⟨1, by rw [PSyntaxWhole.tree_Depth.f, if_pos hk, dep_eq, if_pos hk]; rfl⟩
  ·have hsz := nds_eq x
   have hll := ndsL_len x.f2
   have hK : ∃ K, ∀ y ∈ x.f2, PSyntaxWhole.tree_Depth.f K y.f0 y.f1.f0 y.f1.f1 y.f1.f2.f0 y.f1.f2.f1 y.f1.f2.f2 y.f1.f3 y.f2 = some (dep y : Int) := by
    have : ∀ l : List Nd, (∀ y ∈ l, nds y ≤ N ∧ nds y ≤ 274877906946) → ∃ K, ∀ y ∈ l, PSyntaxWhole.tree_Depth.f K y.f0 y.f1.f0 y.f1.f1 y.f1.f2.f0 y.f1.f2.f1 y.f1.f2.f2 y.f1.f3 y.f2 = some (dep y : Int) := by
     intro l
     induction l with
     | nil => exact fun _ => ⟨0, fun y h => by cases h⟩
     | cons z l ihl =>
      intro h
      obtain ⟨K1, h1⟩ := ihl fun y hy => h y (List.mem_cons_of_mem _ hy)
      obtain ⟨K2, h2⟩ := ih z (h z List.mem_cons_self).1 (h z List.mem_cons_self).2
      refine ⟨max K1 K2, fun y hy => ?_⟩
      rcases List.mem_cons.1 hy with rfl | hy
      ·exact dep_mono (Nat.le_max_right _ _) _ h2
      ·exact dep_mono (Nat.le_max_left _ _) _ (h1 y hy)
    exact this x.f2 fun y hy => by have := ndsL_mem hy; omega
   obtain ⟨K, hK⟩ := hK
   have hl : ∀ (d i : Nat), x.f2.length - i = d → i ≤ x.f2.length → PSyntaxWhole.tree_Depth.l0 (K + d + 1) (depL (x.f2.take i) : Nat) x.f2 (x.f2.length : Int) (i : Int) = some ((depL x.f2 + 1 : Nat) : Int) := by
    intro d
    have hdl := depL_le x.f2
    induction d with
    | zero =>
     intro i hd hi
     rw [PSyntaxWhole.tree_Depth.l0, if_neg (by omega), List.take_of_length_le (by omega), show ((depL x.f2 : Nat) : Int) + 1 = ((depL x.f2 + 1 : Nat) : Int) by push_cast; rfl, w64 (by omega) (by omega)]
    | succ d ihd =>
     intro i hd hi
     have hlt : i < x.f2.length := by omega
     have hg : x.f2[i]? = some x.f2[i] := List.getElem?_eq_getElem hlt
     rw [show K + (d + 1) + 1 = (K + d + 1) + 1 by omega, PSyntaxWhole.tree_Depth.l0, if_pos (by omega), if_pos (by omega), if_pos (by omega), rd_nd x.f2 i _ hg, dep_mono (k := K) (by omega) x.f2[i] (hK _ (List.getElem_mem _))]
     rw [Option.bind_some, mx_nat, ← depL_take x.f2 i _ hg, show ((i : Int) + 1) = ((i + 1 : Nat) : Int) by push_cast; rfl, w64 (by omega) (by omega)]
     exact ihd (i + 1) (by omega) (by omega)
   refine ⟨K + x.f2.length + 1 + 1, ?_⟩
   rw [PSyntaxWhole.tree_Depth.f, if_neg hk, dep_eq, if_neg hk]
   have := hl x.f2.length 0 (by omega) (by omega)
   rw [List.take_zero, depL] at this
   exact this
def canon (e : Ev) : Ev := if e.f0 = 2 ∨ e.f0 = 4 then ⟨e.f0, 0, e.f2⟩ else ⟨e.f0, e.f1, noTk⟩
def toldS : List Nd → List Ev
 | [] => []
 | t :: S => toldS S ++ (evOpen t.f0 :: tellsL t.f2)
theorem toldS_add (t x : Nd) (S : List Nd) : toldS (addKid t x :: S) = toldS (t :: S) ++ tells x := by
 simp [toldS, addKid, tellsL_append, tellsL_one]
theorem run_tells : ∀ (l : List Ev) (S : List Nd) (a : Nd), (∀ t ∈ S, t.f0 ≠ 0) → runB l S = some a → toldS S ++ l.map canon = tells a ∧ a.f0 ≠ 0 := by
 intro l
 induction l with
 | nil => intro S a _ h; simp [runB] at h
 | cons e l ih =>
  intro S a hS h
  unfold runB at h
  by_cases h1 : e.f0 = 1
  ·rw [if_pos h1] at h
   by_cases h2 : e.f1 = 0 ∨ S.length = 1000
   ·rw [if_pos h2] at h; cases h
   ·rw [if_neg h2] at h
    obtain ⟨h3, h4⟩ := ih _ a (fun t ht => by
     rcases List.mem_cons.1 ht with rfl | ht
     ·exact fun h0 => h2 (.inl h0)
     ·exact hS t ht) h
    refine ⟨?_, h4⟩
    rw [← h3]
    simp [toldS, tellsL, canon, h1, evOpen]
  ·rw [if_neg h1] at h
   by_cases h2 : e.f0 = 2 ∨ e.f0 = 4
   ·rw [if_pos h2] at h
    cases S with
    | nil => cases h
    | cons t S' =>
     dsimp only at h
     by_cases h3 : isNote e.f2 = (e.f0 == 4)
     ·rw [if_pos h3] at h
      obtain ⟨h5, h4⟩ := ih _ a (fun x hx => by
       rcases List.mem_cons.1 hx with rfl | hx
       ·exact hS t List.mem_cons_self
       ·exact hS x (List.mem_cons_of_mem _ hx)) h
      refine ⟨?_, h4⟩
      rw [← h5, toldS_add, tells_eq, if_pos rfl]
      have : canon e = evTok e.f2 := by
       unfold canon evTok
       rw [if_pos h2, h3]
       rcases h2 with h2 | h2 <;> rw [h2] <;> rfl
      simp [this]
     ·rw [if_neg h3] at h; cases h
   ·rw [if_neg h2] at h
    by_cases h3 : e.f0 = 3
    ·rw [if_pos h3] at h
     cases S with
     | nil => cases h
     | cons t S' =>
      dsimp only at h
      by_cases h5 : t.f0 = e.f1
      ·rw [if_pos h5] at h
       have hc : canon e = evClose t.f0 := by
        unfold canon
        rw [if_neg h2, h3, h5]
        rfl
       have ht : tells t = evOpen t.f0 :: (tellsL t.f2 ++ [evClose t.f0]) := by rw [tells_eq, if_neg (hS t List.mem_cons_self)]
       cases S' with
       | nil =>
        dsimp only at h
        by_cases h6 : l = []
        ·rw [if_pos h6] at h
         cases h
         subst h6
         exact ⟨by simp [toldS, hc, ht], hS _ List.mem_cons_self⟩
        ·rw [if_neg h6] at h; cases h
       | cons u S'' =>
        dsimp only at h
        obtain ⟨h7, h4⟩ := ih _ a (fun x hx => by
         rcases List.mem_cons.1 hx with rfl | hx
         ·exact hS u (List.mem_cons_of_mem _ List.mem_cons_self)
         ·exact hS x (List.mem_cons_of_mem _ (List.mem_cons_of_mem _ hx))) h
        refine ⟨?_, h4⟩
        rw [← h7, toldS_add, ht]
        simp [toldS, hc]
      ·rw [if_neg h5] at h; cases h
    ·rw [if_neg h3] at h; cases h
theorem bld_tells {l : List Ev} {a : Nd} (h : runB l [] = some a) : tells a = l.map canon ∧ a.f0 ≠ 0 := by
 obtain ⟨h1, h2⟩ := run_tells l [] a (by simp) h
 exact ⟨by rw [← h1]; rfl, h2⟩
mutual
def canonN : Nd → Nd
 | ⟨k, t, kids⟩ => if k = 0 then ⟨0, t, []⟩ else ⟨k, noTk, canonL kids⟩
def canonL : List Nd → List Nd
 | [] => []
 | x :: xs => canonN x :: canonL xs
end
theorem run_open (k : Int) (rest : List Ev) (S : List Nd) (hk : k ≠ 0) : runB (evOpen k :: rest) S = if S.length = 1000 then none else runB rest (⟨k, noTk, []⟩ :: S) := by
 conv => lhs; unfold runB
 simp [evOpen, hk]
theorem run_tok (t : Tk) (rest : List Ev) (u : Nd) (S : List Nd) : runB (evTok t :: rest) (u :: S) = runB rest (addKid u ⟨0, t, []⟩ :: S) := by
 conv => lhs; unfold runB
 cases h : isNote t <;> simp [evTok, h]
theorem run_close (k : Int) (rest : List Ev) (u v : Nd) (S : List Nd) (hk : u.f0 = k) : runB (evClose k :: rest) (u :: v :: S) = runB rest (addKid v u :: S) := by
 conv => lhs; unfold runB
 simp [evClose, hk]
theorem run_close0 (k : Int) (rest : List Ev) (u : Nd) (hk : u.f0 = k) : runB (evClose k :: rest) [u] = if rest = [] then some u else none := by
 unfold runB
 simp [evClose, hk]
mutual
theorem run_node : ∀ (n : Nd) (rest : List Ev) (S : List Nd), S.length ≤ 1000 → n.f0 ≠ 0 → runB (tells n ++ rest) S = if dep n + S.length ≤ 1000 then (match S with | [] => if rest = [] then some (canonN n) else none | u :: S' => runB rest (addKid u (canonN n) :: S')) else none
 | ⟨k, t, kids⟩, rest, S, hS, hk => by
  have hk' : k ≠ 0 := hk
  rw [tells_eq, if_neg hk, dep_eq, if_neg hk, canonN, if_neg hk']
  dsimp only
  rw [List.cons_append, List.append_assoc, run_open _ _ _ hk']
  by_cases h1 : S.length = 1000
  ·rw [if_pos h1, if_neg (by omega)]
  ·rw [if_neg h1, run_kids kids _ _ S (by omega)]
   by_cases h2 : depL kids + (S.length + 1) ≤ 1000
   ·rw [if_pos h2, if_pos (by omega), List.nil_append]
    cases S with
    | nil => exact run_close0 _ _ _ rfl
    | cons u S' => exact run_close _ _ _ _ _ rfl
   ·rw [if_neg h2, if_neg (by omega)]
theorem run_kids : ∀ (l : List Nd) (rest : List Ev) (u : Nd) (S : List Nd), S.length < 1000 → runB (tellsL l ++ rest) (u :: S) = if depL l + (S.length + 1) ≤ 1000 then runB rest (⟨u.f0, u.f1, u.f2 ++ canonL l⟩ :: S) else none
 | [], rest, u, S, hS => by
  rw [tellsL, depL, canonL, List.nil_append, List.append_nil, if_pos (by omega)]
  obtain ⟨a, b, c⟩ := u
  rfl
 | x :: xs, rest, u, S, hS => by
  rw [tellsL, depL, canonL, List.append_assoc]
  by_cases hx : x.f0 = 0
  ·have hd : dep x = 0 := by rw [dep_eq, if_pos hx]
   have hc : canonN x = ⟨0, x.f1, []⟩ := by obtain ⟨k, t, kids⟩ := x; rw [canonN, if_pos hx]
   rw [tells_eq, if_pos hx, List.singleton_append, run_tok, run_kids xs rest _ S hS, hd, hc]
   simp [addKid, List.append_assoc]
  ·rw [run_node x _ (u :: S) (by simp; omega) hx]
   dsimp only
   by_cases h1 : dep x + (u :: S).length ≤ 1000
   ·rw [if_pos h1, run_kids xs rest _ S hS]
    simp only [List.length_cons] at h1
    by_cases h2 : depL xs + (S.length + 1) ≤ 1000
    ·rw [if_pos h2, if_pos (by omega)]
     simp [addKid, List.append_assoc]
    ·rw [if_neg h2, if_neg (by omega)]
   ·simp only [List.length_cons] at h1
    rw [if_neg (by simpa using h1), if_neg (by omega)]
end
theorem run_nds : ∀ (l : List Ev) (S : List Nd) (a : Nd), runB l S = some a → nds a ≤ l.length + ndsL S
 | [], S, a, h => by simp [runB] at h
 | e :: l, S, a, h => by
  unfold runB at h
  rw [List.length_cons]
  split at h
  ·split at h
   ·cases h
   ·have := run_nds l _ a h
    simp only [ndsL, nds] at this
    omega
  ·split at h
   ·split at h
    ·cases h
    ·rename_i t S' 
     split at h
     ·have := run_nds l _ a h
      simp only [addKid, ndsL, nds, ndsL_append] at this
      rw [ndsL, nds_eq t]
      omega
     ·cases h
   ·split at h
    ·split at h
     ·cases h
     ·rename_i t S'
      split at h
      ·split at h
       ·split at h
        ·injection h with h
         subst h
         rw [ndsL]; omega
        ·cases h
       ·rename_i u S''
        have := run_nds l _ a h
        simp only [addKid, ndsL, nds, ndsL_append] at this
        rw [ndsL, ndsL, nds_eq u]
        omega
      ·cases h
    ·cases h
end Go.Proofs.Ytmjbpgnjgblnmaa.Tr
set_option maxRecDepth 100000
namespace Go.Proofs.Ytmjbpgnjgblnmaa.Tr
open Go.RowKit Go.Shelf Go.Proofs.YtmjbpgnjgblnmaaW.PrintWords Go.Proofs.YtmjbpgnjgblnmaaW.PrintLast Go.Proofs.YtmjbpgnjgblnmaaW.PrintMore
attribute [local go_sem] Oper.semAt_some
theorem nd_box {W : World} {b : Nat} {v0 v1 v2 v3 v4 v5 v6 v7 : Value} (h : W.heap[b]? = some (.cells #[v0, v1, v2, v3, v4, v5, v6, v7] TN (0, 0))) (V : World) (hV : Below W.heap.size W V) :
  V.cell? ⟨b, 0, none⟩ = some v0 ∧ V.cell? ⟨b, 1, none⟩ = some v1 ∧ V.cell? ⟨b, 2, none⟩ = some v2 ∧ V.cell? ⟨b, 3, none⟩ = some v3 ∧ V.cell? ⟨b, 4, none⟩ = some v4 ∧ V.cell? ⟨b, 5, none⟩ = some v5 ∧ V.cell? ⟨b, 6, none⟩ = some v6 ∧ V.cell? ⟨b, 7, none⟩ = some v7 :=
 ⟨pw_cell_below hV (cell_of_row _ _ _ _ _ _ h), pw_cell_below hV (cell_of_row _ _ _ _ _ _ h), pw_cell_below hV (cell_of_row _ _ _ _ _ _ h), pw_cell_below hV (cell_of_row _ _ _ _ _ _ h), pw_cell_below hV (cell_of_row _ _ _ _ _ _ h), pw_cell_below hV (cell_of_row _ _ _ _ _ _ h), pw_cell_below hV (cell_of_row _ _ _ _ _ _ h), pw_cell_below hV (cell_of_row _ _ _ _ _ _ h)⟩
theorem nd_new {W : World} {cs : Array Value} : ∃ V, W.alloc (.cells cs TN) = V ∧ V.heap[W.heap.size]? = some (.cells cs TN (0, 0)) ∧ Below W.heap.size W V ∧ V.heap.size = W.heap.size + 1 :=
 ⟨_, rfl, World.alloc_heap_new _ _, (Below.refl _ W).alloc (Nat.le_refl _) _, World.size_alloc _ _⟩
mutual
def toks : Nd → List Tk
 | ⟨k, t, kids⟩ => if k = 0 then [t] else toksL kids
def toksL : List Nd → List Tk
 | [] => []
 | x :: xs => toks x ++ toksL xs
end
theorem toks_eq (x : Nd) : toks x = if x.f0 = 0 then [x.f1] else toksL x.f2 := by obtain ⟨k, t, kids⟩ := x; rw [toks]
theorem toksL_append : ∀ (a b : List Nd), toksL (a ++ b) = toksL a ++ toksL b
 | [], b => by rw [List.nil_append, toksL, List.nil_append]
 | x :: a, b => by rw [List.cons_append, toksL, toksL, toksL_append a b, List.append_assoc]
theorem take_toks {l : List Nd} {k : Nat} {x : Nd} (h : l[k]? = some x) : toksL (l.take (k + 1)) = toksL (l.take k) ++ toks x := by
 rw [List.take_add_one, h, toksL_append]
 simp [toksL]
structure KpT (w0 W W' : World) : Prop where
 below : Below w0.heap.size W W'
 y : ∀ (b : Nat) (C : Array Value), W.heap[b]? = some (.cells C 30 (0, 0)) → W'.heap[b]? = some (.cells C 30 (0, 0))
 w : ∀ (b : Nat) (C : Array Value), W.heap[b]? = some (.cells C 58 (0, 0)) → W'.heap[b]? = some (.cells C 58 (0, 0))
theorem KpT.trans {w0 A B C : World} (h : KpT w0 A B) (h' : KpT w0 B C) : KpT w0 A C := ⟨h.below.trans h'.below, fun b D hb => h'.y b D (h.y b D hb), fun b D hb => h'.w b D (h.w b D hb)⟩
theorem KpT.refl (w0 A : World) : KpT w0 A A := ⟨Below.refl _ _, fun _ _ h => h, fun _ _ h => h⟩
theorem KpT.of_below {w0 A B : World} (h : Below A.heap.size A B) (hs : w0.heap.size ≤ A.heap.size) : KpT w0 A B := ⟨h.mono hs, fun b C hb => (h.block b (blk_lt hb)).trans hb, fun b C hb => (h.block b (blk_lt hb)).trans hb⟩
def tkV (t : Tk) : Value := .agg #[.int .u8 t.f0, .string t.f1, .int .i64 t.f2.f0, .int .i64 t.f2.f1, .int .i64 t.f2.f2, .int .i64 t.f3]
set_option maxRecDepth 100000 in
set_option maxHeartbeats 4000000 in
theorem walkT (n : Nat) (hn : 1 ≤ n) (w0 : World) (l M B : Nat) (J Jx : List Tk → World → Prop) (hJ : AbidesFrom B J)
  (hY : ∀ pre t W1, J pre W1 → pre.length < M → YieldAt Fence.wide (n - 1) Try.prog l #[tkV t] W1 fun e W' =>
   (e = .returned (.bool true) ∧ J (pre ++ [t]) W' ∧ KpT w0 W1 W') ∨ (e = .returned (.bool false) ∧ Jx (pre ++ [t]) W')) :
  ∀ (N : Nat) (x : Nd) (A : Option Addr) (c by_ bw : Nat) (W : World) (pre : List Tk), nds x ≤ N → nds x ≤ 274877906946 → x.f2.length ≤ c → Kd.C kNd w0 A x.f2.length x.f2 → Below w0.heap.size w0 W → J pre W → pre.length + (toks x).length ≤ M →
   W.heap[by_]? = some (.cells #[.func (.yield l) #[] #[]] 30 (0, 0)) → W.heap[bw]? = some (.cells #[.func (.func 44) #[] #[.pointer (some ⟨by_, 0, none⟩), .pointer (some ⟨bw, 0, none⟩)]] 58 (0, 0)) →
   CallsIn Fence.wide n Try.prog 44 #[.agg #[.int .u8 x.f0, .int .u8 x.f1.f0, .string x.f1.f1, .int .i64 x.f1.f2.f0, .int .i64 x.f1.f2.f1, .int .i64 x.f1.f2.f2, .int .i64 x.f1.f3, .slice A x.f2.length c], .pointer (some ⟨by_, 0, none⟩), .pointer (some ⟨bw, 0, none⟩)] W fun e W' =>
    (e = .returned (.bool true) ∧ J (pre ++ toks x) W' ∧ KpT w0 W W') ∨ (e = .returned (.bool false) ∧ ∃ q, q <+: toks x ∧ Jx (pre ++ q) W') := by
 intro N
 induction N with
 | zero => intro x A c by_ bw W pre hN; have := nds_pos x; omega
 | succ N ih =>
  intro x A c by_ bw W pre hN hbig hlc hC hbW hJ0 hM hby hbw
  have hlen : x.f2.length ≤ 274877906945 := by rw [nds_eq] at hbig; have := ndsL_len x.f2; omega
  have HJ := Lib.hid hJ
  have HY := Lib.hid hY
  have IH := Lib.hid ih
  have HC := Lib.hid hC
  have HLC := Lib.hid hlc
  have HNN := Lib.hid (And.intro hN hbig)
  have HM := Lib.hid hM
  obtain ⟨W1, hW1, h1, hb1, hz1⟩ := nd_new (W := W) (cs := #[.int .u8 x.f0, .int .u8 x.f1.f0, .string x.f1.f1, .int .i64 x.f1.f2.f0, .int .i64 x.f1.f2.f1, .int .i64 x.f1.f2.f2, .int .i64 x.f1.f3, .slice A x.f2.length c])
  have HBX := Lib.hid h1
  have HB1 := Lib.hid hb1
  have HJ1 : Hid (J pre W1) := Lib.hid (hJ pre W W1 none hJ0 (hW1 ▸ World.grownBy_alloc _ _ _) (fun r e => by cases e))
  have HBY := Lib.hid ((hb1.block _ (blk_lt hby)).trans hby)
  have HBW := Lib.hid ((hb1.block _ (blk_lt hbw)).trans hbw)
  have HB0 := Lib.hid (hbW.trans (hb1.mono hbW.size))
  have HS0 := Lib.hid hbW.size
  clear hJ hY ih hC hlc hN hbig hM h1 hb1 hz1 hJ0 hby hbw hbW
  refine callsIn_of_wp Try.func44 rfl trivial ?_ rfl
  simp only [Try.ntmps44, List.size_toArray, List.length_cons, List.length_nil, Nat.reduceAdd, Nat.reduceSub, Array.replicate_succ, Array.replicate_zero, List.push_toArray, List.append_toArray, List.nil_append, List.cons_append]
  by_cases h0 : x.f0 = 0
  ·have e0 : (x.f0 == 0) = true := by simp [h0]
   have HT : Hid (toks x = [x.f1]) := Lib.hid (by rw [toks_eq, if_pos h0])
   clear h0
   obtain ⟨fn, tmps, assign, body, hyr, hR⟩ := HY.out pre x.f1 W1 HJ1.out (by have := HM.out; rw [HT.out] at this; simp at this; omega)
   have HR := Lib.hid hR
   unfold tkV at hyr
   have cy := blk_cell HBY.out 0
   simp only [List.getElem?_toArray, List.getElem?_cons_zero] at cy
   obtain ⟨q0, q1, q2, q3, q4, q5, q6, q7⟩ := nd_box HBX.out W1 (Below.refl _ _)
   clear hR
   gi_wp2
   refine HR.out.mono ?_
   rintro e W3 (⟨rfl, hJ3, hk3⟩ | ⟨rfl, hJx3⟩)
   ·have HF := Lib.hid (And.intro hJ3 ((KpT.of_below HB1.out HS0.out).trans hk3))
    clear hJ3 hk3
    gi_wp2
    go_ret
    exact .inl ⟨rfl, by rw [HT.out]; exact HF.out.1, HF.out.2⟩
   ·gi_wp2
    go_ret
    exact .inr ⟨rfl, [x.f1], by rw [HT.out]; exact List.prefix_refl _, hJx3⟩
  ·have e0 : (x.f0 == 0) = false := beq_eq_false_iff_ne.2 h0
   have HT : Hid (toks x = toksL x.f2) := Lib.hid (by rw [toks_eq, if_neg h0])
   clear h0
   obtain ⟨q0, q1, q2, q3, q4, q5, q6, q7⟩ := nd_box HBX.out W1 (Below.refl _ _)
   gi_wp2
   gi_loopw [17] (fun iv wr => ∃ i : Nat, i ≤ x.f2.length ∧ iv = .int .i64 i ∧ Hid (J (pre ++ toksL (x.f2.take i)) wr ∧ KpT w0 W1 wr)) (fun iv _ => x.f2.length - (intOf iv).toNat)
   case atStart => exact ⟨0, by omega, rfl, Lib.hid ⟨by rw [List.take_zero, toksL, List.append_nil]; exact HJ1.out, KpT.refl _ _⟩⟩
   case round =>
    obtain ⟨i, hi, rfl, HL⟩ := hrel
    clear q0 q1 q2 q3 q4 q5 q6 q7
    by_cases hlt : i < x.f2.length
    ·obtain ⟨y, hy⟩ : ∃ y, x.f2[i]? = some y := ⟨x.f2[i], List.getElem?_eq_getElem hlt⟩
     obtain ⟨ad, A1, c1, rfl, hcs, hl1, hC1⟩ := kid_at HC.out i y hlt hy
     obtain ⟨k0, k1, k2, k3, k4, k5, k6, k7⟩ := hcs
     have hbw := HB0.out.trans HL.out.2.below
     replace k0 := pw_cell_below hbw k0
     replace k1 := pw_cell_below hbw k1
     replace k2 := pw_cell_below hbw k2
     replace k3 := pw_cell_below hbw k3
     replace k4 := pw_cell_below hbw k4
     replace k5 := pw_cell_below hbw k5
     replace k6 := pw_cell_below hbw k6
     replace k7 := pw_cell_below hbw k7
     obtain ⟨W5, hW5, h5, hb5, hz5⟩ := nd_new (W := wr) (cs := #[.int .u8 y.f0, .int .u8 y.f1.f0, .string y.f1.f1, .int .i64 y.f1.f2.f0, .int .i64 y.f1.f2.f1, .int .i64 y.f1.f2.f2, .int .i64 y.f1.f3, .slice A1 y.f2.length c1])
     have hk5 : KpT w0 W1 W5 := HL.out.2.trans (KpT.of_below hb5 (Nat.le_trans HB0.out.size (HL.out.2.below.size)))
     have hJ5 : J (pre ++ toksL (x.f2.take i)) W5 := HJ.out _ wr W5 none HL.out.1 (hW5 ▸ World.grownBy_alloc _ _ _) (fun r e => by cases e)
     have hby5 := hk5.y _ _ HBY.out
     have hbw5 := hk5.w _ _ HBW.out
     have hny : nds y ≤ ndsL x.f2 := ndsL_mem (List.mem_of_getElem? hy)
     have hpre : (pre ++ toksL (x.f2.take i)).length + (toks y).length ≤ M := by
      have h1 := HM.out
      rw [HT.out] at h1
      have h2 : (toksL (x.f2.take (i + 1))).length ≤ (toksL x.f2).length := by
       have h3 := toksL_append (x.f2.take (i + 1)) (x.f2.drop (i + 1))
       rw [List.take_append_drop] at h3
       rw [h3, List.length_append]; omega
      rw [take_toks hy, List.length_append] at h2
      rw [List.length_append]
      omega
     have HIH := Lib.hid (IH.out y A1 c1 by_ bw W5 (pre ++ toksL (x.f2.take i)) (by have := HNN.out.1; rw [nds_eq] at this; omega) (by have := HNN.out.2; rw [nds_eq] at this; omega) hl1 hC1 (HB0.out.trans hk5.below) hJ5 hpre hby5 hbw5)
     have HK5 := Lib.hid hk5
     have HTK := Lib.hid (take_toks hy)
     have HPX : Hid (toksL (x.f2.take i) ++ toks y <+: toks x) := Lib.hid (by
      rw [HT.out, ← take_toks hy]
      have h3 := toksL_append (x.f2.take (i + 1)) (x.f2.drop (i + 1))
      rw [List.take_append_drop] at h3
      rw [h3]; exact List.prefix_append _ _)
     have cw := blk_cell hbw5 0
     simp only [List.getElem?_toArray, List.getElem?_cons_zero] at cw
     obtain ⟨q0, q1, q2, q3, q4, q5, q6, q7⟩ := nd_box h5 W5 (Below.refl _ _)
     have g1 : (0 : Int) ≤ (i : Int) := by omega
     have g2 : (i : Int) < (x.f2.length : Int) := by omega
     clear hl1 hC1 hbw h5 hb5 hz5 hk5 hJ5 hby5 hbw5 hny hpre hy HL
     gi_wp2
     refine ⟨trivial, ?_⟩
     refine (callsIn_wide.2 (callsIn_wide.1 HIH.out)).mono ?_
     rintro e W6 (⟨rfl, hJ6, hk6⟩ | ⟨rfl, q, hq, hjx⟩)
     ·have HF := Lib.hid (And.intro hJ6 (HK5.out.trans hk6))
      clear hJ6 hk6 q0 q1 q2 q3 q4 q5 q6 q7 cw
      gi_wp2
      refine ⟨⟨i + 1, by omega, by push_cast; rfl, Lib.hid ⟨by rw [HTK.out, ← List.append_assoc]; exact HF.out.1, HF.out.2⟩⟩, by simp only [intOf]; omega⟩
     ·have HF := Lib.hid (And.intro hq hjx)
      clear hq hjx q0 q1 q2 q3 q4 q5 q6 q7 cw
      gi_wp2
      go_ret
      refine .inr ⟨rfl, toksL (x.f2.take i) ++ q, ?_, by rw [← List.append_assoc]; exact HF.out.2⟩
      obtain ⟨r, hr⟩ := HF.out.1
      exact List.IsPrefix.trans ⟨r, by rw [List.append_assoc, hr]⟩ HPX.out
    ·obtain rfl : i = x.f2.length := by omega
     have hf := HL.out
     rw [List.take_length] at hf
     have HF := Lib.hid hf
     clear hf HL
     gi_wp2
     go_ret
     exact .inl ⟨rfl, by rw [HT.out]; exact HF.out.1, (KpT.of_below HB1.out HS0.out).trans HF.out.2⟩
set_option maxRecDepth 100000 in
set_option maxHeartbeats 4000000 in
theorem toks_stops (n : Nat) (hn : 1 ≤ n) (w0 : World) (x : Nd) (A : Option Addr) (c : Nat) (hlc : x.f2.length ≤ c) (hbig : nds x ≤ 274877906946) (hC : Kd.C kNd w0 A x.f2.length x.f2) (w : World) (hb : Below w0.heap.size w0 w) (Bn : Nat) (hBn : w.heap[Bn]? = some (.cells #[.int .u8 x.f0, .int .u8 x.f1.f0, .string x.f1.f1, .int .i64 x.f1.f2.f0, .int .i64 x.f1.f2.f1, .int .i64 x.f1.f2.f2, .int .i64 x.f1.f3, .slice A x.f2.length c] TN (0, 0))) :
  SeqStopsK Fence.wide n Try.prog 43 #[.pointer (some ⟨Bn, 0, none⟩)] (fun t : Tk => #[tkV t]) (KpT w0) (fun ys => ys = toks x) (fun pre => pre <+: toks x) (toks x).length w := by
 intro l J Jx W hW hJ hJx hY h0
 have hBnW := (hW.block Bn (blk_lt hBn)).trans hBn
 obtain ⟨W2, hW2⟩ : ∃ V, ((W.alloc (.cells #[.func (.yield l) #[] #[]] 30)).alloc (.cells #[.func (.func 44) #[] #[.pointer (some ⟨W.heap.size, 0, none⟩), .pointer (some ⟨W.heap.size + 1, 0, none⟩)]] 58)) = V := ⟨_, rfl⟩
 have hb2 : Below W.heap.size W W2 := by rw [← hW2]; exact ((Below.refl _ W).alloc (Nat.le_refl _) _).alloc (by simp) _
 have hy2 : W2.heap[W.heap.size]? = some (.cells #[.func (.yield l) #[] #[]] 30 (0, 0)) := by rw [← hW2]; exact (Below.heap_alloc _ _ _ (by simp)).trans (World.alloc_heap_new W _)
 have hw2 : W2.heap[W.heap.size + 1]? = some (.cells #[.func (.func 44) #[] #[.pointer (some ⟨W.heap.size, 0, none⟩), .pointer (some ⟨W.heap.size + 1, 0, none⟩)]] 58 (0, 0)) := by
  rw [← hW2]
  have := World.alloc_heap_new (W.alloc (.cells #[.func (.yield l) #[] #[]] 30)) (.cells #[.func (.func 44) #[] #[.pointer (some ⟨W.heap.size, 0, none⟩), .pointer (some ⟨W.heap.size + 1, 0, none⟩)]] 58)
  rwa [World.size_alloc] at this
 have hJ2 : J [] W2 := hJ [] W W2 none h0 (hW2 ▸ World.grownBy.trans (World.grownBy_alloc _ _ _) (World.grownBy_alloc _ _ _)) (fun r e => by cases e)
 have HWK := Lib.hid (walkT n hn w0 l (toks x).length W.heap.size J Jx hJ hY (nds x) x A c W.heap.size (W.heap.size + 1) W2 [] (Nat.le_refl _) hbig hlc hC (hb.trans ((hW.trans (hb2.mono hW.size)).mono hb.size)) hJ2 (by simp) hy2 hw2)
 obtain ⟨q0, q1, q2, q3, q4, q5, q6, q7⟩ := nd_box hBnW W2 hb2
 have HW2 := Lib.hid hW2
 have cw := blk_cell hw2 0
 simp only [List.getElem?_toArray, List.getElem?_cons_zero] at cw
 clear hJ hJx hY h0 hb2 hy2 hw2 hJ2 hBnW hW hC hBn
 refine callsIn_of_wp Try.func43 rfl trivial ?_ rfl
 simp only [Try.ntmps43, List.size_toArray, List.length_cons, List.length_nil, Nat.reduceAdd, Nat.reduceSub, Array.replicate_succ, Array.replicate_zero, List.push_toArray, List.append_toArray, List.nil_append, List.cons_append]
 gi_wp2
 refine ⟨trivial, ?_⟩
 refine (callsIn_wide.2 (callsIn_wide.1 HWK.out)).mono ?_
 rintro e W6 (⟨rfl, hJ6, -⟩ | ⟨rfl, q, hq, hjx⟩)
 ·have HF := Lib.hid hJ6
  clear hJ6 q0 q1 q2 q3 q4 q5 q6 q7 cw
  gi_wp2
  go_end0
  exact ⟨⟨_, rfl⟩, .inl ⟨toks x, rfl, by simpa using HF.out⟩⟩
 ·have HF := Lib.hid (And.intro hq hjx)
  clear hq hjx q0 q1 q2 q3 q4 q5 q6 q7 cw
  gi_wp2
  go_end0
  exact ⟨⟨_, rfl⟩, .inr ⟨q, HF.out.1, by simpa using HF.out.2⟩⟩
theorem toks_in (n : Nat) (x : Nd) (A : Option Addr) (len c : Nat) (w : World) :
  CallsIn Fence.wide n Try.prog 18 #[.agg #[.int .u8 x.f0, .int .u8 x.f1.f0, .string x.f1.f1, .int .i64 x.f1.f2.f0, .int .i64 x.f1.f2.f1, .int .i64 x.f1.f2.f2, .int .i64 x.f1.f3, .slice A len c]] w fun e w' => e = .returned (.func (.func 43) #[] #[.pointer (some ⟨w.heap.size, 0, none⟩)]) ∧ w' = w.alloc (.cells #[.int .u8 x.f0, .int .u8 x.f1.f0, .string x.f1.f1, .int .i64 x.f1.f2.f0, .int .i64 x.f1.f2.f1, .int .i64 x.f1.f2.f2, .int .i64 x.f1.f3, .slice A len c] TN) := by
 refine callsIn_wide.2 ?_
 go_enter Try.func18, Try.ntmps18
 go_wp2
 go_ret
 exact ⟨rfl, rfl⟩
end Go.Proofs.Ytmjbpgnjgblnmaa.Tr
set_option maxRecDepth 100000
namespace Go.Proofs.Ytmjbpgnjgblnmaa.Tr
open Go.RowKit Go.Shelf Go.Proofs.YtmjbpgnjgblnmaaW.PrintWords Go.Proofs.YtmjbpgnjgblnmaaW.PrintLast Go.Proofs.YtmjbpgnjgblnmaaW.PrintMore
theorem str_eq (a b : ByteArray) : a.toList = b.toList ↔ a = b := by
 rw [ByteArray.toList_eq, ByteArray.toList_eq]
 exact ⟨fun h => ByteArray.ext (Array.toList_inj.1 h), fun h => by rw [h]⟩
theorem KpT.setBox {w0 W : World} {b : Nat} {u : Value} (v : Value) (h : Boxed W b 3 u) (hb : w0.heap.size ≤ b) : KpT w0 W (W.setCell ⟨b, 0, none⟩ v) := by
 have hg := grownBy_setCell' W b v
 refine ⟨(Below.refl _ W).setCell (p := ⟨b, 0, none⟩) hb v, fun b' D hD => ?_, fun b' D hD => ?_⟩
 ·refine (hg.block b' (blk_lt hD) (fun e => ?_)).trans hD
  cases e
  rw [show W.heap[b]? = _ from h] at hD
  cases hD
 ·refine (hg.block b' (blk_lt hD) (fun e => ?_)).trans hD
  cases e
  rw [show W.heap[b]? = _ from h] at hD
  cases hD
theorem KpT.drew (w0 W : World) : KpT w0 W W.drew := ⟨(Below.refl _ W).drew, fun _ _ h => h, fun _ _ h => h⟩
theorem KpT.alloc {w0 W : World} (h : w0.heap.size ≤ W.heap.size) (o : Obj) : KpT w0 W (W.alloc o) := KpT.of_below ((Below.refl _ W).alloc (Nat.le_refl _) o) h
theorem KpT.putObj {w0 W : World} {l : Nat} {o : Obj} (o' : Obj) (hl : w0.heap.size ≤ l) (h : W.heap[l]? = some o) (hc : o.isCells = false) : KpT w0 W (W.putObj l o') := by
 have hg := grownBy_putObj' W l o'
 refine ⟨(Below.refl _ W).grown hg (Nat.le_trans hl (Nat.le_of_lt (blk_lt h))) (fun k e => by cases e; exact hl), fun b' D hD => ?_, fun b' D hD => ?_⟩
 ·refine (hg.block b' (blk_lt hD) (fun e => ?_)).trans hD
  cases e
  rw [h] at hD
  cases hD
  cases hc
 ·refine (hg.block b' (blk_lt hD) (fun e => ?_)).trans hD
  cases e
  rw [h] at hD
  cases hD
  cases hc
theorem kpt_own {β : Type} {w0 V : World} {B : Nat} (hB : w0.heap.size ≤ B) (hV : w0.heap.size ≤ V.heap.size) : OwnFrom B (fun (_ : β) W => KpT w0 V W) := by
 intro _ X Y row hs hg hr
 refine ⟨hs.below.grown hg (Nat.le_trans hV hs.below.size) (fun k e => Nat.le_trans hB (hr k e).1), fun b D hD => ?_, fun b D hD => ?_⟩
 ·have hX := hs.y b D hD
  refine (hg.block b (blk_lt hX) (fun e => ?_)).trans hX
  obtain ⟨_, o, ho, hc⟩ := hr b e.symm
  rw [hX] at ho; cases ho; cases hc
 ·have hX := hs.w b D hD
  refine (hg.block b (blk_lt hX) (fun e => ?_)).trans hX
  obtain ⟨_, o, ho, hc⟩ := hr b e.symm
  rw [hX] at ho; cases ho; cases hc
structure LI (w0 V : World) (B b : Nat) (L pre : List Tk) (W : World) : Prop where
 kp : KpT w0 V W
 keeps : KeepsFrom B V W
 box : Boxed W b 3 (.int .i64 (pre.length : Nat))
 pre : pre <+: L
theorem LI.own {w0 V : World} {B b B' : Nat} {L : List Tk} (h1 : w0.heap.size ≤ V.heap.size) (h2 : V.heap.size ≤ B') : OwnFrom B' (LI w0 V B b L) := by
 intro pre X Y row hs hg hr
 exact ⟨kpt_own (β := Unit) (Nat.le_trans h1 h2) h1 () X Y row hs.kp hg hr, ownFrom_keepsFrom (β := Unit) h2 () X Y row hs.keeps hg hr, Own.from (boxed_own (β := Unit) b _ (fun _ => .int .i64 (pre.length : Nat))) _ () X Y row hs.box hg hr, hs.pre⟩
theorem LI.alloc {w0 V W : World} {B b : Nat} {L pre : List Tk} (h : LI w0 V B b L pre W) (h1 : w0.heap.size ≤ V.heap.size) (o : Obj) : LI w0 V B b L pre (W.alloc o) :=
 ⟨h.kp.trans (KpT.alloc (Nat.le_trans h1 h.kp.below.size) o), h.keeps.trans ((KeepsOthers.alloc _ _).from _), h.box.alloc _, h.pre⟩
theorem LI.next {w0 V W : World} {B b : Nat} {L pre : List Tk} {t : Tk} (h : LI w0 V B b L pre W) (hb : w0.heap.size ≤ b) (hp : pre ++ [t] <+: L) : LI w0 V B b L (pre ++ [t]) (W.setCell ⟨b, 0, none⟩ (.int .i64 ((pre.length : Int) + 1))) :=
 ⟨h.kp.trans (KpT.setBox _ h.box hb), h.keeps.trans ((KeepsOthers.setCell _ _ _).from _), by
  have hl : (((pre ++ [t]).length : Nat) : Int) = (pre.length : Int) + 1 := by simp
  rw [hl]
  exact h.box.set _, hp⟩
theorem LI.drew {w0 V W : World} {B b : Nat} {L pre : List Tk} (h : LI w0 V B b L pre W) : LI w0 V B b L pre W.drew :=
 ⟨h.kp.trans (KpT.drew _ _), h.keeps.trans ((KeepsOthers.drew _).from _), h.box, h.pre⟩
theorem tok_pre {L pre : List Tk} {t u : Tk} (hp : pre <+: L) (hu : L[pre.length]? = some u) : pre ++ [t] <+: L ↔ t = u := by
 obtain ⟨r, rfl⟩ := hp
 have hr : r[0]? = some u := by simpa [List.getElem?_append_right] using hu
 cases r with
 | nil => cases hr
 | cons a r =>
  simp only [List.getElem?_cons_zero, Option.some.injEq] at hr
  subst hr
  constructor
  ·rintro ⟨s, hs⟩
   rw [List.append_assoc] at hs
   have := List.append_cancel_left hs
   simp at this
   exact this.1
  ·rintro rfl
   exact ⟨r, by simp⟩
theorem tok_at {w : World} {A : Option Addr} {n : Nat} {l : List Tk} (h : Kd.C kTk w A n l) (i : Nat) (x : Tk) (hi : i < n) (hx : l[i]? = some x) : ∃ ad, A = some ad ∧ w.cell? (ad.add (i * 6)) = some (.int .u8 x.f0) ∧ w.cell? ⟨(ad.add (i * 6)).block, (ad.add (i * 6)).off + 1, none⟩ = some (.string x.f1) ∧ w.cell? ⟨(ad.add (i * 6)).block, (ad.add (i * 6)).off + 2, none⟩ = some (.int .i64 x.f2.f0) ∧ w.cell? ⟨(ad.add (i * 6)).block, (ad.add (i * 6)).off + 3, none⟩ = some (.int .i64 x.f2.f1) ∧ w.cell? ⟨(ad.add (i * 6)).block, (ad.add (i * 6)).off + 4, none⟩ = some (.int .i64 x.f2.f2) ∧ w.cell? ⟨(ad.add (i * 6)).block, (ad.add (i * 6)).off + 5, none⟩ = some (.int .i64 x.f3) := by
 obtain ⟨ad, h0, k0, k1, k2, k3, k4, k5⟩ := PSyntaxWhole.at_T35 h (i : Int) (by omega) (by omega)
 have hr : PSyntaxWhole.rd_T35 l (i : Int) = x := by simp [PSyntaxWhole.rd_T35, List.getD, hx]
 rw [hr] at k0 k1 k2 k3 k4 k5
 rw [Int.toNat_natCast] at k0 k1 k2 k3 k4 k5
 exact ⟨ad, h0, k0, k1, k2, k3, k4, k5⟩
theorem tk_neq {t u : Tk} {b : Bool} (hb : b = false ↔ t = u) (w : World) : (if t.f0 = u.f0 then if t.f1.toList = u.f1.toList then if t.f2.f0 = u.f2.f0 then if t.f2.f1 = u.f2.f1 then if t.f2.f2 = u.f2.f2 then if t.f3 = u.f3 then Result.ok (Next.value (Value.bool false)) w
       else Result.ok (Next.value (Value.bool true)) w
      else Result.ok (Next.value (Value.bool true)) w
     else Result.ok (Next.value (Value.bool true)) w
    else Result.ok (Next.value (Value.bool true)) w
   else Result.ok (Next.value (Value.bool true)) w
  else Result.ok (Next.value (Value.bool true)) w) = Result.ok (Next.value (Value.bool b)) w := by
 cases b with
 | false =>
  have h := hb.1 rfl
  subst h
  simp
 | true =>
  have h : ¬ t = u := fun h => by have := hb.2 h; cases this
  obtain ⟨t0, t1, ⟨t2, t3, t4⟩, t5⟩ := t
  obtain ⟨u0, u1, ⟨u2, u3, u4⟩, u5⟩ := u
  simp only
  repeat' split
  all_goals first | rfl | skip
  rename_i a1 a2 a3 a4 a5 a6
  exact absurd (by rw [a1, (str_eq _ _).1 a2, a3, a4, a5, a6]) h
end Go.Proofs.Ytmjbpgnjgblnmaa.Tr
