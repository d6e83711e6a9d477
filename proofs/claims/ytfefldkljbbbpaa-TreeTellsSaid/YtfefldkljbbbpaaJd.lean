/- What the claim stands on: part Jd. -/
import Derived.Test.YtfefldkljbbbpaaJc
import Derived.Test.YtfefldkljbbbpaaJb
set_option linter.unusedVariables false
set_option linter.unusedSimpArgs false
namespace Go.Proofs.Ytfefldkljbbbpaa
open Go.RowKit Go.Proofs.YtfefldkljbbbpaaW.PrintWords Go.Proofs.YtfefldkljbbbpaaW.PrintLast Go.Proofs.YtfefldkljbbbpaaW.PrintMore
theorem str_eq (a b : ByteArray) : a.toList = b.toList ↔ a = b := by
  rw [ByteArray.toList_eq, ByteArray.toList_eq]
  exact ⟨fun h => ByteArray.ext (Array.toList_inj.1 h), fun h => by rw [h]⟩
theorem w64 {a : Int} (h0 : 0 ≤ a) (h1 : a ≤ 2147483648) : wrap64 a = a := by
  unfold wrap64
  omega
/-- Two events alike, as the walk tells it. -/
def evNe (a b : Ev) : Bool := (!(a.f0 == b.f0) || (!(a.f1 == b.f1) || ((!(a.f2.f0 == b.f2.f0) || (!(a.f2.f1.toList == b.f2.f1.toList) || ((!(a.f2.f2.f0 == b.f2.f2.f0) || (!(a.f2.f2.f1 == b.f2.f2.f1) || (!(a.f2.f2.f2 == b.f2.f2.f2)))) || (!(a.f2.f3 == b.f2.f3))))))))
theorem evNe_iff (a b : Ev) : evNe a b = false ↔ a = b := by
  obtain ⟨a0, a1, a2, a3, ⟨a4, a5, a6⟩, a7⟩ := a
  obtain ⟨b0, b1, b2, b3, ⟨b4, b5, b6⟩, b7⟩ := b
  simp only [evNe, Bool.or_eq_false_iff, Bool.not_eq_false', beq_iff_eq, str_eq]
  constructor
  · rintro ⟨rfl, rfl, ⟨rfl, rfl, ⟨rfl, rfl, rfl⟩, rfl⟩⟩
    rfl
  · intro h
    simp only [PTreeSame.S32.mk.injEq, PTreeSame.S30.mk.injEq, PTreeSame.S28.mk.injEq] at h
    obtain ⟨h0, h1, h2, h3, ⟨h4, h5, h6⟩, h7⟩ := h
    exact ⟨h0, h1, ⟨h2, h3, ⟨h4, h5, h6⟩, h7⟩⟩
theorem rd_ev (l : List Ev) (i : Nat) (x : Ev) (h : l[i]? = some x) : PTreeSame.rd_T32 l (i : Int) = x := by
  simp [PTreeSame.rd_T32, List.getD, h]
theorem rd_nd (l : List Nd) (i : Nat) (x : Nd) (h : l[i]? = some x) : PTreeSame.rd_T35 l (i : Int) = x := by
  simp [PTreeSame.rd_T35, List.getD, h]
theorem same_l0 (l m : List Ev) (hl : l.length = m.length) (hs : l.length ≤ 2147483647) : ∀ (d i : Nat), l.length - i = d → i ≤ l.length → ∃ r, PTreeSame.colophonlaw13_same.l0 (d + 1) l m (i : Int) = some r ∧ (r = true ↔ l.drop i = m.drop i) := by
  intro d
  induction d with
  | zero =>
    intro i hd hi
    refine ⟨true, ?_, ?_⟩
    · rw [PTreeSame.colophonlaw13_same.l0, if_neg (by omega)]
    · rw [List.drop_of_length_le (by omega), List.drop_of_length_le (by omega)]
      exact ⟨fun _ => rfl, fun _ => rfl⟩
  | succ d ih =>
    intro i hd hi
    have hlt : i < l.length := by omega
    have hlt' : i < m.length := by omega
    rw [PTreeSame.colophonlaw13_same.l0, if_pos (by omega), if_pos (by omega), if_pos (by omega), rd_ev l i _ (List.getElem?_eq_getElem hlt), rd_ev m i _ (List.getElem?_eq_getElem hlt')]
    rw [show ((i : Int) + 1) = ((i + 1 : Nat) : Int) by push_cast; rfl, w64 (by omega) (by omega)]
    rw [List.drop_eq_getElem_cons hlt, List.drop_eq_getElem_cons hlt', List.cons_eq_cons]
    cases hb : evNe l[i] m[i] with
    | true =>
      have hb' := hb
      unfold evNe at hb'
      rw [if_pos hb']
      refine ⟨false, rfl, ⟨fun h => (by cases h), fun h => ?_⟩⟩
      rw [(evNe_iff _ _).2 h.1] at hb
      cases hb
    | false =>
      have hb' := hb
      unfold evNe at hb'
      rw [if_neg (by rw [hb']; decide)]
      obtain ⟨r, h1, h2⟩ := ih (i + 1) (by omega) (by omega)
      exact ⟨r, h1, h2.trans ⟨fun h => ⟨(evNe_iff _ _).1 hb, h⟩, fun h => h.2⟩⟩
theorem same_f (l m : List Ev) (hs : l.length ≤ 2147483647) : ∃ k r, PTreeSame.colophonlaw13_same.f k l m = some r ∧ (r = true ↔ l = m) := by
  by_cases h : l.length = m.length
  · obtain ⟨r, h1, h2⟩ := same_l0 l m h hs l.length 0 (by omega) (by omega)
    refine ⟨l.length + 1, r, ?_, by simpa using h2⟩
    unfold PTreeSame.colophonlaw13_same.f
    rw [if_pos (by omega)]
    exact h1
  · refine ⟨0, false, ?_, ⟨fun h => (by cases h), fun e => absurd (congrArg List.length e) h⟩⟩
    unfold PTreeSame.colophonlaw13_same.f
    rw [if_neg (by omega)]
mutual
def dep : Nd → Nat
  | ⟨k, _, kids⟩ => if k = 0 then 0 else depL kids + 1
def depL : List Nd → Nat
  | [] => 0
  | x :: xs => max (dep x) (depL xs)
end
theorem dep_eq (x : Nd) : dep x = if x.f0 = 0 then 0 else depL x.f2 + 1 := by obtain ⟨k, t, kids⟩ := x; rw [dep]
theorem depL_append : ∀ (a b : List Nd), depL (a ++ b) = max (depL a) (depL b)
  | [], b => by rw [List.nil_append, depL]; omega
  | x :: a, b => by rw [List.cons_append, depL, depL, depL_append a b]; omega
theorem depL_take (l : List Nd) (i : Nat) (x : Nd) (h : l[i]? = some x) : depL (l.take (i + 1)) = max (depL (l.take i)) (dep x) := by
  rw [List.take_add_one, h, depL_append]
  simp [depL]
mutual
theorem dep_le : ∀ x : Nd, dep x ≤ nds x
  | ⟨k, t, kids⟩ => by
    rw [dep, nds]
    have := depL_le kids
    split <;> omega
theorem depL_le : ∀ l : List Nd, depL l ≤ ndsL l
  | [] => by rw [depL]; omega
  | x :: xs => by
    rw [depL, ndsL]
    have := dep_le x
    have := depL_le xs
    omega
end
theorem mx_nat (a b : Nat) : mx (a : Int) (b : Int) = ((max a b : Nat) : Int) := by
  unfold mx
  split <;> omega
theorem leO_some {α : Type} {a b : Option α} (h : LeO a b) {r : α} (ha : a = some r) : b = some r := h r ha
theorem dep_mono {k k' : Nat} (h : k ≤ k') (x : Nd) {r : Int} (hr : PTreeSame.tree_Depth.f k x.f0 x.f1.f0 x.f1.f1 x.f1.f2.f0 x.f1.f2.f1 x.f1.f2.f2 x.f1.f3 x.f2 = some r) : PTreeSame.tree_Depth.f k' x.f0 x.f1.f0 x.f1.f1 x.f1.f2.f0 x.f1.f2.f1 x.f1.f2.f2 x.f1.f3 x.f2 = some r := by
  induction h with
  | refl => exact hr
  | step _ ih => exact leO_some (PTreeSame.tree_Depth.mono _ _ _ _ _ _ _ _ _) ih
theorem depth_f : ∀ (N : Nat) (x : Nd), nds x ≤ N → nds x ≤ 1073741824 → ∃ k, PTreeSame.tree_Depth.f k x.f0 x.f1.f0 x.f1.f1 x.f1.f2.f0 x.f1.f2.f1 x.f1.f2.f2 x.f1.f3 x.f2 = some (dep x : Int) := by
  intro N
  induction N with
  | zero => intro x h; have := nds_pos x; omega
  | succ N ih =>
    intro x hN hs
    by_cases hk : x.f0 = 0
    · exact ⟨1, by rw [PTreeSame.tree_Depth.f, if_pos hk, dep_eq, if_pos hk]; rfl⟩
    · have hsz := nds_eq x
      have hll := ndsL_len x.f2
      -- one number of steps for all kids
      have hK : ∃ K, ∀ y ∈ x.f2, PTreeSame.tree_Depth.f K y.f0 y.f1.f0 y.f1.f1 y.f1.f2.f0 y.f1.f2.f1 y.f1.f2.f2 y.f1.f3 y.f2 = some (dep y : Int) := by
        have : ∀ l : List Nd, (∀ y ∈ l, nds y ≤ N ∧ nds y ≤ 1073741824) → ∃ K, ∀ y ∈ l, PTreeSame.tree_Depth.f K y.f0 y.f1.f0 y.f1.f1 y.f1.f2.f0 y.f1.f2.f1 y.f1.f2.f2 y.f1.f3 y.f2 = some (dep y : Int) := by
          intro l
          induction l with
          | nil => exact fun _ => ⟨0, fun y h => by cases h⟩
          | cons z l ihl =>
            intro h
            obtain ⟨K1, h1⟩ := ihl fun y hy => h y (List.mem_cons_of_mem _ hy)
            obtain ⟨K2, h2⟩ := ih z (h z List.mem_cons_self).1 (h z List.mem_cons_self).2
            refine ⟨max K1 K2, fun y hy => ?_⟩
            rcases List.mem_cons.1 hy with rfl | hy
            · exact dep_mono (Nat.le_max_right _ _) _ h2
            · exact dep_mono (Nat.le_max_left _ _) _ (h1 y hy)
        exact this x.f2 fun y hy => by have := ndsL_mem hy; omega
      obtain ⟨K, hK⟩ := hK
      have hl : ∀ (d i : Nat), x.f2.length - i = d → i ≤ x.f2.length → PTreeSame.tree_Depth.l0 (K + d + 1) (depL (x.f2.take i) : Nat) x.f2 (x.f2.length : Int) (i : Int) = some ((depL x.f2 + 1 : Nat) : Int) := by
        intro d
        have hdl := depL_le x.f2
        induction d with
        | zero =>
          intro i hd hi
          rw [PTreeSame.tree_Depth.l0, if_neg (by omega), List.take_of_length_le (by omega), show ((depL x.f2 : Nat) : Int) + 1 = ((depL x.f2 + 1 : Nat) : Int) by push_cast; rfl, w64 (by omega) (by omega)]
        | succ d ihd =>
          intro i hd hi
          have hlt : i < x.f2.length := by omega
          have hg : x.f2[i]? = some x.f2[i] := List.getElem?_eq_getElem hlt
          rw [show K + (d + 1) + 1 = (K + d + 1) + 1 by omega, PTreeSame.tree_Depth.l0, if_pos (by omega), if_pos (by omega), if_pos (by omega), rd_nd x.f2 i _ hg, dep_mono (k := K) (by omega) x.f2[i] (hK _ (List.getElem_mem _))]
          rw [Option.bind_some, mx_nat, ← depL_take x.f2 i _ hg, show ((i : Int) + 1) = ((i + 1 : Nat) : Int) by push_cast; rfl, w64 (by omega) (by omega)]
          exact ihd (i + 1) (by omega) (by omega)
      refine ⟨K + x.f2.length + 1 + 1, ?_⟩
      rw [PTreeSame.tree_Depth.f, if_neg hk, dep_eq, if_neg hk]
      have := hl x.f2.length 0 (by omega) (by omega)
      rw [List.take_zero, depL] at this
      exact this
abbrev wF (k : Nat) (x : Nd) (n deep : Int) : Option Int := PTreeSame.colophonlaw13_weight.f k x.f0 x.f1.f0 x.f1.f1 x.f1.f2.f0 x.f1.f2.f1 x.f1.f2.f2 x.f1.f3 x.f2 n deep
theorem weight_mono {k k' : Nat} (h : k ≤ k') (x : Nd) {n deep r : Int} (hr : wF k x n deep = some r) : wF k' x n deep = some r := by
  induction h with
  | refl => exact hr
  | step _ ih => exact leO_some (PTreeSame.colophonlaw13_weight.mono _ _ _ _ _ _ _ _ _ _ _) ih
def WOk (k : Nat) (x : Nd) : Prop := ∀ n deep : Int, 0 ≤ n → n ≤ 16777216 → 0 ≤ deep → deep ≤ 3001 → ∃ r, wF k x n deep = some r ∧ n + 1 ≤ r ∧ r ≤ 16777217 ∧ (r ≤ 16777216 → r = n + (nds x : Int))
theorem wOk_mono {k k' : Nat} (h : k ≤ k') {x : Nd} (hx : WOk k x) : WOk k' x := fun n deep h1 h2 h3 h4 => by
  obtain ⟨r, a, b⟩ := hx n deep h1 h2 h3 h4
  exact ⟨r, weight_mono h x a, b⟩
theorem wOk_all {N : Nat} (ih : ∀ x : Nd, nds x ≤ N → ∃ K, WOk K x) : ∀ l : List Nd, (∀ y ∈ l, nds y ≤ N) → ∃ K, ∀ y ∈ l, WOk K y
  | [], _ => ⟨0, fun y h => by cases h⟩
  | z :: l, h => by
    obtain ⟨K1, h1⟩ := wOk_all ih l fun y hy => h y (List.mem_cons_of_mem _ hy)
    obtain ⟨K2, h2⟩ := ih z (h z List.mem_cons_self)
    refine ⟨max K1 K2, fun y hy => ?_⟩
    rcases List.mem_cons.1 hy with rfl | hy
    · exact wOk_mono (Nat.le_max_right _ _) h2
    · exact wOk_mono (Nat.le_max_left _ _) (h1 y hy)
theorem weight_l0 (x : Nd) (K : Nat) (hK : ∀ y ∈ x.f2, WOk K y) (deep : Int) (h3 : 0 ≤ deep) (h4 : deep ≤ 3000) : ∀ (d i : Nat) (n : Int), x.f2.length - i = d → i ≤ x.f2.length → (i : Int) ≤ n → n ≤ 16777217 →
    ∃ r, PTreeSame.colophonlaw13_weight.l0 (K + d + 1) n deep (i : Int) x.f0 x.f1.f0 x.f1.f1 x.f1.f2.f0 x.f1.f2.f1 x.f1.f2.f2 x.f1.f3 x.f2 = some r ∧ n ≤ r ∧ r ≤ 16777217 ∧ (r ≤ 16777216 → r = n + (ndsL (x.f2.drop i) : Int)) := by
  intro d
  induction d with
  | zero =>
    intro i n hd hi hn hm
    refine ⟨n, ?_, Int.le_refl _, hm, fun _ => ?_⟩
    · rw [PTreeSame.colophonlaw13_weight.l0, if_neg (by omega)]
    · rw [List.drop_of_length_le (by omega), ndsL]
      omega
  | succ d ihd =>
    intro i n hd hi hn hm
    have hlt : i < x.f2.length := by omega
    have hg : x.f2[i]? = some x.f2[i] := List.getElem?_eq_getElem hlt
    rw [show K + (d + 1) + 1 = (K + d + 1) + 1 by omega, PTreeSame.colophonlaw13_weight.l0, if_pos (by omega)]
    by_cases hb : n ≤ 16777216
    · obtain ⟨t, ht, h5, h6, h7⟩ := hK x.f2[i] (List.getElem_mem _) n (deep + 1) (by omega) hb (by omega) (by omega)
      have ht' := weight_mono (k' := K + d + 1) (by omega) _ ht
      unfold wF at ht'
      rw [if_pos hb, if_pos (by omega), rd_nd x.f2 i _ hg, w64 (a := deep + 1) (by omega) (by omega), ht', Option.bind_some, show ((i : Int) + 1) = ((i + 1 : Nat) : Int) by push_cast; rfl, w64 (by omega) (by omega)]
      obtain ⟨r, h8, h9, h10, h11⟩ := ihd (i + 1) t (by omega) (by omega) (by push_cast; omega) h6
      refine ⟨r, h8, by omega, h10, fun hr => ?_⟩
      rw [List.drop_eq_getElem_cons hlt, ndsL]
      have := h11 hr
      have := h7 (by omega)
      push_cast
      omega
    · rw [if_neg hb]
      exact ⟨n, rfl, Int.le_refl _, hm, fun h => absurd h hb⟩
theorem weight_f : ∀ (N : Nat) (x : Nd), nds x ≤ N → ∃ K, WOk K x := by
  intro N
  induction N with
  | zero => intro x h; have := nds_pos x; omega
  | succ N ih =>
    intro x hN
    have hsz := nds_eq x
    obtain ⟨K, hK⟩ := wOk_all ih x.f2 fun y hy => by have := ndsL_mem hy; omega
    refine ⟨K + x.f2.length + 1 + 1, fun n deep h1 h2 h3 h4 => ?_⟩
    unfold wF
    rw [PTreeSame.colophonlaw13_weight.f]
    by_cases hd : deep > 3000
    · rw [if_pos hd]
      exact ⟨16777217, rfl, by omega, by omega, fun h => absurd h (by decide)⟩
    · rw [if_neg hd, w64 (by omega) (by omega)]
      obtain ⟨r, h5, h6, h7, h8⟩ := weight_l0 x K hK deep h3 (by omega) x.f2.length 0 (n + 1) (by omega) (by omega) (by omega) (by omega)
      refine ⟨r, h5, h6, h7, fun hr => ?_⟩
      have := h8 hr
      rw [List.drop_zero] at this
      rw [hsz]
      push_cast
      omega
/-- A tree is counted: the number, and that there are no more nodes if it is small. -/
theorem weight_all (x : Nd) : ∃ k r, wF k x 0 0 = some r ∧ (r ≤ 16777216 → nds x ≤ 16777216) := by
  obtain ⟨K, hK⟩ := weight_f (nds x) x (Nat.le_refl _)
  obtain ⟨r, h1, h2, h3, h4⟩ := hK 0 0 (by omega) (by omega) (by omega) (by omega)
  exact ⟨K, r, h1, fun hr => by have := h4 hr; omega⟩
end Go.Proofs.Ytfefldkljbbbpaa
set_option linter.unusedVariables false
set_option linter.unusedSimpArgs false
namespace Go.Proofs.Ytfefldkljbbbpaa
open Go.RowKit Go.Proofs.YtfefldkljbbbpaaW.PrintWords Go.Proofs.YtfefldkljbbbpaaW.PrintLast Go.Proofs.YtfefldkljbbbpaaW.PrintMore
end Go.Proofs.Ytfefldkljbbbpaa
set_option linter.unusedVariables false
set_option linter.unusedSimpArgs false
namespace Go.Proofs.Ytfefldkljbbbpaa
open Go.RowKit Go.Proofs.YtfefldkljbbbpaaW.PrintWords Go.Proofs.YtfefldkljbbbpaaW.PrintLast Go.Proofs.YtfefldkljbbbpaaW.PrintMore
end Go.Proofs.Ytfefldkljbbbpaa
set_option linter.unusedVariables false
set_option linter.unusedSimpArgs false
namespace Go.Proofs.Ytfefldkljbbbpaa
open Go.RowKit Go.Proofs.YtfefldkljbbbpaaW.PrintWords Go.Proofs.YtfefldkljbbbpaaW.PrintLast Go.Proofs.YtfefldkljbbbpaaW.PrintMore
end Go.Proofs.Ytfefldkljbbbpaa
set_option linter.unusedVariables false
set_option linter.unusedSimpArgs false
namespace Go.Proofs.Ytfefldkljbbbpaa
open Go.RowKit Go.Shelf Go.Proofs.YtfefldkljbbbpaaW.PrintWords Go.Proofs.YtfefldkljbbbpaaW.PrintLast Go.Proofs.YtfefldkljbbbpaaW.PrintMore
theorem nd_box {W : World} {b : Nat} {v0 v1 v2 v3 v4 v5 v6 v7 : Value} (h : W.heap[b]? = some (.cells #[v0, v1, v2, v3, v4, v5, v6, v7] TN (0, 0))) (V : World) (hV : Below W.heap.size W V) :
    V.cell? ⟨b, 0, none⟩ = some v0 ∧ V.cell? ⟨b, 1, none⟩ = some v1 ∧ V.cell? ⟨b, 2, none⟩ = some v2 ∧ V.cell? ⟨b, 3, none⟩ = some v3 ∧ V.cell? ⟨b, 4, none⟩ = some v4 ∧ V.cell? ⟨b, 5, none⟩ = some v5 ∧ V.cell? ⟨b, 6, none⟩ = some v6 ∧ V.cell? ⟨b, 7, none⟩ = some v7 :=
  ⟨pw_cell_below hV (cell_of_row _ _ _ _ _ _ h), pw_cell_below hV (cell_of_row _ _ _ _ _ _ h), pw_cell_below hV (cell_of_row _ _ _ _ _ _ h), pw_cell_below hV (cell_of_row _ _ _ _ _ _ h), pw_cell_below hV (cell_of_row _ _ _ _ _ _ h), pw_cell_below hV (cell_of_row _ _ _ _ _ _ h), pw_cell_below hV (cell_of_row _ _ _ _ _ _ h), pw_cell_below hV (cell_of_row _ _ _ _ _ _ h)⟩
theorem nd_new {W : World} {cs : Array Value} : ∃ V, W.alloc (.cells cs TN) = V ∧ V.heap[W.heap.size]? = some (.cells cs TN (0, 0)) ∧ Below W.heap.size W V ∧ V.heap.size = W.heap.size + 1 :=
  ⟨_, rfl, World.alloc_heap_new _ _, (Below.refl _ W).alloc (Nat.le_refl _) _, World.size_alloc _ _⟩
end Go.Proofs.Ytfefldkljbbbpaa
set_option linter.unusedVariables false
set_option linter.unusedSimpArgs false
namespace Go.Proofs.Ytfefldkljbbbpaa
open Go.RowKit Go.Shelf Go.Proofs.YtfefldkljbbbpaaW.PrintWords Go.Proofs.YtfefldkljbbbpaaW.PrintLast Go.Proofs.YtfefldkljbbbpaaW.PrintMore
theorem ev_at : ∀ (xs : List Ev) (i : Nat) (x : Ev), xs[i]? = some x → ∀ (j : Nat) (v : Value), (evCells x)[j]? = some v → (xs.flatMap evCells)[i * 8 + j]? = some v
  | [], i, k, h, _, _, _ => by simp at h
  | y :: ys, i, k, h, j, v, hj => by
    have hlt : j < 8 := (List.getElem?_eq_some_iff.1 hj).1
    have h8 : (evCells y).length = 8 := rfl
    rw [List.flatMap_cons]
    cases i with
    | zero =>
      simp at h
      subst h
      rw [List.getElem?_append_left (by omega), Nat.zero_mul, Nat.zero_add]
      exact hj
    | succ i =>
      rw [List.getElem?_append_right (by omega), h8, show (i + 1) * 8 + j - 8 = i * 8 + j by omega]
      exact ev_at ys i k (by simpa using h) j v hj
/-- Events that lie in a block can be read. -/
theorem ev_row {w : World} {b : Nat} {xs : List Ev} {cells : Array Value} {T : TypeId} (hh : w.heap[b]? = some (.cells cells T (0, 0))) (he : cells.toList = xs.flatMap evCells) (hl : xs.length ≤ 1073741824) : Kd.C kEv w (some ⟨b, 0, none⟩) xs.length xs := by
  refine ⟨rfl, by omega, fun _ => ⟨⟨b, 0, none⟩, rfl, fun j p hp => ⟨evCells p, rfl, PTreeSame.k32_mk w p, fun i u hu => ?_⟩⟩⟩
  show w.cell? ((⟨b, 0, none⟩ : Addr).add (j * 8 + i)) = some u
  rw [show (⟨b, 0, none⟩ : Addr).add (j * 8 + i) = ⟨b, j * 8 + i, none⟩ by simp [Addr.add]; omega]
  refine (cell_of_row _ _ _ _ _ _ hh).trans ?_
  rw [← Array.getElem?_toList, he]
  exact ev_at xs j p hp i u hu
def skipT : Tk := ⟨2, ⟨#[115, 107, 105, 112]⟩, ⟨0, 0, 0⟩, 0⟩
def skipL : List Ev := [⟨1, 13, noTk⟩, ⟨2, 0, skipT⟩, ⟨3, 13, noTk⟩]
def skipN : Nd := ⟨13, noTk, [⟨0, skipT, []⟩]⟩
theorem skip_bld : bld skipL = (skipN, 0) := bld_some (by simp [runB, skipL, skipT, isNote, addKid, skipN, noTk])
theorem skip_bld2 : bld (skipL.take 2) = (noNd, 130) := bld_none (by simp [runB, skipL, skipT, isNote, addKid, skipN, noTk])
theorem skip_tells : tells skipN = skipL := by simp [skipN, tells_eq, tellsL, evTok, isNote, skipT, evOpen, evClose, skipL, noTk]
theorem skip_dep : dep skipN = 1 := by simp [skipN, dep, depL]
theorem skip_nds : nds skipN = 2 := by simp [skipN, nds, ndsL]
theorem skip_same : sameN 2 skipN skipN = true := by simp [sameN, skipN, plainL, isKid, isNote, skipT]
end Go.Proofs.Ytfefldkljbbbpaa
set_option linter.unusedVariables false
set_option linter.unusedSimpArgs false
namespace Go.Proofs.Ytfefldkljbbbpaa
open Go.RowKit Go.Shelf Go.Proofs.YtfefldkljbbbpaaW.PrintWords Go.Proofs.YtfefldkljbbbpaaW.PrintLast Go.Proofs.YtfefldkljbbbpaaW.PrintMore
structure Grew {α : Type} (d : Kd α) (T B : Nat) (w w' : World) (v v' : Value) (ys : List α) : Prop where
  row : d.R T w' B (fun _ => True) v' ys
  grown : w.grownBy w' v.ownBlock
  at_ : v'.ownBlock = v.ownBlock ∨ ∃ b, v'.ownBlock = some b ∧ w.heap.size ≤ b
theorem grown_trans {w w1 w2 : World} {r r1 : Option Nat} (h : w.grownBy w1 r) (h1 : w1.grownBy w2 r1) (hr : r1 = r ∨ ∃ b, r1 = some b ∧ w.heap.size ≤ b) : w.grownBy w2 r :=
  ⟨h1.os.trans h.os, h1.tape.trans h.tape, h1.output.trans h.output, Nat.le_trans h.size h1.size, fun k hk hn => (h1.block k (Nat.lt_of_lt_of_le hk h.size) (by
    rcases hr with rfl | ⟨b, rfl, hb⟩
    · exact hn
    · intro e; cases e; omega)).trans (h.block k hk hn)⟩
theorem Grew.trans {α : Type} {d : Kd α} {T B : Nat} {w w1 w2 : World} {v v1 v2 : Value} {ys zs : List α} (h : Grew d T B w w1 v v1 ys) (h1 : Grew d T B w1 w2 v1 v2 zs) : Grew d T B w w2 v v2 zs := by
  refine ⟨h1.row, grown_trans h.grown h1.grown h.at_, ?_⟩
  rcases h1.at_ with e | ⟨b, e, hb⟩
  · rw [e]; exact h.at_
  · exact .inr ⟨b, e, Nat.le_trans h.grown.size hb⟩
/-- Ahead of it something was laid. -/
theorem Grew.ahead {α : Type} {d : Kd α} {T B : Nat} {w w0 w1 : World} {v v1 : Value} {ys : List α} (hb : Below w.heap.size w w0) (h : Grew d T B w0 w1 v v1 ys) : Grew d T B w w1 v v1 ys :=
  ⟨h.row, ⟨h.grown.os.trans hb.os, h.grown.tape.trans hb.tape, h.grown.output.trans hb.output, Nat.le_trans hb.size h.grown.size, fun k hk hn => (h.grown.block k (Nat.lt_of_lt_of_le hk hb.size) hn).trans (hb.block k hk)⟩, by
    rcases h.at_ with e | ⟨b, e, hb'⟩
    · exact .inl e
    · exact .inr ⟨b, e, Nat.le_trans hb.size hb'⟩⟩
theorem Grew.later {α : Type} {d : Kd α} {T B : Nat} {w w1 w2 : World} {v v1 : Value} {ys : List α} (h : Grew d T B w w1 v v1 ys) (hb : Below w1.heap.size w1 w2) : Grew d T B w w2 v v1 ys :=
  ⟨Kd.R_below h.row hb, ⟨hb.os.trans h.grown.os, hb.tape.trans h.grown.tape, hb.output.trans h.grown.output, Nat.le_trans h.grown.size hb.size, fun k hk hn => (hb.block k (Nat.lt_of_lt_of_le hk h.grown.size)).trans (h.grown.block k hk hn)⟩, h.at_⟩
theorem Grew.old {α : Type} {d : Kd α} {T B : Nat} {w0 w w1 : World} {v v1 : Value} {xs ys : List α} (h : Grew d T B w w1 v v1 ys) (hr : d.R T w B (fun _ => True) v xs) (hb : Below w0.heap.size w0 w) (hB : w0.heap.size ≤ B) : Below w0.heap.size w0 w1 :=
  hb.grown h.grown hb.size (fun k hk => Nat.le_trans hB (Kd.R_base hr k hk))
/-- A box of another type stays. -/
theorem Grew.box {α : Type} {d : Kd α} {T B b t : Nat} {w w1 : World} {v v1 : Value} {xs ys : List α} {C : Array Value} (h : Grew d T B w w1 v v1 ys) (hr : d.R T w B (fun _ => True) v xs) (hb : w.heap[b]? = some (.cells C t (0, 0))) (hne : T ≠ t) : w1.heap[b]? = some (.cells C t (0, 0)) := by
  refine (h.grown.block b (blk_lt hb) fun e => ?_).trans hb
  obtain ⟨c2, h2⟩ := Kd.R_typed hr b e.symm
  rw [hb] at h2
  injection h2 with h2
  injection h2 with _ h2
  exact hne h2.symm
mutual
def toks : Nd → List Tk
  | ⟨k, t, kids⟩ => if k = 0 then [t] else toksL kids
def toksL : List Nd → List Tk
  | [] => []
  | x :: xs => toks x ++ toksL xs
end
theorem toks_eq (x : Nd) : toks x = if x.f0 = 0 then [x.f1] else toksL x.f2 := by obtain ⟨k, t, kids⟩ := x; rw [toks]
theorem toksL_append : ∀ (a b : List Nd), toksL (a ++ b) = toksL a ++ toksL b
  | [], b => by rw [List.nil_append, toksL, List.nil_append]
  | x :: a, b => by rw [List.cons_append, toksL, toksL, toksL_append a b, List.append_assoc]
theorem take_toks {l : List Nd} {k : Nat} {x : Nd} (h : l[k]? = some x) : toksL (l.take (k + 1)) = toksL (l.take k) ++ toks x := by
  rw [List.take_add_one, h, toksL_append]
  simp [toksL]
mutual
theorem toks_len : ∀ (x : Nd), (toks x).length ≤ nds x
  | ⟨k, t, kids⟩ => by
    rw [toks, nds]
    have := toksL_len kids
    split
    · simp
    · omega
theorem toksL_len : ∀ (l : List Nd), (toksL l).length ≤ ndsL l
  | [] => by simp [toksL]
  | x :: l => by
    have := toks_len x
    have := toksL_len l
    rw [toksL, ndsL, List.length_append]; omega
end
theorem infoTk : (Try.prog.info? 30).map (fun i => (i.zero, i.size, i.bytes)) = some (some (.agg #[(.int .u8 0), (.string ⟨#[]⟩), (.int .i64 0), (.int .i64 0), (.int .i64 0), (.int .i64 0)]), 6, 56) := by kernel_rfl
def tkCells6 (t : Tk) : List Value := [.int .u8 t.f0, .string t.f1, .int .i64 t.f2.f0, .int .i64 t.f2.f1, .int .i64 t.f2.f2, .int .i64 t.f3]
theorem tk_M (w : World) (base : Nat) (t : Tk) : kTk.M w base (fun _ => False) t (tkCells6 t) := PTreeSame.k30_mkM w base _ t
end Go.Proofs.Ytfefldkljbbbpaa
set_option linter.unusedVariables false
set_option linter.unusedSimpArgs false
namespace Go.Proofs.Ytfefldkljbbbpaa
open Go.RowKit Go.Shelf Go.Proofs.YtfefldkljbbbpaaW.PrintWords Go.Proofs.YtfefldkljbbbpaaW.PrintLast Go.Proofs.YtfefldkljbbbpaaW.PrintMore
attribute [local go_sem] Oper.semAt_some
/-- What a round leaves: all below w0, and the boxes of functions. -/
structure KpT (w0 W W' : World) : Prop where
  below : Below w0.heap.size W W'
  y : ∀ (b : Nat) (C : Array Value), W.heap[b]? = some (.cells C 54 (0, 0)) → W'.heap[b]? = some (.cells C 54 (0, 0))
  w : ∀ (b : Nat) (C : Array Value), W.heap[b]? = some (.cells C 65 (0, 0)) → W'.heap[b]? = some (.cells C 65 (0, 0))
theorem KpT.trans {w0 A B C : World} (h : KpT w0 A B) (h' : KpT w0 B C) : KpT w0 A C := ⟨h.below.trans h'.below, fun b D hb => h'.y b D (h.y b D hb), fun b D hb => h'.w b D (h.w b D hb)⟩
theorem KpT.refl (w0 A : World) : KpT w0 A A := ⟨Below.refl _ _, fun _ _ h => h, fun _ _ h => h⟩
theorem KpT.of_below {w0 A B : World} (h : Below A.heap.size A B) (hs : w0.heap.size ≤ A.heap.size) : KpT w0 A B := ⟨h.mono hs, fun b C hb => (h.block b (blk_lt hb)).trans hb, fun b C hb => (h.block b (blk_lt hb)).trans hb⟩
def tkV (t : Tk) : Value := .agg #[.int .u8 t.f0, .string t.f1, .int .i64 t.f2.f0, .int .i64 t.f2.f1, .int .i64 t.f2.f2, .int .i64 t.f3]
set_option maxRecDepth 100000 in
set_option maxHeartbeats 4000000 in
theorem walkT (n : Nat) (hn : 1 ≤ n) (w0 : World) (l M B : Nat) (J Jx : List Tk → World → Prop) (hJ : AbidesFrom B J)
    (hY : ∀ pre t W1, J pre W1 → pre.length < M → YieldAt Fence.wide (n - 1) Try.prog l #[tkV t] W1 fun e W' =>
      (e = .returned (.bool true) ∧ J (pre ++ [t]) W' ∧ KpT w0 W1 W') ∨ (e = .returned (.bool false) ∧ Jx (pre ++ [t]) W')) :
    ∀ (N : Nat) (x : Nd) (A : Option Addr) (c by_ bw : Nat) (W : World) (pre : List Tk), nds x ≤ N → nds x ≤ 1073741824 → x.f2.length ≤ c → Kd.C kNd w0 A x.f2.length x.f2 → Below w0.heap.size w0 W → J pre W → pre.length + (toks x).length ≤ M →
      W.heap[by_]? = some (.cells #[.func (.yield l) #[] #[]] 54 (0, 0)) → W.heap[bw]? = some (.cells #[.func (.func 33) #[] #[.pointer (some ⟨by_, 0, none⟩), .pointer (some ⟨bw, 0, none⟩)]] 65 (0, 0)) →
      CallsIn Fence.wide n Try.prog 33 #[.agg #[.int .u8 x.f0, .int .u8 x.f1.f0, .string x.f1.f1, .int .i64 x.f1.f2.f0, .int .i64 x.f1.f2.f1, .int .i64 x.f1.f2.f2, .int .i64 x.f1.f3, .slice A x.f2.length c], .pointer (some ⟨by_, 0, none⟩), .pointer (some ⟨bw, 0, none⟩)] W fun e W' =>
        (e = .returned (.bool true) ∧ J (pre ++ toks x) W' ∧ KpT w0 W W') ∨ (e = .returned (.bool false) ∧ ∃ q, q <+: toks x ∧ Jx (pre ++ q) W') := by
  intro N
  induction N with
  | zero => intro x A c by_ bw W pre hN; have := nds_pos x; omega
  | succ N ih =>
    intro x A c by_ bw W pre hN hbig hlc hC hbW hJ0 hM hby hbw
    have hlen : x.f2.length ≤ 1073741823 := by rw [nds_eq] at hbig; have := ndsL_len x.f2; omega
    have HJ := Lib.hid hJ
    have HY := Lib.hid hY
    have IH := Lib.hid ih
    have HC := Lib.hid hC
    have HLC := Lib.hid hlc
    have HNN := Lib.hid (And.intro hN hbig)
    have HM := Lib.hid hM
    obtain ⟨W1, hW1, h1, hb1, hz1⟩ := nd_new (W := W) (cs := #[.int .u8 x.f0, .int .u8 x.f1.f0, .string x.f1.f1, .int .i64 x.f1.f2.f0, .int .i64 x.f1.f2.f1, .int .i64 x.f1.f2.f2, .int .i64 x.f1.f3, .slice A x.f2.length c])
    have HBX := Lib.hid h1
    have HB1 := Lib.hid hb1
    have HJ1 : Hid (J pre W1) := Lib.hid (hJ pre W W1 none hJ0 (hW1 ▸ World.grownBy_alloc _ _ _) (fun r e => by cases e))
    have HBY := Lib.hid ((hb1.block _ (blk_lt hby)).trans hby)
    have HBW := Lib.hid ((hb1.block _ (blk_lt hbw)).trans hbw)
    have HB0 := Lib.hid (hbW.trans (hb1.mono hbW.size))
    have HS0 := Lib.hid hbW.size
    clear hJ hY ih hC hlc hN hbig hM h1 hb1 hz1 hJ0 hby hbw hbW
    refine callsIn_of_wp Try.func33 rfl trivial ?_ rfl
    simp only [Try.ntmps33, List.size_toArray, List.length_cons, List.length_nil, Nat.reduceAdd, Nat.reduceSub, Array.replicate_succ, Array.replicate_zero, List.push_toArray, List.append_toArray, List.nil_append, List.cons_append]
    by_cases h0 : x.f0 = 0
    · have e0 : (x.f0 == 0) = true := by simp [h0]
      have HT : Hid (toks x = [x.f1]) := Lib.hid (by rw [toks_eq, if_pos h0])
      clear h0
      obtain ⟨fn, tmps, assign, body, hyr, hR⟩ := HY.out pre x.f1 W1 HJ1.out (by have := HM.out; rw [HT.out] at this; simp at this; omega)
      have HR := Lib.hid hR
      unfold tkV at hyr
      have cy := blk_cell HBY.out 0
      simp only [List.getElem?_toArray, List.getElem?_cons_zero] at cy
      obtain ⟨q0, q1, q2, q3, q4, q5, q6, q7⟩ := nd_box HBX.out W1 (Below.refl _ _)
      clear hR
      gi_wp2
      refine HR.out.mono ?_
      rintro e W3 (⟨rfl, hJ3, hk3⟩ | ⟨rfl, hJx3⟩)
      · have HF := Lib.hid (And.intro hJ3 ((KpT.of_below HB1.out HS0.out).trans hk3))
        clear hJ3 hk3
        gi_wp2
        go_ret
        exact .inl ⟨rfl, by rw [HT.out]; exact HF.out.1, HF.out.2⟩
      · gi_wp2
        go_ret
        exact .inr ⟨rfl, [x.f1], by rw [HT.out]; exact List.prefix_refl _, hJx3⟩
    · have e0 : (x.f0 == 0) = false := beq_eq_false_iff_ne.2 h0
      have HT : Hid (toks x = toksL x.f2) := Lib.hid (by rw [toks_eq, if_neg h0])
      clear h0
      obtain ⟨q0, q1, q2, q3, q4, q5, q6, q7⟩ := nd_box HBX.out W1 (Below.refl _ _)
      gi_wp2
      gi_loopw [17] (fun iv wr => ∃ i : Nat, i ≤ x.f2.length ∧ iv = .int .i64 i ∧ Hid (J (pre ++ toksL (x.f2.take i)) wr ∧ KpT w0 W1 wr)) (fun iv _ => x.f2.length - (intOf iv).toNat)
      case atStart => exact ⟨0, by omega, rfl, Lib.hid ⟨by rw [List.take_zero, toksL, List.append_nil]; exact HJ1.out, KpT.refl _ _⟩⟩
      case round =>
        obtain ⟨i, hi, rfl, HL⟩ := hrel
        clear q0 q1 q2 q3 q4 q5 q6 q7
        by_cases hlt : i < x.f2.length
        · obtain ⟨y, hy⟩ : ∃ y, x.f2[i]? = some y := ⟨x.f2[i], List.getElem?_eq_getElem hlt⟩
          obtain ⟨ad, A1, c1, rfl, hcs, hl1, hC1⟩ := kid_at HC.out i y hlt hy
          obtain ⟨k0, k1, k2, k3, k4, k5, k6, k7⟩ := hcs
          have hbw := HB0.out.trans HL.out.2.below
          replace k0 := pw_cell_below hbw k0
          replace k1 := pw_cell_below hbw k1
          replace k2 := pw_cell_below hbw k2
          replace k3 := pw_cell_below hbw k3
          replace k4 := pw_cell_below hbw k4
          replace k5 := pw_cell_below hbw k5
          replace k6 := pw_cell_below hbw k6
          replace k7 := pw_cell_below hbw k7
          obtain ⟨W5, hW5, h5, hb5, hz5⟩ := nd_new (W := wr) (cs := #[.int .u8 y.f0, .int .u8 y.f1.f0, .string y.f1.f1, .int .i64 y.f1.f2.f0, .int .i64 y.f1.f2.f1, .int .i64 y.f1.f2.f2, .int .i64 y.f1.f3, .slice A1 y.f2.length c1])
          have hk5 : KpT w0 W1 W5 := HL.out.2.trans (KpT.of_below hb5 (Nat.le_trans HB0.out.size (HL.out.2.below.size)))
          have hJ5 : J (pre ++ toksL (x.f2.take i)) W5 := HJ.out _ wr W5 none HL.out.1 (hW5 ▸ World.grownBy_alloc _ _ _) (fun r e => by cases e)
          have hby5 := hk5.y _ _ HBY.out
          have hbw5 := hk5.w _ _ HBW.out
          have hny : nds y ≤ ndsL x.f2 := ndsL_mem (List.mem_of_getElem? hy)
          have hpre : (pre ++ toksL (x.f2.take i)).length + (toks y).length ≤ M := by
            have h1 := HM.out
            rw [HT.out] at h1
            have h2 : (toksL (x.f2.take (i + 1))).length ≤ (toksL x.f2).length := by
              have h3 := toksL_append (x.f2.take (i + 1)) (x.f2.drop (i + 1))
              rw [List.take_append_drop] at h3
              rw [h3, List.length_append]; omega
            rw [take_toks hy, List.length_append] at h2
            rw [List.length_append]
            omega
          have HIH := Lib.hid (IH.out y A1 c1 by_ bw W5 (pre ++ toksL (x.f2.take i)) (by have := HNN.out.1; rw [nds_eq] at this; omega) (by have := HNN.out.2; rw [nds_eq] at this; omega) hl1 hC1 (HB0.out.trans hk5.below) hJ5 hpre hby5 hbw5)
          have HK5 := Lib.hid hk5
          have HTK := Lib.hid (take_toks hy)
          have HPX : Hid (toksL (x.f2.take i) ++ toks y <+: toks x) := Lib.hid (by
            rw [HT.out, ← take_toks hy]
            have h3 := toksL_append (x.f2.take (i + 1)) (x.f2.drop (i + 1))
            rw [List.take_append_drop] at h3
            rw [h3]; exact List.prefix_append _ _)
          have cw := blk_cell hbw5 0
          simp only [List.getElem?_toArray, List.getElem?_cons_zero] at cw
          obtain ⟨q0, q1, q2, q3, q4, q5, q6, q7⟩ := nd_box h5 W5 (Below.refl _ _)
          have g1 : (0 : Int) ≤ (i : Int) := by omega
          have g2 : (i : Int) < (x.f2.length : Int) := by omega
          clear hl1 hC1 hbw h5 hb5 hz5 hk5 hJ5 hby5 hbw5 hny hpre hy HL
          gi_wp2
          refine ⟨trivial, ?_⟩
          refine (callsIn_wide.2 (callsIn_wide.1 HIH.out)).mono ?_
          rintro e W6 (⟨rfl, hJ6, hk6⟩ | ⟨rfl, q, hq, hjx⟩)
          · have HF := Lib.hid (And.intro hJ6 (HK5.out.trans hk6))
            clear hJ6 hk6 q0 q1 q2 q3 q4 q5 q6 q7 cw
            gi_wp2
            refine ⟨⟨i + 1, by omega, by push_cast; rfl, Lib.hid ⟨by rw [HTK.out, ← List.append_assoc]; exact HF.out.1, HF.out.2⟩⟩, by simp only [intOf]; omega⟩
          · have HF := Lib.hid (And.intro hq hjx)
            clear hq hjx q0 q1 q2 q3 q4 q5 q6 q7 cw
            gi_wp2
            go_ret
            refine .inr ⟨rfl, toksL (x.f2.take i) ++ q, ?_, by rw [← List.append_assoc]; exact HF.out.2⟩
            obtain ⟨r, hr⟩ := HF.out.1
            exact List.IsPrefix.trans ⟨r, by rw [List.append_assoc, hr]⟩ HPX.out
        · obtain rfl : i = x.f2.length := by omega
          have hf := HL.out
          rw [List.take_length] at hf
          have HF := Lib.hid hf
          clear hf HL
          gi_wp2
          go_ret
          exact .inl ⟨rfl, by rw [HT.out]; exact HF.out.1, (KpT.of_below HB1.out HS0.out).trans HF.out.2⟩
set_option maxRecDepth 100000 in
set_option maxHeartbeats 4000000 in
/-- Toks(x) hands back an iterator that holds to the contract. -/
theorem toks_stops (n : Nat) (hn : 1 ≤ n) (w0 : World) (x : Nd) (A : Option Addr) (c : Nat) (hlc : x.f2.length ≤ c) (hbig : nds x ≤ 1073741824) (hC : Kd.C kNd w0 A x.f2.length x.f2) (w : World) (hb : Below w0.heap.size w0 w) (Bn : Nat) (hBn : w.heap[Bn]? = some (.cells #[.int .u8 x.f0, .int .u8 x.f1.f0, .string x.f1.f1, .int .i64 x.f1.f2.f0, .int .i64 x.f1.f2.f1, .int .i64 x.f1.f2.f2, .int .i64 x.f1.f3, .slice A x.f2.length c] TN (0, 0))) :
    SeqStopsK Fence.wide n Try.prog 32 #[.pointer (some ⟨Bn, 0, none⟩)] (fun t : Tk => #[tkV t]) (KpT w0) (fun ys => ys = toks x) (fun pre => pre <+: toks x) (toks x).length w := by
  intro l J Jx W hW hJ hJx hY h0
  have hBnW := (hW.block Bn (blk_lt hBn)).trans hBn
  obtain ⟨W2, hW2⟩ : ∃ V, ((W.alloc (.cells #[.func (.yield l) #[] #[]] 54)).alloc (.cells #[.func (.func 33) #[] #[.pointer (some ⟨W.heap.size, 0, none⟩), .pointer (some ⟨W.heap.size + 1, 0, none⟩)]] 65)) = V := ⟨_, rfl⟩
  have hb2 : Below W.heap.size W W2 := by rw [← hW2]; exact ((Below.refl _ W).alloc (Nat.le_refl _) _).alloc (by simp) _
  have hy2 : W2.heap[W.heap.size]? = some (.cells #[.func (.yield l) #[] #[]] 54 (0, 0)) := by rw [← hW2]; exact (Below.heap_alloc _ _ _ (by simp)).trans (World.alloc_heap_new W _)
  have hw2 : W2.heap[W.heap.size + 1]? = some (.cells #[.func (.func 33) #[] #[.pointer (some ⟨W.heap.size, 0, none⟩), .pointer (some ⟨W.heap.size + 1, 0, none⟩)]] 65 (0, 0)) := by
    rw [← hW2]
    have := World.alloc_heap_new (W.alloc (.cells #[.func (.yield l) #[] #[]] 54)) (.cells #[.func (.func 33) #[] #[.pointer (some ⟨W.heap.size, 0, none⟩), .pointer (some ⟨W.heap.size + 1, 0, none⟩)]] 65)
    rwa [World.size_alloc] at this
  have hJ2 : J [] W2 := hJ [] W W2 none h0 (hW2 ▸ World.grownBy.trans (World.grownBy_alloc _ _ _) (World.grownBy_alloc _ _ _)) (fun r e => by cases e)
  have HWK := Lib.hid (walkT n hn w0 l (toks x).length W.heap.size J Jx hJ hY (nds x) x A c W.heap.size (W.heap.size + 1) W2 [] (Nat.le_refl _) hbig hlc hC (hb.trans ((hW.trans (hb2.mono hW.size)).mono hb.size)) hJ2 (by simp) hy2 hw2)
  obtain ⟨q0, q1, q2, q3, q4, q5, q6, q7⟩ := nd_box hBnW W2 hb2
  have HW2 := Lib.hid hW2
  have cw := blk_cell hw2 0
  simp only [List.getElem?_toArray, List.getElem?_cons_zero] at cw
  clear hJ hJx hY h0 hb2 hy2 hw2 hJ2 hBnW hW hC hBn
  refine callsIn_of_wp Try.func32 rfl trivial ?_ rfl
  simp only [Try.ntmps32, List.size_toArray, List.length_cons, List.length_nil, Nat.reduceAdd, Nat.reduceSub, Array.replicate_succ, Array.replicate_zero, List.push_toArray, List.append_toArray, List.nil_append, List.cons_append]
  gi_wp2
  refine ⟨trivial, ?_⟩
  refine (callsIn_wide.2 (callsIn_wide.1 HWK.out)).mono ?_
  rintro e W6 (⟨rfl, hJ6, -⟩ | ⟨rfl, q, hq, hjx⟩)
  · have HF := Lib.hid hJ6
    clear hJ6 q0 q1 q2 q3 q4 q5 q6 q7 cw
    gi_wp2
    go_end0
    exact ⟨⟨_, rfl⟩, .inl ⟨toks x, rfl, by simpa using HF.out⟩⟩
  · have HF := Lib.hid (And.intro hq hjx)
    clear hq hjx q0 q1 q2 q3 q4 q5 q6 q7 cw
    gi_wp2
    go_end0
    exact ⟨⟨_, rfl⟩, .inr ⟨q, HF.out.1, by simpa using HF.out.2⟩⟩
theorem toks_in (n : Nat) (x : Nd) (A : Option Addr) (len c : Nat) (w : World) :
    CallsIn Fence.wide n Try.prog 23 #[.agg #[.int .u8 x.f0, .int .u8 x.f1.f0, .string x.f1.f1, .int .i64 x.f1.f2.f0, .int .i64 x.f1.f2.f1, .int .i64 x.f1.f2.f2, .int .i64 x.f1.f3, .slice A len c]] w fun e w' => e = .returned (.func (.func 32) #[] #[.pointer (some ⟨w.heap.size, 0, none⟩)]) ∧ w' = w.alloc (.cells #[.int .u8 x.f0, .int .u8 x.f1.f0, .string x.f1.f1, .int .i64 x.f1.f2.f0, .int .i64 x.f1.f2.f1, .int .i64 x.f1.f2.f2, .int .i64 x.f1.f3, .slice A len c] TN) := by
  refine callsIn_wide.2 ?_
  go_enter Try.func23, Try.ntmps23
  go_wp2
  go_ret
  exact ⟨rfl, rfl⟩
end Go.Proofs.Ytfefldkljbbbpaa
set_option linter.unusedVariables false
set_option linter.unusedSimpArgs false
namespace Go.Proofs.Ytfefldkljbbbpaa
open Go.RowKit Go.Shelf Go.Proofs.YtfefldkljbbbpaaW.PrintWords Go.Proofs.YtfefldkljbbbpaaW.PrintLast Go.Proofs.YtfefldkljbbbpaaW.PrintMore
end Go.Proofs.Ytfefldkljbbbpaa
set_option linter.unusedVariables false
set_option linter.unusedSimpArgs false
namespace Go.Proofs.Ytfefldkljbbbpaa
open Go.RowKit Go.Shelf Go.Proofs.YtfefldkljbbbpaaW.PrintWords Go.Proofs.YtfefldkljbbbpaaW.PrintLast Go.Proofs.YtfefldkljbbbpaaW.PrintMore
theorem comment2 (t : Tk) (w : World) : Calls Try.prog 35 #[.agg #[.int .u8 t.f0, .string t.f1, .int .i64 t.f2.f0, .int .i64 t.f2.f1, .int .i64 t.f2.f2, .int .i64 t.f3]] w fun e w' => e = .returned (.bool (isNote t)) ∧ Below w.heap.size w w' := by
  refine PTreeSame.colophonref13_Comment.calls t.f0 t.f1 t.f2.f0 t.f2.f1 t.f2.f2 t.f3 (isNote t) w ?_
  unfold PTreeSame.colophonref13_Comment.f isNote
  by_cases h : t.f0 = 7
  · rw [if_pos h, h]; rfl
  · rw [if_neg h]
    by_cases h8 : t.f0 = 8
    · simp [h8]
    · simp [h, h8]
end Go.Proofs.Ytfefldkljbbbpaa
set_option linter.unusedVariables false
set_option linter.unusedSimpArgs false
namespace Go.Proofs.Ytfefldkljbbbpaa
open Go.RowKit Go.Shelf Go.Proofs.YtfefldkljbbbpaaW.PrintWords Go.Proofs.YtfefldkljbbbpaaW.PrintLast Go.Proofs.YtfefldkljbbbpaaW.PrintMore
set_option maxRecDepth 100000 in
set_option maxHeartbeats 4000000 in
theorem add_any (w0 : World) (B : Nat) (hB : w0.heap.size ≤ B) : ∀ (N : Nat) (x : Nd) (A : Option Addr) (c : Nat) (w : World) (v : Value) (xs : List Ev), nds x ≤ N → x.f2.length ≤ c → Kd.C kNd w0 A x.f2.length x.f2 → Below w0.heap.size w0 w → B ≤ w.heap.size → Kd.R kEv TE w B (fun _ => True) v xs → xs.length + 2 * nds x ≤ 1073741824 →
    Calls Try.prog 30 #[v, .agg #[.int .u8 x.f0, .int .u8 x.f1.f0, .string x.f1.f1, .int .i64 x.f1.f2.f0, .int .i64 x.f1.f2.f1, .int .i64 x.f1.f2.f2, .int .i64 x.f1.f3, .slice A x.f2.length c]] w fun e w' => ∃ v', e = .returned v' ∧ Grew kEv TE B w w' v v' (xs ++ tells x) := by
  intro N
  induction N with
  | zero => intro x A c w v xs hN; have := nds_pos x; omega
  | succ N ih =>
    intro x A c w v xs hN hlc hC hbw hBw hR hlen
    obtain ⟨Av, cv, rfl⟩ := Kd.R_slice hR
    have hn : x.f2.length ≤ 536870912 := by rw [nds_eq] at hlen; have := ndsL_len x.f2; omega
    obtain ⟨W1, hW1, h1, hb1, hz1⟩ := nd_new (W := w) (cs := #[.int .u8 x.f0, .int .u8 x.f1.f0, .string x.f1.f1, .int .i64 x.f1.f2.f0, .int .i64 x.f1.f2.f1, .int .i64 x.f1.f2.f2, .int .i64 x.f1.f3, .slice A x.f2.length c])
    have HW1 := Lib.hid hW1
    have HBX := Lib.hid h1
    have HX1 := Lib.hid (nd_box h1)
    have HB1 := Lib.hid hb1
    have HBw := Lib.hid hBw
    have HR0 := Lib.hid hR
    have HR1 := Lib.hid (Kd.R_below hR hb1)
    have HS1 : Hid (B ≤ W1.heap.size) := Lib.hid (Nat.le_trans hBw hb1.size)
    have HC := Lib.hid hC
    have HBW := Lib.hid hbw
    have IH := Lib.hid ih
    have HNN := Lib.hid (And.intro hN hlc)
    have HLEN := Lib.hid hlen
    have HF1 : Hid ((xs.length + 1) * 64 ≤ 140737488355328) := Lib.hid (by have := nds_pos x; omega)
    clear hW1 h1 hb1 hz1 hR hC hbw ih hN hlc hlen hBw
    by_cases h0 : x.f0 = 0
    · have e0 : (x.f0 == 0) = true := by simp [h0]
      have ht : tells x = [evTok x.f1] := by rw [tells_eq, if_pos h0]
      have HT := Lib.hid ht
      obtain ⟨nb, hnb⟩ : ∃ b, isNote x.f1 = b := ⟨_, rfl⟩
      have HNB := Lib.hid hnb
      have HCM := Lib.hid (comment2 x.f1)
      clear h0 ht hnb
      cases nb with
      | true =>
        go_enter Try.func30, Try.ntmps30
        go_upto_region 1 with (fail)
        rw [HW1.out]
        obtain ⟨q0, q1, q2, q3, q4, q5, q6, q7⟩ := HX1.out W1 (Below.refl _ _)
        go_wp2_with (first
          | (go_at_call 35; refine (HCM.out W1).mono ?_; rintro e w2 ⟨rfl, hb2⟩; rw [HNB.out]; have HB2 := Lib.hid (HB1.out.trans (hb2.mono HB1.out.size)); have HR2 := Lib.hid (Kd.R_below HR1.out hb2); have HS2 := Lib.hid (Nat.le_trans HS1.out hb2.size); obtain ⟨q0, q1, q2, q3, q4, q5, q6, q7⟩ := HX1.out w2 hb2; clear hb2)
          | ((with_reducible refine gate_dst (N := 19) rfl ?_); refine Kd.R_append kEv (w0 := w2) B rfl (.tmp 14) (.tmp 18) 22 TE _ 64 rfl Try.underlying22 infoEv rfl (by decide) (by decide) (.slice Av xs.length cv) (xs) (⟨4, 0, x.f1⟩) (evCells ⟨4, 0, x.f1⟩) (fun _ => True) (fun _ => False) rfl rfl (ev_M _ _ _) (fun _ h => h.elim) (fun _ _ => trivial) HR2.out (Below.refl _ _) HS2.out HF1.out ?_; intro v3 w3 ho _ hg hat; have HGw3 := Lib.hid (Grew.mk (d := kEv) ho hg hat); obtain ⟨Aw3, cw3, hv⟩ := Kd.R_slice ho; obtain ⟨nw3, hnw3⟩ : ∃ n, (xs ++ ([⟨4, 0, x.f1⟩] : List Ev)).length = n := ⟨_, rfl⟩; rw [hnw3] at hv; subst hv; clear ho hg hat hnw3))
        go_ret
        exact ⟨_, rfl, by rw [HT.out, evTok, HNB.out]; exact Grew.ahead HB2.out HGw3.out⟩
      | false =>
        go_enter Try.func30, Try.ntmps30
        go_upto_region 1 with (fail)
        rw [HW1.out]
        obtain ⟨q0, q1, q2, q3, q4, q5, q6, q7⟩ := HX1.out W1 (Below.refl _ _)
        go_wp2_with (first
          | (go_at_call 35; refine (HCM.out W1).mono ?_; rintro e w2 ⟨rfl, hb2⟩; rw [HNB.out]; have HB2 := Lib.hid (HB1.out.trans (hb2.mono HB1.out.size)); have HR2 := Lib.hid (Kd.R_below HR1.out hb2); have HS2 := Lib.hid (Nat.le_trans HS1.out hb2.size); obtain ⟨q0, q1, q2, q3, q4, q5, q6, q7⟩ := HX1.out w2 hb2; clear hb2)
          | ((with_reducible refine gate_dst (N := 25) rfl ?_); refine Kd.R_append kEv (w0 := w2) B rfl (.tmp 20) (.tmp 24) 22 TE _ 64 rfl Try.underlying22 infoEv rfl (by decide) (by decide) (.slice Av xs.length cv) (xs) (⟨2, 0, x.f1⟩) (evCells ⟨2, 0, x.f1⟩) (fun _ => True) (fun _ => False) rfl rfl (ev_M _ _ _) (fun _ h => h.elim) (fun _ _ => trivial) HR2.out (Below.refl _ _) HS2.out HF1.out ?_; intro v3 w3 ho _ hg hat; have HGw3 := Lib.hid (Grew.mk (d := kEv) ho hg hat); obtain ⟨Aw3, cw3, hv⟩ := Kd.R_slice ho; obtain ⟨nw3, hnw3⟩ : ∃ n, (xs ++ ([⟨2, 0, x.f1⟩] : List Ev)).length = n := ⟨_, rfl⟩; rw [hnw3] at hv; subst hv; clear ho hg hat hnw3))
        go_ret
        exact ⟨_, rfl, by rw [HT.out, evTok, HNB.out]; exact Grew.ahead HB2.out HGw3.out⟩
    · have e0 : (x.f0 == 0) = false := beq_eq_false_iff_ne.2 h0
      have HT := Lib.hid (show tells x = evOpen x.f0 :: (tellsL x.f2 ++ [evClose x.f0]) by rw [tells_eq, if_neg h0])
      clear h0
      go_enter Try.func30, Try.ntmps30
      go_upto_region 1 with (fail)
      rw [HW1.out]
      obtain ⟨q0, q1, q2, q3, q4, q5, q6, q7⟩ := HX1.out W1 (Below.refl _ _)
      clear HW1
      go_wp2_with ((with_reducible refine gate_dst (N := 31) rfl ?_); refine Kd.R_append kEv (w0 := W1) B rfl (.tmp 26) (.tmp 30) 22 TE _ 64 rfl Try.underlying22 infoEv rfl (by decide) (by decide) (.slice Av xs.length cv) (xs) (⟨1, x.f0, noTk⟩) (evCells ⟨1, x.f0, noTk⟩) (fun _ => True) (fun _ => False) rfl rfl (ev_M _ _ _) (fun _ h => h.elim) (fun _ _ => trivial) HR1.out (Below.refl _ _) HS1.out HF1.out ?_; intro v3 w3 ho _ hg hat; have HGw3 := Lib.hid (Grew.mk (d := kEv) ho hg hat); obtain ⟨Aw3, cw3, hv⟩ := Kd.R_slice ho; obtain ⟨nw3, hnw3⟩ : ∃ n, (xs ++ ([⟨1, x.f0, noTk⟩] : List Ev)).length = n := ⟨_, rfl⟩; rw [hnw3] at hv; subst hv; clear ho hg hat hnw3)
      have HL0 : Hid (Grew kEv TE B w w3 (.slice Av xs.length cv) (.slice Aw3 nw3 cw3) ((xs ++ [evOpen x.f0]) ++ tellsL (x.f2.take 0)) ∧ w3.heap[w.heap.size]? = some (.cells #[.int .u8 x.f0, .int .u8 x.f1.f0, .string x.f1.f1, .int .i64 x.f1.f2.f0, .int .i64 x.f1.f2.f1, .int .i64 x.f1.f2.f2, .int .i64 x.f1.f3, .slice A x.f2.length c] TN (0, 0))) := Lib.hid ⟨by rw [List.take_zero, tellsL, List.append_nil]; exact Grew.ahead HB1.out HGw3.out, HGw3.out.box HR1.out HBX.out (by decide)⟩
      clear q0 q1 q2 q3 q4 q5 q6 q7
      go_loopw [0, 6] (fun lv iv wr => ∃ (i : Nat) (Al : Option Addr) (n cl : Nat), i ≤ x.f2.length ∧ iv = .int .i64 i ∧ lv = .slice Al n cl ∧ Hid (Grew kEv TE B w wr (.slice Av xs.length cv) (.slice Al n cl) ((xs ++ [evOpen x.f0]) ++ tellsL (x.f2.take i)) ∧ wr.heap[w.heap.size]? = some (.cells #[.int .u8 x.f0, .int .u8 x.f1.f0, .string x.f1.f1, .int .i64 x.f1.f2.f0, .int .i64 x.f1.f2.f1, .int .i64 x.f1.f2.f2, .int .i64 x.f1.f3, .slice A x.f2.length c] TN (0, 0)))) (fun _ iv _ => x.f2.length - (intOf iv).toNat)
      case atStart => exact ⟨0, _, _, _, Nat.zero_le _, rfl, rfl, HL0⟩
      case round =>
        obtain ⟨i, Al, n, cl, hi, rfl, rfl, H⟩ := hrel
        obtain ⟨q0, q1, q2, q3, q4, q5, q6, q7⟩ := nd_box H.out.2 wr (Below.refl _ _)
        have hwr : Below w0.heap.size w0 wr := H.out.1.old HR0.out HBW.out hB
        have HWR := Lib.hid hwr
        by_cases hlt : i < x.f2.length
        · have dlt : decide (i < x.f2.length) = true := decide_eq_true hlt
          obtain ⟨y, hy⟩ : ∃ y, x.f2[i]? = some y := ⟨_, List.getElem?_eq_getElem hlt⟩
          obtain ⟨ad, A1, c1, rfl, hcs, hl1, hC1⟩ := kid_at (Kd.C_below HC.out hwr) i y hlt hy
          obtain ⟨ad', A1', c1', hA', hcs', hl1', hC1'⟩ := kid_at HC.out i y hlt hy
          obtain rfl := Option.some.inj hA'
          have h7 : wr.cell? ⟨(ad.add (i * 8)).block, (ad.add (i * 8)).off + 7, none⟩ = some (.slice A1' y.f2.length c1') := pw_cell_below hwr hcs'.2.2.2.2.2.2.2
          rw [hcs.2.2.2.2.2.2.2] at h7
          injection h7 with h7
          injection h7 with h7 _ h7'
          subst h7 h7'
          have HY := Lib.hid hy
          have hny : nds y ≤ ndsL x.f2 := ndsL_mem (List.mem_of_getElem? hy)
          have hlen2 : ((xs ++ [evOpen x.f0]) ++ tellsL (x.f2.take i)).length + 2 * nds y ≤ 1073741824 := by
            have h1 := HLEN.out
            have h2 := tellsL_len (x.f2.take i)
            have h3 : ndsL (x.f2.take i) + nds y ≤ ndsL x.f2 := by
              have := take_nds (l := x.f2) (i + 1)
              rw [List.take_add_one, hy, ndsL_append] at this
              simpa [ndsL] using this
            rw [nds_eq] at h1
            simp only [List.length_append, List.length_singleton]
            omega
          have HIH := Lib.hid (IH.out y A1 c1 wr (.slice Al n cl) ((xs ++ [evOpen x.f0]) ++ tellsL (x.f2.take i)) (by have := HNN.out.1; rw [nds_eq] at this; omega) hl1 hC1' hwr (Nat.le_trans HBw.out H.out.1.grown.size) H.out.1.row hlen2)
          obtain ⟨k0, k1, k2, k3, k4, k5, k6, k7⟩ := hcs
          have g1 : (0 : Int) ≤ (i : Int) := by omega
          have g2 : (i : Int) < (x.f2.length : Int) := by omega
          clear hwr hy hl1 hC1 hcs' hl1' hC1' hny hlen2
          go_wp2_with (go_at_call 30; refine (HIH.out).mono ?_; rintro e w4 ⟨v4, rfl, hg4⟩; obtain ⟨A4, c4, hv⟩ := Kd.R_slice hg4.row; obtain ⟨n4, hn4⟩ : ∃ n, ((xs ++ [evOpen x.f0]) ++ tellsL (x.f2.take i) ++ tells y).length = n := ⟨_, rfl⟩; rw [hn4] at hv; subst hv; clear hn4; have HG4 := Lib.hid hg4; clear hg4)
          go_roundw
          case rel => exact ⟨i + 1, _, _, _, by omega, by go_num, rfl, Lib.hid ⟨by have := H.out.1.trans HG4.out; rw [take_tells HY.out, ← List.append_assoc]; exact this, HG4.out.box H.out.1.row H.out.2 (by decide)⟩⟩
          case measure => simp [intOf] <;> omega
        · have dlt : decide (i < x.f2.length) = false := decide_eq_false hlt
          obtain rfl : i = x.f2.length := by omega
          have hrr := H.out.1.row
          rw [List.take_length] at hrr
          have HRR := Lib.hid hrr
          have HSS : Hid (B ≤ wr.heap.size) := Lib.hid (Nat.le_trans HBw.out H.out.1.grown.size)
          have HFF : Hid (((xs ++ [evOpen x.f0] ++ tellsL x.f2).length + 1) * 64 ≤ 140737488355328) := Lib.hid (by have h1 := HLEN.out; rw [nds_eq] at h1; have h2 := tellsL_len x.f2; simp only [List.length_append, List.length_singleton]; omega)
          clear hrr
          go_wp2_with ((with_reducible refine gate_dst (N := 51) rfl ?_); refine Kd.R_append kEv (w0 := wr) B rfl (.tmp 46) (.tmp 50) 22 TE _ 64 rfl Try.underlying22 infoEv rfl (by decide) (by decide) (.slice Al n cl) (xs ++ [evOpen x.f0] ++ tellsL x.f2) (⟨3, x.f0, noTk⟩) (evCells ⟨3, x.f0, noTk⟩) (fun _ => True) (fun _ => False) rfl rfl (ev_M _ _ _) (fun _ h => h.elim) (fun _ _ => trivial) HRR.out (Below.refl _ _) HSS.out HFF.out ?_; intro v6 w6 ho _ hg hat; have HGw6 := Lib.hid (Grew.mk (d := kEv) ho hg hat); obtain ⟨Aw6, cw6, hv⟩ := Kd.R_slice ho; obtain ⟨nw6, hnw6⟩ : ∃ n, (xs ++ [evOpen x.f0] ++ tellsL x.f2 ++ ([⟨3, x.f0, noTk⟩] : List Ev)).length = n := ⟨_, rfl⟩; rw [hnw6] at hv; subst hv; clear ho hg hat hnw6)
          go_ret
          refine ⟨_, rfl, ?_⟩
          have := H.out.1.trans HGw6.out
          rw [HT.out, show xs ++ evOpen x.f0 :: (tellsL x.f2 ++ [evClose x.f0]) = xs ++ [evOpen x.f0] ++ tellsL x.f2 ++ [⟨3, x.f0, noTk⟩] by simp [evClose]]
          exact this
set_option maxRecDepth 100000 in
set_option maxHeartbeats 4000000 in
theorem put_any (w0 : World) (B : Nat) (hB : w0.heap.size ≤ B) : ∀ (N : Nat) (x : Nd) (A : Option Addr) (c : Nat) (w : World) (v : Value) (xs : List Tk), nds x ≤ N → x.f2.length ≤ c → Kd.C kNd w0 A x.f2.length x.f2 → Below w0.heap.size w0 w → B ≤ w.heap.size → Kd.R kTk 30 w B (fun _ => True) v xs → xs.length + 2 * nds x ≤ 1073741824 →
    Calls Try.prog 31 #[v, .agg #[.int .u8 x.f0, .int .u8 x.f1.f0, .string x.f1.f1, .int .i64 x.f1.f2.f0, .int .i64 x.f1.f2.f1, .int .i64 x.f1.f2.f2, .int .i64 x.f1.f3, .slice A x.f2.length c]] w fun e w' => ∃ v', e = .returned v' ∧ Grew kTk 30 B w w' v v' (xs ++ toks x) := by
  intro N
  induction N with
  | zero => intro x A c w v xs hN; have := nds_pos x; omega
  | succ N ih =>
    intro x A c w v xs hN hlc hC hbw hBw hR hlen
    obtain ⟨Av, cv, rfl⟩ := Kd.R_slice hR
    have hn : x.f2.length ≤ 536870912 := by rw [nds_eq] at hlen; have := ndsL_len x.f2; omega
    obtain ⟨W1, hW1, h1, hb1, hz1⟩ := nd_new (W := w) (cs := #[.int .u8 x.f0, .int .u8 x.f1.f0, .string x.f1.f1, .int .i64 x.f1.f2.f0, .int .i64 x.f1.f2.f1, .int .i64 x.f1.f2.f2, .int .i64 x.f1.f3, .slice A x.f2.length c])
    have HW1 := Lib.hid hW1
    have HBX := Lib.hid h1
    have HX1 := Lib.hid (nd_box h1)
    have HB1 := Lib.hid hb1
    have HBw := Lib.hid hBw
    have HR0 := Lib.hid hR
    have HR1 := Lib.hid (Kd.R_below hR hb1)
    have HS1 : Hid (B ≤ W1.heap.size) := Lib.hid (Nat.le_trans hBw hb1.size)
    have HC := Lib.hid hC
    have HBW := Lib.hid hbw
    have IH := Lib.hid ih
    have HNN := Lib.hid (And.intro hN hlc)
    have HLEN := Lib.hid hlen
    have HF1 : Hid ((xs.length + 1) * 56 ≤ 140737488355328) := Lib.hid (by have := nds_pos x; omega)
    clear hW1 h1 hb1 hz1 hR hC hbw ih hN hlc hlen hBw
    by_cases h0 : x.f0 = 0
    · have e0 : (x.f0 == 0) = true := by simp [h0]
      have ht : toks x = [x.f1] := by rw [toks_eq, if_pos h0]
      have HT := Lib.hid ht
      clear h0 ht
      go_enter Try.func31, Try.ntmps31
      go_upto_region 1 with (fail)
      rw [HW1.out]
      obtain ⟨q0, q1, q2, q3, q4, q5, q6, q7⟩ := HX1.out W1 (Below.refl _ _)
      go_wp2_with ((with_reducible refine gate_dst (N := 13) rfl ?_); refine Kd.R_append kTk (w0 := W1) B rfl (.tmp 9) (.tmp 12) 48 30 _ 56 rfl Try.underlying48 infoTk rfl (by decide) (by decide) (.slice Av xs.length cv) (xs) (x.f1) (tkCells6 x.f1) (fun _ => True) (fun _ => False) rfl rfl (tk_M _ _ _) (fun _ h => h.elim) (fun _ _ => trivial) HR1.out (Below.refl _ _) HS1.out HF1.out ?_; intro v3 w3 ho _ hg hat; have HGw3 := Lib.hid (Grew.mk (d := kTk) ho hg hat); obtain ⟨Aw3, cw3, hv⟩ := Kd.R_slice ho; obtain ⟨nw3, hnw3⟩ : ∃ n, (xs ++ ([x.f1] : List Tk)).length = n := ⟨_, rfl⟩; rw [hnw3] at hv; subst hv; clear ho hg hat hnw3)
      go_ret
      exact ⟨_, rfl, by rw [HT.out]; exact Grew.ahead HB1.out HGw3.out⟩
    · have e0 : (x.f0 == 0) = false := beq_eq_false_iff_ne.2 h0
      have HT := Lib.hid (show toks x = toksL x.f2 by rw [toks_eq, if_neg h0])
      clear h0
      go_enter Try.func31, Try.ntmps31
      go_upto_region 1 with (fail)
      rw [HW1.out]
      obtain ⟨q0, q1, q2, q3, q4, q5, q6, q7⟩ := HX1.out W1 (Below.refl _ _)
      clear HW1
      go_wp2
      have HL0 : Hid (Grew kTk 30 B w W1 (.slice Av xs.length cv) (.slice Av xs.length cv) (xs ++ toksL (x.f2.take 0)) ∧ W1.heap[w.heap.size]? = some (.cells #[.int .u8 x.f0, .int .u8 x.f1.f0, .string x.f1.f1, .int .i64 x.f1.f2.f0, .int .i64 x.f1.f2.f1, .int .i64 x.f1.f2.f2, .int .i64 x.f1.f3, .slice A x.f2.length c] TN (0, 0))) := Lib.hid ⟨by rw [List.take_zero, toksL, List.append_nil]; exact ⟨HR1.out, ⟨HB1.out.os, HB1.out.tape, HB1.out.output, HB1.out.size, fun k hk _ => HB1.out.block k hk⟩, .inl rfl⟩, HBX.out⟩
      clear q0 q1 q2 q3 q4 q5 q6 q7
      go_loopw [0, 5] (fun lv iv wr => ∃ (i : Nat) (Al : Option Addr) (n cl : Nat), i ≤ x.f2.length ∧ iv = .int .i64 i ∧ lv = .slice Al n cl ∧ Hid (Grew kTk 30 B w wr (.slice Av xs.length cv) (.slice Al n cl) (xs ++ toksL (x.f2.take i)) ∧ wr.heap[w.heap.size]? = some (.cells #[.int .u8 x.f0, .int .u8 x.f1.f0, .string x.f1.f1, .int .i64 x.f1.f2.f0, .int .i64 x.f1.f2.f1, .int .i64 x.f1.f2.f2, .int .i64 x.f1.f3, .slice A x.f2.length c] TN (0, 0)))) (fun _ iv _ => x.f2.length - (intOf iv).toNat)
      case atStart => exact ⟨0, _, _, _, Nat.zero_le _, rfl, rfl, HL0⟩
      case round =>
        obtain ⟨i, Al, n, cl, hi, rfl, rfl, H⟩ := hrel
        obtain ⟨q0, q1, q2, q3, q4, q5, q6, q7⟩ := nd_box H.out.2 wr (Below.refl _ _)
        have hwr : Below w0.heap.size w0 wr := H.out.1.old HR0.out HBW.out hB
        have HWR := Lib.hid hwr
        by_cases hlt : i < x.f2.length
        · have dlt : decide (i < x.f2.length) = true := decide_eq_true hlt
          obtain ⟨y, hy⟩ : ∃ y, x.f2[i]? = some y := ⟨_, List.getElem?_eq_getElem hlt⟩
          obtain ⟨ad, A1, c1, rfl, hcs, hl1, hC1⟩ := kid_at (Kd.C_below HC.out hwr) i y hlt hy
          obtain ⟨ad', A1', c1', hA', hcs', hl1', hC1'⟩ := kid_at HC.out i y hlt hy
          obtain rfl := Option.some.inj hA'
          have h7 : wr.cell? ⟨(ad.add (i * 8)).block, (ad.add (i * 8)).off + 7, none⟩ = some (.slice A1' y.f2.length c1') := pw_cell_below hwr hcs'.2.2.2.2.2.2.2
          rw [hcs.2.2.2.2.2.2.2] at h7
          injection h7 with h7
          injection h7 with h7 _ h7'
          subst h7 h7'
          have HY := Lib.hid hy
          have hny : nds y ≤ ndsL x.f2 := ndsL_mem (List.mem_of_getElem? hy)
          have hlen2 : (xs ++ toksL (x.f2.take i)).length + 2 * nds y ≤ 1073741824 := by
            have h1 := HLEN.out
            have h2 := toksL_len (x.f2.take i)
            have h3 : ndsL (x.f2.take i) + nds y ≤ ndsL x.f2 := by
              have := take_nds (l := x.f2) (i + 1)
              rw [List.take_add_one, hy, ndsL_append] at this
              simpa [ndsL] using this
            rw [nds_eq] at h1
            simp only [List.length_append, List.length_singleton]
            omega
          have HIH := Lib.hid (IH.out y A1 c1 wr (.slice Al n cl) (xs ++ toksL (x.f2.take i)) (by have := HNN.out.1; rw [nds_eq] at this; omega) hl1 hC1' hwr (Nat.le_trans HBw.out H.out.1.grown.size) H.out.1.row hlen2)
          obtain ⟨k0, k1, k2, k3, k4, k5, k6, k7⟩ := hcs
          have g1 : (0 : Int) ≤ (i : Int) := by omega
          have g2 : (i : Int) < (x.f2.length : Int) := by omega
          clear hwr hy hl1 hC1 hcs' hl1' hC1' hny hlen2
          go_wp2_with (go_at_call 31; refine (HIH.out).mono ?_; rintro e w4 ⟨v4, rfl, hg4⟩; obtain ⟨A4, c4, hv⟩ := Kd.R_slice hg4.row; obtain ⟨n4, hn4⟩ : ∃ n, (xs ++ toksL (x.f2.take i) ++ toks y).length = n := ⟨_, rfl⟩; rw [hn4] at hv; subst hv; clear hn4; have HG4 := Lib.hid hg4; clear hg4)
          go_roundw
          case rel => exact ⟨i + 1, _, _, _, by omega, by go_num, rfl, Lib.hid ⟨by have := H.out.1.trans HG4.out; rw [take_toks HY.out, ← List.append_assoc]; exact this, HG4.out.box H.out.1.row H.out.2 (by decide)⟩⟩
          case measure => simp [intOf] <;> omega
        · have dlt : decide (i < x.f2.length) = false := decide_eq_false hlt
          obtain rfl : i = x.f2.length := by omega
          go_wp2
          go_ret
          refine ⟨_, rfl, ?_⟩
          have := H.out.1
          rw [List.take_length] at this
          rw [HT.out]
          exact this
end Go.Proofs.Ytfefldkljbbbpaa
set_option linter.unusedVariables false
set_option linter.unusedSimpArgs false
namespace Go.Proofs.Ytfefldkljbbbpaa
open Go.RowKit Go.Shelf Go.Proofs.YtfefldkljbbbpaaW.PrintWords Go.Proofs.YtfefldkljbbbpaaW.PrintLast Go.Proofs.YtfefldkljbbbpaaW.PrintMore
set_option maxRecDepth 100000 in
set_option maxHeartbeats 4000000 in
theorem depref_any : ∀ (N : Nat) (x : Nd) (A : Option Addr) (c : Nat) (w : World), nds x ≤ N → nds x ≤ 1073741824 → x.f2.length ≤ c → Kd.C kNd w A x.f2.length x.f2 →
    Calls Try.prog 24 #[.agg #[.int .u8 x.f0, .int .u8 x.f1.f0, .string x.f1.f1, .int .i64 x.f1.f2.f0, .int .i64 x.f1.f2.f1, .int .i64 x.f1.f2.f2, .int .i64 x.f1.f3, .slice A x.f2.length c]] w fun e w' => e = .returned (.int .i64 (dep x)) ∧ Below w.heap.size w w' := by
  intro N
  induction N with
  | zero => intro x A c w hN; have := nds_pos x; omega
  | succ N ih =>
    intro x A c w hN hbig hlc hC
    have hn : x.f2.length ≤ 1073741823 := by rw [nds_eq] at hbig; have := ndsL_len x.f2; omega
    obtain ⟨W1, hW1, h1, hb1, hz1⟩ := nd_new (W := w) (cs := #[.int .u8 x.f0, .int .u8 x.f1.f0, .string x.f1.f1, .int .i64 x.f1.f2.f0, .int .i64 x.f1.f2.f1, .int .i64 x.f1.f2.f2, .int .i64 x.f1.f3, .slice A x.f2.length c])
    have HX1 := Lib.hid (nd_box h1)
    have HB1 := Lib.hid hb1
    have HW1 := Lib.hid hW1
    have HC := Lib.hid hC
    have IH := Lib.hid ih
    have HNN := Lib.hid (And.intro hN hbig)
    clear ih hC hlc hN hbig hW1 h1 hb1 hz1
    by_cases h0 : x.f0 = 0
    · have e0 : (x.f0 == 0) = true := by simp [h0]
      have HT := Lib.hid (show dep x = 0 by rw [dep_eq, if_pos h0])
      clear h0
      go_enter Try.func24, Try.ntmps24
      go_upto_region 1 with (fail)
      rw [HW1.out]
      obtain ⟨q0, q1, q2, q3, q4, q5, q6, q7⟩ := HX1.out W1 (Below.refl _ _)
      go_wp2
      go_ret
      exact ⟨by rw [HT.out]; rfl, HB1.out⟩
    · have e0 : (x.f0 == 0) = false := beq_eq_false_iff_ne.2 h0
      have HT := Lib.hid (show dep x = depL x.f2 + 1 by rw [dep_eq, if_neg h0])
      clear h0
      go_enter Try.func24, Try.ntmps24
      go_upto_region 1 with (fail)
      rw [HW1.out]
      obtain ⟨q0, q1, q2, q3, q4, q5, q6, q7⟩ := HX1.out W1 (Below.refl _ _)
      clear HW1
      go_wp2
      clear q0 q1 q2 q3 q4 q5 q6 q7
      go_loopw [3, 4] (fun mv iv wr => ∃ (i m : Nat), i ≤ x.f2.length ∧ iv = .int .i64 i ∧ mv = .int .i64 m ∧ m ≤ 1073741824 ∧ Hid (m = depL (x.f2.take i) ∧ Below W1.heap.size W1 wr)) (fun _ iv _ => x.f2.length - (intOf iv).toNat)
      case atStart => exact ⟨0, 0, Nat.zero_le _, rfl, rfl, by omega, Lib.hid ⟨by rw [List.take_zero, depL], Below.refl _ _⟩⟩
      case round =>
        obtain ⟨i, m, hi, rfl, rfl, hm, H⟩ := hrel
        obtain ⟨q0, q1, q2, q3, q4, q5, q6, q7⟩ := HX1.out wr H.out.2
        by_cases hlt : i < x.f2.length
        · have dlt : decide (i < x.f2.length) = true := decide_eq_true hlt
          obtain ⟨y, hy⟩ : ∃ y, x.f2[i]? = some y := ⟨_, List.getElem?_eq_getElem hlt⟩
          obtain ⟨ad, A1, c1, rfl, hcs, hl1, hC1⟩ := kid_at (Kd.C_below HC.out (HB1.out.trans (H.out.2.mono HB1.out.size))) i y hlt hy
          have hny : nds y ≤ ndsL x.f2 := ndsL_mem (List.mem_of_getElem? hy)
          have HIH := Lib.hid (IH.out y A1 c1 wr (by have := HNN.out.1; rw [nds_eq] at this; omega) (by have := HNN.out.2; rw [nds_eq] at this; omega) hl1 hC1)
          have HDT := Lib.hid (depL_take x.f2 i y hy)
          have hdy : dep y ≤ 1073741824 := by have := dep_le y; have := HNN.out.2; rw [nds_eq] at this; omega
          obtain ⟨d, hd⟩ : ∃ d, dep y = d := ⟨_, rfl⟩
          have HD := Lib.hid hd
          rw [hd] at hdy HIH
          obtain ⟨k0, k1, k2, k3, k4, k5, k6, k7⟩ := hcs
          have g1 : (0 : Int) ≤ (i : Int) := by omega
          have g2 : (i : Int) < (x.f2.length : Int) := by omega
          clear hy hl1 hC1 hny hd
          by_cases hmd : m < d
          · have d1 : decide ((m : Int) < (d : Int)) = true := decide_eq_true (by omega)
            have d2 : decide (m < d) = true := decide_eq_true (by omega)
            go_wp2_with (go_at_call 24; refine (HIH.out).mono ?_; rintro e w2 ⟨rfl, hb2⟩; have HB2 := Lib.hid hb2; clear hb2)
            go_roundw
            case rel => exact ⟨i + 1, d, by omega, by go_num, rfl, hdy, Lib.hid ⟨by rw [HDT.out, HD.out, ← H.out.1]; omega, H.out.2.trans (HB2.out.mono H.out.2.size)⟩⟩
            case measure => simp [intOf] <;> omega
          · have d1 : decide ((m : Int) < (d : Int)) = false := decide_eq_false (by omega)
            have d2 : decide (m < d) = false := decide_eq_false (by omega)
            go_wp2_with (go_at_call 24; refine (HIH.out).mono ?_; rintro e w2 ⟨rfl, hb2⟩; have HB2 := Lib.hid hb2; clear hb2)
            go_roundw
            case rel => exact ⟨i + 1, m, by omega, by go_num, rfl, hm, Lib.hid ⟨by rw [HDT.out, HD.out, ← H.out.1]; omega, H.out.2.trans (HB2.out.mono H.out.2.size)⟩⟩
            case measure => simp [intOf] <;> omega
        · have dlt : decide (i < x.f2.length) = false := decide_eq_false hlt
          obtain rfl : i = x.f2.length := by omega
          go_wp2
          go_ret
          have hm2 := H.out.1
          rw [List.take_length] at hm2
          exact ⟨by rw [HT.out, ← hm2]; rfl, HB1.out.trans (H.out.2.mono HB1.out.size)⟩
set_option maxRecDepth 100000 in
set_option maxHeartbeats 4000000 in
theorem events_ref (x : Nd) (A : Option Addr) (c : Nat) (w : World) (hbig : 2 * nds x ≤ 1073741824) (hlc : x.f2.length ≤ c) (hC : Kd.C kNd w A x.f2.length x.f2) :
    Calls Try.prog 21 #[.agg #[.int .u8 x.f0, .int .u8 x.f1.f0, .string x.f1.f1, .int .i64 x.f1.f2.f0, .int .i64 x.f1.f2.f1, .int .i64 x.f1.f2.f2, .int .i64 x.f1.f3, .slice A x.f2.length c]] w fun e w' => ∃ v, e = .returned v ∧ Kd.R kEv TE w' w.heap.size (fun _ => True) v (tells x) ∧ Below w.heap.size w w' := by
  obtain ⟨W1, hW1, h1, hb1, hz1⟩ := nd_new (W := w) (cs := #[.int .u8 x.f0, .int .u8 x.f1.f0, .string x.f1.f1, .int .i64 x.f1.f2.f0, .int .i64 x.f1.f2.f1, .int .i64 x.f1.f2.f2, .int .i64 x.f1.f3, .slice A x.f2.length c])
  have HB1 := Lib.hid hb1
  have HA := Lib.hid (add_any w w.heap.size (Nat.le_refl _) (nds x) x A c W1 (.slice none 0 0) [] (Nat.le_refl _) hlc hC hb1 hb1.size (Kd.R_nil kEv TE W1 w.heap.size _) (by simpa using hbig))
  obtain ⟨q0, q1, q2, q3, q4, q5, q6, q7⟩ := nd_box h1 W1 (Below.refl _ _)
  have HW1 := Lib.hid hW1
  clear hW1 h1 hb1 hz1 hC hlc hbig
  go_enter Try.func21, Try.ntmps21
  go_upto_region 1 with (fail)
  rw [HW1.out]
  go_wp2_with (go_at_call 30; refine (HA.out).mono ?_; rintro e w2 ⟨v2, rfl, hg2⟩; have HG2 := Lib.hid hg2; clear hg2)
  go_ret
  exact ⟨_, rfl, by have := HG2.out.row; rwa [List.nil_append] at this, HB1.out.trans ⟨HG2.out.grown.os, HG2.out.grown.tape, HG2.out.grown.output, HG2.out.grown.size, fun k hk => HG2.out.grown.block k (Nat.lt_of_lt_of_le hk HB1.out.size) (fun e => by cases e)⟩⟩
set_option maxRecDepth 100000 in
set_option maxHeartbeats 4000000 in
theorem toks_ref (x : Nd) (A : Option Addr) (c : Nat) (w : World) (hbig : 2 * nds x ≤ 1073741824) (hlc : x.f2.length ≤ c) (hC : Kd.C kNd w A x.f2.length x.f2) :
    Calls Try.prog 22 #[.agg #[.int .u8 x.f0, .int .u8 x.f1.f0, .string x.f1.f1, .int .i64 x.f1.f2.f0, .int .i64 x.f1.f2.f1, .int .i64 x.f1.f2.f2, .int .i64 x.f1.f3, .slice A x.f2.length c]] w fun e w' => ∃ v, e = .returned v ∧ Kd.R kTk 30 w' w.heap.size (fun _ => True) v (toks x) ∧ Below w.heap.size w w' := by
  obtain ⟨W1, hW1, h1, hb1, hz1⟩ := nd_new (W := w) (cs := #[.int .u8 x.f0, .int .u8 x.f1.f0, .string x.f1.f1, .int .i64 x.f1.f2.f0, .int .i64 x.f1.f2.f1, .int .i64 x.f1.f2.f2, .int .i64 x.f1.f3, .slice A x.f2.length c])
  have HB1 := Lib.hid hb1
  have HA := Lib.hid (put_any w w.heap.size (Nat.le_refl _) (nds x) x A c W1 (.slice none 0 0) [] (Nat.le_refl _) hlc hC hb1 hb1.size (Kd.R_nil kTk 30 W1 w.heap.size _) (by simpa using hbig))
  obtain ⟨q0, q1, q2, q3, q4, q5, q6, q7⟩ := nd_box h1 W1 (Below.refl _ _)
  have HW1 := Lib.hid hW1
  clear hW1 h1 hb1 hz1 hC hlc hbig
  go_enter Try.func22, Try.ntmps22
  go_upto_region 1 with (fail)
  rw [HW1.out]
  go_wp2_with (go_at_call 31; refine (HA.out).mono ?_; rintro e w2 ⟨v2, rfl, hg2⟩; have HG2 := Lib.hid hg2; clear hg2)
  go_ret
  exact ⟨_, rfl, by have := HG2.out.row; rwa [List.nil_append] at this, HB1.out.trans ⟨HG2.out.grown.os, HG2.out.grown.tape, HG2.out.grown.output, HG2.out.grown.size, fun k hk => HG2.out.grown.block k (Nat.lt_of_lt_of_le hk HB1.out.size) (fun e => by cases e)⟩⟩
end Go.Proofs.Ytfefldkljbbbpaa
