/- Plain laws of what is printed for chapter 13: same, Depth, weight. -/
import Derived.Test.YtfefldkljbbbpaaTells
import Derived.Test.YtfefldkljbbbpaaPTreeSamex4
set_option linter.unusedVariables false
set_option linter.unusedSimpArgs false
namespace Go.Proofs.Ytfefldkljbbbpaa
open Go.RowKit Go.Proofs.YtfefldkljbbbpaaW.PrintWords Go.Proofs.YtfefldkljbbbpaaW.PrintLast Go.Proofs.YtfefldkljbbbpaaW.PrintMore

theorem str_eq (a b : ByteArray) : a.toList = b.toList ↔ a = b := by
  rw [ByteArray.toList_eq, ByteArray.toList_eq]
  exact ⟨fun h => ByteArray.ext (Array.toList_inj.1 h), fun h => by rw [h]⟩
theorem w64 {a : Int} (h0 : 0 ≤ a) (h1 : a ≤ 2147483648) : wrap64 a = a := by
  unfold wrap64
  omega
/-- Two events alike, as the walk tells it. -/
def evNe (a b : Ev) : Bool := (!(a.f0 == b.f0) || (!(a.f1 == b.f1) || ((!(a.f2.f0 == b.f2.f0) || (!(a.f2.f1.toList == b.f2.f1.toList) || ((!(a.f2.f2.f0 == b.f2.f2.f0) || (!(a.f2.f2.f1 == b.f2.f2.f1) || (!(a.f2.f2.f2 == b.f2.f2.f2)))) || (!(a.f2.f3 == b.f2.f3))))))))
theorem evNe_iff (a b : Ev) : evNe a b = false ↔ a = b := by
  obtain ⟨a0, a1, a2, a3, ⟨a4, a5, a6⟩, a7⟩ := a
  obtain ⟨b0, b1, b2, b3, ⟨b4, b5, b6⟩, b7⟩ := b
  simp only [evNe, Bool.or_eq_false_iff, Bool.not_eq_false', beq_iff_eq, str_eq]
  constructor
  · rintro ⟨rfl, rfl, ⟨rfl, rfl, ⟨rfl, rfl, rfl⟩, rfl⟩⟩
    rfl
  · intro h
    simp only [PTreeSame.S32.mk.injEq, PTreeSame.S30.mk.injEq, PTreeSame.S28.mk.injEq] at h
    obtain ⟨h0, h1, h2, h3, ⟨h4, h5, h6⟩, h7⟩ := h
    exact ⟨h0, h1, ⟨h2, h3, ⟨h4, h5, h6⟩, h7⟩⟩
theorem rd_ev (l : List Ev) (i : Nat) (x : Ev) (h : l[i]? = some x) : PTreeSame.rd_T32 l (i : Int) = x := by
  simp [PTreeSame.rd_T32, List.getD, h]
theorem rd_nd (l : List Nd) (i : Nat) (x : Nd) (h : l[i]? = some x) : PTreeSame.rd_T35 l (i : Int) = x := by
  simp [PTreeSame.rd_T35, List.getD, h]

theorem same_l0 (l m : List Ev) (hl : l.length = m.length) (hs : l.length ≤ 2147483647) : ∀ (d i : Nat), l.length - i = d → i ≤ l.length → ∃ r, PTreeSame.colophonlaw13_same.l0 (d + 1) l m (i : Int) = some r ∧ (r = true ↔ l.drop i = m.drop i) := by
  intro d
  induction d with
  | zero =>
    intro i hd hi
    refine ⟨true, ?_, ?_⟩
    · rw [PTreeSame.colophonlaw13_same.l0, if_neg (by omega)]
    · rw [List.drop_of_length_le (by omega), List.drop_of_length_le (by omega)]
      exact ⟨fun _ => rfl, fun _ => rfl⟩
  | succ d ih =>
    intro i hd hi
    have hlt : i < l.length := by omega
    have hlt' : i < m.length := by omega
    rw [PTreeSame.colophonlaw13_same.l0, if_pos (by omega), if_pos (by omega), if_pos (by omega), rd_ev l i _ (List.getElem?_eq_getElem hlt), rd_ev m i _ (List.getElem?_eq_getElem hlt')]
    rw [show ((i : Int) + 1) = ((i + 1 : Nat) : Int) by push_cast; rfl, w64 (by omega) (by omega)]
    rw [List.drop_eq_getElem_cons hlt, List.drop_eq_getElem_cons hlt', List.cons_eq_cons]
    cases hb : evNe l[i] m[i] with
    | true =>
      have hb' := hb
      unfold evNe at hb'
      rw [if_pos hb']
      refine ⟨false, rfl, ⟨fun h => (by cases h), fun h => ?_⟩⟩
      rw [(evNe_iff _ _).2 h.1] at hb
      cases hb
    | false =>
      have hb' := hb
      unfold evNe at hb'
      rw [if_neg (by rw [hb']; decide)]
      obtain ⟨r, h1, h2⟩ := ih (i + 1) (by omega) (by omega)
      exact ⟨r, h1, h2.trans ⟨fun h => ⟨(evNe_iff _ _).1 hb, h⟩, fun h => h.2⟩⟩
theorem same_f (l m : List Ev) (hs : l.length ≤ 2147483647) : ∃ k r, PTreeSame.colophonlaw13_same.f k l m = some r ∧ (r = true ↔ l = m) := by
  by_cases h : l.length = m.length
  · obtain ⟨r, h1, h2⟩ := same_l0 l m h hs l.length 0 (by omega) (by omega)
    refine ⟨l.length + 1, r, ?_, by simpa using h2⟩
    unfold PTreeSame.colophonlaw13_same.f
    rw [if_pos (by omega)]
    exact h1
  · refine ⟨0, false, ?_, ⟨fun h => (by cases h), fun e => absurd (congrArg List.length e) h⟩⟩
    unfold PTreeSame.colophonlaw13_same.f
    rw [if_neg (by omega)]

/-! How deep a tree is. -/
mutual
def dep : Nd → Nat
  | ⟨k, _, kids⟩ => if k = 0 then 0 else depL kids + 1
def depL : List Nd → Nat
  | [] => 0
  | x :: xs => max (dep x) (depL xs)
end
theorem dep_eq (x : Nd) : dep x = if x.f0 = 0 then 0 else depL x.f2 + 1 := by obtain ⟨k, t, kids⟩ := x; rw [dep]
theorem depL_append : ∀ (a b : List Nd), depL (a ++ b) = max (depL a) (depL b)
  | [], b => by rw [List.nil_append, depL]; omega
  | x :: a, b => by rw [List.cons_append, depL, depL, depL_append a b]; omega
theorem depL_take (l : List Nd) (i : Nat) (x : Nd) (h : l[i]? = some x) : depL (l.take (i + 1)) = max (depL (l.take i)) (dep x) := by
  rw [List.take_add_one, h, depL_append]
  simp [depL]
mutual
theorem dep_le : ∀ x : Nd, dep x ≤ nds x
  | ⟨k, t, kids⟩ => by
    rw [dep, nds]
    have := depL_le kids
    split <;> omega
theorem depL_le : ∀ l : List Nd, depL l ≤ ndsL l
  | [] => by rw [depL]; omega
  | x :: xs => by
    rw [depL, ndsL]
    have := dep_le x
    have := depL_le xs
    omega
end
theorem mx_nat (a b : Nat) : mx (a : Int) (b : Int) = ((max a b : Nat) : Int) := by
  unfold mx
  split <;> omega
theorem leO_some {α : Type} {a b : Option α} (h : LeO a b) {r : α} (ha : a = some r) : b = some r := h r ha
theorem dep_mono {k k' : Nat} (h : k ≤ k') (x : Nd) {r : Int} (hr : PTreeSame.tree_Depth.f k x.f0 x.f1.f0 x.f1.f1 x.f1.f2.f0 x.f1.f2.f1 x.f1.f2.f2 x.f1.f3 x.f2 = some r) : PTreeSame.tree_Depth.f k' x.f0 x.f1.f0 x.f1.f1 x.f1.f2.f0 x.f1.f2.f1 x.f1.f2.f2 x.f1.f3 x.f2 = some r := by
  induction h with
  | refl => exact hr
  | step _ ih => exact leO_some (PTreeSame.tree_Depth.mono _ _ _ _ _ _ _ _ _) ih
theorem depth_f : ∀ (N : Nat) (x : Nd), nds x ≤ N → nds x ≤ 1073741824 → ∃ k, PTreeSame.tree_Depth.f k x.f0 x.f1.f0 x.f1.f1 x.f1.f2.f0 x.f1.f2.f1 x.f1.f2.f2 x.f1.f3 x.f2 = some (dep x : Int) := by
  intro N
  induction N with
  | zero => intro x h; have := nds_pos x; omega
  | succ N ih =>
    intro x hN hs
    by_cases hk : x.f0 = 0
    · exact ⟨1, by rw [PTreeSame.tree_Depth.f, if_pos hk, dep_eq, if_pos hk]; rfl⟩
    · have hsz := nds_eq x
      have hll := ndsL_len x.f2
      -- one number of steps for all kids
      have hK : ∃ K, ∀ y ∈ x.f2, PTreeSame.tree_Depth.f K y.f0 y.f1.f0 y.f1.f1 y.f1.f2.f0 y.f1.f2.f1 y.f1.f2.f2 y.f1.f3 y.f2 = some (dep y : Int) := by
        have : ∀ l : List Nd, (∀ y ∈ l, nds y ≤ N ∧ nds y ≤ 1073741824) → ∃ K, ∀ y ∈ l, PTreeSame.tree_Depth.f K y.f0 y.f1.f0 y.f1.f1 y.f1.f2.f0 y.f1.f2.f1 y.f1.f2.f2 y.f1.f3 y.f2 = some (dep y : Int) := by
          intro l
          induction l with
          | nil => exact fun _ => ⟨0, fun y h => by cases h⟩
          | cons z l ihl =>
            intro h
            obtain ⟨K1, h1⟩ := ihl fun y hy => h y (List.mem_cons_of_mem _ hy)
            obtain ⟨K2, h2⟩ := ih z (h z List.mem_cons_self).1 (h z List.mem_cons_self).2
            refine ⟨max K1 K2, fun y hy => ?_⟩
            rcases List.mem_cons.1 hy with rfl | hy
            · exact dep_mono (Nat.le_max_right _ _) _ h2
            · exact dep_mono (Nat.le_max_left _ _) _ (h1 y hy)
        exact this x.f2 fun y hy => by have := ndsL_mem hy; omega
      obtain ⟨K, hK⟩ := hK
      have hl : ∀ (d i : Nat), x.f2.length - i = d → i ≤ x.f2.length → PTreeSame.tree_Depth.l0 (K + d + 1) (depL (x.f2.take i) : Nat) x.f2 (x.f2.length : Int) (i : Int) = some ((depL x.f2 + 1 : Nat) : Int) := by
        intro d
        have hdl := depL_le x.f2
        induction d with
        | zero =>
          intro i hd hi
          rw [PTreeSame.tree_Depth.l0, if_neg (by omega), List.take_of_length_le (by omega), show ((depL x.f2 : Nat) : Int) + 1 = ((depL x.f2 + 1 : Nat) : Int) by push_cast; rfl, w64 (by omega) (by omega)]
        | succ d ihd =>
          intro i hd hi
          have hlt : i < x.f2.length := by omega
          have hg : x.f2[i]? = some x.f2[i] := List.getElem?_eq_getElem hlt
          rw [show K + (d + 1) + 1 = (K + d + 1) + 1 by omega, PTreeSame.tree_Depth.l0, if_pos (by omega), if_pos (by omega), if_pos (by omega), rd_nd x.f2 i _ hg, dep_mono (k := K) (by omega) x.f2[i] (hK _ (List.getElem_mem _))]
          rw [Option.bind_some, mx_nat, ← depL_take x.f2 i _ hg, show ((i : Int) + 1) = ((i + 1 : Nat) : Int) by push_cast; rfl, w64 (by omega) (by omega)]
          exact ihd (i + 1) (by omega) (by omega)
      refine ⟨K + x.f2.length + 1 + 1, ?_⟩
      rw [PTreeSame.tree_Depth.f, if_neg hk, dep_eq, if_neg hk]
      have := hl x.f2.length 0 (by omega) (by omega)
      rw [List.take_zero, depL] at this
      exact this

/-! What weight counts. -/
abbrev wF (k : Nat) (x : Nd) (n deep : Int) : Option Int := PTreeSame.colophonlaw13_weight.f k x.f0 x.f1.f0 x.f1.f1 x.f1.f2.f0 x.f1.f2.f1 x.f1.f2.f2 x.f1.f3 x.f2 n deep
theorem weight_mono {k k' : Nat} (h : k ≤ k') (x : Nd) {n deep r : Int} (hr : wF k x n deep = some r) : wF k' x n deep = some r := by
  induction h with
  | refl => exact hr
  | step _ ih => exact leO_some (PTreeSame.colophonlaw13_weight.mono _ _ _ _ _ _ _ _ _ _ _) ih
def WOk (k : Nat) (x : Nd) : Prop := ∀ n deep : Int, 0 ≤ n → n ≤ 16777216 → 0 ≤ deep → deep ≤ 3001 → ∃ r, wF k x n deep = some r ∧ n + 1 ≤ r ∧ r ≤ 16777217 ∧ (r ≤ 16777216 → r = n + (nds x : Int))
theorem wOk_mono {k k' : Nat} (h : k ≤ k') {x : Nd} (hx : WOk k x) : WOk k' x := fun n deep h1 h2 h3 h4 => by
  obtain ⟨r, a, b⟩ := hx n deep h1 h2 h3 h4
  exact ⟨r, weight_mono h x a, b⟩
theorem wOk_all {N : Nat} (ih : ∀ x : Nd, nds x ≤ N → ∃ K, WOk K x) : ∀ l : List Nd, (∀ y ∈ l, nds y ≤ N) → ∃ K, ∀ y ∈ l, WOk K y
  | [], _ => ⟨0, fun y h => by cases h⟩
  | z :: l, h => by
    obtain ⟨K1, h1⟩ := wOk_all ih l fun y hy => h y (List.mem_cons_of_mem _ hy)
    obtain ⟨K2, h2⟩ := ih z (h z List.mem_cons_self)
    refine ⟨max K1 K2, fun y hy => ?_⟩
    rcases List.mem_cons.1 hy with rfl | hy
    · exact wOk_mono (Nat.le_max_right _ _) h2
    · exact wOk_mono (Nat.le_max_left _ _) (h1 y hy)
theorem weight_l0 (x : Nd) (K : Nat) (hK : ∀ y ∈ x.f2, WOk K y) (deep : Int) (h3 : 0 ≤ deep) (h4 : deep ≤ 3000) : ∀ (d i : Nat) (n : Int), x.f2.length - i = d → i ≤ x.f2.length → (i : Int) ≤ n → n ≤ 16777217 →
    ∃ r, PTreeSame.colophonlaw13_weight.l0 (K + d + 1) n deep (i : Int) x.f0 x.f1.f0 x.f1.f1 x.f1.f2.f0 x.f1.f2.f1 x.f1.f2.f2 x.f1.f3 x.f2 = some r ∧ n ≤ r ∧ r ≤ 16777217 ∧ (r ≤ 16777216 → r = n + (ndsL (x.f2.drop i) : Int)) := by
  intro d
  induction d with
  | zero =>
    intro i n hd hi hn hm
    refine ⟨n, ?_, Int.le_refl _, hm, fun _ => ?_⟩
    · rw [PTreeSame.colophonlaw13_weight.l0, if_neg (by omega)]
    · rw [List.drop_of_length_le (by omega), ndsL]
      omega
  | succ d ihd =>
    intro i n hd hi hn hm
    have hlt : i < x.f2.length := by omega
    have hg : x.f2[i]? = some x.f2[i] := List.getElem?_eq_getElem hlt
    rw [show K + (d + 1) + 1 = (K + d + 1) + 1 by omega, PTreeSame.colophonlaw13_weight.l0, if_pos (by omega)]
    by_cases hb : n ≤ 16777216
    · obtain ⟨t, ht, h5, h6, h7⟩ := hK x.f2[i] (List.getElem_mem _) n (deep + 1) (by omega) hb (by omega) (by omega)
      have ht' := weight_mono (k' := K + d + 1) (by omega) _ ht
      unfold wF at ht'
      rw [if_pos hb, if_pos (by omega), rd_nd x.f2 i _ hg, w64 (a := deep + 1) (by omega) (by omega), ht', Option.bind_some, show ((i : Int) + 1) = ((i + 1 : Nat) : Int) by push_cast; rfl, w64 (by omega) (by omega)]
      obtain ⟨r, h8, h9, h10, h11⟩ := ihd (i + 1) t (by omega) (by omega) (by push_cast; omega) h6
      refine ⟨r, h8, by omega, h10, fun hr => ?_⟩
      rw [List.drop_eq_getElem_cons hlt, ndsL]
      have := h11 hr
      have := h7 (by omega)
      push_cast
      omega
    · rw [if_neg hb]
      exact ⟨n, rfl, Int.le_refl _, hm, fun h => absurd h hb⟩
theorem weight_f : ∀ (N : Nat) (x : Nd), nds x ≤ N → ∃ K, WOk K x := by
  intro N
  induction N with
  | zero => intro x h; have := nds_pos x; omega
  | succ N ih =>
    intro x hN
    have hsz := nds_eq x
    obtain ⟨K, hK⟩ := wOk_all ih x.f2 fun y hy => by have := ndsL_mem hy; omega
    refine ⟨K + x.f2.length + 1 + 1, fun n deep h1 h2 h3 h4 => ?_⟩
    unfold wF
    rw [PTreeSame.colophonlaw13_weight.f]
    by_cases hd : deep > 3000
    · rw [if_pos hd]
      exact ⟨16777217, rfl, by omega, by omega, fun h => absurd h (by decide)⟩
    · rw [if_neg hd, w64 (by omega) (by omega)]
      obtain ⟨r, h5, h6, h7, h8⟩ := weight_l0 x K hK deep h3 (by omega) x.f2.length 0 (n + 1) (by omega) (by omega) (by omega) (by omega)
      refine ⟨r, h5, h6, h7, fun hr => ?_⟩
      have := h8 hr
      rw [List.drop_zero] at this
      rw [hsz]
      push_cast
      omega
/-- A tree is counted: the number, and that there are no more nodes if it is small. -/
theorem weight_all (x : Nd) : ∃ k r, wF k x 0 0 = some r ∧ (r ≤ 16777216 → nds x ≤ 16777216) := by
  obtain ⟨K, hK⟩ := weight_f (nds x) x (Nat.le_refl _)
  obtain ⟨r, h1, h2, h3, h4⟩ := hK 0 0 (by omega) (by omega) (by omega) (by omega)
  exact ⟨K, r, h1, fun hr => by have := h4 hr; omega⟩
end Go.Proofs.Ytfefldkljbbbpaa
