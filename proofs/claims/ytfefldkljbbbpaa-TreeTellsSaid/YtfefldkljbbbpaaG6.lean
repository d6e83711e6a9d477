/- Plain laws of trees; there and back; boxes. -/
import Derived.Test.YtfefldkljbbbpaaG2
import Derived.Test.YtfefldkljbbbpaaPTreeSamex4
import Derived.Test.YtfefldkljbbbpaaG5
import Derived.Test.YtfefldkljbbbpaaG4
import Derived.Test.YtfefldkljbbbpaaG3
/- Plain laws of what is printed for chapter 13: same, Depth, weight. -/
set_option linter.unusedVariables false
set_option linter.unusedSimpArgs false
namespace Go.Proofs.Ytfefldkljbbbpaa
open Go.RowKit Go.Proofs.YtfefldkljbbbpaaW.PrintWords Go.Proofs.YtfefldkljbbbpaaW.PrintLast Go.Proofs.YtfefldkljbbbpaaW.PrintMore

theorem str_eq (a b : ByteArray) : a.toList = b.toList ↔ a = b := by
  rw [ByteArray.toList_eq, ByteArray.toList_eq]
  exact ⟨fun h => ByteArray.ext (Array.toList_inj.1 h), fun h => by rw [h]⟩
theorem w64 {a : Int} (h0 : 0 ≤ a) (h1 : a ≤ 2147483648) : wrap64 a = a := by
  unfold wrap64
  omega
/-- Two events alike, as the walk tells it. -/
def evNe (a b : Ev) : Bool := (!(a.f0 == b.f0) || (!(a.f1 == b.f1) || ((!(a.f2.f0 == b.f2.f0) || (!(a.f2.f1.toList == b.f2.f1.toList) || ((!(a.f2.f2.f0 == b.f2.f2.f0) || (!(a.f2.f2.f1 == b.f2.f2.f1) || (!(a.f2.f2.f2 == b.f2.f2.f2)))) || (!(a.f2.f3 == b.f2.f3))))))))
theorem evNe_iff (a b : Ev) : evNe a b = false ↔ a = b := by
  obtain ⟨a0, a1, a2, a3, ⟨a4, a5, a6⟩, a7⟩ := a
  obtain ⟨b0, b1, b2, b3, ⟨b4, b5, b6⟩, b7⟩ := b
  simp only [evNe, Bool.or_eq_false_iff, Bool.not_eq_false', beq_iff_eq, str_eq]
  constructor
  · rintro ⟨rfl, rfl, ⟨rfl, rfl, ⟨rfl, rfl, rfl⟩, rfl⟩⟩
    rfl
  · intro h
    simp only [PTreeSame.S32.mk.injEq, PTreeSame.S30.mk.injEq, PTreeSame.S28.mk.injEq] at h
    obtain ⟨h0, h1, h2, h3, ⟨h4, h5, h6⟩, h7⟩ := h
    exact ⟨h0, h1, ⟨h2, h3, ⟨h4, h5, h6⟩, h7⟩⟩
theorem rd_ev (l : List Ev) (i : Nat) (x : Ev) (h : l[i]? = some x) : PTreeSame.rd_T32 l (i : Int) = x := by
  simp [PTreeSame.rd_T32, List.getD, h]
theorem rd_nd (l : List Nd) (i : Nat) (x : Nd) (h : l[i]? = some x) : PTreeSame.rd_T35 l (i : Int) = x := by
  simp [PTreeSame.rd_T35, List.getD, h]

theorem same_l0 (l m : List Ev) (hl : l.length = m.length) (hs : l.length ≤ 2147483647) : ∀ (d i : Nat), l.length - i = d → i ≤ l.length → ∃ r, PTreeSame.colophonlaw13_same.l0 (d + 1) l m (i : Int) = some r ∧ (r = true ↔ l.drop i = m.drop i) := by
  intro d
  induction d with
  | zero =>
    intro i hd hi
    refine ⟨true, ?_, ?_⟩
    · rw [PTreeSame.colophonlaw13_same.l0, if_neg (by omega)]
    · rw [List.drop_of_length_le (by omega), List.drop_of_length_le (by omega)]
      exact ⟨fun _ => rfl, fun _ => rfl⟩
  | succ d ih =>
    intro i hd hi
    have hlt : i < l.length := by omega
    have hlt' : i < m.length := by omega
    rw [PTreeSame.colophonlaw13_same.l0, if_pos (by omega), if_pos (by omega), if_pos (by omega), rd_ev l i _ (List.getElem?_eq_getElem hlt), rd_ev m i _ (List.getElem?_eq_getElem hlt')]
    rw [show ((i : Int) + 1) = ((i + 1 : Nat) : Int) by push_cast; rfl, w64 (by omega) (by omega)]
    rw [List.drop_eq_getElem_cons hlt, List.drop_eq_getElem_cons hlt', List.cons_eq_cons]
    cases hb : evNe l[i] m[i] with
    | true =>
      have hb' := hb
      unfold evNe at hb'
      rw [if_pos hb']
      refine ⟨false, rfl, ⟨fun h => (by cases h), fun h => ?_⟩⟩
      rw [(evNe_iff _ _).2 h.1] at hb
      cases hb
    | false =>
      have hb' := hb
      unfold evNe at hb'
      rw [if_neg (by rw [hb']; decide)]
      obtain ⟨r, h1, h2⟩ := ih (i + 1) (by omega) (by omega)
      exact ⟨r, h1, h2.trans ⟨fun h => ⟨(evNe_iff _ _).1 hb, h⟩, fun h => h.2⟩⟩
theorem same_f (l m : List Ev) (hs : l.length ≤ 2147483647) : ∃ k r, PTreeSame.colophonlaw13_same.f k l m = some r ∧ (r = true ↔ l = m) := by
  by_cases h : l.length = m.length
  · obtain ⟨r, h1, h2⟩ := same_l0 l m h hs l.length 0 (by omega) (by omega)
    refine ⟨l.length + 1, r, ?_, by simpa using h2⟩
    unfold PTreeSame.colophonlaw13_same.f
    rw [if_pos (by omega)]
    exact h1
  · refine ⟨0, false, ?_, ⟨fun h => (by cases h), fun e => absurd (congrArg List.length e) h⟩⟩
    unfold PTreeSame.colophonlaw13_same.f
    rw [if_neg (by omega)]

/-! How deep a tree is. -/
mutual
def dep : Nd → Nat
  | ⟨k, _, kids⟩ => if k = 0 then 0 else depL kids + 1
def depL : List Nd → Nat
  | [] => 0
  | x :: xs => max (dep x) (depL xs)
end
theorem dep_eq (x : Nd) : dep x = if x.f0 = 0 then 0 else depL x.f2 + 1 := by obtain ⟨k, t, kids⟩ := x; rw [dep]
theorem depL_append : ∀ (a b : List Nd), depL (a ++ b) = max (depL a) (depL b)
  | [], b => by rw [List.nil_append, depL]; omega
  | x :: a, b => by rw [List.cons_append, depL, depL, depL_append a b]; omega
theorem depL_take (l : List Nd) (i : Nat) (x : Nd) (h : l[i]? = some x) : depL (l.take (i + 1)) = max (depL (l.take i)) (dep x) := by
  rw [List.take_add_one, h, depL_append]
  simp [depL]
mutual
theorem dep_le : ∀ x : Nd, dep x ≤ nds x
  | ⟨k, t, kids⟩ => by
    rw [dep, nds]
    have := depL_le kids
    split <;> omega
theorem depL_le : ∀ l : List Nd, depL l ≤ ndsL l
  | [] => by rw [depL]; omega
  | x :: xs => by
    rw [depL, ndsL]
    have := dep_le x
    have := depL_le xs
    omega
end
theorem mx_nat (a b : Nat) : mx (a : Int) (b : Int) = ((max a b : Nat) : Int) := by
  unfold mx
  split <;> omega
theorem leO_some {α : Type} {a b : Option α} (h : LeO a b) {r : α} (ha : a = some r) : b = some r := h r ha
theorem dep_mono {k k' : Nat} (h : k ≤ k') (x : Nd) {r : Int} (hr : PTreeSame.tree_Depth.f k x.f0 x.f1.f0 x.f1.f1 x.f1.f2.f0 x.f1.f2.f1 x.f1.f2.f2 x.f1.f3 x.f2 = some r) : PTreeSame.tree_Depth.f k' x.f0 x.f1.f0 x.f1.f1 x.f1.f2.f0 x.f1.f2.f1 x.f1.f2.f2 x.f1.f3 x.f2 = some r := by
  induction h with
  | refl => exact hr
  | step _ ih => exact leO_some (PTreeSame.tree_Depth.mono _ _ _ _ _ _ _ _ _) ih
theorem depth_f : ∀ (N : Nat) (x : Nd), nds x ≤ N → nds x ≤ 1073741824 → ∃ k, PTreeSame.tree_Depth.f k x.f0 x.f1.f0 x.f1.f1 x.f1.f2.f0 x.f1.f2.f1 x.f1.f2.f2 x.f1.f3 x.f2 = some (dep x : Int) := by
  intro N
  induction N with
  | zero => intro x h; have := nds_pos x; omega
  | succ N ih =>
    intro x hN hs
    by_cases hk : x.f0 = 0
    · exact ⟨1, by rw [PTreeSame.tree_Depth.f, if_pos hk, dep_eq, if_pos hk]; rfl⟩
    · have hsz := nds_eq x
      have hll := ndsL_len x.f2
      -- one number of steps for all kids
      have hK : ∃ K, ∀ y ∈ x.f2, PTreeSame.tree_Depth.f K y.f0 y.f1.f0 y.f1.f1 y.f1.f2.f0 y.f1.f2.f1 y.f1.f2.f2 y.f1.f3 y.f2 = some (dep y : Int) := by
        have : ∀ l : List Nd, (∀ y ∈ l, nds y ≤ N ∧ nds y ≤ 1073741824) → ∃ K, ∀ y ∈ l, PTreeSame.tree_Depth.f K y.f0 y.f1.f0 y.f1.f1 y.f1.f2.f0 y.f1.f2.f1 y.f1.f2.f2 y.f1.f3 y.f2 = some (dep y : Int) := by
          intro l
          induction l with
          | nil => exact fun _ => ⟨0, fun y h => by cases h⟩
          | cons z l ihl =>
            intro h
            obtain ⟨K1, h1⟩ := ihl fun y hy => h y (List.mem_cons_of_mem _ hy)
            obtain ⟨K2, h2⟩ := ih z (h z List.mem_cons_self).1 (h z List.mem_cons_self).2
            refine ⟨max K1 K2, fun y hy => ?_⟩
            rcases List.mem_cons.1 hy with rfl | hy
            · exact dep_mono (Nat.le_max_right _ _) _ h2
            · exact dep_mono (Nat.le_max_left _ _) _ (h1 y hy)
        exact this x.f2 fun y hy => by have := ndsL_mem hy; omega
      obtain ⟨K, hK⟩ := hK
      have hl : ∀ (d i : Nat), x.f2.length - i = d → i ≤ x.f2.length → PTreeSame.tree_Depth.l0 (K + d + 1) (depL (x.f2.take i) : Nat) x.f2 (x.f2.length : Int) (i : Int) = some ((depL x.f2 + 1 : Nat) : Int) := by
        intro d
        have hdl := depL_le x.f2
        induction d with
        | zero =>
          intro i hd hi
          rw [PTreeSame.tree_Depth.l0, if_neg (by omega), List.take_of_length_le (by omega), show ((depL x.f2 : Nat) : Int) + 1 = ((depL x.f2 + 1 : Nat) : Int) by push_cast; rfl, w64 (by omega) (by omega)]
        | succ d ihd =>
          intro i hd hi
          have hlt : i < x.f2.length := by omega
          have hg : x.f2[i]? = some x.f2[i] := List.getElem?_eq_getElem hlt
          rw [show K + (d + 1) + 1 = (K + d + 1) + 1 by omega, PTreeSame.tree_Depth.l0, if_pos (by omega), if_pos (by omega), if_pos (by omega), rd_nd x.f2 i _ hg, dep_mono (k := K) (by omega) x.f2[i] (hK _ (List.getElem_mem _))]
          rw [Option.bind_some, mx_nat, ← depL_take x.f2 i _ hg, show ((i : Int) + 1) = ((i + 1 : Nat) : Int) by push_cast; rfl, w64 (by omega) (by omega)]
          exact ihd (i + 1) (by omega) (by omega)
      refine ⟨K + x.f2.length + 1 + 1, ?_⟩
      rw [PTreeSame.tree_Depth.f, if_neg hk, dep_eq, if_neg hk]
      have := hl x.f2.length 0 (by omega) (by omega)
      rw [List.take_zero, depL] at this
      exact this

/-! What weight counts. -/
abbrev wF (k : Nat) (x : Nd) (n deep : Int) : Option Int := PTreeSame.colophonlaw13_weight.f k x.f0 x.f1.f0 x.f1.f1 x.f1.f2.f0 x.f1.f2.f1 x.f1.f2.f2 x.f1.f3 x.f2 n deep
theorem weight_mono {k k' : Nat} (h : k ≤ k') (x : Nd) {n deep r : Int} (hr : wF k x n deep = some r) : wF k' x n deep = some r := by
  induction h with
  | refl => exact hr
  | step _ ih => exact leO_some (PTreeSame.colophonlaw13_weight.mono _ _ _ _ _ _ _ _ _ _ _) ih
def WOk (k : Nat) (x : Nd) : Prop := ∀ n deep : Int, 0 ≤ n → n ≤ 16777216 → 0 ≤ deep → deep ≤ 3001 → ∃ r, wF k x n deep = some r ∧ n + 1 ≤ r ∧ r ≤ 16777217 ∧ (r ≤ 16777216 → r = n + (nds x : Int))
theorem wOk_mono {k k' : Nat} (h : k ≤ k') {x : Nd} (hx : WOk k x) : WOk k' x := fun n deep h1 h2 h3 h4 => by
  obtain ⟨r, a, b⟩ := hx n deep h1 h2 h3 h4
  exact ⟨r, weight_mono h x a, b⟩
theorem wOk_all {N : Nat} (ih : ∀ x : Nd, nds x ≤ N → ∃ K, WOk K x) : ∀ l : List Nd, (∀ y ∈ l, nds y ≤ N) → ∃ K, ∀ y ∈ l, WOk K y
  | [], _ => ⟨0, fun y h => by cases h⟩
  | z :: l, h => by
    obtain ⟨K1, h1⟩ := wOk_all ih l fun y hy => h y (List.mem_cons_of_mem _ hy)
    obtain ⟨K2, h2⟩ := ih z (h z List.mem_cons_self)
    refine ⟨max K1 K2, fun y hy => ?_⟩
    rcases List.mem_cons.1 hy with rfl | hy
    · exact wOk_mono (Nat.le_max_right _ _) h2
    · exact wOk_mono (Nat.le_max_left _ _) (h1 y hy)
theorem weight_l0 (x : Nd) (K : Nat) (hK : ∀ y ∈ x.f2, WOk K y) (deep : Int) (h3 : 0 ≤ deep) (h4 : deep ≤ 3000) : ∀ (d i : Nat) (n : Int), x.f2.length - i = d → i ≤ x.f2.length → (i : Int) ≤ n → n ≤ 16777217 →
    ∃ r, PTreeSame.colophonlaw13_weight.l0 (K + d + 1) n deep (i : Int) x.f0 x.f1.f0 x.f1.f1 x.f1.f2.f0 x.f1.f2.f1 x.f1.f2.f2 x.f1.f3 x.f2 = some r ∧ n ≤ r ∧ r ≤ 16777217 ∧ (r ≤ 16777216 → r = n + (ndsL (x.f2.drop i) : Int)) := by
  intro d
  induction d with
  | zero =>
    intro i n hd hi hn hm
    refine ⟨n, ?_, Int.le_refl _, hm, fun _ => ?_⟩
    · rw [PTreeSame.colophonlaw13_weight.l0, if_neg (by omega)]
    · rw [List.drop_of_length_le (by omega), ndsL]
      omega
  | succ d ihd =>
    intro i n hd hi hn hm
    have hlt : i < x.f2.length := by omega
    have hg : x.f2[i]? = some x.f2[i] := List.getElem?_eq_getElem hlt
    rw [show K + (d + 1) + 1 = (K + d + 1) + 1 by omega, PTreeSame.colophonlaw13_weight.l0, if_pos (by omega)]
    by_cases hb : n ≤ 16777216
    · obtain ⟨t, ht, h5, h6, h7⟩ := hK x.f2[i] (List.getElem_mem _) n (deep + 1) (by omega) hb (by omega) (by omega)
      have ht' := weight_mono (k' := K + d + 1) (by omega) _ ht
      unfold wF at ht'
      rw [if_pos hb, if_pos (by omega), rd_nd x.f2 i _ hg, w64 (a := deep + 1) (by omega) (by omega), ht', Option.bind_some, show ((i : Int) + 1) = ((i + 1 : Nat) : Int) by push_cast; rfl, w64 (by omega) (by omega)]
      obtain ⟨r, h8, h9, h10, h11⟩ := ihd (i + 1) t (by omega) (by omega) (by push_cast; omega) h6
      refine ⟨r, h8, by omega, h10, fun hr => ?_⟩
      rw [List.drop_eq_getElem_cons hlt, ndsL]
      have := h11 hr
      have := h7 (by omega)
      push_cast
      omega
    · rw [if_neg hb]
      exact ⟨n, rfl, Int.le_refl _, hm, fun h => absurd h hb⟩
theorem weight_f : ∀ (N : Nat) (x : Nd), nds x ≤ N → ∃ K, WOk K x := by
  intro N
  induction N with
  | zero => intro x h; have := nds_pos x; omega
  | succ N ih =>
    intro x hN
    have hsz := nds_eq x
    obtain ⟨K, hK⟩ := wOk_all ih x.f2 fun y hy => by have := ndsL_mem hy; omega
    refine ⟨K + x.f2.length + 1 + 1, fun n deep h1 h2 h3 h4 => ?_⟩
    unfold wF
    rw [PTreeSame.colophonlaw13_weight.f]
    by_cases hd : deep > 3000
    · rw [if_pos hd]
      exact ⟨16777217, rfl, by omega, by omega, fun h => absurd h (by decide)⟩
    · rw [if_neg hd, w64 (by omega) (by omega)]
      obtain ⟨r, h5, h6, h7, h8⟩ := weight_l0 x K hK deep h3 (by omega) x.f2.length 0 (n + 1) (by omega) (by omega) (by omega) (by omega)
      refine ⟨r, h5, h6, h7, fun hr => ?_⟩
      have := h8 hr
      rw [List.drop_zero] at this
      rw [hsz]
      push_cast
      omega
/-- A tree is counted: the number, and that there are no more nodes if it is small. -/
theorem weight_all (x : Nd) : ∃ k r, wF k x 0 0 = some r ∧ (r ≤ 16777216 → nds x ≤ 16777216) := by
  obtain ⟨K, hK⟩ := weight_f (nds x) x (Nat.le_refl _)
  obtain ⟨r, h1, h2, h3, h4⟩ := hK 0 0 (by omega) (by omega) (by omega) (by omega)
  exact ⟨K, r, h1, fun hr => by have := h4 hr; omega⟩
end Go.Proofs.Ytfefldkljbbbpaa

/- There and back, in plain words: what Build takes, Events tells. -/
set_option linter.unusedVariables false
set_option linter.unusedSimpArgs false
namespace Go.Proofs.Ytfefldkljbbbpaa
open Go.RowKit Go.Proofs.YtfefldkljbbbpaaW.PrintWords Go.Proofs.YtfefldkljbbbpaaW.PrintLast Go.Proofs.YtfefldkljbbbpaaW.PrintMore

/-- An event as Events writes it. -/
def canon (e : Ev) : Ev := if e.f0 = 2 ∨ e.f0 = 4 then ⟨e.f0, 0, e.f2⟩ else ⟨e.f0, e.f1, noTk⟩
/-- What has been told of the open nodes, the innermost first. -/
def toldS : List Nd → List Ev
  | [] => []
  | t :: S => toldS S ++ (evOpen t.f0 :: tellsL t.f2)
theorem toldS_add (t x : Nd) (S : List Nd) : toldS (addKid t x :: S) = toldS (t :: S) ++ tells x := by
  simp [toldS, addKid, tellsL_append, tellsL_one]
theorem run_tells : ∀ (l : List Ev) (S : List Nd) (a : Nd), (∀ t ∈ S, t.f0 ≠ 0) → runB l S = some a → toldS S ++ l.map canon = tells a ∧ a.f0 ≠ 0 := by
  intro l
  induction l with
  | nil => intro S a _ h; simp [runB] at h
  | cons e l ih =>
    intro S a hS h
    unfold runB at h
    by_cases h1 : e.f0 = 1
    · rw [if_pos h1] at h
      by_cases h2 : e.f1 = 0 ∨ S.length = 1000
      · rw [if_pos h2] at h; cases h
      · rw [if_neg h2] at h
        obtain ⟨h3, h4⟩ := ih _ a (fun t ht => by
          rcases List.mem_cons.1 ht with rfl | ht
          · exact fun h0 => h2 (.inl h0)
          · exact hS t ht) h
        refine ⟨?_, h4⟩
        rw [← h3]
        simp [toldS, tellsL, canon, h1, evOpen]
    · rw [if_neg h1] at h
      by_cases h2 : e.f0 = 2 ∨ e.f0 = 4
      · rw [if_pos h2] at h
        cases S with
        | nil => cases h
        | cons t S' =>
          dsimp only at h
          by_cases h3 : isNote e.f2 = (e.f0 == 4)
          · rw [if_pos h3] at h
            obtain ⟨h5, h4⟩ := ih _ a (fun x hx => by
              rcases List.mem_cons.1 hx with rfl | hx
              · exact hS t List.mem_cons_self
              · exact hS x (List.mem_cons_of_mem _ hx)) h
            refine ⟨?_, h4⟩
            rw [← h5, toldS_add, tells_eq, if_pos rfl]
            have : canon e = evTok e.f2 := by
              unfold canon evTok
              rw [if_pos h2, h3]
              rcases h2 with h2 | h2 <;> rw [h2] <;> rfl
            simp [this]
          · rw [if_neg h3] at h; cases h
      · rw [if_neg h2] at h
        by_cases h3 : e.f0 = 3
        · rw [if_pos h3] at h
          cases S with
          | nil => cases h
          | cons t S' =>
            dsimp only at h
            by_cases h5 : t.f0 = e.f1
            · rw [if_pos h5] at h
              have hc : canon e = evClose t.f0 := by
                unfold canon
                rw [if_neg h2, h3, h5]
                rfl
              have ht : tells t = evOpen t.f0 :: (tellsL t.f2 ++ [evClose t.f0]) := by rw [tells_eq, if_neg (hS t List.mem_cons_self)]
              cases S' with
              | nil =>
                dsimp only at h
                by_cases h6 : l = []
                · rw [if_pos h6] at h
                  cases h
                  subst h6
                  exact ⟨by simp [toldS, hc, ht], hS _ List.mem_cons_self⟩
                · rw [if_neg h6] at h; cases h
              | cons u S'' =>
                dsimp only at h
                obtain ⟨h7, h4⟩ := ih _ a (fun x hx => by
                  rcases List.mem_cons.1 hx with rfl | hx
                  · exact hS u (List.mem_cons_of_mem _ List.mem_cons_self)
                  · exact hS x (List.mem_cons_of_mem _ (List.mem_cons_of_mem _ hx))) h
                refine ⟨?_, h4⟩
                rw [← h7, toldS_add, ht]
                simp [toldS, hc]
            · rw [if_neg h5] at h; cases h
        · rw [if_neg h3] at h; cases h
theorem bld_tells {l : List Ev} {a : Nd} (h : runB l [] = some a) : tells a = l.map canon ∧ a.f0 ≠ 0 := by
  obtain ⟨h1, h2⟩ := run_tells l [] a (by simp) h
  exact ⟨by rw [← h1]; rfl, h2⟩
end Go.Proofs.Ytfefldkljbbbpaa

/- There and back, in plain words: what Events tells, Build takes just where the tree is neither flat nor too deep. -/
set_option linter.unusedVariables false
set_option linter.unusedSimpArgs false
namespace Go.Proofs.Ytfefldkljbbbpaa
open Go.RowKit Go.Proofs.YtfefldkljbbbpaaW.PrintWords Go.Proofs.YtfefldkljbbbpaaW.PrintLast Go.Proofs.YtfefldkljbbbpaaW.PrintMore

mutual
/-- A tree as Build makes it. -/
def canonN : Nd → Nd
  | ⟨k, t, kids⟩ => if k = 0 then ⟨0, t, []⟩ else ⟨k, noTk, canonL kids⟩
def canonL : List Nd → List Nd
  | [] => []
  | x :: xs => canonN x :: canonL xs
end
theorem run_open (k : Int) (rest : List Ev) (S : List Nd) (hk : k ≠ 0) : runB (evOpen k :: rest) S = if S.length = 1000 then none else runB rest (⟨k, noTk, []⟩ :: S) := by
  conv => lhs; unfold runB
  simp [evOpen, hk]
theorem run_tok (t : Tk) (rest : List Ev) (u : Nd) (S : List Nd) : runB (evTok t :: rest) (u :: S) = runB rest (addKid u ⟨0, t, []⟩ :: S) := by
  conv => lhs; unfold runB
  cases h : isNote t <;> simp [evTok, h]
theorem run_tok0 (t : Tk) (rest : List Ev) : runB (evTok t :: rest) [] = none := by
  unfold runB
  cases h : isNote t <;> simp [evTok, h]
theorem run_close (k : Int) (rest : List Ev) (u v : Nd) (S : List Nd) (hk : u.f0 = k) : runB (evClose k :: rest) (u :: v :: S) = runB rest (addKid v u :: S) := by
  conv => lhs; unfold runB
  simp [evClose, hk]
theorem run_close0 (k : Int) (rest : List Ev) (u : Nd) (hk : u.f0 = k) : runB (evClose k :: rest) [u] = if rest = [] then some u else none := by
  unfold runB
  simp [evClose, hk]
mutual
theorem run_node : ∀ (n : Nd) (rest : List Ev) (S : List Nd), S.length ≤ 1000 → n.f0 ≠ 0 → runB (tells n ++ rest) S = if dep n + S.length ≤ 1000 then (match S with | [] => if rest = [] then some (canonN n) else none | u :: S' => runB rest (addKid u (canonN n) :: S')) else none
  | ⟨k, t, kids⟩, rest, S, hS, hk => by
    have hk' : k ≠ 0 := hk
    rw [tells_eq, if_neg hk, dep_eq, if_neg hk, canonN, if_neg hk']
    dsimp only
    rw [List.cons_append, List.append_assoc, run_open _ _ _ hk']
    by_cases h1 : S.length = 1000
    · rw [if_pos h1, if_neg (by omega)]
    · rw [if_neg h1, run_kids kids _ _ S (by omega)]
      by_cases h2 : depL kids + (S.length + 1) ≤ 1000
      · rw [if_pos h2, if_pos (by omega), List.nil_append]
        cases S with
        | nil => exact run_close0 _ _ _ rfl
        | cons u S' => exact run_close _ _ _ _ _ rfl
      · rw [if_neg h2, if_neg (by omega)]
theorem run_kids : ∀ (l : List Nd) (rest : List Ev) (u : Nd) (S : List Nd), S.length < 1000 → runB (tellsL l ++ rest) (u :: S) = if depL l + (S.length + 1) ≤ 1000 then runB rest (⟨u.f0, u.f1, u.f2 ++ canonL l⟩ :: S) else none
  | [], rest, u, S, hS => by
    rw [tellsL, depL, canonL, List.nil_append, List.append_nil, if_pos (by omega)]
    obtain ⟨a, b, c⟩ := u
    rfl
  | x :: xs, rest, u, S, hS => by
    rw [tellsL, depL, canonL, List.append_assoc]
    by_cases hx : x.f0 = 0
    · have hd : dep x = 0 := by rw [dep_eq, if_pos hx]
      have hc : canonN x = ⟨0, x.f1, []⟩ := by obtain ⟨k, t, kids⟩ := x; rw [canonN, if_pos hx]
      rw [tells_eq, if_pos hx, List.singleton_append, run_tok, run_kids xs rest _ S hS, hd, hc]
      simp [addKid, List.append_assoc]
    · rw [run_node x _ (u :: S) (by simp; omega) hx]
      dsimp only
      by_cases h1 : dep x + (u :: S).length ≤ 1000
      · rw [if_pos h1, run_kids xs rest _ S hS]
        simp only [List.length_cons] at h1
        by_cases h2 : depL xs + (S.length + 1) ≤ 1000
        · rw [if_pos h2, if_pos (by omega)]
          simp [addKid, List.append_assoc]
        · rw [if_neg h2, if_neg (by omega)]
      · simp only [List.length_cons] at h1
        rw [if_neg (by simpa using h1), if_neg (by omega)]
end
/-- Build takes what Events tells just where 1 ≤ depth ≤ 1000, and makes the tree as Build makes it. -/
theorem back_run (n : Nd) : runB (tells n) [] = if 1 ≤ dep n ∧ dep n ≤ 1000 then some (canonN n) else none := by
  by_cases hk : n.f0 = 0
  · rw [tells_eq, if_pos hk, run_tok0, dep_eq, if_pos hk, if_neg (by omega)]
  · have := run_node n [] [] (by decide) hk
    rw [List.append_nil] at this
    rw [this]
    have h1 : 1 ≤ dep n := by rw [dep_eq, if_neg hk]; omega
    by_cases h2 : dep n ≤ 1000
    · have h3 : dep n + ([] : List Nd).length ≤ 1000 := h2
      have h4 : 1 ≤ dep n ∧ dep n ≤ 1000 := ⟨h1, h2⟩
      simp only [if_pos h3, if_pos h4]
      rfl
    · have h3 : ¬ dep n + ([] : List Nd).length ≤ 1000 := h2
      have h4 : ¬ (1 ≤ dep n ∧ dep n ≤ 1000) := fun h => h2 h.2
      simp only [if_neg h3, if_neg h4]
end Go.Proofs.Ytfefldkljbbbpaa

/- There and back: the tree that comes back is the same, and as deep. -/
set_option linter.unusedVariables false
set_option linter.unusedSimpArgs false
namespace Go.Proofs.Ytfefldkljbbbpaa
open Go.RowKit Go.Proofs.YtfefldkljbbbpaaW.PrintWords Go.Proofs.YtfefldkljbbbpaaW.PrintLast Go.Proofs.YtfefldkljbbbpaaW.PrintMore

theorem canon_f0 (x : Nd) : (canonN x).f0 = x.f0 := by
  obtain ⟨k, t, kids⟩ := x
  rw [canonN]
  by_cases h : k = 0
  · rw [if_pos h, h]
  · rw [if_neg h]
theorem canon_leaf (x : Nd) (h : x.f0 = 0) : canonN x = ⟨0, x.f1, []⟩ := by obtain ⟨k, t, kids⟩ := x; rw [canonN, if_pos h]
theorem canon_inner (x : Nd) (h : x.f0 ≠ 0) : canonN x = ⟨x.f0, noTk, canonL x.f2⟩ := by obtain ⟨k, t, kids⟩ := x; rw [canonN, if_neg h]
theorem canon_kid (x : Nd) : isKid (canonN x) = isKid x := by
  by_cases h : x.f0 = 0
  · rw [canon_leaf x h]
    simp [isKid, h]
  · unfold isKid
    have hb : (x.f0 != 0) = true := bne_iff_ne.2 h
    rw [canon_f0, hb, Bool.true_or, Bool.true_or]
theorem canonL_map : ∀ l : List Nd, canonL l = l.map canonN
  | [] => by rw [canonL]; rfl
  | x :: xs => by rw [canonL, canonL_map xs]; rfl
theorem plain_canon : ∀ l : List Nd, plainL (canonL l) = (plainL l).map canonN
  | [] => by rw [canonL]; rfl
  | x :: xs => by
    rw [canonL]
    unfold plainL
    have := plain_canon xs
    unfold plainL at this
    by_cases h : isKid x = true
    · rw [List.filter_cons_of_pos (by rw [canon_kid]; exact h), List.filter_cons_of_pos h, this, List.map_cons]
    · rw [List.filter_cons_of_neg (by rw [canon_kid]; exact h), List.filter_cons_of_neg h, this]
theorem same_canon : ∀ (k : Nat) (x : Nd), sameN k (canonN x) x = true
  | 0, x => by rw [sameN]
  | k + 1, x => by
    rw [sameN, if_pos (canon_f0 x), canon_f0]
    by_cases h : x.f0 = 0
    · rw [if_pos h, canon_leaf x h]
      simp
    · rw [if_neg h, canon_inner x h]
      dsimp only
      rw [plain_canon, List.length_map, beq_self_eq_true, Bool.true_and, List.all_eq_true]
      intro q hq
      obtain ⟨i, hi⟩ := List.mem_iff_getElem?.1 hq
      rw [List.getElem?_zip_eq_some] at hi
      obtain ⟨h1, h2⟩ := hi
      rw [List.getElem?_map, h2] at h1
      have : q.1 = canonN q.2 := by simpa using h1.symm
      rw [this]
      exact same_canon k q.2
mutual
theorem dep_canon : ∀ x : Nd, dep (canonN x) = dep x
  | ⟨k, t, kids⟩ => by
    rw [canonN]
    by_cases h : k = 0
    · rw [if_pos h, dep, dep, if_pos rfl, if_pos h]
    · rw [if_neg h, dep, dep, if_neg h, if_neg h, depL_canon kids]
theorem depL_canon : ∀ l : List Nd, depL (canonL l) = depL l
  | [] => by rw [canonL]
  | x :: xs => by rw [canonL, depL, depL, dep_canon x, depL_canon xs]
end
mutual
theorem nds_canon : ∀ x : Nd, nds (canonN x) ≤ nds x
  | ⟨k, t, kids⟩ => by
    rw [canonN]
    by_cases h : k = 0
    · rw [if_pos h, nds, nds, ndsL]; omega
    · rw [if_neg h, nds, nds]
      have := ndsL_canon kids
      omega
theorem ndsL_canon : ∀ l : List Nd, ndsL (canonL l) ≤ ndsL l
  | [] => by rw [canonL]; omega
  | x :: xs => by
    rw [canonL, ndsL, ndsL]
    have := nds_canon x
    have := ndsL_canon xs
    omega
end
end Go.Proofs.Ytfefldkljbbbpaa

/- Boxes of nodes and rows of events: their cells, also later; how many nodes Build makes. -/
set_option linter.unusedVariables false
set_option linter.unusedSimpArgs false
namespace Go.Proofs.Ytfefldkljbbbpaa
open Go.RowKit Go.Shelf Go.Proofs.YtfefldkljbbbpaaW.PrintWords Go.Proofs.YtfefldkljbbbpaaW.PrintLast Go.Proofs.YtfefldkljbbbpaaW.PrintMore

theorem nd_box {W : World} {b : Nat} {v0 v1 v2 v3 v4 v5 v6 v7 : Value} (h : W.heap[b]? = some (.cells #[v0, v1, v2, v3, v4, v5, v6, v7] TN (0, 0))) (V : World) (hV : Below W.heap.size W V) :
    V.cell? ⟨b, 0, none⟩ = some v0 ∧ V.cell? ⟨b, 1, none⟩ = some v1 ∧ V.cell? ⟨b, 2, none⟩ = some v2 ∧ V.cell? ⟨b, 3, none⟩ = some v3 ∧ V.cell? ⟨b, 4, none⟩ = some v4 ∧ V.cell? ⟨b, 5, none⟩ = some v5 ∧ V.cell? ⟨b, 6, none⟩ = some v6 ∧ V.cell? ⟨b, 7, none⟩ = some v7 :=
  ⟨pw_cell_below hV (cell_of_row _ _ _ _ _ _ h), pw_cell_below hV (cell_of_row _ _ _ _ _ _ h), pw_cell_below hV (cell_of_row _ _ _ _ _ _ h), pw_cell_below hV (cell_of_row _ _ _ _ _ _ h), pw_cell_below hV (cell_of_row _ _ _ _ _ _ h), pw_cell_below hV (cell_of_row _ _ _ _ _ _ h), pw_cell_below hV (cell_of_row _ _ _ _ _ _ h), pw_cell_below hV (cell_of_row _ _ _ _ _ _ h)⟩
theorem nd_new {W : World} {cs : Array Value} : ∃ V, W.alloc (.cells cs TN) = V ∧ V.heap[W.heap.size]? = some (.cells cs TN (0, 0)) ∧ Below W.heap.size W V ∧ V.heap.size = W.heap.size + 1 :=
  ⟨_, rfl, World.alloc_heap_new _ _, (Below.refl _ W).alloc (Nat.le_refl _) _, World.size_alloc _ _⟩
theorem run_nds : ∀ (l : List Ev) (S : List Nd) (a : Nd), runB l S = some a → nds a ≤ l.length + ndsL S
  | [], S, a, h => by simp [runB] at h
  | e :: l, S, a, h => by
    unfold runB at h
    rw [List.length_cons]
    split at h
    · split at h
      · cases h
      · have := run_nds l _ a h
        simp only [ndsL, nds] at this
        omega
    · split at h
      · split at h
        · cases h
        · rename_i t S' 
          split at h
          · have := run_nds l _ a h
            simp only [addKid, ndsL, nds, ndsL_append] at this
            rw [ndsL, nds_eq t]
            omega
          · cases h
      · split at h
        · split at h
          · cases h
          · rename_i t S'
            split at h
            · split at h
              · split at h
                · injection h with h
                  subst h
                  rw [ndsL]; omega
                · cases h
              · rename_i u S''
                have := run_nds l _ a h
                simp only [addKid, ndsL, nds, ndsL_append] at this
                rw [ndsL, ndsL, nds_eq u]
                omega
            · cases h
        · cases h
end Go.Proofs.Ytfefldkljbbbpaa

/- awake of chapter 13: what it lays, in plain words. -/
set_option linter.unusedVariables false
set_option linter.unusedSimpArgs false
namespace Go.Proofs.Ytfefldkljbbbpaa
open Go.RowKit Go.Shelf Go.Proofs.YtfefldkljbbbpaaW.PrintWords Go.Proofs.YtfefldkljbbbpaaW.PrintLast Go.Proofs.YtfefldkljbbbpaaW.PrintMore

theorem ev_at : ∀ (xs : List Ev) (i : Nat) (x : Ev), xs[i]? = some x → ∀ (j : Nat) (v : Value), (evCells x)[j]? = some v → (xs.flatMap evCells)[i * 8 + j]? = some v
  | [], i, k, h, _, _, _ => by simp at h
  | y :: ys, i, k, h, j, v, hj => by
    have hlt : j < 8 := (List.getElem?_eq_some_iff.1 hj).1
    have h8 : (evCells y).length = 8 := rfl
    rw [List.flatMap_cons]
    cases i with
    | zero =>
      simp at h
      subst h
      rw [List.getElem?_append_left (by omega), Nat.zero_mul, Nat.zero_add]
      exact hj
    | succ i =>
      rw [List.getElem?_append_right (by omega), h8, show (i + 1) * 8 + j - 8 = i * 8 + j by omega]
      exact ev_at ys i k (by simpa using h) j v hj
/-- Events that lie in a block can be read. -/
theorem ev_row {w : World} {b : Nat} {xs : List Ev} {cells : Array Value} {T : TypeId} (hh : w.heap[b]? = some (.cells cells T (0, 0))) (he : cells.toList = xs.flatMap evCells) (hl : xs.length ≤ 1073741824) : Kd.C kEv w (some ⟨b, 0, none⟩) xs.length xs := by
  refine ⟨rfl, by omega, fun _ => ⟨⟨b, 0, none⟩, rfl, fun j p hp => ⟨evCells p, rfl, PTreeSame.k32_mk w p, fun i u hu => ?_⟩⟩⟩
  show w.cell? ((⟨b, 0, none⟩ : Addr).add (j * 8 + i)) = some u
  rw [show (⟨b, 0, none⟩ : Addr).add (j * 8 + i) = ⟨b, j * 8 + i, none⟩ by simp [Addr.add]; omega]
  refine (cell_of_row _ _ _ _ _ _ hh).trans ?_
  rw [← Array.getElem?_toList, he]
  exact ev_at xs j p hp i u hu

def skipT : Tk := ⟨2, ⟨#[115, 107, 105, 112]⟩, ⟨0, 0, 0⟩, 0⟩
def skipL : List Ev := [⟨1, 13, noTk⟩, ⟨2, 0, skipT⟩, ⟨3, 13, noTk⟩]
def skipN : Nd := ⟨13, noTk, [⟨0, skipT, []⟩]⟩
theorem skip_bld : bld skipL = (skipN, 0) := bld_some (by simp [runB, skipL, skipT, isNote, addKid, skipN, noTk])
theorem skip_bld2 : bld (skipL.take 2) = (noNd, 130) := bld_none (by simp [runB, skipL, skipT, isNote, addKid, skipN, noTk])
theorem skip_tells : tells skipN = skipL := by simp [skipN, tells_eq, tellsL, evTok, isNote, skipT, evOpen, evClose, skipL, noTk]
theorem skip_dep : dep skipN = 1 := by simp [skipN, dep, depL]
theorem skip_nds : nds skipN = 2 := by simp [skipN, nds, ndsL]
theorem skip_same : sameN 2 skipN skipN = true := by simp [sameN, skipN, plainL, isKid, isNote, skipT]
end Go.Proofs.Ytfefldkljbbbpaa
