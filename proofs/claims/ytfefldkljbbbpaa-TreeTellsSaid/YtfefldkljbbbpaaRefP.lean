/- The document's Build: what node and kid make of the events, said by the machine; their memory. -/
import Derived.Test.YtfefldkljbbbpaaG6
set_option linter.unusedVariables false
set_option linter.unusedSimpArgs false
namespace Go.Proofs.Ytfefldkljbbbpaa
open Go.RowKit Go.Shelf Go.Proofs.YtfefldkljbbbpaaW.PrintWords Go.Proofs.YtfefldkljbbbpaaW.PrintLast Go.Proofs.YtfefldkljbbbpaaW.PrintMore

abbrev TB : TypeId := 57
/-- A node is closed: what the machine does. -/
def closeR (x : Nd) (r : List Ev) : List Nd → Option Nd
  | [] => if r = [] then some x else none
  | u :: S' => runB r (addKid u x :: S')
/-- What node tells of the events from a place on; within: how many nodes are open, it among them. -/
def NodeYes (l : List Ev) (at0 wi : Nat) (x : Nd) (a2 : Nat) : Prop := at0 < a2 ∧ a2 ≤ l.length ∧ ∀ S : List Nd, S.length + 1 = wi → runB (l.drop at0) S = closeR x (l.drop a2) S
def NodeNo (l : List Ev) (at0 wi : Nat) : Prop := ∀ S : List Nd, S.length + 1 = wi → runB (l.drop at0) S = none
def KidYes (l : List Ev) (at0 wi : Nat) (x : Nd) (a2 : Nat) : Prop := at0 < a2 ∧ a2 ≤ l.length ∧ ∀ (u : Nd) (S : List Nd), S.length + 1 = wi → runB (l.drop at0) (u :: S) = runB (l.drop a2) (addKid u x :: S)
def KidNo (l : List Ev) (at0 wi : Nat) : Prop := ∀ (u : Nd) (S : List Nd), S.length + 1 = wi → runB (l.drop at0) (u :: S) = none
/-- Under way in a node: kids so far. -/
def LoopAt (l : List Ev) (at0 wi : Nat) (k : Int) (acc : List Nd) (j : Nat) : Prop := at0 < j ∧ j ≤ l.length ∧ ∀ S : List Nd, S.length + 1 = wi → runB (l.drop at0) S = runB (l.drop j) (⟨k, noTk, acc⟩ :: S)
theorem drop_ev {l : List Ev} {i : Nat} {e : Ev} (h : l[i]? = some e) : l.drop i = e :: l.drop (i + 1) := by
  obtain ⟨hlt, he⟩ := List.getElem?_eq_some_iff.1 h
  rw [List.drop_eq_getElem_cons hlt, he]
theorem node_bad {l : List Ev} {i wi : Nat} {e : Ev} (h : l[i]? = some e) (h1 : e.f0 = 1) (hb : e.f1 = 0 ∨ 1000 < wi) (hw : wi ≤ 1001) : NodeNo l i wi := fun S hS => by
  rw [drop_ev h]
  unfold runB
  rw [if_pos h1, if_pos (by omega)]
theorem loop_start {l : List Ev} {i wi : Nat} {e : Ev} (h : l[i]? = some e) (h1 : e.f0 = 1) (h0 : e.f1 ≠ 0) (hw : wi ≤ 1000) : LoopAt l i wi e.f1 [] (i + 1) :=
  ⟨Nat.lt_succ_self i, (List.getElem?_eq_some_iff.1 h).1, fun S hS => by
    rw [drop_ev h]
    conv => lhs; unfold runB
    rw [if_pos h1, if_neg (by omega)]⟩
theorem loop_kid {l : List Ev} {i wi j a2 : Nat} {k : Int} {acc : List Nd} {x : Nd} (h : LoopAt l i wi k acc j) (hk : KidYes l j wi x a2) : LoopAt l i wi k (acc ++ [x]) a2 :=
  ⟨by have := h.1; have := hk.1; omega, hk.2.1, fun S hS => by rw [h.2.2 S hS, hk.2.2 _ S hS]; rfl⟩
theorem loop_no {l : List Ev} {i wi j : Nat} {k : Int} {acc : List Nd} (h : LoopAt l i wi k acc j) (hk : KidNo l j wi) : NodeNo l i wi := fun S hS => by rw [h.2.2 S hS, hk _ S hS]
theorem loop_end {l : List Ev} {i wi j : Nat} {k : Int} {acc : List Nd} (h : LoopAt l i wi k acc j) (hj : l.length ≤ j) : NodeNo l i wi := fun S hS => by
  rw [h.2.2 S hS, List.drop_of_length_le hj]
  unfold runB
  rfl
theorem loop_close {l : List Ev} {i wi j : Nat} {k : Int} {acc : List Nd} {e : Ev} (h : LoopAt l i wi k acc j) (he : l[j]? = some e) (h3 : e.f0 = 3) : (e.f1 = k → NodeYes l i wi ⟨k, noTk, acc⟩ (j + 1)) ∧ (e.f1 ≠ k → NodeNo l i wi) := by
  have hlt := (List.getElem?_eq_some_iff.1 he).1
  constructor
  · intro hk
    refine ⟨by have := h.1; omega, hlt, fun S hS => ?_⟩
    rw [h.2.2 S hS, drop_ev he]
    conv => lhs; unfold runB
    rw [if_neg (by omega), if_neg (by omega), if_pos h3]
    dsimp only
    rw [if_pos hk.symm]
    cases S with
    | nil => rfl
    | cons u S' => rfl
  · intro hk S hS
    rw [h.2.2 S hS, drop_ev he]
    unfold runB
    rw [if_neg (by omega), if_neg (by omega), if_pos h3]
    dsimp only
    rw [if_neg (Ne.symm hk)]
theorem kid_end {l : List Ev} {i wi : Nat} (h : l.length ≤ i) : KidNo l i wi := fun u S _ => by
  rw [List.drop_of_length_le h]
  unfold runB
  rfl
theorem kid_tok {l : List Ev} {i wi : Nat} {e : Ev} (h : l[i]? = some e) (hk : e.f0 = 2 ∨ e.f0 = 4) : (isNote e.f2 = (e.f0 == 4) → KidYes l i wi ⟨0, e.f2, []⟩ (i + 1)) ∧ (isNote e.f2 ≠ (e.f0 == 4) → KidNo l i wi) := by
  constructor
  · intro hn
    refine ⟨Nat.lt_succ_self i, (List.getElem?_eq_some_iff.1 h).1, fun u S _ => ?_⟩
    rw [drop_ev h]
    conv => lhs; unfold runB
    rw [if_neg (by omega), if_pos hk]
    dsimp only
    rw [if_pos hn]
  · intro hn u S _
    rw [drop_ev h]
    unfold runB
    rw [if_neg (by omega), if_pos hk]
    dsimp only
    rw [if_neg hn]
theorem kid_node {l : List Ev} {i wi a2 : Nat} {x : Nd} (h : NodeYes l i (wi + 1) x a2) : KidYes l i wi x a2 := ⟨h.1, h.2.1, fun u S hS => by rw [h.2.2 (u :: S) (by simp; omega)]; rfl⟩
theorem kid_nodeNo {l : List Ev} {i wi : Nat} (h : NodeNo l i (wi + 1)) : KidNo l i wi := fun u S hS => h (u :: S) (by simp; omega)
theorem kid_other {l : List Ev} {i wi : Nat} {e : Ev} (h : l[i]? = some e) (h1 : e.f0 ≠ 1) (h2 : e.f0 ≠ 2) (h4 : e.f0 ≠ 4) (h3 : e.f0 ≠ 3) : KidNo l i wi := fun u S hS => by
  rw [drop_ev h]
  unfold runB
  rw [if_neg h1, if_neg (by omega)]
  rw [if_neg h3]
/-- The whole. -/
theorem ref_bld {l : List Ev} : (∀ e, l[0]? = some e → e.f0 ≠ 1) → runB l [] = none := by
  intro h
  cases l with
  | nil => rfl
  | cons e r =>
    have h1 := h e rfl
    unfold runB
    rw [if_neg h1]
    split
    · rfl
    · split <;> rfl
theorem ref_yes {l : List Ev} {x : Nd} {a2 : Nat} (h : NodeYes l 0 1 x a2) : runB l [] = if a2 = l.length then some x else none := by
  have := h.2.2 [] rfl
  rw [List.drop_zero] at this
  rw [this, closeR]
  by_cases ha : a2 = l.length
  · rw [if_pos ha, if_pos (by rw [ha, List.drop_length])]
  · rw [if_neg ha, if_neg (fun hd => ha (by have := List.drop_eq_nil_iff.1 hd; have := h.2.1; omega))]
theorem ref_no {l : List Ev} (h : NodeNo l 0 1) : runB l [] = none := by
  have := h [] rfl
  rwa [List.drop_zero] at this
theorem infoBt : (Try.prog.info? TB).map (·.size) = some 10 := by kernel_rfl
/-- A Built's ten cells. -/
def btCells (x : Nd) (v : Value) (z : Int) (b : Bool) : List Value := [.int .u8 x.f0, .int .u8 x.f1.f0, .string x.f1.f1, .int .i64 x.f1.f2.f0, .int .i64 x.f1.f2.f1, .int .i64 x.f1.f2.f2, .int .i64 x.f1.f3, v, .int .i64 z, .bool b]
theorem btCells_one (x : Nd) {v : Value} (z : Int) (b : Bool) (hv : v.oneCell' = true) : ∀ u ∈ btCells x v z b, u.oneCell' = true := by
  intro u hu
  simp only [btCells, List.mem_cons, List.not_mem_nil, or_false] at hu
  rcases hu with rfl | rfl | rfl | rfl | rfl | rfl | rfl | rfl | rfl | rfl <;> first | rfl | exact hv
def YesPost (w : World) (x : Nd) (a2 : Nat) (e : Ending) (w' : World) : Prop := ∃ A c, e = .returned (.agg (btCells x (.slice A x.f2.length c) a2 true).toArray) ∧ OwnS w' w.heap.size (.slice A x.f2.length c) x.f2 (fun _ => True) ∧ Below w.heap.size w w'
def NoPost (w : World) (e : Ending) (w' : World) : Prop := ∃ (y : Nd) (z : Int), e = .returned (.agg (btCells y (.slice none 0 0) z false).toArray) ∧ Below w.heap.size w w'
def NodePost (l : List Ev) (at0 wi : Nat) (w : World) (e : Ending) (w' : World) : Prop := (∃ x a2, NodeYes l at0 wi x a2 ∧ YesPost w x a2 e w') ∨ (NodeNo l at0 wi ∧ NoPost w e w')
def KidPost (l : List Ev) (at0 wi : Nat) (w : World) (e : Ending) (w' : World) : Prop := (∃ x a2, KidYes l at0 wi x a2 ∧ YesPost w x a2 e w') ∨ (KidNo l at0 wi ∧ NoPost w e w')
theorem bt_box {W : World} {b : Nat} {v0 v1 v2 v3 v4 v5 v6 v7 v8 v9 : Value} {T : TypeId} (h : W.heap[b]? = some (.cells #[v0, v1, v2, v3, v4, v5, v6, v7, v8, v9] T (0, 0))) (V : World) (hV : Below W.heap.size W V) :
    V.cell? ⟨b, 0, none⟩ = some v0 ∧ V.cell? ⟨b, 1, none⟩ = some v1 ∧ V.cell? ⟨b, 2, none⟩ = some v2 ∧ V.cell? ⟨b, 3, none⟩ = some v3 ∧ V.cell? ⟨b, 4, none⟩ = some v4 ∧ V.cell? ⟨b, 5, none⟩ = some v5 ∧ V.cell? ⟨b, 6, none⟩ = some v6 ∧ V.cell? ⟨b, 7, none⟩ = some v7 ∧ V.cell? ⟨b, 8, none⟩ = some v8 ∧ V.cell? ⟨b, 9, none⟩ = some v9 :=
  ⟨pw_cell_below hV (cell_of_row _ _ _ _ _ _ h), pw_cell_below hV (cell_of_row _ _ _ _ _ _ h), pw_cell_below hV (cell_of_row _ _ _ _ _ _ h), pw_cell_below hV (cell_of_row _ _ _ _ _ _ h), pw_cell_below hV (cell_of_row _ _ _ _ _ _ h), pw_cell_below hV (cell_of_row _ _ _ _ _ _ h), pw_cell_below hV (cell_of_row _ _ _ _ _ _ h), pw_cell_below hV (cell_of_row _ _ _ _ _ _ h), pw_cell_below hV (cell_of_row _ _ _ _ _ _ h), pw_cell_below hV (cell_of_row _ _ _ _ _ _ h)⟩
theorem ev_box {W : World} {b : Nat} {v0 v1 v2 v3 v4 v5 v6 v7 : Value} {T : TypeId} (h : W.heap[b]? = some (.cells #[v0, v1, v2, v3, v4, v5, v6, v7] T (0, 0))) (V : World) (hV : Below W.heap.size W V) :
    V.cell? ⟨b, 0, none⟩ = some v0 ∧ V.cell? ⟨b, 1, none⟩ = some v1 ∧ V.cell? ⟨b, 2, none⟩ = some v2 ∧ V.cell? ⟨b, 3, none⟩ = some v3 ∧ V.cell? ⟨b, 4, none⟩ = some v4 ∧ V.cell? ⟨b, 5, none⟩ = some v5 ∧ V.cell? ⟨b, 6, none⟩ = some v6 ∧ V.cell? ⟨b, 7, none⟩ = some v7 :=
  ⟨pw_cell_below hV (cell_of_row _ _ _ _ _ _ h), pw_cell_below hV (cell_of_row _ _ _ _ _ _ h), pw_cell_below hV (cell_of_row _ _ _ _ _ _ h), pw_cell_below hV (cell_of_row _ _ _ _ _ _ h), pw_cell_below hV (cell_of_row _ _ _ _ _ _ h), pw_cell_below hV (cell_of_row _ _ _ _ _ _ h), pw_cell_below hV (cell_of_row _ _ _ _ _ _ h), pw_cell_below hV (cell_of_row _ _ _ _ _ _ h)⟩
end Go.Proofs.Ytfefldkljbbbpaa
