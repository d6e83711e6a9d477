/- TreeNotes: plain laws (a comment put in, places turned), and the list under way in memory. -/
import Derived.Test.YtfefldkljbbbpaaG6
set_option linter.unusedVariables false
set_option linter.unusedSimpArgs false
namespace Go.Proofs.Ytfefldkljbbbpaa
open Go.RowKit Go.Shelf Go.Proofs.YtfefldkljbbbpaaW.PrintWords Go.Proofs.YtfefldkljbbbpaaW.PrintLast Go.Proofs.YtfefldkljbbbpaaW.PrintMore

def turnK (x : Nd) : Nd := ⟨x.f0, ⟨x.f1.f0, x.f1.f1, ⟨x.f1.f2.f0, wrap64 (x.f1.f2.f1 + 1), x.f1.f2.f2⟩, wrap64 (x.f1.f3 + 1)⟩, x.f2⟩
def tokN (k : Int) (tx : ByteArray) : Nd := ⟨0, ⟨k, tx, ⟨0, 0, 0⟩, 0⟩, []⟩
/-- What has been laid after so many rounds. -/
def made (k : Nat) (tx : ByteArray) (l : List Nd) : Nat → List Nd
  | 0 => []
  | i + 1 => made k tx l i ++ (if i = k then [tokN 8 tx] else []) ++ (match l[i]? with | some x => [turnK x] | none => [])
theorem turn_kid (x : Nd) : isKid (turnK x) = isKid x := rfl
theorem plainL_append (a b : List Nd) : plainL (a ++ b) = plainL a ++ plainL b := List.filter_append ..
theorem made_plain (k : Nat) (tx : ByteArray) (l : List Nd) : ∀ i, plainL (made k tx l i) = (plainL (l.take i)).map turnK
  | 0 => rfl
  | i + 1 => by
    rw [made, plainL_append, plainL_append, made_plain k tx l i, List.take_add_one, plainL_append, List.map_append]
    have h1 : plainL (if i = k then [tokN 8 tx] else []) = [] := by
      split
      · simp [plainL, isKid, tokN, isNote]
      · rfl
    rw [h1, List.append_nil]
    congr 1
    cases l[i]? with
    | none => rfl
    | some x =>
      simp only [Option.toList]
      by_cases h : isKid x = true
      · simp [plainL, turn_kid, h]
      · simp [plainL, turn_kid, h]
theorem made_len (k : Nat) (tx : ByteArray) (l : List Nd) : ∀ i, (made k tx l i).length ≤ i + 1 ∧ (i ≤ k → (made k tx l i).length ≤ i)
  | 0 => ⟨by simp [made], fun _ => by simp [made]⟩
  | i + 1 => by
    have ih := made_len k tx l i
    rw [made]
    have h2 : (match l[i]? with | some x => [turnK x] | none => []).length ≤ 1 := by cases l[i]? <;> simp
    simp only [List.length_append]
    by_cases hk : i = k
    · rw [if_pos hk]
      have := ih.2 (by omega)
      simp only [List.length_singleton]
      exact ⟨by omega, fun h => by omega⟩
    · rw [if_neg hk]
      simp only [List.length_nil]
      refine ⟨by omega, fun h => ?_⟩
      have := ih.2 (by omega)
      omega
theorem made_nds (k : Nat) (tx : ByteArray) (l : List Nd) : ∀ i, ndsL (made k tx l i) ≤ ndsL (l.take i) + 1 ∧ (i ≤ k → ndsL (made k tx l i) ≤ ndsL (l.take i))
  | 0 => ⟨by simp [made, ndsL], fun _ => by simp [made, ndsL]⟩
  | i + 1 => by
    have ih := made_nds k tx l i
    rw [made, ndsL_append, ndsL_append, List.take_add_one, ndsL_append]
    have h2 : ndsL (match l[i]? with | some x => [turnK x] | none => []) = ndsL (l[i]?.toList) := by
      cases l[i]? with
      | none => rfl
      | some x => simp [ndsL, nds_eq, turnK]
    by_cases hk : i = k
    · rw [if_pos hk]
      have := ih.2 (by omega)
      have h3 : ndsL [tokN 8 tx] = 1 := by simp [ndsL, nds, tokN]
      exact ⟨by omega, fun h => by omega⟩
    · rw [if_neg hk]
      have h3 : ndsL [] = 0 := by simp [ndsL]
      refine ⟨by omega, fun h => ?_⟩
      have := ih.2 (by omega)
      omega
theorem all_map {p : Nd → Nd → Bool} {f : Nd → Nd} : ∀ (l : List Nd), (∀ x ∈ l, p (f x) x = true) → ((l.map f).zip l).all (fun q => p q.1 q.2) = true
  | [], _ => rfl
  | x :: l, h => by
    simp only [List.map_cons, List.zip_cons_cons, List.all_cons, Bool.and_eq_true]
    exact ⟨h x List.mem_cons_self, all_map l (fun y hy => h y (List.mem_cons_of_mem _ hy))⟩
theorem all_map2 {p : Nd → Nd → Bool} {f : Nd → Nd} : ∀ (l : List Nd), (∀ x ∈ l, p x (f x) = true) → (l.zip (l.map f)).all (fun q => p q.1 q.2) = true
  | [], _ => rfl
  | x :: l, h => by
    simp only [List.map_cons, List.zip_cons_cons, List.all_cons, Bool.and_eq_true]
    exact ⟨h x List.mem_cons_self, all_map2 l (fun y hy => h y (List.mem_cons_of_mem _ hy))⟩
theorem sameN_refl : ∀ (k : Nat) (x : Nd), sameN k x x = true
  | 0, _ => rfl
  | k + 1, x => by
    rw [sameN, if_pos rfl]
    split
    · simp
    · have := all_map (p := sameN k) (f := id) (plainL x.f2) (fun y _ => sameN_refl k y)
      rw [List.map_id] at this
      rw [this, beq_self_eq_true, Bool.and_true]
theorem same_turn (k : Nat) (x : Nd) : sameN k (turnK x) x = true ∧ sameN k x (turnK x) = true := by
  cases k with
  | zero => exact ⟨rfl, rfl⟩
  | succ k =>
    have h := sameN_refl (k + 1) x
    rw [sameN] at h
    constructor
    · rw [sameN]; exact h
    · rw [sameN]; exact h
theorem same_made (j : Nat) (k : Nat) (tx : ByteArray) (n : Nd) (t : Tk) (h0 : n.f0 ≠ 0) : sameN j ⟨n.f0, t, made k tx n.f2 (n.f2.length + 1)⟩ n = true ∧ sameN j n ⟨n.f0, t, made k tx n.f2 (n.f2.length + 1)⟩ = true := by
  have hp : plainL (made k tx n.f2 (n.f2.length + 1)) = (plainL n.f2).map turnK := by rw [made_plain, List.take_of_length_le (by omega)]
  cases j with
  | zero => exact ⟨rfl, rfl⟩
  | succ j =>
    constructor
    · rw [sameN, if_pos rfl]
      dsimp only
      rw [if_neg h0, hp, List.length_map, beq_self_eq_true, Bool.true_and, all_map _ (fun y _ => (same_turn j y).1)]
    · rw [sameN, if_pos rfl]
      dsimp only
      rw [if_neg h0, hp, List.length_map, beq_self_eq_true, Bool.true_and, all_map2 _ (fun y _ => (same_turn j y).2)]
theorem same_more (j : Nat) (tx : ByteArray) (n : Nd) (t : Tk) (h0 : n.f0 ≠ 0) : sameN (j + 1) ⟨n.f0, t, tokN 1 tx :: n.f2⟩ n = false ∧ sameN (j + 1) n ⟨n.f0, t, tokN 1 tx :: n.f2⟩ = false := by
  have hp : plainL (tokN 1 tx :: n.f2) = tokN 1 tx :: plainL n.f2 := List.filter_cons_of_pos (by simp [isKid, tokN, isNote])
  have h1 : ((plainL n.f2).length + 1 == (plainL n.f2).length) = false := beq_eq_false_iff_ne.2 (by omega)
  have h2 : ((plainL n.f2).length == (plainL n.f2).length + 1) = false := beq_eq_false_iff_ne.2 (by omega)
  constructor
  · rw [sameN, if_pos rfl]
    dsimp only
    rw [if_neg h0, hp, List.length_cons, h1, Bool.false_and]
  · rw [sameN, if_pos rfl]
    dsimp only
    rw [if_neg h0, hp, List.length_cons, h2, Bool.false_and]

/-- A node's box b, and the list of its kids under way: cells of one's own, read as they lay in w3. -/
structure NAt (w3 wr : World) (b : Nat) (k0 : Int) (t0 : Tk) (ys : List Nd) (v : Value) (cells : List Value) : Prop where
  box : wr.heap[b]? = some (.cells (ndCells k0 t0 v).toArray TN (0, 0))
  row : wr.ownsRow (b + 1) TN 8 v ys.length cells
  reps : Reps (kNd.K w3) 8 ys cells
  below : Below b w3 wr
  size : b + 1 ≤ wr.heap.size
  b3 : w3.heap.size ≤ b
theorem NAt.later {w3 wr w' : World} {b : Nat} {k0 : Int} {t0 : Tk} {ys : List Nd} {v : Value} {cells : List Value} (h : NAt w3 wr b k0 t0 ys v cells) (hb : Below wr.heap.size wr w') : NAt w3 w' b k0 t0 ys v cells :=
  ⟨(hb.block b (blk_lt h.box)).trans h.box, row_move h.row (fun k hk => hb.block k (own_lt h.row k hk)), h.reps, h.below.trans (hb.mono (by have := h.size; omega)), Nat.le_trans h.size hb.size, h.b3⟩
theorem NAt.push {w3 wr w4 : World} {b : Nat} {k0 : Int} {t0 : Tk} {ys : List Nd} {v v1 : Value} {cells cs : List Value} {y : Nd} (h : NAt w3 wr b k0 t0 ys v cells) (ho : w4.ownsRow (b + 1) TN 8 v1 (ys.length + 1) (cells ++ cs)) (hb : Below (b + 1) wr w4) (hy : kNd.K w3 y cs) :
    NAt w3 (w4.setCell ⟨b, 7, none⟩ v1) b k0 t0 (ys ++ [y]) v1 (cells ++ cs) := by
  have hb4 : w4.heap[b]? = some (.cells (ndCells k0 t0 v).toArray TN (0, 0)) := (hb.block b (by omega)).trans h.box
  refine ⟨?_, ?_, h.reps.snoc hy (by exact kNd.K_len hy), ?_, ?_, h.b3⟩
  · exact Go.heap_setCell_same w4 b 7 _ TN v1 hb4
  · rw [List.length_append, List.length_singleton]
    exact row_move ho (fun k hk => Below.heap_setCell w4 ⟨b, 7, none⟩ v1 k (by have := own_base ho k hk; show k ≠ b; omega))
  · exact (h.below.trans (hb.mono (by omega))).setCell (p := ⟨b, 7, none⟩) (Nat.le_refl _) _
  · rw [World.size_setCell]; exact Nat.le_trans h.size hb.size
theorem NAt.cells {w3 wr : World} {b : Nat} {k0 : Int} {t0 : Tk} {ys : List Nd} {v : Value} {cells : List Value} (h : NAt w3 wr b k0 t0 ys v cells) (V : World) (hV : Below (b + 1) wr V) :
    V.cell? ⟨b, 0, none⟩ = some (.int .u8 k0) ∧ V.cell? ⟨b, 1, none⟩ = some (.int .u8 t0.f0) ∧ V.cell? ⟨b, 2, none⟩ = some (.string t0.f1) ∧ V.cell? ⟨b, 3, none⟩ = some (.int .i64 t0.f2.f0) ∧ V.cell? ⟨b, 4, none⟩ = some (.int .i64 t0.f2.f1) ∧ V.cell? ⟨b, 5, none⟩ = some (.int .i64 t0.f2.f2) ∧ V.cell? ⟨b, 6, none⟩ = some (.int .i64 t0.f3) ∧ V.cell? ⟨b, 7, none⟩ = some v ∧ V.frozen? ⟨b, 7, none⟩ = false := by
  have hb : V.heap[b]? = some (.cells (ndCells k0 t0 v).toArray TN (0, 0)) := (hV.block b (by omega)).trans h.box
  exact ⟨cell_of_row _ _ _ _ _ _ hb, cell_of_row _ _ _ _ _ _ hb, cell_of_row _ _ _ _ _ _ hb, cell_of_row _ _ _ _ _ _ hb, cell_of_row _ _ _ _ _ _ hb, cell_of_row _ _ _ _ _ _ hb, cell_of_row _ _ _ _ _ _ hb, cell_of_row _ _ _ _ _ _ hb, by simp [World.frozen?, hb]⟩
theorem NAt.C {w3 wr : World} {b : Nat} {k0 : Int} {t0 : Tk} {ys : List Nd} {v : Value} {cells : List Value} (h : NAt w3 wr b k0 t0 ys v cells) : ∃ A c, v = .slice A ys.length c ∧ ys.length ≤ c ∧ Kd.C kNd wr A ys.length ys :=
  row_C h.row (h.reps.imp_ fun y cs hy => kNd.K_below (h.below.mono h.b3) hy)
theorem tok_K (w : World) (k : Int) (tx : ByteArray) : kNd.K w (tokN k tx) (ndCells 0 ⟨k, tx, ⟨0, 0, 0⟩, 0⟩ (.slice none 0 0)) :=
  PTreeSame.k35_mk w (tokN k tx) (Nat.le_refl _) (by exact Kd.C_nil kNd w)
/-- A list of one node that has just been laid. -/
theorem one_R (w w3 : World) (k : Int) (tx : ByteArray) : (Kd.fixed kNd w3).R TN (w.alloc (.cells #[.int .u8 0, .int .u8 k, .string tx, .int .i64 0, .int .i64 0, .int .i64 0, .int .i64 0, .slice none 0 0] TN)) w.heap.size (fun _ => True) (.slice (some ⟨w.heap.size, 0, none⟩) 1 1) [tokN k tx] := by
  refine ⟨fun _ _ => trivial, ndCells 0 ⟨k, tx, ⟨0, 0, 0⟩, 0⟩ (.slice none 0 0), ⟨rfl, .inr ⟨w.heap.size, 1, _, rfl, Nat.le_refl _, heap_alloc_new w _, Nat.le_refl _, by decide, rfl, rfl⟩⟩, ?_⟩
  have := (Reps.none (kNd.K w3) 8).snoc (tok_K w3 k tx) rfl
  exact this
theorem old_row {w3 w : World} {A : Option Addr} {n : Nat} {l : List Nd} (h : Kd.C kNd w3 A n l) (hb : Below w3.heap.size w3 w) : ReadsRow (kNd.K w3) 8 w A n l := by
  refine ⟨h.1, h.2.1, fun hn => ?_⟩
  obtain ⟨ad, hA, hc⟩ := h.2.2 hn
  exact ⟨ad, hA, fun j p hp => by
    obtain ⟨c, hl, hK, hcell⟩ := hc j p hp
    exact ⟨c, hl, hK, fun i u hu => pw_cell_below hb (hcell i u hu)⟩⟩
/-- What was laid in w3's words can be read later. -/
theorem fixed_C {w3 w w' : World} {base : Nat} {ok : Nat → Prop} {v : Value} {l : List Nd} (h : (Kd.fixed kNd w3).R TN w base ok v l) (hm : ∀ b, base ≤ b → b < w.heap.size → w'.heap[b]? = w.heap[b]?) (hb : Below w3.heap.size w3 w') : ∃ A c, v = .slice A l.length c ∧ l.length ≤ c ∧ Kd.C kNd w' A l.length l := by
  obtain ⟨_, inner, ho, hr⟩ := h
  exact row_C (row_move ho (fun k hk => hm k (own_base ho k hk) (own_lt ho k hk))) (hr.imp_ fun y cs hy => kNd.K_below hb hy)
end Go.Proofs.Ytfefldkljbbbpaa
