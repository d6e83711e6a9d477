/- Trees that a call has made: each node's list lies in a block of its own. -/
import Derived.Test.YtfefldkljbbbpaaPTreeSamex0
import Derived.Lib.Hide
set_option linter.unusedVariables false
set_option linter.unusedSimpArgs false
namespace Go.Proofs.Ytfefldkljbbbpaa
open Go.RowKit Go.Proofs.YtfefldkljbbbpaaW.PrintWords Go.Proofs.YtfefldkljbbbpaaW.PrintLast Go.Proofs.YtfefldkljbbbpaaW.PrintMore

abbrev Pl := PTreeSame.S28
abbrev Tk := PTreeSame.S30
abbrev Ev := PTreeSame.S32
abbrev Nd := PTreeSame.S35
abbrev kTk := PTreeSame.k30
abbrev kEv := PTreeSame.k32
abbrev kNd := PTreeSame.k35
abbrev TN : TypeId := 35
def noTk : Tk := ⟨0, ⟨#[]⟩, ⟨0, 0, 0⟩, 0⟩
def noNd : Nd := ⟨0, noTk, []⟩

/-- A node's eight cells. -/
def ndCells (k : Int) (t : Tk) (v : Value) : List Value := [.int .u8 k, .int .u8 t.f0, .string t.f1, .int .i64 t.f2.f0, .int .i64 t.f2.f1, .int .i64 t.f2.f2, .int .i64 t.f3, v]
theorem ndCells_len (k : Int) (t : Tk) (v : Value) : (ndCells k t v).length = 8 := rfl

mutual
/-- A node in cells cs, its lists in blocks of F, no two in the same. -/
def Own (w : World) (base : Nat) : Nd → List Value → (Nat → Prop) → Prop
  | ⟨k, t, kids⟩, cs, F => ∃ v cells G, cs = ndCells k t v ∧ w.ownsRow base TN 8 v kids.length cells ∧ OwnL w base kids cells G ∧ (∀ b, v.ownBlock = some b → F b ∧ ¬ G b) ∧ (∀ b, G b → F b)
def OwnL (w : World) (base : Nat) : List Nd → List Value → (Nat → Prop) → Prop
  | [], cells, _ => cells = []
  | x :: xs, cells, F => ∃ c cs G1 G2, cells = c ++ cs ∧ Own w base x c G1 ∧ OwnL w base xs cs G2 ∧ (∀ b, G1 b → F b) ∧ (∀ b, G2 b → F b) ∧ (∀ b, G1 b → ¬ G2 b)
end

/-- A list of nodes of one's own. -/
def OwnS (w : World) (base : Nat) (v : Value) (kids : List Nd) (F : Nat → Prop) : Prop := ∃ cells G, w.ownsRow base TN 8 v kids.length cells ∧ OwnL w base kids cells G ∧ (∀ b, v.ownBlock = some b → F b ∧ ¬ G b) ∧ (∀ b, G b → F b)
theorem own_iff {w : World} {base : Nat} {x : Nd} {cs : List Value} {F : Nat → Prop} : Own w base x cs F ↔ ∃ v, cs = ndCells x.f0 x.f1 v ∧ OwnS w base v x.f2 F := by
  obtain ⟨k, t, kids⟩ := x
  rw [Own]
  constructor
  · rintro ⟨v, cells, G, h1, h2, h3, h4, h5⟩
    exact ⟨v, h1, cells, G, h2, h3, h4, h5⟩
  · rintro ⟨v, h1, cells, G, h2, h3, h4, h5⟩
    exact ⟨v, cells, G, h1, h2, h3, h4, h5⟩
theorem own_mono {w : World} {base : Nat} {x : Nd} {cs : List Value} {F F' : Nat → Prop} (h : Own w base x cs F) (hF : ∀ b, F b → F' b) : Own w base x cs F' := by
  rw [own_iff] at h ⊢
  obtain ⟨v, h1, cells, G, h2, h3, h4, h5⟩ := h
  exact ⟨v, h1, cells, G, h2, h3, fun b hb => ⟨hF b (h4 b hb).1, (h4 b hb).2⟩, fun b hb => hF b (h5 b hb)⟩
theorem ownL_mono {w : World} {base : Nat} {xs : List Nd} {cs : List Value} {F F' : Nat → Prop} (h : OwnL w base xs cs F) (hF : ∀ b, F b → F' b) : OwnL w base xs cs F' := by
  cases xs with
  | nil => exact h
  | cons x xs =>
    rw [OwnL] at h ⊢
    obtain ⟨c, cs', G1, G2, h1, h2, h3, h4, h5, h6⟩ := h
    exact ⟨c, cs', G1, G2, h1, h2, h3, fun b hb => hF b (h4 b hb), fun b hb => hF b (h5 b hb), h6⟩
theorem ownS_mono {w : World} {base : Nat} {v : Value} {kids : List Nd} {F F' : Nat → Prop} (h : OwnS w base v kids F) (hF : ∀ b, F b → F' b) : OwnS w base v kids F' := by
  obtain ⟨cells, G, h2, h3, h4, h5⟩ := h
  exact ⟨cells, G, h2, h3, fun b hb => ⟨hF b (h4 b hb).1, (h4 b hb).2⟩, fun b hb => hF b (h5 b hb)⟩
theorem own_len {w : World} {base : Nat} {x : Nd} {cs : List Value} {F : Nat → Prop} (h : Own w base x cs F) : cs.length = 8 := by
  rw [own_iff] at h
  obtain ⟨v, rfl, _⟩ := h
  rfl
theorem ownL_len {w : World} {base : Nat} : ∀ {xs : List Nd} {cs : List Value} {F : Nat → Prop}, OwnL w base xs cs F → cs.length = xs.length * 8
  | [], cs, F, h => by rw [OwnL] at h; subst h; rfl
  | x :: xs, cs, F, h => by
    rw [OwnL] at h
    obtain ⟨c, cs', G1, G2, rfl, h2, h3, _⟩ := h
    have := own_len h2
    have := ownL_len h3
    simp only [List.length_append, List.length_cons]
    omega
theorem row_move {w w1 : World} {base : Nat} {e : TypeId} {size n : Nat} {v : Value} {xs : List Value} (h : w.ownsRow base e size v n xs) (hm : ∀ k, v.ownBlock = some k → w1.heap[k]? = w.heap[k]?) : w1.ownsRow base e size v n xs := Go.Proofs.YtfefldkljbbbpaaW.PrintWords.own_move h hm

mutual
/-- What is in no block of F may change. -/
theorem own_move {w w1 : World} {base : Nat} : ∀ (x : Nd) {cs : List Value} {F : Nat → Prop}, Own w base x cs F → (∀ b, F b → w1.heap[b]? = w.heap[b]?) → Own w1 base x cs F
  | ⟨k, t, kids⟩, cs, F, h, hm => by
    rw [Own] at h ⊢
    obtain ⟨v, cells, G, h1, h2, h3, h4, h5⟩ := h
    exact ⟨v, cells, G, h1, row_move h2 (fun b hb => hm b (h4 b hb).1), ownL_move kids h3 (fun b hb => hm b (h5 b hb)), h4, h5⟩
theorem ownL_move {w w1 : World} {base : Nat} : ∀ (xs : List Nd) {cs : List Value} {F : Nat → Prop}, OwnL w base xs cs F → (∀ b, F b → w1.heap[b]? = w.heap[b]?) → OwnL w1 base xs cs F
  | [], cs, F, h, _ => by rw [OwnL] at h ⊢; exact h
  | x :: xs, cs, F, h, hm => by
    rw [OwnL] at h ⊢
    obtain ⟨c, cs', G1, G2, h1, h2, h3, h4, h5, h6⟩ := h
    exact ⟨c, cs', G1, G2, h1, own_move x h2 (fun b hb => hm b (h4 b hb)), ownL_move xs h3 (fun b hb => hm b (h5 b hb)), h4, h5, h6⟩
end
/-- A block that a tree may lie in. -/
def Lies (w : World) (base b : Nat) : Prop := base ≤ b ∧ b < w.heap.size ∧ ∃ cells, w.heap[b]? = some (.cells cells TN (0, 0))
theorem row_lies {w : World} {base n : Nat} {v : Value} {xs : List Value} (h : w.ownsRow base TN 8 v n xs) (b : Nat) (hb : v.ownBlock = some b) : Lies w base b := ⟨own_base h b hb, own_lt h b hb, own_typed h b hb⟩
mutual
theorem own_bound {w : World} {base : Nat} : ∀ (x : Nd) {cs : List Value} {F : Nat → Prop}, Own w base x cs F → Own w base x cs (fun b => F b ∧ Lies w base b)
  | ⟨k, t, kids⟩, cs, F, h => by
    rw [Own] at h ⊢
    obtain ⟨v, cells, G, h1, h2, h3, h4, h5⟩ := h
    exact ⟨v, cells, _, h1, h2, ownL_bound kids h3, fun b hb => ⟨⟨(h4 b hb).1, row_lies h2 b hb⟩, fun hg => (h4 b hb).2 hg.1⟩, fun b hb => ⟨h5 b hb.1, hb.2⟩⟩
theorem ownL_bound {w : World} {base : Nat} : ∀ (xs : List Nd) {cs : List Value} {F : Nat → Prop}, OwnL w base xs cs F → OwnL w base xs cs (fun b => F b ∧ Lies w base b)
  | [], cs, F, h => by rw [OwnL] at h ⊢; exact h
  | x :: xs, cs, F, h => by
    rw [OwnL] at h ⊢
    obtain ⟨c, cs', G1, G2, h1, h2, h3, h4, h5, h6⟩ := h
    exact ⟨c, cs', _, _, h1, own_bound x h2, ownL_bound xs h3, fun b hb => ⟨h4 b hb.1, hb.2⟩, fun b hb => ⟨h5 b hb.1, hb.2⟩, fun b hb hc => h6 b hb.1 hc.1⟩
end
theorem ownS_bound {w : World} {base : Nat} {v : Value} {kids : List Nd} {F : Nat → Prop} (h : OwnS w base v kids F) : OwnS w base v kids (fun b => F b ∧ Lies w base b) := by
  obtain ⟨cells, G, h2, h3, h4, h5⟩ := h
  exact ⟨cells, _, h2, ownL_bound kids h3, fun b hb => ⟨⟨(h4 b hb).1, row_lies h2 b hb⟩, fun hg => (h4 b hb).2 hg.1⟩, fun b hb => ⟨h5 b hb.1, hb.2⟩⟩
theorem ownS_move {w w1 : World} {base : Nat} {v : Value} {kids : List Nd} {F : Nat → Prop} (h : OwnS w base v kids F) (hm : ∀ b, F b → w1.heap[b]? = w.heap[b]?) : OwnS w1 base v kids F := by
  obtain ⟨cells, G, h2, h3, h4, h5⟩ := h
  exact ⟨cells, G, row_move h2 (fun b hb => hm b (h4 b hb).1), ownL_move kids h3 (fun b hb => hm b (h5 b hb)), h4, h5⟩
theorem own_step {w w1 : World} {base : Nat} {x : Nd} {cs : List Value} {F : Nat → Prop} (h : Own w base x cs F) (hm : ∀ b, F b → Lies w base b → w1.heap[b]? = w.heap[b]?) : Own w1 base x cs F := own_mono (own_move x (own_bound x h) (fun b hb => hm b hb.1 hb.2)) (fun _ hb => hb.1)
theorem ownL_step {w w1 : World} {base : Nat} {xs : List Nd} {cs : List Value} {F : Nat → Prop} (h : OwnL w base xs cs F) (hm : ∀ b, F b → Lies w base b → w1.heap[b]? = w.heap[b]?) : OwnL w1 base xs cs F := ownL_mono (ownL_move xs (ownL_bound xs h) (fun b hb => hm b hb.1 hb.2)) (fun _ hb => hb.1)
theorem ownS_step {w w1 : World} {base : Nat} {v : Value} {kids : List Nd} {F : Nat → Prop} (h : OwnS w base v kids F) (hm : ∀ b, F b → Lies w base b → w1.heap[b]? = w.heap[b]?) : OwnS w1 base v kids F := ownS_mono (ownS_move (ownS_bound h) (fun b hb => hm b hb.1 hb.2)) (fun _ hb => hb.1)
theorem own_below {w w1 : World} {base : Nat} {x : Nd} {cs : List Value} {F : Nat → Prop} (h : Own w base x cs F) (hb : Below w.heap.size w w1) : Own w1 base x cs F := own_step h (fun b _ hl => hb.block b hl.2.1)
theorem ownS_below {w w1 : World} {base : Nat} {v : Value} {kids : List Nd} {F : Nat → Prop} (h : OwnS w base v kids F) (hb : Below w.heap.size w w1) : OwnS w1 base v kids F := ownS_step h (fun b _ hl => hb.block b hl.2.1)
mutual
theorem own_lower {w : World} {base base' : Nat} (hle : base' ≤ base) : ∀ (x : Nd) {cs : List Value} {F : Nat → Prop}, Own w base x cs F → Own w base' x cs F
  | ⟨k, t, kids⟩, cs, F, h => by
    rw [Own] at h ⊢
    obtain ⟨v, cells, G, h1, h2, h3, h4, h5⟩ := h
    exact ⟨v, cells, G, h1, own_weaken h2 hle, ownL_lower hle kids h3, h4, h5⟩
theorem ownL_lower {w : World} {base base' : Nat} (hle : base' ≤ base) : ∀ (xs : List Nd) {cs : List Value} {F : Nat → Prop}, OwnL w base xs cs F → OwnL w base' xs cs F
  | [], cs, F, h => by rw [OwnL] at h ⊢; exact h
  | x :: xs, cs, F, h => by
    rw [OwnL] at h ⊢
    obtain ⟨c, cs', G1, G2, h1, h2, h3, h4, h5, h6⟩ := h
    exact ⟨c, cs', G1, G2, h1, own_lower hle x h2, ownL_lower hle xs h3, h4, h5, h6⟩
end
theorem ownS_lower {w : World} {base base' : Nat} (hle : base' ≤ base) {v : Value} {kids : List Nd} {F : Nat → Prop} (h : OwnS w base v kids F) : OwnS w base' v kids F := by
  obtain ⟨cells, G, h2, h3, h4, h5⟩ := h
  exact ⟨cells, G, own_weaken h2 hle, ownL_lower hle kids h3, h4, h5⟩

/-! Lists, taken apart and laid together. -/
theorem ownL_append {w : World} {base : Nat} : ∀ {xs ys : List Nd} {cs ds : List Value} {F1 F2 : Nat → Prop}, OwnL w base xs cs F1 → OwnL w base ys ds F2 → (∀ b, F1 b → ¬ F2 b) → OwnL w base (xs ++ ys) (cs ++ ds) (fun b => F1 b ∨ F2 b)
  | [], ys, cs, ds, F1, F2, h1, h2, h3 => by
    rw [OwnL] at h1
    subst h1
    exact ownL_mono h2 (fun _ hb => .inr hb)
  | x :: xs, ys, cs, ds, F1, F2, h1, h2, h3 => by
    rw [OwnL] at h1
    obtain ⟨c, cs', G1, G2, rfl, a1, a2, a3, a4, a5⟩ := h1
    rw [List.cons_append, OwnL]
    refine ⟨c, cs' ++ ds, G1, fun b => G2 b ∨ F2 b, by rw [List.append_assoc], a1, ownL_append a2 h2 (fun b hb => h3 b (a4 b hb)), fun b hb => .inl (a3 b hb), fun b hb => ?_, fun b hb hc => ?_⟩
    · rcases hb with hb | hb
      · exact .inl (a4 b hb)
      · exact .inr hb
    · rcases hc with hc | hc
      · exact a5 b hb hc
      · exact h3 b (a3 b hb) hc
theorem ownL_parts {w : World} {base : Nat} : ∀ {xs ys : List Nd} {cells : List Value} {F : Nat → Prop}, OwnL w base (xs ++ ys) cells F → ∃ cs ds F1 F2, cells = cs ++ ds ∧ OwnL w base xs cs F1 ∧ OwnL w base ys ds F2 ∧ (∀ b, F1 b → F b) ∧ (∀ b, F2 b → F b) ∧ (∀ b, F1 b → ¬ F2 b)
  | [], ys, cells, F, h => ⟨[], cells, fun _ => False, F, rfl, by rw [OwnL], h, fun _ hb => hb.elim, fun _ hb => hb, fun _ hb => hb.elim⟩
  | x :: xs, ys, cells, F, h => by
    rw [List.cons_append, OwnL] at h
    obtain ⟨c, cs', G1, G2, rfl, a1, a2, a3, a4, a5⟩ := h
    obtain ⟨cs, ds, F1, F2, rfl, b1, b2, b3, b4, b5⟩ := ownL_parts a2
    refine ⟨c ++ cs, ds, fun b => G1 b ∨ F1 b, F2, by rw [List.append_assoc], ?_, b2, fun b hb => ?_, fun b hb => a4 b (b4 b hb), fun b hb hc => ?_⟩
    · rw [OwnL]
      exact ⟨c, cs, G1, F1, rfl, a1, b1, fun _ hb => .inl hb, fun _ hb => .inr hb, fun b hb hc => a5 b hb (b3 b hc)⟩
    · rcases hb with hb | hb
      · exact a3 b hb
      · exact a4 b (b3 b hb)
    · rcases hb with hb | hb
      · exact a5 b hb (b4 b hc)
      · exact b5 b hb hc
theorem ownL_one {w : World} {base : Nat} {x : Nd} {c : List Value} {F : Nat → Prop} : OwnL w base [x] c F ↔ Own w base x c F := by
  rw [OwnL]
  constructor
  · rintro ⟨c', cs, G1, G2, rfl, h1, h2, h3, _⟩
    rw [OwnL] at h2
    subst h2
    rw [List.append_nil]
    exact own_mono h1 h3
  · intro h
    exact ⟨c, [], F, fun _ => False, by rw [List.append_nil], h, by rw [OwnL], fun _ hb => hb, fun _ hb => hb.elim, fun _ _ hb => hb⟩
theorem ownS_nil (w : World) (base : Nat) (F : Nat → Prop) : OwnS w base (.slice none 0 0) [] F := ⟨[], fun _ => False, ⟨rfl, .inl ⟨rfl, rfl⟩⟩, by rw [OwnL], fun b hb => by simp [Value.ownBlock] at hb, fun _ hb => hb.elim⟩

/-! What is of one's own can be read. -/
theorem row_C {w : World} {base : Nat} {v : Value} {kids : List Nd} {cells : List Value} (h : w.ownsRow base TN 8 v kids.length cells) (hl : Reps (kNd.K w) 8 kids cells) : ∃ A c, v = .slice A kids.length c ∧ kids.length ≤ c ∧ Kd.C kNd w A kids.length kids := by
  obtain ⟨A, c, hv, hr⟩ := own_reads_row (size := 8) h hl rfl
  refine ⟨A, c, hv, ?_, hr⟩
  rcases h.2 with ⟨he, hn⟩ | ⟨g, cap, cur, he, _, _, hc, _⟩
  · omega
  · rw [hv] at he
    injection he with _ _ he
    omega
mutual
theorem own_K {w : World} {base : Nat} : ∀ (x : Nd) {cs : List Value} {F : Nat → Prop}, Own w base x cs F → kNd.K w x cs
  | ⟨k, t, kids⟩, cs, F, h => by
    rw [Own] at h
    obtain ⟨v, cells, G, rfl, h2, h3, h4, h5⟩ := h
    obtain ⟨A, c, rfl, hc, hr⟩ := row_C h2 (ownL_reps kids h3)
    exact PTreeSame.k35_mk w ⟨k, t, kids⟩ hc hr
theorem ownL_reps {w : World} {base : Nat} : ∀ (xs : List Nd) {cs : List Value} {F : Nat → Prop}, OwnL w base xs cs F → Reps (kNd.K w) 8 xs cs
  | [], cs, F, h => by rw [OwnL] at h; subst h; exact Reps.none _ _
  | x :: xs, cs, F, h => by
    rw [OwnL] at h
    obtain ⟨c, cs', G1, G2, rfl, h2, h3, _⟩ := h
    have := Kd.reps_append ((Reps.none (kNd.K w) 8).snoc (own_K x h2) (own_len h2)) (ownL_reps xs h3)
    simpa using this
end
theorem ownS_C {w : World} {base : Nat} {v : Value} {kids : List Nd} {F : Nat → Prop} (h : OwnS w base v kids F) : ∃ A c, v = .slice A kids.length c ∧ kids.length ≤ c ∧ Kd.C kNd w A kids.length kids := by
  obtain ⟨cells, G, h2, h3, _⟩ := h
  exact row_C h2 (ownL_reps kids h3)

/-! A list grows by one. -/
theorem grown_S {W w1 : World} {base : Nat} {v v1 : Value} {kids : List Nd} {cells cs : List Value} {F G Fx : Nat → Prop} {x : Nd} (h2 : W.ownsRow base TN 8 v kids.length cells) (h3 : OwnL W base kids cells G) (h4 : ∀ b, v.ownBlock = some b → F b ∧ ¬ G b) (h5 : ∀ b, G b → F b)
    (hx : Own W base x cs Fx) (hd : ∀ b, F b → ¬ Fx b) (ho : w1.ownsRow base TN 8 v1 (kids.length + 1) (cells ++ cs)) (hg : W.grownBy w1 v.ownBlock) (hat : v1.ownBlock = v.ownBlock ∨ ∃ b, v1.ownBlock = some b ∧ W.heap.size ≤ b) :
    OwnS w1 base v1 (kids ++ [x]) (fun b => F b ∨ Fx b ∨ W.heap.size ≤ b) := by
  have a3 : OwnL w1 base kids cells (fun b => G b ∧ Lies W base b) := ownL_move kids (ownL_bound kids h3) (fun b hb => hg.block b hb.2.2.1 (fun he => (h4 b he.symm).2 hb.1))
  have ax : Own w1 base x cs (fun b => Fx b ∧ Lies W base b) := own_move x (own_bound x hx) (fun b hb => hg.block b hb.2.2.1 (fun he => hd b (h4 b he.symm).1 hb.1))
  refine ⟨cells ++ cs, _, by rw [List.length_append, List.length_singleton]; exact ho, ownL_append a3 (ownL_one.2 ax) (fun b hb hc => hd b (h5 b hb.1) hc.1), fun b hb => ?_, fun b hb => ?_⟩
  · rcases hat with he | ⟨b', he, hle⟩
    · rw [he] at hb
      refine ⟨.inl (h4 b hb).1, fun hc => ?_⟩
      rcases hc with hc | hc
      · exact (h4 b hb).2 hc.1
      · exact hd b (h4 b hb).1 hc.1
    · rw [he] at hb
      obtain rfl := Option.some.inj hb
      refine ⟨.inr (.inr hle), fun hc => ?_⟩
      rcases hc with hc | hc
      · have := hc.2.2.1; omega
      · have := hc.2.2.1; omega
  · rcases hb with hb | hb
    · exact .inl (h5 b hb.1)
    · exact .inr (.inl hb.1)
theorem kid_own (w : World) (base : Nat) (k : Int) (t : Tk) (F : Nat → Prop) : Own w base ⟨k, t, []⟩ (ndCells k t (.slice none 0 0)) F := own_iff.2 ⟨_, rfl, ownS_nil w base F⟩

/-! The last one of a list. -/
structure TopsX (w : World) (base g cap : Nat) (S : List Nd) (t : Nd) (u : Value) (F : Nat → Prop) (cells : List Value) (G1 G2 : Nat → Prop) (kc : List Value) (Gk : Nat → Prop) : Prop where
  row : w.ownsRow base TN 8 (.slice (some ⟨g, 0, none⟩) (S.length + 1) cap) (S.length + 1) (cells ++ ndCells t.f0 t.f1 u)
  rest : OwnL w base S cells G1
  krow : w.ownsRow base TN 8 u t.f2.length kc
  kids : OwnL w base t.f2 kc Gk
  own : ∀ b, u.ownBlock = some b → G2 b ∧ ¬ Gk b
  sub : ∀ b, Gk b → G2 b
  apart : ∀ b, G1 b → ¬ G2 b
  n1 : ¬ G1 g
  n2 : ¬ G2 g
  fg : F g
  f1 : ∀ b, G1 b → F b
  f2 : ∀ b, G2 b → F b
structure Tops (w : World) (base g cap : Nat) (S : List Nd) (t : Nd) (u : Value) (F : Nat → Prop) : Prop where
  top : ∃ (cells : List Value) (G1 G2 : Nat → Prop) (kc : List Value) (Gk : Nat → Prop), TopsX w base g cap S t u F cells G1 G2 kc Gk
theorem tops_of {w : World} {base : Nat} {v : Value} {S : List Nd} {t : Nd} {F : Nat → Prop} (h : OwnS w base v (S ++ [t]) F) : ∃ g cap u, v = .slice (some ⟨g, 0, none⟩) (S.length + 1) cap ∧ Tops w base g cap S t u F := by
  obtain ⟨cells, G, h2, h3, h4, h5⟩ := h
  obtain ⟨cs, ds, F1, F2, rfl, b1, b2, b3, b4, b5⟩ := ownL_parts h3
  rw [ownL_one, own_iff] at b2
  obtain ⟨u, rfl, kc, Gk, c2, c3, c4, c5⟩ := b2
  rw [List.length_append, List.length_singleton] at h2
  rcases h2.2 with ⟨_, hn⟩ | ⟨g, cap, cur, rfl, r⟩
  · omega
  · have hg := h4 g rfl
    exact ⟨g, cap, u, rfl, ⟨cs, F1, F2, kc, Gk, h2, b1, c2, c3, c4, c5, b5, fun hb => hg.2 (b3 g hb), fun hb => hg.2 (b4 g hb), hg.1, fun b hb => h5 b (b3 b hb), fun b hb => h5 b (b4 b hb)⟩⟩
theorem tops_back {w : World} {base g cap : Nat} {S : List Nd} {t : Nd} {u : Value} {F : Nat → Prop} (h : Tops w base g cap S t u F) : OwnS w base (.slice (some ⟨g, 0, none⟩) (S.length + 1) cap) (S ++ [t]) F := by
  obtain ⟨cells, G1, G2, kc, Gk, h1, h2, h3, h4, h5, h6, h7, h8, h9, h10, h11, h12⟩ := h.top
  refine ⟨cells ++ ndCells t.f0 t.f1 u, fun b => G1 b ∨ G2 b, by rw [List.length_append, List.length_singleton]; exact h1, ownL_append h2 (ownL_one.2 (own_iff.2 ⟨u, rfl, kc, Gk, h3, h4, h5, h6⟩)) h7, fun b hb => ?_, fun b hb => ?_⟩
  · have : g = b := by simpa [Value.ownBlock] using hb
    subst this
    exact ⟨h10, fun hc => hc.elim h8 h9⟩
  · rcases hb with hb | hb
    · exact h11 b hb
    · exact h12 b hb
/-- Where the last one's cells lie. -/
theorem row_at {w : World} {base g cap n : Nat} {cells : List Value} (h : w.ownsRow base TN 8 (.slice (some ⟨g, 0, none⟩) n cap) n cells) (j : Nat) (v : Value) (hj : cells[j]? = some v) : w.cell? ⟨g, j, none⟩ = some v ∧ w.frozen? ⟨g, j, none⟩ = false := by
  rcases h.2 with ⟨he, _⟩ | ⟨g', cap', cur, he, hb, hh, hl, _, hs, ht⟩
  · cases he
  · injection he with he
    injection he with he
    injection he with he
    subst he
    have hjl := (List.getElem?_eq_some_iff.1 hj).1
    rw [h.1] at hjl
    refine ⟨?_, by simp [World.frozen?, hh]⟩
    rw [← ht, List.getElem?_take_of_lt hjl, Array.getElem?_toList] at hj
    rw [cell_of_row _ _ _ _ _ _ hh]
    exact hj
theorem top_at {w : World} {base g cap : Nat} {S : List Nd} {t : Nd} {u : Value} {F : Nat → Prop} (h : Tops w base g cap S t u F) (j : Nat) (v : Value) (hj : (ndCells t.f0 t.f1 u)[j]? = some v) : w.cell? ⟨g, S.length * 8 + j, none⟩ = some v ∧ w.frozen? ⟨g, S.length * 8 + j, none⟩ = false := by
  obtain ⟨cells, G1, G2, kc, Gk, h1, h2, _⟩ := h.top
  have hl := ownL_len h2
  refine row_at h1 _ v ?_
  rw [List.getElem?_append_right (by omega), show S.length * 8 + j - cells.length = j by omega]
  exact hj
theorem top_slice {w : World} {base g cap : Nat} {S : List Nd} {t : Nd} {u : Value} {F : Nat → Prop} (h : Tops w base g cap S t u F) : ∃ A c, u = .slice A t.f2.length c := by
  obtain ⟨cells, G1, G2, kc, Gk, h1, h2, h3, _⟩ := h.top
  exact own_slice h3
end Go.Proofs.Ytfefldkljbbbpaa
