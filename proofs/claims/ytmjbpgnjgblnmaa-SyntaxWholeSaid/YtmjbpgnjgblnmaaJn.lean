/- What the claim stands on: part Jn. -/
import Derived.Test.YtmjbpgnjgblnmaaJb
import Derived.Test.YtmjbpgnjgblnmaaJc
import Derived.Lib.Hide
set_option linter.unusedVariables false
set_option linter.unusedSimpArgs false
set_option maxRecDepth 100000
namespace Go.Proofs.Ytmjbpgnjgblnmaa.Tr
open Go.RowKit Go.Proofs.YtmjbpgnjgblnmaaW.PrintWords Go.Proofs.YtmjbpgnjgblnmaaW.PrintLast Go.Proofs.YtmjbpgnjgblnmaaW.PrintMore
abbrev Tk := PSyntaxWhole.S35
abbrev Ev := PSyntaxWhole.S46
abbrev Nd := PSyntaxWhole.S51
abbrev kTk := PSyntaxWhole.k35
abbrev kEv := PSyntaxWhole.k46
abbrev kNd := PSyntaxWhole.k51
abbrev TN : TypeId := 51
def noTk : Tk := ⟨0, ⟨#[]⟩, ⟨0, 0, 0⟩, 0⟩
def noNd : Nd := ⟨0, noTk, []⟩
def ndCells (k : Int) (t : Tk) (v : Value) : List Value := [.int .u8 k, .int .u8 t.f0, .string t.f1, .int .i64 t.f2.f0, .int .i64 t.f2.f1, .int .i64 t.f2.f2, .int .i64 t.f3, v]
theorem ndCells_len (k : Int) (t : Tk) (v : Value) : (ndCells k t v).length = 8 := rfl
mutual
def Own (w : World) (base : Nat) : Nd → List Value → (Nat → Prop) → Prop
 | ⟨k, t, kids⟩, cs, F => ∃ v cells G, cs = ndCells k t v ∧ w.ownsRow base TN 8 v kids.length cells ∧ OwnL w base kids cells G ∧ (∀ b, v.ownBlock = some b → F b ∧ ¬ G b) ∧ (∀ b, G b → F b)
def OwnL (w : World) (base : Nat) : List Nd → List Value → (Nat → Prop) → Prop
 | [], cells, _ => cells = []
 | x :: xs, cells, F => ∃ c cs G1 G2, cells = c ++ cs ∧ Own w base x c G1 ∧ OwnL w base xs cs G2 ∧ (∀ b, G1 b → F b) ∧ (∀ b, G2 b → F b) ∧ (∀ b, G1 b → ¬ G2 b)
end
def OwnS (w : World) (base : Nat) (v : Value) (kids : List Nd) (F : Nat → Prop) : Prop := ∃ cells G, w.ownsRow base TN 8 v kids.length cells ∧ OwnL w base kids cells G ∧ (∀ b, v.ownBlock = some b → F b ∧ ¬ G b) ∧ (∀ b, G b → F b)
theorem own_iff {w : World} {base : Nat} {x : Nd} {cs : List Value} {F : Nat → Prop} : Own w base x cs F ↔ ∃ v, cs = ndCells x.f0 x.f1 v ∧ OwnS w base v x.f2 F := by
 obtain ⟨k, t, kids⟩ := x
 rw [Own]
 constructor
 ·rintro ⟨v, cells, G, h1, h2, h3, h4, h5⟩
  exact ⟨v, h1, cells, G, h2, h3, h4, h5⟩
 ·rintro ⟨v, h1, cells, G, h2, h3, h4, h5⟩
  exact ⟨v, cells, G, h1, h2, h3, h4, h5⟩
theorem own_mono {w : World} {base : Nat} {x : Nd} {cs : List Value} {F F' : Nat → Prop} (h : Own w base x cs F) (hF : ∀ b, F b → F' b) : Own w base x cs F' := by
 rw [own_iff] at h ⊢
 obtain ⟨v, h1, cells, G, h2, h3, h4, h5⟩ := h
 exact ⟨v, h1, cells, G, h2, h3, fun b hb => ⟨hF b (h4 b hb).1, (h4 b hb).2⟩, fun b hb => hF b (h5 b hb)⟩
theorem ownL_mono {w : World} {base : Nat} {xs : List Nd} {cs : List Value} {F F' : Nat → Prop} (h : OwnL w base xs cs F) (hF : ∀ b, F b → F' b) : OwnL w base xs cs F' := by
 cases xs with
 | nil => exact h
 | cons x xs =>
  rw [OwnL] at h ⊢
  obtain ⟨c, cs', G1, G2, h1, h2, h3, h4, h5, h6⟩ := h
  exact ⟨c, cs', G1, G2, h1, h2, h3, fun b hb => hF b (h4 b hb), fun b hb => hF b (h5 b hb), h6⟩
theorem ownS_mono {w : World} {base : Nat} {v : Value} {kids : List Nd} {F F' : Nat → Prop} (h : OwnS w base v kids F) (hF : ∀ b, F b → F' b) : OwnS w base v kids F' := by
 obtain ⟨cells, G, h2, h3, h4, h5⟩ := h
 exact ⟨cells, G, h2, h3, fun b hb => ⟨hF b (h4 b hb).1, (h4 b hb).2⟩, fun b hb => hF b (h5 b hb)⟩
theorem own_len {w : World} {base : Nat} {x : Nd} {cs : List Value} {F : Nat → Prop} (h : Own w base x cs F) : cs.length = 8 := by
 rw [own_iff] at h
 obtain ⟨v, rfl, _⟩ := h
 rfl
theorem ownL_len {w : World} {base : Nat} : ∀ {xs : List Nd} {cs : List Value} {F : Nat → Prop}, OwnL w base xs cs F → cs.length = xs.length * 8
 | [], cs, F, h => by rw [OwnL] at h; subst h; rfl
 | x :: xs, cs, F, h => by
  rw [OwnL] at h
  obtain ⟨c, cs', G1, G2, rfl, h2, h3, _⟩ := h
  have := own_len h2
  have := ownL_len h3
  simp only [List.length_append, List.length_cons]
  omega
theorem row_move {w w1 : World} {base : Nat} {e : TypeId} {size n : Nat} {v : Value} {xs : List Value} (h : w.ownsRow base e size v n xs) (hm : ∀ k, v.ownBlock = some k → w1.heap[k]? = w.heap[k]?) : w1.ownsRow base e size v n xs := Go.Proofs.YtmjbpgnjgblnmaaW.PrintWords.own_move h hm
mutual
theorem own_move {w w1 : World} {base : Nat} : ∀ (x : Nd) {cs : List Value} {F : Nat → Prop}, Own w base x cs F → (∀ b, F b → w1.heap[b]? = w.heap[b]?) → Own w1 base x cs F
 | ⟨k, t, kids⟩, cs, F, h, hm => by
  rw [Own] at h ⊢
  obtain ⟨v, cells, G, h1, h2, h3, h4, h5⟩ := h
  exact ⟨v, cells, G, h1, row_move h2 (fun b hb => hm b (h4 b hb).1), ownL_move kids h3 (fun b hb => hm b (h5 b hb)), h4, h5⟩
theorem ownL_move {w w1 : World} {base : Nat} : ∀ (xs : List Nd) {cs : List Value} {F : Nat → Prop}, OwnL w base xs cs F → (∀ b, F b → w1.heap[b]? = w.heap[b]?) → OwnL w1 base xs cs F
 | [], cs, F, h, _ => by rw [OwnL] at h ⊢; exact h
 | x :: xs, cs, F, h, hm => by
  rw [OwnL] at h ⊢
  obtain ⟨c, cs', G1, G2, h1, h2, h3, h4, h5, h6⟩ := h
  exact ⟨c, cs', G1, G2, h1, own_move x h2 (fun b hb => hm b (h4 b hb)), ownL_move xs h3 (fun b hb => hm b (h5 b hb)), h4, h5, h6⟩
end
def Lies (w : World) (base b : Nat) : Prop := base ≤ b ∧ b < w.heap.size ∧ ∃ cells, w.heap[b]? = some (.cells cells TN (0, 0))
theorem row_lies {w : World} {base n : Nat} {v : Value} {xs : List Value} (h : w.ownsRow base TN 8 v n xs) (b : Nat) (hb : v.ownBlock = some b) : Lies w base b := ⟨own_base h b hb, own_lt h b hb, own_typed h b hb⟩
mutual
theorem own_bound {w : World} {base : Nat} : ∀ (x : Nd) {cs : List Value} {F : Nat → Prop}, Own w base x cs F → Own w base x cs (fun b => F b ∧ Lies w base b)
 | ⟨k, t, kids⟩, cs, F, h => by
  rw [Own] at h ⊢
  obtain ⟨v, cells, G, h1, h2, h3, h4, h5⟩ := h
  exact ⟨v, cells, _, h1, h2, ownL_bound kids h3, fun b hb => ⟨⟨(h4 b hb).1, row_lies h2 b hb⟩, fun hg => (h4 b hb).2 hg.1⟩, fun b hb => ⟨h5 b hb.1, hb.2⟩⟩
theorem ownL_bound {w : World} {base : Nat} : ∀ (xs : List Nd) {cs : List Value} {F : Nat → Prop}, OwnL w base xs cs F → OwnL w base xs cs (fun b => F b ∧ Lies w base b)
 | [], cs, F, h => by rw [OwnL] at h ⊢; exact h
 | x :: xs, cs, F, h => by
  rw [OwnL] at h ⊢
  obtain ⟨c, cs', G1, G2, h1, h2, h3, h4, h5, h6⟩ := h
  exact ⟨c, cs', _, _, h1, own_bound x h2, ownL_bound xs h3, fun b hb => ⟨h4 b hb.1, hb.2⟩, fun b hb => ⟨h5 b hb.1, hb.2⟩, fun b hb hc => h6 b hb.1 hc.1⟩
end
theorem ownS_bound {w : World} {base : Nat} {v : Value} {kids : List Nd} {F : Nat → Prop} (h : OwnS w base v kids F) : OwnS w base v kids (fun b => F b ∧ Lies w base b) := by
 obtain ⟨cells, G, h2, h3, h4, h5⟩ := h
 exact ⟨cells, _, h2, ownL_bound kids h3, fun b hb => ⟨⟨(h4 b hb).1, row_lies h2 b hb⟩, fun hg => (h4 b hb).2 hg.1⟩, fun b hb => ⟨h5 b hb.1, hb.2⟩⟩
theorem ownS_move {w w1 : World} {base : Nat} {v : Value} {kids : List Nd} {F : Nat → Prop} (h : OwnS w base v kids F) (hm : ∀ b, F b → w1.heap[b]? = w.heap[b]?) : OwnS w1 base v kids F := by
 obtain ⟨cells, G, h2, h3, h4, h5⟩ := h
 exact ⟨cells, G, row_move h2 (fun b hb => hm b (h4 b hb).1), ownL_move kids h3 (fun b hb => hm b (h5 b hb)), h4, h5⟩
theorem own_step {w w1 : World} {base : Nat} {x : Nd} {cs : List Value} {F : Nat → Prop} (h : Own w base x cs F) (hm : ∀ b, F b → Lies w base b → w1.heap[b]? = w.heap[b]?) : Own w1 base x cs F := own_mono (own_move x (own_bound x h) (fun b hb => hm b hb.1 hb.2)) (fun _ hb => hb.1)
theorem ownL_step {w w1 : World} {base : Nat} {xs : List Nd} {cs : List Value} {F : Nat → Prop} (h : OwnL w base xs cs F) (hm : ∀ b, F b → Lies w base b → w1.heap[b]? = w.heap[b]?) : OwnL w1 base xs cs F := ownL_mono (ownL_move xs (ownL_bound xs h) (fun b hb => hm b hb.1 hb.2)) (fun _ hb => hb.1)
theorem ownS_step {w w1 : World} {base : Nat} {v : Value} {kids : List Nd} {F : Nat → Prop} (h : OwnS w base v kids F) (hm : ∀ b, F b → Lies w base b → w1.heap[b]? = w.heap[b]?) : OwnS w1 base v kids F := ownS_mono (ownS_move (ownS_bound h) (fun b hb => hm b hb.1 hb.2)) (fun _ hb => hb.1)
theorem own_below {w w1 : World} {base : Nat} {x : Nd} {cs : List Value} {F : Nat → Prop} (h : Own w base x cs F) (hb : Below w.heap.size w w1) : Own w1 base x cs F := own_step h (fun b _ hl => hb.block b hl.2.1)
theorem ownS_below {w w1 : World} {base : Nat} {v : Value} {kids : List Nd} {F : Nat → Prop} (h : OwnS w base v kids F) (hb : Below w.heap.size w w1) : OwnS w1 base v kids F := ownS_step h (fun b _ hl => hb.block b hl.2.1)
mutual
theorem own_lower {w : World} {base base' : Nat} (hle : base' ≤ base) : ∀ (x : Nd) {cs : List Value} {F : Nat → Prop}, Own w base x cs F → Own w base' x cs F
 | ⟨k, t, kids⟩, cs, F, h => by
  rw [Own] at h ⊢
  obtain ⟨v, cells, G, h1, h2, h3, h4, h5⟩ := h
  exact ⟨v, cells, G, h1, own_weaken h2 hle, ownL_lower hle kids h3, h4, h5⟩
theorem ownL_lower {w : World} {base base' : Nat} (hle : base' ≤ base) : ∀ (xs : List Nd) {cs : List Value} {F : Nat → Prop}, OwnL w base xs cs F → OwnL w base' xs cs F
 | [], cs, F, h => by rw [OwnL] at h ⊢; exact h
 | x :: xs, cs, F, h => by
  rw [OwnL] at h ⊢
  obtain ⟨c, cs', G1, G2, h1, h2, h3, h4, h5, h6⟩ := h
  exact ⟨c, cs', G1, G2, h1, own_lower hle x h2, ownL_lower hle xs h3, h4, h5, h6⟩
end
theorem ownS_lower {w : World} {base base' : Nat} (hle : base' ≤ base) {v : Value} {kids : List Nd} {F : Nat → Prop} (h : OwnS w base v kids F) : OwnS w base' v kids F := by
 obtain ⟨cells, G, h2, h3, h4, h5⟩ := h
 exact ⟨cells, G, own_weaken h2 hle, ownL_lower hle kids h3, h4, h5⟩
theorem ownL_append {w : World} {base : Nat} : ∀ {xs ys : List Nd} {cs ds : List Value} {F1 F2 : Nat → Prop}, OwnL w base xs cs F1 → OwnL w base ys ds F2 → (∀ b, F1 b → ¬ F2 b) → OwnL w base (xs ++ ys) (cs ++ ds) (fun b => F1 b ∨ F2 b)
 | [], ys, cs, ds, F1, F2, h1, h2, h3 => by
  rw [OwnL] at h1
  subst h1
  exact ownL_mono h2 (fun _ hb => .inr hb)
 | x :: xs, ys, cs, ds, F1, F2, h1, h2, h3 => by
  rw [OwnL] at h1
  obtain ⟨c, cs', G1, G2, rfl, a1, a2, a3, a4, a5⟩ := h1
  rw [List.cons_append, OwnL]
  refine ⟨c, cs' ++ ds, G1, fun b => G2 b ∨ F2 b, by rw [List.append_assoc], a1, ownL_append a2 h2 (fun b hb => h3 b (a4 b hb)), fun b hb => .inl (a3 b hb), fun b hb => ?_, fun b hb hc => ?_⟩
  ·rcases hb with hb | hb
   ·exact .inl (a4 b hb)
   ·exact .inr hb
  ·rcases hc with hc | hc
   ·exact a5 b hb hc
   ·exact h3 b (a3 b hb) hc
theorem ownL_parts {w : World} {base : Nat} : ∀ {xs ys : List Nd} {cells : List Value} {F : Nat → Prop}, OwnL w base (xs ++ ys) cells F → ∃ cs ds F1 F2, cells = cs ++ ds ∧ OwnL w base xs cs F1 ∧ OwnL w base ys ds F2 ∧ (∀ b, F1 b → F b) ∧ (∀ b, F2 b → F b) ∧ (∀ b, F1 b → ¬ F2 b)
 | [], ys, cells, F, h => ⟨[], cells, fun _ => False, F, rfl, by rw [OwnL], h, fun _ hb => hb.elim, fun _ hb => hb, fun _ hb => hb.elim⟩
 | x :: xs, ys, cells, F, h => by
  rw [List.cons_append, OwnL] at h
  obtain ⟨c, cs', G1, G2, rfl, a1, a2, a3, a4, a5⟩ := h
  obtain ⟨cs, ds, F1, F2, rfl, b1, b2, b3, b4, b5⟩ := ownL_parts a2
  refine ⟨c ++ cs, ds, fun b => G1 b ∨ F1 b, F2, by rw [List.append_assoc], ?_, b2, fun b hb => ?_, fun b hb => a4 b (b4 b hb), fun b hb hc => ?_⟩
  ·rw [OwnL]
   exact ⟨c, cs, G1, F1, rfl, a1, b1, fun _ hb => .inl hb, fun _ hb => .inr hb, fun b hb hc => a5 b hb (b3 b hc)⟩
  ·rcases hb with hb | hb
   ·exact a3 b hb
   ·exact a4 b (b3 b hb)
  ·rcases hb with hb | hb
   ·exact a5 b hb (b4 b hc)
   ·exact b5 b hb hc
theorem ownL_one {w : World} {base : Nat} {x : Nd} {c : List Value} {F : Nat → Prop} : OwnL w base [x] c F ↔ Own w base x c F := by
 rw [OwnL]
 constructor
 ·rintro ⟨c', cs, G1, G2, rfl, h1, h2, h3, _⟩
  rw [OwnL] at h2
  subst h2
  rw [List.append_nil]
  exact own_mono h1 h3
 ·intro h
  exact ⟨c, [], F, fun _ => False, by rw [List.append_nil], h, by rw [OwnL], fun _ hb => hb, fun _ hb => hb.elim, fun _ _ hb => hb⟩
theorem ownS_nil (w : World) (base : Nat) (F : Nat → Prop) : OwnS w base (.slice none 0 0) [] F := ⟨[], fun _ => False, ⟨rfl, .inl ⟨rfl, rfl⟩⟩, by rw [OwnL], fun b hb => by simp [Value.ownBlock] at hb, fun _ hb => hb.elim⟩
theorem row_C {w : World} {base : Nat} {v : Value} {kids : List Nd} {cells : List Value} (h : w.ownsRow base TN 8 v kids.length cells) (hl : Reps (kNd.K w) 8 kids cells) : ∃ A c, v = .slice A kids.length c ∧ kids.length ≤ c ∧ Kd.C kNd w A kids.length kids := by
 obtain ⟨A, c, hv, hr⟩ := own_reads_row (size := 8) h hl rfl
 refine ⟨A, c, hv, ?_, hr⟩
 rcases h.2 with ⟨he, hn⟩ | ⟨g, cap, cur, he, _, _, hc, _⟩
 ·omega
 ·rw [hv] at he
  injection he with _ _ he
  omega
mutual
theorem own_K {w : World} {base : Nat} : ∀ (x : Nd) {cs : List Value} {F : Nat → Prop}, Own w base x cs F → kNd.K w x cs
 | ⟨k, t, kids⟩, cs, F, h => by
  rw [Own] at h
  obtain ⟨v, cells, G, rfl, h2, h3, h4, h5⟩ := h
  obtain ⟨A, c, rfl, hc, hr⟩ := row_C h2 (ownL_reps kids h3)
  exact PSyntaxWhole.k51_mk w ⟨k, t, kids⟩ hc hr
theorem ownL_reps {w : World} {base : Nat} : ∀ (xs : List Nd) {cs : List Value} {F : Nat → Prop}, OwnL w base xs cs F → Reps (kNd.K w) 8 xs cs
 | [], cs, F, h => by rw [OwnL] at h; subst h; exact Reps.none _ _
 | x :: xs, cs, F, h => by
  rw [OwnL] at h
  obtain ⟨c, cs', G1, G2, rfl, h2, h3, _⟩ := h
  have := Kd.reps_append ((Reps.none (kNd.K w) 8).snoc (own_K x h2) (own_len h2)) (ownL_reps xs h3)
  simpa using this
end
theorem ownS_C {w : World} {base : Nat} {v : Value} {kids : List Nd} {F : Nat → Prop} (h : OwnS w base v kids F) : ∃ A c, v = .slice A kids.length c ∧ kids.length ≤ c ∧ Kd.C kNd w A kids.length kids := by
 obtain ⟨cells, G, h2, h3, _⟩ := h
 exact row_C h2 (ownL_reps kids h3)
theorem grown_S {W w1 : World} {base : Nat} {v v1 : Value} {kids : List Nd} {cells cs : List Value} {F G Fx : Nat → Prop} {x : Nd} (h2 : W.ownsRow base TN 8 v kids.length cells) (h3 : OwnL W base kids cells G) (h4 : ∀ b, v.ownBlock = some b → F b ∧ ¬ G b) (h5 : ∀ b, G b → F b)
  (hx : Own W base x cs Fx) (hd : ∀ b, F b → ¬ Fx b) (ho : w1.ownsRow base TN 8 v1 (kids.length + 1) (cells ++ cs)) (hg : W.grownBy w1 v.ownBlock) (hat : v1.ownBlock = v.ownBlock ∨ ∃ b, v1.ownBlock = some b ∧ W.heap.size ≤ b) :
  OwnS w1 base v1 (kids ++ [x]) (fun b => F b ∨ Fx b ∨ W.heap.size ≤ b) := by
 have a3 : OwnL w1 base kids cells (fun b => G b ∧ Lies W base b) := ownL_move kids (ownL_bound kids h3) (fun b hb => hg.block b hb.2.2.1 (fun he => (h4 b he.symm).2 hb.1))
 have ax : Own w1 base x cs (fun b => Fx b ∧ Lies W base b) := own_move x (own_bound x hx) (fun b hb => hg.block b hb.2.2.1 (fun he => hd b (h4 b he.symm).1 hb.1))
 refine ⟨cells ++ cs, _, by rw [List.length_append, List.length_singleton]; exact ho, ownL_append a3 (ownL_one.2 ax) (fun b hb hc => hd b (h5 b hb.1) hc.1), fun b hb => ?_, fun b hb => ?_⟩
 ·rcases hat with he | ⟨b', he, hle⟩
  ·rw [he] at hb
   refine ⟨.inl (h4 b hb).1, fun hc => ?_⟩
   rcases hc with hc | hc
   ·exact (h4 b hb).2 hc.1
   ·exact hd b (h4 b hb).1 hc.1
  ·rw [he] at hb
   obtain rfl := Option.some.inj hb
   refine ⟨.inr (.inr hle), fun hc => ?_⟩
   rcases hc with hc | hc
   ·have := hc.2.2.1; omega
   ·have := hc.2.2.1; omega
 ·rcases hb with hb | hb
  ·exact .inl (h5 b hb.1)
  ·exact .inr (.inl hb.1)
theorem kid_own (w : World) (base : Nat) (k : Int) (t : Tk) (F : Nat → Prop) : Own w base ⟨k, t, []⟩ (ndCells k t (.slice none 0 0)) F := own_iff.2 ⟨_, rfl, ownS_nil w base F⟩
structure TopsX (w : World) (base g cap : Nat) (S : List Nd) (t : Nd) (u : Value) (F : Nat → Prop) (cells : List Value) (G1 G2 : Nat → Prop) (kc : List Value) (Gk : Nat → Prop) : Prop where
 row : w.ownsRow base TN 8 (.slice (some ⟨g, 0, none⟩) (S.length + 1) cap) (S.length + 1) (cells ++ ndCells t.f0 t.f1 u)
 rest : OwnL w base S cells G1
 krow : w.ownsRow base TN 8 u t.f2.length kc
 kids : OwnL w base t.f2 kc Gk
 own : ∀ b, u.ownBlock = some b → G2 b ∧ ¬ Gk b
 sub : ∀ b, Gk b → G2 b
 apart : ∀ b, G1 b → ¬ G2 b
 n1 : ¬ G1 g
 n2 : ¬ G2 g
 fg : F g
 f1 : ∀ b, G1 b → F b
 f2 : ∀ b, G2 b → F b
structure Tops (w : World) (base g cap : Nat) (S : List Nd) (t : Nd) (u : Value) (F : Nat → Prop) : Prop where
 top : ∃ (cells : List Value) (G1 G2 : Nat → Prop) (kc : List Value) (Gk : Nat → Prop), TopsX w base g cap S t u F cells G1 G2 kc Gk
theorem tops_of {w : World} {base : Nat} {v : Value} {S : List Nd} {t : Nd} {F : Nat → Prop} (h : OwnS w base v (S ++ [t]) F) : ∃ g cap u, v = .slice (some ⟨g, 0, none⟩) (S.length + 1) cap ∧ Tops w base g cap S t u F := by
 obtain ⟨cells, G, h2, h3, h4, h5⟩ := h
 obtain ⟨cs, ds, F1, F2, rfl, b1, b2, b3, b4, b5⟩ := ownL_parts h3
 rw [ownL_one, own_iff] at b2
 obtain ⟨u, rfl, kc, Gk, c2, c3, c4, c5⟩ := b2
 rw [List.length_append, List.length_singleton] at h2
 rcases h2.2 with ⟨_, hn⟩ | ⟨g, cap, cur, rfl, r⟩
 ·omega
 ·have hg := h4 g rfl
  exact ⟨g, cap, u, rfl, ⟨cs, F1, F2, kc, Gk, h2, b1, c2, c3, c4, c5, b5, fun hb => hg.2 (b3 g hb), fun hb => hg.2 (b4 g hb), hg.1, fun b hb => h5 b (b3 b hb), fun b hb => h5 b (b4 b hb)⟩⟩
theorem tops_back {w : World} {base g cap : Nat} {S : List Nd} {t : Nd} {u : Value} {F : Nat → Prop} (h : Tops w base g cap S t u F) : OwnS w base (.slice (some ⟨g, 0, none⟩) (S.length + 1) cap) (S ++ [t]) F := by
 obtain ⟨cells, G1, G2, kc, Gk, h1, h2, h3, h4, h5, h6, h7, h8, h9, h10, h11, h12⟩ := h.top
 refine ⟨cells ++ ndCells t.f0 t.f1 u, fun b => G1 b ∨ G2 b, by rw [List.length_append, List.length_singleton]; exact h1, ownL_append h2 (ownL_one.2 (own_iff.2 ⟨u, rfl, kc, Gk, h3, h4, h5, h6⟩)) h7, fun b hb => ?_, fun b hb => ?_⟩
 ·have : g = b := by simpa [Value.ownBlock] using hb
  subst this
  exact ⟨h10, fun hc => hc.elim h8 h9⟩
 ·rcases hb with hb | hb
  ·exact h11 b hb
  ·exact h12 b hb
theorem row_at {w : World} {base g cap n : Nat} {cells : List Value} (h : w.ownsRow base TN 8 (.slice (some ⟨g, 0, none⟩) n cap) n cells) (j : Nat) (v : Value) (hj : cells[j]? = some v) : w.cell? ⟨g, j, none⟩ = some v ∧ w.frozen? ⟨g, j, none⟩ = false := by
 rcases h.2 with ⟨he, _⟩ | ⟨g', cap', cur, he, hb, hh, hl, _, hs, ht⟩
 ·cases he
 ·injection he with he
  injection he with he
  injection he with he
  subst he
  have hjl := (List.getElem?_eq_some_iff.1 hj).1
  rw [h.1] at hjl
  refine ⟨?_, by simp [World.frozen?, hh]⟩
  rw [← ht, List.getElem?_take_of_lt hjl, Array.getElem?_toList] at hj
  rw [cell_of_row _ _ _ _ _ _ hh]
  exact hj
theorem top_at {w : World} {base g cap : Nat} {S : List Nd} {t : Nd} {u : Value} {F : Nat → Prop} (h : Tops w base g cap S t u F) (j : Nat) (v : Value) (hj : (ndCells t.f0 t.f1 u)[j]? = some v) : w.cell? ⟨g, S.length * 8 + j, none⟩ = some v ∧ w.frozen? ⟨g, S.length * 8 + j, none⟩ = false := by
 obtain ⟨cells, G1, G2, kc, Gk, h1, h2, _⟩ := h.top
 have hl := ownL_len h2
 refine row_at h1 _ v ?_
 rw [List.getElem?_append_right (by omega), show S.length * 8 + j - cells.length = j by omega]
 exact hj
theorem top_slice {w : World} {base g cap : Nat} {S : List Nd} {t : Nd} {u : Value} {F : Nat → Prop} (h : Tops w base g cap S t u F) : ∃ A c, u = .slice A t.f2.length c := by
 obtain ⟨cells, G1, G2, kc, Gk, h1, h2, h3, _⟩ := h.top
 exact own_slice h3
end Go.Proofs.Ytmjbpgnjgblnmaa.Tr
set_option maxRecDepth 100000
namespace Go.Proofs.Ytmjbpgnjgblnmaa.Tr
open Go.RowKit Go.Proofs.YtmjbpgnjgblnmaaW.PrintWords Go.Proofs.YtmjbpgnjgblnmaaW.PrintLast Go.Proofs.YtmjbpgnjgblnmaaW.PrintMore
theorem infoNd : (Try.prog.info? 51).map (fun i => (i.zero, i.size, i.bytes)) = some (some (.agg #[(.int .u8 0), (.int .u8 0), (.string ⟨#[]⟩), (.int .i64 0), (.int .i64 0), (.int .i64 0), (.int .i64 0), (.slice none 0 0)]), 8, 88) := by kernel_rfl
theorem infoNdS : (Try.prog.info? 49).map (·.size) = some 1 := by kernel_rfl
theorem infoNd8 : (Try.prog.info? 51).map (·.size) = some 8 := by kernel_rfl
theorem ndCells_one (k : Int) (t : Tk) {v : Value} (hv : v.oneCell' = true) : ∀ u ∈ ndCells k t v, u.oneCell' = true := by
 intro u hu
 simp only [ndCells, List.mem_cons, List.not_mem_nil, or_false] at hu
 rcases hu with rfl | rfl | rfl | rfl | rfl | rfl | rfl | rfl <;> first | rfl | exact hv
theorem run_kid {W : World} (base : Nat) (ty : TypeId) {u : Value} {q : Nat} {kc cs : List Value} (HO : W.ownsRow base TN 8 u q kc) (hcs : cs.length = 8) (h1 : ∀ v ∈ cs, v.oneCell' = true) (hbase : base ≤ W.heap.size) (hl : (q + 1) * 88 ≤ 140737488355328) :
  ∃ g1 c1 w1, (Builtin.append_ #[49, 49] ty #[u, .slice (some ⟨W.heap.size, 0, none⟩) 1 1]).run Try.prog (W.alloc (.cells cs.toArray TN)) = .ok (.slice (some ⟨g1, 0, none⟩) (q + 1) c1) w1 ∧
   w1.ownsRow base TN 8 (.slice (some ⟨g1, 0, none⟩) (q + 1) c1) (q + 1) (kc ++ cs) ∧ W.grownBy w1 u.ownBlock ∧ (u.ownBlock = some g1 ∨ W.heap.size < g1) := by
 obtain ⟨i0, hi, hzz⟩ := Option.map_eq_some_iff.1 infoNd
 simp only [Prod.mk.injEq] at hzz
 obtain ⟨hz0, hz1, hz2⟩ := hzz
 obtain ⟨v1, w1, hr, ho, hg, _, hat⟩ := run_append_own_at (P := Try.prog) (W.alloc (.cells cs.toArray TN)) base 49 ty TN i0 _ 8 88 Try.underlying49 hi hz0 hz1 hz2 rfl (by decide) u q kc (HO.alloc _) ⟨W.heap.size, 0, none⟩ 1 1 cs (by rw [hcs])
  (by simpa using World.news_of_block (cs := cs.toArray) (t := TN) (fr := (0, 0)) (heap_alloc_new W (.cells cs.toArray TN))) h1 (by simp only [maxLen]; omega) hl (by rw [World.size_alloc]; omega)
 have ho' := ho
 rcases ho.2 with ⟨_, hn⟩ | ⟨g1, c1, cur, rfl, _⟩
 ·omega
 ·refine ⟨g1, c1, w1, hr, ho', World.grownBy.trans (World.grownBy_alloc W _ _) hg, ?_⟩
  rcases hat with he | he
  ·exact .inl he.symm
  ·rw [World.size_alloc] at he
   have : g1 = W.heap.size + 1 := by simpa [Value.ownBlock] using he
   exact .inr (by omega)
section
variable {ops : Array Oper} {o : Oper} {a : Act} {Q : Exit → Act → World → Prop} {K : Act → World → Prop} {E : Prop}
theorem step_kid {W : World} (hgd : o.guard = none) (s x : Operand) (ho : o.op = .call { callee := .builtin .append, args := #[s, x], argTypes := #[49, 49] }) (base : Nat) {u : Value} {q : Nat} {kc cs : List Value} (hs : a.eval s = u) (hx : a.eval x = .slice (some ⟨W.heap.size, 0, none⟩) 1 1)
  (HO : W.ownsRow base TN 8 u q kc) (hcs : cs.length = 8) (h1 : ∀ v ∈ cs, v.oneCell' = true) (hbase : base ≤ W.heap.size) (hl : (q + 1) * 88 ≤ 140737488355328)
  (h : ∀ g1 c1 w1, w1.ownsRow base TN 8 (.slice (some ⟨g1, 0, none⟩) (q + 1) c1) (q + 1) (kc ++ cs) → W.grownBy w1 u.ownBlock → (u.ownBlock = some g1 ∨ W.heap.size < g1) → K (a.put o.dst (.slice (some ⟨g1, 0, none⟩) (q + 1) c1)) w1) :
  if Region.wanted o (yielded ops a.tmps) = true then Oper.wp Try.prog o a (W.alloc (.cells cs.toArray TN)) K Q else E := by
 have hw : Region.wanted o (yielded ops a.tmps) = true := by simp [Region.wanted, hgd]
 rw [if_pos hw]
 obtain ⟨g1, c1, w1, hr, h1, h2, h3⟩ := run_kid base o.type HO hcs h1 hbase hl
 unfold Oper.wp execOp
 simp only [ho, resolve, invoke, builtin, Sem.run_bind, Sem.run_pure, Result.andThen_ok, List.map_toArray, List.map_cons, List.map_nil, hs, hx, hr]
 exact h g1 c1 w1 h1 h2 h3
theorem step_store {W : World} (hgd : o.guard = none) (hd : o.dst = none) (t : TypeId) (p x : Operand) (ho : o.op = .store t p x) {g off : Nat} {e : TypeId} {cur : Array Value} (u : Value) (seg : List Value) (haddr : a.eval p = .pointer (some ⟨g, off, none⟩)) (hx : a.eval x = u) (hu : u.cells.toList = seg)
  (ht : (Try.prog.info? t).map (·.size) = some seg.length) (h1 : ∀ v ∈ seg, v.oneCell' = true) (hh : W.heap[g]? = some (.cells cur e (0, 0))) (hfit : off + seg.length ≤ cur.size) (h : K a (W.setCells g off seg)) :
  if Region.wanted o (yielded ops a.tmps) = true then Oper.wp Try.prog o a W K Q else E := by
 have hw : Region.wanted o (yielded ops a.tmps) = true := by simp [Region.wanted, hgd]
 rw [if_pos hw]
 have hrun := run_store_run (P := Try.prog) t u seg hh hu ht hfit h1
 unfold Oper.wp execOp
 simp only [ho, haddr, hx, Sem.run_bind, Sem.run_pure, Result.andThen_ok, hrun]
 show K (a.put o.dst undef) _
 rw [hd]
 exact h
end
theorem row_set {w : World} {base g n cap : Nat} {cells : List Value} (h : w.ownsRow base TN 8 (.slice (some ⟨g, 0, none⟩) n cap) n cells) (off : Nat) (seg : List Value) (hf : off + seg.length ≤ cells.length) :
  (w.setCells g off seg).ownsRow base TN 8 (.slice (some ⟨g, 0, none⟩) n cap) n (cells.take off ++ seg ++ cells.drop (off + seg.length)) ∧ ∃ cur, w.heap[g]? = some (.cells cur TN (0, 0)) ∧ off + seg.length ≤ cur.size := by
 rcases h.2 with ⟨he, _⟩ | ⟨g', cap', cur, he, hb, hh, hl, hm, hs, ht⟩
 ·cases he
 ·injection he with he _ hc
  injection he with he
  injection he with he
  subst he; subst hc
  have hlen := h.1
  have hle : n * 8 ≤ cap * 8 := Nat.mul_le_mul_right _ hl
  obtain ⟨cur', h3, h4, h5⟩ := setCells_row seg off w cur hh (by omega)
  refine ⟨⟨?_, .inr ⟨g, cap, cur', rfl, hb, h3, hl, hm, by rw [h4]; exact hs, ?_⟩⟩, cur, hh, by omega⟩
  ·simp only [List.length_append, List.length_take, List.length_drop]
   omega
  ·rw [h5, ← ht, List.take_take, Nat.min_eq_left (by omega), List.drop_take]
   have hc1 : (cur.toList.take off ++ seg).length = off + seg.length := by
    rw [List.length_append, List.length_take, Array.length_toList]
    omega
   rw [List.take_append, hc1, List.take_of_length_le (by rw [hc1]; omega)]
theorem row_set_end {w : World} {base g n cap : Nat} {xs ys : List Value} (h : w.ownsRow base TN 8 (.slice (some ⟨g, 0, none⟩) n cap) n (xs ++ ys)) (off : Nat) (seg : List Value) (ho : xs.length = off) (hl : seg.length = ys.length) :
  (w.setCells g off seg).ownsRow base TN 8 (.slice (some ⟨g, 0, none⟩) n cap) n (xs ++ seg) ∧ ∃ cur, w.heap[g]? = some (.cells cur TN (0, 0)) ∧ off + seg.length ≤ cur.size := by
 have := row_set h off seg (by rw [List.length_append]; omega)
 rw [List.take_append_of_le_length (by omega), List.take_of_length_le (by omega), List.drop_of_length_le (by rw [List.length_append]; omega), List.append_nil] at this
 exact this
theorem setCells_grown (w : World) (g off : Nat) (seg : List Value) : w.grownBy (w.setCells g off seg) (some g) :=
 ⟨(setCells_same g seg off w).1, (setCells_same g seg off w).2.1, (setCells_same g seg off w).2.2.1, by rw [(setCells_same g seg off w).2.2.2]; exact Nat.le_refl _, fun k _ hk => setCells_far seg off k (fun he => hk (by rw [he]))⟩
end Go.Proofs.Ytmjbpgnjgblnmaa.Tr
set_option maxRecDepth 100000
namespace Go.Proofs.Ytmjbpgnjgblnmaa.Tr
def isNote (t : Tk) : Bool := t.f0 == 7 || t.f0 == 8
def addKid (t x : Nd) : Nd := ⟨t.f0, t.f1, t.f2 ++ [x]⟩
def runB : List Ev → List Nd → Option Nd
 | [], _ => none
 | e :: l, S =>
  if e.f0 = 1 then (if e.f1 = 0 ∨ S.length = 1000 then none else runB l (⟨e.f1, noTk, []⟩ :: S))
  else if e.f0 = 2 ∨ e.f0 = 4 then
   match S with
   | [] => none
   | t :: S' => if isNote e.f2 = (e.f0 == 4) then runB l (addKid t ⟨0, e.f2, []⟩ :: S') else none
  else if e.f0 = 3 then
   match S with
   | [] => none
   | t :: S' => if t.f0 = e.f1 then (match S' with
    | [] => if l = [] then some t else none
    | u :: S'' => runB l (addKid u t :: S'')) else none
  else none
def bld (l : List Ev) : Nd × Int := match runB l [] with
 | none => (noNd, 130)
 | some x => (x, 0)
theorem bld_none {l : List Ev} (h : runB l [] = none) : bld l = (noNd, 130) := by rw [bld, h]
theorem bld_some {l : List Ev} {x : Nd} (h : runB l [] = some x) : bld l = (x, 0) := by rw [bld, h]
def Small (i : Nat) (S : List Nd) : Prop := S.length ≤ 1000 ∧ ∀ t ∈ S, t.f2.length ≤ i
theorem Small.nil : Small 0 [] := ⟨by decide, fun t h => by cases h⟩
theorem Small.push {i : Nat} {S : List Nd} (h : Small i S) (k : Int) (hS : S.length ≠ 1000) : Small (i + 1) (⟨k, noTk, []⟩ :: S) :=
 ⟨by have := h.1; simp only [List.length_cons]; omega, fun t ht => by
  rcases List.mem_cons.1 ht with rfl | ht
  ·exact Nat.zero_le _
  ·exact Nat.le_succ_of_le (h.2 t ht)⟩
theorem Small.add {i : Nat} {S : List Nd} {t x : Nd} (h : Small i (t :: S)) : Small (i + 1) (addKid t x :: S) :=
 ⟨h.1, fun y hy => by
  rcases List.mem_cons.1 hy with rfl | hy
  ·have := h.2 t List.mem_cons_self
   simp only [addKid, List.length_append, List.length_singleton]
   omega
  ·exact Nat.le_succ_of_le (h.2 y (List.mem_cons_of_mem _ hy))⟩
theorem Small.pop {i : Nat} {S : List Nd} {t : Nd} (h : Small i (t :: S)) : Small i S := ⟨by have := h.1; simp only [List.length_cons] at this; omega, fun y hy => h.2 y (List.mem_cons_of_mem _ hy)⟩
end Go.Proofs.Ytmjbpgnjgblnmaa.Tr
set_option maxRecDepth 100000
namespace Go.Proofs.Ytmjbpgnjgblnmaa.Tr
open Go.RowKit Go.Proofs.YtmjbpgnjgblnmaaW.PrintWords Go.Proofs.YtmjbpgnjgblnmaaW.PrintLast Go.Proofs.YtmjbpgnjgblnmaaW.PrintMore
def ndPre (k : Int) (t : Tk) : List Value := [.int .u8 k, .int .u8 t.f0, .string t.f1, .int .i64 t.f2.f0, .int .i64 t.f2.f1, .int .i64 t.f2.f2, .int .i64 t.f3]
theorem ndCells_pre (k : Int) (t : Tk) (v : Value) : ndCells k t v = ndPre k t ++ [v] := rfl
structure Two (base g cap m g1 c1 q : Nat) (w1 wf : World) (t : Nd) (cells kc cs : List Value) : Prop where
 row : wf.ownsRow base TN 8 (.slice (some ⟨g, 0, none⟩) (m + 1) cap) (m + 1) (cells ++ ndCells t.f0 t.f1 (.slice (some ⟨g1, 0, none⟩) (q + 1) c1))
 krow : wf.ownsRow base TN 8 (.slice (some ⟨g1, 0, none⟩) (q + 1) c1) (q + 1) (kc ++ cs)
 far : ∀ b, b ≠ g → b ≠ g1 → wf.heap[b]? = w1.heap[b]?
 os : wf.os = w1.os
 tape : wf.tape = w1.tape
 output : wf.output = w1.output
 size : wf.heap.size = w1.heap.size
theorem far_row {w : World} {base g n cap g' : Nat} {xs : List Value} (h : w.ownsRow base TN 8 (.slice (some ⟨g, 0, none⟩) n cap) n xs) (hne : g ≠ g') (off : Nat) (seg : List Value) : (w.setCells g' off seg).ownsRow base TN 8 (.slice (some ⟨g, 0, none⟩) n cap) n xs :=
 row_move h (fun k hk => setCells_far seg off k (fun he => hne (by have : g = k := (by simpa [Value.ownBlock] using hk); omega)))
section
variable {base g cap m g1 c1 q : Nat} {w1 : World} {t : Nd} {u : Value} {cells kc cs zs : List Value}
theorem two_a (hr : w1.ownsRow base TN 8 (.slice (some ⟨g, 0, none⟩) (m + 1) cap) (m + 1) (cells ++ ndCells t.f0 t.f1 u)) (hc : cells.length = m * 8) (hk : w1.ownsRow base TN 8 (.slice (some ⟨g1, 0, none⟩) (q + 1) c1) (q + 1) (kc ++ zs)) (hq : kc.length = q * 8) (hz : zs.length = 8) (hcs : cs.length = 8) (hne : g ≠ g1) :
  Two base g cap m g1 c1 q w1 ((w1.setCells g1 (q * 8) cs).setCells g (m * 8 + 7) [.slice (some ⟨g1, 0, none⟩) (q + 1) c1]) t cells kc cs := by
 have k1 := (row_set_end hk (q * 8) cs hq (by omega)).1
 have r1 := far_row hr hne (q * 8) cs
 rw [ndCells_pre, ← List.append_assoc] at r1
 have r2 := (row_set_end r1 (m * 8 + 7) [.slice (some ⟨g1, 0, none⟩) (q + 1) c1] (by rw [List.length_append, hc]; rfl) rfl).1
 have s1 := setCells_same g1 cs (q * 8) w1
 have s2 := setCells_same g [.slice (some ⟨g1, 0, none⟩) (q + 1) c1] (m * 8 + 7) (w1.setCells g1 (q * 8) cs)
 refine ⟨by rw [ndCells_pre, ← List.append_assoc]; exact r2, far_row k1 (Ne.symm hne) _ _, fun b hb hb1 => (setCells_far _ _ b hb).trans (setCells_far _ _ b hb1), s2.1.trans s1.1, s2.2.1.trans s1.2.1, s2.2.2.1.trans s1.2.2.1, s2.2.2.2.trans s1.2.2.2⟩
theorem two_b (hr : w1.ownsRow base TN 8 (.slice (some ⟨g, 0, none⟩) (m + 1) cap) (m + 1) (cells ++ ndCells t.f0 t.f1 u)) (hc : cells.length = m * 8) (hk : w1.ownsRow base TN 8 (.slice (some ⟨g1, 0, none⟩) (q + 1) c1) (q + 1) (kc ++ zs)) (hq : kc.length = q * 8) (hz : zs.length = 8) (hcs : cs.length = 8) (hne : g ≠ g1) :
  Two base g cap m g1 c1 q w1 ((w1.setCells g (m * 8 + 7) [.slice (some ⟨g1, 0, none⟩) (q + 1) c1]).setCells g1 (q * 8) cs) t cells kc cs := by
 have hr' := hr
 rw [ndCells_pre, ← List.append_assoc] at hr'
 have r2 := (row_set_end hr' (m * 8 + 7) [.slice (some ⟨g1, 0, none⟩) (q + 1) c1] (by rw [List.length_append, hc]; rfl) rfl).1
 have k0 := far_row hk (Ne.symm hne) (m * 8 + 7) [.slice (some ⟨g1, 0, none⟩) (q + 1) c1]
 have k1 := (row_set_end k0 (q * 8) cs hq (by omega)).1
 have s1 := setCells_same g [.slice (some ⟨g1, 0, none⟩) (q + 1) c1] (m * 8 + 7) w1
 have s2 := setCells_same g1 cs (q * 8) (w1.setCells g (m * 8 + 7) [.slice (some ⟨g1, 0, none⟩) (q + 1) c1])
 refine ⟨?_, k1, fun b hb hb1 => (setCells_far _ _ b hb1).trans (setCells_far _ _ b hb), s2.1.trans s1.1, s2.2.1.trans s1.2.1, s2.2.2.1.trans s1.2.2.1, s2.2.2.2.trans s1.2.2.2⟩
 rw [ndCells_pre, ← List.append_assoc]
 exact far_row r2 hne _ _
end
theorem g_ne {W : World} {base g cap g1 : Nat} {S : List Nd} {t : Nd} {u : Value} {F G1 G2 Gk : Nat → Prop} {cells kc : List Value} (H : TopsX W base g cap S t u F cells G1 G2 kc Gk) (hat : u.ownBlock = some g1 ∨ W.heap.size < g1) : g ≠ g1 := by
 rcases hat with he | he
 ·exact fun h => H.n2 (h ▸ (H.own g1 he).1)
 ·have := own_lt H.row g rfl
  omega
theorem row_grown {W w1 : World} {base g cap : Nat} {S : List Nd} {t : Nd} {u : Value} {F G1 G2 Gk : Nat → Prop} {cells kc : List Value} (H : TopsX W base g cap S t u F cells G1 G2 kc Gk) (hg : W.grownBy w1 u.ownBlock) : w1.ownsRow base TN 8 (.slice (some ⟨g, 0, none⟩) (S.length + 1) cap) (S.length + 1) (cells ++ ndCells t.f0 t.f1 u) :=
 row_move H.row (fun k hk => hg.block k (own_lt H.row k hk) (fun he => H.n2 (by have : g = k := (by simpa [Value.ownBlock] using hk); subst this; exact (H.own g he.symm).1)))
theorem added {W w1 wf : World} {base g cap g1 c1 m q : Nat} {S : List Nd} {t x : Nd} {u : Value} {F G1 G2 Gk Fx : Nat → Prop} {cells kc cs : List Value} (H : TopsX W base g cap S t u F cells G1 G2 kc Gk) (hx : Own W base x cs Fx) (hd1 : ∀ b, Fx b → ¬ G1 b) (hd2 : ∀ b, Fx b → ¬ G2 b) (hdg : ¬ Fx g)
  (hg : W.grownBy w1 u.ownBlock) (hat : u.ownBlock = some g1 ∨ W.heap.size < g1) (hm : S.length = m) (hq : t.f2.length = q) (hT : Two base g cap m g1 c1 q w1 wf t cells kc cs) :
  OwnS wf base (.slice (some ⟨g, 0, none⟩) (m + 1) cap) (S ++ [addKid t x]) (fun _ => True) ∧ (∀ (B : Nat) (w0 : World), B ≤ base → Below B w0 W → Below B w0 wf) := by
 subst hm; subst hq
 have hgl := own_lt H.row g rfl
 have hne := g_ne H hat
 have keep : ∀ b, Lies W base b → b ≠ g → u.ownBlock ≠ some b → wf.heap[b]? = W.heap[b]? := fun b hb h1 h2 => by
  have h3 : b ≠ g1 := by
   rcases hat with he | he
   ·exact fun hc => h2 (by rw [he, hc])
   ·have := hb.2.1; omega
  exact (hT.far b h1 h3).trans (hg.block b hb.2.1 (fun he => h2 he.symm))
 have a1 : OwnL wf base S cells (fun b => G1 b ∧ Lies W base b) := ownL_move S (ownL_bound S H.rest) (fun b hb => keep b hb.2 (fun he => H.n1 (he ▸ hb.1)) (fun he => H.apart b hb.1 (H.own b he).1))
 have a2 : OwnL wf base t.f2 kc (fun b => Gk b ∧ Lies W base b) := ownL_move t.f2 (ownL_bound t.f2 H.kids) (fun b hb => keep b hb.2 (fun he => H.n2 (he ▸ H.sub b hb.1)) (fun he => (H.own b he).2 hb.1))
 have a3 : Own wf base x cs (fun b => Fx b ∧ Lies W base b) := own_move x (own_bound x hx) (fun b hb => keep b hb.2 (fun he => hdg (he ▸ hb.1)) (fun he => hd2 b hb.1 (H.own b he).1))
 have hkids := ownL_append a2 (ownL_one.2 a3) (fun b hb hc => hd2 b hc.1 (H.sub b hb.1))
 refine ⟨?_, ?_⟩
 ·refine tops_back (S := S) (t := addKid t x) (u := .slice (some ⟨g1, 0, none⟩) (t.f2.length + 1) c1) (F := fun _ => True) ⟨cells, fun b => G1 b ∧ Lies W base b, fun b => (b = g1 ∨ (Gk b ∧ Lies W base b)) ∨ (Fx b ∧ Lies W base b), kc ++ cs, _, ⟨hT.row, a1, ?_, hkids, fun b hb => ?_, fun b hb => ?_, fun b hb hc => ?_, fun h => H.n1 h.1, fun h => ?_, trivial, fun _ _ => trivial, fun _ _ => trivial⟩⟩
  ·show wf.ownsRow base TN 8 _ (t.f2 ++ [x]).length (kc ++ cs)
   rw [List.length_append, List.length_singleton]
   exact hT.krow
  ·have hb' : g1 = b := by simpa [Value.ownBlock] using hb
   subst hb'
   refine ⟨.inl (.inl rfl), fun hc => ?_⟩
   rcases hc with hc | hc
   ·rcases hat with he | he
    ·exact (H.own g1 he).2 hc.1
    ·have := hc.2.2.1; omega
   ·rcases hat with he | he
    ·exact hd2 g1 hc.1 (H.own g1 he).1
    ·have := hc.2.2.1; omega
  ·rcases hb with hb | hb
   ·exact .inl (.inr hb)
   ·exact .inr hb
  ·rcases hc with (hc | hc) | hc
   ·subst hc
    rcases hat with he | he
    ·exact H.apart b hb.1 (H.own b he).1
    ·have := hb.2.2.1; omega
   ·exact H.apart b hb.1 (H.sub b hc.1)
   ·exact hd1 b hc.1 hb.1
  ·rcases h with (h | h) | h
   ·exact hne h
   ·exact H.n2 (H.sub g h.1)
   ·exact hdg h.1
 ·intro B w0 hB hb
  have hsz := hg.size
  refine ⟨?_, ?_, ?_, ?_, fun b hlt => ?_⟩
  ·rw [hT.os, hg.os]; exact hb.os
  ·rw [hT.tape, hg.tape]; exact hb.tape
  ·rw [hT.output, hg.output]; exact hb.output
  ·rw [hT.size]; exact Nat.le_trans hb.size hsz
  ·have hbg : base ≤ g := own_base H.row g rfl
   have h1 : b ≠ g := by omega
   have hu : u.ownBlock ≠ some b := fun he => by have := own_base H.krow b he; omega
   have h2 : b ≠ g1 := by
    rcases hat with he | he
    ·intro hc; exact hu (by rw [he, hc])
    ·have := own_base H.row g rfl; omega
   rw [hT.far b h1 h2, hg.block b (by omega) (fun he => hu he.symm)]
   exact hb.block b hlt
end Go.Proofs.Ytmjbpgnjgblnmaa.Tr
set_option maxRecDepth 100000
namespace Go.Proofs.Ytmjbpgnjgblnmaa.Tr
def evOpen (k : Int) : Ev := ⟨1, k, noTk⟩
def evClose (k : Int) : Ev := ⟨3, k, noTk⟩
def evTok (t : Tk) : Ev := ⟨if isNote t then 4 else 2, 0, t⟩
mutual
def tells : Nd → List Ev
 | ⟨k, t, kids⟩ => if k = 0 then [evTok t] else evOpen k :: (tellsL kids ++ [evClose k])
def tellsL : List Nd → List Ev
 | [] => []
 | x :: xs => tells x ++ tellsL xs
end
mutual
def nds : Nd → Nat
 | ⟨_, _, kids⟩ => 1 + ndsL kids
def ndsL : List Nd → Nat
 | [] => 0
 | x :: xs => nds x + ndsL xs
end
theorem nds_eq (x : Nd) : nds x = 1 + ndsL x.f2 := by obtain ⟨k, t, kids⟩ := x; rw [nds]
theorem nds_pos (x : Nd) : 1 ≤ nds x := by rw [nds_eq]; omega
theorem tells_eq (x : Nd) : tells x = if x.f0 = 0 then [evTok x.f1] else evOpen x.f0 :: (tellsL x.f2 ++ [evClose x.f0]) := by obtain ⟨k, t, kids⟩ := x; rw [tells]
theorem tellsL_append : ∀ (a b : List Nd), tellsL (a ++ b) = tellsL a ++ tellsL b
 | [], b => by rw [List.nil_append, tellsL, List.nil_append]
 | x :: a, b => by rw [List.cons_append, tellsL, tellsL, tellsL_append a b, List.append_assoc]
theorem ndsL_append : ∀ (a b : List Nd), ndsL (a ++ b) = ndsL a + ndsL b
 | [], b => by rw [List.nil_append, ndsL, Nat.zero_add]
 | x :: a, b => by rw [List.cons_append, ndsL, ndsL, ndsL_append a b, Nat.add_assoc]
theorem tellsL_one (x : Nd) : tellsL [x] = tells x := by rw [tellsL, tellsL, List.append_nil]
theorem ndsL_mem {x : Nd} : ∀ {l : List Nd}, x ∈ l → nds x ≤ ndsL l
 | y :: l, h => by
  rw [ndsL]
  rcases List.mem_cons.1 h with rfl | h
  ·omega
  ·have := ndsL_mem h; omega
theorem ndsL_len : ∀ (l : List Nd), l.length ≤ ndsL l
 | [] => by simp [ndsL]
 | x :: l => by
  have := ndsL_len l
  have := nds_pos x
  rw [ndsL, List.length_cons]; omega
end Go.Proofs.Ytmjbpgnjgblnmaa.Tr
set_option maxRecDepth 100000
namespace Go.Proofs.Ytmjbpgnjgblnmaa.Tr
open Go.RowKit Go.Proofs.YtmjbpgnjgblnmaaW.PrintWords Go.Proofs.YtmjbpgnjgblnmaaW.PrintLast Go.Proofs.YtmjbpgnjgblnmaaW.PrintMore
abbrev zNd : List Value := [.int .u8 0, .int .u8 0, .string ⟨#[]⟩, .int .i64 0, .int .i64 0, .int .i64 0, .int .i64 0, .slice none 0 0]
theorem zNd_one : ∀ v ∈ zNd, v.oneCell' = true := ndCells_one 0 noTk rfl
structure EvAt (w : World) (A : Option Addr) (i : Nat) (e : Ev) : Prop where
 cell : ∃ ad, A = some ad ∧ w.cell? (ad.add (i * 8)) = some (.int .u8 e.f0) ∧ w.cell? ⟨(ad.add (i * 8)).block, (ad.add (i * 8)).off + 1, none⟩ = some (.int .u8 e.f1) ∧ w.cell? ⟨(ad.add (i * 8)).block, (ad.add (i * 8)).off + 2, none⟩ = some (.int .u8 e.f2.f0) ∧ w.cell? ⟨(ad.add (i * 8)).block, (ad.add (i * 8)).off + 3, none⟩ = some (.string e.f2.f1) ∧ w.cell? ⟨(ad.add (i * 8)).block, (ad.add (i * 8)).off + 4, none⟩ = some (.int .i64 e.f2.f2.f0) ∧ w.cell? ⟨(ad.add (i * 8)).block, (ad.add (i * 8)).off + 5, none⟩ = some (.int .i64 e.f2.f2.f1) ∧ w.cell? ⟨(ad.add (i * 8)).block, (ad.add (i * 8)).off + 6, none⟩ = some (.int .i64 e.f2.f2.f2) ∧ w.cell? ⟨(ad.add (i * 8)).block, (ad.add (i * 8)).off + 7, none⟩ = some (.int .i64 e.f2.f3)
theorem evAt_of {w : World} {A : Option Addr} {n : Nat} {l : List Ev} (h : Kd.C kEv w A n l) (i : Nat) (e : Ev) (hi : i < n) (he : l[i]? = some e) : EvAt w A i e := by
 obtain ⟨ad, h0, r⟩ := PSyntaxWhole.at_T46 h (i : Int) (by omega) (by omega)
 have hr : PSyntaxWhole.rd_T46 l (i : Int) = e := by simp [PSyntaxWhole.rd_T46, List.getD, he]
 rw [hr, Int.toNat_natCast] at r
 exact ⟨ad, h0, r⟩
theorem comment_any (t : Tk) (w : World) : Calls Try.prog 62 #[.agg #[.int .u8 t.f0, .string t.f1, .int .i64 t.f2.f0, .int .i64 t.f2.f1, .int .i64 t.f2.f2, .int .i64 t.f3]] w fun e w' => e = .returned (.bool (isNote t)) ∧ Below w.heap.size w w' := by
 refine PSyntaxWhole.tree_comment.calls t.f0 t.f1 t.f2.f0 t.f2.f1 t.f2.f2 t.f3 (isNote t) w ?_
 unfold PSyntaxWhole.tree_comment.f isNote
 by_cases h : t.f0 = 7
 ·rw [if_pos h, h]; rfl
 ·rw [if_neg h, beq_eq_false_iff_ne.2 h]; rfl
theorem box8 {w w1 : World} {a b c d e f g h : Value} {T : TypeId} (hb : Below (w.heap.size + 1) (w.alloc (.cells #[a, b, c, d, e, f, g, h] T)) w1) :
  w1.cell? ⟨w.heap.size, 0, none⟩ = some a ∧ w1.cell? ⟨w.heap.size, 1, none⟩ = some b ∧ w1.cell? ⟨w.heap.size, 2, none⟩ = some c ∧ w1.cell? ⟨w.heap.size, 3, none⟩ = some d ∧ w1.cell? ⟨w.heap.size, 4, none⟩ = some e ∧ w1.cell? ⟨w.heap.size, 5, none⟩ = some f ∧ w1.cell? ⟨w.heap.size, 6, none⟩ = some g ∧ w1.cell? ⟨w.heap.size, 7, none⟩ = some h := by
 have hn : (w.alloc (.cells #[a, b, c, d, e, f, g, h] T)).heap[w.heap.size]? = some (.cells #[a, b, c, d, e, f, g, h] T) := by
  show (w.heap.push _)[w.heap.size]? = _
  rw [Array.getElem?_push, if_pos rfl]
 have hc : ∀ (j : Nat) v, (#[a, b, c, d, e, f, g, h] : Array Value)[j]? = some v → w1.cell? ⟨w.heap.size, j, none⟩ = some v := fun j v hj =>
  (hb.cell (p := ⟨w.heap.size, j, none⟩) (show w.heap.size < w.heap.size + 1 by omega)).trans ((cell_of_row _ _ _ _ _ _ hn).trans hj)
 exact ⟨hc 0 _ rfl, hc 1 _ rfl, hc 2 _ rfl, hc 3 _ rfl, hc 4 _ rfl, hc 5 _ rfl, hc 6 _ rfl, hc 7 _ rfl⟩
structure Upd (g : Nat) (W w5 : World) : Prop where
 far : ∀ k, k ≠ g → w5.heap[k]? = W.heap[k]?
 os : w5.os = W.os
 tape : w5.tape = W.tape
 output : w5.output = W.output
 size : w5.heap.size = W.heap.size
theorem Upd.below {g B : Nat} {w W w5 : World} (h : Upd g W w5) (hb : Below B w W) (hg : B ≤ g) : Below B w w5 :=
 ⟨h.os.trans hb.os, h.tape.trans hb.tape, h.output.trans hb.output, by rw [h.size]; exact hb.size, fun k hk => (h.far k (by omega)).trans (hb.block k hk)⟩
theorem wl_box {ops : Array Oper} {rest : List Oper} {o : Oper} {a : Act} {Q : Exit → Act → World → Prop} {W : World} (hgd : o.guard = none) (hd : o.dst = none) (t : TypeId) (p x : Operand) (ho : o.op = .store t p x) {g : Nat} {e : TypeId} {cur : Array Value} (u : Value) (seg : List Value)
  (haddr : a.eval p = .pointer (some ⟨g, 0, none⟩)) (hx : a.eval x = u) (hu : u.cells.toList = seg) (ht : (Try.prog.info? t).map (·.size) = some seg.length) (h1 : ∀ v ∈ seg, v.oneCell' = true) (hh : W.heap[g]? = some (.cells cur e (0, 0))) (hfit : cur.size = seg.length)
  (h : ∀ w5, w5.heap[g]? = some (.cells seg.toArray e (0, 0)) → Upd g W w5 → wpList Try.prog ops Q rest a w5) : wpList Try.prog ops Q (o :: rest) a W := by
 refine wpList_plain hgd fun K hK => ?_
 have hrun := run_store_run (P := Try.prog) (o := 0) t u seg hh hu ht (by omega) h1
 unfold Oper.wp execOp
 simp only [ho, haddr, hx, Sem.run_bind, Sem.run_pure, Result.andThen_ok, hrun]
 show K (a.put o.dst undef) _
 rw [hd]
 obtain ⟨cur', h3, h4, h5⟩ := setCells_row seg 0 W cur hh (by omega)
 have hs := setCells_same g seg 0 W
 refine hK a _ (h _ ?_ ⟨fun k hk => setCells_far seg 0 k hk, hs.1, hs.2.1, hs.2.2.1, hs.2.2.2⟩)
 rw [h3]
 congr 2
 apply Array.toList_inj.1
 rw [h5, List.take_zero, List.nil_append, List.drop_of_length_le (by rw [Array.length_toList]; omega), List.append_nil]
theorem cells8 {w : World} {g : Nat} {T : TypeId} {a b c d e f p q : Value} (h : w.heap[g]? = some (.cells [a, b, c, d, e, f, p, q].toArray T (0, 0))) :
  w.cell? ⟨g, 0, none⟩ = some a ∧ w.cell? ⟨g, 1, none⟩ = some b ∧ w.cell? ⟨g, 2, none⟩ = some c ∧ w.cell? ⟨g, 3, none⟩ = some d ∧ w.cell? ⟨g, 4, none⟩ = some e ∧ w.cell? ⟨g, 5, none⟩ = some f ∧ w.cell? ⟨g, 6, none⟩ = some p ∧ w.cell? ⟨g, 7, none⟩ = some q :=
 ⟨blk_cell h 0, blk_cell h 1, blk_cell h 2, blk_cell h 3, blk_cell h 4, blk_cell h 5, blk_cell h 6, blk_cell h 7⟩
abbrev zBox (w : World) : World := w.alloc (.cells #[.int .u8 0, .int .u8 0, .string ⟨#[]⟩, .int .i64 0, .int .i64 0, .int .i64 0, .int .i64 0, .slice none 0 0] TN)
structure BInv (w wr : World) (l : List Ev) (i : Nat) (v : Value) (S : List Nd) : Prop where
 run : runB (l.drop i) S = runB l []
 small : Small i S
 nz : S = [] → i = 0
 own : OwnS wr (w.heap.size + 1) v S.reverse (fun _ => True)
 below : Below (w.heap.size + 1) (zBox w) wr
def BuildPost (w : World) (l : List Ev) (e : Ending) (w' : World) : Prop :=
 ∃ v, e = .returned (.tuple #[.agg #[.int .u8 (bld l).1.f0, .int .u8 (bld l).1.f1.f0, .string (bld l).1.f1.f1, .int .i64 (bld l).1.f1.f2.f0, .int .i64 (bld l).1.f1.f2.f1, .int .i64 (bld l).1.f1.f2.f2, .int .i64 (bld l).1.f1.f3, v], .int .i64 (bld l).2]) ∧ OwnS w' w.heap.size v (bld l).1.f2 (fun _ => True) ∧ Below w.heap.size w w'
theorem BInv.start (w : World) (l : List Ev) : BInv w (zBox w) l 0 (.slice none 0 0) [] := ⟨by rw [List.drop_zero], Small.nil, fun _ => rfl, ownS_nil _ _ _, Below.refl _ _⟩
theorem BInv.out {w wr : World} {l : List Ev} {i : Nat} {v : Value} {S : List Nd} (h : BInv w wr l i v S) : Below w.heap.size w wr := ((Below.refl w.heap.size w).alloc (Nat.le_refl _) _).trans (h.below.mono (Nat.le_succ _))
theorem BInv.box {w wr : World} {l : List Ev} {i : Nat} {v : Value} {S : List Nd} (h : BInv w wr l i v S) : wr.heap[w.heap.size]? = some (.cells zNd.toArray TN (0, 0)) := by
 refine (h.below.block w.heap.size (Nat.lt_succ_self _)).trans ?_
 show (w.heap.push _)[w.heap.size]? = _
 rw [Array.getElem?_push, if_pos rfl]
theorem box_later {w wr W : World} (h : wr.heap[w.heap.size]? = some (.cells zNd.toArray TN (0, 0))) (hb : Below wr.heap.size wr W) : W.heap[w.heap.size]? = some (.cells zNd.toArray TN (0, 0)) := (hb.block _ (blk_lt h)).trans h
theorem BuildPost.err {w w5 : World} {l : List Ev} (hr : runB l [] = none) (hb : Below w.heap.size w w5) : BuildPost w l (.returned (.tuple #[.agg zNd.toArray, .int .i64 130])) w5 := by
 refine ⟨.slice none 0 0, ?_, ?_, hb⟩
 ·rw [bld_none hr]; rfl
 ·rw [bld_none hr]; exact ownS_nil _ _ _
theorem drop_cons {l : List Ev} {i : Nat} {e : Ev} (h : l[i]? = some e) : l.drop i = e :: l.drop (i + 1) := by
 have hl := (List.getElem?_eq_some_iff.1 h)
 rw [List.drop_eq_getElem_cons hl.1, hl.2]
theorem topsX_later {W w1 : World} {base g cap : Nat} {S : List Nd} {t : Nd} {u : Value} {F G1 G2 Gk : Nat → Prop} {cells kc : List Value} (H : TopsX W base g cap S t u F cells G1 G2 kc Gk) (hb : Below W.heap.size W w1) : TopsX w1 base g cap S t u F cells G1 G2 kc Gk :=
 ⟨row_move H.row (fun k hk => hb.block k (own_lt H.row k hk)), ownL_step H.rest (fun b _ hl => hb.block b hl.2.1), row_move H.krow (fun k hk => hb.block k (own_lt H.krow k hk)), ownL_step H.kids (fun b _ hl => hb.block b hl.2.1), H.own, H.sub, H.apart, H.n1, H.n2, H.fg, H.f1, H.f2⟩
theorem topsX_at {w : World} {base g cap : Nat} {S : List Nd} {t : Nd} {u : Value} {F G1 G2 Gk : Nat → Prop} {cells kc : List Value} (H : TopsX w base g cap S t u F cells G1 G2 kc Gk) (j : Nat) (v : Value) (hj : (ndCells t.f0 t.f1 u)[j]? = some v) : w.cell? ⟨g, S.length * 8 + j, none⟩ = some v ∧ w.frozen? ⟨g, S.length * 8 + j, none⟩ = false := top_at ⟨_, _, _, _, _, H⟩ j v hj
theorem row_cut {w : World} {base g n cap : Nat} {xs ys : List Value} (h : w.ownsRow base TN 8 (.slice (some ⟨g, 0, none⟩) (n + 1) cap) (n + 1) (xs ++ ys)) (hx : xs.length = n * 8) : w.ownsRow base TN 8 (.slice (some ⟨g, 0, none⟩) n cap) n xs := by
 rcases h.2 with ⟨he, _⟩ | ⟨g', cap', cur, he, hb, hh, hl, hm, hs, ht⟩
 ·cases he
 ·injection he with he _ hc
  injection he with he
  injection he with he
  subst he; subst hc
  refine ⟨hx, .inr ⟨g, cap, cur, rfl, hb, hh, by omega, hm, hs, ?_⟩⟩
  have hz := congrArg (List.take (n * 8)) ht
  rw [List.take_take, Nat.min_eq_left (by omega), List.take_left' hx] at hz
  exact hz
theorem popped {w : World} {base g cap : Nat} {S S2 : List Nd} {t u2 : Nd} {u : Value} {F G1 G2 Gk : Nat → Prop} {cells kc : List Value} (H : TopsX w base g cap S t u F cells G1 G2 kc Gk) (hS : S = S2 ++ [u2]) :
  ∃ (uu : Value) (cells' : List Value) (G1' G2' : Nat → Prop) (kc' : List Value) (Gk' : Nat → Prop), TopsX w base g cap S2 u2 uu (fun b => b = g ∨ G1 b) cells' G1' G2' kc' Gk' := by
 have hrow := row_cut H.row (ownL_len H.rest)
 subst hS
 have ho : OwnS w base (.slice (some ⟨g, 0, none⟩) (S2 ++ [u2]).length cap) (S2 ++ [u2]) (fun b => b = g ∨ G1 b) := by
  refine ⟨cells, G1, hrow, H.rest, fun b hb => ?_, fun b hb => .inr hb⟩
  have : g = b := by simpa [Value.ownBlock] using hb
  subst this
  exact ⟨.inl rfl, H.n1⟩
 obtain ⟨g', cap', uu, he, hx⟩ := tops_of ho
 injection he with he _ hc
 injection he with he
 injection he with he
 subst he; subst hc
 obtain ⟨c1, d1, d2, k1, e1, hX⟩ := hx.top
 exact ⟨uu, c1, d1, d2, k1, e1, hX⟩
theorem top_own {w : World} {base g cap : Nat} {S : List Nd} {t : Nd} {u : Value} {F G1 G2 Gk : Nat → Prop} {cells kc : List Value} (H : TopsX w base g cap S t u F cells G1 G2 kc Gk) : Own w base t (ndCells t.f0 t.f1 u) G2 := own_iff.2 ⟨u, rfl, kc, Gk, H.krow, H.kids, H.own, H.sub⟩
theorem top_ownS {w : World} {base g cap : Nat} {S : List Nd} {t : Nd} {u : Value} {F G1 G2 Gk : Nat → Prop} {cells kc : List Value} (H : TopsX w base g cap S t u F cells G1 G2 kc Gk) : OwnS w base u t.f2 G2 := ⟨kc, Gk, H.krow, H.kids, H.own, H.sub⟩
theorem ownS_upd {W w5 : World} {g base : Nat} {v : Value} {kids : List Nd} {F : Nat → Prop} (h : OwnS W base v kids F) (hu : Upd g W w5) (hg : g < base) : OwnS w5 base v kids F := ownS_step h (fun b _ hl => hu.far b (by have := hl.1; omega))
theorem topsX_cap {w : World} {base g cap : Nat} {S : List Nd} {t : Nd} {u : Value} {F G1 G2 Gk : Nat → Prop} {cells kc : List Value} (H : TopsX w base g cap S t u F cells G1 G2 kc Gk) : S.length + 1 ≤ cap := by
 rcases H.row.2 with ⟨he, _⟩ | ⟨g', cap', cur, he, hb, hh, hl, hm, hs, ht⟩
 ·cases he
 ·injection he with _ _ hc
  omega
theorem BuildPost.ok {w w5 : World} {l : List Ev} {t : Nd} {u : Value} (hr : runB l [] = some t) (ho : OwnS w5 (w.heap.size + 1) u t.f2 (fun _ => True)) (hb : Below w.heap.size w w5) : BuildPost w l (.returned (.tuple #[.agg #[.int .u8 t.f0, .int .u8 t.f1.f0, .string t.f1.f1, .int .i64 t.f1.f2.f0, .int .i64 t.f1.f2.f1, .int .i64 t.f1.f2.f2, .int .i64 t.f1.f3, u], .int .i64 0])) w5 := by
 refine ⟨u, ?_, ?_, hb⟩
 ·rw [bld_some hr]
 ·rw [bld_some hr]; exact ownS_lower (Nat.le_succ _) ho
end Go.Proofs.Ytmjbpgnjgblnmaa.Tr
