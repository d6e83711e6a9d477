/- What the claim stands on: part Ql. -/
import Derived.Test.YtmjbpgnjgblnmaaGreatQb
import Derived.Test.YtmjbpgnjgblnmaaGreatQc
import Derived.Test.YtmjbpgnjgblnmaaGreatQk
import Derived.Lib.Hide
set_option linter.unusedVariables false
set_option linter.unusedSimpArgs false
set_option maxRecDepth 100000
namespace Go.Proofs.YtmjbpgnjgblnmaaGreat.Tr
open Go.RowKit Go.Proofs.YtmjbpgnjgblnmaaGreatW.PrintWords Go.Proofs.YtmjbpgnjgblnmaaGreatW.PrintLast Go.Proofs.YtmjbpgnjgblnmaaGreatW.PrintMore
abbrev Tk := PSyntaxEvents.S28
abbrev Ev := PSyntaxEvents.S48
abbrev Nd := PSyntaxEvents.S32
abbrev kEv := PSyntaxEvents.k48
abbrev kNd := PSyntaxEvents.k32
abbrev TN : TypeId := 32
def noTk : Tk := ⟨0, ⟨#[]⟩, ⟨0, 0, 0⟩, 0⟩
def noNd : Nd := ⟨0, noTk, []⟩
def ndCells (k : Int) (t : Tk) (v : Value) : List Value := [.int .u8 k, .int .u8 t.f0, .string t.f1, .int .i64 t.f2.f0, .int .i64 t.f2.f1, .int .i64 t.f2.f2, .int .i64 t.f3, v]
mutual
def Own (w : World) (base : Nat) : Nd → List Value → (Nat → Prop) → Prop
 | ⟨k, t, kids⟩, cs, F => ∃ v cells G, cs = ndCells k t v ∧ w.ownsRow base TN 8 v kids.length cells ∧ OwnL w base kids cells G ∧ (∀ b, v.ownBlock = some b → F b ∧ ¬ G b) ∧ (∀ b, G b → F b)
def OwnL (w : World) (base : Nat) : List Nd → List Value → (Nat → Prop) → Prop
 | [], cells, _ => cells = []
 | x :: xs, cells, F => ∃ c cs G1 G2, cells = c ++ cs ∧ Own w base x c G1 ∧ OwnL w base xs cs G2 ∧ (∀ b, G1 b → F b) ∧ (∀ b, G2 b → F b) ∧ (∀ b, G1 b → ¬ G2 b)
end
def OwnS (w : World) (base : Nat) (v : Value) (kids : List Nd) (F : Nat → Prop) : Prop := ∃ cells G, w.ownsRow base TN 8 v kids.length cells ∧ OwnL w base kids cells G ∧ (∀ b, v.ownBlock = some b → F b ∧ ¬ G b) ∧ (∀ b, G b → F b)
theorem own_iff {w : World} {base : Nat} {x : Nd} {cs : List Value} {F : Nat → Prop} : Own w base x cs F ↔ ∃ v, cs = ndCells x.f0 x.f1 v ∧ OwnS w base v x.f2 F := by
 obtain ⟨k, t, kids⟩ := x
 rw [Own]
 constructor
 ·rintro ⟨v, cells, G, h1, h2, h3, h4, h5⟩
  exact ⟨v, h1, cells, G, h2, h3, h4, h5⟩
 ·rintro ⟨v, h1, cells, G, h2, h3, h4, h5⟩
  exact ⟨v, cells, G, h1, h2, h3, h4, h5⟩
theorem own_mono {w : World} {base : Nat} {x : Nd} {cs : List Value} {F F' : Nat → Prop} (h : Own w base x cs F) (hF : ∀ b, F b → F' b) : Own w base x cs F' := by
 rw [own_iff] at h ⊢
 obtain ⟨v, h1, cells, G, h2, h3, h4, h5⟩ := h
 exact ⟨v, h1, cells, G, h2, h3, fun b hb => ⟨hF b (h4 b hb).1, (h4 b hb).2⟩, fun b hb => hF b (h5 b hb)⟩
theorem ownL_mono {w : World} {base : Nat} {xs : List Nd} {cs : List Value} {F F' : Nat → Prop} (h : OwnL w base xs cs F) (hF : ∀ b, F b → F' b) : OwnL w base xs cs F' := by
 cases xs with
 | nil => exact h
 | cons x xs =>
  rw [OwnL] at h ⊢
  obtain ⟨c, cs', G1, G2, h1, h2, h3, h4, h5, h6⟩ := h
  exact ⟨c, cs', G1, G2, h1, h2, h3, fun b hb => hF b (h4 b hb), fun b hb => hF b (h5 b hb), h6⟩
theorem ownS_mono {w : World} {base : Nat} {v : Value} {kids : List Nd} {F F' : Nat → Prop} (h : OwnS w base v kids F) (hF : ∀ b, F b → F' b) : OwnS w base v kids F' := by
 obtain ⟨cells, G, h2, h3, h4, h5⟩ := h
 exact ⟨cells, G, h2, h3, fun b hb => ⟨hF b (h4 b hb).1, (h4 b hb).2⟩, fun b hb => hF b (h5 b hb)⟩
theorem own_len {w : World} {base : Nat} {x : Nd} {cs : List Value} {F : Nat → Prop} (h : Own w base x cs F) : cs.length = 8 := by
 rw [own_iff] at h
 obtain ⟨v, rfl, _⟩ := h
 rfl
theorem ownL_len {w : World} {base : Nat} : ∀ {xs : List Nd} {cs : List Value} {F : Nat → Prop}, OwnL w base xs cs F → cs.length = xs.length * 8
 | [], cs, F, h => by rw [OwnL] at h; subst h; rfl
 | x :: xs, cs, F, h => by
  rw [OwnL] at h
  obtain ⟨c, cs', G1, G2, rfl, h2, h3, _⟩ := h
  have := own_len h2
  have := ownL_len h3
  simp only [List.length_append, List.length_cons]
  omega
theorem row_move {w w1 : World} {base : Nat} {e : TypeId} {size n : Nat} {v : Value} {xs : List Value} (h : w.ownsRow base e size v n xs) (hm : ∀ k, v.ownBlock = some k → w1.heap[k]? = w.heap[k]?) : w1.ownsRow base e size v n xs := Go.Proofs.YtmjbpgnjgblnmaaGreatW.PrintWords.own_move h hm
mutual
theorem own_move {w w1 : World} {base : Nat} : ∀ (x : Nd) {cs : List Value} {F : Nat → Prop}, Own w base x cs F → (∀ b, F b → w1.heap[b]? = w.heap[b]?) → Own w1 base x cs F
 | ⟨k, t, kids⟩, cs, F, h, hm => by
  rw [Own] at h ⊢
  obtain ⟨v, cells, G, h1, h2, h3, h4, h5⟩ := h
  exact ⟨v, cells, G, h1, row_move h2 (fun b hb => hm b (h4 b hb).1), ownL_move kids h3 (fun b hb => hm b (h5 b hb)), h4, h5⟩
theorem ownL_move {w w1 : World} {base : Nat} : ∀ (xs : List Nd) {cs : List Value} {F : Nat → Prop}, OwnL w base xs cs F → (∀ b, F b → w1.heap[b]? = w.heap[b]?) → OwnL w1 base xs cs F
 | [], cs, F, h, _ => by rw [OwnL] at h ⊢; exact h
 | x :: xs, cs, F, h, hm => by
  rw [OwnL] at h ⊢
  obtain ⟨c, cs', G1, G2, h1, h2, h3, h4, h5, h6⟩ := h
  exact ⟨c, cs', G1, G2, h1, own_move x h2 (fun b hb => hm b (h4 b hb)), ownL_move xs h3 (fun b hb => hm b (h5 b hb)), h4, h5, h6⟩
end
def Lies (w : World) (base b : Nat) : Prop := base ≤ b ∧ b < w.heap.size ∧ ∃ cells, w.heap[b]? = some (.cells cells TN (0, 0))
theorem row_lies {w : World} {base n : Nat} {v : Value} {xs : List Value} (h : w.ownsRow base TN 8 v n xs) (b : Nat) (hb : v.ownBlock = some b) : Lies w base b := ⟨own_base h b hb, own_lt h b hb, own_typed h b hb⟩
mutual
theorem own_bound {w : World} {base : Nat} : ∀ (x : Nd) {cs : List Value} {F : Nat → Prop}, Own w base x cs F → Own w base x cs (fun b => F b ∧ Lies w base b)
 | ⟨k, t, kids⟩, cs, F, h => by
  rw [Own] at h ⊢
  obtain ⟨v, cells, G, h1, h2, h3, h4, h5⟩ := h
  exact ⟨v, cells, _, h1, h2, ownL_bound kids h3, fun b hb => ⟨⟨(h4 b hb).1, row_lies h2 b hb⟩, fun hg => (h4 b hb).2 hg.1⟩, fun b hb => ⟨h5 b hb.1, hb.2⟩⟩
theorem ownL_bound {w : World} {base : Nat} : ∀ (xs : List Nd) {cs : List Value} {F : Nat → Prop}, OwnL w base xs cs F → OwnL w base xs cs (fun b => F b ∧ Lies w base b)
 | [], cs, F, h => by rw [OwnL] at h ⊢; exact h
 | x :: xs, cs, F, h => by
  rw [OwnL] at h ⊢
  obtain ⟨c, cs', G1, G2, h1, h2, h3, h4, h5, h6⟩ := h
  exact ⟨c, cs', _, _, h1, own_bound x h2, ownL_bound xs h3, fun b hb => ⟨h4 b hb.1, hb.2⟩, fun b hb => ⟨h5 b hb.1, hb.2⟩, fun b hb hc => h6 b hb.1 hc.1⟩
end
theorem ownS_bound {w : World} {base : Nat} {v : Value} {kids : List Nd} {F : Nat → Prop} (h : OwnS w base v kids F) : OwnS w base v kids (fun b => F b ∧ Lies w base b) := by
 obtain ⟨cells, G, h2, h3, h4, h5⟩ := h
 exact ⟨cells, _, h2, ownL_bound kids h3, fun b hb => ⟨⟨(h4 b hb).1, row_lies h2 b hb⟩, fun hg => (h4 b hb).2 hg.1⟩, fun b hb => ⟨h5 b hb.1, hb.2⟩⟩
theorem ownS_move {w w1 : World} {base : Nat} {v : Value} {kids : List Nd} {F : Nat → Prop} (h : OwnS w base v kids F) (hm : ∀ b, F b → w1.heap[b]? = w.heap[b]?) : OwnS w1 base v kids F := by
 obtain ⟨cells, G, h2, h3, h4, h5⟩ := h
 exact ⟨cells, G, row_move h2 (fun b hb => hm b (h4 b hb).1), ownL_move kids h3 (fun b hb => hm b (h5 b hb)), h4, h5⟩
theorem own_step {w w1 : World} {base : Nat} {x : Nd} {cs : List Value} {F : Nat → Prop} (h : Own w base x cs F) (hm : ∀ b, F b → Lies w base b → w1.heap[b]? = w.heap[b]?) : Own w1 base x cs F := own_mono (own_move x (own_bound x h) (fun b hb => hm b hb.1 hb.2)) (fun _ hb => hb.1)
theorem ownL_step {w w1 : World} {base : Nat} {xs : List Nd} {cs : List Value} {F : Nat → Prop} (h : OwnL w base xs cs F) (hm : ∀ b, F b → Lies w base b → w1.heap[b]? = w.heap[b]?) : OwnL w1 base xs cs F := ownL_mono (ownL_move xs (ownL_bound xs h) (fun b hb => hm b hb.1 hb.2)) (fun _ hb => hb.1)
theorem ownS_step {w w1 : World} {base : Nat} {v : Value} {kids : List Nd} {F : Nat → Prop} (h : OwnS w base v kids F) (hm : ∀ b, F b → Lies w base b → w1.heap[b]? = w.heap[b]?) : OwnS w1 base v kids F := ownS_mono (ownS_move (ownS_bound h) (fun b hb => hm b hb.1 hb.2)) (fun _ hb => hb.1)
theorem own_below {w w1 : World} {base : Nat} {x : Nd} {cs : List Value} {F : Nat → Prop} (h : Own w base x cs F) (hb : Below w.heap.size w w1) : Own w1 base x cs F := own_step h (fun b _ hl => hb.block b hl.2.1)
theorem ownS_below {w w1 : World} {base : Nat} {v : Value} {kids : List Nd} {F : Nat → Prop} (h : OwnS w base v kids F) (hb : Below w.heap.size w w1) : OwnS w1 base v kids F := ownS_step h (fun b _ hl => hb.block b hl.2.1)
mutual
theorem own_lower {w : World} {base base' : Nat} (hle : base' ≤ base) : ∀ (x : Nd) {cs : List Value} {F : Nat → Prop}, Own w base x cs F → Own w base' x cs F
 | ⟨k, t, kids⟩, cs, F, h => by
  rw [Own] at h ⊢
  obtain ⟨v, cells, G, h1, h2, h3, h4, h5⟩ := h
  exact ⟨v, cells, G, h1, own_weaken h2 hle, ownL_lower hle kids h3, h4, h5⟩
theorem ownL_lower {w : World} {base base' : Nat} (hle : base' ≤ base) : ∀ (xs : List Nd) {cs : List Value} {F : Nat → Prop}, OwnL w base xs cs F → OwnL w base' xs cs F
 | [], cs, F, h => by rw [OwnL] at h ⊢; exact h
 | x :: xs, cs, F, h => by
  rw [OwnL] at h ⊢
  obtain ⟨c, cs', G1, G2, h1, h2, h3, h4, h5, h6⟩ := h
  exact ⟨c, cs', G1, G2, h1, own_lower hle x h2, ownL_lower hle xs h3, h4, h5, h6⟩
end
theorem ownS_lower {w : World} {base base' : Nat} (hle : base' ≤ base) {v : Value} {kids : List Nd} {F : Nat → Prop} (h : OwnS w base v kids F) : OwnS w base' v kids F := by
 obtain ⟨cells, G, h2, h3, h4, h5⟩ := h
 exact ⟨cells, G, own_weaken h2 hle, ownL_lower hle kids h3, h4, h5⟩
theorem ownL_append {w : World} {base : Nat} : ∀ {xs ys : List Nd} {cs ds : List Value} {F1 F2 : Nat → Prop}, OwnL w base xs cs F1 → OwnL w base ys ds F2 → (∀ b, F1 b → ¬ F2 b) → OwnL w base (xs ++ ys) (cs ++ ds) (fun b => F1 b ∨ F2 b)
 | [], ys, cs, ds, F1, F2, h1, h2, h3 => by
  rw [OwnL] at h1
  subst h1
  exact ownL_mono h2 (fun _ hb => .inr hb)
 | x :: xs, ys, cs, ds, F1, F2, h1, h2, h3 => by
  rw [OwnL] at h1
  obtain ⟨c, cs', G1, G2, rfl, a1, a2, a3, a4, a5⟩ := h1
  rw [List.cons_append, OwnL]
  refine ⟨c, cs' ++ ds, G1, fun b => G2 b ∨ F2 b, by rw [List.append_assoc], a1, ownL_append a2 h2 (fun b hb => h3 b (a4 b hb)), fun b hb => .inl (a3 b hb), fun b hb => ?_, fun b hb hc => ?_⟩
  ·rcases hb with hb | hb
   ·exact .inl (a4 b hb)
   ·exact .inr hb
  ·rcases hc with hc | hc
   ·exact a5 b hb hc
   ·exact h3 b (a3 b hb) hc
theorem ownL_parts {w : World} {base : Nat} : ∀ {xs ys : List Nd} {cells : List Value} {F : Nat → Prop}, OwnL w base (xs ++ ys) cells F → ∃ cs ds F1 F2, cells = cs ++ ds ∧ OwnL w base xs cs F1 ∧ OwnL w base ys ds F2 ∧ (∀ b, F1 b → F b) ∧ (∀ b, F2 b → F b) ∧ (∀ b, F1 b → ¬ F2 b)
 | [], ys, cells, F, h => ⟨[], cells, fun _ => False, F, rfl, by rw [OwnL], h, fun _ hb => hb.elim, fun _ hb => hb, fun _ hb => hb.elim⟩
 | x :: xs, ys, cells, F, h => by
  rw [List.cons_append, OwnL] at h
  obtain ⟨c, cs', G1, G2, rfl, a1, a2, a3, a4, a5⟩ := h
  obtain ⟨cs, ds, F1, F2, rfl, b1, b2, b3, b4, b5⟩ := ownL_parts a2
  refine ⟨c ++ cs, ds, fun b => G1 b ∨ F1 b, F2, by rw [List.append_assoc], ?_, b2, fun b hb => ?_, fun b hb => a4 b (b4 b hb), fun b hb hc => ?_⟩
  ·rw [OwnL]
   exact ⟨c, cs, G1, F1, rfl, a1, b1, fun _ hb => .inl hb, fun _ hb => .inr hb, fun b hb hc => a5 b hb (b3 b hc)⟩
  ·rcases hb with hb | hb
   ·exact a3 b hb
   ·exact a4 b (b3 b hb)
  ·rcases hb with hb | hb
   ·exact a5 b hb (b4 b hc)
   ·exact b5 b hb hc
theorem ownL_one {w : World} {base : Nat} {x : Nd} {c : List Value} {F : Nat → Prop} : OwnL w base [x] c F ↔ Own w base x c F := by
 rw [OwnL]
 constructor
 ·rintro ⟨c', cs, G1, G2, rfl, h1, h2, h3, _⟩
  rw [OwnL] at h2
  subst h2
  rw [List.append_nil]
  exact own_mono h1 h3
 ·intro h
  exact ⟨c, [], F, fun _ => False, by rw [List.append_nil], h, by rw [OwnL], fun _ hb => hb, fun _ hb => hb.elim, fun _ _ hb => hb⟩
theorem ownS_nil (w : World) (base : Nat) (F : Nat → Prop) : OwnS w base (.slice none 0 0) [] F := ⟨[], fun _ => False, ⟨rfl, .inl ⟨rfl, rfl⟩⟩, by rw [OwnL], fun b hb => by simp [Value.ownBlock] at hb, fun _ hb => hb.elim⟩
theorem row_C {w : World} {base : Nat} {v : Value} {kids : List Nd} {cells : List Value} (h : w.ownsRow base TN 8 v kids.length cells) (hl : Reps (kNd.K w) 8 kids cells) : ∃ A c, v = .slice A kids.length c ∧ kids.length ≤ c ∧ Kd.C kNd w A kids.length kids := by
 obtain ⟨A, c, hv, hr⟩ := own_reads_row (size := 8) h hl rfl
 refine ⟨A, c, hv, ?_, hr⟩
 rcases h.2 with ⟨he, hn⟩ | ⟨g, cap, cur, he, _, _, hc, _⟩
 ·omega
 ·rw [hv] at he
  injection he with _ _ he
  omega
mutual
theorem own_K {w : World} {base : Nat} : ∀ (x : Nd) {cs : List Value} {F : Nat → Prop}, Own w base x cs F → kNd.K w x cs
 | ⟨k, t, kids⟩, cs, F, h => by
  rw [Own] at h
  obtain ⟨v, cells, G, rfl, h2, h3, h4, h5⟩ := h
  obtain ⟨A, c, rfl, hc, hr⟩ := row_C h2 (ownL_reps kids h3)
  exact PSyntaxEvents.k32_mk w ⟨k, t, kids⟩ hc hr
theorem ownL_reps {w : World} {base : Nat} : ∀ (xs : List Nd) {cs : List Value} {F : Nat → Prop}, OwnL w base xs cs F → Reps (kNd.K w) 8 xs cs
 | [], cs, F, h => by rw [OwnL] at h; subst h; exact Reps.none _ _
 | x :: xs, cs, F, h => by
  rw [OwnL] at h
  obtain ⟨c, cs', G1, G2, rfl, h2, h3, _⟩ := h
  have := Kd.reps_append ((Reps.none (kNd.K w) 8).snoc (own_K x h2) (own_len h2)) (ownL_reps xs h3)
  simpa using this
end
theorem ownS_C {w : World} {base : Nat} {v : Value} {kids : List Nd} {F : Nat → Prop} (h : OwnS w base v kids F) : ∃ A c, v = .slice A kids.length c ∧ kids.length ≤ c ∧ Kd.C kNd w A kids.length kids := by
 obtain ⟨cells, G, h2, h3, _⟩ := h
 exact row_C h2 (ownL_reps kids h3)
theorem grown_S {W w1 : World} {base : Nat} {v v1 : Value} {kids : List Nd} {cells cs : List Value} {F G Fx : Nat → Prop} {x : Nd} (h2 : W.ownsRow base TN 8 v kids.length cells) (h3 : OwnL W base kids cells G) (h4 : ∀ b, v.ownBlock = some b → F b ∧ ¬ G b) (h5 : ∀ b, G b → F b)
  (hx : Own W base x cs Fx) (hd : ∀ b, F b → ¬ Fx b) (ho : w1.ownsRow base TN 8 v1 (kids.length + 1) (cells ++ cs)) (hg : W.grownBy w1 v.ownBlock) (hat : v1.ownBlock = v.ownBlock ∨ ∃ b, v1.ownBlock = some b ∧ W.heap.size ≤ b) :
  OwnS w1 base v1 (kids ++ [x]) (fun b => F b ∨ Fx b ∨ W.heap.size ≤ b) := by
 have a3 : OwnL w1 base kids cells (fun b => G b ∧ Lies W base b) := ownL_move kids (ownL_bound kids h3) (fun b hb => hg.block b hb.2.2.1 (fun he => (h4 b he.symm).2 hb.1))
 have ax : Own w1 base x cs (fun b => Fx b ∧ Lies W base b) := own_move x (own_bound x hx) (fun b hb => hg.block b hb.2.2.1 (fun he => hd b (h4 b he.symm).1 hb.1))
 refine ⟨cells ++ cs, _, by rw [List.length_append, List.length_singleton]; exact ho, ownL_append a3 (ownL_one.2 ax) (fun b hb hc => hd b (h5 b hb.1) hc.1), fun b hb => ?_, fun b hb => ?_⟩
 ·rcases hat with he | ⟨b', he, hle⟩
  ·rw [he] at hb
   refine ⟨.inl (h4 b hb).1, fun hc => ?_⟩
   rcases hc with hc | hc
   ·exact (h4 b hb).2 hc.1
   ·exact hd b (h4 b hb).1 hc.1
  ·rw [he] at hb
   obtain rfl := Option.some.inj hb
   refine ⟨.inr (.inr hle), fun hc => ?_⟩
   rcases hc with hc | hc
   ·have := hc.2.2.1; omega
   ·have := hc.2.2.1; omega
 ·rcases hb with hb | hb
  ·exact .inl (h5 b hb.1)
  ·exact .inr (.inl hb.1)
theorem kid_own (w : World) (base : Nat) (k : Int) (t : Tk) (F : Nat → Prop) : Own w base ⟨k, t, []⟩ (ndCells k t (.slice none 0 0)) F := own_iff.2 ⟨_, rfl, ownS_nil w base F⟩
structure TopsX (w : World) (base g cap : Nat) (S : List Nd) (t : Nd) (u : Value) (F : Nat → Prop) (cells : List Value) (G1 G2 : Nat → Prop) (kc : List Value) (Gk : Nat → Prop) : Prop where
 row : w.ownsRow base TN 8 (.slice (some ⟨g, 0, none⟩) (S.length + 1) cap) (S.length + 1) (cells ++ ndCells t.f0 t.f1 u)
 rest : OwnL w base S cells G1
 krow : w.ownsRow base TN 8 u t.f2.length kc
 kids : OwnL w base t.f2 kc Gk
 own : ∀ b, u.ownBlock = some b → G2 b ∧ ¬ Gk b
 sub : ∀ b, Gk b → G2 b
 apart : ∀ b, G1 b → ¬ G2 b
 n1 : ¬ G1 g
 n2 : ¬ G2 g
 fg : F g
 f1 : ∀ b, G1 b → F b
 f2 : ∀ b, G2 b → F b
structure Tops (w : World) (base g cap : Nat) (S : List Nd) (t : Nd) (u : Value) (F : Nat → Prop) : Prop where
 top : ∃ (cells : List Value) (G1 G2 : Nat → Prop) (kc : List Value) (Gk : Nat → Prop), TopsX w base g cap S t u F cells G1 G2 kc Gk
theorem tops_of {w : World} {base : Nat} {v : Value} {S : List Nd} {t : Nd} {F : Nat → Prop} (h : OwnS w base v (S ++ [t]) F) : ∃ g cap u, v = .slice (some ⟨g, 0, none⟩) (S.length + 1) cap ∧ Tops w base g cap S t u F := by
 obtain ⟨cells, G, h2, h3, h4, h5⟩ := h
 obtain ⟨cs, ds, F1, F2, rfl, b1, b2, b3, b4, b5⟩ := ownL_parts h3
 rw [ownL_one, own_iff] at b2
 obtain ⟨u, rfl, kc, Gk, c2, c3, c4, c5⟩ := b2
 rw [List.length_append, List.length_singleton] at h2
 rcases h2.2 with ⟨_, hn⟩ | ⟨g, cap, cur, rfl, r⟩
 ·omega
 ·have hg := h4 g rfl
  exact ⟨g, cap, u, rfl, ⟨cs, F1, F2, kc, Gk, h2, b1, c2, c3, c4, c5, b5, fun hb => hg.2 (b3 g hb), fun hb => hg.2 (b4 g hb), hg.1, fun b hb => h5 b (b3 b hb), fun b hb => h5 b (b4 b hb)⟩⟩
theorem tops_back {w : World} {base g cap : Nat} {S : List Nd} {t : Nd} {u : Value} {F : Nat → Prop} (h : Tops w base g cap S t u F) : OwnS w base (.slice (some ⟨g, 0, none⟩) (S.length + 1) cap) (S ++ [t]) F := by
 obtain ⟨cells, G1, G2, kc, Gk, h1, h2, h3, h4, h5, h6, h7, h8, h9, h10, h11, h12⟩ := h.top
 refine ⟨cells ++ ndCells t.f0 t.f1 u, fun b => G1 b ∨ G2 b, by rw [List.length_append, List.length_singleton]; exact h1, ownL_append h2 (ownL_one.2 (own_iff.2 ⟨u, rfl, kc, Gk, h3, h4, h5, h6⟩)) h7, fun b hb => ?_, fun b hb => ?_⟩
 ·have : g = b := by simpa [Value.ownBlock] using hb
  subst this
  exact ⟨h10, fun hc => hc.elim h8 h9⟩
 ·rcases hb with hb | hb
  ·exact h11 b hb
  ·exact h12 b hb
theorem row_at {w : World} {base g cap n : Nat} {cells : List Value} (h : w.ownsRow base TN 8 (.slice (some ⟨g, 0, none⟩) n cap) n cells) (j : Nat) (v : Value) (hj : cells[j]? = some v) : w.cell? ⟨g, j, none⟩ = some v ∧ w.frozen? ⟨g, j, none⟩ = false := by
 rcases h.2 with ⟨he, _⟩ | ⟨g', cap', cur, he, hb, hh, hl, _, hs, ht⟩
 ·cases he
 ·injection he with he
  injection he with he
  injection he with he
  subst he
  have hjl := (List.getElem?_eq_some_iff.1 hj).1
  rw [h.1] at hjl
  refine ⟨?_, by simp [World.frozen?, hh]⟩
  rw [← ht, List.getElem?_take_of_lt hjl, Array.getElem?_toList] at hj
  rw [cell_of_row _ _ _ _ _ _ hh]
  exact hj
theorem top_at {w : World} {base g cap : Nat} {S : List Nd} {t : Nd} {u : Value} {F : Nat → Prop} (h : Tops w base g cap S t u F) (j : Nat) (v : Value) (hj : (ndCells t.f0 t.f1 u)[j]? = some v) : w.cell? ⟨g, S.length * 8 + j, none⟩ = some v ∧ w.frozen? ⟨g, S.length * 8 + j, none⟩ = false := by
 obtain ⟨cells, G1, G2, kc, Gk, h1, h2, _⟩ := h.top
 have hl := ownL_len h2
 refine row_at h1 _ v ?_
 rw [List.getElem?_append_right (by omega), show S.length * 8 + j - cells.length = j by omega]
 exact hj
theorem top_slice {w : World} {base g cap : Nat} {S : List Nd} {t : Nd} {u : Value} {F : Nat → Prop} (h : Tops w base g cap S t u F) : ∃ A c, u = .slice A t.f2.length c := by
 obtain ⟨cells, G1, G2, kc, Gk, h1, h2, h3, _⟩ := h.top
 exact own_slice h3
end Go.Proofs.YtmjbpgnjgblnmaaGreat.Tr
set_option maxRecDepth 100000
namespace Go.Proofs.YtmjbpgnjgblnmaaGreat.Tr
open Go.RowKit Go.Proofs.YtmjbpgnjgblnmaaGreatW.PrintWords Go.Proofs.YtmjbpgnjgblnmaaGreatW.PrintLast Go.Proofs.YtmjbpgnjgblnmaaGreatW.PrintMore
theorem infoNd : (Tryz.prog.info? 32).map (fun i => (i.zero, i.size, i.bytes)) = some (some (.agg #[(.int .u8 0), (.int .u8 0), (.string ⟨#[]⟩), (.int .i64 0), (.int .i64 0), (.int .i64 0), (.int .i64 0), (.slice none 0 0)]), 8, 88) := by kernel_rfl
theorem infoNdS : (Tryz.prog.info? 30).map (·.size) = some 1 := by kernel_rfl
theorem infoNd8 : (Tryz.prog.info? 32).map (·.size) = some 8 := by kernel_rfl
theorem ndCells_one (k : Int) (t : Tk) {v : Value} (hv : v.oneCell' = true) : ∀ u ∈ ndCells k t v, u.oneCell' = true := by
 intro u hu
 simp only [ndCells, List.mem_cons, List.not_mem_nil, or_false] at hu
 rcases hu with rfl | rfl | rfl | rfl | rfl | rfl | rfl | rfl <;> first | rfl | exact hv
theorem run_kid {W : World} (base : Nat) (ty : TypeId) {u : Value} {q : Nat} {kc cs : List Value} (HO : W.ownsRow base TN 8 u q kc) (hcs : cs.length = 8) (h1 : ∀ v ∈ cs, v.oneCell' = true) (hbase : base ≤ W.heap.size) (hl : (q + 1) * 88 ≤ 140737488355328) :
  ∃ g1 c1 w1, (Builtin.append_ #[30, 30] ty #[u, .slice (some ⟨W.heap.size, 0, none⟩) 1 1]).run Tryz.prog (W.alloc (.cells cs.toArray TN)) = .ok (.slice (some ⟨g1, 0, none⟩) (q + 1) c1) w1 ∧
   w1.ownsRow base TN 8 (.slice (some ⟨g1, 0, none⟩) (q + 1) c1) (q + 1) (kc ++ cs) ∧ W.grownBy w1 u.ownBlock ∧ (u.ownBlock = some g1 ∨ W.heap.size < g1) := by
 obtain ⟨i0, hi, hzz⟩ := Option.map_eq_some_iff.1 infoNd
 simp only [Prod.mk.injEq] at hzz
 obtain ⟨hz0, hz1, hz2⟩ := hzz
 obtain ⟨v1, w1, hr, ho, hg, _, hat⟩ := run_append_own_at (P := Tryz.prog) (W.alloc (.cells cs.toArray TN)) base 30 ty TN i0 _ 8 88 Tryz.underlying30 hi hz0 hz1 hz2 rfl (by decide) u q kc (HO.alloc _) ⟨W.heap.size, 0, none⟩ 1 1 cs (by rw [hcs])
  (by simpa using World.news_of_block (cs := cs.toArray) (t := TN) (fr := (0, 0)) (heap_alloc_new W (.cells cs.toArray TN))) h1 (by simp only [maxLen]; omega) hl (by rw [World.size_alloc]; omega)
 have ho' := ho
 rcases ho.2 with ⟨_, hn⟩ | ⟨g1, c1, cur, rfl, _⟩
 ·omega
 ·refine ⟨g1, c1, w1, hr, ho', World.grownBy.trans (World.grownBy_alloc W _ _) hg, ?_⟩
  rcases hat with he | he
  ·exact .inl he.symm
  ·rw [World.size_alloc] at he
   have : g1 = W.heap.size + 1 := by simpa [Value.ownBlock] using he
   exact .inr (by omega)
section
variable {ops : Array Oper} {o : Oper} {a : Act} {Q : Exit → Act → World → Prop} {K : Act → World → Prop} {E : Prop}
theorem step_kid {W : World} (hgd : o.guard = none) (s x : Operand) (ho : o.op = .call { callee := .builtin .append, args := #[s, x], argTypes := #[30, 30] }) (base : Nat) {u : Value} {q : Nat} {kc cs : List Value} (hs : a.eval s = u) (hx : a.eval x = .slice (some ⟨W.heap.size, 0, none⟩) 1 1)
  (HO : W.ownsRow base TN 8 u q kc) (hcs : cs.length = 8) (h1 : ∀ v ∈ cs, v.oneCell' = true) (hbase : base ≤ W.heap.size) (hl : (q + 1) * 88 ≤ 140737488355328)
  (h : ∀ g1 c1 w1, w1.ownsRow base TN 8 (.slice (some ⟨g1, 0, none⟩) (q + 1) c1) (q + 1) (kc ++ cs) → W.grownBy w1 u.ownBlock → (u.ownBlock = some g1 ∨ W.heap.size < g1) → K (a.put o.dst (.slice (some ⟨g1, 0, none⟩) (q + 1) c1)) w1) :
  if Region.wanted o (yielded ops a.tmps) = true then Oper.wp Tryz.prog o a (W.alloc (.cells cs.toArray TN)) K Q else E := by
 have hw : Region.wanted o (yielded ops a.tmps) = true := by simp [Region.wanted, hgd]
 rw [if_pos hw]
 obtain ⟨g1, c1, w1, hr, h1, h2, h3⟩ := run_kid base o.type HO hcs h1 hbase hl
 unfold Oper.wp execOp
 simp only [ho, resolve, invoke, builtin, Sem.run_bind, Sem.run_pure, Result.andThen_ok, List.map_toArray, List.map_cons, List.map_nil, hs, hx, hr]
 exact h g1 c1 w1 h1 h2 h3
theorem step_store {W : World} (hgd : o.guard = none) (hd : o.dst = none) (t : TypeId) (p x : Operand) (ho : o.op = .store t p x) {g off : Nat} {e : TypeId} {cur : Array Value} (u : Value) (seg : List Value) (haddr : a.eval p = .pointer (some ⟨g, off, none⟩)) (hx : a.eval x = u) (hu : u.cells.toList = seg)
  (ht : (Tryz.prog.info? t).map (·.size) = some seg.length) (h1 : ∀ v ∈ seg, v.oneCell' = true) (hh : W.heap[g]? = some (.cells cur e (0, 0))) (hfit : off + seg.length ≤ cur.size) (h : K a (W.setCells g off seg)) :
  if Region.wanted o (yielded ops a.tmps) = true then Oper.wp Tryz.prog o a W K Q else E := by
 have hw : Region.wanted o (yielded ops a.tmps) = true := by simp [Region.wanted, hgd]
 rw [if_pos hw]
 have hrun := run_store_run (P := Tryz.prog) t u seg hh hu ht hfit h1
 unfold Oper.wp execOp
 simp only [ho, haddr, hx, Sem.run_bind, Sem.run_pure, Result.andThen_ok, hrun]
 show K (a.put o.dst undef) _
 rw [hd]
 exact h
end
theorem row_set {w : World} {base g n cap : Nat} {cells : List Value} (h : w.ownsRow base TN 8 (.slice (some ⟨g, 0, none⟩) n cap) n cells) (off : Nat) (seg : List Value) (hf : off + seg.length ≤ cells.length) :
  (w.setCells g off seg).ownsRow base TN 8 (.slice (some ⟨g, 0, none⟩) n cap) n (cells.take off ++ seg ++ cells.drop (off + seg.length)) ∧ ∃ cur, w.heap[g]? = some (.cells cur TN (0, 0)) ∧ off + seg.length ≤ cur.size := by
 rcases h.2 with ⟨he, _⟩ | ⟨g', cap', cur, he, hb, hh, hl, hm, hs, ht⟩
 ·cases he
 ·injection he with he _ hc
  injection he with he
  injection he with he
  subst he; subst hc
  have hlen := h.1
  have hle : n * 8 ≤ cap * 8 := Nat.mul_le_mul_right _ hl
  obtain ⟨cur', h3, h4, h5⟩ := setCells_row seg off w cur hh (by omega)
  refine ⟨⟨?_, .inr ⟨g, cap, cur', rfl, hb, h3, hl, hm, by rw [h4]; exact hs, ?_⟩⟩, cur, hh, by omega⟩
  ·simp only [List.length_append, List.length_take, List.length_drop]
   omega
  ·rw [h5, ← ht, List.take_take, Nat.min_eq_left (by omega), List.drop_take]
   have hc1 : (cur.toList.take off ++ seg).length = off + seg.length := by
    rw [List.length_append, List.length_take, Array.length_toList]
    omega
   rw [List.take_append, hc1, List.take_of_length_le (by rw [hc1]; omega)]
theorem row_set_end {w : World} {base g n cap : Nat} {xs ys : List Value} (h : w.ownsRow base TN 8 (.slice (some ⟨g, 0, none⟩) n cap) n (xs ++ ys)) (off : Nat) (seg : List Value) (ho : xs.length = off) (hl : seg.length = ys.length) :
  (w.setCells g off seg).ownsRow base TN 8 (.slice (some ⟨g, 0, none⟩) n cap) n (xs ++ seg) ∧ ∃ cur, w.heap[g]? = some (.cells cur TN (0, 0)) ∧ off + seg.length ≤ cur.size := by
 have := row_set h off seg (by rw [List.length_append]; omega)
 rw [List.take_append_of_le_length (by omega), List.take_of_length_le (by omega), List.drop_of_length_le (by rw [List.length_append]; omega), List.append_nil] at this
 exact this
end Go.Proofs.YtmjbpgnjgblnmaaGreat.Tr
set_option maxRecDepth 100000
namespace Go.Proofs.YtmjbpgnjgblnmaaGreat.Tr
def isNote (t : Tk) : Bool := t.f0 == 7 || t.f0 == 8
def addKid (t x : Nd) : Nd := ⟨t.f0, t.f1, t.f2 ++ [x]⟩
def runB : List Ev → List Nd → Option Nd
 | [], _ => none
 | e :: l, S =>
  if e.f0 = 1 then (if e.f1 = 0 ∨ S.length = 1000 then none else runB l (⟨e.f1, noTk, []⟩ :: S))
  else if e.f0 = 2 ∨ e.f0 = 4 then
   match S with
   | [] => none
   | t :: S' => if isNote e.f2 = (e.f0 == 4) then runB l (addKid t ⟨0, e.f2, []⟩ :: S') else none
  else if e.f0 = 3 then
   match S with
   | [] => none
   | t :: S' => if t.f0 = e.f1 then (match S' with
    | [] => if l = [] then some t else none
    | u :: S'' => runB l (addKid u t :: S'')) else none
  else none
def bld (l : List Ev) : Nd × Int := match runB l [] with
 | none => (noNd, 130)
 | some x => (x, 0)
theorem bld_none {l : List Ev} (h : runB l [] = none) : bld l = (noNd, 130) := by rw [bld, h]
theorem bld_some {l : List Ev} {x : Nd} (h : runB l [] = some x) : bld l = (x, 0) := by rw [bld, h]
def Small (i : Nat) (S : List Nd) : Prop := S.length ≤ 1000 ∧ ∀ t ∈ S, t.f2.length ≤ i
theorem Small.nil : Small 0 [] := ⟨by decide, fun t h => by cases h⟩
theorem Small.push {i : Nat} {S : List Nd} (h : Small i S) (k : Int) (hS : S.length ≠ 1000) : Small (i + 1) (⟨k, noTk, []⟩ :: S) :=
 ⟨by have := h.1; simp only [List.length_cons]; omega, fun t ht => by
  rcases List.mem_cons.1 ht with rfl | ht
  ·exact Nat.zero_le _
  ·exact Nat.le_succ_of_le (h.2 t ht)⟩
theorem Small.add {i : Nat} {S : List Nd} {t x : Nd} (h : Small i (t :: S)) : Small (i + 1) (addKid t x :: S) :=
 ⟨h.1, fun y hy => by
  rcases List.mem_cons.1 hy with rfl | hy
  ·have := h.2 t List.mem_cons_self
   simp only [addKid, List.length_append, List.length_singleton]
   omega
  ·exact Nat.le_succ_of_le (h.2 y (List.mem_cons_of_mem _ hy))⟩
theorem Small.pop {i : Nat} {S : List Nd} {t : Nd} (h : Small i (t :: S)) : Small i S := ⟨by have := h.1; simp only [List.length_cons] at this; omega, fun y hy => h.2 y (List.mem_cons_of_mem _ hy)⟩
end Go.Proofs.YtmjbpgnjgblnmaaGreat.Tr
set_option maxRecDepth 100000
namespace Go.Proofs.YtmjbpgnjgblnmaaGreat.Tr
open Go.RowKit Go.Proofs.YtmjbpgnjgblnmaaGreatW.PrintWords Go.Proofs.YtmjbpgnjgblnmaaGreatW.PrintLast Go.Proofs.YtmjbpgnjgblnmaaGreatW.PrintMore
def ndPre (k : Int) (t : Tk) : List Value := [.int .u8 k, .int .u8 t.f0, .string t.f1, .int .i64 t.f2.f0, .int .i64 t.f2.f1, .int .i64 t.f2.f2, .int .i64 t.f3]
theorem ndCells_pre (k : Int) (t : Tk) (v : Value) : ndCells k t v = ndPre k t ++ [v] := rfl
structure Two (base g cap m g1 c1 q : Nat) (w1 wf : World) (t : Nd) (cells kc cs : List Value) : Prop where
 row : wf.ownsRow base TN 8 (.slice (some ⟨g, 0, none⟩) (m + 1) cap) (m + 1) (cells ++ ndCells t.f0 t.f1 (.slice (some ⟨g1, 0, none⟩) (q + 1) c1))
 krow : wf.ownsRow base TN 8 (.slice (some ⟨g1, 0, none⟩) (q + 1) c1) (q + 1) (kc ++ cs)
 far : ∀ b, b ≠ g → b ≠ g1 → wf.heap[b]? = w1.heap[b]?
 os : wf.os = w1.os
 tape : wf.tape = w1.tape
 output : wf.output = w1.output
 size : wf.heap.size = w1.heap.size
theorem far_row {w : World} {base g n cap g' : Nat} {xs : List Value} (h : w.ownsRow base TN 8 (.slice (some ⟨g, 0, none⟩) n cap) n xs) (hne : g ≠ g') (off : Nat) (seg : List Value) : (w.setCells g' off seg).ownsRow base TN 8 (.slice (some ⟨g, 0, none⟩) n cap) n xs :=
 row_move h (fun k hk => setCells_far seg off k (fun he => hne (by have : g = k := (by simpa [Value.ownBlock] using hk); omega)))
section
variable {base g cap m g1 c1 q : Nat} {w1 : World} {t : Nd} {u : Value} {cells kc cs zs : List Value}
theorem two_a (hr : w1.ownsRow base TN 8 (.slice (some ⟨g, 0, none⟩) (m + 1) cap) (m + 1) (cells ++ ndCells t.f0 t.f1 u)) (hc : cells.length = m * 8) (hk : w1.ownsRow base TN 8 (.slice (some ⟨g1, 0, none⟩) (q + 1) c1) (q + 1) (kc ++ zs)) (hq : kc.length = q * 8) (hz : zs.length = 8) (hcs : cs.length = 8) (hne : g ≠ g1) :
  Two base g cap m g1 c1 q w1 ((w1.setCells g1 (q * 8) cs).setCells g (m * 8 + 7) [.slice (some ⟨g1, 0, none⟩) (q + 1) c1]) t cells kc cs := by
 have k1 := (row_set_end hk (q * 8) cs hq (by omega)).1
 have r1 := far_row hr hne (q * 8) cs
 rw [ndCells_pre, ← List.append_assoc] at r1
 have r2 := (row_set_end r1 (m * 8 + 7) [.slice (some ⟨g1, 0, none⟩) (q + 1) c1] (by rw [List.length_append, hc]; rfl) rfl).1
 have s1 := setCells_same g1 cs (q * 8) w1
 have s2 := setCells_same g [.slice (some ⟨g1, 0, none⟩) (q + 1) c1] (m * 8 + 7) (w1.setCells g1 (q * 8) cs)
 refine ⟨by rw [ndCells_pre, ← List.append_assoc]; exact r2, far_row k1 (Ne.symm hne) _ _, fun b hb hb1 => (setCells_far _ _ b hb).trans (setCells_far _ _ b hb1), s2.1.trans s1.1, s2.2.1.trans s1.2.1, s2.2.2.1.trans s1.2.2.1, s2.2.2.2.trans s1.2.2.2⟩
theorem two_b (hr : w1.ownsRow base TN 8 (.slice (some ⟨g, 0, none⟩) (m + 1) cap) (m + 1) (cells ++ ndCells t.f0 t.f1 u)) (hc : cells.length = m * 8) (hk : w1.ownsRow base TN 8 (.slice (some ⟨g1, 0, none⟩) (q + 1) c1) (q + 1) (kc ++ zs)) (hq : kc.length = q * 8) (hz : zs.length = 8) (hcs : cs.length = 8) (hne : g ≠ g1) :
  Two base g cap m g1 c1 q w1 ((w1.setCells g (m * 8 + 7) [.slice (some ⟨g1, 0, none⟩) (q + 1) c1]).setCells g1 (q * 8) cs) t cells kc cs := by
 have hr' := hr
 rw [ndCells_pre, ← List.append_assoc] at hr'
 have r2 := (row_set_end hr' (m * 8 + 7) [.slice (some ⟨g1, 0, none⟩) (q + 1) c1] (by rw [List.length_append, hc]; rfl) rfl).1
 have k0 := far_row hk (Ne.symm hne) (m * 8 + 7) [.slice (some ⟨g1, 0, none⟩) (q + 1) c1]
 have k1 := (row_set_end k0 (q * 8) cs hq (by omega)).1
 have s1 := setCells_same g [.slice (some ⟨g1, 0, none⟩) (q + 1) c1] (m * 8 + 7) w1
 have s2 := setCells_same g1 cs (q * 8) (w1.setCells g (m * 8 + 7) [.slice (some ⟨g1, 0, none⟩) (q + 1) c1])
 refine ⟨?_, k1, fun b hb hb1 => (setCells_far _ _ b hb1).trans (setCells_far _ _ b hb), s2.1.trans s1.1, s2.2.1.trans s1.2.1, s2.2.2.1.trans s1.2.2.1, s2.2.2.2.trans s1.2.2.2⟩
 rw [ndCells_pre, ← List.append_assoc]
 exact far_row r2 hne _ _
end
theorem g_ne {W : World} {base g cap g1 : Nat} {S : List Nd} {t : Nd} {u : Value} {F G1 G2 Gk : Nat → Prop} {cells kc : List Value} (H : TopsX W base g cap S t u F cells G1 G2 kc Gk) (hat : u.ownBlock = some g1 ∨ W.heap.size < g1) : g ≠ g1 := by
 rcases hat with he | he
 ·exact fun h => H.n2 (h ▸ (H.own g1 he).1)
 ·have := own_lt H.row g rfl
  omega
theorem row_grown {W w1 : World} {base g cap : Nat} {S : List Nd} {t : Nd} {u : Value} {F G1 G2 Gk : Nat → Prop} {cells kc : List Value} (H : TopsX W base g cap S t u F cells G1 G2 kc Gk) (hg : W.grownBy w1 u.ownBlock) : w1.ownsRow base TN 8 (.slice (some ⟨g, 0, none⟩) (S.length + 1) cap) (S.length + 1) (cells ++ ndCells t.f0 t.f1 u) :=
 row_move H.row (fun k hk => hg.block k (own_lt H.row k hk) (fun he => H.n2 (by have : g = k := (by simpa [Value.ownBlock] using hk); subst this; exact (H.own g he.symm).1)))
theorem added {W w1 wf : World} {base g cap g1 c1 m q : Nat} {S : List Nd} {t x : Nd} {u : Value} {F G1 G2 Gk Fx : Nat → Prop} {cells kc cs : List Value} (H : TopsX W base g cap S t u F cells G1 G2 kc Gk) (hx : Own W base x cs Fx) (hd1 : ∀ b, Fx b → ¬ G1 b) (hd2 : ∀ b, Fx b → ¬ G2 b) (hdg : ¬ Fx g)
  (hg : W.grownBy w1 u.ownBlock) (hat : u.ownBlock = some g1 ∨ W.heap.size < g1) (hm : S.length = m) (hq : t.f2.length = q) (hT : Two base g cap m g1 c1 q w1 wf t cells kc cs) :
  OwnS wf base (.slice (some ⟨g, 0, none⟩) (m + 1) cap) (S ++ [addKid t x]) (fun _ => True) ∧ (∀ (B : Nat) (w0 : World), B ≤ base → Below B w0 W → Below B w0 wf) := by
 subst hm; subst hq
 have hgl := own_lt H.row g rfl
 have hne := g_ne H hat
 have keep : ∀ b, Lies W base b → b ≠ g → u.ownBlock ≠ some b → wf.heap[b]? = W.heap[b]? := fun b hb h1 h2 => by
  have h3 : b ≠ g1 := by
   rcases hat with he | he
   ·exact fun hc => h2 (by rw [he, hc])
   ·have := hb.2.1; omega
  exact (hT.far b h1 h3).trans (hg.block b hb.2.1 (fun he => h2 he.symm))
 have a1 : OwnL wf base S cells (fun b => G1 b ∧ Lies W base b) := ownL_move S (ownL_bound S H.rest) (fun b hb => keep b hb.2 (fun he => H.n1 (he ▸ hb.1)) (fun he => H.apart b hb.1 (H.own b he).1))
 have a2 : OwnL wf base t.f2 kc (fun b => Gk b ∧ Lies W base b) := ownL_move t.f2 (ownL_bound t.f2 H.kids) (fun b hb => keep b hb.2 (fun he => H.n2 (he ▸ H.sub b hb.1)) (fun he => (H.own b he).2 hb.1))
 have a3 : Own wf base x cs (fun b => Fx b ∧ Lies W base b) := own_move x (own_bound x hx) (fun b hb => keep b hb.2 (fun he => hdg (he ▸ hb.1)) (fun he => hd2 b hb.1 (H.own b he).1))
 have hkids := ownL_append a2 (ownL_one.2 a3) (fun b hb hc => hd2 b hc.1 (H.sub b hb.1))
 refine ⟨?_, ?_⟩
 ·refine tops_back (S := S) (t := addKid t x) (u := .slice (some ⟨g1, 0, none⟩) (t.f2.length + 1) c1) (F := fun _ => True) ⟨cells, fun b => G1 b ∧ Lies W base b, fun b => (b = g1 ∨ (Gk b ∧ Lies W base b)) ∨ (Fx b ∧ Lies W base b), kc ++ cs, _, ⟨hT.row, a1, ?_, hkids, fun b hb => ?_, fun b hb => ?_, fun b hb hc => ?_, fun h => H.n1 h.1, fun h => ?_, trivial, fun _ _ => trivial, fun _ _ => trivial⟩⟩
  ·show wf.ownsRow base TN 8 _ (t.f2 ++ [x]).length (kc ++ cs)
   rw [List.length_append, List.length_singleton]
   exact hT.krow
  ·have hb' : g1 = b := by simpa [Value.ownBlock] using hb
   subst hb'
   refine ⟨.inl (.inl rfl), fun hc => ?_⟩
   rcases hc with hc | hc
   ·rcases hat with he | he
    ·exact (H.own g1 he).2 hc.1
    ·have := hc.2.2.1; omega
   ·rcases hat with he | he
    ·exact hd2 g1 hc.1 (H.own g1 he).1
    ·have := hc.2.2.1; omega
  ·rcases hb with hb | hb
   ·exact .inl (.inr hb)
   ·exact .inr hb
  ·rcases hc with (hc | hc) | hc
   ·subst hc
    rcases hat with he | he
    ·exact H.apart b hb.1 (H.own b he).1
    ·have := hb.2.2.1; omega
   ·exact H.apart b hb.1 (H.sub b hc.1)
   ·exact hd1 b hc.1 hb.1
  ·rcases h with (h | h) | h
   ·exact hne h
   ·exact H.n2 (H.sub g h.1)
   ·exact hdg h.1
 ·intro B w0 hB hb
  have hsz := hg.size
  refine ⟨?_, ?_, ?_, ?_, fun b hlt => ?_⟩
  ·rw [hT.os, hg.os]; exact hb.os
  ·rw [hT.tape, hg.tape]; exact hb.tape
  ·rw [hT.output, hg.output]; exact hb.output
  ·rw [hT.size]; exact Nat.le_trans hb.size hsz
  ·have hbg : base ≤ g := own_base H.row g rfl
   have h1 : b ≠ g := by omega
   have hu : u.ownBlock ≠ some b := fun he => by have := own_base H.krow b he; omega
   have h2 : b ≠ g1 := by
    rcases hat with he | he
    ·intro hc; exact hu (by rw [he, hc])
    ·have := own_base H.row g rfl; omega
   rw [hT.far b h1 h2, hg.block b (by omega) (fun he => hu he.symm)]
   exact hb.block b hlt
end Go.Proofs.YtmjbpgnjgblnmaaGreat.Tr
set_option maxRecDepth 100000
namespace Go.Proofs.YtmjbpgnjgblnmaaGreat.Tr
def evOpen (k : Int) : Ev := ⟨1, k, noTk⟩
def evClose (k : Int) : Ev := ⟨3, k, noTk⟩
def evTok (t : Tk) : Ev := ⟨if isNote t then 4 else 2, 0, t⟩
mutual
def tells : Nd → List Ev
 | ⟨k, t, kids⟩ => if k = 0 then [evTok t] else evOpen k :: (tellsL kids ++ [evClose k])
def tellsL : List Nd → List Ev
 | [] => []
 | x :: xs => tells x ++ tellsL xs
end
mutual
def nds : Nd → Nat
 | ⟨_, _, kids⟩ => 1 + ndsL kids
def ndsL : List Nd → Nat
 | [] => 0
 | x :: xs => nds x + ndsL xs
end
theorem nds_eq (x : Nd) : nds x = 1 + ndsL x.f2 := by obtain ⟨k, t, kids⟩ := x; rw [nds]
theorem nds_pos (x : Nd) : 1 ≤ nds x := by rw [nds_eq]; omega
theorem tells_eq (x : Nd) : tells x = if x.f0 = 0 then [evTok x.f1] else evOpen x.f0 :: (tellsL x.f2 ++ [evClose x.f0]) := by obtain ⟨k, t, kids⟩ := x; rw [tells]
theorem tellsL_append : ∀ (a b : List Nd), tellsL (a ++ b) = tellsL a ++ tellsL b
 | [], b => by rw [List.nil_append, tellsL, List.nil_append]
 | x :: a, b => by rw [List.cons_append, tellsL, tellsL, tellsL_append a b, List.append_assoc]
theorem ndsL_append : ∀ (a b : List Nd), ndsL (a ++ b) = ndsL a + ndsL b
 | [], b => by rw [List.nil_append, ndsL, Nat.zero_add]
 | x :: a, b => by rw [List.cons_append, ndsL, ndsL, ndsL_append a b, Nat.add_assoc]
theorem tellsL_one (x : Nd) : tellsL [x] = tells x := by rw [tellsL, tellsL, List.append_nil]
theorem ndsL_one (x : Nd) : ndsL [x] = nds x := by rw [ndsL, ndsL]; omega
theorem ndsL_mem {x : Nd} : ∀ {l : List Nd}, x ∈ l → nds x ≤ ndsL l
 | y :: l, h => by
  rw [ndsL]
  rcases List.mem_cons.1 h with rfl | h
  ·omega
  ·have := ndsL_mem h; omega
theorem ndsL_len : ∀ (l : List Nd), l.length ≤ ndsL l
 | [] => by simp [ndsL]
 | x :: l => by
  have := ndsL_len l
  have := nds_pos x
  rw [ndsL, List.length_cons]; omega
mutual
theorem tells_len : ∀ (x : Nd), (tells x).length ≤ 2 * nds x
 | ⟨k, t, kids⟩ => by
  rw [tells, nds]
  have := tellsL_len kids
  split
  ·simp only [List.length_cons, List.length_nil]; omega
  ·simp only [List.length_cons, List.length_append, List.length_nil]; omega
theorem tellsL_len : ∀ (l : List Nd), (tellsL l).length ≤ 2 * ndsL l
 | [] => by simp [tellsL]
 | x :: l => by
  have := tells_len x
  have := tellsL_len l
  rw [tellsL, ndsL, List.length_append]; omega
end
theorem take_tells {l : List Nd} {k : Nat} {x : Nd} (h : l[k]? = some x) : tellsL (l.take (k + 1)) = tellsL (l.take k) ++ tells x := by
 rw [List.take_add_one, h, tellsL_append]
 simp [tellsL_one]
theorem take_nds {l : List Nd} (k : Nat) : ndsL (l.take k) ≤ ndsL l := by
 have h := ndsL_append (l.take k) (l.drop k)
 rw [List.take_append_drop] at h
 omega
end Go.Proofs.YtmjbpgnjgblnmaaGreat.Tr
set_option maxRecDepth 100000
namespace Go.Proofs.YtmjbpgnjgblnmaaGreat.Tr
open Go.RowKit Go.Proofs.YtmjbpgnjgblnmaaGreatW.PrintWords Go.Proofs.YtmjbpgnjgblnmaaGreatW.PrintLast Go.Proofs.YtmjbpgnjgblnmaaGreatW.PrintMore
abbrev zNd : List Value := [.int .u8 0, .int .u8 0, .string ⟨#[]⟩, .int .i64 0, .int .i64 0, .int .i64 0, .int .i64 0, .slice none 0 0]
theorem zNd_one : ∀ v ∈ zNd, v.oneCell' = true := ndCells_one 0 noTk rfl
structure EvAt (w : World) (A : Option Addr) (i : Nat) (e : Ev) : Prop where
 cell : ∃ ad, A = some ad ∧ w.cell? (ad.add (i * 8)) = some (.int .u8 e.f0) ∧ w.cell? ⟨(ad.add (i * 8)).block, (ad.add (i * 8)).off + 1, none⟩ = some (.int .u8 e.f1) ∧ w.cell? ⟨(ad.add (i * 8)).block, (ad.add (i * 8)).off + 2, none⟩ = some (.int .u8 e.f2.f0) ∧ w.cell? ⟨(ad.add (i * 8)).block, (ad.add (i * 8)).off + 3, none⟩ = some (.string e.f2.f1) ∧ w.cell? ⟨(ad.add (i * 8)).block, (ad.add (i * 8)).off + 4, none⟩ = some (.int .i64 e.f2.f2.f0) ∧ w.cell? ⟨(ad.add (i * 8)).block, (ad.add (i * 8)).off + 5, none⟩ = some (.int .i64 e.f2.f2.f1) ∧ w.cell? ⟨(ad.add (i * 8)).block, (ad.add (i * 8)).off + 6, none⟩ = some (.int .i64 e.f2.f2.f2) ∧ w.cell? ⟨(ad.add (i * 8)).block, (ad.add (i * 8)).off + 7, none⟩ = some (.int .i64 e.f2.f3)
theorem evAt_of {w : World} {A : Option Addr} {n : Nat} {l : List Ev} (h : Kd.C kEv w A n l) (i : Nat) (e : Ev) (hi : i < n) (he : l[i]? = some e) : EvAt w A i e := by
 obtain ⟨ad, h0, r⟩ := PSyntaxEvents.at_T48 h (i : Int) (by omega) (by omega)
 have hr : PSyntaxEvents.rd_T48 l (i : Int) = e := by simp [PSyntaxEvents.rd_T48, List.getD, he]
 rw [hr, Int.toNat_natCast] at r
 exact ⟨ad, h0, r⟩
theorem comment_any (t : Tk) (w : World) : Calls Tryz.prog 32 #[.agg #[.int .u8 t.f0, .string t.f1, .int .i64 t.f2.f0, .int .i64 t.f2.f1, .int .i64 t.f2.f2, .int .i64 t.f3]] w fun e w' => e = .returned (.bool (isNote t)) ∧ Below w.heap.size w w' := by
 refine PSyntaxEvents.tree_comment.calls t.f0 t.f1 t.f2.f0 t.f2.f1 t.f2.f2 t.f3 (isNote t) w ?_
 unfold PSyntaxEvents.tree_comment.f isNote
 by_cases h : t.f0 = 7
 ·rw [if_pos h, h]; rfl
 ·rw [if_neg h, beq_eq_false_iff_ne.2 h]; rfl
theorem box8 {w w1 : World} {a b c d e f g h : Value} {T : TypeId} (hb : Below (w.heap.size + 1) (w.alloc (.cells #[a, b, c, d, e, f, g, h] T)) w1) :
  w1.cell? ⟨w.heap.size, 0, none⟩ = some a ∧ w1.cell? ⟨w.heap.size, 1, none⟩ = some b ∧ w1.cell? ⟨w.heap.size, 2, none⟩ = some c ∧ w1.cell? ⟨w.heap.size, 3, none⟩ = some d ∧ w1.cell? ⟨w.heap.size, 4, none⟩ = some e ∧ w1.cell? ⟨w.heap.size, 5, none⟩ = some f ∧ w1.cell? ⟨w.heap.size, 6, none⟩ = some g ∧ w1.cell? ⟨w.heap.size, 7, none⟩ = some h := by
 have hn : (w.alloc (.cells #[a, b, c, d, e, f, g, h] T)).heap[w.heap.size]? = some (.cells #[a, b, c, d, e, f, g, h] T) := by
  show (w.heap.push _)[w.heap.size]? = _
  rw [Array.getElem?_push, if_pos rfl]
 have hc : ∀ (j : Nat) v, (#[a, b, c, d, e, f, g, h] : Array Value)[j]? = some v → w1.cell? ⟨w.heap.size, j, none⟩ = some v := fun j v hj =>
  (hb.cell (p := ⟨w.heap.size, j, none⟩) (show w.heap.size < w.heap.size + 1 by omega)).trans ((cell_of_row _ _ _ _ _ _ hn).trans hj)
 exact ⟨hc 0 _ rfl, hc 1 _ rfl, hc 2 _ rfl, hc 3 _ rfl, hc 4 _ rfl, hc 5 _ rfl, hc 6 _ rfl, hc 7 _ rfl⟩
structure Upd (g : Nat) (W w5 : World) : Prop where
 far : ∀ k, k ≠ g → w5.heap[k]? = W.heap[k]?
 os : w5.os = W.os
 tape : w5.tape = W.tape
 output : w5.output = W.output
 size : w5.heap.size = W.heap.size
theorem Upd.below {g B : Nat} {w W w5 : World} (h : Upd g W w5) (hb : Below B w W) (hg : B ≤ g) : Below B w w5 :=
 ⟨h.os.trans hb.os, h.tape.trans hb.tape, h.output.trans hb.output, by rw [h.size]; exact hb.size, fun k hk => (h.far k (by omega)).trans (hb.block k hk)⟩
theorem wl_box {ops : Array Oper} {rest : List Oper} {o : Oper} {a : Act} {Q : Exit → Act → World → Prop} {W : World} (hgd : o.guard = none) (hd : o.dst = none) (t : TypeId) (p x : Operand) (ho : o.op = .store t p x) {g : Nat} {e : TypeId} {cur : Array Value} (u : Value) (seg : List Value)
  (haddr : a.eval p = .pointer (some ⟨g, 0, none⟩)) (hx : a.eval x = u) (hu : u.cells.toList = seg) (ht : (Tryz.prog.info? t).map (·.size) = some seg.length) (h1 : ∀ v ∈ seg, v.oneCell' = true) (hh : W.heap[g]? = some (.cells cur e (0, 0))) (hfit : cur.size = seg.length)
  (h : ∀ w5, w5.heap[g]? = some (.cells seg.toArray e (0, 0)) → Upd g W w5 → wpList Tryz.prog ops Q rest a w5) : wpList Tryz.prog ops Q (o :: rest) a W := by
 refine wpList_plain hgd fun K hK => ?_
 have hrun := run_store_run (P := Tryz.prog) (o := 0) t u seg hh hu ht (by omega) h1
 unfold Oper.wp execOp
 simp only [ho, haddr, hx, Sem.run_bind, Sem.run_pure, Result.andThen_ok, hrun]
 show K (a.put o.dst undef) _
 rw [hd]
 obtain ⟨cur', h3, h4, h5⟩ := setCells_row seg 0 W cur hh (by omega)
 have hs := setCells_same g seg 0 W
 refine hK a _ (h _ ?_ ⟨fun k hk => setCells_far seg 0 k hk, hs.1, hs.2.1, hs.2.2.1, hs.2.2.2⟩)
 rw [h3]
 congr 2
 apply Array.toList_inj.1
 rw [h5, List.take_zero, List.nil_append, List.drop_of_length_le (by rw [Array.length_toList]; omega), List.append_nil]
theorem cells8 {w : World} {g : Nat} {T : TypeId} {a b c d e f p q : Value} (h : w.heap[g]? = some (.cells [a, b, c, d, e, f, p, q].toArray T (0, 0))) :
  w.cell? ⟨g, 0, none⟩ = some a ∧ w.cell? ⟨g, 1, none⟩ = some b ∧ w.cell? ⟨g, 2, none⟩ = some c ∧ w.cell? ⟨g, 3, none⟩ = some d ∧ w.cell? ⟨g, 4, none⟩ = some e ∧ w.cell? ⟨g, 5, none⟩ = some f ∧ w.cell? ⟨g, 6, none⟩ = some p ∧ w.cell? ⟨g, 7, none⟩ = some q :=
 ⟨blk_cell h 0, blk_cell h 1, blk_cell h 2, blk_cell h 3, blk_cell h 4, blk_cell h 5, blk_cell h 6, blk_cell h 7⟩
abbrev zBox (w : World) : World := w.alloc (.cells #[.int .u8 0, .int .u8 0, .string ⟨#[]⟩, .int .i64 0, .int .i64 0, .int .i64 0, .int .i64 0, .slice none 0 0] TN)
structure BInv (w wr : World) (l : List Ev) (i : Nat) (v : Value) (S : List Nd) : Prop where
 run : runB (l.drop i) S = runB l []
 small : Small i S
 nz : S = [] → i = 0
 own : OwnS wr (w.heap.size + 1) v S.reverse (fun _ => True)
 below : Below (w.heap.size + 1) (zBox w) wr
def BuildPost (w : World) (l : List Ev) (e : Ending) (w' : World) : Prop :=
 ∃ v, e = .returned (.tuple #[.agg #[.int .u8 (bld l).1.f0, .int .u8 (bld l).1.f1.f0, .string (bld l).1.f1.f1, .int .i64 (bld l).1.f1.f2.f0, .int .i64 (bld l).1.f1.f2.f1, .int .i64 (bld l).1.f1.f2.f2, .int .i64 (bld l).1.f1.f3, v], .int .i64 (bld l).2]) ∧ OwnS w' w.heap.size v (bld l).1.f2 (fun _ => True) ∧ Below w.heap.size w w'
theorem BInv.start (w : World) (l : List Ev) : BInv w (zBox w) l 0 (.slice none 0 0) [] := ⟨by rw [List.drop_zero], Small.nil, fun _ => rfl, ownS_nil _ _ _, Below.refl _ _⟩
theorem BInv.out {w wr : World} {l : List Ev} {i : Nat} {v : Value} {S : List Nd} (h : BInv w wr l i v S) : Below w.heap.size w wr := ((Below.refl w.heap.size w).alloc (Nat.le_refl _) _).trans (h.below.mono (Nat.le_succ _))
theorem BInv.box {w wr : World} {l : List Ev} {i : Nat} {v : Value} {S : List Nd} (h : BInv w wr l i v S) : wr.heap[w.heap.size]? = some (.cells zNd.toArray TN (0, 0)) := by
 refine (h.below.block w.heap.size (Nat.lt_succ_self _)).trans ?_
 show (w.heap.push _)[w.heap.size]? = _
 rw [Array.getElem?_push, if_pos rfl]
theorem box_later {w wr W : World} (h : wr.heap[w.heap.size]? = some (.cells zNd.toArray TN (0, 0))) (hb : Below wr.heap.size wr W) : W.heap[w.heap.size]? = some (.cells zNd.toArray TN (0, 0)) := (hb.block _ (blk_lt h)).trans h
theorem BuildPost.err {w w5 : World} {l : List Ev} (hr : runB l [] = none) (hb : Below w.heap.size w w5) : BuildPost w l (.returned (.tuple #[.agg zNd.toArray, .int .i64 130])) w5 := by
 refine ⟨.slice none 0 0, ?_, ?_, hb⟩
 ·rw [bld_none hr]; rfl
 ·rw [bld_none hr]; exact ownS_nil _ _ _
theorem drop_cons {l : List Ev} {i : Nat} {e : Ev} (h : l[i]? = some e) : l.drop i = e :: l.drop (i + 1) := by
 have hl := (List.getElem?_eq_some_iff.1 h)
 rw [List.drop_eq_getElem_cons hl.1, hl.2]
theorem topsX_later {W w1 : World} {base g cap : Nat} {S : List Nd} {t : Nd} {u : Value} {F G1 G2 Gk : Nat → Prop} {cells kc : List Value} (H : TopsX W base g cap S t u F cells G1 G2 kc Gk) (hb : Below W.heap.size W w1) : TopsX w1 base g cap S t u F cells G1 G2 kc Gk :=
 ⟨row_move H.row (fun k hk => hb.block k (own_lt H.row k hk)), ownL_step H.rest (fun b _ hl => hb.block b hl.2.1), row_move H.krow (fun k hk => hb.block k (own_lt H.krow k hk)), ownL_step H.kids (fun b _ hl => hb.block b hl.2.1), H.own, H.sub, H.apart, H.n1, H.n2, H.fg, H.f1, H.f2⟩
theorem topsX_at {w : World} {base g cap : Nat} {S : List Nd} {t : Nd} {u : Value} {F G1 G2 Gk : Nat → Prop} {cells kc : List Value} (H : TopsX w base g cap S t u F cells G1 G2 kc Gk) (j : Nat) (v : Value) (hj : (ndCells t.f0 t.f1 u)[j]? = some v) : w.cell? ⟨g, S.length * 8 + j, none⟩ = some v ∧ w.frozen? ⟨g, S.length * 8 + j, none⟩ = false := top_at ⟨_, _, _, _, _, H⟩ j v hj
theorem row_cut {w : World} {base g n cap : Nat} {xs ys : List Value} (h : w.ownsRow base TN 8 (.slice (some ⟨g, 0, none⟩) (n + 1) cap) (n + 1) (xs ++ ys)) (hx : xs.length = n * 8) : w.ownsRow base TN 8 (.slice (some ⟨g, 0, none⟩) n cap) n xs := by
 rcases h.2 with ⟨he, _⟩ | ⟨g', cap', cur, he, hb, hh, hl, hm, hs, ht⟩
 ·cases he
 ·injection he with he _ hc
  injection he with he
  injection he with he
  subst he; subst hc
  refine ⟨hx, .inr ⟨g, cap, cur, rfl, hb, hh, by omega, hm, hs, ?_⟩⟩
  have hz := congrArg (List.take (n * 8)) ht
  rw [List.take_take, Nat.min_eq_left (by omega), List.take_left' hx] at hz
  exact hz
theorem popped {w : World} {base g cap : Nat} {S S2 : List Nd} {t u2 : Nd} {u : Value} {F G1 G2 Gk : Nat → Prop} {cells kc : List Value} (H : TopsX w base g cap S t u F cells G1 G2 kc Gk) (hS : S = S2 ++ [u2]) :
  ∃ (uu : Value) (cells' : List Value) (G1' G2' : Nat → Prop) (kc' : List Value) (Gk' : Nat → Prop), TopsX w base g cap S2 u2 uu (fun b => b = g ∨ G1 b) cells' G1' G2' kc' Gk' := by
 have hrow := row_cut H.row (ownL_len H.rest)
 subst hS
 have ho : OwnS w base (.slice (some ⟨g, 0, none⟩) (S2 ++ [u2]).length cap) (S2 ++ [u2]) (fun b => b = g ∨ G1 b) := by
  refine ⟨cells, G1, hrow, H.rest, fun b hb => ?_, fun b hb => .inr hb⟩
  have : g = b := by simpa [Value.ownBlock] using hb
  subst this
  exact ⟨.inl rfl, H.n1⟩
 obtain ⟨g', cap', uu, he, hx⟩ := tops_of ho
 injection he with he _ hc
 injection he with he
 injection he with he
 subst he; subst hc
 obtain ⟨c1, d1, d2, k1, e1, hX⟩ := hx.top
 exact ⟨uu, c1, d1, d2, k1, e1, hX⟩
theorem top_own {w : World} {base g cap : Nat} {S : List Nd} {t : Nd} {u : Value} {F G1 G2 Gk : Nat → Prop} {cells kc : List Value} (H : TopsX w base g cap S t u F cells G1 G2 kc Gk) : Own w base t (ndCells t.f0 t.f1 u) G2 := own_iff.2 ⟨u, rfl, kc, Gk, H.krow, H.kids, H.own, H.sub⟩
theorem top_ownS {w : World} {base g cap : Nat} {S : List Nd} {t : Nd} {u : Value} {F G1 G2 Gk : Nat → Prop} {cells kc : List Value} (H : TopsX w base g cap S t u F cells G1 G2 kc Gk) : OwnS w base u t.f2 G2 := ⟨kc, Gk, H.krow, H.kids, H.own, H.sub⟩
theorem ownS_upd {W w5 : World} {g base : Nat} {v : Value} {kids : List Nd} {F : Nat → Prop} (h : OwnS W base v kids F) (hu : Upd g W w5) (hg : g < base) : OwnS w5 base v kids F := ownS_step h (fun b _ hl => hu.far b (by have := hl.1; omega))
theorem topsX_cap {w : World} {base g cap : Nat} {S : List Nd} {t : Nd} {u : Value} {F G1 G2 Gk : Nat → Prop} {cells kc : List Value} (H : TopsX w base g cap S t u F cells G1 G2 kc Gk) : S.length + 1 ≤ cap := by
 rcases H.row.2 with ⟨he, _⟩ | ⟨g', cap', cur, he, hb, hh, hl, hm, hs, ht⟩
 ·cases he
 ·injection he with _ _ hc
  omega
theorem BuildPost.ok {w w5 : World} {l : List Ev} {t : Nd} {u : Value} (hr : runB l [] = some t) (ho : OwnS w5 (w.heap.size + 1) u t.f2 (fun _ => True)) (hb : Below w.heap.size w w5) : BuildPost w l (.returned (.tuple #[.agg #[.int .u8 t.f0, .int .u8 t.f1.f0, .string t.f1.f1, .int .i64 t.f1.f2.f0, .int .i64 t.f1.f2.f1, .int .i64 t.f1.f2.f2, .int .i64 t.f1.f3, u], .int .i64 0])) w5 := by
 refine ⟨u, ?_, ?_, hb⟩
 ·rw [bld_some hr]
 ·rw [bld_some hr]; exact ownS_lower (Nat.le_succ _) ho
end Go.Proofs.YtmjbpgnjgblnmaaGreat.Tr
set_option maxRecDepth 100000
namespace Go.Proofs.YtmjbpgnjgblnmaaGreat.Tr
open Go.RowKit Go.Proofs.YtmjbpgnjgblnmaaGreatW.PrintWords Go.Proofs.YtmjbpgnjgblnmaaGreatW.PrintLast Go.Proofs.YtmjbpgnjgblnmaaGreatW.PrintMore
def canon (e : Ev) : Ev := if e.f0 = 2 ∨ e.f0 = 4 then ⟨e.f0, 0, e.f2⟩ else ⟨e.f0, e.f1, noTk⟩
def toldS : List Nd → List Ev
 | [] => []
 | t :: S => toldS S ++ (evOpen t.f0 :: tellsL t.f2)
theorem toldS_add (t x : Nd) (S : List Nd) : toldS (addKid t x :: S) = toldS (t :: S) ++ tells x := by
 simp [toldS, addKid, tellsL_append, tellsL_one]
theorem run_tells : ∀ (l : List Ev) (S : List Nd) (a : Nd), (∀ t ∈ S, t.f0 ≠ 0) → runB l S = some a → toldS S ++ l.map canon = tells a ∧ a.f0 ≠ 0 := by
 intro l
 induction l with
 | nil => intro S a _ h; simp [runB] at h
 | cons e l ih =>
  intro S a hS h
  unfold runB at h
  by_cases h1 : e.f0 = 1
  ·rw [if_pos h1] at h
   by_cases h2 : e.f1 = 0 ∨ S.length = 1000
   ·rw [if_pos h2] at h; cases h
   ·rw [if_neg h2] at h
    obtain ⟨h3, h4⟩ := ih _ a (fun t ht => by
     rcases List.mem_cons.1 ht with rfl | ht
     ·exact fun h0 => h2 (.inl h0)
     ·exact hS t ht) h
    refine ⟨?_, h4⟩
    rw [← h3]
    simp [toldS, tellsL, canon, h1, evOpen]
  ·rw [if_neg h1] at h
   by_cases h2 : e.f0 = 2 ∨ e.f0 = 4
   ·rw [if_pos h2] at h
    cases S with
    | nil => cases h
    | cons t S' =>
     dsimp only at h
     by_cases h3 : isNote e.f2 = (e.f0 == 4)
     ·rw [if_pos h3] at h
      obtain ⟨h5, h4⟩ := ih _ a (fun x hx => by
       rcases List.mem_cons.1 hx with rfl | hx
       ·exact hS t List.mem_cons_self
       ·exact hS x (List.mem_cons_of_mem _ hx)) h
      refine ⟨?_, h4⟩
      rw [← h5, toldS_add, tells_eq, if_pos rfl]
      have : canon e = evTok e.f2 := by
       unfold canon evTok
       rw [if_pos h2, h3]
       rcases h2 with h2 | h2 <;> rw [h2] <;> rfl
      simp [this]
     ·rw [if_neg h3] at h; cases h
   ·rw [if_neg h2] at h
    by_cases h3 : e.f0 = 3
    ·rw [if_pos h3] at h
     cases S with
     | nil => cases h
     | cons t S' =>
      dsimp only at h
      by_cases h5 : t.f0 = e.f1
      ·rw [if_pos h5] at h
       have hc : canon e = evClose t.f0 := by
        unfold canon
        rw [if_neg h2, h3, h5]
        rfl
       have ht : tells t = evOpen t.f0 :: (tellsL t.f2 ++ [evClose t.f0]) := by rw [tells_eq, if_neg (hS t List.mem_cons_self)]
       cases S' with
       | nil =>
        dsimp only at h
        by_cases h6 : l = []
        ·rw [if_pos h6] at h
         cases h
         subst h6
         exact ⟨by simp [toldS, hc, ht], hS _ List.mem_cons_self⟩
        ·rw [if_neg h6] at h; cases h
       | cons u S'' =>
        dsimp only at h
        obtain ⟨h7, h4⟩ := ih _ a (fun x hx => by
         rcases List.mem_cons.1 hx with rfl | hx
         ·exact hS u (List.mem_cons_of_mem _ List.mem_cons_self)
         ·exact hS x (List.mem_cons_of_mem _ (List.mem_cons_of_mem _ hx))) h
        refine ⟨?_, h4⟩
        rw [← h7, toldS_add, ht]
        simp [toldS, hc]
      ·rw [if_neg h5] at h; cases h
    ·rw [if_neg h3] at h; cases h
theorem bld_tells {l : List Ev} {a : Nd} (h : runB l [] = some a) : tells a = l.map canon ∧ a.f0 ≠ 0 := by
 obtain ⟨h1, h2⟩ := run_tells l [] a (by simp) h
 exact ⟨by rw [← h1]; rfl, h2⟩
theorem run_nds : ∀ (l : List Ev) (S : List Nd) (a : Nd), runB l S = some a → nds a ≤ l.length + ndsL S
 | [], S, a, h => by simp [runB] at h
 | e :: l, S, a, h => by
  unfold runB at h
  rw [List.length_cons]
  split at h
  ·split at h
   ·cases h
   ·have := run_nds l _ a h
    simp only [ndsL, nds] at this
    omega
  ·split at h
   ·split at h
    ·cases h
    ·rename_i t S' 
     split at h
     ·have := run_nds l _ a h
      simp only [addKid, ndsL, nds, ndsL_append] at this
      rw [ndsL, nds_eq t]
      omega
     ·cases h
   ·split at h
    ·split at h
     ·cases h
     ·rename_i t S'
      split at h
      ·split at h
       ·split at h
        ·injection h with h
         subst h
         rw [ndsL]; omega
        ·cases h
       ·rename_i u S''
        have := run_nds l _ a h
        simp only [addKid, ndsL, nds, ndsL_append] at this
        rw [ndsL, ndsL, nds_eq u]
        omega
      ·cases h
    ·cases h
end Go.Proofs.YtmjbpgnjgblnmaaGreat.Tr
namespace Go.Proofs.YtmjbpgnjgblnmaaGreat
theorem expand_kind {f : RId} {c : ByteArray} {l : List Eff} (h : f.expand c = some l) : ∀ k w, Eff.opn k w ∈ l → k ≠ 0 := by
 cases f
 all_goals
  simp only [RId.expand] at h
  repeat' split at h
 all_goals first
  | (cases h; done)
  | (cases h; intro k w hm; simp at hm; done)
  | (cases h; intro k w hm; simp at hm; omega)
def okE (evs : List (Nat × Nat)) : Prop := ∀ p ∈ evs, p.1 = 1 → p.2 ≠ 0
theorem okE_app {a b : List (Nat × Nat)} (ha : okE a) (hb : okE b) : okE (a ++ b) := fun p hp h1 => by
 rcases List.mem_append.1 hp with h | h
 ·exact ha p h h1
 ·exact hb p h h1
theorem effs_kind : ∀ (l : List Eff) (s : PSt), (∀ k w, Eff.opn k w ∈ l → k ≠ 0) → okE s.evs → okE (effs s l).evs
 | [], s, _, hs => hs
 | .push w :: l, s, hl, hs => effs_kind l ({ s with todo := w ++ s.todo }) (fun k w h => hl k w (List.mem_cons_of_mem _ h)) hs
 | .opn k w :: l, s, hl, hs => effs_kind l { todo := w ++ .fin k :: s.todo, evs := s.evs ++ [(1, k)], depth := s.depth + 1 } (fun k w h => hl k w (List.mem_cons_of_mem _ h)) (okE_app hs (fun p hp h1 => by
   rw [List.mem_singleton.1 hp]
   exact hl k w List.mem_cons_self))
theorem turns_kind (c : ByteArray) : ∀ (n : Nat) (s : PSt) (r : Bool × PSt), okE s.evs → turns c n s = some r → okE r.2.evs
 | 0, s, r, _, h => by simp [turns] at h
 | n + 1, s, r, hs, h => by
  obtain ⟨T, v, d⟩ := s
  rw [turns] at h
  cases T with
  | nil => simp only [turn] at h; cases h; exact hs
  | cons x T =>
   cases x with
   | word x =>
    simp only [turn] at h
    split at h
    ·rename_i s' he
     split at he <;> cases he
    ·rename_i s' he
     cases h
     split at he <;> cases he
     exact hs
    ·rename_i s' he
     cases h
     split at he <;> cases he
     exact hs
   | fin k =>
    simp only [turn] at h
    exact turns_kind c n _ r (okE_app hs (fun p hp h1 => by rw [List.mem_singleton.1 hp] at h1; simp at h1)) h
   | rule f =>
    simp only [turn] at h
    cases he : f.expand c with
    | none => rw [he] at h; cases h; exact hs
    | some e =>
     rw [he] at h
     have h' : turns c n (effs ⟨T, v, d⟩ e) = some r := h
     exact turns_kind c n _ r (effs_kind e ⟨T, v, d⟩ (expand_kind he) hs) h'
theorem token_kind (t : Tk) (todo : List WT) (depth : Int) : okE (token t todo depth).2.evs := by
 unfold token
 cases h : turns (codeOf t) (todo.length + 7) ⟨todo, [], depth⟩ with
 | none => exact fun p hp => by cases hp
 | some r =>
  have hk := turns_kind _ _ _ r (fun p hp => by cases hp) h
  obtain ⟨b, s⟩ := r
  cases b with
  | false => exact hk
  | true =>
   dsimp only
   split
   ·exact hk
   ·split <;> exact hk
mutual
def fullT : Tr.Nd → Prop
 | ⟨k, t, kids⟩ => if k = 0 then kids = [] else (kids ≠ [] ∧ t = Tr.noTk ∧ fullL kids)
def fullL : List Tr.Nd → Prop
 | [] => True
 | x :: xs => fullT x ∧ fullL xs
end
theorem full_eq (x : Tr.Nd) : fullT x ↔ if x.f0 = 0 then x.f2 = [] else (x.f2 ≠ [] ∧ x.f1 = Tr.noTk ∧ fullL x.f2) := by obtain ⟨k, t, kids⟩ := x; rw [fullT]
theorem fullL_iff : ∀ l : List Tr.Nd, fullL l ↔ ∀ x ∈ l, fullT x
 | [] => by simp [fullL]
 | x :: l => by rw [fullL, fullL_iff l]; simp
structure St (S : List Tr.Nd) (op : List Nat) : Prop where
 kinds : S.map (fun t => t.f0) = cst op
 good : ∀ t ∈ S, t.f1 = Tr.noTk ∧ t.f0 ≠ 0 ∧ ∀ y ∈ t.f2, fullT y
 top : ∀ t S', S = t :: S' → t.f2 ≠ [] ∨ S' = []
theorem good_add {u x : Tr.Nd} (hu : u.f1 = Tr.noTk ∧ u.f0 ≠ 0 ∧ ∀ y ∈ u.f2, fullT y) (hx : fullT x) : (Tr.addKid u x).f1 = Tr.noTk ∧ (Tr.addKid u x).f0 ≠ 0 ∧ ∀ y ∈ (Tr.addKid u x).f2, fullT y := by
 refine ⟨hu.1, hu.2.1, fun y hy => ?_⟩
 rcases List.mem_append.1 (show y ∈ u.f2 ++ [x] from hy) with h | h
 ·exact hu.2.2 y h
 ·rw [List.mem_singleton.1 h]; exact hx
theorem leaf_full (t : Tk) : fullT ⟨0, t, []⟩ := by rw [fullT, if_pos rfl]
theorem run_closes : ∀ (cl X : List Nat) (S : List Tr.Nd), St S (cl ++ X) → X ≠ [] → ∃ S1, St S1 X ∧ ∀ rest, Tr.runB ((cl.map (fun k => (3, k))).map evOf ++ rest) S = Tr.runB rest S1
 | [], X, S, h, hX => ⟨S, h, fun _ => rfl⟩
 | k :: cl, X, S, h, hX => by
  obtain ⟨hk, hg, ht⟩ := h
  match S, hk, hg, ht with
  | [], hk, _, _ => simp [cst] at hk
  | [t], hk, _, _ =>
   exfalso
   have := congrArg List.length hk
   simp [cst] at this
   exact hX this.2
  | t :: u :: S', hk, hg, ht =>
   simp only [cst, List.cons_append, List.map_cons, List.cons.injEq] at hk
   have htop : t.f2 ≠ [] := by
    rcases ht t (u :: S') rfl with h | h
    ·exact h
    ·cases h
   have gt := hg t List.mem_cons_self
   have gu := hg u (List.mem_cons_of_mem _ List.mem_cons_self)
   have hft : fullT t := by rw [full_eq, if_neg gt.2.1]; exact ⟨htop, gt.1, (fullL_iff _).2 gt.2.2⟩
   obtain ⟨S1, h1, h2⟩ := run_closes cl X (Tr.addKid u t :: S') ⟨by simpa [cst, Tr.addKid] using hk.2, fun y hy => by
    rcases List.mem_cons.1 hy with rfl | hy
    ·exact good_add gu hft
    ·exact hg y (List.mem_cons_of_mem _ (List.mem_cons_of_mem _ hy)), fun y S2 he => by
     cases he
     exact .inl (by simp [Tr.addKid])⟩ hX
   refine ⟨S1, h1, fun rest => ?_⟩
   rw [← h2 rest]
   conv => lhs; unfold Tr.runB
   simp [evOf, hk.1]
theorem run_opens : ∀ (op X : List Nat) (S : List Tr.Nd), S.map (fun t => t.f0) = cst X → (∀ t ∈ S, t.f1 = Tr.noTk ∧ t.f0 ≠ 0 ∧ ∀ y ∈ t.f2, fullT y) → X.length + op.length ≤ 1000 → (∀ k ∈ op, k ≠ 0) →
  ∃ S1, S1.map (fun t => t.f0) = cst (op.reverse ++ X) ∧ (∀ t ∈ S1, t.f1 = Tr.noTk ∧ t.f0 ≠ 0 ∧ ∀ y ∈ t.f2, fullT y) ∧ ∀ rest, Tr.runB ((op.map (fun k => (1, k))).map evOf ++ rest) S = Tr.runB rest S1
 | [], X, S, hk, hg, _, _ => ⟨S, hk, hg, fun _ => rfl⟩
 | k :: op, X, S, hk, hg, hl, h0 => by
  have hlen : S.length = X.length := by simpa [cst] using congrArg List.length hk
  rw [List.length_cons] at hl
  obtain ⟨S1, h1, h2, h3⟩ := run_opens op (k :: X) (⟨(k : Int), Tr.noTk, []⟩ :: S) (by simp [cst] at hk ⊢; exact hk) (fun t ht => by
   rcases List.mem_cons.1 ht with rfl | ht
   ·exact ⟨rfl, by have := h0 k List.mem_cons_self; dsimp only; omega, fun y hy => by cases hy⟩
   ·exact hg t ht) (by rw [List.length_cons]; omega) (fun j hj => h0 j (List.mem_cons_of_mem _ hj))
  refine ⟨S1, by rw [h1]; simp, h2, fun rest => ?_⟩
  rw [← h3 rest]
  conv => lhs; unfold Tr.runB
  have hk1 := h0 k List.mem_cons_self
  have hk2 : S.length ≠ 1000 := by omega
  simp [evOf, hk1, hk2]
theorem run_leaf {t : Tk} {e : Ev} (he : e = if isNote t then noteE t else leafE t) (rest : List Ev) (u : Tr.Nd) (S : List Tr.Nd) : Tr.runB (e :: rest) (u :: S) = Tr.runB rest (Tr.addKid u ⟨0, t, []⟩ :: S) := by
 subst he
 have hn : Tr.isNote t = isNote t := rfl
 conv => lhs; unfold Tr.runB
 cases h : isNote t <;> simp [noteE, leafE, hn, h]
theorem leaf_st {S : List Tr.Nd} {op : List Nat} (hk : S.map (fun t => t.f0) = cst op) (hg : ∀ t ∈ S, t.f1 = Tr.noTk ∧ t.f0 ≠ 0 ∧ ∀ y ∈ t.f2, fullT y) (h0 : op ≠ []) {t : Tk} {e : Ev} (he : e = if isNote t then noteE t else leafE t) :
  ∃ S1, St S1 op ∧ (∀ t S', S1 = t :: S' → t.f2 ≠ []) ∧ ∀ rest, Tr.runB (e :: rest) S = Tr.runB rest S1 := by
 match S, hk, hg with
 | [], hk, _ => exfalso; cases op with
  | nil => exact h0 rfl
  | cons a b => simp [cst] at hk
 | u :: S', hk, hg =>
  refine ⟨Tr.addKid u ⟨0, t, []⟩ :: S', ⟨by simpa [Tr.addKid] using hk, fun y hy => ?_, fun y S2 h => ?_⟩, fun y S2 h => ?_, fun rest => run_leaf he rest u S'⟩
  ·rcases List.mem_cons.1 hy with rfl | hy
   ·exact good_add (hg u List.mem_cons_self) (leaf_full t)
   ·exact hg y (List.mem_cons_of_mem _ hy)
  ·cases h; exact .inl (by simp [Tr.addKid])
  ·cases h; simp [Tr.addKid]
theorem put_run {p : Par} {op : List Nat} {S : List Tr.Nd} (hP : PInv p op) (hb : p.begun = true) (hS : St S op) {t : Tk} (he : (put p t).2.1 = 0) :
  ∃ op1 S1, PInv (put p t).2.2 op1 ∧ (put p t).2.2.begun = true ∧ St S1 op1 ∧ (∀ t S', S1 = t :: S' → t.f2 ≠ []) ∧ ∀ rest, Tr.runB ((put p t).1 ++ rest) S = Tr.runB rest S1 := by
 obtain ⟨op1, h1, h2, -, -⟩ := put_nest hP t [] he
 by_cases hn : isNote t = true
 ·have hp := put_note_begun hb hP.closed hP.wrong hn
  rw [hp] at h1 h2 ⊢
  obtain ⟨r, hr⟩ := hP.last hb
  obtain ⟨S1, g1, g2, g3⟩ := leaf_st hS.kinds hS.good (by rw [hr]; simp) (t := t) (e := noteE t) (by rw [if_pos hn])
  exact ⟨op, S1, hP, hb, g1, g2, fun rest => g3 rest⟩
 ·have hn' : isNote t = false := by simpa using hn
  have hpre : preD p = p.depth := by unfold preD; rw [if_pos hb]
  have hpreE : preE p = [] := by unfold preE; rw [if_pos hb]
  have hput : put p t = if (token t p.todo p.depth).1 ≠ 0 then ([], (token t p.todo p.depth).1, { p with todo := (token t p.todo p.depth).2.todo, wrong := (token t p.todo p.depth).1 }) else ((token t p.todo p.depth).2.evs.map evOf ++ [leafE t], 0, { p with todo := (token t p.todo p.depth).2.todo, depth := (token t p.todo p.depth).2.depth, begun := true }) := by
   unfold put
   simp only [hP.closed, Bool.false_eq_true, if_false, hP.wrong, ne_eq, not_true_eq_false, hn', hpre, hpreE, List.nil_append]
  have htk : (token t p.todo p.depth).1 = 0 := by
   by_cases h : (token t p.todo p.depth).1 = 0
   ·exact h
   ·rw [hput, if_pos h] at he; exact absurd he h
  rw [if_neg (by rw [htk]; decide)] at hput
  obtain ⟨cl, o2, X, a1, a2, a3, a4, a5, -⟩ := token_law t p.todo p.depth
  obtain ⟨a6, a7⟩ := a5 htk
  have hkd := token_kind t p.todo p.depth
  rw [a1] at hkd
  have hfin := hP.fins
  rw [if_pos hb, a4] at hfin
  have hf1 := h1.fins
  rw [if_pos h2, hput] at hf1
  dsimp only at hf1
  rw [a6] at hf1
  obtain ⟨r, hr⟩ := h1.last h2
  have hX : X ≠ [] := by
   rintro rfl
   rw [List.append_nil] at hf1
   have h9 : (1 : Nat) ∈ o2.reverse := by rw [hf1, hr]; simp
   exact a3 1 (List.mem_reverse.1 h9) rfl
  rw [← hfin] at hS
  obtain ⟨S1, g1, g2⟩ := run_closes cl X S hS hX
  have hmost := h1.most
  rw [← hf1, List.length_append, List.length_reverse] at hmost
  obtain ⟨S2, g3, g4, g5⟩ := run_opens o2 X S1 g1.kinds g1.good (by omega) (fun k hk => hkd (1, k) (List.mem_append.2 (.inr (List.mem_map.2 ⟨k, hk, rfl⟩))) rfl)
  rw [hf1] at g3
  obtain ⟨S3, g6, g7, g8⟩ := leaf_st g3 g4 (by rw [hr]; simp) (t := t) (e := leafE t) (by rw [if_neg hn])
  refine ⟨op1, S3, h1, h2, g6, g7, fun rest => ?_⟩
  rw [hput]
  dsimp only
  rw [a1, List.map_append, List.append_assoc, List.append_assoc, g2, g5]
  exact g8 rest
theorem all_tree : ∀ (l : List Tk) (p : Par) (op : List Nat) (S : List Tr.Nd), PInv p op → p.begun = true → St S op → ((∀ t S', S = t :: S' → t.f2 ≠ []) ∨ p.todo.length ≠ 1) → (allP p l).2.1 = 0 → ∃ X, Tr.runB (allP p l).1 S = some X ∧ fullT X
 | [], p, op, S, hP, hb, hS, h0, he => by
  simp only [allP, closeP, hP.closed, hP.wrong] at he ⊢
  rw [if_neg (by decide), if_neg (by decide)] at he ⊢
  by_cases hl : p.todo.length ≠ 1
  ·rw [if_pos hl] at he; cases he
  ·rw [if_neg hl] at he ⊢
   have hl1 : p.todo.length = 1 := by omega
   obtain ⟨T, hT⟩ := hP.lastf
   have hT0 : T = [] := by
    rw [hT, List.length_append, List.length_singleton] at hl1
    exact List.eq_nil_of_length_eq_zero (by omega)
   subst hT0
   have hop : op = [1] := by
    have := hP.fins
    rw [if_pos hb, hT] at this
    exact this.symm
   subst hop
   obtain ⟨hk, hg, -⟩ := hS
   match S, hk, hg, h0 with
   | [], hk, _, _ => simp [cst] at hk
   | [t], hk, hg, h0 =>
    simp [cst] at hk
    have gt := hg t List.mem_cons_self
    refine ⟨t, ?_, ?_⟩
    ·unfold Tr.runB
     simp [evOf, hk]
    ·rw [full_eq, if_neg gt.2.1]
     refine ⟨?_, gt.1, (fullL_iff _).2 gt.2.2⟩
     rcases h0 with h | h
     ·exact h t [] rfl
     ·exact absurd hl1 h
   | t :: u :: S', hk, _, _ => simp [cst] at hk
 | t :: r, p, op, S, hP, hb, hS, h0, he => by
  by_cases hp : (put p t).2.1 = 0
  ·rw [all_cons_ok hp] at he ⊢
   obtain ⟨op1, S1, h1, h2, h3, h4, h5⟩ := put_run hP hb hS hp
   obtain ⟨X, g1, g2⟩ := all_tree r (put p t).2.2 op1 S1 h1 h2 h3 (.inl h4) he
   exact ⟨X, by dsimp only; rw [h5]; exact g1, g2⟩
  ·rw [all_cons_bad hp] at he; exact absurd he hp
theorem prog_tree (l : List Tk) (he : (allP newPar l).2.1 = 0) : ∃ X, Tr.runB (allP newPar l).1 [] = some X ∧ fullT X := by
 obtain ⟨h1, h2, h3⟩ := start_all l
 have hk := all_skip (p := notedPar) rfl rfl rfl (nAt l 0) (l.drop (nAt l 0).length) (fun t ht => nAt_all t ht)
 have he2 : (allP notedPar (nAt l 0 ++ l.drop (nAt l 0).length)).2.1 = 0 := by rw [hk]; exact h1 ▸ he
 obtain ⟨X, g1, g2⟩ := all_tree (nAt l 0 ++ l.drop (nAt l 0).length) notedPar [1] [⟨1, Tr.noTk, []⟩] noted_inv rfl ⟨rfl, fun t ht => by
  rw [List.mem_singleton.1 ht]
  exact ⟨rfl, by decide, fun y hy => by cases hy⟩, fun t S' h => by cases h; exact .inr rfl⟩ (.inr (by decide)) he2
 refine ⟨X, ?_, g2⟩
 rw [h3 he]
 rw [hk] at g1
 rw [← g1]
 conv => lhs; unfold Tr.runB
 simp [evOf]
end Go.Proofs.YtmjbpgnjgblnmaaGreat
