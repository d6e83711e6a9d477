/- A call on three rings at once. -/
import Derived.Test.YtbopnglncjdnmaaUni
set_option linter.unusedSimpArgs false
set_option linter.unusedVariables false
namespace Go.Proofs.Ytbopnglncjdnmaa
open Go.RowKit

/-- Three rings side by side, since w0: the blocks P0, and what was laid since. F: blocks of others. -/
structure Rel (w0 : World) (P0 F : Nat → Prop) (w : World) (r t q : Value) (m : Option Nat) (lr lt lq : List Int) : Prop where
  ex : ∃ S1 S2 S3, OB RingAt w S1 r m lr ∧ OB ThingAt w S2 t m lt ∧ OB QAt w S3 q m lq ∧ (∀ k, S1 k → ¬ S2 k ∧ ¬ S3 k) ∧ (∀ k, S2 k → ¬ S3 k) ∧ (∀ k, S1 k ∨ S2 k ∨ S3 k → (P0 k ∨ w0.heap.size ≤ k) ∧ ¬ F k)
  side : Side P0 w0 w
  far : ∀ k, F k → k < w.heap.size

theorem Rel.drewN {w0 : World} {P0 F : Nat → Prop} {w : World} {r t q : Value} {m : Option Nat} {lr lt lq : List Int} (h : Rel w0 P0 F w r t q m lr lt lq) (n : Nat) : Rel w0 P0 F (w.drewN n) r t q m lr lt lq := by
  obtain ⟨⟨S1, S2, S3, h1, h2, h3, h4, h5, h6⟩, h7, h8⟩ := h
  have s : Side (fun _ => False) w (w.drewN n) := (Side.refl _ w).drewN n
  exact ⟨⟨S1, S2, S3, h1.keep ringKeep s (fun _ _ h => h), h2.keep thingKeep s (fun _ _ h => h), h3.keep qKeep s (fun _ _ h => h), h4, h5, h6⟩, h7.drewN n, h8⟩
/-- A variable of the call's own. -/
theorem Rel.alloc {w0 : World} {P0 F : Nat → Prop} {w : World} {r t q : Value} {m : Option Nat} {lr lt lq : List Int} (h : Rel w0 P0 F w r t q m lr lt lq) (o : Obj) : Rel w0 P0 (fun k => F k ∨ k = w.heap.size) (w.alloc o) r t q m lr lt lq := by
  obtain ⟨⟨S1, S2, S3, h1, h2, h3, h4, h5, h6⟩, h7, h8⟩ := h
  have s : Side (fun _ => False) w (w.alloc o) := (Side.refl _ w).alloc o
  refine ⟨⟨S1, S2, S3, h1.keep ringKeep s (fun _ _ h => h), h2.keep thingKeep s (fun _ _ h => h), h3.keep qKeep s (fun _ _ h => h), h4, h5, fun k hk => ⟨(h6 k hk).1, fun hf => ?_⟩⟩, h7.alloc o, fun k hk => ?_⟩
  · rcases hf with hf | hf
    · exact (h6 k hk).2 hf
    · have : k < w.heap.size := by
        rcases hk with hk | hk | hk
        · exact h1.lt k hk
        · exact h2.lt k hk
        · exact h3.lt k hk
      omega
  · rcases hk with hk | hk
    · have := h8 k hk
      simp; omega
    · simp; omega
/-- .. is written. -/
theorem Rel.setCell {w0 : World} {P0 F : Nat → Prop} {w : World} {r t q : Value} {m : Option Nat} {lr lt lq : List Int} (h : Rel w0 P0 F w r t q m lr lt lq) {g o : Nat} {v : Value} (hg : F g) (hw : w0.heap.size ≤ g) : Rel w0 P0 F (w.setCell ⟨g, o, none⟩ v) r t q m lr lt lq := by
  obtain ⟨⟨S1, S2, S3, h1, h2, h3, h4, h5, h6⟩, h7, h8⟩ := h
  have s : Side (fun k => k = g) w (w.setCell ⟨g, o, none⟩ v) := (Side.refl (fun k => k = g) w).setCell (x := ⟨g, o, none⟩) rfl v
  exact ⟨⟨S1, S2, S3, h1.keep ringKeep s (fun k hk e => (h6 k (Or.inl hk)).2 (e ▸ hg)), h2.keep thingKeep s (fun k hk e => (h6 k (Or.inr (Or.inl hk))).2 (e ▸ hg)), h3.keep qKeep s (fun k hk e => (h6 k (Or.inr (Or.inr hk))).2 (e ▸ hg)), h4, h5, h6⟩, h7.setNew hw v, fun k hk => by simpa [World.setCell] using h8 k hk⟩
/-- What the steps hand on: the relation, and the others' blocks as they were. -/
def Kept (F : Nat → Prop) (w w' : World) : Prop := ∀ k, F k → w'.heap[k]? = w.heap[k]?
theorem rel_r {w0 : World} {P0 F : Nat → Prop} {w : World} {r t q : Value} {m : Option Nat} {lr lt lq lr' : List Int} {f : FuncId} {args : Array Value} {R : Value} (h : Rel w0 P0 F w r t q m lr lt lq)
    (hc : ∀ S, OB RingAt w S r m lr → Calls Try.prog f args w fun e w' => e = .returned R ∧ After RingAt w w' S r m lr') :
    Calls Try.prog f args w fun e w' => e = .returned R ∧ Rel w0 P0 F w' r t q m lr' lt lq ∧ Kept F w w' := by
  obtain ⟨⟨S1, S2, S3, h1, h2, h3, h4, h5, h6⟩, h7, h8⟩ := h
  refine (hc S1 h1).mono fun e w' ⟨he, S', a1, a2, a3⟩ => ⟨he, ⟨⟨S', S2, S3, a2, h2.keep thingKeep a3 (fun k hk hs => (h4 k hs).1 hk), h3.keep qKeep a3 (fun k hk hs => (h4 k hs).2 hk), fun k hk => ?_, h5, fun k hk => ?_⟩, ?_, fun k hk => Nat.lt_of_lt_of_le (h8 k hk) a3.size⟩, fun k hk => a3.block k (h8 k hk) (fun hs => (h6 k (Or.inl hs)).2 hk)⟩
  · rcases a1 k hk with h | h
    · exact h4 k h
    · exact ⟨fun hs => by have := h2.lt k hs; omega, fun hs => by have := h3.lt k hs; omega⟩
  · rcases hk with hk | hk
    · rcases a1 k hk with h | h
      · exact h6 k (Or.inl h)
      · exact ⟨Or.inr (Nat.le_trans h7.size h), fun hf => by have := h8 k hf; omega⟩
    · exact h6 k (Or.inr hk)
  · exact ⟨a3.os.trans h7.os, a3.tape.trans h7.tape, a3.output.trans h7.output, Nat.le_trans h7.size a3.size, fun k hk hp => (a3.block k (Nat.lt_of_lt_of_le hk h7.size) (fun hs => by rcases (h6 k (Or.inl hs)).1 with h | h; exact hp h; omega)).trans (h7.block k hk hp)⟩
theorem rel_t {w0 : World} {P0 F : Nat → Prop} {w : World} {r t q : Value} {m : Option Nat} {lr lt lq lt' : List Int} {f : FuncId} {args : Array Value} {R : Value} (h : Rel w0 P0 F w r t q m lr lt lq)
    (hc : ∀ S, OB ThingAt w S t m lt → Calls Try.prog f args w fun e w' => e = .returned R ∧ After ThingAt w w' S t m lt') :
    Calls Try.prog f args w fun e w' => e = .returned R ∧ Rel w0 P0 F w' r t q m lr lt' lq ∧ Kept F w w' := by
  obtain ⟨⟨S1, S2, S3, h1, h2, h3, h4, h5, h6⟩, h7, h8⟩ := h
  refine (hc S2 h2).mono fun e w' ⟨he, S', a1, a2, a3⟩ => ⟨he, ⟨⟨S1, S', S3, h1.keep ringKeep a3 (fun k hk hs => (h4 k hk).1 hs), a2, h3.keep qKeep a3 (fun k hk hs => h5 k hs hk), fun k hk => ⟨fun hs => ?_, (h4 k hk).2⟩, fun k hk => ?_, fun k hk => ?_⟩, ?_, fun k hk => Nat.lt_of_lt_of_le (h8 k hk) a3.size⟩, fun k hk => a3.block k (h8 k hk) (fun hs => (h6 k (Or.inr (Or.inl hs))).2 hk)⟩
  · rcases a1 k hs with h | h
    · exact (h4 k hk).1 h
    · have := h1.lt k hk; omega
  · rcases a1 k hk with h | h
    · exact h5 k h
    · exact fun hs => by have := h3.lt k hs; omega
  · rcases hk with hk | hk | hk
    · exact h6 k (Or.inl hk)
    · rcases a1 k hk with h | h
      · exact h6 k (Or.inr (Or.inl h))
      · exact ⟨Or.inr (Nat.le_trans h7.size h), fun hf => by have := h8 k hf; omega⟩
    · exact h6 k (Or.inr (Or.inr hk))
  · exact ⟨a3.os.trans h7.os, a3.tape.trans h7.tape, a3.output.trans h7.output, Nat.le_trans h7.size a3.size, fun k hk hp => (a3.block k (Nat.lt_of_lt_of_le hk h7.size) (fun hs => by rcases (h6 k (Or.inr (Or.inl hs))).1 with h | h; exact hp h; omega)).trans (h7.block k hk hp)⟩
theorem rel_q {w0 : World} {P0 F : Nat → Prop} {w : World} {r t q : Value} {m : Option Nat} {lr lt lq lq' : List Int} {f : FuncId} {args : Array Value} {R : Value} (h : Rel w0 P0 F w r t q m lr lt lq)
    (hc : ∀ S, OB QAt w S q m lq → Calls Try.prog f args w fun e w' => e = .returned R ∧ After QAt w w' S q m lq') :
    Calls Try.prog f args w fun e w' => e = .returned R ∧ Rel w0 P0 F w' r t q m lr lt lq' ∧ Kept F w w' := by
  obtain ⟨⟨S1, S2, S3, h1, h2, h3, h4, h5, h6⟩, h7, h8⟩ := h
  refine (hc S3 h3).mono fun e w' ⟨he, S', a1, a2, a3⟩ => ⟨he, ⟨⟨S1, S2, S', h1.keep ringKeep a3 (fun k hk hs => (h4 k hk).2 hs), h2.keep thingKeep a3 (fun k hk hs => h5 k hk hs), a2, fun k hk => ⟨(h4 k hk).1, fun hs => ?_⟩, fun k hk hs => ?_, fun k hk => ?_⟩, ?_, fun k hk => Nat.lt_of_lt_of_le (h8 k hk) a3.size⟩, fun k hk => a3.block k (h8 k hk) (fun hs => (h6 k (Or.inr (Or.inr hs))).2 hk)⟩
  · rcases a1 k hs with h | h
    · exact (h4 k hk).2 h
    · have := h1.lt k hk; omega
  · rcases a1 k hs with h | h
    · exact h5 k hk h
    · have := h2.lt k hk; omega
  · rcases hk with hk | hk | hk
    · exact h6 k (Or.inl hk)
    · exact h6 k (Or.inr (Or.inl hk))
    · rcases a1 k hk with h | h
      · exact h6 k (Or.inr (Or.inr h))
      · exact ⟨Or.inr (Nat.le_trans h7.size h), fun hf => by have := h8 k hf; omega⟩
  · exact ⟨a3.os.trans h7.os, a3.tape.trans h7.tape, a3.output.trans h7.output, Nat.le_trans h7.size a3.size, fun k hk hp => (a3.block k (Nat.lt_of_lt_of_le hk h7.size) (fun hs => by rcases (h6 k (Or.inr (Or.inr hs))).1 with h | h; exact hp h; omega)).trans (h7.block k hk hp)⟩
theorem Rel.forget {w0 : World} {P0 F F' : Nat → Prop} {w : World} {r t q : Value} {m : Option Nat} {lr lt lq : List Int} (h : Rel w0 P0 F w r t q m lr lt lq) (hF : ∀ k, F' k → F k) : Rel w0 P0 F' w r t q m lr lt lq := by
  obtain ⟨⟨S1, S2, S3, h1, h2, h3, h4, h5, h6⟩, h7, h8⟩ := h
  exact ⟨⟨S1, S2, S3, h1, h2, h3, h4, h5, fun k hk => ⟨(h6 k hk).1, fun hf => (h6 k hk).2 (hF k hf)⟩⟩, h7, fun k hk => h8 k (hF k hk)⟩
end Go.Proofs.Ytbopnglncjdnmaa
