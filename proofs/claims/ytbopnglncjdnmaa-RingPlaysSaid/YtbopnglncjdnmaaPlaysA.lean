/- RingPlays: the walk. -/
import Derived.Test.YtbopnglncjdnmaaTwo
set_option linter.unusedSimpArgs false
set_option linter.unusedVariables false
namespace Go.Proofs.Ytbopnglncjdnmaa
open Go.RowKit

/-- What a call of New has made. -/
def New (At : World → Nat → Nat → Nat → List Int → Prop) (w w' : World) (r : Value) (m : Option Nat) : Prop :=
  ∃ S, OB At w' S r m [] ∧ (∀ k, S k → w.heap.size ≤ k) ∧ Side (fun _ => False) w w'
def modeOf (room : Int) : Option Nat := if 1 ≤ room ∧ room ≤ 2097152 then some room.toNat else none
theorem New.ok {At : World → Nat → Nat → Nat → List Int → Prop} {w w' : World} {k : Nat} (h2 : k ≤ 2097152) (hs : Side (fun _ => False) w w') (hlt : w.heap.size < w'.heap.size) (h : At w' w.heap.size w.heap.size k []) : New At w w' (.pointer (some ⟨w.heap.size, 0, none⟩)) (some k) :=
  ⟨fun j => j = w.heap.size ∨ j = w.heap.size, ⟨_, _, rfl, fun _ => Iff.rfl, h, hlt, hlt, Nat.zero_le _, h2⟩, fun j hj => by rcases hj with rfl | rfl <;> exact Nat.le_refl _, hs⟩
theorem New.bad {At : World → Nat → Nat → Nat → List Int → Prop} (w : World) : New At w w (.pointer none) none :=
  ⟨fun _ => False, ⟨rfl, rfl, fun _ h => h⟩, fun _ h => h.elim, Side.refl _ _⟩
theorem two_new {W w1 w2 w3 w4 w5 w6 : World} {q r t p s u : Value} {m m2 : Option Nat} (h1 : New QAt W w1 q m) (h2 : New RingAt w1 w2 r m) (h3 : New ThingAt w2 w3 t m) (h4 : New QAt w3 w4 p m2) (h5 : New RingAt w4 w5 s m2) (h6 : New ThingAt w5 w6 u m2) :
    Two W w6 r t q m [] s u p m2 [] := by
  obtain ⟨S1, a1, b1, c1⟩ := h1
  obtain ⟨S2, a2, b2, c2⟩ := h2
  obtain ⟨S3, a3, b3, c3⟩ := h3
  obtain ⟨S4, a4, b4, c4⟩ := h4
  obtain ⟨S5, a5, b5, c5⟩ := h5
  obtain ⟨S6, a6, b6, c6⟩ := h6
  have z1 := c1.size
  have z2 := c2.size
  have z3 := c3.size
  have z4 := c4.size
  have z5 := c5.size
  have z6 := c6.size
  have no : ∀ (S : Nat → Prop) k, S k → ¬ (fun _ => False : Nat → Prop) k := fun _ _ _ h => h
  have l1 := a1.lt
  have l2 := a2.lt
  have l3 := a3.lt
  have l4 := a4.lt
  have l5 := a5.lt
  have l6 := a6.lt
  have d26 := (((c3.trans c4).trans c5).trans c6)
  have d36 := ((c4.trans c5).trans c6)
  have q1 := a1.keep qKeep (c2.trans d26) (no S1)
  have q2 := a2.keep ringKeep d26 (no S2)
  have q3 := a3.keep thingKeep d36 (no S3)
  have q4 := a4.keep qKeep (c5.trans c6) (no S4)
  have q5 := a5.keep ringKeep c6 (no S5)
  refine ⟨fun k => S2 k ∨ S3 k ∨ S1 k, fun k => S5 k ∨ S6 k ∨ S4 k, ⟨⟨S2, S3, S1, q2, q3, q1, fun k hk => ⟨fun h => ?_, fun h => ?_⟩, fun k hk h => ?_, fun k hk => ⟨Or.inl hk, fun h => h⟩⟩, Side.refl _ _, fun k hk => hk.elim⟩, ⟨⟨S5, S6, S4, q5, a6, q4, fun k hk => ⟨fun h => ?_, fun h => ?_⟩, fun k hk h => ?_, fun k hk => ⟨Or.inl hk, fun h => h⟩⟩, Side.refl _ _, fun k hk => hk.elim⟩, fun k hk h => ?_, fun k hk => ?_, fun k hk => ?_, ?_⟩
  · have := l2 k hk; have := b3 k h; omega
  · have := b2 k hk; have := l1 k h; omega
  · have := b3 k hk; have := l1 k h; omega
  · have := l5 k hk; have := b6 k h; omega
  · have := b5 k hk; have := l4 k h; omega
  · have := b6 k hk; have := l4 k h; omega
  · have e1 : k < w3.heap.size := by
      rcases hk with hk | hk | hk
      · have := l2 k hk; omega
      · exact l3 k hk
      · have := l1 k hk; omega
    rcases h with h | h | h
    · have := b5 k h; omega
    · have := b6 k h; omega
    · have := b4 k h; omega
  · rcases hk with hk | hk | hk
    · have := l2 k hk; have := b2 k hk; omega
    · have := l3 k hk; have := b3 k hk; omega
    · have := l1 k hk; have := b1 k hk; omega
  · rcases hk with hk | hk | hk
    · have := l5 k hk; have := b5 k hk; omega
    · have := l6 k hk; have := b6 k hk; omega
    · have := l4 k hk; have := b4 k hk; omega
  · exact (((((c1.trans c2).trans c3).trans c4).trans c5).trans c6).below (fun k hk => hk.elim) (Nat.le_refl _)
theorem new_q (k : Nat) (w : World) (h1 : 1 ≤ k) (h2 : k ≤ 2097152) : Calls Try.prog 24 #[.int .i64 k] w fun e w' => e = .returned (.tuple #[.pointer (some ⟨w.heap.size, 0, none⟩), .int .i64 0]) ∧ New QAt w w' (.pointer (some ⟨w.heap.size, 0, none⟩)) (some k) :=
  (qnew_run k w h1 h2).mono fun e w' ⟨he, hs, h⟩ => ⟨he, New.ok h2 hs (by obtain ⟨A, cap, hb, _⟩ := h.at_; exact hb.lt) h⟩
theorem new_r (k : Nat) (w : World) (h1 : 1 ≤ k) (h2 : k ≤ 2097152) : Calls Try.prog 10 #[.int .i64 k] w fun e w' => e = .returned (.tuple #[.pointer (some ⟨w.heap.size, 0, none⟩), .int .i64 0]) ∧ New RingAt w w' (.pointer (some ⟨w.heap.size, 0, none⟩)) (some k) :=
  (new_run k w h1 h2).mono fun e w' ⟨he, hs, h⟩ => ⟨he, New.ok h2 hs (by obtain ⟨f, n, cs, h⟩ := h; exact heap_lt h.own.choose_spec) h⟩
theorem new_t (k : Nat) (w : World) (h1 : 1 ≤ k) (h2 : k ≤ 2097152) : Calls Try.prog 25 #[.int .i64 k] w fun e w' => e = .returned (.tuple #[.pointer (some ⟨w.heap.size, 0, none⟩), .int .i64 0]) ∧ New ThingAt w w' (.pointer (some ⟨w.heap.size, 0, none⟩)) (some k) :=
  (tnew_run k w h1 h2).mono fun e w' ⟨he, hs, h⟩ => ⟨he, New.ok h2 hs (by obtain ⟨f, n, cs, h⟩ := h; exact h.rb.lt) h⟩

theorem qnew_bad_s (room : Int) (w : World) (h1 : room < 1 ∨ 2097152 < room) :
    Calls Try.prog 24 #[.int .i64 room] w fun e w' => e = .returned (.tuple #[.pointer none, .int .i64 1]) ∧ w = w' :=
  (qnew_bad room w h1).mono fun e w' ⟨he, hw⟩ => ⟨he, hw.symm⟩
theorem new_bad_s (room : Int) (w : World) (h1 : room < 1 ∨ 2097152 < room) :
    Calls Try.prog 10 #[.int .i64 room] w fun e w' => e = .returned (.tuple #[.pointer none, .int .i64 1]) ∧ w = w' :=
  (new_bad room w h1).mono fun e w' ⟨he, hw⟩ => ⟨he, hw.symm⟩
theorem tnew_bad_s (room : Int) (w : World) (h1 : room < 1 ∨ 2097152 < room) :
    Calls Try.prog 25 #[.int .i64 room] w fun e w' => e = .returned (.tuple #[.pointer none, .int .i64 1]) ∧ w = w' :=
  (tnew_bad room w h1).mono fun e w' ⟨he, hw⟩ => ⟨he, hw.symm⟩
theorem adb (a : Addr) (i : Nat) : (a.add i).block = a.block := by unfold Addr.add; split <;> rfl
/-- The script, as it lies among the arguments. -/
def ScriptAt (W : World) (A : Option Addr) (n : Nat) : Prop :=
  ∀ i, i < n → ∃ (ad : Addr) (kind : Int) (b : Bool) (ii x : Int), A = some ad ∧ ad.block < W.heap.size ∧ W.cell? (ad.add (i * 4)) = some (.int .i64 kind) ∧ W.cell? ⟨(ad.add (i * 4)).block, (ad.add (i * 4)).off + 1, none⟩ = some (.bool b) ∧ W.cell? ⟨(ad.add (i * 4)).block, (ad.add (i * 4)).off + 2, none⟩ = some (.int .i64 ii) ∧ W.cell? ⟨(ad.add (i * 4)).block, (ad.add (i * 4)).off + 3, none⟩ = some (.int .i64 x) ∧ Num x

theorem actL_at (m : Option Nat) (l : List Int) (i x : Int) : actL m l 4 i x = l := by
  unfold actL; rw [if_neg (by decide), if_neg (by decide), if_neg (by decide), if_neg (by decide)]
theorem actL_len (m : Option Nat) (l : List Int) (i x : Int) : actL m l 6 i x = l := by
  unfold actL; rw [if_neg (by decide), if_neg (by decide), if_neg (by decide), if_neg (by decide)]
theorem two_small {W w : World} {r t q : Value} {m : Option Nat} {l : List Int} {s u p : Value} {m2 : Option Nat} {l2 : List Int} (h : Two W w r t q m l s u p m2 l2) : l.length ≤ 2097152 := by
  obtain ⟨PA, PB, ⟨⟨S1, S2, S3, h1, _⟩, _⟩, _⟩ := h
  cases m with
  | none => rw [h1.2.1]; exact Nat.zero_le _
  | some most =>
    obtain ⟨b, c, _, _, _, _, _, h6, h7⟩ := h1
    omega
end Go.Proofs.Ytbopnglncjdnmaa
