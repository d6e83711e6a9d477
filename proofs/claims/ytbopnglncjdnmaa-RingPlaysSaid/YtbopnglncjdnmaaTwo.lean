/- Two rings of each kind, side by side. -/
import Derived.Test.YtbopnglncjdnmaaOneB
import Derived.Test.YtbopnglncjdnmaaOneC
import Derived.Test.YtbopnglncjdnmaaOneD
set_option linter.unusedSimpArgs false
set_option linter.unusedVariables false
namespace Go.Proofs.Ytbopnglncjdnmaa
open Go.RowKit

def Num (x : Int) : Prop := -9223372036854775808 ≤ x ∧ x ≤ 9223372036854775807
def Nums (l : List Int) : Prop := ∀ x, x ∈ l → Num x
theorem num_zero : Num 0 := ⟨by omega, by omega⟩
theorem nums_head {l : List Int} (h : Nums l) : Num (l.headD 0) := by
  cases l with
  | nil => exact num_zero
  | cons x t => exact h x (List.mem_cons_self ..)
theorem nums_last {l : List Int} (h : Nums l) : Num (l.getLastD 0) := by
  by_cases hl : l = []
  · subst hl; exact num_zero
  · rw [List.getLastD_eq_getLast?, List.getLast?_eq_some_getLast hl]
    exact h _ (List.getLast_mem hl)
theorem nums_at {l : List Int} (h : Nums l) (i : Int) : Num (atV l i) := by
  unfold atV
  split
  · rename_i hi
    obtain ⟨k, rfl, hk⟩ := inB_true hi
    rw [Int.toNat_natCast, List.getD_eq_getElem?_getD, List.getElem?_eq_getElem hk]
    exact h _ (List.getElem_mem hk)
  · exact num_zero
theorem nums_act {m : Option Nat} {l : List Int} (h : Nums l) (kind i x : Int) (hx : Num x) : Nums (actL m l kind i x) := by
  unfold actL
  split
  · unfold pushL
    split
    · exact h
    · split
      · exact h
      · intro y hy
        rcases List.mem_append.1 hy with hy | hy
        · exact h y hy
        · rw [List.mem_singleton] at hy; rw [hy]; exact hx
  · split
    · exact fun y hy => h y (List.mem_of_mem_tail hy)
    · split
      · exact fun y hy => h y (by rw [List.dropLast_eq_take] at hy; exact List.mem_of_mem_take hy)
      · split
        · unfold setL
          split
          · intro y hy
            rcases List.mem_or_eq_of_mem_set hy with hy | rfl
            · exact h y hy
            · exact hx
          · exact h
        · exact h

theorem one_any {P : Nat → Prop} {w : World} {r t q : Value} {m : Option Nat} {l : List Int} (kind : Int) (b : Bool) (i x : Int) (h : Rel w P NoF w r t q m l l l) (hx : Num x) (hl : Nums l) :
    Calls Try.prog 26 #[r, t, q, .agg #[.int .i64 kind, .bool b, .int .i64 i, .int .i64 x]] w fun e w' => e = .returned (.bool true) ∧ Rel w P NoF w' r t q m (actL m l kind i x) (actL m l kind i x) (actL m l kind i x) := by
  by_cases h1 : kind = 1
  · subst h1
    exact one_push b i x h hx.1 hx.2
  by_cases h2 : kind = 2
  · subst h2
    exact one_front b i x h (nums_head hl).1 (nums_head hl).2
  by_cases h3 : kind = 3
  · subst h3
    exact one_back b i x h (nums_last hl).1 (nums_last hl).2
  by_cases h4 : kind = 4
  · subst h4
    exact one_at b i x h (nums_at hl i).1 (nums_at hl i).2
  by_cases h5 : kind = 5
  · subst h5
    exact one_set b i x h hx.1 hx.2
  have e : actL m l kind i x = l := by unfold actL; rw [if_neg h1, if_neg h2, if_neg h3, if_neg h5]
  rw [e]
  by_cases h6 : kind = 6
  · subst h6
    exact one_len b i x h
  by_cases h7 : kind = 7
  · subst h7
    exact one_room b i x h
  exact one_none kind b i x ⟨h1, h2, h3, h4, h5, h6, h7⟩ h

theorem Rel.keep {w0 w1 w2 : World} {P P2 : Nat → Prop} {r t q : Value} {m : Option Nat} {l : List Int} (h : Rel w0 P NoF w0 r t q m l l l) (hs : Side P2 w0 w1) (hd : ∀ k, P k → ¬ P2 k) (hP : ∀ k, P k → k < w0.heap.size) :
    Rel w1 P NoF w1 r t q m l l l := by
  obtain ⟨⟨S1, S2, S3, h1, h2, h3, h4, h5, h6⟩, h7, h8⟩ := h
  have hin : ∀ k, S1 k ∨ S2 k ∨ S3 k → P k := fun k hk => by
    rcases (h6 k hk).1 with hp | hp
    · exact hp
    · rcases hk with hk | hk | hk
      · have := h1.lt k hk; omega
      · have := h2.lt k hk; omega
      · have := h3.lt k hk; omega
  exact ⟨⟨S1, S2, S3, h1.keep ringKeep hs (fun k hk => hd k (hin k (Or.inl hk))), h2.keep thingKeep hs (fun k hk => hd k (hin k (Or.inr (Or.inl hk)))), h3.keep qKeep hs (fun k hk => hd k (hin k (Or.inr (Or.inr hk)))), h4, h5, fun k hk => ⟨Or.inl (hin k hk), fun h => h⟩⟩, Side.refl _ _, fun k hk => hk.elim⟩
/-- The relation from here on: what it lies in now. -/
theorem Rel.rebase {w0 w : World} {P : Nat → Prop} {r t q : Value} {m : Option Nat} {l : List Int} (h : Rel w0 P NoF w r t q m l l l) : ∃ P', Rel w P' NoF w r t q m l l l ∧ (∀ k, P' k → P k ∨ w0.heap.size ≤ k) ∧ ∀ k, P' k → k < w.heap.size := by
  obtain ⟨⟨S1, S2, S3, h1, h2, h3, h4, h5, h6⟩, h7, h8⟩ := h
  refine ⟨fun k => S1 k ∨ S2 k ∨ S3 k, ⟨⟨S1, S2, S3, h1, h2, h3, h4, h5, fun k hk => ⟨Or.inl hk, fun h => h⟩⟩, Side.refl _ _, fun k hk => hk.elim⟩, fun k hk => (h6 k hk).1, fun k hk => ?_⟩
  rcases hk with hk | hk | hk
  · exact h1.lt k hk
  · exact h2.lt k hk
  · exact h3.lt k hk

/-- Two lots of three rings, all of them the call's own. -/
def Two (W w : World) (r t q : Value) (m : Option Nat) (l : List Int) (s u p : Value) (m2 : Option Nat) (l2 : List Int) : Prop :=
  ∃ PA PB, Rel w PA NoF w r t q m l l l ∧ Rel w PB NoF w s u p m2 l2 l2 l2 ∧ (∀ k, PA k → ¬ PB k) ∧ (∀ k, PA k → k < w.heap.size ∧ W.heap.size ≤ k) ∧ (∀ k, PB k → k < w.heap.size ∧ W.heap.size ≤ k) ∧ Below W.heap.size W w
theorem Two.swap {W w : World} {r t q : Value} {m : Option Nat} {l : List Int} {s u p : Value} {m2 : Option Nat} {l2 : List Int} (h : Two W w r t q m l s u p m2 l2) : Two W w s u p m2 l2 r t q m l := by
  obtain ⟨PA, PB, h1, h2, h3, h4, h5, h6⟩ := h
  exact ⟨PB, PA, h2, h1, fun k hb ha => h3 k ha hb, h5, h4, h6⟩
theorem Two.quiet {W w w' : World} {r t q : Value} {m : Option Nat} {l : List Int} {s u p : Value} {m2 : Option Nat} {l2 : List Int} (h : Two W w r t q m l s u p m2 l2) (hs : Side (fun _ => False) w w') : Two W w' r t q m l s u p m2 l2 := by
  obtain ⟨PA, PB, h1, h2, h3, h4, h5, h6⟩ := h
  exact ⟨PA, PB, h1.keep (w2 := w') hs (fun _ _ h => h) (fun k hk => (h4 k hk).1), h2.keep (w2 := w') hs (fun _ _ h => h) (fun k hk => (h5 k hk).1), h3, fun k hk => ⟨Nat.lt_of_lt_of_le (h4 k hk).1 hs.size, (h4 k hk).2⟩, fun k hk => ⟨Nat.lt_of_lt_of_le (h5 k hk).1 hs.size, (h5 k hk).2⟩, h6.trans (hs.below (fun k hk => hk.elim) h6.size)⟩
theorem two_A {W w : World} {r t q : Value} {m : Option Nat} {l : List Int} {s u p : Value} {m2 : Option Nat} {l2 : List Int} (kind : Int) (b : Bool) (i x : Int) (h : Two W w r t q m l s u p m2 l2) (hx : Num x) (hl : Nums l) :
    Calls Try.prog 26 #[r, t, q, .agg #[.int .i64 kind, .bool b, .int .i64 i, .int .i64 x]] w fun e w' => e = .returned (.bool true) ∧ Two W w' r t q m (actL m l kind i x) s u p m2 l2 := by
  obtain ⟨PA, PB, h1, h2, h3, h4, h5, h6⟩ := h
  refine (one_any kind b i x h1 hx hl).mono fun e w' ⟨he, hr⟩ => ⟨he, ?_⟩
  have hs := hr.side
  obtain ⟨P', a1, a2, a3⟩ := hr.rebase
  refine ⟨P', PB, a1, h2.keep (w2 := w') hs (fun k hb ha => h3 k ha hb) (fun k hk => (h5 k hk).1), fun k hk hb => ?_, fun k hk => ⟨a3 k hk, ?_⟩, fun k hk => ⟨Nat.lt_of_lt_of_le (h5 k hk).1 hs.size, (h5 k hk).2⟩, h6.trans (hs.below (fun k hk => (h4 k hk).2) h6.size)⟩
  · rcases a2 k hk with ha | ha
    · exact h3 k ha hb
    · have := (h5 k hb).1; omega
  · rcases a2 k hk with ha | ha
    · exact (h4 k ha).2
    · exact Nat.le_trans h6.size ha
theorem two_B {W w : World} {r t q : Value} {m : Option Nat} {l : List Int} {s u p : Value} {m2 : Option Nat} {l2 : List Int} (kind : Int) (b : Bool) (i x : Int) (h : Two W w r t q m l s u p m2 l2) (hx : Num x) (hl : Nums l2) :
    Calls Try.prog 26 #[s, u, p, .agg #[.int .i64 kind, .bool b, .int .i64 i, .int .i64 x]] w fun e w' => e = .returned (.bool true) ∧ Two W w' r t q m l s u p m2 (actL m2 l2 kind i x) :=
  (two_A kind b i x h.swap hx hl).mono fun e w' ⟨he, hr⟩ => ⟨he, hr.swap⟩
theorem Two.below {W w : World} {r t q : Value} {m : Option Nat} {l : List Int} {s u p : Value} {m2 : Option Nat} {l2 : List Int} (h : Two W w r t q m l s u p m2 l2) : Below W.heap.size W w := by
  obtain ⟨PA, PB, h1, h2, h3, h4, h5, h6⟩ := h
  exact h6
theorem two_len {W w : World} {r t q : Value} {m : Option Nat} {l : List Int} {s u p : Value} {m2 : Option Nat} {l2 : List Int} (h : Two W w r t q m l s u p m2 l2) :
    Calls Try.prog 27 #[q] w fun e w' => e = .returned (.int .i64 l.length) ∧ Two W w' r t q m l s u p m2 l2 := by
  obtain ⟨PA, PB, h1, h2, h3, h4, h5, h6⟩ := h
  refine (rel_q h1 (fun S hS => qu_len hS)).mono fun e w' ⟨he, hr, _⟩ => ⟨he, ?_⟩
  have hs := hr.side
  obtain ⟨P', a1, a2, a3⟩ := hr.rebase
  refine ⟨P', PB, a1, h2.keep (w2 := w') hs (fun k hb ha => h3 k ha hb) (fun k hk => (h5 k hk).1), fun k hk hb => ?_, fun k hk => ⟨a3 k hk, ?_⟩, fun k hk => ⟨Nat.lt_of_lt_of_le (h5 k hk).1 hs.size, (h5 k hk).2⟩, h6.trans (hs.below (fun k hk => (h4 k hk).2) h6.size)⟩
  · rcases a2 k hk with ha | ha
    · exact h3 k ha hb
    · have := (h5 k hb).1; omega
  · rcases a2 k hk with ha | ha
    · exact (h4 k ha).2
    · exact Nat.le_trans h6.size ha
end Go.Proofs.Ytbopnglncjdnmaa
