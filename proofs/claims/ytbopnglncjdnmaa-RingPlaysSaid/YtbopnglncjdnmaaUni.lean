/- Rings of three kinds, nil or not: one contract a method. -/
import Derived.Test.YtbopnglncjdnmaaNil
set_option linter.unusedSimpArgs false
set_option linter.unusedVariables false
namespace Go.Proofs.Ytbopnglncjdnmaa
open Go.RowKit

/-- What the calls answer, and what is kept behind them: m: nil, or the room. -/
def pushE (m : Option Nat) (l : List Int) : Int := match m with | .none => 3 | .some k => if l.length = k then 50 else 0
def pushL (m : Option Nat) (l : List Int) (x : Int) : List Int := match m with | .none => l | .some k => if l.length = k then l else l ++ [x]
def popE (m : Option Nat) (l : List Int) : Int := match m with | .none => 3 | .some _ => if l = [] then 51 else 0
def inB (l : List Int) (i : Int) : Bool := decide (0 ≤ i) && decide (i < l.length)
def atE (m : Option Nat) (l : List Int) (i : Int) : Int := match m with | .none => 3 | .some _ => if inB l i = true then 0 else 1
def atV (l : List Int) (i : Int) : Int := if inB l i = true then l.getD i.toNat 0 else 0
def setL (l : List Int) (i x : Int) : List Int := if inB l i = true then l.set i.toNat x else l
def roomV (m : Option Nat) : Int := match m with | .none => 0 | .some k => k
/-- An empty thing, or one. -/
def thV (e v : Int) : Value := if e = 0 then .agg (thCells v) else .agg #[.string ⟨#[]⟩, .int .i64 0, .int .i64 0]

/-- A ring that lies in the blocks S. -/
def OB (At : World → Nat → Nat → Nat → List Int → Prop) (w : World) (S : Nat → Prop) (r : Value) (m : Option Nat) (l : List Int) : Prop :=
  match m with
  | .none => r = .pointer Option.none ∧ l = [] ∧ ∀ k, ¬ S k
  | .some most => ∃ b c, r = .pointer (Option.some ⟨b, 0, Option.none⟩) ∧ (∀ k, S k ↔ (k = b ∨ k = c)) ∧ At w b c most l ∧ b < w.heap.size ∧ c < w.heap.size ∧ l.length ≤ most ∧ most ≤ 2097152
/-- Behind a call on it. -/
def After (At : World → Nat → Nat → Nat → List Int → Prop) (w w' : World) (S : Nat → Prop) (r : Value) (m : Option Nat) (l : List Int) : Prop :=
  ∃ S', (∀ k, S' k → S k ∨ w.heap.size ≤ k) ∧ OB At w' S' r m l ∧ Side S w w'

theorem ThingAt.keep {w w' : World} {b c room : Nat} {l : List Int} (h : ThingAt w b c room l) (hb : w'.heap[b]? = w.heap[b]?) (hc : w'.heap[c]? = w.heap[c]?) : ThingAt w' b c room l := by
  obtain ⟨f, n, cs, h⟩ := h
  exact ⟨f, n, cs, by rw [hb]; exact h.own, fun hn => by rw [hc]; exact h.row hn, h.size, h.room1, h.room2, h.most, h.many, h.fst_, h.at_⟩
theorem QAt.keep {w w' : World} {b c room : Nat} {l : List Int} (h : QAt w b c room l) (hb : w'.heap[b]? = w.heap[b]?) (hc : w'.heap[c]? = w.heap[c]?) : QAt w' b c room l := by
  obtain ⟨h1, h2, h3, A, cap, ⟨t, h4⟩, h5⟩ := h
  refine ⟨h1, h2, h3, A, cap, ⟨t, by rw [hb]; exact h4⟩, ?_⟩
  cases h5 with
  | none => exact .none
  | some o cap cs t l g1 g2 g3 g4 g5 => exact .some o cap cs t l g1 (by rw [hc]; exact g2) g3 g4 g5

/-- Others' sides leave it alone. -/
theorem OB.keep {At : World → Nat → Nat → Nat → List Int → Prop} (hk : ∀ w w' b c most l, At w b c most l → w'.heap[b]? = w.heap[b]? → w'.heap[c]? = w.heap[c]? → At w' b c most l)
    {w w' : World} {S S2 : Nat → Prop} {r : Value} {m : Option Nat} {l : List Int} (h : OB At w S r m l) (hs : Side S2 w w') (hd : ∀ k, S k → ¬ S2 k) : OB At w' S r m l := by
  cases m with
  | none => exact h
  | some most =>
    obtain ⟨b, c, h1, h2, h3, h4, h5, h6, h7⟩ := h
    exact ⟨b, c, h1, h2, hk w w' b c most l h3 (hs.block b h4 (hd b ((h2 b).2 (Or.inl rfl)))) (hs.block c h5 (hd c ((h2 c).2 (Or.inr rfl)))), Nat.lt_of_lt_of_le h4 hs.size, Nat.lt_of_lt_of_le h5 hs.size, h6, h7⟩
theorem OB.lt {At : World → Nat → Nat → Nat → List Int → Prop} {w : World} {S : Nat → Prop} {r : Value} {m : Option Nat} {l : List Int} (h : OB At w S r m l) (k : Nat) (hk : S k) : k < w.heap.size := by
  cases m with
  | none => exact absurd hk (h.2.2 k)
  | some most =>
    obtain ⟨b, c, h1, h2, h3, h4, h5, h6⟩ := h
    rcases (h2 k).1 hk with rfl | rfl <;> assumption
theorem After.same {At : World → Nat → Nat → Nat → List Int → Prop} (hk : ∀ w w' b c most l, At w b c most l → w'.heap[b]? = w.heap[b]? → w'.heap[c]? = w.heap[c]? → At w' b c most l)
    {w w' : World} {S : Nat → Prop} {r : Value} {m : Option Nat} {l : List Int} (h : OB At w S r m l) (hs : Side (fun _ => False) w w') : After At w w' S r m l :=
  ⟨S, fun k hk => Or.inl hk, h.keep hk hs (fun _ _ h => h), hs.mono (fun _ _ h => h.elim)⟩
theorem After.turned {At : World → Nat → Nat → Nat → List Int → Prop} {w w' : World} {S : Nat → Prop} {b c most : Nat} {l l' : List Int} (hS : ∀ k, S k ↔ (k = b ∨ k = c)) (hb : b < w.heap.size) (hc : c < w.heap.size)
    (hl : l'.length ≤ most) (hm : most ≤ 2097152) (hs : Side (fun k => k = b ∨ k = c) w w') (h : At w' b c most l') : After At w w' S (.pointer (some ⟨b, 0, none⟩)) (some most) l' :=
  ⟨S, fun k hk => Or.inl hk, ⟨b, c, rfl, hS, h, Nat.lt_of_lt_of_le hb hs.size, Nat.lt_of_lt_of_le hc hs.size, hl, hm⟩, hs.mono (fun k _ h => (hS k).2 h)⟩
theorem After.grown {At : World → Nat → Nat → Nat → List Int → Prop} {w w' : World} {S : Nat → Prop} {b c c' most : Nat} {l l' : List Int} (hS : ∀ k, S k ↔ (k = b ∨ k = c)) (hb : b < w.heap.size) (hc : c < w.heap.size)
    (hl : l'.length ≤ most) (hm : most ≤ 2097152) (hs : Side (fun k => k = b ∨ k = c) w w') (hcc : c' = c ∨ w.heap.size ≤ c') (hc' : c' < w'.heap.size) (h : At w' b c' most l') : After At w w' S (.pointer (some ⟨b, 0, none⟩)) (some most) l' :=
  ⟨fun k => k = b ∨ k = c', fun k hk => by rcases hk with rfl | rfl
                                           · exact Or.inl ((hS k).2 (Or.inl rfl))
                                           · rcases hcc with rfl | h2
                                             · exact Or.inl ((hS _).2 (Or.inr rfl))
                                             · exact Or.inr h2, ⟨b, c', rfl, fun k => Iff.rfl, h, Nat.lt_of_lt_of_le hb hs.size, hc', hl, hm⟩, hs.mono (fun k _ h => (hS k).2 h)⟩

theorem ringKeep : ∀ w w' b c most l, RingAt w b c most l → w'.heap[b]? = w.heap[b]? → w'.heap[c]? = w.heap[c]? → RingAt w' b c most l := fun _ _ _ _ _ _ h hb hc => h.keep hb hc
theorem thingKeep : ∀ w w' b c most l, ThingAt w b c most l → w'.heap[b]? = w.heap[b]? → w'.heap[c]? = w.heap[c]? → ThingAt w' b c most l := fun _ _ _ _ _ _ h hb hc => h.keep hb hc
theorem qKeep : ∀ w w' b c most l, QAt w b c most l → w'.heap[b]? = w.heap[b]? → w'.heap[c]? = w.heap[c]? → QAt w' b c most l := fun _ _ _ _ _ _ h hb hc => h.keep hb hc
theorem push_no_s (b c room : Nat) (l : List Int) (x : Int) (w : World) (h : RingAt w b c room l) (hl : l.length = room) :
    Calls Try.prog 11 #[.pointer (some ⟨b, 0, none⟩), .int .i64 x] w fun e w' => e = .returned (.int .i64 50) ∧ Side (fun _ => False) w w' :=
  (push_no b c room l x w h hl).mono fun e w' ⟨he, m, hw⟩ => ⟨he, by rw [hw]; exact (Side.refl _ w).drewN m⟩
theorem front_none_s (b c room : Nat) (w : World) (h : RingAt w b c room []) :
    Calls Try.prog 13 #[.pointer (some ⟨b, 0, none⟩)] w fun e w' => e = .returned (.tuple #[.int .i64 0, .int .i64 51]) ∧ Side (fun _ => False) w w' :=
  (pop_front_none b c room w h).mono fun e w' ⟨he, m, hw⟩ => ⟨he, by rw [hw]; exact (Side.refl _ w).drewN m⟩
theorem back_none_s (b c room : Nat) (w : World) (h : RingAt w b c room []) :
    Calls Try.prog 15 #[.pointer (some ⟨b, 0, none⟩)] w fun e w' => e = .returned (.tuple #[.int .i64 0, .int .i64 51]) ∧ Side (fun _ => False) w w' :=
  (pop_back_none b c room w h).mono fun e w' ⟨he, m, hw⟩ => ⟨he, by rw [hw]; exact (Side.refl _ w).drewN m⟩
theorem at_ok_s (b c room : Nat) (l : List Int) (i : Nat) (x : Int) (w : World) (h : RingAt w b c room l) (hx : l[i]? = some x) :
    Calls Try.prog 14 #[.pointer (some ⟨b, 0, none⟩), .int .i64 i] w fun e w' => e = .returned (.tuple #[.int .i64 x, .int .i64 0]) ∧ Side (fun _ => False) w w' :=
  (at_ok b c room l i x w h hx).mono fun e w' ⟨he, m, hw⟩ => ⟨he, by rw [hw]; exact (Side.refl _ w).drewN m⟩

theorem rlen_s (b c room : Nat) (l : List Int) (w : World) (h : RingAt w b c room l) :
    Calls Try.prog 12 #[.pointer (some ⟨b, 0, none⟩)] w fun e w' => e = .returned (.int .i64 l.length) ∧ w' = w := by
  obtain ⟨f, n, cs, h4⟩ := h
  exact len_run b c room f n cs l w h4
theorem ring_lt {w : World} {b c most : Nat} {l : List Int} {x : Int} (h : RingAt w b c most (l ++ [x])) : c < w.heap.size := by
  obtain ⟨f, n, cs, h⟩ := h
  have hm := h.many
  rw [List.length_append, List.length_singleton] at hm
  obtain ⟨_, t, ht⟩ := h.row (by omega)
  exact heap_lt ht
theorem thing_lt {w : World} {b c most : Nat} {l : List Int} {x : Int} (h : ThingAt w b c most (l ++ [x])) : c < w.heap.size := by
  obtain ⟨f, n, cs, h⟩ := h
  have hm := h.many
  rw [List.length_append, List.length_singleton] at hm
  obtain ⟨_, t, ht⟩ := h.row (by omega)
  exact heap_lt ht
theorem q_lt {w : World} {b c most : Nat} {l : List Int} {x : Int} (h : QAt w b c most (l ++ [x])) : c < w.heap.size := by
  obtain ⟨h1, h2, h3, A, cap, h4, h5⟩ := h
  generalize hll : l ++ [x] = ll at h5
  cases h5 with
  | none => simp at hll
  | some o cap cs t l g1 g2 g3 g4 g5 => exact heap_lt g2

theorem exists_front {l : List Int} (h : l ≠ []) : ∃ x t, l = x :: t := by
  cases l with
  | nil => exact absurd rfl h
  | cons x t => exact ⟨x, t, rfl⟩
theorem exists_back {l : List Int} (h : l ≠ []) : ∃ x t, l = t ++ [x] := ⟨l.getLast h, l.dropLast, (List.dropLast_concat_getLast h).symm⟩
theorem inB_true {l : List Int} {i : Int} (h : inB l i = true) : ∃ k : Nat, i = k ∧ k < l.length := by
  unfold inB at h
  rw [Bool.and_eq_true, decide_eq_true_eq, decide_eq_true_eq] at h
  exact ⟨i.toNat, by omega, by omega⟩
theorem inB_false {l : List Int} {i : Int} (h : ¬ inB l i = true) : i < 0 ∨ (l.length : Int) ≤ i := by
  unfold inB at h
  rw [Bool.and_eq_true, decide_eq_true_eq, decide_eq_true_eq] at h
  omega

theorem ru_push {w : World} {S : Nat → Prop} {r : Value} {m : Option Nat} {l : List Int} (x : Int) (h : OB RingAt w S r m l) :
    Calls Try.prog 11 #[r, .int .i64 x] w fun e w' => e = .returned (.int .i64 (pushE m l)) ∧ After RingAt w w' S r m (pushL m l x) := by
  cases m with
  | none =>
    have h' := h
    obtain ⟨rfl, rfl, h3⟩ := h
    exact (rnil_push x w).mono fun e w' ⟨he, hs⟩ => ⟨he, After.same (At := RingAt) ringKeep h' hs⟩
  | some most =>
    have h' := h
    obtain ⟨b, c, rfl, hS, h3, hb, hc, hlm, hm⟩ := h
    by_cases hl : l.length = most
    · simp only [pushE, pushL, if_pos hl]
      exact (push_no_s b c most l x w h3 hl).mono fun e w' ⟨he, hs⟩ => ⟨he, After.same (At := RingAt) ringKeep h' hs⟩
    · simp only [pushE, pushL, if_neg hl]
      exact (push_ok b c most l x w h3 (by omega)).mono fun e w' ⟨he, hs, c', hcc, hr⟩ => ⟨he, After.grown (l := l) hS hb hc (by rw [List.length_append, List.length_singleton]; omega) hm hs hcc (ring_lt hr) hr⟩
theorem ru_front {w : World} {S : Nat → Prop} {r : Value} {m : Option Nat} {l : List Int} (h : OB RingAt w S r m l) :
    Calls Try.prog 13 #[r] w fun e w' => e = .returned (.tuple #[.int .i64 (l.headD 0), .int .i64 (popE m l)]) ∧ After RingAt w w' S r m (l.tail) := by
  cases m with
  | none =>
    have h' := h
    obtain ⟨rfl, rfl, h3⟩ := h
    exact (rnil_front w).mono fun e w' ⟨he, hs⟩ => ⟨he, After.same (At := RingAt) ringKeep h' hs⟩
  | some most =>
    have h' := h
    obtain ⟨b, c, rfl, hS, h3, hb, hc, hlm, hm⟩ := h
    by_cases hl : l = []
    · subst hl
      exact (front_none_s b c most w h3).mono fun e w' ⟨he, hs⟩ => ⟨he, After.same (At := RingAt) ringKeep h' hs⟩
    · obtain ⟨x, t, rfl⟩ := exists_front hl
      have e1 : popE (some most) (x :: t) = 0 := by simp only [popE]; rw [if_neg hl]
      rw [e1]
      have e2 : (x :: t).headD 0 = x := by simp
      have e3 : (x :: t).tail = t := by simp
      rw [e2, e3]
      exact (pop_front b c most x t w h3).mono fun e w' ⟨he, hs, hr⟩ => ⟨he, After.turned (l := t) hS hb hc (by simp at hlm; omega) hm hs hr⟩
theorem ru_back {w : World} {S : Nat → Prop} {r : Value} {m : Option Nat} {l : List Int} (h : OB RingAt w S r m l) :
    Calls Try.prog 15 #[r] w fun e w' => e = .returned (.tuple #[.int .i64 (l.getLastD 0), .int .i64 (popE m l)]) ∧ After RingAt w w' S r m (l.dropLast) := by
  cases m with
  | none =>
    have h' := h
    obtain ⟨rfl, rfl, h3⟩ := h
    exact (rnil_back w).mono fun e w' ⟨he, hs⟩ => ⟨he, After.same (At := RingAt) ringKeep h' hs⟩
  | some most =>
    have h' := h
    obtain ⟨b, c, rfl, hS, h3, hb, hc, hlm, hm⟩ := h
    by_cases hl : l = []
    · subst hl
      exact (back_none_s b c most w h3).mono fun e w' ⟨he, hs⟩ => ⟨he, After.same (At := RingAt) ringKeep h' hs⟩
    · obtain ⟨x, t, rfl⟩ := exists_back hl
      have e1 : popE (some most) (t ++ [x]) = 0 := by simp only [popE]; rw [if_neg hl]
      rw [e1]
      have e2 : (t ++ [x]).getLastD 0 = x := by simp
      have e3 : (t ++ [x]).dropLast = t := by simp
      rw [e2, e3]
      exact (pop_back b c most x t w h3).mono fun e w' ⟨he, hs, hr⟩ => ⟨he, After.turned (l := t) hS hb hc (by simp at hlm; omega) hm hs hr⟩
theorem ru_at {w : World} {S : Nat → Prop} {r : Value} {m : Option Nat} {l : List Int} (i : Int) (h : OB RingAt w S r m l) :
    Calls Try.prog 14 #[r, .int .i64 i] w fun e w' => e = .returned (.tuple #[.int .i64 (atV l i), .int .i64 (atE m l i)]) ∧ After RingAt w w' S r m l := by
  cases m with
  | none =>
    have h' := h
    obtain ⟨rfl, rfl, h3⟩ := h
    have e1 : atV [] i = 0 := by unfold atV; split <;> simp
    rw [e1]
    exact (rnil_at i w).mono fun e w' ⟨he, hs⟩ => ⟨he, After.same (At := RingAt) ringKeep h' hs⟩
  | some most =>
    have h' := h
    obtain ⟨b, c, rfl, hS, h3, hb, hc, hlm, hm⟩ := h
    by_cases hi : inB l i = true
    · simp only [atE, atV, if_pos hi]
      obtain ⟨k, rfl, hk⟩ := inB_true hi
      obtain ⟨x, hx⟩ : ∃ x, l[k]? = some x := ⟨_, List.getElem?_eq_getElem hk⟩
      have e1 : l.getD (k : Int).toNat 0 = x := by rw [Int.toNat_natCast, List.getD_eq_getElem?_getD, hx]; rfl
      rw [e1]
      exact (at_ok_s b c most l k x w h3 hx).mono fun e w' ⟨he, hs⟩ => ⟨he, After.same (At := RingAt) ringKeep h' hs⟩
    · simp only [atE, atV, if_neg hi]
      exact (at_bad b c most l i w h3 (inB_false hi)).mono fun e w' ⟨he, hs⟩ => ⟨he, After.same (At := RingAt) ringKeep h' hs⟩
theorem ru_set {w : World} {S : Nat → Prop} {r : Value} {m : Option Nat} {l : List Int} (i x : Int) (h : OB RingAt w S r m l) :
    Calls Try.prog 40 #[r, .int .i64 i, .int .i64 x] w fun e w' => e = .returned (.int .i64 (atE m l i)) ∧ After RingAt w w' S r m (setL l i x) := by
  cases m with
  | none =>
    have h' := h
    obtain ⟨rfl, rfl, h3⟩ := h
    have e1 : setL [] i x = [] := by unfold setL; split <;> simp
    rw [e1]
    exact (rnil_set i x w).mono fun e w' ⟨he, hs⟩ => ⟨he, After.same (At := RingAt) ringKeep h' hs⟩
  | some most =>
    have h' := h
    obtain ⟨b, c, rfl, hS, h3, hb, hc, hlm, hm⟩ := h
    by_cases hi : inB l i = true
    · simp only [atE, setL, if_pos hi]
      obtain ⟨k, rfl, hk⟩ := inB_true hi
      rw [Int.toNat_natCast]
      exact (set_ok b c most l k x w h3 hk).mono fun e w' ⟨he, hs, hr⟩ => ⟨he, After.turned (l := l) hS hb hc (by rw [List.length_set]; exact hlm) hm hs hr⟩
    · simp only [atE, setL, if_neg hi]
      exact (set_bad b c most l i x w h3 (inB_false hi)).mono fun e w' ⟨he, hs⟩ => ⟨he, After.same (At := RingAt) ringKeep h' hs⟩
theorem ru_len {w : World} {S : Nat → Prop} {r : Value} {m : Option Nat} {l : List Int} (h : OB RingAt w S r m l) :
    Calls Try.prog 12 #[r] w fun e w' => e = .returned (.int .i64 ((l.length : Int))) ∧ After RingAt w w' S r m l := by
  cases m with
  | none =>
    have h' := h
    obtain ⟨rfl, rfl, h3⟩ := h
    exact (rnil_len w).mono fun e w' ⟨he, hs⟩ => ⟨he, After.same (At := RingAt) ringKeep h' hs⟩
  | some most =>
    have h' := h
    obtain ⟨b, c, rfl, hS, h3, hb, hc, hlm, hm⟩ := h
    exact Calls.mono (rlen_s b c most l w h3) fun e w' ⟨he, hs⟩ => ⟨he, by rw [hs]; exact After.same (At := RingAt) ringKeep h' (Side.refl _ w)⟩
theorem ru_room {w : World} {S : Nat → Prop} {r : Value} {m : Option Nat} {l : List Int} (h : OB RingAt w S r m l) :
    Calls Try.prog 28 #[r] w fun e w' => e = .returned (.int .i64 (roomV m)) ∧ After RingAt w w' S r m l := by
  cases m with
  | none =>
    have h' := h
    obtain ⟨rfl, rfl, h3⟩ := h
    exact (rnil_room w).mono fun e w' ⟨he, hs⟩ => ⟨he, After.same (At := RingAt) ringKeep h' hs⟩
  | some most =>
    have h' := h
    obtain ⟨b, c, rfl, hS, h3, hb, hc, hlm, hm⟩ := h
    exact Calls.mono (room_run b c most l w h3) fun e w' ⟨he, hs⟩ => ⟨he, by rw [hs]; exact After.same (At := RingAt) ringKeep h' (Side.refl _ w)⟩
theorem tu_push {w : World} {S : Nat → Prop} {r : Value} {m : Option Nat} {l : List Int} (x : Int) (h : OB ThingAt w S r m l) :
    Calls Try.prog 19 #[r, .agg (thCells x)] w fun e w' => e = .returned (.int .i64 (pushE m l)) ∧ After ThingAt w w' S r m (pushL m l x) := by
  cases m with
  | none =>
    have h' := h
    obtain ⟨rfl, rfl, h3⟩ := h
    exact (tnil_push x w).mono fun e w' ⟨he, hs⟩ => ⟨he, After.same (At := ThingAt) thingKeep h' hs⟩
  | some most =>
    have h' := h
    obtain ⟨b, c, rfl, hS, h3, hb, hc, hlm, hm⟩ := h
    by_cases hl : l.length = most
    · simp only [pushE, pushL, if_pos hl]
      exact (tpush_no b c most l x w h3 hl).mono fun e w' ⟨he, hs⟩ => ⟨he, After.same (At := ThingAt) thingKeep h' hs⟩
    · simp only [pushE, pushL, if_neg hl]
      exact (tpush_ok b c most l x w h3 (by omega)).mono fun e w' ⟨he, hs, c', hcc, hr⟩ => ⟨he, After.grown (l := l) hS hb hc (by rw [List.length_append, List.length_singleton]; omega) hm hs hcc (thing_lt hr) hr⟩
theorem tu_front {w : World} {S : Nat → Prop} {r : Value} {m : Option Nat} {l : List Int} (h : OB ThingAt w S r m l) :
    Calls Try.prog 16 #[r] w fun e w' => e = .returned (.tuple #[thV (popE m l) (l.headD 0), .int .i64 (popE m l)]) ∧ After ThingAt w w' S r m (l.tail) := by
  cases m with
  | none =>
    have h' := h
    obtain ⟨rfl, rfl, h3⟩ := h
    exact (tnil_front w).mono fun e w' ⟨he, hs⟩ => ⟨he, After.same (At := ThingAt) thingKeep h' hs⟩
  | some most =>
    have h' := h
    obtain ⟨b, c, rfl, hS, h3, hb, hc, hlm, hm⟩ := h
    by_cases hl : l = []
    · subst hl
      exact (tpop_front_none b c most w h3).mono fun e w' ⟨he, hs⟩ => ⟨he, After.same (At := ThingAt) thingKeep h' hs⟩
    · obtain ⟨x, t, rfl⟩ := exists_front hl
      have e1 : popE (some most) (x :: t) = 0 := by simp only [popE]; rw [if_neg hl]
      rw [e1]
      have e2 : (x :: t).headD 0 = x := by simp
      have e3 : (x :: t).tail = t := by simp
      rw [e2, e3]
      exact (tpop_front b c most x t w h3).mono fun e w' ⟨he, hs, hr⟩ => ⟨he, After.turned (l := t) hS hb hc (by simp at hlm; omega) hm hs hr⟩
theorem tu_back {w : World} {S : Nat → Prop} {r : Value} {m : Option Nat} {l : List Int} (h : OB ThingAt w S r m l) :
    Calls Try.prog 17 #[r] w fun e w' => e = .returned (.tuple #[thV (popE m l) (l.getLastD 0), .int .i64 (popE m l)]) ∧ After ThingAt w w' S r m (l.dropLast) := by
  cases m with
  | none =>
    have h' := h
    obtain ⟨rfl, rfl, h3⟩ := h
    exact (tnil_back w).mono fun e w' ⟨he, hs⟩ => ⟨he, After.same (At := ThingAt) thingKeep h' hs⟩
  | some most =>
    have h' := h
    obtain ⟨b, c, rfl, hS, h3, hb, hc, hlm, hm⟩ := h
    by_cases hl : l = []
    · subst hl
      exact (tpop_back_none b c most w h3).mono fun e w' ⟨he, hs⟩ => ⟨he, After.same (At := ThingAt) thingKeep h' hs⟩
    · obtain ⟨x, t, rfl⟩ := exists_back hl
      have e1 : popE (some most) (t ++ [x]) = 0 := by simp only [popE]; rw [if_neg hl]
      rw [e1]
      have e2 : (t ++ [x]).getLastD 0 = x := by simp
      have e3 : (t ++ [x]).dropLast = t := by simp
      rw [e2, e3]
      exact (tpop_back b c most x t w h3).mono fun e w' ⟨he, hs, hr⟩ => ⟨he, After.turned (l := t) hS hb hc (by simp at hlm; omega) hm hs hr⟩
theorem tu_at {w : World} {S : Nat → Prop} {r : Value} {m : Option Nat} {l : List Int} (i : Int) (h : OB ThingAt w S r m l) :
    Calls Try.prog 18 #[r, .int .i64 i] w fun e w' => e = .returned (.tuple #[thV (atE m l i) (atV l i), .int .i64 (atE m l i)]) ∧ After ThingAt w w' S r m l := by
  cases m with
  | none =>
    have h' := h
    obtain ⟨rfl, rfl, h3⟩ := h
    have e1 : atV [] i = 0 := by unfold atV; split <;> simp
    rw [e1]
    exact (tnil_at i w).mono fun e w' ⟨he, hs⟩ => ⟨he, After.same (At := ThingAt) thingKeep h' hs⟩
  | some most =>
    have h' := h
    obtain ⟨b, c, rfl, hS, h3, hb, hc, hlm, hm⟩ := h
    by_cases hi : inB l i = true
    · simp only [atE, atV, if_pos hi]
      obtain ⟨k, rfl, hk⟩ := inB_true hi
      obtain ⟨x, hx⟩ : ∃ x, l[k]? = some x := ⟨_, List.getElem?_eq_getElem hk⟩
      have e1 : l.getD (k : Int).toNat 0 = x := by rw [Int.toNat_natCast, List.getD_eq_getElem?_getD, hx]; rfl
      rw [e1]
      exact (tat_ok b c most l k x w h3 hx).mono fun e w' ⟨he, hs⟩ => ⟨he, After.same (At := ThingAt) thingKeep h' hs⟩
    · simp only [atE, atV, if_neg hi]
      exact (tat_bad b c most l i w h3 (inB_false hi)).mono fun e w' ⟨he, hs⟩ => ⟨he, After.same (At := ThingAt) thingKeep h' hs⟩
theorem tu_set {w : World} {S : Nat → Prop} {r : Value} {m : Option Nat} {l : List Int} (i x : Int) (h : OB ThingAt w S r m l) :
    Calls Try.prog 21 #[r, .int .i64 i, .agg (thCells x)] w fun e w' => e = .returned (.int .i64 (atE m l i)) ∧ After ThingAt w w' S r m (setL l i x) := by
  cases m with
  | none =>
    have h' := h
    obtain ⟨rfl, rfl, h3⟩ := h
    have e1 : setL [] i x = [] := by unfold setL; split <;> simp
    rw [e1]
    exact (tnil_set i x w).mono fun e w' ⟨he, hs⟩ => ⟨he, After.same (At := ThingAt) thingKeep h' hs⟩
  | some most =>
    have h' := h
    obtain ⟨b, c, rfl, hS, h3, hb, hc, hlm, hm⟩ := h
    by_cases hi : inB l i = true
    · simp only [atE, setL, if_pos hi]
      obtain ⟨k, rfl, hk⟩ := inB_true hi
      rw [Int.toNat_natCast]
      exact (tset_ok b c most l k x w h3 hk).mono fun e w' ⟨he, hs, hr⟩ => ⟨he, After.turned (l := l) hS hb hc (by rw [List.length_set]; exact hlm) hm hs hr⟩
    · simp only [atE, setL, if_neg hi]
      exact (tset_bad b c most l i x w h3 (inB_false hi)).mono fun e w' ⟨he, hs⟩ => ⟨he, After.same (At := ThingAt) thingKeep h' hs⟩
theorem tu_len {w : World} {S : Nat → Prop} {r : Value} {m : Option Nat} {l : List Int} (h : OB ThingAt w S r m l) :
    Calls Try.prog 22 #[r] w fun e w' => e = .returned (.int .i64 ((l.length : Int))) ∧ After ThingAt w w' S r m l := by
  cases m with
  | none =>
    have h' := h
    obtain ⟨rfl, rfl, h3⟩ := h
    exact (tnil_len w).mono fun e w' ⟨he, hs⟩ => ⟨he, After.same (At := ThingAt) thingKeep h' hs⟩
  | some most =>
    have h' := h
    obtain ⟨b, c, rfl, hS, h3, hb, hc, hlm, hm⟩ := h
    exact Calls.mono (tlen_run b c most l w h3) fun e w' ⟨he, hs⟩ => ⟨he, by rw [hs]; exact After.same (At := ThingAt) thingKeep h' (Side.refl _ w)⟩
theorem tu_room {w : World} {S : Nat → Prop} {r : Value} {m : Option Nat} {l : List Int} (h : OB ThingAt w S r m l) :
    Calls Try.prog 23 #[r] w fun e w' => e = .returned (.int .i64 (roomV m)) ∧ After ThingAt w w' S r m l := by
  cases m with
  | none =>
    have h' := h
    obtain ⟨rfl, rfl, h3⟩ := h
    exact (tnil_room w).mono fun e w' ⟨he, hs⟩ => ⟨he, After.same (At := ThingAt) thingKeep h' hs⟩
  | some most =>
    have h' := h
    obtain ⟨b, c, rfl, hS, h3, hb, hc, hlm, hm⟩ := h
    exact Calls.mono (troom_run b c most l w h3) fun e w' ⟨he, hs⟩ => ⟨he, by rw [hs]; exact After.same (At := ThingAt) thingKeep h' (Side.refl _ w)⟩
theorem qu_push {w : World} {S : Nat → Prop} {r : Value} {m : Option Nat} {l : List Int} (x : Int) (h : OB QAt w S r m l) :
    Calls Try.prog 35 #[r, .int .i64 x] w fun e w' => e = .returned (.int .i64 (pushE m l)) ∧ After QAt w w' S r m (pushL m l x) := by
  cases m with
  | none =>
    have h' := h
    obtain ⟨rfl, rfl, h3⟩ := h
    exact (qnil_push x w).mono fun e w' ⟨he, hs⟩ => ⟨he, After.same (At := QAt) qKeep h' hs⟩
  | some most =>
    have h' := h
    obtain ⟨b, c, rfl, hS, h3, hb, hc, hlm, hm⟩ := h
    by_cases hl : l.length = most
    · simp only [pushE, pushL, if_pos hl]
      exact (qpush_no b c most l x w h3 hl).mono fun e w' ⟨he, hs⟩ => ⟨he, After.same (At := QAt) qKeep h' hs⟩
    · simp only [pushE, pushL, if_neg hl]
      exact (qpush_ok b c most l x w h3 (by omega)).mono fun e w' ⟨he, hs, c', hcc, hr⟩ => ⟨he, After.grown (l := l) hS hb hc (by rw [List.length_append, List.length_singleton]; omega) hm hs hcc (q_lt hr) hr⟩
theorem qu_front {w : World} {S : Nat → Prop} {r : Value} {m : Option Nat} {l : List Int} (h : OB QAt w S r m l) :
    Calls Try.prog 36 #[r] w fun e w' => e = .returned (.tuple #[.int .i64 (l.headD 0), .int .i64 (popE m l)]) ∧ After QAt w w' S r m (l.tail) := by
  cases m with
  | none =>
    have h' := h
    obtain ⟨rfl, rfl, h3⟩ := h
    exact (qnil_front w).mono fun e w' ⟨he, hs⟩ => ⟨he, After.same (At := QAt) qKeep h' hs⟩
  | some most =>
    have h' := h
    obtain ⟨b, c, rfl, hS, h3, hb, hc, hlm, hm⟩ := h
    by_cases hl : l = []
    · subst hl
      exact (qpop_front_none b c most w h3).mono fun e w' ⟨he, hs⟩ => ⟨he, After.same (At := QAt) qKeep h' hs⟩
    · obtain ⟨x, t, rfl⟩ := exists_front hl
      have e1 : popE (some most) (x :: t) = 0 := by simp only [popE]; rw [if_neg hl]
      rw [e1]
      have e2 : (x :: t).headD 0 = x := by simp
      have e3 : (x :: t).tail = t := by simp
      rw [e2, e3]
      exact (qpop_front b c most x t w h3).mono fun e w' ⟨he, hs, hr⟩ => ⟨he, After.turned (l := t) hS hb hc (by simp at hlm; omega) hm hs hr⟩
theorem qu_back {w : World} {S : Nat → Prop} {r : Value} {m : Option Nat} {l : List Int} (h : OB QAt w S r m l) :
    Calls Try.prog 37 #[r] w fun e w' => e = .returned (.tuple #[.int .i64 (l.getLastD 0), .int .i64 (popE m l)]) ∧ After QAt w w' S r m (l.dropLast) := by
  cases m with
  | none =>
    have h' := h
    obtain ⟨rfl, rfl, h3⟩ := h
    exact (qnil_back w).mono fun e w' ⟨he, hs⟩ => ⟨he, After.same (At := QAt) qKeep h' hs⟩
  | some most =>
    have h' := h
    obtain ⟨b, c, rfl, hS, h3, hb, hc, hlm, hm⟩ := h
    by_cases hl : l = []
    · subst hl
      exact (qpop_back_none b c most w h3).mono fun e w' ⟨he, hs⟩ => ⟨he, After.same (At := QAt) qKeep h' hs⟩
    · obtain ⟨x, t, rfl⟩ := exists_back hl
      have e1 : popE (some most) (t ++ [x]) = 0 := by simp only [popE]; rw [if_neg hl]
      rw [e1]
      have e2 : (t ++ [x]).getLastD 0 = x := by simp
      have e3 : (t ++ [x]).dropLast = t := by simp
      rw [e2, e3]
      exact (qpop_back b c most x t w h3).mono fun e w' ⟨he, hs, hr⟩ => ⟨he, After.turned (l := t) hS hb hc (by simp at hlm; omega) hm hs hr⟩
theorem qu_at {w : World} {S : Nat → Prop} {r : Value} {m : Option Nat} {l : List Int} (i : Int) (h : OB QAt w S r m l) :
    Calls Try.prog 38 #[r, .int .i64 i] w fun e w' => e = .returned (.tuple #[.int .i64 (atV l i), .int .i64 (atE m l i)]) ∧ After QAt w w' S r m l := by
  cases m with
  | none =>
    have h' := h
    obtain ⟨rfl, rfl, h3⟩ := h
    have e1 : atV [] i = 0 := by unfold atV; split <;> simp
    rw [e1]
    exact (qnil_at i w).mono fun e w' ⟨he, hs⟩ => ⟨he, After.same (At := QAt) qKeep h' hs⟩
  | some most =>
    have h' := h
    obtain ⟨b, c, rfl, hS, h3, hb, hc, hlm, hm⟩ := h
    by_cases hi : inB l i = true
    · simp only [atE, atV, if_pos hi]
      obtain ⟨k, rfl, hk⟩ := inB_true hi
      obtain ⟨x, hx⟩ : ∃ x, l[k]? = some x := ⟨_, List.getElem?_eq_getElem hk⟩
      have e1 : l.getD (k : Int).toNat 0 = x := by rw [Int.toNat_natCast, List.getD_eq_getElem?_getD, hx]; rfl
      rw [e1]
      exact (qat_ok b c most l k x w h3 hx).mono fun e w' ⟨he, hs⟩ => ⟨he, After.same (At := QAt) qKeep h' hs⟩
    · simp only [atE, atV, if_neg hi]
      exact (qat_bad b c most l i w h3 (inB_false hi)).mono fun e w' ⟨he, hs⟩ => ⟨he, After.same (At := QAt) qKeep h' hs⟩
theorem qu_set {w : World} {S : Nat → Prop} {r : Value} {m : Option Nat} {l : List Int} (i x : Int) (h : OB QAt w S r m l) :
    Calls Try.prog 39 #[r, .int .i64 i, .int .i64 x] w fun e w' => e = .returned (.int .i64 (atE m l i)) ∧ After QAt w w' S r m (setL l i x) := by
  cases m with
  | none =>
    have h' := h
    obtain ⟨rfl, rfl, h3⟩ := h
    have e1 : setL [] i x = [] := by unfold setL; split <;> simp
    rw [e1]
    exact (qnil_set i x w).mono fun e w' ⟨he, hs⟩ => ⟨he, After.same (At := QAt) qKeep h' hs⟩
  | some most =>
    have h' := h
    obtain ⟨b, c, rfl, hS, h3, hb, hc, hlm, hm⟩ := h
    by_cases hi : inB l i = true
    · simp only [atE, setL, if_pos hi]
      obtain ⟨k, rfl, hk⟩ := inB_true hi
      rw [Int.toNat_natCast]
      exact (qset_ok b c most l k x w h3 hk).mono fun e w' ⟨he, hs, hr⟩ => ⟨he, After.turned (l := l) hS hb hc (by rw [List.length_set]; exact hlm) hm hs hr⟩
    · simp only [atE, setL, if_neg hi]
      exact (qset_bad b c most l i x w h3 (inB_false hi)).mono fun e w' ⟨he, hs⟩ => ⟨he, After.same (At := QAt) qKeep h' hs⟩
theorem qu_len {w : World} {S : Nat → Prop} {r : Value} {m : Option Nat} {l : List Int} (h : OB QAt w S r m l) :
    Calls Try.prog 27 #[r] w fun e w' => e = .returned (.int .i64 ((l.length : Int))) ∧ After QAt w w' S r m l := by
  cases m with
  | none =>
    have h' := h
    obtain ⟨rfl, rfl, h3⟩ := h
    exact (qnil_len w).mono fun e w' ⟨he, hs⟩ => ⟨he, After.same (At := QAt) qKeep h' hs⟩
  | some most =>
    have h' := h
    obtain ⟨b, c, rfl, hS, h3, hb, hc, hlm, hm⟩ := h
    exact Calls.mono (qlen_run b c most l w h3) fun e w' ⟨he, hs⟩ => ⟨he, by rw [hs]; exact After.same (At := QAt) qKeep h' (Side.refl _ w)⟩
theorem qu_room {w : World} {S : Nat → Prop} {r : Value} {m : Option Nat} {l : List Int} (h : OB QAt w S r m l) :
    Calls Try.prog 41 #[r] w fun e w' => e = .returned (.int .i64 (roomV m)) ∧ After QAt w w' S r m l := by
  cases m with
  | none =>
    have h' := h
    obtain ⟨rfl, rfl, h3⟩ := h
    exact (qnil_room w).mono fun e w' ⟨he, hs⟩ => ⟨he, After.same (At := QAt) qKeep h' hs⟩
  | some most =>
    have h' := h
    obtain ⟨b, c, rfl, hS, h3, hb, hc, hlm, hm⟩ := h
    exact Calls.mono (qroom_run b c most l w h3) fun e w' ⟨he, hs⟩ => ⟨he, by rw [hs]; exact After.same (At := QAt) qKeep h' (Side.refl _ w)⟩
end Go.Proofs.Ytbopnglncjdnmaa
