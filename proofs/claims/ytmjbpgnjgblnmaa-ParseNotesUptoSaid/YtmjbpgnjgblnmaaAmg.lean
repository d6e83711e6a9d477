/- among and begins in plain words. -/
import Derived.Test.YtmjbpgnjgblnmaaOpn
set_option linter.unusedVariables false
set_option linter.unusedSimpArgs false
namespace Go.Proofs.Ytmjbpgnjgblnmaa
open Go.RowKit Go.Proofs.YtmjbpgnjgblnmaaW.PrintWords Go.Proofs.YtmjbpgnjgblnmaaW.PrintLast Go.Proofs.YtmjbpgnjgblnmaaW.PrintMore

def inL (c : ByteArray) (l : List ByteArray) : Bool := l.any (fun x => decide (x = c))
theorem inL_cons (c x : ByteArray) (l : List ByteArray) : inL c (x :: l) = (decide (x = c) || inL c l) := rfl
theorem among_l0 (c : ByteArray) (l : List ByteArray) (hl : l.length ≤ 1000) : ∀ (n i : Nat), i + n = l.length → PParseNotes.parse_among.l0 (n + 1) c l l.length i = some (inL c (l.drop i)) := by
  intro n
  induction n with
  | zero =>
    intro i h
    rw [PParseNotes.parse_among.l0, if_neg (by omega), List.drop_of_length_le (by omega)]
    rfl
  | succ n ih =>
    intro i h
    obtain ⟨x, hx⟩ : ∃ x, l[i]? = some x := ⟨_, List.getElem?_eq_getElem (by omega)⟩
    have hr : rdOf ByteArray.empty l i = x := by simp [rdOf, hx]
    have hd : l.drop i = x :: l.drop (i + 1) := by
      rw [List.drop_eq_getElem_cons (by omega)]
      have := (List.getElem?_eq_some_iff.1 hx).2
      rw [this]
    have hw : wrap64 ((i : Int) + 1) = ((i + 1 : Nat) : Int) := by unfold wrap64; omega
    rw [PParseNotes.parse_among.l0, if_pos (by omega), if_pos (by omega), if_pos (by omega), hr, hw, ih (i + 1) (by omega), hd]
    by_cases hxc : x = c
    · subst hxc
      rw [if_pos rfl, inL_cons]
      simp
    · rw [if_neg (fun e => hxc (by
        have h1 : x.data = c.data := by
          have := congrArg List.toArray e
          simpa [ByteArray.toList_eq] using this
        cases x; cases c; simpa using h1))]
      rw [inL_cons]
      simp [hxc]
theorem among_f (c : ByteArray) (l : List ByteArray) (hl : l.length ≤ 1000) : PParseNotes.parse_among.f (l.length + 1) c l = some (inL c l) := by
  have := among_l0 c l hl l.length 0 (by omega)
  simpa [PParseNotes.parse_among.f] using this
theorem reps_str (w : World) : ∀ l : List ByteArray, Reps (Kd.string.K w) 1 l (l.map Value.string)
  | [] => Reps.none _ _
  | x :: l => by
    have := Reps.one (show Kd.string.K w x [.string x] from rfl) (reps_str w l)
    simpa using this
theorem among_new (W : World) (c : ByteArray) (l : List ByteArray) (n : Nat) (cs : List Value) (hn : l.length = n) (hcs : l.map Value.string = cs) (hl : n ≤ 16) :
    Calls Try.prog 65 #[.string c, .slice (some ⟨W.heap.size, 0, none⟩) n n] (W.alloc (.cells cs.toArray 9)) fun e w' => e = .returned (.bool (inL c l)) ∧ Below W.heap.size W w' := by
  subst hn; subst hcs
  have hrow : (W.alloc (.cells (l.map Value.string).toArray 9)).ownsRow 0 9 1 (.slice (some ⟨W.heap.size, 0, none⟩) l.length l.length) l.length (l.map Value.string) :=
    ⟨by simp, .inr ⟨W.heap.size, l.length, (l.map Value.string).toArray, rfl, Nat.zero_le _, World.alloc_heap_new _ _, Nat.le_refl _, by simp only [maxLen]; omega, by simp, by simp [List.take_of_length_le]⟩⟩
  obtain ⟨A, c1, hv, hr⟩ := own_reads_row (size := 1) hrow (reps_str _ l) rfl
  injection hv with h1 h2 h3
  subst h1; subst h3
  refine (PParseNotes.parse_among.calls (l.length + 1) c _ _ l _ _ hr (Nat.le_refl _) (among_f c l (by omega))).mono ?_
  rintro e w' ⟨he, ⟨m, rfl⟩⟩
  exact ⟨he, pw_below_drewN ((Below.refl _ W).alloc (Nat.le_refl _) _) m⟩
theorem begins_any (W : World) (c : ByteArray) : Calls Try.prog 105 #[.string c] W fun e w' => e = .returned (.bool (inL c ([⟨#[64, 110, 117, 109, 98, 101, 114]⟩, ⟨#[64, 116, 101, 120, 116]⟩, ⟨#[64, 99, 104, 97, 114]⟩, ⟨#[64, 110, 97, 109, 101]⟩, ⟨#[45]⟩, ⟨#[110, 111, 116]⟩, ⟨#[40]⟩] : List ByteArray))) ∧ Below W.heap.size W w' :=
  PParseNotes.parse_begins.calls 8 c _ W ((congrArg (fun o : Option Bool => o.bind fun t => some t) (among_f c [⟨#[64, 110, 117, 109, 98, 101, 114]⟩, ⟨#[64, 116, 101, 120, 116]⟩, ⟨#[64, 99, 104, 97, 114]⟩, ⟨#[64, 110, 97, 109, 101]⟩, ⟨#[45]⟩, ⟨#[110, 111, 116]⟩, ⟨#[40]⟩] (by decide))).trans rfl)
end Go.Proofs.Ytmjbpgnjgblnmaa
