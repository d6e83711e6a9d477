/- ParseNotes: rows of tokens, the comparison, noted. -/
import Derived.Test.YtmjbpgnjgblnmaaNs0
set_option linter.unusedVariables false
set_option linter.unusedSimpArgs false
namespace Go.Proofs.Ytmjbpgnjgblnmaa
open Go.RowKit Go.Proofs.YtmjbpgnjgblnmaaW.PrintWords Go.Proofs.YtmjbpgnjgblnmaaW.PrintLast Go.Proofs.YtmjbpgnjgblnmaaW.PrintMore

theorem infoTk : (Try.prog.info? 35).map (fun i => (i.zero, i.size, i.bytes)) = some (some (.agg #[.int .u8 0, .string ⟨#[]⟩, .int .i64 0, .int .i64 0, .int .i64 0, .int .i64 0]), 6, 56) := by kernel_rfl
theorem tkCells_one (t : Tk) : ∀ v ∈ tkCells t, v.oneCell' = true := by
  intro v hv; simp only [tkCells, List.mem_cons, List.not_mem_nil, or_false] at hv; rcases hv with rfl | rfl | rfl | rfl | rfl | rfl <;> rfl
theorem reps_tk (V : World) (l : List Tk) : Reps (kTk.K V) 6 l (l.flatMap tkCells) := by
  induction l with
  | nil => exact Reps.none _ _
  | cons x l ih =>
    have := Kd.reps_append ((Reps.none (kTk.K V) 6).snoc (PParseNotes.k35_mk V x) rfl) ih
    rw [List.nil_append, List.nil_append, List.singleton_append] at this
    exact this
theorem reps_ev (V : World) (l : List Ev) : Reps (kEv.K V) 8 l (l.flatMap evCells) := by
  induction l with
  | nil => exact Reps.none _ _
  | cons x l ih =>
    have := Kd.reps_append ((Reps.none (kEv.K V) 8).snoc (PParseNotes.k46_mk V x) rfl) ih
    rw [List.nil_append, List.nil_append, List.singleton_append] at this
    exact this
/-- A row of tokens can be read. -/
theorem toks_C {V : World} {base : Nat} {v : Value} {l : List Tk} (h : V.ownsRow base 35 6 v l.length (l.flatMap tkCells)) : ∃ A c, v = .slice A l.length c ∧ l.length ≤ c ∧ Kd.C kTk V A l.length l := by
  obtain ⟨A, c, hv, hr⟩ := own_reads_row (size := 6) h (reps_tk V l) rfl
  obtain ⟨A2, c2, hv2, hc⟩ := row_slice h
  subst hv
  injection hv2 with h1 h2 h3
  subst h3
  exact ⟨A, _, rfl, hc, hr⟩
theorem evs_C {V : World} {base g c : Nat} {l : List Ev} (h : V.ownsRow base 46 8 (.slice (some ⟨g, 0, none⟩) l.length c) l.length (l.flatMap evCells)) : Kd.C kEv V (some ⟨g, 0, none⟩) l.length l := by
  obtain ⟨A, c2, hv, hr⟩ := own_reads_row (size := 8) h (reps_ev V l) rfl
  injection hv with h1 h2 h3
  subst h1
  exact hr
/-- All are Notes. -/
theorem noted_l0 (l : List Ev) (hn : l.filter notNoteE = []) (hl : l.length ≤ 9223372036854775807) : ∀ (n i : Nat), i + n = l.length → PParseNotes.colophonlaw12_noted.l0 (n + 1) l i = some true := by
  intro n
  induction n with
  | zero =>
    intro i h
    rw [PParseNotes.colophonlaw12_noted.l0, if_neg (by omega)]
  | succ n ih =>
    intro i h
    obtain ⟨x, hx⟩ : ∃ x, l[i]? = some x := ⟨_, List.getElem?_eq_getElem (by omega)⟩
    have hr : (PParseNotes.rd_T46 l i).f0 = 4 := by
      have h1 : PParseNotes.rd_T46 l i = x := by simp [PParseNotes.rd_T46, List.getD_eq_getElem?_getD, hx]
      rw [h1]
      have h2 := List.filter_eq_nil_iff.1 hn x (List.mem_of_getElem? hx)
      simpa [notNoteE] using h2
    have hw : wrap64 ((i : Int) + 1) = ((i + 1 : Nat) : Int) := by unfold wrap64; omega
    rw [PParseNotes.colophonlaw12_noted.l0, if_pos (by omega), if_pos (by omega), if_pos hr, hw]
    exact ih (i + 1) (by omega)
theorem noted_f (l : List Ev) (hn : l.filter notNoteE = []) (hl : l.length ≤ 9223372036854775807) : PParseNotes.colophonlaw12_noted.f (l.length + 1) l = some true := by
  have := noted_l0 l hn hl l.length 0 (by omega)
  simpa [PParseNotes.colophonlaw12_noted.f] using this
/-- The events behind the first. -/
theorem noted_tail {V : World} {base g c : Nat} {e : Ev} {ns : List Ev} (h : V.ownsRow base 46 8 (.slice (some ⟨g, 0, none⟩) (ns.length + 1) c) (ns.length + 1) ((e :: ns).flatMap evCells)) (hn : ns.filter notNoteE = []) (h0 : ns ≠ []) :
    Calls Try.prog 15 #[.slice (some ⟨g, 8, none⟩) ns.length (c - 1)] V fun en w' => en = .returned (.bool true) ∧ Below V.heap.size V w' := by
  have hC := evs_C (l := e :: ns) h
  obtain ⟨_, _, hv, hc⟩ := row_slice h
  injection hv with _ _ h3
  subst h3
  have hd := Kd.C_drop (m := 1) hC (by simp) hc
  have hp : 0 < ns.length := List.length_pos_iff.2 h0
  rw [if_neg (by omega)] at hd
  have hmax := Kd.C_max hC
  simp only [List.length_cons] at hmax
  refine (PParseNotes.colophonlaw12_noted.calls (ns.length + 1) (some ⟨g, 8, none⟩) (c - 1) ns true V hd (by omega) (noted_f ns hn (by omega))).mono ?_
  rintro en w' ⟨he, ⟨m, rfl⟩⟩
  exact ⟨he, pw_below_drewN (Below.refl _ V) m⟩
/-- The loop that leaves the comments out. -/
structure FilI (W1 : World) (l : List Tk) (i : Nat) (wr : World) (v : Value) : Prop where
  below : Below W1.heap.size W1 wr
  row : wr.ownsRow W1.heap.size 35 6 v ((l.take i).filter notNote).length (((l.take i).filter notNote).flatMap tkCells)
theorem take_rd (l : List Tk) (i : Nat) (hi : i < l.length) : l.take (i + 1) = l.take i ++ [PParseNotes.rd_T35 l i] := by
  have h : PParseNotes.rd_T35 l i = l[i] := by simp [PParseNotes.rd_T35, List.getD_eq_getElem?_getD, hi]
  rw [h]
  simp
/-- The comparison. -/
structure CmpI (W3 : World) (E F : List Ev) (i : Nat) (wr : World) (k : Nat) : Prop where
  below : Below W3.heap.size W3 wr
  rest : (E.drop i).filter notNoteE = F.drop k
  kle : k ≤ F.length
end Go.Proofs.Ytmjbpgnjgblnmaa
