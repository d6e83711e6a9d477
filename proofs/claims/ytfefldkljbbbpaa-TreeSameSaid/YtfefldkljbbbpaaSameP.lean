/- The document's Same, in plain words: it answers what tree.Same answers; Same both ways round. -/
import Derived.Test.YtfefldkljbbbpaaPTreeSamex4
import Derived.Test.YtfefldkljbbbpaaNotP
set_option linter.unusedVariables false
set_option linter.unusedSimpArgs false
namespace Go.Proofs.Ytfefldkljbbbpaa
open Go.RowKit Go.Shelf Go.Proofs.YtfefldkljbbbpaaW.PrintWords Go.Proofs.YtfefldkljbbbpaaW.PrintLast Go.Proofs.YtfefldkljbbbpaaW.PrintMore

theorem comment_ref (t : Tk) : PTreeSame.colophonref13_Comment.f t.f0 t.f1 t.f2.f0 t.f2.f1 t.f2.f2 t.f3 = some (isNote t) := by
  unfold PTreeSame.colophonref13_Comment.f isNote
  by_cases h : t.f0 = 7
  · rw [if_pos h, h]; rfl
  · rw [if_neg h]
    by_cases h8 : t.f0 = 8
    · simp [h8]
    · simp [h, h8]
theorem nd_eta (x : Nd) : (⟨x.f0, ⟨x.f1.f0, x.f1.f1, ⟨x.f1.f2.f0, x.f1.f2.f1, x.f1.f2.f2⟩, x.f1.f3⟩, x.f2⟩ : Nd) = x := by
  obtain ⟨a, ⟨b, c, ⟨d, e, f⟩, g⟩, h⟩ := x
  rfl
theorem plain_l0 (l : List Nd) (hl : l.length ≤ 1073741824) : ∀ (d i : Nat) (acc : List Nd), l.length - i = d → i ≤ l.length → acc.length ≤ i → Go.Proofs.YtfefldkljbbbpaaW.PrintWords.Ev (fun k => PTreeSame.colophonref13_plain.l0 k l acc (i : Int)) (acc ++ plainL (l.drop i)) := by
  intro d
  induction d with
  | zero =>
    intro i acc hd hi ha
    rw [List.drop_of_length_le (by omega)]
    refine Go.Proofs.YtfefldkljbbbpaaW.PrintWords.Ev.step (f := fun _ => some acc) (fun k => ?_) ?_
    · rw [PTreeSame.colophonref13_plain.l0, if_neg (by omega)]
    · have : acc ++ plainL [] = acc := by simp [plainL]
      rw [this]; exact Go.Proofs.YtfefldkljbbbpaaW.PrintWords.Ev.now _
  | succ d ih =>
    intro i acc hd hi ha
    have hlt : i < l.length := by omega
    have hg : l[i]? = some l[i] := List.getElem?_eq_getElem hlt
    have hw : wrap64 ((i : Int) + 1) = ((i + 1 : Nat) : Int) := by rw [show ((i : Int) + 1) = ((i + 1 : Nat) : Int) by push_cast; rfl, w64 (by omega) (by omega)]
    rw [List.drop_eq_getElem_cons hlt]
    by_cases hk : isKid l[i] = true
    · have hp : plainL (l[i] :: l.drop (i + 1)) = l[i] :: plainL (l.drop (i + 1)) := List.filter_cons_of_pos hk
      refine Go.Proofs.YtfefldkljbbbpaaW.PrintWords.Ev.step (f := fun k => PTreeSame.colophonref13_plain.l0 k l (acc ++ [l[i]]) ((i + 1 : Nat) : Int)) (fun k => ?_) ?_
      · rw [PTreeSame.colophonref13_plain.l0, if_pos (by omega), if_pos (by omega), rd_nd l i _ hg]
        by_cases h0 : l[i].f0 = 0
        · have hn : isNote l[i].f1 = false := by simpa [isKid, h0] using hk
          rw [if_pos h0, comment_ref, Option.bind_some, hn, if_neg (by decide), if_pos (by omega), hw]
          exact congrArg (fun z => PTreeSame.colophonref13_plain.l0 k l (acc ++ [z]) ((i + 1 : Nat) : Int)) (nd_eta l[i])
        · rw [if_neg h0, if_pos (by omega), hw]
          exact congrArg (fun z => PTreeSame.colophonref13_plain.l0 k l (acc ++ [z]) ((i + 1 : Nat) : Int)) (nd_eta l[i])
      · rw [hp, show acc ++ l[i] :: plainL (l.drop (i + 1)) = (acc ++ [l[i]]) ++ plainL (l.drop (i + 1)) by simp]
        exact ih (i + 1) (acc ++ [l[i]]) (by omega) (by omega) (by simp; omega)
    · have hp : plainL (l[i] :: l.drop (i + 1)) = plainL (l.drop (i + 1)) := List.filter_cons_of_neg hk
      refine Go.Proofs.YtfefldkljbbbpaaW.PrintWords.Ev.step (f := fun k => PTreeSame.colophonref13_plain.l0 k l acc ((i + 1 : Nat) : Int)) (fun k => ?_) ?_
      · rw [PTreeSame.colophonref13_plain.l0, if_pos (by omega), if_pos (by omega), rd_nd l i _ hg]
        have h0 : l[i].f0 = 0 := Classical.byContradiction fun h => hk (by simp [isKid, h])
        have hn : isNote l[i].f1 = true := by simpa [isKid, h0] using hk
        rw [if_pos h0, comment_ref, Option.bind_some, hn, if_pos rfl, hw]
      · rw [hp]
        exact ih (i + 1) acc (by omega) (by omega) (by omega)
theorem plain_f (l : List Nd) (hl : l.length ≤ 1073741824) : Go.Proofs.YtfefldkljbbbpaaW.PrintWords.Ev (fun k => PTreeSame.colophonref13_plain.f k l) (plainL l) := by
  have := plain_l0 l hl l.length 0 [] (by omega) (by omega) (Nat.le_refl _)
  rw [List.drop_zero, List.nil_append] at this
  exact Go.Proofs.YtfefldkljbbbpaaW.PrintWords.Ev.congr (fun k => rfl) this
abbrev sF (k : Nat) (x y : Nd) : Option Bool := PTreeSame.colophonref13_Same.f k x.f0 x.f1.f0 x.f1.f1 x.f1.f2.f0 x.f1.f2.f1 x.f1.f2.f2 x.f1.f3 x.f2 y.f0 y.f1.f0 y.f1.f1 y.f1.f2.f0 y.f1.f2.f1 y.f1.f2.f2 y.f1.f3 y.f2
theorem sameref_l0 (p : Nd → Nd → Bool) (l m : List Nd) (hlm : l.length = m.length) (hl : l.length ≤ 1073741824) (hp : ∀ x ∈ l, ∀ y ∈ m, Go.Proofs.YtfefldkljbbbpaaW.PrintWords.Ev (fun k => sF k x y) (p x y)) : ∀ (d i : Nat), l.length - i = d → i ≤ l.length → Go.Proofs.YtfefldkljbbbpaaW.PrintWords.Ev (fun k => PTreeSame.colophonref13_Same.l0 k l m (i : Int)) (((l.drop i).zip (m.drop i)).all fun q => p q.1 q.2) := by
  intro d
  induction d with
  | zero =>
    intro i hd hi
    rw [List.drop_of_length_le (by omega)]
    refine Go.Proofs.YtfefldkljbbbpaaW.PrintWords.Ev.step (f := fun _ => some true) (fun k => ?_) (Go.Proofs.YtfefldkljbbbpaaW.PrintWords.Ev.now _)
    rw [PTreeSame.colophonref13_Same.l0, if_neg (by omega)]
  | succ d ih =>
    intro i hd hi
    have hlt : i < l.length := by omega
    have hmt : i < m.length := by omega
    have hg : l[i]? = some l[i] := List.getElem?_eq_getElem hlt
    have hh : m[i]? = some m[i] := List.getElem?_eq_getElem hmt
    have hw : wrap64 ((i : Int) + 1) = ((i + 1 : Nat) : Int) := by rw [show ((i : Int) + 1) = ((i + 1 : Nat) : Int) by push_cast; rfl, w64 (by omega) (by omega)]
    rw [List.drop_eq_getElem_cons hlt, List.drop_eq_getElem_cons hmt, List.zip_cons_cons, List.all_cons]
    refine Go.Proofs.YtfefldkljbbbpaaW.PrintWords.Ev.step (f := fun k => (sF k l[i] m[i]).bind fun t => if t = true then PTreeSame.colophonref13_Same.l0 k l m ((i + 1 : Nat) : Int) else some false) (fun k => ?_) ?_
    · rw [PTreeSame.colophonref13_Same.l0, if_pos (by omega), if_pos (by omega), if_pos (by omega), rd_nd l i _ hg, rd_nd m i _ hh, hw]
    · refine Go.Proofs.YtfefldkljbbbpaaW.PrintWords.Ev.bind (hp _ (List.getElem_mem _) _ (List.getElem_mem _)) ?_
      cases hq : p l[i] m[i] with
      | true =>
        rw [Bool.true_and]
        exact Go.Proofs.YtfefldkljbbbpaaW.PrintWords.Ev.congr (fun k => if_pos rfl) (ih (i + 1) (by omega) (by omega))
      | false =>
        rw [Bool.false_and]
        exact Go.Proofs.YtfefldkljbbbpaaW.PrintWords.Ev.congr (fun k => if_neg (by decide)) (Go.Proofs.YtfefldkljbbbpaaW.PrintWords.Ev.now _)
theorem plain_sub {l : List Nd} {x : Nd} (h : x ∈ plainL l) : x ∈ l := (List.mem_filter.1 h).1
theorem same_ref : ∀ (N : Nat) (x y : Nd), nds x ≤ N → nds x ≤ 1073741824 → nds y ≤ 1073741824 → Go.Proofs.YtfefldkljbbbpaaW.PrintWords.Ev (fun k => sF k x y) (sameN N x y) := by
  intro N
  induction N with
  | zero => intro x y h; have := nds_pos x; omega
  | succ N ih =>
    intro x y hN hx hy
    have hx2 := nds_eq x
    have hy2 := nds_eq y
    have hxl := ndsL_len x.f2
    have hyl := ndsL_len y.f2
    have hpx : (plainL x.f2).length ≤ x.f2.length := List.length_filter_le _ _
    rw [sameN]
    by_cases h0 : x.f0 = y.f0
    · rw [if_pos h0]
      by_cases h1 : x.f0 = 0
      · rw [if_pos h1]
        by_cases h2 : x.f1.f0 = y.f1.f0
        · refine Go.Proofs.YtfefldkljbbbpaaW.PrintWords.Ev.step (f := fun _ => some (x.f1.f1.toList == y.f1.f1.toList)) (fun k => ?_) ?_
          · show PTreeSame.colophonref13_Same.f _ _ _ _ _ _ _ _ _ _ _ _ _ _ _ _ _ = _
            rw [PTreeSame.colophonref13_Same.f, if_pos h0, if_pos h1, if_pos h2]
          · rw [h2, beq_self_eq_true, Bool.true_and]; exact Go.Proofs.YtfefldkljbbbpaaW.PrintWords.Ev.now _
        · refine Go.Proofs.YtfefldkljbbbpaaW.PrintWords.Ev.step (f := fun _ => some false) (fun k => ?_) ?_
          · show PTreeSame.colophonref13_Same.f _ _ _ _ _ _ _ _ _ _ _ _ _ _ _ _ _ = _
            rw [PTreeSame.colophonref13_Same.f, if_pos h0, if_pos h1, if_neg h2]
          · rw [beq_eq_false_iff_ne.2 h2, Bool.false_and]; exact Go.Proofs.YtfefldkljbbbpaaW.PrintWords.Ev.now _
      · rw [if_neg h1]
        refine Go.Proofs.YtfefldkljbbbpaaW.PrintWords.Ev.step (f := fun k => (PTreeSame.colophonref13_plain.f k x.f2).bind fun t146 => ((PTreeSame.colophonref13_plain.f k y.f2).bind fun t149 => (if (t146.length : Int) = (t149.length : Int) then (PTreeSame.colophonref13_Same.l0 k t146 t149 0) else (some false)))) (fun k => ?_) ?_
        · show PTreeSame.colophonref13_Same.f _ _ _ _ _ _ _ _ _ _ _ _ _ _ _ _ _ = _
          rw [PTreeSame.colophonref13_Same.f, if_pos h0, if_neg h1]
        · refine Go.Proofs.YtfefldkljbbbpaaW.PrintWords.Ev.bind (plain_f x.f2 (by omega)) (Go.Proofs.YtfefldkljbbbpaaW.PrintWords.Ev.bind (plain_f y.f2 (by omega)) ?_)
          by_cases hl : (plainL x.f2).length = (plainL y.f2).length
          · rw [hl, beq_self_eq_true, Bool.true_and]
            refine Go.Proofs.YtfefldkljbbbpaaW.PrintWords.Ev.congr (fun k => if_pos rfl) ?_
            have := sameref_l0 (sameN N) (plainL x.f2) (plainL y.f2) hl (by omega) (fun a ha b hb => by
              have h1 := ndsL_mem (plain_sub ha)
              have h2 := ndsL_mem (plain_sub hb)
              exact ih a b (by omega) (by omega) (by omega)) (plainL x.f2).length 0 (by omega) (by omega)
            rw [List.drop_zero, List.drop_zero] at this
            exact this
          · rw [beq_eq_false_iff_ne.2 hl, Bool.false_and]
            exact Go.Proofs.YtfefldkljbbbpaaW.PrintWords.Ev.congr (fun k => if_neg (by omega)) (Go.Proofs.YtfefldkljbbbpaaW.PrintWords.Ev.now _)
    · rw [if_neg h0]
      refine Go.Proofs.YtfefldkljbbbpaaW.PrintWords.Ev.step (f := fun _ => some false) (fun k => ?_) (Go.Proofs.YtfefldkljbbbpaaW.PrintWords.Ev.now _)
      show PTreeSame.colophonref13_Same.f _ _ _ _ _ _ _ _ _ _ _ _ _ _ _ _ _ = _
      rw [PTreeSame.colophonref13_Same.f, if_neg h0]
theorem all_symm {p q : Nd → Nd → Bool} (h : ∀ a b, p a b = q b a) : ∀ (l m : List Nd), ((l.zip m).all fun z => p z.1 z.2) = ((m.zip l).all fun z => q z.1 z.2)
  | [], _ => by simp
  | _ :: _, [] => by simp
  | a :: l, b :: m => by
    simp only [List.zip_cons_cons, List.all_cons]
    rw [h a b, all_symm h l m]
theorem sameN_symm : ∀ (k : Nat) (x y : Nd), sameN k x y = sameN k y x
  | 0, _, _ => rfl
  | k + 1, x, y => by
    rw [sameN, sameN]
    by_cases h0 : x.f0 = y.f0
    · rw [if_pos h0, if_pos h0.symm, h0, BEq.comm (a := x.f1.f0), BEq.comm (a := x.f1.f1.toList), BEq.comm (a := (plainL x.f2).length), all_symm (q := sameN k) (fun a b => sameN_symm k a b)]
    · rw [if_neg h0, if_neg (Ne.symm h0)]
end Go.Proofs.Ytfefldkljbbbpaa
