/- all: what holds from token to token. -/
import Derived.Test.YtmjbpgnjgblnmaaCls
import Derived.Test.YtmjbpgnjgblnmaaNN
import Derived.Deep.AppendLies
set_option linter.unusedVariables false
set_option linter.unusedSimpArgs false
namespace Go.Proofs.Ytmjbpgnjgblnmaa
open Go.RowKit Go.Proofs.YtmjbpgnjgblnmaaW.PrintWords Go.Proofs.YtmjbpgnjgblnmaaW.PrintLast Go.Proofs.YtmjbpgnjgblnmaaW.PrintMore

theorem turns_ends (c : ByteArray) : ∀ (n : Nat) (s : PSt) (r : Bool × PSt), turns c n s = some r → Ends s.todo → Ends r.2.todo
  | 0, s, r, h, _ => by simp [turns] at h
  | n + 1, s, r, h, hE => by
    rw [turns] at h
    split at h
    · rename_i s' hs
      exact turns_ends c n s' r h (turn_ends hs hE)
    all_goals
      rename_i s' hs
      cases h
      unfold turn at hs
      split at hs
      · cases hs <;> exact hE
      · rename_i x r hr
        rw [hr] at hE
        split at hs <;> cases hs <;> exact hE.tail
      · cases hs
      · rename_i f r hr
        rw [hr] at hE
        split at hs <;> cases hs <;> exact hE.tail
theorem token_ends (t : Tk) (todo : List WT) (depth : Int) (hE : Ends todo) : Ends (token t todo depth).2.todo := by
  obtain ⟨r, h1, h2⟩ := some_len (codeOf t) todo.length ⟨todo, [], depth⟩ rfl
  have h3 := turns_ends _ _ _ _ h1 hE
  obtain ⟨b, s⟩ := r
  unfold token
  rw [h1]
  cases b with
  | false => exact h3
  | true =>
    simp only
    split
    · exact h3
    · split <;> exact h3
theorem put_ends {p : Par} (t : Tk) (hE : Ends p.todo) : Ends (put p t).2.2.todo := by
  have h := token_ends t p.todo (preD p) hE
  unfold put
  split
  · exact hE
  split
  · exact hE
  split
  · exact hE
  simp only
  split <;> exact h
theorem fins_len : ∀ (l : List WT), (fins l).length ≤ l.length
  | [] => Nat.le_refl _
  | .fin k :: l => by have := fins_len l; simp only [fins, List.length_cons]; omega
  | .word _ :: l => by have := fins_len l; simp only [fins, List.length_cons]; omega
  | .rule _ :: l => by have := fins_len l; simp only [fins, List.length_cons]; omega
theorem put_evlen {p : Par} {op op' : List Nat} (h : PInv p op) (t : Tk) (he : (put p t).2.1 = 0) (h' : PInv (put p t).2.2 op') : (put p t).1.length ≤ 2003 := by
  have hpre : (preE p).length ≤ 1 := by unfold preE; split <;> simp
  have hop := h.opn
  have hm := h'.most
  have hf' := h'.fins
  unfold put at he hf' ⊢
  simp only [h.closed, Bool.false_eq_true, if_false, h.wrong, ne_eq, not_true_eq_false] at he hf' ⊢
  by_cases hn : isNote t = true
  · simp only [if_pos hn, List.length_append, List.length_singleton]
    omega
  · simp only [if_neg hn] at he hf' ⊢
    obtain ⟨cl, ops, X, h1, h2, h3, h4, h5, h6⟩ := token_law t p.todo (preD p)
    by_cases h0 : (token t p.todo (preD p)).1 = 0
    · simp only [h0, not_true_eq_false, if_false] at he hf' ⊢
      obtain ⟨h7, h8⟩ := h5 h0
      simp only [if_true] at hf'
      rw [h7] at hf'
      have hl := congrArg List.length hf'
      rw [List.length_append, List.length_reverse] at hl
      have hcl : (fins p.todo).length ≤ 1000 := by rw [h.fins0]; exact hop.2.1
      rw [h4, List.length_append] at hcl
      rw [List.length_append, List.length_append, List.length_map, h1, List.length_append, List.length_map, List.length_map, List.length_singleton]
      omega
    · simp only [h0, not_false_eq_true, if_true] at he
theorem row_news {w : World} {base g n cap size : Nat} {e : TypeId} {xs : List Value} (h : w.ownsRow base e size (.slice (some ⟨g, 0, none⟩) n cap) n xs) : ∀ j u, xs[j]? = some u → w.cell? ((⟨g, 0, none⟩ : Addr).add j) = some u := by
  intro j u hj
  rcases h.2 with ⟨he, _⟩ | ⟨g', cap', cur, he, hb, hh, hl, _, hs, ht⟩
  · cases he
  · injection he with he
    injection he with he
    injection he with he
    subst he
    have hjl := (List.getElem?_eq_some_iff.1 hj).1
    rw [h.1] at hjl
    have hadd : (⟨g, 0, none⟩ : Addr).add j = ⟨g, j, none⟩ := by unfold Addr.add; split <;> simp_all
    rw [hadd, cell_of_row _ _ _ _ _ _ hh]
    rw [← ht, List.getElem?_take_of_lt hjl, Array.getElem?_toList] at hj
    exact hj
theorem evs_one (l : List Ev) : ∀ v ∈ l.flatMap evCells, v.oneCell' = true := by
  intro v hv
  obtain ⟨e, _, he⟩ := List.mem_flatMap.1 hv
  exact evCells_one e v he
theorem evs_len (l : List Ev) : (l.flatMap evCells).length = l.length * 8 := by
  induction l with
  | nil => rfl
  | cons a l ih => rw [List.flatMap_cons, List.length_append, evCells_len, ih, List.length_cons]; omega
/-- Between two tokens. -/
structure AllI (p : Nat) (w : World) (l : List Tk) (i : Nat) (wr : World) (P : Par) (op : List Nat) (acc : List Ev) (es : List Ev) (vt ve vo : Value) : Prop where
  eq : allP newPar l = (acc ++ (allP P (l.drop i)).1, (allP P (l.drop i)).2.1, i + (allP P (l.drop i)).2.2)
  inv : PInv P op
  ends : Ends P.todo
  at_ : PAt wr p P.todo es P.depth P.begun P.wrong P.closed vt ve
  below : Below w.heap.size w wr
  out : wr.ownsRow w.heap.size 46 8 vo acc.length (acc.flatMap evCells)
  ap : ∀ g, vo.ownBlock = some g → ve.ownBlock ≠ some g
  bt : P.todo.length ≤ 6 + 77 * i
  ba : acc.length ≤ 2003 * i
  pw : w.heap.size ≤ p
theorem AllI.pin {p : Nat} {w : World} {l : List Tk} {i : Nat} {wr : World} {P : Par} {op : List Nat} {acc es : List Ev} {vt ve vo : Value} (H : AllI p w l i wr P op acc es vt ve vo) (hi : i ≤ 1048576) : PIn wr p P es vt ve :=
  ⟨H.at_, H.ends, by have := H.bt; omega, by rw [H.inv.depth]; omega, by rw [H.inv.depth]; have := H.inv.most; omega⟩
/-- The parser moved; the row of events that was gathered did not. -/
theorem AllI.outs {p : Nat} {w : World} {l : List Tk} {i : Nat} {wr w2 : World} {P : Par} {op : List Nat} {acc es : List Ev} {vt ve vo vt2 ve2 : Value} (H : AllI p w l i wr P op acc es vt ve vo) (hs : PStep p vt ve wr vt2 ve2 w2) :
    w2.ownsRow w.heap.size 46 8 vo acc.length (acc.flatMap evCells) ∧ Below w.heap.size w w2 ∧ (∀ g, vo.ownBlock = some g → ve2.ownBlock ≠ some g) := by
  refine ⟨own_move H.out (fun q hq => ?_), ⟨hs.os.trans H.below.os, hs.tape.trans H.below.tape, hs.output.trans H.below.output, Nat.le_trans H.below.size hs.size, fun q hq => ?_⟩, fun g hg e => ?_⟩
  · obtain ⟨cs, hc⟩ := own_typed H.out q hq
    refine hs.block q (blk_lt hc) (fun e => ?_) (fun e => ?_) (fun e => H.ap q hq e.symm)
    · rw [e, H.at_.box] at hc; exact absurd (cells_ty hc) (by decide)
    · obtain ⟨cs2, hc2⟩ := own_typed H.at_.todo q e.symm
      rw [hc] at hc2; exact absurd (cells_ty hc2) (by decide)
  · refine (hs.block q (Nat.lt_of_lt_of_le hq H.below.size) (by have := H.pw; omega) (fun e => ?_) (fun e => ?_)).trans (H.below.block q hq)
    · have := own_base H.at_.todo q e.symm
      have := H.pw
      omega
    · have := own_base H.at_.evs q e.symm
      have := H.pw
      omega
  · rcases hs.fe g e with h | h
    · exact H.ap g hg h
    · have := own_lt H.out g hg
      omega
/-- Behind a token and the append of its events. -/
theorem AllI.next {p : Nat} {w : World} {l : List Tk} {i : Nat} {wr w2 w3 : World} {P : Par} {op : List Nat} {acc es es2 : List Ev} {vt ve vo vt2 ve2 : Value} (H : AllI p w l i wr P op acc es vt ve vo) {t : Tk} (ht : l.drop i = t :: l.drop (i + 1)) (he : (put P t).2.1 = 0)
    (hA : PAt w2 p (put P t).2.2.todo es2 (put P t).2.2.depth (put P t).2.2.begun (put P t).2.2.wrong (put P t).2.2.closed vt2 ve2) (hs : PStep p vt ve wr vt2 ve2 w2) {g1 c1 : Nat}
    (ho : w3.ownsRow w.heap.size 46 8 (.slice (some ⟨g1, 0, none⟩) (acc.length + (put P t).1.length) c1) (acc.length + (put P t).1.length) (acc.flatMap evCells ++ (put P t).1.flatMap evCells)) (hg : w2.grownBy w3 vo.ownBlock) (hat : vo.ownBlock = some g1 ∨ g1 = w2.heap.size) :
    ∃ op', AllI p w l (i + 1) w3 (put P t).2.2 op' (acc ++ (put P t).1) es2 vt2 ve2 (.slice (some ⟨g1, 0, none⟩) (acc.length + (put P t).1.length) c1) := by
  obtain ⟨op', hinv, -, -, -⟩ := put_nest H.inv t [] he
  obtain ⟨r1, r2, r3⟩ := H.outs hs
  have hvo : ∀ q, vo.ownBlock = some q → w.heap.size ≤ q := fun q hq => own_base H.out q hq
  refine ⟨op', ?_, hinv, put_ends t H.ends, ⟨?_, ?_, ?_⟩, ⟨hg.os.trans r2.os, hg.tape.trans r2.tape, hg.output.trans r2.output, Nat.le_trans r2.size hg.size, fun q hq => (hg.block q (Nat.lt_of_lt_of_le hq r2.size) (fun e => ?_)).trans (r2.block q hq)⟩, ?_, ?_, ?_, ?_, H.pw⟩
  · rw [H.eq, ht, all_cons_ok he]
    simp only [Prod.mk.injEq, List.append_assoc, true_and]
    omega
  · refine (hg.block p (blk_lt hA.box) (fun e => ?_)).trans hA.box
    obtain ⟨cs, hc⟩ := own_typed r1 p e.symm
    rw [hA.box] at hc; exact absurd (cells_ty hc) (by decide)
  · refine own_move hA.todo (fun q hq => hg.block q (own_lt hA.todo q hq) (fun e => ?_))
    obtain ⟨cs, hc⟩ := own_typed r1 q e.symm
    obtain ⟨cs2, hc2⟩ := own_typed hA.todo q hq
    rw [hc] at hc2; exact absurd (cells_ty hc2) (by decide)
  · exact own_move hA.evs (fun q hq => hg.block q (own_lt hA.evs q hq) (fun e => r3 q e.symm hq))
  · have := hvo q e.symm
    omega
  · rw [List.length_append, List.flatMap_append]
    exact ho
  · intro g hg' e
    have h1 : g1 = g := by simpa [Value.ownBlock] using hg'
    subst h1
    rcases hat with h | h
    · exact r3 g1 h e
    · have := own_lt hA.evs g1 e
      omega
  · have := put_len P t
    have := H.bt
    omega
  · have := put_evlen H.inv t he hinv
    have := H.ba
    rw [List.length_append]
    omega
end Go.Proofs.Ytmjbpgnjgblnmaa
