/- The plain laws of ParseNests and ParseNotes. -/
import Derived.Test.YtmjbpgnjgblnmaaPut
/- ParseNests in plain words: the events of all nest. -/
set_option linter.unusedVariables false
namespace Go.Proofs.Ytmjbpgnjgblnmaa
open Classical in
/-- The law's loop over the events: the open nodes (innermost first), the tokens that are still to come. -/
noncomputable def nest : Bool → List Int → List Tk → List Ev → Option (List Int × List Tk)
  | _, o, l, [] => some (o, l)
  | b, o, l, e :: r =>
    if e.f0 = 1 then (if e.f2 = noTk ∧ (b = true ↔ e.f1 = 1) ∧ o.length + 1 ≤ 1000 then nest false (e.f1 :: o) l r else none)
    else if e.f0 = 3 then (match o with
      | [] => none
      | k :: o' => if k = e.f1 ∧ e.f2 = noTk then nest false o' l r else none)
    else if e.f0 = 2 ∨ e.f0 = 4 then (match l with
      | [] => none
      | t :: l' => if e.f2 = t ∧ e.f1 = 0 ∧ (e.f0 = 4 ↔ isNote t = true) ∧ o ≠ [] then nest false o l' r else none)
    else none
open Classical in
theorem nest_cons (b : Bool) (o : List Int) (l : List Tk) (e : Ev) (r : List Ev) : nest b o l (e :: r) =
    if e.f0 = 1 then (if e.f2 = noTk ∧ (b = true ↔ e.f1 = 1) ∧ o.length + 1 ≤ 1000 then nest false (e.f1 :: o) l r else none)
    else if e.f0 = 3 then (match o with
      | [] => none
      | k :: o' => if k = e.f1 ∧ e.f2 = noTk then nest false o' l r else none)
    else if e.f0 = 2 ∨ e.f0 = 4 then (match l with
      | [] => none
      | t :: l' => if e.f2 = t ∧ e.f1 = 0 ∧ (e.f0 = 4 ↔ isNote t = true) ∧ o ≠ [] then nest false o l' r else none)
    else none := by
  rw [nest.eq_def]
theorem nest_app : ∀ (x y : List Ev) (b : Bool) (o o' : List Int) (l l' : List Tk), nest b o l x = some (o', l') → x ≠ [] → nest b o l (x ++ y) = nest false o' l' y
  | [], y, b, o, o', l, l', h, hx => absurd rfl hx
  | e :: r, y, b, o, o', l, l', h, hx => by
    have key : ∀ (o1 : List Int) (l1 : List Tk), nest false o1 l1 r = some (o', l') → nest false o1 l1 (r ++ y) = nest false o' l' y := fun o1 l1 h1 => by
      cases r with
      | nil => simp only [nest, Option.some.injEq, Prod.mk.injEq] at h1; obtain ⟨rfl, rfl⟩ := h1; rfl
      | cons a r => exact nest_app (a :: r) y false o1 o' l1 l' h1 (by simp)
    rw [List.cons_append]
    rw [nest_cons] at h ⊢
    by_cases h1 : e.f0 = 1
    · rw [if_pos h1] at h ⊢
      by_cases hc : e.f2 = noTk ∧ (b = true ↔ e.f1 = 1) ∧ o.length + 1 ≤ 1000
      · rw [if_pos hc] at h ⊢; exact key _ _ h
      · rw [if_neg hc] at h; cases h
    · rw [if_neg h1] at h ⊢
      by_cases h3 : e.f0 = 3
      · rw [if_pos h3] at h ⊢
        cases o with
        | nil => cases h
        | cons k o1 =>
          simp only at h ⊢
          by_cases hc : k = e.f1 ∧ e.f2 = noTk
          · rw [if_pos hc] at h ⊢; exact key _ _ h
          · rw [if_neg hc] at h; cases h
      · rw [if_neg h3] at h ⊢
        by_cases h2 : e.f0 = 2 ∨ e.f0 = 4
        · rw [if_pos h2] at h ⊢
          cases l with
          | nil => cases h
          | cons t l1 =>
            simp only at h ⊢
            by_cases hc : e.f2 = t ∧ e.f1 = 0 ∧ (e.f0 = 4 ↔ isNote t = true) ∧ o ≠ []
            · rw [if_pos hc] at h ⊢; exact key _ _ h
            · rw [if_neg hc] at h; cases h
        · rw [if_neg h2] at h; cases h
/-- Nodes are closed. -/
theorem nest_closes : ∀ (cl : List Nat) (X : List Nat) (l : List Tk), nest false ((cl ++ X).map (fun n : Nat => (n : Int))) l ((cl.map (fun k => (3, k))).map evOf) = some (X.map (fun n : Nat => (n : Int)), l)
  | [], X, l => rfl
  | k :: cl, X, l => by
    simp only [List.map_cons, List.cons_append]
    rw [nest_cons, if_neg (by simp [evOf]), if_pos (by simp [evOf])]
    simp only
    rw [if_pos ⟨rfl, rfl⟩]
    exact nest_closes cl X l
/-- Nodes are opened, none of them Program. -/
theorem nest_opens : ∀ (op : List Nat) (X : List Nat) (l : List Tk), (∀ k ∈ op, k ≠ 1) → X.length + op.length ≤ 1000 → nest false (X.map (fun n : Nat => (n : Int))) l ((op.map (fun k => (1, k))).map evOf) = some ((op.reverse ++ X).map (fun n : Nat => (n : Int)), l)
  | [], X, l, _, _ => rfl
  | k :: op, X, l, hk, hm => by
    have hk1 : k ≠ 1 := hk k (by simp)
    simp only [List.length_cons] at hm
    simp only [List.map_cons]
    rw [nest_cons, if_pos (by simp [evOf])]
    rw [if_pos ⟨rfl, ⟨fun h => (by cases h), fun h => absurd (show k = 1 by have h' : (k : Int) = 1 := h; omega) hk1⟩, by rw [List.length_map]; omega⟩]
    have := nest_opens op (k :: X) l (fun j hj => hk j (List.mem_cons_of_mem _ hj)) (by simp only [List.length_cons]; omega)
    rw [List.reverse_cons, List.append_assoc, List.singleton_append]
    exact this
end Go.Proofs.Ytmjbpgnjgblnmaa

/- Program's end stays the last thing to come. -/
set_option linter.unusedVariables false
namespace Go.Proofs.Ytmjbpgnjgblnmaa
def LastFin (s : PSt) : Prop := s.todo = [] ∨ ∃ l, s.todo = l ++ [.fin 1]
theorem effs_todo : ∀ (l : List Eff) (s : PSt), ∃ q, (effs s l).todo = q ++ s.todo
  | [], s => ⟨[], rfl⟩
  | e :: l, s => by
    obtain ⟨q, hq⟩ := effs_todo l (Eff.act s e)
    have : (effs s (e :: l)).todo = q ++ (Eff.act s e).todo := hq
    rw [this]
    cases e with
    | push w => exact ⟨q ++ w, by rw [List.append_assoc]; rfl⟩
    | opn k w => exact ⟨q ++ (w ++ [.fin k]), by simp [Eff.act]⟩
theorem turns_last (c : ByteArray) : ∀ (n : Nat) (s : PSt) (r : Bool × PSt), LastFin s → turns c n s = some r → LastFin r.2
  | 0, s, r, h, hr => by simp [turns] at hr
  | n + 1, s, r, h, hr => by
    have hne : ∀ t q, s.todo = t :: q → LastFin { s with todo := q } := by
      intro t q ht
      rcases h with h | ⟨l, h⟩
      · rw [h] at ht; cases ht
      · cases l with
        | nil => rw [h] at ht; simp only [List.nil_append, List.cons.injEq] at ht; exact .inl ht.2.symm
        | cons a l => rw [h] at ht; simp only [List.cons_append, List.cons.injEq] at ht; exact .inr ⟨l, ht.2.symm⟩
    rw [turns] at hr
    unfold turn at hr
    cases ht : s.todo with
    | nil => rw [ht] at hr; simp only [Option.some.injEq] at hr; subst hr; exact h
    | cons t q =>
      rw [ht] at hr
      have hq := hne t q ht
      cases t with
      | word x =>
        by_cases hx : x = c
        · simp only [if_pos hx, Option.some.injEq] at hr; subst hr; exact hq
        · simp only [if_neg hx, Option.some.injEq] at hr; subst hr; exact hq
      | fin k => exact turns_last c n { todo := q, evs := s.evs ++ [(3, k)], depth := s.depth - 1 } r hq hr
      | rule f =>
        cases he : f.expand c with
        | none => simp only [he, Option.some.injEq] at hr; subst hr; exact hq
        | some l =>
          simp only [he] at hr
          refine turns_last c n _ r ?_ hr
          obtain ⟨v, hv⟩ := effs_todo l { s with todo := q }
          rcases hq with hq | ⟨m, hm⟩
          · rcases h with h | ⟨l', h⟩
            · rw [h] at ht; cases ht
            · simp only at hq
              rw [h, hq] at ht
              cases l' with
              | nil => cases ht
              | cons a l' => simp at ht
          · simp only at hm
            exact .inr ⟨v ++ m, by rw [hv]; simp only [hm, List.append_assoc]⟩
theorem fins_snoc : ∀ (l : List WT), fins (l ++ [.fin 1]) = fins l ++ [1]
  | [] => rfl
  | .fin k :: r => by rw [List.cons_append, fins, fins_snoc r, fins]; rfl
  | .word s :: r => by rw [List.cons_append, fins, fins_snoc r, fins]
  | .rule f :: r => by rw [List.cons_append, fins, fins_snoc r, fins]
theorem token_last {t : Tk} {todo : List WT} {d : Int} (h : ∃ l, todo = l ++ [.fin 1]) (hq : (token t todo d).1 = 0) : ∃ l, (token t todo d).2.todo = l ++ [.fin 1] := by
  have key : ∀ r, turns (codeOf t) (todo.length + 7) ⟨todo, [], d⟩ = some r → LastFin r.2 := fun r hr => turns_last _ _ _ r (.inr h) hr
  unfold token at hq ⊢
  cases hr : turns (codeOf t) (todo.length + 7) ⟨todo, [], d⟩ with
  | none => rw [hr] at hq; simp at hq
  | some r =>
    obtain ⟨b, s⟩ := r
    rw [hr] at hq
    have hl := key _ hr
    cases b with
    | false => simp at hq
    | true =>
      simp only at hq ⊢
      by_cases ht : s.todo = []
      · rw [if_pos ht] at hq; simp at hq
      · rw [if_neg ht] at hq ⊢
        rcases hl with hl | hl
        · exact absurd hl ht
        · split
          · exact hl
          · exact hl
end Go.Proofs.Ytmjbpgnjgblnmaa

/- What a call of Put does, in plain words. -/
set_option linter.unusedVariables false
namespace Go.Proofs.Ytmjbpgnjgblnmaa
def cst (l : List Nat) : List Int := l.map (fun n : Nat => (n : Int))
/-- The open nodes at a token, Program among them. -/
def opn0 (p : Par) (op : List Nat) : List Nat := if p.begun then op else [1]
theorem PInv.pre {p : Par} {op : List Nat} (h : PInv p op) (l : List Tk) (y : List Ev) : nest (!p.begun) (cst op) l (preE p ++ y) = nest false (cst (opn0 p op)) l y := by
  unfold preE opn0
  cases hb : p.begun with
  | true => rfl
  | false =>
    have ho := h.start hb
    subst ho
    simp only [Bool.not_false, Bool.false_eq_true, if_false, List.cons_append, List.nil_append]
    rw [nest_cons, if_pos (by simp [evOf]), if_pos ⟨rfl, ⟨fun _ => rfl, fun _ => rfl⟩, by simp [cst]⟩]
    rfl
theorem PInv.fins0 {p : Par} {op : List Nat} (h : PInv p op) : Go.Proofs.Ytmjbpgnjgblnmaa.fins p.todo = opn0 p op := h.fins
theorem PInv.opn {p : Par} {op : List Nat} (h : PInv p op) : opn0 p op ≠ [] ∧ (opn0 p op).length ≤ 1000 ∧ preD p = (opn0 p op).length ∧ ∃ r, opn0 p op = r ++ [1] := by
  unfold opn0 preD
  cases hb : p.begun with
  | true =>
    obtain ⟨r, hr⟩ := h.last hb
    refine ⟨by simp only [if_true]; rw [hr]; simp, h.most, h.depth, r, hr⟩
  | false =>
    have ho := h.start hb
    have hd := h.depth
    rw [ho] at hd
    exact ⟨by simp, by simp, by simp [hd], [], rfl⟩
theorem nest_one (o : List Nat) (t : Tk) (rest : List Tk) (e : Ev) (h2 : e.f2 = t) (h1 : e.f1 = 0) (hk : (e.f0 = 4 ∧ isNote t = true) ∨ (e.f0 = 2 ∧ isNote t = false)) (ho : o ≠ []) : nest false (cst o) (t :: rest) [e] = some (cst o, rest) := by
  have ho' : cst o ≠ [] := by cases o with | nil => exact absurd rfl ho | cons a o => simp [cst]
  rcases hk with ⟨h0, hn⟩ | ⟨h0, hn⟩
  · rw [nest_cons, if_neg (by rw [h0]; decide), if_neg (by rw [h0]; decide), if_pos (by rw [h0]; decide)]
    simp only
    rw [if_pos ⟨h2, h1, ⟨fun _ => hn, fun _ => h0⟩, ho'⟩]
    rfl
  · rw [nest_cons, if_neg (by rw [h0]; decide), if_neg (by rw [h0]; decide), if_pos (by rw [h0]; decide)]
    simp only
    rw [if_pos ⟨h2, h1, ⟨fun h => (by rw [h0] at h; cases h), fun h => (by rw [hn] at h; cases h)⟩, ho'⟩]
    rfl
/-- A call that goes well: its events nest; the invariant holds behind it. -/
theorem put_nest {p : Par} {op : List Nat} (h : PInv p op) (t : Tk) (rest : List Tk) (he : (put p t).2.1 = 0) : ∃ op', PInv (put p t).2.2 op' ∧ (put p t).2.2.begun = true ∧ (put p t).1 ≠ [] ∧ nest (!p.begun) (cst op) (t :: rest) (put p t).1 = some (cst op', rest) := by
  obtain ⟨hne, hmx, hpd, r0, hr0⟩ := h.opn
  unfold put at he ⊢
  simp only [h.closed, Bool.false_eq_true, if_false, h.wrong, ne_eq, not_true_eq_false] at he ⊢
  by_cases hn : isNote t = true
  · simp only [if_pos hn] at he ⊢
    refine ⟨opn0 p op, ⟨rfl, rfl, h.fins0, fun h' => (by cases h'), fun _ => ⟨r0, hr0⟩, hpd, hmx, h.lastf, fun h' => (by cases h')⟩, trivial, by simp, ?_⟩
    rw [h.pre]
    exact nest_one _ t rest _ rfl rfl (.inl ⟨rfl, hn⟩) hne
  · simp only [if_neg hn] at he ⊢
    obtain ⟨cl, ops, X, h1, h2, h3, h4, h5, h6⟩ := token_law t p.todo (preD p)
    have hq : (token t p.todo (preD p)).1 = 0 := by
      by_cases hq : (token t p.todo (preD p)).1 = 0
      · exact hq
      · rw [if_pos hq] at he; exact absurd he hq
    rw [if_neg (by rw [hq]; simp)]
    obtain ⟨h7, h8⟩ := h5 hq
    obtain ⟨m, hm⟩ := token_last (d := preD p) h.lastf hq
    have hX : opn0 p op = cl ++ X := by rw [← h.fins0]; exact h4
    have hop : ops.reverse ++ X = fins m ++ [1] := by rw [← h7, hm, fins_snoc]
    have hlen : (token t p.todo (preD p)).2.depth = ((ops.reverse ++ X).length : Nat) := by
      rw [h2, hpd, hX]
      simp only [List.length_append, List.length_reverse]
      omega
    have hlm : (ops.reverse ++ X).length ≤ 1000 := by rw [hlen] at h8; omega
    refine ⟨ops.reverse ++ X, ⟨rfl, rfl, h7, fun h' => (by cases h'), fun _ => ⟨_, hop⟩, hlen, hlm, ⟨m, hm⟩, fun h' => (by cases h')⟩, rfl, by simp, ?_⟩
    rw [List.append_assoc, h.pre, h1, List.map_append, List.append_assoc, hX]
    have e1 : nest false (cst (cl ++ X)) (t :: rest) ((cl.map (fun k => (3, k))).map evOf) = some (cst X, t :: rest) := nest_closes cl X (t :: rest)
    have e2 : nest false (cst X) (t :: rest) ((ops.map (fun k => (1, k))).map evOf) = some (cst (ops.reverse ++ X), t :: rest) := nest_opens ops X (t :: rest) h3 (by simpa [Nat.add_comm] using hlm)
    have e3 := nest_one (ops.reverse ++ X) t rest (leafE t) rfl rfl (.inr ⟨rfl, by simpa using hn⟩) (by rw [hop]; simp)
    have e23 : nest false (cst X) (t :: rest) ((ops.map (fun k => (1, k))).map evOf ++ [leafE t]) = some (cst (ops.reverse ++ X), rest) := by
      cases hops : (ops.map (fun k => (1, k))).map evOf with
      | nil =>
        have : ops = [] := by simpa using hops
        subst this
        exact e3
      | cons a r =>
        rw [← hops, nest_app _ _ false _ _ _ _ e2 (by rw [hops]; simp)]
        exact e3
    cases hcl : (cl.map (fun k => (3, k))).map evOf with
    | nil =>
      have : cl = [] := by simpa using hcl
      subst this
      exact e23
    | cons a r =>
      rw [← hcl, nest_app _ _ false _ _ _ _ e1 (by rw [hcl]; simp)]
      exact e23
theorem put_err {p : Par} {op : List Nat} (h : PInv p op) (t : Tk) : (put p t).2.1 = 0 ∨ (put p t).2.1 = 120 ∨ (put p t).2.1 = 122 := by
  unfold put
  simp only [h.closed, Bool.false_eq_true, if_false, h.wrong, ne_eq, not_true_eq_false]
  by_cases hn : isNote t = true
  · exact .inl (by simp only [if_pos hn])
  · simp only [if_neg hn]
    obtain ⟨cl, ops, X, h1, h2, h3, h4, h5, h6⟩ := token_law t p.todo (preD p)
    by_cases hq : (token t p.todo (preD p)).1 = 0
    · exact .inl (by rw [if_neg (by rw [hq]; simp)])
    · rw [if_pos hq]
      exact h6
/-- All: its events nest, the tokens come in their order. -/
theorem all_nest : ∀ (l : List Tk) (p : Par) (op : List Nat), PInv p op → ∃ op', nest (!p.begun) (cst op) l (allP p l).1 = some (cst op', l.drop (allP p l).2.2) ∧ (allP p l).2.2 ≤ l.length ∧
    ((allP p l).2.1 = 0 → (allP p l).2.2 = l.length ∧ op' = []) ∧ ((allP p l).2.1 ≠ 0 → ((allP p l).2.1 = 121 ↔ (allP p l).2.2 = l.length) ∧ ((allP p l).2.1 = 120 ∨ (allP p l).2.1 = 121 ∨ (allP p l).2.1 = 122))
  | [], p, op, h => by
    simp only [allP]
    unfold closeP
    simp only [h.closed, Bool.false_eq_true, if_false, h.wrong, ne_eq, not_true_eq_false]
    by_cases hl : p.todo.length = 1
    · rw [if_neg (by simpa using hl)]
      obtain ⟨m, hm⟩ := h.lastf
      have hm0 : m = [] := by rw [hm] at hl; simpa using hl
      subst hm0
      have hb : p.begun = true := by
        cases hb : p.begun with
        | true => rfl
        | false => exact absurd hl (h.fresh hb)
      have hop : op = [1] := by
        have := h.fins0
        rw [hm] at this
        unfold opn0 at this
        rw [hb] at this
        exact this.symm
      subst hop
      refine ⟨[], ?_, by simp, fun _ => ⟨rfl, rfl⟩, fun h' => by simp at h'⟩
      rw [hb]
      simp only [Bool.not_true]
      rw [nest_cons, if_neg (by simp [evOf]), if_pos (by simp [evOf])]
      simp only [cst, List.map_cons, List.map_nil]
      rw [if_pos ⟨rfl, rfl⟩]
      rfl
    · rw [if_pos hl]
      exact ⟨op, rfl, by simp, fun h' => by simp at h', fun _ => ⟨⟨fun _ => rfl, fun _ => rfl⟩, .inr (.inl rfl)⟩⟩
  | t :: l, p, op, h => by
    rw [allP]
    by_cases he : (put p t).2.1 = 0
    · rw [if_neg (by simpa using he)]
      obtain ⟨op1, hi, hb, hx, hn⟩ := put_nest h t l he
      obtain ⟨op', h1, h2, h3, h4⟩ := all_nest l (put p t).2.2 op1 hi
      rw [hb] at h1
      refine ⟨op', ?_, by simp only [List.length_cons]; omega, fun h' => ?_, fun h' => ?_⟩
      · simp only
        rw [nest_app _ _ _ _ _ _ _ hn hx, List.drop_succ_cons]
        exact h1
      · obtain ⟨a, b⟩ := h3 h'
        exact ⟨by simp only [List.length_cons]; omega, b⟩
      · obtain ⟨a, b⟩ := h4 h'
        refine ⟨?_, b⟩
        simp only [List.length_cons]
        rw [a]
        omega
    · rw [if_pos he]
      refine ⟨op, rfl, by simp, fun h' => absurd h' he, fun _ => ?_⟩
      rcases put_err h t with h0 | h0 | h0
      · exact absurd h0 he
      · simp only [h0]
        exact ⟨⟨fun h' => by simp at h', fun h' => by simp at h'⟩, .inl trivial⟩
      · simp only [h0]
        exact ⟨⟨fun h' => by simp at h', fun h' => by simp at h'⟩, .inr (.inr trivial)⟩
end Go.Proofs.Ytmjbpgnjgblnmaa

/- ParseNotes in plain words: comments change no other event, nor what is wrong. -/
set_option linter.unusedVariables false
namespace Go.Proofs.Ytmjbpgnjgblnmaa
def notNoteE (e : Ev) : Bool := !(e.f0 == 4)
def notNote (t : Tk) : Bool := !(isNote t)
theorem put_note {p : Par} (hc : p.closed = false) (hw : p.wrong = 0) {t : Tk} (hn : isNote t = true) : put p t = (preE p ++ [noteE t], 0, { p with depth := preD p, begun := true }) := by
  unfold put
  simp only [hc, Bool.false_eq_true, if_false, hw, ne_eq, not_true_eq_false, if_pos hn]
theorem put_note_begun {p : Par} (hb : p.begun = true) (hc : p.closed = false) (hw : p.wrong = 0) {t : Tk} (hn : isNote t = true) : put p t = ([noteE t], 0, p) := by
  rw [put_note hc hw hn]
  unfold preE preD
  rw [hb]
  obtain ⟨a, b, c, d, e⟩ := p
  simp only at hb
  subst hb
  rfl
theorem notNote_leaf (t : Tk) : notNoteE (leafE t) = true := rfl
theorem notNote_ev (p : Nat × Nat) (h : p.1 ≠ 4) : notNoteE (evOf p) = true := by
  unfold notNoteE evOf
  have : ¬ ((p.1 : Int) = 4) := by omega
  simp [this]
theorem all_cons_ok {p : Par} {t : Tk} {r : List Tk} (he : (put p t).2.1 = 0) : allP p (t :: r) = ((put p t).1 ++ (allP (put p t).2.2 r).1, (allP (put p t).2.2 r).2.1, (allP (put p t).2.2 r).2.2 + 1) := by
  rw [allP, if_neg (by simpa using he)]
theorem all_cons_bad {p : Par} {t : Tk} {r : List Tk} (he : (put p t).2.1 ≠ 0) : allP p (t :: r) = ([], (put p t).2.1, 0) := by
  rw [allP, if_pos he]
/-- The events of a token that is no comment hold no Note. -/
theorem put_plain {p : Par} {op : List Nat} (h : PInv p op) {t : Tk} (hn : isNote t = false) : ((put p t).1).filter notNoteE = (put p t).1 := by
  rw [List.filter_eq_self]
  intro e he
  unfold put at he
  simp only [h.closed, Bool.false_eq_true, if_false, h.wrong, ne_eq, not_true_eq_false, hn] at he
  obtain ⟨cl, ops, X, h1, -⟩ := token_law t p.todo (preD p)
  rw [h1] at he
  split at he
  · cases he
  · simp only [List.mem_append, List.mem_map, List.mem_singleton] at he
    rcases he with (he | ⟨a, (⟨k, _, rfl⟩ | ⟨k, _, rfl⟩), rfl⟩) | rfl
    · unfold preE at he
      split at he
      · cases he
      · rw [List.mem_singleton.1 he]; rfl
    · exact notNote_ev _ (show 3 ≠ 4 by decide)
    · exact notNote_ev _ (show 1 ≠ 4 by decide)
    · rfl
/-- Behind the beginning. -/
theorem all_notes : ∀ (l : List Tk) (p : Par) (op : List Nat), PInv p op → p.begun = true → ((allP p l).1).filter notNoteE = (allP p (l.filter notNote)).1 ∧ (allP p l).2.1 = (allP p (l.filter notNote)).2.1
  | [], p, op, h, hb => by
    refine ⟨?_, rfl⟩
    simp only [allP, List.filter_nil]
    unfold closeP
    simp only [h.closed, Bool.false_eq_true, if_false, h.wrong, ne_eq, not_true_eq_false]
    split <;> rfl
  | t :: r, p, op, h, hb => by
    by_cases hn : isNote t = true
    · have hp := put_note_begun hb h.closed h.wrong hn
      rw [all_cons_ok (by rw [hp])]
      rw [hp]
      simp only [List.filter_cons, List.cons_append, List.nil_append, show notNote t = false by simp [notNote, hn], show notNoteE (noteE t) = false from rfl, Bool.false_eq_true, if_false]
      exact all_notes r p op h hb
    · have hn' : isNote t = false := by simpa using hn
      simp only [List.filter_cons, show notNote t = true by simp [notNote, hn'], if_true]
      by_cases he : (put p t).2.1 = 0
      · rw [all_cons_ok he, all_cons_ok he]
        obtain ⟨op1, hi, hb1, -, -⟩ := put_nest h t [] he
        obtain ⟨h1, h2⟩ := all_notes r _ op1 hi hb1
        refine ⟨?_, h2⟩
        simp only [List.filter_append]
        rw [put_plain h hn', h1]
      · rw [all_cons_bad he, all_cons_bad he]
        exact ⟨rfl, rfl⟩
/-- A new parser behind comments. -/
def notedPar : Par := { newPar with depth := 1, begun := true }
theorem noted_inv : PInv notedPar [1] := ⟨rfl, rfl, rfl, fun h => (by cases h), fun _ => ⟨[], rfl⟩, rfl, by decide, newPar_inv.lastf, fun h => (by cases h)⟩
theorem put_cmp {t : Tk} (hn : isNote t = false) : (put notedPar t).2.1 = (put newPar t).2.1 ∧ ((put newPar t).2.1 = 0 → (put newPar t).1 = evOf (1, 1) :: (put notedPar t).1 ∧ (put newPar t).2.2 = (put notedPar t).2.2) := by
  unfold put
  simp only [notedPar, newPar, preD, preE, Bool.false_eq_true, if_false, if_true, ne_eq, not_true_eq_false, hn, Int.zero_add, List.nil_append]
  split
  · rename_i hq
    exact ⟨rfl, fun h => absurd h hq⟩
  · exact ⟨rfl, fun _ => ⟨rfl, rfl⟩⟩
theorem noted_all : ∀ (r : List Tk), (allP notedPar r).2.1 = (allP newPar (r.filter notNote)).2.1 ∧ (evOf (1, 1) :: ((allP notedPar r).1).filter notNoteE = (allP newPar (r.filter notNote)).1 ∨ ((allP newPar (r.filter notNote)).1 = [] ∧ ((allP notedPar r).1).filter notNoteE = []))
  | [] => ⟨rfl, .inr ⟨rfl, rfl⟩⟩
  | t :: r => by
    by_cases hn : isNote t = true
    · have hp := put_note_begun (p := notedPar) rfl rfl rfl hn
      rw [all_cons_ok (by rw [hp])]
      rw [hp]
      simp only [List.filter_cons, List.cons_append, List.nil_append, show notNote t = false by simp [notNote, hn], show notNoteE (noteE t) = false from rfl, Bool.false_eq_true, if_false]
      exact noted_all r
    · have hn' : isNote t = false := by simpa using hn
      obtain ⟨h1, h2⟩ := put_cmp hn'
      simp only [List.filter_cons, show notNote t = true by simp [notNote, hn'], if_true]
      by_cases he : (put newPar t).2.1 = 0
      · obtain ⟨h3, h4⟩ := h2 he
        rw [all_cons_ok he, all_cons_ok (by rw [h1]; exact he)]
        obtain ⟨op1, hi, hb1, -, -⟩ := put_nest noted_inv t [] (by rw [h1]; exact he)
        obtain ⟨h5, h6⟩ := all_notes r _ op1 hi hb1
        rw [h4]
        refine ⟨h6, .inl ?_⟩
        simp only [List.filter_append]
        rw [put_plain noted_inv hn', h5, h3]
        rfl
      · rw [all_cons_bad he, all_cons_bad (by rw [h1]; exact he)]
        exact ⟨h1, .inr ⟨rfl, rfl⟩⟩
/-- ParseNotes' plain law. -/
theorem notes_all (l : List Tk) : (allP newPar l).2.1 = (allP newPar (l.filter notNote)).2.1 ∧ (((allP newPar l).1).filter notNoteE = (allP newPar (l.filter notNote)).1 ∨ ((allP newPar (l.filter notNote)).1 = [] ∧ ∃ ns, ns ≠ [] ∧ (allP newPar l).1 = evOf (1, 1) :: ns ∧ ns.filter notNoteE = [])) := by
  cases l with
  | nil => exact ⟨rfl, .inl rfl⟩
  | cons t r =>
    by_cases hn : isNote t = true
    · have hp : put newPar t = ([evOf (1, 1), noteE t], 0, notedPar) := put_note rfl rfl hn
      obtain ⟨h1, h2⟩ := noted_all r
      rw [all_cons_ok (by rw [hp])]
      rw [hp]
      simp only [List.filter_cons, List.cons_append, List.nil_append, show notNote t = false by simp [notNote, hn], show notNoteE (noteE t) = false from rfl, show notNoteE (evOf (1, 1)) = true from rfl, Bool.false_eq_true, if_false, if_true]
      refine ⟨h1, ?_⟩
      rcases h2 with h2 | ⟨h2, h3⟩
      · exact .inl h2
      · exact .inr ⟨h2, _, List.cons_ne_nil _ _, rfl, by simp only [List.filter_cons, show notNoteE (noteE t) = false from rfl, Bool.false_eq_true, if_false]; exact h3⟩
    · have hn' : isNote t = false := by simpa using hn
      simp only [List.filter_cons, show notNote t = true by simp [notNote, hn'], if_true]
      by_cases he : (put newPar t).2.1 = 0
      · rw [all_cons_ok he, all_cons_ok he]
        obtain ⟨op1, hi, hb1, -, -⟩ := put_nest newPar_inv t [] he
        obtain ⟨h1, h2⟩ := all_notes r _ op1 hi hb1
        refine ⟨h2, .inl ?_⟩
        simp only [List.filter_append]
        rw [put_plain newPar_inv hn', h1]
      · rw [all_cons_bad he, all_cons_bad he]
        exact ⟨rfl, .inl rfl⟩
end Go.Proofs.Ytmjbpgnjgblnmaa
