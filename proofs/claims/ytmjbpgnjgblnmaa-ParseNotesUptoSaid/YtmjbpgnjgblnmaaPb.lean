/- The parser's machine ends: each turn that goes on leaves fewer things, or stands a step ahead of a word. -/
import Derived.Test.YtmjbpgnjgblnmaaPm
set_option linter.unusedVariables false
namespace Go.Proofs.Ytmjbpgnjgblnmaa
theorem turns_mono (c : ByteArray) : ∀ (n : Nat) (s : PSt) (r : Bool × PSt) (k : Nat), turns c n s = some r → turns c (n + k) s = some r
  | 0, s, r, k, h => by simp [turns] at h
  | n + 1, s, r, k, h => by
    rw [show n + 1 + k = (n + k) + 1 by omega]
    rw [turns] at h ⊢
    split at h
    · rename_i s' hs
      exact turns_mono c n s' r k h
    · rename_i s' hs
      exact h
    · rename_i s' hs
      exact h
def fins : List WT → List Nat
  | [] => []
  | .fin k :: r => k :: fins r
  | .word _ :: r => fins r
  | .rule _ :: r => fins r
def WT.noFin : WT → Bool
  | .fin _ => false
  | _ => true
def Eff.plain : Eff → Bool
  | .push l => l.all WT.noFin
  | .opn k l => (k != 1) && l.all WT.noFin
theorem fins_app : ∀ (l r : List WT), l.all WT.noFin = true → fins (l ++ r) = fins r
  | [], r, _ => rfl
  | x :: l, r, h => by
    rw [List.all_cons, Bool.and_eq_true] at h
    cases x with
    | fin k => cases h.1
    | word s => exact fins_app l r h.2
    | rule f => exact fins_app l r h.2
theorem expand_plain {f : RId} {c : ByteArray} {l : List Eff} (h : f.expand c = some l) : l.all Eff.plain = true := by
  cases f
  all_goals
    simp only [RId.expand] at h
    repeat' split at h
  all_goals first
    | (cases h; done)
    | (cases h; rfl)
/-- From s to r nodes are opened alone: these. -/
def Opens (s r : PSt) (ks : List Nat) : Prop := r.evs = s.evs ++ ks.map (fun k => (1, k)) ∧ r.depth = s.depth + ks.length ∧ ∀ k ∈ ks, k ≠ 1
theorem Opens.trans {a b c : PSt} {k l : List Nat} (h : Opens a b k) (h' : Opens b c l) : Opens a c (k ++ l) := by
  refine ⟨by rw [h'.1, h.1, List.map_append, List.append_assoc], ?_, ?_⟩
  · rw [h'.2.1, h.2.1, List.length_append]
    omega
  · intro j hj
    rcases List.mem_append.1 hj with hj | hj
    · exact h.2.2 j hj
    · exact h'.2.2 j hj
theorem effs_law : ∀ (l : List Eff) (s : PSt), l.all Eff.plain = true → ∃ ks, Opens s (effs s l) ks ∧ fins (effs s l).todo = ks.reverse ++ fins s.todo
  | [], s, _ => ⟨[], ⟨by simp [effs], by simp [effs], fun k hk => by cases hk⟩, by simp [effs]⟩
  | e :: l, s, h => by
    rw [List.all_cons, Bool.and_eq_true] at h
    obtain ⟨ks, h1, h2⟩ := effs_law l (Eff.act s e) h.2
    cases e with
    | push w =>
      refine ⟨ks, h1, ?_⟩
      have : fins (Eff.act s (.push w)).todo = fins s.todo := fins_app w s.todo h.1
      rw [← this]
      exact h2
    | opn k w =>
      have hp := h.1
      simp only [Eff.plain, Bool.and_eq_true, bne_iff_ne, ne_eq] at hp
      refine ⟨k :: ks, ?_, ?_⟩
      · have h0 : Opens s (Eff.act s (.opn k w)) [k] := ⟨rfl, rfl, fun j hj => by rw [List.mem_singleton.1 hj]; exact hp.1⟩
        exact h0.trans h1
      · have : fins (Eff.act s (.opn k w)).todo = k :: fins s.todo := fins_app w (.fin k :: s.todo) hp.2
        rw [List.reverse_cons, List.append_assoc, List.singleton_append, ← this]
        exact h2
/-- Such a thing at the top: so many turns are enough; nodes are opened alone. -/
def OkTop (c : ByteArray) (n : Nat) (t : WT) : Prop := ∀ (s : PSt) (rest : List WT), s.todo = t :: rest → ∃ r ks, turns c n s = some r ∧ Opens s r.2 ks ∧ (r.1 = true → fins r.2.todo = ks.reverse ++ fins s.todo)
theorem OkTop.up {c : ByteArray} {n m : Nat} {t : WT} (h : OkTop c n t) (hm : n ≤ m) : OkTop c m t := fun s rest hs => by
  obtain ⟨r, ks, hr, h1⟩ := h s rest hs
  obtain ⟨k, rfl⟩ := Nat.exists_eq_add_of_le hm
  exact ⟨r, ks, turns_mono c n s r k hr, h1⟩
theorem ok_word (c x : ByteArray) : OkTop c 1 (.word x) := fun s rest hs => by
  by_cases hx : x = c
  · exact ⟨(true, { s with todo := rest }), [], by rw [turns]; simp only [turn, hs, if_pos hx], ⟨by simp, by simp, fun k hk => (by cases hk)⟩, fun _ => by rw [hs]; rfl⟩
  · exact ⟨(false, { s with todo := rest }), [], by rw [turns]; simp only [turn, hs, if_neg hx], ⟨by simp, by simp, fun k hk => (by cases hk)⟩, fun h => by cases h⟩
theorem ok_rule {c : ByteArray} {n : Nat} {f : RId} (h : ∀ l, f.expand c = some l → ∀ s : PSt, ∃ t r, (effs s l).todo = t :: r ∧ OkTop c n t) : OkTop c (n + 1) (.rule f) := fun s rest hs => by
  cases he : f.expand c with
  | none => exact ⟨(false, { s with todo := rest }), [], by simp only [turns, turn, hs, he], ⟨by simp, by simp, fun k hk => (by cases hk)⟩, fun h => by cases h⟩
  | some l =>
    obtain ⟨t, r, ht, ho⟩ := h l he { s with todo := rest }
    obtain ⟨ks, h1, h2⟩ := effs_law l { s with todo := rest } (expand_plain he)
    obtain ⟨q, ls, hq, h3, h4⟩ := ho _ r ht
    refine ⟨q, ks ++ ls, by rw [turns]; simp only [turn, hs, he]; exact hq, h1.trans h3, fun hb => ?_⟩
    rw [h4 hb, h2, List.reverse_append, List.append_assoc, hs]
    rfl
theorem ok_object (c : ByteArray) : OkTop c 2 (.rule .r_object) := ok_rule fun l h s => by
  simp only [RId.expand, Option.some.injEq] at h; subst h
  exact ⟨_, _, rfl, ok_word _ _⟩
theorem ok_param (c : ByteArray) : OkTop c 2 (.rule .r_param) := ok_rule fun l h s => by
  simp only [RId.expand, Option.some.injEq] at h; subst h
  exact ⟨_, _, rfl, ok_word _ _⟩
theorem ok_member (c : ByteArray) : OkTop c 2 (.rule .r_member) := ok_rule fun l h s => by
  simp only [RId.expand, Option.some.injEq] at h; subst h
  exact ⟨_, _, rfl, ok_word _ _⟩
theorem ok_kind (c : ByteArray) : OkTop c 2 (.rule .r_kind) := ok_rule fun l h s => by
  simp only [RId.expand] at h
  split at h
  · cases h; exact ⟨_, _, rfl, ok_word _ _⟩
  split at h
  · cases h; exact ⟨_, _, rfl, ok_word _ _⟩
  split at h
  · cases h; exact ⟨_, _, rfl, ok_word _ _⟩
  · cases h
theorem ok_declaration (c : ByteArray) : OkTop c 2 (.rule .r_declaration) := ok_rule fun l h s => by
  simp only [RId.expand] at h
  split at h
  · cases h; exact ⟨_, _, rfl, ok_word _ _⟩
  split at h
  · cases h; exact ⟨_, _, rfl, ok_word _ _⟩
  · cases h; exact ⟨_, _, rfl, ok_word _ _⟩
theorem ok_factor (c : ByteArray) : OkTop c 2 (.rule .r_factor) := ok_rule fun l h s => by
  simp only [RId.expand] at h
  repeat' split at h
  all_goals (cases h; exact ⟨_, _, rfl, ok_word _ _⟩)
theorem ok_term (c : ByteArray) : OkTop c 3 (.rule .r_term) := ok_rule fun l h s => by
  simp only [RId.expand, Option.some.injEq] at h; subst h
  exact ⟨_, _, rfl, ok_factor _⟩
theorem ok_sum (c : ByteArray) : OkTop c 4 (.rule .r_sum) := ok_rule fun l h s => by
  simp only [RId.expand, Option.some.injEq] at h; subst h
  exact ⟨_, _, rfl, ok_term _⟩
theorem ok_rel (c : ByteArray) : OkTop c 5 (.rule .r_rel) := ok_rule fun l h s => by
  simp only [RId.expand, Option.some.injEq] at h; subst h
  exact ⟨_, _, rfl, ok_sum _⟩
theorem ok_expr (c : ByteArray) : OkTop c 6 (.rule .r_expr) := ok_rule fun l h s => by
  simp only [RId.expand, Option.some.injEq] at h; subst h
  exact ⟨_, _, rfl, ok_rel _⟩
theorem ok_statement (c : ByteArray) : OkTop c 3 (.rule .r_statement) := ok_rule fun l h s => by
  simp only [RId.expand] at h
  repeat' split at h
  all_goals (first | (cases h; done) | (cases h; exact ⟨_, _, rfl, (ok_word _ _).up (by omega)⟩) | (cases h; exact ⟨_, _, rfl, ok_object _⟩))
theorem ok_body (c : ByteArray) : OkTop c 4 (.rule .r_body) := ok_rule fun l h s => by
  simp only [RId.expand, Option.some.injEq] at h; subst h
  exact ⟨_, _, rfl, ok_statement _⟩
theorem ok_block (c : ByteArray) : OkTop c 4 (.rule .r_block) := by
  have hD : OkTop c 3 (.rule .r_declarations) ∨ RId.r_declarations.expand c = some [] := by
    by_cases hd : c = ⟨#[118, 97, 114]⟩ ∨ c = ⟨#[99, 111, 110, 115, 116]⟩ ∨ c = ⟨#[112, 114, 111, 99]⟩
    · refine .inl (ok_rule fun l h s => ?_)
      simp only [RId.expand, if_pos hd, Option.some.injEq] at h; subst h
      exact ⟨_, _, rfl, ok_declaration _⟩
    · exact .inr (by simp only [RId.expand, if_neg hd])
  rcases hD with hD | hD
  · refine ok_rule fun l h s => ?_
    simp only [RId.expand, Option.some.injEq] at h; subst h
    exact ⟨_, _, rfl, hD⟩
  · intro s rest hs
    obtain ⟨q, ls, hq, h3, h4⟩ := (ok_word c ⟨#[98, 101, 103, 105, 110]⟩).up (show 1 ≤ 2 by omega) { todo := [.word ⟨#[98, 101, 103, 105, 110]⟩, .rule .r_body, .word ⟨#[101, 110, 100]⟩] ++ .fin 2 :: rest, evs := s.evs ++ [(1, 2)], depth := s.depth + 1 } _ rfl
    refine ⟨q, 2 :: ls, ?_, Opens.trans (b := { todo := [], evs := s.evs ++ [(1, 2)], depth := s.depth + 1 }) (k := [2]) ⟨rfl, rfl, fun j hj => by rw [List.mem_singleton.1 hj]; decide⟩ h3, fun hb => ?_⟩
    · rw [turns]
      simp only [turn, hs, RId.expand]
      rw [turns]
      simp only [effs, List.foldl, Eff.act, List.cons_append, List.nil_append, turn, hD]
      exact hq
    · rw [h4 hb, hs, List.reverse_cons, List.append_assoc]
      rfl
/-- A row that may vanish, or stands ahead of a word. -/
def Gone (c : ByteArray) (f : RId) : Prop := f.expand c = some [] ∨ OkTop c 7 (.rule f)
theorem gone_of {c : ByteArray} {f : RId} (h : ∀ l, f.expand c = some l → l = [] ∨ ∀ s : PSt, ∃ t r, (effs s l).todo = t :: r ∧ OkTop c 6 t) : Gone c f := by
  cases he : f.expand c with
  | none => exact .inr (ok_rule fun l h' => by rw [he] at h'; cases h')
  | some l =>
    rcases h l he with rfl | h
    · exact .inl he
    · exact .inr (ok_rule fun l' h' => by rw [he] at h'; cases h'; exact h)
theorem gone_any (c : ByteArray) (f : RId) : Gone c f := by
  cases f
  case r_block => exact .inr ((ok_block c).up (by omega))
  case r_expr => exact .inr ((ok_expr c).up (by omega))
  all_goals
    refine gone_of fun l h => ?_
    simp only [RId.expand] at h
    repeat' split at h
  all_goals first
    | (cases h; done)
    | (cases h; exact .inl rfl)
    | (cases h; exact .inr fun s => ⟨_, _, rfl, (ok_word _ _).up (by omega)⟩)
    | (cases h; exact .inr fun s => ⟨_, _, rfl, (ok_declaration _).up (by omega)⟩)
    | (cases h; exact .inr fun s => ⟨_, _, rfl, (ok_object _).up (by omega)⟩)
    | (cases h; exact .inr fun s => ⟨_, _, rfl, (ok_factor _).up (by omega)⟩)
    | (cases h; exact .inr fun s => ⟨_, _, rfl, (ok_term _).up (by omega)⟩)
    | (cases h; exact .inr fun s => ⟨_, _, rfl, (ok_sum _).up (by omega)⟩)
    | (cases h; exact .inr fun s => ⟨_, _, rfl, (ok_rel _).up (by omega)⟩)
    | (cases h; exact .inr fun s => ⟨_, _, rfl, (ok_expr _).up (by omega)⟩)
    | (cases h; exact .inr fun s => ⟨_, _, rfl, (ok_statement _).up (by omega)⟩)
/-- The loop ends: nodes are closed, then opened; what is open is what is still to end. -/
theorem turns_some (c : ByteArray) : ∀ (m : Nat) (s : PSt), s.todo.length = m → ∃ r cl op X, turns c (m + 7) s = some r ∧ r.2.evs = s.evs ++ cl.map (fun k => (3, k)) ++ op.map (fun k => (1, k)) ∧ r.2.depth = s.depth - (cl : List Nat).length + (op : List Nat).length ∧ (∀ k ∈ op, k ≠ 1) ∧ fins s.todo = cl ++ X ∧ (r.1 = true → fins r.2.todo = op.reverse ++ X) := by
  have key : ∀ {m n : Nat} {s : PSt} {t : WT} {r : List WT}, s.todo = t :: r → OkTop c n t → n ≤ m → ∃ q cl op X, turns c m s = some q ∧ q.2.evs = s.evs ++ cl.map (fun k => (3, k)) ++ op.map (fun k => (1, k)) ∧ q.2.depth = s.depth - (cl : List Nat).length + (op : List Nat).length ∧ (∀ k ∈ op, k ≠ 1) ∧ fins s.todo = cl ++ X ∧ (q.1 = true → fins q.2.todo = op.reverse ++ X) := by
    intro m n s t r ht ho hm
    obtain ⟨q, ks, h1, h2, h3⟩ := ho.up hm s r ht
    exact ⟨q, [], ks, fins s.todo, h1, by simpa using h2.1, by simpa using h2.2.1, h2.2.2, rfl, h3⟩
  intro m
  induction m with
  | zero =>
    intro s hs
    have h0 : s.todo = [] := List.length_eq_zero_iff.1 hs
    exact ⟨(false, s), [], [], fins s.todo, by simp only [turns, turn, h0], by simp, by simp, fun k hk => (by cases hk), rfl, fun h => by cases h⟩
  | succ m ih =>
    intro s hs
    cases ht : s.todo with
    | nil => rw [ht] at hs; cases hs
    | cons t r =>
      have hr : r.length = m := by rw [ht] at hs; simpa using hs
      rw [← ht]
      cases t with
      | word x => exact key ht (ok_word c x) (by omega)
      | fin k =>
        obtain ⟨q, cl, op, X, h1, h2, h3, h6, h4, h5⟩ := ih { todo := r, evs := s.evs ++ [(3, k)], depth := s.depth - 1 } hr
        refine ⟨q, k :: cl, op, X, ?_, ?_, ?_, h6, ?_, h5⟩
        · rw [show m + 1 + 7 = (m + 7) + 1 by omega, turns]; simp only [turn, ht]; exact h1
        · rw [h2]; simp
        · rw [h3, List.length_cons]; simp only; omega
        · rw [ht, fins, show fins r = cl ++ X from h4]; rfl
      | rule f =>
        rcases gone_any c f with hg | hg
        · obtain ⟨q, cl, op, X, h1, h2, h3, h6, h4, h5⟩ := ih { s with todo := r } hr
          refine ⟨q, cl, op, X, ?_, h2, h3, h6, ?_, h5⟩
          · rw [show m + 1 + 7 = (m + 7) + 1 by omega, turns]; simp only [turn, ht, hg, effs, List.foldl]; exact h1
          · rw [ht, fins]; exact h4
        · exact key ht hg (by omega)
end Go.Proofs.Ytmjbpgnjgblnmaa
