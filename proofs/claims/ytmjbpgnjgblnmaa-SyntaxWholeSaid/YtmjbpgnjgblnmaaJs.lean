/- What the claim stands on: part Js. -/
import Derived.Test.YtmjbpgnjgblnmaaJm
import Derived.Test.YtmjbpgnjgblnmaaJr
import Derived.Test.YtmjbpgnjgblnmaaJp
set_option linter.unusedVariables false
set_option linter.unusedSimpArgs false
namespace Go.Proofs.Ytmjbpgnjgblnmaa
theorem expand_kind {f : RId} {c : ByteArray} {l : List Eff} (h : f.expand c = some l) : ∀ k w, Eff.opn k w ∈ l → k ≠ 0 := by
 cases f
 all_goals
  simp only [RId.expand] at h
  repeat' split at h
 all_goals first
  | (cases h; done)
  | (cases h; intro k w hm; simp at hm; done)
  | (cases h; intro k w hm; simp at hm; omega)
def okE (evs : List (Nat × Nat)) : Prop := ∀ p ∈ evs, p.1 = 1 → p.2 ≠ 0
theorem okE_app {a b : List (Nat × Nat)} (ha : okE a) (hb : okE b) : okE (a ++ b) := fun p hp h1 => by
 rcases List.mem_append.1 hp with h | h
 ·exact ha p h h1
 ·exact hb p h h1
theorem effs_kind : ∀ (l : List Eff) (s : PSt), (∀ k w, Eff.opn k w ∈ l → k ≠ 0) → okE s.evs → okE (effs s l).evs
 | [], s, _, hs => hs
 | .push w :: l, s, hl, hs => effs_kind l ({ s with todo := w ++ s.todo }) (fun k w h => hl k w (List.mem_cons_of_mem _ h)) hs
 | .opn k w :: l, s, hl, hs => effs_kind l { todo := w ++ .fin k :: s.todo, evs := s.evs ++ [(1, k)], depth := s.depth + 1 } (fun k w h => hl k w (List.mem_cons_of_mem _ h)) (okE_app hs (fun p hp h1 => by
   rw [List.mem_singleton.1 hp]
   exact hl k w List.mem_cons_self))
theorem turns_kind (c : ByteArray) : ∀ (n : Nat) (s : PSt) (r : Bool × PSt), okE s.evs → turns c n s = some r → okE r.2.evs
 | 0, s, r, _, h => by simp [turns] at h
 | n + 1, s, r, hs, h => by
  obtain ⟨T, v, d⟩ := s
  rw [turns] at h
  cases T with
  | nil => simp only [turn] at h; cases h; exact hs
  | cons x T =>
   cases x with
   | word x =>
    simp only [turn] at h
    split at h
    ·rename_i s' he
     split at he <;> cases he
    ·rename_i s' he
     cases h
     split at he <;> cases he
     exact hs
    ·rename_i s' he
     cases h
     split at he <;> cases he
     exact hs
   | fin k =>
    simp only [turn] at h
    exact turns_kind c n _ r (okE_app hs (fun p hp h1 => by rw [List.mem_singleton.1 hp] at h1; simp at h1)) h
   | rule f =>
    simp only [turn] at h
    cases he : f.expand c with
    | none => rw [he] at h; cases h; exact hs
    | some e =>
     rw [he] at h
     have h' : turns c n (effs ⟨T, v, d⟩ e) = some r := h
     exact turns_kind c n _ r (effs_kind e ⟨T, v, d⟩ (expand_kind he) hs) h'
theorem token_kind (t : Tk) (todo : List WT) (depth : Int) : okE (token t todo depth).2.evs := by
 unfold token
 cases h : turns (codeOf t) (todo.length + 7) ⟨todo, [], depth⟩ with
 | none => exact fun p hp => by cases hp
 | some r =>
  have hk := turns_kind _ _ _ r (fun p hp => by cases hp) h
  obtain ⟨b, s⟩ := r
  cases b with
  | false => exact hk
  | true =>
   dsimp only
   split
   ·exact hk
   ·split <;> exact hk
mutual
def fullT : Tr.Nd → Prop
 | ⟨k, t, kids⟩ => if k = 0 then kids = [] else (kids ≠ [] ∧ t = Tr.noTk ∧ fullL kids)
def fullL : List Tr.Nd → Prop
 | [] => True
 | x :: xs => fullT x ∧ fullL xs
end
theorem full_eq (x : Tr.Nd) : fullT x ↔ if x.f0 = 0 then x.f2 = [] else (x.f2 ≠ [] ∧ x.f1 = Tr.noTk ∧ fullL x.f2) := by obtain ⟨k, t, kids⟩ := x; rw [fullT]
theorem fullL_iff : ∀ l : List Tr.Nd, fullL l ↔ ∀ x ∈ l, fullT x
 | [] => by simp [fullL]
 | x :: l => by rw [fullL, fullL_iff l]; simp
structure St (S : List Tr.Nd) (op : List Nat) : Prop where
 kinds : S.map (fun t => t.f0) = cst op
 good : ∀ t ∈ S, t.f1 = Tr.noTk ∧ t.f0 ≠ 0 ∧ ∀ y ∈ t.f2, fullT y
 top : ∀ t S', S = t :: S' → t.f2 ≠ [] ∨ S' = []
theorem good_add {u x : Tr.Nd} (hu : u.f1 = Tr.noTk ∧ u.f0 ≠ 0 ∧ ∀ y ∈ u.f2, fullT y) (hx : fullT x) : (Tr.addKid u x).f1 = Tr.noTk ∧ (Tr.addKid u x).f0 ≠ 0 ∧ ∀ y ∈ (Tr.addKid u x).f2, fullT y := by
 refine ⟨hu.1, hu.2.1, fun y hy => ?_⟩
 rcases List.mem_append.1 (show y ∈ u.f2 ++ [x] from hy) with h | h
 ·exact hu.2.2 y h
 ·rw [List.mem_singleton.1 h]; exact hx
theorem leaf_full (t : Tk) : fullT ⟨0, t, []⟩ := by rw [fullT, if_pos rfl]
theorem run_closes : ∀ (cl X : List Nat) (S : List Tr.Nd), St S (cl ++ X) → X ≠ [] → ∃ S1, St S1 X ∧ ∀ rest, Tr.runB ((cl.map (fun k => (3, k))).map evOf ++ rest) S = Tr.runB rest S1
 | [], X, S, h, hX => ⟨S, h, fun _ => rfl⟩
 | k :: cl, X, S, h, hX => by
  obtain ⟨hk, hg, ht⟩ := h
  match S, hk, hg, ht with
  | [], hk, _, _ => simp [cst] at hk
  | [t], hk, _, _ =>
   exfalso
   have := congrArg List.length hk
   simp [cst] at this
   exact hX this.2
  | t :: u :: S', hk, hg, ht =>
   simp only [cst, List.cons_append, List.map_cons, List.cons.injEq] at hk
   have htop : t.f2 ≠ [] := by
    rcases ht t (u :: S') rfl with h | h
    ·exact h
    ·cases h
   have gt := hg t List.mem_cons_self
   have gu := hg u (List.mem_cons_of_mem _ List.mem_cons_self)
   have hft : fullT t := by rw [full_eq, if_neg gt.2.1]; exact ⟨htop, gt.1, (fullL_iff _).2 gt.2.2⟩
   obtain ⟨S1, h1, h2⟩ := run_closes cl X (Tr.addKid u t :: S') ⟨by simpa [cst, Tr.addKid] using hk.2, fun y hy => by
    rcases List.mem_cons.1 hy with rfl | hy
    ·exact good_add gu hft
    ·exact hg y (List.mem_cons_of_mem _ (List.mem_cons_of_mem _ hy)), fun y S2 he => by
     cases he
     exact .inl (by simp [Tr.addKid])⟩ hX
   refine ⟨S1, h1, fun rest => ?_⟩
   rw [← h2 rest]
   conv => lhs; unfold Tr.runB
   simp [evOf, hk.1]
theorem run_opens : ∀ (op X : List Nat) (S : List Tr.Nd), S.map (fun t => t.f0) = cst X → (∀ t ∈ S, t.f1 = Tr.noTk ∧ t.f0 ≠ 0 ∧ ∀ y ∈ t.f2, fullT y) → X.length + op.length ≤ 1000 → (∀ k ∈ op, k ≠ 0) →
  ∃ S1, S1.map (fun t => t.f0) = cst (op.reverse ++ X) ∧ (∀ t ∈ S1, t.f1 = Tr.noTk ∧ t.f0 ≠ 0 ∧ ∀ y ∈ t.f2, fullT y) ∧ ∀ rest, Tr.runB ((op.map (fun k => (1, k))).map evOf ++ rest) S = Tr.runB rest S1
 | [], X, S, hk, hg, _, _ => ⟨S, hk, hg, fun _ => rfl⟩
 | k :: op, X, S, hk, hg, hl, h0 => by
  have hlen : S.length = X.length := by simpa [cst] using congrArg List.length hk
  rw [List.length_cons] at hl
  obtain ⟨S1, h1, h2, h3⟩ := run_opens op (k :: X) (⟨(k : Int), Tr.noTk, []⟩ :: S) (by simp [cst] at hk ⊢; exact hk) (fun t ht => by
   rcases List.mem_cons.1 ht with rfl | ht
   ·exact ⟨rfl, by have := h0 k List.mem_cons_self; dsimp only; omega, fun y hy => by cases hy⟩
   ·exact hg t ht) (by rw [List.length_cons]; omega) (fun j hj => h0 j (List.mem_cons_of_mem _ hj))
  refine ⟨S1, by rw [h1]; simp, h2, fun rest => ?_⟩
  rw [← h3 rest]
  conv => lhs; unfold Tr.runB
  have hk1 := h0 k List.mem_cons_self
  have hk2 : S.length ≠ 1000 := by omega
  simp [evOf, hk1, hk2]
theorem run_leaf {t : Tk} {e : Ev} (he : e = if isNote t then noteE t else leafE t) (rest : List Ev) (u : Tr.Nd) (S : List Tr.Nd) : Tr.runB (e :: rest) (u :: S) = Tr.runB rest (Tr.addKid u ⟨0, t, []⟩ :: S) := by
 subst he
 have hn : Tr.isNote t = isNote t := rfl
 conv => lhs; unfold Tr.runB
 cases h : isNote t <;> simp [noteE, leafE, hn, h]
theorem leaf_st {S : List Tr.Nd} {op : List Nat} (hk : S.map (fun t => t.f0) = cst op) (hg : ∀ t ∈ S, t.f1 = Tr.noTk ∧ t.f0 ≠ 0 ∧ ∀ y ∈ t.f2, fullT y) (h0 : op ≠ []) {t : Tk} {e : Ev} (he : e = if isNote t then noteE t else leafE t) :
  ∃ S1, St S1 op ∧ (∀ t S', S1 = t :: S' → t.f2 ≠ []) ∧ ∀ rest, Tr.runB (e :: rest) S = Tr.runB rest S1 := by
 match S, hk, hg with
 | [], hk, _ => exfalso; cases op with
  | nil => exact h0 rfl
  | cons a b => simp [cst] at hk
 | u :: S', hk, hg =>
  refine ⟨Tr.addKid u ⟨0, t, []⟩ :: S', ⟨by simpa [Tr.addKid] using hk, fun y hy => ?_, fun y S2 h => ?_⟩, fun y S2 h => ?_, fun rest => run_leaf he rest u S'⟩
  ·rcases List.mem_cons.1 hy with rfl | hy
   ·exact good_add (hg u List.mem_cons_self) (leaf_full t)
   ·exact hg y (List.mem_cons_of_mem _ hy)
  ·cases h; exact .inl (by simp [Tr.addKid])
  ·cases h; simp [Tr.addKid]
theorem put_run {p : Par} {op : List Nat} {S : List Tr.Nd} (hP : PInv p op) (hb : p.begun = true) (hS : St S op) {t : Tk} (he : (put p t).2.1 = 0) :
  ∃ op1 S1, PInv (put p t).2.2 op1 ∧ (put p t).2.2.begun = true ∧ St S1 op1 ∧ (∀ t S', S1 = t :: S' → t.f2 ≠ []) ∧ ∀ rest, Tr.runB ((put p t).1 ++ rest) S = Tr.runB rest S1 := by
 obtain ⟨op1, h1, h2, -, -⟩ := put_nest hP t [] he
 by_cases hn : isNote t = true
 ·have hp := put_note_begun hb hP.closed hP.wrong hn
  rw [hp] at h1 h2 ⊢
  obtain ⟨r, hr⟩ := hP.last hb
  obtain ⟨S1, g1, g2, g3⟩ := leaf_st hS.kinds hS.good (by rw [hr]; simp) (t := t) (e := noteE t) (by rw [if_pos hn])
  exact ⟨op, S1, hP, hb, g1, g2, fun rest => g3 rest⟩
 ·have hn' : isNote t = false := by simpa using hn
  have hpre : preD p = p.depth := by unfold preD; rw [if_pos hb]
  have hpreE : preE p = [] := by unfold preE; rw [if_pos hb]
  have hput : put p t = if (token t p.todo p.depth).1 ≠ 0 then ([], (token t p.todo p.depth).1, { p with todo := (token t p.todo p.depth).2.todo, wrong := (token t p.todo p.depth).1 }) else ((token t p.todo p.depth).2.evs.map evOf ++ [leafE t], 0, { p with todo := (token t p.todo p.depth).2.todo, depth := (token t p.todo p.depth).2.depth, begun := true }) := by
   unfold put
   simp only [hP.closed, Bool.false_eq_true, if_false, hP.wrong, ne_eq, not_true_eq_false, hn', hpre, hpreE, List.nil_append]
  have htk : (token t p.todo p.depth).1 = 0 := by
   by_cases h : (token t p.todo p.depth).1 = 0
   ·exact h
   ·rw [hput, if_pos h] at he; exact absurd he h
  rw [if_neg (by rw [htk]; decide)] at hput
  obtain ⟨cl, o2, X, a1, a2, a3, a4, a5, -⟩ := token_law t p.todo p.depth
  obtain ⟨a6, a7⟩ := a5 htk
  have hkd := token_kind t p.todo p.depth
  rw [a1] at hkd
  have hfin := hP.fins
  rw [if_pos hb, a4] at hfin
  have hf1 := h1.fins
  rw [if_pos h2, hput] at hf1
  dsimp only at hf1
  rw [a6] at hf1
  obtain ⟨r, hr⟩ := h1.last h2
  have hX : X ≠ [] := by
   rintro rfl
   rw [List.append_nil] at hf1
   have h9 : (1 : Nat) ∈ o2.reverse := by rw [hf1, hr]; simp
   exact a3 1 (List.mem_reverse.1 h9) rfl
  rw [← hfin] at hS
  obtain ⟨S1, g1, g2⟩ := run_closes cl X S hS hX
  have hmost := h1.most
  rw [← hf1, List.length_append, List.length_reverse] at hmost
  obtain ⟨S2, g3, g4, g5⟩ := run_opens o2 X S1 g1.kinds g1.good (by omega) (fun k hk => hkd (1, k) (List.mem_append.2 (.inr (List.mem_map.2 ⟨k, hk, rfl⟩))) rfl)
  rw [hf1] at g3
  obtain ⟨S3, g6, g7, g8⟩ := leaf_st g3 g4 (by rw [hr]; simp) (t := t) (e := leafE t) (by rw [if_neg hn])
  refine ⟨op1, S3, h1, h2, g6, g7, fun rest => ?_⟩
  rw [hput]
  dsimp only
  rw [a1, List.map_append, List.append_assoc, List.append_assoc, g2, g5]
  exact g8 rest
theorem all_tree : ∀ (l : List Tk) (p : Par) (op : List Nat) (S : List Tr.Nd), PInv p op → p.begun = true → St S op → ((∀ t S', S = t :: S' → t.f2 ≠ []) ∨ p.todo.length ≠ 1) → (allP p l).2.1 = 0 → ∃ X, Tr.runB (allP p l).1 S = some X ∧ fullT X
 | [], p, op, S, hP, hb, hS, h0, he => by
  simp only [allP, closeP, hP.closed, hP.wrong] at he ⊢
  rw [if_neg (by decide), if_neg (by decide)] at he ⊢
  by_cases hl : p.todo.length ≠ 1
  ·rw [if_pos hl] at he; cases he
  ·rw [if_neg hl] at he ⊢
   have hl1 : p.todo.length = 1 := by omega
   obtain ⟨T, hT⟩ := hP.lastf
   have hT0 : T = [] := by
    rw [hT, List.length_append, List.length_singleton] at hl1
    exact List.eq_nil_of_length_eq_zero (by omega)
   subst hT0
   have hop : op = [1] := by
    have := hP.fins
    rw [if_pos hb, hT] at this
    exact this.symm
   subst hop
   obtain ⟨hk, hg, -⟩ := hS
   match S, hk, hg, h0 with
   | [], hk, _, _ => simp [cst] at hk
   | [t], hk, hg, h0 =>
    simp [cst] at hk
    have gt := hg t List.mem_cons_self
    refine ⟨t, ?_, ?_⟩
    ·unfold Tr.runB
     simp [evOf, hk]
    ·rw [full_eq, if_neg gt.2.1]
     refine ⟨?_, gt.1, (fullL_iff _).2 gt.2.2⟩
     rcases h0 with h | h
     ·exact h t [] rfl
     ·exact absurd hl1 h
   | t :: u :: S', hk, _, _ => simp [cst] at hk
 | t :: r, p, op, S, hP, hb, hS, h0, he => by
  by_cases hp : (put p t).2.1 = 0
  ·rw [all_cons_ok hp] at he ⊢
   obtain ⟨op1, S1, h1, h2, h3, h4, h5⟩ := put_run hP hb hS hp
   obtain ⟨X, g1, g2⟩ := all_tree r (put p t).2.2 op1 S1 h1 h2 h3 (.inl h4) he
   exact ⟨X, by dsimp only; rw [h5]; exact g1, g2⟩
  ·rw [all_cons_bad hp] at he; exact absurd he hp
theorem prog_tree (l : List Tk) (he : (allP newPar l).2.1 = 0) : ∃ X, Tr.runB (allP newPar l).1 [] = some X ∧ fullT X := by
 obtain ⟨h1, h2, h3⟩ := start_all l
 have hk := all_skip (p := notedPar) rfl rfl rfl (nAt l 0) (l.drop (nAt l 0).length) (fun t ht => nAt_all t ht)
 have he2 : (allP notedPar (nAt l 0 ++ l.drop (nAt l 0).length)).2.1 = 0 := by rw [hk]; exact h1 ▸ he
 obtain ⟨X, g1, g2⟩ := all_tree (nAt l 0 ++ l.drop (nAt l 0).length) notedPar [1] [⟨1, Tr.noTk, []⟩] noted_inv rfl ⟨rfl, fun t ht => by
  rw [List.mem_singleton.1 ht]
  exact ⟨rfl, by decide, fun y hy => by cases hy⟩, fun t S' h => by cases h; exact .inr rfl⟩ (.inr (by decide)) he2
 refine ⟨X, ?_, g2⟩
 rw [h3 he]
 rw [hk] at g1
 rw [← g1]
 conv => lhs; unfold Tr.runB
 simp [evOf]
end Go.Proofs.Ytmjbpgnjgblnmaa
namespace Go.Proofs.Ytmjbpgnjgblnmaa
def toksE (es : List Ev) : List Tk := (es.filter (fun e => e.f0 == 2 || e.f0 == 4)).map (fun e => e.f2)
theorem toksE_app (a b : List Ev) : toksE (a ++ b) = toksE a ++ toksE b := by simp [toksE]
theorem toksE_tok (t : Tk) : toksE [Tr.evTok t] = [t] := by
 unfold toksE Tr.evTok
 cases Tr.isNote t <;> rfl
mutual
theorem toks_tells : ∀ x : Tr.Nd, toksE (Tr.tells x) = Tr.toks x
 | ⟨k, t, kids⟩ => by
  rw [Tr.tells_eq, Tr.toks_eq]
  dsimp only
  by_cases hk : k = 0
  ·rw [if_pos hk, if_pos hk]; exact toksE_tok t
  ·rw [if_neg hk, if_neg hk]
   have h1 : toksE (Tr.evOpen k :: (Tr.tellsL kids ++ [Tr.evClose k])) = toksE [Tr.evOpen k] ++ (toksE (Tr.tellsL kids) ++ toksE [Tr.evClose k]) := by
    rw [← toksE_app, ← toksE_app]; rfl
   rw [h1, toks_tellsL kids]
   simp [toksE, Tr.evOpen, Tr.evClose]
theorem toks_tellsL : ∀ l : List Tr.Nd, toksE (Tr.tellsL l) = Tr.toksL l
 | [] => by rw [Tr.tellsL, Tr.toksL]; rfl
 | x :: l => by rw [Tr.tellsL, Tr.toksL, toksE_app, toks_tells x, toks_tellsL l]
end
theorem toksE_canon (es : List Ev) : toksE (es.map Tr.canon) = toksE es := by
 induction es with
 | nil => rfl
 | cons e es ih =>
  have h1 : ∀ (e : Ev) (r : List Ev), toksE (e :: r) = toksE [e] ++ toksE r := fun e r => by rw [← toksE_app]; rfl
  rw [List.map_cons, h1, h1 e, ih]
  congr 1
  unfold Tr.canon toksE
  by_cases h : e.f0 = 2 ∨ e.f0 = 4
  ·rw [if_pos h]; rcases h with h | h <;> simp [h]
  ·rw [if_neg h]
   have : (e.f0 == 2 || e.f0 == 4) = false := by simpa using h
   simp [this]
theorem nest_toks : ∀ (es : List Ev) (b : Bool) (o o' : List Int) (l l' : List Tk), nest b o l es = some (o', l') → toksE es ++ l' = l
 | [], b, o, o', l, l', h => by rw [nest] at h; cases h; rfl
 | e :: r, b, o, o', l, l', h => by
  have h0 : toksE (e :: r) = toksE [e] ++ toksE r := by rw [← toksE_app]; rfl
  rw [h0]
  rw [nest_cons] at h
  by_cases h1 : e.f0 = 1
  ·rw [if_pos h1] at h
   split at h
   ·have := nest_toks r _ _ _ _ _ h
    rw [← this]
    simp [toksE, h1]
   ·cases h
  ·rw [if_neg h1] at h
   by_cases h3 : e.f0 = 3
   ·rw [if_pos h3] at h
    cases o with
    | nil => cases h
    | cons k o1 =>
     simp only at h
     split at h
     ·have := nest_toks r _ _ _ _ _ h
      rw [← this]
      simp [toksE, h3]
     ·cases h
   ·rw [if_neg h3] at h
    by_cases h2 : e.f0 = 2 ∨ e.f0 = 4
    ·rw [if_pos h2] at h
     cases l with
     | nil => cases h
     | cons t l1 =>
      simp only at h
      split at h
      ·rename_i hc
       have := nest_toks r _ _ _ _ _ h
       rw [← this, ← hc.1]
       rcases h2 with h2 | h2 <;> simp [toksE, h2]
      ·cases h
    ·rw [if_neg h2] at h; cases h
theorem prog_toks {l : List Tk} (he : (allP newPar l).2.1 = 0) {X : Tr.Nd} (hX : Tr.runB (allP newPar l).1 [] = some X) : Tr.toks X = l := by
 obtain ⟨op', h1, h2, h3, h4⟩ := all_nest l newPar [] newPar_inv
 obtain ⟨h5, h6⟩ := h3 he
 rw [h5, List.drop_length] at h1
 have := nest_toks _ _ _ _ _ _ h1
 rw [List.append_nil] at this
 rw [← toks_tells, (Tr.bld_tells hX).1, toksE_canon]
 exact this
theorem run_canon : ∀ (l : List Ev) (S : List Tr.Nd), Tr.runB (l.map Tr.canon) S = Tr.runB l S
 | [], S => rfl
 | e :: l, S => by
  rw [List.map_cons]
  conv => lhs; unfold Tr.runB
  conv => rhs; unfold Tr.runB
  have hc0 : (Tr.canon e).f0 = e.f0 := by unfold Tr.canon; split <;> rfl
  rw [hc0]
  by_cases h1 : e.f0 = 1
  ·have hc : (Tr.canon e).f1 = e.f1 := by unfold Tr.canon; rw [if_neg (by rw [h1]; decide)]
   rw [if_pos h1, if_pos h1, hc, run_canon l]
  ·rw [if_neg h1, if_neg h1]
   by_cases h2 : e.f0 = 2 ∨ e.f0 = 4
   ·have hc : (Tr.canon e).f2 = e.f2 := by unfold Tr.canon; rw [if_pos h2]
    rw [if_pos h2, if_pos h2]
    cases S with
    | nil => rfl
    | cons t S' => simp only [hc, run_canon l]
   ·rw [if_neg h2, if_neg h2]
    have hc : (Tr.canon e).f1 = e.f1 := by unfold Tr.canon; rw [if_neg h2]
    by_cases h3 : e.f0 = 3
    ·rw [if_pos h3, if_pos h3]
     cases S with
     | nil => rfl
     | cons t S' =>
      simp only [hc]
      cases S' with
      | nil => simp
      | cons u S'' => simp only [run_canon l]
    ·rw [if_neg h3, if_neg h3]
theorem prog_deep {es : List Ev} {X : Tr.Nd} (hX : Tr.runB es [] = some X) : Tr.dep X ≤ 1000 := by
 obtain ⟨h1, h2⟩ := Tr.bld_tells hX
 have h3 := Tr.run_node X [] [] (by simp) h2
 rw [List.append_nil, h1, run_canon, hX] at h3
 by_cases h : Tr.dep X + 0 ≤ 1000
 ·exact h
 ·rw [if_neg (by simpa using h)] at h3; cases h3
def stripT (t : Tk) : Tk := ⟨t.f0, t.f1, ⟨0, 0, 0⟩, 0⟩
mutual
def stripN : Tr.Nd → Tr.Nd
 | ⟨k, t, kids⟩ => ⟨k, stripT t, stripL kids⟩
def stripL : List Tr.Nd → List Tr.Nd
 | [] => []
 | x :: xs => if Tr.isKid x then stripN x :: stripL xs else stripL xs
end
theorem stripN_eq (x : Tr.Nd) : stripN x = ⟨x.f0, stripT x.f1, stripL x.f2⟩ := by obtain ⟨k, t, kids⟩ := x; rw [stripN]
theorem stripL_app : ∀ a b : List Tr.Nd, stripL (a ++ b) = stripL a ++ stripL b
 | [], b => by rw [List.nil_append, stripL, List.nil_append]
 | x :: a, b => by
  rw [List.cons_append, stripL, stripL, stripL_app a b]
  split <;> rfl
theorem stripL_map : ∀ l : List Tr.Nd, stripL l = (Tr.plainL l).map stripN
 | [] => by rw [stripL]; rfl
 | x :: l => by
  rw [stripL, stripL_map l]
  unfold Tr.plainL
  rw [List.filter_cons]
  split <;> rfl
def stripV (e : Ev) : Ev := ⟨e.f0, e.f1, stripT e.f2⟩
def stripE (l : List Ev) : List Ev := (l.filter notNoteE).map stripV
theorem strip_cons (e : Ev) (l : List Ev) (h : e.f0 ≠ 4) : stripE (e :: l) = stripV e :: stripE l := by
 unfold stripE
 rw [List.filter_cons, if_pos (by simpa [notNoteE] using h)]
 rfl
theorem strip_note (e : Ev) (l : List Ev) (h : e.f0 = 4) : stripE (e :: l) = stripE l := by
 unfold stripE
 rw [List.filter_cons, if_neg (by simp [notNoteE, h])]
theorem strip_add (t x : Tr.Nd) (h : Tr.isKid x = true) : stripN (Tr.addKid t x) = Tr.addKid (stripN t) (stripN x) := by
 rw [stripN_eq, stripN_eq t]
 simp only [Tr.addKid]
 rw [stripL_app, stripL, if_pos h, stripL]
theorem strip_skip (t x : Tr.Nd) (h : Tr.isKid x = false) : stripN (Tr.addKid t x) = stripN t := by
 rw [stripN_eq, stripN_eq t]
 simp only [Tr.addKid]
 rw [stripL_app, stripL, if_neg (by rw [h]; decide), stripL, List.append_nil]
theorem strip_run : ∀ (l : List Ev) (S : List Tr.Nd) (a : Tr.Nd), (∀ t ∈ S, t.f0 ≠ 0) → Tr.runB l S = some a → Tr.runB (stripE l) (S.map stripN) = some (stripN a)
 | [], S, a, _, h => by simp [Tr.runB] at h
 | e :: l, S, a, hS, h => by
  unfold Tr.runB at h
  by_cases h1 : e.f0 = 1
  ·rw [if_pos h1] at h
   by_cases h2 : e.f1 = 0 ∨ S.length = 1000
   ·rw [if_pos h2] at h; cases h
   ·rw [if_neg h2] at h
    have ih := strip_run l _ a (fun t ht => by
     rcases List.mem_cons.1 ht with rfl | ht
     ·exact fun h0 => h2 (.inl h0)
     ·exact hS t ht) h
    rw [strip_cons e l (by rw [h1]; decide)]
    unfold Tr.runB
    rw [if_pos (show (stripV e).f0 = 1 from h1), if_neg (by rw [List.length_map]; exact h2)]
    rw [← ih]
    rfl
  ·rw [if_neg h1] at h
   by_cases h2 : e.f0 = 2 ∨ e.f0 = 4
   ·rw [if_pos h2] at h
    match S, hS, h with
    | [], _, h => cases h
    | t :: S', hS, h =>
     dsimp only at h
     by_cases h3 : Tr.isNote e.f2 = (e.f0 == 4)
     ·rw [if_pos h3] at h
      have ih := strip_run l _ a (fun x hx => by
       rcases List.mem_cons.1 hx with rfl | hx
       ·exact hS t List.mem_cons_self
       ·exact hS x (List.mem_cons_of_mem _ hx)) h
      by_cases h4 : e.f0 = 4
      ·have hk : Tr.isKid ⟨0, e.f2, []⟩ = false := by unfold Tr.isKid; rw [h3, h4]; rfl
       rw [strip_note e l h4]
       rw [List.map_cons, strip_skip _ _ hk] at ih
       exact ih
      ·have h5 : e.f0 = 2 := h2.resolve_right h4
       have hk : Tr.isKid ⟨0, e.f2, []⟩ = true := by unfold Tr.isKid; rw [h3, h5]; rfl
       rw [strip_cons e l h4]
       rw [List.map_cons, strip_add _ _ hk] at ih
       unfold Tr.runB
       rw [if_neg (show ¬ (stripV e).f0 = 1 from h1), if_pos (show (stripV e).f0 = 2 ∨ (stripV e).f0 = 4 from h2), List.map_cons]
       dsimp only
       rw [if_pos (show Tr.isNote (stripV e).f2 = ((stripV e).f0 == 4) from h3), ← ih]
       rfl
     ·rw [if_neg h3] at h; cases h
   ·rw [if_neg h2] at h
    by_cases h3 : e.f0 = 3
    ·rw [if_pos h3] at h
     rw [strip_cons e l (by rw [h3]; decide)]
     match S, hS, h with
     | [], _, h => cases h
     | [t], hS, h =>
      dsimp only at h
      by_cases h5 : t.f0 = e.f1
      ·rw [if_pos h5] at h
       by_cases h6 : l = []
       ·rw [if_pos h6] at h
        obtain rfl : t = a := by simpa using h
        subst h6
        unfold Tr.runB
        rw [if_neg (show ¬ (stripV e).f0 = 1 from h1), if_neg (show ¬ ((stripV e).f0 = 2 ∨ (stripV e).f0 = 4) from h2), if_pos (show (stripV e).f0 = 3 from h3)]
        simp only [List.map_cons, List.map_nil]
        rw [if_pos (show (stripN t).f0 = (stripV e).f1 by rw [stripN_eq]; exact h5)]
        rfl
       ·rw [if_neg h6] at h; cases h
      ·rw [if_neg h5] at h; cases h
     | t :: u :: S'', hS, h =>
      dsimp only at h
      by_cases h5 : t.f0 = e.f1
      ·rw [if_pos h5] at h
       have ih := strip_run l _ a (fun x hx => by
        rcases List.mem_cons.1 hx with rfl | hx
        ·exact hS u (List.mem_cons_of_mem _ List.mem_cons_self)
        ·exact hS x (List.mem_cons_of_mem _ (List.mem_cons_of_mem _ hx))) h
       have hk : Tr.isKid t = true := by
        unfold Tr.isKid
        have : (t.f0 != 0) = true := bne_iff_ne.2 (hS t List.mem_cons_self)
        rw [this]; rfl
       rw [List.map_cons, strip_add _ _ hk] at ih
       unfold Tr.runB
       rw [if_neg (show ¬ (stripV e).f0 = 1 from h1), if_neg (show ¬ ((stripV e).f0 = 2 ∨ (stripV e).f0 = 4) from h2), if_pos (show (stripV e).f0 = 3 from h3)]
       simp only [List.map_cons]
       rw [if_pos (show (stripN t).f0 = (stripV e).f1 by rw [stripN_eq]; exact h5)]
       exact ih
      ·rw [if_neg h5] at h; cases h
    ·rw [if_neg h3] at h; cases h
theorem strip_same : ∀ (k : Nat) (x y : Tr.Nd), stripN x = stripN y → Tr.sameN k x y = true
 | 0, x, y, _ => rfl
 | k + 1, x, y, h => by
  rw [stripN_eq, stripN_eq y] at h
  simp only [PSyntaxWhole.S51.mk.injEq] at h
  obtain ⟨h1, h2, h3⟩ := h
  simp only [stripT, PSyntaxWhole.S35.mk.injEq] at h2
  rw [Tr.sameN, if_pos h1]
  by_cases h0 : x.f0 = 0
  ·rw [if_pos h0, h2.1, h2.2.1]
   simp
  ·rw [if_neg h0]
   rw [stripL_map, stripL_map] at h3
   have hlen := congrArg List.length h3
   rw [List.length_map, List.length_map] at hlen
   have key : ∀ a b : List Tr.Nd, a.map stripN = b.map stripN → ((a.zip b).all fun p => Tr.sameN k p.1 p.2) = true := by
    intro a
    induction a with
    | nil => intro b _; simp
    | cons x a ih =>
     intro b hb
     cases b with
     | nil => simp
     | cons y b =>
      simp only [List.map_cons, List.cons.injEq] at hb
      rw [List.zip_cons_cons, List.all_cons, strip_same k x y hb.1, ih b hb.2]
      rfl
   rw [key _ _ h3, hlen]
   simp
theorem put_alike (p : Par) {t u : Tk} (h : stripT t = stripT u) : (put p t).1.map stripV = (put p u).1.map stripV ∧ (put p t).2 = (put p u).2 ∧ isNote t = isNote u := by
 obtain ⟨t0, t1, t2, t3⟩ := t
 obtain ⟨u0, u1, u2, u3⟩ := u
 simp only [stripT, PSyntaxWhole.S35.mk.injEq] at h
 obtain ⟨rfl, rfl, -⟩ := h
 have hn : isNote ⟨t0, t1, t2, t3⟩ = isNote ⟨t0, t1, u2, u3⟩ := rfl
 have hc : codeOf ⟨t0, t1, t2, t3⟩ = codeOf ⟨t0, t1, u2, u3⟩ := rfl
 have ht : ∀ T d, token ⟨t0, t1, t2, t3⟩ T d = token ⟨t0, t1, u2, u3⟩ T d := fun T d => by unfold token; rw [hc]
 have hl : stripV (leafE ⟨t0, t1, t2, t3⟩) = stripV (leafE ⟨t0, t1, u2, u3⟩) := rfl
 have hm : stripV (noteE ⟨t0, t1, t2, t3⟩) = stripV (noteE ⟨t0, t1, u2, u3⟩) := rfl
 refine ⟨?_, ?_, hn⟩
 ·unfold put
  rw [hn]
  simp only [ht]
  split
  ·rfl
  ·split
   ·rfl
   ·split
    ·simp [hm]
    ·split
     ·rfl
     ·simp [hl]
 ·unfold put
  rw [hn]
  simp only [ht]
  split
  ·rfl
  ·split
   ·rfl
   ·split
    ·rfl
    ·split <;> rfl
theorem all_alike : ∀ (l m : List Tk) (p : Par), l.map stripT = m.map stripT → (allP p l).1.map stripV = (allP p m).1.map stripV ∧ (allP p l).2 = (allP p m).2
 | [], [], p, _ => ⟨rfl, rfl⟩
 | [], u :: m, p, h => by simp at h
 | t :: l, [], p, h => by simp at h
 | t :: l, u :: m, p, h => by
  simp only [List.map_cons, List.cons.injEq] at h
  obtain ⟨h1, h2, -⟩ := put_alike p h.1
  have he : (put p t).2.1 = (put p u).2.1 := by rw [h2]
  by_cases hp : (put p t).2.1 = 0
  ·rw [all_cons_ok hp, all_cons_ok (he ▸ hp)]
   obtain ⟨i1, i2⟩ := all_alike l m (put p t).2.2 h.2
   rw [← h2]
   dsimp only
   refine ⟨by rw [List.map_append, List.map_append, h1, i1], ?_⟩
   rw [i2]
  ·rw [all_cons_bad hp, all_cons_bad (he ▸ hp), he]
   exact ⟨rfl, rfl⟩
theorem all_idx : ∀ (l : List Tk) (p : Par) (op : List Nat), PInv p op → p.begun = true → (allP p l).2.1 ≠ 0 → (allP p (l.filter notNote)).2.2 = ((l.take (allP p l).2.2).filter notNote).length
 | [], p, op, _, _, _ => by simp [allP]
 | t :: r, p, op, hP, hb, he => by
  by_cases hn : isNote t = true
  ·have hp := put_note_begun hb hP.closed hP.wrong hn
   have hnn : notNote t = false := by simp [notNote, hn]
   rw [all_cons_ok (by rw [hp])] at he ⊢
   rw [hp] at he ⊢
   dsimp only at he ⊢
   have ih := all_idx r p op hP hb he
   rw [List.filter_cons, if_neg (by rw [hnn]; decide), ih, List.take_succ_cons, List.filter_cons, if_neg (by rw [hnn]; decide)]
  ·have hnn : notNote t = true := by simpa [notNote] using hn
   rw [List.filter_cons, if_pos hnn]
   by_cases hp : (put p t).2.1 = 0
   ·obtain ⟨op1, h1, h2, -, -⟩ := put_nest hP t [] hp
    rw [all_cons_ok hp] at he ⊢
    rw [all_cons_ok hp]
    dsimp only at he ⊢
    have ih := all_idx r _ op1 h1 h2 he
    rw [ih, List.take_succ_cons, List.filter_cons, if_pos hnn]
    rfl
   ·rw [all_cons_bad hp, all_cons_bad hp]
    rfl
theorem filter_notes (ns : List Tk) (h : ∀ t ∈ ns, isNote t = true) : ns.filter notNote = [] := by
 rw [List.filter_eq_nil_iff]
 intro t ht
 simp [notNote, h t ht]
theorem prog_idx (l : List Tk) (he : (allP newPar l).2.1 ≠ 0) : (allP newPar (l.filter notNote)).2.2 = ((l.take (allP newPar l).2.2).filter notNote).length := by
 obtain ⟨h1, h2, -⟩ := start_all l
 have hd := drop_notes l 0
 have hb := nAt_behind l 0
 rw [Nat.zero_add] at hb
 rw [List.drop_zero, Nat.zero_add] at hd
 have hall : ∀ t ∈ nAt l 0, isNote t = true := fun t ht => nAt_all t ht
 have hbr : (l.drop (nAt l 0).length).takeWhile isNote = [] := by unfold nAt at hb ⊢; exact hb
 generalize nAt l 0 = ns at *
 generalize hr : l.drop ns.length = r at *
 have hns := filter_notes ns hall
 rw [h2]
 rw [h1] at he
 clear h1 h2 hb
 have hf : l.filter notNote = r.filter notNote := by rw [hd, List.filter_append, hns, List.nil_append]
 have ht : ∀ i, (l.take (ns.length + i)).filter notNote = (r.take i).filter notNote := fun i => by
  rw [hd, List.take_append, List.take_of_length_le (by omega), List.filter_append, hns, List.nil_append, Nat.add_sub_cancel_left]
 rw [ht, hf]
 clear hd hr hf ht
 cases r with
 | nil => rfl
 | cons t r =>
  have hn : isNote t = false := by
   rw [List.takeWhile_cons] at hbr
   by_cases h : isNote t = true
   ·rw [if_pos h] at hbr; cases hbr
   ·simpa using h
  have hnn : notNote t = true := by simp [notNote, hn]
  obtain ⟨c1, c2⟩ := put_cmp hn
  rw [List.filter_cons, if_pos hnn]
  by_cases hp : (put notedPar t).2.1 = 0
  ·obtain ⟨c3, c4⟩ := c2 (by rw [← c1]; exact hp)
   rw [all_cons_ok (by rw [← c1]; exact hp), c4]
   rw [all_cons_ok hp] at he ⊢
   obtain ⟨op1, g1, g2, -, -⟩ := put_nest noted_inv t [] hp
   dsimp only at he ⊢
   rw [all_idx r _ op1 g1 g2 he, List.take_succ_cons, List.filter_cons, if_pos hnn]
   rfl
  ·rw [all_cons_bad (by rw [← c1]; exact hp), all_cons_bad hp]
   rfl
end Go.Proofs.Ytmjbpgnjgblnmaa
namespace Go.Proofs.Ytmjbpgnjgblnmaa
open Go.RowKit Go.Proofs.YtmjbpgnjgblnmaaW.PrintWords Go.Proofs.YtmjbpgnjgblnmaaW.PrintLast Go.Proofs.YtmjbpgnjgblnmaaW.PrintMore
abbrev rdT (l : List Tk) (i : Nat) : Tk := PSyntaxWhole.rd_T35 l i
theorem take_rdT (l : List Tk) (i : Nat) (hi : i < l.length) : l.take (i + 1) = l.take i ++ [rdT l i] := by
 rw [List.take_add_one, List.getElem?_eq_getElem hi]
 simp [rdT, PSyntaxWhole.rd_T35, List.getD_eq_getElem?_getD, hi]
def chg (i : Nat) (t : Tk) : Tk := ⟨t.f0, t.f1, ⟨5 * (i : Int), (i : Int), 0⟩, 3⟩
def plainT (l : List Tk) : Nat → List Tk
 | 0 => []
 | n + 1 => if isNote (rdT l n) then plainT l n else plainT l n ++ [chg n (rdT l n)]
def ahead (l : List Tk) (a : Nat) : Nat → Nat
 | 0 => 0
 | n + 1 => if isNote (rdT l n) then ahead l a n else if n < a then ahead l a n + 1 else ahead l a n
theorem plainT_strip (l : List Tk) : ∀ n, n ≤ l.length → (plainT l n).map stripT = ((l.take n).filter notNote).map stripT ∧ (plainT l n).filter notNote = plainT l n ∧ (plainT l n).length ≤ n
 | 0, _ => by simp [plainT]
 | n + 1, hn => by
  obtain ⟨h1, h2, h3⟩ := plainT_strip l n (by omega)
  rw [take_rdT l n (by omega), List.filter_append, List.map_append, plainT]
  by_cases ht : isNote (rdT l n) = true
  ·have hnn : notNote (rdT l n) = false := by simp [notNote, ht]
   rw [if_pos ht]
   refine ⟨by rw [h1]; simp [hnn], h2, by omega⟩
  ·have hnn : notNote (rdT l n) = true := by simpa [notNote] using ht
   have hnc : notNote (chg n (rdT l n)) = true := hnn
   rw [if_neg ht]
   refine ⟨?_, ?_, ?_⟩
   ·rw [List.map_append, h1]
    simp [hnn]
    rfl
   ·rw [List.filter_append, h2]
    simp [hnc]
   ·rw [List.length_append, List.length_singleton]; omega
theorem ahead_eq (l : List Tk) (a : Nat) : ∀ n, n ≤ l.length → ahead l a n = ((l.take (min n a)).filter notNote).length
 | 0, _ => by simp [ahead]
 | n + 1, hn => by
  have ih := ahead_eq l a n (by omega)
  rw [ahead]
  by_cases ha : n < a
  ·rw [Nat.min_eq_left (by omega : n + 1 ≤ a), take_rdT l n (by omega), List.filter_append, List.length_append]
   rw [Nat.min_eq_left (by omega : n ≤ a)] at ih
   by_cases ht : isNote (rdT l n) = true
   ·rw [if_pos ht, ih]
    simp [notNote, ht]
   ·rw [if_neg ht, if_pos ha, ih]
    have hnn : notNote (rdT l n) = true := by simpa [notNote] using ht
    simp [hnn]
  ·rw [Nat.min_eq_right (by omega : a ≤ n + 1)]
   rw [Nat.min_eq_right (by omega : a ≤ n)] at ih
   by_cases ht : isNote (rdT l n) = true
   ·rw [if_pos ht, ih]
   ·rw [if_neg ht, if_neg ha, ih]
theorem ahead_le (l : List Tk) (a : Nat) : ∀ n, ahead l a n ≤ n
 | 0 => Nat.le_refl _
 | n + 1 => by
  have := ahead_le l a n
  rw [ahead]
  split
  ·omega
  ·split <;> omega
theorem progA_le (l : List Tk) : progA l ≤ l.length := by
 obtain ⟨op', h1, h2, -⟩ := all_nest l newPar [] newPar_inv
 unfold progA
 split
 ·exact Nat.zero_le _
 ·exact h2
structure WholeP (l m : List Tk) : Prop where
 err : progE m = progE l
 place : progE l ≠ 0 → progA m = ahead l (progA l) l.length
 end_ : progE l ≠ 0 → (progE l = 121 ↔ progA l = l.length)
 zero : progE l ≠ 0 → prNd l = Tr.noNd
 kind : progE l = 0 → (prNd l).f0 ≠ 0
 full : progE l = 0 → fullT (prNd l)
 toks : progE l = 0 → Tr.toks (prNd l) = l
 deep : progE l = 0 → Tr.dep (prNd l) ≤ 1000
 same : progE l = 0 → ∀ k, Tr.sameN k (prNd l) (prNd m) = true
 size : progE l = 0 → Tr.nds (prNd l) ≤ 274877906946 ∧ Tr.nds (prNd m) ≤ 274877906946
theorem evs_plain {l : List Tk} (he : (allP newPar l).2.1 = 0) : ((allP newPar l).1).filter notNoteE = (allP newPar (l.filter notNote)).1 := by
 obtain ⟨h1, h2 | ⟨h2, -⟩⟩ := notes_all l
 ·exact h2
 ·exfalso
  rw [he] at h1
  obtain ⟨X, hX, -⟩ := prog_tree (l.filter notNote) h1.symm
  rw [h2] at hX
  simp [Tr.runB] at hX
theorem whole_plain (l : List Tk) (hl : l.length ≤ 4194304) : WholeP l (plainT l l.length) := by
 obtain ⟨h1, h2, h3⟩ := plainT_strip l l.length (Nat.le_refl _)
 rw [List.take_length] at h1
 generalize hm : plainT l l.length = m at *
 obtain ⟨a1, a2⟩ := all_alike m (l.filter notNote) newPar h1
 obtain ⟨n1, -⟩ := notes_all l
 have herr : progE m = progE l := by unfold progE; rw [a2, n1]
 obtain ⟨op', -, -, -, e4⟩ := all_nest l newPar [] newPar_inv
 have hbad : progE l ≠ 0 → progA l = (allP newPar l).2.2 := fun h => by unfold progA; unfold progE at h; rw [if_neg h]
 have hgood : progE l = 0 → ∃ X, prNd l = X ∧ Tr.runB (allP newPar l).1 [] = some X ∧ fullT X := fun h => by
  obtain ⟨X, hX, hf⟩ := prog_tree l h
  refine ⟨X, ?_, hX, hf⟩
  unfold prNd
  unfold progE at h
  rw [if_pos h, Tr.bld_some hX]
 have hgoodm : progE l = 0 → ∃ X, prNd m = X ∧ Tr.runB (allP newPar m).1 [] = some X := fun h => by
  rw [← herr] at h
  obtain ⟨X, hX, hf⟩ := prog_tree m h
  refine ⟨X, ?_, hX⟩
  unfold prNd
  unfold progE at h
  rw [if_pos h, Tr.bld_some hX]
 refine ⟨herr, fun h => ?_, fun h => ?_, fun h => ?_, fun h => ?_, fun h => ?_, fun h => ?_, fun h => ?_, fun h k => ?_, fun h => ?_⟩
 ·have hi := prog_idx l h
  have h5 : progA m = (allP newPar m).2.2 := by
   have h6 : (allP newPar m).2.1 ≠ 0 := by have := herr; unfold progE at this; rw [this]; exact h
   unfold progA; rw [if_neg h6]
  rw [h5, a2, hi, ahead_eq l _ _ (Nat.le_refl _), Nat.min_eq_right (progA_le l), hbad h]
 ·have := (e4 h).1
  rw [hbad h]
  exact this
 ·unfold prNd; unfold progE at h; rw [if_neg h]
 ·obtain ⟨X, hp, hX, -⟩ := hgood h
  rw [hp]
  exact (Tr.bld_tells hX).2
 ·obtain ⟨X, hp, hX, hf⟩ := hgood h
  rw [hp]; exact hf
 ·obtain ⟨X, hp, hX, -⟩ := hgood h
  rw [hp]; exact prog_toks h hX
 ·obtain ⟨X, hp, hX, -⟩ := hgood h
  rw [hp]; exact prog_deep hX
 ·obtain ⟨X, hp, hX, -⟩ := hgood h
  obtain ⟨Y, hq, hY⟩ := hgoodm h
  rw [hp, hq]
  apply strip_same
  have s1 := strip_run _ [] X (fun _ h => by cases h) hX
  have s2 := strip_run _ [] Y (fun _ h => by cases h) hY
  have hem : (allP newPar m).2.1 = 0 := by have := herr; unfold progE at this; rw [this]; exact h
  have v1 : stripE (allP newPar l).1 = stripE (allP newPar m).1 := by
   unfold stripE
   rw [evs_plain h, evs_plain hem, h2, a1]
  rw [v1] at s1
  rw [s1] at s2
  exact Option.some.inj s2
 ·obtain ⟨X, hp, hX, -⟩ := hgood h
  obtain ⟨Y, hq, hY⟩ := hgoodm h
  have r1 := Tr.run_nds _ _ _ hX
  have r2 := Tr.run_nds _ _ _ hY
  have hem : (allP newPar m).2.1 = 0 := by have := herr; unfold progE at this; rw [this]; exact h
  have l1 := prog_evs hl h
  have l2 := prog_evs (l := m) (by omega) hem
  rw [hp, hq]
  simp only [Tr.ndsL] at r1 r2
  omega
abbrev fF (k : Nat) (x : Tr.Nd) : Option Bool := PSyntaxWhole.colophonlaw14_full.f k x.f0 x.f1.f0 x.f1.f1 x.f1.f2.f0 x.f1.f2.f1 x.f1.f2.f2 x.f1.f3 x.f2
theorem fF_mono {k k' : Nat} (h : k ≤ k') (x : Tr.Nd) {r : Bool} (hr : fF k x = some r) : fF k' x = some r := by
 induction h with
 | refl => exact hr
 | step _ ih => exact PSyntaxWhole.colophonlaw14_full.mono _ _ _ _ _ _ _ _ _ _ ih
theorem full_f : ∀ (N : Nat) (x : Tr.Nd), Tr.nds x ≤ N → Tr.nds x ≤ 274877906946 → fullT x → ∃ k, fF k x = some true := by
 intro N
 induction N with
 | zero => intro x h; have := Tr.nds_pos x; omega
 | succ N ih =>
  intro x hN hs hf
  rw [full_eq] at hf
  by_cases hk : x.f0 = 0
  ·rw [if_pos hk] at hf
   exact ⟨1, by unfold fF; rw [PSyntaxWhole.colophonlaw14_full.f, if_pos hk, hf]; rfl⟩
  ·rw [if_neg hk] at hf
   obtain ⟨f1, f2, f3⟩ := hf
   rw [fullL_iff] at f3
   have hsz := Tr.nds_eq x
   have hll := Tr.ndsL_len x.f2
   have hK : ∃ K, ∀ y ∈ x.f2, fF K y = some true := by
    have : ∀ l : List Tr.Nd, (∀ y ∈ l, Tr.nds y ≤ N ∧ Tr.nds y ≤ 274877906946 ∧ fullT y) → ∃ K, ∀ y ∈ l, fF K y = some true := by
     intro l
     induction l with
     | nil => exact fun _ => ⟨0, fun y h => by cases h⟩
     | cons z l ihl =>
      intro h
      obtain ⟨K1, h1⟩ := ihl fun y hy => h y (List.mem_cons_of_mem _ hy)
      obtain ⟨g1, g2, g3⟩ := h z List.mem_cons_self
      obtain ⟨K2, h2⟩ := ih z g1 g2 g3
      refine ⟨max K1 K2, fun y hy => ?_⟩
      rcases List.mem_cons.1 hy with rfl | hy
      ·exact fF_mono (Nat.le_max_right _ _) _ h2
      ·exact fF_mono (Nat.le_max_left _ _) _ (h1 y hy)
    exact this x.f2 fun y hy => ⟨by have := Tr.ndsL_mem hy; omega, by have := Tr.ndsL_mem hy; omega, f3 y hy⟩
   obtain ⟨K, hK⟩ := hK
   have hlp : ∀ (d i : Nat), x.f2.length - i = d → i ≤ x.f2.length → PSyntaxWhole.colophonlaw14_full.l0 (K + d + 1) (i : Int) x.f0 x.f1.f0 x.f1.f1 x.f1.f2.f0 x.f1.f2.f1 x.f1.f2.f2 x.f1.f3 x.f2 = some true := by
    intro d
    induction d with
    | zero =>
     intro i hd hi
     rw [PSyntaxWhole.colophonlaw14_full.l0, if_neg (by omega)]
    | succ d ihd =>
     intro i hd hi
     have hlt : i < x.f2.length := by omega
     have hg : x.f2[i]? = some x.f2[i] := List.getElem?_eq_getElem hlt
     have hy : PSyntaxWhole.colophonlaw14_full.f (K + d + 1) x.f2[i].f0 x.f2[i].f1.f0 x.f2[i].f1.f1 x.f2[i].f1.f2.f0 x.f2[i].f1.f2.f1 x.f2[i].f1.f2.f2 x.f2[i].f1.f3 x.f2[i].f2 = some true := fF_mono (k := K) (by omega) x.f2[i] (hK _ (List.getElem_mem _))
     rw [show K + (d + 1) + 1 = (K + d + 1) + 1 by omega, PSyntaxWhole.colophonlaw14_full.l0, if_pos (by omega), if_pos (by omega), Tr.rd_nd x.f2 i _ hg, hy, Option.bind_some, if_pos rfl, show ((i : Int) + 1) = ((i + 1 : Nat) : Int) by push_cast; rfl, Tr.w64 (by omega) (by omega)]
     exact ihd (i + 1) (by omega) (by omega)
   have hlen : ¬ ((x.f2.length : Int) = 0) := by
    have : x.f2.length ≠ 0 := fun h => f1 (List.length_eq_zero_iff.1 h)
    omega
   have h0 := hlp x.f2.length 0 (by omega) (by omega)
   refine ⟨K + x.f2.length + 1 + 1 + 1, ?_⟩
   unfold fF
   rw [PSyntaxWhole.colophonlaw14_full.f, if_neg hk, if_neg hlen, PSyntaxWhole.colophonlaw14_full.j0]
   rw [f2] at h0 ⊢
   rw [if_neg (by simp [Tr.noTk, ByteArray.toList_eq])]
   exact h0
end Go.Proofs.Ytmjbpgnjgblnmaa
