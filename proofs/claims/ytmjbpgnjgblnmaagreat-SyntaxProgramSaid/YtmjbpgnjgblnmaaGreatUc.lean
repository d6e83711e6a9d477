/- What the claim stands on: part Uc. -/
import Derived.Test.YtmjbpgnjgblnmaaGreatUb
import Derived.RowKit
import Derived.OrdersHeld
import Derived.Deep.RegionHeld
import Derived.OrdersIn
import Derived.RangeFuncCalls
import Derived.TacticsIn
import Derived.Lib.Hide
import Derived.Below
import Derived.Laws.AppendOwn
import Derived.Deep.MidRow
import Derived.Laws.EntriesVeiled
import Derived.Laws.OwnMore
import Derived.OwnWalk
import Derived.Deep.AppendLies
import Derived.WalkMore
set_option maxRecDepth 100000
set_option linter.unusedVariables false
set_option linter.unusedSimpArgs false
namespace Go.Proofs.YtmjbpgnjgblnmaaGreat
inductive RId
 | r_block
 | r_declarations
 | r_declaration
 | r_names
 | r_params
 | r_moreParams
 | r_param
 | r_typed
 | r_kind
 | r_member
 | r_members
 | r_body
 | r_statements
 | r_statement
 | r_assigned
 | r_elses
 | r_maybe
 | r_expr
 | r_rels
 | r_rel
 | r_compared
 | r_sum
 | r_terms
 | r_term
 | r_factors
 | r_factor
 | r_object
 | r_selected
 | r_args
 | r_exprs
 deriving DecidableEq, Repr
inductive WT
 | word (s : ByteArray)
 | fin (k : Nat)
 | rule (f : RId)
 deriving DecidableEq
inductive Eff
 | push (l : List WT)
 | opn (k : Nat) (l : List WT)
def RId.expand : RId → ByteArray → Option (List Eff)
 | .r_block, c => some [.opn 2 [.rule .r_declarations, .word ⟨#[98, 101, 103, 105, 110]⟩, .rule .r_body, .word ⟨#[101, 110, 100]⟩]]
 | .r_declarations, c => if c = ⟨#[118, 97, 114]⟩ ∨ c = ⟨#[99, 111, 110, 115, 116]⟩ ∨ c = ⟨#[112, 114, 111, 99]⟩ then some [.push [.rule .r_declaration, .rule .r_declarations]] else some []
 | .r_declaration, c => if c = ⟨#[118, 97, 114]⟩ then some [.opn 3 [.word c, .word ⟨#[64, 110, 97, 109, 101]⟩, .rule .r_names, .word ⟨#[58]⟩, .rule .r_kind, .word ⟨#[59]⟩]] else if c = ⟨#[99, 111, 110, 115, 116]⟩ then some [.opn 4 [.word c, .word ⟨#[64, 110, 97, 109, 101]⟩, .word ⟨#[61]⟩, .rule .r_expr, .word ⟨#[59]⟩]] else some [.opn 5 [.word c, .word ⟨#[64, 110, 97, 109, 101]⟩, .rule .r_params, .rule .r_typed, .word ⟨#[59]⟩, .rule .r_block, .word ⟨#[59]⟩]]
 | .r_names, c => if c = ⟨#[44]⟩ then some [.push [.word c, .word ⟨#[64, 110, 97, 109, 101]⟩, .rule .r_names]] else some []
 | .r_params, c => if c = ⟨#[40]⟩ then some [.opn 6 [.word c, .rule .r_param, .rule .r_moreParams, .word ⟨#[41]⟩]] else some []
 | .r_moreParams, c => if c = ⟨#[59]⟩ then some [.push [.word c, .rule .r_param, .rule .r_moreParams]] else some []
 | .r_param, c => some [.opn 7 [.word ⟨#[64, 110, 97, 109, 101]⟩, .rule .r_names, .word ⟨#[58]⟩, .rule .r_kind]]
 | .r_typed, c => if c = ⟨#[58]⟩ then some [.push [.word c, .rule .r_kind]] else some []
 | .r_kind, c => if c = ⟨#[64, 110, 97, 109, 101]⟩ then some [.opn 8 [.word c]] else if c = ⟨#[97, 114, 114, 97, 121]⟩ then some [.opn 9 [.word c, .word ⟨#[91]⟩, .rule .r_expr, .word ⟨#[46, 46]⟩, .rule .r_expr, .word ⟨#[93]⟩, .word ⟨#[111, 102]⟩, .rule .r_kind]] else if c = ⟨#[114, 101, 99, 111, 114, 100]⟩ then some [.opn 10 [.word c, .rule .r_member, .rule .r_members, .word ⟨#[101, 110, 100]⟩]] else none
 | .r_member, c => some [.opn 11 [.word ⟨#[64, 110, 97, 109, 101]⟩, .rule .r_names, .word ⟨#[58]⟩, .rule .r_kind]]
 | .r_members, c => if c = ⟨#[59]⟩ then some [.push [.word c, .rule .r_member, .rule .r_members]] else some []
 | .r_body, c => some [.opn 12 [.rule .r_statement, .rule .r_statements]]
 | .r_statements, c => if c = ⟨#[59]⟩ then some [.push [.word c, .rule .r_statement, .rule .r_statements]] else some []
 | .r_statement, c => if c = ⟨#[115, 107, 105, 112]⟩ then some [.opn 13 [.word c]] else if c = ⟨#[64, 110, 97, 109, 101]⟩ then some [.opn 14 [.rule .r_object, .rule .r_assigned]] else if c = ⟨#[105, 102]⟩ then some [.opn 15 [.word c, .rule .r_expr, .word ⟨#[116, 104, 101, 110]⟩, .rule .r_body, .rule .r_elses, .word ⟨#[101, 110, 100]⟩]] else if c = ⟨#[119, 104, 105, 108, 101]⟩ then some [.opn 16 [.word c, .rule .r_expr, .word ⟨#[100, 111]⟩, .rule .r_body, .word ⟨#[101, 110, 100]⟩]] else if c = ⟨#[102, 111, 114]⟩ then some [.opn 17 [.word c, .word ⟨#[64, 110, 97, 109, 101]⟩, .word ⟨#[58, 61]⟩, .rule .r_expr, .word ⟨#[116, 111]⟩, .rule .r_expr, .word ⟨#[100, 111]⟩, .rule .r_body, .word ⟨#[101, 110, 100]⟩]] else if c = ⟨#[114, 101, 112, 101, 97, 116]⟩ then some [.opn 18 [.word c, .rule .r_body, .word ⟨#[117, 110, 116, 105, 108]⟩, .rule .r_expr]] else if c = ⟨#[114, 101, 116, 117, 114, 110]⟩ then some [.opn 19 [.word c, .rule .r_maybe]] else if c = ⟨#[98, 101, 103, 105, 110]⟩ then some [.opn 20 [.word c, .rule .r_body, .word ⟨#[101, 110, 100]⟩]] else none
 | .r_assigned, c => if c = ⟨#[58, 61]⟩ then some [.push [.word c, .rule .r_expr]] else some []
 | .r_elses, c => if c = ⟨#[101, 108, 105, 102]⟩ then some [.push [.word c, .rule .r_expr, .word ⟨#[116, 104, 101, 110]⟩, .rule .r_body, .rule .r_elses]] else if c = ⟨#[101, 108, 115, 101]⟩ then some [.push [.word c, .rule .r_body]] else some []
 | .r_maybe, c => if c = ⟨#[64, 110, 117, 109, 98, 101, 114]⟩ ∨ c = ⟨#[64, 116, 101, 120, 116]⟩ ∨ c = ⟨#[64, 99, 104, 97, 114]⟩ ∨ c = ⟨#[64, 110, 97, 109, 101]⟩ ∨ c = ⟨#[45]⟩ ∨ c = ⟨#[110, 111, 116]⟩ ∨ c = ⟨#[40]⟩ then some [.push [.rule .r_expr]] else some []
 | .r_expr, c => some [.opn 21 [.rule .r_rel, .rule .r_rels]]
 | .r_rels, c => if c = ⟨#[97, 110, 100]⟩ ∨ c = ⟨#[111, 114]⟩ then some [.push [.word c, .rule .r_rel, .rule .r_rels]] else some []
 | .r_rel, c => some [.opn 22 [.rule .r_sum, .rule .r_compared]]
 | .r_compared, c => if c = ⟨#[61]⟩ ∨ c = ⟨#[35]⟩ ∨ c = ⟨#[60]⟩ ∨ c = ⟨#[60, 61]⟩ ∨ c = ⟨#[62]⟩ ∨ c = ⟨#[62, 61]⟩ then some [.push [.word c, .rule .r_sum]] else some []
 | .r_sum, c => some [.opn 23 [.rule .r_term, .rule .r_terms]]
 | .r_terms, c => if c = ⟨#[43]⟩ ∨ c = ⟨#[45]⟩ then some [.push [.word c, .rule .r_term, .rule .r_terms]] else some []
 | .r_term, c => some [.opn 24 [.rule .r_factor, .rule .r_factors]]
 | .r_factors, c => if c = ⟨#[42]⟩ ∨ c = ⟨#[47]⟩ ∨ c = ⟨#[37]⟩ then some [.push [.word c, .rule .r_factor, .rule .r_factors]] else some []
 | .r_factor, c => if c = ⟨#[45]⟩ then some [.opn 25 [.word c, .rule .r_factor]] else if c = ⟨#[110, 111, 116]⟩ then some [.opn 26 [.word c, .rule .r_factor]] else if c = ⟨#[40]⟩ then some [.opn 27 [.word c, .rule .r_expr, .word ⟨#[41]⟩]] else if c = ⟨#[64, 110, 117, 109, 98, 101, 114]⟩ ∨ c = ⟨#[64, 116, 101, 120, 116]⟩ ∨ c = ⟨#[64, 99, 104, 97, 114]⟩ then some [.opn 32 [.word c]] else some [.opn 28 [.word ⟨#[64, 110, 97, 109, 101]⟩, .rule .r_selected]]
 | .r_object, c => some [.opn 28 [.word ⟨#[64, 110, 97, 109, 101]⟩, .rule .r_selected]]
 | .r_selected, c => if c = ⟨#[91]⟩ then some [.push [.rule .r_selected], .opn 29 [.word c, .rule .r_expr, .rule .r_exprs, .word ⟨#[93]⟩]] else if c = ⟨#[46]⟩ then some [.push [.rule .r_selected], .opn 30 [.word c, .word ⟨#[64, 110, 97, 109, 101]⟩]] else if c = ⟨#[40]⟩ then some [.push [.rule .r_selected], .opn 31 [.word c, .rule .r_args, .word ⟨#[41]⟩]] else some []
 | .r_args, c => if c = ⟨#[64, 110, 117, 109, 98, 101, 114]⟩ ∨ c = ⟨#[64, 116, 101, 120, 116]⟩ ∨ c = ⟨#[64, 99, 104, 97, 114]⟩ ∨ c = ⟨#[64, 110, 97, 109, 101]⟩ ∨ c = ⟨#[45]⟩ ∨ c = ⟨#[110, 111, 116]⟩ ∨ c = ⟨#[40]⟩ then some [.push [.rule .r_expr, .rule .r_exprs]] else some []
 | .r_exprs, c => if c = ⟨#[44]⟩ then some [.push [.word c, .rule .r_expr, .rule .r_exprs]] else some []
structure PSt where
 todo : List WT
 evs : List (Nat × Nat)
 depth : Int
def Eff.act (s : PSt) : Eff → PSt
 | .push l => { s with todo := l ++ s.todo }
 | .opn k l => { todo := l ++ .fin k :: s.todo, evs := s.evs ++ [(1, k)], depth := s.depth + 1 }
def effs (s : PSt) (l : List Eff) : PSt := l.foldl Eff.act s
inductive Turn
 | on (s : PSt)
 | got (s : PSt)
 | bad (s : PSt)
def turn (c : ByteArray) (s : PSt) : Turn :=
 match s.todo with
 | [] => .bad s
 | .word x :: r => if x = c then .got { s with todo := r } else .bad { s with todo := r }
 | .fin k :: r => .on { todo := r, evs := s.evs ++ [(3, k)], depth := s.depth - 1 }
 | .rule f :: r => match f.expand c with
  | none => .bad { s with todo := r }
  | some l => .on (effs { s with todo := r } l)
def turns (c : ByteArray) : Nat → PSt → Option (Bool × PSt)
 | 0, _ => none
 | n + 1, s => match turn c s with
  | .on s' => turns c n s'
  | .got s' => some (true, s')
  | .bad s' => some (false, s')
theorem turns_mono (c : ByteArray) : ∀ (n : Nat) (s : PSt) (r : Bool × PSt) (k : Nat), turns c n s = some r → turns c (n + k) s = some r
 | 0, s, r, k, h => by simp [turns] at h
 | n + 1, s, r, k, h => by
  rw [show n + 1 + k = (n + k) + 1 by omega]
  rw [turns] at h ⊢
  split at h
  ·rename_i s' hs
   exact turns_mono c n s' r k h
  ·rename_i s' hs
   exact h
  ·rename_i s' hs
   exact h
def fins : List WT → List Nat
 | [] => []
 | .fin k :: r => k :: fins r
 | .word _ :: r => fins r
 | .rule _ :: r => fins r
def WT.noFin : WT → Bool
 | .fin _ => false
 | _ => true
def Eff.plain : Eff → Bool
 | .push l => l.all WT.noFin
 | .opn k l => (k != 1) && l.all WT.noFin
theorem fins_app : ∀ (l r : List WT), l.all WT.noFin = true → fins (l ++ r) = fins r
 | [], r, _ => rfl
 | x :: l, r, h => by
  rw [List.all_cons, Bool.and_eq_true] at h
  cases x with
  | fin k => cases h.1
  | word s => exact fins_app l r h.2
  | rule f => exact fins_app l r h.2
theorem expand_plain {f : RId} {c : ByteArray} {l : List Eff} (h : f.expand c = some l) : l.all Eff.plain = true := by
 cases f
 all_goals
  simp only [RId.expand] at h
  repeat' split at h
 all_goals first
  | (cases h; done)
  | (cases h; rfl)
def Opens (s r : PSt) (ks : List Nat) : Prop := r.evs = s.evs ++ ks.map (fun k => (1, k)) ∧ r.depth = s.depth + ks.length ∧ ∀ k ∈ ks, k ≠ 1
theorem Opens.trans {a b c : PSt} {k l : List Nat} (h : Opens a b k) (h' : Opens b c l) : Opens a c (k ++ l) := by
 refine ⟨by rw [h'.1, h.1, List.map_append, List.append_assoc], ?_, ?_⟩
 ·rw [h'.2.1, h.2.1, List.length_append]
  omega
 ·intro j hj
  rcases List.mem_append.1 hj with hj | hj
  ·exact h.2.2 j hj
  ·exact h'.2.2 j hj
theorem effs_law : ∀ (l : List Eff) (s : PSt), l.all Eff.plain = true → ∃ ks, Opens s (effs s l) ks ∧ fins (effs s l).todo = ks.reverse ++ fins s.todo
 | [], s, _ => ⟨[], ⟨by simp [effs], by simp [effs], fun k hk => by cases hk⟩, by simp [effs]⟩
 | e :: l, s, h => by
  rw [List.all_cons, Bool.and_eq_true] at h
  obtain ⟨ks, h1, h2⟩ := effs_law l (Eff.act s e) h.2
  cases e with
  | push w =>
   refine ⟨ks, h1, ?_⟩
   have : fins (Eff.act s (.push w)).todo = fins s.todo := fins_app w s.todo h.1
   rw [← this]
   exact h2
  | opn k w =>
   have hp := h.1
   simp only [Eff.plain, Bool.and_eq_true, bne_iff_ne, ne_eq] at hp
   refine ⟨k :: ks, ?_, ?_⟩
   ·have h0 : Opens s (Eff.act s (.opn k w)) [k] := ⟨rfl, rfl, fun j hj => by rw [List.mem_singleton.1 hj]; exact hp.1⟩
    exact h0.trans h1
   ·have : fins (Eff.act s (.opn k w)).todo = k :: fins s.todo := fins_app w (.fin k :: s.todo) hp.2
    rw [List.reverse_cons, List.append_assoc, List.singleton_append, ← this]
    exact h2
def OkTop (c : ByteArray) (n : Nat) (t : WT) : Prop := ∀ (s : PSt) (rest : List WT), s.todo = t :: rest → ∃ r ks, turns c n s = some r ∧ Opens s r.2 ks ∧ (r.1 = true → fins r.2.todo = ks.reverse ++ fins s.todo)
theorem OkTop.up {c : ByteArray} {n m : Nat} {t : WT} (h : OkTop c n t) (hm : n ≤ m) : OkTop c m t := fun s rest hs => by
 obtain ⟨r, ks, hr, h1⟩ := h s rest hs
 obtain ⟨k, rfl⟩ := Nat.exists_eq_add_of_le hm
 exact ⟨r, ks, turns_mono c n s r k hr, h1⟩
theorem ok_word (c x : ByteArray) : OkTop c 1 (.word x) := fun s rest hs => by
 by_cases hx : x = c
 ·exact ⟨(true, { s with todo := rest }), [], by rw [turns]; simp only [turn, hs, if_pos hx], ⟨by simp, by simp, fun k hk => (by cases hk)⟩, fun _ => by rw [hs]; rfl⟩
 ·exact ⟨(false, { s with todo := rest }), [], by rw [turns]; simp only [turn, hs, if_neg hx], ⟨by simp, by simp, fun k hk => (by cases hk)⟩, fun h => by cases h⟩
theorem ok_rule {c : ByteArray} {n : Nat} {f : RId} (h : ∀ l, f.expand c = some l → ∀ s : PSt, ∃ t r, (effs s l).todo = t :: r ∧ OkTop c n t) : OkTop c (n + 1) (.rule f) := fun s rest hs => by
 cases he : f.expand c with
 | none => exact ⟨(false, { s with todo := rest }), [], by simp only [turns, turn, hs, he], ⟨by simp, by simp, fun k hk => (by cases hk)⟩, fun h => by cases h⟩
 | some l =>
  obtain ⟨t, r, ht, ho⟩ := h l he { s with todo := rest }
  obtain ⟨ks, h1, h2⟩ := effs_law l { s with todo := rest } (expand_plain he)
  obtain ⟨q, ls, hq, h3, h4⟩ := ho _ r ht
  refine ⟨q, ks ++ ls, by rw [turns]; simp only [turn, hs, he]; exact hq, h1.trans h3, fun hb => ?_⟩
  rw [h4 hb, h2, List.reverse_append, List.append_assoc, hs]
  rfl
theorem ok_object (c : ByteArray) : OkTop c 2 (.rule .r_object) := ok_rule fun l h s => by
 simp only [RId.expand, Option.some.injEq] at h; subst h
 exact ⟨_, _, rfl, ok_word _ _⟩
theorem ok_declaration (c : ByteArray) : OkTop c 2 (.rule .r_declaration) := ok_rule fun l h s => by
 simp only [RId.expand] at h
 split at h
 ·cases h; exact ⟨_, _, rfl, ok_word _ _⟩
 split at h
 ·cases h; exact ⟨_, _, rfl, ok_word _ _⟩
 ·cases h; exact ⟨_, _, rfl, ok_word _ _⟩
theorem ok_factor (c : ByteArray) : OkTop c 2 (.rule .r_factor) := ok_rule fun l h s => by
 simp only [RId.expand] at h
 repeat' split at h
 all_goals (cases h; exact ⟨_, _, rfl, ok_word _ _⟩)
theorem ok_term (c : ByteArray) : OkTop c 3 (.rule .r_term) := ok_rule fun l h s => by
 simp only [RId.expand, Option.some.injEq] at h; subst h
 exact ⟨_, _, rfl, ok_factor _⟩
theorem ok_sum (c : ByteArray) : OkTop c 4 (.rule .r_sum) := ok_rule fun l h s => by
 simp only [RId.expand, Option.some.injEq] at h; subst h
 exact ⟨_, _, rfl, ok_term _⟩
theorem ok_rel (c : ByteArray) : OkTop c 5 (.rule .r_rel) := ok_rule fun l h s => by
 simp only [RId.expand, Option.some.injEq] at h; subst h
 exact ⟨_, _, rfl, ok_sum _⟩
theorem ok_expr (c : ByteArray) : OkTop c 6 (.rule .r_expr) := ok_rule fun l h s => by
 simp only [RId.expand, Option.some.injEq] at h; subst h
 exact ⟨_, _, rfl, ok_rel _⟩
theorem ok_statement (c : ByteArray) : OkTop c 3 (.rule .r_statement) := ok_rule fun l h s => by
 simp only [RId.expand] at h
 repeat' split at h
 all_goals (first | (cases h; done) | (cases h; exact ⟨_, _, rfl, (ok_word _ _).up (by omega)⟩) | (cases h; exact ⟨_, _, rfl, ok_object _⟩))
theorem ok_block (c : ByteArray) : OkTop c 4 (.rule .r_block) := by
 have hD : OkTop c 3 (.rule .r_declarations) ∨ RId.r_declarations.expand c = some [] := by
  by_cases hd : c = ⟨#[118, 97, 114]⟩ ∨ c = ⟨#[99, 111, 110, 115, 116]⟩ ∨ c = ⟨#[112, 114, 111, 99]⟩
  ·refine .inl (ok_rule fun l h s => ?_)
   simp only [RId.expand, if_pos hd, Option.some.injEq] at h; subst h
   exact ⟨_, _, rfl, ok_declaration _⟩
  ·exact .inr (by simp only [RId.expand, if_neg hd])
 rcases hD with hD | hD
 ·refine ok_rule fun l h s => ?_
  simp only [RId.expand, Option.some.injEq] at h; subst h
  exact ⟨_, _, rfl, hD⟩
 ·intro s rest hs
  obtain ⟨q, ls, hq, h3, h4⟩ := (ok_word c ⟨#[98, 101, 103, 105, 110]⟩).up (show 1 ≤ 2 by omega) { todo := [.word ⟨#[98, 101, 103, 105, 110]⟩, .rule .r_body, .word ⟨#[101, 110, 100]⟩] ++ .fin 2 :: rest, evs := s.evs ++ [(1, 2)], depth := s.depth + 1 } _ rfl
  refine ⟨q, 2 :: ls, ?_, Opens.trans (b := { todo := [], evs := s.evs ++ [(1, 2)], depth := s.depth + 1 }) (k := [2]) ⟨rfl, rfl, fun j hj => by rw [List.mem_singleton.1 hj]; decide⟩ h3, fun hb => ?_⟩
  ·rw [turns]
   simp only [turn, hs, RId.expand]
   rw [turns]
   simp only [effs, List.foldl, Eff.act, List.cons_append, List.nil_append, turn, hD]
   exact hq
  ·rw [h4 hb, hs, List.reverse_cons, List.append_assoc]
   rfl
def Gone (c : ByteArray) (f : RId) : Prop := f.expand c = some [] ∨ OkTop c 7 (.rule f)
theorem gone_of {c : ByteArray} {f : RId} (h : ∀ l, f.expand c = some l → l = [] ∨ ∀ s : PSt, ∃ t r, (effs s l).todo = t :: r ∧ OkTop c 6 t) : Gone c f := by
 cases he : f.expand c with
 | none => exact .inr (ok_rule fun l h' => by rw [he] at h'; cases h')
 | some l =>
  rcases h l he with rfl | h
  ·exact .inl he
  ·exact .inr (ok_rule fun l' h' => by rw [he] at h'; cases h'; exact h)
theorem gone_any (c : ByteArray) (f : RId) : Gone c f := by
 cases f
 case r_block => exact .inr ((ok_block c).up (by omega))
 case r_expr => exact .inr ((ok_expr c).up (by omega))
 all_goals
  refine gone_of fun l h => ?_
  simp only [RId.expand] at h
  repeat' split at h
 all_goals first
  | (cases h; done)
  | (cases h; exact .inl rfl)
  | (cases h; exact .inr fun s => ⟨_, _, rfl, (ok_word _ _).up (by omega)⟩)
  | (cases h; exact .inr fun s => ⟨_, _, rfl, (ok_declaration _).up (by omega)⟩)
  | (cases h; exact .inr fun s => ⟨_, _, rfl, (ok_object _).up (by omega)⟩)
  | (cases h; exact .inr fun s => ⟨_, _, rfl, (ok_factor _).up (by omega)⟩)
  | (cases h; exact .inr fun s => ⟨_, _, rfl, (ok_term _).up (by omega)⟩)
  | (cases h; exact .inr fun s => ⟨_, _, rfl, (ok_sum _).up (by omega)⟩)
  | (cases h; exact .inr fun s => ⟨_, _, rfl, (ok_rel _).up (by omega)⟩)
  | (cases h; exact .inr fun s => ⟨_, _, rfl, (ok_expr _).up (by omega)⟩)
  | (cases h; exact .inr fun s => ⟨_, _, rfl, (ok_statement _).up (by omega)⟩)
theorem turns_some (c : ByteArray) : ∀ (m : Nat) (s : PSt), s.todo.length = m → ∃ r cl op X, turns c (m + 7) s = some r ∧ r.2.evs = s.evs ++ cl.map (fun k => (3, k)) ++ op.map (fun k => (1, k)) ∧ r.2.depth = s.depth - (cl : List Nat).length + (op : List Nat).length ∧ (∀ k ∈ op, k ≠ 1) ∧ fins s.todo = cl ++ X ∧ (r.1 = true → fins r.2.todo = op.reverse ++ X) := by
 have key : ∀ {m n : Nat} {s : PSt} {t : WT} {r : List WT}, s.todo = t :: r → OkTop c n t → n ≤ m → ∃ q cl op X, turns c m s = some q ∧ q.2.evs = s.evs ++ cl.map (fun k => (3, k)) ++ op.map (fun k => (1, k)) ∧ q.2.depth = s.depth - (cl : List Nat).length + (op : List Nat).length ∧ (∀ k ∈ op, k ≠ 1) ∧ fins s.todo = cl ++ X ∧ (q.1 = true → fins q.2.todo = op.reverse ++ X) := by
  intro m n s t r ht ho hm
  obtain ⟨q, ks, h1, h2, h3⟩ := ho.up hm s r ht
  exact ⟨q, [], ks, fins s.todo, h1, by simpa using h2.1, by simpa using h2.2.1, h2.2.2, rfl, h3⟩
 intro m
 induction m with
 | zero =>
  intro s hs
  have h0 : s.todo = [] := List.length_eq_zero_iff.1 hs
  exact ⟨(false, s), [], [], fins s.todo, by simp only [turns, turn, h0], by simp, by simp, fun k hk => (by cases hk), rfl, fun h => by cases h⟩
 | succ m ih =>
  intro s hs
  cases ht : s.todo with
  | nil => rw [ht] at hs; cases hs
  | cons t r =>
   have hr : r.length = m := by rw [ht] at hs; simpa using hs
   rw [← ht]
   cases t with
   | word x => exact key ht (ok_word c x) (by omega)
   | fin k =>
    obtain ⟨q, cl, op, X, h1, h2, h3, h6, h4, h5⟩ := ih { todo := r, evs := s.evs ++ [(3, k)], depth := s.depth - 1 } hr
    refine ⟨q, k :: cl, op, X, ?_, ?_, ?_, h6, ?_, h5⟩
    ·rw [show m + 1 + 7 = (m + 7) + 1 by omega, turns]; simp only [turn, ht]; exact h1
    ·rw [h2]; simp
    ·rw [h3, List.length_cons]; simp only; omega
    ·rw [ht, fins, show fins r = cl ++ X from h4]; rfl
   | rule f =>
    rcases gone_any c f with hg | hg
    ·obtain ⟨q, cl, op, X, h1, h2, h3, h6, h4, h5⟩ := ih { s with todo := r } hr
     refine ⟨q, cl, op, X, ?_, h2, h3, h6, ?_, h5⟩
     ·rw [show m + 1 + 7 = (m + 7) + 1 by omega, turns]; simp only [turn, ht, hg, effs, List.foldl]; exact h1
     ·rw [ht, fins]; exact h4
    ·exact key ht hg (by omega)
open Go.RowKit Go.Proofs.YtmjbpgnjgblnmaaGreatW.PrintWords Go.Proofs.YtmjbpgnjgblnmaaGreatW.PrintLast Go.Proofs.YtmjbpgnjgblnmaaGreatW.PrintMore
abbrev Tk := PSyntaxProgram.S28
abbrev Ev := PSyntaxProgram.S48
abbrev kEv := PSyntaxProgram.k48
abbrev kTk := PSyntaxProgram.k28
def noTk : Tk := ⟨0, ⟨#[]⟩, ⟨0, 0, 0⟩, 0⟩
def evOf (p : Nat × Nat) : Ev := ⟨p.1, p.2, noTk⟩
def leafE (t : Tk) : Ev := ⟨2, 0, t⟩
def noteE (t : Tk) : Ev := ⟨4, 0, t⟩
def isNote (t : Tk) : Bool := t.f0 == 7 || t.f0 == 8
def codeF (a0_0 : Int) (a0_1 : ByteArray) (a0_2 : Int) (a0_3 : Int) (a0_4 : Int) (a0_5 : Int) : Option (ByteArray) := if a0_0 = 1 then (some (⟨#[64, 110, 97, 109, 101]⟩ : ByteArray)) else (if a0_0 = 3 then (some (⟨#[64, 110, 117, 109, 98, 101, 114]⟩ : ByteArray)) else (if a0_0 = 4 then (some (⟨#[64, 116, 101, 120, 116]⟩ : ByteArray)) else (if a0_0 = 5 then (some (⟨#[64, 99, 104, 97, 114]⟩ : ByteArray)) else (if a0_0 = 2 then (if (a0_1.size : Int) > 0 then (if 0 < (a0_1.size : Int) then (if (bt a0_1 0) ≥ 97 then (if (bt a0_1 0) ≤ 122 then (some a0_1) else (some (⟨#[64]⟩ : ByteArray))) else (some (⟨#[64]⟩ : ByteArray))) else (none)) else (some (⟨#[64]⟩ : ByteArray))) else (if a0_0 = 6 then (if (a0_1.size : Int) > 0 then (if 0 < (a0_1.size : Int) then (if (bt a0_1 0) < 97 then (if (bt a0_1 0) = 64 then (some (⟨#[64]⟩ : ByteArray)) else (some a0_1)) else (if (bt a0_1 0) > 122 then (if (bt a0_1 0) = 64 then (some (⟨#[64]⟩ : ByteArray)) else (some a0_1)) else (some (⟨#[64]⟩ : ByteArray)))) else (none)) else (some (⟨#[64]⟩ : ByteArray))) else (some (⟨#[64]⟩ : ByteArray)))))))
def codeOf (t : Tk) : ByteArray := (codeF t.f0 t.f1 t.f2.f0 t.f2.f1 t.f2.f2 t.f3).getD ⟨#[]⟩
structure Par where
 todo : List WT
 depth : Int
 begun : Bool
 wrong : Int
 closed : Bool
def newPar : Par := ⟨[.word ⟨#[112, 114, 111, 103, 114, 97, 109]⟩, .word ⟨#[64, 110, 97, 109, 101]⟩, .word ⟨#[59]⟩, .rule .r_block, .word ⟨#[46]⟩, .fin 1], 0, false, 0, false⟩
def token (t : Tk) (todo : List WT) (depth : Int) : Int × PSt :=
 match turns (codeOf t) (todo.length + 7) ⟨todo, [], depth⟩ with
 | none => (120, ⟨todo, [], depth⟩)
 | some (false, s) => (120, s)
 | some (true, s) => if s.todo = [] then (120, s) else if 1000 < s.depth then (122, s) else (0, s)
def preE (p : Par) : List Ev := if p.begun then [] else [evOf (1, 1)]
def preD (p : Par) : Int := if p.begun then p.depth else p.depth + 1
def put (p : Par) (t : Tk) : List Ev × Int × Par :=
 if p.closed then ([], 4, p) else if p.wrong ≠ 0 then ([], p.wrong, p) else
 if isNote t then (preE p ++ [noteE t], 0, { p with depth := preD p, begun := true }) else
 let q := token t p.todo (preD p)
 if q.1 ≠ 0 then ([], q.1, { p with todo := q.2.todo, wrong := q.1 }) else (preE p ++ q.2.evs.map evOf ++ [leafE t], 0, { p with todo := q.2.todo, depth := q.2.depth, begun := true })
def closeP (p : Par) : List Ev × Int × Par :=
 if p.closed then ([], 4, p) else if p.wrong ≠ 0 then ([], p.wrong, { p with closed := true }) else
 if p.todo.length ≠ 1 then ([], 121, { p with closed := true, wrong := 121 }) else ([evOf (3, 1)], 0, { p with closed := true, depth := p.depth - 1 })
def allP : Par → List Tk → List Ev × Int × Nat
 | p, [] => ((closeP p).1, (closeP p).2.1, 0)
 | p, t :: r => if (put p t).2.1 ≠ 0 then ([], (put p t).2.1, 0) else ((put p t).1 ++ (allP (put p t).2.2 r).1, (allP (put p t).2.2 r).2.1, (allP (put p t).2.2 r).2.2 + 1)
structure PInv (p : Par) (op : List Nat) : Prop where
 closed : p.closed = false
 wrong : p.wrong = 0
 fins : fins p.todo = if p.begun then op else [1]
 start : p.begun = false → op = []
 last : p.begun = true → ∃ r, op = r ++ [1]
 depth : p.depth = op.length
 most : op.length ≤ 1000
 lastf : ∃ l, p.todo = l ++ [.fin 1]
 fresh : p.begun = false → p.todo.length ≠ 1
theorem newPar_inv : PInv newPar [] := ⟨rfl, rfl, rfl, fun _ => rfl, fun h => (by cases h), rfl, Nat.zero_le _, ⟨[.word ⟨#[112, 114, 111, 103, 114, 97, 109]⟩, .word ⟨#[64, 110, 97, 109, 101]⟩, .word ⟨#[59]⟩, .rule .r_block, .word ⟨#[46]⟩], rfl⟩, fun _ => by decide⟩
theorem token_law (t : Tk) (todo : List WT) (depth : Int) : ∃ cl op X, (token t todo depth).2.evs = (cl : List Nat).map (fun k => (3, k)) ++ (op : List Nat).map (fun k => (1, k)) ∧ (token t todo depth).2.depth = depth - cl.length + op.length ∧ (∀ k ∈ op, k ≠ 1) ∧ fins todo = cl ++ X ∧ ((token t todo depth).1 = 0 → fins (token t todo depth).2.todo = op.reverse ++ X ∧ (token t todo depth).2.depth ≤ 1000) ∧ ((token t todo depth).1 = 0 ∨ (token t todo depth).1 = 120 ∨ (token t todo depth).1 = 122) := by
 obtain ⟨r, cl, op, X, h1, h2, h3, h6, h4, h5⟩ := turns_some (codeOf t) todo.length ⟨todo, [], depth⟩ rfl
 obtain ⟨b, s⟩ := r
 refine ⟨cl, op, X, ?_⟩
 unfold token
 rw [h1]
 cases b with
 | false => exact ⟨by simpa using h2, h3, h6, h4, fun h => by simp at h, .inr (.inl rfl)⟩
 | true =>
  simp only
  by_cases ht : s.todo = []
  ·simp only [if_pos ht]
   exact ⟨by simpa using h2, h3, h6, h4, fun h => by simp at h, .inr (.inl trivial)⟩
  ·by_cases hd : 1000 < s.depth
   ·simp only [if_neg ht, if_pos hd]
    exact ⟨by simpa using h2, h3, h6, h4, fun h => by simp at h, .inr (.inr trivial)⟩
   ·simp only [if_neg ht, if_neg hd]
    exact ⟨by simpa using h2, h3, h6, h4, fun _ => ⟨h5 rfl, by omega⟩, .inl trivial⟩
theorem expand_len {f : RId} {c : ByteArray} {l : List Eff} (h : f.expand c = some l) (s : PSt) : (effs s l).todo.length ≤ s.todo.length + 11 ∧ (effs s l).evs.length ≤ s.evs.length + 1 ∧ s.depth ≤ (effs s l).depth ∧ (effs s l).depth ≤ s.depth + 1 := by
 cases f
 all_goals
  simp only [RId.expand] at h
  repeat' split at h
 all_goals first
  | (cases h; done)
  | (cases h; simp only [effs, List.foldl, Eff.act, List.length_append, List.length_cons, List.length_nil]; omega)
theorem turn_len {c : ByteArray} {s s' : PSt} (h : turn c s = .on s') : s'.todo.length ≤ s.todo.length + 11 ∧ s'.evs.length ≤ s.evs.length + 1 ∧ s.depth - 1 ≤ s'.depth ∧ s'.depth ≤ s.depth + 1 := by
 unfold turn at h
 split at h
 ·cases h
 ·split at h <;> cases h
 ·rename_i k r hr
  cases h
  rw [hr]
  simp only [List.length_append, List.length_cons, List.length_nil]
  omega
 ·rename_i f r hr
  split at h
  ·cases h
  ·rename_i l hl
   cases h
   have := expand_len hl { s with todo := r }
   rw [hr]
   simp only [List.length_cons] at this ⊢
   omega
theorem turns_len (c : ByteArray) : ∀ (n : Nat) (s : PSt) (r : Bool × PSt), turns c n s = some r → r.2.todo.length ≤ s.todo.length + 11 * n
 | 0, s, r, h => by simp [turns] at h
 | n + 1, s, r, h => by
  rw [turns] at h
  split at h
  ·rename_i s' hs
   have h1 := turn_len hs
   have h2 := turns_len c n s' r h
   omega
  all_goals
   rename_i s' hs
   cases h
   unfold turn at hs
   split at hs
   ·cases hs <;> simp_all
   ·rename_i x r hr
    split at hs <;> cases hs <;> simp only [hr, List.length_cons] <;> omega
   ·cases hs
   ·rename_i f r hr
    split at hs <;> cases hs <;> simp only [hr, List.length_cons] <;> omega
theorem some_len (c : ByteArray) : ∀ (m : Nat) (s : PSt), s.todo.length = m → ∃ r, turns c (m + 7) s = some r ∧ r.2.todo.length ≤ m + 77 := by
 intro m
 induction m with
 | zero =>
  intro s hs
  have h0 : s.todo = [] := List.length_eq_zero_iff.1 hs
  exact ⟨(false, s), by simp only [turns, turn, h0], by simp only [hs]; omega⟩
 | succ m ih =>
  intro s hs
  cases ht : s.todo with
  | nil => rw [ht] at hs; cases hs
  | cons t r =>
   have hr : r.length = m := by rw [ht] at hs; simpa using hs
   have key : ∀ {n : Nat}, OkTop c n t → n ≤ 7 → ∃ r, turns c (m + 1 + 7) s = some r ∧ r.2.todo.length ≤ m + 1 + 77 := fun {n} ho hn => by
    obtain ⟨q, ks, h1, h2, h3⟩ := ho s r ht
    have h4 := turns_len c n s q h1
    obtain ⟨j, hj⟩ := Nat.exists_eq_add_of_le (show n ≤ m + 1 + 7 by omega)
    exact ⟨q, by rw [hj]; exact turns_mono c n s q j h1, by omega⟩
   cases t with
   | word x => exact key (ok_word c x) (by omega)
   | fin k =>
    obtain ⟨q, h1, h2⟩ := ih { todo := r, evs := s.evs ++ [(3, k)], depth := s.depth - 1 } hr
    refine ⟨q, ?_, by omega⟩
    rw [show m + 1 + 7 = (m + 7) + 1 by omega, turns]; simp only [turn, ht]; exact h1
   | rule f =>
    rcases gone_any c f with hg | hg
    ·obtain ⟨q, h1, h2⟩ := ih { s with todo := r } hr
     refine ⟨q, ?_, by omega⟩
     rw [show m + 1 + 7 = (m + 7) + 1 by omega, turns]; simp only [turn, ht, hg, effs, List.foldl]; exact h1
    ·exact key hg (by omega)
theorem token_len (t : Tk) (todo : List WT) (depth : Int) : (token t todo depth).2.todo.length ≤ todo.length + 77 := by
 obtain ⟨r, h1, h2⟩ := some_len (codeOf t) todo.length ⟨todo, [], depth⟩ rfl
 obtain ⟨b, s⟩ := r
 unfold token
 rw [h1]
 cases b with
 | false => exact h2
 | true =>
  simp only
  split
  ·exact h2
  ·split <;> exact h2
theorem put_len (p : Par) (t : Tk) : (put p t).2.2.todo.length ≤ p.todo.length + 77 := by
 have h := token_len t p.todo (preD p)
 unfold put
 split
 ·simp only; omega
 split
 ·simp only; omega
 split
 ·simp only; omega
 simp only
 split <;> simp only <;> omega
def cAt (l : List Tk) (i : Nat) : ByteArray := match l[i]? with
 | some t => codeOf t
 | none => ⟨#[]⟩
def nAt (l : List Tk) (i : Nat) : List Tk := (l.drop i).takeWhile isNote
structure SSt where
 todo : List WT
 at_ : Nat
 depth : Int
 out : List Ev
inductive SRes
 | ok (i : Nat) (d : Int) (out : List Ev)
 | err (e : Int) (i : Nat)
inductive SStep
 | on (s : SSt)
 | res (r : SRes)
def sstep (l : List Tk) (s : SSt) : SStep :=
 match s.todo with
 | [] => .res (.ok s.at_ s.depth s.out)
 | .word x :: r => match l[s.at_]? with
  | none => .res (.err 121 s.at_)
  | some t => if codeOf t = x then (if 1000 < s.depth then .res (.err 122 s.at_) else .on ⟨r, s.at_ + 1 + (nAt l (s.at_ + 1)).length, s.depth, s.out ++ [leafE t] ++ (nAt l (s.at_ + 1)).map noteE⟩) else .res (.err 120 s.at_)
 | .fin k :: r => .on ⟨r, s.at_, s.depth - 1, s.out ++ [evOf (3, k)]⟩
 | .rule f :: r => match f.expand (cAt l s.at_) with
  | none => .res (.err (if s.at_ = l.length then 121 else 120) s.at_)
  | some e => .on ⟨(effs ⟨r, [], s.depth⟩ e).todo, s.at_, (effs ⟨r, [], s.depth⟩ e).depth, s.out ++ (effs ⟨r, [], s.depth⟩ e).evs.map evOf⟩
def fitS (s : SSt) : Prop := s.out.length ≤ 274877906944 ∧ -1099511627776 ≤ s.depth ∧ s.depth ≤ 1099511627776
instance (s : SSt) : Decidable (fitS s) := by unfold fitS; infer_instance
def srun (l : List Tk) : Nat → SSt → Option SRes
 | 0, _ => none
 | n + 1, s => if fitS s then (match sstep l s with
  | .on s' => srun l n s'
  | .res r => some r) else none
theorem srun_mono (l : List Tk) : ∀ (n : Nat) (s : SSt) (r : SRes) (k : Nat), srun l n s = some r → srun l (n + k) s = some r
 | 0, s, r, k, h => by simp [srun] at h
 | n + 1, s, r, k, h => by
  rw [show n + 1 + k = (n + k) + 1 by omega]
  rw [srun] at h ⊢
  split at h
  ·rename_i hg
   rw [if_pos hg]
   split at h
   ·rename_i s' hs
    exact srun_mono l n s' r k h
   ·exact h
  ·cases h
theorem srun_le {l : List Tk} {n m : Nat} {s : SSt} {r : SRes} (h : srun l n s = some r) (hm : n ≤ m) : srun l m s = some r := by
 obtain ⟨k, rfl⟩ := Nat.exists_eq_add_of_le hm
 exact srun_mono l n s r k h
theorem effs_app : ∀ (e : List Eff) (T S : List WT) (v : List (Nat × Nat)) (d : Int), effs ⟨T ++ S, v, d⟩ e = ⟨(effs ⟨T, v, d⟩ e).todo ++ S, (effs ⟨T, v, d⟩ e).evs, (effs ⟨T, v, d⟩ e).depth⟩
 | [], T, S, v, d => rfl
 | .push w :: e, T, S, v, d => by
  have := effs_app e (w ++ T) S v d
  simp only [effs, List.foldl, Eff.act, List.append_assoc] at this ⊢
  exact this
 | .opn k w :: e, T, S, v, d => by
  have := effs_app e (w ++ .fin k :: T) S (v ++ [(1, k)]) (d + 1)
  simp only [effs, List.foldl, Eff.act, List.append_assoc, List.cons_append] at this ⊢
  exact this
theorem sstep_app (l : List Tk) (x : WT) (T S : List WT) (i : Nat) (d : Int) (out : List Ev) : sstep l ⟨x :: T ++ S, i, d, out⟩ = match sstep l ⟨x :: T, i, d, out⟩ with
  | .on s => .on ⟨s.todo ++ S, s.at_, s.depth, s.out⟩
  | .res r => .res r := by
 cases x with
 | word y =>
  simp only [sstep, List.cons_append]
  cases l[i]? with
  | none => rfl
  | some t =>
   by_cases ha : codeOf t = y
   ·by_cases hd : 1000 < d
    ·simp only [if_pos ha, if_pos hd]
    ·simp only [if_pos ha, if_neg hd]
   ·simp only [if_neg ha]
 | fin k => rfl
 | rule f =>
  simp only [sstep, List.cons_append]
  cases f.expand (cAt l i) with
  | none => rfl
  | some e => simp only [effs_app]
theorem sstep_res {l : List Tk} {x : WT} {T : List WT} {i : Nat} {d : Int} {out : List Ev} {r : SRes} (h : sstep l ⟨x :: T, i, d, out⟩ = .res r) : ∃ e j, r = .err e j := by
 cases x with
 | word y =>
  simp only [sstep] at h
  split at h
  ·cases h; exact ⟨_, _, rfl⟩
  ·split at h
   ·split at h <;> cases h
    exact ⟨_, _, rfl⟩
   ·cases h; exact ⟨_, _, rfl⟩
 | fin k => simp only [sstep] at h; cases h
 | rule f =>
  simp only [sstep] at h
  split at h
  ·cases h; exact ⟨_, _, rfl⟩
  ·cases h
theorem srun_app (l : List Tk) : ∀ (n : Nat) (T S : List WT) (i : Nat) (d : Int) (out : List Ev) (r : SRes), srun l n ⟨T ++ S, i, d, out⟩ = some r →
  (∃ e j, r = .err e j ∧ srun l n ⟨T, i, d, out⟩ = some (.err e j)) ∨ (∃ i' d' out', srun l n ⟨T, i, d, out⟩ = some (.ok i' d' out') ∧ srun l n ⟨S, i', d', out'⟩ = some r)
 | 0, T, S, i, d, out, r, h => by simp [srun] at h
 | n + 1, [], S, i, d, out, r, h => by
  refine .inr ⟨i, d, out, ?_, h⟩
  rw [List.nil_append, srun] at h
  split at h
  ·rename_i hg
   rw [srun, if_pos (show fitS ⟨[], i, d, out⟩ from hg)]
   rfl
  ·cases h
 | n + 1, x :: T, S, i, d, out, r, h => by
  rw [srun] at h
  split at h
  ·rename_i hg
   rw [sstep_app] at h
   cases hs : sstep l ⟨x :: T, i, d, out⟩ with
   | on s =>
    rw [hs] at h
    dsimp only at h
    rcases srun_app l n s.todo S s.at_ s.depth s.out r h with ⟨e, j, h1, h2⟩ | ⟨i', d', out', h1, h2⟩
    ·exact .inl ⟨e, j, h1, by rw [srun, if_pos (show fitS ⟨x :: T, i, d, out⟩ from hg), hs]; exact h2⟩
    ·exact .inr ⟨i', d', out', by rw [srun, if_pos (show fitS ⟨x :: T, i, d, out⟩ from hg), hs]; exact h1, srun_le h2 (Nat.le_succ n)⟩
   | res q =>
    rw [hs] at h
    dsimp only at h
    obtain ⟨e, j, rfl⟩ := sstep_res hs
    cases h
    exact .inl ⟨e, j, rfl, by rw [srun, if_pos (show fitS ⟨x :: T, i, d, out⟩ from hg), hs]⟩
  ·cases h
theorem srun_on {l : List Tk} {n : Nat} {s s' : SSt} {r : SRes} (h : srun l n s = some r) (hs : sstep l s = .on s') : fitS s ∧ ∃ m, n = m + 1 ∧ srun l m s' = some r := by
 cases n with
 | zero => simp [srun] at h
 | succ n =>
  rw [srun] at h
  split at h
  ·rename_i hg
   rw [hs] at h
   exact ⟨hg, n, rfl, h⟩
  ·cases h
theorem srun_fin {l : List Tk} {n : Nat} {s : SSt} {r q : SRes} (h : srun l n s = some r) (hs : sstep l s = .res q) : fitS s ∧ r = q := by
 cases n with
 | zero => simp [srun] at h
 | succ n =>
  rw [srun] at h
  split at h
  ·rename_i hg
   rw [hs] at h
   cases h
   exact ⟨hg, rfl⟩
  ·cases h
theorem srun_len {l : List Tk} {n : Nat} {s : SSt} {r : SRes} (h : srun l n s = some r) : fitS s := by
 cases n with
 | zero => simp [srun] at h
 | succ n =>
  rw [srun] at h
  split at h
  ·assumption
  ·cases h
open Classical in
noncomputable def nest : Bool → List Int → List Tk → List Ev → Option (List Int × List Tk)
 | _, o, l, [] => some (o, l)
 | b, o, l, e :: r =>
  if e.f0 = 1 then (if e.f2 = noTk ∧ (b = true ↔ e.f1 = 1) ∧ o.length + 1 ≤ 1000 then nest false (e.f1 :: o) l r else none)
  else if e.f0 = 3 then (match o with
   | [] => none
   | k :: o' => if k = e.f1 ∧ e.f2 = noTk then nest false o' l r else none)
  else if e.f0 = 2 ∨ e.f0 = 4 then (match l with
   | [] => none
   | t :: l' => if e.f2 = t ∧ e.f1 = 0 ∧ (e.f0 = 4 ↔ isNote t = true) ∧ o ≠ [] then nest false o l' r else none)
  else none
open Classical in
theorem nest_cons (b : Bool) (o : List Int) (l : List Tk) (e : Ev) (r : List Ev) : nest b o l (e :: r) =
  if e.f0 = 1 then (if e.f2 = noTk ∧ (b = true ↔ e.f1 = 1) ∧ o.length + 1 ≤ 1000 then nest false (e.f1 :: o) l r else none)
  else if e.f0 = 3 then (match o with
   | [] => none
   | k :: o' => if k = e.f1 ∧ e.f2 = noTk then nest false o' l r else none)
  else if e.f0 = 2 ∨ e.f0 = 4 then (match l with
   | [] => none
   | t :: l' => if e.f2 = t ∧ e.f1 = 0 ∧ (e.f0 = 4 ↔ isNote t = true) ∧ o ≠ [] then nest false o l' r else none)
  else none := by
 rw [nest.eq_def]
theorem nest_app : ∀ (x y : List Ev) (b : Bool) (o o' : List Int) (l l' : List Tk), nest b o l x = some (o', l') → x ≠ [] → nest b o l (x ++ y) = nest false o' l' y
 | [], y, b, o, o', l, l', h, hx => absurd rfl hx
 | e :: r, y, b, o, o', l, l', h, hx => by
  have key : ∀ (o1 : List Int) (l1 : List Tk), nest false o1 l1 r = some (o', l') → nest false o1 l1 (r ++ y) = nest false o' l' y := fun o1 l1 h1 => by
   cases r with
   | nil => simp only [nest, Option.some.injEq, Prod.mk.injEq] at h1; obtain ⟨rfl, rfl⟩ := h1; rfl
   | cons a r => exact nest_app (a :: r) y false o1 o' l1 l' h1 (by simp)
  rw [List.cons_append]
  rw [nest_cons] at h ⊢
  by_cases h1 : e.f0 = 1
  ·rw [if_pos h1] at h ⊢
   by_cases hc : e.f2 = noTk ∧ (b = true ↔ e.f1 = 1) ∧ o.length + 1 ≤ 1000
   ·rw [if_pos hc] at h ⊢; exact key _ _ h
   ·rw [if_neg hc] at h; cases h
  ·rw [if_neg h1] at h ⊢
   by_cases h3 : e.f0 = 3
   ·rw [if_pos h3] at h ⊢
    cases o with
    | nil => cases h
    | cons k o1 =>
     simp only at h ⊢
     by_cases hc : k = e.f1 ∧ e.f2 = noTk
     ·rw [if_pos hc] at h ⊢; exact key _ _ h
     ·rw [if_neg hc] at h; cases h
   ·rw [if_neg h3] at h ⊢
    by_cases h2 : e.f0 = 2 ∨ e.f0 = 4
    ·rw [if_pos h2] at h ⊢
     cases l with
     | nil => cases h
     | cons t l1 =>
      simp only at h ⊢
      by_cases hc : e.f2 = t ∧ e.f1 = 0 ∧ (e.f0 = 4 ↔ isNote t = true) ∧ o ≠ []
      ·rw [if_pos hc] at h ⊢; exact key _ _ h
      ·rw [if_neg hc] at h; cases h
    ·rw [if_neg h2] at h; cases h
theorem nest_closes : ∀ (cl : List Nat) (X : List Nat) (l : List Tk), nest false ((cl ++ X).map (fun n : Nat => (n : Int))) l ((cl.map (fun k => (3, k))).map evOf) = some (X.map (fun n : Nat => (n : Int)), l)
 | [], X, l => rfl
 | k :: cl, X, l => by
  simp only [List.map_cons, List.cons_append]
  rw [nest_cons, if_neg (by simp [evOf]), if_pos (by simp [evOf])]
  simp only
  rw [if_pos ⟨rfl, rfl⟩]
  exact nest_closes cl X l
theorem nest_opens : ∀ (op : List Nat) (X : List Nat) (l : List Tk), (∀ k ∈ op, k ≠ 1) → X.length + op.length ≤ 1000 → nest false (X.map (fun n : Nat => (n : Int))) l ((op.map (fun k => (1, k))).map evOf) = some ((op.reverse ++ X).map (fun n : Nat => (n : Int)), l)
 | [], X, l, _, _ => rfl
 | k :: op, X, l, hk, hm => by
  have hk1 : k ≠ 1 := hk k (by simp)
  simp only [List.length_cons] at hm
  simp only [List.map_cons]
  rw [nest_cons, if_pos (by simp [evOf])]
  rw [if_pos ⟨rfl, ⟨fun h => (by cases h), fun h => absurd (show k = 1 by have h' : (k : Int) = 1 := h; omega) hk1⟩, by rw [List.length_map]; omega⟩]
  have := nest_opens op (k :: X) l (fun j hj => hk j (List.mem_cons_of_mem _ hj)) (by simp only [List.length_cons]; omega)
  rw [List.reverse_cons, List.append_assoc, List.singleton_append]
  exact this
def LastFin (s : PSt) : Prop := s.todo = [] ∨ ∃ l, s.todo = l ++ [.fin 1]
theorem effs_todo : ∀ (l : List Eff) (s : PSt), ∃ q, (effs s l).todo = q ++ s.todo
 | [], s => ⟨[], rfl⟩
 | e :: l, s => by
  obtain ⟨q, hq⟩ := effs_todo l (Eff.act s e)
  have : (effs s (e :: l)).todo = q ++ (Eff.act s e).todo := hq
  rw [this]
  cases e with
  | push w => exact ⟨q ++ w, by rw [List.append_assoc]; rfl⟩
  | opn k w => exact ⟨q ++ (w ++ [.fin k]), by simp [Eff.act]⟩
theorem turns_last (c : ByteArray) : ∀ (n : Nat) (s : PSt) (r : Bool × PSt), LastFin s → turns c n s = some r → LastFin r.2
 | 0, s, r, h, hr => by simp [turns] at hr
 | n + 1, s, r, h, hr => by
  have hne : ∀ t q, s.todo = t :: q → LastFin { s with todo := q } := by
   intro t q ht
   rcases h with h | ⟨l, h⟩
   ·rw [h] at ht; cases ht
   ·cases l with
    | nil => rw [h] at ht; simp only [List.nil_append, List.cons.injEq] at ht; exact .inl ht.2.symm
    | cons a l => rw [h] at ht; simp only [List.cons_append, List.cons.injEq] at ht; exact .inr ⟨l, ht.2.symm⟩
  rw [turns] at hr
  unfold turn at hr
  cases ht : s.todo with
  | nil => rw [ht] at hr; simp only [Option.some.injEq] at hr; subst hr; exact h
  | cons t q =>
   rw [ht] at hr
   have hq := hne t q ht
   cases t with
   | word x =>
    by_cases hx : x = c
    ·simp only [if_pos hx, Option.some.injEq] at hr; subst hr; exact hq
    ·simp only [if_neg hx, Option.some.injEq] at hr; subst hr; exact hq
   | fin k => exact turns_last c n { todo := q, evs := s.evs ++ [(3, k)], depth := s.depth - 1 } r hq hr
   | rule f =>
    cases he : f.expand c with
    | none => simp only [he, Option.some.injEq] at hr; subst hr; exact hq
    | some l =>
     simp only [he] at hr
     refine turns_last c n _ r ?_ hr
     obtain ⟨v, hv⟩ := effs_todo l { s with todo := q }
     rcases hq with hq | ⟨m, hm⟩
     ·rcases h with h | ⟨l', h⟩
      ·rw [h] at ht; cases ht
      ·simp only at hq
       rw [h, hq] at ht
       cases l' with
       | nil => cases ht
       | cons a l' => simp at ht
     ·simp only at hm
      exact .inr ⟨v ++ m, by rw [hv]; simp only [hm, List.append_assoc]⟩
theorem fins_snoc : ∀ (l : List WT), fins (l ++ [.fin 1]) = fins l ++ [1]
 | [] => rfl
 | .fin k :: r => by rw [List.cons_append, fins, fins_snoc r, fins]; rfl
 | .word s :: r => by rw [List.cons_append, fins, fins_snoc r, fins]
 | .rule f :: r => by rw [List.cons_append, fins, fins_snoc r, fins]
theorem token_last {t : Tk} {todo : List WT} {d : Int} (h : ∃ l, todo = l ++ [.fin 1]) (hq : (token t todo d).1 = 0) : ∃ l, (token t todo d).2.todo = l ++ [.fin 1] := by
 have key : ∀ r, turns (codeOf t) (todo.length + 7) ⟨todo, [], d⟩ = some r → LastFin r.2 := fun r hr => turns_last _ _ _ r (.inr h) hr
 unfold token at hq ⊢
 cases hr : turns (codeOf t) (todo.length + 7) ⟨todo, [], d⟩ with
 | none => rw [hr] at hq; simp at hq
 | some r =>
  obtain ⟨b, s⟩ := r
  rw [hr] at hq
  have hl := key _ hr
  cases b with
  | false => simp at hq
  | true =>
   simp only at hq ⊢
   by_cases ht : s.todo = []
   ·rw [if_pos ht] at hq; simp at hq
   ·rw [if_neg ht] at hq ⊢
    rcases hl with hl | hl
    ·exact absurd hl ht
    ·split
     ·exact hl
     ·exact hl
def cst (l : List Nat) : List Int := l.map (fun n : Nat => (n : Int))
def opn0 (p : Par) (op : List Nat) : List Nat := if p.begun then op else [1]
theorem PInv.pre {p : Par} {op : List Nat} (h : PInv p op) (l : List Tk) (y : List Ev) : nest (!p.begun) (cst op) l (preE p ++ y) = nest false (cst (opn0 p op)) l y := by
 unfold preE opn0
 cases hb : p.begun with
 | true => rfl
 | false =>
  have ho := h.start hb
  subst ho
  simp only [Bool.not_false, Bool.false_eq_true, if_false, List.cons_append, List.nil_append]
  rw [nest_cons, if_pos (by simp [evOf]), if_pos ⟨rfl, ⟨fun _ => rfl, fun _ => rfl⟩, by simp [cst]⟩]
  rfl
theorem PInv.fins0 {p : Par} {op : List Nat} (h : PInv p op) : Go.Proofs.YtmjbpgnjgblnmaaGreat.fins p.todo = opn0 p op := h.fins
theorem PInv.opn {p : Par} {op : List Nat} (h : PInv p op) : opn0 p op ≠ [] ∧ (opn0 p op).length ≤ 1000 ∧ preD p = (opn0 p op).length ∧ ∃ r, opn0 p op = r ++ [1] := by
 unfold opn0 preD
 cases hb : p.begun with
 | true =>
  obtain ⟨r, hr⟩ := h.last hb
  refine ⟨by simp only [if_true]; rw [hr]; simp, h.most, h.depth, r, hr⟩
 | false =>
  have ho := h.start hb
  have hd := h.depth
  rw [ho] at hd
  exact ⟨by simp, by simp, by simp [hd], [], rfl⟩
theorem nest_one (o : List Nat) (t : Tk) (rest : List Tk) (e : Ev) (h2 : e.f2 = t) (h1 : e.f1 = 0) (hk : (e.f0 = 4 ∧ isNote t = true) ∨ (e.f0 = 2 ∧ isNote t = false)) (ho : o ≠ []) : nest false (cst o) (t :: rest) [e] = some (cst o, rest) := by
 have ho' : cst o ≠ [] := by cases o with | nil => exact absurd rfl ho | cons a o => simp [cst]
 rcases hk with ⟨h0, hn⟩ | ⟨h0, hn⟩
 ·rw [nest_cons, if_neg (by rw [h0]; decide), if_neg (by rw [h0]; decide), if_pos (by rw [h0]; decide)]
  simp only
  rw [if_pos ⟨h2, h1, ⟨fun _ => hn, fun _ => h0⟩, ho'⟩]
  rfl
 ·rw [nest_cons, if_neg (by rw [h0]; decide), if_neg (by rw [h0]; decide), if_pos (by rw [h0]; decide)]
  simp only
  rw [if_pos ⟨h2, h1, ⟨fun h => (by rw [h0] at h; cases h), fun h => (by rw [hn] at h; cases h)⟩, ho'⟩]
  rfl
theorem put_nest {p : Par} {op : List Nat} (h : PInv p op) (t : Tk) (rest : List Tk) (he : (put p t).2.1 = 0) : ∃ op', PInv (put p t).2.2 op' ∧ (put p t).2.2.begun = true ∧ (put p t).1 ≠ [] ∧ nest (!p.begun) (cst op) (t :: rest) (put p t).1 = some (cst op', rest) := by
 obtain ⟨hne, hmx, hpd, r0, hr0⟩ := h.opn
 unfold put at he ⊢
 simp only [h.closed, Bool.false_eq_true, if_false, h.wrong, ne_eq, not_true_eq_false] at he ⊢
 by_cases hn : isNote t = true
 ·simp only [if_pos hn] at he ⊢
  refine ⟨opn0 p op, ⟨rfl, rfl, h.fins0, fun h' => (by cases h'), fun _ => ⟨r0, hr0⟩, hpd, hmx, h.lastf, fun h' => (by cases h')⟩, trivial, by simp, ?_⟩
  rw [h.pre]
  exact nest_one _ t rest _ rfl rfl (.inl ⟨rfl, hn⟩) hne
 ·simp only [if_neg hn] at he ⊢
  obtain ⟨cl, ops, X, h1, h2, h3, h4, h5, h6⟩ := token_law t p.todo (preD p)
  have hq : (token t p.todo (preD p)).1 = 0 := by
   by_cases hq : (token t p.todo (preD p)).1 = 0
   ·exact hq
   ·rw [if_pos hq] at he; exact absurd he hq
  rw [if_neg (by rw [hq]; simp)]
  obtain ⟨h7, h8⟩ := h5 hq
  obtain ⟨m, hm⟩ := token_last (d := preD p) h.lastf hq
  have hX : opn0 p op = cl ++ X := by rw [← h.fins0]; exact h4
  have hop : ops.reverse ++ X = fins m ++ [1] := by rw [← h7, hm, fins_snoc]
  have hlen : (token t p.todo (preD p)).2.depth = ((ops.reverse ++ X).length : Nat) := by
   rw [h2, hpd, hX]
   simp only [List.length_append, List.length_reverse]
   omega
  have hlm : (ops.reverse ++ X).length ≤ 1000 := by rw [hlen] at h8; omega
  refine ⟨ops.reverse ++ X, ⟨rfl, rfl, h7, fun h' => (by cases h'), fun _ => ⟨_, hop⟩, hlen, hlm, ⟨m, hm⟩, fun h' => (by cases h')⟩, rfl, by simp, ?_⟩
  rw [List.append_assoc, h.pre, h1, List.map_append, List.append_assoc, hX]
  have e1 : nest false (cst (cl ++ X)) (t :: rest) ((cl.map (fun k => (3, k))).map evOf) = some (cst X, t :: rest) := nest_closes cl X (t :: rest)
  have e2 : nest false (cst X) (t :: rest) ((ops.map (fun k => (1, k))).map evOf) = some (cst (ops.reverse ++ X), t :: rest) := nest_opens ops X (t :: rest) h3 (by simpa [Nat.add_comm] using hlm)
  have e3 := nest_one (ops.reverse ++ X) t rest (leafE t) rfl rfl (.inr ⟨rfl, by simpa using hn⟩) (by rw [hop]; simp)
  have e23 : nest false (cst X) (t :: rest) ((ops.map (fun k => (1, k))).map evOf ++ [leafE t]) = some (cst (ops.reverse ++ X), rest) := by
   cases hops : (ops.map (fun k => (1, k))).map evOf with
   | nil =>
    have : ops = [] := by simpa using hops
    subst this
    exact e3
   | cons a r =>
    rw [← hops, nest_app _ _ false _ _ _ _ e2 (by rw [hops]; simp)]
    exact e3
  cases hcl : (cl.map (fun k => (3, k))).map evOf with
  | nil =>
   have : cl = [] := by simpa using hcl
   subst this
   exact e23
  | cons a r =>
   rw [← hcl, nest_app _ _ false _ _ _ _ e1 (by rw [hcl]; simp)]
   exact e23
theorem put_note {p : Par} (hc : p.closed = false) (hw : p.wrong = 0) {t : Tk} (hn : isNote t = true) : put p t = (preE p ++ [noteE t], 0, { p with depth := preD p, begun := true }) := by
 unfold put
 simp only [hc, Bool.false_eq_true, if_false, hw, ne_eq, not_true_eq_false, if_pos hn]
theorem put_note_begun {p : Par} (hb : p.begun = true) (hc : p.closed = false) (hw : p.wrong = 0) {t : Tk} (hn : isNote t = true) : put p t = ([noteE t], 0, p) := by
 rw [put_note hc hw hn]
 unfold preE preD
 rw [hb]
 obtain ⟨a, b, c, d, e⟩ := p
 simp only at hb
 subst hb
 rfl
theorem all_cons_ok {p : Par} {t : Tk} {r : List Tk} (he : (put p t).2.1 = 0) : allP p (t :: r) = ((put p t).1 ++ (allP (put p t).2.2 r).1, (allP (put p t).2.2 r).2.1, (allP (put p t).2.2 r).2.2 + 1) := by
 rw [allP, if_neg (by simpa using he)]
theorem all_cons_bad {p : Par} {t : Tk} {r : List Tk} (he : (put p t).2.1 ≠ 0) : allP p (t :: r) = ([], (put p t).2.1, 0) := by
 rw [allP, if_pos he]
def notedPar : Par := { newPar with depth := 1, begun := true }
theorem noted_inv : PInv notedPar [1] := ⟨rfl, rfl, rfl, fun h => (by cases h), fun _ => ⟨[], rfl⟩, rfl, by decide, newPar_inv.lastf, fun h => (by cases h)⟩
theorem put_cmp {t : Tk} (hn : isNote t = false) : (put notedPar t).2.1 = (put newPar t).2.1 ∧ ((put newPar t).2.1 = 0 → (put newPar t).1 = evOf (1, 1) :: (put notedPar t).1 ∧ (put newPar t).2.2 = (put notedPar t).2.2) := by
 unfold put
 simp only [notedPar, newPar, preD, preE, Bool.false_eq_true, if_false, if_true, ne_eq, not_true_eq_false, hn, Int.zero_add, List.nil_append]
 split
 ·rename_i hq
  exact ⟨rfl, fun h => absurd h hq⟩
 ·exact ⟨rfl, fun _ => ⟨rfl, rfl⟩⟩
structure RS where
 i : Nat
 path : List (Nat × Nat)
 ser : Nat
 paths : List (List (Nat × Nat))
 last : List (Nat × Nat)
 e : Int
def opR (k : Nat) (s : RS) : RS := if s.e = 0 then { s with path := s.path ++ [(k, s.ser + 1)], ser := s.ser + 1 } else s
def clR (s : RS) : RS := if s.e = 0 then { s with path := s.path.dropLast } else s
def badR (e : Int) (s : RS) : RS := { s with path := [], ser := 0, e := e }
def wrR (l : List Tk) (s : RS) : RS := if s.e = 0 then badR (if s.i < l.length then 120 else 121) s else s
def cdR (l : List Tk) (s : RS) (x : ByteArray) : Bool := s.e == 0 && (match l[s.i]? with
 | some t => decide (codeOf t = x)
 | none => false)
def tkR (l : List Tk) (all : Bool) (right : Bool) (s : RS) : RS :=
 if right = true then (if 1000 < s.path.length then badR 122 s else
  { s with i := s.i + 1, paths := if all = true ∨ s.i + 1 = l.length then s.paths ++ [s.path] else s.paths, last := if all = true ∨ s.i + 1 = l.length then s.path else s.last }) else wrR l s
def effR (q : List WT × RS) : Eff → List WT × RS
 | .push w => (w ++ q.1, q.2)
 | .opn k w => (w ++ .fin k :: q.1, opR k q.2)
def effsR (q : List WT × RS) (l : List Eff) : List WT × RS := l.foldl effR q
def fitR (s : RS) : Prop := s.ser ≤ 1099511627776 ∧ 0 < s.path.length
instance (s : RS) : Decidable (fitR s) := by unfold fitR; infer_instance
def rrun (l : List Tk) (all : Bool) : Nat → List WT → RS → Option RS
 | 0, _, s => if s.e ≠ 0 then some s else none
 | n + 1, T, s => if s.e ≠ 0 then some s else if fitR s then (match T with
  | [] => some s
  | .word x :: r => rrun l all n r (tkR l all (cdR l s x) s)
  | .fin k :: r => if s.path.length ≤ 1 then none else rrun l all n r (clR s)
  | .rule f :: r => match f.expand (cAt l s.i) with
   | none => some (wrR l s)
   | some e => rrun l all n (effsR (r, s) e).1 (effsR (r, s) e).2) else none
theorem rrun_succ (l : List Tk) (all : Bool) (n : Nat) (T : List WT) (s : RS) : rrun l all (n + 1) T s = if s.e ≠ 0 then some s else if fitR s then (match T with
  | [] => some s
  | .word x :: r => rrun l all n r (tkR l all (cdR l s x) s)
  | .fin k :: r => if s.path.length ≤ 1 then none else rrun l all n r (clR s)
  | .rule f :: r => match f.expand (cAt l s.i) with
   | none => some (wrR l s)
   | some e => rrun l all n (effsR (r, s) e).1 (effsR (r, s) e).2) else none := by
 cases T with
 | nil => rw [rrun]
 | cons x T => cases x <;> rw [rrun]
theorem rrun_wrong {l : List Tk} {all : Bool} {n : Nat} {T : List WT} {s : RS} (he : s.e ≠ 0) : rrun l all n T s = some s := by
 cases n with
 | zero => rw [rrun, if_pos he]
 | succ n => rw [rrun_succ, if_pos he]
theorem rrun_bad {l : List Tk} {all : Bool} {n : Nat} {T : List WT} {s r : RS} (he : s.e ≠ 0) (h : rrun l all n T s = some r) : r = s := by
 rw [rrun_wrong he] at h; cases h; rfl
theorem rrun_pos {l : List Tk} {all : Bool} {n : Nat} {T : List WT} {s r : RS} (he : s.e = 0) (h : rrun l all n T s = some r) : ∃ m, n = m + 1 := by
 cases n with
 | zero => rw [rrun, if_neg (by rw [he]; exact fun h => h rfl)] at h; cases h
 | succ n => exact ⟨n, rfl⟩
theorem wrR_bad {l : List Tk} {s : RS} (he : s.e ≠ 0) : wrR l s = s := if_neg he
theorem wrR_e {l : List Tk} {s : RS} : (wrR l s).e ≠ 0 := by
 unfold wrR
 split
 ·unfold badR; dsimp only; split <;> decide
 ·assumption
theorem rrun_mono (l : List Tk) (all : Bool) : ∀ (n : Nat) (T : List WT) (s r : RS) (k : Nat), rrun l all n T s = some r → rrun l all (n + k) T s = some r
 | 0, T, s, r, k, h => by
  by_cases he : s.e ≠ 0
  ·rw [rrun_bad he h]; exact rrun_wrong he
  ·rw [rrun, if_neg he] at h; cases h
 | n + 1, T, s, r, k, h => by
  rw [show n + 1 + k = (n + k) + 1 by omega]
  rw [rrun_succ] at h ⊢
  by_cases he : s.e ≠ 0
  ·rw [if_pos he] at h ⊢; exact h
  ·rw [if_neg he] at h ⊢
   by_cases hf : fitR s
   ·rw [if_pos hf] at h ⊢
    cases T with
    | nil => exact h
    | cons x T =>
     cases x with
     | word x => exact rrun_mono l all n _ _ r k h
     | fin j =>
      dsimp only at h ⊢
      split at h
      ·cases h
      ·rename_i hp
       rw [if_neg hp]
       exact rrun_mono l all n _ _ r k h
     | rule f =>
      dsimp only at h ⊢
      split at h
      ·exact h
      ·exact rrun_mono l all n _ _ r k h
   ·rw [if_neg hf] at h; cases h
theorem rrun_le {l : List Tk} {all : Bool} {n m : Nat} {T : List WT} {s r : RS} (h : rrun l all n T s = some r) (hm : n ≤ m) : rrun l all m T s = some r := by
 obtain ⟨k, rfl⟩ := Nat.exists_eq_add_of_le hm
 exact rrun_mono l all n T s r k h
theorem effsR_app : ∀ (e : List Eff) (T S : List WT) (s : RS), effsR (T ++ S, s) e = ((effsR (T, s) e).1 ++ S, (effsR (T, s) e).2)
 | [], T, S, s => rfl
 | .push w :: e, T, S, s => by
  have := effsR_app e (w ++ T) S s
  simp only [effsR, List.foldl, effR, List.append_assoc] at this ⊢
  exact this
 | .opn k w :: e, T, S, s => by
  have := effsR_app e (w ++ .fin k :: T) S (opR k s)
  simp only [effsR, List.foldl, effR, List.append_assoc, List.cons_append] at this ⊢
  exact this
theorem rrun_app {l : List Tk} {all : Bool} : ∀ (n : Nat) (A B : List WT) (s r : RS), rrun l all n (A ++ B) s = some r → ∃ s1, rrun l all n A s = some s1 ∧ rrun l all n B s1 = some r
 | 0, A, B, s, r, h => by
  by_cases he : s.e ≠ 0
  ·have := rrun_bad he h
   subst this
   exact ⟨r, rrun_wrong he, rrun_wrong he⟩
  ·rw [rrun, if_neg he] at h; cases h
 | n + 1, A, B, s, r, h => by
  by_cases he : s.e ≠ 0
  ·have := rrun_bad he h
   subst this
   exact ⟨r, rrun_wrong he, rrun_wrong he⟩
  ·cases A with
   | nil =>
    refine ⟨s, ?_, h⟩
    rw [List.nil_append, rrun_succ, if_neg he] at h
    rw [rrun_succ, if_neg he]
    by_cases hf : fitR s
    ·rw [if_pos hf]
    ·rw [if_neg hf] at h; cases h
   | cons x A =>
    rw [List.cons_append, rrun_succ, if_neg he] at h
    by_cases hf : fitR s
    ·rw [if_pos hf] at h
     cases x with
     | word x =>
      dsimp only at h
      obtain ⟨s1, h1, h2⟩ := rrun_app n A B _ r h
      refine ⟨s1, ?_, rrun_le h2 (Nat.le_succ n)⟩
      rw [rrun_succ, if_neg he, if_pos hf]
      exact h1
     | fin j =>
      dsimp only at h
      split at h
      ·cases h
      ·rename_i hp
       obtain ⟨s1, h1, h2⟩ := rrun_app n A B _ r h
       refine ⟨s1, ?_, rrun_le h2 (Nat.le_succ n)⟩
       rw [rrun_succ, if_neg he, if_pos hf]
       dsimp only
       rw [if_neg hp]
       exact h1
     | rule f =>
      dsimp only at h
      split at h
      ·rename_i hx
       cases h
       refine ⟨wrR l s, ?_, rrun_wrong wrR_e⟩
       rw [rrun_succ, if_neg he, if_pos hf]
       dsimp only
       rw [hx]
      ·rename_i e hx
       rw [effsR_app] at h
       obtain ⟨s1, h1, h2⟩ := rrun_app n _ B _ r h
       refine ⟨s1, ?_, rrun_le h2 (Nat.le_succ n)⟩
       rw [rrun_succ, if_neg he, if_pos hf]
       dsimp only
       rw [hx]
       exact h1
    ·rw [if_neg hf] at h; cases h
theorem rrun_fit {l : List Tk} {all : Bool} {n : Nat} {T : List WT} {s r : RS} (h : rrun l all n T s = some r) (he : s.e = 0) : fitR s := by
 obtain ⟨m, rfl⟩ := rrun_pos he h
 rw [rrun_succ, if_neg (by rw [he]; exact fun h => h rfl)] at h
 split at h
 ·assumption
 ·cases h
theorem rrun_nil {l : List Tk} {all : Bool} {n : Nat} {s r : RS} (h : rrun l all n [] s = some r) : r = s := by
 by_cases he : s.e ≠ 0
 ·exact rrun_bad he h
 ·obtain ⟨m, rfl⟩ := rrun_pos (by simpa using he) h
  rw [rrun_succ, if_neg he] at h
  split at h <;> cases h
  rfl
theorem cdR_bad {l : List Tk} {s : RS} {x : ByteArray} (he : s.e ≠ 0) : cdR l s x = false := by
 unfold cdR
 rw [beq_eq_false_iff_ne.2 he]
 rfl
theorem tk_bad {l : List Tk} {all : Bool} {s : RS} {x : ByteArray} (he : s.e ≠ 0) : tkR l all (cdR l s x) s = s := by
 unfold tkR
 rw [cdR_bad he, if_neg (by decide), wrR_bad he]
theorem cdR_at {l : List Tk} {s : RS} {x : ByteArray} (hx : x ≠ ⟨#[]⟩) (he : s.e = 0) : cdR l s x = decide (cAt l s.i = x) := by
 unfold cdR cAt
 rw [he]
 cases l[s.i]? with
 | none => simp only [beq_self_eq_true, Bool.true_and]; exact (decide_eq_false (fun h => hx h.symm)).symm
 | some t => simp
theorem cdR_true {l : List Tk} {s : RS} {x : ByteArray} (h : cdR l s x = true) : s.e = 0 ∧ ∃ t, l[s.i]? = some t ∧ codeOf t = x ∧ cAt l s.i = x := by
 unfold cdR at h
 rw [Bool.and_eq_true] at h
 obtain ⟨h1, h2⟩ := h
 refine ⟨by simpa using h1, ?_⟩
 cases ht : l[s.i]? with
 | none => rw [ht] at h2; cases h2
 | some t =>
  rw [ht] at h2
  have h3 : codeOf t = x := by simpa using h2
  exact ⟨t, rfl, h3, by unfold cAt; rw [ht]; exact h3⟩
theorem run_w {l : List Tk} {all : Bool} {n : Nat} {x : ByteArray} {S : List WT} {s r : RS} (h : rrun l all n (.word x :: S) s = some r) : rrun l all n S (tkR l all (cdR l s x) s) = some r := by
 by_cases he : s.e ≠ 0
 ·rw [tk_bad he]
  have := rrun_bad he h
  subst this
  exact rrun_wrong he
 ·obtain ⟨m, rfl⟩ := rrun_pos (by simpa using he) h
  rw [rrun_succ, if_neg he] at h
  split at h
  ·exact rrun_le h (Nat.le_succ m)
  ·cases h
theorem run_w1 {l : List Tk} {all : Bool} {n : Nat} {x : ByteArray} {s r : RS} (h : rrun l all n [.word x] s = some r) : r = tkR l all (cdR l s x) s := rrun_nil (run_w h)
theorem opR_bad {k : Nat} {s : RS} (he : s.e ≠ 0) : opR k s = s := if_neg he
theorem clR_bad {s : RS} (he : s.e ≠ 0) : clR s = s := if_neg he
theorem effs_evsS : ∀ (e : List Eff) (T : List WT) (v : List (Nat × Nat)) (d : Int), effs ⟨T, v, d⟩ e = ⟨(effs ⟨T, [], d⟩ e).todo, v ++ (effs ⟨T, [], d⟩ e).evs, (effs ⟨T, [], d⟩ e).depth⟩
 | [], T, v, d => by simp [effs]
 | .push w :: e, T, v, d => by
  have := effs_evsS e (w ++ T) v d
  simp only [effs, List.foldl, Eff.act] at this ⊢
  exact this
 | .opn k w :: e, T, v, d => by
  have h1 := effs_evsS e (w ++ .fin k :: T) (v ++ [(1, k)]) (d + 1)
  have h2 := effs_evsS e (w ++ .fin k :: T) [(1, k)] (d + 1)
  simp only [effs, List.foldl, Eff.act, List.nil_append] at h1 h2 ⊢
  rw [h1, h2]
  simp only [List.append_assoc]
theorem effs_both (e : List Eff) (T S : List WT) (v : List (Nat × Nat)) (d : Int) : effs ⟨T ++ S, v, d⟩ e = ⟨(effs ⟨T, [], d⟩ e).todo ++ S, v ++ (effs ⟨T, [], d⟩ e).evs, (effs ⟨T, [], d⟩ e).depth⟩ := by
 rw [effs_app, effs_evsS e T v d]
theorem srun_step {l : List Tk} {n : Nat} {s s' : SSt} (hf : fitS s) (hs : sstep l s = .on s') : srun l (n + 1) s = srun l n s' := by
 rw [srun, if_pos hf, hs]
theorem srun_res {l : List Tk} {n : Nat} {s : SSt} {r : SRes} (hf : fitS s) (hs : sstep l s = .res r) : srun l (n + 1) s = some r := by
 rw [srun, if_pos hf, hs]
theorem srun_ok_fit {l : List Tk} : ∀ (n : Nat) (s : SSt) (i : Nat) (d : Int) (out : List Ev), srun l n s = some (.ok i d out) → fitS ⟨[], i, d, out⟩
 | 0, s, i, d, out, h => by simp [srun] at h
 | n + 1, s, i, d, out, h => by
  rw [srun] at h
  split at h
  ·rename_i hf
   split at h
   ·exact srun_ok_fit n _ i d out h
   ·rename_i r hr
    cases h
    obtain ⟨T, a, b, c⟩ := s
    cases T with
    | nil =>
     simp only [sstep] at hr
     cases hr
     exact hf
    | cons x T =>
     obtain ⟨e, j, he⟩ := sstep_res hr
     cases he
  ·cases h
def Room (n : Nat) (k : Nat) (d : Int) : Prop := k + n ≤ 274877906944 ∧ -1099511627776 + (n : Int) ≤ d ∧ d + n ≤ 1099511627776
theorem Room.fit {n : Nat} {T : List WT} {i : Nat} {d : Int} {out : List Ev} (h : Room n out.length d) : fitS ⟨T, i, d, out⟩ := by
 obtain ⟨h1, h2, h3⟩ := h
 refine ⟨?_, ?_, ?_⟩ <;> dsimp only <;> omega
theorem Room.next {n k k' : Nat} {d d' : Int} (h : Room (n + 1) k d) (h1 : k' ≤ k + 1) (h2 : d - 1 ≤ d') (h3 : d' ≤ d + 1) : Room n k' d' := by
 obtain ⟨a, b, c⟩ := h
 refine ⟨?_, ?_, ?_⟩ <;> omega
def LastW (T : List WT) : Prop := T = [] ∨ ∃ U x, T = U ++ [.word x]
theorem evlen (out : List Ev) (evs : List (Nat × Nat)) : (out ++ evs.map evOf).length = out.length + evs.length := by simp
theorem run_word {l : List Tk} {t : Tk} {i : Nat} (hi : l[i]? = some t) : ∀ (n : Nat) (U : List WT) (x : ByteArray) (evs : List (Nat × Nat)) (d : Int) (out : List Ev) (b : Bool) (s : PSt), turns (codeOf t) n ⟨U ++ [.word x, .fin 1], evs, d⟩ = some (b, s) → Room n (out.length + evs.length) d →
  (b = false ∧ srun l n ⟨U ++ [.word x], i, d, out ++ evs.map evOf⟩ = some (.err 120 i)) ∨
  (b = true ∧ ∃ T', s.todo = T' ++ [.fin 1] ∧ LastW T' ∧ s.evs.length ≤ evs.length + n ∧ d - n ≤ s.depth ∧ s.depth ≤ d + n ∧ ∀ m r, srun l m ⟨.word (codeOf t) :: T', i, s.depth, out ++ s.evs.map evOf⟩ = some r → srun l (m + n) ⟨U ++ [.word x], i, d, out ++ evs.map evOf⟩ = some r)
 | 0, U, x, evs, d, out, b, s, h, hR => by simp [turns] at h
 | n + 1, U, x, evs, d, out, b, s, h, hR => by
  have hil : i < l.length := (List.getElem?_eq_some_iff.1 hi).1
  have hc : cAt l i = codeOf t := by unfold cAt; rw [hi]
  have hfit : ∀ T, fitS ⟨T, i, d, out ++ evs.map evOf⟩ := fun T => Room.fit (n := n + 1) (by rw [evlen]; exact hR)
  rw [turns] at h
  cases U with
  | nil =>
   rw [List.nil_append] at h ⊢
   simp only [turn] at h
   by_cases hx : x = codeOf t
   ·rw [if_pos hx] at h
    simp only [Option.some.injEq, Prod.mk.injEq] at h
    obtain ⟨rfl, rfl⟩ := h
    refine .inr ⟨rfl, [], rfl, .inl rfl, by dsimp only; omega, by dsimp only; omega, by dsimp only; omega, fun m r hr => ?_⟩
    rw [hx]
    exact srun_le hr (by omega)
   ·rw [if_neg hx] at h
    simp only [Option.some.injEq, Prod.mk.injEq] at h
    obtain ⟨rfl, rfl⟩ := h
    refine .inl ⟨rfl, srun_res (hfit _) ?_⟩
    simp only [sstep, hi]
    rw [if_neg (fun e => hx e.symm)]
  | cons y U =>
   rw [List.cons_append] at h ⊢
   cases y with
   | word y =>
    simp only [turn] at h
    by_cases hx : y = codeOf t
    ·rw [if_pos hx] at h
     simp only [Option.some.injEq, Prod.mk.injEq] at h
     obtain ⟨rfl, rfl⟩ := h
     refine .inr ⟨rfl, U ++ [.word x], by simp, .inr ⟨U, x, rfl⟩, by dsimp only; omega, by dsimp only; omega, by dsimp only; omega, fun m r hr => ?_⟩
     rw [hx]
     exact srun_le hr (by omega)
    ·rw [if_neg hx] at h
     simp only [Option.some.injEq, Prod.mk.injEq] at h
     obtain ⟨rfl, rfl⟩ := h
     refine .inl ⟨rfl, srun_res (hfit _) ?_⟩
     simp only [sstep, hi]
     rw [if_neg (fun e => hx e.symm)]
   | fin k =>
    simp only [turn] at h
    have hs : sstep l ⟨.fin k :: (U ++ [.word x]), i, d, out ++ evs.map evOf⟩ = .on ⟨U ++ [.word x], i, d - 1, out ++ (evs ++ [(3, k)]).map evOf⟩ := by
     simp [sstep]
    rw [srun_step (hfit _) hs]
    rcases run_word hi n U x (evs ++ [(3, k)]) (d - 1) out b s h (hR.next (by simp; omega) (by omega) (by omega)) with ⟨hb, h1⟩ | ⟨hb, T', h1, h2, h3, h4, h5, h6⟩
    ·exact .inl ⟨hb, h1⟩
    ·rw [List.length_append, List.length_singleton] at h3
     refine .inr ⟨hb, T', h1, h2, by omega, by omega, by omega, fun m r hr => ?_⟩
     rw [show m + (n + 1) = (m + n) + 1 by omega, srun_step (hfit _) hs]
     exact h6 m r hr
   | rule f =>
    simp only [turn] at h
    cases he : f.expand (codeOf t) with
    | none =>
     rw [he] at h
     simp only [Option.some.injEq, Prod.mk.injEq] at h
     obtain ⟨rfl, rfl⟩ := h
     refine .inl ⟨rfl, srun_res (hfit _) ?_⟩
     simp only [sstep, hc, he]
     rw [if_neg (by omega)]
    | some e =>
     rw [he] at h
     dsimp only at h
     rw [effs_both] at h
     obtain ⟨-, b1, b2, b3⟩ := expand_len he ⟨U, [], d⟩
     generalize hE : effs ⟨U, [], d⟩ e = E at h b1 b2 b3
     dsimp only [List.length_nil] at b1 b2 b3
     have hs : sstep l ⟨.rule f :: (U ++ [.word x]), i, d, out ++ evs.map evOf⟩ = .on ⟨E.todo ++ [.word x], i, E.depth, out ++ (evs ++ E.evs).map evOf⟩ := by
      simp only [sstep, hc, he, effs_both, hE, List.nil_append, List.map_append, List.append_assoc]
     rw [srun_step (hfit _) hs]
     rcases run_word hi n E.todo x (evs ++ E.evs) E.depth out b s h (hR.next (by rw [List.length_append]; omega) (by omega) (by omega)) with ⟨hb, h1⟩ | ⟨hb, T', h1, h2, h3, h4, h5, h6⟩
     ·exact .inl ⟨hb, h1⟩
     ·rw [List.length_append] at h3
      refine .inr ⟨hb, T', h1, h2, by omega, by omega, by omega, fun m r hr => ?_⟩
      rw [show m + (n + 1) = (m + n) + 1 by omega, srun_step (hfit _) hs]
      exact h6 m r hr
theorem run_end {l : List Tk} : ∀ (n : Nat) (U : List WT) (x : ByteArray) (evs : List (Nat × Nat)) (d : Int) (out : List Ev) (b : Bool) (s : PSt), turns ⟨#[]⟩ n ⟨U ++ [.word x], evs, d⟩ = some (b, s) → Room n (out.length + evs.length) d →
  srun l n ⟨U ++ [.word x], l.length, d, out ++ evs.map evOf⟩ = some (.err 121 l.length)
 | 0, U, x, evs, d, out, b, s, h, hR => by simp [turns] at h
 | n + 1, U, x, evs, d, out, b, s, h, hR => by
  have hi : l[l.length]? = none := List.getElem?_eq_none (Nat.le_refl _)
  have hc : cAt l l.length = ⟨#[]⟩ := by unfold cAt; rw [hi]
  have hfit : ∀ T, fitS ⟨T, l.length, d, out ++ evs.map evOf⟩ := fun T => Room.fit (n := n + 1) (by rw [evlen]; exact hR)
  rw [turns] at h
  cases U with
  | nil => exact srun_res (hfit _) (by simp only [sstep, List.nil_append, hi])
  | cons y U =>
   rw [List.cons_append] at h ⊢
   cases y with
   | word y => exact srun_res (hfit _) (by simp only [sstep, hi])
   | fin k =>
    simp only [turn] at h
    have hs : sstep l ⟨.fin k :: (U ++ [.word x]), l.length, d, out ++ evs.map evOf⟩ = .on ⟨U ++ [.word x], l.length, d - 1, out ++ (evs ++ [(3, k)]).map evOf⟩ := by
     simp [sstep]
    rw [srun_step (hfit _) hs]
    exact run_end n U x (evs ++ [(3, k)]) (d - 1) out b s h (hR.next (by simp; omega) (by omega) (by omega))
   | rule f =>
    simp only [turn] at h
    cases he : f.expand ⟨#[]⟩ with
    | none => exact srun_res (hfit _) (by simp only [sstep, hc, he, if_true])
    | some e =>
     rw [he] at h
     dsimp only at h
     rw [effs_both] at h
     obtain ⟨-, b1, b2, b3⟩ := expand_len he ⟨U, [], d⟩
     generalize hE : effs ⟨U, [], d⟩ e = E at h b1 b2 b3
     dsimp only [List.length_nil] at b1 b2 b3
     have hs : sstep l ⟨.rule f :: (U ++ [.word x]), l.length, d, out ++ evs.map evOf⟩ = .on ⟨E.todo ++ [.word x], l.length, E.depth, out ++ (evs ++ E.evs).map evOf⟩ := by
      simp only [sstep, hc, he, effs_both, hE, List.nil_append, List.map_append, List.append_assoc]
     rw [srun_step (hfit _) hs]
     exact run_end n E.todo x (evs ++ E.evs) E.depth out b s h (hR.next (by rw [List.length_append]; omega) (by omega) (by omega))
def evR (q : List (Nat × Nat) × Nat) (v : Nat × Nat) : List (Nat × Nat) × Nat := if v.1 = 3 then (q.1.dropLast, q.2) else (q.1 ++ [(v.2, q.2 + 1)], q.2 + 1)
def pathR (q : List (Nat × Nat) × Nat) (evs : List (Nat × Nat)) : List (Nat × Nat) × Nat := evs.foldl evR q
def setQ (s : RS) (q : List (Nat × Nat) × Nat) : RS := { s with path := q.1, ser := q.2 }
theorem pathR_app (q : List (Nat × Nat) × Nat) (a b : List (Nat × Nat)) : pathR q (a ++ b) = pathR (pathR q a) b := by
 unfold pathR; rw [List.foldl_append]
theorem effsR_eq : ∀ (e : List Eff) (T : List WT) (s : RS) (d : Int), s.e = 0 → effsR (T, s) e = ((effs ⟨T, [], d⟩ e).todo, setQ s (pathR (s.path, s.ser) (effs ⟨T, [], d⟩ e).evs))
 | [], T, s, d, he => rfl
 | .push w :: e, T, s, d, he => by
  have := effsR_eq e (w ++ T) s d he
  simp only [effsR, List.foldl, effR, effs, Eff.act] at this ⊢
  exact this
 | .opn k w :: e, T, s, d, he => by
  have h1 := effsR_eq e (w ++ .fin k :: T) (opR k s) (d + 1) (by unfold opR; rw [if_pos he]; exact he)
  have h2 := effs_evsS e (w ++ .fin k :: T) [(1, k)] (d + 1)
  simp only [effsR, List.foldl, effR, effs, Eff.act, List.nil_append] at h1 h2 ⊢
  rw [h1, h2]
  dsimp only
  rw [pathR_app]
  unfold opR setQ
  rw [if_pos he]
  rfl
theorem exp_inv {f : RId} {c : ByteArray} {e : List Eff} (h : f.expand c = some e) (T : List WT) (d : Int) (q : List (Nat × Nat) × Nat) :
  (fins (effs ⟨T, [], d⟩ e).todo).length + q.1.length = (fins T).length + (pathR q (effs ⟨T, [], d⟩ e).evs).1.length ∧ (effs ⟨T, [], d⟩ e).depth + q.1.length = d + (pathR q (effs ⟨T, [], d⟩ e).evs).1.length ∧ (pathR q (effs ⟨T, [], d⟩ e).evs).2 ≤ q.2 + 1 := by
 cases f <;> simp only [RId.expand] at h
 all_goals (repeat' split at h)
 all_goals first | (cases h; done) | cases h
 all_goals (simp [effs, Eff.act, fins, pathR, evR])
 all_goals omega
theorem len_ok {l : List Tk} {all : Bool} {m : Nat} {s : RS} {T : List WT} {f : RId} {e : List Eff} {r : RS} (he : s.e = 0) (hf : fitR s) (hx : f.expand (cAt l s.i) = some e) (h : rrun l all m (effsR (T, s) e).1 (effsR (T, s) e).2 = some r) : rrun l all (m + 1) (.rule f :: T) s = some r := by
 rw [rrun_succ, if_neg (by rw [he]; decide), if_pos hf]
 dsimp only
 rw [hx]
 exact h
theorem none_ok {l : List Tk} {all : Bool} {s : RS} {T : List WT} {f : RId} (he : s.e = 0) (hf : fitR s) (hx : f.expand (cAt l s.i) = none) : rrun l all 1 (.rule f :: T) s = some (wrR l s) := by
 rw [rrun_succ, if_neg (by rw [he]; decide), if_pos hf]
 dsimp only
 rw [hx]
theorem fin_ok {l : List Tk} {all : Bool} {m : Nat} {s : RS} {T : List WT} {k : Nat} {r : RS} (he : s.e = 0) (hf : fitR s) (hp : ¬ s.path.length ≤ 1) (h : rrun l all m T (clR s) = some r) : rrun l all (m + 1) (.fin k :: T) s = some r := by
 rw [rrun_succ, if_neg (by rw [he]; decide), if_pos hf]
 dsimp only
 rw [if_neg hp]
 exact h
theorem word_bad {l : List Tk} {all : Bool} {s : RS} {T : List WT} {x : ByteArray} (he : s.e = 0) (hf : fitR s) (hx : cdR l s x = false) : rrun l all 2 (.word x :: T) s = some (wrR l s) := by
 rw [rrun_succ, if_neg (by rw [he]; decide), if_pos hf]
 dsimp only
 rw [hx]
 exact rrun_wrong wrR_e
theorem wrR_set {l : List Tk} {s : RS} {q : List (Nat × Nat) × Nat} (he : s.e = 0) : wrR l (setQ s q) = badR (if s.i < l.length then 120 else 121) s := by
 unfold wrR
 rw [if_pos (show (setQ s q).e = 0 from he)]
 rfl
theorem fins_w (x : ByteArray) : ∀ U : List WT, fins (U ++ [.word x]) = fins U
 | [] => rfl
 | .word y :: U => by simp only [List.cons_append, fins]; exact fins_w x U
 | .rule y :: U => by simp only [List.cons_append, fins]; exact fins_w x U
 | .fin y :: U => by simp only [List.cons_append, fins]; rw [fins_w x U]
theorem rd_word {l : List Tk} {all : Bool} {t : Tk} {s0 : RS} (hi : l[s0.i]? = some t) (he : s0.e = 0) (q0 : List (Nat × Nat) × Nat) : ∀ (n : Nat) (U : List WT) (x : ByteArray) (evs : List (Nat × Nat)) (d : Int) (b : Bool) (st : PSt),
  turns (codeOf t) n ⟨U ++ [.word x, .fin 1], evs, d⟩ = some (b, st) → (pathR q0 evs).2 + n ≤ 1099511627776 → (fins U).length < (pathR q0 evs).1.length → d = (pathR q0 evs).1.length →
  (b = false ∧ ∃ m, rrun l all m (U ++ [.word x]) (setQ s0 (pathR q0 evs)) = some (badR 120 s0)) ∨
  (b = true ∧ ∃ T', st.todo = T' ++ [.fin 1] ∧ LastW T' ∧ (fins T').length < (pathR q0 st.evs).1.length ∧ st.depth = (pathR q0 st.evs).1.length ∧ (pathR q0 st.evs).2 ≤ (pathR q0 evs).2 + n ∧
   ∀ m r, rrun l all m (.word (codeOf t) :: T') (setQ s0 (pathR q0 st.evs)) = some r → ∃ m', rrun l all m' (U ++ [.word x]) (setQ s0 (pathR q0 evs)) = some r)
 | 0, U, x, evs, d, b, st, h, hR, hF, hd => by simp [turns] at h
 | n + 1, U, x, evs, d, b, st, h, hR, hF, hd => by
  have hil : s0.i < l.length := (List.getElem?_eq_some_iff.1 hi).1
  have hc : cAt l s0.i = codeOf t := by unfold cAt; rw [hi]
  have hfit : fitR (setQ s0 (pathR q0 evs)) := by unfold fitR setQ; dsimp only; omega
  have hw : wrR l (setQ s0 (pathR q0 evs)) = badR 120 s0 := by rw [wrR_set he, if_pos hil]
  have hcd : ∀ y, cdR l (setQ s0 (pathR q0 evs)) y = decide (codeOf t = y) := fun y => by
   unfold cdR
   rw [show (setQ s0 (pathR q0 evs)).i = s0.i from rfl, hi, show (setQ s0 (pathR q0 evs)).e = 0 from he]
   rfl
  rw [turns] at h
  cases U with
  | nil =>
   rw [List.nil_append] at h ⊢
   simp only [turn] at h
   by_cases hx : x = codeOf t
   ·rw [if_pos hx] at h
    simp only [Option.some.injEq, Prod.mk.injEq] at h
    obtain ⟨rfl, rfl⟩ := h
    refine .inr ⟨rfl, [], rfl, .inl rfl, hF, hd, by dsimp only; omega, fun m r hr => ⟨m, ?_⟩⟩
    rw [hx]
    exact hr
   ·rw [if_neg hx] at h
    simp only [Option.some.injEq, Prod.mk.injEq] at h
    obtain ⟨rfl, rfl⟩ := h
    refine .inl ⟨rfl, 2, ?_⟩
    rw [← hw]
    exact word_bad he hfit (by rw [hcd]; exact decide_eq_false (fun e => hx e.symm))
  | cons y U =>
   rw [List.cons_append] at h ⊢
   cases y with
   | word y =>
    simp only [turn] at h
    by_cases hx : y = codeOf t
    ·rw [if_pos hx] at h
     simp only [Option.some.injEq, Prod.mk.injEq] at h
     obtain ⟨rfl, rfl⟩ := h
     refine .inr ⟨rfl, U ++ [.word x], by simp, .inr ⟨U, x, rfl⟩, ?_, hd, by dsimp only; omega, fun m r hr => ⟨m, ?_⟩⟩
     ·rw [fins_w]; simpa [fins] using hF
     ·rw [hx]; exact hr
    ·rw [if_neg hx] at h
     simp only [Option.some.injEq, Prod.mk.injEq] at h
     obtain ⟨rfl, rfl⟩ := h
     refine .inl ⟨rfl, 2, ?_⟩
     rw [← hw]
     exact word_bad he hfit (by rw [hcd]; exact decide_eq_false (fun e => hx e.symm))
   | fin k =>
    simp only [turn] at h
    have hpe : pathR q0 (evs ++ [(3, k)]) = ((pathR q0 evs).1.dropLast, (pathR q0 evs).2) := by rw [pathR_app]; rfl
    have hcl : clR (setQ s0 (pathR q0 evs)) = setQ s0 (pathR q0 (evs ++ [(3, k)])) := by
     rw [hpe]; unfold clR; rw [if_pos (show (setQ s0 (pathR q0 evs)).e = 0 from he)]; rfl
    have hF' : (fins U).length + 1 < (pathR q0 evs).1.length := by simpa [fins] using hF
    have hne : ¬ (setQ s0 (pathR q0 evs)).path.length ≤ 1 := by
     show ¬ (pathR q0 evs).1.length ≤ 1
     omega
    rcases rd_word hi he q0 n U x (evs ++ [(3, k)]) (d - 1) b st h (by rw [hpe]; dsimp only; omega) (by rw [hpe]; dsimp only; rw [List.length_dropLast]; omega) (by rw [hpe]; dsimp only; rw [List.length_dropLast]; omega) with ⟨hb, m, h1⟩ | ⟨hb, T', h1, h2, h3, h4, h5, h6⟩
    ·exact .inl ⟨hb, m + 1, fin_ok he hfit hne (by rw [hcl]; exact h1)⟩
    ·refine .inr ⟨hb, T', h1, h2, h3, h4, by rw [hpe] at h5; dsimp only at h5; omega, fun m r hr => ?_⟩
     obtain ⟨m', hm⟩ := h6 m r hr
     exact ⟨m' + 1, fin_ok he hfit hne (by rw [hcl]; exact hm)⟩
   | rule f =>
    simp only [turn] at h
    cases hx : f.expand (codeOf t) with
    | none =>
     rw [hx] at h
     simp only [Option.some.injEq, Prod.mk.injEq] at h
     obtain ⟨rfl, rfl⟩ := h
     refine .inl ⟨rfl, 1, ?_⟩
     rw [← hw]
     exact none_ok he hfit (by rw [show (setQ s0 (pathR q0 evs)).i = s0.i from rfl, hc]; exact hx)
    | some e =>
     rw [hx] at h
     dsimp only at h
     rw [effs_both] at h
     obtain ⟨b1, b2, b3⟩ := exp_inv hx U d (pathR q0 evs)
     have hq := effsR_eq e U (setQ s0 (pathR q0 evs)) d he
     rw [show ((setQ s0 (pathR q0 evs)).path, (setQ s0 (pathR q0 evs)).ser) = pathR q0 evs from rfl] at hq
     have hqa : effsR (U ++ [.word x], setQ s0 (pathR q0 evs)) e = ((effs ⟨U, [], d⟩ e).todo ++ [.word x], setQ s0 (pathR q0 (evs ++ (effs ⟨U, [], d⟩ e).evs))) := by
      rw [effsR_app, hq, pathR_app]; rfl
     generalize effs ⟨U, [], d⟩ e = E at h b1 b2 b3 hqa
     rw [← pathR_app] at b1 b2 b3
     have hF' : (fins U).length < (pathR q0 evs).1.length := by simpa [fins] using hF
     have hst : ∀ m r, rrun l all m (E.todo ++ [.word x]) (setQ s0 (pathR q0 (evs ++ E.evs))) = some r → rrun l all (m + 1) (.rule f :: (U ++ [.word x])) (setQ s0 (pathR q0 evs)) = some r := fun m r hr =>
      len_ok he hfit (by rw [show (setQ s0 (pathR q0 evs)).i = s0.i from rfl, hc]; exact hx) (by rw [hqa]; exact hr)
     rcases rd_word hi he q0 n E.todo x (evs ++ E.evs) E.depth b st h (by omega) (by omega) (by omega) with ⟨hb, m, h1⟩ | ⟨hb, T', h1, h2, h3, h4, h5, h6⟩
     ·exact .inl ⟨hb, m + 1, hst m _ h1⟩
     ·refine .inr ⟨hb, T', h1, h2, h3, h4, by omega, fun m r hr => ?_⟩
      obtain ⟨m', hm⟩ := h6 m r hr
      exact ⟨m' + 1, hst m' r hm⟩
theorem rd_end {l : List Tk} {all : Bool} {s0 : RS} (hi : s0.i = l.length) (he : s0.e = 0) (q0 : List (Nat × Nat) × Nat) : ∀ (n : Nat) (U : List WT) (x : ByteArray) (evs : List (Nat × Nat)) (d : Int) (b : Bool) (st : PSt),
  turns ⟨#[]⟩ n ⟨U ++ [.word x], evs, d⟩ = some (b, st) → (pathR q0 evs).2 + n ≤ 1099511627776 → (fins U).length < (pathR q0 evs).1.length → ∃ m, rrun l all m (U ++ [.word x]) (setQ s0 (pathR q0 evs)) = some (badR 121 s0)
 | 0, U, x, evs, d, b, st, h, hR, hF => by simp [turns] at h
 | n + 1, U, x, evs, d, b, st, h, hR, hF => by
  have hn : l[s0.i]? = none := List.getElem?_eq_none (by omega)
  have hc : cAt l s0.i = ⟨#[]⟩ := by unfold cAt; rw [hn]
  have hfit : fitR (setQ s0 (pathR q0 evs)) := by unfold fitR setQ; dsimp only; omega
  have hw : wrR l (setQ s0 (pathR q0 evs)) = badR 121 s0 := by rw [wrR_set he, if_neg (by omega)]
  have hcd : ∀ y, cdR l (setQ s0 (pathR q0 evs)) y = false := fun y => by
   unfold cdR
   rw [show (setQ s0 (pathR q0 evs)).i = s0.i from rfl, hn, Bool.and_false]
  rw [turns] at h
  cases U with
  | nil =>
   refine ⟨2, ?_⟩
   rw [← hw]
   exact word_bad he hfit (hcd _)
  | cons y U =>
   rw [List.cons_append] at h ⊢
   cases y with
   | word y =>
    refine ⟨2, ?_⟩
    rw [← hw]
    exact word_bad he hfit (hcd _)
   | fin k =>
    simp only [turn] at h
    have hpe : pathR q0 (evs ++ [(3, k)]) = ((pathR q0 evs).1.dropLast, (pathR q0 evs).2) := by rw [pathR_app]; rfl
    have hcl : clR (setQ s0 (pathR q0 evs)) = setQ s0 (pathR q0 (evs ++ [(3, k)])) := by
     rw [hpe]; unfold clR; rw [if_pos (show (setQ s0 (pathR q0 evs)).e = 0 from he)]; rfl
    have hF' : (fins U).length + 1 < (pathR q0 evs).1.length := by simpa [fins] using hF
    have hne : ¬ (setQ s0 (pathR q0 evs)).path.length ≤ 1 := by
     show ¬ (pathR q0 evs).1.length ≤ 1
     omega
    obtain ⟨m, h1⟩ := rd_end (all := all) hi he q0 n U x (evs ++ [(3, k)]) (d - 1) b st h (by rw [hpe]; dsimp only; omega) (by rw [hpe]; dsimp only; rw [List.length_dropLast]; omega)
    exact ⟨m + 1, fin_ok he hfit hne (by rw [hcl]; exact h1)⟩
   | rule f =>
    simp only [turn] at h
    cases hx : f.expand ⟨#[]⟩ with
    | none =>
     refine ⟨1, ?_⟩
     rw [← hw]
     exact none_ok he hfit (by rw [show (setQ s0 (pathR q0 evs)).i = s0.i from rfl, hc]; exact hx)
    | some e =>
     rw [hx] at h
     dsimp only at h
     rw [effs_both] at h
     obtain ⟨b1, b2, b3⟩ := exp_inv hx U d (pathR q0 evs)
     have hq := effsR_eq e U (setQ s0 (pathR q0 evs)) d he
     rw [show ((setQ s0 (pathR q0 evs)).path, (setQ s0 (pathR q0 evs)).ser) = pathR q0 evs from rfl] at hq
     have hqa : effsR (U ++ [.word x], setQ s0 (pathR q0 evs)) e = ((effs ⟨U, [], d⟩ e).todo ++ [.word x], setQ s0 (pathR q0 (evs ++ (effs ⟨U, [], d⟩ e).evs))) := by
      rw [effsR_app, hq, pathR_app]; rfl
     generalize effs ⟨U, [], d⟩ e = E at h b1 b2 b3 hqa
     rw [← pathR_app] at b1 b2 b3
     have hF' : (fins U).length < (pathR q0 evs).1.length := by simpa [fins] using hF
     obtain ⟨m, h1⟩ := rd_end (all := all) hi he q0 n E.todo x (evs ++ E.evs) E.depth b st h (by omega) (by omega)
     exact ⟨m + 1, len_ok he hfit (by rw [show (setQ s0 (pathR q0 evs)).i = s0.i from rfl, hc]; exact hx) (by rw [hqa]; exact h1)⟩
def numb : Nat → List Nat → List (Nat × Nat)
 | _, [] => []
 | n, k :: r => (k, n + 1) :: numb (n + 1) r
theorem numb_fst : ∀ (n : Nat) (r : List Nat), (numb n r).map Prod.fst = r
 | _, [] => rfl
 | n, k :: r => by rw [numb, List.map_cons, numb_fst]
theorem numb_snd : ∀ (n : Nat) (r : List Nat), ∀ x ∈ numb n r, n < x.2 ∧ x.2 ≤ n + r.length
 | _, [], x, hx => (by cases hx)
 | n, k :: r, x, hx => by
  rw [numb] at hx
  rcases List.mem_cons.1 hx with rfl | hx
  ·rw [List.length_cons]; dsimp only; omega
  ·have := numb_snd (n + 1) r x hx
   rw [List.length_cons]; omega
theorem pathR_cl : ∀ (cl : List Nat) (q : List (Nat × Nat) × Nat), pathR q (cl.map (fun k => (3, k))) = (q.1.take (q.1.length - cl.length), q.2)
 | [], q => by simp [pathR]
 | k :: cl, q => by
  have h := pathR_cl cl (q.1.dropLast, q.2)
  rw [List.map_cons]
  show pathR (evR q (3, k)) _ = _
  rw [show evR q (3, k) = (q.1.dropLast, q.2) from rfl, h]
  dsimp only
  rw [List.length_dropLast, List.dropLast_eq_take, List.take_take, List.length_cons]
  congr 2
  omega
theorem pathR_op : ∀ (op : List Nat) (q : List (Nat × Nat) × Nat), pathR q (op.map (fun k => (1, k))) = (q.1 ++ numb q.2 op, q.2 + op.length)
 | [], q => by simp [pathR, numb]
 | k :: op, q => by
  rw [List.map_cons]
  show pathR (evR q (1, k)) _ = _
  rw [show evR q (1, k) = (q.1 ++ [(k, q.2 + 1)], q.2 + 1) from rfl, pathR_op op]
  dsimp only
  rw [List.length_cons, numb, List.append_assoc, List.cons_append, List.nil_append]
  congr 1
  omega
theorem pathR_evs (cl op : List Nat) (q : List (Nat × Nat) × Nat) : pathR q (cl.map (fun k => (3, k)) ++ op.map (fun k => (1, k))) = (q.1.take (q.1.length - cl.length) ++ numb q.2 op, q.2 + op.length) := by
 rw [pathR_app, pathR_cl, pathR_op]
def tookR (all : Bool) (N : Nat) (s : RS) (evs : List (Nat × Nat)) : RS :=
 { i := s.i + 1, path := (pathR (s.path, s.ser) evs).1, ser := (pathR (s.path, s.ser) evs).2, paths := if all = true ∨ s.i + 1 = N then s.paths ++ [(pathR (s.path, s.ser) evs).1] else s.paths, last := if all = true ∨ s.i + 1 = N then (pathR (s.path, s.ser) evs).1 else s.last, e := 0 }
def rdRun (all : Bool) (N : Nat) : Par → RS → List Tk → RS
 | p, s, [] => if p.todo.length = 1 then s else badR 121 s
 | p, s, t :: r => if (token t p.todo p.depth).1 ≠ 0 then badR (token t p.todo p.depth).1 s else
  rdRun all N { p with todo := (token t p.todo p.depth).2.todo, depth := (token t p.todo p.depth).2.depth } (tookR all N s (token t p.todo p.depth).2.evs) r
theorem bad_ne {e : Int} {s : RS} (h : e ≠ 0) : ¬ ((badR e s).e = 0) := h
def endProg (l : List Tk) (s : RS) : RS := if s.e = 0 ∧ s.i < l.length then badR 120 s else s
theorem rd_all (l : List Tk) (all : Bool) (hl : l.length ≤ 4194304) (hnote : ∀ t ∈ l, isNote t = false) : ∀ (k : Nat) (T : List WT) (p : Par) (op : List Nat) (s : RS), l.length - s.i = k → s.i ≤ l.length → s.e = 0 → p.todo = T ++ [.fin 1] → LastW T → PInv p op → p.begun = true → s.path.length = op.length → s.ser ≤ 4000 * (s.i + 1) → p.todo.length ≤ 77 * (s.i + 1) →
  ∃ n r, rrun l all n T s = some r ∧ endProg l r = rdRun all l.length p s (l.drop s.i) := by
 intro k
 induction k using Nat.strongRecOn with
 | ind k ih =>
 intro T p op s hk hi he hT hLW hP hb hpl hser htl
 have hd := hP.depth
 have hmost := hP.most
 have hfins := hP.fins
 rw [if_pos hb] at hfins
 have hfT : (fins T).length + 1 = s.path.length := by
  have := congrArg List.length hfins
  rw [hT, fins_snoc, List.length_append, List.length_singleton] at this
  omega
 by_cases hil : s.i = l.length
 ·rw [hil, List.drop_length]
  rcases hLW with rfl | ⟨U, x, rfl⟩
  ·refine ⟨1, s, ?_, ?_⟩
   ·rw [rrun_succ, if_neg (by rw [he]; decide), if_pos (by unfold fitR; omega)]
   ·unfold endProg
    rw [if_neg (by omega), rdRun, if_pos (by rw [hT]; rfl)]
  ·obtain ⟨⟨b, st⟩, -, -, -, h1, -⟩ := turns_some ⟨#[]⟩ (U ++ [WT.word x]).length ⟨U ++ [WT.word x], [], p.depth⟩ rfl
   have hlen : (U ++ [WT.word x]).length + 1 = p.todo.length := by rw [hT]; simp
   obtain ⟨m, hr⟩ := rd_end (l := l) (all := all) hil he (s.path, s.ser) _ U x [] p.depth b st h1 (by show s.ser + _ ≤ _; omega) (by show _ < s.path.length; rw [fins_w] at hfT; omega)
   refine ⟨m, badR 121 s, hr, ?_⟩
   unfold endProg
   rw [if_neg (by rintro ⟨h, -⟩; exact absurd h (bad_ne (by decide))), rdRun, if_neg (by rw [hT]; simp)]
 ·have hlt : s.i < l.length := by omega
  obtain ⟨t, ht⟩ : ∃ t, l[s.i]? = some t := ⟨_, List.getElem?_eq_getElem hlt⟩
  have hdr : l.drop s.i = t :: l.drop (s.i + 1) := by
   rw [List.drop_eq_getElem_cons hlt]
   have := (List.getElem?_eq_some_iff.1 ht).2
   rw [this]
  have hnt : isNote t = false := hnote t (List.mem_of_getElem? ht)
  rw [hdr]
  have hpre : preD p = p.depth := by unfold preD; rw [if_pos hb]
  have hput : put p t = if (token t p.todo p.depth).1 ≠ 0 then ([], (token t p.todo p.depth).1, { p with todo := (token t p.todo p.depth).2.todo, wrong := (token t p.todo p.depth).1 }) else (preE p ++ (token t p.todo p.depth).2.evs.map evOf ++ [leafE t], 0, { p with todo := (token t p.todo p.depth).2.todo, depth := (token t p.todo p.depth).2.depth, begun := true }) := by
   unfold put
   simp only [hP.closed, Bool.false_eq_true, if_false, hP.wrong, ne_eq, not_true_eq_false, hnt, hpre]
  rcases hLW with rfl | ⟨U, x, rfl⟩
  ·have htk : (token t p.todo p.depth).1 = 120 := by
    rw [hT]
    rfl
   refine ⟨1, s, ?_, ?_⟩
   ·rw [rrun_succ, if_neg (by rw [he]; decide), if_pos (by unfold fitR; omega)]
   ·unfold endProg
    rw [if_pos ⟨he, hlt⟩, rdRun, if_pos (by rw [htk]; decide), htk]
  ·have hT2 : p.todo = U ++ [.word x, .fin 1] := by rw [hT, List.append_assoc]; rfl
   obtain ⟨⟨b, st⟩, -, -, -, h1, -⟩ := turns_some (codeOf t) p.todo.length ⟨p.todo, [], p.depth⟩ rfl
   have htok : token t p.todo p.depth = match (b, st) with
    | (false, s) => (120, s)
    | (true, s) => if s.todo = [] then (120, s) else if 1000 < s.depth then (122, s) else (0, s) := by
    unfold token
    rw [h1]
    cases b <;> rfl
   have hrw := rd_word (l := l) (all := all) ht he (s.path, s.ser) (p.todo.length + 7) U x [] p.depth b st (by rw [← hT2]; exact h1) (by show s.ser + _ ≤ _; omega) (by show _ < s.path.length; rw [fins_w] at hfT; omega) (by show p.depth = s.path.length; omega)
   have hs0 : setQ s (pathR (s.path, s.ser) []) = s := rfl
   rw [hs0] at hrw
   rcases hrw with ⟨rfl, m, hr⟩ | ⟨rfl, T', g1, g2, g3, g4, g5, g6⟩
   ·refine ⟨m, _, hr, ?_⟩
    unfold endProg
    rw [if_neg (by rintro ⟨h, -⟩; exact absurd h (bad_ne (by decide))), rdRun, if_pos (by rw [htok]; exact (by decide : (120 : Int) ≠ 0)), htok]
   ·have hne : ¬ st.todo = [] := by rw [g1]; simp
    have hq : setQ s (pathR (s.path, s.ser) st.evs) = { s with path := (pathR (s.path, s.ser) st.evs).1, ser := (pathR (s.path, s.ser) st.evs).2 } := rfl
    have hfit : fitR (setQ s (pathR (s.path, s.ser) st.evs)) := by
     have h5 : (pathR (s.path, s.ser) st.evs).2 ≤ s.ser + (p.todo.length + 7) := g5
     exact ⟨show (pathR (s.path, s.ser) st.evs).2 ≤ _ by omega, show 0 < (pathR (s.path, s.ser) st.evs).1.length by omega⟩
    have hcd : cdR l (setQ s (pathR (s.path, s.ser) st.evs)) (codeOf t) = true := by
     unfold cdR
     rw [show (setQ s (pathR (s.path, s.ser) st.evs)).i = s.i from rfl, ht, show (setQ s (pathR (s.path, s.ser) st.evs)).e = 0 from he]
     simp
    have hstep : ∀ m r, rrun l all m T' (tkR l all true (setQ s (pathR (s.path, s.ser) st.evs))) = some r → ∃ m', rrun l all m' (U ++ [.word x]) s = some r := fun m r hr => g6 (m + 1) r (by
     rw [rrun_succ, if_neg (by rw [show (setQ s (pathR (s.path, s.ser) st.evs)).e = 0 from he]; decide), if_pos hfit]
     dsimp only
     rw [hcd]
     exact hr)
    by_cases hdp : 1000 < st.depth
    ·have htk : (token t p.todo p.depth).1 = 122 := by rw [htok]; simp only; rw [if_neg hne, if_pos hdp]
     have htr : tkR l all true (setQ s (pathR (s.path, s.ser) st.evs)) = badR 122 s := by
      unfold tkR
      rw [if_pos rfl, if_pos (show 1000 < (setQ s (pathR (s.path, s.ser) st.evs)).path.length from (by omega : 1000 < (pathR (s.path, s.ser) st.evs).1.length))]
      rfl
     obtain ⟨m', hm⟩ := hstep 1 (badR 122 s) (by rw [htr]; exact rrun_wrong (bad_ne (by decide)))
     refine ⟨m', _, hm, ?_⟩
     unfold endProg
     rw [if_neg (by rintro ⟨h, -⟩; exact absurd h (bad_ne (by decide))), rdRun, if_pos (by rw [htk]; decide), htk]
    ·have htk : token t p.todo p.depth = (0, st) := by rw [htok]; simp only; rw [if_neg hne, if_neg hdp]
     have hput2 : (put p t).2 = (0, { p with todo := st.todo, depth := st.depth, begun := true }) := by rw [hput, htk]; rfl
     obtain ⟨op', hP', hb', -, -⟩ := put_nest hP t [] (by rw [hput2])
     have hpl2 := put_len p t
     rw [hput2] at hP' hb' hpl2
     dsimp only at hP' hb' hpl2
     have htr : tkR l all true (setQ s (pathR (s.path, s.ser) st.evs)) = tookR all l.length s st.evs := by
      unfold tkR
      rw [if_pos rfl, if_neg (show ¬ 1000 < (setQ s (pathR (s.path, s.ser) st.evs)).path.length from (by omega : ¬ 1000 < (pathR (s.path, s.ser) st.evs).1.length))]
      unfold tookR setQ
      rw [he]
     have hsr : (pathR (s.path, s.ser) st.evs).2 ≤ s.ser + 1000 := by
      obtain ⟨cl, op2, X, a1, a2, -, a4, a5, -⟩ := token_law t p.todo p.depth
      rw [htk] at a1 a2 a5
      dsimp only at a1 a2 a5
      rw [a1, pathR_evs]
      dsimp only
      obtain ⟨a6, a7⟩ := a5 rfl
      have h7 := congrArg List.length a6
      have h8 := hP'.fins
      rw [if_pos rfl] at h8
      dsimp only at h8
      rw [h8, List.length_append, List.length_reverse] at h7
      have h9 := hP'.most
      omega
     obtain ⟨n, r, hr, hS⟩ := ih (l.length - (s.i + 1)) (by omega) T' { p with todo := st.todo, depth := st.depth, begun := true } op' (tookR all l.length s st.evs) rfl (show s.i + 1 ≤ l.length by omega) rfl g1 g2 hP' rfl (by
       have h8 := hP'.depth
       dsimp only at h8
       show (pathR (s.path, s.ser) st.evs).1.length = op'.length
       omega) (by show (pathR (s.path, s.ser) st.evs).2 ≤ 4000 * (s.i + 1 + 1); omega) (by show st.todo.length ≤ 77 * (s.i + 1 + 1); omega)
     obtain ⟨m', hm⟩ := hstep n r (by rw [htr]; exact hr)
     refine ⟨m', r, hm, ?_⟩
     rw [hS, rdRun, if_neg (by rw [htk]; exact fun h => h rfl), htk]
     rw [show ({ p with todo := st.todo, depth := st.depth, begun := true } : Par) = { p with todo := st.todo, depth := st.depth } by cases p; dsimp only at hb; rw [hb]]
     rfl
def common : List (Nat × Nat) → List (Nat × Nat) → Nat
 | x :: a, y :: b => if x = y then common a b + 1 else 0
 | _, _ => 0
def betw (a b : List (Nat × Nat)) : List Ev := ((a.drop (common a b)).reverse.map fun x => evOf (3, x.1)) ++ (b.drop (common a b)).map fun x => evOf (1, x.1)
def par0 : Par := { newPar with depth := 1, begun := true }
def rs0 : RS := ⟨0, [(1, 1)], 1, [], [], 0⟩
def readR (all : Bool) (l : List Tk) : RS := rdRun all l.length par0 rs0 l
theorem common_app : ∀ (A B C : List (Nat × Nat)), common (A ++ B) (A ++ C) = A.length + common B C
 | [], B, C => by simp
 | x :: A, B, C => by
  rw [List.cons_append, List.cons_append, common, if_pos rfl, common_app A B C, List.length_cons]
  omega
theorem common_new {B : List (Nat × Nat)} {ser : Nat} (hB : ∀ x ∈ B, x.2 ≤ ser) (op : List Nat) : common B (numb ser op) = 0 := by
 cases B with
 | nil => rfl
 | cons x B =>
  cases op with
  | nil => rfl
  | cons k op =>
   rw [numb, common, if_neg]
   intro h
   have := hB x List.mem_cons_self
   rw [h] at this
   have h3 : ser + 1 ≤ ser := this
   omega
theorem betw_evs {path : List (Nat × Nat)} {ser : Nat} {cl op X : List Nat} (hs : ∀ x ∈ path, x.2 ≤ ser) (hk : path.map Prod.fst = (cl ++ X).reverse) :
  betw path (pathR (path, ser) (cl.map (fun k => (3, k)) ++ op.map (fun k => (1, k)))).1 = (cl.map (fun k => (3, k)) ++ op.map (fun k => (1, k))).map evOf := by
 rw [pathR_evs]
 dsimp only
 have hlen : path.length = cl.length + X.length := by
  have := congrArg List.length hk
  rw [List.length_map, List.length_reverse, List.length_append] at this
  exact this
 obtain ⟨A, B, hAB, hA⟩ : ∃ A B, path = A ++ B ∧ A.length = path.length - cl.length := ⟨path.take (path.length - cl.length), path.drop (path.length - cl.length), (List.take_append_drop _ _).symm, by rw [List.length_take]; omega⟩
 have hta : path.take (path.length - cl.length) = A := by
  rw [← hA, hAB]
  simp
 rw [hta]
 have hkB : B.map Prod.fst = cl.reverse := by
  rw [hAB, List.map_append, List.reverse_append] at hk
  refine (List.append_inj hk ?_).2
  rw [List.length_map, List.length_reverse, hA, hlen]
  omega
 have hc : common path (A ++ numb ser op) = A.length := by
  conv => lhs; rw [hAB]
  rw [common_app, common_new (fun x hx => hs x (by rw [hAB]; exact List.mem_append_right _ hx)), Nat.add_zero]
 unfold betw
 rw [hc]
 have hd1 : path.drop A.length = B := by rw [hAB]; simp
 rw [hd1, List.drop_left', List.map_append, List.map_map, List.map_map]
 ·congr 1
  ·rw [show (fun x : Nat × Nat => evOf (3, x.1)) = (evOf ∘ fun k => (3, k)) ∘ Prod.fst from rfl, ← List.map_map, List.map_reverse, hkB, List.reverse_reverse]
  ·rw [show (fun x : Nat × Nat => evOf (1, x.1)) = (evOf ∘ fun k => (1, k)) ∘ Prod.fst from rfl, ← List.map_map, numb_fst]
 ·rfl
theorem path_next {path : List (Nat × Nat)} {ser : Nat} {cl op X : List Nat} (hs : ∀ x ∈ path, x.2 ≤ ser) (hk : path.map Prod.fst = (cl ++ X).reverse) :
  (∀ x ∈ (pathR (path, ser) (cl.map (fun k => (3, k)) ++ op.map (fun k => (1, k)))).1, x.2 ≤ (pathR (path, ser) (cl.map (fun k => (3, k)) ++ op.map (fun k => (1, k)))).2) ∧ (pathR (path, ser) (cl.map (fun k => (3, k)) ++ op.map (fun k => (1, k)))).1.map Prod.fst = (op.reverse ++ X).reverse := by
 rw [pathR_evs]
 dsimp only
 have hlen : path.length = cl.length + X.length := by
  have := congrArg List.length hk
  rw [List.length_map, List.length_reverse, List.length_append] at this
  exact this
 refine ⟨fun x hx => ?_, ?_⟩
 ·rcases List.mem_append.1 hx with h | h
  ·have := hs x (List.mem_of_mem_take h); omega
  ·exact (numb_snd ser op x h).2
 ·rw [List.map_append, numb_fst, List.map_take, hk, List.reverse_append, List.reverse_append, List.reverse_reverse]
  congr 1
  rw [hlen]
  exact List.take_left' (by simp)
theorem read_run (all : Bool) (l : List Tk) (hl : l.length ≤ 4194304) (hnote : ∀ t ∈ l, isNote t = false) : ∃ n r, rrun l all n [.word ⟨#[112, 114, 111, 103, 114, 97, 109]⟩, .word ⟨#[64, 110, 97, 109, 101]⟩, .word ⟨#[59]⟩, .rule .r_block, .word ⟨#[46]⟩] (opR 1 ⟨0, [], 0, [], [], 0⟩) = some r ∧ endProg l r = readR all l := by
 have hI : PInv par0 [1] := ⟨rfl, rfl, rfl, fun h => (by cases h), fun _ => ⟨[], rfl⟩, rfl, by decide, newPar_inv.lastf, fun h => (by cases h)⟩
 obtain ⟨n, r, h1, h2⟩ := rd_all l all hl hnote l.length [.word ⟨#[112, 114, 111, 103, 114, 97, 109]⟩, .word ⟨#[64, 110, 97, 109, 101]⟩, .word ⟨#[59]⟩, .rule .r_block, .word ⟨#[46]⟩] par0 [1] rs0 (by simp [rs0]) (Nat.zero_le _) rfl rfl (.inr ⟨[.word ⟨#[112, 114, 111, 103, 114, 97, 109]⟩, .word ⟨#[64, 110, 97, 109, 101]⟩, .word ⟨#[59]⟩, .rule .r_block], _, rfl⟩) hI rfl rfl (by decide) (by decide)
 exact ⟨n, r, h1, h2⟩
open Go
section
variable {P : Program} {ops : Array Oper} {Q : Exit → Act → World → Prop} {md : Region.Mode} {S : World → Prop} {early : Nat → Bool}
def anyP (P : Program) (md : Region.Mode) (ops : Array Oper) (Q : Exit → Act → World → Prop) (S : World → Prop) (early : Nat → Bool) : Nat → Array Bool → Act → World → Prop
 | 0, listed, a, w => Region.ready md ops listed = [] ∧ Q .normal a w
 | fuel + 1, listed, a, w =>
  (Region.ready md ops listed = [] → Q .normal a w) ∧
  ∀ i ∈ Region.ready md ops listed, wpOp P ops Q i (fun a' w' => (early i = true → S w') ∧ anyP P md ops Q S early fuel (listed.setIfInBounds i true) a' w') a w
theorem any_of_P : ∀ (fuel : Nat) (listed : Array Bool) (a : Act) (w : World), anyP P md ops Q S early fuel listed a w → wpAny P md ops Q fuel listed a w
 | 0, _, _, _, h => h
 | fuel + 1, _, _, _, h => ⟨h.1, fun i hi => wpOp_mono (fun a' w' h' => any_of_P fuel _ a' w' h'.2) (h.2 i hi)⟩
theorem hnot_of {i j : Nat} {listed : Array Bool} {oj : Oper} (hr : i ∈ Region.ready md ops listed) (hall : ∀ e ∈ oj.after, Region.binds md e = true → listed.getD e.on false = true) : ∀ e ∈ oj.after, Region.binds md e = true → e.on ≠ i := fun e he hb heq => by
 have h1 := hall e he hb
 have h0 := (mem_ready.1 hr).1
 rw [heq] at h1
 rcases Nat.lt_or_ge i listed.size with h' | h'
 ·simp [h'] at h0 h1; rw [h0] at h1; cases h1
 ·simp [Array.getElem?_eq_none h'] at h1
theorem anyP_first0 {i : Nat} {oi : Oper} {v : Value} (hi : ops[i]? = some oi) (hsel : ∀ (j : Nat) (o : Oper) cs b, ops[j]? = some o → o.op ≠ .select cs b)
  (hQ : ∀ c a w, Q (.panic c) (a.put oi.dst v) w → Q (.panic c) a w) (he : early i = false) :
  ∀ (fuel : Nat) (listed : Array Bool) (a : Act) (w : World),
   (∀ j oj, ops[j]? = some oj → j ≠ i → listed.getD j true = false → (∀ e ∈ oj.after, Region.binds md e = true → e.on ≠ i) → oi.apart ops oj = true) →
   i ∈ Region.ready md ops listed → Yields P ops oi v a →
   anyP P md ops Q S early fuel (listed.setIfInBounds i true) (a.put oi.dst v) w → anyP P md ops Q S early (fuel + 1) listed a w := by
 intro fuel
 induction fuel with
 | zero =>
  intro listed a w _ hr hy H
  refine ⟨fun h => (by rw [h] at hr; cases hr), fun j hj => ?_⟩
  by_cases hji : j = i
  ·subst hji; exact hy.wpOp hi ⟨(fun h => by rw [he] at h; cases h), H⟩
  ·have := ready_mono hj hji
   rw [H.1] at this
   cases this
 | succ fuel ih =>
  intro listed a w hfree hr hy H
  refine ⟨fun h => (by rw [h] at hr; cases hr), fun j hj => ?_⟩
  by_cases hji : j = i
  ·subst hji; exact hy.wpOp hi ⟨(fun h => by rw [he] at h; cases h), H⟩
  ·have h1 := H.2 j (ready_mono hj hji)
   obtain ⟨hjun, oj, hoj, hall⟩ := mem_ready.1 hj
   have hnot := hnot_of (j := j) hr hall
   have h2 := wpOp_put hoj (hfree j oj hoj hji hjun hnot) (fun cs b => hsel i oi cs b hi) (fun cs b => hsel j oj cs b hoj) hQ hy h1
   have hfree' : ∀ k ok, ops[k]? = some ok → k ≠ i → (listed.setIfInBounds j true).getD k true = false →
     (∀ e ∈ ok.after, Region.binds md e = true → e.on ≠ i) → oi.apart ops ok = true := fun k ok hk hki hun hno => by
    refine hfree k ok hk hki ?_ hno
    by_cases hjk : j = k
    ·subst hjk; exact hjun
    ·rw [getD_set_ne true hjk] at hun; exact hun
   refine wpOp_mono (fun a' w' h3 => ⟨h3.2.1, ih (listed.setIfInBounds j true) a' w' hfree' (ready_mono hr (Ne.symm hji)) h3.1 ?_⟩) h2
   rw [Array.setIfInBounds_comm _ _ hji]
   exact h3.2.2
theorem anyP_firstS {i : Nat} {oi : Oper} {v : Value} (hi : ops[i]? = some oi) (hsel : ∀ (j : Nat) (o : Oper) cs b, ops[j]? = some o → o.op ≠ .select cs b)
  (hQ : ∀ c a w, Q (.panic c) (a.put oi.dst v) w → Q (.panic c) a w) :
  ∀ (fuel : Nat) (listed : Array Bool) (a : Act) (w : World),
   (∀ j oj, ops[j]? = some oj → j ≠ i → listed.getD j true = false → (∀ e ∈ oj.after, Region.binds md e = true → e.on ≠ i) → oi.apart ops oj = true ∧ early j = true) →
   i ∈ Region.ready md ops listed → YieldsIf P ops S oi v a → S w →
   anyP P md ops Q S early fuel (listed.setIfInBounds i true) (a.put oi.dst v) w → anyP P md ops Q S early (fuel + 1) listed a w := by
 intro fuel
 induction fuel with
 | zero =>
  intro listed a w _ hr hy hS H
  refine ⟨fun h => (by rw [h] at hr; cases hr), fun j hj => ?_⟩
  by_cases hji : j = i
  ·subst hji; exact hy.wpOp hi hS ⟨fun _ => hS, H⟩
  ·have := ready_mono hj hji
   rw [H.1] at this
   cases this
 | succ fuel ih =>
  intro listed a w hfree hr hy hS H
  refine ⟨fun h => (by rw [h] at hr; cases hr), fun j hj => ?_⟩
  by_cases hji : j = i
  ·subst hji; exact hy.wpOp hi hS ⟨fun _ => hS, H⟩
  ·have h1 := H.2 j (ready_mono hj hji)
   obtain ⟨hjun, oj, hoj, hall⟩ := mem_ready.1 hj
   have hnot := hnot_of (j := j) hr hall
   have hf := hfree j oj hoj hji hjun hnot
   have h2 := wpOp_putIf hoj hf.1 (fun cs b => hsel i oi cs b hi) (fun cs b => hsel j oj cs b hoj) hQ hy h1
   have hfree' : ∀ k ok, ops[k]? = some ok → k ≠ i → (listed.setIfInBounds j true).getD k true = false →
     (∀ e ∈ ok.after, Region.binds md e = true → e.on ≠ i) → oi.apart ops ok = true ∧ early k = true := fun k ok hk hki hun hno => by
    refine hfree k ok hk hki ?_ hno
    by_cases hjk : j = k
    ·subst hjk; exact hjun
    ·rw [getD_set_ne true hjk] at hun; exact hun
   refine wpOp_mono (fun a' w' h3 => ⟨h3.2.1, ih (listed.setIfInBounds j true) a' w' hfree' (ready_mono hr (Ne.symm hji)) h3.1 (h3.2.1 hf.2) ?_⟩) h2
   rw [Array.setIfInBounds_comm _ _ hji]
   exact h3.2.2
def allEarly (md : Region.Mode) (ops : Array Oper) (early : Nat → Bool) (listed : Array Bool) (i : Nat) : Bool :=
 (List.range ops.size).all fun j => j == i || listed.getD j true || early j || match ops[j]? with
  | some oj => oj.after.any (fun e => Region.binds md e && e.on == i)
  | none => true
theorem allEarly_spec {i : Nat} {listed : Array Bool} (h : allEarly md ops early listed i = true) (j : Nat) (oj : Oper)
  (hj : ops[j]? = some oj) (hne : j ≠ i) (hun : listed.getD j true = false) (hno : ∀ e ∈ oj.after, Region.binds md e = true → e.on ≠ i) : early j = true := by
 simp only [allEarly, List.all_eq_true, List.mem_range] at h
 have h1 := h j (Array.getElem?_eq_some_iff.1 hj).1
 simp only [hj, Bool.or_eq_true, beq_iff_eq, hne, false_or, hun, Bool.false_eq_true] at h1
 rcases h1 with h1 | h1
 ·exact h1
 ·obtain ⟨e, he, hb⟩ := Array.any_eq_true'.1 h1
  simp only [Bool.and_eq_true, beq_iff_eq] at hb
  exact absurd hb.2 (hno e he hb.1)
structure AnyP (P : Program) (md : Region.Mode) (ops : Array Oper) (Q : Exit → Act → World → Prop) (S : World → Prop) (early : Nat → Bool) (fuel : Nat) (listed : Array Bool) (a : Act) (w : World) : Prop where
 out : anyP P md ops Q S early fuel listed a w
theorem anyP_take0 {i : Nat} {oi : Oper} {v : Value} {fuel : Nat} {listed : Array Bool} {a : Act} {w : World} (hi : ops[i]? = some oi)
  (hs : (Region.noSelect ops && Region.free md ops listed i && (Region.ready md ops listed).contains i && !early i) = true)
  (hQ : ∀ c a w, Q (.panic c) (a.put oi.dst v) w → Q (.panic c) a w) (hy : Yields P ops oi v a)
  (h : AnyP P md ops Q S early fuel (listed.setIfInBounds i true) (a.put oi.dst v) w) : AnyP P md ops Q S early (fuel + 1) listed a w := by
 simp only [Bool.and_eq_true, Bool.not_eq_true'] at hs
 exact ⟨anyP_first0 hi (Region.noSelect_spec hs.1.1.1) hQ hs.2 fuel listed a w (Region.free_spec hi hs.1.1.2) (by simpa using hs.1.2) hy h.out⟩
theorem anyP_take {i : Nat} {oi : Oper} {v : Value} {fuel : Nat} {listed : Array Bool} {a : Act} {w : World} (hi : ops[i]? = some oi)
  (hs : (Region.noSelect ops && Region.free md ops listed i && (Region.ready md ops listed).contains i && allEarly md ops early listed i) = true)
  (hQ : ∀ c a w, Q (.panic c) (a.put oi.dst v) w → Q (.panic c) a w) (hy : YieldsIf P ops S oi v a) (hS : S w)
  (h : AnyP P md ops Q S early fuel (listed.setIfInBounds i true) (a.put oi.dst v) w) : AnyP P md ops Q S early (fuel + 1) listed a w := by
 simp only [Bool.and_eq_true] at hs
 exact ⟨anyP_firstS hi (Region.noSelect_spec hs.1.1.1) hQ fuel listed a w (fun j oj hj hne hun hno => ⟨Region.free_spec hi hs.1.1.2 j oj hj hne hun hno, allEarly_spec hs.2 j oj hj hne hun hno⟩) (by simpa using hs.1.2) hy hS h.out⟩
def ReadyP (P : Program) (md : Region.Mode) (ops : Array Oper) (Q : Exit → Act → World → Prop) (S : World → Prop) (early : Nat → Bool) (fuel : Nat) (listed : Array Bool) (a : Act) (w : World) (rs : List Nat) : Prop :=
 ∀ i ∈ rs, wpOp P ops Q i (fun a' w' => (early i = true → S w') ∧ AnyP P md ops Q S early fuel (listed.setIfInBounds i true) a' w') a w
theorem ReadyP.nil {fuel : Nat} {listed : Array Bool} {a : Act} {w : World} : ReadyP P md ops Q S early fuel listed a w [] := fun _ h => by cases h
theorem ReadyP.cons {fuel : Nat} {listed : Array Bool} {a : Act} {w : World} {i : Nat} {o : Oper} {rs : List Nat} (ho : ops[i]? = some o)
  (h : ∀ K' : Act → World → Prop, Shut (∀ a w, (early i = true → S w) → AnyP P md ops Q S early fuel (listed.setIfInBounds i true) a w → K' a w) → if Region.wanted o (yielded ops a.tmps) = true then Oper.wp P o a w K' Q else K' (a.put o.dst undef) w)
  (hs : ReadyP P md ops Q S early fuel listed a w rs) : ReadyP P md ops Q S early fuel listed a w (i :: rs) := fun j hj => by
 rcases List.mem_cons.1 hj with rfl | hj
 ·exact wpOp_step ho (fun K' hK => h K' (fun a w hS hW => hK a w ⟨hS, hW⟩))
 ·exact hs j hj
theorem anyP_ready {rs : List Nat} {fuel : Nat} {listed : Array Bool} {a : Act} {w : World} (hr : Region.ready md ops listed = rs) (hne : rs ≠ [])
  (h : ReadyP P md ops Q S early fuel listed a w rs) : AnyP P md ops Q S early (fuel + 1) listed a w :=
 ⟨fun h0 => absurd (hr ▸ h0) hne, hr ▸ fun i hi => wpOp_mono (fun a' w' h' => ⟨h'.1, h'.2.out⟩) (h i hi)⟩
theorem anyP_done {listed : Array Bool} {a : Act} {w : World} (hr : Region.ready md ops listed = []) (h : Q .normal a w) : ∀ fuel, AnyP P md ops Q S early fuel listed a w
 | 0 => ⟨⟨hr, h⟩⟩
 | _ + 1 => ⟨⟨fun _ => h, by rw [hr]; simp⟩⟩
theorem wp_region_P (S : World → Prop) (early : Nat → Bool) {id : Nat} {a : Act} {w : World} (hm : P.follows .mixedOrders = true)
  (h : AnyP P .any ops Q S early ops.size (Array.replicate ops.size false) a w.drew) : (Code.region id ops true).wp P Q a w :=
 wp_region_any hm (any_of_P _ _ _ _ h.out)
end
section
variable {P : Program} {ops : Array Oper} {Q : Exit → Act → World → Prop} {md : Region.Mode} {S : World → Prop} {early : Nat → Bool}
def opP (P : Program) (ops : Array Oper) (Q : Exit → Act → World → Prop) (i : Nat) (K : Act → World → Prop) (a : Act) (w : World) : Prop :=
 match ops[i]? with
 | none => K a w
 | some o => if Region.wanted o (yielded ops a.tmps) then o.wp P a w K Q else K (a.put o.dst undef) w
theorem opP_mono {i : Nat} {a : Act} {w : World} {K K' : Act → World → Prop} (h : ∀ a w, K a w → K' a w) (hh : opP P ops Q i K a w) : opP P ops Q i K' a w := by
 unfold opP at *
 split
 ·exact h _ _ (by simpa [*] using hh)
 ·rename_i o ho
  simp only [ho] at hh
  split
  ·rename_i hw; rw [if_pos hw] at hh; exact Oper.wp_mono h hh
  ·rename_i hw; rw [if_neg hw] at hh; exact h _ _ hh
theorem opP_wpOp {i : Nat} {K : Act → World → Prop} {a : Act} {w : World} (h : opP P ops Q i K a w) : wpOp P ops Q i K a w := by
 unfold opP at h
 unfold wpOp
 split
 ·simpa [*] using h
 ·rename_i o ho
  simp only [ho] at h
  split
  ·rename_i hw; rw [if_pos hw] at h; exact .inl h
  ·rename_i hw; rw [if_neg hw] at h; exact h
theorem yields_opP {i : Nat} {o : Oper} {v : Value} {a : Act} (hi : ops[i]? = some o) (hy : YieldsIf P ops S o v a) {K : Act → World → Prop} {w : World} (hS : S w) (h : K (a.put o.dst v) w) : opP P ops Q i K a w := by
 unfold opP
 simp only [hi]
 rcases hy with ⟨hw, hv⟩ | ⟨hw, rfl⟩
 ·simp only [hw, if_true, Oper.wp, hv w hS, Oper.upon]; exact h
 ·simp only [hw, Bool.false_eq_true, if_false]; exact h
theorem opP_put {j : Nat} {oi oj : Oper} {v : Value} (hj : ops[j]? = some oj) (hap : oi.apart ops oj = true)
  (hsi : ∀ cs b, oi.op ≠ .select cs b) (hsj : ∀ cs b, oj.op ≠ .select cs b)
  (hQ : ∀ c a w, Q (.panic c) (a.put oi.dst v) w → Q (.panic c) a w) {K : Act → World → Prop} {a : Act} {w : World}
  (hy : YieldsIf P ops S oi v a) (h : opP P ops Q j K (a.put oi.dst v) w) :
  opP P ops Q j (fun a' w' => YieldsIf P ops S oi v a' ∧ K (a'.put oi.dst v) w') a w := by
 obtain ⟨h1, h2, h3⟩ := Oper.apart_spec hap
 have keep : ∀ (a : Act), YieldsIf P ops S oi v a → ∀ u, YieldsIf P ops S oi v (a.put oj.dst u) := fun a hy u =>
  hy.of_same (execOp_put oi hsi a oj.dst u h3) (wanted_put oi a oj.dst u h3)
 have keepD : ∀ d, YieldsIf P ops S oi v { a with defers := d :: a.defers } := fun d => hy.of_same rfl rfl
 unfold opP at *
 simp only [hj] at *
 rw [wanted_put oj a oi.dst v h1] at h
 split
 ·rename_i hw
  simp only [hw, if_true] at h
  unfold Oper.wp at *
  rw [execOp_put oj hsj a oi.dst v h1] at h
  generalize (execOp a.eval oj).run P w = r at *
  cases r with
  | ok n w' =>
   cases n <;> simp only [Oper.upon] at h ⊢
   case value u => exact ⟨keep a hy u, by rw [← Act.put_comm a v u h2]; exact h⟩
   case skip => exact ⟨keep a hy _, by rw [← Act.put_comm a v undef h2]; exact h⟩
   case defer d =>
    refine ⟨keep _ (keepD d) _, ?_⟩
    rw [← Act.put_comm _ v undef h2, ← Act.put_defers]
    exact h
   case enter f args =>
    refine cM h fun e w'' he => ?_
    cases e with
    | returned u => exact ⟨keep a hy u, by rw [← Act.put_comm a v u h2]; exact he⟩
    | panicked c => exact hQ _ _ _ he
    | outgrown => exact he
   case row row args => exact Rows.mono h fun u w'' he => ⟨keep a hy u, by rw [← Act.put_comm a v u h2]; exact he⟩
  | halt x w' =>
   cases x <;> simp only [Oper.upon] at h ⊢
   case panic u => exact hQ _ _ _ h
 ·rename_i hw
  simp only [hw] at h
  exact ⟨keep a hy _, by rw [← Act.put_comm a v undef h2]; exact h⟩
def anyR (P : Program) (md : Region.Mode) (ops : Array Oper) (Q : Exit → Act → World → Prop) (S : World → Prop) (early : Nat → Bool) : Nat → Array Bool → Act → World → Prop
 | 0, listed, a, w => Region.ready md ops listed = [] ∧ Q .normal a w
 | fuel + 1, listed, a, w =>
  (Region.ready md ops listed = [] → Q .normal a w) ∧
  ∀ i ∈ Region.ready md ops listed, opP P ops Q i (fun a' w' => (early i = true → S w') ∧ anyR P md ops Q S early fuel (listed.setIfInBounds i true) a' w') a w
theorem any_of_R : ∀ (fuel : Nat) (listed : Array Bool) (a : Act) (w : World), anyR P md ops Q S early fuel listed a w → wpAny P md ops Q fuel listed a w
 | 0, _, _, _, h => h
 | fuel + 1, _, _, _, h => ⟨h.1, fun i hi => opP_wpOp (opP_mono (fun a' w' h' => any_of_R fuel _ a' w' h'.2) (h.2 i hi))⟩
theorem anyR_firstS {i : Nat} {oi : Oper} {v : Value} (hi : ops[i]? = some oi) (hsel : ∀ (j : Nat) (o : Oper) cs b, ops[j]? = some o → o.op ≠ .select cs b)
  (hQ : ∀ c a w, Q (.panic c) (a.put oi.dst v) w → Q (.panic c) a w) :
  ∀ (fuel : Nat) (listed : Array Bool) (a : Act) (w : World),
   (∀ j oj, ops[j]? = some oj → j ≠ i → listed.getD j true = false → (∀ e ∈ oj.after, Region.binds md e = true → e.on ≠ i) → oi.apart ops oj = true ∧ early j = true) →
   i ∈ Region.ready md ops listed → YieldsIf P ops S oi v a → S w →
   anyR P md ops Q S early fuel (listed.setIfInBounds i true) (a.put oi.dst v) w → anyR P md ops Q S early (fuel + 1) listed a w := by
 intro fuel
 induction fuel with
 | zero =>
  intro listed a w _ hr hy hS H
  refine ⟨fun h => (by rw [h] at hr; cases hr), fun j hj => ?_⟩
  by_cases hji : j = i
  ·subst hji; exact yields_opP hi hy hS ⟨fun _ => hS, H⟩
  ·have := ready_mono hj hji
   rw [H.1] at this
   cases this
 | succ fuel ih =>
  intro listed a w hfree hr hy hS H
  refine ⟨fun h => (by rw [h] at hr; cases hr), fun j hj => ?_⟩
  by_cases hji : j = i
  ·subst hji; exact yields_opP hi hy hS ⟨fun _ => hS, H⟩
  ·have h1 := H.2 j (ready_mono hj hji)
   obtain ⟨hjun, oj, hoj, hall⟩ := mem_ready.1 hj
   have hnot := hnot_of (j := j) hr hall
   have hf := hfree j oj hoj hji hjun hnot
   have h2 := opP_put hoj hf.1 (fun cs b => hsel i oi cs b hi) (fun cs b => hsel j oj cs b hoj) hQ hy h1
   have hfree' : ∀ k ok, ops[k]? = some ok → k ≠ i → (listed.setIfInBounds j true).getD k true = false →
     (∀ e ∈ ok.after, Region.binds md e = true → e.on ≠ i) → oi.apart ops ok = true ∧ early k = true := fun k ok hk hki hun hno => by
    refine hfree k ok hk hki ?_ hno
    by_cases hjk : j = k
    ·subst hjk; exact hjun
    ·rw [getD_set_ne true hjk] at hun; exact hun
   refine opP_mono (fun a' w' h3 => ⟨h3.2.1, ih (listed.setIfInBounds j true) a' w' hfree' (ready_mono hr (Ne.symm hji)) h3.1 (h3.2.1 hf.2) ?_⟩) h2
   rw [Array.setIfInBounds_comm _ _ hji]
   exact h3.2.2
structure AnyR (P : Program) (md : Region.Mode) (ops : Array Oper) (Q : Exit → Act → World → Prop) (S : World → Prop) (early : Nat → Bool) (fuel : Nat) (listed : Array Bool) (a : Act) (w : World) : Prop where
 out : anyR P md ops Q S early fuel listed a w
theorem anyR_take {i : Nat} {oi : Oper} {v : Value} {fuel : Nat} {listed : Array Bool} {a : Act} {w : World} (hi : ops[i]? = some oi)
  (hs : (Region.noSelect ops && Region.free md ops listed i && (Region.ready md ops listed).contains i && allEarly md ops early listed i) = true)
  (hQ : ∀ c a w, Q (.panic c) (a.put oi.dst v) w → Q (.panic c) a w) (hy : YieldsIf P ops S oi v a) (hS : S w)
  (h : AnyR P md ops Q S early fuel (listed.setIfInBounds i true) (a.put oi.dst v) w) : AnyR P md ops Q S early (fuel + 1) listed a w := by
 simp only [Bool.and_eq_true] at hs
 exact ⟨anyR_firstS hi (Region.noSelect_spec hs.1.1.1) hQ fuel listed a w (fun j oj hj hne hun hno => ⟨Region.free_spec hi hs.1.1.2 j oj hj hne hun hno, allEarly_spec hs.2 j oj hj hne hun hno⟩) (by simpa using hs.1.2) hy hS h.out⟩
def ReadyR (P : Program) (md : Region.Mode) (ops : Array Oper) (Q : Exit → Act → World → Prop) (S : World → Prop) (early : Nat → Bool) (fuel : Nat) (listed : Array Bool) (a : Act) (w : World) (rs : List Nat) : Prop :=
 ∀ i ∈ rs, opP P ops Q i (fun a' w' => (early i = true → S w') ∧ AnyR P md ops Q S early fuel (listed.setIfInBounds i true) a' w') a w
theorem ReadyR.nil {fuel : Nat} {listed : Array Bool} {a : Act} {w : World} : ReadyR P md ops Q S early fuel listed a w [] := fun _ h => by cases h
theorem ReadyR.cons {fuel : Nat} {listed : Array Bool} {a : Act} {w : World} {i : Nat} {o : Oper} {rs : List Nat} (ho : ops[i]? = some o)
  (h : ∀ K' : Act → World → Prop, Shut (∀ a w, (early i = true → S w) → AnyR P md ops Q S early fuel (listed.setIfInBounds i true) a w → K' a w) → if Region.wanted o (yielded ops a.tmps) = true then Oper.wp P o a w K' Q else K' (a.put o.dst undef) w)
  (hs : ReadyR P md ops Q S early fuel listed a w rs) : ReadyR P md ops Q S early fuel listed a w (i :: rs) := fun j hj => by
 rcases List.mem_cons.1 hj with rfl | hj
 ·have := h (fun a' w' => (early j = true → S w') ∧ AnyR P md ops Q S early fuel (listed.setIfInBounds j true) a' w') (fun a w hS hW => ⟨hS, hW⟩)
  unfold opP
  rw [ho]
  exact this
 ·exact hs j hj
theorem anyR_ready {rs : List Nat} {fuel : Nat} {listed : Array Bool} {a : Act} {w : World} (hr : Region.ready md ops listed = rs) (hne : rs ≠ [])
  (h : ReadyR P md ops Q S early fuel listed a w rs) : AnyR P md ops Q S early (fuel + 1) listed a w :=
 ⟨fun h0 => absurd (hr ▸ h0) hne, hr ▸ fun i hi => opP_mono (fun a' w' h' => ⟨h'.1, h'.2.out⟩) (h i hi)⟩
theorem anyR_done {listed : Array Bool} {a : Act} {w : World} (hr : Region.ready md ops listed = []) (h : Q .normal a w) : ∀ fuel, AnyR P md ops Q S early fuel listed a w
 | 0 => ⟨⟨hr, h⟩⟩
 | _ + 1 => ⟨⟨fun _ => h, by rw [hr]; simp⟩⟩
theorem wp_region_R (S : World → Prop) (early : Nat → Bool) {id : Nat} {a : Act} {w : World} (hm : P.follows .mixedOrders = true)
  (h : AnyR P .any ops Q S early ops.size (Array.replicate ops.size false) a w.drew) : (Code.region id ops true).wp P Q a w :=
 wp_region_any hm (any_of_R _ _ _ _ h.out)
end
def evCells (e : Ev) : List Value := [.int .u8 e.f0, .int .u8 e.f1, .int .u8 e.f2.f0, .string e.f2.f1, .int .i64 e.f2.f2.f0, .int .i64 e.f2.f2.f1, .int .i64 e.f2.f2.f2, .int .i64 e.f2.f3]
structure PStep (p : Nat) (vt ve : Value) (w : World) (vt' ve' : Value) (w' : World) : Prop where
 os : w'.os = w.os
 tape : w'.tape = w.tape
 output : w'.output = w.output
 size : w.heap.size ≤ w'.heap.size
 block : ∀ k, k < w.heap.size → k ≠ p → some k ≠ vt.ownBlock → some k ≠ ve.ownBlock → w'.heap[k]? = w.heap[k]?
 ft : ∀ g, vt'.ownBlock = some g → vt.ownBlock = some g ∨ w.heap.size ≤ g
 fe : ∀ g, ve'.ownBlock = some g → ve.ownBlock = some g ∨ w.heap.size ≤ g
theorem PStep.refl (p : Nat) (vt ve : Value) (w : World) : PStep p vt ve w vt ve w := ⟨rfl, rfl, rfl, Nat.le_refl _, fun _ _ _ _ _ => rfl, fun _ h => .inl h, fun _ h => .inl h⟩
theorem PStep.trans {p : Nat} {a b a' b' a2 b2 : Value} {w w' w2 : World} (h : PStep p a b w a' b' w') (h' : PStep p a' b' w' a2 b2 w2) : PStep p a b w a2 b2 w2 := by
 refine ⟨h'.os.trans h.os, h'.tape.trans h.tape, h'.output.trans h.output, Nat.le_trans h.size h'.size, fun k hk h0 h1 h2 => ?_, fun g hg => ?_, fun g hg => ?_⟩
 ·rw [h'.block k (Nat.lt_of_lt_of_le hk h.size) h0 (fun e => ?_) (fun e => ?_), h.block k hk h0 h1 h2]
  ·rcases h.ft k e.symm with h3 | h3
   ·exact h1 h3.symm
   ·omega
  ·rcases h.fe k e.symm with h3 | h3
   ·exact h2 h3.symm
   ·omega
 ·rcases h'.ft g hg with h3 | h3
  ·exact h.ft g h3
  ·exact .inr (Nat.le_trans h.size h3)
 ·rcases h'.fe g hg with h3 | h3
  ·exact h.fe g h3
  ·exact .inr (Nat.le_trans h.size h3)
theorem infoEv : (Tryz.prog.info? 48).map (fun i => (i.zero, i.size, i.bytes)) = some (some (.agg #[.int .u8 0, .int .u8 0, .int .u8 0, .string ⟨#[]⟩, .int .i64 0, .int .i64 0, .int .i64 0, .int .i64 0]), 8, 64) := by kernel_rfl
theorem evCells_one (e : Ev) : ∀ v ∈ evCells e, v.oneCell' = true := by
 intro v hv; simp only [evCells, List.mem_cons, List.not_mem_nil, or_false] at hv; rcases hv with rfl | rfl | rfl | rfl | rfl | rfl | rfl | rfl <;> rfl
theorem run_ev {W : World} (base : Nat) (ty : TypeId) {u : Value} {q : Nat} {kc cs : List Value} (HO : W.ownsRow base 48 8 u q kc) (hcs : cs.length = 8) (h1 : ∀ v ∈ cs, v.oneCell' = true) (hbase : base ≤ W.heap.size) (hl : (q + 1) * 64 ≤ 140737488355328) :
  ∃ g1 c1 w1, (Builtin.append_ #[41, 41] ty #[u, .slice (some ⟨W.heap.size, 0, none⟩) 1 1]).run Tryz.prog (W.alloc (.cells cs.toArray 48)) = .ok (.slice (some ⟨g1, 0, none⟩) (q + 1) c1) w1 ∧
   w1.ownsRow base 48 8 (.slice (some ⟨g1, 0, none⟩) (q + 1) c1) (q + 1) (kc ++ cs) ∧ W.grownBy w1 u.ownBlock ∧ (u.ownBlock = some g1 ∨ W.heap.size < g1) := by
 obtain ⟨i0, hi, hzz⟩ := Option.map_eq_some_iff.1 infoEv
 simp only [Prod.mk.injEq] at hzz
 obtain ⟨hz0, hz1, hz2⟩ := hzz
 obtain ⟨v1, w1, hr, ho, hg, _, hat⟩ := run_append_own_at (P := Tryz.prog) (W.alloc (.cells cs.toArray 48)) base 41 ty 48 i0 _ 8 64 Tryz.underlying41 hi hz0 hz1 hz2 rfl (by decide) u q kc (HO.alloc _) ⟨W.heap.size, 0, none⟩ 1 1 cs (by rw [hcs])
  (by simpa using World.news_of_block (cs := cs.toArray) (t := 48) (fr := (0, 0)) (heap_alloc_new W (.cells cs.toArray 48))) h1 (by simp only [maxLen]; omega) hl (by rw [World.size_alloc]; omega)
 have ho' := ho
 rcases ho.2 with ⟨_, hn⟩ | ⟨g1, c1, cur, rfl, _⟩
 ·omega
 ·refine ⟨g1, c1, w1, hr, ho', World.grownBy.trans (World.grownBy_alloc W _ _) hg, ?_⟩
  rcases hat with he | he
  ·exact .inl he.symm
  ·rw [World.size_alloc] at he
   have : g1 = W.heap.size + 1 := by simpa [Value.ownBlock] using he
   exact .inr (by omega)
theorem PStep.below {p : Nat} {vt ve : Value} {w w1 : World} (h : Below w.heap.size w w1) : PStep p vt ve w vt ve w1 := ⟨h.os, h.tape, h.output, h.size, fun k hk _ _ _ => h.block k hk, fun _ h => .inl h, fun _ h => .inl h⟩
section
variable {ops : Array Oper} {rest : List Oper} {o : Oper} {a : Act} {Q : Exit → Act → World → Prop} {W : World} {K : Act → World → Prop} {E : Prop}
theorem step_store {W : World} (hgd : o.guard = none) (hd : o.dst = none) (t : TypeId) (p x : Operand) (ho : o.op = .store t p x) {g off : Nat} {e : TypeId} {cur : Array Value} (u : Value) (seg : List Value) (haddr : a.eval p = .pointer (some ⟨g, off, none⟩)) (hx : a.eval x = u) (hu : u.cells.toList = seg)
  (ht : (Tryz.prog.info? t).map (·.size) = some seg.length) (h1 : ∀ v ∈ seg, v.oneCell' = true) (hh : W.heap[g]? = some (.cells cur e (0, 0))) (hfit : off + seg.length ≤ cur.size) (h : K a (W.setCells g off seg)) :
  if Region.wanted o (yielded ops a.tmps) = true then Oper.wp Tryz.prog o a W K Q else E := by
 have hw : Region.wanted o (yielded ops a.tmps) = true := by simp [Region.wanted, hgd]
 rw [if_pos hw]
 have hrun := run_store_run (P := Tryz.prog) t u seg hh hu ht hfit h1
 unfold Oper.wp execOp
 simp only [ho, haddr, hx, Sem.run_bind, Sem.run_pure, Result.andThen_ok, hrun]
 show K (a.put o.dst undef) _
 rw [hd]
 exact h
theorem step_ev {W : World} (hgd : o.guard = none) (s x : Operand) (ho : o.op = .call { callee := .builtin .append, args := #[s, x], argTypes := #[41, 41] }) (base : Nat) {u : Value} {q : Nat} {kc cs : List Value} (hs : a.eval s = u) (hx : a.eval x = .slice (some ⟨W.heap.size, 0, none⟩) 1 1)
  (HO : W.ownsRow base 48 8 u q kc) (hcs : cs.length = 8) (h1 : ∀ v ∈ cs, v.oneCell' = true) (hbase : base ≤ W.heap.size) (hl : (q + 1) * 64 ≤ 140737488355328)
  (h : ∀ g1 c1 w1, w1.ownsRow base 48 8 (.slice (some ⟨g1, 0, none⟩) (q + 1) c1) (q + 1) (kc ++ cs) → W.grownBy w1 u.ownBlock → (u.ownBlock = some g1 ∨ W.heap.size < g1) → K (a.put o.dst (.slice (some ⟨g1, 0, none⟩) (q + 1) c1)) w1) :
  if Region.wanted o (yielded ops a.tmps) = true then Oper.wp Tryz.prog o a (W.alloc (.cells cs.toArray 48)) K Q else E := by
 have hw : Region.wanted o (yielded ops a.tmps) = true := by simp [Region.wanted, hgd]
 rw [if_pos hw]
 obtain ⟨g1, c1, w1, hr, h1, h2, h3⟩ := run_ev base o.type HO hcs h1 hbase hl
 unfold Oper.wp execOp
 simp only [ho, resolve, invoke, builtin, Sem.run_bind, Sem.run_pure, Result.andThen_ok, List.map_toArray, List.map_cons, List.map_nil, hs, hx, hr]
 exact h g1 c1 w1 h1 h2 h3
theorem wl_cells  (hgd : o.guard = none) (hd : o.dst = none) (t : TypeId) (p x : Operand) (ho : o.op = .store t p x) {g off : Nat} {e : TypeId} {cur : Array Value} (u : Value) (seg : List Value)
  (haddr : a.eval p = .pointer (some ⟨g, off, none⟩)) (hx : a.eval x = u) (hu : u.cells.toList = seg) (ht : (Tryz.prog.info? t).map (·.size) = some seg.length) (h1 : ∀ v ∈ seg, v.oneCell' = true) (hh : W.heap[g]? = some (.cells cur e (0, 0))) (hfit : off + seg.length ≤ cur.size)
  (h : ∀ w5, w5 = W.setCells g off seg → wpList Tryz.prog ops Q rest a w5) : wpList Tryz.prog ops Q (o :: rest) a W := by
 refine wpList_plain hgd fun K hK => ?_
 have hrun := run_store_run (P := Tryz.prog) t u seg hh hu ht hfit h1
 unfold Oper.wp execOp
 simp only [ho, haddr, hx, Sem.run_bind, Sem.run_pure, Result.andThen_ok, hrun]
 show K (a.put o.dst undef) _
 rw [hd]
 exact hK _ _ (h _ rfl)
theorem wl_ev  (hgd : o.guard = none) (s x : Operand) (ho : o.op = .call { callee := .builtin .append, args := #[s, x], argTypes := #[41, 41] }) (base : Nat) {u : Value} {q : Nat} {kc cs : List Value} (hs : a.eval s = u) (hx : a.eval x = .slice (some ⟨W.heap.size, 0, none⟩) 1 1)
  (HO : W.ownsRow base 48 8 u q kc) (hcs : cs.length = 8) (h1 : ∀ v ∈ cs, v.oneCell' = true) (hbase : base ≤ W.heap.size) (hl : (q + 1) * 64 ≤ 140737488355328)
  (h : ∀ g1 c1 w1, w1.ownsRow base 48 8 (.slice (some ⟨g1, 0, none⟩) (q + 1) c1) (q + 1) (kc ++ cs) → W.grownBy w1 u.ownBlock → (u.ownBlock = some g1 ∨ W.heap.size < g1) → wpList Tryz.prog ops Q rest (a.put o.dst (.slice (some ⟨g1, 0, none⟩) (q + 1) c1)) w1) :
  wpList Tryz.prog ops Q (o :: rest) a (W.alloc (.cells cs.toArray 48)) := by
 refine wpList_plain hgd fun K hK => ?_
 obtain ⟨g1, c1, w1, hr, h1, h2, h3⟩ := run_ev base o.type HO hcs h1 hbase hl
 unfold Oper.wp execOp
 simp only [ho, resolve, invoke, builtin, Sem.run_bind, Sem.run_pure, Result.andThen_ok, List.map_toArray, List.map_cons, List.map_nil, hs, hx, hr]
 exact hK _ _ (h g1 c1 w1 h1 h2 h3)
end
theorem cells_ty {a b : Array Value} {T U : TypeId} {f g : Nat × Nat} (h : some (Obj.cells a T f) = some (Obj.cells b U g)) : T = U := by
 injection h with h
 injection h
def inL (c : ByteArray) (l : List ByteArray) : Bool := l.any (fun x => decide (x = c))
theorem reps_str (w : World) : ∀ l : List ByteArray, Reps (Kd.string.K w) 1 l (l.map Value.string)
 | [] => Reps.none _ _
 | x :: l => by
  have := Reps.one (show Kd.string.K w x [.string x] from rfl) (reps_str w l)
  simpa using this
theorem inL_iff (c : ByteArray) (l : List ByteArray) : inL c l = true ↔ c ∈ l := by
 unfold inL
 simp
theorem inL_no {c : ByteArray} {l : List ByteArray} (h : ¬ c ∈ l) : inL c l = false := by
 rw [Bool.eq_false_iff]
 exact fun e => h ((inL_iff c l).1 e)
theorem box_new {wr Wd : World} (hb : Below wr.heap.size wr Wd) (T : TypeId) (z cs : List Value) (hz : z.length = cs.length) : (∃ cur : Array Value, (Wd.alloc (.cells z.toArray T)).heap[Wd.heap.size]? = some (.cells cur T (0, 0)) ∧ 0 + cs.length ≤ cur.size) ∧ ∀ V, V = (Wd.alloc (.cells z.toArray T)).setCells Wd.heap.size 0 cs → Below wr.heap.size wr V ∧ V.heap[Wd.heap.size]? = some (.cells cs.toArray T (0, 0)) := by
 have hn := World.alloc_heap_new Wd (.cells z.toArray T)
 refine ⟨⟨_, hn, by simp [hz]⟩, ?_⟩
 rintro _ rfl
 obtain ⟨cur', k1, k2, k3⟩ := setCells_row cs 0 _ _ hn (by simp [hz])
 have hs := setCells_same Wd.heap.size cs 0 (Wd.alloc (.cells z.toArray T))
 have hb1 : Below wr.heap.size wr (Wd.alloc (.cells z.toArray T)) := hb.alloc hb.size _
 refine ⟨⟨hs.1.trans hb1.os, hs.2.1.trans hb1.tape, hs.2.2.1.trans hb1.output, by rw [hs.2.2.2]; exact hb1.size, fun q hq => (setCells_far cs 0 q (by have := hb.size; omega)).trans (hb1.block q hq)⟩, ?_⟩
 rw [k1]
 congr 2
 apply Array.toList_inj.1
 rw [k3, List.take_zero, List.nil_append, List.drop_of_length_le (by simp [hz]), List.append_nil]
theorem tok_cells {w : World} {A : Option Addr} {l : List Tk} (hC : Kd.C kTk w A l.length l) (i : Nat) (hi : i < l.length) : ∃ ad, A = some ad ∧ ∀ V, Below w.heap.size w V → V.cell? (ad.add (i * 6)) = some (.int .u8 (PSyntaxProgram.rd_T28 l i).f0) ∧ V.cell? ⟨(ad.add (i * 6)).block, (ad.add (i * 6)).off + 1, none⟩ = some (.string (PSyntaxProgram.rd_T28 l i).f1) ∧ V.cell? ⟨(ad.add (i * 6)).block, (ad.add (i * 6)).off + 2, none⟩ = some (.int .i64 (PSyntaxProgram.rd_T28 l i).f2.f0) ∧ V.cell? ⟨(ad.add (i * 6)).block, (ad.add (i * 6)).off + 3, none⟩ = some (.int .i64 (PSyntaxProgram.rd_T28 l i).f2.f1) ∧ V.cell? ⟨(ad.add (i * 6)).block, (ad.add (i * 6)).off + 4, none⟩ = some (.int .i64 (PSyntaxProgram.rd_T28 l i).f2.f2) ∧ V.cell? ⟨(ad.add (i * 6)).block, (ad.add (i * 6)).off + 5, none⟩ = some (.int .i64 (PSyntaxProgram.rd_T28 l i).f3) := by
 obtain ⟨ad, h1, h2, h3, h4, h5, h6, h7⟩ := PSyntaxProgram.at_T28 hC (i : Int) (by omega) (by omega)
 simp only [Int.toNat_natCast] at h2 h3 h4 h5 h6 h7
 exact ⟨ad, h1, fun V hV => ⟨pw_cell_below hV h2, pw_cell_below hV h3, pw_cell_below hV h4, pw_cell_below hV h5, pw_cell_below hV h6, pw_cell_below hV h7⟩⟩
theorem row_slice {w : World} {base : Nat} {e : TypeId} {size n : Nat} {v : Value} {xs : List Value} (h : w.ownsRow base e size v n xs) : ∃ A c, v = .slice A n c ∧ n ≤ c := by
 rcases h.2 with ⟨rfl, rfl⟩ | ⟨g, cap, cur, rfl, _, _, hl, _⟩
 ·exact ⟨none, 0, rfl, Nat.le_refl _⟩
 ·exact ⟨_, cap, rfl, hl⟩
theorem row_news {w : World} {base g n cap size : Nat} {e : TypeId} {xs : List Value} (h : w.ownsRow base e size (.slice (some ⟨g, 0, none⟩) n cap) n xs) : ∀ j u, xs[j]? = some u → w.cell? ((⟨g, 0, none⟩ : Addr).add j) = some u := by
 intro j u hj
 rcases h.2 with ⟨he, _⟩ | ⟨g', cap', cur, he, hb, hh, hl, _, hs, ht⟩
 ·cases he
 ·injection he with he
  injection he with he
  injection he with he
  subst he
  have hjl := (List.getElem?_eq_some_iff.1 hj).1
  rw [h.1] at hjl
  have hadd : (⟨g, 0, none⟩ : Addr).add j = ⟨g, j, none⟩ := by unfold Addr.add; split <;> simp_all
  rw [hadd, cR _ hh]
  rw [← ht, List.getElem?_take_of_lt hjl, Array.getElem?_toList] at hj
  exact hj
def stCells (x : Nat × Nat) : List Value := [.int .u8 x.1, .int .i64 x.2]
theorem stCells_one (x : Nat × Nat) : ∀ v ∈ stCells x, v.oneCell' = true := by
 intro v hv; simp only [stCells, List.mem_cons, List.not_mem_nil, or_false] at hv; rcases hv with rfl | rfl <;> rfl
theorem st_len (q : List (Nat × Nat)) : (q.flatMap stCells).length = q.length * 2 := by
 induction q with
 | nil => rfl
 | cons a l ih => rw [List.flatMap_cons, List.length_append, ih, List.length_cons]; simp [stCells]; omega
theorem st_one (q : List (Nat × Nat)) : ∀ v ∈ q.flatMap stCells, v.oneCell' = true := by
 intro v hv
 obtain ⟨e, _, he⟩ := List.mem_flatMap.1 hv
 exact stCells_one e v he
abbrev stRow (w : World) (base : Nat) (v : Value) (q : List (Nat × Nat)) : Prop := w.ownsRow base 68 2 v q.length (q.flatMap stCells)
structure CopyAt (w : World) (base : Nat) (vp v : Value) (q : List (Nat × Nat)) : Prop where
 row : stRow w base v q
 far : ∀ g, v.ownBlock = some g → vp.ownBlock ≠ some g
structure PathsAt (w : World) (base : Nat) (vp vs : Value) (paths : List (List (Nat × Nat))) : Prop where
 out : ∃ sv : List Value, w.ownsRow base 63 1 vs paths.length sv ∧ ∀ (k : Nat) v q, sv[k]? = some v → paths[k]? = some q → CopyAt w base vp v q
structure RAt (W0 : World) (A : Option Addr) (c : Nat) (l : List Tk) (all : Bool) (w : World) (p : Nat) (i : Nat) (path : List (Nat × Nat)) (ser : Nat) (paths : List (List (Nat × Nat))) (last : List (Nat × Nat)) (e : Int) (vp vs vl : Value) : Prop where
 box : w.heap[p]? = some (.cells #[.slice A l.length c, .int .i64 i, vp, .int .i64 ser, .bool all, vs, vl, .int .i64 e] 66 (0, 0))
 row : stRow w p vp path
 paths : PathsAt w p vp vs paths
 last : CopyAt w p vp vl last
 below : Below W0.heap.size W0 w
 toks : Kd.C kTk W0 A l.length l
 hp : W0.heap.size ≤ p
 len : l.length ≤ 4194304
 ile : i ≤ l.length
 pl : path.length ≤ ser
section
variable {W0 : World} {A : Option Addr} {c : Nat} {l : List Tk} {all : Bool} {w w' : World} {p i ser : Nat} {path last : List (Nat × Nat)} {paths : List (List (Nat × Nat))} {e : Int} {vp vs vl : Value}
theorem RAt.cell (H : RAt W0 A c l all w p i path ser paths last e vp vs vl) : w.cell? ⟨p, 0, none⟩ = some (.slice A l.length c) ∧ w.cell? ⟨p, 1, none⟩ = some (.int .i64 i) ∧ w.cell? ⟨p, 2, none⟩ = some vp ∧ w.cell? ⟨p, 3, none⟩ = some (.int .i64 ser) ∧ w.cell? ⟨p, 4, none⟩ = some (.bool all) ∧ w.cell? ⟨p, 5, none⟩ = some vs ∧ w.cell? ⟨p, 6, none⟩ = some vl ∧ w.cell? ⟨p, 7, none⟩ = some (.int .i64 e) :=
 ⟨cR _ H.box, cR _ H.box, cR _ H.box, cR _ H.box, cR _ H.box, cR _ H.box, cR _ H.box, cR _ H.box⟩
theorem CopyAt.move {base : Nat} {v : Value} {q : List (Nat × Nat)} (H : CopyAt w base vp v q) {vp' : Value} (h : ∀ g, v.ownBlock = some g → w'.heap[g]? = w.heap[g]?) (hf : ∀ g, v.ownBlock = some g → vp'.ownBlock ≠ some g) : CopyAt w' base vp' v q := ⟨own_move H.row h, hf⟩
theorem PathsAt.move {base : Nat} (H : PathsAt w base vp vs paths) {vp' : Value} (h1 : ∀ g, vs.ownBlock = some g → w'.heap[g]? = w.heap[g]?) (h2 : ∀ (v : Value) (q : List (Nat × Nat)), CopyAt w base vp v q → ∀ g, v.ownBlock = some g → w'.heap[g]? = w.heap[g]? ∧ vp'.ownBlock ≠ some g) : PathsAt w' base vp' vs paths := by
 obtain ⟨sv, a, b⟩ := H.out
 exact ⟨sv, own_move a h1, fun k v q hv hq => (b k v q hv hq).move (fun g hg => (h2 v q (b k v q hv hq) g hg).1) (fun g hg => (h2 v q (b k v q hv hq) g hg).2)⟩
theorem PathsAt.lt {base : Nat} (H : PathsAt w base vp vs paths) (g : Nat) (hg : vs.ownBlock = some g) : g < w.heap.size ∧ ∃ cs, w.heap[g]? = some (.cells cs 63 (0, 0)) := by
 obtain ⟨sv, a, b⟩ := H.out
 exact ⟨own_lt a g hg, own_typed a g hg⟩
theorem CopyAt.lt {base : Nat} {v : Value} {q : List (Nat × Nat)} (H : CopyAt w base vp v q) (g : Nat) (hg : v.ownBlock = some g) : g < w.heap.size ∧ ∃ cs, w.heap[g]? = some (.cells cs 68 (0, 0)) := ⟨own_lt H.row g hg, own_typed H.row g hg⟩
theorem RAt.moved (H : RAt W0 A c l all w p i path ser paths last e vp vs vl) (h : Below w.heap.size w w') : RAt W0 A c l all w' p i path ser paths last e vp vs vl :=
 ⟨(h.block p (blk_lt H.box)).trans H.box, own_move H.row (fun q hq => h.block q (own_lt H.row q hq)), H.paths.move (fun g hg => h.block g (H.paths.lt g hg).1) (fun v q hc g hg => ⟨h.block g (hc.lt g hg).1, hc.far g hg⟩), H.last.move (fun g hg => h.block g (H.last.lt g hg).1) H.last.far, H.below.trans (h.mono H.below.size), H.toks, H.hp, H.len, H.ile, H.pl⟩
theorem RAt.mk1 {cur : Array Value} (off : Nat) (v : Value) (hbox : w.heap[p]? = some (.cells cur 66 (0, 0))) (hoff : off < cur.size) (hc : cur.toList.take off ++ [v] ++ cur.toList.drop (off + 1) = [.slice A l.length c, .int .i64 i, vp, .int .i64 ser, .bool all, vs, vl, .int .i64 e])
  (hrow : stRow w p vp path) (hpaths : PathsAt w p vp vs paths) (hlast : CopyAt w p vp vl last) (hb : Below W0.heap.size W0 w) (ht : Kd.C kTk W0 A l.length l) (hp : W0.heap.size ≤ p) (hlen : l.length ≤ 4194304) (hi : i ≤ l.length) (hpl : path.length ≤ ser) :
  RAt W0 A c l all (w.setCells p off [v]) p i path ser paths last e vp vs vl := by
 obtain ⟨cur', k1, k2, k3⟩ := setCells_row [v] off w _ hbox (by simp; omega)
 have hfar : ∀ q, q ≠ p → (w.setCells p off [v]).heap[q]? = w.heap[q]? := fun q hq => setCells_far _ off q hq
 have hsm := setCells_same p [v] off w
 have hne1 : ∀ g, g < w.heap.size ∧ (∃ cs, w.heap[g]? = some (.cells cs 63 (0, 0))) → g ≠ p := fun g hg he => by
  obtain ⟨_, cs, h⟩ := hg
  rw [he, hbox] at h; cases h
 have hne2 : ∀ g, g < w.heap.size ∧ (∃ cs, w.heap[g]? = some (.cells cs 68 (0, 0))) → g ≠ p := fun g hg he => by
  obtain ⟨_, cs, h⟩ := hg
  rw [he, hbox] at h; cases h
 refine ⟨?_, own_move hrow (fun q hq => hfar q (hne2 q ⟨own_lt hrow q hq, own_typed hrow q hq⟩)), hpaths.move (fun g hg => hfar g (hne1 g (hpaths.lt g hg))) (fun v q hc g hg => ⟨hfar g (hne2 g (hc.lt g hg)), hc.far g hg⟩), hlast.move (fun g hg => hfar g (hne2 g (hlast.lt g hg))) hlast.far, ?_, ht, hp, hlen, hi, hpl⟩
 ·rw [k1]
  have : cur' = #[.slice A l.length c, .int .i64 i, vp, .int .i64 ser, .bool all, vs, vl, .int .i64 e] := by
   apply Array.toList_inj.1
   rw [k3]
   exact hc
  rw [this]
 ·exact ⟨hsm.1.trans hb.os, hsm.2.1.trans hb.tape, hsm.2.2.1.trans hb.output, by rw [hsm.2.2.2]; exact hb.size, fun q hq => (hfar q (by omega)).trans (hb.block q hq)⟩
theorem RAt.upd (H : RAt W0 A c l all w p i path ser paths last e vp vs vl) (off : Nat) (v : Value) (hoff : off < 8) {i' ser' : Nat} {e' : Int} (hc : [Value.slice A l.length c, .int .i64 i, vp, .int .i64 ser, .bool all, vs, vl, .int .i64 e].take off ++ [v] ++ [Value.slice A l.length c, .int .i64 i, vp, .int .i64 ser, .bool all, vs, vl, .int .i64 e].drop (off + 1) = [Value.slice A l.length c, .int .i64 i', vp, .int .i64 ser', .bool all, vs, vl, .int .i64 e'])
  (hi : i' ≤ l.length) (hs : ser ≤ ser') : RAt W0 A c l all (w.setCells p off [v]) p i' path ser' paths last e' vp vs vl :=
 RAt.mk1 off v H.box (by simpa using hoff) hc H.row H.paths H.last H.below H.toks H.hp H.len hi (Nat.le_trans H.pl hs)
theorem RAt.grown {w1 : World} (H : RAt W0 A c l all w p i path ser paths last e vp vs vl) (hg : w.grownBy w1 vp.ownBlock) {vp1 : Value} (hat : vp1.ownBlock = vp.ownBlock ∨ ∀ g, vp1.ownBlock = some g → w.heap.size ≤ g) :
  w1.heap[p]? = w.heap[p]? ∧ PathsAt w1 p vp1 vs paths ∧ CopyAt w1 p vp1 vl last ∧ Below W0.heap.size W0 w1 := by
 have hnew : ∀ g, g < w.heap.size → vp.ownBlock ≠ some g → vp1.ownBlock ≠ some g := fun g hg hne e => by
  rcases hat with h | h
  ·exact hne (h ▸ e)
  ·have := h g e; omega
 refine ⟨hg.block p (blk_lt H.box) (fun h => ?_), H.paths.move (fun g hh => hg.block g (H.paths.lt g hh).1 (fun h => ?_)) (fun v q hc g hh => ⟨hg.block g (hc.lt g hh).1 (fun h => hc.far g hh h.symm), hnew g (hc.lt g hh).1 (hc.far g hh)⟩), H.last.move (fun g hh => hg.block g (H.last.lt g hh).1 (fun h => H.last.far g hh h.symm)) (fun g hh => hnew g (H.last.lt g hh).1 (H.last.far g hh)), ?_⟩
 ·obtain ⟨cs, h2⟩ := own_typed H.row p h.symm
  rw [H.box] at h2; cases h2
 ·obtain ⟨cs, h2⟩ := own_typed H.row g h.symm
  obtain ⟨_, cs2, h3⟩ := H.paths.lt g hh
  rw [h2] at h3; exact absurd (cells_ty h3) (by decide)
 ·exact H.below.grown hg H.below.size (fun k hk => Nat.le_trans H.hp (own_base H.row k hk))
theorem RAt.opened {w1 : World} (H : RAt W0 A c l all w p i path ser paths last e vp vs vl) {k : Nat} {g1 c1 : Nat} (ho : stRow w1 p (.slice (some ⟨g1, 0, none⟩) (path.length + 1) c1) (path ++ [(k, ser)])) (hg : w.grownBy w1 vp.ownBlock) (hat : vp.ownBlock = some g1 ∨ w.heap.size < g1) (hpl : path.length + 1 ≤ ser) :
  (∃ cur : Array Value, w1.heap[p]? = some (.cells cur 66 (0, 0)) ∧ 2 + 1 ≤ cur.size) ∧ ∀ V, V = w1.setCells p 2 [.slice (some ⟨g1, 0, none⟩) (path.length + 1) c1] → RAt W0 A c l all V p i (path ++ [(k, ser)]) ser paths last e (.slice (some ⟨g1, 0, none⟩) (path.length + 1) c1) vs vl := by
 obtain ⟨h1, h2, h3, h4⟩ := H.grown hg (vp1 := .slice (some ⟨g1, 0, none⟩) (path.length + 1) c1) (by
  rcases hat with h | h
  ·exact .inl h.symm
  ·refine .inr (fun g hh => ?_)
   have : g1 = g := by simpa [Value.ownBlock] using hh
   omega)
 refine ⟨⟨_, h1.trans H.box, by simp⟩, ?_⟩
 rintro _ rfl
 exact RAt.mk1 2 _ (h1.trans H.box) (by simp) rfl ho h2 h3 h4 H.toks H.hp H.len H.ile (by simpa using hpl)
theorem RAt.popped (H : RAt W0 A c l all w p i path ser paths last e vp vs vl) (hne : 0 < path.length) :
  ∃ g cap, vp = .slice (some ⟨g, 0, none⟩) path.length cap ∧ path.length ≤ cap ∧ cap ≤ maxLen ∧ RAt W0 A c l all (w.setCells p 2 [.slice (some ⟨g, 0, none⟩) (path.length - 1) cap]) p i path.dropLast ser paths last e (.slice (some ⟨g, 0, none⟩) (path.length - 1) cap) vs vl := by
 rcases H.row.2 with ⟨_, hn⟩ | ⟨g, cap, cur, hv, hb, hh, hl, hm, hs, ht⟩
 ·omega
 ·subst hv
  refine ⟨g, cap, rfl, hl, hm, ?_⟩
  have hrow : stRow w p (.slice (some ⟨g, 0, none⟩) (path.length - 1) cap) path.dropLast := by
   have := own_take H.row (m := path.length - 1) (by omega)
   unfold stRow
   rw [List.length_dropLast, List.dropLast_eq_take]
   have h2 : (path.flatMap stCells).take ((path.length - 1) * 2) = (path.take (path.length - 1)).flatMap stCells := by
    have h3 : ((path.take (path.length - 1)).flatMap stCells).length = (path.length - 1) * 2 := by rw [st_len, List.length_take, Nat.min_eq_left (by omega)]
    have h4 : path.flatMap stCells = (path.take (path.length - 1)).flatMap stCells ++ (path.drop (path.length - 1)).flatMap stCells := by rw [← List.flatMap_append, List.take_append_drop]
    rw [h4, List.take_left' h3]
   rw [h2] at this
   exact this
  exact RAt.mk1 2 _ H.box (by simp) rfl hrow (H.paths.move (fun _ _ => rfl) (fun v q hc g hg => ⟨rfl, hc.far g hg⟩)) (H.last.move (fun _ _ => rfl) H.last.far) H.below H.toks H.hp H.len H.ile (by have := H.pl; rw [List.length_dropLast]; omega)
theorem RAt.took {w1 : World} (H : RAt W0 A c l all w p i path ser paths last e vp vs vl) {v : Value} (hv : CopyAt w p vp v path) {sv : List Value} (hsv : ∀ (k : Nat) v q, sv[k]? = some v → paths[k]? = some q → CopyAt w p vp v q) (hlen : sv.length = paths.length) {g1 c1 : Nat} (ho : w1.ownsRow p 63 1 (.slice (some ⟨g1, 0, none⟩) (paths.length + 1) c1) (paths.length + 1) (sv ++ [v])) (hg : w.grownBy w1 vs.ownBlock) :
  (∃ cur : Array Value, w1.heap[p]? = some (.cells cur 66 (0, 0)) ∧ 5 + 1 ≤ cur.size) ∧ ∀ V, V = w1.setCells p 5 [.slice (some ⟨g1, 0, none⟩) (paths.length + 1) c1] → RAt W0 A c l all V p i path ser (paths ++ [path]) last e vp (.slice (some ⟨g1, 0, none⟩) (paths.length + 1) c1) vl ∧ CopyAt V p vp v path := by
 have hst : ∀ g, g < w.heap.size ∧ (∃ cs, w.heap[g]? = some (.cells cs 68 (0, 0))) → w1.heap[g]? = w.heap[g]? := fun g hg' => hg.block g hg'.1 (fun h => by
  obtain ⟨_, cs, h3⟩ := H.paths.lt g h.symm
  obtain ⟨_, cs2, h4⟩ := hg'
  rw [h3] at h4; exact absurd (cells_ty h4) (by decide))
 have hmv : ∀ {v : Value} {q : List (Nat × Nat)}, CopyAt w p vp v q → CopyAt w1 p vp v q := fun hc => hc.move (fun g hh => hst g (hc.lt g hh)) hc.far
 have hbp : w1.heap[p]? = w.heap[p]? := hg.block p (blk_lt H.box) (fun h => by
  obtain ⟨_, cs, h3⟩ := H.paths.lt p h.symm
  rw [H.box] at h3; cases h3)
 refine ⟨⟨_, hbp.trans H.box, by simp⟩, ?_⟩
 rintro _ rfl
 refine ⟨RAt.mk1 5 _ (hbp.trans H.box) (by simp) rfl (own_move H.row (fun g hh => hst g ⟨own_lt H.row g hh, own_typed H.row g hh⟩)) ⟨sv ++ [v], by rw [List.length_append]; exact ho, fun k v' q h1 h2 => ?_⟩ (hmv H.last) (H.below.grown hg H.below.size (fun k hk => by
  obtain ⟨sv', a, b⟩ := H.paths.out
  exact Nat.le_trans H.hp (own_base a k hk))) H.toks H.hp H.len H.ile H.pl, ?_⟩
 ·by_cases hk : k < paths.length
  ·rw [List.getElem?_append_left (by omega)] at h1
   rw [List.getElem?_append_left hk] at h2
   exact hmv (hsv k v' q h1 h2)
  ·rw [List.getElem?_append_right (by omega)] at h1
   rw [List.getElem?_append_right (by omega)] at h2
   have h3 : k - paths.length = 0 := by
    have := (List.getElem?_eq_some_iff.1 h2).1
    simp at this; omega
   rw [hlen, h3] at h1
   rw [h3] at h2
   simp only [List.getElem?_cons_zero, Option.some.injEq] at h1 h2
   subst h1; subst h2
   exact hmv hv
 ·refine (hmv hv).move (fun g hh => setCells_far _ 5 g (fun e => ?_)) hv.far
  obtain ⟨_, cs, h3⟩ := hv.lt g hh
  rw [e, H.box] at h3; cases h3
end
end Go.Proofs.YtmjbpgnjgblnmaaGreat
