/- What the claim stands on: part Hc. -/
import Derived.Test.YtmjbpgnjgblnmaaHb
import Derived.RowKit
import Derived.OrdersHeld
import Derived.Deep.RegionHeld
import Derived.OrdersIn
import Derived.RangeFuncCalls
import Derived.TacticsIn
import Derived.Lib.Hide
import Derived.Below
import Derived.Laws.AppendOwn
import Derived.Deep.MidRow
import Derived.Laws.EntriesVeiled
set_option linter.unusedVariables false
set_option linter.unusedSimpArgs false
namespace Go.Proofs.Ytmjbpgnjgblnmaa
inductive RId
 | r_block
 | r_declarations
 | r_declaration
 | r_names
 | r_params
 | r_moreParams
 | r_param
 | r_typed
 | r_kind
 | r_member
 | r_members
 | r_body
 | r_statements
 | r_statement
 | r_assigned
 | r_elses
 | r_maybe
 | r_expr
 | r_rels
 | r_rel
 | r_compared
 | r_sum
 | r_terms
 | r_term
 | r_factors
 | r_factor
 | r_object
 | r_selected
 | r_args
 | r_exprs
 deriving DecidableEq, Repr
inductive WT
 | word (s : ByteArray)
 | fin (k : Nat)
 | rule (f : RId)
 deriving DecidableEq
inductive Eff
 | push (l : List WT)
 | opn (k : Nat) (l : List WT)
def RId.num : RId → Nat
 | .r_block => 30
 | .r_declarations => 49
 | .r_declaration => 66
 | .r_names => 76
 | .r_params => 79
 | .r_moreParams => 103
 | .r_param => 102
 | .r_typed => 80
 | .r_kind => 77
 | .r_member => 98
 | .r_members => 99
 | .r_body => 50
 | .r_statements => 68
 | .r_statement => 67
 | .r_assigned => 82
 | .r_elses => 83
 | .r_maybe => 84
 | .r_expr => 78
 | .r_rels => 101
 | .r_rel => 100
 | .r_compared => 128
 | .r_sum => 127
 | .r_terms => 149
 | .r_term => 148
 | .r_factors => 160
 | .r_factor => 159
 | .r_object => 81
 | .r_selected => 104
 | .r_args => 130
 | .r_exprs => 129
def RId.expand : RId → ByteArray → Option (List Eff)
 | .r_block, c => some [.opn 2 [.rule .r_declarations, .word ⟨#[98, 101, 103, 105, 110]⟩, .rule .r_body, .word ⟨#[101, 110, 100]⟩]]
 | .r_declarations, c => if c = ⟨#[118, 97, 114]⟩ ∨ c = ⟨#[99, 111, 110, 115, 116]⟩ ∨ c = ⟨#[112, 114, 111, 99]⟩ then some [.push [.rule .r_declaration, .rule .r_declarations]] else some []
 | .r_declaration, c => if c = ⟨#[118, 97, 114]⟩ then some [.opn 3 [.word c, .word ⟨#[64, 110, 97, 109, 101]⟩, .rule .r_names, .word ⟨#[58]⟩, .rule .r_kind, .word ⟨#[59]⟩]] else if c = ⟨#[99, 111, 110, 115, 116]⟩ then some [.opn 4 [.word c, .word ⟨#[64, 110, 97, 109, 101]⟩, .word ⟨#[61]⟩, .rule .r_expr, .word ⟨#[59]⟩]] else some [.opn 5 [.word c, .word ⟨#[64, 110, 97, 109, 101]⟩, .rule .r_params, .rule .r_typed, .word ⟨#[59]⟩, .rule .r_block, .word ⟨#[59]⟩]]
 | .r_names, c => if c = ⟨#[44]⟩ then some [.push [.word c, .word ⟨#[64, 110, 97, 109, 101]⟩, .rule .r_names]] else some []
 | .r_params, c => if c = ⟨#[40]⟩ then some [.opn 6 [.word c, .rule .r_param, .rule .r_moreParams, .word ⟨#[41]⟩]] else some []
 | .r_moreParams, c => if c = ⟨#[59]⟩ then some [.push [.word c, .rule .r_param, .rule .r_moreParams]] else some []
 | .r_param, c => some [.opn 7 [.word ⟨#[64, 110, 97, 109, 101]⟩, .rule .r_names, .word ⟨#[58]⟩, .rule .r_kind]]
 | .r_typed, c => if c = ⟨#[58]⟩ then some [.push [.word c, .rule .r_kind]] else some []
 | .r_kind, c => if c = ⟨#[64, 110, 97, 109, 101]⟩ then some [.opn 8 [.word c]] else if c = ⟨#[97, 114, 114, 97, 121]⟩ then some [.opn 9 [.word c, .word ⟨#[91]⟩, .rule .r_expr, .word ⟨#[46, 46]⟩, .rule .r_expr, .word ⟨#[93]⟩, .word ⟨#[111, 102]⟩, .rule .r_kind]] else if c = ⟨#[114, 101, 99, 111, 114, 100]⟩ then some [.opn 10 [.word c, .rule .r_member, .rule .r_members, .word ⟨#[101, 110, 100]⟩]] else none
 | .r_member, c => some [.opn 11 [.word ⟨#[64, 110, 97, 109, 101]⟩, .rule .r_names, .word ⟨#[58]⟩, .rule .r_kind]]
 | .r_members, c => if c = ⟨#[59]⟩ then some [.push [.word c, .rule .r_member, .rule .r_members]] else some []
 | .r_body, c => some [.opn 12 [.rule .r_statement, .rule .r_statements]]
 | .r_statements, c => if c = ⟨#[59]⟩ then some [.push [.word c, .rule .r_statement, .rule .r_statements]] else some []
 | .r_statement, c => if c = ⟨#[115, 107, 105, 112]⟩ then some [.opn 13 [.word c]] else if c = ⟨#[64, 110, 97, 109, 101]⟩ then some [.opn 14 [.rule .r_object, .rule .r_assigned]] else if c = ⟨#[105, 102]⟩ then some [.opn 15 [.word c, .rule .r_expr, .word ⟨#[116, 104, 101, 110]⟩, .rule .r_body, .rule .r_elses, .word ⟨#[101, 110, 100]⟩]] else if c = ⟨#[119, 104, 105, 108, 101]⟩ then some [.opn 16 [.word c, .rule .r_expr, .word ⟨#[100, 111]⟩, .rule .r_body, .word ⟨#[101, 110, 100]⟩]] else if c = ⟨#[102, 111, 114]⟩ then some [.opn 17 [.word c, .word ⟨#[64, 110, 97, 109, 101]⟩, .word ⟨#[58, 61]⟩, .rule .r_expr, .word ⟨#[116, 111]⟩, .rule .r_expr, .word ⟨#[100, 111]⟩, .rule .r_body, .word ⟨#[101, 110, 100]⟩]] else if c = ⟨#[114, 101, 112, 101, 97, 116]⟩ then some [.opn 18 [.word c, .rule .r_body, .word ⟨#[117, 110, 116, 105, 108]⟩, .rule .r_expr]] else if c = ⟨#[114, 101, 116, 117, 114, 110]⟩ then some [.opn 19 [.word c, .rule .r_maybe]] else if c = ⟨#[98, 101, 103, 105, 110]⟩ then some [.opn 20 [.word c, .rule .r_body, .word ⟨#[101, 110, 100]⟩]] else none
 | .r_assigned, c => if c = ⟨#[58, 61]⟩ then some [.push [.word c, .rule .r_expr]] else some []
 | .r_elses, c => if c = ⟨#[101, 108, 105, 102]⟩ then some [.push [.word c, .rule .r_expr, .word ⟨#[116, 104, 101, 110]⟩, .rule .r_body, .rule .r_elses]] else if c = ⟨#[101, 108, 115, 101]⟩ then some [.push [.word c, .rule .r_body]] else some []
 | .r_maybe, c => if c = ⟨#[64, 110, 117, 109, 98, 101, 114]⟩ ∨ c = ⟨#[64, 116, 101, 120, 116]⟩ ∨ c = ⟨#[64, 99, 104, 97, 114]⟩ ∨ c = ⟨#[64, 110, 97, 109, 101]⟩ ∨ c = ⟨#[45]⟩ ∨ c = ⟨#[110, 111, 116]⟩ ∨ c = ⟨#[40]⟩ then some [.push [.rule .r_expr]] else some []
 | .r_expr, c => some [.opn 21 [.rule .r_rel, .rule .r_rels]]
 | .r_rels, c => if c = ⟨#[97, 110, 100]⟩ ∨ c = ⟨#[111, 114]⟩ then some [.push [.word c, .rule .r_rel, .rule .r_rels]] else some []
 | .r_rel, c => some [.opn 22 [.rule .r_sum, .rule .r_compared]]
 | .r_compared, c => if c = ⟨#[61]⟩ ∨ c = ⟨#[35]⟩ ∨ c = ⟨#[60]⟩ ∨ c = ⟨#[60, 61]⟩ ∨ c = ⟨#[62]⟩ ∨ c = ⟨#[62, 61]⟩ then some [.push [.word c, .rule .r_sum]] else some []
 | .r_sum, c => some [.opn 23 [.rule .r_term, .rule .r_terms]]
 | .r_terms, c => if c = ⟨#[43]⟩ ∨ c = ⟨#[45]⟩ then some [.push [.word c, .rule .r_term, .rule .r_terms]] else some []
 | .r_term, c => some [.opn 24 [.rule .r_factor, .rule .r_factors]]
 | .r_factors, c => if c = ⟨#[42]⟩ ∨ c = ⟨#[47]⟩ ∨ c = ⟨#[37]⟩ then some [.push [.word c, .rule .r_factor, .rule .r_factors]] else some []
 | .r_factor, c => if c = ⟨#[45]⟩ then some [.opn 25 [.word c, .rule .r_factor]] else if c = ⟨#[110, 111, 116]⟩ then some [.opn 26 [.word c, .rule .r_factor]] else if c = ⟨#[40]⟩ then some [.opn 27 [.word c, .rule .r_expr, .word ⟨#[41]⟩]] else if c = ⟨#[64, 110, 117, 109, 98, 101, 114]⟩ ∨ c = ⟨#[64, 116, 101, 120, 116]⟩ ∨ c = ⟨#[64, 99, 104, 97, 114]⟩ then some [.opn 32 [.word c]] else some [.opn 28 [.word ⟨#[64, 110, 97, 109, 101]⟩, .rule .r_selected]]
 | .r_object, c => some [.opn 28 [.word ⟨#[64, 110, 97, 109, 101]⟩, .rule .r_selected]]
 | .r_selected, c => if c = ⟨#[91]⟩ then some [.push [.rule .r_selected], .opn 29 [.word c, .rule .r_expr, .rule .r_exprs, .word ⟨#[93]⟩]] else if c = ⟨#[46]⟩ then some [.push [.rule .r_selected], .opn 30 [.word c, .word ⟨#[64, 110, 97, 109, 101]⟩]] else if c = ⟨#[40]⟩ then some [.push [.rule .r_selected], .opn 31 [.word c, .rule .r_args, .word ⟨#[41]⟩]] else some []
 | .r_args, c => if c = ⟨#[64, 110, 117, 109, 98, 101, 114]⟩ ∨ c = ⟨#[64, 116, 101, 120, 116]⟩ ∨ c = ⟨#[64, 99, 104, 97, 114]⟩ ∨ c = ⟨#[64, 110, 97, 109, 101]⟩ ∨ c = ⟨#[45]⟩ ∨ c = ⟨#[110, 111, 116]⟩ ∨ c = ⟨#[40]⟩ then some [.push [.rule .r_expr, .rule .r_exprs]] else some []
 | .r_exprs, c => if c = ⟨#[44]⟩ then some [.push [.word c, .rule .r_expr, .rule .r_exprs]] else some []
structure PSt where
 todo : List WT
 evs : List (Nat × Nat)
 depth : Int
def Eff.act (s : PSt) : Eff → PSt
 | .push l => { s with todo := l ++ s.todo }
 | .opn k l => { todo := l ++ .fin k :: s.todo, evs := s.evs ++ [(1, k)], depth := s.depth + 1 }
def effs (s : PSt) (l : List Eff) : PSt := l.foldl Eff.act s
inductive Turn
 | on (s : PSt)
 | got (s : PSt)
 | bad (s : PSt)
def turn (c : ByteArray) (s : PSt) : Turn :=
 match s.todo with
 | [] => .bad s
 | .word x :: r => if x = c then .got { s with todo := r } else .bad { s with todo := r }
 | .fin k :: r => .on { todo := r, evs := s.evs ++ [(3, k)], depth := s.depth - 1 }
 | .rule f :: r => match f.expand c with
  | none => .bad { s with todo := r }
  | some l => .on (effs { s with todo := r } l)
def turns (c : ByteArray) : Nat → PSt → Option (Bool × PSt)
 | 0, _ => none
 | n + 1, s => match turn c s with
  | .on s' => turns c n s'
  | .got s' => some (true, s')
  | .bad s' => some (false, s')
end Go.Proofs.Ytmjbpgnjgblnmaa
namespace Go.Proofs.Ytmjbpgnjgblnmaa
theorem turns_mono (c : ByteArray) : ∀ (n : Nat) (s : PSt) (r : Bool × PSt) (k : Nat), turns c n s = some r → turns c (n + k) s = some r
 | 0, s, r, k, h => by simp [turns] at h
 | n + 1, s, r, k, h => by
  rw [show n + 1 + k = (n + k) + 1 by omega]
  rw [turns] at h ⊢
  split at h
  ·rename_i s' hs
   exact turns_mono c n s' r k h
  ·rename_i s' hs
   exact h
  ·rename_i s' hs
   exact h
def fins : List WT → List Nat
 | [] => []
 | .fin k :: r => k :: fins r
 | .word _ :: r => fins r
 | .rule _ :: r => fins r
def WT.noFin : WT → Bool
 | .fin _ => false
 | _ => true
def Eff.plain : Eff → Bool
 | .push l => l.all WT.noFin
 | .opn k l => (k != 1) && l.all WT.noFin
theorem fins_app : ∀ (l r : List WT), l.all WT.noFin = true → fins (l ++ r) = fins r
 | [], r, _ => rfl
 | x :: l, r, h => by
  rw [List.all_cons, Bool.and_eq_true] at h
  cases x with
  | fin k => cases h.1
  | word s => exact fins_app l r h.2
  | rule f => exact fins_app l r h.2
theorem expand_plain {f : RId} {c : ByteArray} {l : List Eff} (h : f.expand c = some l) : l.all Eff.plain = true := by
 cases f
 all_goals
  simp only [RId.expand] at h
  repeat' split at h
 all_goals first
  | (cases h; done)
  | (cases h; rfl)
def Opens (s r : PSt) (ks : List Nat) : Prop := r.evs = s.evs ++ ks.map (fun k => (1, k)) ∧ r.depth = s.depth + ks.length ∧ ∀ k ∈ ks, k ≠ 1
theorem Opens.trans {a b c : PSt} {k l : List Nat} (h : Opens a b k) (h' : Opens b c l) : Opens a c (k ++ l) := by
 refine ⟨by rw [h'.1, h.1, List.map_append, List.append_assoc], ?_, ?_⟩
 ·rw [h'.2.1, h.2.1, List.length_append]
  omega
 ·intro j hj
  rcases List.mem_append.1 hj with hj | hj
  ·exact h.2.2 j hj
  ·exact h'.2.2 j hj
theorem effs_law : ∀ (l : List Eff) (s : PSt), l.all Eff.plain = true → ∃ ks, Opens s (effs s l) ks ∧ fins (effs s l).todo = ks.reverse ++ fins s.todo
 | [], s, _ => ⟨[], ⟨by simp [effs], by simp [effs], fun k hk => by cases hk⟩, by simp [effs]⟩
 | e :: l, s, h => by
  rw [List.all_cons, Bool.and_eq_true] at h
  obtain ⟨ks, h1, h2⟩ := effs_law l (Eff.act s e) h.2
  cases e with
  | push w =>
   refine ⟨ks, h1, ?_⟩
   have : fins (Eff.act s (.push w)).todo = fins s.todo := fins_app w s.todo h.1
   rw [← this]
   exact h2
  | opn k w =>
   have hp := h.1
   simp only [Eff.plain, Bool.and_eq_true, bne_iff_ne, ne_eq] at hp
   refine ⟨k :: ks, ?_, ?_⟩
   ·have h0 : Opens s (Eff.act s (.opn k w)) [k] := ⟨rfl, rfl, fun j hj => by rw [List.mem_singleton.1 hj]; exact hp.1⟩
    exact h0.trans h1
   ·have : fins (Eff.act s (.opn k w)).todo = k :: fins s.todo := fins_app w (.fin k :: s.todo) hp.2
    rw [List.reverse_cons, List.append_assoc, List.singleton_append, ← this]
    exact h2
def OkTop (c : ByteArray) (n : Nat) (t : WT) : Prop := ∀ (s : PSt) (rest : List WT), s.todo = t :: rest → ∃ r ks, turns c n s = some r ∧ Opens s r.2 ks ∧ (r.1 = true → fins r.2.todo = ks.reverse ++ fins s.todo)
theorem OkTop.up {c : ByteArray} {n m : Nat} {t : WT} (h : OkTop c n t) (hm : n ≤ m) : OkTop c m t := fun s rest hs => by
 obtain ⟨r, ks, hr, h1⟩ := h s rest hs
 obtain ⟨k, rfl⟩ := Nat.exists_eq_add_of_le hm
 exact ⟨r, ks, turns_mono c n s r k hr, h1⟩
theorem ok_word (c x : ByteArray) : OkTop c 1 (.word x) := fun s rest hs => by
 by_cases hx : x = c
 ·exact ⟨(true, { s with todo := rest }), [], by rw [turns]; simp only [turn, hs, if_pos hx], ⟨by simp, by simp, fun k hk => (by cases hk)⟩, fun _ => by rw [hs]; rfl⟩
 ·exact ⟨(false, { s with todo := rest }), [], by rw [turns]; simp only [turn, hs, if_neg hx], ⟨by simp, by simp, fun k hk => (by cases hk)⟩, fun h => by cases h⟩
theorem ok_rule {c : ByteArray} {n : Nat} {f : RId} (h : ∀ l, f.expand c = some l → ∀ s : PSt, ∃ t r, (effs s l).todo = t :: r ∧ OkTop c n t) : OkTop c (n + 1) (.rule f) := fun s rest hs => by
 cases he : f.expand c with
 | none => exact ⟨(false, { s with todo := rest }), [], by simp only [turns, turn, hs, he], ⟨by simp, by simp, fun k hk => (by cases hk)⟩, fun h => by cases h⟩
 | some l =>
  obtain ⟨t, r, ht, ho⟩ := h l he { s with todo := rest }
  obtain ⟨ks, h1, h2⟩ := effs_law l { s with todo := rest } (expand_plain he)
  obtain ⟨q, ls, hq, h3, h4⟩ := ho _ r ht
  refine ⟨q, ks ++ ls, by rw [turns]; simp only [turn, hs, he]; exact hq, h1.trans h3, fun hb => ?_⟩
  rw [h4 hb, h2, List.reverse_append, List.append_assoc, hs]
  rfl
theorem ok_object (c : ByteArray) : OkTop c 2 (.rule .r_object) := ok_rule fun l h s => by
 simp only [RId.expand, Option.some.injEq] at h; subst h
 exact ⟨_, _, rfl, ok_word _ _⟩
theorem ok_declaration (c : ByteArray) : OkTop c 2 (.rule .r_declaration) := ok_rule fun l h s => by
 simp only [RId.expand] at h
 split at h
 ·cases h; exact ⟨_, _, rfl, ok_word _ _⟩
 split at h
 ·cases h; exact ⟨_, _, rfl, ok_word _ _⟩
 ·cases h; exact ⟨_, _, rfl, ok_word _ _⟩
theorem ok_factor (c : ByteArray) : OkTop c 2 (.rule .r_factor) := ok_rule fun l h s => by
 simp only [RId.expand] at h
 repeat' split at h
 all_goals (cases h; exact ⟨_, _, rfl, ok_word _ _⟩)
theorem ok_term (c : ByteArray) : OkTop c 3 (.rule .r_term) := ok_rule fun l h s => by
 simp only [RId.expand, Option.some.injEq] at h; subst h
 exact ⟨_, _, rfl, ok_factor _⟩
theorem ok_sum (c : ByteArray) : OkTop c 4 (.rule .r_sum) := ok_rule fun l h s => by
 simp only [RId.expand, Option.some.injEq] at h; subst h
 exact ⟨_, _, rfl, ok_term _⟩
theorem ok_rel (c : ByteArray) : OkTop c 5 (.rule .r_rel) := ok_rule fun l h s => by
 simp only [RId.expand, Option.some.injEq] at h; subst h
 exact ⟨_, _, rfl, ok_sum _⟩
theorem ok_expr (c : ByteArray) : OkTop c 6 (.rule .r_expr) := ok_rule fun l h s => by
 simp only [RId.expand, Option.some.injEq] at h; subst h
 exact ⟨_, _, rfl, ok_rel _⟩
theorem ok_statement (c : ByteArray) : OkTop c 3 (.rule .r_statement) := ok_rule fun l h s => by
 simp only [RId.expand] at h
 repeat' split at h
 all_goals (first | (cases h; done) | (cases h; exact ⟨_, _, rfl, (ok_word _ _).up (by omega)⟩) | (cases h; exact ⟨_, _, rfl, ok_object _⟩))
theorem ok_block (c : ByteArray) : OkTop c 4 (.rule .r_block) := by
 have hD : OkTop c 3 (.rule .r_declarations) ∨ RId.r_declarations.expand c = some [] := by
  by_cases hd : c = ⟨#[118, 97, 114]⟩ ∨ c = ⟨#[99, 111, 110, 115, 116]⟩ ∨ c = ⟨#[112, 114, 111, 99]⟩
  ·refine .inl (ok_rule fun l h s => ?_)
   simp only [RId.expand, if_pos hd, Option.some.injEq] at h; subst h
   exact ⟨_, _, rfl, ok_declaration _⟩
  ·exact .inr (by simp only [RId.expand, if_neg hd])
 rcases hD with hD | hD
 ·refine ok_rule fun l h s => ?_
  simp only [RId.expand, Option.some.injEq] at h; subst h
  exact ⟨_, _, rfl, hD⟩
 ·intro s rest hs
  obtain ⟨q, ls, hq, h3, h4⟩ := (ok_word c ⟨#[98, 101, 103, 105, 110]⟩).up (show 1 ≤ 2 by omega) { todo := [.word ⟨#[98, 101, 103, 105, 110]⟩, .rule .r_body, .word ⟨#[101, 110, 100]⟩] ++ .fin 2 :: rest, evs := s.evs ++ [(1, 2)], depth := s.depth + 1 } _ rfl
  refine ⟨q, 2 :: ls, ?_, Opens.trans (b := { todo := [], evs := s.evs ++ [(1, 2)], depth := s.depth + 1 }) (k := [2]) ⟨rfl, rfl, fun j hj => by rw [List.mem_singleton.1 hj]; decide⟩ h3, fun hb => ?_⟩
  ·rw [turns]
   simp only [turn, hs, RId.expand]
   rw [turns]
   simp only [effs, List.foldl, Eff.act, List.cons_append, List.nil_append, turn, hD]
   exact hq
  ·rw [h4 hb, hs, List.reverse_cons, List.append_assoc]
   rfl
def Gone (c : ByteArray) (f : RId) : Prop := f.expand c = some [] ∨ OkTop c 7 (.rule f)
theorem gone_of {c : ByteArray} {f : RId} (h : ∀ l, f.expand c = some l → l = [] ∨ ∀ s : PSt, ∃ t r, (effs s l).todo = t :: r ∧ OkTop c 6 t) : Gone c f := by
 cases he : f.expand c with
 | none => exact .inr (ok_rule fun l h' => by rw [he] at h'; cases h')
 | some l =>
  rcases h l he with rfl | h
  ·exact .inl he
  ·exact .inr (ok_rule fun l' h' => by rw [he] at h'; cases h'; exact h)
theorem gone_any (c : ByteArray) (f : RId) : Gone c f := by
 cases f
 case r_block => exact .inr ((ok_block c).up (by omega))
 case r_expr => exact .inr ((ok_expr c).up (by omega))
 all_goals
  refine gone_of fun l h => ?_
  simp only [RId.expand] at h
  repeat' split at h
 all_goals first
  | (cases h; done)
  | (cases h; exact .inl rfl)
  | (cases h; exact .inr fun s => ⟨_, _, rfl, (ok_word _ _).up (by omega)⟩)
  | (cases h; exact .inr fun s => ⟨_, _, rfl, (ok_declaration _).up (by omega)⟩)
  | (cases h; exact .inr fun s => ⟨_, _, rfl, (ok_object _).up (by omega)⟩)
  | (cases h; exact .inr fun s => ⟨_, _, rfl, (ok_factor _).up (by omega)⟩)
  | (cases h; exact .inr fun s => ⟨_, _, rfl, (ok_term _).up (by omega)⟩)
  | (cases h; exact .inr fun s => ⟨_, _, rfl, (ok_sum _).up (by omega)⟩)
  | (cases h; exact .inr fun s => ⟨_, _, rfl, (ok_rel _).up (by omega)⟩)
  | (cases h; exact .inr fun s => ⟨_, _, rfl, (ok_expr _).up (by omega)⟩)
  | (cases h; exact .inr fun s => ⟨_, _, rfl, (ok_statement _).up (by omega)⟩)
theorem turns_some (c : ByteArray) : ∀ (m : Nat) (s : PSt), s.todo.length = m → ∃ r cl op X, turns c (m + 7) s = some r ∧ r.2.evs = s.evs ++ cl.map (fun k => (3, k)) ++ op.map (fun k => (1, k)) ∧ r.2.depth = s.depth - (cl : List Nat).length + (op : List Nat).length ∧ (∀ k ∈ op, k ≠ 1) ∧ fins s.todo = cl ++ X ∧ (r.1 = true → fins r.2.todo = op.reverse ++ X) := by
 have key : ∀ {m n : Nat} {s : PSt} {t : WT} {r : List WT}, s.todo = t :: r → OkTop c n t → n ≤ m → ∃ q cl op X, turns c m s = some q ∧ q.2.evs = s.evs ++ cl.map (fun k => (3, k)) ++ op.map (fun k => (1, k)) ∧ q.2.depth = s.depth - (cl : List Nat).length + (op : List Nat).length ∧ (∀ k ∈ op, k ≠ 1) ∧ fins s.todo = cl ++ X ∧ (q.1 = true → fins q.2.todo = op.reverse ++ X) := by
  intro m n s t r ht ho hm
  obtain ⟨q, ks, h1, h2, h3⟩ := ho.up hm s r ht
  exact ⟨q, [], ks, fins s.todo, h1, by simpa using h2.1, by simpa using h2.2.1, h2.2.2, rfl, h3⟩
 intro m
 induction m with
 | zero =>
  intro s hs
  have h0 : s.todo = [] := List.length_eq_zero_iff.1 hs
  exact ⟨(false, s), [], [], fins s.todo, by simp only [turns, turn, h0], by simp, by simp, fun k hk => (by cases hk), rfl, fun h => by cases h⟩
 | succ m ih =>
  intro s hs
  cases ht : s.todo with
  | nil => rw [ht] at hs; cases hs
  | cons t r =>
   have hr : r.length = m := by rw [ht] at hs; simpa using hs
   rw [← ht]
   cases t with
   | word x => exact key ht (ok_word c x) (by omega)
   | fin k =>
    obtain ⟨q, cl, op, X, h1, h2, h3, h6, h4, h5⟩ := ih { todo := r, evs := s.evs ++ [(3, k)], depth := s.depth - 1 } hr
    refine ⟨q, k :: cl, op, X, ?_, ?_, ?_, h6, ?_, h5⟩
    ·rw [show m + 1 + 7 = (m + 7) + 1 by omega, turns]; simp only [turn, ht]; exact h1
    ·rw [h2]; simp
    ·rw [h3, List.length_cons]; simp only; omega
    ·rw [ht, fins, show fins r = cl ++ X from h4]; rfl
   | rule f =>
    rcases gone_any c f with hg | hg
    ·obtain ⟨q, cl, op, X, h1, h2, h3, h6, h4, h5⟩ := ih { s with todo := r } hr
     refine ⟨q, cl, op, X, ?_, h2, h3, h6, ?_, h5⟩
     ·rw [show m + 1 + 7 = (m + 7) + 1 by omega, turns]; simp only [turn, ht, hg, effs, List.foldl]; exact h1
     ·rw [ht, fins]; exact h4
    ·exact key ht hg (by omega)
end Go.Proofs.Ytmjbpgnjgblnmaa
namespace Go.Proofs.Ytmjbpgnjgblnmaa
abbrev Tk := PParsePuts.S35
abbrev Ev := PParsePuts.S46
abbrev kEv := PParsePuts.k46
abbrev kTk := PParsePuts.k35
def noTk : Tk := ⟨0, ⟨#[]⟩, ⟨0, 0, 0⟩, 0⟩
def evOf (p : Nat × Nat) : Ev := ⟨p.1, p.2, noTk⟩
def leafE (t : Tk) : Ev := ⟨2, 0, t⟩
def noteE (t : Tk) : Ev := ⟨4, 0, t⟩
def isNote (t : Tk) : Bool := t.f0 == 7 || t.f0 == 8
def codeOf (t : Tk) : ByteArray := (PParsePuts.parse_code.f t.f0 t.f1 t.f2.f0 t.f2.f1 t.f2.f2 t.f3).getD ⟨#[]⟩
structure Par where
 todo : List WT
 depth : Int
 begun : Bool
 wrong : Int
 closed : Bool
def newPar : Par := ⟨[.word ⟨#[112, 114, 111, 103, 114, 97, 109]⟩, .word ⟨#[64, 110, 97, 109, 101]⟩, .word ⟨#[59]⟩, .rule .r_block, .word ⟨#[46]⟩, .fin 1], 0, false, 0, false⟩
def token (t : Tk) (todo : List WT) (depth : Int) : Int × PSt :=
 match turns (codeOf t) (todo.length + 7) ⟨todo, [], depth⟩ with
 | none => (120, ⟨todo, [], depth⟩)
 | some (false, s) => (120, s)
 | some (true, s) => if s.todo = [] then (120, s) else if 1000 < s.depth then (122, s) else (0, s)
def preE (p : Par) : List Ev := if p.begun then [] else [evOf (1, 1)]
def preD (p : Par) : Int := if p.begun then p.depth else p.depth + 1
def put (p : Par) (t : Tk) : List Ev × Int × Par :=
 if p.closed then ([], 4, p) else if p.wrong ≠ 0 then ([], p.wrong, p) else
 if isNote t then (preE p ++ [noteE t], 0, { p with depth := preD p, begun := true }) else
 let q := token t p.todo (preD p)
 if q.1 ≠ 0 then ([], q.1, { p with todo := q.2.todo, wrong := q.1 }) else (preE p ++ q.2.evs.map evOf ++ [leafE t], 0, { p with todo := q.2.todo, depth := q.2.depth, begun := true })
def closeP (p : Par) : List Ev × Int × Par :=
 if p.closed then ([], 4, p) else if p.wrong ≠ 0 then ([], p.wrong, { p with closed := true }) else
 if p.todo.length ≠ 1 then ([], 121, { p with closed := true, wrong := 121 }) else ([evOf (3, 1)], 0, { p with closed := true, depth := p.depth - 1 })
structure PInv (p : Par) (op : List Nat) : Prop where
 closed : p.closed = false
 wrong : p.wrong = 0
 fins : fins p.todo = if p.begun then op else [1]
 start : p.begun = false → op = []
 last : p.begun = true → ∃ r, op = r ++ [1]
 depth : p.depth = op.length
 most : op.length ≤ 1000
 lastf : ∃ l, p.todo = l ++ [.fin 1]
 fresh : p.begun = false → p.todo.length ≠ 1
theorem newPar_inv : PInv newPar [] := ⟨rfl, rfl, rfl, fun _ => rfl, fun h => (by cases h), rfl, Nat.zero_le _, ⟨[.word ⟨#[112, 114, 111, 103, 114, 97, 109]⟩, .word ⟨#[64, 110, 97, 109, 101]⟩, .word ⟨#[59]⟩, .rule .r_block, .word ⟨#[46]⟩], rfl⟩, fun _ => by decide⟩
theorem token_law (t : Tk) (todo : List WT) (depth : Int) : ∃ cl op X, (token t todo depth).2.evs = (cl : List Nat).map (fun k => (3, k)) ++ (op : List Nat).map (fun k => (1, k)) ∧ (token t todo depth).2.depth = depth - cl.length + op.length ∧ (∀ k ∈ op, k ≠ 1) ∧ fins todo = cl ++ X ∧ ((token t todo depth).1 = 0 → fins (token t todo depth).2.todo = op.reverse ++ X ∧ (token t todo depth).2.depth ≤ 1000) ∧ ((token t todo depth).1 = 0 ∨ (token t todo depth).1 = 120 ∨ (token t todo depth).1 = 122) := by
 obtain ⟨r, cl, op, X, h1, h2, h3, h6, h4, h5⟩ := turns_some (codeOf t) todo.length ⟨todo, [], depth⟩ rfl
 obtain ⟨b, s⟩ := r
 refine ⟨cl, op, X, ?_⟩
 unfold token
 rw [h1]
 cases b with
 | false => exact ⟨by simpa using h2, h3, h6, h4, fun h => by simp at h, .inr (.inl rfl)⟩
 | true =>
  simp only
  by_cases ht : s.todo = []
  ·simp only [if_pos ht]
   exact ⟨by simpa using h2, h3, h6, h4, fun h => by simp at h, .inr (.inl trivial)⟩
  ·by_cases hd : 1000 < s.depth
   ·simp only [if_neg ht, if_pos hd]
    exact ⟨by simpa using h2, h3, h6, h4, fun h => by simp at h, .inr (.inr trivial)⟩
   ·simp only [if_neg ht, if_neg hd]
    exact ⟨by simpa using h2, h3, h6, h4, fun _ => ⟨h5 rfl, by omega⟩, .inl trivial⟩
end Go.Proofs.Ytmjbpgnjgblnmaa
namespace Go.Proofs.Ytmjbpgnjgblnmaa
theorem expand_len {f : RId} {c : ByteArray} {l : List Eff} (h : f.expand c = some l) (s : PSt) : (effs s l).todo.length ≤ s.todo.length + 11 ∧ (effs s l).evs.length ≤ s.evs.length + 1 ∧ s.depth ≤ (effs s l).depth ∧ (effs s l).depth ≤ s.depth + 1 := by
 cases f
 all_goals
  simp only [RId.expand] at h
  repeat' split at h
 all_goals first
  | (cases h; done)
  | (cases h; simp only [effs, List.foldl, Eff.act, List.length_append, List.length_cons, List.length_nil]; omega)
theorem turn_len {c : ByteArray} {s s' : PSt} (h : turn c s = .on s') : s'.todo.length ≤ s.todo.length + 11 ∧ s'.evs.length ≤ s.evs.length + 1 ∧ s.depth - 1 ≤ s'.depth ∧ s'.depth ≤ s.depth + 1 := by
 unfold turn at h
 split at h
 ·cases h
 ·split at h <;> cases h
 ·rename_i k r hr
  cases h
  rw [hr]
  simp only [List.length_append, List.length_cons, List.length_nil]
  omega
 ·rename_i f r hr
  split at h
  ·cases h
  ·rename_i l hl
   cases h
   have := expand_len hl { s with todo := r }
   rw [hr]
   simp only [List.length_cons] at this ⊢
   omega
theorem turns_len (c : ByteArray) : ∀ (n : Nat) (s : PSt) (r : Bool × PSt), turns c n s = some r → r.2.todo.length ≤ s.todo.length + 11 * n
 | 0, s, r, h => by simp [turns] at h
 | n + 1, s, r, h => by
  rw [turns] at h
  split at h
  ·rename_i s' hs
   have h1 := turn_len hs
   have h2 := turns_len c n s' r h
   omega
  all_goals
   rename_i s' hs
   cases h
   unfold turn at hs
   split at hs
   ·cases hs <;> simp_all
   ·rename_i x r hr
    split at hs <;> cases hs <;> simp only [hr, List.length_cons] <;> omega
   ·cases hs
   ·rename_i f r hr
    split at hs <;> cases hs <;> simp only [hr, List.length_cons] <;> omega
theorem some_len (c : ByteArray) : ∀ (m : Nat) (s : PSt), s.todo.length = m → ∃ r, turns c (m + 7) s = some r ∧ r.2.todo.length ≤ m + 77 := by
 intro m
 induction m with
 | zero =>
  intro s hs
  have h0 : s.todo = [] := List.length_eq_zero_iff.1 hs
  exact ⟨(false, s), by simp only [turns, turn, h0], by simp only [hs]; omega⟩
 | succ m ih =>
  intro s hs
  cases ht : s.todo with
  | nil => rw [ht] at hs; cases hs
  | cons t r =>
   have hr : r.length = m := by rw [ht] at hs; simpa using hs
   have key : ∀ {n : Nat}, OkTop c n t → n ≤ 7 → ∃ r, turns c (m + 1 + 7) s = some r ∧ r.2.todo.length ≤ m + 1 + 77 := fun {n} ho hn => by
    obtain ⟨q, ks, h1, h2, h3⟩ := ho s r ht
    have h4 := turns_len c n s q h1
    obtain ⟨j, hj⟩ := Nat.exists_eq_add_of_le (show n ≤ m + 1 + 7 by omega)
    exact ⟨q, by rw [hj]; exact turns_mono c n s q j h1, by omega⟩
   cases t with
   | word x => exact key (ok_word c x) (by omega)
   | fin k =>
    obtain ⟨q, h1, h2⟩ := ih { todo := r, evs := s.evs ++ [(3, k)], depth := s.depth - 1 } hr
    refine ⟨q, ?_, by omega⟩
    rw [show m + 1 + 7 = (m + 7) + 1 by omega, turns]; simp only [turn, ht]; exact h1
   | rule f =>
    rcases gone_any c f with hg | hg
    ·obtain ⟨q, h1, h2⟩ := ih { s with todo := r } hr
     refine ⟨q, ?_, by omega⟩
     rw [show m + 1 + 7 = (m + 7) + 1 by omega, turns]; simp only [turn, ht, hg, effs, List.foldl]; exact h1
    ·exact key hg (by omega)
theorem token_len (t : Tk) (todo : List WT) (depth : Int) : (token t todo depth).2.todo.length ≤ todo.length + 77 := by
 obtain ⟨r, h1, h2⟩ := some_len (codeOf t) todo.length ⟨todo, [], depth⟩ rfl
 obtain ⟨b, s⟩ := r
 unfold token
 rw [h1]
 cases b with
 | false => exact h2
 | true =>
  simp only
  split
  ·exact h2
  ·split <;> exact h2
theorem put_len (p : Par) (t : Tk) : (put p t).2.2.todo.length ≤ p.todo.length + 77 := by
 have h := token_len t p.todo (preD p)
 unfold put
 split
 ·simp only; omega
 split
 ·simp only; omega
 split
 ·simp only; omega
 simp only
 split <;> simp only <;> omega
end Go.Proofs.Ytmjbpgnjgblnmaa
namespace Go.Proofs.Ytmjbpgnjgblnmaa
def cAt (l : List Tk) (i : Nat) : ByteArray := match l[i]? with
 | some t => codeOf t
 | none => ⟨#[]⟩
theorem effs_app : ∀ (e : List Eff) (T S : List WT) (v : List (Nat × Nat)) (d : Int), effs ⟨T ++ S, v, d⟩ e = ⟨(effs ⟨T, v, d⟩ e).todo ++ S, (effs ⟨T, v, d⟩ e).evs, (effs ⟨T, v, d⟩ e).depth⟩
 | [], T, S, v, d => rfl
 | .push w :: e, T, S, v, d => by
  have := effs_app e (w ++ T) S v d
  simp only [effs, List.foldl, Eff.act, List.append_assoc] at this ⊢
  exact this
 | .opn k w :: e, T, S, v, d => by
  have := effs_app e (w ++ .fin k :: T) S (v ++ [(1, k)]) (d + 1)
  simp only [effs, List.foldl, Eff.act, List.append_assoc, List.cons_append] at this ⊢
  exact this
end Go.Proofs.Ytmjbpgnjgblnmaa
namespace Go.Proofs.Ytmjbpgnjgblnmaa
open Classical in
noncomputable def nest : Bool → List Int → List Tk → List Ev → Option (List Int × List Tk)
 | _, o, l, [] => some (o, l)
 | b, o, l, e :: r =>
  if e.f0 = 1 then (if e.f2 = noTk ∧ (b = true ↔ e.f1 = 1) ∧ o.length + 1 ≤ 1000 then nest false (e.f1 :: o) l r else none)
  else if e.f0 = 3 then (match o with
   | [] => none
   | k :: o' => if k = e.f1 ∧ e.f2 = noTk then nest false o' l r else none)
  else if e.f0 = 2 ∨ e.f0 = 4 then (match l with
   | [] => none
   | t :: l' => if e.f2 = t ∧ e.f1 = 0 ∧ (e.f0 = 4 ↔ isNote t = true) ∧ o ≠ [] then nest false o l' r else none)
  else none
open Classical in
theorem nest_cons (b : Bool) (o : List Int) (l : List Tk) (e : Ev) (r : List Ev) : nest b o l (e :: r) =
  if e.f0 = 1 then (if e.f2 = noTk ∧ (b = true ↔ e.f1 = 1) ∧ o.length + 1 ≤ 1000 then nest false (e.f1 :: o) l r else none)
  else if e.f0 = 3 then (match o with
   | [] => none
   | k :: o' => if k = e.f1 ∧ e.f2 = noTk then nest false o' l r else none)
  else if e.f0 = 2 ∨ e.f0 = 4 then (match l with
   | [] => none
   | t :: l' => if e.f2 = t ∧ e.f1 = 0 ∧ (e.f0 = 4 ↔ isNote t = true) ∧ o ≠ [] then nest false o l' r else none)
  else none := by
 rw [nest.eq_def]
theorem nest_app : ∀ (x y : List Ev) (b : Bool) (o o' : List Int) (l l' : List Tk), nest b o l x = some (o', l') → x ≠ [] → nest b o l (x ++ y) = nest false o' l' y
 | [], y, b, o, o', l, l', h, hx => absurd rfl hx
 | e :: r, y, b, o, o', l, l', h, hx => by
  have key : ∀ (o1 : List Int) (l1 : List Tk), nest false o1 l1 r = some (o', l') → nest false o1 l1 (r ++ y) = nest false o' l' y := fun o1 l1 h1 => by
   cases r with
   | nil => simp only [nest, Option.some.injEq, Prod.mk.injEq] at h1; obtain ⟨rfl, rfl⟩ := h1; rfl
   | cons a r => exact nest_app (a :: r) y false o1 o' l1 l' h1 (by simp)
  rw [List.cons_append]
  rw [nest_cons] at h ⊢
  by_cases h1 : e.f0 = 1
  ·rw [if_pos h1] at h ⊢
   by_cases hc : e.f2 = noTk ∧ (b = true ↔ e.f1 = 1) ∧ o.length + 1 ≤ 1000
   ·rw [if_pos hc] at h ⊢; exact key _ _ h
   ·rw [if_neg hc] at h; cases h
  ·rw [if_neg h1] at h ⊢
   by_cases h3 : e.f0 = 3
   ·rw [if_pos h3] at h ⊢
    cases o with
    | nil => cases h
    | cons k o1 =>
     simp only at h ⊢
     by_cases hc : k = e.f1 ∧ e.f2 = noTk
     ·rw [if_pos hc] at h ⊢; exact key _ _ h
     ·rw [if_neg hc] at h; cases h
   ·rw [if_neg h3] at h ⊢
    by_cases h2 : e.f0 = 2 ∨ e.f0 = 4
    ·rw [if_pos h2] at h ⊢
     cases l with
     | nil => cases h
     | cons t l1 =>
      simp only at h ⊢
      by_cases hc : e.f2 = t ∧ e.f1 = 0 ∧ (e.f0 = 4 ↔ isNote t = true) ∧ o ≠ []
      ·rw [if_pos hc] at h ⊢; exact key _ _ h
      ·rw [if_neg hc] at h; cases h
    ·rw [if_neg h2] at h; cases h
theorem nest_closes : ∀ (cl : List Nat) (X : List Nat) (l : List Tk), nest false ((cl ++ X).map (fun n : Nat => (n : Int))) l ((cl.map (fun k => (3, k))).map evOf) = some (X.map (fun n : Nat => (n : Int)), l)
 | [], X, l => rfl
 | k :: cl, X, l => by
  simp only [List.map_cons, List.cons_append]
  rw [nest_cons, if_neg (by simp [evOf]), if_pos (by simp [evOf])]
  simp only
  rw [if_pos ⟨rfl, rfl⟩]
  exact nest_closes cl X l
theorem nest_opens : ∀ (op : List Nat) (X : List Nat) (l : List Tk), (∀ k ∈ op, k ≠ 1) → X.length + op.length ≤ 1000 → nest false (X.map (fun n : Nat => (n : Int))) l ((op.map (fun k => (1, k))).map evOf) = some ((op.reverse ++ X).map (fun n : Nat => (n : Int)), l)
 | [], X, l, _, _ => rfl
 | k :: op, X, l, hk, hm => by
  have hk1 : k ≠ 1 := hk k (by simp)
  simp only [List.length_cons] at hm
  simp only [List.map_cons]
  rw [nest_cons, if_pos (by simp [evOf])]
  rw [if_pos ⟨rfl, ⟨fun h => (by cases h), fun h => absurd (show k = 1 by have h' : (k : Int) = 1 := h; omega) hk1⟩, by rw [List.length_map]; omega⟩]
  have := nest_opens op (k :: X) l (fun j hj => hk j (List.mem_cons_of_mem _ hj)) (by simp only [List.length_cons]; omega)
  rw [List.reverse_cons, List.append_assoc, List.singleton_append]
  exact this
end Go.Proofs.Ytmjbpgnjgblnmaa
namespace Go.Proofs.Ytmjbpgnjgblnmaa
def LastFin (s : PSt) : Prop := s.todo = [] ∨ ∃ l, s.todo = l ++ [.fin 1]
theorem effs_todo : ∀ (l : List Eff) (s : PSt), ∃ q, (effs s l).todo = q ++ s.todo
 | [], s => ⟨[], rfl⟩
 | e :: l, s => by
  obtain ⟨q, hq⟩ := effs_todo l (Eff.act s e)
  have : (effs s (e :: l)).todo = q ++ (Eff.act s e).todo := hq
  rw [this]
  cases e with
  | push w => exact ⟨q ++ w, by rw [List.append_assoc]; rfl⟩
  | opn k w => exact ⟨q ++ (w ++ [.fin k]), by simp [Eff.act]⟩
theorem turns_last (c : ByteArray) : ∀ (n : Nat) (s : PSt) (r : Bool × PSt), LastFin s → turns c n s = some r → LastFin r.2
 | 0, s, r, h, hr => by simp [turns] at hr
 | n + 1, s, r, h, hr => by
  have hne : ∀ t q, s.todo = t :: q → LastFin { s with todo := q } := by
   intro t q ht
   rcases h with h | ⟨l, h⟩
   ·rw [h] at ht; cases ht
   ·cases l with
    | nil => rw [h] at ht; simp only [List.nil_append, List.cons.injEq] at ht; exact .inl ht.2.symm
    | cons a l => rw [h] at ht; simp only [List.cons_append, List.cons.injEq] at ht; exact .inr ⟨l, ht.2.symm⟩
  rw [turns] at hr
  unfold turn at hr
  cases ht : s.todo with
  | nil => rw [ht] at hr; simp only [Option.some.injEq] at hr; subst hr; exact h
  | cons t q =>
   rw [ht] at hr
   have hq := hne t q ht
   cases t with
   | word x =>
    by_cases hx : x = c
    ·simp only [if_pos hx, Option.some.injEq] at hr; subst hr; exact hq
    ·simp only [if_neg hx, Option.some.injEq] at hr; subst hr; exact hq
   | fin k => exact turns_last c n { todo := q, evs := s.evs ++ [(3, k)], depth := s.depth - 1 } r hq hr
   | rule f =>
    cases he : f.expand c with
    | none => simp only [he, Option.some.injEq] at hr; subst hr; exact hq
    | some l =>
     simp only [he] at hr
     refine turns_last c n _ r ?_ hr
     obtain ⟨v, hv⟩ := effs_todo l { s with todo := q }
     rcases hq with hq | ⟨m, hm⟩
     ·rcases h with h | ⟨l', h⟩
      ·rw [h] at ht; cases ht
      ·simp only at hq
       rw [h, hq] at ht
       cases l' with
       | nil => cases ht
       | cons a l' => simp at ht
     ·simp only at hm
      exact .inr ⟨v ++ m, by rw [hv]; simp only [hm, List.append_assoc]⟩
theorem fins_snoc : ∀ (l : List WT), fins (l ++ [.fin 1]) = fins l ++ [1]
 | [] => rfl
 | .fin k :: r => by rw [List.cons_append, fins, fins_snoc r, fins]; rfl
 | .word s :: r => by rw [List.cons_append, fins, fins_snoc r, fins]
 | .rule f :: r => by rw [List.cons_append, fins, fins_snoc r, fins]
theorem token_last {t : Tk} {todo : List WT} {d : Int} (h : ∃ l, todo = l ++ [.fin 1]) (hq : (token t todo d).1 = 0) : ∃ l, (token t todo d).2.todo = l ++ [.fin 1] := by
 have key : ∀ r, turns (codeOf t) (todo.length + 7) ⟨todo, [], d⟩ = some r → LastFin r.2 := fun r hr => turns_last _ _ _ r (.inr h) hr
 unfold token at hq ⊢
 cases hr : turns (codeOf t) (todo.length + 7) ⟨todo, [], d⟩ with
 | none => rw [hr] at hq; simp at hq
 | some r =>
  obtain ⟨b, s⟩ := r
  rw [hr] at hq
  have hl := key _ hr
  cases b with
  | false => simp at hq
  | true =>
   simp only at hq ⊢
   by_cases ht : s.todo = []
   ·rw [if_pos ht] at hq; simp at hq
   ·rw [if_neg ht] at hq ⊢
    rcases hl with hl | hl
    ·exact absurd hl ht
    ·split
     ·exact hl
     ·exact hl
end Go.Proofs.Ytmjbpgnjgblnmaa
namespace Go.Proofs.Ytmjbpgnjgblnmaa
def cst (l : List Nat) : List Int := l.map (fun n : Nat => (n : Int))
def opn0 (p : Par) (op : List Nat) : List Nat := if p.begun then op else [1]
theorem PInv.pre {p : Par} {op : List Nat} (h : PInv p op) (l : List Tk) (y : List Ev) : nest (!p.begun) (cst op) l (preE p ++ y) = nest false (cst (opn0 p op)) l y := by
 unfold preE opn0
 cases hb : p.begun with
 | true => rfl
 | false =>
  have ho := h.start hb
  subst ho
  simp only [Bool.not_false, Bool.false_eq_true, if_false, List.cons_append, List.nil_append]
  rw [nest_cons, if_pos (by simp [evOf]), if_pos ⟨rfl, ⟨fun _ => rfl, fun _ => rfl⟩, by simp [cst]⟩]
  rfl
theorem PInv.fins0 {p : Par} {op : List Nat} (h : PInv p op) : Go.Proofs.Ytmjbpgnjgblnmaa.fins p.todo = opn0 p op := h.fins
theorem PInv.opn {p : Par} {op : List Nat} (h : PInv p op) : opn0 p op ≠ [] ∧ (opn0 p op).length ≤ 1000 ∧ preD p = (opn0 p op).length ∧ ∃ r, opn0 p op = r ++ [1] := by
 unfold opn0 preD
 cases hb : p.begun with
 | true =>
  obtain ⟨r, hr⟩ := h.last hb
  refine ⟨by simp only [if_true]; rw [hr]; simp, h.most, h.depth, r, hr⟩
 | false =>
  have ho := h.start hb
  have hd := h.depth
  rw [ho] at hd
  exact ⟨by simp, by simp, by simp [hd], [], rfl⟩
theorem nest_one (o : List Nat) (t : Tk) (rest : List Tk) (e : Ev) (h2 : e.f2 = t) (h1 : e.f1 = 0) (hk : (e.f0 = 4 ∧ isNote t = true) ∨ (e.f0 = 2 ∧ isNote t = false)) (ho : o ≠ []) : nest false (cst o) (t :: rest) [e] = some (cst o, rest) := by
 have ho' : cst o ≠ [] := by cases o with | nil => exact absurd rfl ho | cons a o => simp [cst]
 rcases hk with ⟨h0, hn⟩ | ⟨h0, hn⟩
 ·rw [nest_cons, if_neg (by rw [h0]; decide), if_neg (by rw [h0]; decide), if_pos (by rw [h0]; decide)]
  simp only
  rw [if_pos ⟨h2, h1, ⟨fun _ => hn, fun _ => h0⟩, ho'⟩]
  rfl
 ·rw [nest_cons, if_neg (by rw [h0]; decide), if_neg (by rw [h0]; decide), if_pos (by rw [h0]; decide)]
  simp only
  rw [if_pos ⟨h2, h1, ⟨fun h => (by rw [h0] at h; cases h), fun h => (by rw [hn] at h; cases h)⟩, ho'⟩]
  rfl
theorem put_nest {p : Par} {op : List Nat} (h : PInv p op) (t : Tk) (rest : List Tk) (he : (put p t).2.1 = 0) : ∃ op', PInv (put p t).2.2 op' ∧ (put p t).2.2.begun = true ∧ (put p t).1 ≠ [] ∧ nest (!p.begun) (cst op) (t :: rest) (put p t).1 = some (cst op', rest) := by
 obtain ⟨hne, hmx, hpd, r0, hr0⟩ := h.opn
 unfold put at he ⊢
 simp only [h.closed, Bool.false_eq_true, if_false, h.wrong, ne_eq, not_true_eq_false] at he ⊢
 by_cases hn : isNote t = true
 ·simp only [if_pos hn] at he ⊢
  refine ⟨opn0 p op, ⟨rfl, rfl, h.fins0, fun h' => (by cases h'), fun _ => ⟨r0, hr0⟩, hpd, hmx, h.lastf, fun h' => (by cases h')⟩, trivial, by simp, ?_⟩
  rw [h.pre]
  exact nest_one _ t rest _ rfl rfl (.inl ⟨rfl, hn⟩) hne
 ·simp only [if_neg hn] at he ⊢
  obtain ⟨cl, ops, X, h1, h2, h3, h4, h5, h6⟩ := token_law t p.todo (preD p)
  have hq : (token t p.todo (preD p)).1 = 0 := by
   by_cases hq : (token t p.todo (preD p)).1 = 0
   ·exact hq
   ·rw [if_pos hq] at he; exact absurd he hq
  rw [if_neg (by rw [hq]; simp)]
  obtain ⟨h7, h8⟩ := h5 hq
  obtain ⟨m, hm⟩ := token_last (d := preD p) h.lastf hq
  have hX : opn0 p op = cl ++ X := by rw [← h.fins0]; exact h4
  have hop : ops.reverse ++ X = fins m ++ [1] := by rw [← h7, hm, fins_snoc]
  have hlen : (token t p.todo (preD p)).2.depth = ((ops.reverse ++ X).length : Nat) := by
   rw [h2, hpd, hX]
   simp only [List.length_append, List.length_reverse]
   omega
  have hlm : (ops.reverse ++ X).length ≤ 1000 := by rw [hlen] at h8; omega
  refine ⟨ops.reverse ++ X, ⟨rfl, rfl, h7, fun h' => (by cases h'), fun _ => ⟨_, hop⟩, hlen, hlm, ⟨m, hm⟩, fun h' => (by cases h')⟩, rfl, by simp, ?_⟩
  rw [List.append_assoc, h.pre, h1, List.map_append, List.append_assoc, hX]
  have e1 : nest false (cst (cl ++ X)) (t :: rest) ((cl.map (fun k => (3, k))).map evOf) = some (cst X, t :: rest) := nest_closes cl X (t :: rest)
  have e2 : nest false (cst X) (t :: rest) ((ops.map (fun k => (1, k))).map evOf) = some (cst (ops.reverse ++ X), t :: rest) := nest_opens ops X (t :: rest) h3 (by simpa [Nat.add_comm] using hlm)
  have e3 := nest_one (ops.reverse ++ X) t rest (leafE t) rfl rfl (.inr ⟨rfl, by simpa using hn⟩) (by rw [hop]; simp)
  have e23 : nest false (cst X) (t :: rest) ((ops.map (fun k => (1, k))).map evOf ++ [leafE t]) = some (cst (ops.reverse ++ X), rest) := by
   cases hops : (ops.map (fun k => (1, k))).map evOf with
   | nil =>
    have : ops = [] := by simpa using hops
    subst this
    exact e3
   | cons a r =>
    rw [← hops, nest_app _ _ false _ _ _ _ e2 (by rw [hops]; simp)]
    exact e3
  cases hcl : (cl.map (fun k => (3, k))).map evOf with
  | nil =>
   have : cl = [] := by simpa using hcl
   subst this
   exact e23
  | cons a r =>
   rw [← hcl, nest_app _ _ false _ _ _ _ e1 (by rw [hcl]; simp)]
   exact e23
end Go.Proofs.Ytmjbpgnjgblnmaa
namespace Go.Proofs.Ytmjbpgnjgblnmaa
end Go.Proofs.Ytmjbpgnjgblnmaa
namespace Go.Proofs.Ytmjbpgnjgblnmaa
structure RS where
 i : Nat
 path : List (Nat × Nat)
 ser : Nat
 paths : List (List (Nat × Nat))
 last : List (Nat × Nat)
 e : Int
def opR (k : Nat) (s : RS) : RS := if s.e = 0 then { s with path := s.path ++ [(k, s.ser + 1)], ser := s.ser + 1 } else s
def clR (s : RS) : RS := if s.e = 0 then { s with path := s.path.dropLast } else s
def badR (e : Int) (s : RS) : RS := { s with path := [], ser := 0, e := e }
def wrR (l : List Tk) (s : RS) : RS := if s.e = 0 then badR (if s.i < l.length then 120 else 121) s else s
def cdR (l : List Tk) (s : RS) (x : ByteArray) : Bool := s.e == 0 && (match l[s.i]? with
 | some t => decide (codeOf t = x)
 | none => false)
def tkR (l : List Tk) (all : Bool) (right : Bool) (s : RS) : RS :=
 if right = true then (if 1000 < s.path.length then badR 122 s else
  { s with i := s.i + 1, paths := if all = true ∨ s.i + 1 = l.length then s.paths ++ [s.path] else s.paths, last := if all = true ∨ s.i + 1 = l.length then s.path else s.last }) else wrR l s
def effR (q : List WT × RS) : Eff → List WT × RS
 | .push w => (w ++ q.1, q.2)
 | .opn k w => (w ++ .fin k :: q.1, opR k q.2)
def effsR (q : List WT × RS) (l : List Eff) : List WT × RS := l.foldl effR q
def fitR (s : RS) : Prop := s.ser ≤ 1099511627776 ∧ 0 < s.path.length
instance (s : RS) : Decidable (fitR s) := by unfold fitR; infer_instance
def rrun (l : List Tk) (all : Bool) : Nat → List WT → RS → Option RS
 | 0, _, s => if s.e ≠ 0 then some s else none
 | n + 1, T, s => if s.e ≠ 0 then some s else if fitR s then (match T with
  | [] => some s
  | .word x :: r => rrun l all n r (tkR l all (cdR l s x) s)
  | .fin k :: r => if s.path.length ≤ 1 then none else rrun l all n r (clR s)
  | .rule f :: r => match f.expand (cAt l s.i) with
   | none => some (wrR l s)
   | some e => rrun l all n (effsR (r, s) e).1 (effsR (r, s) e).2) else none
theorem rrun_succ (l : List Tk) (all : Bool) (n : Nat) (T : List WT) (s : RS) : rrun l all (n + 1) T s = if s.e ≠ 0 then some s else if fitR s then (match T with
  | [] => some s
  | .word x :: r => rrun l all n r (tkR l all (cdR l s x) s)
  | .fin k :: r => if s.path.length ≤ 1 then none else rrun l all n r (clR s)
  | .rule f :: r => match f.expand (cAt l s.i) with
   | none => some (wrR l s)
   | some e => rrun l all n (effsR (r, s) e).1 (effsR (r, s) e).2) else none := by
 cases T with
 | nil => rw [rrun]
 | cons x T => cases x <;> rw [rrun]
theorem rrun_wrong {l : List Tk} {all : Bool} {n : Nat} {T : List WT} {s : RS} (he : s.e ≠ 0) : rrun l all n T s = some s := by
 cases n with
 | zero => rw [rrun, if_pos he]
 | succ n => rw [rrun_succ, if_pos he]
theorem rrun_bad {l : List Tk} {all : Bool} {n : Nat} {T : List WT} {s r : RS} (he : s.e ≠ 0) (h : rrun l all n T s = some r) : r = s := by
 rw [rrun_wrong he] at h; cases h; rfl
theorem rrun_pos {l : List Tk} {all : Bool} {n : Nat} {T : List WT} {s r : RS} (he : s.e = 0) (h : rrun l all n T s = some r) : ∃ m, n = m + 1 := by
 cases n with
 | zero => rw [rrun, if_neg (by rw [he]; exact fun h => h rfl)] at h; cases h
 | succ n => exact ⟨n, rfl⟩
theorem wrR_bad {l : List Tk} {s : RS} (he : s.e ≠ 0) : wrR l s = s := if_neg he
theorem wrR_e {l : List Tk} {s : RS} : (wrR l s).e ≠ 0 := by
 unfold wrR
 split
 ·unfold badR; dsimp only; split <;> decide
 ·assumption
theorem rrun_mono (l : List Tk) (all : Bool) : ∀ (n : Nat) (T : List WT) (s r : RS) (k : Nat), rrun l all n T s = some r → rrun l all (n + k) T s = some r
 | 0, T, s, r, k, h => by
  by_cases he : s.e ≠ 0
  ·rw [rrun_bad he h]; exact rrun_wrong he
  ·rw [rrun, if_neg he] at h; cases h
 | n + 1, T, s, r, k, h => by
  rw [show n + 1 + k = (n + k) + 1 by omega]
  rw [rrun_succ] at h ⊢
  by_cases he : s.e ≠ 0
  ·rw [if_pos he] at h ⊢; exact h
  ·rw [if_neg he] at h ⊢
   by_cases hf : fitR s
   ·rw [if_pos hf] at h ⊢
    cases T with
    | nil => exact h
    | cons x T =>
     cases x with
     | word x => exact rrun_mono l all n _ _ r k h
     | fin j =>
      dsimp only at h ⊢
      split at h
      ·cases h
      ·rename_i hp
       rw [if_neg hp]
       exact rrun_mono l all n _ _ r k h
     | rule f =>
      dsimp only at h ⊢
      split at h
      ·exact h
      ·exact rrun_mono l all n _ _ r k h
   ·rw [if_neg hf] at h; cases h
theorem rrun_le {l : List Tk} {all : Bool} {n m : Nat} {T : List WT} {s r : RS} (h : rrun l all n T s = some r) (hm : n ≤ m) : rrun l all m T s = some r := by
 obtain ⟨k, rfl⟩ := Nat.exists_eq_add_of_le hm
 exact rrun_mono l all n T s r k h
theorem effsR_app : ∀ (e : List Eff) (T S : List WT) (s : RS), effsR (T ++ S, s) e = ((effsR (T, s) e).1 ++ S, (effsR (T, s) e).2)
 | [], T, S, s => rfl
 | .push w :: e, T, S, s => by
  have := effsR_app e (w ++ T) S s
  simp only [effsR, List.foldl, effR, List.append_assoc] at this ⊢
  exact this
 | .opn k w :: e, T, S, s => by
  have := effsR_app e (w ++ .fin k :: T) S (opR k s)
  simp only [effsR, List.foldl, effR, List.append_assoc, List.cons_append] at this ⊢
  exact this
theorem rrun_app {l : List Tk} {all : Bool} : ∀ (n : Nat) (A B : List WT) (s r : RS), rrun l all n (A ++ B) s = some r → ∃ s1, rrun l all n A s = some s1 ∧ rrun l all n B s1 = some r
 | 0, A, B, s, r, h => by
  by_cases he : s.e ≠ 0
  ·have := rrun_bad he h
   subst this
   exact ⟨r, rrun_wrong he, rrun_wrong he⟩
  ·rw [rrun, if_neg he] at h; cases h
 | n + 1, A, B, s, r, h => by
  by_cases he : s.e ≠ 0
  ·have := rrun_bad he h
   subst this
   exact ⟨r, rrun_wrong he, rrun_wrong he⟩
  ·cases A with
   | nil =>
    refine ⟨s, ?_, h⟩
    rw [List.nil_append, rrun_succ, if_neg he] at h
    rw [rrun_succ, if_neg he]
    by_cases hf : fitR s
    ·rw [if_pos hf]
    ·rw [if_neg hf] at h; cases h
   | cons x A =>
    rw [List.cons_append, rrun_succ, if_neg he] at h
    by_cases hf : fitR s
    ·rw [if_pos hf] at h
     cases x with
     | word x =>
      dsimp only at h
      obtain ⟨s1, h1, h2⟩ := rrun_app n A B _ r h
      refine ⟨s1, ?_, rrun_le h2 (Nat.le_succ n)⟩
      rw [rrun_succ, if_neg he, if_pos hf]
      exact h1
     | fin j =>
      dsimp only at h
      split at h
      ·cases h
      ·rename_i hp
       obtain ⟨s1, h1, h2⟩ := rrun_app n A B _ r h
       refine ⟨s1, ?_, rrun_le h2 (Nat.le_succ n)⟩
       rw [rrun_succ, if_neg he, if_pos hf]
       dsimp only
       rw [if_neg hp]
       exact h1
     | rule f =>
      dsimp only at h
      split at h
      ·rename_i hx
       cases h
       refine ⟨wrR l s, ?_, rrun_wrong wrR_e⟩
       rw [rrun_succ, if_neg he, if_pos hf]
       dsimp only
       rw [hx]
      ·rename_i e hx
       rw [effsR_app] at h
       obtain ⟨s1, h1, h2⟩ := rrun_app n _ B _ r h
       refine ⟨s1, ?_, rrun_le h2 (Nat.le_succ n)⟩
       rw [rrun_succ, if_neg he, if_pos hf]
       dsimp only
       rw [hx]
       exact h1
    ·rw [if_neg hf] at h; cases h
theorem rrun_fit {l : List Tk} {all : Bool} {n : Nat} {T : List WT} {s r : RS} (h : rrun l all n T s = some r) (he : s.e = 0) : fitR s := by
 obtain ⟨m, rfl⟩ := rrun_pos he h
 rw [rrun_succ, if_neg (by rw [he]; exact fun h => h rfl)] at h
 split at h
 ·assumption
 ·cases h
theorem rrun_nil {l : List Tk} {all : Bool} {n : Nat} {s r : RS} (h : rrun l all n [] s = some r) : r = s := by
 by_cases he : s.e ≠ 0
 ·exact rrun_bad he h
 ·obtain ⟨m, rfl⟩ := rrun_pos (by simpa using he) h
  rw [rrun_succ, if_neg he] at h
  split at h <;> cases h
  rfl
theorem cdR_bad {l : List Tk} {s : RS} {x : ByteArray} (he : s.e ≠ 0) : cdR l s x = false := by
 unfold cdR
 rw [beq_eq_false_iff_ne.2 he]
 rfl
theorem tk_bad {l : List Tk} {all : Bool} {s : RS} {x : ByteArray} (he : s.e ≠ 0) : tkR l all (cdR l s x) s = s := by
 unfold tkR
 rw [cdR_bad he, if_neg (by decide), wrR_bad he]
theorem cdR_at {l : List Tk} {s : RS} {x : ByteArray} (hx : x ≠ ⟨#[]⟩) (he : s.e = 0) : cdR l s x = decide (cAt l s.i = x) := by
 unfold cdR cAt
 rw [he]
 cases l[s.i]? with
 | none => simp only [beq_self_eq_true, Bool.true_and]; exact (decide_eq_false (fun h => hx h.symm)).symm
 | some t => simp
theorem cdR_true {l : List Tk} {s : RS} {x : ByteArray} (h : cdR l s x = true) : s.e = 0 ∧ ∃ t, l[s.i]? = some t ∧ codeOf t = x ∧ cAt l s.i = x := by
 unfold cdR at h
 rw [Bool.and_eq_true] at h
 obtain ⟨h1, h2⟩ := h
 refine ⟨by simpa using h1, ?_⟩
 cases ht : l[s.i]? with
 | none => rw [ht] at h2; cases h2
 | some t =>
  rw [ht] at h2
  have h3 : codeOf t = x := by simpa using h2
  exact ⟨t, rfl, h3, by unfold cAt; rw [ht]; exact h3⟩
theorem run_w {l : List Tk} {all : Bool} {n : Nat} {x : ByteArray} {S : List WT} {s r : RS} (h : rrun l all n (.word x :: S) s = some r) : rrun l all n S (tkR l all (cdR l s x) s) = some r := by
 by_cases he : s.e ≠ 0
 ·rw [tk_bad he]
  have := rrun_bad he h
  subst this
  exact rrun_wrong he
 ·obtain ⟨m, rfl⟩ := rrun_pos (by simpa using he) h
  rw [rrun_succ, if_neg he] at h
  split at h
  ·exact rrun_le h (Nat.le_succ m)
  ·cases h
theorem run_w1 {l : List Tk} {all : Bool} {n : Nat} {x : ByteArray} {s r : RS} (h : rrun l all n [.word x] s = some r) : r = tkR l all (cdR l s x) s := rrun_nil (run_w h)
theorem opR_bad {k : Nat} {s : RS} (he : s.e ≠ 0) : opR k s = s := if_neg he
theorem clR_bad {s : RS} (he : s.e ≠ 0) : clR s = s := if_neg he
end Go.Proofs.Ytmjbpgnjgblnmaa
namespace Go.Proofs.Ytmjbpgnjgblnmaa
theorem effs_evsS : ∀ (e : List Eff) (T : List WT) (v : List (Nat × Nat)) (d : Int), effs ⟨T, v, d⟩ e = ⟨(effs ⟨T, [], d⟩ e).todo, v ++ (effs ⟨T, [], d⟩ e).evs, (effs ⟨T, [], d⟩ e).depth⟩
 | [], T, v, d => by simp [effs]
 | .push w :: e, T, v, d => by
  have := effs_evsS e (w ++ T) v d
  simp only [effs, List.foldl, Eff.act] at this ⊢
  exact this
 | .opn k w :: e, T, v, d => by
  have h1 := effs_evsS e (w ++ .fin k :: T) (v ++ [(1, k)]) (d + 1)
  have h2 := effs_evsS e (w ++ .fin k :: T) [(1, k)] (d + 1)
  simp only [effs, List.foldl, Eff.act, List.nil_append] at h1 h2 ⊢
  rw [h1, h2]
  simp only [List.append_assoc]
theorem effs_both (e : List Eff) (T S : List WT) (v : List (Nat × Nat)) (d : Int) : effs ⟨T ++ S, v, d⟩ e = ⟨(effs ⟨T, [], d⟩ e).todo ++ S, v ++ (effs ⟨T, [], d⟩ e).evs, (effs ⟨T, [], d⟩ e).depth⟩ := by
 rw [effs_app, effs_evsS e T v d]
def LastW (T : List WT) : Prop := T = [] ∨ ∃ U x, T = U ++ [.word x]
end Go.Proofs.Ytmjbpgnjgblnmaa
namespace Go.Proofs.Ytmjbpgnjgblnmaa
def evR (q : List (Nat × Nat) × Nat) (v : Nat × Nat) : List (Nat × Nat) × Nat := if v.1 = 3 then (q.1.dropLast, q.2) else (q.1 ++ [(v.2, q.2 + 1)], q.2 + 1)
def pathR (q : List (Nat × Nat) × Nat) (evs : List (Nat × Nat)) : List (Nat × Nat) × Nat := evs.foldl evR q
def setQ (s : RS) (q : List (Nat × Nat) × Nat) : RS := { s with path := q.1, ser := q.2 }
theorem pathR_app (q : List (Nat × Nat) × Nat) (a b : List (Nat × Nat)) : pathR q (a ++ b) = pathR (pathR q a) b := by
 unfold pathR; rw [List.foldl_append]
theorem effsR_eq : ∀ (e : List Eff) (T : List WT) (s : RS) (d : Int), s.e = 0 → effsR (T, s) e = ((effs ⟨T, [], d⟩ e).todo, setQ s (pathR (s.path, s.ser) (effs ⟨T, [], d⟩ e).evs))
 | [], T, s, d, he => rfl
 | .push w :: e, T, s, d, he => by
  have := effsR_eq e (w ++ T) s d he
  simp only [effsR, List.foldl, effR, effs, Eff.act] at this ⊢
  exact this
 | .opn k w :: e, T, s, d, he => by
  have h1 := effsR_eq e (w ++ .fin k :: T) (opR k s) (d + 1) (by unfold opR; rw [if_pos he]; exact he)
  have h2 := effs_evsS e (w ++ .fin k :: T) [(1, k)] (d + 1)
  simp only [effsR, List.foldl, effR, effs, Eff.act, List.nil_append] at h1 h2 ⊢
  rw [h1, h2]
  dsimp only
  rw [pathR_app]
  unfold opR setQ
  rw [if_pos he]
  rfl
theorem exp_inv {f : RId} {c : ByteArray} {e : List Eff} (h : f.expand c = some e) (T : List WT) (d : Int) (q : List (Nat × Nat) × Nat) :
  (fins (effs ⟨T, [], d⟩ e).todo).length + q.1.length = (fins T).length + (pathR q (effs ⟨T, [], d⟩ e).evs).1.length ∧ (effs ⟨T, [], d⟩ e).depth + q.1.length = d + (pathR q (effs ⟨T, [], d⟩ e).evs).1.length ∧ (pathR q (effs ⟨T, [], d⟩ e).evs).2 ≤ q.2 + 1 := by
 cases f <;> simp only [RId.expand] at h
 all_goals (repeat' split at h)
 all_goals first | (cases h; done) | cases h
 all_goals (simp [effs, Eff.act, fins, pathR, evR])
 all_goals omega
theorem len_ok {l : List Tk} {all : Bool} {m : Nat} {s : RS} {T : List WT} {f : RId} {e : List Eff} {r : RS} (he : s.e = 0) (hf : fitR s) (hx : f.expand (cAt l s.i) = some e) (h : rrun l all m (effsR (T, s) e).1 (effsR (T, s) e).2 = some r) : rrun l all (m + 1) (.rule f :: T) s = some r := by
 rw [rrun_succ, if_neg (by rw [he]; decide), if_pos hf]
 dsimp only
 rw [hx]
 exact h
theorem none_ok {l : List Tk} {all : Bool} {s : RS} {T : List WT} {f : RId} (he : s.e = 0) (hf : fitR s) (hx : f.expand (cAt l s.i) = none) : rrun l all 1 (.rule f :: T) s = some (wrR l s) := by
 rw [rrun_succ, if_neg (by rw [he]; decide), if_pos hf]
 dsimp only
 rw [hx]
theorem fin_ok {l : List Tk} {all : Bool} {m : Nat} {s : RS} {T : List WT} {k : Nat} {r : RS} (he : s.e = 0) (hf : fitR s) (hp : ¬ s.path.length ≤ 1) (h : rrun l all m T (clR s) = some r) : rrun l all (m + 1) (.fin k :: T) s = some r := by
 rw [rrun_succ, if_neg (by rw [he]; decide), if_pos hf]
 dsimp only
 rw [if_neg hp]
 exact h
theorem word_bad {l : List Tk} {all : Bool} {s : RS} {T : List WT} {x : ByteArray} (he : s.e = 0) (hf : fitR s) (hx : cdR l s x = false) : rrun l all 2 (.word x :: T) s = some (wrR l s) := by
 rw [rrun_succ, if_neg (by rw [he]; decide), if_pos hf]
 dsimp only
 rw [hx]
 exact rrun_wrong wrR_e
theorem wrR_set {l : List Tk} {s : RS} {q : List (Nat × Nat) × Nat} (he : s.e = 0) : wrR l (setQ s q) = badR (if s.i < l.length then 120 else 121) s := by
 unfold wrR
 rw [if_pos (show (setQ s q).e = 0 from he)]
 rfl
theorem fins_w (x : ByteArray) : ∀ U : List WT, fins (U ++ [.word x]) = fins U
 | [] => rfl
 | .word y :: U => by simp only [List.cons_append, fins]; exact fins_w x U
 | .rule y :: U => by simp only [List.cons_append, fins]; exact fins_w x U
 | .fin y :: U => by simp only [List.cons_append, fins]; rw [fins_w x U]
theorem rd_word {l : List Tk} {all : Bool} {t : Tk} {s0 : RS} (hi : l[s0.i]? = some t) (he : s0.e = 0) (q0 : List (Nat × Nat) × Nat) : ∀ (n : Nat) (U : List WT) (x : ByteArray) (evs : List (Nat × Nat)) (d : Int) (b : Bool) (st : PSt),
  turns (codeOf t) n ⟨U ++ [.word x, .fin 1], evs, d⟩ = some (b, st) → (pathR q0 evs).2 + n ≤ 1099511627776 → (fins U).length < (pathR q0 evs).1.length → d = (pathR q0 evs).1.length →
  (b = false ∧ ∃ m, rrun l all m (U ++ [.word x]) (setQ s0 (pathR q0 evs)) = some (badR 120 s0)) ∨
  (b = true ∧ ∃ T', st.todo = T' ++ [.fin 1] ∧ LastW T' ∧ (fins T').length < (pathR q0 st.evs).1.length ∧ st.depth = (pathR q0 st.evs).1.length ∧ (pathR q0 st.evs).2 ≤ (pathR q0 evs).2 + n ∧
   ∀ m r, rrun l all m (.word (codeOf t) :: T') (setQ s0 (pathR q0 st.evs)) = some r → ∃ m', rrun l all m' (U ++ [.word x]) (setQ s0 (pathR q0 evs)) = some r)
 | 0, U, x, evs, d, b, st, h, hR, hF, hd => by simp [turns] at h
 | n + 1, U, x, evs, d, b, st, h, hR, hF, hd => by
  have hil : s0.i < l.length := (List.getElem?_eq_some_iff.1 hi).1
  have hc : cAt l s0.i = codeOf t := by unfold cAt; rw [hi]
  have hfit : fitR (setQ s0 (pathR q0 evs)) := by unfold fitR setQ; dsimp only; omega
  have hw : wrR l (setQ s0 (pathR q0 evs)) = badR 120 s0 := by rw [wrR_set he, if_pos hil]
  have hcd : ∀ y, cdR l (setQ s0 (pathR q0 evs)) y = decide (codeOf t = y) := fun y => by
   unfold cdR
   rw [show (setQ s0 (pathR q0 evs)).i = s0.i from rfl, hi, show (setQ s0 (pathR q0 evs)).e = 0 from he]
   rfl
  rw [turns] at h
  cases U with
  | nil =>
   rw [List.nil_append] at h ⊢
   simp only [turn] at h
   by_cases hx : x = codeOf t
   ·rw [if_pos hx] at h
    simp only [Option.some.injEq, Prod.mk.injEq] at h
    obtain ⟨rfl, rfl⟩ := h
    refine .inr ⟨rfl, [], rfl, .inl rfl, hF, hd, by dsimp only; omega, fun m r hr => ⟨m, ?_⟩⟩
    rw [hx]
    exact hr
   ·rw [if_neg hx] at h
    simp only [Option.some.injEq, Prod.mk.injEq] at h
    obtain ⟨rfl, rfl⟩ := h
    refine .inl ⟨rfl, 2, ?_⟩
    rw [← hw]
    exact word_bad he hfit (by rw [hcd]; exact decide_eq_false (fun e => hx e.symm))
  | cons y U =>
   rw [List.cons_append] at h ⊢
   cases y with
   | word y =>
    simp only [turn] at h
    by_cases hx : y = codeOf t
    ·rw [if_pos hx] at h
     simp only [Option.some.injEq, Prod.mk.injEq] at h
     obtain ⟨rfl, rfl⟩ := h
     refine .inr ⟨rfl, U ++ [.word x], by simp, .inr ⟨U, x, rfl⟩, ?_, hd, by dsimp only; omega, fun m r hr => ⟨m, ?_⟩⟩
     ·rw [fins_w]; simpa [fins] using hF
     ·rw [hx]; exact hr
    ·rw [if_neg hx] at h
     simp only [Option.some.injEq, Prod.mk.injEq] at h
     obtain ⟨rfl, rfl⟩ := h
     refine .inl ⟨rfl, 2, ?_⟩
     rw [← hw]
     exact word_bad he hfit (by rw [hcd]; exact decide_eq_false (fun e => hx e.symm))
   | fin k =>
    simp only [turn] at h
    have hpe : pathR q0 (evs ++ [(3, k)]) = ((pathR q0 evs).1.dropLast, (pathR q0 evs).2) := by rw [pathR_app]; rfl
    have hcl : clR (setQ s0 (pathR q0 evs)) = setQ s0 (pathR q0 (evs ++ [(3, k)])) := by
     rw [hpe]; unfold clR; rw [if_pos (show (setQ s0 (pathR q0 evs)).e = 0 from he)]; rfl
    have hF' : (fins U).length + 1 < (pathR q0 evs).1.length := by simpa [fins] using hF
    have hne : ¬ (setQ s0 (pathR q0 evs)).path.length ≤ 1 := by
     show ¬ (pathR q0 evs).1.length ≤ 1
     omega
    rcases rd_word hi he q0 n U x (evs ++ [(3, k)]) (d - 1) b st h (by rw [hpe]; dsimp only; omega) (by rw [hpe]; dsimp only; rw [List.length_dropLast]; omega) (by rw [hpe]; dsimp only; rw [List.length_dropLast]; omega) with ⟨hb, m, h1⟩ | ⟨hb, T', h1, h2, h3, h4, h5, h6⟩
    ·exact .inl ⟨hb, m + 1, fin_ok he hfit hne (by rw [hcl]; exact h1)⟩
    ·refine .inr ⟨hb, T', h1, h2, h3, h4, by rw [hpe] at h5; dsimp only at h5; omega, fun m r hr => ?_⟩
     obtain ⟨m', hm⟩ := h6 m r hr
     exact ⟨m' + 1, fin_ok he hfit hne (by rw [hcl]; exact hm)⟩
   | rule f =>
    simp only [turn] at h
    cases hx : f.expand (codeOf t) with
    | none =>
     rw [hx] at h
     simp only [Option.some.injEq, Prod.mk.injEq] at h
     obtain ⟨rfl, rfl⟩ := h
     refine .inl ⟨rfl, 1, ?_⟩
     rw [← hw]
     exact none_ok he hfit (by rw [show (setQ s0 (pathR q0 evs)).i = s0.i from rfl, hc]; exact hx)
    | some e =>
     rw [hx] at h
     dsimp only at h
     rw [effs_both] at h
     obtain ⟨b1, b2, b3⟩ := exp_inv hx U d (pathR q0 evs)
     have hq := effsR_eq e U (setQ s0 (pathR q0 evs)) d he
     rw [show ((setQ s0 (pathR q0 evs)).path, (setQ s0 (pathR q0 evs)).ser) = pathR q0 evs from rfl] at hq
     have hqa : effsR (U ++ [.word x], setQ s0 (pathR q0 evs)) e = ((effs ⟨U, [], d⟩ e).todo ++ [.word x], setQ s0 (pathR q0 (evs ++ (effs ⟨U, [], d⟩ e).evs))) := by
      rw [effsR_app, hq, pathR_app]; rfl
     generalize effs ⟨U, [], d⟩ e = E at h b1 b2 b3 hqa
     rw [← pathR_app] at b1 b2 b3
     have hF' : (fins U).length < (pathR q0 evs).1.length := by simpa [fins] using hF
     have hst : ∀ m r, rrun l all m (E.todo ++ [.word x]) (setQ s0 (pathR q0 (evs ++ E.evs))) = some r → rrun l all (m + 1) (.rule f :: (U ++ [.word x])) (setQ s0 (pathR q0 evs)) = some r := fun m r hr =>
      len_ok he hfit (by rw [show (setQ s0 (pathR q0 evs)).i = s0.i from rfl, hc]; exact hx) (by rw [hqa]; exact hr)
     rcases rd_word hi he q0 n E.todo x (evs ++ E.evs) E.depth b st h (by omega) (by omega) (by omega) with ⟨hb, m, h1⟩ | ⟨hb, T', h1, h2, h3, h4, h5, h6⟩
     ·exact .inl ⟨hb, m + 1, hst m _ h1⟩
     ·refine .inr ⟨hb, T', h1, h2, h3, h4, by omega, fun m r hr => ?_⟩
      obtain ⟨m', hm⟩ := h6 m r hr
      exact ⟨m' + 1, hst m' r hm⟩
theorem rd_end {l : List Tk} {all : Bool} {s0 : RS} (hi : s0.i = l.length) (he : s0.e = 0) (q0 : List (Nat × Nat) × Nat) : ∀ (n : Nat) (U : List WT) (x : ByteArray) (evs : List (Nat × Nat)) (d : Int) (b : Bool) (st : PSt),
  turns ⟨#[]⟩ n ⟨U ++ [.word x], evs, d⟩ = some (b, st) → (pathR q0 evs).2 + n ≤ 1099511627776 → (fins U).length < (pathR q0 evs).1.length → ∃ m, rrun l all m (U ++ [.word x]) (setQ s0 (pathR q0 evs)) = some (badR 121 s0)
 | 0, U, x, evs, d, b, st, h, hR, hF => by simp [turns] at h
 | n + 1, U, x, evs, d, b, st, h, hR, hF => by
  have hn : l[s0.i]? = none := List.getElem?_eq_none (by omega)
  have hc : cAt l s0.i = ⟨#[]⟩ := by unfold cAt; rw [hn]
  have hfit : fitR (setQ s0 (pathR q0 evs)) := by unfold fitR setQ; dsimp only; omega
  have hw : wrR l (setQ s0 (pathR q0 evs)) = badR 121 s0 := by rw [wrR_set he, if_neg (by omega)]
  have hcd : ∀ y, cdR l (setQ s0 (pathR q0 evs)) y = false := fun y => by
   unfold cdR
   rw [show (setQ s0 (pathR q0 evs)).i = s0.i from rfl, hn, Bool.and_false]
  rw [turns] at h
  cases U with
  | nil =>
   refine ⟨2, ?_⟩
   rw [← hw]
   exact word_bad he hfit (hcd _)
  | cons y U =>
   rw [List.cons_append] at h ⊢
   cases y with
   | word y =>
    refine ⟨2, ?_⟩
    rw [← hw]
    exact word_bad he hfit (hcd _)
   | fin k =>
    simp only [turn] at h
    have hpe : pathR q0 (evs ++ [(3, k)]) = ((pathR q0 evs).1.dropLast, (pathR q0 evs).2) := by rw [pathR_app]; rfl
    have hcl : clR (setQ s0 (pathR q0 evs)) = setQ s0 (pathR q0 (evs ++ [(3, k)])) := by
     rw [hpe]; unfold clR; rw [if_pos (show (setQ s0 (pathR q0 evs)).e = 0 from he)]; rfl
    have hF' : (fins U).length + 1 < (pathR q0 evs).1.length := by simpa [fins] using hF
    have hne : ¬ (setQ s0 (pathR q0 evs)).path.length ≤ 1 := by
     show ¬ (pathR q0 evs).1.length ≤ 1
     omega
    obtain ⟨m, h1⟩ := rd_end (all := all) hi he q0 n U x (evs ++ [(3, k)]) (d - 1) b st h (by rw [hpe]; dsimp only; omega) (by rw [hpe]; dsimp only; rw [List.length_dropLast]; omega)
    exact ⟨m + 1, fin_ok he hfit hne (by rw [hcl]; exact h1)⟩
   | rule f =>
    simp only [turn] at h
    cases hx : f.expand ⟨#[]⟩ with
    | none =>
     refine ⟨1, ?_⟩
     rw [← hw]
     exact none_ok he hfit (by rw [show (setQ s0 (pathR q0 evs)).i = s0.i from rfl, hc]; exact hx)
    | some e =>
     rw [hx] at h
     dsimp only at h
     rw [effs_both] at h
     obtain ⟨b1, b2, b3⟩ := exp_inv hx U d (pathR q0 evs)
     have hq := effsR_eq e U (setQ s0 (pathR q0 evs)) d he
     rw [show ((setQ s0 (pathR q0 evs)).path, (setQ s0 (pathR q0 evs)).ser) = pathR q0 evs from rfl] at hq
     have hqa : effsR (U ++ [.word x], setQ s0 (pathR q0 evs)) e = ((effs ⟨U, [], d⟩ e).todo ++ [.word x], setQ s0 (pathR q0 (evs ++ (effs ⟨U, [], d⟩ e).evs))) := by
      rw [effsR_app, hq, pathR_app]; rfl
     generalize effs ⟨U, [], d⟩ e = E at h b1 b2 b3 hqa
     rw [← pathR_app] at b1 b2 b3
     have hF' : (fins U).length < (pathR q0 evs).1.length := by simpa [fins] using hF
     obtain ⟨m, h1⟩ := rd_end (all := all) hi he q0 n E.todo x (evs ++ E.evs) E.depth b st h (by omega) (by omega)
     exact ⟨m + 1, len_ok he hfit (by rw [show (setQ s0 (pathR q0 evs)).i = s0.i from rfl, hc]; exact hx) (by rw [hqa]; exact h1)⟩
end Go.Proofs.Ytmjbpgnjgblnmaa
namespace Go.Proofs.Ytmjbpgnjgblnmaa
def numb : Nat → List Nat → List (Nat × Nat)
 | _, [] => []
 | n, k :: r => (k, n + 1) :: numb (n + 1) r
theorem numb_fst : ∀ (n : Nat) (r : List Nat), (numb n r).map Prod.fst = r
 | _, [] => rfl
 | n, k :: r => by rw [numb, List.map_cons, numb_fst]
theorem numb_snd : ∀ (n : Nat) (r : List Nat), ∀ x ∈ numb n r, n < x.2 ∧ x.2 ≤ n + r.length
 | _, [], x, hx => (by cases hx)
 | n, k :: r, x, hx => by
  rw [numb] at hx
  rcases List.mem_cons.1 hx with rfl | hx
  ·rw [List.length_cons]; dsimp only; omega
  ·have := numb_snd (n + 1) r x hx
   rw [List.length_cons]; omega
theorem pathR_cl : ∀ (cl : List Nat) (q : List (Nat × Nat) × Nat), pathR q (cl.map (fun k => (3, k))) = (q.1.take (q.1.length - cl.length), q.2)
 | [], q => by simp [pathR]
 | k :: cl, q => by
  have h := pathR_cl cl (q.1.dropLast, q.2)
  rw [List.map_cons]
  show pathR (evR q (3, k)) _ = _
  rw [show evR q (3, k) = (q.1.dropLast, q.2) from rfl, h]
  dsimp only
  rw [List.length_dropLast, List.dropLast_eq_take, List.take_take, List.length_cons]
  congr 2
  omega
theorem pathR_op : ∀ (op : List Nat) (q : List (Nat × Nat) × Nat), pathR q (op.map (fun k => (1, k))) = (q.1 ++ numb q.2 op, q.2 + op.length)
 | [], q => by simp [pathR, numb]
 | k :: op, q => by
  rw [List.map_cons]
  show pathR (evR q (1, k)) _ = _
  rw [show evR q (1, k) = (q.1 ++ [(k, q.2 + 1)], q.2 + 1) from rfl, pathR_op op]
  dsimp only
  rw [List.length_cons, numb, List.append_assoc, List.cons_append, List.nil_append]
  congr 1
  omega
theorem pathR_evs (cl op : List Nat) (q : List (Nat × Nat) × Nat) : pathR q (cl.map (fun k => (3, k)) ++ op.map (fun k => (1, k))) = (q.1.take (q.1.length - cl.length) ++ numb q.2 op, q.2 + op.length) := by
 rw [pathR_app, pathR_cl, pathR_op]
def tookR (all : Bool) (N : Nat) (s : RS) (evs : List (Nat × Nat)) : RS :=
 { i := s.i + 1, path := (pathR (s.path, s.ser) evs).1, ser := (pathR (s.path, s.ser) evs).2, paths := if all = true ∨ s.i + 1 = N then s.paths ++ [(pathR (s.path, s.ser) evs).1] else s.paths, last := if all = true ∨ s.i + 1 = N then (pathR (s.path, s.ser) evs).1 else s.last, e := 0 }
def rdRun (all : Bool) (N : Nat) : Par → RS → List Tk → RS
 | p, s, [] => if p.todo.length = 1 then s else badR 121 s
 | p, s, t :: r => if (token t p.todo p.depth).1 ≠ 0 then badR (token t p.todo p.depth).1 s else
  rdRun all N { p with todo := (token t p.todo p.depth).2.todo, depth := (token t p.todo p.depth).2.depth } (tookR all N s (token t p.todo p.depth).2.evs) r
theorem bad_ne {e : Int} {s : RS} (h : e ≠ 0) : ¬ ((badR e s).e = 0) := h
def endProg (l : List Tk) (s : RS) : RS := if s.e = 0 ∧ s.i < l.length then badR 120 s else s
theorem rd_all (l : List Tk) (all : Bool) (hl : l.length ≤ 4194304) (hnote : ∀ t ∈ l, isNote t = false) : ∀ (k : Nat) (T : List WT) (p : Par) (op : List Nat) (s : RS), l.length - s.i = k → s.i ≤ l.length → s.e = 0 → p.todo = T ++ [.fin 1] → LastW T → PInv p op → p.begun = true → s.path.length = op.length → s.ser ≤ 4000 * (s.i + 1) → p.todo.length ≤ 77 * (s.i + 1) →
  ∃ n r, rrun l all n T s = some r ∧ endProg l r = rdRun all l.length p s (l.drop s.i) := by
 intro k
 induction k using Nat.strongRecOn with
 | ind k ih =>
 intro T p op s hk hi he hT hLW hP hb hpl hser htl
 have hd := hP.depth
 have hmost := hP.most
 have hfins := hP.fins
 rw [if_pos hb] at hfins
 have hfT : (fins T).length + 1 = s.path.length := by
  have := congrArg List.length hfins
  rw [hT, fins_snoc, List.length_append, List.length_singleton] at this
  omega
 by_cases hil : s.i = l.length
 ·rw [hil, List.drop_length]
  rcases hLW with rfl | ⟨U, x, rfl⟩
  ·refine ⟨1, s, ?_, ?_⟩
   ·rw [rrun_succ, if_neg (by rw [he]; decide), if_pos (by unfold fitR; omega)]
   ·unfold endProg
    rw [if_neg (by omega), rdRun, if_pos (by rw [hT]; rfl)]
  ·obtain ⟨⟨b, st⟩, -, -, -, h1, -⟩ := turns_some ⟨#[]⟩ (U ++ [WT.word x]).length ⟨U ++ [WT.word x], [], p.depth⟩ rfl
   have hlen : (U ++ [WT.word x]).length + 1 = p.todo.length := by rw [hT]; simp
   obtain ⟨m, hr⟩ := rd_end (l := l) (all := all) hil he (s.path, s.ser) _ U x [] p.depth b st h1 (by show s.ser + _ ≤ _; omega) (by show _ < s.path.length; rw [fins_w] at hfT; omega)
   refine ⟨m, badR 121 s, hr, ?_⟩
   unfold endProg
   rw [if_neg (by rintro ⟨h, -⟩; exact absurd h (bad_ne (by decide))), rdRun, if_neg (by rw [hT]; simp)]
 ·have hlt : s.i < l.length := by omega
  obtain ⟨t, ht⟩ : ∃ t, l[s.i]? = some t := ⟨_, List.getElem?_eq_getElem hlt⟩
  have hdr : l.drop s.i = t :: l.drop (s.i + 1) := by
   rw [List.drop_eq_getElem_cons hlt]
   have := (List.getElem?_eq_some_iff.1 ht).2
   rw [this]
  have hnt : isNote t = false := hnote t (List.mem_of_getElem? ht)
  rw [hdr]
  have hpre : preD p = p.depth := by unfold preD; rw [if_pos hb]
  have hput : put p t = if (token t p.todo p.depth).1 ≠ 0 then ([], (token t p.todo p.depth).1, { p with todo := (token t p.todo p.depth).2.todo, wrong := (token t p.todo p.depth).1 }) else (preE p ++ (token t p.todo p.depth).2.evs.map evOf ++ [leafE t], 0, { p with todo := (token t p.todo p.depth).2.todo, depth := (token t p.todo p.depth).2.depth, begun := true }) := by
   unfold put
   simp only [hP.closed, Bool.false_eq_true, if_false, hP.wrong, ne_eq, not_true_eq_false, hnt, hpre]
  rcases hLW with rfl | ⟨U, x, rfl⟩
  ·have htk : (token t p.todo p.depth).1 = 120 := by
    rw [hT]
    rfl
   refine ⟨1, s, ?_, ?_⟩
   ·rw [rrun_succ, if_neg (by rw [he]; decide), if_pos (by unfold fitR; omega)]
   ·unfold endProg
    rw [if_pos ⟨he, hlt⟩, rdRun, if_pos (by rw [htk]; decide), htk]
  ·have hT2 : p.todo = U ++ [.word x, .fin 1] := by rw [hT, List.append_assoc]; rfl
   obtain ⟨⟨b, st⟩, -, -, -, h1, -⟩ := turns_some (codeOf t) p.todo.length ⟨p.todo, [], p.depth⟩ rfl
   have htok : token t p.todo p.depth = match (b, st) with
    | (false, s) => (120, s)
    | (true, s) => if s.todo = [] then (120, s) else if 1000 < s.depth then (122, s) else (0, s) := by
    unfold token
    rw [h1]
    cases b <;> rfl
   have hrw := rd_word (l := l) (all := all) ht he (s.path, s.ser) (p.todo.length + 7) U x [] p.depth b st (by rw [← hT2]; exact h1) (by show s.ser + _ ≤ _; omega) (by show _ < s.path.length; rw [fins_w] at hfT; omega) (by show p.depth = s.path.length; omega)
   have hs0 : setQ s (pathR (s.path, s.ser) []) = s := rfl
   rw [hs0] at hrw
   rcases hrw with ⟨rfl, m, hr⟩ | ⟨rfl, T', g1, g2, g3, g4, g5, g6⟩
   ·refine ⟨m, _, hr, ?_⟩
    unfold endProg
    rw [if_neg (by rintro ⟨h, -⟩; exact absurd h (bad_ne (by decide))), rdRun, if_pos (by rw [htok]; exact (by decide : (120 : Int) ≠ 0)), htok]
   ·have hne : ¬ st.todo = [] := by rw [g1]; simp
    have hq : setQ s (pathR (s.path, s.ser) st.evs) = { s with path := (pathR (s.path, s.ser) st.evs).1, ser := (pathR (s.path, s.ser) st.evs).2 } := rfl
    have hfit : fitR (setQ s (pathR (s.path, s.ser) st.evs)) := by
     have h5 : (pathR (s.path, s.ser) st.evs).2 ≤ s.ser + (p.todo.length + 7) := g5
     exact ⟨show (pathR (s.path, s.ser) st.evs).2 ≤ _ by omega, show 0 < (pathR (s.path, s.ser) st.evs).1.length by omega⟩
    have hcd : cdR l (setQ s (pathR (s.path, s.ser) st.evs)) (codeOf t) = true := by
     unfold cdR
     rw [show (setQ s (pathR (s.path, s.ser) st.evs)).i = s.i from rfl, ht, show (setQ s (pathR (s.path, s.ser) st.evs)).e = 0 from he]
     simp
    have hstep : ∀ m r, rrun l all m T' (tkR l all true (setQ s (pathR (s.path, s.ser) st.evs))) = some r → ∃ m', rrun l all m' (U ++ [.word x]) s = some r := fun m r hr => g6 (m + 1) r (by
     rw [rrun_succ, if_neg (by rw [show (setQ s (pathR (s.path, s.ser) st.evs)).e = 0 from he]; decide), if_pos hfit]
     dsimp only
     rw [hcd]
     exact hr)
    by_cases hdp : 1000 < st.depth
    ·have htk : (token t p.todo p.depth).1 = 122 := by rw [htok]; simp only; rw [if_neg hne, if_pos hdp]
     have htr : tkR l all true (setQ s (pathR (s.path, s.ser) st.evs)) = badR 122 s := by
      unfold tkR
      rw [if_pos rfl, if_pos (show 1000 < (setQ s (pathR (s.path, s.ser) st.evs)).path.length from (by omega : 1000 < (pathR (s.path, s.ser) st.evs).1.length))]
      rfl
     obtain ⟨m', hm⟩ := hstep 1 (badR 122 s) (by rw [htr]; exact rrun_wrong (bad_ne (by decide)))
     refine ⟨m', _, hm, ?_⟩
     unfold endProg
     rw [if_neg (by rintro ⟨h, -⟩; exact absurd h (bad_ne (by decide))), rdRun, if_pos (by rw [htk]; decide), htk]
    ·have htk : token t p.todo p.depth = (0, st) := by rw [htok]; simp only; rw [if_neg hne, if_neg hdp]
     have hput2 : (put p t).2 = (0, { p with todo := st.todo, depth := st.depth, begun := true }) := by rw [hput, htk]; rfl
     obtain ⟨op', hP', hb', -, -⟩ := put_nest hP t [] (by rw [hput2])
     have hpl2 := put_len p t
     rw [hput2] at hP' hb' hpl2
     dsimp only at hP' hb' hpl2
     have htr : tkR l all true (setQ s (pathR (s.path, s.ser) st.evs)) = tookR all l.length s st.evs := by
      unfold tkR
      rw [if_pos rfl, if_neg (show ¬ 1000 < (setQ s (pathR (s.path, s.ser) st.evs)).path.length from (by omega : ¬ 1000 < (pathR (s.path, s.ser) st.evs).1.length))]
      unfold tookR setQ
      rw [he]
     have hsr : (pathR (s.path, s.ser) st.evs).2 ≤ s.ser + 1000 := by
      obtain ⟨cl, op2, X, a1, a2, -, a4, a5, -⟩ := token_law t p.todo p.depth
      rw [htk] at a1 a2 a5
      dsimp only at a1 a2 a5
      rw [a1, pathR_evs]
      dsimp only
      obtain ⟨a6, a7⟩ := a5 rfl
      have h7 := congrArg List.length a6
      have h8 := hP'.fins
      rw [if_pos rfl] at h8
      dsimp only at h8
      rw [h8, List.length_append, List.length_reverse] at h7
      have h9 := hP'.most
      omega
     obtain ⟨n, r, hr, hS⟩ := ih (l.length - (s.i + 1)) (by omega) T' { p with todo := st.todo, depth := st.depth, begun := true } op' (tookR all l.length s st.evs) rfl (show s.i + 1 ≤ l.length by omega) rfl g1 g2 hP' rfl (by
       have h8 := hP'.depth
       dsimp only at h8
       show (pathR (s.path, s.ser) st.evs).1.length = op'.length
       omega) (by show (pathR (s.path, s.ser) st.evs).2 ≤ 4000 * (s.i + 1 + 1); omega) (by show st.todo.length ≤ 77 * (s.i + 1 + 1); omega)
     obtain ⟨m', hm⟩ := hstep n r (by rw [htr]; exact hr)
     refine ⟨m', r, hm, ?_⟩
     rw [hS, rdRun, if_neg (by rw [htk]; exact fun h => h rfl), htk]
     rw [show ({ p with todo := st.todo, depth := st.depth, begun := true } : Par) = { p with todo := st.todo, depth := st.depth } by cases p; dsimp only at hb; rw [hb]]
     rfl
end Go.Proofs.Ytmjbpgnjgblnmaa
namespace Go.Proofs.Ytmjbpgnjgblnmaa
structure QS where
 L : List Tk
 now : List (Nat × Nat)
 e : Int
 cl : Bool
def common : List (Nat × Nat) → List (Nat × Nat) → Nat
 | x :: a, y :: b => if x = y then common a b + 1 else 0
 | _, _ => 0
def betw (a b : List (Nat × Nat)) : List Ev := ((a.drop (common a b)).reverse.map fun x => evOf (3, x.1)) ++ (b.drop (common a b)).map fun x => evOf (1, x.1)
def par0 : Par := { newPar with depth := 1, begun := true }
def rs0 : RS := ⟨0, [(1, 1)], 1, [], [], 0⟩
def readR (all : Bool) (l : List Tk) : RS := rdRun all l.length par0 rs0 l
def qpre (Q : QS) : List Ev := if Q.now = [] then [evOf (1, 1)] else []
def qnow (Q : QS) : List (Nat × Nat) := if Q.now = [] then [(1, 1)] else Q.now
def qput (Q : QS) (t : Tk) : List Ev × Int × QS :=
 if Q.cl then ([], 4, Q) else if Q.e ≠ 0 then ([], Q.e, Q) else
 if isNote t then (qpre Q ++ [noteE t], 0, { Q with now := qnow Q }) else
 if (readR false (Q.L ++ [t])).e = 120 ∨ (readR false (Q.L ++ [t])).e = 122 then ([], (readR false (Q.L ++ [t])).e, { Q with e := (readR false (Q.L ++ [t])).e }) else
 (qpre Q ++ betw (qnow Q) (readR false (Q.L ++ [t])).last ++ [leafE t], 0, { Q with L := Q.L ++ [t], now := (readR false (Q.L ++ [t])).last })
def qclose (Q : QS) : List Ev × Int × QS :=
 if Q.cl then ([], 4, Q) else if Q.e ≠ 0 then ([], Q.e, { Q with cl := true }) else
 if (readR false Q.L).e ≠ 0 then ([], (readR false Q.L).e, { Q with cl := true, e := (readR false Q.L).e }) else (betw Q.now [], 0, { Q with cl := true })
def rdSt : Par → List (Nat × Nat) × Nat → List Tk → Option (Par × (List (Nat × Nat) × Nat))
 | p, q, [] => some (p, q)
 | p, q, t :: r => if (token t p.todo p.depth).1 ≠ 0 then none else
  rdSt { p with todo := (token t p.todo p.depth).2.todo, depth := (token t p.todo p.depth).2.depth } (pathR q (token t p.todo p.depth).2.evs) r
theorem rdSt_snoc : ∀ (L : List Tk) (p : Par) (q : List (Nat × Nat) × Nat) (p' : Par) (q' : List (Nat × Nat) × Nat) (t : Tk), rdSt p q L = some (p', q') → (token t p'.todo p'.depth).1 = 0 →
  rdSt p q (L ++ [t]) = some ({ p' with todo := (token t p'.todo p'.depth).2.todo, depth := (token t p'.todo p'.depth).2.depth }, pathR q' (token t p'.todo p'.depth).2.evs)
 | [], p, q, p', q', t, h, h0 => by
  simp only [rdSt, Option.some.injEq, Prod.mk.injEq] at h
  obtain ⟨rfl, rfl⟩ := h
  simp [rdSt, h0]
 | u :: L, p, q, p', q', t, h, h0 => by
  rw [List.cons_append]
  rw [rdSt] at h ⊢
  split at h
  ·cases h
  ·rename_i hu
   rw [if_neg hu]
   exact rdSt_snoc L _ _ p' q' t h h0
def midR (s : RS) (i : Nat) (q : List (Nat × Nat) × Nat) : RS := { s with i := i, path := q.1, ser := q.2 }
theorem rdRun_pre (N : Nat) : ∀ (L r : List Tk) (p : Par) (s : RS) (p' : Par) (q' : List (Nat × Nat) × Nat), s.e = 0 → s.i + L.length < N → rdSt p (s.path, s.ser) L = some (p', q') →
  rdRun false N p s (L ++ r) = rdRun false N p' (midR s (s.i + L.length) q') r
 | [], r, p, s, p', q', he, hN, h => by
  simp only [rdSt, Option.some.injEq, Prod.mk.injEq] at h
  obtain ⟨rfl, rfl⟩ := h
  rfl
 | u :: L, r, p, s, p', q', he, hN, h => by
  rw [List.length_cons] at hN
  rw [rdSt] at h
  split at h
  ·cases h
  ·rename_i hu
   rw [List.cons_append, rdRun, if_neg hu]
   have ht : tookR false N s (token u p.todo p.depth).2.evs = midR s (s.i + 1) (pathR (s.path, s.ser) (token u p.todo p.depth).2.evs) := by
    unfold tookR midR
    rw [if_neg (fun h => by rcases h with h | h; (cases h); omega), if_neg (fun h => by rcases h with h | h; (cases h); omega), he]
   have hp := rdRun_pre N L r _ (midR s (s.i + 1) (pathR (s.path, s.ser) (token u p.todo p.depth).2.evs)) p' q' he (by show s.i + 1 + L.length < N; omega) h
   rw [ht, hp]
   show rdRun false N p' (midR s (s.i + 1 + L.length) q') r = _
   rw [List.length_cons, show s.i + 1 + L.length = s.i + (L.length + 1) by omega]
theorem rdRun_all (N : Nat) : ∀ (L : List Tk) (p : Par) (s : RS) (p' : Par) (q' : List (Nat × Nat) × Nat), s.e = 0 → rdSt p (s.path, s.ser) L = some (p', q') →
  (rdRun false N p s L).e = if p'.todo.length = 1 then 0 else 121
 | [], p, s, p', q', he, h => by
  simp only [rdSt, Option.some.injEq, Prod.mk.injEq] at h
  obtain ⟨rfl, rfl⟩ := h
  rw [rdRun]
  split
  ·exact he
  ·rfl
 | u :: L, p, s, p', q', he, h => by
  rw [rdSt] at h
  split at h
  ·cases h
  ·rename_i hu
   rw [rdRun, if_neg hu]
   exact rdRun_all N L _ _ p' q' rfl h
theorem common_app : ∀ (A B C : List (Nat × Nat)), common (A ++ B) (A ++ C) = A.length + common B C
 | [], B, C => by simp
 | x :: A, B, C => by
  rw [List.cons_append, List.cons_append, common, if_pos rfl, common_app A B C, List.length_cons]
  omega
theorem common_new {B : List (Nat × Nat)} {ser : Nat} (hB : ∀ x ∈ B, x.2 ≤ ser) (op : List Nat) : common B (numb ser op) = 0 := by
 cases B with
 | nil => rfl
 | cons x B =>
  cases op with
  | nil => rfl
  | cons k op =>
   rw [numb, common, if_neg]
   intro h
   have := hB x List.mem_cons_self
   rw [h] at this
   have h3 : ser + 1 ≤ ser := this
   omega
theorem betw_evs {path : List (Nat × Nat)} {ser : Nat} {cl op X : List Nat} (hs : ∀ x ∈ path, x.2 ≤ ser) (hk : path.map Prod.fst = (cl ++ X).reverse) :
  betw path (pathR (path, ser) (cl.map (fun k => (3, k)) ++ op.map (fun k => (1, k)))).1 = (cl.map (fun k => (3, k)) ++ op.map (fun k => (1, k))).map evOf := by
 rw [pathR_evs]
 dsimp only
 have hlen : path.length = cl.length + X.length := by
  have := congrArg List.length hk
  rw [List.length_map, List.length_reverse, List.length_append] at this
  exact this
 obtain ⟨A, B, hAB, hA⟩ : ∃ A B, path = A ++ B ∧ A.length = path.length - cl.length := ⟨path.take (path.length - cl.length), path.drop (path.length - cl.length), (List.take_append_drop _ _).symm, by rw [List.length_take]; omega⟩
 have hta : path.take (path.length - cl.length) = A := by
  rw [← hA, hAB]
  simp
 rw [hta]
 have hkB : B.map Prod.fst = cl.reverse := by
  rw [hAB, List.map_append, List.reverse_append] at hk
  refine (List.append_inj hk ?_).2
  rw [List.length_map, List.length_reverse, hA, hlen]
  omega
 have hc : common path (A ++ numb ser op) = A.length := by
  conv => lhs; rw [hAB]
  rw [common_app, common_new (fun x hx => hs x (by rw [hAB]; exact List.mem_append_right _ hx)), Nat.add_zero]
 unfold betw
 rw [hc]
 have hd1 : path.drop A.length = B := by rw [hAB]; simp
 rw [hd1, List.drop_left', List.map_append, List.map_map, List.map_map]
 ·congr 1
  ·rw [show (fun x : Nat × Nat => evOf (3, x.1)) = (evOf ∘ fun k => (3, k)) ∘ Prod.fst from rfl, ← List.map_map, List.map_reverse, hkB, List.reverse_reverse]
  ·rw [show (fun x : Nat × Nat => evOf (1, x.1)) = (evOf ∘ fun k => (1, k)) ∘ Prod.fst from rfl, ← List.map_map, numb_fst]
 ·rfl
theorem path_next {path : List (Nat × Nat)} {ser : Nat} {cl op X : List Nat} (hs : ∀ x ∈ path, x.2 ≤ ser) (hk : path.map Prod.fst = (cl ++ X).reverse) :
  (∀ x ∈ (pathR (path, ser) (cl.map (fun k => (3, k)) ++ op.map (fun k => (1, k)))).1, x.2 ≤ (pathR (path, ser) (cl.map (fun k => (3, k)) ++ op.map (fun k => (1, k)))).2) ∧ (pathR (path, ser) (cl.map (fun k => (3, k)) ++ op.map (fun k => (1, k)))).1.map Prod.fst = (op.reverse ++ X).reverse := by
 rw [pathR_evs]
 dsimp only
 have hlen : path.length = cl.length + X.length := by
  have := congrArg List.length hk
  rw [List.length_map, List.length_reverse, List.length_append] at this
  exact this
 refine ⟨fun x hx => ?_, ?_⟩
 ·rcases List.mem_append.1 hx with h | h
  ·have := hs x (List.mem_of_mem_take h); omega
  ·exact (numb_snd ser op x h).2
 ·rw [List.map_append, numb_fst, List.map_take, hk, List.reverse_append, List.reverse_append, List.reverse_reverse]
  congr 1
  rw [hlen]
  exact List.take_left' (by simp)
structure Sim (P : Par) (Q : QS) (op : List Nat) (p' : Par) (path : List (Nat × Nat)) (ser : Nat) : Prop where
 inv : PInv P op
 st : rdSt par0 ([(1, 1)], 1) Q.L = some (p', (path, ser))
 todo : p'.todo = P.todo
 depth : p'.depth = preD P
 now : Q.now = if P.begun then path else []
 fresh : P.begun = false → Q.L = []
 kinds : path.map Prod.fst = (fins P.todo).reverse
 sers : ∀ x ∈ path, x.2 ≤ ser
structure Agree (P : Par) (Q : QS) : Prop where
 cl : P.closed = Q.cl
 e : P.wrong = Q.e
 len : P.closed = false → P.depth = Q.now.length
 note : ∀ t ∈ Q.L, isNote t = false
 fine : P.closed = false → P.wrong = 0 → ∃ op p' path ser, Sim P Q op p' path ser
theorem agree_new : Agree newPar ⟨[], [], 0, false⟩ :=
 ⟨rfl, rfl, fun _ => rfl, fun t h => (by cases h), fun _ _ => ⟨[], par0, [(1, 1)], 1, newPar_inv, rfl, rfl, rfl, rfl, fun _ => rfl, rfl, fun x hx => by rw [List.mem_singleton.1 hx]; exact Nat.le_refl _⟩⟩
theorem Sim.len {P : Par} {Q : QS} {op : List Nat} {p' : Par} {path : List (Nat × Nat)} {ser : Nat} (H : Sim P Q op p' path ser) : path.length = (fins P.todo).length := by
 have := congrArg List.length H.kinds
 simpa using this
theorem Sim.ne {P : Par} {Q : QS} {op : List Nat} {p' : Par} {path : List (Nat × Nat)} {ser : Nat} (H : Sim P Q op p' path ser) : path ≠ [] := by
 intro h
 have h1 := H.len
 rw [h] at h1
 have h2 := H.inv.fins
 cases hb : P.begun with
 | false =>
  rw [hb, if_neg (by decide)] at h2
  rw [h2] at h1; cases h1
 | true =>
  rw [hb, if_pos rfl] at h2
  obtain ⟨r, hr⟩ := H.inv.last hb
  rw [h2, hr] at h1
  simp at h1
theorem Sim.pre {P : Par} {Q : QS} {op : List Nat} {p' : Par} {path : List (Nat × Nat)} {ser : Nat} (H : Sim P Q op p' path ser) : qpre Q = preE P ∧ qnow Q = path := by
 unfold qpre qnow preE
 have hn := H.now
 cases hb : P.begun with
 | false =>
  rw [hb, if_neg (by decide)] at hn
  rw [hn, if_pos rfl, if_pos rfl, if_neg (by decide)]
  refine ⟨rfl, ?_⟩
  have h2 := H.st
  rw [H.fresh hb, rdSt] at h2
  simp only [Option.some.injEq, Prod.mk.injEq] at h2
  exact h2.2.1
 | true =>
  rw [hb, if_pos rfl] at hn
  rw [hn, if_neg H.ne, if_neg H.ne, if_pos rfl]
  exact ⟨rfl, rfl⟩
theorem Sim.read {P : Par} {Q : QS} {op : List Nat} {p' : Par} {path : List (Nat × Nat)} {ser : Nat} (H : Sim P Q op p' path ser) (t : Tk) :
  ((token t P.todo (preD P)).1 ≠ 0 → (readR false (Q.L ++ [t])).e = (token t P.todo (preD P)).1) ∧
  ((token t P.todo (preD P)).1 = 0 → ((readR false (Q.L ++ [t])).e = 0 ∨ (readR false (Q.L ++ [t])).e = 121) ∧ (readR false (Q.L ++ [t])).last = (pathR (path, ser) (token t P.todo (preD P)).2.evs).1) := by
 have h1 := rdRun_pre (Q.L ++ [t]).length Q.L [t] par0 rs0 p' (path, ser) rfl (by rw [List.length_append]; simp [rs0]) H.st
 have h2 : readR false (Q.L ++ [t]) = rdRun false (Q.L ++ [t]).length p' (midR rs0 (rs0.i + Q.L.length) (path, ser)) [t] := h1
 rw [h2, rdRun, H.todo, H.depth]
 refine ⟨fun h => ?_, fun h => ?_⟩
 ·rw [if_pos h]; rfl
 ·rw [if_neg (by rw [h]; exact fun h => h rfl), rdRun]
  have hl : (tookR false (Q.L ++ [t]).length (midR rs0 (rs0.i + Q.L.length) (path, ser)) (token t P.todo (preD P)).2.evs).last = (pathR (path, ser) (token t P.todo (preD P)).2.evs).1 := by
   unfold tookR
   dsimp only
   rw [if_pos (.inr (by simp [midR, rs0]))]
   rfl
  split
  ·exact ⟨.inl rfl, hl⟩
  ·exact ⟨.inr rfl, hl⟩
theorem qput_agree {P : Par} {Q : QS} (H : Agree P Q) (t : Tk) : (put P t).1 = (qput Q t).1 ∧ (put P t).2.1 = (qput Q t).2.1 ∧ Agree (put P t).2.2 (qput Q t).2.2 := by
 unfold put qput
 rw [← H.cl, ← H.e]
 by_cases hc : P.closed = true
 ·rw [if_pos hc, if_pos hc]
  exact ⟨rfl, rfl, H⟩
 rw [if_neg hc, if_neg hc]
 have hcl : P.closed = false := by simpa using hc
 by_cases hw : P.wrong ≠ 0
 ·rw [if_pos hw, if_pos hw]
  exact ⟨rfl, rfl, H⟩
 have hw0 := hw
 replace hw : P.wrong = 0 := by simpa using hw
 rw [if_neg hw0, if_neg hw0]
 obtain ⟨op, p', path, ser, S⟩ := H.fine hcl hw
 obtain ⟨e1, e2⟩ := S.pre
 by_cases hn : isNote t = true
 ·rw [if_pos hn, if_pos hn, e1, e2]
  refine ⟨rfl, rfl, rfl, rfl, fun _ => ?_, H.note, fun _ _ => ?_⟩
  ·show preD P = path.length
   have h1 := S.len
   have h2 := S.inv.fins
   have h3 := S.inv.depth
   unfold preD
   cases hb : P.begun with
   | false =>
    rw [hb, if_neg (by decide)] at h2
    rw [h2] at h1
    rw [if_neg (by decide), h3, S.inv.start hb, h1]; rfl
   | true =>
    rw [hb, if_pos rfl] at h2
    rw [if_pos rfl, h3, h1, h2]
  ·obtain ⟨op', hI, hb', -, -⟩ := put_nest S.inv t [] (by unfold put; rw [if_neg hc, if_neg hw0, if_pos hn])
   have hp : (put P t).2.2 = { P with depth := preD P, begun := true } := by unfold put; rw [if_neg hc, if_neg hw0, if_pos hn]
   rw [hp] at hI
   exact ⟨op', p', path, ser, hI, S.st, S.todo, S.depth, rfl, (fun h => by cases h), S.kinds, S.sers⟩
 ·rw [if_neg hn, if_neg hn]
  obtain ⟨r1, r2⟩ := S.read t
  dsimp only
  by_cases h0 : (token t P.todo (preD P)).1 = 0
  ·obtain ⟨r3, r4⟩ := r2 h0
   rw [if_neg (by rw [h0]; exact fun h => h rfl), if_neg (by omega), e1, e2, r4]
   obtain ⟨cl, op2, X, a1, a2, -, a4, a5, -⟩ := token_law t P.todo (preD P)
   obtain ⟨a6, a7⟩ := a5 h0
   have hk : path.map Prod.fst = (cl ++ X).reverse := by rw [S.kinds, a4]
   have hb := betw_evs (op := op2) S.sers hk
   obtain ⟨n1, n2⟩ := path_next (op := op2) S.sers hk
   rw [← a1] at hb n1 n2
   rw [hb]
   have hput : put P t = (preE P ++ (token t P.todo (preD P)).2.evs.map evOf ++ [leafE t], 0, { P with todo := (token t P.todo (preD P)).2.todo, depth := (token t P.todo (preD P)).2.depth, begun := true }) := by
    unfold put
    rw [if_neg hc, if_neg hw0, if_neg hn]
    dsimp only
    rw [if_neg (by rw [h0]; exact fun h => h rfl)]
   obtain ⟨op', hI, -, -, -⟩ := put_nest S.inv t [] (by rw [hput])
   rw [hput] at hI
   have hnl : (pathR (path, ser) (token t P.todo (preD P)).2.evs).1.length = (fins (token t P.todo (preD P)).2.todo).length := by
    have := congrArg List.length n2
    rw [a6]
    rw [List.length_map, List.length_reverse] at this
    exact this
   refine ⟨rfl, rfl, rfl, rfl, fun _ => ?_, fun u hu => ?_, fun _ _ => ?_⟩
   ·show (token t P.todo (preD P)).2.depth = ((pathR (path, ser) (token t P.todo (preD P)).2.evs).1.length : Int)
    have h3 := hI.depth
    have h4 := hI.fins
    dsimp only at h3 h4
    rw [if_pos rfl] at h4
    rw [hnl, h4, h3]
   ·rcases List.mem_append.1 hu with h | h
    ·exact H.note u h
    ·rw [List.mem_singleton.1 h]; simpa using hn
   ·have hst := rdSt_snoc Q.L par0 ([(1, 1)], 1) p' (path, ser) t S.st (by rw [S.todo, S.depth]; exact h0)
    rw [S.todo, S.depth] at hst
    exact ⟨op', _, (pathR (path, ser) (token t P.todo (preD P)).2.evs).1, (pathR (path, ser) (token t P.todo (preD P)).2.evs).2, hI, hst, rfl, rfl, rfl, (fun h => by cases h), n2.trans (congrArg List.reverse a6.symm), n1⟩
  ·have h5 := r1 h0
   obtain ⟨-, -, -, -, -, -, -, -, a8⟩ := token_law t P.todo (preD P)
   rw [if_pos h0, h5, if_pos (by omega)]
   exact ⟨rfl, rfl, rfl, rfl, fun _ => H.len hcl, H.note, fun _ h => absurd h h0⟩
theorem qclose_agree {P : Par} {Q : QS} (H : Agree P Q) : (closeP P).1 = (qclose Q).1 ∧ (closeP P).2.1 = (qclose Q).2.1 ∧ Agree (closeP P).2.2 (qclose Q).2.2 := by
 unfold closeP qclose
 rw [← H.cl, ← H.e]
 by_cases hc : P.closed = true
 ·rw [if_pos hc, if_pos hc]
  exact ⟨rfl, rfl, H⟩
 rw [if_neg hc, if_neg hc]
 have hcl : P.closed = false := by simpa using hc
 by_cases hw : P.wrong ≠ 0
 ·rw [if_pos hw, if_pos hw]
  exact ⟨rfl, rfl, rfl, rfl, fun h => (by cases h), H.note, fun h => (by cases h)⟩
 have hw0 := hw
 replace hw : P.wrong = 0 := by simpa using hw
 rw [if_neg hw0, if_neg hw0]
 obtain ⟨op, p', path, ser, S⟩ := H.fine hcl hw
 have hr : (readR false Q.L).e = if p'.todo.length = 1 then 0 else 121 := rdRun_all Q.L.length Q.L par0 rs0 p' (path, ser) rfl S.st
 rw [S.todo] at hr
 by_cases h1 : P.todo.length = 1
 ·rw [if_pos h1] at hr
  rw [if_neg (by omega), hr, if_neg (fun h => h rfl)]
  have hb : P.begun = true := by
   cases hb : P.begun with
   | true => rfl
   | false => exact absurd h1 (S.inv.fresh hb)
  have hnow := S.now
  rw [hb, if_pos rfl] at hnow
  obtain ⟨l, hl⟩ := S.inv.lastf
  have hl0 : l = [] := by
   rw [hl, List.length_append] at h1
   exact List.length_eq_zero_iff.1 (by simpa using h1)
  have hk := S.kinds
  rw [hl, hl0] at hk
  obtain ⟨s, hs⟩ : ∃ s, path = [(1, s)] := by
   match path, hk with
   | [(a, s)], hk => exact ⟨s, by simp [fins] at hk; rw [hk]⟩
   | [], hk => simp [fins] at hk
   | _ :: _ :: _, hk => simp [fins] at hk
  rw [hnow, hs]
  exact ⟨rfl, rfl, rfl, rfl, fun h => (by cases h), H.note, fun h => (by cases h)⟩
 ·rw [if_neg h1] at hr
  rw [if_pos h1, hr, if_pos (by decide)]
  exact ⟨rfl, rfl, rfl, rfl, fun h => (by cases h), H.note, fun h => (by cases h)⟩
theorem read_run (all : Bool) (l : List Tk) (hl : l.length ≤ 4194304) (hnote : ∀ t ∈ l, isNote t = false) : ∃ n r, rrun l all n [.word ⟨#[112, 114, 111, 103, 114, 97, 109]⟩, .word ⟨#[64, 110, 97, 109, 101]⟩, .word ⟨#[59]⟩, .rule .r_block, .word ⟨#[46]⟩] (opR 1 ⟨0, [], 0, [], [], 0⟩) = some r ∧ endProg l r = readR all l := by
 have hI : PInv par0 [1] := ⟨rfl, rfl, rfl, fun h => (by cases h), fun _ => ⟨[], rfl⟩, rfl, by decide, newPar_inv.lastf, fun h => (by cases h)⟩
 obtain ⟨n, r, h1, h2⟩ := rd_all l all hl hnote l.length [.word ⟨#[112, 114, 111, 103, 114, 97, 109]⟩, .word ⟨#[64, 110, 97, 109, 101]⟩, .word ⟨#[59]⟩, .rule .r_block, .word ⟨#[46]⟩] par0 [1] rs0 (by simp [rs0]) (Nat.zero_le _) rfl rfl (.inr ⟨[.word ⟨#[112, 114, 111, 103, 114, 97, 109]⟩, .word ⟨#[64, 110, 97, 109, 101]⟩, .word ⟨#[59]⟩, .rule .r_block], _, rfl⟩) hI rfl rfl (by decide) (by decide)
 exact ⟨n, r, h1, h2⟩
end Go.Proofs.Ytmjbpgnjgblnmaa
namespace Go.Proofs.Ytmjbpgnjgblnmaa
open Go
section
variable {P : Program} {ops : Array Oper} {Q : Exit → Act → World → Prop} {md : Region.Mode} {S : World → Prop} {early : Nat → Bool}
theorem hnot_of {i j : Nat} {listed : Array Bool} {oj : Oper} (hr : i ∈ Region.ready md ops listed) (hall : ∀ e ∈ oj.after, Region.binds md e = true → listed.getD e.on false = true) : ∀ e ∈ oj.after, Region.binds md e = true → e.on ≠ i := fun e he hb heq => by
 have h1 := hall e he hb
 have h0 := (mem_ready.1 hr).1
 rw [heq] at h1
 rcases Nat.lt_or_ge i listed.size with h' | h'
 ·simp [h'] at h0 h1; rw [h0] at h1; cases h1
 ·simp [Array.getElem?_eq_none h'] at h1
def allEarly (md : Region.Mode) (ops : Array Oper) (early : Nat → Bool) (listed : Array Bool) (i : Nat) : Bool :=
 (List.range ops.size).all fun j => j == i || listed.getD j true || early j || match ops[j]? with
  | some oj => oj.after.any (fun e => Region.binds md e && e.on == i)
  | none => true
theorem allEarly_spec {i : Nat} {listed : Array Bool} (h : allEarly md ops early listed i = true) (j : Nat) (oj : Oper)
  (hj : ops[j]? = some oj) (hne : j ≠ i) (hun : listed.getD j true = false) (hno : ∀ e ∈ oj.after, Region.binds md e = true → e.on ≠ i) : early j = true := by
 simp only [allEarly, List.all_eq_true, List.mem_range] at h
 have h1 := h j (Array.getElem?_eq_some_iff.1 hj).1
 simp only [hj, Bool.or_eq_true, beq_iff_eq, hne, false_or, hun, Bool.false_eq_true] at h1
 rcases h1 with h1 | h1
 ·exact h1
 ·obtain ⟨e, he, hb⟩ := Array.any_eq_true'.1 h1
  simp only [Bool.and_eq_true, beq_iff_eq] at hb
  exact absurd hb.2 (hno e he hb.1)
end
end Go.Proofs.Ytmjbpgnjgblnmaa
namespace Go.Proofs.Ytmjbpgnjgblnmaa
open Go
section
variable {P : Program} {ops : Array Oper} {Q : Exit → Act → World → Prop} {md : Region.Mode} {S : World → Prop} {early : Nat → Bool}
def opP (P : Program) (ops : Array Oper) (Q : Exit → Act → World → Prop) (i : Nat) (K : Act → World → Prop) (a : Act) (w : World) : Prop :=
 match ops[i]? with
 | none => K a w
 | some o => if Region.wanted o (yielded ops a.tmps) then o.wp P a w K Q else K (a.put o.dst undef) w
theorem opP_mono {i : Nat} {a : Act} {w : World} {K K' : Act → World → Prop} (h : ∀ a w, K a w → K' a w) (hh : opP P ops Q i K a w) : opP P ops Q i K' a w := by
 unfold opP at *
 split
 ·exact h _ _ (by simpa [*] using hh)
 ·rename_i o ho
  simp only [ho] at hh
  split
  ·rename_i hw; rw [if_pos hw] at hh; exact Oper.wp_mono h hh
  ·rename_i hw; rw [if_neg hw] at hh; exact h _ _ hh
theorem opP_wpOp {i : Nat} {K : Act → World → Prop} {a : Act} {w : World} (h : opP P ops Q i K a w) : wpOp P ops Q i K a w := by
 unfold opP at h
 unfold wpOp
 split
 ·simpa [*] using h
 ·rename_i o ho
  simp only [ho] at h
  split
  ·rename_i hw; rw [if_pos hw] at h; exact .inl h
  ·rename_i hw; rw [if_neg hw] at h; exact h
theorem yields_opP {i : Nat} {o : Oper} {v : Value} {a : Act} (hi : ops[i]? = some o) (hy : YieldsIf P ops S o v a) {K : Act → World → Prop} {w : World} (hS : S w) (h : K (a.put o.dst v) w) : opP P ops Q i K a w := by
 unfold opP
 simp only [hi]
 rcases hy with ⟨hw, hv⟩ | ⟨hw, rfl⟩
 ·simp only [hw, if_true, Oper.wp, hv w hS, Oper.upon]; exact h
 ·simp only [hw, Bool.false_eq_true, if_false]; exact h
theorem opP_put {j : Nat} {oi oj : Oper} {v : Value} (hj : ops[j]? = some oj) (hap : oi.apart ops oj = true)
  (hsi : ∀ cs b, oi.op ≠ .select cs b) (hsj : ∀ cs b, oj.op ≠ .select cs b)
  (hQ : ∀ c a w, Q (.panic c) (a.put oi.dst v) w → Q (.panic c) a w) {K : Act → World → Prop} {a : Act} {w : World}
  (hy : YieldsIf P ops S oi v a) (h : opP P ops Q j K (a.put oi.dst v) w) :
  opP P ops Q j (fun a' w' => YieldsIf P ops S oi v a' ∧ K (a'.put oi.dst v) w') a w := by
 obtain ⟨h1, h2, h3⟩ := Oper.apart_spec hap
 have keep : ∀ (a : Act), YieldsIf P ops S oi v a → ∀ u, YieldsIf P ops S oi v (a.put oj.dst u) := fun a hy u =>
  hy.of_same (execOp_put oi hsi a oj.dst u h3) (wanted_put oi a oj.dst u h3)
 have keepD : ∀ d, YieldsIf P ops S oi v { a with defers := d :: a.defers } := fun d => hy.of_same rfl rfl
 unfold opP at *
 simp only [hj] at *
 rw [wanted_put oj a oi.dst v h1] at h
 split
 ·rename_i hw
  simp only [hw, if_true] at h
  unfold Oper.wp at *
  rw [execOp_put oj hsj a oi.dst v h1] at h
  generalize (execOp a.eval oj).run P w = r at *
  cases r with
  | ok n w' =>
   cases n <;> simp only [Oper.upon] at h ⊢
   case value u => exact ⟨keep a hy u, by rw [← Act.put_comm a v u h2]; exact h⟩
   case skip => exact ⟨keep a hy _, by rw [← Act.put_comm a v undef h2]; exact h⟩
   case defer d =>
    refine ⟨keep _ (keepD d) _, ?_⟩
    rw [← Act.put_comm _ v undef h2, ← Act.put_defers]
    exact h
   case enter f args =>
    refine Calls.mono h fun e w'' he => ?_
    cases e with
    | returned u => exact ⟨keep a hy u, by rw [← Act.put_comm a v u h2]; exact he⟩
    | panicked c => exact hQ _ _ _ he
    | outgrown => exact he
   case row row args => exact Rows.mono h fun u w'' he => ⟨keep a hy u, by rw [← Act.put_comm a v u h2]; exact he⟩
  | halt x w' =>
   cases x <;> simp only [Oper.upon] at h ⊢
   case panic u => exact hQ _ _ _ h
 ·rename_i hw
  simp only [hw] at h
  exact ⟨keep a hy _, by rw [← Act.put_comm a v undef h2]; exact h⟩
def anyR (P : Program) (md : Region.Mode) (ops : Array Oper) (Q : Exit → Act → World → Prop) (S : World → Prop) (early : Nat → Bool) : Nat → Array Bool → Act → World → Prop
 | 0, listed, a, w => Region.ready md ops listed = [] ∧ Q .normal a w
 | fuel + 1, listed, a, w =>
  (Region.ready md ops listed = [] → Q .normal a w) ∧
  ∀ i ∈ Region.ready md ops listed, opP P ops Q i (fun a' w' => (early i = true → S w') ∧ anyR P md ops Q S early fuel (listed.setIfInBounds i true) a' w') a w
theorem any_of_R : ∀ (fuel : Nat) (listed : Array Bool) (a : Act) (w : World), anyR P md ops Q S early fuel listed a w → wpAny P md ops Q fuel listed a w
 | 0, _, _, _, h => h
 | fuel + 1, _, _, _, h => ⟨h.1, fun i hi => opP_wpOp (opP_mono (fun a' w' h' => any_of_R fuel _ a' w' h'.2) (h.2 i hi))⟩
theorem anyR_firstS {i : Nat} {oi : Oper} {v : Value} (hi : ops[i]? = some oi) (hsel : ∀ (j : Nat) (o : Oper) cs b, ops[j]? = some o → o.op ≠ .select cs b)
  (hQ : ∀ c a w, Q (.panic c) (a.put oi.dst v) w → Q (.panic c) a w) :
  ∀ (fuel : Nat) (listed : Array Bool) (a : Act) (w : World),
   (∀ j oj, ops[j]? = some oj → j ≠ i → listed.getD j true = false → (∀ e ∈ oj.after, Region.binds md e = true → e.on ≠ i) → oi.apart ops oj = true ∧ early j = true) →
   i ∈ Region.ready md ops listed → YieldsIf P ops S oi v a → S w →
   anyR P md ops Q S early fuel (listed.setIfInBounds i true) (a.put oi.dst v) w → anyR P md ops Q S early (fuel + 1) listed a w := by
 intro fuel
 induction fuel with
 | zero =>
  intro listed a w _ hr hy hS H
  refine ⟨fun h => (by rw [h] at hr; cases hr), fun j hj => ?_⟩
  by_cases hji : j = i
  ·subst hji; exact yields_opP hi hy hS ⟨fun _ => hS, H⟩
  ·have := ready_mono hj hji
   rw [H.1] at this
   cases this
 | succ fuel ih =>
  intro listed a w hfree hr hy hS H
  refine ⟨fun h => (by rw [h] at hr; cases hr), fun j hj => ?_⟩
  by_cases hji : j = i
  ·subst hji; exact yields_opP hi hy hS ⟨fun _ => hS, H⟩
  ·have h1 := H.2 j (ready_mono hj hji)
   obtain ⟨hjun, oj, hoj, hall⟩ := mem_ready.1 hj
   have hnot := hnot_of (j := j) hr hall
   have hf := hfree j oj hoj hji hjun hnot
   have h2 := opP_put hoj hf.1 (fun cs b => hsel i oi cs b hi) (fun cs b => hsel j oj cs b hoj) hQ hy h1
   have hfree' : ∀ k ok, ops[k]? = some ok → k ≠ i → (listed.setIfInBounds j true).getD k true = false →
     (∀ e ∈ ok.after, Region.binds md e = true → e.on ≠ i) → oi.apart ops ok = true ∧ early k = true := fun k ok hk hki hun hno => by
    refine hfree k ok hk hki ?_ hno
    by_cases hjk : j = k
    ·subst hjk; exact hjun
    ·rw [getD_set_ne true hjk] at hun; exact hun
   refine opP_mono (fun a' w' h3 => ⟨h3.2.1, ih (listed.setIfInBounds j true) a' w' hfree' (ready_mono hr (Ne.symm hji)) h3.1 (h3.2.1 hf.2) ?_⟩) h2
   rw [Array.setIfInBounds_comm _ _ hji]
   exact h3.2.2
structure AnyR (P : Program) (md : Region.Mode) (ops : Array Oper) (Q : Exit → Act → World → Prop) (S : World → Prop) (early : Nat → Bool) (fuel : Nat) (listed : Array Bool) (a : Act) (w : World) : Prop where
 out : anyR P md ops Q S early fuel listed a w
theorem anyR_take {i : Nat} {oi : Oper} {v : Value} {fuel : Nat} {listed : Array Bool} {a : Act} {w : World} (hi : ops[i]? = some oi)
  (hs : (Region.noSelect ops && Region.free md ops listed i && (Region.ready md ops listed).contains i && allEarly md ops early listed i) = true)
  (hQ : ∀ c a w, Q (.panic c) (a.put oi.dst v) w → Q (.panic c) a w) (hy : YieldsIf P ops S oi v a) (hS : S w)
  (h : AnyR P md ops Q S early fuel (listed.setIfInBounds i true) (a.put oi.dst v) w) : AnyR P md ops Q S early (fuel + 1) listed a w := by
 simp only [Bool.and_eq_true] at hs
 exact ⟨anyR_firstS hi (Region.noSelect_spec hs.1.1.1) hQ fuel listed a w (fun j oj hj hne hun hno => ⟨Region.free_spec hi hs.1.1.2 j oj hj hne hun hno, allEarly_spec hs.2 j oj hj hne hun hno⟩) (by simpa using hs.1.2) hy hS h.out⟩
def ReadyR (P : Program) (md : Region.Mode) (ops : Array Oper) (Q : Exit → Act → World → Prop) (S : World → Prop) (early : Nat → Bool) (fuel : Nat) (listed : Array Bool) (a : Act) (w : World) (rs : List Nat) : Prop :=
 ∀ i ∈ rs, opP P ops Q i (fun a' w' => (early i = true → S w') ∧ AnyR P md ops Q S early fuel (listed.setIfInBounds i true) a' w') a w
theorem ReadyR.nil {fuel : Nat} {listed : Array Bool} {a : Act} {w : World} : ReadyR P md ops Q S early fuel listed a w [] := fun _ h => by cases h
theorem ReadyR.cons {fuel : Nat} {listed : Array Bool} {a : Act} {w : World} {i : Nat} {o : Oper} {rs : List Nat} (ho : ops[i]? = some o)
  (h : ∀ K' : Act → World → Prop, Shut (∀ a w, (early i = true → S w) → AnyR P md ops Q S early fuel (listed.setIfInBounds i true) a w → K' a w) → if Region.wanted o (yielded ops a.tmps) = true then Oper.wp P o a w K' Q else K' (a.put o.dst undef) w)
  (hs : ReadyR P md ops Q S early fuel listed a w rs) : ReadyR P md ops Q S early fuel listed a w (i :: rs) := fun j hj => by
 rcases List.mem_cons.1 hj with rfl | hj
 ·have := h (fun a' w' => (early j = true → S w') ∧ AnyR P md ops Q S early fuel (listed.setIfInBounds j true) a' w') (fun a w hS hW => ⟨hS, hW⟩)
  unfold opP
  rw [ho]
  exact this
 ·exact hs j hj
theorem anyR_ready {rs : List Nat} {fuel : Nat} {listed : Array Bool} {a : Act} {w : World} (hr : Region.ready md ops listed = rs) (hne : rs ≠ [])
  (h : ReadyR P md ops Q S early fuel listed a w rs) : AnyR P md ops Q S early (fuel + 1) listed a w :=
 ⟨fun h0 => absurd (hr ▸ h0) hne, hr ▸ fun i hi => opP_mono (fun a' w' h' => ⟨h'.1, h'.2.out⟩) (h i hi)⟩
theorem anyR_done {listed : Array Bool} {a : Act} {w : World} (hr : Region.ready md ops listed = []) (h : Q .normal a w) : ∀ fuel, AnyR P md ops Q S early fuel listed a w
 | 0 => ⟨⟨hr, h⟩⟩
 | _ + 1 => ⟨⟨fun _ => h, by rw [hr]; simp⟩⟩
theorem wp_region_R (S : World → Prop) (early : Nat → Bool) {id : Nat} {a : Act} {w : World} (hm : P.follows .mixedOrders = true)
  (h : AnyR P .any ops Q S early ops.size (Array.replicate ops.size false) a w.drew) : (Code.region id ops true).wp P Q a w :=
 wp_region_any hm (any_of_R _ _ _ _ h.out)
end
end Go.Proofs.Ytmjbpgnjgblnmaa
namespace Go.Proofs.Ytmjbpgnjgblnmaa
open Go.RowKit Go.Proofs.YtmjbpgnjgblnmaaW.PrintWords Go.Proofs.YtmjbpgnjgblnmaaW.PrintLast Go.Proofs.YtmjbpgnjgblnmaaW.PrintMore
def wCells : WT → List Value
 | .word s => [.string s, .int .u8 0, .nilFunc]
 | .fin k => [.string ⟨#[]⟩, .int .u8 k, .nilFunc]
 | .rule f => [.string ⟨#[]⟩, .int .u8 0, .func (.func f.num) #[] #[]]
theorem wCells_len (x : WT) : (wCells x).length = 3 := by cases x <;> rfl
theorem wCells_one (x : WT) : ∀ v ∈ wCells x, v.oneCell' = true := by
 cases x <;> (intro v hv; simp only [wCells, List.mem_cons, List.not_mem_nil, or_false] at hv; rcases hv with rfl | rfl | rfl <;> rfl)
def evCells (e : Ev) : List Value := [.int .u8 e.f0, .int .u8 e.f1, .int .u8 e.f2.f0, .string e.f2.f1, .int .i64 e.f2.f2.f0, .int .i64 e.f2.f2.f1, .int .i64 e.f2.f2.f2, .int .i64 e.f2.f3]
structure PAt (w : World) (p : Nat) (s : List WT) (es : List Ev) (d : Int) (b : Bool) (wr : Int) (cl : Bool) (vt ve : Value) : Prop where
 box : w.heap[p]? = some (.cells #[vt, ve, .int .i64 d, .bool b, .int .i64 wr, .bool cl] 67 (0, 0))
 todo : w.ownsRow p 71 3 vt s.length (s.reverse.flatMap wCells)
 evs : w.ownsRow p 46 8 ve es.length (es.flatMap evCells)
structure PStep (p : Nat) (vt ve : Value) (w : World) (vt' ve' : Value) (w' : World) : Prop where
 os : w'.os = w.os
 tape : w'.tape = w.tape
 output : w'.output = w.output
 size : w.heap.size ≤ w'.heap.size
 block : ∀ k, k < w.heap.size → k ≠ p → some k ≠ vt.ownBlock → some k ≠ ve.ownBlock → w'.heap[k]? = w.heap[k]?
 ft : ∀ g, vt'.ownBlock = some g → vt.ownBlock = some g ∨ w.heap.size ≤ g
 fe : ∀ g, ve'.ownBlock = some g → ve.ownBlock = some g ∨ w.heap.size ≤ g
theorem PStep.refl (p : Nat) (vt ve : Value) (w : World) : PStep p vt ve w vt ve w := ⟨rfl, rfl, rfl, Nat.le_refl _, fun _ _ _ _ _ => rfl, fun _ h => .inl h, fun _ h => .inl h⟩
theorem PStep.trans {p : Nat} {a b a' b' a2 b2 : Value} {w w' w2 : World} (h : PStep p a b w a' b' w') (h' : PStep p a' b' w' a2 b2 w2) : PStep p a b w a2 b2 w2 := by
 refine ⟨h'.os.trans h.os, h'.tape.trans h.tape, h'.output.trans h.output, Nat.le_trans h.size h'.size, fun k hk h0 h1 h2 => ?_, fun g hg => ?_, fun g hg => ?_⟩
 ·rw [h'.block k (Nat.lt_of_lt_of_le hk h.size) h0 (fun e => ?_) (fun e => ?_), h.block k hk h0 h1 h2]
  ·rcases h.ft k e.symm with h3 | h3
   ·exact h1 h3.symm
   ·omega
  ·rcases h.fe k e.symm with h3 | h3
   ·exact h2 h3.symm
   ·omega
 ·rcases h'.ft g hg with h3 | h3
  ·exact h.ft g h3
  ·exact .inr (Nat.le_trans h.size h3)
 ·rcases h'.fe g hg with h3 | h3
  ·exact h.fe g h3
  ·exact .inr (Nat.le_trans h.size h3)
end Go.Proofs.Ytmjbpgnjgblnmaa
namespace Go.Proofs.Ytmjbpgnjgblnmaa
open Go.RowKit Go.Proofs.YtmjbpgnjgblnmaaW.PrintWords Go.Proofs.YtmjbpgnjgblnmaaW.PrintLast Go.Proofs.YtmjbpgnjgblnmaaW.PrintMore
theorem infoWt : (Try.prog.info? 71).map (fun i => (i.zero, i.size, i.bytes)) = some (some (.agg #[.string ⟨#[]⟩, .int .u8 0, .nilFunc]), 3, 32) := by kernel_rfl
theorem run_want {W : World} (base : Nat) (ty : TypeId) {u : Value} {q : Nat} {kc cs : List Value} (HO : W.ownsRow base 71 3 u q kc) (hcs : cs.length = 3) (h1 : ∀ v ∈ cs, v.oneCell' = true) (hbase : base ≤ W.heap.size) (hl : (q + 1) * 32 ≤ 140737488355328) :
  ∃ g1 c1 w1, (Builtin.append_ #[65, 65] ty #[u, .slice (some ⟨W.heap.size, 0, none⟩) 1 1]).run Try.prog (W.alloc (.cells cs.toArray 71)) = .ok (.slice (some ⟨g1, 0, none⟩) (q + 1) c1) w1 ∧
   w1.ownsRow base 71 3 (.slice (some ⟨g1, 0, none⟩) (q + 1) c1) (q + 1) (kc ++ cs) ∧ W.grownBy w1 u.ownBlock ∧ (u.ownBlock = some g1 ∨ W.heap.size < g1) := by
 obtain ⟨i0, hi, hzz⟩ := Option.map_eq_some_iff.1 infoWt
 simp only [Prod.mk.injEq] at hzz
 obtain ⟨hz0, hz1, hz2⟩ := hzz
 obtain ⟨v1, w1, hr, ho, hg, _, hat⟩ := run_append_own_at (P := Try.prog) (W.alloc (.cells cs.toArray 71)) base 65 ty 71 i0 _ 3 32 Try.underlying65 hi hz0 hz1 hz2 rfl (by decide) u q kc (HO.alloc _) ⟨W.heap.size, 0, none⟩ 1 1 cs (by rw [hcs])
  (by simpa using World.news_of_block (cs := cs.toArray) (t := 71) (fr := (0, 0)) (heap_alloc_new W (.cells cs.toArray 71))) h1 (by simp only [maxLen]; omega) hl (by rw [World.size_alloc]; omega)
 have ho' := ho
 rcases ho.2 with ⟨_, hn⟩ | ⟨g1, c1, cur, rfl, _⟩
 ·omega
 ·refine ⟨g1, c1, w1, hr, ho', World.grownBy.trans (World.grownBy_alloc W _ _) hg, ?_⟩
  rcases hat with he | he
  ·exact .inl he.symm
  ·rw [World.size_alloc] at he
   have : g1 = W.heap.size + 1 := by simpa [Value.ownBlock] using he
   exact .inr (by omega)
section
variable {ops : Array Oper} {o : Oper} {a : Act} {Q : Exit → Act → World → Prop} {K : Act → World → Prop} {E : Prop}
theorem step_want {W : World} (hgd : o.guard = none) (s x : Operand) (ho : o.op = .call { callee := .builtin .append, args := #[s, x], argTypes := #[65, 65] }) (base : Nat) {u : Value} {q : Nat} {kc cs : List Value} (hs : a.eval s = u) (hx : a.eval x = .slice (some ⟨W.heap.size, 0, none⟩) 1 1)
  (HO : W.ownsRow base 71 3 u q kc) (hcs : cs.length = 3) (h1 : ∀ v ∈ cs, v.oneCell' = true) (hbase : base ≤ W.heap.size) (hl : (q + 1) * 32 ≤ 140737488355328)
  (h : ∀ g1 c1 w1, w1.ownsRow base 71 3 (.slice (some ⟨g1, 0, none⟩) (q + 1) c1) (q + 1) (kc ++ cs) → W.grownBy w1 u.ownBlock → (u.ownBlock = some g1 ∨ W.heap.size < g1) → K (a.put o.dst (.slice (some ⟨g1, 0, none⟩) (q + 1) c1)) w1) :
  if Region.wanted o (yielded ops a.tmps) = true then Oper.wp Try.prog o a (W.alloc (.cells cs.toArray 71)) K Q else E := by
 have hw : Region.wanted o (yielded ops a.tmps) = true := by simp [Region.wanted, hgd]
 rw [if_pos hw]
 obtain ⟨g1, c1, w1, hr, h1, h2, h3⟩ := run_want base o.type HO hcs h1 hbase hl
 unfold Oper.wp execOp
 simp only [ho, resolve, invoke, builtin, Sem.run_bind, Sem.run_pure, Result.andThen_ok, List.map_toArray, List.map_cons, List.map_nil, hs, hx, hr]
 exact h g1 c1 w1 h1 h2 h3
theorem step_store {W : World} (hgd : o.guard = none) (hd : o.dst = none) (t : TypeId) (p x : Operand) (ho : o.op = .store t p x) {g off : Nat} {e : TypeId} {cur : Array Value} (u : Value) (seg : List Value) (haddr : a.eval p = .pointer (some ⟨g, off, none⟩)) (hx : a.eval x = u) (hu : u.cells.toList = seg)
  (ht : (Try.prog.info? t).map (·.size) = some seg.length) (h1 : ∀ v ∈ seg, v.oneCell' = true) (hh : W.heap[g]? = some (.cells cur e (0, 0))) (hfit : off + seg.length ≤ cur.size) (h : K a (W.setCells g off seg)) :
  if Region.wanted o (yielded ops a.tmps) = true then Oper.wp Try.prog o a W K Q else E := by
 have hw : Region.wanted o (yielded ops a.tmps) = true := by simp [Region.wanted, hgd]
 rw [if_pos hw]
 have hrun := run_store_run (P := Try.prog) t u seg hh hu ht hfit h1
 unfold Oper.wp execOp
 simp only [ho, haddr, hx, Sem.run_bind, Sem.run_pure, Result.andThen_ok, hrun]
 show K (a.put o.dst undef) _
 rw [hd]
 exact h
end
end Go.Proofs.Ytmjbpgnjgblnmaa
namespace Go.Proofs.Ytmjbpgnjgblnmaa
open Go.RowKit Go.Proofs.YtmjbpgnjgblnmaaW.PrintWords Go.Proofs.YtmjbpgnjgblnmaaW.PrintLast Go.Proofs.YtmjbpgnjgblnmaaW.PrintMore
theorem infoEv : (Try.prog.info? 46).map (fun i => (i.zero, i.size, i.bytes)) = some (some (.agg #[.int .u8 0, .int .u8 0, .int .u8 0, .string ⟨#[]⟩, .int .i64 0, .int .i64 0, .int .i64 0, .int .i64 0]), 8, 64) := by kernel_rfl
theorem evCells_len (e : Ev) : (evCells e).length = 8 := rfl
theorem evCells_one (e : Ev) : ∀ v ∈ evCells e, v.oneCell' = true := by
 intro v hv; simp only [evCells, List.mem_cons, List.not_mem_nil, or_false] at hv; rcases hv with rfl | rfl | rfl | rfl | rfl | rfl | rfl | rfl <;> rfl
theorem run_ev {W : World} (base : Nat) (ty : TypeId) {u : Value} {q : Nat} {kc cs : List Value} (HO : W.ownsRow base 46 8 u q kc) (hcs : cs.length = 8) (h1 : ∀ v ∈ cs, v.oneCell' = true) (hbase : base ≤ W.heap.size) (hl : (q + 1) * 64 ≤ 140737488355328) :
  ∃ g1 c1 w1, (Builtin.append_ #[38, 38] ty #[u, .slice (some ⟨W.heap.size, 0, none⟩) 1 1]).run Try.prog (W.alloc (.cells cs.toArray 46)) = .ok (.slice (some ⟨g1, 0, none⟩) (q + 1) c1) w1 ∧
   w1.ownsRow base 46 8 (.slice (some ⟨g1, 0, none⟩) (q + 1) c1) (q + 1) (kc ++ cs) ∧ W.grownBy w1 u.ownBlock ∧ (u.ownBlock = some g1 ∨ W.heap.size < g1) := by
 obtain ⟨i0, hi, hzz⟩ := Option.map_eq_some_iff.1 infoEv
 simp only [Prod.mk.injEq] at hzz
 obtain ⟨hz0, hz1, hz2⟩ := hzz
 obtain ⟨v1, w1, hr, ho, hg, _, hat⟩ := run_append_own_at (P := Try.prog) (W.alloc (.cells cs.toArray 46)) base 38 ty 46 i0 _ 8 64 Try.underlying38 hi hz0 hz1 hz2 rfl (by decide) u q kc (HO.alloc _) ⟨W.heap.size, 0, none⟩ 1 1 cs (by rw [hcs])
  (by simpa using World.news_of_block (cs := cs.toArray) (t := 46) (fr := (0, 0)) (heap_alloc_new W (.cells cs.toArray 46))) h1 (by simp only [maxLen]; omega) hl (by rw [World.size_alloc]; omega)
 have ho' := ho
 rcases ho.2 with ⟨_, hn⟩ | ⟨g1, c1, cur, rfl, _⟩
 ·omega
 ·refine ⟨g1, c1, w1, hr, ho', World.grownBy.trans (World.grownBy_alloc W _ _) hg, ?_⟩
  rcases hat with he | he
  ·exact .inl he.symm
  ·rw [World.size_alloc] at he
   have : g1 = W.heap.size + 1 := by simpa [Value.ownBlock] using he
   exact .inr (by omega)
section
variable {ops : Array Oper} {o : Oper} {a : Act} {Q : Exit → Act → World → Prop} {K : Act → World → Prop} {E : Prop}
theorem step_ev {W : World} (hgd : o.guard = none) (s x : Operand) (ho : o.op = .call { callee := .builtin .append, args := #[s, x], argTypes := #[38, 38] }) (base : Nat) {u : Value} {q : Nat} {kc cs : List Value} (hs : a.eval s = u) (hx : a.eval x = .slice (some ⟨W.heap.size, 0, none⟩) 1 1)
  (HO : W.ownsRow base 46 8 u q kc) (hcs : cs.length = 8) (h1 : ∀ v ∈ cs, v.oneCell' = true) (hbase : base ≤ W.heap.size) (hl : (q + 1) * 64 ≤ 140737488355328)
  (h : ∀ g1 c1 w1, w1.ownsRow base 46 8 (.slice (some ⟨g1, 0, none⟩) (q + 1) c1) (q + 1) (kc ++ cs) → W.grownBy w1 u.ownBlock → (u.ownBlock = some g1 ∨ W.heap.size < g1) → K (a.put o.dst (.slice (some ⟨g1, 0, none⟩) (q + 1) c1)) w1) :
  if Region.wanted o (yielded ops a.tmps) = true then Oper.wp Try.prog o a (W.alloc (.cells cs.toArray 46)) K Q else E := by
 have hw : Region.wanted o (yielded ops a.tmps) = true := by simp [Region.wanted, hgd]
 rw [if_pos hw]
 obtain ⟨g1, c1, w1, hr, h1, h2, h3⟩ := run_ev base o.type HO hcs h1 hbase hl
 unfold Oper.wp execOp
 simp only [ho, resolve, invoke, builtin, Sem.run_bind, Sem.run_pure, Result.andThen_ok, List.map_toArray, List.map_cons, List.map_nil, hs, hx, hr]
 exact h g1 c1 w1 h1 h2 h3
end
theorem PAt.upd {w : World} {p : Nat} {s : List WT} {es : List Ev} {d : Int} {b : Bool} {wr : Int} {cl : Bool} {vt ve : Value} (H : PAt w p s es d b wr cl vt ve) (off : Nat) (v : Value) (hoff : off < 6)
  {s' : List WT} {es' : List Ev} {d' : Int} {b' : Bool} {wr' : Int} {cl' : Bool} {vt' ve' : Value}
  (hc : [vt, ve, .int .i64 d, .bool b, .int .i64 wr, .bool cl].take off ++ [v] ++ [vt, ve, .int .i64 d, .bool b, .int .i64 wr, .bool cl].drop (off + 1) = [vt', ve', .int .i64 d', .bool b', .int .i64 wr', .bool cl'])
  (ht : w.ownsRow p 71 3 vt' s'.length (s'.reverse.flatMap wCells)) (he : w.ownsRow p 46 8 ve' es'.length (es'.flatMap evCells))
  (ft : ∀ g, vt'.ownBlock = some g → vt.ownBlock = some g) (fe : ∀ g, ve'.ownBlock = some g → ve.ownBlock = some g) :
  PAt (w.setCells p off [v]) p s' es' d' b' wr' cl' vt' ve' ∧ PStep p vt ve w vt' ve' (w.setCells p off [v]) := by
 obtain ⟨cur', k1, k2, k3⟩ := setCells_row [v] off w _ H.box (by simp; omega)
 have hfar : ∀ q, q ≠ p → (w.setCells p off [v]).heap[q]? = w.heap[q]? := fun q hq => setCells_far _ off q hq
 have hsm := setCells_same p [v] off w
 refine ⟨⟨?_, ?_, ?_⟩, ⟨hsm.1, hsm.2.1, hsm.2.2.1, by rw [hsm.2.2.2]; exact Nat.le_refl _, fun q _ h0 _ _ => hfar q h0, fun g h => .inl (ft g h), fun g h => .inl (fe g h)⟩⟩
 ·rw [k1]
  have : cur' = #[vt', ve', .int .i64 d', .bool b', .int .i64 wr', .bool cl'] := by
   apply Array.toList_inj.1
   rw [k3]
   exact hc
  rw [this]
 ·refine own_move ht (fun q hq => hfar q (fun e => ?_))
  obtain ⟨cs, hc2⟩ := own_typed ht q hq
  rw [e, H.box] at hc2; cases hc2
 ·refine own_move he (fun q hq => hfar q (fun e => ?_))
  obtain ⟨cs, hc2⟩ := own_typed he q hq
  rw [e, H.box] at hc2; cases hc2
theorem PAt.cell {w : World} {p : Nat} {s : List WT} {es : List Ev} {d : Int} {b : Bool} {wr : Int} {cl : Bool} {vt ve : Value} (H : PAt w p s es d b wr cl vt ve) :
  w.cell? ⟨p, 0, none⟩ = some vt ∧ w.cell? ⟨p, 1, none⟩ = some ve ∧ w.cell? ⟨p, 2, none⟩ = some (.int .i64 d) ∧ w.cell? ⟨p, 3, none⟩ = some (.bool b) ∧ w.cell? ⟨p, 4, none⟩ = some (.int .i64 wr) ∧ w.cell? ⟨p, 5, none⟩ = some (.bool cl) :=
 ⟨cell_of_row _ _ _ _ _ _ H.box, cell_of_row _ _ _ _ _ _ H.box, cell_of_row _ _ _ _ _ _ H.box, cell_of_row _ _ _ _ _ _ H.box, cell_of_row _ _ _ _ _ _ H.box, cell_of_row _ _ _ _ _ _ H.box⟩
theorem PAt.move {w w1 : World} {p : Nat} {s : List WT} {es : List Ev} {d : Int} {b : Bool} {wr : Int} {cl : Bool} {vt ve : Value} (H : PAt w p s es d b wr cl vt ve) (h : ∀ k, k < w.heap.size → w1.heap[k]? = w.heap[k]?) : PAt w1 p s es d b wr cl vt ve :=
 ⟨(h p (blk_lt H.box)).trans H.box, own_move H.todo (fun q hq => h q (own_lt H.todo q hq)), own_move H.evs (fun q hq => h q (own_lt H.evs q hq))⟩
theorem PAt.below {w w1 : World} {p : Nat} {s : List WT} {es : List Ev} {d : Int} {b : Bool} {wr : Int} {cl : Bool} {vt ve : Value} (H : PAt w p s es d b wr cl vt ve) (h : Below w.heap.size w w1) : PAt w1 p s es d b wr cl vt ve := H.move h.block
theorem PStep.below {p : Nat} {vt ve : Value} {w w1 : World} (h : Below w.heap.size w w1) : PStep p vt ve w vt ve w1 := ⟨h.os, h.tape, h.output, h.size, fun k hk _ _ _ => h.block k hk, fun _ h => .inl h, fun _ h => .inl h⟩
theorem ev_next {p : Nat} {wr w1 : World} {s : List WT} {es : List Ev} {d : Int} {b : Bool} {wc : Int} {cl : Bool} {vt ve : Value} {g1 c1 : Nat} {e : Ev} (H : PAt wr p s es d b wc cl vt ve)
  (ho : w1.ownsRow p 46 8 (.slice (some ⟨g1, 0, none⟩) (es.length + 1) c1) (es.length + 1) (es.flatMap evCells ++ evCells e)) (hg : wr.grownBy w1 ve.ownBlock) (hat : ve.ownBlock = some g1 ∨ wr.heap.size < g1) :
  (∃ cur : Array Value, w1.heap[p]? = some (.cells cur 67 (0, 0)) ∧ 1 + 1 ≤ cur.size) ∧ ∀ V, V = w1.setCells p 1 [.slice (some ⟨g1, 0, none⟩) (es.length + 1) c1] →
   PAt V p s (es ++ [e]) d b wc cl vt (.slice (some ⟨g1, 0, none⟩) (es.length + 1) c1) ∧ PStep p vt ve wr vt (.slice (some ⟨g1, 0, none⟩) (es.length + 1) c1) V := by
 have hpe : ve.ownBlock ≠ some p := fun e => by
  obtain ⟨cs, hc⟩ := own_typed H.evs p e
  rw [H.box] at hc; cases hc
 have hbp : w1.heap[p]? = _ := (hg.block p (blk_lt H.box) (fun e => hpe e.symm)).trans H.box
 refine ⟨⟨_, hbp, by simp⟩, ?_⟩
 rintro _ rfl
 have hte : ∀ q, vt.ownBlock = some q → some q ≠ ve.ownBlock := fun q hq e => by
  obtain ⟨cs, hc⟩ := own_typed H.todo q hq
  obtain ⟨cs2, hc2⟩ := own_typed H.evs q e.symm
  rw [hc] at hc2; cases hc2
 have H1 : PAt w1 p s [] d b wc cl vt (.slice none 0 0) → True := fun _ => trivial
 obtain ⟨cur', k1, k2, k3⟩ := setCells_row [.slice (some ⟨g1, 0, none⟩) (es.length + 1) c1] 1 w1 _ hbp (by simp)
 have hfar : ∀ q, q ≠ p → (w1.setCells p 1 [.slice (some ⟨g1, 0, none⟩) (es.length + 1) c1]).heap[q]? = w1.heap[q]? := fun q hq => setCells_far _ 1 q hq
 have hsm := setCells_same p [.slice (some ⟨g1, 0, none⟩) (es.length + 1) c1] 1 w1
 have hgp : g1 ≠ p := fun e => by
  obtain ⟨cs, hc⟩ := own_typed ho g1 (by simp [Value.ownBlock])
  rw [e, hbp] at hc; cases hc
 refine ⟨⟨?_, ?_, ?_⟩, ⟨?_, ?_, ?_, ?_, ?_, ?_, ?_⟩⟩
 ·rw [k1]
  have : cur' = #[vt, .slice (some ⟨g1, 0, none⟩) (es.length + 1) c1, .int .i64 d, .bool b, .int .i64 wc, .bool cl] := by
   apply Array.toList_inj.1
   rw [k3]
   rfl
  rw [this]
 ·refine own_move H.todo (fun q hq => ?_)
  obtain ⟨cs, hc⟩ := own_typed H.todo q hq
  rw [hfar q (fun e => by rw [e, H.box] at hc; cases hc)]
  exact hg.block q (blk_lt hc) (hte q hq)
 ·have h2 := own_move ho (w1 := w1.setCells p 1 [.slice (some ⟨g1, 0, none⟩) (es.length + 1) c1]) (fun q hq => hfar q (fun e => hgp ((show g1 = q by simpa [Value.ownBlock] using hq).trans e)))
  simp only [List.length_append, List.length_cons, List.length_nil, Nat.zero_add, List.flatMap_append, List.flatMap_cons, List.flatMap_nil, List.append_nil]
  exact h2
 ·exact hsm.1.trans hg.os
 ·exact hsm.2.1.trans hg.tape
 ·exact hsm.2.2.1.trans hg.output
 ·rw [hsm.2.2.2]; exact hg.size
 ·intro q hq h0 h1 h2
  rw [hfar q h0]
  exact hg.block q hq h2
 ·exact fun g h => .inl h
 ·intro g hg'
  have : g1 = g := by simpa [Value.ownBlock] using hg'
  subst this
  rcases hat with h | h
  ·exact .inl h
  ·exact .inr (by omega)
theorem todo_top {w : World} {base : Nat} {x : WT} {r : List WT} {vt : Value} (h : w.ownsRow base 71 3 vt (x :: r).length ((x :: r).reverse.flatMap wCells)) :
  ∃ g cap, vt = .slice (some ⟨g, 0, none⟩) (r.length + 1) cap ∧ r.length + 1 ≤ cap ∧ cap ≤ maxLen ∧ (∀ j v, (wCells x)[j]? = some v → w.cell? ⟨g, r.length * 3 + j, none⟩ = some v ∧ w.frozen? ⟨g, r.length * 3 + j, none⟩ = false) ∧
   w.ownsRow base 71 3 (.slice (some ⟨g, 0, none⟩) r.length cap) r.length (r.reverse.flatMap wCells) := by
 have hfl : ∀ l : List WT, (l.flatMap wCells).length = l.length * 3 := fun l => by
  induction l with
  | nil => rfl
  | cons a l ih => rw [List.flatMap_cons, List.length_append, wCells_len, ih, List.length_cons]; omega
 have hx : (r.reverse.flatMap wCells).length = r.length * 3 := by rw [hfl, List.length_reverse]
 rw [List.reverse_cons, List.flatMap_append, List.flatMap_cons, List.flatMap_nil, List.append_nil, List.length_cons] at h
 rcases h.2 with ⟨_, hn⟩ | ⟨g, cap, cur, rfl, hb, hh, hl, hm, hs, ht⟩
 ·omega
 ·refine ⟨g, cap, rfl, hl, hm, fun j v hj => ?_, hx, .inr ⟨g, cap, cur, rfl, hb, hh, by omega, hm, hs, ?_⟩⟩
  ·have hj3 : j < 3 := by have := (List.getElem?_eq_some_iff.1 hj).1; rwa [wCells_len] at this
   have hj' : (r.reverse.flatMap wCells ++ wCells x)[r.length * 3 + j]? = some v := by
    rw [List.getElem?_append_right (by omega), hx, show r.length * 3 + j - r.length * 3 = j by omega]
    exact hj
   rw [← ht, List.getElem?_take_of_lt (by omega), Array.getElem?_toList] at hj'
   exact ⟨by rw [cell_of_row _ _ _ _ _ _ hh]; exact hj', by simp [World.frozen?, hh]⟩
  ·have hz := congrArg (List.take (r.length * 3)) ht
   rw [List.take_take, Nat.min_eq_left (by omega), List.take_left' hx] at hz
   exact hz
end Go.Proofs.Ytmjbpgnjgblnmaa
namespace Go.Proofs.Ytmjbpgnjgblnmaa
open Go.RowKit Go.Proofs.YtmjbpgnjgblnmaaW.PrintWords Go.Proofs.YtmjbpgnjgblnmaaW.PrintLast Go.Proofs.YtmjbpgnjgblnmaaW.PrintMore
structure PushI (p gA : Nat) (w wr : World) (l s : List WT) (es : List Ev) (d : Int) (b : Bool) (wc : Int) (cl : Bool) (vt ve : Value) (k : Nat) (vt1 : Value) : Prop where
 at_ : PAt wr p (l.drop k ++ s) es d b wc cl vt1 ve
 step : PStep p vt ve w vt1 ve wr
 arg : wr.heap[gA]? = some (.cells (l.flatMap wCells).toArray 71 (0, 0))
 far : vt1.ownBlock ≠ some gA
 new : w.heap.size ≤ wr.heap.size
theorem cells_ty {a b : Array Value} {T U : TypeId} {f g : Nat × Nat} (h : some (Obj.cells a T f) = some (Obj.cells b U g)) : T = U := by
 injection h with h
 injection h
theorem flat_at : ∀ (l : List WT) (k : Nat) (x : WT) (j : Nat), l[k]? = some x → j < 3 → (l.flatMap wCells)[k * 3 + j]? = (wCells x)[j]?
 | [], k, x, j, h, _ => by cases h
 | a :: l, 0, x, j, h, hj => by
  simp only [List.getElem?_cons_zero, Option.some.injEq] at h
  subst h
  rw [List.flatMap_cons, List.getElem?_append_left (by rw [wCells_len]; omega)]
  simp
 | a :: l, k + 1, x, j, h, hj => by
  rw [List.flatMap_cons, List.getElem?_append_right (by rw [wCells_len]; omega), wCells_len, show (k + 1) * 3 + j - 3 = k * 3 + j by omega]
  exact flat_at l k x j (by simpa using h) hj
theorem push_next {p gA : Nat} {w wr Wd w1 : World} {l s : List WT} {es : List Ev} {d : Int} {b : Bool} {wc : Int} {cl : Bool} {vt ve : Value} {k g1 c1 : Nat} {vt1 : Value} {x : WT} (H : PushI p gA w wr l s es d b wc cl vt ve (k + 1) vt1) (hx : l[k]? = some x) (hWd : wr.drew = Wd) {q : Nat} (hq : (l.drop (k + 1) ++ s).length = q)
  (ho : w1.ownsRow p 71 3 (.slice (some ⟨g1, 0, none⟩) (q + 1) c1) (q + 1) ((l.drop (k + 1) ++ s).reverse.flatMap wCells ++ wCells x)) (hg : Wd.grownBy w1 vt1.ownBlock) (hat : vt1.ownBlock = some g1 ∨ Wd.heap.size < g1) :
  (∃ cur : Array Value, w1.heap[p]? = some (.cells cur 67 (0, 0)) ∧ 0 + 1 ≤ cur.size) ∧ ∀ V, V = w1.setCells p 0 [.slice (some ⟨g1, 0, none⟩) (q + 1) c1] → PushI p gA w V l s es d b wc cl vt ve k (.slice (some ⟨g1, 0, none⟩) (q + 1) c1) := by
 subst hq
 have hgr : wr.grownBy w1 vt1.ownBlock := by rw [← hWd] at hg; exact ⟨hg.os, hg.tape, hg.output, hg.size, hg.block⟩
 have hsz : Wd.heap.size = wr.heap.size := by rw [← hWd]; rfl
 have hpt : vt1.ownBlock ≠ some p := fun e => by
  obtain ⟨cs, hc⟩ := own_typed H.at_.todo p e
  rw [H.at_.box] at hc; cases hc
 have hbp : w1.heap[p]? = _ := (hgr.block p (blk_lt H.at_.box) (fun e => hpt e.symm)).trans H.at_.box
 refine ⟨⟨_, hbp, by simp⟩, ?_⟩
 rintro _ rfl
 obtain ⟨cur', k1, k2, k3⟩ := setCells_row [.slice (some ⟨g1, 0, none⟩) ((l.drop (k + 1) ++ s).length + 1) c1] 0 w1 _ hbp (by simp)
 have hfar : ∀ q, q ≠ p → (w1.setCells p 0 [.slice (some ⟨g1, 0, none⟩) ((l.drop (k + 1) ++ s).length + 1) c1]).heap[q]? = w1.heap[q]? := fun q hq => setCells_far _ 0 q hq
 have hsm := setCells_same p [.slice (some ⟨g1, 0, none⟩) ((l.drop (k + 1) ++ s).length + 1) c1] 0 w1
 have hgp : g1 ≠ p := fun e => by
  obtain ⟨cs, hc⟩ := own_typed ho g1 (by simp [Value.ownBlock])
  rw [e, hbp] at hc; cases hc
 have hgA : g1 ≠ gA := fun e => by
  rcases hat with h | h
  ·exact H.far (by rw [h, e])
  ·have := blk_lt H.arg; omega
 have hdk : l.drop k = x :: l.drop (k + 1) := by
  have hlt : k < l.length := (List.getElem?_eq_some_iff.1 hx).1
  rw [List.drop_eq_getElem_cons hlt]
  have := (List.getElem?_eq_some_iff.1 hx).2
  rw [this]
 refine ⟨⟨?_, ?_, ?_⟩, H.step.trans ⟨?_, ?_, ?_, ?_, ?_, ?_, ?_⟩, ?_, ?_, ?_⟩
 ·rw [k1]
  have : cur' = #[.slice (some ⟨g1, 0, none⟩) ((l.drop (k + 1) ++ s).length + 1) c1, ve, .int .i64 d, .bool b, .int .i64 wc, .bool cl] := by
   apply Array.toList_inj.1
   rw [k3]
   rfl
  rw [this]
 ·have h2 := own_move ho (w1 := w1.setCells p 0 [.slice (some ⟨g1, 0, none⟩) ((l.drop (k + 1) ++ s).length + 1) c1]) (fun q hq => hfar q (fun e => hgp ((show g1 = q by simpa [Value.ownBlock] using hq).trans e)))
  rw [hdk]
  simp only [List.cons_append, List.length_cons, List.reverse_cons, List.flatMap_append, List.flatMap_cons, List.flatMap_nil, List.append_nil]
  exact h2
 ·refine own_move H.at_.evs (fun q hq => ?_)
  obtain ⟨cs, hc⟩ := own_typed H.at_.evs q hq
  rw [hfar q (fun e => by rw [e, H.at_.box] at hc; cases hc)]
  refine hgr.block q (blk_lt hc) (fun e => ?_)
  obtain ⟨cs2, hc2⟩ := own_typed H.at_.todo q e.symm
  rw [hc] at hc2; cases hc2
 ·exact hsm.1.trans hgr.os
 ·exact hsm.2.1.trans hgr.tape
 ·exact hsm.2.2.1.trans hgr.output
 ·rw [hsm.2.2.2]; exact hgr.size
 ·intro q hq h0 h1 h2
  rw [hfar q h0]
  exact hgr.block q hq h1
 ·intro g hg'
  have : g1 = g := by simpa [Value.ownBlock] using hg'
  subst this
  rcases hat with h | h
  ·exact .inl h
  ·exact .inr (by omega)
 ·exact fun g h => .inl h
 ·rw [hfar gA (fun e => by have h := H.arg; rw [e, H.at_.box] at h; exact absurd (cells_ty h) (by decide))]
  exact (hgr.block gA (blk_lt H.arg) (fun e => H.far e.symm)).trans H.arg
 ·intro e
  exact hgA (by simpa [Value.ownBlock] using e)
 ·rw [hsm.2.2.2]; exact Nat.le_trans H.new hgr.size
theorem push_arg {p gA : Nat} {w wr : World} {l s : List WT} {es : List Ev} {d : Int} {b : Bool} {wc : Int} {cl : Bool} {vt ve : Value} {k : Nat} {vt1 : Value} {x : WT} {c0 c1 c2 : Value} (H : PushI p gA w wr l s es d b wc cl vt ve (k + 1) vt1) (hx : l[k]? = some x) (hc : wCells x = [c0, c1, c2]) :
  wr.cell? ⟨gA, k * 3, none⟩ = some c0 ∧ wr.cell? ⟨gA, k * 3 + 1, none⟩ = some c1 ∧ wr.cell? ⟨gA, k * 3 + 2, none⟩ = some c2 := by
 have h0 := flat_at l k x 0 hx (by decide)
 have h1 := flat_at l k x 1 hx (by decide)
 have h2 := flat_at l k x 2 hx (by decide)
 rw [hc] at h0 h1 h2
 refine ⟨?_, ?_, ?_⟩ <;> (rw [cell_of_row _ _ _ _ _ _ H.arg, List.getElem?_toArray]; assumption)
set_option maxRecDepth 100000 in
set_option maxHeartbeats 4000000 in
theorem push_any (p gA : Nat) (l s : List WT) (es : List Ev) (d : Int) (b : Bool) (wc : Int) (cl : Bool) (vt ve : Value) (w : World) (hP : PAt w p s es d b wc cl vt ve) (hA : w.heap[gA]? = some (.cells (l.flatMap wCells).toArray 71 (0, 0))) (hgA : vt.ownBlock ≠ some gA) (hl : l.length ≤ 16) (hs : s.length ≤ 1099511627776) :
  Calls Try.prog 27 #[.pointer (some ⟨p, 0, none⟩), .slice (some ⟨gA, 0, none⟩) l.length l.length] w fun e w' => e = .returned (.tuple #[]) ∧ ∃ vt', PAt w' p (l ++ s) es d b wc cl vt' ve ∧ PStep p vt ve w vt' ve w' := by
 have HI0 : Hid (PushI p gA w w l s es d b wc cl vt ve l.length vt) := Lib.hid ⟨by rw [List.drop_length]; exact hP, PStep.refl _ _ _ _, hA, hgA, Nat.le_refl _⟩
 have HL := Lib.hid (And.intro hl hs)
 clear hP hA hgA hs
 go_enter Try.func27, Try.ntmps27
 go_wp2
 go_loopw [4] (fun iv wr => ∃ k : Nat, k ≤ l.length ∧ iv = .int .i64 ((k : Int) - 1) ∧ Hid (∃ vt1, PushI p gA w wr l s es d b wc cl vt ve k vt1)) (fun iv _ => (intOf iv + 1).toNat)
 case atStart => exact ⟨l.length, Nat.le_refl _, by go_num, Lib.hid ⟨vt, HI0.out⟩⟩
 case round =>
  obtain ⟨k1, hk1, rfl, H⟩ := hrel
  cases k1 with
  | zero =>
   go_wp2
   go_end0
   obtain ⟨vt1, H1⟩ := H.out
   exact ⟨rfl, vt1, H1.at_, H1.step⟩
  | succ k =>
   obtain ⟨vt1, H⟩ := H.out
   obtain ⟨x, hx⟩ : ∃ x, l[k]? = some x := ⟨_, List.getElem?_eq_getElem (by omega)⟩
   have hkl : k < l.length := hk1
   rw [show ((k + 1 : Nat) : Int) - 1 = k by omega]
   have g1 : (0 : Int) ≤ k := by omega
   obtain ⟨c0, c1, c2, hxc⟩ : ∃ c0 c1 c2, wCells x = [c0, c1, c2] := by cases x <;> exact ⟨_, _, _, rfl⟩
   have HH := Lib.hid H
   have HX := Lib.hid hx
   have HC := Lib.hid hxc
   have hk16 : k < 16 := by omega
   have g2 : (k : Int) < l.length := by omega
   clear H
   go_upto_region 3 with (fail)
   obtain ⟨Wd, hWd⟩ : ∃ V, wr.drew = V := ⟨_, rfl⟩
   have hb7 : Below wr.heap.size wr Wd := by rw [← hWd]; exact (Below.refl _ wr).drew
   have hcc : wr.cell? ⟨gA, k * 3, none⟩ = some c0 ∧ wr.cell? ⟨gA, k * 3 + 1, none⟩ = some c1 ∧ wr.cell? ⟨gA, k * 3 + 2, none⟩ = some c2 := push_arg HH.out hx hxc
   have hSall : ∀ V, Below wr.heap.size wr V → V.cell? ⟨p, 0, none⟩ = some vt1 ∧ V.cell? ⟨gA, k * 3, none⟩ = some c0 ∧ V.cell? ⟨gA, k * 3 + 1, none⟩ = some c1 ∧ V.cell? ⟨gA, k * 3 + 2, none⟩ = some c2 := fun V hV => ⟨pw_cell_below hV HH.out.at_.cell.1, pw_cell_below hV hcc.1, pw_cell_below hV hcc.2.1, pw_cell_below hV hcc.2.2⟩
   have HSA := Lib.hid hSall
   have HS := Lib.hid (hSall Wd hb7)
   have HB := Lib.hid hb7
   have HWd := Lib.hid hWd
   clear hSall hb7 hWd hcc hx hxc
   refine wp_region_R (fun w' => w'.cell? ⟨p, 0, none⟩ = some vt1 ∧ w'.cell? ⟨gA, k * 3, none⟩ = some c0 ∧ w'.cell? ⟨gA, k * 3 + 1, none⟩ = some c1 ∧ w'.cell? ⟨gA, k * 3 + 2, none⟩ = some c2) (fun j => !(Nat.beq j 13)) (by kernel_rfl) ?_
   rw [HWd.out]
   refine anyR_take (i := 0) (oi := ⟨some 12, .move (.tmp 0), 24, "parse.go:71", #[], none⟩) (v := ?_) rfl (by kernel_rfl) (fun _ _ _ h => h) (Or.inl ⟨by rfl, ?_⟩) HS.out ?_
   rotate_left
   ·intro x h; (try dsimp only at h); go_simp; try (with_reducible rfl)
   try simp only [Act.put, List.setIfInBounds_toArray, List.set]
   refine anyR_take (i := 1) (oi := ⟨some 13, .move (.tmp 0), 24, "parse.go:71", #[], none⟩) (v := ?_) rfl (by kernel_rfl) (fun _ _ _ h => h) (Or.inl ⟨by rfl, ?_⟩) HS.out ?_
   rotate_left
   ·intro x h; (try dsimp only at h); go_simp; try (with_reducible rfl)
   try simp only [Act.put, List.setIfInBounds_toArray, List.set]
   refine anyR_take (i := 2) (oi := ⟨some 14, .nilCheck (.tmp 13), 0, "parse.go:71", #[⟨1, .data⟩], none⟩) (v := ?_) rfl (by kernel_rfl) (fun _ _ _ h => h) (Or.inl ⟨by rfl, ?_⟩) HS.out ?_
   rotate_left
   ·intro x h; (try dsimp only at h); go_simp; try (with_reducible rfl)
   try simp only [Act.put, List.setIfInBounds_toArray, List.set]
   refine anyR_take (i := 3) (oi := ⟨some 15, .fieldAddr 67 (.tmp 14) 0, 0, "parse.go:71", #[⟨2, .data⟩], none⟩) (v := ?_) rfl (by kernel_rfl) (fun _ _ _ h => h) (Or.inl ⟨by rfl, ?_⟩) HS.out ?_
   rotate_left
   ·intro x h; (try dsimp only at h); go_simp; try (with_reducible rfl)
   try simp only [Act.put, List.setIfInBounds_toArray, List.set]
   refine anyR_take (i := 4) (oi := ⟨some 16, .load 65 (.tmp 15), 65, "parse.go:71", #[⟨3, .data⟩], none⟩) (v := ?_) rfl (by kernel_rfl) (fun _ _ _ h => h) (Or.inl ⟨by rfl, ?_⟩) HS.out ?_
   rotate_left
   ·intro x h; (try dsimp only at h); go_simp; try (with_reducible rfl)
   try simp only [Act.put, List.setIfInBounds_toArray, List.set]
   refine anyR_take (i := 5) (oi := ⟨some 17, .move (.tmp 1), 65, "parse.go:71", #[], none⟩) (v := ?_) rfl (by kernel_rfl) (fun _ _ _ h => h) (Or.inl ⟨by rfl, ?_⟩) HS.out ?_
   rotate_left
   ·intro x h; (try dsimp only at h); go_simp; try (with_reducible rfl)
   try simp only [Act.put, List.setIfInBounds_toArray, List.set]
   refine anyR_take (i := 6) (oi := ⟨some 18, .move (.tmp 4), 3, "parse.go:71", #[], none⟩) (v := ?_) rfl (by kernel_rfl) (fun _ _ _ h => h) (Or.inl ⟨by rfl, ?_⟩) HS.out ?_
   rotate_left
   ·intro x h; (try dsimp only at h); go_simp; try (with_reducible rfl)
   try simp only [Act.put, List.setIfInBounds_toArray, List.set]
   refine anyR_take (i := 7) (oi := ⟨some 19, .indexAddr 65 (.tmp 17) (.tmp 18), 0, "parse.go:71", #[⟨5, .data⟩, ⟨6, .data⟩], none⟩) (v := ?_) rfl (by kernel_rfl) (fun _ _ _ h => h) (Or.inl ⟨by rfl, ?_⟩) HS.out ?_
   rotate_left
   ·intro x h; (try dsimp only at h); go_simp; try (with_reducible rfl)
   try simp only [Act.put, List.setIfInBounds_toArray, List.set]
   refine anyR_take (i := 8) (oi := ⟨some 20, .load 71 (.tmp 19), 71, "parse.go:71", #[⟨7, .data⟩], none⟩) (v := ?_) rfl (by kernel_rfl) (fun _ _ _ h => h) (Or.inl ⟨by rfl, ?_⟩) HS.out ?_
   rotate_left
   ·intro x h; (try dsimp only at h); go_simp; try (with_reducible rfl)
   try simp only [Act.put, List.setIfInBounds_toArray, List.set]
   refine anyR_ready (rs := [9]) (by kernel_rfl) (by simp) ?_
   refine ReadyR.cons (o := ⟨some 21, .buildSlice 65 1 #[(0, .tmp 20)], 65, "parse.go:71", #[⟨8, .data⟩], none⟩) rfl (fun K hK => ?_) ReadyR.nil
   go_simp
   refine hK.out _ _ (fun _ => HSA.out _ (HB.out.alloc HB.out.size _)) ?_
   have HS9 := Lib.hid (HSA.out _ (HB.out.alloc HB.out.size (.cells #[c0, c1, c2] 71)))
   clear hK K
   try simp only [Act.put, List.setIfInBounds_toArray, List.set]
   refine anyR_ready (rs := [10]) (by kernel_rfl) (by simp) ?_
   refine ReadyR.cons (o := ⟨some 22, .call { callee := .builtin .append, args := #[.tmp 16, .tmp 21], argTypes := #[65, 65] }, 65, "parse.go:71", #[⟨4, .data⟩, ⟨9, .data⟩], none⟩) rfl (fun K hK => ?_) ReadyR.nil
   obtain ⟨q0, hq0⟩ : ∃ q0, (l.drop (k + 1) ++ s).length = q0 := ⟨_, rfl⟩
   refine step_want (W := Wd) rfl (.tmp 16) (.tmp 21) rfl p (u := vt1) (q := q0) (kc := (l.drop (k + 1) ++ s).reverse.flatMap wCells) (cs := [c0, c1, c2]) rfl rfl (hq0 ▸ own_move HH.out.at_.todo (fun q _ => by rw [← HWd.out]; rfl)) rfl (fun v hv => wCells_one x v (by rw [HC.out]; exact hv)) (by have := blk_lt HH.out.at_.box; have := HB.out.size; omega) (by have := HL.out; rw [List.length_append, List.length_drop] at hq0; omega) ?_
   intro G1 C1 w1 ho hg hat
   have hpt : vt1.ownBlock ≠ some p := fun e => by
    obtain ⟨cs, hc⟩ := own_typed HH.out.at_.todo p e
    rw [HH.out.at_.box] at hc; cases hc
   have hbW : ∀ q, q < wr.heap.size → some q ≠ vt1.ownBlock → w1.heap[q]? = Wd.heap[q]? := fun q hq hne => hg.block q (Nat.lt_of_lt_of_le hq HB.out.size) hne
   have hS1 : w1.cell? ⟨p, 0, none⟩ = some vt1 ∧ w1.cell? ⟨gA, k * 3, none⟩ = some c0 ∧ w1.cell? ⟨gA, k * 3 + 1, none⟩ = some c1 ∧ w1.cell? ⟨gA, k * 3 + 2, none⟩ = some c2 := ⟨(World.cell?_of_block (hbW p (blk_lt HH.out.at_.box) (fun e => hpt e.symm))).trans HS.out.1, (World.cell?_of_block (hbW gA (blk_lt HH.out.arg) (fun e => HH.out.far e.symm))).trans HS.out.2.1, (World.cell?_of_block (hbW gA (blk_lt HH.out.arg) (fun e => HH.out.far e.symm))).trans HS.out.2.2.1, (World.cell?_of_block (hbW gA (blk_lt HH.out.arg) (fun e => HH.out.far e.symm))).trans HS.out.2.2.2⟩
   obtain ⟨⟨cur, hcur, hfit⟩, hnx⟩ := push_next HH.out HX.out HWd.out hq0 (by rw [HC.out]; exact ho) hg hat
   have HS1 := Lib.hid hS1
   have HCU := Lib.hid (And.intro hcur hfit)
   have HNX := Lib.hid hnx
   refine hK.out _ _ (fun _ => hS1) ?_
   clear hq0 hK K ho hg hat hpt hbW hS1 hcur hfit hnx HS HS9
   try simp only [Act.put, List.setIfInBounds_toArray, List.set]
   refine anyR_ready (rs := [11]) (by kernel_rfl) (by simp) ?_
   refine ReadyR.cons (o := ⟨some 23, .nilCheck (.tmp 12), 0, "parse.go:71", #[⟨0, .data⟩, ⟨0, .phase⟩, ⟨1, .phase⟩, ⟨2, .phase⟩, ⟨3, .phase⟩, ⟨4, .phase⟩, ⟨5, .phase⟩, ⟨6, .phase⟩, ⟨7, .phase⟩, ⟨8, .phase⟩, ⟨9, .phase⟩, ⟨10, .phase⟩], none⟩) rfl (fun K hK => ?_) ReadyR.nil
   go_simp
   refine hK.out _ _ (fun _ => HS1.out) ?_
   clear hK K
   try simp only [Act.put, List.setIfInBounds_toArray, List.set]
   refine anyR_ready (rs := [12]) (by kernel_rfl) (by simp) ?_
   refine ReadyR.cons (o := ⟨some 24, .fieldAddr 67 (.tmp 23) 0, 0, "parse.go:71", #[⟨11, .data⟩, ⟨0, .phase⟩, ⟨1, .phase⟩, ⟨2, .phase⟩, ⟨3, .phase⟩, ⟨4, .phase⟩, ⟨5, .phase⟩, ⟨6, .phase⟩, ⟨7, .phase⟩, ⟨8, .phase⟩, ⟨9, .phase⟩, ⟨10, .phase⟩], none⟩) rfl (fun K hK => ?_) ReadyR.nil
   go_simp
   refine hK.out _ _ (fun _ => HS1.out) ?_
   clear hK K
   try simp only [Act.put, List.setIfInBounds_toArray, List.set]
   refine anyR_ready (rs := [13]) (by kernel_rfl) (by simp) ?_
   refine ReadyR.cons (o := ⟨none, .store 65 (.tmp 24) (.tmp 22), 0, "parse.go:71", #[⟨12, .data⟩, ⟨10, .data⟩, ⟨10, .chain⟩, ⟨0, .phase⟩, ⟨1, .phase⟩, ⟨2, .phase⟩, ⟨3, .phase⟩, ⟨4, .phase⟩, ⟨5, .phase⟩, ⟨6, .phase⟩, ⟨7, .phase⟩, ⟨8, .phase⟩, ⟨9, .phase⟩, ⟨10, .phase⟩], none⟩) rfl (fun K hK => ?_) ReadyR.nil
   refine step_store rfl rfl 65 (.tmp 24) (.tmp 22) rfl (g := p) (off := 0) (.slice (some ⟨G1, 0, none⟩) (q0 + 1) C1) [.slice (some ⟨G1, 0, none⟩) (q0 + 1) C1] rfl rfl rfl (by kernel_rfl) (fun v hv => by rw [List.mem_singleton.1 hv]; rfl) HCU.out.1 HCU.out.2 ?_
   have HN := Lib.hid (HNX.out _ rfl)
   refine hK.out _ _ (fun h => by cases h) ?_
   clear hK K HNX HCU HS1
   generalize w1.setCells p 0 [.slice (some ⟨G1, 0, none⟩) (q0 + 1) C1] = V at HN ⊢
   try simp only [Act.put, List.setIfInBounds_toArray, List.set]
   refine anyR_done (by kernel_rfl) ?_ _
   go_wp2
   go_roundw
   case rel => exact ⟨k, by omega, by go_num, Lib.hid ⟨_, HN.out⟩⟩
   case measure => simp [intOf] <;> omega
end Go.Proofs.Ytmjbpgnjgblnmaa
namespace Go.Proofs.Ytmjbpgnjgblnmaa
open Go.RowKit Go.Proofs.YtmjbpgnjgblnmaaW.PrintWords Go.Proofs.YtmjbpgnjgblnmaaW.PrintLast Go.Proofs.YtmjbpgnjgblnmaaW.PrintMore
theorem wl_cells {ops : Array Oper} {rest : List Oper} {o : Oper} {a : Act} {Q : Exit → Act → World → Prop} {W : World} (hgd : o.guard = none) (hd : o.dst = none) (t : TypeId) (p x : Operand) (ho : o.op = .store t p x) {g off : Nat} {e : TypeId} {cur : Array Value} (u : Value) (seg : List Value)
  (haddr : a.eval p = .pointer (some ⟨g, off, none⟩)) (hx : a.eval x = u) (hu : u.cells.toList = seg) (ht : (Try.prog.info? t).map (·.size) = some seg.length) (h1 : ∀ v ∈ seg, v.oneCell' = true) (hh : W.heap[g]? = some (.cells cur e (0, 0))) (hfit : off + seg.length ≤ cur.size)
  (h : ∀ w5, w5 = W.setCells g off seg → wpList Try.prog ops Q rest a w5) : wpList Try.prog ops Q (o :: rest) a W := by
 refine wpList_plain hgd fun K hK => ?_
 have hrun := run_store_run (P := Try.prog) t u seg hh hu ht hfit h1
 unfold Oper.wp execOp
 simp only [ho, haddr, hx, Sem.run_bind, Sem.run_pure, Result.andThen_ok, hrun]
 show K (a.put o.dst undef) _
 rw [hd]
 exact hK _ _ (h _ rfl)
theorem wl_ev {ops : Array Oper} {rest : List Oper} {o : Oper} {a : Act} {Q : Exit → Act → World → Prop} {W : World} (hgd : o.guard = none) (s x : Operand) (ho : o.op = .call { callee := .builtin .append, args := #[s, x], argTypes := #[38, 38] }) (base : Nat) {u : Value} {q : Nat} {kc cs : List Value} (hs : a.eval s = u) (hx : a.eval x = .slice (some ⟨W.heap.size, 0, none⟩) 1 1)
  (HO : W.ownsRow base 46 8 u q kc) (hcs : cs.length = 8) (h1 : ∀ v ∈ cs, v.oneCell' = true) (hbase : base ≤ W.heap.size) (hl : (q + 1) * 64 ≤ 140737488355328)
  (h : ∀ g1 c1 w1, w1.ownsRow base 46 8 (.slice (some ⟨g1, 0, none⟩) (q + 1) c1) (q + 1) (kc ++ cs) → W.grownBy w1 u.ownBlock → (u.ownBlock = some g1 ∨ W.heap.size < g1) → wpList Try.prog ops Q rest (a.put o.dst (.slice (some ⟨g1, 0, none⟩) (q + 1) c1)) w1) :
  wpList Try.prog ops Q (o :: rest) a (W.alloc (.cells cs.toArray 46)) := by
 refine wpList_plain hgd fun K hK => ?_
 obtain ⟨g1, c1, w1, hr, h1, h2, h3⟩ := run_ev base o.type HO hcs h1 hbase hl
 unfold Oper.wp execOp
 simp only [ho, resolve, invoke, builtin, Sem.run_bind, Sem.run_pure, Result.andThen_ok, List.map_toArray, List.map_cons, List.map_nil, hs, hx, hr]
 exact hK _ _ (h g1 c1 w1 h1 h2 h3)
theorem word_any (s : ByteArray) (w : World) : Calls Try.prog 28 #[.string s] w fun e w' => e = .returned (.agg #[.string s, .int .u8 0, .nilFunc]) ∧ Below w.heap.size w w' := by
 go_enter Try.func28, Try.ntmps28
 go_wp2
 refine ⟨rfl, .agg #[.string s, .int .u8 0, .nilFunc], ?_, rfl, ?_⟩
 ·unfold results
  rw [show Try.f28.results = #[.cell 2 71] from rfl]
  go_simp
  try rfl
 ·exact (Below.refl _ w).alloc (Nat.le_refl _) _
theorem end_any (k : Nat) (w : World) : Calls Try.prog 31 #[.int .u8 k] w fun e w' => e = .returned (.agg #[.string ⟨#[]⟩, .int .u8 k, .nilFunc]) ∧ Below w.heap.size w w' := by
 go_enter Try.func31, Try.ntmps31
 go_wp2
 refine ⟨rfl, .agg #[.string ⟨#[]⟩, .int .u8 k, .nilFunc], ?_, rfl, ?_⟩
 ·unfold results
  rw [show Try.f31.results = #[.cell 2 71] from rfl]
  go_simp
  try rfl
 ·exact (Below.refl _ w).alloc (Nat.le_refl _) _
theorem rule_any (n : Nat) (w : World) : Calls Try.prog 29 #[.func (.func n) #[] #[]] w fun e w' => e = .returned (.agg #[.string ⟨#[]⟩, .int .u8 0, .func (.func n) #[] #[]]) ∧ Below w.heap.size w w' := by
 go_enter Try.func29, Try.ntmps29
 go_wp2
 refine ⟨rfl, .agg #[.string ⟨#[]⟩, .int .u8 0, .func (.func n) #[] #[]], ?_, rfl, ?_⟩
 ·unfold results
  rw [show Try.f29.results = #[.cell 2 71] from rfl]
  go_simp
  try rfl
 ·exact (Below.refl _ w).alloc (Nat.le_refl _) _
theorem PAt.fresh {W : World} {p : Nat} {s : List WT} {es : List Ev} {d : Int} {b : Bool} {wc : Int} {cl : Bool} {vt ve : Value} (H : PAt W p s es d b wc cl vt ve) (o : Obj) :
  PAt (W.alloc o) p s es d b wc cl vt ve ∧ PStep p vt ve W vt ve (W.alloc o) ∧ vt.ownBlock ≠ some W.heap.size := by
 have hb : Below W.heap.size W (W.alloc o) := (Below.refl _ W).alloc (Nat.le_refl _) _
 exact ⟨H.below hb, PStep.below hb, fun e => absurd (own_lt H.todo _ e) (Nat.lt_irrefl _)⟩
theorem PStep.arg {w w' : World} {p gA : Nat} {s : List WT} {es : List Ev} {d : Int} {b : Bool} {wc : Int} {cl : Bool} {vt ve vt' ve' : Value} {A : Array Value} (h : PStep p vt ve w vt' ve' w') (H : PAt w p s es d b wc cl vt ve) (hA : w.heap[gA]? = some (.cells A 71 (0, 0))) (hgA : vt.ownBlock ≠ some gA) :
  w'.heap[gA]? = some (.cells A 71 (0, 0)) ∧ vt'.ownBlock ≠ some gA := by
 refine ⟨(h.block gA (blk_lt hA) (fun e => ?_) (fun e => hgA e.symm) (fun e => ?_)).trans hA, fun e => ?_⟩
 ·rw [e, H.box] at hA; exact absurd (cells_ty hA) (by decide)
 ·obtain ⟨cs, hc⟩ := own_typed H.evs gA e.symm
  rw [hA] at hc; exact absurd (cells_ty hc) (by decide)
 ·rcases h.ft gA e with h1 | h1
  ·exact hgA h1
  ·have := blk_lt hA; omega
theorem push_new {W : World} {p : Nat} {s : List WT} {es : List Ev} {d : Int} {b : Bool} {wc : Int} {cl : Bool} {vt ve : Value} (H : PAt W p s es d b wc cl vt ve) (l : List WT) (n : Nat) (cs : List Value) (hn : l.length = n) (hcs : l.flatMap wCells = cs) (hl : n ≤ 16) (hs : s.length ≤ 1099511627776) :
  Calls Try.prog 27 #[.pointer (some ⟨p, 0, none⟩), .slice (some ⟨W.heap.size, 0, none⟩) n n] (W.alloc (.cells cs.toArray 71)) fun e w' => e = .returned (.tuple #[]) ∧ ∃ vt', PAt w' p (l ++ s) es d b wc cl vt' ve ∧ PStep p vt ve W vt' ve w' := by
 subst hn; subst hcs
 obtain ⟨h1, h2, h3⟩ := H.fresh (.cells (l.flatMap wCells).toArray 71)
 refine (push_any p W.heap.size l s es d b wc cl vt ve _ h1 (World.alloc_heap_new _ _) h3 hl hs).mono ?_
 rintro e w' ⟨he, vt', h4, h5⟩
 exact ⟨he, vt', h4, h2.trans h5⟩
set_option maxRecDepth 100000 in
set_option maxHeartbeats 4000000 in
theorem close_any (p k : Nat) (s : List WT) (es : List Ev) (d : Int) (b : Bool) (wc : Int) (cl : Bool) (vt ve : Value) (w : World) (hP : PAt w p s es d b wc cl vt ve) (hes : es.length ≤ 1099511627776) (hd : -4611686018427387904 ≤ d ∧ d ≤ 4611686018427387904) :
  Calls Try.prog 47 #[.pointer (some ⟨p, 0, none⟩), .int .u8 k] w fun e w' => e = .returned (.tuple #[]) ∧ ∃ ve', PAt w' p s (es ++ [evOf (3, k)]) (d - 1) b wc cl vt ve' ∧ PStep p vt ve w vt ve' w' := by
 have HP := Lib.hid hP
 have HEL : Hid ((es.length + 1) * 64 ≤ 140737488355328) := Lib.hid (by omega)
 have hwr : IntKind.i64.wrap (d - 1) = d - 1 := by rw [IntKind.wrap_i64]; omega
 obtain ⟨q0, q1, q2, q3, q4, q5⟩ := hP.cell
 clear hP hes hd
 go_enter Try.func47, Try.ntmps47
 go_wp2_with (first
  | ((with_reducible refine gate_dst (N := 12) rfl ?_); refine wl_ev rfl (.tmp 8) (.tmp 11) rfl p (u := ve) (q := es.length) (kc := es.flatMap evCells) (cs := [.int .u8 3, .int .u8 k, .int .u8 0, .string ⟨#[]⟩, .int .i64 0, .int .i64 0, .int .i64 0, .int .i64 0]) rfl rfl HP.out.evs rfl (evCells_one (evOf (3, k))) (Nat.le_of_lt (blk_lt HP.out.box)) HEL.out ?_; intro G1 C1 w1 ho hg hat; obtain ⟨⟨cur, hcur, hfit⟩, hnx⟩ := ev_next (e := evOf (3, k)) HP.out ho hg hat; have HCU := Lib.hid (And.intro hcur hfit); have HNX := Lib.hid hnx; clear ho hg hat hcur hfit hnx)
  | ((with_reducible refine gate_ (.store 38 (.tmp 14) (.tmp 12)) rfl ?_); refine wl_cells rfl rfl _ _ _ rfl (g := p) (off := 1) (.slice (some ⟨G1, 0, none⟩) (es.length + 1) C1) [.slice (some ⟨G1, 0, none⟩) (es.length + 1) C1] rfl rfl rfl (by kernel_rfl) (fun v hv => by rw [List.mem_singleton.1 hv]; rfl) HCU.out.1 HCU.out.2 ?_; intro V hV; obtain ⟨hA, hS⟩ := HNX.out V hV; have HV := Lib.hid hA; have HSV := Lib.hid hS; clear q0 q1 q2 q3 q4 q5 hV HNX HCU; obtain ⟨q0, q1, q2, q3, q4, q5⟩ := hA.cell; clear hA hS)
  | ((with_reducible refine gate_ (.store 3 (.tmp 21) (.tmp 19)) rfl ?_); refine wl_cells rfl rfl _ _ _ rfl (g := p) (off := 2) (.int .i64 (d - 1)) [.int .i64 (d - 1)] rfl rfl rfl (by kernel_rfl) (fun v hv => by rw [List.mem_singleton.1 hv]; rfl) HV.out.box (by simp) ?_; intro V2 hV; obtain ⟨hA, hS⟩ := HV.out.upd 2 (.int .i64 (d - 1)) (by decide) (s' := s) (es' := es ++ [evOf (3, k)]) (d' := d - 1) (b' := b) (wr' := wc) (cl' := cl) (vt' := vt) (ve' := .slice (some ⟨G1, 0, none⟩) (es.length + 1) C1) rfl HV.out.todo HV.out.evs (fun _ h => h) (fun _ h => h); rw [← hV] at hA hS; have HV2 := Lib.hid hA; have HSV2 := Lib.hid hS; clear q0 q1 q2 q3 q4 q5 hV; obtain ⟨q0, q1, q2, q3, q4, q5⟩ := hA.cell; clear hA hS))
 go_end0
 exact ⟨rfl, _, HV2.out, HSV.out.trans HSV2.out⟩
set_option maxRecDepth 100000 in
set_option maxHeartbeats 4000000 in
theorem open_any (p k gA : Nat) (l s : List WT) (es : List Ev) (d : Int) (b : Bool) (wc : Int) (cl : Bool) (vt ve : Value) (w : World) (hP : PAt w p s es d b wc cl vt ve) (hA : w.heap[gA]? = some (.cells (l.flatMap wCells).toArray 71 (0, 0))) (hgA : vt.ownBlock ≠ some gA) (hl : l.length ≤ 16) (hs : s.length ≤ 549755813888) (hes : es.length ≤ 1099511627776) (hd : -4611686018427387904 ≤ d ∧ d ≤ 4611686018427387904) :
  Calls Try.prog 48 #[.pointer (some ⟨p, 0, none⟩), .int .u8 k, .slice (some ⟨gA, 0, none⟩) l.length l.length] w fun e w' => e = .returned (.bool true) ∧ ∃ vt' ve', PAt w' p (l ++ .fin k :: s) (es ++ [evOf (1, k)]) (d + 1) b wc cl vt' ve' ∧ PStep p vt ve w vt' ve' w' := by
 have HP := Lib.hid hP
 have HEL : Hid ((es.length + 1) * 64 ≤ 140737488355328) := Lib.hid (by omega)
 have HSL : Hid (s.length ≤ 549755813888 ∧ l.length ≤ 16) := Lib.hid ⟨hs, hl⟩
 have HSL2 : Hid ((WT.fin k :: s).length ≤ 1099511627776) := Lib.hid (by simp only [List.length_cons]; omega)
 have hwr : IntKind.i64.wrap (d + 1) = d + 1 := by rw [IntKind.wrap_i64]; omega
 have HA := Lib.hid hA
 have HGA := Lib.hid hgA
 obtain ⟨q0, q1, q2, q3, q4, q5⟩ := hP.cell
 clear hP hes hd hA hgA hs hl
 go_enter Try.func48, Try.ntmps48
 go_wp2_with (first
  | ((with_reducible refine gate_dst (N := 15) rfl ?_); refine wl_ev rfl (.tmp 11) (.tmp 14) rfl p (u := ve) (q := es.length) (kc := es.flatMap evCells) (cs := [.int .u8 1, .int .u8 k, .int .u8 0, .string ⟨#[]⟩, .int .i64 0, .int .i64 0, .int .i64 0, .int .i64 0]) rfl rfl HP.out.evs rfl (evCells_one (evOf (1, k))) (Nat.le_of_lt (blk_lt HP.out.box)) HEL.out ?_; intro G1 C1 w1 ho hg hat; obtain ⟨⟨cur, hcur, hfit⟩, hnx⟩ := ev_next (e := evOf (1, k)) HP.out ho hg hat; have HCU := Lib.hid (And.intro hcur hfit); have HNX := Lib.hid hnx; clear ho hg hat hcur hfit hnx)
  | ((with_reducible refine gate_ (.store 38 (.tmp 17) (.tmp 15)) rfl ?_); refine wl_cells rfl rfl _ _ _ rfl (g := p) (off := 1) (.slice (some ⟨G1, 0, none⟩) (es.length + 1) C1) [.slice (some ⟨G1, 0, none⟩) (es.length + 1) C1] rfl rfl rfl (by kernel_rfl) (fun v hv => by rw [List.mem_singleton.1 hv]; rfl) HCU.out.1 HCU.out.2 ?_; intro V hV; obtain ⟨hA, hS⟩ := HNX.out V hV; have HV := Lib.hid hA; have HSV := Lib.hid hS; clear q0 q1 q2 q3 q4 q5 hV HNX HCU; obtain ⟨q0, q1, q2, q3, q4, q5⟩ := hA.cell; clear hA hS)
  | ((with_reducible refine gate_ (.store 3 (.tmp 24) (.tmp 22)) rfl ?_); refine wl_cells rfl rfl _ _ _ rfl (g := p) (off := 2) (.int .i64 (d + 1)) [.int .i64 (d + 1)] rfl rfl rfl (by kernel_rfl) (fun v hv => by rw [List.mem_singleton.1 hv]; rfl) HV.out.box (by simp) ?_; intro V2 hV; obtain ⟨hA, hS⟩ := HV.out.upd 2 (.int .i64 (d + 1)) (by decide) (s' := s) (es' := es ++ [evOf (1, k)]) (d' := d + 1) (b' := b) (wr' := wc) (cl' := cl) (vt' := vt) (ve' := .slice (some ⟨G1, 0, none⟩) (es.length + 1) C1) rfl HV.out.todo HV.out.evs (fun _ h => h) (fun _ h => h); rw [← hV] at hA hS; have HV2 := Lib.hid hA; have HSV2 := Lib.hid hS; clear q0 q1 q2 q3 q4 q5 hV; obtain ⟨q0, q1, q2, q3, q4, q5⟩ := hA.cell; clear hA hS)
  | (go_at_call 31; refine (end_any k V2).mono ?_; rintro e W3 ⟨rfl, hb3⟩; have HB3 := Lib.hid hb3; have HP3 := Lib.hid (HV2.out.below hb3); clear hb3 q0 q1 q2 q3 q4 q5)
  | (go_at_call 27; (with_reducible refine Calls.mono (push_new HP3.out [.fin k] 1 [.string ⟨#[]⟩, .int .u8 k, .nilFunc] rfl rfl (Nat.le_of_ble_eq_true rfl) (Nat.le_trans HSL.out.1 (Nat.le_of_ble_eq_true rfl))) ?_); rintro e W5 ⟨rfl, vt5, hP5, hs5⟩; have hs5' := HSV.out.trans (HSV2.out.trans ((PStep.below HB3.out).trans hs5)); obtain ⟨hA5, hg5⟩ := hs5'.arg HP.out HA.out HGA.out; have HPU := Lib.hid (push_any p gA l (.fin k :: s) (es ++ [evOf (1, k)]) (d + 1) b wc cl vt5 _ W5 hP5 hA5 hg5 HSL.out.2 HSL2.out); have HS5 := Lib.hid hs5'; clear hP5 hs5 hs5' hA5 hg5)
  | (go_at_call 27; (with_reducible refine Calls.mono HPU.out ?_); rintro e W6 ⟨rfl, vt6, hP6, hs6⟩; have HP6 := Lib.hid hP6; have HS6 := Lib.hid (HS5.out.trans hs6); clear hP6 hs6))
 go_ret
 exact ⟨rfl, _, _, HP6.out, HS6.out⟩
end Go.Proofs.Ytmjbpgnjgblnmaa
namespace Go.Proofs.Ytmjbpgnjgblnmaa
open Go.RowKit Go.Proofs.YtmjbpgnjgblnmaaW.PrintWords Go.Proofs.YtmjbpgnjgblnmaaW.PrintLast Go.Proofs.YtmjbpgnjgblnmaaW.PrintMore
def inL (c : ByteArray) (l : List ByteArray) : Bool := l.any (fun x => decide (x = c))
theorem inL_cons (c x : ByteArray) (l : List ByteArray) : inL c (x :: l) = (decide (x = c) || inL c l) := rfl
theorem among_l0 (c : ByteArray) (l : List ByteArray) (hl : l.length ≤ 1000) : ∀ (n i : Nat), i + n = l.length → PParsePuts.parse_among.l0 (n + 1) c l l.length i = some (inL c (l.drop i)) := by
 intro n
 induction n with
 | zero =>
  intro i h
  rw [PParsePuts.parse_among.l0, if_neg (by omega), List.drop_of_length_le (by omega)]
  rfl
 | succ n ih =>
  intro i h
  obtain ⟨x, hx⟩ : ∃ x, l[i]? = some x := ⟨_, List.getElem?_eq_getElem (by omega)⟩
  have hr : rdOf ByteArray.empty l i = x := by simp [rdOf, hx]
  have hd : l.drop i = x :: l.drop (i + 1) := by
   rw [List.drop_eq_getElem_cons (by omega)]
   have := (List.getElem?_eq_some_iff.1 hx).2
   rw [this]
  have hw : wrap64 ((i : Int) + 1) = ((i + 1 : Nat) : Int) := by unfold wrap64; omega
  rw [PParsePuts.parse_among.l0, if_pos (by omega), if_pos (by omega), if_pos (by omega), hr, hw, ih (i + 1) (by omega), hd]
  by_cases hxc : x = c
  ·subst hxc
   rw [if_pos rfl, inL_cons]
   simp
  ·rw [if_neg (fun e => hxc (by
    have h1 : x.data = c.data := by
     have := congrArg List.toArray e
     simpa [ByteArray.toList_eq] using this
    cases x; cases c; simpa using h1))]
   rw [inL_cons]
   simp [hxc]
theorem among_f (c : ByteArray) (l : List ByteArray) (hl : l.length ≤ 1000) : PParsePuts.parse_among.f (l.length + 1) c l = some (inL c l) := by
 have := among_l0 c l hl l.length 0 (by omega)
 simpa [PParsePuts.parse_among.f] using this
theorem reps_str (w : World) : ∀ l : List ByteArray, Reps (Kd.string.K w) 1 l (l.map Value.string)
 | [] => Reps.none _ _
 | x :: l => by
  have := Reps.one (show Kd.string.K w x [.string x] from rfl) (reps_str w l)
  simpa using this
theorem among_new (W : World) (c : ByteArray) (l : List ByteArray) (n : Nat) (cs : List Value) (hn : l.length = n) (hcs : l.map Value.string = cs) (hl : n ≤ 16) :
  Calls Try.prog 65 #[.string c, .slice (some ⟨W.heap.size, 0, none⟩) n n] (W.alloc (.cells cs.toArray 9)) fun e w' => e = .returned (.bool (inL c l)) ∧ Below W.heap.size W w' := by
 subst hn; subst hcs
 have hrow : (W.alloc (.cells (l.map Value.string).toArray 9)).ownsRow 0 9 1 (.slice (some ⟨W.heap.size, 0, none⟩) l.length l.length) l.length (l.map Value.string) :=
  ⟨by simp, .inr ⟨W.heap.size, l.length, (l.map Value.string).toArray, rfl, Nat.zero_le _, World.alloc_heap_new _ _, Nat.le_refl _, by simp only [maxLen]; omega, by simp, by simp [List.take_of_length_le]⟩⟩
 obtain ⟨A, c1, hv, hr⟩ := own_reads_row (size := 1) hrow (reps_str _ l) rfl
 injection hv with h1 h2 h3
 subst h1; subst h3
 refine (PParsePuts.parse_among.calls (l.length + 1) c _ _ l _ _ hr (Nat.le_refl _) (among_f c l (by omega))).mono ?_
 rintro e w' ⟨he, ⟨m, rfl⟩⟩
 exact ⟨he, pw_below_drewN ((Below.refl _ W).alloc (Nat.le_refl _) _) m⟩
theorem begins_any (W : World) (c : ByteArray) : Calls Try.prog 105 #[.string c] W fun e w' => e = .returned (.bool (inL c ([⟨#[64, 110, 117, 109, 98, 101, 114]⟩, ⟨#[64, 116, 101, 120, 116]⟩, ⟨#[64, 99, 104, 97, 114]⟩, ⟨#[64, 110, 97, 109, 101]⟩, ⟨#[45]⟩, ⟨#[110, 111, 116]⟩, ⟨#[40]⟩] : List ByteArray))) ∧ Below W.heap.size W w' :=
 PParsePuts.parse_begins.calls 8 c _ W ((congrArg (fun o : Option Bool => o.bind fun t => some t) (among_f c [⟨#[64, 110, 117, 109, 98, 101, 114]⟩, ⟨#[64, 116, 101, 120, 116]⟩, ⟨#[64, 99, 104, 97, 114]⟩, ⟨#[64, 110, 97, 109, 101]⟩, ⟨#[45]⟩, ⟨#[110, 111, 116]⟩, ⟨#[40]⟩] (by decide))).trans rfl)
end Go.Proofs.Ytmjbpgnjgblnmaa
namespace Go.Proofs.Ytmjbpgnjgblnmaa
open Go.RowKit Go.Proofs.YtmjbpgnjgblnmaaW.PrintWords Go.Proofs.YtmjbpgnjgblnmaaW.PrintLast Go.Proofs.YtmjbpgnjgblnmaaW.PrintMore
def RulePost (f : RId) (c : ByteArray) (p : Nat) (s : List WT) (es : List Ev) (d : Int) (b : Bool) (wc : Int) (cl : Bool) (vt ve : Value) (w : World) (e : Ending) (w' : World) : Prop :=
 match f.expand c with
 | none => e = .returned (.bool false) ∧ PAt w' p s es d b wc cl vt ve ∧ PStep p vt ve w vt ve w'
 | some l => e = .returned (.bool true) ∧ ∃ vt' ve', PAt w' p (effs ⟨s, [], d⟩ l).todo (es ++ (effs ⟨s, [], d⟩ l).evs.map evOf) (effs ⟨s, [], d⟩ l).depth b wc cl vt' ve' ∧ PStep p vt ve w vt' ve' w'
structure RBound (s : List WT) (es : List Ev) (d : Int) : Prop where
 s : s.length ≤ 274877906944
 es : es.length ≤ 549755813888
 d1 : -2305843009213693952 ≤ d
 d2 : d ≤ 2305843009213693952
def RuleAny (f : RId) : Prop := ∀ (c : ByteArray) (p : Nat) (s : List WT) (es : List Ev) (d : Int) (b : Bool) (wc : Int) (cl : Bool) (vt ve : Value) (w : World), PAt w p s es d b wc cl vt ve → RBound s es d →
 Calls Try.prog f.num #[.pointer (some ⟨p, 0, none⟩), .string c] w (RulePost f c p s es d b wc cl vt ve w)
theorem ne_lit {c : ByteArray} {l : List UInt8} (h : ¬ c = ⟨l.toArray⟩) : (c.toList == l) = false := by
 rw [beq_eq_false_iff_ne]
 intro e
 apply h
 have h1 : c.data = l.toArray := by
  have := congrArg List.toArray e
  simpa [ByteArray.toList_eq] using this
 cases c
 simpa using h1
theorem inL_iff (c : ByteArray) (l : List ByteArray) : inL c l = true ↔ c ∈ l := by
 unfold inL
 simp
theorem inL_no {c : ByteArray} {l : List ByteArray} (h : ¬ c ∈ l) : inL c l = false := by
 rw [Bool.eq_false_iff]
 exact fun e => h ((inL_iff c l).1 e)
theorem open_new {W : World} {p : Nat} {s : List WT} {es : List Ev} {d : Int} {b : Bool} {wc : Int} {cl : Bool} {vt ve : Value} (H : PAt W p s es d b wc cl vt ve) (k : Nat) (ki : Int) (l : List WT) (n : Nat) (cs : List Value) (hk : (k : Int) = ki) (hn : l.length = n) (hcs : l.flatMap wCells = cs) (hl : n ≤ 16) (hs : s.length ≤ 549755813888) (hes : es.length ≤ 1099511627776) (hd : -4611686018427387904 ≤ d ∧ d ≤ 4611686018427387904) :
  Calls Try.prog 48 #[.pointer (some ⟨p, 0, none⟩), .int .u8 ki, .slice (some ⟨W.heap.size, 0, none⟩) n n] (W.alloc (.cells cs.toArray 71)) fun e w' => e = .returned (.bool true) ∧ ∃ vt' ve', PAt w' p (l ++ .fin k :: s) (es ++ [evOf (1, k)]) (d + 1) b wc cl vt' ve' ∧ PStep p vt ve W vt' ve' w' := by
 subst hn; subst hcs; subst hk
 obtain ⟨h1, h2, h3⟩ := H.fresh (.cells (l.flatMap wCells).toArray 71)
 refine (open_any p k W.heap.size l s es d b wc cl vt ve _ h1 (World.alloc_heap_new _ _) h3 hl hs hes hd).mono ?_
 rintro e w' ⟨he, vt', ve', h4, h5⟩
 exact ⟨he, vt', ve', h4, h2.trans h5⟩
end Go.Proofs.Ytmjbpgnjgblnmaa
namespace Go.Proofs.Ytmjbpgnjgblnmaa
open Go.RowKit Go.Proofs.YtmjbpgnjgblnmaaW.PrintWords Go.Proofs.YtmjbpgnjgblnmaaW.PrintLast Go.Proofs.YtmjbpgnjgblnmaaW.PrintMore
set_option maxRecDepth 100000 in
set_option maxHeartbeats 4000000 in
theorem rule_names : RuleAny .r_names := by
 intro c p s es d b wc cl vt ve w HP0 HB0
 have HP := Lib.hid HP0
 have HS := Lib.hid (PStep.refl p vt ve w)
 obtain ⟨hs, hes, hd1, hd2⟩ := HB0
 clear HP0
 show Calls Try.prog 76 _ w (RulePost .r_names c p s es d b wc cl vt ve w)
 unfold RulePost
 by_cases h1 : c = ⟨#[44]⟩
 ·subst h1
  rw [show RId.expand .r_names ⟨#[44]⟩ = some [.push [.word ⟨#[44]⟩, .word ⟨#[64, 110, 97, 109, 101]⟩, .rule .r_names]] from rfl]
  have HO0 := Lib.hid (fun (W : World) (vt1 : Value) (h : PAt W p s es d b wc cl vt1 ve) => push_new h [.word ⟨#[44]⟩, .word ⟨#[64, 110, 97, 109, 101]⟩, .rule .r_names] 3 [.string ⟨#[44]⟩, .int .u8 0, .nilFunc, .string ⟨#[64, 110, 97, 109, 101]⟩, .int .u8 0, .nilFunc, .string ⟨#[]⟩, .int .u8 0, .func (.func 76) #[] #[]] rfl rfl (by decide) (by (try simp only [List.length_append, List.length_cons, List.length_nil]); omega))
  clear hs hes hd1 hd2
  go_enter Try.func76, Try.ntmps76
  go_wp2_with (first
   | (go_at_call 28; (with_reducible refine Calls.mono (word_any _ _) ?_); rintro e w9 ⟨rfl, hb⟩; replace HP := Lib.hid (HP.out.below hb); replace HS := Lib.hid (HS.out.trans (PStep.below hb)); clear hb)
   | (go_at_call 29; (with_reducible refine Calls.mono (rule_any _ _) ?_); rintro e w9 ⟨rfl, hb⟩; replace HP := Lib.hid (HP.out.below hb); replace HS := Lib.hid (HS.out.trans (PStep.below hb)); clear hb)
   | (go_at_call 27; (with_reducible refine Calls.mono (HO0.out _ _ HP.out) ?_); rintro e w9 ⟨rfl, vt9, hP9, hs9⟩; replace HP := Lib.hid hP9; replace HS := Lib.hid (HS.out.trans hs9); clear hP9 hs9))
  go_ret
  exact ⟨rfl, _, _, by simpa [effs, Eff.act] using HP.out, HS.out⟩
 ·skip
  rw [show RId.expand .r_names c = some [] by simp only [RId.expand]; rw [if_neg h1]]
  have e0 := ne_lit h1
  clear hs hes hd1 hd2
  go_enter Try.func76, Try.ntmps76
  go_wp2_with (first
   | (go_at_call 28; (with_reducible refine Calls.mono (word_any _ _) ?_); rintro e w9 ⟨rfl, hb⟩; replace HP := Lib.hid (HP.out.below hb); replace HS := Lib.hid (HS.out.trans (PStep.below hb)); clear hb)
   | (go_at_call 29; (with_reducible refine Calls.mono (rule_any _ _) ?_); rintro e w9 ⟨rfl, hb⟩; replace HP := Lib.hid (HP.out.below hb); replace HS := Lib.hid (HS.out.trans (PStep.below hb)); clear hb))
  go_ret
  exact ⟨rfl, _, _, by simpa [effs, Eff.act] using HP.out, HS.out⟩
set_option maxRecDepth 100000 in
set_option maxHeartbeats 4000000 in
theorem rule_declarations : RuleAny .r_declarations := by
 intro c p s es d b wc cl vt ve w HP0 HB0
 have HP := Lib.hid HP0
 have HS := Lib.hid (PStep.refl p vt ve w)
 obtain ⟨hs, hes, hd1, hd2⟩ := HB0
 clear HP0
 show Calls Try.prog 49 _ w (RulePost .r_declarations c p s es d b wc cl vt ve w)
 unfold RulePost
 by_cases h1 : c = ⟨#[118, 97, 114]⟩ ∨ c = ⟨#[99, 111, 110, 115, 116]⟩ ∨ c = ⟨#[112, 114, 111, 99]⟩
 ·rw [show RId.expand .r_declarations c = some [.push [.rule .r_declaration, .rule .r_declarations]] by simp only [RId.expand]; rw [if_pos h1]]
  have hin : inL c [⟨#[118, 97, 114]⟩, ⟨#[99, 111, 110, 115, 116]⟩, ⟨#[112, 114, 111, 99]⟩] = true := (inL_iff _ _).2 (by simpa using h1)
  have HAM := Lib.hid (fun (W : World) => among_new W c [⟨#[118, 97, 114]⟩, ⟨#[99, 111, 110, 115, 116]⟩, ⟨#[112, 114, 111, 99]⟩] 3 [.string ⟨#[118, 97, 114]⟩, .string ⟨#[99, 111, 110, 115, 116]⟩, .string ⟨#[112, 114, 111, 99]⟩] rfl rfl (by decide))
  rw [hin] at HAM
  clear hin
  have HO0 := Lib.hid (fun (W : World) (vt1 : Value) (h : PAt W p s es d b wc cl vt1 ve) => push_new h [.rule .r_declaration, .rule .r_declarations] 2 [.string ⟨#[]⟩, .int .u8 0, .func (.func 66) #[] #[], .string ⟨#[]⟩, .int .u8 0, .func (.func 49) #[] #[]] rfl rfl (by decide) (by (try simp only [List.length_append, List.length_cons, List.length_nil]); omega))
  clear hs hes hd1 hd2
  go_enter Try.func49, Try.ntmps49
  go_wp2_with (first
   | (go_at_call 65; (with_reducible refine Calls.mono (HAM.out _) ?_); rintro e w9 ⟨rfl, hb⟩; replace HP := Lib.hid (HP.out.below hb); replace HS := Lib.hid (HS.out.trans (PStep.below hb)); clear hb)
   | (go_at_call 28; (with_reducible refine Calls.mono (word_any _ _) ?_); rintro e w9 ⟨rfl, hb⟩; replace HP := Lib.hid (HP.out.below hb); replace HS := Lib.hid (HS.out.trans (PStep.below hb)); clear hb)
   | (go_at_call 29; (with_reducible refine Calls.mono (rule_any _ _) ?_); rintro e w9 ⟨rfl, hb⟩; replace HP := Lib.hid (HP.out.below hb); replace HS := Lib.hid (HS.out.trans (PStep.below hb)); clear hb)
   | (go_at_call 27; (with_reducible refine Calls.mono (HO0.out _ _ HP.out) ?_); rintro e w9 ⟨rfl, vt9, hP9, hs9⟩; replace HP := Lib.hid hP9; replace HS := Lib.hid (HS.out.trans hs9); clear hP9 hs9))
  go_ret
  exact ⟨rfl, _, _, by simpa [effs, Eff.act] using HP.out, HS.out⟩
 ·skip
  rw [show RId.expand .r_declarations c = some [] by simp only [RId.expand]; rw [if_neg h1]]
  have hin : inL c [⟨#[118, 97, 114]⟩, ⟨#[99, 111, 110, 115, 116]⟩, ⟨#[112, 114, 111, 99]⟩] = false := inL_no (fun h => h1 (by simpa using h))
  have HAM := Lib.hid (fun (W : World) => among_new W c [⟨#[118, 97, 114]⟩, ⟨#[99, 111, 110, 115, 116]⟩, ⟨#[112, 114, 111, 99]⟩] 3 [.string ⟨#[118, 97, 114]⟩, .string ⟨#[99, 111, 110, 115, 116]⟩, .string ⟨#[112, 114, 111, 99]⟩] rfl rfl (by decide))
  rw [hin] at HAM
  clear hin
  clear hs hes hd1 hd2
  go_enter Try.func49, Try.ntmps49
  go_wp2_with (first
   | (go_at_call 65; (with_reducible refine Calls.mono (HAM.out _) ?_); rintro e w9 ⟨rfl, hb⟩; replace HP := Lib.hid (HP.out.below hb); replace HS := Lib.hid (HS.out.trans (PStep.below hb)); clear hb)
   | (go_at_call 28; (with_reducible refine Calls.mono (word_any _ _) ?_); rintro e w9 ⟨rfl, hb⟩; replace HP := Lib.hid (HP.out.below hb); replace HS := Lib.hid (HS.out.trans (PStep.below hb)); clear hb)
   | (go_at_call 29; (with_reducible refine Calls.mono (rule_any _ _) ?_); rintro e w9 ⟨rfl, hb⟩; replace HP := Lib.hid (HP.out.below hb); replace HS := Lib.hid (HS.out.trans (PStep.below hb)); clear hb))
  go_ret
  exact ⟨rfl, _, _, by simpa [effs, Eff.act] using HP.out, HS.out⟩
set_option maxRecDepth 100000 in
set_option maxHeartbeats 4000000 in
theorem rule_kind : RuleAny .r_kind := by
 intro c p s es d b wc cl vt ve w HP0 HB0
 have HP := Lib.hid HP0
 have HS := Lib.hid (PStep.refl p vt ve w)
 obtain ⟨hs, hes, hd1, hd2⟩ := HB0
 clear HP0
 show Calls Try.prog 77 _ w (RulePost .r_kind c p s es d b wc cl vt ve w)
 unfold RulePost
 by_cases h1 : c = ⟨#[64, 110, 97, 109, 101]⟩
 ·subst h1
  rw [show RId.expand .r_kind ⟨#[64, 110, 97, 109, 101]⟩ = some [.opn 8 [.word ⟨#[64, 110, 97, 109, 101]⟩]] from rfl]
  have HO0 := Lib.hid (fun (W : World) (vt1 : Value) (h : PAt W p s es d b wc cl vt1 ve) => open_new h 8 8 [.word ⟨#[64, 110, 97, 109, 101]⟩] 1 [.string ⟨#[64, 110, 97, 109, 101]⟩, .int .u8 0, .nilFunc] rfl rfl rfl (by decide) (by (try simp only [List.length_append, List.length_cons, List.length_nil]); omega) (by omega) (by omega))
  clear hs hes hd1 hd2
  go_enter Try.func77, Try.ntmps77
  go_wp2_with (first
   | (go_at_call 28; (with_reducible refine Calls.mono (word_any _ _) ?_); rintro e w9 ⟨rfl, hb⟩; replace HP := Lib.hid (HP.out.below hb); replace HS := Lib.hid (HS.out.trans (PStep.below hb)); clear hb)
   | (go_at_call 29; (with_reducible refine Calls.mono (rule_any _ _) ?_); rintro e w9 ⟨rfl, hb⟩; replace HP := Lib.hid (HP.out.below hb); replace HS := Lib.hid (HS.out.trans (PStep.below hb)); clear hb)
   | (go_at_call 48; (with_reducible refine Calls.mono (HO0.out _ _ HP.out) ?_); rintro e w9 ⟨rfl, vt9, ve9, hP9, hs9⟩; replace HP := Lib.hid hP9; replace HS := Lib.hid (HS.out.trans hs9); clear hP9 hs9))
  go_ret
  exact ⟨rfl, _, _, by simpa [effs, Eff.act] using HP.out, HS.out⟩
 ·skip
  by_cases h2 : c = ⟨#[97, 114, 114, 97, 121]⟩
  ·subst h2
   rw [show RId.expand .r_kind ⟨#[97, 114, 114, 97, 121]⟩ = some [.opn 9 [.word ⟨#[97, 114, 114, 97, 121]⟩, .word ⟨#[91]⟩, .rule .r_expr, .word ⟨#[46, 46]⟩, .rule .r_expr, .word ⟨#[93]⟩, .word ⟨#[111, 102]⟩, .rule .r_kind]] from rfl]
   have HO0 := Lib.hid (fun (W : World) (vt1 : Value) (h : PAt W p s es d b wc cl vt1 ve) => open_new h 9 9 [.word ⟨#[97, 114, 114, 97, 121]⟩, .word ⟨#[91]⟩, .rule .r_expr, .word ⟨#[46, 46]⟩, .rule .r_expr, .word ⟨#[93]⟩, .word ⟨#[111, 102]⟩, .rule .r_kind] 8 [.string ⟨#[97, 114, 114, 97, 121]⟩, .int .u8 0, .nilFunc, .string ⟨#[91]⟩, .int .u8 0, .nilFunc, .string ⟨#[]⟩, .int .u8 0, .func (.func 78) #[] #[], .string ⟨#[46, 46]⟩, .int .u8 0, .nilFunc, .string ⟨#[]⟩, .int .u8 0, .func (.func 78) #[] #[], .string ⟨#[93]⟩, .int .u8 0, .nilFunc, .string ⟨#[111, 102]⟩, .int .u8 0, .nilFunc, .string ⟨#[]⟩, .int .u8 0, .func (.func 77) #[] #[]] rfl rfl rfl (by decide) (by (try simp only [List.length_append, List.length_cons, List.length_nil]); omega) (by omega) (by omega))
   clear hs hes hd1 hd2
   go_enter Try.func77, Try.ntmps77
   go_wp2_with (first
    | (go_at_call 28; (with_reducible refine Calls.mono (word_any _ _) ?_); rintro e w9 ⟨rfl, hb⟩; replace HP := Lib.hid (HP.out.below hb); replace HS := Lib.hid (HS.out.trans (PStep.below hb)); clear hb)
    | (go_at_call 29; (with_reducible refine Calls.mono (rule_any _ _) ?_); rintro e w9 ⟨rfl, hb⟩; replace HP := Lib.hid (HP.out.below hb); replace HS := Lib.hid (HS.out.trans (PStep.below hb)); clear hb)
    | (go_at_call 48; (with_reducible refine Calls.mono (HO0.out _ _ HP.out) ?_); rintro e w9 ⟨rfl, vt9, ve9, hP9, hs9⟩; replace HP := Lib.hid hP9; replace HS := Lib.hid (HS.out.trans hs9); clear hP9 hs9))
   go_ret
   exact ⟨rfl, _, _, by simpa [effs, Eff.act] using HP.out, HS.out⟩
  ·skip
   by_cases h3 : c = ⟨#[114, 101, 99, 111, 114, 100]⟩
   ·subst h3
    rw [show RId.expand .r_kind ⟨#[114, 101, 99, 111, 114, 100]⟩ = some [.opn 10 [.word ⟨#[114, 101, 99, 111, 114, 100]⟩, .rule .r_member, .rule .r_members, .word ⟨#[101, 110, 100]⟩]] from rfl]
    have HO0 := Lib.hid (fun (W : World) (vt1 : Value) (h : PAt W p s es d b wc cl vt1 ve) => open_new h 10 10 [.word ⟨#[114, 101, 99, 111, 114, 100]⟩, .rule .r_member, .rule .r_members, .word ⟨#[101, 110, 100]⟩] 4 [.string ⟨#[114, 101, 99, 111, 114, 100]⟩, .int .u8 0, .nilFunc, .string ⟨#[]⟩, .int .u8 0, .func (.func 98) #[] #[], .string ⟨#[]⟩, .int .u8 0, .func (.func 99) #[] #[], .string ⟨#[101, 110, 100]⟩, .int .u8 0, .nilFunc] rfl rfl rfl (by decide) (by (try simp only [List.length_append, List.length_cons, List.length_nil]); omega) (by omega) (by omega))
    clear hs hes hd1 hd2
    go_enter Try.func77, Try.ntmps77
    go_wp2_with (first
     | (go_at_call 28; (with_reducible refine Calls.mono (word_any _ _) ?_); rintro e w9 ⟨rfl, hb⟩; replace HP := Lib.hid (HP.out.below hb); replace HS := Lib.hid (HS.out.trans (PStep.below hb)); clear hb)
     | (go_at_call 29; (with_reducible refine Calls.mono (rule_any _ _) ?_); rintro e w9 ⟨rfl, hb⟩; replace HP := Lib.hid (HP.out.below hb); replace HS := Lib.hid (HS.out.trans (PStep.below hb)); clear hb)
     | (go_at_call 48; (with_reducible refine Calls.mono (HO0.out _ _ HP.out) ?_); rintro e w9 ⟨rfl, vt9, ve9, hP9, hs9⟩; replace HP := Lib.hid hP9; replace HS := Lib.hid (HS.out.trans hs9); clear hP9 hs9))
    go_ret
    exact ⟨rfl, _, _, by simpa [effs, Eff.act] using HP.out, HS.out⟩
   ·skip
    rw [show RId.expand .r_kind c = none by simp only [RId.expand]; rw [if_neg h1]; rw [if_neg h2]; rw [if_neg h3]]
    have e0 := ne_lit h1
    have e1 := ne_lit h2
    have e2 := ne_lit h3
    clear hs hes hd1 hd2
    go_enter Try.func77, Try.ntmps77
    go_wp2_with (first
     | (go_at_call 28; (with_reducible refine Calls.mono (word_any _ _) ?_); rintro e w9 ⟨rfl, hb⟩; replace HP := Lib.hid (HP.out.below hb); replace HS := Lib.hid (HS.out.trans (PStep.below hb)); clear hb)
     | (go_at_call 29; (with_reducible refine Calls.mono (rule_any _ _) ?_); rintro e w9 ⟨rfl, hb⟩; replace HP := Lib.hid (HP.out.below hb); replace HS := Lib.hid (HS.out.trans (PStep.below hb)); clear hb))
    go_ret
    exact ⟨rfl, HP.out, HS.out⟩
end Go.Proofs.Ytmjbpgnjgblnmaa
namespace Go.Proofs.Ytmjbpgnjgblnmaa
open Go.RowKit Go.Proofs.YtmjbpgnjgblnmaaW.PrintWords Go.Proofs.YtmjbpgnjgblnmaaW.PrintLast Go.Proofs.YtmjbpgnjgblnmaaW.PrintMore
set_option maxRecDepth 100000 in
set_option maxHeartbeats 4000000 in
theorem rule_block : RuleAny .r_block := by
 intro c p s es d b wc cl vt ve w HP0 HB0
 have HP := Lib.hid HP0
 have HS := Lib.hid (PStep.refl p vt ve w)
 obtain ⟨hs, hes, hd1, hd2⟩ := HB0
 clear HP0
 show Calls Try.prog 30 _ w (RulePost .r_block c p s es d b wc cl vt ve w)
 unfold RulePost
 rw [show RId.expand .r_block c = some [.opn 2 [.rule .r_declarations, .word ⟨#[98, 101, 103, 105, 110]⟩, .rule .r_body, .word ⟨#[101, 110, 100]⟩]] from rfl]
 have HO0 := Lib.hid (fun (W : World) (vt1 : Value) (h : PAt W p s es d b wc cl vt1 ve) => open_new h 2 2 [.rule .r_declarations, .word ⟨#[98, 101, 103, 105, 110]⟩, .rule .r_body, .word ⟨#[101, 110, 100]⟩] 4 [.string ⟨#[]⟩, .int .u8 0, .func (.func 49) #[] #[], .string ⟨#[98, 101, 103, 105, 110]⟩, .int .u8 0, .nilFunc, .string ⟨#[]⟩, .int .u8 0, .func (.func 50) #[] #[], .string ⟨#[101, 110, 100]⟩, .int .u8 0, .nilFunc] rfl rfl rfl (by decide) (by (try simp only [List.length_append, List.length_cons, List.length_nil]); omega) (by omega) (by omega))
 clear hs hes hd1 hd2
 go_enter Try.func30, Try.ntmps30
 go_wp2_with (first
  | (go_at_call 28; (with_reducible refine Calls.mono (word_any _ _) ?_); rintro e w9 ⟨rfl, hb⟩; replace HP := Lib.hid (HP.out.below hb); replace HS := Lib.hid (HS.out.trans (PStep.below hb)); clear hb)
  | (go_at_call 29; (with_reducible refine Calls.mono (rule_any _ _) ?_); rintro e w9 ⟨rfl, hb⟩; replace HP := Lib.hid (HP.out.below hb); replace HS := Lib.hid (HS.out.trans (PStep.below hb)); clear hb)
  | (go_at_call 48; (with_reducible refine Calls.mono (HO0.out _ _ HP.out) ?_); rintro e w9 ⟨rfl, vt9, ve9, hP9, hs9⟩; replace HP := Lib.hid hP9; replace HS := Lib.hid (HS.out.trans hs9); clear hP9 hs9))
 go_ret
 exact ⟨rfl, _, _, by simpa [effs, Eff.act] using HP.out, HS.out⟩
set_option maxRecDepth 100000 in
set_option maxHeartbeats 4000000 in
theorem rule_declaration : RuleAny .r_declaration := by
 intro c p s es d b wc cl vt ve w HP0 HB0
 have HP := Lib.hid HP0
 have HS := Lib.hid (PStep.refl p vt ve w)
 obtain ⟨hs, hes, hd1, hd2⟩ := HB0
 clear HP0
 show Calls Try.prog 66 _ w (RulePost .r_declaration c p s es d b wc cl vt ve w)
 unfold RulePost
 by_cases h1 : c = ⟨#[118, 97, 114]⟩
 ·subst h1
  rw [show RId.expand .r_declaration ⟨#[118, 97, 114]⟩ = some [.opn 3 [.word ⟨#[118, 97, 114]⟩, .word ⟨#[64, 110, 97, 109, 101]⟩, .rule .r_names, .word ⟨#[58]⟩, .rule .r_kind, .word ⟨#[59]⟩]] from rfl]
  have HO0 := Lib.hid (fun (W : World) (vt1 : Value) (h : PAt W p s es d b wc cl vt1 ve) => open_new h 3 3 [.word ⟨#[118, 97, 114]⟩, .word ⟨#[64, 110, 97, 109, 101]⟩, .rule .r_names, .word ⟨#[58]⟩, .rule .r_kind, .word ⟨#[59]⟩] 6 [.string ⟨#[118, 97, 114]⟩, .int .u8 0, .nilFunc, .string ⟨#[64, 110, 97, 109, 101]⟩, .int .u8 0, .nilFunc, .string ⟨#[]⟩, .int .u8 0, .func (.func 76) #[] #[], .string ⟨#[58]⟩, .int .u8 0, .nilFunc, .string ⟨#[]⟩, .int .u8 0, .func (.func 77) #[] #[], .string ⟨#[59]⟩, .int .u8 0, .nilFunc] rfl rfl rfl (by decide) (by (try simp only [List.length_append, List.length_cons, List.length_nil]); omega) (by omega) (by omega))
  clear hs hes hd1 hd2
  go_enter Try.func66, Try.ntmps66
  go_wp2_with (first
   | (go_at_call 28; (with_reducible refine Calls.mono (word_any _ _) ?_); rintro e w9 ⟨rfl, hb⟩; replace HP := Lib.hid (HP.out.below hb); replace HS := Lib.hid (HS.out.trans (PStep.below hb)); clear hb)
   | (go_at_call 29; (with_reducible refine Calls.mono (rule_any _ _) ?_); rintro e w9 ⟨rfl, hb⟩; replace HP := Lib.hid (HP.out.below hb); replace HS := Lib.hid (HS.out.trans (PStep.below hb)); clear hb)
   | (go_at_call 48; (with_reducible refine Calls.mono (HO0.out _ _ HP.out) ?_); rintro e w9 ⟨rfl, vt9, ve9, hP9, hs9⟩; replace HP := Lib.hid hP9; replace HS := Lib.hid (HS.out.trans hs9); clear hP9 hs9))
  go_ret
  exact ⟨rfl, _, _, by simpa [effs, Eff.act] using HP.out, HS.out⟩
 ·skip
  by_cases h2 : c = ⟨#[99, 111, 110, 115, 116]⟩
  ·subst h2
   rw [show RId.expand .r_declaration ⟨#[99, 111, 110, 115, 116]⟩ = some [.opn 4 [.word ⟨#[99, 111, 110, 115, 116]⟩, .word ⟨#[64, 110, 97, 109, 101]⟩, .word ⟨#[61]⟩, .rule .r_expr, .word ⟨#[59]⟩]] from rfl]
   have HO0 := Lib.hid (fun (W : World) (vt1 : Value) (h : PAt W p s es d b wc cl vt1 ve) => open_new h 4 4 [.word ⟨#[99, 111, 110, 115, 116]⟩, .word ⟨#[64, 110, 97, 109, 101]⟩, .word ⟨#[61]⟩, .rule .r_expr, .word ⟨#[59]⟩] 5 [.string ⟨#[99, 111, 110, 115, 116]⟩, .int .u8 0, .nilFunc, .string ⟨#[64, 110, 97, 109, 101]⟩, .int .u8 0, .nilFunc, .string ⟨#[61]⟩, .int .u8 0, .nilFunc, .string ⟨#[]⟩, .int .u8 0, .func (.func 78) #[] #[], .string ⟨#[59]⟩, .int .u8 0, .nilFunc] rfl rfl rfl (by decide) (by (try simp only [List.length_append, List.length_cons, List.length_nil]); omega) (by omega) (by omega))
   clear hs hes hd1 hd2
   go_enter Try.func66, Try.ntmps66
   go_wp2_with (first
    | (go_at_call 28; (with_reducible refine Calls.mono (word_any _ _) ?_); rintro e w9 ⟨rfl, hb⟩; replace HP := Lib.hid (HP.out.below hb); replace HS := Lib.hid (HS.out.trans (PStep.below hb)); clear hb)
    | (go_at_call 29; (with_reducible refine Calls.mono (rule_any _ _) ?_); rintro e w9 ⟨rfl, hb⟩; replace HP := Lib.hid (HP.out.below hb); replace HS := Lib.hid (HS.out.trans (PStep.below hb)); clear hb)
    | (go_at_call 48; (with_reducible refine Calls.mono (HO0.out _ _ HP.out) ?_); rintro e w9 ⟨rfl, vt9, ve9, hP9, hs9⟩; replace HP := Lib.hid hP9; replace HS := Lib.hid (HS.out.trans hs9); clear hP9 hs9))
   go_ret
   exact ⟨rfl, _, _, by simpa [effs, Eff.act] using HP.out, HS.out⟩
  ·skip
   rw [show RId.expand .r_declaration c = some [.opn 5 [.word c, .word ⟨#[64, 110, 97, 109, 101]⟩, .rule .r_params, .rule .r_typed, .word ⟨#[59]⟩, .rule .r_block, .word ⟨#[59]⟩]] by simp only [RId.expand]; rw [if_neg h1]; rw [if_neg h2]]
   have e0 := ne_lit h1
   have e1 := ne_lit h2
   have HO0 := Lib.hid (fun (W : World) (vt1 : Value) (h : PAt W p s es d b wc cl vt1 ve) => open_new h 5 5 [.word c, .word ⟨#[64, 110, 97, 109, 101]⟩, .rule .r_params, .rule .r_typed, .word ⟨#[59]⟩, .rule .r_block, .word ⟨#[59]⟩] 7 [.string c, .int .u8 0, .nilFunc, .string ⟨#[64, 110, 97, 109, 101]⟩, .int .u8 0, .nilFunc, .string ⟨#[]⟩, .int .u8 0, .func (.func 79) #[] #[], .string ⟨#[]⟩, .int .u8 0, .func (.func 80) #[] #[], .string ⟨#[59]⟩, .int .u8 0, .nilFunc, .string ⟨#[]⟩, .int .u8 0, .func (.func 30) #[] #[], .string ⟨#[59]⟩, .int .u8 0, .nilFunc] rfl rfl rfl (by decide) (by (try simp only [List.length_append, List.length_cons, List.length_nil]); omega) (by omega) (by omega))
   clear hs hes hd1 hd2
   go_enter Try.func66, Try.ntmps66
   go_wp2_with (first
    | (go_at_call 28; (with_reducible refine Calls.mono (word_any _ _) ?_); rintro e w9 ⟨rfl, hb⟩; replace HP := Lib.hid (HP.out.below hb); replace HS := Lib.hid (HS.out.trans (PStep.below hb)); clear hb)
    | (go_at_call 29; (with_reducible refine Calls.mono (rule_any _ _) ?_); rintro e w9 ⟨rfl, hb⟩; replace HP := Lib.hid (HP.out.below hb); replace HS := Lib.hid (HS.out.trans (PStep.below hb)); clear hb)
    | (go_at_call 48; (with_reducible refine Calls.mono (HO0.out _ _ HP.out) ?_); rintro e w9 ⟨rfl, vt9, ve9, hP9, hs9⟩; replace HP := Lib.hid hP9; replace HS := Lib.hid (HS.out.trans hs9); clear hP9 hs9))
   go_ret
   exact ⟨rfl, _, _, by simpa [effs, Eff.act] using HP.out, HS.out⟩
set_option maxRecDepth 100000 in
set_option maxHeartbeats 4000000 in
theorem rule_params : RuleAny .r_params := by
 intro c p s es d b wc cl vt ve w HP0 HB0
 have HP := Lib.hid HP0
 have HS := Lib.hid (PStep.refl p vt ve w)
 obtain ⟨hs, hes, hd1, hd2⟩ := HB0
 clear HP0
 show Calls Try.prog 79 _ w (RulePost .r_params c p s es d b wc cl vt ve w)
 unfold RulePost
 by_cases h1 : c = ⟨#[40]⟩
 ·subst h1
  rw [show RId.expand .r_params ⟨#[40]⟩ = some [.opn 6 [.word ⟨#[40]⟩, .rule .r_param, .rule .r_moreParams, .word ⟨#[41]⟩]] from rfl]
  have HO0 := Lib.hid (fun (W : World) (vt1 : Value) (h : PAt W p s es d b wc cl vt1 ve) => open_new h 6 6 [.word ⟨#[40]⟩, .rule .r_param, .rule .r_moreParams, .word ⟨#[41]⟩] 4 [.string ⟨#[40]⟩, .int .u8 0, .nilFunc, .string ⟨#[]⟩, .int .u8 0, .func (.func 102) #[] #[], .string ⟨#[]⟩, .int .u8 0, .func (.func 103) #[] #[], .string ⟨#[41]⟩, .int .u8 0, .nilFunc] rfl rfl rfl (by decide) (by (try simp only [List.length_append, List.length_cons, List.length_nil]); omega) (by omega) (by omega))
  clear hs hes hd1 hd2
  go_enter Try.func79, Try.ntmps79
  go_wp2_with (first
   | (go_at_call 28; (with_reducible refine Calls.mono (word_any _ _) ?_); rintro e w9 ⟨rfl, hb⟩; replace HP := Lib.hid (HP.out.below hb); replace HS := Lib.hid (HS.out.trans (PStep.below hb)); clear hb)
   | (go_at_call 29; (with_reducible refine Calls.mono (rule_any _ _) ?_); rintro e w9 ⟨rfl, hb⟩; replace HP := Lib.hid (HP.out.below hb); replace HS := Lib.hid (HS.out.trans (PStep.below hb)); clear hb)
   | (go_at_call 48; (with_reducible refine Calls.mono (HO0.out _ _ HP.out) ?_); rintro e w9 ⟨rfl, vt9, ve9, hP9, hs9⟩; replace HP := Lib.hid hP9; replace HS := Lib.hid (HS.out.trans hs9); clear hP9 hs9))
  go_ret
  exact ⟨rfl, _, _, by simpa [effs, Eff.act] using HP.out, HS.out⟩
 ·skip
  rw [show RId.expand .r_params c = some [] by simp only [RId.expand]; rw [if_neg h1]]
  have e0 := ne_lit h1
  clear hs hes hd1 hd2
  go_enter Try.func79, Try.ntmps79
  go_wp2_with (first
   | (go_at_call 28; (with_reducible refine Calls.mono (word_any _ _) ?_); rintro e w9 ⟨rfl, hb⟩; replace HP := Lib.hid (HP.out.below hb); replace HS := Lib.hid (HS.out.trans (PStep.below hb)); clear hb)
   | (go_at_call 29; (with_reducible refine Calls.mono (rule_any _ _) ?_); rintro e w9 ⟨rfl, hb⟩; replace HP := Lib.hid (HP.out.below hb); replace HS := Lib.hid (HS.out.trans (PStep.below hb)); clear hb))
  go_ret
  exact ⟨rfl, _, _, by simpa [effs, Eff.act] using HP.out, HS.out⟩
set_option maxRecDepth 100000 in
set_option maxHeartbeats 4000000 in
theorem rule_moreParams : RuleAny .r_moreParams := by
 intro c p s es d b wc cl vt ve w HP0 HB0
 have HP := Lib.hid HP0
 have HS := Lib.hid (PStep.refl p vt ve w)
 obtain ⟨hs, hes, hd1, hd2⟩ := HB0
 clear HP0
 show Calls Try.prog 103 _ w (RulePost .r_moreParams c p s es d b wc cl vt ve w)
 unfold RulePost
 by_cases h1 : c = ⟨#[59]⟩
 ·subst h1
  rw [show RId.expand .r_moreParams ⟨#[59]⟩ = some [.push [.word ⟨#[59]⟩, .rule .r_param, .rule .r_moreParams]] from rfl]
  have HO0 := Lib.hid (fun (W : World) (vt1 : Value) (h : PAt W p s es d b wc cl vt1 ve) => push_new h [.word ⟨#[59]⟩, .rule .r_param, .rule .r_moreParams] 3 [.string ⟨#[59]⟩, .int .u8 0, .nilFunc, .string ⟨#[]⟩, .int .u8 0, .func (.func 102) #[] #[], .string ⟨#[]⟩, .int .u8 0, .func (.func 103) #[] #[]] rfl rfl (by decide) (by (try simp only [List.length_append, List.length_cons, List.length_nil]); omega))
  clear hs hes hd1 hd2
  go_enter Try.func103, Try.ntmps103
  go_wp2_with (first
   | (go_at_call 28; (with_reducible refine Calls.mono (word_any _ _) ?_); rintro e w9 ⟨rfl, hb⟩; replace HP := Lib.hid (HP.out.below hb); replace HS := Lib.hid (HS.out.trans (PStep.below hb)); clear hb)
   | (go_at_call 29; (with_reducible refine Calls.mono (rule_any _ _) ?_); rintro e w9 ⟨rfl, hb⟩; replace HP := Lib.hid (HP.out.below hb); replace HS := Lib.hid (HS.out.trans (PStep.below hb)); clear hb)
   | (go_at_call 27; (with_reducible refine Calls.mono (HO0.out _ _ HP.out) ?_); rintro e w9 ⟨rfl, vt9, hP9, hs9⟩; replace HP := Lib.hid hP9; replace HS := Lib.hid (HS.out.trans hs9); clear hP9 hs9))
  go_ret
  exact ⟨rfl, _, _, by simpa [effs, Eff.act] using HP.out, HS.out⟩
 ·skip
  rw [show RId.expand .r_moreParams c = some [] by simp only [RId.expand]; rw [if_neg h1]]
  have e0 := ne_lit h1
  clear hs hes hd1 hd2
  go_enter Try.func103, Try.ntmps103
  go_wp2_with (first
   | (go_at_call 28; (with_reducible refine Calls.mono (word_any _ _) ?_); rintro e w9 ⟨rfl, hb⟩; replace HP := Lib.hid (HP.out.below hb); replace HS := Lib.hid (HS.out.trans (PStep.below hb)); clear hb)
   | (go_at_call 29; (with_reducible refine Calls.mono (rule_any _ _) ?_); rintro e w9 ⟨rfl, hb⟩; replace HP := Lib.hid (HP.out.below hb); replace HS := Lib.hid (HS.out.trans (PStep.below hb)); clear hb))
  go_ret
  exact ⟨rfl, _, _, by simpa [effs, Eff.act] using HP.out, HS.out⟩
set_option maxRecDepth 100000 in
set_option maxHeartbeats 4000000 in
theorem rule_param : RuleAny .r_param := by
 intro c p s es d b wc cl vt ve w HP0 HB0
 have HP := Lib.hid HP0
 have HS := Lib.hid (PStep.refl p vt ve w)
 obtain ⟨hs, hes, hd1, hd2⟩ := HB0
 clear HP0
 show Calls Try.prog 102 _ w (RulePost .r_param c p s es d b wc cl vt ve w)
 unfold RulePost
 rw [show RId.expand .r_param c = some [.opn 7 [.word ⟨#[64, 110, 97, 109, 101]⟩, .rule .r_names, .word ⟨#[58]⟩, .rule .r_kind]] from rfl]
 have HO0 := Lib.hid (fun (W : World) (vt1 : Value) (h : PAt W p s es d b wc cl vt1 ve) => open_new h 7 7 [.word ⟨#[64, 110, 97, 109, 101]⟩, .rule .r_names, .word ⟨#[58]⟩, .rule .r_kind] 4 [.string ⟨#[64, 110, 97, 109, 101]⟩, .int .u8 0, .nilFunc, .string ⟨#[]⟩, .int .u8 0, .func (.func 76) #[] #[], .string ⟨#[58]⟩, .int .u8 0, .nilFunc, .string ⟨#[]⟩, .int .u8 0, .func (.func 77) #[] #[]] rfl rfl rfl (by decide) (by (try simp only [List.length_append, List.length_cons, List.length_nil]); omega) (by omega) (by omega))
 clear hs hes hd1 hd2
 go_enter Try.func102, Try.ntmps102
 go_wp2_with (first
  | (go_at_call 28; (with_reducible refine Calls.mono (word_any _ _) ?_); rintro e w9 ⟨rfl, hb⟩; replace HP := Lib.hid (HP.out.below hb); replace HS := Lib.hid (HS.out.trans (PStep.below hb)); clear hb)
  | (go_at_call 29; (with_reducible refine Calls.mono (rule_any _ _) ?_); rintro e w9 ⟨rfl, hb⟩; replace HP := Lib.hid (HP.out.below hb); replace HS := Lib.hid (HS.out.trans (PStep.below hb)); clear hb)
  | (go_at_call 48; (with_reducible refine Calls.mono (HO0.out _ _ HP.out) ?_); rintro e w9 ⟨rfl, vt9, ve9, hP9, hs9⟩; replace HP := Lib.hid hP9; replace HS := Lib.hid (HS.out.trans hs9); clear hP9 hs9))
 go_ret
 exact ⟨rfl, _, _, by simpa [effs, Eff.act] using HP.out, HS.out⟩
set_option maxRecDepth 100000 in
set_option maxHeartbeats 4000000 in
theorem rule_typed : RuleAny .r_typed := by
 intro c p s es d b wc cl vt ve w HP0 HB0
 have HP := Lib.hid HP0
 have HS := Lib.hid (PStep.refl p vt ve w)
 obtain ⟨hs, hes, hd1, hd2⟩ := HB0
 clear HP0
 show Calls Try.prog 80 _ w (RulePost .r_typed c p s es d b wc cl vt ve w)
 unfold RulePost
 by_cases h1 : c = ⟨#[58]⟩
 ·subst h1
  rw [show RId.expand .r_typed ⟨#[58]⟩ = some [.push [.word ⟨#[58]⟩, .rule .r_kind]] from rfl]
  have HO0 := Lib.hid (fun (W : World) (vt1 : Value) (h : PAt W p s es d b wc cl vt1 ve) => push_new h [.word ⟨#[58]⟩, .rule .r_kind] 2 [.string ⟨#[58]⟩, .int .u8 0, .nilFunc, .string ⟨#[]⟩, .int .u8 0, .func (.func 77) #[] #[]] rfl rfl (by decide) (by (try simp only [List.length_append, List.length_cons, List.length_nil]); omega))
  clear hs hes hd1 hd2
  go_enter Try.func80, Try.ntmps80
  go_wp2_with (first
   | (go_at_call 28; (with_reducible refine Calls.mono (word_any _ _) ?_); rintro e w9 ⟨rfl, hb⟩; replace HP := Lib.hid (HP.out.below hb); replace HS := Lib.hid (HS.out.trans (PStep.below hb)); clear hb)
   | (go_at_call 29; (with_reducible refine Calls.mono (rule_any _ _) ?_); rintro e w9 ⟨rfl, hb⟩; replace HP := Lib.hid (HP.out.below hb); replace HS := Lib.hid (HS.out.trans (PStep.below hb)); clear hb)
   | (go_at_call 27; (with_reducible refine Calls.mono (HO0.out _ _ HP.out) ?_); rintro e w9 ⟨rfl, vt9, hP9, hs9⟩; replace HP := Lib.hid hP9; replace HS := Lib.hid (HS.out.trans hs9); clear hP9 hs9))
  go_ret
  exact ⟨rfl, _, _, by simpa [effs, Eff.act] using HP.out, HS.out⟩
 ·skip
  rw [show RId.expand .r_typed c = some [] by simp only [RId.expand]; rw [if_neg h1]]
  have e0 := ne_lit h1
  clear hs hes hd1 hd2
  go_enter Try.func80, Try.ntmps80
  go_wp2_with (first
   | (go_at_call 28; (with_reducible refine Calls.mono (word_any _ _) ?_); rintro e w9 ⟨rfl, hb⟩; replace HP := Lib.hid (HP.out.below hb); replace HS := Lib.hid (HS.out.trans (PStep.below hb)); clear hb)
   | (go_at_call 29; (with_reducible refine Calls.mono (rule_any _ _) ?_); rintro e w9 ⟨rfl, hb⟩; replace HP := Lib.hid (HP.out.below hb); replace HS := Lib.hid (HS.out.trans (PStep.below hb)); clear hb))
  go_ret
  exact ⟨rfl, _, _, by simpa [effs, Eff.act] using HP.out, HS.out⟩
end Go.Proofs.Ytmjbpgnjgblnmaa
