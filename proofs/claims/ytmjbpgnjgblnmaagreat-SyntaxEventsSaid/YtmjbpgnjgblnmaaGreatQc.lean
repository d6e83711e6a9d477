/- What the claim stands on: part Qc. -/
import Derived.Test.YtmjbpgnjgblnmaaGreatQb
import Derived.RowKit
import Derived.OrdersHeld
import Derived.Deep.RegionHeld
import Derived.OrdersIn
import Derived.RangeFuncCalls
import Derived.TacticsIn
import Derived.Lib.Hide
import Derived.Below
import Derived.Laws.AppendOwn
import Derived.Deep.MidRow
set_option linter.unusedVariables false
set_option linter.unusedSimpArgs false
namespace Go.Proofs.YtmjbpgnjgblnmaaGreat
inductive RId
 | r_block
 | r_declarations
 | r_declaration
 | r_names
 | r_params
 | r_moreParams
 | r_param
 | r_typed
 | r_kind
 | r_member
 | r_members
 | r_body
 | r_statements
 | r_statement
 | r_assigned
 | r_elses
 | r_maybe
 | r_expr
 | r_rels
 | r_rel
 | r_compared
 | r_sum
 | r_terms
 | r_term
 | r_factors
 | r_factor
 | r_object
 | r_selected
 | r_args
 | r_exprs
 deriving DecidableEq, Repr
inductive WT
 | word (s : ByteArray)
 | fin (k : Nat)
 | rule (f : RId)
 deriving DecidableEq
inductive Eff
 | push (l : List WT)
 | opn (k : Nat) (l : List WT)
def RId.num : RId → Nat
 | .r_block => 27
 | .r_declarations => 43
 | .r_declaration => 59
 | .r_names => 80
 | .r_params => 83
 | .r_moreParams => 112
 | .r_param => 111
 | .r_typed => 84
 | .r_kind => 81
 | .r_member => 107
 | .r_members => 108
 | .r_body => 44
 | .r_statements => 61
 | .r_statement => 60
 | .r_assigned => 86
 | .r_elses => 87
 | .r_maybe => 88
 | .r_expr => 82
 | .r_rels => 110
 | .r_rel => 109
 | .r_compared => 131
 | .r_sum => 130
 | .r_terms => 143
 | .r_term => 142
 | .r_factors => 148
 | .r_factor => 147
 | .r_object => 85
 | .r_selected => 113
 | .r_args => 133
 | .r_exprs => 132
def RId.expand : RId → ByteArray → Option (List Eff)
 | .r_block, c => some [.opn 2 [.rule .r_declarations, .word ⟨#[98, 101, 103, 105, 110]⟩, .rule .r_body, .word ⟨#[101, 110, 100]⟩]]
 | .r_declarations, c => if c = ⟨#[118, 97, 114]⟩ ∨ c = ⟨#[99, 111, 110, 115, 116]⟩ ∨ c = ⟨#[112, 114, 111, 99]⟩ then some [.push [.rule .r_declaration, .rule .r_declarations]] else some []
 | .r_declaration, c => if c = ⟨#[118, 97, 114]⟩ then some [.opn 3 [.word c, .word ⟨#[64, 110, 97, 109, 101]⟩, .rule .r_names, .word ⟨#[58]⟩, .rule .r_kind, .word ⟨#[59]⟩]] else if c = ⟨#[99, 111, 110, 115, 116]⟩ then some [.opn 4 [.word c, .word ⟨#[64, 110, 97, 109, 101]⟩, .word ⟨#[61]⟩, .rule .r_expr, .word ⟨#[59]⟩]] else some [.opn 5 [.word c, .word ⟨#[64, 110, 97, 109, 101]⟩, .rule .r_params, .rule .r_typed, .word ⟨#[59]⟩, .rule .r_block, .word ⟨#[59]⟩]]
 | .r_names, c => if c = ⟨#[44]⟩ then some [.push [.word c, .word ⟨#[64, 110, 97, 109, 101]⟩, .rule .r_names]] else some []
 | .r_params, c => if c = ⟨#[40]⟩ then some [.opn 6 [.word c, .rule .r_param, .rule .r_moreParams, .word ⟨#[41]⟩]] else some []
 | .r_moreParams, c => if c = ⟨#[59]⟩ then some [.push [.word c, .rule .r_param, .rule .r_moreParams]] else some []
 | .r_param, c => some [.opn 7 [.word ⟨#[64, 110, 97, 109, 101]⟩, .rule .r_names, .word ⟨#[58]⟩, .rule .r_kind]]
 | .r_typed, c => if c = ⟨#[58]⟩ then some [.push [.word c, .rule .r_kind]] else some []
 | .r_kind, c => if c = ⟨#[64, 110, 97, 109, 101]⟩ then some [.opn 8 [.word c]] else if c = ⟨#[97, 114, 114, 97, 121]⟩ then some [.opn 9 [.word c, .word ⟨#[91]⟩, .rule .r_expr, .word ⟨#[46, 46]⟩, .rule .r_expr, .word ⟨#[93]⟩, .word ⟨#[111, 102]⟩, .rule .r_kind]] else if c = ⟨#[114, 101, 99, 111, 114, 100]⟩ then some [.opn 10 [.word c, .rule .r_member, .rule .r_members, .word ⟨#[101, 110, 100]⟩]] else none
 | .r_member, c => some [.opn 11 [.word ⟨#[64, 110, 97, 109, 101]⟩, .rule .r_names, .word ⟨#[58]⟩, .rule .r_kind]]
 | .r_members, c => if c = ⟨#[59]⟩ then some [.push [.word c, .rule .r_member, .rule .r_members]] else some []
 | .r_body, c => some [.opn 12 [.rule .r_statement, .rule .r_statements]]
 | .r_statements, c => if c = ⟨#[59]⟩ then some [.push [.word c, .rule .r_statement, .rule .r_statements]] else some []
 | .r_statement, c => if c = ⟨#[115, 107, 105, 112]⟩ then some [.opn 13 [.word c]] else if c = ⟨#[64, 110, 97, 109, 101]⟩ then some [.opn 14 [.rule .r_object, .rule .r_assigned]] else if c = ⟨#[105, 102]⟩ then some [.opn 15 [.word c, .rule .r_expr, .word ⟨#[116, 104, 101, 110]⟩, .rule .r_body, .rule .r_elses, .word ⟨#[101, 110, 100]⟩]] else if c = ⟨#[119, 104, 105, 108, 101]⟩ then some [.opn 16 [.word c, .rule .r_expr, .word ⟨#[100, 111]⟩, .rule .r_body, .word ⟨#[101, 110, 100]⟩]] else if c = ⟨#[102, 111, 114]⟩ then some [.opn 17 [.word c, .word ⟨#[64, 110, 97, 109, 101]⟩, .word ⟨#[58, 61]⟩, .rule .r_expr, .word ⟨#[116, 111]⟩, .rule .r_expr, .word ⟨#[100, 111]⟩, .rule .r_body, .word ⟨#[101, 110, 100]⟩]] else if c = ⟨#[114, 101, 112, 101, 97, 116]⟩ then some [.opn 18 [.word c, .rule .r_body, .word ⟨#[117, 110, 116, 105, 108]⟩, .rule .r_expr]] else if c = ⟨#[114, 101, 116, 117, 114, 110]⟩ then some [.opn 19 [.word c, .rule .r_maybe]] else if c = ⟨#[98, 101, 103, 105, 110]⟩ then some [.opn 20 [.word c, .rule .r_body, .word ⟨#[101, 110, 100]⟩]] else none
 | .r_assigned, c => if c = ⟨#[58, 61]⟩ then some [.push [.word c, .rule .r_expr]] else some []
 | .r_elses, c => if c = ⟨#[101, 108, 105, 102]⟩ then some [.push [.word c, .rule .r_expr, .word ⟨#[116, 104, 101, 110]⟩, .rule .r_body, .rule .r_elses]] else if c = ⟨#[101, 108, 115, 101]⟩ then some [.push [.word c, .rule .r_body]] else some []
 | .r_maybe, c => if c = ⟨#[64, 110, 117, 109, 98, 101, 114]⟩ ∨ c = ⟨#[64, 116, 101, 120, 116]⟩ ∨ c = ⟨#[64, 99, 104, 97, 114]⟩ ∨ c = ⟨#[64, 110, 97, 109, 101]⟩ ∨ c = ⟨#[45]⟩ ∨ c = ⟨#[110, 111, 116]⟩ ∨ c = ⟨#[40]⟩ then some [.push [.rule .r_expr]] else some []
 | .r_expr, c => some [.opn 21 [.rule .r_rel, .rule .r_rels]]
 | .r_rels, c => if c = ⟨#[97, 110, 100]⟩ ∨ c = ⟨#[111, 114]⟩ then some [.push [.word c, .rule .r_rel, .rule .r_rels]] else some []
 | .r_rel, c => some [.opn 22 [.rule .r_sum, .rule .r_compared]]
 | .r_compared, c => if c = ⟨#[61]⟩ ∨ c = ⟨#[35]⟩ ∨ c = ⟨#[60]⟩ ∨ c = ⟨#[60, 61]⟩ ∨ c = ⟨#[62]⟩ ∨ c = ⟨#[62, 61]⟩ then some [.push [.word c, .rule .r_sum]] else some []
 | .r_sum, c => some [.opn 23 [.rule .r_term, .rule .r_terms]]
 | .r_terms, c => if c = ⟨#[43]⟩ ∨ c = ⟨#[45]⟩ then some [.push [.word c, .rule .r_term, .rule .r_terms]] else some []
 | .r_term, c => some [.opn 24 [.rule .r_factor, .rule .r_factors]]
 | .r_factors, c => if c = ⟨#[42]⟩ ∨ c = ⟨#[47]⟩ ∨ c = ⟨#[37]⟩ then some [.push [.word c, .rule .r_factor, .rule .r_factors]] else some []
 | .r_factor, c => if c = ⟨#[45]⟩ then some [.opn 25 [.word c, .rule .r_factor]] else if c = ⟨#[110, 111, 116]⟩ then some [.opn 26 [.word c, .rule .r_factor]] else if c = ⟨#[40]⟩ then some [.opn 27 [.word c, .rule .r_expr, .word ⟨#[41]⟩]] else if c = ⟨#[64, 110, 117, 109, 98, 101, 114]⟩ ∨ c = ⟨#[64, 116, 101, 120, 116]⟩ ∨ c = ⟨#[64, 99, 104, 97, 114]⟩ then some [.opn 32 [.word c]] else some [.opn 28 [.word ⟨#[64, 110, 97, 109, 101]⟩, .rule .r_selected]]
 | .r_object, c => some [.opn 28 [.word ⟨#[64, 110, 97, 109, 101]⟩, .rule .r_selected]]
 | .r_selected, c => if c = ⟨#[91]⟩ then some [.push [.rule .r_selected], .opn 29 [.word c, .rule .r_expr, .rule .r_exprs, .word ⟨#[93]⟩]] else if c = ⟨#[46]⟩ then some [.push [.rule .r_selected], .opn 30 [.word c, .word ⟨#[64, 110, 97, 109, 101]⟩]] else if c = ⟨#[40]⟩ then some [.push [.rule .r_selected], .opn 31 [.word c, .rule .r_args, .word ⟨#[41]⟩]] else some []
 | .r_args, c => if c = ⟨#[64, 110, 117, 109, 98, 101, 114]⟩ ∨ c = ⟨#[64, 116, 101, 120, 116]⟩ ∨ c = ⟨#[64, 99, 104, 97, 114]⟩ ∨ c = ⟨#[64, 110, 97, 109, 101]⟩ ∨ c = ⟨#[45]⟩ ∨ c = ⟨#[110, 111, 116]⟩ ∨ c = ⟨#[40]⟩ then some [.push [.rule .r_expr, .rule .r_exprs]] else some []
 | .r_exprs, c => if c = ⟨#[44]⟩ then some [.push [.word c, .rule .r_expr, .rule .r_exprs]] else some []
structure PSt where
 todo : List WT
 evs : List (Nat × Nat)
 depth : Int
def Eff.act (s : PSt) : Eff → PSt
 | .push l => { s with todo := l ++ s.todo }
 | .opn k l => { todo := l ++ .fin k :: s.todo, evs := s.evs ++ [(1, k)], depth := s.depth + 1 }
def effs (s : PSt) (l : List Eff) : PSt := l.foldl Eff.act s
inductive Turn
 | on (s : PSt)
 | got (s : PSt)
 | bad (s : PSt)
def turn (c : ByteArray) (s : PSt) : Turn :=
 match s.todo with
 | [] => .bad s
 | .word x :: r => if x = c then .got { s with todo := r } else .bad { s with todo := r }
 | .fin k :: r => .on { todo := r, evs := s.evs ++ [(3, k)], depth := s.depth - 1 }
 | .rule f :: r => match f.expand c with
  | none => .bad { s with todo := r }
  | some l => .on (effs { s with todo := r } l)
def turns (c : ByteArray) : Nat → PSt → Option (Bool × PSt)
 | 0, _ => none
 | n + 1, s => match turn c s with
  | .on s' => turns c n s'
  | .got s' => some (true, s')
  | .bad s' => some (false, s')
end Go.Proofs.YtmjbpgnjgblnmaaGreat
namespace Go.Proofs.YtmjbpgnjgblnmaaGreat
theorem turns_mono (c : ByteArray) : ∀ (n : Nat) (s : PSt) (r : Bool × PSt) (k : Nat), turns c n s = some r → turns c (n + k) s = some r
 | 0, s, r, k, h => by simp [turns] at h
 | n + 1, s, r, k, h => by
  rw [show n + 1 + k = (n + k) + 1 by omega]
  rw [turns] at h ⊢
  split at h
  ·rename_i s' hs
   exact turns_mono c n s' r k h
  ·rename_i s' hs
   exact h
  ·rename_i s' hs
   exact h
def fins : List WT → List Nat
 | [] => []
 | .fin k :: r => k :: fins r
 | .word _ :: r => fins r
 | .rule _ :: r => fins r
def WT.noFin : WT → Bool
 | .fin _ => false
 | _ => true
def Eff.plain : Eff → Bool
 | .push l => l.all WT.noFin
 | .opn k l => (k != 1) && l.all WT.noFin
theorem fins_app : ∀ (l r : List WT), l.all WT.noFin = true → fins (l ++ r) = fins r
 | [], r, _ => rfl
 | x :: l, r, h => by
  rw [List.all_cons, Bool.and_eq_true] at h
  cases x with
  | fin k => cases h.1
  | word s => exact fins_app l r h.2
  | rule f => exact fins_app l r h.2
theorem expand_plain {f : RId} {c : ByteArray} {l : List Eff} (h : f.expand c = some l) : l.all Eff.plain = true := by
 cases f
 all_goals
  simp only [RId.expand] at h
  repeat' split at h
 all_goals first
  | (cases h; done)
  | (cases h; rfl)
def Opens (s r : PSt) (ks : List Nat) : Prop := r.evs = s.evs ++ ks.map (fun k => (1, k)) ∧ r.depth = s.depth + ks.length ∧ ∀ k ∈ ks, k ≠ 1
theorem Opens.trans {a b c : PSt} {k l : List Nat} (h : Opens a b k) (h' : Opens b c l) : Opens a c (k ++ l) := by
 refine ⟨by rw [h'.1, h.1, List.map_append, List.append_assoc], ?_, ?_⟩
 ·rw [h'.2.1, h.2.1, List.length_append]
  omega
 ·intro j hj
  rcases List.mem_append.1 hj with hj | hj
  ·exact h.2.2 j hj
  ·exact h'.2.2 j hj
theorem effs_law : ∀ (l : List Eff) (s : PSt), l.all Eff.plain = true → ∃ ks, Opens s (effs s l) ks ∧ fins (effs s l).todo = ks.reverse ++ fins s.todo
 | [], s, _ => ⟨[], ⟨by simp [effs], by simp [effs], fun k hk => by cases hk⟩, by simp [effs]⟩
 | e :: l, s, h => by
  rw [List.all_cons, Bool.and_eq_true] at h
  obtain ⟨ks, h1, h2⟩ := effs_law l (Eff.act s e) h.2
  cases e with
  | push w =>
   refine ⟨ks, h1, ?_⟩
   have : fins (Eff.act s (.push w)).todo = fins s.todo := fins_app w s.todo h.1
   rw [← this]
   exact h2
  | opn k w =>
   have hp := h.1
   simp only [Eff.plain, Bool.and_eq_true, bne_iff_ne, ne_eq] at hp
   refine ⟨k :: ks, ?_, ?_⟩
   ·have h0 : Opens s (Eff.act s (.opn k w)) [k] := ⟨rfl, rfl, fun j hj => by rw [List.mem_singleton.1 hj]; exact hp.1⟩
    exact h0.trans h1
   ·have : fins (Eff.act s (.opn k w)).todo = k :: fins s.todo := fins_app w (.fin k :: s.todo) hp.2
    rw [List.reverse_cons, List.append_assoc, List.singleton_append, ← this]
    exact h2
def OkTop (c : ByteArray) (n : Nat) (t : WT) : Prop := ∀ (s : PSt) (rest : List WT), s.todo = t :: rest → ∃ r ks, turns c n s = some r ∧ Opens s r.2 ks ∧ (r.1 = true → fins r.2.todo = ks.reverse ++ fins s.todo)
theorem OkTop.up {c : ByteArray} {n m : Nat} {t : WT} (h : OkTop c n t) (hm : n ≤ m) : OkTop c m t := fun s rest hs => by
 obtain ⟨r, ks, hr, h1⟩ := h s rest hs
 obtain ⟨k, rfl⟩ := Nat.exists_eq_add_of_le hm
 exact ⟨r, ks, turns_mono c n s r k hr, h1⟩
theorem ok_word (c x : ByteArray) : OkTop c 1 (.word x) := fun s rest hs => by
 by_cases hx : x = c
 ·exact ⟨(true, { s with todo := rest }), [], by rw [turns]; simp only [turn, hs, if_pos hx], ⟨by simp, by simp, fun k hk => (by cases hk)⟩, fun _ => by rw [hs]; rfl⟩
 ·exact ⟨(false, { s with todo := rest }), [], by rw [turns]; simp only [turn, hs, if_neg hx], ⟨by simp, by simp, fun k hk => (by cases hk)⟩, fun h => by cases h⟩
theorem ok_rule {c : ByteArray} {n : Nat} {f : RId} (h : ∀ l, f.expand c = some l → ∀ s : PSt, ∃ t r, (effs s l).todo = t :: r ∧ OkTop c n t) : OkTop c (n + 1) (.rule f) := fun s rest hs => by
 cases he : f.expand c with
 | none => exact ⟨(false, { s with todo := rest }), [], by simp only [turns, turn, hs, he], ⟨by simp, by simp, fun k hk => (by cases hk)⟩, fun h => by cases h⟩
 | some l =>
  obtain ⟨t, r, ht, ho⟩ := h l he { s with todo := rest }
  obtain ⟨ks, h1, h2⟩ := effs_law l { s with todo := rest } (expand_plain he)
  obtain ⟨q, ls, hq, h3, h4⟩ := ho _ r ht
  refine ⟨q, ks ++ ls, by rw [turns]; simp only [turn, hs, he]; exact hq, h1.trans h3, fun hb => ?_⟩
  rw [h4 hb, h2, List.reverse_append, List.append_assoc, hs]
  rfl
theorem ok_object (c : ByteArray) : OkTop c 2 (.rule .r_object) := ok_rule fun l h s => by
 simp only [RId.expand, Option.some.injEq] at h; subst h
 exact ⟨_, _, rfl, ok_word _ _⟩
theorem ok_declaration (c : ByteArray) : OkTop c 2 (.rule .r_declaration) := ok_rule fun l h s => by
 simp only [RId.expand] at h
 split at h
 ·cases h; exact ⟨_, _, rfl, ok_word _ _⟩
 split at h
 ·cases h; exact ⟨_, _, rfl, ok_word _ _⟩
 ·cases h; exact ⟨_, _, rfl, ok_word _ _⟩
theorem ok_factor (c : ByteArray) : OkTop c 2 (.rule .r_factor) := ok_rule fun l h s => by
 simp only [RId.expand] at h
 repeat' split at h
 all_goals (cases h; exact ⟨_, _, rfl, ok_word _ _⟩)
theorem ok_term (c : ByteArray) : OkTop c 3 (.rule .r_term) := ok_rule fun l h s => by
 simp only [RId.expand, Option.some.injEq] at h; subst h
 exact ⟨_, _, rfl, ok_factor _⟩
theorem ok_sum (c : ByteArray) : OkTop c 4 (.rule .r_sum) := ok_rule fun l h s => by
 simp only [RId.expand, Option.some.injEq] at h; subst h
 exact ⟨_, _, rfl, ok_term _⟩
theorem ok_rel (c : ByteArray) : OkTop c 5 (.rule .r_rel) := ok_rule fun l h s => by
 simp only [RId.expand, Option.some.injEq] at h; subst h
 exact ⟨_, _, rfl, ok_sum _⟩
theorem ok_expr (c : ByteArray) : OkTop c 6 (.rule .r_expr) := ok_rule fun l h s => by
 simp only [RId.expand, Option.some.injEq] at h; subst h
 exact ⟨_, _, rfl, ok_rel _⟩
theorem ok_statement (c : ByteArray) : OkTop c 3 (.rule .r_statement) := ok_rule fun l h s => by
 simp only [RId.expand] at h
 repeat' split at h
 all_goals (first | (cases h; done) | (cases h; exact ⟨_, _, rfl, (ok_word _ _).up (by omega)⟩) | (cases h; exact ⟨_, _, rfl, ok_object _⟩))
theorem ok_block (c : ByteArray) : OkTop c 4 (.rule .r_block) := by
 have hD : OkTop c 3 (.rule .r_declarations) ∨ RId.r_declarations.expand c = some [] := by
  by_cases hd : c = ⟨#[118, 97, 114]⟩ ∨ c = ⟨#[99, 111, 110, 115, 116]⟩ ∨ c = ⟨#[112, 114, 111, 99]⟩
  ·refine .inl (ok_rule fun l h s => ?_)
   simp only [RId.expand, if_pos hd, Option.some.injEq] at h; subst h
   exact ⟨_, _, rfl, ok_declaration _⟩
  ·exact .inr (by simp only [RId.expand, if_neg hd])
 rcases hD with hD | hD
 ·refine ok_rule fun l h s => ?_
  simp only [RId.expand, Option.some.injEq] at h; subst h
  exact ⟨_, _, rfl, hD⟩
 ·intro s rest hs
  obtain ⟨q, ls, hq, h3, h4⟩ := (ok_word c ⟨#[98, 101, 103, 105, 110]⟩).up (show 1 ≤ 2 by omega) { todo := [.word ⟨#[98, 101, 103, 105, 110]⟩, .rule .r_body, .word ⟨#[101, 110, 100]⟩] ++ .fin 2 :: rest, evs := s.evs ++ [(1, 2)], depth := s.depth + 1 } _ rfl
  refine ⟨q, 2 :: ls, ?_, Opens.trans (b := { todo := [], evs := s.evs ++ [(1, 2)], depth := s.depth + 1 }) (k := [2]) ⟨rfl, rfl, fun j hj => by rw [List.mem_singleton.1 hj]; decide⟩ h3, fun hb => ?_⟩
  ·rw [turns]
   simp only [turn, hs, RId.expand]
   rw [turns]
   simp only [effs, List.foldl, Eff.act, List.cons_append, List.nil_append, turn, hD]
   exact hq
  ·rw [h4 hb, hs, List.reverse_cons, List.append_assoc]
   rfl
def Gone (c : ByteArray) (f : RId) : Prop := f.expand c = some [] ∨ OkTop c 7 (.rule f)
theorem gone_of {c : ByteArray} {f : RId} (h : ∀ l, f.expand c = some l → l = [] ∨ ∀ s : PSt, ∃ t r, (effs s l).todo = t :: r ∧ OkTop c 6 t) : Gone c f := by
 cases he : f.expand c with
 | none => exact .inr (ok_rule fun l h' => by rw [he] at h'; cases h')
 | some l =>
  rcases h l he with rfl | h
  ·exact .inl he
  ·exact .inr (ok_rule fun l' h' => by rw [he] at h'; cases h'; exact h)
theorem gone_any (c : ByteArray) (f : RId) : Gone c f := by
 cases f
 case r_block => exact .inr ((ok_block c).up (by omega))
 case r_expr => exact .inr ((ok_expr c).up (by omega))
 all_goals
  refine gone_of fun l h => ?_
  simp only [RId.expand] at h
  repeat' split at h
 all_goals first
  | (cases h; done)
  | (cases h; exact .inl rfl)
  | (cases h; exact .inr fun s => ⟨_, _, rfl, (ok_word _ _).up (by omega)⟩)
  | (cases h; exact .inr fun s => ⟨_, _, rfl, (ok_declaration _).up (by omega)⟩)
  | (cases h; exact .inr fun s => ⟨_, _, rfl, (ok_object _).up (by omega)⟩)
  | (cases h; exact .inr fun s => ⟨_, _, rfl, (ok_factor _).up (by omega)⟩)
  | (cases h; exact .inr fun s => ⟨_, _, rfl, (ok_term _).up (by omega)⟩)
  | (cases h; exact .inr fun s => ⟨_, _, rfl, (ok_sum _).up (by omega)⟩)
  | (cases h; exact .inr fun s => ⟨_, _, rfl, (ok_rel _).up (by omega)⟩)
  | (cases h; exact .inr fun s => ⟨_, _, rfl, (ok_expr _).up (by omega)⟩)
  | (cases h; exact .inr fun s => ⟨_, _, rfl, (ok_statement _).up (by omega)⟩)
theorem turns_some (c : ByteArray) : ∀ (m : Nat) (s : PSt), s.todo.length = m → ∃ r cl op X, turns c (m + 7) s = some r ∧ r.2.evs = s.evs ++ cl.map (fun k => (3, k)) ++ op.map (fun k => (1, k)) ∧ r.2.depth = s.depth - (cl : List Nat).length + (op : List Nat).length ∧ (∀ k ∈ op, k ≠ 1) ∧ fins s.todo = cl ++ X ∧ (r.1 = true → fins r.2.todo = op.reverse ++ X) := by
 have key : ∀ {m n : Nat} {s : PSt} {t : WT} {r : List WT}, s.todo = t :: r → OkTop c n t → n ≤ m → ∃ q cl op X, turns c m s = some q ∧ q.2.evs = s.evs ++ cl.map (fun k => (3, k)) ++ op.map (fun k => (1, k)) ∧ q.2.depth = s.depth - (cl : List Nat).length + (op : List Nat).length ∧ (∀ k ∈ op, k ≠ 1) ∧ fins s.todo = cl ++ X ∧ (q.1 = true → fins q.2.todo = op.reverse ++ X) := by
  intro m n s t r ht ho hm
  obtain ⟨q, ks, h1, h2, h3⟩ := ho.up hm s r ht
  exact ⟨q, [], ks, fins s.todo, h1, by simpa using h2.1, by simpa using h2.2.1, h2.2.2, rfl, h3⟩
 intro m
 induction m with
 | zero =>
  intro s hs
  have h0 : s.todo = [] := List.length_eq_zero_iff.1 hs
  exact ⟨(false, s), [], [], fins s.todo, by simp only [turns, turn, h0], by simp, by simp, fun k hk => (by cases hk), rfl, fun h => by cases h⟩
 | succ m ih =>
  intro s hs
  cases ht : s.todo with
  | nil => rw [ht] at hs; cases hs
  | cons t r =>
   have hr : r.length = m := by rw [ht] at hs; simpa using hs
   rw [← ht]
   cases t with
   | word x => exact key ht (ok_word c x) (by omega)
   | fin k =>
    obtain ⟨q, cl, op, X, h1, h2, h3, h6, h4, h5⟩ := ih { todo := r, evs := s.evs ++ [(3, k)], depth := s.depth - 1 } hr
    refine ⟨q, k :: cl, op, X, ?_, ?_, ?_, h6, ?_, h5⟩
    ·rw [show m + 1 + 7 = (m + 7) + 1 by omega, turns]; simp only [turn, ht]; exact h1
    ·rw [h2]; simp
    ·rw [h3, List.length_cons]; simp only; omega
    ·rw [ht, fins, show fins r = cl ++ X from h4]; rfl
   | rule f =>
    rcases gone_any c f with hg | hg
    ·obtain ⟨q, cl, op, X, h1, h2, h3, h6, h4, h5⟩ := ih { s with todo := r } hr
     refine ⟨q, cl, op, X, ?_, h2, h3, h6, ?_, h5⟩
     ·rw [show m + 1 + 7 = (m + 7) + 1 by omega, turns]; simp only [turn, ht, hg, effs, List.foldl]; exact h1
     ·rw [ht, fins]; exact h4
    ·exact key ht hg (by omega)
end Go.Proofs.YtmjbpgnjgblnmaaGreat
namespace Go.Proofs.YtmjbpgnjgblnmaaGreat
abbrev Tk := PSyntaxEvents.S28
abbrev Ev := PSyntaxEvents.S48
abbrev kEv := PSyntaxEvents.k48
abbrev kTk := PSyntaxEvents.k28
def noTk : Tk := ⟨0, ⟨#[]⟩, ⟨0, 0, 0⟩, 0⟩
def evOf (p : Nat × Nat) : Ev := ⟨p.1, p.2, noTk⟩
def leafE (t : Tk) : Ev := ⟨2, 0, t⟩
def noteE (t : Tk) : Ev := ⟨4, 0, t⟩
def isNote (t : Tk) : Bool := t.f0 == 7 || t.f0 == 8
def codeOf (t : Tk) : ByteArray := (PSyntaxEvents.parse_code.f t.f0 t.f1 t.f2.f0 t.f2.f1 t.f2.f2 t.f3).getD ⟨#[]⟩
structure Par where
 todo : List WT
 depth : Int
 begun : Bool
 wrong : Int
 closed : Bool
def newPar : Par := ⟨[.word ⟨#[112, 114, 111, 103, 114, 97, 109]⟩, .word ⟨#[64, 110, 97, 109, 101]⟩, .word ⟨#[59]⟩, .rule .r_block, .word ⟨#[46]⟩, .fin 1], 0, false, 0, false⟩
def token (t : Tk) (todo : List WT) (depth : Int) : Int × PSt :=
 match turns (codeOf t) (todo.length + 7) ⟨todo, [], depth⟩ with
 | none => (120, ⟨todo, [], depth⟩)
 | some (false, s) => (120, s)
 | some (true, s) => if s.todo = [] then (120, s) else if 1000 < s.depth then (122, s) else (0, s)
def preE (p : Par) : List Ev := if p.begun then [] else [evOf (1, 1)]
def preD (p : Par) : Int := if p.begun then p.depth else p.depth + 1
def put (p : Par) (t : Tk) : List Ev × Int × Par :=
 if p.closed then ([], 4, p) else if p.wrong ≠ 0 then ([], p.wrong, p) else
 if isNote t then (preE p ++ [noteE t], 0, { p with depth := preD p, begun := true }) else
 let q := token t p.todo (preD p)
 if q.1 ≠ 0 then ([], q.1, { p with todo := q.2.todo, wrong := q.1 }) else (preE p ++ q.2.evs.map evOf ++ [leafE t], 0, { p with todo := q.2.todo, depth := q.2.depth, begun := true })
def closeP (p : Par) : List Ev × Int × Par :=
 if p.closed then ([], 4, p) else if p.wrong ≠ 0 then ([], p.wrong, { p with closed := true }) else
 if p.todo.length ≠ 1 then ([], 121, { p with closed := true, wrong := 121 }) else ([evOf (3, 1)], 0, { p with closed := true, depth := p.depth - 1 })
def allP : Par → List Tk → List Ev × Int × Nat
 | p, [] => ((closeP p).1, (closeP p).2.1, 0)
 | p, t :: r => if (put p t).2.1 ≠ 0 then ([], (put p t).2.1, 0) else ((put p t).1 ++ (allP (put p t).2.2 r).1, (allP (put p t).2.2 r).2.1, (allP (put p t).2.2 r).2.2 + 1)
structure PInv (p : Par) (op : List Nat) : Prop where
 closed : p.closed = false
 wrong : p.wrong = 0
 fins : fins p.todo = if p.begun then op else [1]
 start : p.begun = false → op = []
 last : p.begun = true → ∃ r, op = r ++ [1]
 depth : p.depth = op.length
 most : op.length ≤ 1000
 lastf : ∃ l, p.todo = l ++ [.fin 1]
 fresh : p.begun = false → p.todo.length ≠ 1
theorem newPar_inv : PInv newPar [] := ⟨rfl, rfl, rfl, fun _ => rfl, fun h => (by cases h), rfl, Nat.zero_le _, ⟨[.word ⟨#[112, 114, 111, 103, 114, 97, 109]⟩, .word ⟨#[64, 110, 97, 109, 101]⟩, .word ⟨#[59]⟩, .rule .r_block, .word ⟨#[46]⟩], rfl⟩, fun _ => by decide⟩
theorem token_law (t : Tk) (todo : List WT) (depth : Int) : ∃ cl op X, (token t todo depth).2.evs = (cl : List Nat).map (fun k => (3, k)) ++ (op : List Nat).map (fun k => (1, k)) ∧ (token t todo depth).2.depth = depth - cl.length + op.length ∧ (∀ k ∈ op, k ≠ 1) ∧ fins todo = cl ++ X ∧ ((token t todo depth).1 = 0 → fins (token t todo depth).2.todo = op.reverse ++ X ∧ (token t todo depth).2.depth ≤ 1000) ∧ ((token t todo depth).1 = 0 ∨ (token t todo depth).1 = 120 ∨ (token t todo depth).1 = 122) := by
 obtain ⟨r, cl, op, X, h1, h2, h3, h6, h4, h5⟩ := turns_some (codeOf t) todo.length ⟨todo, [], depth⟩ rfl
 obtain ⟨b, s⟩ := r
 refine ⟨cl, op, X, ?_⟩
 unfold token
 rw [h1]
 cases b with
 | false => exact ⟨by simpa using h2, h3, h6, h4, fun h => by simp at h, .inr (.inl rfl)⟩
 | true =>
  simp only
  by_cases ht : s.todo = []
  ·simp only [if_pos ht]
   exact ⟨by simpa using h2, h3, h6, h4, fun h => by simp at h, .inr (.inl trivial)⟩
  ·by_cases hd : 1000 < s.depth
   ·simp only [if_neg ht, if_pos hd]
    exact ⟨by simpa using h2, h3, h6, h4, fun h => by simp at h, .inr (.inr trivial)⟩
   ·simp only [if_neg ht, if_neg hd]
    exact ⟨by simpa using h2, h3, h6, h4, fun _ => ⟨h5 rfl, by omega⟩, .inl trivial⟩
end Go.Proofs.YtmjbpgnjgblnmaaGreat
namespace Go.Proofs.YtmjbpgnjgblnmaaGreat
theorem expand_len {f : RId} {c : ByteArray} {l : List Eff} (h : f.expand c = some l) (s : PSt) : (effs s l).todo.length ≤ s.todo.length + 11 ∧ (effs s l).evs.length ≤ s.evs.length + 1 ∧ s.depth ≤ (effs s l).depth ∧ (effs s l).depth ≤ s.depth + 1 := by
 cases f
 all_goals
  simp only [RId.expand] at h
  repeat' split at h
 all_goals first
  | (cases h; done)
  | (cases h; simp only [effs, List.foldl, Eff.act, List.length_append, List.length_cons, List.length_nil]; omega)
theorem turn_len {c : ByteArray} {s s' : PSt} (h : turn c s = .on s') : s'.todo.length ≤ s.todo.length + 11 ∧ s'.evs.length ≤ s.evs.length + 1 ∧ s.depth - 1 ≤ s'.depth ∧ s'.depth ≤ s.depth + 1 := by
 unfold turn at h
 split at h
 ·cases h
 ·split at h <;> cases h
 ·rename_i k r hr
  cases h
  rw [hr]
  simp only [List.length_append, List.length_cons, List.length_nil]
  omega
 ·rename_i f r hr
  split at h
  ·cases h
  ·rename_i l hl
   cases h
   have := expand_len hl { s with todo := r }
   rw [hr]
   simp only [List.length_cons] at this ⊢
   omega
theorem turns_len (c : ByteArray) : ∀ (n : Nat) (s : PSt) (r : Bool × PSt), turns c n s = some r → r.2.todo.length ≤ s.todo.length + 11 * n
 | 0, s, r, h => by simp [turns] at h
 | n + 1, s, r, h => by
  rw [turns] at h
  split at h
  ·rename_i s' hs
   have h1 := turn_len hs
   have h2 := turns_len c n s' r h
   omega
  all_goals
   rename_i s' hs
   cases h
   unfold turn at hs
   split at hs
   ·cases hs <;> simp_all
   ·rename_i x r hr
    split at hs <;> cases hs <;> simp only [hr, List.length_cons] <;> omega
   ·cases hs
   ·rename_i f r hr
    split at hs <;> cases hs <;> simp only [hr, List.length_cons] <;> omega
theorem some_len (c : ByteArray) : ∀ (m : Nat) (s : PSt), s.todo.length = m → ∃ r, turns c (m + 7) s = some r ∧ r.2.todo.length ≤ m + 77 := by
 intro m
 induction m with
 | zero =>
  intro s hs
  have h0 : s.todo = [] := List.length_eq_zero_iff.1 hs
  exact ⟨(false, s), by simp only [turns, turn, h0], by simp only [hs]; omega⟩
 | succ m ih =>
  intro s hs
  cases ht : s.todo with
  | nil => rw [ht] at hs; cases hs
  | cons t r =>
   have hr : r.length = m := by rw [ht] at hs; simpa using hs
   have key : ∀ {n : Nat}, OkTop c n t → n ≤ 7 → ∃ r, turns c (m + 1 + 7) s = some r ∧ r.2.todo.length ≤ m + 1 + 77 := fun {n} ho hn => by
    obtain ⟨q, ks, h1, h2, h3⟩ := ho s r ht
    have h4 := turns_len c n s q h1
    obtain ⟨j, hj⟩ := Nat.exists_eq_add_of_le (show n ≤ m + 1 + 7 by omega)
    exact ⟨q, by rw [hj]; exact turns_mono c n s q j h1, by omega⟩
   cases t with
   | word x => exact key (ok_word c x) (by omega)
   | fin k =>
    obtain ⟨q, h1, h2⟩ := ih { todo := r, evs := s.evs ++ [(3, k)], depth := s.depth - 1 } hr
    refine ⟨q, ?_, by omega⟩
    rw [show m + 1 + 7 = (m + 7) + 1 by omega, turns]; simp only [turn, ht]; exact h1
   | rule f =>
    rcases gone_any c f with hg | hg
    ·obtain ⟨q, h1, h2⟩ := ih { s with todo := r } hr
     refine ⟨q, ?_, by omega⟩
     rw [show m + 1 + 7 = (m + 7) + 1 by omega, turns]; simp only [turn, ht, hg, effs, List.foldl]; exact h1
    ·exact key hg (by omega)
theorem token_len (t : Tk) (todo : List WT) (depth : Int) : (token t todo depth).2.todo.length ≤ todo.length + 77 := by
 obtain ⟨r, h1, h2⟩ := some_len (codeOf t) todo.length ⟨todo, [], depth⟩ rfl
 obtain ⟨b, s⟩ := r
 unfold token
 rw [h1]
 cases b with
 | false => exact h2
 | true =>
  simp only
  split
  ·exact h2
  ·split <;> exact h2
theorem put_len (p : Par) (t : Tk) : (put p t).2.2.todo.length ≤ p.todo.length + 77 := by
 have h := token_len t p.todo (preD p)
 unfold put
 split
 ·simp only; omega
 split
 ·simp only; omega
 split
 ·simp only; omega
 simp only
 split <;> simp only <;> omega
end Go.Proofs.YtmjbpgnjgblnmaaGreat
namespace Go.Proofs.YtmjbpgnjgblnmaaGreat
def cAt (l : List Tk) (i : Nat) : ByteArray := match l[i]? with
 | some t => codeOf t
 | none => ⟨#[]⟩
def nAt (l : List Tk) (i : Nat) : List Tk := (l.drop i).takeWhile isNote
structure SSt where
 todo : List WT
 at_ : Nat
 depth : Int
 out : List Ev
inductive SRes
 | ok (i : Nat) (d : Int) (out : List Ev)
 | err (e : Int) (i : Nat)
inductive SStep
 | on (s : SSt)
 | res (r : SRes)
def sstep (l : List Tk) (s : SSt) : SStep :=
 match s.todo with
 | [] => .res (.ok s.at_ s.depth s.out)
 | .word x :: r => match l[s.at_]? with
  | none => .res (.err 121 s.at_)
  | some t => if codeOf t = x then (if 1000 < s.depth then .res (.err 122 s.at_) else .on ⟨r, s.at_ + 1 + (nAt l (s.at_ + 1)).length, s.depth, s.out ++ [leafE t] ++ (nAt l (s.at_ + 1)).map noteE⟩) else .res (.err 120 s.at_)
 | .fin k :: r => .on ⟨r, s.at_, s.depth - 1, s.out ++ [evOf (3, k)]⟩
 | .rule f :: r => match f.expand (cAt l s.at_) with
  | none => .res (.err (if s.at_ = l.length then 121 else 120) s.at_)
  | some e => .on ⟨(effs ⟨r, [], s.depth⟩ e).todo, s.at_, (effs ⟨r, [], s.depth⟩ e).depth, s.out ++ (effs ⟨r, [], s.depth⟩ e).evs.map evOf⟩
def fitS (s : SSt) : Prop := s.out.length ≤ 274877906944 ∧ -1099511627776 ≤ s.depth ∧ s.depth ≤ 1099511627776
instance (s : SSt) : Decidable (fitS s) := by unfold fitS; infer_instance
def srun (l : List Tk) : Nat → SSt → Option SRes
 | 0, _ => none
 | n + 1, s => if fitS s then (match sstep l s with
  | .on s' => srun l n s'
  | .res r => some r) else none
theorem srun_mono (l : List Tk) : ∀ (n : Nat) (s : SSt) (r : SRes) (k : Nat), srun l n s = some r → srun l (n + k) s = some r
 | 0, s, r, k, h => by simp [srun] at h
 | n + 1, s, r, k, h => by
  rw [show n + 1 + k = (n + k) + 1 by omega]
  rw [srun] at h ⊢
  split at h
  ·rename_i hg
   rw [if_pos hg]
   split at h
   ·rename_i s' hs
    exact srun_mono l n s' r k h
   ·exact h
  ·cases h
theorem srun_le {l : List Tk} {n m : Nat} {s : SSt} {r : SRes} (h : srun l n s = some r) (hm : n ≤ m) : srun l m s = some r := by
 obtain ⟨k, rfl⟩ := Nat.exists_eq_add_of_le hm
 exact srun_mono l n s r k h
theorem effs_app : ∀ (e : List Eff) (T S : List WT) (v : List (Nat × Nat)) (d : Int), effs ⟨T ++ S, v, d⟩ e = ⟨(effs ⟨T, v, d⟩ e).todo ++ S, (effs ⟨T, v, d⟩ e).evs, (effs ⟨T, v, d⟩ e).depth⟩
 | [], T, S, v, d => rfl
 | .push w :: e, T, S, v, d => by
  have := effs_app e (w ++ T) S v d
  simp only [effs, List.foldl, Eff.act, List.append_assoc] at this ⊢
  exact this
 | .opn k w :: e, T, S, v, d => by
  have := effs_app e (w ++ .fin k :: T) S (v ++ [(1, k)]) (d + 1)
  simp only [effs, List.foldl, Eff.act, List.append_assoc, List.cons_append] at this ⊢
  exact this
theorem sstep_app (l : List Tk) (x : WT) (T S : List WT) (i : Nat) (d : Int) (out : List Ev) : sstep l ⟨x :: T ++ S, i, d, out⟩ = match sstep l ⟨x :: T, i, d, out⟩ with
  | .on s => .on ⟨s.todo ++ S, s.at_, s.depth, s.out⟩
  | .res r => .res r := by
 cases x with
 | word y =>
  simp only [sstep, List.cons_append]
  cases l[i]? with
  | none => rfl
  | some t =>
   by_cases ha : codeOf t = y
   ·by_cases hd : 1000 < d
    ·simp only [if_pos ha, if_pos hd]
    ·simp only [if_pos ha, if_neg hd]
   ·simp only [if_neg ha]
 | fin k => rfl
 | rule f =>
  simp only [sstep, List.cons_append]
  cases f.expand (cAt l i) with
  | none => rfl
  | some e => simp only [effs_app]
theorem sstep_res {l : List Tk} {x : WT} {T : List WT} {i : Nat} {d : Int} {out : List Ev} {r : SRes} (h : sstep l ⟨x :: T, i, d, out⟩ = .res r) : ∃ e j, r = .err e j := by
 cases x with
 | word y =>
  simp only [sstep] at h
  split at h
  ·cases h; exact ⟨_, _, rfl⟩
  ·split at h
   ·split at h <;> cases h
    exact ⟨_, _, rfl⟩
   ·cases h; exact ⟨_, _, rfl⟩
 | fin k => simp only [sstep] at h; cases h
 | rule f =>
  simp only [sstep] at h
  split at h
  ·cases h; exact ⟨_, _, rfl⟩
  ·cases h
theorem srun_app (l : List Tk) : ∀ (n : Nat) (T S : List WT) (i : Nat) (d : Int) (out : List Ev) (r : SRes), srun l n ⟨T ++ S, i, d, out⟩ = some r →
  (∃ e j, r = .err e j ∧ srun l n ⟨T, i, d, out⟩ = some (.err e j)) ∨ (∃ i' d' out', srun l n ⟨T, i, d, out⟩ = some (.ok i' d' out') ∧ srun l n ⟨S, i', d', out'⟩ = some r)
 | 0, T, S, i, d, out, r, h => by simp [srun] at h
 | n + 1, [], S, i, d, out, r, h => by
  refine .inr ⟨i, d, out, ?_, h⟩
  rw [List.nil_append, srun] at h
  split at h
  ·rename_i hg
   rw [srun, if_pos (show fitS ⟨[], i, d, out⟩ from hg)]
   rfl
  ·cases h
 | n + 1, x :: T, S, i, d, out, r, h => by
  rw [srun] at h
  split at h
  ·rename_i hg
   rw [sstep_app] at h
   cases hs : sstep l ⟨x :: T, i, d, out⟩ with
   | on s =>
    rw [hs] at h
    dsimp only at h
    rcases srun_app l n s.todo S s.at_ s.depth s.out r h with ⟨e, j, h1, h2⟩ | ⟨i', d', out', h1, h2⟩
    ·exact .inl ⟨e, j, h1, by rw [srun, if_pos (show fitS ⟨x :: T, i, d, out⟩ from hg), hs]; exact h2⟩
    ·exact .inr ⟨i', d', out', by rw [srun, if_pos (show fitS ⟨x :: T, i, d, out⟩ from hg), hs]; exact h1, srun_le h2 (Nat.le_succ n)⟩
   | res q =>
    rw [hs] at h
    dsimp only at h
    obtain ⟨e, j, rfl⟩ := sstep_res hs
    cases h
    exact .inl ⟨e, j, rfl, by rw [srun, if_pos (show fitS ⟨x :: T, i, d, out⟩ from hg), hs]⟩
  ·cases h
theorem srun_on {l : List Tk} {n : Nat} {s s' : SSt} {r : SRes} (h : srun l n s = some r) (hs : sstep l s = .on s') : fitS s ∧ ∃ m, n = m + 1 ∧ srun l m s' = some r := by
 cases n with
 | zero => simp [srun] at h
 | succ n =>
  rw [srun] at h
  split at h
  ·rename_i hg
   rw [hs] at h
   exact ⟨hg, n, rfl, h⟩
  ·cases h
theorem srun_fin {l : List Tk} {n : Nat} {s : SSt} {r q : SRes} (h : srun l n s = some r) (hs : sstep l s = .res q) : fitS s ∧ r = q := by
 cases n with
 | zero => simp [srun] at h
 | succ n =>
  rw [srun] at h
  split at h
  ·rename_i hg
   rw [hs] at h
   cases h
   exact ⟨hg, rfl⟩
  ·cases h
theorem srun_len {l : List Tk} {n : Nat} {s : SSt} {r : SRes} (h : srun l n s = some r) : fitS s := by
 cases n with
 | zero => simp [srun] at h
 | succ n =>
  rw [srun] at h
  split at h
  ·assumption
  ·cases h
end Go.Proofs.YtmjbpgnjgblnmaaGreat
namespace Go.Proofs.YtmjbpgnjgblnmaaGreat
open Classical in
noncomputable def nest : Bool → List Int → List Tk → List Ev → Option (List Int × List Tk)
 | _, o, l, [] => some (o, l)
 | b, o, l, e :: r =>
  if e.f0 = 1 then (if e.f2 = noTk ∧ (b = true ↔ e.f1 = 1) ∧ o.length + 1 ≤ 1000 then nest false (e.f1 :: o) l r else none)
  else if e.f0 = 3 then (match o with
   | [] => none
   | k :: o' => if k = e.f1 ∧ e.f2 = noTk then nest false o' l r else none)
  else if e.f0 = 2 ∨ e.f0 = 4 then (match l with
   | [] => none
   | t :: l' => if e.f2 = t ∧ e.f1 = 0 ∧ (e.f0 = 4 ↔ isNote t = true) ∧ o ≠ [] then nest false o l' r else none)
  else none
open Classical in
theorem nest_cons (b : Bool) (o : List Int) (l : List Tk) (e : Ev) (r : List Ev) : nest b o l (e :: r) =
  if e.f0 = 1 then (if e.f2 = noTk ∧ (b = true ↔ e.f1 = 1) ∧ o.length + 1 ≤ 1000 then nest false (e.f1 :: o) l r else none)
  else if e.f0 = 3 then (match o with
   | [] => none
   | k :: o' => if k = e.f1 ∧ e.f2 = noTk then nest false o' l r else none)
  else if e.f0 = 2 ∨ e.f0 = 4 then (match l with
   | [] => none
   | t :: l' => if e.f2 = t ∧ e.f1 = 0 ∧ (e.f0 = 4 ↔ isNote t = true) ∧ o ≠ [] then nest false o l' r else none)
  else none := by
 rw [nest.eq_def]
theorem nest_app : ∀ (x y : List Ev) (b : Bool) (o o' : List Int) (l l' : List Tk), nest b o l x = some (o', l') → x ≠ [] → nest b o l (x ++ y) = nest false o' l' y
 | [], y, b, o, o', l, l', h, hx => absurd rfl hx
 | e :: r, y, b, o, o', l, l', h, hx => by
  have key : ∀ (o1 : List Int) (l1 : List Tk), nest false o1 l1 r = some (o', l') → nest false o1 l1 (r ++ y) = nest false o' l' y := fun o1 l1 h1 => by
   cases r with
   | nil => simp only [nest, Option.some.injEq, Prod.mk.injEq] at h1; obtain ⟨rfl, rfl⟩ := h1; rfl
   | cons a r => exact nest_app (a :: r) y false o1 o' l1 l' h1 (by simp)
  rw [List.cons_append]
  rw [nest_cons] at h ⊢
  by_cases h1 : e.f0 = 1
  ·rw [if_pos h1] at h ⊢
   by_cases hc : e.f2 = noTk ∧ (b = true ↔ e.f1 = 1) ∧ o.length + 1 ≤ 1000
   ·rw [if_pos hc] at h ⊢; exact key _ _ h
   ·rw [if_neg hc] at h; cases h
  ·rw [if_neg h1] at h ⊢
   by_cases h3 : e.f0 = 3
   ·rw [if_pos h3] at h ⊢
    cases o with
    | nil => cases h
    | cons k o1 =>
     simp only at h ⊢
     by_cases hc : k = e.f1 ∧ e.f2 = noTk
     ·rw [if_pos hc] at h ⊢; exact key _ _ h
     ·rw [if_neg hc] at h; cases h
   ·rw [if_neg h3] at h ⊢
    by_cases h2 : e.f0 = 2 ∨ e.f0 = 4
    ·rw [if_pos h2] at h ⊢
     cases l with
     | nil => cases h
     | cons t l1 =>
      simp only at h ⊢
      by_cases hc : e.f2 = t ∧ e.f1 = 0 ∧ (e.f0 = 4 ↔ isNote t = true) ∧ o ≠ []
      ·rw [if_pos hc] at h ⊢; exact key _ _ h
      ·rw [if_neg hc] at h; cases h
    ·rw [if_neg h2] at h; cases h
theorem nest_closes : ∀ (cl : List Nat) (X : List Nat) (l : List Tk), nest false ((cl ++ X).map (fun n : Nat => (n : Int))) l ((cl.map (fun k => (3, k))).map evOf) = some (X.map (fun n : Nat => (n : Int)), l)
 | [], X, l => rfl
 | k :: cl, X, l => by
  simp only [List.map_cons, List.cons_append]
  rw [nest_cons, if_neg (by simp [evOf]), if_pos (by simp [evOf])]
  simp only
  rw [if_pos ⟨rfl, rfl⟩]
  exact nest_closes cl X l
theorem nest_opens : ∀ (op : List Nat) (X : List Nat) (l : List Tk), (∀ k ∈ op, k ≠ 1) → X.length + op.length ≤ 1000 → nest false (X.map (fun n : Nat => (n : Int))) l ((op.map (fun k => (1, k))).map evOf) = some ((op.reverse ++ X).map (fun n : Nat => (n : Int)), l)
 | [], X, l, _, _ => rfl
 | k :: op, X, l, hk, hm => by
  have hk1 : k ≠ 1 := hk k (by simp)
  simp only [List.length_cons] at hm
  simp only [List.map_cons]
  rw [nest_cons, if_pos (by simp [evOf])]
  rw [if_pos ⟨rfl, ⟨fun h => (by cases h), fun h => absurd (show k = 1 by have h' : (k : Int) = 1 := h; omega) hk1⟩, by rw [List.length_map]; omega⟩]
  have := nest_opens op (k :: X) l (fun j hj => hk j (List.mem_cons_of_mem _ hj)) (by simp only [List.length_cons]; omega)
  rw [List.reverse_cons, List.append_assoc, List.singleton_append]
  exact this
end Go.Proofs.YtmjbpgnjgblnmaaGreat
namespace Go.Proofs.YtmjbpgnjgblnmaaGreat
def LastFin (s : PSt) : Prop := s.todo = [] ∨ ∃ l, s.todo = l ++ [.fin 1]
theorem effs_todo : ∀ (l : List Eff) (s : PSt), ∃ q, (effs s l).todo = q ++ s.todo
 | [], s => ⟨[], rfl⟩
 | e :: l, s => by
  obtain ⟨q, hq⟩ := effs_todo l (Eff.act s e)
  have : (effs s (e :: l)).todo = q ++ (Eff.act s e).todo := hq
  rw [this]
  cases e with
  | push w => exact ⟨q ++ w, by rw [List.append_assoc]; rfl⟩
  | opn k w => exact ⟨q ++ (w ++ [.fin k]), by simp [Eff.act]⟩
theorem turns_last (c : ByteArray) : ∀ (n : Nat) (s : PSt) (r : Bool × PSt), LastFin s → turns c n s = some r → LastFin r.2
 | 0, s, r, h, hr => by simp [turns] at hr
 | n + 1, s, r, h, hr => by
  have hne : ∀ t q, s.todo = t :: q → LastFin { s with todo := q } := by
   intro t q ht
   rcases h with h | ⟨l, h⟩
   ·rw [h] at ht; cases ht
   ·cases l with
    | nil => rw [h] at ht; simp only [List.nil_append, List.cons.injEq] at ht; exact .inl ht.2.symm
    | cons a l => rw [h] at ht; simp only [List.cons_append, List.cons.injEq] at ht; exact .inr ⟨l, ht.2.symm⟩
  rw [turns] at hr
  unfold turn at hr
  cases ht : s.todo with
  | nil => rw [ht] at hr; simp only [Option.some.injEq] at hr; subst hr; exact h
  | cons t q =>
   rw [ht] at hr
   have hq := hne t q ht
   cases t with
   | word x =>
    by_cases hx : x = c
    ·simp only [if_pos hx, Option.some.injEq] at hr; subst hr; exact hq
    ·simp only [if_neg hx, Option.some.injEq] at hr; subst hr; exact hq
   | fin k => exact turns_last c n { todo := q, evs := s.evs ++ [(3, k)], depth := s.depth - 1 } r hq hr
   | rule f =>
    cases he : f.expand c with
    | none => simp only [he, Option.some.injEq] at hr; subst hr; exact hq
    | some l =>
     simp only [he] at hr
     refine turns_last c n _ r ?_ hr
     obtain ⟨v, hv⟩ := effs_todo l { s with todo := q }
     rcases hq with hq | ⟨m, hm⟩
     ·rcases h with h | ⟨l', h⟩
      ·rw [h] at ht; cases ht
      ·simp only at hq
       rw [h, hq] at ht
       cases l' with
       | nil => cases ht
       | cons a l' => simp at ht
     ·simp only at hm
      exact .inr ⟨v ++ m, by rw [hv]; simp only [hm, List.append_assoc]⟩
theorem fins_snoc : ∀ (l : List WT), fins (l ++ [.fin 1]) = fins l ++ [1]
 | [] => rfl
 | .fin k :: r => by rw [List.cons_append, fins, fins_snoc r, fins]; rfl
 | .word s :: r => by rw [List.cons_append, fins, fins_snoc r, fins]
 | .rule f :: r => by rw [List.cons_append, fins, fins_snoc r, fins]
theorem token_last {t : Tk} {todo : List WT} {d : Int} (h : ∃ l, todo = l ++ [.fin 1]) (hq : (token t todo d).1 = 0) : ∃ l, (token t todo d).2.todo = l ++ [.fin 1] := by
 have key : ∀ r, turns (codeOf t) (todo.length + 7) ⟨todo, [], d⟩ = some r → LastFin r.2 := fun r hr => turns_last _ _ _ r (.inr h) hr
 unfold token at hq ⊢
 cases hr : turns (codeOf t) (todo.length + 7) ⟨todo, [], d⟩ with
 | none => rw [hr] at hq; simp at hq
 | some r =>
  obtain ⟨b, s⟩ := r
  rw [hr] at hq
  have hl := key _ hr
  cases b with
  | false => simp at hq
  | true =>
   simp only at hq ⊢
   by_cases ht : s.todo = []
   ·rw [if_pos ht] at hq; simp at hq
   ·rw [if_neg ht] at hq ⊢
    rcases hl with hl | hl
    ·exact absurd hl ht
    ·split
     ·exact hl
     ·exact hl
end Go.Proofs.YtmjbpgnjgblnmaaGreat
namespace Go.Proofs.YtmjbpgnjgblnmaaGreat
def cst (l : List Nat) : List Int := l.map (fun n : Nat => (n : Int))
def opn0 (p : Par) (op : List Nat) : List Nat := if p.begun then op else [1]
theorem PInv.pre {p : Par} {op : List Nat} (h : PInv p op) (l : List Tk) (y : List Ev) : nest (!p.begun) (cst op) l (preE p ++ y) = nest false (cst (opn0 p op)) l y := by
 unfold preE opn0
 cases hb : p.begun with
 | true => rfl
 | false =>
  have ho := h.start hb
  subst ho
  simp only [Bool.not_false, Bool.false_eq_true, if_false, List.cons_append, List.nil_append]
  rw [nest_cons, if_pos (by simp [evOf]), if_pos ⟨rfl, ⟨fun _ => rfl, fun _ => rfl⟩, by simp [cst]⟩]
  rfl
theorem PInv.fins0 {p : Par} {op : List Nat} (h : PInv p op) : Go.Proofs.YtmjbpgnjgblnmaaGreat.fins p.todo = opn0 p op := h.fins
theorem PInv.opn {p : Par} {op : List Nat} (h : PInv p op) : opn0 p op ≠ [] ∧ (opn0 p op).length ≤ 1000 ∧ preD p = (opn0 p op).length ∧ ∃ r, opn0 p op = r ++ [1] := by
 unfold opn0 preD
 cases hb : p.begun with
 | true =>
  obtain ⟨r, hr⟩ := h.last hb
  refine ⟨by simp only [if_true]; rw [hr]; simp, h.most, h.depth, r, hr⟩
 | false =>
  have ho := h.start hb
  have hd := h.depth
  rw [ho] at hd
  exact ⟨by simp, by simp, by simp [hd], [], rfl⟩
theorem nest_one (o : List Nat) (t : Tk) (rest : List Tk) (e : Ev) (h2 : e.f2 = t) (h1 : e.f1 = 0) (hk : (e.f0 = 4 ∧ isNote t = true) ∨ (e.f0 = 2 ∧ isNote t = false)) (ho : o ≠ []) : nest false (cst o) (t :: rest) [e] = some (cst o, rest) := by
 have ho' : cst o ≠ [] := by cases o with | nil => exact absurd rfl ho | cons a o => simp [cst]
 rcases hk with ⟨h0, hn⟩ | ⟨h0, hn⟩
 ·rw [nest_cons, if_neg (by rw [h0]; decide), if_neg (by rw [h0]; decide), if_pos (by rw [h0]; decide)]
  simp only
  rw [if_pos ⟨h2, h1, ⟨fun _ => hn, fun _ => h0⟩, ho'⟩]
  rfl
 ·rw [nest_cons, if_neg (by rw [h0]; decide), if_neg (by rw [h0]; decide), if_pos (by rw [h0]; decide)]
  simp only
  rw [if_pos ⟨h2, h1, ⟨fun h => (by rw [h0] at h; cases h), fun h => (by rw [hn] at h; cases h)⟩, ho'⟩]
  rfl
theorem put_nest {p : Par} {op : List Nat} (h : PInv p op) (t : Tk) (rest : List Tk) (he : (put p t).2.1 = 0) : ∃ op', PInv (put p t).2.2 op' ∧ (put p t).2.2.begun = true ∧ (put p t).1 ≠ [] ∧ nest (!p.begun) (cst op) (t :: rest) (put p t).1 = some (cst op', rest) := by
 obtain ⟨hne, hmx, hpd, r0, hr0⟩ := h.opn
 unfold put at he ⊢
 simp only [h.closed, Bool.false_eq_true, if_false, h.wrong, ne_eq, not_true_eq_false] at he ⊢
 by_cases hn : isNote t = true
 ·simp only [if_pos hn] at he ⊢
  refine ⟨opn0 p op, ⟨rfl, rfl, h.fins0, fun h' => (by cases h'), fun _ => ⟨r0, hr0⟩, hpd, hmx, h.lastf, fun h' => (by cases h')⟩, trivial, by simp, ?_⟩
  rw [h.pre]
  exact nest_one _ t rest _ rfl rfl (.inl ⟨rfl, hn⟩) hne
 ·simp only [if_neg hn] at he ⊢
  obtain ⟨cl, ops, X, h1, h2, h3, h4, h5, h6⟩ := token_law t p.todo (preD p)
  have hq : (token t p.todo (preD p)).1 = 0 := by
   by_cases hq : (token t p.todo (preD p)).1 = 0
   ·exact hq
   ·rw [if_pos hq] at he; exact absurd he hq
  rw [if_neg (by rw [hq]; simp)]
  obtain ⟨h7, h8⟩ := h5 hq
  obtain ⟨m, hm⟩ := token_last (d := preD p) h.lastf hq
  have hX : opn0 p op = cl ++ X := by rw [← h.fins0]; exact h4
  have hop : ops.reverse ++ X = fins m ++ [1] := by rw [← h7, hm, fins_snoc]
  have hlen : (token t p.todo (preD p)).2.depth = ((ops.reverse ++ X).length : Nat) := by
   rw [h2, hpd, hX]
   simp only [List.length_append, List.length_reverse]
   omega
  have hlm : (ops.reverse ++ X).length ≤ 1000 := by rw [hlen] at h8; omega
  refine ⟨ops.reverse ++ X, ⟨rfl, rfl, h7, fun h' => (by cases h'), fun _ => ⟨_, hop⟩, hlen, hlm, ⟨m, hm⟩, fun h' => (by cases h')⟩, rfl, by simp, ?_⟩
  rw [List.append_assoc, h.pre, h1, List.map_append, List.append_assoc, hX]
  have e1 : nest false (cst (cl ++ X)) (t :: rest) ((cl.map (fun k => (3, k))).map evOf) = some (cst X, t :: rest) := nest_closes cl X (t :: rest)
  have e2 : nest false (cst X) (t :: rest) ((ops.map (fun k => (1, k))).map evOf) = some (cst (ops.reverse ++ X), t :: rest) := nest_opens ops X (t :: rest) h3 (by simpa [Nat.add_comm] using hlm)
  have e3 := nest_one (ops.reverse ++ X) t rest (leafE t) rfl rfl (.inr ⟨rfl, by simpa using hn⟩) (by rw [hop]; simp)
  have e23 : nest false (cst X) (t :: rest) ((ops.map (fun k => (1, k))).map evOf ++ [leafE t]) = some (cst (ops.reverse ++ X), rest) := by
   cases hops : (ops.map (fun k => (1, k))).map evOf with
   | nil =>
    have : ops = [] := by simpa using hops
    subst this
    exact e3
   | cons a r =>
    rw [← hops, nest_app _ _ false _ _ _ _ e2 (by rw [hops]; simp)]
    exact e3
  cases hcl : (cl.map (fun k => (3, k))).map evOf with
  | nil =>
   have : cl = [] := by simpa using hcl
   subst this
   exact e23
  | cons a r =>
   rw [← hcl, nest_app _ _ false _ _ _ _ e1 (by rw [hcl]; simp)]
   exact e23
theorem put_err {p : Par} {op : List Nat} (h : PInv p op) (t : Tk) : (put p t).2.1 = 0 ∨ (put p t).2.1 = 120 ∨ (put p t).2.1 = 122 := by
 unfold put
 simp only [h.closed, Bool.false_eq_true, if_false, h.wrong, ne_eq, not_true_eq_false]
 by_cases hn : isNote t = true
 ·exact .inl (by simp only [if_pos hn])
 ·simp only [if_neg hn]
  obtain ⟨cl, ops, X, h1, h2, h3, h4, h5, h6⟩ := token_law t p.todo (preD p)
  by_cases hq : (token t p.todo (preD p)).1 = 0
  ·exact .inl (by rw [if_neg (by rw [hq]; simp)])
  ·rw [if_pos hq]
   exact h6
theorem all_nest : ∀ (l : List Tk) (p : Par) (op : List Nat), PInv p op → ∃ op', nest (!p.begun) (cst op) l (allP p l).1 = some (cst op', l.drop (allP p l).2.2) ∧ (allP p l).2.2 ≤ l.length ∧
  ((allP p l).2.1 = 0 → (allP p l).2.2 = l.length ∧ op' = []) ∧ ((allP p l).2.1 ≠ 0 → ((allP p l).2.1 = 121 ↔ (allP p l).2.2 = l.length) ∧ ((allP p l).2.1 = 120 ∨ (allP p l).2.1 = 121 ∨ (allP p l).2.1 = 122))
 | [], p, op, h => by
  simp only [allP]
  unfold closeP
  simp only [h.closed, Bool.false_eq_true, if_false, h.wrong, ne_eq, not_true_eq_false]
  by_cases hl : p.todo.length = 1
  ·rw [if_neg (by simpa using hl)]
   obtain ⟨m, hm⟩ := h.lastf
   have hm0 : m = [] := by rw [hm] at hl; simpa using hl
   subst hm0
   have hb : p.begun = true := by
    cases hb : p.begun with
    | true => rfl
    | false => exact absurd hl (h.fresh hb)
   have hop : op = [1] := by
    have := h.fins0
    rw [hm] at this
    unfold opn0 at this
    rw [hb] at this
    exact this.symm
   subst hop
   refine ⟨[], ?_, by simp, fun _ => ⟨rfl, rfl⟩, fun h' => by simp at h'⟩
   rw [hb]
   simp only [Bool.not_true]
   rw [nest_cons, if_neg (by simp [evOf]), if_pos (by simp [evOf])]
   simp only [cst, List.map_cons, List.map_nil]
   rw [if_pos ⟨rfl, rfl⟩]
   rfl
  ·rw [if_pos hl]
   exact ⟨op, rfl, by simp, fun h' => by simp at h', fun _ => ⟨⟨fun _ => rfl, fun _ => rfl⟩, .inr (.inl rfl)⟩⟩
 | t :: l, p, op, h => by
  rw [allP]
  by_cases he : (put p t).2.1 = 0
  ·rw [if_neg (by simpa using he)]
   obtain ⟨op1, hi, hb, hx, hn⟩ := put_nest h t l he
   obtain ⟨op', h1, h2, h3, h4⟩ := all_nest l (put p t).2.2 op1 hi
   rw [hb] at h1
   refine ⟨op', ?_, by simp only [List.length_cons]; omega, fun h' => ?_, fun h' => ?_⟩
   ·simp only
    rw [nest_app _ _ _ _ _ _ _ hn hx, List.drop_succ_cons]
    exact h1
   ·obtain ⟨a, b⟩ := h3 h'
    exact ⟨by simp only [List.length_cons]; omega, b⟩
   ·obtain ⟨a, b⟩ := h4 h'
    refine ⟨?_, b⟩
    simp only [List.length_cons]
    rw [a]
    omega
  ·rw [if_pos he]
   refine ⟨op, rfl, by simp, fun h' => absurd h' he, fun _ => ?_⟩
   rcases put_err h t with h0 | h0 | h0
   ·exact absurd h0 he
   ·simp only [h0]
    exact ⟨⟨fun h' => by simp at h', fun h' => by simp at h'⟩, .inl trivial⟩
   ·simp only [h0]
    exact ⟨⟨fun h' => by simp at h', fun h' => by simp at h'⟩, .inr (.inr trivial)⟩
end Go.Proofs.YtmjbpgnjgblnmaaGreat
namespace Go.Proofs.YtmjbpgnjgblnmaaGreat
theorem put_note {p : Par} (hc : p.closed = false) (hw : p.wrong = 0) {t : Tk} (hn : isNote t = true) : put p t = (preE p ++ [noteE t], 0, { p with depth := preD p, begun := true }) := by
 unfold put
 simp only [hc, Bool.false_eq_true, if_false, hw, ne_eq, not_true_eq_false, if_pos hn]
theorem put_note_begun {p : Par} (hb : p.begun = true) (hc : p.closed = false) (hw : p.wrong = 0) {t : Tk} (hn : isNote t = true) : put p t = ([noteE t], 0, p) := by
 rw [put_note hc hw hn]
 unfold preE preD
 rw [hb]
 obtain ⟨a, b, c, d, e⟩ := p
 simp only at hb
 subst hb
 rfl
theorem all_cons_ok {p : Par} {t : Tk} {r : List Tk} (he : (put p t).2.1 = 0) : allP p (t :: r) = ((put p t).1 ++ (allP (put p t).2.2 r).1, (allP (put p t).2.2 r).2.1, (allP (put p t).2.2 r).2.2 + 1) := by
 rw [allP, if_neg (by simpa using he)]
theorem all_cons_bad {p : Par} {t : Tk} {r : List Tk} (he : (put p t).2.1 ≠ 0) : allP p (t :: r) = ([], (put p t).2.1, 0) := by
 rw [allP, if_pos he]
def notedPar : Par := { newPar with depth := 1, begun := true }
theorem noted_inv : PInv notedPar [1] := ⟨rfl, rfl, rfl, fun h => (by cases h), fun _ => ⟨[], rfl⟩, rfl, by decide, newPar_inv.lastf, fun h => (by cases h)⟩
theorem put_cmp {t : Tk} (hn : isNote t = false) : (put notedPar t).2.1 = (put newPar t).2.1 ∧ ((put newPar t).2.1 = 0 → (put newPar t).1 = evOf (1, 1) :: (put notedPar t).1 ∧ (put newPar t).2.2 = (put notedPar t).2.2) := by
 unfold put
 simp only [notedPar, newPar, preD, preE, Bool.false_eq_true, if_false, if_true, ne_eq, not_true_eq_false, hn, Int.zero_add, List.nil_append]
 split
 ·rename_i hq
  exact ⟨rfl, fun h => absurd h hq⟩
 ·exact ⟨rfl, fun _ => ⟨rfl, rfl⟩⟩
end Go.Proofs.YtmjbpgnjgblnmaaGreat
namespace Go.Proofs.YtmjbpgnjgblnmaaGreat
theorem effs_evsS : ∀ (e : List Eff) (T : List WT) (v : List (Nat × Nat)) (d : Int), effs ⟨T, v, d⟩ e = ⟨(effs ⟨T, [], d⟩ e).todo, v ++ (effs ⟨T, [], d⟩ e).evs, (effs ⟨T, [], d⟩ e).depth⟩
 | [], T, v, d => by simp [effs]
 | .push w :: e, T, v, d => by
  have := effs_evsS e (w ++ T) v d
  simp only [effs, List.foldl, Eff.act] at this ⊢
  exact this
 | .opn k w :: e, T, v, d => by
  have h1 := effs_evsS e (w ++ .fin k :: T) (v ++ [(1, k)]) (d + 1)
  have h2 := effs_evsS e (w ++ .fin k :: T) [(1, k)] (d + 1)
  simp only [effs, List.foldl, Eff.act, List.nil_append] at h1 h2 ⊢
  rw [h1, h2]
  simp only [List.append_assoc]
theorem effs_both (e : List Eff) (T S : List WT) (v : List (Nat × Nat)) (d : Int) : effs ⟨T ++ S, v, d⟩ e = ⟨(effs ⟨T, [], d⟩ e).todo ++ S, v ++ (effs ⟨T, [], d⟩ e).evs, (effs ⟨T, [], d⟩ e).depth⟩ := by
 rw [effs_app, effs_evsS e T v d]
theorem srun_step {l : List Tk} {n : Nat} {s s' : SSt} (hf : fitS s) (hs : sstep l s = .on s') : srun l (n + 1) s = srun l n s' := by
 rw [srun, if_pos hf, hs]
theorem srun_res {l : List Tk} {n : Nat} {s : SSt} {r : SRes} (hf : fitS s) (hs : sstep l s = .res r) : srun l (n + 1) s = some r := by
 rw [srun, if_pos hf, hs]
theorem srun_ok_fit {l : List Tk} : ∀ (n : Nat) (s : SSt) (i : Nat) (d : Int) (out : List Ev), srun l n s = some (.ok i d out) → fitS ⟨[], i, d, out⟩
 | 0, s, i, d, out, h => by simp [srun] at h
 | n + 1, s, i, d, out, h => by
  rw [srun] at h
  split at h
  ·rename_i hf
   split at h
   ·exact srun_ok_fit n _ i d out h
   ·rename_i r hr
    cases h
    obtain ⟨T, a, b, c⟩ := s
    cases T with
    | nil =>
     simp only [sstep] at hr
     cases hr
     exact hf
    | cons x T =>
     obtain ⟨e, j, he⟩ := sstep_res hr
     cases he
  ·cases h
def Room (n : Nat) (k : Nat) (d : Int) : Prop := k + n ≤ 274877906944 ∧ -1099511627776 + (n : Int) ≤ d ∧ d + n ≤ 1099511627776
theorem Room.fit {n : Nat} {T : List WT} {i : Nat} {d : Int} {out : List Ev} (h : Room n out.length d) : fitS ⟨T, i, d, out⟩ := by
 obtain ⟨h1, h2, h3⟩ := h
 refine ⟨?_, ?_, ?_⟩ <;> dsimp only <;> omega
theorem Room.next {n k k' : Nat} {d d' : Int} (h : Room (n + 1) k d) (h1 : k' ≤ k + 1) (h2 : d - 1 ≤ d') (h3 : d' ≤ d + 1) : Room n k' d' := by
 obtain ⟨a, b, c⟩ := h
 refine ⟨?_, ?_, ?_⟩ <;> omega
def LastW (T : List WT) : Prop := T = [] ∨ ∃ U x, T = U ++ [.word x]
theorem evlen (out : List Ev) (evs : List (Nat × Nat)) : (out ++ evs.map evOf).length = out.length + evs.length := by simp
theorem run_word {l : List Tk} {t : Tk} {i : Nat} (hi : l[i]? = some t) : ∀ (n : Nat) (U : List WT) (x : ByteArray) (evs : List (Nat × Nat)) (d : Int) (out : List Ev) (b : Bool) (s : PSt), turns (codeOf t) n ⟨U ++ [.word x, .fin 1], evs, d⟩ = some (b, s) → Room n (out.length + evs.length) d →
  (b = false ∧ srun l n ⟨U ++ [.word x], i, d, out ++ evs.map evOf⟩ = some (.err 120 i)) ∨
  (b = true ∧ ∃ T', s.todo = T' ++ [.fin 1] ∧ LastW T' ∧ s.evs.length ≤ evs.length + n ∧ d - n ≤ s.depth ∧ s.depth ≤ d + n ∧ ∀ m r, srun l m ⟨.word (codeOf t) :: T', i, s.depth, out ++ s.evs.map evOf⟩ = some r → srun l (m + n) ⟨U ++ [.word x], i, d, out ++ evs.map evOf⟩ = some r)
 | 0, U, x, evs, d, out, b, s, h, hR => by simp [turns] at h
 | n + 1, U, x, evs, d, out, b, s, h, hR => by
  have hil : i < l.length := (List.getElem?_eq_some_iff.1 hi).1
  have hc : cAt l i = codeOf t := by unfold cAt; rw [hi]
  have hfit : ∀ T, fitS ⟨T, i, d, out ++ evs.map evOf⟩ := fun T => Room.fit (n := n + 1) (by rw [evlen]; exact hR)
  rw [turns] at h
  cases U with
  | nil =>
   rw [List.nil_append] at h ⊢
   simp only [turn] at h
   by_cases hx : x = codeOf t
   ·rw [if_pos hx] at h
    simp only [Option.some.injEq, Prod.mk.injEq] at h
    obtain ⟨rfl, rfl⟩ := h
    refine .inr ⟨rfl, [], rfl, .inl rfl, by dsimp only; omega, by dsimp only; omega, by dsimp only; omega, fun m r hr => ?_⟩
    rw [hx]
    exact srun_le hr (by omega)
   ·rw [if_neg hx] at h
    simp only [Option.some.injEq, Prod.mk.injEq] at h
    obtain ⟨rfl, rfl⟩ := h
    refine .inl ⟨rfl, srun_res (hfit _) ?_⟩
    simp only [sstep, hi]
    rw [if_neg (fun e => hx e.symm)]
  | cons y U =>
   rw [List.cons_append] at h ⊢
   cases y with
   | word y =>
    simp only [turn] at h
    by_cases hx : y = codeOf t
    ·rw [if_pos hx] at h
     simp only [Option.some.injEq, Prod.mk.injEq] at h
     obtain ⟨rfl, rfl⟩ := h
     refine .inr ⟨rfl, U ++ [.word x], by simp, .inr ⟨U, x, rfl⟩, by dsimp only; omega, by dsimp only; omega, by dsimp only; omega, fun m r hr => ?_⟩
     rw [hx]
     exact srun_le hr (by omega)
    ·rw [if_neg hx] at h
     simp only [Option.some.injEq, Prod.mk.injEq] at h
     obtain ⟨rfl, rfl⟩ := h
     refine .inl ⟨rfl, srun_res (hfit _) ?_⟩
     simp only [sstep, hi]
     rw [if_neg (fun e => hx e.symm)]
   | fin k =>
    simp only [turn] at h
    have hs : sstep l ⟨.fin k :: (U ++ [.word x]), i, d, out ++ evs.map evOf⟩ = .on ⟨U ++ [.word x], i, d - 1, out ++ (evs ++ [(3, k)]).map evOf⟩ := by
     simp [sstep]
    rw [srun_step (hfit _) hs]
    rcases run_word hi n U x (evs ++ [(3, k)]) (d - 1) out b s h (hR.next (by simp; omega) (by omega) (by omega)) with ⟨hb, h1⟩ | ⟨hb, T', h1, h2, h3, h4, h5, h6⟩
    ·exact .inl ⟨hb, h1⟩
    ·rw [List.length_append, List.length_singleton] at h3
     refine .inr ⟨hb, T', h1, h2, by omega, by omega, by omega, fun m r hr => ?_⟩
     rw [show m + (n + 1) = (m + n) + 1 by omega, srun_step (hfit _) hs]
     exact h6 m r hr
   | rule f =>
    simp only [turn] at h
    cases he : f.expand (codeOf t) with
    | none =>
     rw [he] at h
     simp only [Option.some.injEq, Prod.mk.injEq] at h
     obtain ⟨rfl, rfl⟩ := h
     refine .inl ⟨rfl, srun_res (hfit _) ?_⟩
     simp only [sstep, hc, he]
     rw [if_neg (by omega)]
    | some e =>
     rw [he] at h
     dsimp only at h
     rw [effs_both] at h
     obtain ⟨-, b1, b2, b3⟩ := expand_len he ⟨U, [], d⟩
     generalize hE : effs ⟨U, [], d⟩ e = E at h b1 b2 b3
     dsimp only [List.length_nil] at b1 b2 b3
     have hs : sstep l ⟨.rule f :: (U ++ [.word x]), i, d, out ++ evs.map evOf⟩ = .on ⟨E.todo ++ [.word x], i, E.depth, out ++ (evs ++ E.evs).map evOf⟩ := by
      simp only [sstep, hc, he, effs_both, hE, List.nil_append, List.map_append, List.append_assoc]
     rw [srun_step (hfit _) hs]
     rcases run_word hi n E.todo x (evs ++ E.evs) E.depth out b s h (hR.next (by rw [List.length_append]; omega) (by omega) (by omega)) with ⟨hb, h1⟩ | ⟨hb, T', h1, h2, h3, h4, h5, h6⟩
     ·exact .inl ⟨hb, h1⟩
     ·rw [List.length_append] at h3
      refine .inr ⟨hb, T', h1, h2, by omega, by omega, by omega, fun m r hr => ?_⟩
      rw [show m + (n + 1) = (m + n) + 1 by omega, srun_step (hfit _) hs]
      exact h6 m r hr
theorem run_end {l : List Tk} : ∀ (n : Nat) (U : List WT) (x : ByteArray) (evs : List (Nat × Nat)) (d : Int) (out : List Ev) (b : Bool) (s : PSt), turns ⟨#[]⟩ n ⟨U ++ [.word x], evs, d⟩ = some (b, s) → Room n (out.length + evs.length) d →
  srun l n ⟨U ++ [.word x], l.length, d, out ++ evs.map evOf⟩ = some (.err 121 l.length)
 | 0, U, x, evs, d, out, b, s, h, hR => by simp [turns] at h
 | n + 1, U, x, evs, d, out, b, s, h, hR => by
  have hi : l[l.length]? = none := List.getElem?_eq_none (Nat.le_refl _)
  have hc : cAt l l.length = ⟨#[]⟩ := by unfold cAt; rw [hi]
  have hfit : ∀ T, fitS ⟨T, l.length, d, out ++ evs.map evOf⟩ := fun T => Room.fit (n := n + 1) (by rw [evlen]; exact hR)
  rw [turns] at h
  cases U with
  | nil => exact srun_res (hfit _) (by simp only [sstep, List.nil_append, hi])
  | cons y U =>
   rw [List.cons_append] at h ⊢
   cases y with
   | word y => exact srun_res (hfit _) (by simp only [sstep, hi])
   | fin k =>
    simp only [turn] at h
    have hs : sstep l ⟨.fin k :: (U ++ [.word x]), l.length, d, out ++ evs.map evOf⟩ = .on ⟨U ++ [.word x], l.length, d - 1, out ++ (evs ++ [(3, k)]).map evOf⟩ := by
     simp [sstep]
    rw [srun_step (hfit _) hs]
    exact run_end n U x (evs ++ [(3, k)]) (d - 1) out b s h (hR.next (by simp; omega) (by omega) (by omega))
   | rule f =>
    simp only [turn] at h
    cases he : f.expand ⟨#[]⟩ with
    | none => exact srun_res (hfit _) (by simp only [sstep, hc, he, if_true])
    | some e =>
     rw [he] at h
     dsimp only at h
     rw [effs_both] at h
     obtain ⟨-, b1, b2, b3⟩ := expand_len he ⟨U, [], d⟩
     generalize hE : effs ⟨U, [], d⟩ e = E at h b1 b2 b3
     dsimp only [List.length_nil] at b1 b2 b3
     have hs : sstep l ⟨.rule f :: (U ++ [.word x]), l.length, d, out ++ evs.map evOf⟩ = .on ⟨E.todo ++ [.word x], l.length, E.depth, out ++ (evs ++ E.evs).map evOf⟩ := by
      simp only [sstep, hc, he, effs_both, hE, List.nil_append, List.map_append, List.append_assoc]
     rw [srun_step (hfit _) hs]
     exact run_end n E.todo x (evs ++ E.evs) E.depth out b s h (hR.next (by rw [List.length_append]; omega) (by omega) (by omega))
end Go.Proofs.YtmjbpgnjgblnmaaGreat
namespace Go.Proofs.YtmjbpgnjgblnmaaGreat
open Go
section
variable {P : Program} {ops : Array Oper} {Q : Exit → Act → World → Prop} {md : Region.Mode} {S : World → Prop} {early : Nat → Bool}
def anyP (P : Program) (md : Region.Mode) (ops : Array Oper) (Q : Exit → Act → World → Prop) (S : World → Prop) (early : Nat → Bool) : Nat → Array Bool → Act → World → Prop
 | 0, listed, a, w => Region.ready md ops listed = [] ∧ Q .normal a w
 | fuel + 1, listed, a, w =>
  (Region.ready md ops listed = [] → Q .normal a w) ∧
  ∀ i ∈ Region.ready md ops listed, wpOp P ops Q i (fun a' w' => (early i = true → S w') ∧ anyP P md ops Q S early fuel (listed.setIfInBounds i true) a' w') a w
theorem any_of_P : ∀ (fuel : Nat) (listed : Array Bool) (a : Act) (w : World), anyP P md ops Q S early fuel listed a w → wpAny P md ops Q fuel listed a w
 | 0, _, _, _, h => h
 | fuel + 1, _, _, _, h => ⟨h.1, fun i hi => wpOp_mono (fun a' w' h' => any_of_P fuel _ a' w' h'.2) (h.2 i hi)⟩
theorem hnot_of {i j : Nat} {listed : Array Bool} {oj : Oper} (hr : i ∈ Region.ready md ops listed) (hall : ∀ e ∈ oj.after, Region.binds md e = true → listed.getD e.on false = true) : ∀ e ∈ oj.after, Region.binds md e = true → e.on ≠ i := fun e he hb heq => by
 have h1 := hall e he hb
 have h0 := (mem_ready.1 hr).1
 rw [heq] at h1
 rcases Nat.lt_or_ge i listed.size with h' | h'
 ·simp [h'] at h0 h1; rw [h0] at h1; cases h1
 ·simp [Array.getElem?_eq_none h'] at h1
theorem anyP_first0 {i : Nat} {oi : Oper} {v : Value} (hi : ops[i]? = some oi) (hsel : ∀ (j : Nat) (o : Oper) cs b, ops[j]? = some o → o.op ≠ .select cs b)
  (hQ : ∀ c a w, Q (.panic c) (a.put oi.dst v) w → Q (.panic c) a w) (he : early i = false) :
  ∀ (fuel : Nat) (listed : Array Bool) (a : Act) (w : World),
   (∀ j oj, ops[j]? = some oj → j ≠ i → listed.getD j true = false → (∀ e ∈ oj.after, Region.binds md e = true → e.on ≠ i) → oi.apart ops oj = true) →
   i ∈ Region.ready md ops listed → Yields P ops oi v a →
   anyP P md ops Q S early fuel (listed.setIfInBounds i true) (a.put oi.dst v) w → anyP P md ops Q S early (fuel + 1) listed a w := by
 intro fuel
 induction fuel with
 | zero =>
  intro listed a w _ hr hy H
  refine ⟨fun h => (by rw [h] at hr; cases hr), fun j hj => ?_⟩
  by_cases hji : j = i
  ·subst hji; exact hy.wpOp hi ⟨(fun h => by rw [he] at h; cases h), H⟩
  ·have := ready_mono hj hji
   rw [H.1] at this
   cases this
 | succ fuel ih =>
  intro listed a w hfree hr hy H
  refine ⟨fun h => (by rw [h] at hr; cases hr), fun j hj => ?_⟩
  by_cases hji : j = i
  ·subst hji; exact hy.wpOp hi ⟨(fun h => by rw [he] at h; cases h), H⟩
  ·have h1 := H.2 j (ready_mono hj hji)
   obtain ⟨hjun, oj, hoj, hall⟩ := mem_ready.1 hj
   have hnot := hnot_of (j := j) hr hall
   have h2 := wpOp_put hoj (hfree j oj hoj hji hjun hnot) (fun cs b => hsel i oi cs b hi) (fun cs b => hsel j oj cs b hoj) hQ hy h1
   have hfree' : ∀ k ok, ops[k]? = some ok → k ≠ i → (listed.setIfInBounds j true).getD k true = false →
     (∀ e ∈ ok.after, Region.binds md e = true → e.on ≠ i) → oi.apart ops ok = true := fun k ok hk hki hun hno => by
    refine hfree k ok hk hki ?_ hno
    by_cases hjk : j = k
    ·subst hjk; exact hjun
    ·rw [getD_set_ne true hjk] at hun; exact hun
   refine wpOp_mono (fun a' w' h3 => ⟨h3.2.1, ih (listed.setIfInBounds j true) a' w' hfree' (ready_mono hr (Ne.symm hji)) h3.1 ?_⟩) h2
   rw [Array.setIfInBounds_comm _ _ hji]
   exact h3.2.2
theorem anyP_firstS {i : Nat} {oi : Oper} {v : Value} (hi : ops[i]? = some oi) (hsel : ∀ (j : Nat) (o : Oper) cs b, ops[j]? = some o → o.op ≠ .select cs b)
  (hQ : ∀ c a w, Q (.panic c) (a.put oi.dst v) w → Q (.panic c) a w) :
  ∀ (fuel : Nat) (listed : Array Bool) (a : Act) (w : World),
   (∀ j oj, ops[j]? = some oj → j ≠ i → listed.getD j true = false → (∀ e ∈ oj.after, Region.binds md e = true → e.on ≠ i) → oi.apart ops oj = true ∧ early j = true) →
   i ∈ Region.ready md ops listed → YieldsIf P ops S oi v a → S w →
   anyP P md ops Q S early fuel (listed.setIfInBounds i true) (a.put oi.dst v) w → anyP P md ops Q S early (fuel + 1) listed a w := by
 intro fuel
 induction fuel with
 | zero =>
  intro listed a w _ hr hy hS H
  refine ⟨fun h => (by rw [h] at hr; cases hr), fun j hj => ?_⟩
  by_cases hji : j = i
  ·subst hji; exact hy.wpOp hi hS ⟨fun _ => hS, H⟩
  ·have := ready_mono hj hji
   rw [H.1] at this
   cases this
 | succ fuel ih =>
  intro listed a w hfree hr hy hS H
  refine ⟨fun h => (by rw [h] at hr; cases hr), fun j hj => ?_⟩
  by_cases hji : j = i
  ·subst hji; exact hy.wpOp hi hS ⟨fun _ => hS, H⟩
  ·have h1 := H.2 j (ready_mono hj hji)
   obtain ⟨hjun, oj, hoj, hall⟩ := mem_ready.1 hj
   have hnot := hnot_of (j := j) hr hall
   have hf := hfree j oj hoj hji hjun hnot
   have h2 := wpOp_putIf hoj hf.1 (fun cs b => hsel i oi cs b hi) (fun cs b => hsel j oj cs b hoj) hQ hy h1
   have hfree' : ∀ k ok, ops[k]? = some ok → k ≠ i → (listed.setIfInBounds j true).getD k true = false →
     (∀ e ∈ ok.after, Region.binds md e = true → e.on ≠ i) → oi.apart ops ok = true ∧ early k = true := fun k ok hk hki hun hno => by
    refine hfree k ok hk hki ?_ hno
    by_cases hjk : j = k
    ·subst hjk; exact hjun
    ·rw [getD_set_ne true hjk] at hun; exact hun
   refine wpOp_mono (fun a' w' h3 => ⟨h3.2.1, ih (listed.setIfInBounds j true) a' w' hfree' (ready_mono hr (Ne.symm hji)) h3.1 (h3.2.1 hf.2) ?_⟩) h2
   rw [Array.setIfInBounds_comm _ _ hji]
   exact h3.2.2
def allEarly (md : Region.Mode) (ops : Array Oper) (early : Nat → Bool) (listed : Array Bool) (i : Nat) : Bool :=
 (List.range ops.size).all fun j => j == i || listed.getD j true || early j || match ops[j]? with
  | some oj => oj.after.any (fun e => Region.binds md e && e.on == i)
  | none => true
theorem allEarly_spec {i : Nat} {listed : Array Bool} (h : allEarly md ops early listed i = true) (j : Nat) (oj : Oper)
  (hj : ops[j]? = some oj) (hne : j ≠ i) (hun : listed.getD j true = false) (hno : ∀ e ∈ oj.after, Region.binds md e = true → e.on ≠ i) : early j = true := by
 simp only [allEarly, List.all_eq_true, List.mem_range] at h
 have h1 := h j (Array.getElem?_eq_some_iff.1 hj).1
 simp only [hj, Bool.or_eq_true, beq_iff_eq, hne, false_or, hun, Bool.false_eq_true] at h1
 rcases h1 with h1 | h1
 ·exact h1
 ·obtain ⟨e, he, hb⟩ := Array.any_eq_true'.1 h1
  simp only [Bool.and_eq_true, beq_iff_eq] at hb
  exact absurd hb.2 (hno e he hb.1)
structure AnyP (P : Program) (md : Region.Mode) (ops : Array Oper) (Q : Exit → Act → World → Prop) (S : World → Prop) (early : Nat → Bool) (fuel : Nat) (listed : Array Bool) (a : Act) (w : World) : Prop where
 out : anyP P md ops Q S early fuel listed a w
theorem anyP_take0 {i : Nat} {oi : Oper} {v : Value} {fuel : Nat} {listed : Array Bool} {a : Act} {w : World} (hi : ops[i]? = some oi)
  (hs : (Region.noSelect ops && Region.free md ops listed i && (Region.ready md ops listed).contains i && !early i) = true)
  (hQ : ∀ c a w, Q (.panic c) (a.put oi.dst v) w → Q (.panic c) a w) (hy : Yields P ops oi v a)
  (h : AnyP P md ops Q S early fuel (listed.setIfInBounds i true) (a.put oi.dst v) w) : AnyP P md ops Q S early (fuel + 1) listed a w := by
 simp only [Bool.and_eq_true, Bool.not_eq_true'] at hs
 exact ⟨anyP_first0 hi (Region.noSelect_spec hs.1.1.1) hQ hs.2 fuel listed a w (Region.free_spec hi hs.1.1.2) (by simpa using hs.1.2) hy h.out⟩
theorem anyP_take {i : Nat} {oi : Oper} {v : Value} {fuel : Nat} {listed : Array Bool} {a : Act} {w : World} (hi : ops[i]? = some oi)
  (hs : (Region.noSelect ops && Region.free md ops listed i && (Region.ready md ops listed).contains i && allEarly md ops early listed i) = true)
  (hQ : ∀ c a w, Q (.panic c) (a.put oi.dst v) w → Q (.panic c) a w) (hy : YieldsIf P ops S oi v a) (hS : S w)
  (h : AnyP P md ops Q S early fuel (listed.setIfInBounds i true) (a.put oi.dst v) w) : AnyP P md ops Q S early (fuel + 1) listed a w := by
 simp only [Bool.and_eq_true] at hs
 exact ⟨anyP_firstS hi (Region.noSelect_spec hs.1.1.1) hQ fuel listed a w (fun j oj hj hne hun hno => ⟨Region.free_spec hi hs.1.1.2 j oj hj hne hun hno, allEarly_spec hs.2 j oj hj hne hun hno⟩) (by simpa using hs.1.2) hy hS h.out⟩
def ReadyP (P : Program) (md : Region.Mode) (ops : Array Oper) (Q : Exit → Act → World → Prop) (S : World → Prop) (early : Nat → Bool) (fuel : Nat) (listed : Array Bool) (a : Act) (w : World) (rs : List Nat) : Prop :=
 ∀ i ∈ rs, wpOp P ops Q i (fun a' w' => (early i = true → S w') ∧ AnyP P md ops Q S early fuel (listed.setIfInBounds i true) a' w') a w
theorem ReadyP.nil {fuel : Nat} {listed : Array Bool} {a : Act} {w : World} : ReadyP P md ops Q S early fuel listed a w [] := fun _ h => by cases h
theorem ReadyP.cons {fuel : Nat} {listed : Array Bool} {a : Act} {w : World} {i : Nat} {o : Oper} {rs : List Nat} (ho : ops[i]? = some o)
  (h : ∀ K' : Act → World → Prop, Shut (∀ a w, (early i = true → S w) → AnyP P md ops Q S early fuel (listed.setIfInBounds i true) a w → K' a w) → if Region.wanted o (yielded ops a.tmps) = true then Oper.wp P o a w K' Q else K' (a.put o.dst undef) w)
  (hs : ReadyP P md ops Q S early fuel listed a w rs) : ReadyP P md ops Q S early fuel listed a w (i :: rs) := fun j hj => by
 rcases List.mem_cons.1 hj with rfl | hj
 ·exact wpOp_step ho (fun K' hK => h K' (fun a w hS hW => hK a w ⟨hS, hW⟩))
 ·exact hs j hj
theorem anyP_ready {rs : List Nat} {fuel : Nat} {listed : Array Bool} {a : Act} {w : World} (hr : Region.ready md ops listed = rs) (hne : rs ≠ [])
  (h : ReadyP P md ops Q S early fuel listed a w rs) : AnyP P md ops Q S early (fuel + 1) listed a w :=
 ⟨fun h0 => absurd (hr ▸ h0) hne, hr ▸ fun i hi => wpOp_mono (fun a' w' h' => ⟨h'.1, h'.2.out⟩) (h i hi)⟩
theorem anyP_done {listed : Array Bool} {a : Act} {w : World} (hr : Region.ready md ops listed = []) (h : Q .normal a w) : ∀ fuel, AnyP P md ops Q S early fuel listed a w
 | 0 => ⟨⟨hr, h⟩⟩
 | _ + 1 => ⟨⟨fun _ => h, by rw [hr]; simp⟩⟩
theorem wp_region_P (S : World → Prop) (early : Nat → Bool) {id : Nat} {a : Act} {w : World} (hm : P.follows .mixedOrders = true)
  (h : AnyP P .any ops Q S early ops.size (Array.replicate ops.size false) a w.drew) : (Code.region id ops true).wp P Q a w :=
 wp_region_any hm (any_of_P _ _ _ _ h.out)
end
end Go.Proofs.YtmjbpgnjgblnmaaGreat
namespace Go.Proofs.YtmjbpgnjgblnmaaGreat
open Go
section
variable {P : Program} {ops : Array Oper} {Q : Exit → Act → World → Prop} {md : Region.Mode} {S : World → Prop} {early : Nat → Bool}
def opP (P : Program) (ops : Array Oper) (Q : Exit → Act → World → Prop) (i : Nat) (K : Act → World → Prop) (a : Act) (w : World) : Prop :=
 match ops[i]? with
 | none => K a w
 | some o => if Region.wanted o (yielded ops a.tmps) then o.wp P a w K Q else K (a.put o.dst undef) w
theorem opP_mono {i : Nat} {a : Act} {w : World} {K K' : Act → World → Prop} (h : ∀ a w, K a w → K' a w) (hh : opP P ops Q i K a w) : opP P ops Q i K' a w := by
 unfold opP at *
 split
 ·exact h _ _ (by simpa [*] using hh)
 ·rename_i o ho
  simp only [ho] at hh
  split
  ·rename_i hw; rw [if_pos hw] at hh; exact Oper.wp_mono h hh
  ·rename_i hw; rw [if_neg hw] at hh; exact h _ _ hh
theorem opP_wpOp {i : Nat} {K : Act → World → Prop} {a : Act} {w : World} (h : opP P ops Q i K a w) : wpOp P ops Q i K a w := by
 unfold opP at h
 unfold wpOp
 split
 ·simpa [*] using h
 ·rename_i o ho
  simp only [ho] at h
  split
  ·rename_i hw; rw [if_pos hw] at h; exact .inl h
  ·rename_i hw; rw [if_neg hw] at h; exact h
theorem yields_opP {i : Nat} {o : Oper} {v : Value} {a : Act} (hi : ops[i]? = some o) (hy : YieldsIf P ops S o v a) {K : Act → World → Prop} {w : World} (hS : S w) (h : K (a.put o.dst v) w) : opP P ops Q i K a w := by
 unfold opP
 simp only [hi]
 rcases hy with ⟨hw, hv⟩ | ⟨hw, rfl⟩
 ·simp only [hw, if_true, Oper.wp, hv w hS, Oper.upon]; exact h
 ·simp only [hw, Bool.false_eq_true, if_false]; exact h
theorem opP_put {j : Nat} {oi oj : Oper} {v : Value} (hj : ops[j]? = some oj) (hap : oi.apart ops oj = true)
  (hsi : ∀ cs b, oi.op ≠ .select cs b) (hsj : ∀ cs b, oj.op ≠ .select cs b)
  (hQ : ∀ c a w, Q (.panic c) (a.put oi.dst v) w → Q (.panic c) a w) {K : Act → World → Prop} {a : Act} {w : World}
  (hy : YieldsIf P ops S oi v a) (h : opP P ops Q j K (a.put oi.dst v) w) :
  opP P ops Q j (fun a' w' => YieldsIf P ops S oi v a' ∧ K (a'.put oi.dst v) w') a w := by
 obtain ⟨h1, h2, h3⟩ := Oper.apart_spec hap
 have keep : ∀ (a : Act), YieldsIf P ops S oi v a → ∀ u, YieldsIf P ops S oi v (a.put oj.dst u) := fun a hy u =>
  hy.of_same (execOp_put oi hsi a oj.dst u h3) (wanted_put oi a oj.dst u h3)
 have keepD : ∀ d, YieldsIf P ops S oi v { a with defers := d :: a.defers } := fun d => hy.of_same rfl rfl
 unfold opP at *
 simp only [hj] at *
 rw [wanted_put oj a oi.dst v h1] at h
 split
 ·rename_i hw
  simp only [hw, if_true] at h
  unfold Oper.wp at *
  rw [execOp_put oj hsj a oi.dst v h1] at h
  generalize (execOp a.eval oj).run P w = r at *
  cases r with
  | ok n w' =>
   cases n <;> simp only [Oper.upon] at h ⊢
   case value u => exact ⟨keep a hy u, by rw [← Act.put_comm a v u h2]; exact h⟩
   case skip => exact ⟨keep a hy _, by rw [← Act.put_comm a v undef h2]; exact h⟩
   case defer d =>
    refine ⟨keep _ (keepD d) _, ?_⟩
    rw [← Act.put_comm _ v undef h2, ← Act.put_defers]
    exact h
   case enter f args =>
    refine Calls.mono h fun e w'' he => ?_
    cases e with
    | returned u => exact ⟨keep a hy u, by rw [← Act.put_comm a v u h2]; exact he⟩
    | panicked c => exact hQ _ _ _ he
    | outgrown => exact he
   case row row args => exact Rows.mono h fun u w'' he => ⟨keep a hy u, by rw [← Act.put_comm a v u h2]; exact he⟩
  | halt x w' =>
   cases x <;> simp only [Oper.upon] at h ⊢
   case panic u => exact hQ _ _ _ h
 ·rename_i hw
  simp only [hw] at h
  exact ⟨keep a hy _, by rw [← Act.put_comm a v undef h2]; exact h⟩
def anyR (P : Program) (md : Region.Mode) (ops : Array Oper) (Q : Exit → Act → World → Prop) (S : World → Prop) (early : Nat → Bool) : Nat → Array Bool → Act → World → Prop
 | 0, listed, a, w => Region.ready md ops listed = [] ∧ Q .normal a w
 | fuel + 1, listed, a, w =>
  (Region.ready md ops listed = [] → Q .normal a w) ∧
  ∀ i ∈ Region.ready md ops listed, opP P ops Q i (fun a' w' => (early i = true → S w') ∧ anyR P md ops Q S early fuel (listed.setIfInBounds i true) a' w') a w
theorem any_of_R : ∀ (fuel : Nat) (listed : Array Bool) (a : Act) (w : World), anyR P md ops Q S early fuel listed a w → wpAny P md ops Q fuel listed a w
 | 0, _, _, _, h => h
 | fuel + 1, _, _, _, h => ⟨h.1, fun i hi => opP_wpOp (opP_mono (fun a' w' h' => any_of_R fuel _ a' w' h'.2) (h.2 i hi))⟩
theorem anyR_firstS {i : Nat} {oi : Oper} {v : Value} (hi : ops[i]? = some oi) (hsel : ∀ (j : Nat) (o : Oper) cs b, ops[j]? = some o → o.op ≠ .select cs b)
  (hQ : ∀ c a w, Q (.panic c) (a.put oi.dst v) w → Q (.panic c) a w) :
  ∀ (fuel : Nat) (listed : Array Bool) (a : Act) (w : World),
   (∀ j oj, ops[j]? = some oj → j ≠ i → listed.getD j true = false → (∀ e ∈ oj.after, Region.binds md e = true → e.on ≠ i) → oi.apart ops oj = true ∧ early j = true) →
   i ∈ Region.ready md ops listed → YieldsIf P ops S oi v a → S w →
   anyR P md ops Q S early fuel (listed.setIfInBounds i true) (a.put oi.dst v) w → anyR P md ops Q S early (fuel + 1) listed a w := by
 intro fuel
 induction fuel with
 | zero =>
  intro listed a w _ hr hy hS H
  refine ⟨fun h => (by rw [h] at hr; cases hr), fun j hj => ?_⟩
  by_cases hji : j = i
  ·subst hji; exact yields_opP hi hy hS ⟨fun _ => hS, H⟩
  ·have := ready_mono hj hji
   rw [H.1] at this
   cases this
 | succ fuel ih =>
  intro listed a w hfree hr hy hS H
  refine ⟨fun h => (by rw [h] at hr; cases hr), fun j hj => ?_⟩
  by_cases hji : j = i
  ·subst hji; exact yields_opP hi hy hS ⟨fun _ => hS, H⟩
  ·have h1 := H.2 j (ready_mono hj hji)
   obtain ⟨hjun, oj, hoj, hall⟩ := mem_ready.1 hj
   have hnot := hnot_of (j := j) hr hall
   have hf := hfree j oj hoj hji hjun hnot
   have h2 := opP_put hoj hf.1 (fun cs b => hsel i oi cs b hi) (fun cs b => hsel j oj cs b hoj) hQ hy h1
   have hfree' : ∀ k ok, ops[k]? = some ok → k ≠ i → (listed.setIfInBounds j true).getD k true = false →
     (∀ e ∈ ok.after, Region.binds md e = true → e.on ≠ i) → oi.apart ops ok = true ∧ early k = true := fun k ok hk hki hun hno => by
    refine hfree k ok hk hki ?_ hno
    by_cases hjk : j = k
    ·subst hjk; exact hjun
    ·rw [getD_set_ne true hjk] at hun; exact hun
   refine opP_mono (fun a' w' h3 => ⟨h3.2.1, ih (listed.setIfInBounds j true) a' w' hfree' (ready_mono hr (Ne.symm hji)) h3.1 (h3.2.1 hf.2) ?_⟩) h2
   rw [Array.setIfInBounds_comm _ _ hji]
   exact h3.2.2
structure AnyR (P : Program) (md : Region.Mode) (ops : Array Oper) (Q : Exit → Act → World → Prop) (S : World → Prop) (early : Nat → Bool) (fuel : Nat) (listed : Array Bool) (a : Act) (w : World) : Prop where
 out : anyR P md ops Q S early fuel listed a w
theorem anyR_take {i : Nat} {oi : Oper} {v : Value} {fuel : Nat} {listed : Array Bool} {a : Act} {w : World} (hi : ops[i]? = some oi)
  (hs : (Region.noSelect ops && Region.free md ops listed i && (Region.ready md ops listed).contains i && allEarly md ops early listed i) = true)
  (hQ : ∀ c a w, Q (.panic c) (a.put oi.dst v) w → Q (.panic c) a w) (hy : YieldsIf P ops S oi v a) (hS : S w)
  (h : AnyR P md ops Q S early fuel (listed.setIfInBounds i true) (a.put oi.dst v) w) : AnyR P md ops Q S early (fuel + 1) listed a w := by
 simp only [Bool.and_eq_true] at hs
 exact ⟨anyR_firstS hi (Region.noSelect_spec hs.1.1.1) hQ fuel listed a w (fun j oj hj hne hun hno => ⟨Region.free_spec hi hs.1.1.2 j oj hj hne hun hno, allEarly_spec hs.2 j oj hj hne hun hno⟩) (by simpa using hs.1.2) hy hS h.out⟩
def ReadyR (P : Program) (md : Region.Mode) (ops : Array Oper) (Q : Exit → Act → World → Prop) (S : World → Prop) (early : Nat → Bool) (fuel : Nat) (listed : Array Bool) (a : Act) (w : World) (rs : List Nat) : Prop :=
 ∀ i ∈ rs, opP P ops Q i (fun a' w' => (early i = true → S w') ∧ AnyR P md ops Q S early fuel (listed.setIfInBounds i true) a' w') a w
theorem ReadyR.nil {fuel : Nat} {listed : Array Bool} {a : Act} {w : World} : ReadyR P md ops Q S early fuel listed a w [] := fun _ h => by cases h
theorem ReadyR.cons {fuel : Nat} {listed : Array Bool} {a : Act} {w : World} {i : Nat} {o : Oper} {rs : List Nat} (ho : ops[i]? = some o)
  (h : ∀ K' : Act → World → Prop, Shut (∀ a w, (early i = true → S w) → AnyR P md ops Q S early fuel (listed.setIfInBounds i true) a w → K' a w) → if Region.wanted o (yielded ops a.tmps) = true then Oper.wp P o a w K' Q else K' (a.put o.dst undef) w)
  (hs : ReadyR P md ops Q S early fuel listed a w rs) : ReadyR P md ops Q S early fuel listed a w (i :: rs) := fun j hj => by
 rcases List.mem_cons.1 hj with rfl | hj
 ·have := h (fun a' w' => (early j = true → S w') ∧ AnyR P md ops Q S early fuel (listed.setIfInBounds j true) a' w') (fun a w hS hW => ⟨hS, hW⟩)
  unfold opP
  rw [ho]
  exact this
 ·exact hs j hj
theorem anyR_ready {rs : List Nat} {fuel : Nat} {listed : Array Bool} {a : Act} {w : World} (hr : Region.ready md ops listed = rs) (hne : rs ≠ [])
  (h : ReadyR P md ops Q S early fuel listed a w rs) : AnyR P md ops Q S early (fuel + 1) listed a w :=
 ⟨fun h0 => absurd (hr ▸ h0) hne, hr ▸ fun i hi => opP_mono (fun a' w' h' => ⟨h'.1, h'.2.out⟩) (h i hi)⟩
theorem anyR_done {listed : Array Bool} {a : Act} {w : World} (hr : Region.ready md ops listed = []) (h : Q .normal a w) : ∀ fuel, AnyR P md ops Q S early fuel listed a w
 | 0 => ⟨⟨hr, h⟩⟩
 | _ + 1 => ⟨⟨fun _ => h, by rw [hr]; simp⟩⟩
theorem wp_region_R (S : World → Prop) (early : Nat → Bool) {id : Nat} {a : Act} {w : World} (hm : P.follows .mixedOrders = true)
  (h : AnyR P .any ops Q S early ops.size (Array.replicate ops.size false) a w.drew) : (Code.region id ops true).wp P Q a w :=
 wp_region_any hm (any_of_R _ _ _ _ h.out)
end
end Go.Proofs.YtmjbpgnjgblnmaaGreat
namespace Go.Proofs.YtmjbpgnjgblnmaaGreat
open Go.RowKit Go.Proofs.YtmjbpgnjgblnmaaGreatW.PrintWords Go.Proofs.YtmjbpgnjgblnmaaGreatW.PrintLast Go.Proofs.YtmjbpgnjgblnmaaGreatW.PrintMore
def wCells : WT → List Value
 | .word s => [.string s, .int .u8 0, .nilFunc]
 | .fin k => [.string ⟨#[]⟩, .int .u8 k, .nilFunc]
 | .rule f => [.string ⟨#[]⟩, .int .u8 0, .func (.func f.num) #[] #[]]
theorem wCells_len (x : WT) : (wCells x).length = 3 := by cases x <;> rfl
theorem wCells_one (x : WT) : ∀ v ∈ wCells x, v.oneCell' = true := by
 cases x <;> (intro v hv; simp only [wCells, List.mem_cons, List.not_mem_nil, or_false] at hv; rcases hv with rfl | rfl | rfl <;> rfl)
def evCells (e : Ev) : List Value := [.int .u8 e.f0, .int .u8 e.f1, .int .u8 e.f2.f0, .string e.f2.f1, .int .i64 e.f2.f2.f0, .int .i64 e.f2.f2.f1, .int .i64 e.f2.f2.f2, .int .i64 e.f2.f3]
structure PAt (w : World) (p : Nat) (s : List WT) (es : List Ev) (d : Int) (b : Bool) (wr : Int) (cl : Bool) (vt ve : Value) : Prop where
 box : w.heap[p]? = some (.cells #[vt, ve, .int .i64 d, .bool b, .int .i64 wr, .bool cl] 72 (0, 0))
 todo : w.ownsRow p 76 3 vt s.length (s.reverse.flatMap wCells)
 evs : w.ownsRow p 48 8 ve es.length (es.flatMap evCells)
structure PStep (p : Nat) (vt ve : Value) (w : World) (vt' ve' : Value) (w' : World) : Prop where
 os : w'.os = w.os
 tape : w'.tape = w.tape
 output : w'.output = w.output
 size : w.heap.size ≤ w'.heap.size
 block : ∀ k, k < w.heap.size → k ≠ p → some k ≠ vt.ownBlock → some k ≠ ve.ownBlock → w'.heap[k]? = w.heap[k]?
 ft : ∀ g, vt'.ownBlock = some g → vt.ownBlock = some g ∨ w.heap.size ≤ g
 fe : ∀ g, ve'.ownBlock = some g → ve.ownBlock = some g ∨ w.heap.size ≤ g
theorem PStep.refl (p : Nat) (vt ve : Value) (w : World) : PStep p vt ve w vt ve w := ⟨rfl, rfl, rfl, Nat.le_refl _, fun _ _ _ _ _ => rfl, fun _ h => .inl h, fun _ h => .inl h⟩
theorem PStep.trans {p : Nat} {a b a' b' a2 b2 : Value} {w w' w2 : World} (h : PStep p a b w a' b' w') (h' : PStep p a' b' w' a2 b2 w2) : PStep p a b w a2 b2 w2 := by
 refine ⟨h'.os.trans h.os, h'.tape.trans h.tape, h'.output.trans h.output, Nat.le_trans h.size h'.size, fun k hk h0 h1 h2 => ?_, fun g hg => ?_, fun g hg => ?_⟩
 ·rw [h'.block k (Nat.lt_of_lt_of_le hk h.size) h0 (fun e => ?_) (fun e => ?_), h.block k hk h0 h1 h2]
  ·rcases h.ft k e.symm with h3 | h3
   ·exact h1 h3.symm
   ·omega
  ·rcases h.fe k e.symm with h3 | h3
   ·exact h2 h3.symm
   ·omega
 ·rcases h'.ft g hg with h3 | h3
  ·exact h.ft g h3
  ·exact .inr (Nat.le_trans h.size h3)
 ·rcases h'.fe g hg with h3 | h3
  ·exact h.fe g h3
  ·exact .inr (Nat.le_trans h.size h3)
end Go.Proofs.YtmjbpgnjgblnmaaGreat
namespace Go.Proofs.YtmjbpgnjgblnmaaGreat
open Go.RowKit Go.Proofs.YtmjbpgnjgblnmaaGreatW.PrintWords Go.Proofs.YtmjbpgnjgblnmaaGreatW.PrintLast Go.Proofs.YtmjbpgnjgblnmaaGreatW.PrintMore
theorem infoWt : (Tryz.prog.info? 76).map (fun i => (i.zero, i.size, i.bytes)) = some (some (.agg #[.string ⟨#[]⟩, .int .u8 0, .nilFunc]), 3, 32) := by kernel_rfl
theorem run_want {W : World} (base : Nat) (ty : TypeId) {u : Value} {q : Nat} {kc cs : List Value} (HO : W.ownsRow base 76 3 u q kc) (hcs : cs.length = 3) (h1 : ∀ v ∈ cs, v.oneCell' = true) (hbase : base ≤ W.heap.size) (hl : (q + 1) * 32 ≤ 140737488355328) :
  ∃ g1 c1 w1, (Builtin.append_ #[70, 70] ty #[u, .slice (some ⟨W.heap.size, 0, none⟩) 1 1]).run Tryz.prog (W.alloc (.cells cs.toArray 76)) = .ok (.slice (some ⟨g1, 0, none⟩) (q + 1) c1) w1 ∧
   w1.ownsRow base 76 3 (.slice (some ⟨g1, 0, none⟩) (q + 1) c1) (q + 1) (kc ++ cs) ∧ W.grownBy w1 u.ownBlock ∧ (u.ownBlock = some g1 ∨ W.heap.size < g1) := by
 obtain ⟨i0, hi, hzz⟩ := Option.map_eq_some_iff.1 infoWt
 simp only [Prod.mk.injEq] at hzz
 obtain ⟨hz0, hz1, hz2⟩ := hzz
 obtain ⟨v1, w1, hr, ho, hg, _, hat⟩ := run_append_own_at (P := Tryz.prog) (W.alloc (.cells cs.toArray 76)) base 70 ty 76 i0 _ 3 32 Tryz.underlying70 hi hz0 hz1 hz2 rfl (by decide) u q kc (HO.alloc _) ⟨W.heap.size, 0, none⟩ 1 1 cs (by rw [hcs])
  (by simpa using World.news_of_block (cs := cs.toArray) (t := 76) (fr := (0, 0)) (heap_alloc_new W (.cells cs.toArray 76))) h1 (by simp only [maxLen]; omega) hl (by rw [World.size_alloc]; omega)
 have ho' := ho
 rcases ho.2 with ⟨_, hn⟩ | ⟨g1, c1, cur, rfl, _⟩
 ·omega
 ·refine ⟨g1, c1, w1, hr, ho', World.grownBy.trans (World.grownBy_alloc W _ _) hg, ?_⟩
  rcases hat with he | he
  ·exact .inl he.symm
  ·rw [World.size_alloc] at he
   have : g1 = W.heap.size + 1 := by simpa [Value.ownBlock] using he
   exact .inr (by omega)
section
variable {ops : Array Oper} {o : Oper} {a : Act} {Q : Exit → Act → World → Prop} {K : Act → World → Prop} {E : Prop}
theorem step_want {W : World} (hgd : o.guard = none) (s x : Operand) (ho : o.op = .call { callee := .builtin .append, args := #[s, x], argTypes := #[70, 70] }) (base : Nat) {u : Value} {q : Nat} {kc cs : List Value} (hs : a.eval s = u) (hx : a.eval x = .slice (some ⟨W.heap.size, 0, none⟩) 1 1)
  (HO : W.ownsRow base 76 3 u q kc) (hcs : cs.length = 3) (h1 : ∀ v ∈ cs, v.oneCell' = true) (hbase : base ≤ W.heap.size) (hl : (q + 1) * 32 ≤ 140737488355328)
  (h : ∀ g1 c1 w1, w1.ownsRow base 76 3 (.slice (some ⟨g1, 0, none⟩) (q + 1) c1) (q + 1) (kc ++ cs) → W.grownBy w1 u.ownBlock → (u.ownBlock = some g1 ∨ W.heap.size < g1) → K (a.put o.dst (.slice (some ⟨g1, 0, none⟩) (q + 1) c1)) w1) :
  if Region.wanted o (yielded ops a.tmps) = true then Oper.wp Tryz.prog o a (W.alloc (.cells cs.toArray 76)) K Q else E := by
 have hw : Region.wanted o (yielded ops a.tmps) = true := by simp [Region.wanted, hgd]
 rw [if_pos hw]
 obtain ⟨g1, c1, w1, hr, h1, h2, h3⟩ := run_want base o.type HO hcs h1 hbase hl
 unfold Oper.wp execOp
 simp only [ho, resolve, invoke, builtin, Sem.run_bind, Sem.run_pure, Result.andThen_ok, List.map_toArray, List.map_cons, List.map_nil, hs, hx, hr]
 exact h g1 c1 w1 h1 h2 h3
theorem step_store {W : World} (hgd : o.guard = none) (hd : o.dst = none) (t : TypeId) (p x : Operand) (ho : o.op = .store t p x) {g off : Nat} {e : TypeId} {cur : Array Value} (u : Value) (seg : List Value) (haddr : a.eval p = .pointer (some ⟨g, off, none⟩)) (hx : a.eval x = u) (hu : u.cells.toList = seg)
  (ht : (Tryz.prog.info? t).map (·.size) = some seg.length) (h1 : ∀ v ∈ seg, v.oneCell' = true) (hh : W.heap[g]? = some (.cells cur e (0, 0))) (hfit : off + seg.length ≤ cur.size) (h : K a (W.setCells g off seg)) :
  if Region.wanted o (yielded ops a.tmps) = true then Oper.wp Tryz.prog o a W K Q else E := by
 have hw : Region.wanted o (yielded ops a.tmps) = true := by simp [Region.wanted, hgd]
 rw [if_pos hw]
 have hrun := run_store_run (P := Tryz.prog) t u seg hh hu ht hfit h1
 unfold Oper.wp execOp
 simp only [ho, haddr, hx, Sem.run_bind, Sem.run_pure, Result.andThen_ok, hrun]
 show K (a.put o.dst undef) _
 rw [hd]
 exact h
end
end Go.Proofs.YtmjbpgnjgblnmaaGreat
namespace Go.Proofs.YtmjbpgnjgblnmaaGreat
open Go.RowKit Go.Proofs.YtmjbpgnjgblnmaaGreatW.PrintWords Go.Proofs.YtmjbpgnjgblnmaaGreatW.PrintLast Go.Proofs.YtmjbpgnjgblnmaaGreatW.PrintMore
theorem infoEv : (Tryz.prog.info? 48).map (fun i => (i.zero, i.size, i.bytes)) = some (some (.agg #[.int .u8 0, .int .u8 0, .int .u8 0, .string ⟨#[]⟩, .int .i64 0, .int .i64 0, .int .i64 0, .int .i64 0]), 8, 64) := by kernel_rfl
theorem evCells_one (e : Ev) : ∀ v ∈ evCells e, v.oneCell' = true := by
 intro v hv; simp only [evCells, List.mem_cons, List.not_mem_nil, or_false] at hv; rcases hv with rfl | rfl | rfl | rfl | rfl | rfl | rfl | rfl <;> rfl
theorem run_ev {W : World} (base : Nat) (ty : TypeId) {u : Value} {q : Nat} {kc cs : List Value} (HO : W.ownsRow base 48 8 u q kc) (hcs : cs.length = 8) (h1 : ∀ v ∈ cs, v.oneCell' = true) (hbase : base ≤ W.heap.size) (hl : (q + 1) * 64 ≤ 140737488355328) :
  ∃ g1 c1 w1, (Builtin.append_ #[41, 41] ty #[u, .slice (some ⟨W.heap.size, 0, none⟩) 1 1]).run Tryz.prog (W.alloc (.cells cs.toArray 48)) = .ok (.slice (some ⟨g1, 0, none⟩) (q + 1) c1) w1 ∧
   w1.ownsRow base 48 8 (.slice (some ⟨g1, 0, none⟩) (q + 1) c1) (q + 1) (kc ++ cs) ∧ W.grownBy w1 u.ownBlock ∧ (u.ownBlock = some g1 ∨ W.heap.size < g1) := by
 obtain ⟨i0, hi, hzz⟩ := Option.map_eq_some_iff.1 infoEv
 simp only [Prod.mk.injEq] at hzz
 obtain ⟨hz0, hz1, hz2⟩ := hzz
 obtain ⟨v1, w1, hr, ho, hg, _, hat⟩ := run_append_own_at (P := Tryz.prog) (W.alloc (.cells cs.toArray 48)) base 41 ty 48 i0 _ 8 64 Tryz.underlying41 hi hz0 hz1 hz2 rfl (by decide) u q kc (HO.alloc _) ⟨W.heap.size, 0, none⟩ 1 1 cs (by rw [hcs])
  (by simpa using World.news_of_block (cs := cs.toArray) (t := 48) (fr := (0, 0)) (heap_alloc_new W (.cells cs.toArray 48))) h1 (by simp only [maxLen]; omega) hl (by rw [World.size_alloc]; omega)
 have ho' := ho
 rcases ho.2 with ⟨_, hn⟩ | ⟨g1, c1, cur, rfl, _⟩
 ·omega
 ·refine ⟨g1, c1, w1, hr, ho', World.grownBy.trans (World.grownBy_alloc W _ _) hg, ?_⟩
  rcases hat with he | he
  ·exact .inl he.symm
  ·rw [World.size_alloc] at he
   have : g1 = W.heap.size + 1 := by simpa [Value.ownBlock] using he
   exact .inr (by omega)
section
variable {ops : Array Oper} {o : Oper} {a : Act} {Q : Exit → Act → World → Prop} {K : Act → World → Prop} {E : Prop}
theorem step_ev {W : World} (hgd : o.guard = none) (s x : Operand) (ho : o.op = .call { callee := .builtin .append, args := #[s, x], argTypes := #[41, 41] }) (base : Nat) {u : Value} {q : Nat} {kc cs : List Value} (hs : a.eval s = u) (hx : a.eval x = .slice (some ⟨W.heap.size, 0, none⟩) 1 1)
  (HO : W.ownsRow base 48 8 u q kc) (hcs : cs.length = 8) (h1 : ∀ v ∈ cs, v.oneCell' = true) (hbase : base ≤ W.heap.size) (hl : (q + 1) * 64 ≤ 140737488355328)
  (h : ∀ g1 c1 w1, w1.ownsRow base 48 8 (.slice (some ⟨g1, 0, none⟩) (q + 1) c1) (q + 1) (kc ++ cs) → W.grownBy w1 u.ownBlock → (u.ownBlock = some g1 ∨ W.heap.size < g1) → K (a.put o.dst (.slice (some ⟨g1, 0, none⟩) (q + 1) c1)) w1) :
  if Region.wanted o (yielded ops a.tmps) = true then Oper.wp Tryz.prog o a (W.alloc (.cells cs.toArray 48)) K Q else E := by
 have hw : Region.wanted o (yielded ops a.tmps) = true := by simp [Region.wanted, hgd]
 rw [if_pos hw]
 obtain ⟨g1, c1, w1, hr, h1, h2, h3⟩ := run_ev base o.type HO hcs h1 hbase hl
 unfold Oper.wp execOp
 simp only [ho, resolve, invoke, builtin, Sem.run_bind, Sem.run_pure, Result.andThen_ok, List.map_toArray, List.map_cons, List.map_nil, hs, hx, hr]
 exact h g1 c1 w1 h1 h2 h3
end
theorem PAt.upd {w : World} {p : Nat} {s : List WT} {es : List Ev} {d : Int} {b : Bool} {wr : Int} {cl : Bool} {vt ve : Value} (H : PAt w p s es d b wr cl vt ve) (off : Nat) (v : Value) (hoff : off < 6)
  {s' : List WT} {es' : List Ev} {d' : Int} {b' : Bool} {wr' : Int} {cl' : Bool} {vt' ve' : Value}
  (hc : [vt, ve, .int .i64 d, .bool b, .int .i64 wr, .bool cl].take off ++ [v] ++ [vt, ve, .int .i64 d, .bool b, .int .i64 wr, .bool cl].drop (off + 1) = [vt', ve', .int .i64 d', .bool b', .int .i64 wr', .bool cl'])
  (ht : w.ownsRow p 76 3 vt' s'.length (s'.reverse.flatMap wCells)) (he : w.ownsRow p 48 8 ve' es'.length (es'.flatMap evCells))
  (ft : ∀ g, vt'.ownBlock = some g → vt.ownBlock = some g) (fe : ∀ g, ve'.ownBlock = some g → ve.ownBlock = some g) :
  PAt (w.setCells p off [v]) p s' es' d' b' wr' cl' vt' ve' ∧ PStep p vt ve w vt' ve' (w.setCells p off [v]) := by
 obtain ⟨cur', k1, k2, k3⟩ := setCells_row [v] off w _ H.box (by simp; omega)
 have hfar : ∀ q, q ≠ p → (w.setCells p off [v]).heap[q]? = w.heap[q]? := fun q hq => setCells_far _ off q hq
 have hsm := setCells_same p [v] off w
 refine ⟨⟨?_, ?_, ?_⟩, ⟨hsm.1, hsm.2.1, hsm.2.2.1, by rw [hsm.2.2.2]; exact Nat.le_refl _, fun q _ h0 _ _ => hfar q h0, fun g h => .inl (ft g h), fun g h => .inl (fe g h)⟩⟩
 ·rw [k1]
  have : cur' = #[vt', ve', .int .i64 d', .bool b', .int .i64 wr', .bool cl'] := by
   apply Array.toList_inj.1
   rw [k3]
   exact hc
  rw [this]
 ·refine own_move ht (fun q hq => hfar q (fun e => ?_))
  obtain ⟨cs, hc2⟩ := own_typed ht q hq
  rw [e, H.box] at hc2; cases hc2
 ·refine own_move he (fun q hq => hfar q (fun e => ?_))
  obtain ⟨cs, hc2⟩ := own_typed he q hq
  rw [e, H.box] at hc2; cases hc2
theorem PAt.cell {w : World} {p : Nat} {s : List WT} {es : List Ev} {d : Int} {b : Bool} {wr : Int} {cl : Bool} {vt ve : Value} (H : PAt w p s es d b wr cl vt ve) :
  w.cell? ⟨p, 0, none⟩ = some vt ∧ w.cell? ⟨p, 1, none⟩ = some ve ∧ w.cell? ⟨p, 2, none⟩ = some (.int .i64 d) ∧ w.cell? ⟨p, 3, none⟩ = some (.bool b) ∧ w.cell? ⟨p, 4, none⟩ = some (.int .i64 wr) ∧ w.cell? ⟨p, 5, none⟩ = some (.bool cl) :=
 ⟨cell_of_row _ _ _ _ _ _ H.box, cell_of_row _ _ _ _ _ _ H.box, cell_of_row _ _ _ _ _ _ H.box, cell_of_row _ _ _ _ _ _ H.box, cell_of_row _ _ _ _ _ _ H.box, cell_of_row _ _ _ _ _ _ H.box⟩
theorem PAt.move {w w1 : World} {p : Nat} {s : List WT} {es : List Ev} {d : Int} {b : Bool} {wr : Int} {cl : Bool} {vt ve : Value} (H : PAt w p s es d b wr cl vt ve) (h : ∀ k, k < w.heap.size → w1.heap[k]? = w.heap[k]?) : PAt w1 p s es d b wr cl vt ve :=
 ⟨(h p (blk_lt H.box)).trans H.box, own_move H.todo (fun q hq => h q (own_lt H.todo q hq)), own_move H.evs (fun q hq => h q (own_lt H.evs q hq))⟩
theorem PAt.below {w w1 : World} {p : Nat} {s : List WT} {es : List Ev} {d : Int} {b : Bool} {wr : Int} {cl : Bool} {vt ve : Value} (H : PAt w p s es d b wr cl vt ve) (h : Below w.heap.size w w1) : PAt w1 p s es d b wr cl vt ve := H.move h.block
theorem PStep.below {p : Nat} {vt ve : Value} {w w1 : World} (h : Below w.heap.size w w1) : PStep p vt ve w vt ve w1 := ⟨h.os, h.tape, h.output, h.size, fun k hk _ _ _ => h.block k hk, fun _ h => .inl h, fun _ h => .inl h⟩
theorem ev_next {p : Nat} {wr w1 : World} {s : List WT} {es : List Ev} {d : Int} {b : Bool} {wc : Int} {cl : Bool} {vt ve : Value} {g1 c1 : Nat} {e : Ev} (H : PAt wr p s es d b wc cl vt ve)
  (ho : w1.ownsRow p 48 8 (.slice (some ⟨g1, 0, none⟩) (es.length + 1) c1) (es.length + 1) (es.flatMap evCells ++ evCells e)) (hg : wr.grownBy w1 ve.ownBlock) (hat : ve.ownBlock = some g1 ∨ wr.heap.size < g1) :
  (∃ cur : Array Value, w1.heap[p]? = some (.cells cur 72 (0, 0)) ∧ 1 + 1 ≤ cur.size) ∧ ∀ V, V = w1.setCells p 1 [.slice (some ⟨g1, 0, none⟩) (es.length + 1) c1] →
   PAt V p s (es ++ [e]) d b wc cl vt (.slice (some ⟨g1, 0, none⟩) (es.length + 1) c1) ∧ PStep p vt ve wr vt (.slice (some ⟨g1, 0, none⟩) (es.length + 1) c1) V := by
 have hpe : ve.ownBlock ≠ some p := fun e => by
  obtain ⟨cs, hc⟩ := own_typed H.evs p e
  rw [H.box] at hc; cases hc
 have hbp : w1.heap[p]? = _ := (hg.block p (blk_lt H.box) (fun e => hpe e.symm)).trans H.box
 refine ⟨⟨_, hbp, by simp⟩, ?_⟩
 rintro _ rfl
 have hte : ∀ q, vt.ownBlock = some q → some q ≠ ve.ownBlock := fun q hq e => by
  obtain ⟨cs, hc⟩ := own_typed H.todo q hq
  obtain ⟨cs2, hc2⟩ := own_typed H.evs q e.symm
  rw [hc] at hc2; cases hc2
 have H1 : PAt w1 p s [] d b wc cl vt (.slice none 0 0) → True := fun _ => trivial
 obtain ⟨cur', k1, k2, k3⟩ := setCells_row [.slice (some ⟨g1, 0, none⟩) (es.length + 1) c1] 1 w1 _ hbp (by simp)
 have hfar : ∀ q, q ≠ p → (w1.setCells p 1 [.slice (some ⟨g1, 0, none⟩) (es.length + 1) c1]).heap[q]? = w1.heap[q]? := fun q hq => setCells_far _ 1 q hq
 have hsm := setCells_same p [.slice (some ⟨g1, 0, none⟩) (es.length + 1) c1] 1 w1
 have hgp : g1 ≠ p := fun e => by
  obtain ⟨cs, hc⟩ := own_typed ho g1 (by simp [Value.ownBlock])
  rw [e, hbp] at hc; cases hc
 refine ⟨⟨?_, ?_, ?_⟩, ⟨?_, ?_, ?_, ?_, ?_, ?_, ?_⟩⟩
 ·rw [k1]
  have : cur' = #[vt, .slice (some ⟨g1, 0, none⟩) (es.length + 1) c1, .int .i64 d, .bool b, .int .i64 wc, .bool cl] := by
   apply Array.toList_inj.1
   rw [k3]
   rfl
  rw [this]
 ·refine own_move H.todo (fun q hq => ?_)
  obtain ⟨cs, hc⟩ := own_typed H.todo q hq
  rw [hfar q (fun e => by rw [e, H.box] at hc; cases hc)]
  exact hg.block q (blk_lt hc) (hte q hq)
 ·have h2 := own_move ho (w1 := w1.setCells p 1 [.slice (some ⟨g1, 0, none⟩) (es.length + 1) c1]) (fun q hq => hfar q (fun e => hgp ((show g1 = q by simpa [Value.ownBlock] using hq).trans e)))
  simp only [List.length_append, List.length_cons, List.length_nil, Nat.zero_add, List.flatMap_append, List.flatMap_cons, List.flatMap_nil, List.append_nil]
  exact h2
 ·exact hsm.1.trans hg.os
 ·exact hsm.2.1.trans hg.tape
 ·exact hsm.2.2.1.trans hg.output
 ·rw [hsm.2.2.2]; exact hg.size
 ·intro q hq h0 h1 h2
  rw [hfar q h0]
  exact hg.block q hq h2
 ·exact fun g h => .inl h
 ·intro g hg'
  have : g1 = g := by simpa [Value.ownBlock] using hg'
  subst this
  rcases hat with h | h
  ·exact .inl h
  ·exact .inr (by omega)
theorem todo_top {w : World} {base : Nat} {x : WT} {r : List WT} {vt : Value} (h : w.ownsRow base 76 3 vt (x :: r).length ((x :: r).reverse.flatMap wCells)) :
  ∃ g cap, vt = .slice (some ⟨g, 0, none⟩) (r.length + 1) cap ∧ r.length + 1 ≤ cap ∧ cap ≤ maxLen ∧ (∀ j v, (wCells x)[j]? = some v → w.cell? ⟨g, r.length * 3 + j, none⟩ = some v ∧ w.frozen? ⟨g, r.length * 3 + j, none⟩ = false) ∧
   w.ownsRow base 76 3 (.slice (some ⟨g, 0, none⟩) r.length cap) r.length (r.reverse.flatMap wCells) := by
 have hfl : ∀ l : List WT, (l.flatMap wCells).length = l.length * 3 := fun l => by
  induction l with
  | nil => rfl
  | cons a l ih => rw [List.flatMap_cons, List.length_append, wCells_len, ih, List.length_cons]; omega
 have hx : (r.reverse.flatMap wCells).length = r.length * 3 := by rw [hfl, List.length_reverse]
 rw [List.reverse_cons, List.flatMap_append, List.flatMap_cons, List.flatMap_nil, List.append_nil, List.length_cons] at h
 rcases h.2 with ⟨_, hn⟩ | ⟨g, cap, cur, rfl, hb, hh, hl, hm, hs, ht⟩
 ·omega
 ·refine ⟨g, cap, rfl, hl, hm, fun j v hj => ?_, hx, .inr ⟨g, cap, cur, rfl, hb, hh, by omega, hm, hs, ?_⟩⟩
  ·have hj3 : j < 3 := by have := (List.getElem?_eq_some_iff.1 hj).1; rwa [wCells_len] at this
   have hj' : (r.reverse.flatMap wCells ++ wCells x)[r.length * 3 + j]? = some v := by
    rw [List.getElem?_append_right (by omega), hx, show r.length * 3 + j - r.length * 3 = j by omega]
    exact hj
   rw [← ht, List.getElem?_take_of_lt (by omega), Array.getElem?_toList] at hj'
   exact ⟨by rw [cell_of_row _ _ _ _ _ _ hh]; exact hj', by simp [World.frozen?, hh]⟩
  ·have hz := congrArg (List.take (r.length * 3)) ht
   rw [List.take_take, Nat.min_eq_left (by omega), List.take_left' hx] at hz
   exact hz
end Go.Proofs.YtmjbpgnjgblnmaaGreat
