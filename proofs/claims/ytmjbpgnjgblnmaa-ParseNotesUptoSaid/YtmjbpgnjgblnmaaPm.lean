/- The parser's machine in plain words. (Printed by gendm.py out of grammar.py.) -/
import Derived.RowKit
set_option linter.unusedVariables false
namespace Go.Proofs.Ytmjbpgnjgblnmaa
/-- The grammar's rows. -/
inductive RId
  | r_block
  | r_declarations
  | r_declaration
  | r_names
  | r_params
  | r_moreParams
  | r_param
  | r_typed
  | r_kind
  | r_member
  | r_members
  | r_body
  | r_statements
  | r_statement
  | r_assigned
  | r_elses
  | r_maybe
  | r_expr
  | r_rels
  | r_rel
  | r_compared
  | r_sum
  | r_terms
  | r_term
  | r_factors
  | r_factor
  | r_object
  | r_selected
  | r_args
  | r_exprs
  deriving DecidableEq, Repr
/-- What is still to come: a word, a node's end, a row. -/
inductive WT
  | word (s : ByteArray)
  | fin (k : Nat)
  | rule (f : RId)
  deriving DecidableEq
/-- What a row does. -/
inductive Eff
  | push (l : List WT)
  | opn (k : Nat) (l : List WT)
def RId.num : RId → Nat
  | .r_block => 30
  | .r_declarations => 49
  | .r_declaration => 66
  | .r_names => 76
  | .r_params => 79
  | .r_moreParams => 103
  | .r_param => 102
  | .r_typed => 80
  | .r_kind => 77
  | .r_member => 98
  | .r_members => 99
  | .r_body => 50
  | .r_statements => 68
  | .r_statement => 67
  | .r_assigned => 82
  | .r_elses => 83
  | .r_maybe => 84
  | .r_expr => 78
  | .r_rels => 101
  | .r_rel => 100
  | .r_compared => 128
  | .r_sum => 127
  | .r_terms => 149
  | .r_term => 148
  | .r_factors => 160
  | .r_factor => 159
  | .r_object => 81
  | .r_selected => 104
  | .r_args => 130
  | .r_exprs => 129
/-- A row's effects at a code; none: the token can't stand. -/
def RId.expand : RId → ByteArray → Option (List Eff)
  | .r_block, c => some [.opn 2 [.rule .r_declarations, .word ⟨#[98, 101, 103, 105, 110]⟩, .rule .r_body, .word ⟨#[101, 110, 100]⟩]]
  | .r_declarations, c => if c = ⟨#[118, 97, 114]⟩ ∨ c = ⟨#[99, 111, 110, 115, 116]⟩ ∨ c = ⟨#[112, 114, 111, 99]⟩ then some [.push [.rule .r_declaration, .rule .r_declarations]] else some []
  | .r_declaration, c => if c = ⟨#[118, 97, 114]⟩ then some [.opn 3 [.word c, .word ⟨#[64, 110, 97, 109, 101]⟩, .rule .r_names, .word ⟨#[58]⟩, .rule .r_kind, .word ⟨#[59]⟩]] else if c = ⟨#[99, 111, 110, 115, 116]⟩ then some [.opn 4 [.word c, .word ⟨#[64, 110, 97, 109, 101]⟩, .word ⟨#[61]⟩, .rule .r_expr, .word ⟨#[59]⟩]] else some [.opn 5 [.word c, .word ⟨#[64, 110, 97, 109, 101]⟩, .rule .r_params, .rule .r_typed, .word ⟨#[59]⟩, .rule .r_block, .word ⟨#[59]⟩]]
  | .r_names, c => if c = ⟨#[44]⟩ then some [.push [.word c, .word ⟨#[64, 110, 97, 109, 101]⟩, .rule .r_names]] else some []
  | .r_params, c => if c = ⟨#[40]⟩ then some [.opn 6 [.word c, .rule .r_param, .rule .r_moreParams, .word ⟨#[41]⟩]] else some []
  | .r_moreParams, c => if c = ⟨#[59]⟩ then some [.push [.word c, .rule .r_param, .rule .r_moreParams]] else some []
  | .r_param, c => some [.opn 7 [.word ⟨#[64, 110, 97, 109, 101]⟩, .rule .r_names, .word ⟨#[58]⟩, .rule .r_kind]]
  | .r_typed, c => if c = ⟨#[58]⟩ then some [.push [.word c, .rule .r_kind]] else some []
  | .r_kind, c => if c = ⟨#[64, 110, 97, 109, 101]⟩ then some [.opn 8 [.word c]] else if c = ⟨#[97, 114, 114, 97, 121]⟩ then some [.opn 9 [.word c, .word ⟨#[91]⟩, .rule .r_expr, .word ⟨#[46, 46]⟩, .rule .r_expr, .word ⟨#[93]⟩, .word ⟨#[111, 102]⟩, .rule .r_kind]] else if c = ⟨#[114, 101, 99, 111, 114, 100]⟩ then some [.opn 10 [.word c, .rule .r_member, .rule .r_members, .word ⟨#[101, 110, 100]⟩]] else none
  | .r_member, c => some [.opn 11 [.word ⟨#[64, 110, 97, 109, 101]⟩, .rule .r_names, .word ⟨#[58]⟩, .rule .r_kind]]
  | .r_members, c => if c = ⟨#[59]⟩ then some [.push [.word c, .rule .r_member, .rule .r_members]] else some []
  | .r_body, c => some [.opn 12 [.rule .r_statement, .rule .r_statements]]
  | .r_statements, c => if c = ⟨#[59]⟩ then some [.push [.word c, .rule .r_statement, .rule .r_statements]] else some []
  | .r_statement, c => if c = ⟨#[115, 107, 105, 112]⟩ then some [.opn 13 [.word c]] else if c = ⟨#[64, 110, 97, 109, 101]⟩ then some [.opn 14 [.rule .r_object, .rule .r_assigned]] else if c = ⟨#[105, 102]⟩ then some [.opn 15 [.word c, .rule .r_expr, .word ⟨#[116, 104, 101, 110]⟩, .rule .r_body, .rule .r_elses, .word ⟨#[101, 110, 100]⟩]] else if c = ⟨#[119, 104, 105, 108, 101]⟩ then some [.opn 16 [.word c, .rule .r_expr, .word ⟨#[100, 111]⟩, .rule .r_body, .word ⟨#[101, 110, 100]⟩]] else if c = ⟨#[102, 111, 114]⟩ then some [.opn 17 [.word c, .word ⟨#[64, 110, 97, 109, 101]⟩, .word ⟨#[58, 61]⟩, .rule .r_expr, .word ⟨#[116, 111]⟩, .rule .r_expr, .word ⟨#[100, 111]⟩, .rule .r_body, .word ⟨#[101, 110, 100]⟩]] else if c = ⟨#[114, 101, 112, 101, 97, 116]⟩ then some [.opn 18 [.word c, .rule .r_body, .word ⟨#[117, 110, 116, 105, 108]⟩, .rule .r_expr]] else if c = ⟨#[114, 101, 116, 117, 114, 110]⟩ then some [.opn 19 [.word c, .rule .r_maybe]] else if c = ⟨#[98, 101, 103, 105, 110]⟩ then some [.opn 20 [.word c, .rule .r_body, .word ⟨#[101, 110, 100]⟩]] else none
  | .r_assigned, c => if c = ⟨#[58, 61]⟩ then some [.push [.word c, .rule .r_expr]] else some []
  | .r_elses, c => if c = ⟨#[101, 108, 105, 102]⟩ then some [.push [.word c, .rule .r_expr, .word ⟨#[116, 104, 101, 110]⟩, .rule .r_body, .rule .r_elses]] else if c = ⟨#[101, 108, 115, 101]⟩ then some [.push [.word c, .rule .r_body]] else some []
  | .r_maybe, c => if c = ⟨#[64, 110, 117, 109, 98, 101, 114]⟩ ∨ c = ⟨#[64, 116, 101, 120, 116]⟩ ∨ c = ⟨#[64, 99, 104, 97, 114]⟩ ∨ c = ⟨#[64, 110, 97, 109, 101]⟩ ∨ c = ⟨#[45]⟩ ∨ c = ⟨#[110, 111, 116]⟩ ∨ c = ⟨#[40]⟩ then some [.push [.rule .r_expr]] else some []
  | .r_expr, c => some [.opn 21 [.rule .r_rel, .rule .r_rels]]
  | .r_rels, c => if c = ⟨#[97, 110, 100]⟩ ∨ c = ⟨#[111, 114]⟩ then some [.push [.word c, .rule .r_rel, .rule .r_rels]] else some []
  | .r_rel, c => some [.opn 22 [.rule .r_sum, .rule .r_compared]]
  | .r_compared, c => if c = ⟨#[61]⟩ ∨ c = ⟨#[35]⟩ ∨ c = ⟨#[60]⟩ ∨ c = ⟨#[60, 61]⟩ ∨ c = ⟨#[62]⟩ ∨ c = ⟨#[62, 61]⟩ then some [.push [.word c, .rule .r_sum]] else some []
  | .r_sum, c => some [.opn 23 [.rule .r_term, .rule .r_terms]]
  | .r_terms, c => if c = ⟨#[43]⟩ ∨ c = ⟨#[45]⟩ then some [.push [.word c, .rule .r_term, .rule .r_terms]] else some []
  | .r_term, c => some [.opn 24 [.rule .r_factor, .rule .r_factors]]
  | .r_factors, c => if c = ⟨#[42]⟩ ∨ c = ⟨#[47]⟩ ∨ c = ⟨#[37]⟩ then some [.push [.word c, .rule .r_factor, .rule .r_factors]] else some []
  | .r_factor, c => if c = ⟨#[45]⟩ then some [.opn 25 [.word c, .rule .r_factor]] else if c = ⟨#[110, 111, 116]⟩ then some [.opn 26 [.word c, .rule .r_factor]] else if c = ⟨#[40]⟩ then some [.opn 27 [.word c, .rule .r_expr, .word ⟨#[41]⟩]] else if c = ⟨#[64, 110, 117, 109, 98, 101, 114]⟩ ∨ c = ⟨#[64, 116, 101, 120, 116]⟩ ∨ c = ⟨#[64, 99, 104, 97, 114]⟩ then some [.opn 32 [.word c]] else some [.opn 28 [.word ⟨#[64, 110, 97, 109, 101]⟩, .rule .r_selected]]
  | .r_object, c => some [.opn 28 [.word ⟨#[64, 110, 97, 109, 101]⟩, .rule .r_selected]]
  | .r_selected, c => if c = ⟨#[91]⟩ then some [.push [.rule .r_selected], .opn 29 [.word c, .rule .r_expr, .rule .r_exprs, .word ⟨#[93]⟩]] else if c = ⟨#[46]⟩ then some [.push [.rule .r_selected], .opn 30 [.word c, .word ⟨#[64, 110, 97, 109, 101]⟩]] else if c = ⟨#[40]⟩ then some [.push [.rule .r_selected], .opn 31 [.word c, .rule .r_args, .word ⟨#[41]⟩]] else some []
  | .r_args, c => if c = ⟨#[64, 110, 117, 109, 98, 101, 114]⟩ ∨ c = ⟨#[64, 116, 101, 120, 116]⟩ ∨ c = ⟨#[64, 99, 104, 97, 114]⟩ ∨ c = ⟨#[64, 110, 97, 109, 101]⟩ ∨ c = ⟨#[45]⟩ ∨ c = ⟨#[110, 111, 116]⟩ ∨ c = ⟨#[40]⟩ then some [.push [.rule .r_expr, .rule .r_exprs]] else some []
  | .r_exprs, c => if c = ⟨#[44]⟩ then some [.push [.word c, .rule .r_expr, .rule .r_exprs]] else some []
/-- The state: what is to come (the next first), the events (kinds: 1 a node opens, 3 closes), how many nodes are open. -/
structure PSt where
  todo : List WT
  evs : List (Nat × Nat)
  depth : Int
def Eff.act (s : PSt) : Eff → PSt
  | .push l => { s with todo := l ++ s.todo }
  | .opn k l => { todo := l ++ .fin k :: s.todo, evs := s.evs ++ [(1, k)], depth := s.depth + 1 }
def effs (s : PSt) (l : List Eff) : PSt := l.foldl Eff.act s
/-- What one turn of the loop leaves: on, the word is there, it can't stand. -/
inductive Turn
  | on (s : PSt)
  | got (s : PSt)
  | bad (s : PSt)
def turn (c : ByteArray) (s : PSt) : Turn :=
  match s.todo with
  | [] => .bad s
  | .word x :: r => if x = c then .got { s with todo := r } else .bad { s with todo := r }
  | .fin k :: r => .on { todo := r, evs := s.evs ++ [(3, k)], depth := s.depth - 1 }
  | .rule f :: r => match f.expand c with
    | none => .bad { s with todo := r }
    | some l => .on (effs { s with todo := r } l)
/-- As many turns as the fuel allows. -/
def turns (c : ByteArray) : Nat → PSt → Option (Bool × PSt)
  | 0, _ => none
  | n + 1, s => match turn c s with
    | .on s' => turns c n s'
    | .got s' => some (true, s')
    | .bad s' => some (false, s')
end Go.Proofs.Ytmjbpgnjgblnmaa
