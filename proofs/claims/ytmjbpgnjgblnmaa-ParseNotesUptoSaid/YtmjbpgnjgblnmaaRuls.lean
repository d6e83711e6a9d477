/- All rows; a call of a row as a value. -/
import Derived.Test.YtmjbpgnjgblnmaaRul1
import Derived.Test.YtmjbpgnjgblnmaaRul2
import Derived.Test.YtmjbpgnjgblnmaaRul3
import Derived.Test.YtmjbpgnjgblnmaaRul4
import Derived.Test.YtmjbpgnjgblnmaaRul5
import Derived.Test.YtmjbpgnjgblnmaaRul6
set_option linter.unusedVariables false
namespace Go.Proofs.Ytmjbpgnjgblnmaa
open Go.RowKit Go.Proofs.YtmjbpgnjgblnmaaW.PrintWords Go.Proofs.YtmjbpgnjgblnmaaW.PrintLast Go.Proofs.YtmjbpgnjgblnmaaW.PrintMore
theorem rule_all (f : RId) : RuleAny f := by
  cases f
  case r_block => exact rule_block
  case r_declarations => exact rule_declarations
  case r_declaration => exact rule_declaration
  case r_names => exact rule_names
  case r_params => exact rule_params
  case r_moreParams => exact rule_moreParams
  case r_param => exact rule_param
  case r_typed => exact rule_typed
  case r_kind => exact rule_kind
  case r_member => exact rule_member
  case r_members => exact rule_members
  case r_body => exact rule_body
  case r_statements => exact rule_statements
  case r_statement => exact rule_statement
  case r_assigned => exact rule_assigned
  case r_elses => exact rule_elses
  case r_maybe => exact rule_maybe
  case r_expr => exact rule_expr
  case r_rels => exact rule_rels
  case r_rel => exact rule_rel
  case r_compared => exact rule_compared
  case r_sum => exact rule_sum
  case r_terms => exact rule_terms
  case r_term => exact rule_term
  case r_factors => exact rule_factors
  case r_factor => exact rule_factor
  case r_object => exact rule_object
  case r_selected => exact rule_selected
  case r_args => exact rule_args
  case r_exprs => exact rule_exprs
theorem rule_enter (f : RId) (args : Array Value) (w : World) : (callFunc f.num args).run Try.prog w = .ok (.enter f.num args) w := by
  cases f
  case r_block => exact enters_ Try.func30 (by kernel_rfl) rfl args w
  case r_declarations => exact enters_ Try.func49 (by kernel_rfl) rfl args w
  case r_declaration => exact enters_ Try.func66 (by kernel_rfl) rfl args w
  case r_names => exact enters_ Try.func76 (by kernel_rfl) rfl args w
  case r_params => exact enters_ Try.func79 (by kernel_rfl) rfl args w
  case r_moreParams => exact enters_ Try.func103 (by kernel_rfl) rfl args w
  case r_param => exact enters_ Try.func102 (by kernel_rfl) rfl args w
  case r_typed => exact enters_ Try.func80 (by kernel_rfl) rfl args w
  case r_kind => exact enters_ Try.func77 (by kernel_rfl) rfl args w
  case r_member => exact enters_ Try.func98 (by kernel_rfl) rfl args w
  case r_members => exact enters_ Try.func99 (by kernel_rfl) rfl args w
  case r_body => exact enters_ Try.func50 (by kernel_rfl) rfl args w
  case r_statements => exact enters_ Try.func68 (by kernel_rfl) rfl args w
  case r_statement => exact enters_ Try.func67 (by kernel_rfl) rfl args w
  case r_assigned => exact enters_ Try.func82 (by kernel_rfl) rfl args w
  case r_elses => exact enters_ Try.func83 (by kernel_rfl) rfl args w
  case r_maybe => exact enters_ Try.func84 (by kernel_rfl) rfl args w
  case r_expr => exact enters_ Try.func78 (by kernel_rfl) rfl args w
  case r_rels => exact enters_ Try.func101 (by kernel_rfl) rfl args w
  case r_rel => exact enters_ Try.func100 (by kernel_rfl) rfl args w
  case r_compared => exact enters_ Try.func128 (by kernel_rfl) rfl args w
  case r_sum => exact enters_ Try.func127 (by kernel_rfl) rfl args w
  case r_terms => exact enters_ Try.func149 (by kernel_rfl) rfl args w
  case r_term => exact enters_ Try.func148 (by kernel_rfl) rfl args w
  case r_factors => exact enters_ Try.func160 (by kernel_rfl) rfl args w
  case r_factor => exact enters_ Try.func159 (by kernel_rfl) rfl args w
  case r_object => exact enters_ Try.func81 (by kernel_rfl) rfl args w
  case r_selected => exact enters_ Try.func104 (by kernel_rfl) rfl args w
  case r_args => exact enters_ Try.func130 (by kernel_rfl) rfl args w
  case r_exprs => exact enters_ Try.func129 (by kernel_rfl) rfl args w
theorem goesD_ {ops : Array Oper} {Q : Exit → Act → World → Prop} {rest : List Oper} {oi : Oper} {a : Act} {w : World} (N : Option Tmp) (hd : oi.dst = N) (hg : oi.guard = none) (f : RId) {args : Array Value} {ao : Array Operand} {ts : Array TypeId} {x : Operand}
    (hop : oi.op = .call { callee := .value x, args := ao, argTypes := ts }) (hx : a.eval x = .func (.func f.num) #[] #[]) (hargs : ao.map a.eval = args)
    (h : Calls Try.prog f.num args w fun e w' => ∃ v, e = .returned v ∧ wpList Try.prog ops Q rest (a.put N v) w') : wpList Try.prog ops Q (oi :: rest) a w := by
  refine wpList_plain hg fun K hK => ?_
  have he := rule_enter f args w
  have hrun : (execOp a.eval oi).run Try.prog w = .ok (.enter f.num args) w := by
    unfold execOp
    simp [hop, resolve, Deferred.ofValue, invoke, hx, hargs, he]
  unfold Oper.wp
  rw [hrun, Oper.upon_enter]
  refine h.mono fun e w'' hh => ?_
  obtain ⟨v, rfl, hk⟩ := hh
  subst hd
  exact hK _ _ hk
end Go.Proofs.Ytmjbpgnjgblnmaa
