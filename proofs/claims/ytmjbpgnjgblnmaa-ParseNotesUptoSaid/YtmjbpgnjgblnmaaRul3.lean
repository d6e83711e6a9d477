/- Rows of the grammar: the walks. (Printed by genrul.py.) -/
import Derived.Test.YtmjbpgnjgblnmaaRul0
set_option linter.unusedVariables false
set_option linter.unusedSimpArgs false
namespace Go.Proofs.Ytmjbpgnjgblnmaa
open Go.RowKit Go.Proofs.YtmjbpgnjgblnmaaW.PrintWords Go.Proofs.YtmjbpgnjgblnmaaW.PrintLast Go.Proofs.YtmjbpgnjgblnmaaW.PrintMore
set_option maxRecDepth 100000 in
set_option maxHeartbeats 4000000 in
theorem rule_member : RuleAny .r_member := by
  intro c p s es d b wc cl vt ve w HP0 HB0
  have HP := Lib.hid HP0
  have HS := Lib.hid (PStep.refl p vt ve w)
  obtain ⟨hs, hes, hd1, hd2⟩ := HB0
  clear HP0
  show Calls Try.prog 98 _ w (RulePost .r_member c p s es d b wc cl vt ve w)
  unfold RulePost
  rw [show RId.expand .r_member c = some [.opn 11 [.word ⟨#[64, 110, 97, 109, 101]⟩, .rule .r_names, .word ⟨#[58]⟩, .rule .r_kind]] from rfl]
  have HO0 := Lib.hid (fun (W : World) (vt1 : Value) (h : PAt W p s es d b wc cl vt1 ve) => open_new h 11 11 [.word ⟨#[64, 110, 97, 109, 101]⟩, .rule .r_names, .word ⟨#[58]⟩, .rule .r_kind] 4 [.string ⟨#[64, 110, 97, 109, 101]⟩, .int .u8 0, .nilFunc, .string ⟨#[]⟩, .int .u8 0, .func (.func 76) #[] #[], .string ⟨#[58]⟩, .int .u8 0, .nilFunc, .string ⟨#[]⟩, .int .u8 0, .func (.func 77) #[] #[]] rfl rfl rfl (by decide) (by (try simp only [List.length_append, List.length_cons, List.length_nil]); omega) (by omega) (by omega))
  clear hs hes hd1 hd2
  go_enter Try.func98, Try.ntmps98
  go_wp2_with (first
    | (go_at_call 28; (with_reducible refine Calls.mono (word_any _ _) ?_); rintro e w9 ⟨rfl, hb⟩; replace HP := Lib.hid (HP.out.below hb); replace HS := Lib.hid (HS.out.trans (PStep.below hb)); clear hb)
    | (go_at_call 29; (with_reducible refine Calls.mono (rule_any _ _) ?_); rintro e w9 ⟨rfl, hb⟩; replace HP := Lib.hid (HP.out.below hb); replace HS := Lib.hid (HS.out.trans (PStep.below hb)); clear hb)
    | (go_at_call 48; (with_reducible refine Calls.mono (HO0.out _ _ HP.out) ?_); rintro e w9 ⟨rfl, vt9, ve9, hP9, hs9⟩; replace HP := Lib.hid hP9; replace HS := Lib.hid (HS.out.trans hs9); clear hP9 hs9))
  go_ret
  exact ⟨rfl, _, _, by simpa [effs, Eff.act] using HP.out, HS.out⟩
set_option maxRecDepth 100000 in
set_option maxHeartbeats 4000000 in
theorem rule_members : RuleAny .r_members := by
  intro c p s es d b wc cl vt ve w HP0 HB0
  have HP := Lib.hid HP0
  have HS := Lib.hid (PStep.refl p vt ve w)
  obtain ⟨hs, hes, hd1, hd2⟩ := HB0
  clear HP0
  show Calls Try.prog 99 _ w (RulePost .r_members c p s es d b wc cl vt ve w)
  unfold RulePost
  by_cases h1 : c = ⟨#[59]⟩
  · subst h1
    rw [show RId.expand .r_members ⟨#[59]⟩ = some [.push [.word ⟨#[59]⟩, .rule .r_member, .rule .r_members]] from rfl]
    have HO0 := Lib.hid (fun (W : World) (vt1 : Value) (h : PAt W p s es d b wc cl vt1 ve) => push_new h [.word ⟨#[59]⟩, .rule .r_member, .rule .r_members] 3 [.string ⟨#[59]⟩, .int .u8 0, .nilFunc, .string ⟨#[]⟩, .int .u8 0, .func (.func 98) #[] #[], .string ⟨#[]⟩, .int .u8 0, .func (.func 99) #[] #[]] rfl rfl (by decide) (by (try simp only [List.length_append, List.length_cons, List.length_nil]); omega))
    clear hs hes hd1 hd2
    go_enter Try.func99, Try.ntmps99
    go_wp2_with (first
      | (go_at_call 28; (with_reducible refine Calls.mono (word_any _ _) ?_); rintro e w9 ⟨rfl, hb⟩; replace HP := Lib.hid (HP.out.below hb); replace HS := Lib.hid (HS.out.trans (PStep.below hb)); clear hb)
      | (go_at_call 29; (with_reducible refine Calls.mono (rule_any _ _) ?_); rintro e w9 ⟨rfl, hb⟩; replace HP := Lib.hid (HP.out.below hb); replace HS := Lib.hid (HS.out.trans (PStep.below hb)); clear hb)
      | (go_at_call 27; (with_reducible refine Calls.mono (HO0.out _ _ HP.out) ?_); rintro e w9 ⟨rfl, vt9, hP9, hs9⟩; replace HP := Lib.hid hP9; replace HS := Lib.hid (HS.out.trans hs9); clear hP9 hs9))
    go_ret
    exact ⟨rfl, _, _, by simpa [effs, Eff.act] using HP.out, HS.out⟩
  · skip
    rw [show RId.expand .r_members c = some [] by simp only [RId.expand]; rw [if_neg h1]]
    have e0 := ne_lit h1
    clear hs hes hd1 hd2
    go_enter Try.func99, Try.ntmps99
    go_wp2_with (first
      | (go_at_call 28; (with_reducible refine Calls.mono (word_any _ _) ?_); rintro e w9 ⟨rfl, hb⟩; replace HP := Lib.hid (HP.out.below hb); replace HS := Lib.hid (HS.out.trans (PStep.below hb)); clear hb)
      | (go_at_call 29; (with_reducible refine Calls.mono (rule_any _ _) ?_); rintro e w9 ⟨rfl, hb⟩; replace HP := Lib.hid (HP.out.below hb); replace HS := Lib.hid (HS.out.trans (PStep.below hb)); clear hb))
    go_ret
    exact ⟨rfl, _, _, by simpa [effs, Eff.act] using HP.out, HS.out⟩
set_option maxRecDepth 100000 in
set_option maxHeartbeats 4000000 in
theorem rule_body : RuleAny .r_body := by
  intro c p s es d b wc cl vt ve w HP0 HB0
  have HP := Lib.hid HP0
  have HS := Lib.hid (PStep.refl p vt ve w)
  obtain ⟨hs, hes, hd1, hd2⟩ := HB0
  clear HP0
  show Calls Try.prog 50 _ w (RulePost .r_body c p s es d b wc cl vt ve w)
  unfold RulePost
  rw [show RId.expand .r_body c = some [.opn 12 [.rule .r_statement, .rule .r_statements]] from rfl]
  have HO0 := Lib.hid (fun (W : World) (vt1 : Value) (h : PAt W p s es d b wc cl vt1 ve) => open_new h 12 12 [.rule .r_statement, .rule .r_statements] 2 [.string ⟨#[]⟩, .int .u8 0, .func (.func 67) #[] #[], .string ⟨#[]⟩, .int .u8 0, .func (.func 68) #[] #[]] rfl rfl rfl (by decide) (by (try simp only [List.length_append, List.length_cons, List.length_nil]); omega) (by omega) (by omega))
  clear hs hes hd1 hd2
  go_enter Try.func50, Try.ntmps50
  go_wp2_with (first
    | (go_at_call 28; (with_reducible refine Calls.mono (word_any _ _) ?_); rintro e w9 ⟨rfl, hb⟩; replace HP := Lib.hid (HP.out.below hb); replace HS := Lib.hid (HS.out.trans (PStep.below hb)); clear hb)
    | (go_at_call 29; (with_reducible refine Calls.mono (rule_any _ _) ?_); rintro e w9 ⟨rfl, hb⟩; replace HP := Lib.hid (HP.out.below hb); replace HS := Lib.hid (HS.out.trans (PStep.below hb)); clear hb)
    | (go_at_call 48; (with_reducible refine Calls.mono (HO0.out _ _ HP.out) ?_); rintro e w9 ⟨rfl, vt9, ve9, hP9, hs9⟩; replace HP := Lib.hid hP9; replace HS := Lib.hid (HS.out.trans hs9); clear hP9 hs9))
  go_ret
  exact ⟨rfl, _, _, by simpa [effs, Eff.act] using HP.out, HS.out⟩
set_option maxRecDepth 100000 in
set_option maxHeartbeats 4000000 in
theorem rule_statements : RuleAny .r_statements := by
  intro c p s es d b wc cl vt ve w HP0 HB0
  have HP := Lib.hid HP0
  have HS := Lib.hid (PStep.refl p vt ve w)
  obtain ⟨hs, hes, hd1, hd2⟩ := HB0
  clear HP0
  show Calls Try.prog 68 _ w (RulePost .r_statements c p s es d b wc cl vt ve w)
  unfold RulePost
  by_cases h1 : c = ⟨#[59]⟩
  · subst h1
    rw [show RId.expand .r_statements ⟨#[59]⟩ = some [.push [.word ⟨#[59]⟩, .rule .r_statement, .rule .r_statements]] from rfl]
    have HO0 := Lib.hid (fun (W : World) (vt1 : Value) (h : PAt W p s es d b wc cl vt1 ve) => push_new h [.word ⟨#[59]⟩, .rule .r_statement, .rule .r_statements] 3 [.string ⟨#[59]⟩, .int .u8 0, .nilFunc, .string ⟨#[]⟩, .int .u8 0, .func (.func 67) #[] #[], .string ⟨#[]⟩, .int .u8 0, .func (.func 68) #[] #[]] rfl rfl (by decide) (by (try simp only [List.length_append, List.length_cons, List.length_nil]); omega))
    clear hs hes hd1 hd2
    go_enter Try.func68, Try.ntmps68
    go_wp2_with (first
      | (go_at_call 28; (with_reducible refine Calls.mono (word_any _ _) ?_); rintro e w9 ⟨rfl, hb⟩; replace HP := Lib.hid (HP.out.below hb); replace HS := Lib.hid (HS.out.trans (PStep.below hb)); clear hb)
      | (go_at_call 29; (with_reducible refine Calls.mono (rule_any _ _) ?_); rintro e w9 ⟨rfl, hb⟩; replace HP := Lib.hid (HP.out.below hb); replace HS := Lib.hid (HS.out.trans (PStep.below hb)); clear hb)
      | (go_at_call 27; (with_reducible refine Calls.mono (HO0.out _ _ HP.out) ?_); rintro e w9 ⟨rfl, vt9, hP9, hs9⟩; replace HP := Lib.hid hP9; replace HS := Lib.hid (HS.out.trans hs9); clear hP9 hs9))
    go_ret
    exact ⟨rfl, _, _, by simpa [effs, Eff.act] using HP.out, HS.out⟩
  · skip
    rw [show RId.expand .r_statements c = some [] by simp only [RId.expand]; rw [if_neg h1]]
    have e0 := ne_lit h1
    clear hs hes hd1 hd2
    go_enter Try.func68, Try.ntmps68
    go_wp2_with (first
      | (go_at_call 28; (with_reducible refine Calls.mono (word_any _ _) ?_); rintro e w9 ⟨rfl, hb⟩; replace HP := Lib.hid (HP.out.below hb); replace HS := Lib.hid (HS.out.trans (PStep.below hb)); clear hb)
      | (go_at_call 29; (with_reducible refine Calls.mono (rule_any _ _) ?_); rintro e w9 ⟨rfl, hb⟩; replace HP := Lib.hid (HP.out.below hb); replace HS := Lib.hid (HS.out.trans (PStep.below hb)); clear hb))
    go_ret
    exact ⟨rfl, _, _, by simpa [effs, Eff.act] using HP.out, HS.out⟩
set_option maxRecDepth 100000 in
set_option maxHeartbeats 4000000 in
theorem rule_assigned : RuleAny .r_assigned := by
  intro c p s es d b wc cl vt ve w HP0 HB0
  have HP := Lib.hid HP0
  have HS := Lib.hid (PStep.refl p vt ve w)
  obtain ⟨hs, hes, hd1, hd2⟩ := HB0
  clear HP0
  show Calls Try.prog 82 _ w (RulePost .r_assigned c p s es d b wc cl vt ve w)
  unfold RulePost
  by_cases h1 : c = ⟨#[58, 61]⟩
  · subst h1
    rw [show RId.expand .r_assigned ⟨#[58, 61]⟩ = some [.push [.word ⟨#[58, 61]⟩, .rule .r_expr]] from rfl]
    have HO0 := Lib.hid (fun (W : World) (vt1 : Value) (h : PAt W p s es d b wc cl vt1 ve) => push_new h [.word ⟨#[58, 61]⟩, .rule .r_expr] 2 [.string ⟨#[58, 61]⟩, .int .u8 0, .nilFunc, .string ⟨#[]⟩, .int .u8 0, .func (.func 78) #[] #[]] rfl rfl (by decide) (by (try simp only [List.length_append, List.length_cons, List.length_nil]); omega))
    clear hs hes hd1 hd2
    go_enter Try.func82, Try.ntmps82
    go_wp2_with (first
      | (go_at_call 28; (with_reducible refine Calls.mono (word_any _ _) ?_); rintro e w9 ⟨rfl, hb⟩; replace HP := Lib.hid (HP.out.below hb); replace HS := Lib.hid (HS.out.trans (PStep.below hb)); clear hb)
      | (go_at_call 29; (with_reducible refine Calls.mono (rule_any _ _) ?_); rintro e w9 ⟨rfl, hb⟩; replace HP := Lib.hid (HP.out.below hb); replace HS := Lib.hid (HS.out.trans (PStep.below hb)); clear hb)
      | (go_at_call 27; (with_reducible refine Calls.mono (HO0.out _ _ HP.out) ?_); rintro e w9 ⟨rfl, vt9, hP9, hs9⟩; replace HP := Lib.hid hP9; replace HS := Lib.hid (HS.out.trans hs9); clear hP9 hs9))
    go_ret
    exact ⟨rfl, _, _, by simpa [effs, Eff.act] using HP.out, HS.out⟩
  · skip
    rw [show RId.expand .r_assigned c = some [] by simp only [RId.expand]; rw [if_neg h1]]
    have e0 := ne_lit h1
    clear hs hes hd1 hd2
    go_enter Try.func82, Try.ntmps82
    go_wp2_with (first
      | (go_at_call 28; (with_reducible refine Calls.mono (word_any _ _) ?_); rintro e w9 ⟨rfl, hb⟩; replace HP := Lib.hid (HP.out.below hb); replace HS := Lib.hid (HS.out.trans (PStep.below hb)); clear hb)
      | (go_at_call 29; (with_reducible refine Calls.mono (rule_any _ _) ?_); rintro e w9 ⟨rfl, hb⟩; replace HP := Lib.hid (HP.out.below hb); replace HS := Lib.hid (HS.out.trans (PStep.below hb)); clear hb))
    go_ret
    exact ⟨rfl, _, _, by simpa [effs, Eff.act] using HP.out, HS.out⟩
set_option maxRecDepth 100000 in
set_option maxHeartbeats 4000000 in
theorem rule_elses : RuleAny .r_elses := by
  intro c p s es d b wc cl vt ve w HP0 HB0
  have HP := Lib.hid HP0
  have HS := Lib.hid (PStep.refl p vt ve w)
  obtain ⟨hs, hes, hd1, hd2⟩ := HB0
  clear HP0
  show Calls Try.prog 83 _ w (RulePost .r_elses c p s es d b wc cl vt ve w)
  unfold RulePost
  by_cases h1 : c = ⟨#[101, 108, 105, 102]⟩
  · subst h1
    rw [show RId.expand .r_elses ⟨#[101, 108, 105, 102]⟩ = some [.push [.word ⟨#[101, 108, 105, 102]⟩, .rule .r_expr, .word ⟨#[116, 104, 101, 110]⟩, .rule .r_body, .rule .r_elses]] from rfl]
    have HO0 := Lib.hid (fun (W : World) (vt1 : Value) (h : PAt W p s es d b wc cl vt1 ve) => push_new h [.word ⟨#[101, 108, 105, 102]⟩, .rule .r_expr, .word ⟨#[116, 104, 101, 110]⟩, .rule .r_body, .rule .r_elses] 5 [.string ⟨#[101, 108, 105, 102]⟩, .int .u8 0, .nilFunc, .string ⟨#[]⟩, .int .u8 0, .func (.func 78) #[] #[], .string ⟨#[116, 104, 101, 110]⟩, .int .u8 0, .nilFunc, .string ⟨#[]⟩, .int .u8 0, .func (.func 50) #[] #[], .string ⟨#[]⟩, .int .u8 0, .func (.func 83) #[] #[]] rfl rfl (by decide) (by (try simp only [List.length_append, List.length_cons, List.length_nil]); omega))
    clear hs hes hd1 hd2
    go_enter Try.func83, Try.ntmps83
    go_wp2_with (first
      | (go_at_call 28; (with_reducible refine Calls.mono (word_any _ _) ?_); rintro e w9 ⟨rfl, hb⟩; replace HP := Lib.hid (HP.out.below hb); replace HS := Lib.hid (HS.out.trans (PStep.below hb)); clear hb)
      | (go_at_call 29; (with_reducible refine Calls.mono (rule_any _ _) ?_); rintro e w9 ⟨rfl, hb⟩; replace HP := Lib.hid (HP.out.below hb); replace HS := Lib.hid (HS.out.trans (PStep.below hb)); clear hb)
      | (go_at_call 27; (with_reducible refine Calls.mono (HO0.out _ _ HP.out) ?_); rintro e w9 ⟨rfl, vt9, hP9, hs9⟩; replace HP := Lib.hid hP9; replace HS := Lib.hid (HS.out.trans hs9); clear hP9 hs9))
    go_ret
    exact ⟨rfl, _, _, by simpa [effs, Eff.act] using HP.out, HS.out⟩
  · skip
    by_cases h2 : c = ⟨#[101, 108, 115, 101]⟩
    · subst h2
      rw [show RId.expand .r_elses ⟨#[101, 108, 115, 101]⟩ = some [.push [.word ⟨#[101, 108, 115, 101]⟩, .rule .r_body]] from rfl]
      have HO0 := Lib.hid (fun (W : World) (vt1 : Value) (h : PAt W p s es d b wc cl vt1 ve) => push_new h [.word ⟨#[101, 108, 115, 101]⟩, .rule .r_body] 2 [.string ⟨#[101, 108, 115, 101]⟩, .int .u8 0, .nilFunc, .string ⟨#[]⟩, .int .u8 0, .func (.func 50) #[] #[]] rfl rfl (by decide) (by (try simp only [List.length_append, List.length_cons, List.length_nil]); omega))
      clear hs hes hd1 hd2
      go_enter Try.func83, Try.ntmps83
      go_wp2_with (first
        | (go_at_call 28; (with_reducible refine Calls.mono (word_any _ _) ?_); rintro e w9 ⟨rfl, hb⟩; replace HP := Lib.hid (HP.out.below hb); replace HS := Lib.hid (HS.out.trans (PStep.below hb)); clear hb)
        | (go_at_call 29; (with_reducible refine Calls.mono (rule_any _ _) ?_); rintro e w9 ⟨rfl, hb⟩; replace HP := Lib.hid (HP.out.below hb); replace HS := Lib.hid (HS.out.trans (PStep.below hb)); clear hb)
        | (go_at_call 27; (with_reducible refine Calls.mono (HO0.out _ _ HP.out) ?_); rintro e w9 ⟨rfl, vt9, hP9, hs9⟩; replace HP := Lib.hid hP9; replace HS := Lib.hid (HS.out.trans hs9); clear hP9 hs9))
      go_ret
      exact ⟨rfl, _, _, by simpa [effs, Eff.act] using HP.out, HS.out⟩
    · skip
      rw [show RId.expand .r_elses c = some [] by simp only [RId.expand]; rw [if_neg h1]; rw [if_neg h2]]
      have e0 := ne_lit h1
      have e1 := ne_lit h2
      clear hs hes hd1 hd2
      go_enter Try.func83, Try.ntmps83
      go_wp2_with (first
        | (go_at_call 28; (with_reducible refine Calls.mono (word_any _ _) ?_); rintro e w9 ⟨rfl, hb⟩; replace HP := Lib.hid (HP.out.below hb); replace HS := Lib.hid (HS.out.trans (PStep.below hb)); clear hb)
        | (go_at_call 29; (with_reducible refine Calls.mono (rule_any _ _) ?_); rintro e w9 ⟨rfl, hb⟩; replace HP := Lib.hid (HP.out.below hb); replace HS := Lib.hid (HS.out.trans (PStep.below hb)); clear hb))
      go_ret
      exact ⟨rfl, _, _, by simpa [effs, Eff.act] using HP.out, HS.out⟩
set_option maxRecDepth 100000 in
set_option maxHeartbeats 4000000 in
theorem rule_maybe : RuleAny .r_maybe := by
  intro c p s es d b wc cl vt ve w HP0 HB0
  have HP := Lib.hid HP0
  have HS := Lib.hid (PStep.refl p vt ve w)
  obtain ⟨hs, hes, hd1, hd2⟩ := HB0
  clear HP0
  show Calls Try.prog 84 _ w (RulePost .r_maybe c p s es d b wc cl vt ve w)
  unfold RulePost
  by_cases h1 : c = ⟨#[64, 110, 117, 109, 98, 101, 114]⟩ ∨ c = ⟨#[64, 116, 101, 120, 116]⟩ ∨ c = ⟨#[64, 99, 104, 97, 114]⟩ ∨ c = ⟨#[64, 110, 97, 109, 101]⟩ ∨ c = ⟨#[45]⟩ ∨ c = ⟨#[110, 111, 116]⟩ ∨ c = ⟨#[40]⟩
  · rw [show RId.expand .r_maybe c = some [.push [.rule .r_expr]] by simp only [RId.expand]; rw [if_pos h1]]
    have hin : inL c [⟨#[64, 110, 117, 109, 98, 101, 114]⟩, ⟨#[64, 116, 101, 120, 116]⟩, ⟨#[64, 99, 104, 97, 114]⟩, ⟨#[64, 110, 97, 109, 101]⟩, ⟨#[45]⟩, ⟨#[110, 111, 116]⟩, ⟨#[40]⟩] = true := (inL_iff _ _).2 (by simpa using h1)
    have HAM := Lib.hid (fun (W : World) => begins_any W c)
    rw [hin] at HAM
    clear hin
    have HO0 := Lib.hid (fun (W : World) (vt1 : Value) (h : PAt W p s es d b wc cl vt1 ve) => push_new h [.rule .r_expr] 1 [.string ⟨#[]⟩, .int .u8 0, .func (.func 78) #[] #[]] rfl rfl (by decide) (by (try simp only [List.length_append, List.length_cons, List.length_nil]); omega))
    clear hs hes hd1 hd2
    go_enter Try.func84, Try.ntmps84
    go_wp2_with (first
      | (go_at_call 105; (with_reducible refine Calls.mono (HAM.out _) ?_); rintro e w9 ⟨rfl, hb⟩; replace HP := Lib.hid (HP.out.below hb); replace HS := Lib.hid (HS.out.trans (PStep.below hb)); clear hb)
      | (go_at_call 28; (with_reducible refine Calls.mono (word_any _ _) ?_); rintro e w9 ⟨rfl, hb⟩; replace HP := Lib.hid (HP.out.below hb); replace HS := Lib.hid (HS.out.trans (PStep.below hb)); clear hb)
      | (go_at_call 29; (with_reducible refine Calls.mono (rule_any _ _) ?_); rintro e w9 ⟨rfl, hb⟩; replace HP := Lib.hid (HP.out.below hb); replace HS := Lib.hid (HS.out.trans (PStep.below hb)); clear hb)
      | (go_at_call 27; (with_reducible refine Calls.mono (HO0.out _ _ HP.out) ?_); rintro e w9 ⟨rfl, vt9, hP9, hs9⟩; replace HP := Lib.hid hP9; replace HS := Lib.hid (HS.out.trans hs9); clear hP9 hs9))
    go_ret
    exact ⟨rfl, _, _, by simpa [effs, Eff.act] using HP.out, HS.out⟩
  · skip
    rw [show RId.expand .r_maybe c = some [] by simp only [RId.expand]; rw [if_neg h1]]
    have hin : inL c [⟨#[64, 110, 117, 109, 98, 101, 114]⟩, ⟨#[64, 116, 101, 120, 116]⟩, ⟨#[64, 99, 104, 97, 114]⟩, ⟨#[64, 110, 97, 109, 101]⟩, ⟨#[45]⟩, ⟨#[110, 111, 116]⟩, ⟨#[40]⟩] = false := inL_no (fun h => h1 (by simpa using h))
    have HAM := Lib.hid (fun (W : World) => begins_any W c)
    rw [hin] at HAM
    clear hin
    clear hs hes hd1 hd2
    go_enter Try.func84, Try.ntmps84
    go_wp2_with (first
      | (go_at_call 105; (with_reducible refine Calls.mono (HAM.out _) ?_); rintro e w9 ⟨rfl, hb⟩; replace HP := Lib.hid (HP.out.below hb); replace HS := Lib.hid (HS.out.trans (PStep.below hb)); clear hb)
      | (go_at_call 28; (with_reducible refine Calls.mono (word_any _ _) ?_); rintro e w9 ⟨rfl, hb⟩; replace HP := Lib.hid (HP.out.below hb); replace HS := Lib.hid (HS.out.trans (PStep.below hb)); clear hb)
      | (go_at_call 29; (with_reducible refine Calls.mono (rule_any _ _) ?_); rintro e w9 ⟨rfl, hb⟩; replace HP := Lib.hid (HP.out.below hb); replace HS := Lib.hid (HS.out.trans (PStep.below hb)); clear hb))
    go_ret
    exact ⟨rfl, _, _, by simpa [effs, Eff.act] using HP.out, HS.out⟩
end Go.Proofs.Ytmjbpgnjgblnmaa
