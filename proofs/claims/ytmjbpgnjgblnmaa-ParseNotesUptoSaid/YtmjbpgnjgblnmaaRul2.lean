/- Rows of the grammar: the walks. (Printed by genrul.py.) -/
import Derived.Test.YtmjbpgnjgblnmaaRul0
set_option linter.unusedVariables false
set_option linter.unusedSimpArgs false
namespace Go.Proofs.Ytmjbpgnjgblnmaa
open Go.RowKit Go.Proofs.YtmjbpgnjgblnmaaW.PrintWords Go.Proofs.YtmjbpgnjgblnmaaW.PrintLast Go.Proofs.YtmjbpgnjgblnmaaW.PrintMore
set_option maxRecDepth 100000 in
set_option maxHeartbeats 4000000 in
theorem rule_block : RuleAny .r_block := by
  intro c p s es d b wc cl vt ve w HP0 HB0
  have HP := Lib.hid HP0
  have HS := Lib.hid (PStep.refl p vt ve w)
  obtain ⟨hs, hes, hd1, hd2⟩ := HB0
  clear HP0
  show Calls Try.prog 30 _ w (RulePost .r_block c p s es d b wc cl vt ve w)
  unfold RulePost
  rw [show RId.expand .r_block c = some [.opn 2 [.rule .r_declarations, .word ⟨#[98, 101, 103, 105, 110]⟩, .rule .r_body, .word ⟨#[101, 110, 100]⟩]] from rfl]
  have HO0 := Lib.hid (fun (W : World) (vt1 : Value) (h : PAt W p s es d b wc cl vt1 ve) => open_new h 2 2 [.rule .r_declarations, .word ⟨#[98, 101, 103, 105, 110]⟩, .rule .r_body, .word ⟨#[101, 110, 100]⟩] 4 [.string ⟨#[]⟩, .int .u8 0, .func (.func 49) #[] #[], .string ⟨#[98, 101, 103, 105, 110]⟩, .int .u8 0, .nilFunc, .string ⟨#[]⟩, .int .u8 0, .func (.func 50) #[] #[], .string ⟨#[101, 110, 100]⟩, .int .u8 0, .nilFunc] rfl rfl rfl (by decide) (by (try simp only [List.length_append, List.length_cons, List.length_nil]); omega) (by omega) (by omega))
  clear hs hes hd1 hd2
  go_enter Try.func30, Try.ntmps30
  go_wp2_with (first
    | (go_at_call 28; (with_reducible refine Calls.mono (word_any _ _) ?_); rintro e w9 ⟨rfl, hb⟩; replace HP := Lib.hid (HP.out.below hb); replace HS := Lib.hid (HS.out.trans (PStep.below hb)); clear hb)
    | (go_at_call 29; (with_reducible refine Calls.mono (rule_any _ _) ?_); rintro e w9 ⟨rfl, hb⟩; replace HP := Lib.hid (HP.out.below hb); replace HS := Lib.hid (HS.out.trans (PStep.below hb)); clear hb)
    | (go_at_call 48; (with_reducible refine Calls.mono (HO0.out _ _ HP.out) ?_); rintro e w9 ⟨rfl, vt9, ve9, hP9, hs9⟩; replace HP := Lib.hid hP9; replace HS := Lib.hid (HS.out.trans hs9); clear hP9 hs9))
  go_ret
  exact ⟨rfl, _, _, by simpa [effs, Eff.act] using HP.out, HS.out⟩
set_option maxRecDepth 100000 in
set_option maxHeartbeats 4000000 in
theorem rule_declaration : RuleAny .r_declaration := by
  intro c p s es d b wc cl vt ve w HP0 HB0
  have HP := Lib.hid HP0
  have HS := Lib.hid (PStep.refl p vt ve w)
  obtain ⟨hs, hes, hd1, hd2⟩ := HB0
  clear HP0
  show Calls Try.prog 66 _ w (RulePost .r_declaration c p s es d b wc cl vt ve w)
  unfold RulePost
  by_cases h1 : c = ⟨#[118, 97, 114]⟩
  · subst h1
    rw [show RId.expand .r_declaration ⟨#[118, 97, 114]⟩ = some [.opn 3 [.word ⟨#[118, 97, 114]⟩, .word ⟨#[64, 110, 97, 109, 101]⟩, .rule .r_names, .word ⟨#[58]⟩, .rule .r_kind, .word ⟨#[59]⟩]] from rfl]
    have HO0 := Lib.hid (fun (W : World) (vt1 : Value) (h : PAt W p s es d b wc cl vt1 ve) => open_new h 3 3 [.word ⟨#[118, 97, 114]⟩, .word ⟨#[64, 110, 97, 109, 101]⟩, .rule .r_names, .word ⟨#[58]⟩, .rule .r_kind, .word ⟨#[59]⟩] 6 [.string ⟨#[118, 97, 114]⟩, .int .u8 0, .nilFunc, .string ⟨#[64, 110, 97, 109, 101]⟩, .int .u8 0, .nilFunc, .string ⟨#[]⟩, .int .u8 0, .func (.func 76) #[] #[], .string ⟨#[58]⟩, .int .u8 0, .nilFunc, .string ⟨#[]⟩, .int .u8 0, .func (.func 77) #[] #[], .string ⟨#[59]⟩, .int .u8 0, .nilFunc] rfl rfl rfl (by decide) (by (try simp only [List.length_append, List.length_cons, List.length_nil]); omega) (by omega) (by omega))
    clear hs hes hd1 hd2
    go_enter Try.func66, Try.ntmps66
    go_wp2_with (first
      | (go_at_call 28; (with_reducible refine Calls.mono (word_any _ _) ?_); rintro e w9 ⟨rfl, hb⟩; replace HP := Lib.hid (HP.out.below hb); replace HS := Lib.hid (HS.out.trans (PStep.below hb)); clear hb)
      | (go_at_call 29; (with_reducible refine Calls.mono (rule_any _ _) ?_); rintro e w9 ⟨rfl, hb⟩; replace HP := Lib.hid (HP.out.below hb); replace HS := Lib.hid (HS.out.trans (PStep.below hb)); clear hb)
      | (go_at_call 48; (with_reducible refine Calls.mono (HO0.out _ _ HP.out) ?_); rintro e w9 ⟨rfl, vt9, ve9, hP9, hs9⟩; replace HP := Lib.hid hP9; replace HS := Lib.hid (HS.out.trans hs9); clear hP9 hs9))
    go_ret
    exact ⟨rfl, _, _, by simpa [effs, Eff.act] using HP.out, HS.out⟩
  · skip
    by_cases h2 : c = ⟨#[99, 111, 110, 115, 116]⟩
    · subst h2
      rw [show RId.expand .r_declaration ⟨#[99, 111, 110, 115, 116]⟩ = some [.opn 4 [.word ⟨#[99, 111, 110, 115, 116]⟩, .word ⟨#[64, 110, 97, 109, 101]⟩, .word ⟨#[61]⟩, .rule .r_expr, .word ⟨#[59]⟩]] from rfl]
      have HO0 := Lib.hid (fun (W : World) (vt1 : Value) (h : PAt W p s es d b wc cl vt1 ve) => open_new h 4 4 [.word ⟨#[99, 111, 110, 115, 116]⟩, .word ⟨#[64, 110, 97, 109, 101]⟩, .word ⟨#[61]⟩, .rule .r_expr, .word ⟨#[59]⟩] 5 [.string ⟨#[99, 111, 110, 115, 116]⟩, .int .u8 0, .nilFunc, .string ⟨#[64, 110, 97, 109, 101]⟩, .int .u8 0, .nilFunc, .string ⟨#[61]⟩, .int .u8 0, .nilFunc, .string ⟨#[]⟩, .int .u8 0, .func (.func 78) #[] #[], .string ⟨#[59]⟩, .int .u8 0, .nilFunc] rfl rfl rfl (by decide) (by (try simp only [List.length_append, List.length_cons, List.length_nil]); omega) (by omega) (by omega))
      clear hs hes hd1 hd2
      go_enter Try.func66, Try.ntmps66
      go_wp2_with (first
        | (go_at_call 28; (with_reducible refine Calls.mono (word_any _ _) ?_); rintro e w9 ⟨rfl, hb⟩; replace HP := Lib.hid (HP.out.below hb); replace HS := Lib.hid (HS.out.trans (PStep.below hb)); clear hb)
        | (go_at_call 29; (with_reducible refine Calls.mono (rule_any _ _) ?_); rintro e w9 ⟨rfl, hb⟩; replace HP := Lib.hid (HP.out.below hb); replace HS := Lib.hid (HS.out.trans (PStep.below hb)); clear hb)
        | (go_at_call 48; (with_reducible refine Calls.mono (HO0.out _ _ HP.out) ?_); rintro e w9 ⟨rfl, vt9, ve9, hP9, hs9⟩; replace HP := Lib.hid hP9; replace HS := Lib.hid (HS.out.trans hs9); clear hP9 hs9))
      go_ret
      exact ⟨rfl, _, _, by simpa [effs, Eff.act] using HP.out, HS.out⟩
    · skip
      rw [show RId.expand .r_declaration c = some [.opn 5 [.word c, .word ⟨#[64, 110, 97, 109, 101]⟩, .rule .r_params, .rule .r_typed, .word ⟨#[59]⟩, .rule .r_block, .word ⟨#[59]⟩]] by simp only [RId.expand]; rw [if_neg h1]; rw [if_neg h2]]
      have e0 := ne_lit h1
      have e1 := ne_lit h2
      have HO0 := Lib.hid (fun (W : World) (vt1 : Value) (h : PAt W p s es d b wc cl vt1 ve) => open_new h 5 5 [.word c, .word ⟨#[64, 110, 97, 109, 101]⟩, .rule .r_params, .rule .r_typed, .word ⟨#[59]⟩, .rule .r_block, .word ⟨#[59]⟩] 7 [.string c, .int .u8 0, .nilFunc, .string ⟨#[64, 110, 97, 109, 101]⟩, .int .u8 0, .nilFunc, .string ⟨#[]⟩, .int .u8 0, .func (.func 79) #[] #[], .string ⟨#[]⟩, .int .u8 0, .func (.func 80) #[] #[], .string ⟨#[59]⟩, .int .u8 0, .nilFunc, .string ⟨#[]⟩, .int .u8 0, .func (.func 30) #[] #[], .string ⟨#[59]⟩, .int .u8 0, .nilFunc] rfl rfl rfl (by decide) (by (try simp only [List.length_append, List.length_cons, List.length_nil]); omega) (by omega) (by omega))
      clear hs hes hd1 hd2
      go_enter Try.func66, Try.ntmps66
      go_wp2_with (first
        | (go_at_call 28; (with_reducible refine Calls.mono (word_any _ _) ?_); rintro e w9 ⟨rfl, hb⟩; replace HP := Lib.hid (HP.out.below hb); replace HS := Lib.hid (HS.out.trans (PStep.below hb)); clear hb)
        | (go_at_call 29; (with_reducible refine Calls.mono (rule_any _ _) ?_); rintro e w9 ⟨rfl, hb⟩; replace HP := Lib.hid (HP.out.below hb); replace HS := Lib.hid (HS.out.trans (PStep.below hb)); clear hb)
        | (go_at_call 48; (with_reducible refine Calls.mono (HO0.out _ _ HP.out) ?_); rintro e w9 ⟨rfl, vt9, ve9, hP9, hs9⟩; replace HP := Lib.hid hP9; replace HS := Lib.hid (HS.out.trans hs9); clear hP9 hs9))
      go_ret
      exact ⟨rfl, _, _, by simpa [effs, Eff.act] using HP.out, HS.out⟩
set_option maxRecDepth 100000 in
set_option maxHeartbeats 4000000 in
theorem rule_params : RuleAny .r_params := by
  intro c p s es d b wc cl vt ve w HP0 HB0
  have HP := Lib.hid HP0
  have HS := Lib.hid (PStep.refl p vt ve w)
  obtain ⟨hs, hes, hd1, hd2⟩ := HB0
  clear HP0
  show Calls Try.prog 79 _ w (RulePost .r_params c p s es d b wc cl vt ve w)
  unfold RulePost
  by_cases h1 : c = ⟨#[40]⟩
  · subst h1
    rw [show RId.expand .r_params ⟨#[40]⟩ = some [.opn 6 [.word ⟨#[40]⟩, .rule .r_param, .rule .r_moreParams, .word ⟨#[41]⟩]] from rfl]
    have HO0 := Lib.hid (fun (W : World) (vt1 : Value) (h : PAt W p s es d b wc cl vt1 ve) => open_new h 6 6 [.word ⟨#[40]⟩, .rule .r_param, .rule .r_moreParams, .word ⟨#[41]⟩] 4 [.string ⟨#[40]⟩, .int .u8 0, .nilFunc, .string ⟨#[]⟩, .int .u8 0, .func (.func 102) #[] #[], .string ⟨#[]⟩, .int .u8 0, .func (.func 103) #[] #[], .string ⟨#[41]⟩, .int .u8 0, .nilFunc] rfl rfl rfl (by decide) (by (try simp only [List.length_append, List.length_cons, List.length_nil]); omega) (by omega) (by omega))
    clear hs hes hd1 hd2
    go_enter Try.func79, Try.ntmps79
    go_wp2_with (first
      | (go_at_call 28; (with_reducible refine Calls.mono (word_any _ _) ?_); rintro e w9 ⟨rfl, hb⟩; replace HP := Lib.hid (HP.out.below hb); replace HS := Lib.hid (HS.out.trans (PStep.below hb)); clear hb)
      | (go_at_call 29; (with_reducible refine Calls.mono (rule_any _ _) ?_); rintro e w9 ⟨rfl, hb⟩; replace HP := Lib.hid (HP.out.below hb); replace HS := Lib.hid (HS.out.trans (PStep.below hb)); clear hb)
      | (go_at_call 48; (with_reducible refine Calls.mono (HO0.out _ _ HP.out) ?_); rintro e w9 ⟨rfl, vt9, ve9, hP9, hs9⟩; replace HP := Lib.hid hP9; replace HS := Lib.hid (HS.out.trans hs9); clear hP9 hs9))
    go_ret
    exact ⟨rfl, _, _, by simpa [effs, Eff.act] using HP.out, HS.out⟩
  · skip
    rw [show RId.expand .r_params c = some [] by simp only [RId.expand]; rw [if_neg h1]]
    have e0 := ne_lit h1
    clear hs hes hd1 hd2
    go_enter Try.func79, Try.ntmps79
    go_wp2_with (first
      | (go_at_call 28; (with_reducible refine Calls.mono (word_any _ _) ?_); rintro e w9 ⟨rfl, hb⟩; replace HP := Lib.hid (HP.out.below hb); replace HS := Lib.hid (HS.out.trans (PStep.below hb)); clear hb)
      | (go_at_call 29; (with_reducible refine Calls.mono (rule_any _ _) ?_); rintro e w9 ⟨rfl, hb⟩; replace HP := Lib.hid (HP.out.below hb); replace HS := Lib.hid (HS.out.trans (PStep.below hb)); clear hb))
    go_ret
    exact ⟨rfl, _, _, by simpa [effs, Eff.act] using HP.out, HS.out⟩
set_option maxRecDepth 100000 in
set_option maxHeartbeats 4000000 in
theorem rule_moreParams : RuleAny .r_moreParams := by
  intro c p s es d b wc cl vt ve w HP0 HB0
  have HP := Lib.hid HP0
  have HS := Lib.hid (PStep.refl p vt ve w)
  obtain ⟨hs, hes, hd1, hd2⟩ := HB0
  clear HP0
  show Calls Try.prog 103 _ w (RulePost .r_moreParams c p s es d b wc cl vt ve w)
  unfold RulePost
  by_cases h1 : c = ⟨#[59]⟩
  · subst h1
    rw [show RId.expand .r_moreParams ⟨#[59]⟩ = some [.push [.word ⟨#[59]⟩, .rule .r_param, .rule .r_moreParams]] from rfl]
    have HO0 := Lib.hid (fun (W : World) (vt1 : Value) (h : PAt W p s es d b wc cl vt1 ve) => push_new h [.word ⟨#[59]⟩, .rule .r_param, .rule .r_moreParams] 3 [.string ⟨#[59]⟩, .int .u8 0, .nilFunc, .string ⟨#[]⟩, .int .u8 0, .func (.func 102) #[] #[], .string ⟨#[]⟩, .int .u8 0, .func (.func 103) #[] #[]] rfl rfl (by decide) (by (try simp only [List.length_append, List.length_cons, List.length_nil]); omega))
    clear hs hes hd1 hd2
    go_enter Try.func103, Try.ntmps103
    go_wp2_with (first
      | (go_at_call 28; (with_reducible refine Calls.mono (word_any _ _) ?_); rintro e w9 ⟨rfl, hb⟩; replace HP := Lib.hid (HP.out.below hb); replace HS := Lib.hid (HS.out.trans (PStep.below hb)); clear hb)
      | (go_at_call 29; (with_reducible refine Calls.mono (rule_any _ _) ?_); rintro e w9 ⟨rfl, hb⟩; replace HP := Lib.hid (HP.out.below hb); replace HS := Lib.hid (HS.out.trans (PStep.below hb)); clear hb)
      | (go_at_call 27; (with_reducible refine Calls.mono (HO0.out _ _ HP.out) ?_); rintro e w9 ⟨rfl, vt9, hP9, hs9⟩; replace HP := Lib.hid hP9; replace HS := Lib.hid (HS.out.trans hs9); clear hP9 hs9))
    go_ret
    exact ⟨rfl, _, _, by simpa [effs, Eff.act] using HP.out, HS.out⟩
  · skip
    rw [show RId.expand .r_moreParams c = some [] by simp only [RId.expand]; rw [if_neg h1]]
    have e0 := ne_lit h1
    clear hs hes hd1 hd2
    go_enter Try.func103, Try.ntmps103
    go_wp2_with (first
      | (go_at_call 28; (with_reducible refine Calls.mono (word_any _ _) ?_); rintro e w9 ⟨rfl, hb⟩; replace HP := Lib.hid (HP.out.below hb); replace HS := Lib.hid (HS.out.trans (PStep.below hb)); clear hb)
      | (go_at_call 29; (with_reducible refine Calls.mono (rule_any _ _) ?_); rintro e w9 ⟨rfl, hb⟩; replace HP := Lib.hid (HP.out.below hb); replace HS := Lib.hid (HS.out.trans (PStep.below hb)); clear hb))
    go_ret
    exact ⟨rfl, _, _, by simpa [effs, Eff.act] using HP.out, HS.out⟩
set_option maxRecDepth 100000 in
set_option maxHeartbeats 4000000 in
theorem rule_param : RuleAny .r_param := by
  intro c p s es d b wc cl vt ve w HP0 HB0
  have HP := Lib.hid HP0
  have HS := Lib.hid (PStep.refl p vt ve w)
  obtain ⟨hs, hes, hd1, hd2⟩ := HB0
  clear HP0
  show Calls Try.prog 102 _ w (RulePost .r_param c p s es d b wc cl vt ve w)
  unfold RulePost
  rw [show RId.expand .r_param c = some [.opn 7 [.word ⟨#[64, 110, 97, 109, 101]⟩, .rule .r_names, .word ⟨#[58]⟩, .rule .r_kind]] from rfl]
  have HO0 := Lib.hid (fun (W : World) (vt1 : Value) (h : PAt W p s es d b wc cl vt1 ve) => open_new h 7 7 [.word ⟨#[64, 110, 97, 109, 101]⟩, .rule .r_names, .word ⟨#[58]⟩, .rule .r_kind] 4 [.string ⟨#[64, 110, 97, 109, 101]⟩, .int .u8 0, .nilFunc, .string ⟨#[]⟩, .int .u8 0, .func (.func 76) #[] #[], .string ⟨#[58]⟩, .int .u8 0, .nilFunc, .string ⟨#[]⟩, .int .u8 0, .func (.func 77) #[] #[]] rfl rfl rfl (by decide) (by (try simp only [List.length_append, List.length_cons, List.length_nil]); omega) (by omega) (by omega))
  clear hs hes hd1 hd2
  go_enter Try.func102, Try.ntmps102
  go_wp2_with (first
    | (go_at_call 28; (with_reducible refine Calls.mono (word_any _ _) ?_); rintro e w9 ⟨rfl, hb⟩; replace HP := Lib.hid (HP.out.below hb); replace HS := Lib.hid (HS.out.trans (PStep.below hb)); clear hb)
    | (go_at_call 29; (with_reducible refine Calls.mono (rule_any _ _) ?_); rintro e w9 ⟨rfl, hb⟩; replace HP := Lib.hid (HP.out.below hb); replace HS := Lib.hid (HS.out.trans (PStep.below hb)); clear hb)
    | (go_at_call 48; (with_reducible refine Calls.mono (HO0.out _ _ HP.out) ?_); rintro e w9 ⟨rfl, vt9, ve9, hP9, hs9⟩; replace HP := Lib.hid hP9; replace HS := Lib.hid (HS.out.trans hs9); clear hP9 hs9))
  go_ret
  exact ⟨rfl, _, _, by simpa [effs, Eff.act] using HP.out, HS.out⟩
set_option maxRecDepth 100000 in
set_option maxHeartbeats 4000000 in
theorem rule_typed : RuleAny .r_typed := by
  intro c p s es d b wc cl vt ve w HP0 HB0
  have HP := Lib.hid HP0
  have HS := Lib.hid (PStep.refl p vt ve w)
  obtain ⟨hs, hes, hd1, hd2⟩ := HB0
  clear HP0
  show Calls Try.prog 80 _ w (RulePost .r_typed c p s es d b wc cl vt ve w)
  unfold RulePost
  by_cases h1 : c = ⟨#[58]⟩
  · subst h1
    rw [show RId.expand .r_typed ⟨#[58]⟩ = some [.push [.word ⟨#[58]⟩, .rule .r_kind]] from rfl]
    have HO0 := Lib.hid (fun (W : World) (vt1 : Value) (h : PAt W p s es d b wc cl vt1 ve) => push_new h [.word ⟨#[58]⟩, .rule .r_kind] 2 [.string ⟨#[58]⟩, .int .u8 0, .nilFunc, .string ⟨#[]⟩, .int .u8 0, .func (.func 77) #[] #[]] rfl rfl (by decide) (by (try simp only [List.length_append, List.length_cons, List.length_nil]); omega))
    clear hs hes hd1 hd2
    go_enter Try.func80, Try.ntmps80
    go_wp2_with (first
      | (go_at_call 28; (with_reducible refine Calls.mono (word_any _ _) ?_); rintro e w9 ⟨rfl, hb⟩; replace HP := Lib.hid (HP.out.below hb); replace HS := Lib.hid (HS.out.trans (PStep.below hb)); clear hb)
      | (go_at_call 29; (with_reducible refine Calls.mono (rule_any _ _) ?_); rintro e w9 ⟨rfl, hb⟩; replace HP := Lib.hid (HP.out.below hb); replace HS := Lib.hid (HS.out.trans (PStep.below hb)); clear hb)
      | (go_at_call 27; (with_reducible refine Calls.mono (HO0.out _ _ HP.out) ?_); rintro e w9 ⟨rfl, vt9, hP9, hs9⟩; replace HP := Lib.hid hP9; replace HS := Lib.hid (HS.out.trans hs9); clear hP9 hs9))
    go_ret
    exact ⟨rfl, _, _, by simpa [effs, Eff.act] using HP.out, HS.out⟩
  · skip
    rw [show RId.expand .r_typed c = some [] by simp only [RId.expand]; rw [if_neg h1]]
    have e0 := ne_lit h1
    clear hs hes hd1 hd2
    go_enter Try.func80, Try.ntmps80
    go_wp2_with (first
      | (go_at_call 28; (with_reducible refine Calls.mono (word_any _ _) ?_); rintro e w9 ⟨rfl, hb⟩; replace HP := Lib.hid (HP.out.below hb); replace HS := Lib.hid (HS.out.trans (PStep.below hb)); clear hb)
      | (go_at_call 29; (with_reducible refine Calls.mono (rule_any _ _) ?_); rintro e w9 ⟨rfl, hb⟩; replace HP := Lib.hid (HP.out.below hb); replace HS := Lib.hid (HS.out.trans (PStep.below hb)); clear hb))
    go_ret
    exact ⟨rfl, _, _, by simpa [effs, Eff.act] using HP.out, HS.out⟩
end Go.Proofs.Ytmjbpgnjgblnmaa
