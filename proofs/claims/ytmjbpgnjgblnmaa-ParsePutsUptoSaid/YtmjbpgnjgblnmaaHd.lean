/- What the claim stands on: part Hd. -/
import Derived.Test.YtmjbpgnjgblnmaaHc
import Derived.WalkMore
set_option linter.unusedVariables false
set_option linter.unusedSimpArgs false
namespace Go.Proofs.Ytmjbpgnjgblnmaa
open Go.RowKit Go.Proofs.YtmjbpgnjgblnmaaW.PrintWords Go.Proofs.YtmjbpgnjgblnmaaW.PrintLast Go.Proofs.YtmjbpgnjgblnmaaW.PrintMore
set_option maxRecDepth 100000 in
set_option maxHeartbeats 4000000 in
theorem rule_member : RuleAny .r_member := by
 intro c p s es d b wc cl vt ve w HP0 HB0
 have HP := Lib.hid HP0
 have HS := Lib.hid (PStep.refl p vt ve w)
 obtain ⟨hs, hes, hd1, hd2⟩ := HB0
 clear HP0
 show Calls Try.prog 98 _ w (RulePost .r_member c p s es d b wc cl vt ve w)
 unfold RulePost
 rw [show RId.expand .r_member c = some [.opn 11 [.word ⟨#[64, 110, 97, 109, 101]⟩, .rule .r_names, .word ⟨#[58]⟩, .rule .r_kind]] from rfl]
 have HO0 := Lib.hid (fun (W : World) (vt1 : Value) (h : PAt W p s es d b wc cl vt1 ve) => open_new h 11 11 [.word ⟨#[64, 110, 97, 109, 101]⟩, .rule .r_names, .word ⟨#[58]⟩, .rule .r_kind] 4 [.string ⟨#[64, 110, 97, 109, 101]⟩, .int .u8 0, .nilFunc, .string ⟨#[]⟩, .int .u8 0, .func (.func 76) #[] #[], .string ⟨#[58]⟩, .int .u8 0, .nilFunc, .string ⟨#[]⟩, .int .u8 0, .func (.func 77) #[] #[]] rfl rfl rfl (by decide) (by (try simp only [List.length_append, List.length_cons, List.length_nil]); omega) (by omega) (by omega))
 clear hs hes hd1 hd2
 go_enter Try.func98, Try.ntmps98
 go_wp2_with (first
  | (go_at_call 28; (with_reducible refine Calls.mono (word_any _ _) ?_); rintro e w9 ⟨rfl, hb⟩; replace HP := Lib.hid (HP.out.below hb); replace HS := Lib.hid (HS.out.trans (PStep.below hb)); clear hb)
  | (go_at_call 29; (with_reducible refine Calls.mono (rule_any _ _) ?_); rintro e w9 ⟨rfl, hb⟩; replace HP := Lib.hid (HP.out.below hb); replace HS := Lib.hid (HS.out.trans (PStep.below hb)); clear hb)
  | (go_at_call 48; (with_reducible refine Calls.mono (HO0.out _ _ HP.out) ?_); rintro e w9 ⟨rfl, vt9, ve9, hP9, hs9⟩; replace HP := Lib.hid hP9; replace HS := Lib.hid (HS.out.trans hs9); clear hP9 hs9))
 go_ret
 exact ⟨rfl, _, _, by simpa [effs, Eff.act] using HP.out, HS.out⟩
set_option maxRecDepth 100000 in
set_option maxHeartbeats 4000000 in
theorem rule_members : RuleAny .r_members := by
 intro c p s es d b wc cl vt ve w HP0 HB0
 have HP := Lib.hid HP0
 have HS := Lib.hid (PStep.refl p vt ve w)
 obtain ⟨hs, hes, hd1, hd2⟩ := HB0
 clear HP0
 show Calls Try.prog 99 _ w (RulePost .r_members c p s es d b wc cl vt ve w)
 unfold RulePost
 by_cases h1 : c = ⟨#[59]⟩
 ·subst h1
  rw [show RId.expand .r_members ⟨#[59]⟩ = some [.push [.word ⟨#[59]⟩, .rule .r_member, .rule .r_members]] from rfl]
  have HO0 := Lib.hid (fun (W : World) (vt1 : Value) (h : PAt W p s es d b wc cl vt1 ve) => push_new h [.word ⟨#[59]⟩, .rule .r_member, .rule .r_members] 3 [.string ⟨#[59]⟩, .int .u8 0, .nilFunc, .string ⟨#[]⟩, .int .u8 0, .func (.func 98) #[] #[], .string ⟨#[]⟩, .int .u8 0, .func (.func 99) #[] #[]] rfl rfl (by decide) (by (try simp only [List.length_append, List.length_cons, List.length_nil]); omega))
  clear hs hes hd1 hd2
  go_enter Try.func99, Try.ntmps99
  go_wp2_with (first
   | (go_at_call 28; (with_reducible refine Calls.mono (word_any _ _) ?_); rintro e w9 ⟨rfl, hb⟩; replace HP := Lib.hid (HP.out.below hb); replace HS := Lib.hid (HS.out.trans (PStep.below hb)); clear hb)
   | (go_at_call 29; (with_reducible refine Calls.mono (rule_any _ _) ?_); rintro e w9 ⟨rfl, hb⟩; replace HP := Lib.hid (HP.out.below hb); replace HS := Lib.hid (HS.out.trans (PStep.below hb)); clear hb)
   | (go_at_call 27; (with_reducible refine Calls.mono (HO0.out _ _ HP.out) ?_); rintro e w9 ⟨rfl, vt9, hP9, hs9⟩; replace HP := Lib.hid hP9; replace HS := Lib.hid (HS.out.trans hs9); clear hP9 hs9))
  go_ret
  exact ⟨rfl, _, _, by simpa [effs, Eff.act] using HP.out, HS.out⟩
 ·skip
  rw [show RId.expand .r_members c = some [] by simp only [RId.expand]; rw [if_neg h1]]
  have e0 := ne_lit h1
  clear hs hes hd1 hd2
  go_enter Try.func99, Try.ntmps99
  go_wp2_with (first
   | (go_at_call 28; (with_reducible refine Calls.mono (word_any _ _) ?_); rintro e w9 ⟨rfl, hb⟩; replace HP := Lib.hid (HP.out.below hb); replace HS := Lib.hid (HS.out.trans (PStep.below hb)); clear hb)
   | (go_at_call 29; (with_reducible refine Calls.mono (rule_any _ _) ?_); rintro e w9 ⟨rfl, hb⟩; replace HP := Lib.hid (HP.out.below hb); replace HS := Lib.hid (HS.out.trans (PStep.below hb)); clear hb))
  go_ret
  exact ⟨rfl, _, _, by simpa [effs, Eff.act] using HP.out, HS.out⟩
set_option maxRecDepth 100000 in
set_option maxHeartbeats 4000000 in
theorem rule_body : RuleAny .r_body := by
 intro c p s es d b wc cl vt ve w HP0 HB0
 have HP := Lib.hid HP0
 have HS := Lib.hid (PStep.refl p vt ve w)
 obtain ⟨hs, hes, hd1, hd2⟩ := HB0
 clear HP0
 show Calls Try.prog 50 _ w (RulePost .r_body c p s es d b wc cl vt ve w)
 unfold RulePost
 rw [show RId.expand .r_body c = some [.opn 12 [.rule .r_statement, .rule .r_statements]] from rfl]
 have HO0 := Lib.hid (fun (W : World) (vt1 : Value) (h : PAt W p s es d b wc cl vt1 ve) => open_new h 12 12 [.rule .r_statement, .rule .r_statements] 2 [.string ⟨#[]⟩, .int .u8 0, .func (.func 67) #[] #[], .string ⟨#[]⟩, .int .u8 0, .func (.func 68) #[] #[]] rfl rfl rfl (by decide) (by (try simp only [List.length_append, List.length_cons, List.length_nil]); omega) (by omega) (by omega))
 clear hs hes hd1 hd2
 go_enter Try.func50, Try.ntmps50
 go_wp2_with (first
  | (go_at_call 28; (with_reducible refine Calls.mono (word_any _ _) ?_); rintro e w9 ⟨rfl, hb⟩; replace HP := Lib.hid (HP.out.below hb); replace HS := Lib.hid (HS.out.trans (PStep.below hb)); clear hb)
  | (go_at_call 29; (with_reducible refine Calls.mono (rule_any _ _) ?_); rintro e w9 ⟨rfl, hb⟩; replace HP := Lib.hid (HP.out.below hb); replace HS := Lib.hid (HS.out.trans (PStep.below hb)); clear hb)
  | (go_at_call 48; (with_reducible refine Calls.mono (HO0.out _ _ HP.out) ?_); rintro e w9 ⟨rfl, vt9, ve9, hP9, hs9⟩; replace HP := Lib.hid hP9; replace HS := Lib.hid (HS.out.trans hs9); clear hP9 hs9))
 go_ret
 exact ⟨rfl, _, _, by simpa [effs, Eff.act] using HP.out, HS.out⟩
set_option maxRecDepth 100000 in
set_option maxHeartbeats 4000000 in
theorem rule_statements : RuleAny .r_statements := by
 intro c p s es d b wc cl vt ve w HP0 HB0
 have HP := Lib.hid HP0
 have HS := Lib.hid (PStep.refl p vt ve w)
 obtain ⟨hs, hes, hd1, hd2⟩ := HB0
 clear HP0
 show Calls Try.prog 68 _ w (RulePost .r_statements c p s es d b wc cl vt ve w)
 unfold RulePost
 by_cases h1 : c = ⟨#[59]⟩
 ·subst h1
  rw [show RId.expand .r_statements ⟨#[59]⟩ = some [.push [.word ⟨#[59]⟩, .rule .r_statement, .rule .r_statements]] from rfl]
  have HO0 := Lib.hid (fun (W : World) (vt1 : Value) (h : PAt W p s es d b wc cl vt1 ve) => push_new h [.word ⟨#[59]⟩, .rule .r_statement, .rule .r_statements] 3 [.string ⟨#[59]⟩, .int .u8 0, .nilFunc, .string ⟨#[]⟩, .int .u8 0, .func (.func 67) #[] #[], .string ⟨#[]⟩, .int .u8 0, .func (.func 68) #[] #[]] rfl rfl (by decide) (by (try simp only [List.length_append, List.length_cons, List.length_nil]); omega))
  clear hs hes hd1 hd2
  go_enter Try.func68, Try.ntmps68
  go_wp2_with (first
   | (go_at_call 28; (with_reducible refine Calls.mono (word_any _ _) ?_); rintro e w9 ⟨rfl, hb⟩; replace HP := Lib.hid (HP.out.below hb); replace HS := Lib.hid (HS.out.trans (PStep.below hb)); clear hb)
   | (go_at_call 29; (with_reducible refine Calls.mono (rule_any _ _) ?_); rintro e w9 ⟨rfl, hb⟩; replace HP := Lib.hid (HP.out.below hb); replace HS := Lib.hid (HS.out.trans (PStep.below hb)); clear hb)
   | (go_at_call 27; (with_reducible refine Calls.mono (HO0.out _ _ HP.out) ?_); rintro e w9 ⟨rfl, vt9, hP9, hs9⟩; replace HP := Lib.hid hP9; replace HS := Lib.hid (HS.out.trans hs9); clear hP9 hs9))
  go_ret
  exact ⟨rfl, _, _, by simpa [effs, Eff.act] using HP.out, HS.out⟩
 ·skip
  rw [show RId.expand .r_statements c = some [] by simp only [RId.expand]; rw [if_neg h1]]
  have e0 := ne_lit h1
  clear hs hes hd1 hd2
  go_enter Try.func68, Try.ntmps68
  go_wp2_with (first
   | (go_at_call 28; (with_reducible refine Calls.mono (word_any _ _) ?_); rintro e w9 ⟨rfl, hb⟩; replace HP := Lib.hid (HP.out.below hb); replace HS := Lib.hid (HS.out.trans (PStep.below hb)); clear hb)
   | (go_at_call 29; (with_reducible refine Calls.mono (rule_any _ _) ?_); rintro e w9 ⟨rfl, hb⟩; replace HP := Lib.hid (HP.out.below hb); replace HS := Lib.hid (HS.out.trans (PStep.below hb)); clear hb))
  go_ret
  exact ⟨rfl, _, _, by simpa [effs, Eff.act] using HP.out, HS.out⟩
set_option maxRecDepth 100000 in
set_option maxHeartbeats 4000000 in
theorem rule_assigned : RuleAny .r_assigned := by
 intro c p s es d b wc cl vt ve w HP0 HB0
 have HP := Lib.hid HP0
 have HS := Lib.hid (PStep.refl p vt ve w)
 obtain ⟨hs, hes, hd1, hd2⟩ := HB0
 clear HP0
 show Calls Try.prog 82 _ w (RulePost .r_assigned c p s es d b wc cl vt ve w)
 unfold RulePost
 by_cases h1 : c = ⟨#[58, 61]⟩
 ·subst h1
  rw [show RId.expand .r_assigned ⟨#[58, 61]⟩ = some [.push [.word ⟨#[58, 61]⟩, .rule .r_expr]] from rfl]
  have HO0 := Lib.hid (fun (W : World) (vt1 : Value) (h : PAt W p s es d b wc cl vt1 ve) => push_new h [.word ⟨#[58, 61]⟩, .rule .r_expr] 2 [.string ⟨#[58, 61]⟩, .int .u8 0, .nilFunc, .string ⟨#[]⟩, .int .u8 0, .func (.func 78) #[] #[]] rfl rfl (by decide) (by (try simp only [List.length_append, List.length_cons, List.length_nil]); omega))
  clear hs hes hd1 hd2
  go_enter Try.func82, Try.ntmps82
  go_wp2_with (first
   | (go_at_call 28; (with_reducible refine Calls.mono (word_any _ _) ?_); rintro e w9 ⟨rfl, hb⟩; replace HP := Lib.hid (HP.out.below hb); replace HS := Lib.hid (HS.out.trans (PStep.below hb)); clear hb)
   | (go_at_call 29; (with_reducible refine Calls.mono (rule_any _ _) ?_); rintro e w9 ⟨rfl, hb⟩; replace HP := Lib.hid (HP.out.below hb); replace HS := Lib.hid (HS.out.trans (PStep.below hb)); clear hb)
   | (go_at_call 27; (with_reducible refine Calls.mono (HO0.out _ _ HP.out) ?_); rintro e w9 ⟨rfl, vt9, hP9, hs9⟩; replace HP := Lib.hid hP9; replace HS := Lib.hid (HS.out.trans hs9); clear hP9 hs9))
  go_ret
  exact ⟨rfl, _, _, by simpa [effs, Eff.act] using HP.out, HS.out⟩
 ·skip
  rw [show RId.expand .r_assigned c = some [] by simp only [RId.expand]; rw [if_neg h1]]
  have e0 := ne_lit h1
  clear hs hes hd1 hd2
  go_enter Try.func82, Try.ntmps82
  go_wp2_with (first
   | (go_at_call 28; (with_reducible refine Calls.mono (word_any _ _) ?_); rintro e w9 ⟨rfl, hb⟩; replace HP := Lib.hid (HP.out.below hb); replace HS := Lib.hid (HS.out.trans (PStep.below hb)); clear hb)
   | (go_at_call 29; (with_reducible refine Calls.mono (rule_any _ _) ?_); rintro e w9 ⟨rfl, hb⟩; replace HP := Lib.hid (HP.out.below hb); replace HS := Lib.hid (HS.out.trans (PStep.below hb)); clear hb))
  go_ret
  exact ⟨rfl, _, _, by simpa [effs, Eff.act] using HP.out, HS.out⟩
set_option maxRecDepth 100000 in
set_option maxHeartbeats 4000000 in
theorem rule_elses : RuleAny .r_elses := by
 intro c p s es d b wc cl vt ve w HP0 HB0
 have HP := Lib.hid HP0
 have HS := Lib.hid (PStep.refl p vt ve w)
 obtain ⟨hs, hes, hd1, hd2⟩ := HB0
 clear HP0
 show Calls Try.prog 83 _ w (RulePost .r_elses c p s es d b wc cl vt ve w)
 unfold RulePost
 by_cases h1 : c = ⟨#[101, 108, 105, 102]⟩
 ·subst h1
  rw [show RId.expand .r_elses ⟨#[101, 108, 105, 102]⟩ = some [.push [.word ⟨#[101, 108, 105, 102]⟩, .rule .r_expr, .word ⟨#[116, 104, 101, 110]⟩, .rule .r_body, .rule .r_elses]] from rfl]
  have HO0 := Lib.hid (fun (W : World) (vt1 : Value) (h : PAt W p s es d b wc cl vt1 ve) => push_new h [.word ⟨#[101, 108, 105, 102]⟩, .rule .r_expr, .word ⟨#[116, 104, 101, 110]⟩, .rule .r_body, .rule .r_elses] 5 [.string ⟨#[101, 108, 105, 102]⟩, .int .u8 0, .nilFunc, .string ⟨#[]⟩, .int .u8 0, .func (.func 78) #[] #[], .string ⟨#[116, 104, 101, 110]⟩, .int .u8 0, .nilFunc, .string ⟨#[]⟩, .int .u8 0, .func (.func 50) #[] #[], .string ⟨#[]⟩, .int .u8 0, .func (.func 83) #[] #[]] rfl rfl (by decide) (by (try simp only [List.length_append, List.length_cons, List.length_nil]); omega))
  clear hs hes hd1 hd2
  go_enter Try.func83, Try.ntmps83
  go_wp2_with (first
   | (go_at_call 28; (with_reducible refine Calls.mono (word_any _ _) ?_); rintro e w9 ⟨rfl, hb⟩; replace HP := Lib.hid (HP.out.below hb); replace HS := Lib.hid (HS.out.trans (PStep.below hb)); clear hb)
   | (go_at_call 29; (with_reducible refine Calls.mono (rule_any _ _) ?_); rintro e w9 ⟨rfl, hb⟩; replace HP := Lib.hid (HP.out.below hb); replace HS := Lib.hid (HS.out.trans (PStep.below hb)); clear hb)
   | (go_at_call 27; (with_reducible refine Calls.mono (HO0.out _ _ HP.out) ?_); rintro e w9 ⟨rfl, vt9, hP9, hs9⟩; replace HP := Lib.hid hP9; replace HS := Lib.hid (HS.out.trans hs9); clear hP9 hs9))
  go_ret
  exact ⟨rfl, _, _, by simpa [effs, Eff.act] using HP.out, HS.out⟩
 ·skip
  by_cases h2 : c = ⟨#[101, 108, 115, 101]⟩
  ·subst h2
   rw [show RId.expand .r_elses ⟨#[101, 108, 115, 101]⟩ = some [.push [.word ⟨#[101, 108, 115, 101]⟩, .rule .r_body]] from rfl]
   have HO0 := Lib.hid (fun (W : World) (vt1 : Value) (h : PAt W p s es d b wc cl vt1 ve) => push_new h [.word ⟨#[101, 108, 115, 101]⟩, .rule .r_body] 2 [.string ⟨#[101, 108, 115, 101]⟩, .int .u8 0, .nilFunc, .string ⟨#[]⟩, .int .u8 0, .func (.func 50) #[] #[]] rfl rfl (by decide) (by (try simp only [List.length_append, List.length_cons, List.length_nil]); omega))
   clear hs hes hd1 hd2
   go_enter Try.func83, Try.ntmps83
   go_wp2_with (first
    | (go_at_call 28; (with_reducible refine Calls.mono (word_any _ _) ?_); rintro e w9 ⟨rfl, hb⟩; replace HP := Lib.hid (HP.out.below hb); replace HS := Lib.hid (HS.out.trans (PStep.below hb)); clear hb)
    | (go_at_call 29; (with_reducible refine Calls.mono (rule_any _ _) ?_); rintro e w9 ⟨rfl, hb⟩; replace HP := Lib.hid (HP.out.below hb); replace HS := Lib.hid (HS.out.trans (PStep.below hb)); clear hb)
    | (go_at_call 27; (with_reducible refine Calls.mono (HO0.out _ _ HP.out) ?_); rintro e w9 ⟨rfl, vt9, hP9, hs9⟩; replace HP := Lib.hid hP9; replace HS := Lib.hid (HS.out.trans hs9); clear hP9 hs9))
   go_ret
   exact ⟨rfl, _, _, by simpa [effs, Eff.act] using HP.out, HS.out⟩
  ·skip
   rw [show RId.expand .r_elses c = some [] by simp only [RId.expand]; rw [if_neg h1]; rw [if_neg h2]]
   have e0 := ne_lit h1
   have e1 := ne_lit h2
   clear hs hes hd1 hd2
   go_enter Try.func83, Try.ntmps83
   go_wp2_with (first
    | (go_at_call 28; (with_reducible refine Calls.mono (word_any _ _) ?_); rintro e w9 ⟨rfl, hb⟩; replace HP := Lib.hid (HP.out.below hb); replace HS := Lib.hid (HS.out.trans (PStep.below hb)); clear hb)
    | (go_at_call 29; (with_reducible refine Calls.mono (rule_any _ _) ?_); rintro e w9 ⟨rfl, hb⟩; replace HP := Lib.hid (HP.out.below hb); replace HS := Lib.hid (HS.out.trans (PStep.below hb)); clear hb))
   go_ret
   exact ⟨rfl, _, _, by simpa [effs, Eff.act] using HP.out, HS.out⟩
set_option maxRecDepth 100000 in
set_option maxHeartbeats 4000000 in
theorem rule_maybe : RuleAny .r_maybe := by
 intro c p s es d b wc cl vt ve w HP0 HB0
 have HP := Lib.hid HP0
 have HS := Lib.hid (PStep.refl p vt ve w)
 obtain ⟨hs, hes, hd1, hd2⟩ := HB0
 clear HP0
 show Calls Try.prog 84 _ w (RulePost .r_maybe c p s es d b wc cl vt ve w)
 unfold RulePost
 by_cases h1 : c = ⟨#[64, 110, 117, 109, 98, 101, 114]⟩ ∨ c = ⟨#[64, 116, 101, 120, 116]⟩ ∨ c = ⟨#[64, 99, 104, 97, 114]⟩ ∨ c = ⟨#[64, 110, 97, 109, 101]⟩ ∨ c = ⟨#[45]⟩ ∨ c = ⟨#[110, 111, 116]⟩ ∨ c = ⟨#[40]⟩
 ·rw [show RId.expand .r_maybe c = some [.push [.rule .r_expr]] by simp only [RId.expand]; rw [if_pos h1]]
  have hin : inL c [⟨#[64, 110, 117, 109, 98, 101, 114]⟩, ⟨#[64, 116, 101, 120, 116]⟩, ⟨#[64, 99, 104, 97, 114]⟩, ⟨#[64, 110, 97, 109, 101]⟩, ⟨#[45]⟩, ⟨#[110, 111, 116]⟩, ⟨#[40]⟩] = true := (inL_iff _ _).2 (by simpa using h1)
  have HAM := Lib.hid (fun (W : World) => begins_any W c)
  rw [hin] at HAM
  clear hin
  have HO0 := Lib.hid (fun (W : World) (vt1 : Value) (h : PAt W p s es d b wc cl vt1 ve) => push_new h [.rule .r_expr] 1 [.string ⟨#[]⟩, .int .u8 0, .func (.func 78) #[] #[]] rfl rfl (by decide) (by (try simp only [List.length_append, List.length_cons, List.length_nil]); omega))
  clear hs hes hd1 hd2
  go_enter Try.func84, Try.ntmps84
  go_wp2_with (first
   | (go_at_call 105; (with_reducible refine Calls.mono (HAM.out _) ?_); rintro e w9 ⟨rfl, hb⟩; replace HP := Lib.hid (HP.out.below hb); replace HS := Lib.hid (HS.out.trans (PStep.below hb)); clear hb)
   | (go_at_call 28; (with_reducible refine Calls.mono (word_any _ _) ?_); rintro e w9 ⟨rfl, hb⟩; replace HP := Lib.hid (HP.out.below hb); replace HS := Lib.hid (HS.out.trans (PStep.below hb)); clear hb)
   | (go_at_call 29; (with_reducible refine Calls.mono (rule_any _ _) ?_); rintro e w9 ⟨rfl, hb⟩; replace HP := Lib.hid (HP.out.below hb); replace HS := Lib.hid (HS.out.trans (PStep.below hb)); clear hb)
   | (go_at_call 27; (with_reducible refine Calls.mono (HO0.out _ _ HP.out) ?_); rintro e w9 ⟨rfl, vt9, hP9, hs9⟩; replace HP := Lib.hid hP9; replace HS := Lib.hid (HS.out.trans hs9); clear hP9 hs9))
  go_ret
  exact ⟨rfl, _, _, by simpa [effs, Eff.act] using HP.out, HS.out⟩
 ·skip
  rw [show RId.expand .r_maybe c = some [] by simp only [RId.expand]; rw [if_neg h1]]
  have hin : inL c [⟨#[64, 110, 117, 109, 98, 101, 114]⟩, ⟨#[64, 116, 101, 120, 116]⟩, ⟨#[64, 99, 104, 97, 114]⟩, ⟨#[64, 110, 97, 109, 101]⟩, ⟨#[45]⟩, ⟨#[110, 111, 116]⟩, ⟨#[40]⟩] = false := inL_no (fun h => h1 (by simpa using h))
  have HAM := Lib.hid (fun (W : World) => begins_any W c)
  rw [hin] at HAM
  clear hin
  clear hs hes hd1 hd2
  go_enter Try.func84, Try.ntmps84
  go_wp2_with (first
   | (go_at_call 105; (with_reducible refine Calls.mono (HAM.out _) ?_); rintro e w9 ⟨rfl, hb⟩; replace HP := Lib.hid (HP.out.below hb); replace HS := Lib.hid (HS.out.trans (PStep.below hb)); clear hb)
   | (go_at_call 28; (with_reducible refine Calls.mono (word_any _ _) ?_); rintro e w9 ⟨rfl, hb⟩; replace HP := Lib.hid (HP.out.below hb); replace HS := Lib.hid (HS.out.trans (PStep.below hb)); clear hb)
   | (go_at_call 29; (with_reducible refine Calls.mono (rule_any _ _) ?_); rintro e w9 ⟨rfl, hb⟩; replace HP := Lib.hid (HP.out.below hb); replace HS := Lib.hid (HS.out.trans (PStep.below hb)); clear hb))
  go_ret
  exact ⟨rfl, _, _, by simpa [effs, Eff.act] using HP.out, HS.out⟩
end Go.Proofs.Ytmjbpgnjgblnmaa
namespace Go.Proofs.Ytmjbpgnjgblnmaa
open Go.RowKit Go.Proofs.YtmjbpgnjgblnmaaW.PrintWords Go.Proofs.YtmjbpgnjgblnmaaW.PrintLast Go.Proofs.YtmjbpgnjgblnmaaW.PrintMore
set_option maxRecDepth 100000 in
set_option maxHeartbeats 4000000 in
theorem rule_statement : RuleAny .r_statement := by
 intro c p s es d b wc cl vt ve w HP0 HB0
 have HP := Lib.hid HP0
 have HS := Lib.hid (PStep.refl p vt ve w)
 obtain ⟨hs, hes, hd1, hd2⟩ := HB0
 clear HP0
 show Calls Try.prog 67 _ w (RulePost .r_statement c p s es d b wc cl vt ve w)
 unfold RulePost
 by_cases h1 : c = ⟨#[115, 107, 105, 112]⟩
 ·subst h1
  rw [show RId.expand .r_statement ⟨#[115, 107, 105, 112]⟩ = some [.opn 13 [.word ⟨#[115, 107, 105, 112]⟩]] from rfl]
  have HO0 := Lib.hid (fun (W : World) (vt1 : Value) (h : PAt W p s es d b wc cl vt1 ve) => open_new h 13 13 [.word ⟨#[115, 107, 105, 112]⟩] 1 [.string ⟨#[115, 107, 105, 112]⟩, .int .u8 0, .nilFunc] rfl rfl rfl (by decide) (by (try simp only [List.length_append, List.length_cons, List.length_nil]); omega) (by omega) (by omega))
  clear hs hes hd1 hd2
  go_enter Try.func67, Try.ntmps67
  go_wp2_with (first
   | (go_at_call 28; (with_reducible refine Calls.mono (word_any _ _) ?_); rintro e w9 ⟨rfl, hb⟩; replace HP := Lib.hid (HP.out.below hb); replace HS := Lib.hid (HS.out.trans (PStep.below hb)); clear hb)
   | (go_at_call 29; (with_reducible refine Calls.mono (rule_any _ _) ?_); rintro e w9 ⟨rfl, hb⟩; replace HP := Lib.hid (HP.out.below hb); replace HS := Lib.hid (HS.out.trans (PStep.below hb)); clear hb)
   | (go_at_call 48; (with_reducible refine Calls.mono (HO0.out _ _ HP.out) ?_); rintro e w9 ⟨rfl, vt9, ve9, hP9, hs9⟩; replace HP := Lib.hid hP9; replace HS := Lib.hid (HS.out.trans hs9); clear hP9 hs9))
  go_ret
  exact ⟨rfl, _, _, by simpa [effs, Eff.act] using HP.out, HS.out⟩
 ·skip
  by_cases h2 : c = ⟨#[64, 110, 97, 109, 101]⟩
  ·subst h2
   rw [show RId.expand .r_statement ⟨#[64, 110, 97, 109, 101]⟩ = some [.opn 14 [.rule .r_object, .rule .r_assigned]] from rfl]
   have HO0 := Lib.hid (fun (W : World) (vt1 : Value) (h : PAt W p s es d b wc cl vt1 ve) => open_new h 14 14 [.rule .r_object, .rule .r_assigned] 2 [.string ⟨#[]⟩, .int .u8 0, .func (.func 81) #[] #[], .string ⟨#[]⟩, .int .u8 0, .func (.func 82) #[] #[]] rfl rfl rfl (by decide) (by (try simp only [List.length_append, List.length_cons, List.length_nil]); omega) (by omega) (by omega))
   clear hs hes hd1 hd2
   go_enter Try.func67, Try.ntmps67
   go_wp2_with (first
    | (go_at_call 28; (with_reducible refine Calls.mono (word_any _ _) ?_); rintro e w9 ⟨rfl, hb⟩; replace HP := Lib.hid (HP.out.below hb); replace HS := Lib.hid (HS.out.trans (PStep.below hb)); clear hb)
    | (go_at_call 29; (with_reducible refine Calls.mono (rule_any _ _) ?_); rintro e w9 ⟨rfl, hb⟩; replace HP := Lib.hid (HP.out.below hb); replace HS := Lib.hid (HS.out.trans (PStep.below hb)); clear hb)
    | (go_at_call 48; (with_reducible refine Calls.mono (HO0.out _ _ HP.out) ?_); rintro e w9 ⟨rfl, vt9, ve9, hP9, hs9⟩; replace HP := Lib.hid hP9; replace HS := Lib.hid (HS.out.trans hs9); clear hP9 hs9))
   go_ret
   exact ⟨rfl, _, _, by simpa [effs, Eff.act] using HP.out, HS.out⟩
  ·skip
   by_cases h3 : c = ⟨#[105, 102]⟩
   ·subst h3
    rw [show RId.expand .r_statement ⟨#[105, 102]⟩ = some [.opn 15 [.word ⟨#[105, 102]⟩, .rule .r_expr, .word ⟨#[116, 104, 101, 110]⟩, .rule .r_body, .rule .r_elses, .word ⟨#[101, 110, 100]⟩]] from rfl]
    have HO0 := Lib.hid (fun (W : World) (vt1 : Value) (h : PAt W p s es d b wc cl vt1 ve) => open_new h 15 15 [.word ⟨#[105, 102]⟩, .rule .r_expr, .word ⟨#[116, 104, 101, 110]⟩, .rule .r_body, .rule .r_elses, .word ⟨#[101, 110, 100]⟩] 6 [.string ⟨#[105, 102]⟩, .int .u8 0, .nilFunc, .string ⟨#[]⟩, .int .u8 0, .func (.func 78) #[] #[], .string ⟨#[116, 104, 101, 110]⟩, .int .u8 0, .nilFunc, .string ⟨#[]⟩, .int .u8 0, .func (.func 50) #[] #[], .string ⟨#[]⟩, .int .u8 0, .func (.func 83) #[] #[], .string ⟨#[101, 110, 100]⟩, .int .u8 0, .nilFunc] rfl rfl rfl (by decide) (by (try simp only [List.length_append, List.length_cons, List.length_nil]); omega) (by omega) (by omega))
    clear hs hes hd1 hd2
    go_enter Try.func67, Try.ntmps67
    go_wp2_with (first
     | (go_at_call 28; (with_reducible refine Calls.mono (word_any _ _) ?_); rintro e w9 ⟨rfl, hb⟩; replace HP := Lib.hid (HP.out.below hb); replace HS := Lib.hid (HS.out.trans (PStep.below hb)); clear hb)
     | (go_at_call 29; (with_reducible refine Calls.mono (rule_any _ _) ?_); rintro e w9 ⟨rfl, hb⟩; replace HP := Lib.hid (HP.out.below hb); replace HS := Lib.hid (HS.out.trans (PStep.below hb)); clear hb)
     | (go_at_call 48; (with_reducible refine Calls.mono (HO0.out _ _ HP.out) ?_); rintro e w9 ⟨rfl, vt9, ve9, hP9, hs9⟩; replace HP := Lib.hid hP9; replace HS := Lib.hid (HS.out.trans hs9); clear hP9 hs9))
    go_ret
    exact ⟨rfl, _, _, by simpa [effs, Eff.act] using HP.out, HS.out⟩
   ·skip
    by_cases h4 : c = ⟨#[119, 104, 105, 108, 101]⟩
    ·subst h4
     rw [show RId.expand .r_statement ⟨#[119, 104, 105, 108, 101]⟩ = some [.opn 16 [.word ⟨#[119, 104, 105, 108, 101]⟩, .rule .r_expr, .word ⟨#[100, 111]⟩, .rule .r_body, .word ⟨#[101, 110, 100]⟩]] from rfl]
     have HO0 := Lib.hid (fun (W : World) (vt1 : Value) (h : PAt W p s es d b wc cl vt1 ve) => open_new h 16 16 [.word ⟨#[119, 104, 105, 108, 101]⟩, .rule .r_expr, .word ⟨#[100, 111]⟩, .rule .r_body, .word ⟨#[101, 110, 100]⟩] 5 [.string ⟨#[119, 104, 105, 108, 101]⟩, .int .u8 0, .nilFunc, .string ⟨#[]⟩, .int .u8 0, .func (.func 78) #[] #[], .string ⟨#[100, 111]⟩, .int .u8 0, .nilFunc, .string ⟨#[]⟩, .int .u8 0, .func (.func 50) #[] #[], .string ⟨#[101, 110, 100]⟩, .int .u8 0, .nilFunc] rfl rfl rfl (by decide) (by (try simp only [List.length_append, List.length_cons, List.length_nil]); omega) (by omega) (by omega))
     clear hs hes hd1 hd2
     go_enter Try.func67, Try.ntmps67
     go_wp2_with (first
      | (go_at_call 28; (with_reducible refine Calls.mono (word_any _ _) ?_); rintro e w9 ⟨rfl, hb⟩; replace HP := Lib.hid (HP.out.below hb); replace HS := Lib.hid (HS.out.trans (PStep.below hb)); clear hb)
      | (go_at_call 29; (with_reducible refine Calls.mono (rule_any _ _) ?_); rintro e w9 ⟨rfl, hb⟩; replace HP := Lib.hid (HP.out.below hb); replace HS := Lib.hid (HS.out.trans (PStep.below hb)); clear hb)
      | (go_at_call 48; (with_reducible refine Calls.mono (HO0.out _ _ HP.out) ?_); rintro e w9 ⟨rfl, vt9, ve9, hP9, hs9⟩; replace HP := Lib.hid hP9; replace HS := Lib.hid (HS.out.trans hs9); clear hP9 hs9))
     go_ret
     exact ⟨rfl, _, _, by simpa [effs, Eff.act] using HP.out, HS.out⟩
    ·skip
     by_cases h5 : c = ⟨#[102, 111, 114]⟩
     ·subst h5
      rw [show RId.expand .r_statement ⟨#[102, 111, 114]⟩ = some [.opn 17 [.word ⟨#[102, 111, 114]⟩, .word ⟨#[64, 110, 97, 109, 101]⟩, .word ⟨#[58, 61]⟩, .rule .r_expr, .word ⟨#[116, 111]⟩, .rule .r_expr, .word ⟨#[100, 111]⟩, .rule .r_body, .word ⟨#[101, 110, 100]⟩]] from rfl]
      have HO0 := Lib.hid (fun (W : World) (vt1 : Value) (h : PAt W p s es d b wc cl vt1 ve) => open_new h 17 17 [.word ⟨#[102, 111, 114]⟩, .word ⟨#[64, 110, 97, 109, 101]⟩, .word ⟨#[58, 61]⟩, .rule .r_expr, .word ⟨#[116, 111]⟩, .rule .r_expr, .word ⟨#[100, 111]⟩, .rule .r_body, .word ⟨#[101, 110, 100]⟩] 9 [.string ⟨#[102, 111, 114]⟩, .int .u8 0, .nilFunc, .string ⟨#[64, 110, 97, 109, 101]⟩, .int .u8 0, .nilFunc, .string ⟨#[58, 61]⟩, .int .u8 0, .nilFunc, .string ⟨#[]⟩, .int .u8 0, .func (.func 78) #[] #[], .string ⟨#[116, 111]⟩, .int .u8 0, .nilFunc, .string ⟨#[]⟩, .int .u8 0, .func (.func 78) #[] #[], .string ⟨#[100, 111]⟩, .int .u8 0, .nilFunc, .string ⟨#[]⟩, .int .u8 0, .func (.func 50) #[] #[], .string ⟨#[101, 110, 100]⟩, .int .u8 0, .nilFunc] rfl rfl rfl (by decide) (by (try simp only [List.length_append, List.length_cons, List.length_nil]); omega) (by omega) (by omega))
      clear hs hes hd1 hd2
      go_enter Try.func67, Try.ntmps67
      go_wp2_with (first
       | (go_at_call 28; (with_reducible refine Calls.mono (word_any _ _) ?_); rintro e w9 ⟨rfl, hb⟩; replace HP := Lib.hid (HP.out.below hb); replace HS := Lib.hid (HS.out.trans (PStep.below hb)); clear hb)
       | (go_at_call 29; (with_reducible refine Calls.mono (rule_any _ _) ?_); rintro e w9 ⟨rfl, hb⟩; replace HP := Lib.hid (HP.out.below hb); replace HS := Lib.hid (HS.out.trans (PStep.below hb)); clear hb)
       | (go_at_call 48; (with_reducible refine Calls.mono (HO0.out _ _ HP.out) ?_); rintro e w9 ⟨rfl, vt9, ve9, hP9, hs9⟩; replace HP := Lib.hid hP9; replace HS := Lib.hid (HS.out.trans hs9); clear hP9 hs9))
      go_ret
      exact ⟨rfl, _, _, by simpa [effs, Eff.act] using HP.out, HS.out⟩
     ·skip
      by_cases h6 : c = ⟨#[114, 101, 112, 101, 97, 116]⟩
      ·subst h6
       rw [show RId.expand .r_statement ⟨#[114, 101, 112, 101, 97, 116]⟩ = some [.opn 18 [.word ⟨#[114, 101, 112, 101, 97, 116]⟩, .rule .r_body, .word ⟨#[117, 110, 116, 105, 108]⟩, .rule .r_expr]] from rfl]
       have HO0 := Lib.hid (fun (W : World) (vt1 : Value) (h : PAt W p s es d b wc cl vt1 ve) => open_new h 18 18 [.word ⟨#[114, 101, 112, 101, 97, 116]⟩, .rule .r_body, .word ⟨#[117, 110, 116, 105, 108]⟩, .rule .r_expr] 4 [.string ⟨#[114, 101, 112, 101, 97, 116]⟩, .int .u8 0, .nilFunc, .string ⟨#[]⟩, .int .u8 0, .func (.func 50) #[] #[], .string ⟨#[117, 110, 116, 105, 108]⟩, .int .u8 0, .nilFunc, .string ⟨#[]⟩, .int .u8 0, .func (.func 78) #[] #[]] rfl rfl rfl (by decide) (by (try simp only [List.length_append, List.length_cons, List.length_nil]); omega) (by omega) (by omega))
       clear hs hes hd1 hd2
       go_enter Try.func67, Try.ntmps67
       go_wp2_with (first
        | (go_at_call 28; (with_reducible refine Calls.mono (word_any _ _) ?_); rintro e w9 ⟨rfl, hb⟩; replace HP := Lib.hid (HP.out.below hb); replace HS := Lib.hid (HS.out.trans (PStep.below hb)); clear hb)
        | (go_at_call 29; (with_reducible refine Calls.mono (rule_any _ _) ?_); rintro e w9 ⟨rfl, hb⟩; replace HP := Lib.hid (HP.out.below hb); replace HS := Lib.hid (HS.out.trans (PStep.below hb)); clear hb)
        | (go_at_call 48; (with_reducible refine Calls.mono (HO0.out _ _ HP.out) ?_); rintro e w9 ⟨rfl, vt9, ve9, hP9, hs9⟩; replace HP := Lib.hid hP9; replace HS := Lib.hid (HS.out.trans hs9); clear hP9 hs9))
       go_ret
       exact ⟨rfl, _, _, by simpa [effs, Eff.act] using HP.out, HS.out⟩
      ·skip
       by_cases h7 : c = ⟨#[114, 101, 116, 117, 114, 110]⟩
       ·subst h7
        rw [show RId.expand .r_statement ⟨#[114, 101, 116, 117, 114, 110]⟩ = some [.opn 19 [.word ⟨#[114, 101, 116, 117, 114, 110]⟩, .rule .r_maybe]] from rfl]
        have HO0 := Lib.hid (fun (W : World) (vt1 : Value) (h : PAt W p s es d b wc cl vt1 ve) => open_new h 19 19 [.word ⟨#[114, 101, 116, 117, 114, 110]⟩, .rule .r_maybe] 2 [.string ⟨#[114, 101, 116, 117, 114, 110]⟩, .int .u8 0, .nilFunc, .string ⟨#[]⟩, .int .u8 0, .func (.func 84) #[] #[]] rfl rfl rfl (by decide) (by (try simp only [List.length_append, List.length_cons, List.length_nil]); omega) (by omega) (by omega))
        clear hs hes hd1 hd2
        go_enter Try.func67, Try.ntmps67
        go_wp2_with (first
         | (go_at_call 28; (with_reducible refine Calls.mono (word_any _ _) ?_); rintro e w9 ⟨rfl, hb⟩; replace HP := Lib.hid (HP.out.below hb); replace HS := Lib.hid (HS.out.trans (PStep.below hb)); clear hb)
         | (go_at_call 29; (with_reducible refine Calls.mono (rule_any _ _) ?_); rintro e w9 ⟨rfl, hb⟩; replace HP := Lib.hid (HP.out.below hb); replace HS := Lib.hid (HS.out.trans (PStep.below hb)); clear hb)
         | (go_at_call 48; (with_reducible refine Calls.mono (HO0.out _ _ HP.out) ?_); rintro e w9 ⟨rfl, vt9, ve9, hP9, hs9⟩; replace HP := Lib.hid hP9; replace HS := Lib.hid (HS.out.trans hs9); clear hP9 hs9))
        go_ret
        exact ⟨rfl, _, _, by simpa [effs, Eff.act] using HP.out, HS.out⟩
       ·skip
        by_cases h8 : c = ⟨#[98, 101, 103, 105, 110]⟩
        ·subst h8
         rw [show RId.expand .r_statement ⟨#[98, 101, 103, 105, 110]⟩ = some [.opn 20 [.word ⟨#[98, 101, 103, 105, 110]⟩, .rule .r_body, .word ⟨#[101, 110, 100]⟩]] from rfl]
         have HO0 := Lib.hid (fun (W : World) (vt1 : Value) (h : PAt W p s es d b wc cl vt1 ve) => open_new h 20 20 [.word ⟨#[98, 101, 103, 105, 110]⟩, .rule .r_body, .word ⟨#[101, 110, 100]⟩] 3 [.string ⟨#[98, 101, 103, 105, 110]⟩, .int .u8 0, .nilFunc, .string ⟨#[]⟩, .int .u8 0, .func (.func 50) #[] #[], .string ⟨#[101, 110, 100]⟩, .int .u8 0, .nilFunc] rfl rfl rfl (by decide) (by (try simp only [List.length_append, List.length_cons, List.length_nil]); omega) (by omega) (by omega))
         clear hs hes hd1 hd2
         go_enter Try.func67, Try.ntmps67
         go_wp2_with (first
          | (go_at_call 28; (with_reducible refine Calls.mono (word_any _ _) ?_); rintro e w9 ⟨rfl, hb⟩; replace HP := Lib.hid (HP.out.below hb); replace HS := Lib.hid (HS.out.trans (PStep.below hb)); clear hb)
          | (go_at_call 29; (with_reducible refine Calls.mono (rule_any _ _) ?_); rintro e w9 ⟨rfl, hb⟩; replace HP := Lib.hid (HP.out.below hb); replace HS := Lib.hid (HS.out.trans (PStep.below hb)); clear hb)
          | (go_at_call 48; (with_reducible refine Calls.mono (HO0.out _ _ HP.out) ?_); rintro e w9 ⟨rfl, vt9, ve9, hP9, hs9⟩; replace HP := Lib.hid hP9; replace HS := Lib.hid (HS.out.trans hs9); clear hP9 hs9))
         go_ret
         exact ⟨rfl, _, _, by simpa [effs, Eff.act] using HP.out, HS.out⟩
        ·skip
         rw [show RId.expand .r_statement c = none by simp only [RId.expand]; rw [if_neg h1]; rw [if_neg h2]; rw [if_neg h3]; rw [if_neg h4]; rw [if_neg h5]; rw [if_neg h6]; rw [if_neg h7]; rw [if_neg h8]]
         have e0 := ne_lit h1
         have e1 := ne_lit h2
         have e2 := ne_lit h3
         have e3 := ne_lit h4
         have e4 := ne_lit h5
         have e5 := ne_lit h6
         have e6 := ne_lit h7
         have e7 := ne_lit h8
         clear hs hes hd1 hd2
         go_enter Try.func67, Try.ntmps67
         go_wp2_with (first
          | (go_at_call 28; (with_reducible refine Calls.mono (word_any _ _) ?_); rintro e w9 ⟨rfl, hb⟩; replace HP := Lib.hid (HP.out.below hb); replace HS := Lib.hid (HS.out.trans (PStep.below hb)); clear hb)
          | (go_at_call 29; (with_reducible refine Calls.mono (rule_any _ _) ?_); rintro e w9 ⟨rfl, hb⟩; replace HP := Lib.hid (HP.out.below hb); replace HS := Lib.hid (HS.out.trans (PStep.below hb)); clear hb))
         go_ret
         exact ⟨rfl, HP.out, HS.out⟩
end Go.Proofs.Ytmjbpgnjgblnmaa
namespace Go.Proofs.Ytmjbpgnjgblnmaa
open Go.RowKit Go.Proofs.YtmjbpgnjgblnmaaW.PrintWords Go.Proofs.YtmjbpgnjgblnmaaW.PrintLast Go.Proofs.YtmjbpgnjgblnmaaW.PrintMore
set_option maxRecDepth 100000 in
set_option maxHeartbeats 4000000 in
theorem rule_expr : RuleAny .r_expr := by
 intro c p s es d b wc cl vt ve w HP0 HB0
 have HP := Lib.hid HP0
 have HS := Lib.hid (PStep.refl p vt ve w)
 obtain ⟨hs, hes, hd1, hd2⟩ := HB0
 clear HP0
 show Calls Try.prog 78 _ w (RulePost .r_expr c p s es d b wc cl vt ve w)
 unfold RulePost
 rw [show RId.expand .r_expr c = some [.opn 21 [.rule .r_rel, .rule .r_rels]] from rfl]
 have HO0 := Lib.hid (fun (W : World) (vt1 : Value) (h : PAt W p s es d b wc cl vt1 ve) => open_new h 21 21 [.rule .r_rel, .rule .r_rels] 2 [.string ⟨#[]⟩, .int .u8 0, .func (.func 100) #[] #[], .string ⟨#[]⟩, .int .u8 0, .func (.func 101) #[] #[]] rfl rfl rfl (by decide) (by (try simp only [List.length_append, List.length_cons, List.length_nil]); omega) (by omega) (by omega))
 clear hs hes hd1 hd2
 go_enter Try.func78, Try.ntmps78
 go_wp2_with (first
  | (go_at_call 28; (with_reducible refine Calls.mono (word_any _ _) ?_); rintro e w9 ⟨rfl, hb⟩; replace HP := Lib.hid (HP.out.below hb); replace HS := Lib.hid (HS.out.trans (PStep.below hb)); clear hb)
  | (go_at_call 29; (with_reducible refine Calls.mono (rule_any _ _) ?_); rintro e w9 ⟨rfl, hb⟩; replace HP := Lib.hid (HP.out.below hb); replace HS := Lib.hid (HS.out.trans (PStep.below hb)); clear hb)
  | (go_at_call 48; (with_reducible refine Calls.mono (HO0.out _ _ HP.out) ?_); rintro e w9 ⟨rfl, vt9, ve9, hP9, hs9⟩; replace HP := Lib.hid hP9; replace HS := Lib.hid (HS.out.trans hs9); clear hP9 hs9))
 go_ret
 exact ⟨rfl, _, _, by simpa [effs, Eff.act] using HP.out, HS.out⟩
set_option maxRecDepth 100000 in
set_option maxHeartbeats 4000000 in
theorem rule_rels : RuleAny .r_rels := by
 intro c p s es d b wc cl vt ve w HP0 HB0
 have HP := Lib.hid HP0
 have HS := Lib.hid (PStep.refl p vt ve w)
 obtain ⟨hs, hes, hd1, hd2⟩ := HB0
 clear HP0
 show Calls Try.prog 101 _ w (RulePost .r_rels c p s es d b wc cl vt ve w)
 unfold RulePost
 by_cases h1 : c = ⟨#[97, 110, 100]⟩ ∨ c = ⟨#[111, 114]⟩
 ·rw [show RId.expand .r_rels c = some [.push [.word c, .rule .r_rel, .rule .r_rels]] by simp only [RId.expand]; rw [if_pos h1]]
  have hin : inL c [⟨#[97, 110, 100]⟩, ⟨#[111, 114]⟩] = true := (inL_iff _ _).2 (by simpa using h1)
  have HAM := Lib.hid (fun (W : World) => among_new W c [⟨#[97, 110, 100]⟩, ⟨#[111, 114]⟩] 2 [.string ⟨#[97, 110, 100]⟩, .string ⟨#[111, 114]⟩] rfl rfl (by decide))
  rw [hin] at HAM
  clear hin
  have HO0 := Lib.hid (fun (W : World) (vt1 : Value) (h : PAt W p s es d b wc cl vt1 ve) => push_new h [.word c, .rule .r_rel, .rule .r_rels] 3 [.string c, .int .u8 0, .nilFunc, .string ⟨#[]⟩, .int .u8 0, .func (.func 100) #[] #[], .string ⟨#[]⟩, .int .u8 0, .func (.func 101) #[] #[]] rfl rfl (by decide) (by (try simp only [List.length_append, List.length_cons, List.length_nil]); omega))
  clear hs hes hd1 hd2
  go_enter Try.func101, Try.ntmps101
  go_wp2_with (first
   | (go_at_call 65; (with_reducible refine Calls.mono (HAM.out _) ?_); rintro e w9 ⟨rfl, hb⟩; replace HP := Lib.hid (HP.out.below hb); replace HS := Lib.hid (HS.out.trans (PStep.below hb)); clear hb)
   | (go_at_call 28; (with_reducible refine Calls.mono (word_any _ _) ?_); rintro e w9 ⟨rfl, hb⟩; replace HP := Lib.hid (HP.out.below hb); replace HS := Lib.hid (HS.out.trans (PStep.below hb)); clear hb)
   | (go_at_call 29; (with_reducible refine Calls.mono (rule_any _ _) ?_); rintro e w9 ⟨rfl, hb⟩; replace HP := Lib.hid (HP.out.below hb); replace HS := Lib.hid (HS.out.trans (PStep.below hb)); clear hb)
   | (go_at_call 27; (with_reducible refine Calls.mono (HO0.out _ _ HP.out) ?_); rintro e w9 ⟨rfl, vt9, hP9, hs9⟩; replace HP := Lib.hid hP9; replace HS := Lib.hid (HS.out.trans hs9); clear hP9 hs9))
  go_ret
  exact ⟨rfl, _, _, by simpa [effs, Eff.act] using HP.out, HS.out⟩
 ·skip
  rw [show RId.expand .r_rels c = some [] by simp only [RId.expand]; rw [if_neg h1]]
  have hin : inL c [⟨#[97, 110, 100]⟩, ⟨#[111, 114]⟩] = false := inL_no (fun h => h1 (by simpa using h))
  have HAM := Lib.hid (fun (W : World) => among_new W c [⟨#[97, 110, 100]⟩, ⟨#[111, 114]⟩] 2 [.string ⟨#[97, 110, 100]⟩, .string ⟨#[111, 114]⟩] rfl rfl (by decide))
  rw [hin] at HAM
  clear hin
  clear hs hes hd1 hd2
  go_enter Try.func101, Try.ntmps101
  go_wp2_with (first
   | (go_at_call 65; (with_reducible refine Calls.mono (HAM.out _) ?_); rintro e w9 ⟨rfl, hb⟩; replace HP := Lib.hid (HP.out.below hb); replace HS := Lib.hid (HS.out.trans (PStep.below hb)); clear hb)
   | (go_at_call 28; (with_reducible refine Calls.mono (word_any _ _) ?_); rintro e w9 ⟨rfl, hb⟩; replace HP := Lib.hid (HP.out.below hb); replace HS := Lib.hid (HS.out.trans (PStep.below hb)); clear hb)
   | (go_at_call 29; (with_reducible refine Calls.mono (rule_any _ _) ?_); rintro e w9 ⟨rfl, hb⟩; replace HP := Lib.hid (HP.out.below hb); replace HS := Lib.hid (HS.out.trans (PStep.below hb)); clear hb))
  go_ret
  exact ⟨rfl, _, _, by simpa [effs, Eff.act] using HP.out, HS.out⟩
set_option maxRecDepth 100000 in
set_option maxHeartbeats 4000000 in
theorem rule_rel : RuleAny .r_rel := by
 intro c p s es d b wc cl vt ve w HP0 HB0
 have HP := Lib.hid HP0
 have HS := Lib.hid (PStep.refl p vt ve w)
 obtain ⟨hs, hes, hd1, hd2⟩ := HB0
 clear HP0
 show Calls Try.prog 100 _ w (RulePost .r_rel c p s es d b wc cl vt ve w)
 unfold RulePost
 rw [show RId.expand .r_rel c = some [.opn 22 [.rule .r_sum, .rule .r_compared]] from rfl]
 have HO0 := Lib.hid (fun (W : World) (vt1 : Value) (h : PAt W p s es d b wc cl vt1 ve) => open_new h 22 22 [.rule .r_sum, .rule .r_compared] 2 [.string ⟨#[]⟩, .int .u8 0, .func (.func 127) #[] #[], .string ⟨#[]⟩, .int .u8 0, .func (.func 128) #[] #[]] rfl rfl rfl (by decide) (by (try simp only [List.length_append, List.length_cons, List.length_nil]); omega) (by omega) (by omega))
 clear hs hes hd1 hd2
 go_enter Try.func100, Try.ntmps100
 go_wp2_with (first
  | (go_at_call 28; (with_reducible refine Calls.mono (word_any _ _) ?_); rintro e w9 ⟨rfl, hb⟩; replace HP := Lib.hid (HP.out.below hb); replace HS := Lib.hid (HS.out.trans (PStep.below hb)); clear hb)
  | (go_at_call 29; (with_reducible refine Calls.mono (rule_any _ _) ?_); rintro e w9 ⟨rfl, hb⟩; replace HP := Lib.hid (HP.out.below hb); replace HS := Lib.hid (HS.out.trans (PStep.below hb)); clear hb)
  | (go_at_call 48; (with_reducible refine Calls.mono (HO0.out _ _ HP.out) ?_); rintro e w9 ⟨rfl, vt9, ve9, hP9, hs9⟩; replace HP := Lib.hid hP9; replace HS := Lib.hid (HS.out.trans hs9); clear hP9 hs9))
 go_ret
 exact ⟨rfl, _, _, by simpa [effs, Eff.act] using HP.out, HS.out⟩
set_option maxRecDepth 100000 in
set_option maxHeartbeats 4000000 in
theorem rule_compared : RuleAny .r_compared := by
 intro c p s es d b wc cl vt ve w HP0 HB0
 have HP := Lib.hid HP0
 have HS := Lib.hid (PStep.refl p vt ve w)
 obtain ⟨hs, hes, hd1, hd2⟩ := HB0
 clear HP0
 show Calls Try.prog 128 _ w (RulePost .r_compared c p s es d b wc cl vt ve w)
 unfold RulePost
 by_cases h1 : c = ⟨#[61]⟩ ∨ c = ⟨#[35]⟩ ∨ c = ⟨#[60]⟩ ∨ c = ⟨#[60, 61]⟩ ∨ c = ⟨#[62]⟩ ∨ c = ⟨#[62, 61]⟩
 ·rw [show RId.expand .r_compared c = some [.push [.word c, .rule .r_sum]] by simp only [RId.expand]; rw [if_pos h1]]
  have hin : inL c [⟨#[61]⟩, ⟨#[35]⟩, ⟨#[60]⟩, ⟨#[60, 61]⟩, ⟨#[62]⟩, ⟨#[62, 61]⟩] = true := (inL_iff _ _).2 (by simpa using h1)
  have HAM := Lib.hid (fun (W : World) => among_new W c [⟨#[61]⟩, ⟨#[35]⟩, ⟨#[60]⟩, ⟨#[60, 61]⟩, ⟨#[62]⟩, ⟨#[62, 61]⟩] 6 [.string ⟨#[61]⟩, .string ⟨#[35]⟩, .string ⟨#[60]⟩, .string ⟨#[60, 61]⟩, .string ⟨#[62]⟩, .string ⟨#[62, 61]⟩] rfl rfl (by decide))
  rw [hin] at HAM
  clear hin
  have HO0 := Lib.hid (fun (W : World) (vt1 : Value) (h : PAt W p s es d b wc cl vt1 ve) => push_new h [.word c, .rule .r_sum] 2 [.string c, .int .u8 0, .nilFunc, .string ⟨#[]⟩, .int .u8 0, .func (.func 127) #[] #[]] rfl rfl (by decide) (by (try simp only [List.length_append, List.length_cons, List.length_nil]); omega))
  clear hs hes hd1 hd2
  go_enter Try.func128, Try.ntmps128
  go_wp2_with (first
   | (go_at_call 65; (with_reducible refine Calls.mono (HAM.out _) ?_); rintro e w9 ⟨rfl, hb⟩; replace HP := Lib.hid (HP.out.below hb); replace HS := Lib.hid (HS.out.trans (PStep.below hb)); clear hb)
   | (go_at_call 28; (with_reducible refine Calls.mono (word_any _ _) ?_); rintro e w9 ⟨rfl, hb⟩; replace HP := Lib.hid (HP.out.below hb); replace HS := Lib.hid (HS.out.trans (PStep.below hb)); clear hb)
   | (go_at_call 29; (with_reducible refine Calls.mono (rule_any _ _) ?_); rintro e w9 ⟨rfl, hb⟩; replace HP := Lib.hid (HP.out.below hb); replace HS := Lib.hid (HS.out.trans (PStep.below hb)); clear hb)
   | (go_at_call 27; (with_reducible refine Calls.mono (HO0.out _ _ HP.out) ?_); rintro e w9 ⟨rfl, vt9, hP9, hs9⟩; replace HP := Lib.hid hP9; replace HS := Lib.hid (HS.out.trans hs9); clear hP9 hs9))
  go_ret
  exact ⟨rfl, _, _, by simpa [effs, Eff.act] using HP.out, HS.out⟩
 ·skip
  rw [show RId.expand .r_compared c = some [] by simp only [RId.expand]; rw [if_neg h1]]
  have hin : inL c [⟨#[61]⟩, ⟨#[35]⟩, ⟨#[60]⟩, ⟨#[60, 61]⟩, ⟨#[62]⟩, ⟨#[62, 61]⟩] = false := inL_no (fun h => h1 (by simpa using h))
  have HAM := Lib.hid (fun (W : World) => among_new W c [⟨#[61]⟩, ⟨#[35]⟩, ⟨#[60]⟩, ⟨#[60, 61]⟩, ⟨#[62]⟩, ⟨#[62, 61]⟩] 6 [.string ⟨#[61]⟩, .string ⟨#[35]⟩, .string ⟨#[60]⟩, .string ⟨#[60, 61]⟩, .string ⟨#[62]⟩, .string ⟨#[62, 61]⟩] rfl rfl (by decide))
  rw [hin] at HAM
  clear hin
  clear hs hes hd1 hd2
  go_enter Try.func128, Try.ntmps128
  go_wp2_with (first
   | (go_at_call 65; (with_reducible refine Calls.mono (HAM.out _) ?_); rintro e w9 ⟨rfl, hb⟩; replace HP := Lib.hid (HP.out.below hb); replace HS := Lib.hid (HS.out.trans (PStep.below hb)); clear hb)
   | (go_at_call 28; (with_reducible refine Calls.mono (word_any _ _) ?_); rintro e w9 ⟨rfl, hb⟩; replace HP := Lib.hid (HP.out.below hb); replace HS := Lib.hid (HS.out.trans (PStep.below hb)); clear hb)
   | (go_at_call 29; (with_reducible refine Calls.mono (rule_any _ _) ?_); rintro e w9 ⟨rfl, hb⟩; replace HP := Lib.hid (HP.out.below hb); replace HS := Lib.hid (HS.out.trans (PStep.below hb)); clear hb))
  go_ret
  exact ⟨rfl, _, _, by simpa [effs, Eff.act] using HP.out, HS.out⟩
set_option maxRecDepth 100000 in
set_option maxHeartbeats 4000000 in
theorem rule_sum : RuleAny .r_sum := by
 intro c p s es d b wc cl vt ve w HP0 HB0
 have HP := Lib.hid HP0
 have HS := Lib.hid (PStep.refl p vt ve w)
 obtain ⟨hs, hes, hd1, hd2⟩ := HB0
 clear HP0
 show Calls Try.prog 127 _ w (RulePost .r_sum c p s es d b wc cl vt ve w)
 unfold RulePost
 rw [show RId.expand .r_sum c = some [.opn 23 [.rule .r_term, .rule .r_terms]] from rfl]
 have HO0 := Lib.hid (fun (W : World) (vt1 : Value) (h : PAt W p s es d b wc cl vt1 ve) => open_new h 23 23 [.rule .r_term, .rule .r_terms] 2 [.string ⟨#[]⟩, .int .u8 0, .func (.func 148) #[] #[], .string ⟨#[]⟩, .int .u8 0, .func (.func 149) #[] #[]] rfl rfl rfl (by decide) (by (try simp only [List.length_append, List.length_cons, List.length_nil]); omega) (by omega) (by omega))
 clear hs hes hd1 hd2
 go_enter Try.func127, Try.ntmps127
 go_wp2_with (first
  | (go_at_call 28; (with_reducible refine Calls.mono (word_any _ _) ?_); rintro e w9 ⟨rfl, hb⟩; replace HP := Lib.hid (HP.out.below hb); replace HS := Lib.hid (HS.out.trans (PStep.below hb)); clear hb)
  | (go_at_call 29; (with_reducible refine Calls.mono (rule_any _ _) ?_); rintro e w9 ⟨rfl, hb⟩; replace HP := Lib.hid (HP.out.below hb); replace HS := Lib.hid (HS.out.trans (PStep.below hb)); clear hb)
  | (go_at_call 48; (with_reducible refine Calls.mono (HO0.out _ _ HP.out) ?_); rintro e w9 ⟨rfl, vt9, ve9, hP9, hs9⟩; replace HP := Lib.hid hP9; replace HS := Lib.hid (HS.out.trans hs9); clear hP9 hs9))
 go_ret
 exact ⟨rfl, _, _, by simpa [effs, Eff.act] using HP.out, HS.out⟩
set_option maxRecDepth 100000 in
set_option maxHeartbeats 4000000 in
theorem rule_terms : RuleAny .r_terms := by
 intro c p s es d b wc cl vt ve w HP0 HB0
 have HP := Lib.hid HP0
 have HS := Lib.hid (PStep.refl p vt ve w)
 obtain ⟨hs, hes, hd1, hd2⟩ := HB0
 clear HP0
 show Calls Try.prog 149 _ w (RulePost .r_terms c p s es d b wc cl vt ve w)
 unfold RulePost
 by_cases h1 : c = ⟨#[43]⟩ ∨ c = ⟨#[45]⟩
 ·rw [show RId.expand .r_terms c = some [.push [.word c, .rule .r_term, .rule .r_terms]] by simp only [RId.expand]; rw [if_pos h1]]
  have hin : inL c [⟨#[43]⟩, ⟨#[45]⟩] = true := (inL_iff _ _).2 (by simpa using h1)
  have HAM := Lib.hid (fun (W : World) => among_new W c [⟨#[43]⟩, ⟨#[45]⟩] 2 [.string ⟨#[43]⟩, .string ⟨#[45]⟩] rfl rfl (by decide))
  rw [hin] at HAM
  clear hin
  have HO0 := Lib.hid (fun (W : World) (vt1 : Value) (h : PAt W p s es d b wc cl vt1 ve) => push_new h [.word c, .rule .r_term, .rule .r_terms] 3 [.string c, .int .u8 0, .nilFunc, .string ⟨#[]⟩, .int .u8 0, .func (.func 148) #[] #[], .string ⟨#[]⟩, .int .u8 0, .func (.func 149) #[] #[]] rfl rfl (by decide) (by (try simp only [List.length_append, List.length_cons, List.length_nil]); omega))
  clear hs hes hd1 hd2
  go_enter Try.func149, Try.ntmps149
  go_wp2_with (first
   | (go_at_call 65; (with_reducible refine Calls.mono (HAM.out _) ?_); rintro e w9 ⟨rfl, hb⟩; replace HP := Lib.hid (HP.out.below hb); replace HS := Lib.hid (HS.out.trans (PStep.below hb)); clear hb)
   | (go_at_call 28; (with_reducible refine Calls.mono (word_any _ _) ?_); rintro e w9 ⟨rfl, hb⟩; replace HP := Lib.hid (HP.out.below hb); replace HS := Lib.hid (HS.out.trans (PStep.below hb)); clear hb)
   | (go_at_call 29; (with_reducible refine Calls.mono (rule_any _ _) ?_); rintro e w9 ⟨rfl, hb⟩; replace HP := Lib.hid (HP.out.below hb); replace HS := Lib.hid (HS.out.trans (PStep.below hb)); clear hb)
   | (go_at_call 27; (with_reducible refine Calls.mono (HO0.out _ _ HP.out) ?_); rintro e w9 ⟨rfl, vt9, hP9, hs9⟩; replace HP := Lib.hid hP9; replace HS := Lib.hid (HS.out.trans hs9); clear hP9 hs9))
  go_ret
  exact ⟨rfl, _, _, by simpa [effs, Eff.act] using HP.out, HS.out⟩
 ·skip
  rw [show RId.expand .r_terms c = some [] by simp only [RId.expand]; rw [if_neg h1]]
  have hin : inL c [⟨#[43]⟩, ⟨#[45]⟩] = false := inL_no (fun h => h1 (by simpa using h))
  have HAM := Lib.hid (fun (W : World) => among_new W c [⟨#[43]⟩, ⟨#[45]⟩] 2 [.string ⟨#[43]⟩, .string ⟨#[45]⟩] rfl rfl (by decide))
  rw [hin] at HAM
  clear hin
  clear hs hes hd1 hd2
  go_enter Try.func149, Try.ntmps149
  go_wp2_with (first
   | (go_at_call 65; (with_reducible refine Calls.mono (HAM.out _) ?_); rintro e w9 ⟨rfl, hb⟩; replace HP := Lib.hid (HP.out.below hb); replace HS := Lib.hid (HS.out.trans (PStep.below hb)); clear hb)
   | (go_at_call 28; (with_reducible refine Calls.mono (word_any _ _) ?_); rintro e w9 ⟨rfl, hb⟩; replace HP := Lib.hid (HP.out.below hb); replace HS := Lib.hid (HS.out.trans (PStep.below hb)); clear hb)
   | (go_at_call 29; (with_reducible refine Calls.mono (rule_any _ _) ?_); rintro e w9 ⟨rfl, hb⟩; replace HP := Lib.hid (HP.out.below hb); replace HS := Lib.hid (HS.out.trans (PStep.below hb)); clear hb))
  go_ret
  exact ⟨rfl, _, _, by simpa [effs, Eff.act] using HP.out, HS.out⟩
set_option maxRecDepth 100000 in
set_option maxHeartbeats 4000000 in
theorem rule_term : RuleAny .r_term := by
 intro c p s es d b wc cl vt ve w HP0 HB0
 have HP := Lib.hid HP0
 have HS := Lib.hid (PStep.refl p vt ve w)
 obtain ⟨hs, hes, hd1, hd2⟩ := HB0
 clear HP0
 show Calls Try.prog 148 _ w (RulePost .r_term c p s es d b wc cl vt ve w)
 unfold RulePost
 rw [show RId.expand .r_term c = some [.opn 24 [.rule .r_factor, .rule .r_factors]] from rfl]
 have HO0 := Lib.hid (fun (W : World) (vt1 : Value) (h : PAt W p s es d b wc cl vt1 ve) => open_new h 24 24 [.rule .r_factor, .rule .r_factors] 2 [.string ⟨#[]⟩, .int .u8 0, .func (.func 159) #[] #[], .string ⟨#[]⟩, .int .u8 0, .func (.func 160) #[] #[]] rfl rfl rfl (by decide) (by (try simp only [List.length_append, List.length_cons, List.length_nil]); omega) (by omega) (by omega))
 clear hs hes hd1 hd2
 go_enter Try.func148, Try.ntmps148
 go_wp2_with (first
  | (go_at_call 28; (with_reducible refine Calls.mono (word_any _ _) ?_); rintro e w9 ⟨rfl, hb⟩; replace HP := Lib.hid (HP.out.below hb); replace HS := Lib.hid (HS.out.trans (PStep.below hb)); clear hb)
  | (go_at_call 29; (with_reducible refine Calls.mono (rule_any _ _) ?_); rintro e w9 ⟨rfl, hb⟩; replace HP := Lib.hid (HP.out.below hb); replace HS := Lib.hid (HS.out.trans (PStep.below hb)); clear hb)
  | (go_at_call 48; (with_reducible refine Calls.mono (HO0.out _ _ HP.out) ?_); rintro e w9 ⟨rfl, vt9, ve9, hP9, hs9⟩; replace HP := Lib.hid hP9; replace HS := Lib.hid (HS.out.trans hs9); clear hP9 hs9))
 go_ret
 exact ⟨rfl, _, _, by simpa [effs, Eff.act] using HP.out, HS.out⟩
set_option maxRecDepth 100000 in
set_option maxHeartbeats 4000000 in
theorem rule_factors : RuleAny .r_factors := by
 intro c p s es d b wc cl vt ve w HP0 HB0
 have HP := Lib.hid HP0
 have HS := Lib.hid (PStep.refl p vt ve w)
 obtain ⟨hs, hes, hd1, hd2⟩ := HB0
 clear HP0
 show Calls Try.prog 160 _ w (RulePost .r_factors c p s es d b wc cl vt ve w)
 unfold RulePost
 by_cases h1 : c = ⟨#[42]⟩ ∨ c = ⟨#[47]⟩ ∨ c = ⟨#[37]⟩
 ·rw [show RId.expand .r_factors c = some [.push [.word c, .rule .r_factor, .rule .r_factors]] by simp only [RId.expand]; rw [if_pos h1]]
  have hin : inL c [⟨#[42]⟩, ⟨#[47]⟩, ⟨#[37]⟩] = true := (inL_iff _ _).2 (by simpa using h1)
  have HAM := Lib.hid (fun (W : World) => among_new W c [⟨#[42]⟩, ⟨#[47]⟩, ⟨#[37]⟩] 3 [.string ⟨#[42]⟩, .string ⟨#[47]⟩, .string ⟨#[37]⟩] rfl rfl (by decide))
  rw [hin] at HAM
  clear hin
  have HO0 := Lib.hid (fun (W : World) (vt1 : Value) (h : PAt W p s es d b wc cl vt1 ve) => push_new h [.word c, .rule .r_factor, .rule .r_factors] 3 [.string c, .int .u8 0, .nilFunc, .string ⟨#[]⟩, .int .u8 0, .func (.func 159) #[] #[], .string ⟨#[]⟩, .int .u8 0, .func (.func 160) #[] #[]] rfl rfl (by decide) (by (try simp only [List.length_append, List.length_cons, List.length_nil]); omega))
  clear hs hes hd1 hd2
  go_enter Try.func160, Try.ntmps160
  go_wp2_with (first
   | (go_at_call 65; (with_reducible refine Calls.mono (HAM.out _) ?_); rintro e w9 ⟨rfl, hb⟩; replace HP := Lib.hid (HP.out.below hb); replace HS := Lib.hid (HS.out.trans (PStep.below hb)); clear hb)
   | (go_at_call 28; (with_reducible refine Calls.mono (word_any _ _) ?_); rintro e w9 ⟨rfl, hb⟩; replace HP := Lib.hid (HP.out.below hb); replace HS := Lib.hid (HS.out.trans (PStep.below hb)); clear hb)
   | (go_at_call 29; (with_reducible refine Calls.mono (rule_any _ _) ?_); rintro e w9 ⟨rfl, hb⟩; replace HP := Lib.hid (HP.out.below hb); replace HS := Lib.hid (HS.out.trans (PStep.below hb)); clear hb)
   | (go_at_call 27; (with_reducible refine Calls.mono (HO0.out _ _ HP.out) ?_); rintro e w9 ⟨rfl, vt9, hP9, hs9⟩; replace HP := Lib.hid hP9; replace HS := Lib.hid (HS.out.trans hs9); clear hP9 hs9))
  go_ret
  exact ⟨rfl, _, _, by simpa [effs, Eff.act] using HP.out, HS.out⟩
 ·skip
  rw [show RId.expand .r_factors c = some [] by simp only [RId.expand]; rw [if_neg h1]]
  have hin : inL c [⟨#[42]⟩, ⟨#[47]⟩, ⟨#[37]⟩] = false := inL_no (fun h => h1 (by simpa using h))
  have HAM := Lib.hid (fun (W : World) => among_new W c [⟨#[42]⟩, ⟨#[47]⟩, ⟨#[37]⟩] 3 [.string ⟨#[42]⟩, .string ⟨#[47]⟩, .string ⟨#[37]⟩] rfl rfl (by decide))
  rw [hin] at HAM
  clear hin
  clear hs hes hd1 hd2
  go_enter Try.func160, Try.ntmps160
  go_wp2_with (first
   | (go_at_call 65; (with_reducible refine Calls.mono (HAM.out _) ?_); rintro e w9 ⟨rfl, hb⟩; replace HP := Lib.hid (HP.out.below hb); replace HS := Lib.hid (HS.out.trans (PStep.below hb)); clear hb)
   | (go_at_call 28; (with_reducible refine Calls.mono (word_any _ _) ?_); rintro e w9 ⟨rfl, hb⟩; replace HP := Lib.hid (HP.out.below hb); replace HS := Lib.hid (HS.out.trans (PStep.below hb)); clear hb)
   | (go_at_call 29; (with_reducible refine Calls.mono (rule_any _ _) ?_); rintro e w9 ⟨rfl, hb⟩; replace HP := Lib.hid (HP.out.below hb); replace HS := Lib.hid (HS.out.trans (PStep.below hb)); clear hb))
  go_ret
  exact ⟨rfl, _, _, by simpa [effs, Eff.act] using HP.out, HS.out⟩
end Go.Proofs.Ytmjbpgnjgblnmaa
namespace Go.Proofs.Ytmjbpgnjgblnmaa
open Go.RowKit Go.Proofs.YtmjbpgnjgblnmaaW.PrintWords Go.Proofs.YtmjbpgnjgblnmaaW.PrintLast Go.Proofs.YtmjbpgnjgblnmaaW.PrintMore
set_option maxRecDepth 100000 in
set_option maxHeartbeats 4000000 in
theorem rule_object : RuleAny .r_object := by
 intro c p s es d b wc cl vt ve w HP0 HB0
 have HP := Lib.hid HP0
 have HS := Lib.hid (PStep.refl p vt ve w)
 obtain ⟨hs, hes, hd1, hd2⟩ := HB0
 clear HP0
 show Calls Try.prog 81 _ w (RulePost .r_object c p s es d b wc cl vt ve w)
 unfold RulePost
 rw [show RId.expand .r_object c = some [.opn 28 [.word ⟨#[64, 110, 97, 109, 101]⟩, .rule .r_selected]] from rfl]
 have HO0 := Lib.hid (fun (W : World) (vt1 : Value) (h : PAt W p s es d b wc cl vt1 ve) => open_new h 28 28 [.word ⟨#[64, 110, 97, 109, 101]⟩, .rule .r_selected] 2 [.string ⟨#[64, 110, 97, 109, 101]⟩, .int .u8 0, .nilFunc, .string ⟨#[]⟩, .int .u8 0, .func (.func 104) #[] #[]] rfl rfl rfl (by decide) (by (try simp only [List.length_append, List.length_cons, List.length_nil]); omega) (by omega) (by omega))
 clear hs hes hd1 hd2
 go_enter Try.func81, Try.ntmps81
 go_wp2_with (first
  | (go_at_call 28; (with_reducible refine Calls.mono (word_any _ _) ?_); rintro e w9 ⟨rfl, hb⟩; replace HP := Lib.hid (HP.out.below hb); replace HS := Lib.hid (HS.out.trans (PStep.below hb)); clear hb)
  | (go_at_call 29; (with_reducible refine Calls.mono (rule_any _ _) ?_); rintro e w9 ⟨rfl, hb⟩; replace HP := Lib.hid (HP.out.below hb); replace HS := Lib.hid (HS.out.trans (PStep.below hb)); clear hb)
  | (go_at_call 48; (with_reducible refine Calls.mono (HO0.out _ _ HP.out) ?_); rintro e w9 ⟨rfl, vt9, ve9, hP9, hs9⟩; replace HP := Lib.hid hP9; replace HS := Lib.hid (HS.out.trans hs9); clear hP9 hs9))
 go_ret
 exact ⟨rfl, _, _, by simpa [effs, Eff.act] using HP.out, HS.out⟩
set_option maxRecDepth 100000 in
set_option maxHeartbeats 4000000 in
theorem rule_factor : RuleAny .r_factor := by
 intro c p s es d b wc cl vt ve w HP0 HB0
 have HP := Lib.hid HP0
 have HS := Lib.hid (PStep.refl p vt ve w)
 obtain ⟨hs, hes, hd1, hd2⟩ := HB0
 clear HP0
 show Calls Try.prog 159 _ w (RulePost .r_factor c p s es d b wc cl vt ve w)
 unfold RulePost
 by_cases h1 : c = ⟨#[45]⟩
 ·subst h1
  rw [show RId.expand .r_factor ⟨#[45]⟩ = some [.opn 25 [.word ⟨#[45]⟩, .rule .r_factor]] from rfl]
  have HO0 := Lib.hid (fun (W : World) (vt1 : Value) (h : PAt W p s es d b wc cl vt1 ve) => open_new h 25 25 [.word ⟨#[45]⟩, .rule .r_factor] 2 [.string ⟨#[45]⟩, .int .u8 0, .nilFunc, .string ⟨#[]⟩, .int .u8 0, .func (.func 159) #[] #[]] rfl rfl rfl (by decide) (by (try simp only [List.length_append, List.length_cons, List.length_nil]); omega) (by omega) (by omega))
  clear hs hes hd1 hd2
  go_enter Try.func159, Try.ntmps159
  go_wp2_with (first
   | (go_at_call 28; (with_reducible refine Calls.mono (word_any _ _) ?_); rintro e w9 ⟨rfl, hb⟩; replace HP := Lib.hid (HP.out.below hb); replace HS := Lib.hid (HS.out.trans (PStep.below hb)); clear hb)
   | (go_at_call 29; (with_reducible refine Calls.mono (rule_any _ _) ?_); rintro e w9 ⟨rfl, hb⟩; replace HP := Lib.hid (HP.out.below hb); replace HS := Lib.hid (HS.out.trans (PStep.below hb)); clear hb)
   | (go_at_call 48; (with_reducible refine Calls.mono (HO0.out _ _ HP.out) ?_); rintro e w9 ⟨rfl, vt9, ve9, hP9, hs9⟩; replace HP := Lib.hid hP9; replace HS := Lib.hid (HS.out.trans hs9); clear hP9 hs9))
  go_ret
  exact ⟨rfl, _, _, by simpa [effs, Eff.act] using HP.out, HS.out⟩
 ·skip
  by_cases h2 : c = ⟨#[110, 111, 116]⟩
  ·subst h2
   rw [show RId.expand .r_factor ⟨#[110, 111, 116]⟩ = some [.opn 26 [.word ⟨#[110, 111, 116]⟩, .rule .r_factor]] from rfl]
   have HO0 := Lib.hid (fun (W : World) (vt1 : Value) (h : PAt W p s es d b wc cl vt1 ve) => open_new h 26 26 [.word ⟨#[110, 111, 116]⟩, .rule .r_factor] 2 [.string ⟨#[110, 111, 116]⟩, .int .u8 0, .nilFunc, .string ⟨#[]⟩, .int .u8 0, .func (.func 159) #[] #[]] rfl rfl rfl (by decide) (by (try simp only [List.length_append, List.length_cons, List.length_nil]); omega) (by omega) (by omega))
   clear hs hes hd1 hd2
   go_enter Try.func159, Try.ntmps159
   go_wp2_with (first
    | (go_at_call 28; (with_reducible refine Calls.mono (word_any _ _) ?_); rintro e w9 ⟨rfl, hb⟩; replace HP := Lib.hid (HP.out.below hb); replace HS := Lib.hid (HS.out.trans (PStep.below hb)); clear hb)
    | (go_at_call 29; (with_reducible refine Calls.mono (rule_any _ _) ?_); rintro e w9 ⟨rfl, hb⟩; replace HP := Lib.hid (HP.out.below hb); replace HS := Lib.hid (HS.out.trans (PStep.below hb)); clear hb)
    | (go_at_call 48; (with_reducible refine Calls.mono (HO0.out _ _ HP.out) ?_); rintro e w9 ⟨rfl, vt9, ve9, hP9, hs9⟩; replace HP := Lib.hid hP9; replace HS := Lib.hid (HS.out.trans hs9); clear hP9 hs9))
   go_ret
   exact ⟨rfl, _, _, by simpa [effs, Eff.act] using HP.out, HS.out⟩
  ·skip
   by_cases h3 : c = ⟨#[40]⟩
   ·subst h3
    rw [show RId.expand .r_factor ⟨#[40]⟩ = some [.opn 27 [.word ⟨#[40]⟩, .rule .r_expr, .word ⟨#[41]⟩]] from rfl]
    have HO0 := Lib.hid (fun (W : World) (vt1 : Value) (h : PAt W p s es d b wc cl vt1 ve) => open_new h 27 27 [.word ⟨#[40]⟩, .rule .r_expr, .word ⟨#[41]⟩] 3 [.string ⟨#[40]⟩, .int .u8 0, .nilFunc, .string ⟨#[]⟩, .int .u8 0, .func (.func 78) #[] #[], .string ⟨#[41]⟩, .int .u8 0, .nilFunc] rfl rfl rfl (by decide) (by (try simp only [List.length_append, List.length_cons, List.length_nil]); omega) (by omega) (by omega))
    clear hs hes hd1 hd2
    go_enter Try.func159, Try.ntmps159
    go_wp2_with (first
     | (go_at_call 28; (with_reducible refine Calls.mono (word_any _ _) ?_); rintro e w9 ⟨rfl, hb⟩; replace HP := Lib.hid (HP.out.below hb); replace HS := Lib.hid (HS.out.trans (PStep.below hb)); clear hb)
     | (go_at_call 29; (with_reducible refine Calls.mono (rule_any _ _) ?_); rintro e w9 ⟨rfl, hb⟩; replace HP := Lib.hid (HP.out.below hb); replace HS := Lib.hid (HS.out.trans (PStep.below hb)); clear hb)
     | (go_at_call 48; (with_reducible refine Calls.mono (HO0.out _ _ HP.out) ?_); rintro e w9 ⟨rfl, vt9, ve9, hP9, hs9⟩; replace HP := Lib.hid hP9; replace HS := Lib.hid (HS.out.trans hs9); clear hP9 hs9))
    go_ret
    exact ⟨rfl, _, _, by simpa [effs, Eff.act] using HP.out, HS.out⟩
   ·skip
    by_cases h4 : c = ⟨#[64, 110, 117, 109, 98, 101, 114]⟩ ∨ c = ⟨#[64, 116, 101, 120, 116]⟩ ∨ c = ⟨#[64, 99, 104, 97, 114]⟩
    ·rcases h4 with rfl | rfl | rfl
     ·rw [show RId.expand .r_factor ⟨#[64, 110, 117, 109, 98, 101, 114]⟩ = some [.opn 32 [.word ⟨#[64, 110, 117, 109, 98, 101, 114]⟩]] from rfl]
      have HO0 := Lib.hid (fun (W : World) (vt1 : Value) (h : PAt W p s es d b wc cl vt1 ve) => open_new h 32 32 [.word ⟨#[64, 110, 117, 109, 98, 101, 114]⟩] 1 [.string ⟨#[64, 110, 117, 109, 98, 101, 114]⟩, .int .u8 0, .nilFunc] rfl rfl rfl (by decide) (by (try simp only [List.length_append, List.length_cons, List.length_nil]); omega) (by omega) (by omega))
      clear hs hes hd1 hd2
      go_enter Try.func159, Try.ntmps159
      go_wp2_with (first
       | (go_at_call 28; (with_reducible refine Calls.mono (word_any _ _) ?_); rintro e w9 ⟨rfl, hb⟩; replace HP := Lib.hid (HP.out.below hb); replace HS := Lib.hid (HS.out.trans (PStep.below hb)); clear hb)
       | (go_at_call 29; (with_reducible refine Calls.mono (rule_any _ _) ?_); rintro e w9 ⟨rfl, hb⟩; replace HP := Lib.hid (HP.out.below hb); replace HS := Lib.hid (HS.out.trans (PStep.below hb)); clear hb)
       | (go_at_call 48; (with_reducible refine Calls.mono (HO0.out _ _ HP.out) ?_); rintro e w9 ⟨rfl, vt9, ve9, hP9, hs9⟩; replace HP := Lib.hid hP9; replace HS := Lib.hid (HS.out.trans hs9); clear hP9 hs9))
      go_ret
      exact ⟨rfl, _, _, by simpa [effs, Eff.act] using HP.out, HS.out⟩
     ·rw [show RId.expand .r_factor ⟨#[64, 116, 101, 120, 116]⟩ = some [.opn 32 [.word ⟨#[64, 116, 101, 120, 116]⟩]] from rfl]
      have HO0 := Lib.hid (fun (W : World) (vt1 : Value) (h : PAt W p s es d b wc cl vt1 ve) => open_new h 32 32 [.word ⟨#[64, 116, 101, 120, 116]⟩] 1 [.string ⟨#[64, 116, 101, 120, 116]⟩, .int .u8 0, .nilFunc] rfl rfl rfl (by decide) (by (try simp only [List.length_append, List.length_cons, List.length_nil]); omega) (by omega) (by omega))
      clear hs hes hd1 hd2
      go_enter Try.func159, Try.ntmps159
      go_wp2_with (first
       | (go_at_call 28; (with_reducible refine Calls.mono (word_any _ _) ?_); rintro e w9 ⟨rfl, hb⟩; replace HP := Lib.hid (HP.out.below hb); replace HS := Lib.hid (HS.out.trans (PStep.below hb)); clear hb)
       | (go_at_call 29; (with_reducible refine Calls.mono (rule_any _ _) ?_); rintro e w9 ⟨rfl, hb⟩; replace HP := Lib.hid (HP.out.below hb); replace HS := Lib.hid (HS.out.trans (PStep.below hb)); clear hb)
       | (go_at_call 48; (with_reducible refine Calls.mono (HO0.out _ _ HP.out) ?_); rintro e w9 ⟨rfl, vt9, ve9, hP9, hs9⟩; replace HP := Lib.hid hP9; replace HS := Lib.hid (HS.out.trans hs9); clear hP9 hs9))
      go_ret
      exact ⟨rfl, _, _, by simpa [effs, Eff.act] using HP.out, HS.out⟩
     ·rw [show RId.expand .r_factor ⟨#[64, 99, 104, 97, 114]⟩ = some [.opn 32 [.word ⟨#[64, 99, 104, 97, 114]⟩]] from rfl]
      have HO0 := Lib.hid (fun (W : World) (vt1 : Value) (h : PAt W p s es d b wc cl vt1 ve) => open_new h 32 32 [.word ⟨#[64, 99, 104, 97, 114]⟩] 1 [.string ⟨#[64, 99, 104, 97, 114]⟩, .int .u8 0, .nilFunc] rfl rfl rfl (by decide) (by (try simp only [List.length_append, List.length_cons, List.length_nil]); omega) (by omega) (by omega))
      clear hs hes hd1 hd2
      go_enter Try.func159, Try.ntmps159
      go_wp2_with (first
       | (go_at_call 28; (with_reducible refine Calls.mono (word_any _ _) ?_); rintro e w9 ⟨rfl, hb⟩; replace HP := Lib.hid (HP.out.below hb); replace HS := Lib.hid (HS.out.trans (PStep.below hb)); clear hb)
       | (go_at_call 29; (with_reducible refine Calls.mono (rule_any _ _) ?_); rintro e w9 ⟨rfl, hb⟩; replace HP := Lib.hid (HP.out.below hb); replace HS := Lib.hid (HS.out.trans (PStep.below hb)); clear hb)
       | (go_at_call 48; (with_reducible refine Calls.mono (HO0.out _ _ HP.out) ?_); rintro e w9 ⟨rfl, vt9, ve9, hP9, hs9⟩; replace HP := Lib.hid hP9; replace HS := Lib.hid (HS.out.trans hs9); clear hP9 hs9))
      go_ret
      exact ⟨rfl, _, _, by simpa [effs, Eff.act] using HP.out, HS.out⟩
    ·skip
     rw [show RId.expand .r_factor c = some [.opn 28 [.word ⟨#[64, 110, 97, 109, 101]⟩, .rule .r_selected]] by simp only [RId.expand]; rw [if_neg h1]; rw [if_neg h2]; rw [if_neg h3]; rw [if_neg h4]]
     have e0 := ne_lit h1
     have e1 := ne_lit h2
     have e2 := ne_lit h3
     have e3_0 := ne_lit (l := [64, 110, 117, 109, 98, 101, 114]) (fun e => h4 (.inl e))
     have e3_1 := ne_lit (l := [64, 116, 101, 120, 116]) (fun e => h4 (.inr (.inl e)))
     have e3_2 := ne_lit (l := [64, 99, 104, 97, 114]) (fun e => h4 (.inr (.inr e)))
     have HOB : Hid (Calls Try.prog 81 #[.pointer (some ⟨p, 0, none⟩), .string c] w (fun e w' => e = .returned (.bool true) ∧ ∃ vt' ve', PAt w' p ([.word ⟨#[64, 110, 97, 109, 101]⟩, .rule .r_selected] ++ .fin 28 :: s) (es ++ [evOf (1, 28)]) (d + 1) b wc cl vt' ve' ∧ PStep p vt ve w vt' ve' w')) := Lib.hid (rule_object c p s es d b wc cl vt ve w HP.out ⟨hs, hes, hd1, hd2⟩)
     clear hs hes hd1 hd2
     go_enter Try.func159, Try.ntmps159
     go_wp2_with (go_at_call 81; (with_reducible refine Calls.mono HOB.out ?_); rintro e w9 ⟨rfl, vt9, ve9, hP9, hs9⟩; have HP9 := Lib.hid hP9; have HS9 := Lib.hid hs9; clear hP9 hs9)
     go_ret
     exact ⟨rfl, _, _, HP9.out, HS9.out⟩
set_option maxRecDepth 100000 in
set_option maxHeartbeats 4000000 in
theorem rule_selected : RuleAny .r_selected := by
 intro c p s es d b wc cl vt ve w HP0 HB0
 have HP := Lib.hid HP0
 have HS := Lib.hid (PStep.refl p vt ve w)
 obtain ⟨hs, hes, hd1, hd2⟩ := HB0
 clear HP0
 show Calls Try.prog 104 _ w (RulePost .r_selected c p s es d b wc cl vt ve w)
 unfold RulePost
 by_cases h1 : c = ⟨#[91]⟩
 ·subst h1
  rw [show RId.expand .r_selected ⟨#[91]⟩ = some [.push [.rule .r_selected], .opn 29 [.word ⟨#[91]⟩, .rule .r_expr, .rule .r_exprs, .word ⟨#[93]⟩]] from rfl]
  have HO0 := Lib.hid (fun (W : World) (vt1 : Value) (h : PAt W p s es d b wc cl vt1 ve) => push_new h [.rule .r_selected] 1 [.string ⟨#[]⟩, .int .u8 0, .func (.func 104) #[] #[]] rfl rfl (by decide) (by (try simp only [List.length_append, List.length_cons, List.length_nil]); omega))
  have HO1 := Lib.hid (fun (W : World) (vt1 : Value) (h : PAt W p ([.rule .r_selected] ++ s) es d b wc cl vt1 ve) => open_new h 29 29 [.word ⟨#[91]⟩, .rule .r_expr, .rule .r_exprs, .word ⟨#[93]⟩] 4 [.string ⟨#[91]⟩, .int .u8 0, .nilFunc, .string ⟨#[]⟩, .int .u8 0, .func (.func 78) #[] #[], .string ⟨#[]⟩, .int .u8 0, .func (.func 129) #[] #[], .string ⟨#[93]⟩, .int .u8 0, .nilFunc] rfl rfl rfl (by decide) (by (try simp only [List.length_append, List.length_cons, List.length_nil]); omega) (by omega) (by omega))
  clear hs hes hd1 hd2
  go_enter Try.func104, Try.ntmps104
  go_wp2_with (first
   | (go_at_call 28; (with_reducible refine Calls.mono (word_any _ _) ?_); rintro e w9 ⟨rfl, hb⟩; replace HP := Lib.hid (HP.out.below hb); replace HS := Lib.hid (HS.out.trans (PStep.below hb)); clear hb)
   | (go_at_call 29; (with_reducible refine Calls.mono (rule_any _ _) ?_); rintro e w9 ⟨rfl, hb⟩; replace HP := Lib.hid (HP.out.below hb); replace HS := Lib.hid (HS.out.trans (PStep.below hb)); clear hb)
   | (go_at_call 27; (with_reducible refine Calls.mono (HO0.out _ _ HP.out) ?_); rintro e w9 ⟨rfl, vt9, hP9, hs9⟩; replace HP := Lib.hid hP9; replace HS := Lib.hid (HS.out.trans hs9); clear hP9 hs9)
   | (go_at_call 48; (with_reducible refine Calls.mono (HO1.out _ _ HP.out) ?_); rintro e w9 ⟨rfl, vt9, ve9, hP9, hs9⟩; replace HP := Lib.hid hP9; replace HS := Lib.hid (HS.out.trans hs9); clear hP9 hs9))
  go_ret
  exact ⟨rfl, _, _, by simpa [effs, Eff.act] using HP.out, HS.out⟩
 ·skip
  by_cases h2 : c = ⟨#[46]⟩
  ·subst h2
   rw [show RId.expand .r_selected ⟨#[46]⟩ = some [.push [.rule .r_selected], .opn 30 [.word ⟨#[46]⟩, .word ⟨#[64, 110, 97, 109, 101]⟩]] from rfl]
   have HO0 := Lib.hid (fun (W : World) (vt1 : Value) (h : PAt W p s es d b wc cl vt1 ve) => push_new h [.rule .r_selected] 1 [.string ⟨#[]⟩, .int .u8 0, .func (.func 104) #[] #[]] rfl rfl (by decide) (by (try simp only [List.length_append, List.length_cons, List.length_nil]); omega))
   have HO1 := Lib.hid (fun (W : World) (vt1 : Value) (h : PAt W p ([.rule .r_selected] ++ s) es d b wc cl vt1 ve) => open_new h 30 30 [.word ⟨#[46]⟩, .word ⟨#[64, 110, 97, 109, 101]⟩] 2 [.string ⟨#[46]⟩, .int .u8 0, .nilFunc, .string ⟨#[64, 110, 97, 109, 101]⟩, .int .u8 0, .nilFunc] rfl rfl rfl (by decide) (by (try simp only [List.length_append, List.length_cons, List.length_nil]); omega) (by omega) (by omega))
   clear hs hes hd1 hd2
   go_enter Try.func104, Try.ntmps104
   go_wp2_with (first
    | (go_at_call 28; (with_reducible refine Calls.mono (word_any _ _) ?_); rintro e w9 ⟨rfl, hb⟩; replace HP := Lib.hid (HP.out.below hb); replace HS := Lib.hid (HS.out.trans (PStep.below hb)); clear hb)
    | (go_at_call 29; (with_reducible refine Calls.mono (rule_any _ _) ?_); rintro e w9 ⟨rfl, hb⟩; replace HP := Lib.hid (HP.out.below hb); replace HS := Lib.hid (HS.out.trans (PStep.below hb)); clear hb)
    | (go_at_call 27; (with_reducible refine Calls.mono (HO0.out _ _ HP.out) ?_); rintro e w9 ⟨rfl, vt9, hP9, hs9⟩; replace HP := Lib.hid hP9; replace HS := Lib.hid (HS.out.trans hs9); clear hP9 hs9)
    | (go_at_call 48; (with_reducible refine Calls.mono (HO1.out _ _ HP.out) ?_); rintro e w9 ⟨rfl, vt9, ve9, hP9, hs9⟩; replace HP := Lib.hid hP9; replace HS := Lib.hid (HS.out.trans hs9); clear hP9 hs9))
   go_ret
   exact ⟨rfl, _, _, by simpa [effs, Eff.act] using HP.out, HS.out⟩
  ·skip
   by_cases h3 : c = ⟨#[40]⟩
   ·subst h3
    rw [show RId.expand .r_selected ⟨#[40]⟩ = some [.push [.rule .r_selected], .opn 31 [.word ⟨#[40]⟩, .rule .r_args, .word ⟨#[41]⟩]] from rfl]
    have HO0 := Lib.hid (fun (W : World) (vt1 : Value) (h : PAt W p s es d b wc cl vt1 ve) => push_new h [.rule .r_selected] 1 [.string ⟨#[]⟩, .int .u8 0, .func (.func 104) #[] #[]] rfl rfl (by decide) (by (try simp only [List.length_append, List.length_cons, List.length_nil]); omega))
    have HO1 := Lib.hid (fun (W : World) (vt1 : Value) (h : PAt W p ([.rule .r_selected] ++ s) es d b wc cl vt1 ve) => open_new h 31 31 [.word ⟨#[40]⟩, .rule .r_args, .word ⟨#[41]⟩] 3 [.string ⟨#[40]⟩, .int .u8 0, .nilFunc, .string ⟨#[]⟩, .int .u8 0, .func (.func 130) #[] #[], .string ⟨#[41]⟩, .int .u8 0, .nilFunc] rfl rfl rfl (by decide) (by (try simp only [List.length_append, List.length_cons, List.length_nil]); omega) (by omega) (by omega))
    clear hs hes hd1 hd2
    go_enter Try.func104, Try.ntmps104
    go_wp2_with (first
     | (go_at_call 28; (with_reducible refine Calls.mono (word_any _ _) ?_); rintro e w9 ⟨rfl, hb⟩; replace HP := Lib.hid (HP.out.below hb); replace HS := Lib.hid (HS.out.trans (PStep.below hb)); clear hb)
     | (go_at_call 29; (with_reducible refine Calls.mono (rule_any _ _) ?_); rintro e w9 ⟨rfl, hb⟩; replace HP := Lib.hid (HP.out.below hb); replace HS := Lib.hid (HS.out.trans (PStep.below hb)); clear hb)
     | (go_at_call 27; (with_reducible refine Calls.mono (HO0.out _ _ HP.out) ?_); rintro e w9 ⟨rfl, vt9, hP9, hs9⟩; replace HP := Lib.hid hP9; replace HS := Lib.hid (HS.out.trans hs9); clear hP9 hs9)
     | (go_at_call 48; (with_reducible refine Calls.mono (HO1.out _ _ HP.out) ?_); rintro e w9 ⟨rfl, vt9, ve9, hP9, hs9⟩; replace HP := Lib.hid hP9; replace HS := Lib.hid (HS.out.trans hs9); clear hP9 hs9))
    go_ret
    exact ⟨rfl, _, _, by simpa [effs, Eff.act] using HP.out, HS.out⟩
   ·skip
    rw [show RId.expand .r_selected c = some [] by simp only [RId.expand]; rw [if_neg h1]; rw [if_neg h2]; rw [if_neg h3]]
    have e0 := ne_lit h1
    have e1 := ne_lit h2
    have e2 := ne_lit h3
    clear hs hes hd1 hd2
    go_enter Try.func104, Try.ntmps104
    go_wp2_with (first
     | (go_at_call 28; (with_reducible refine Calls.mono (word_any _ _) ?_); rintro e w9 ⟨rfl, hb⟩; replace HP := Lib.hid (HP.out.below hb); replace HS := Lib.hid (HS.out.trans (PStep.below hb)); clear hb)
     | (go_at_call 29; (with_reducible refine Calls.mono (rule_any _ _) ?_); rintro e w9 ⟨rfl, hb⟩; replace HP := Lib.hid (HP.out.below hb); replace HS := Lib.hid (HS.out.trans (PStep.below hb)); clear hb))
    go_ret
    exact ⟨rfl, _, _, by simpa [effs, Eff.act] using HP.out, HS.out⟩
set_option maxRecDepth 100000 in
set_option maxHeartbeats 4000000 in
theorem rule_args : RuleAny .r_args := by
 intro c p s es d b wc cl vt ve w HP0 HB0
 have HP := Lib.hid HP0
 have HS := Lib.hid (PStep.refl p vt ve w)
 obtain ⟨hs, hes, hd1, hd2⟩ := HB0
 clear HP0
 show Calls Try.prog 130 _ w (RulePost .r_args c p s es d b wc cl vt ve w)
 unfold RulePost
 by_cases h1 : c = ⟨#[64, 110, 117, 109, 98, 101, 114]⟩ ∨ c = ⟨#[64, 116, 101, 120, 116]⟩ ∨ c = ⟨#[64, 99, 104, 97, 114]⟩ ∨ c = ⟨#[64, 110, 97, 109, 101]⟩ ∨ c = ⟨#[45]⟩ ∨ c = ⟨#[110, 111, 116]⟩ ∨ c = ⟨#[40]⟩
 ·rw [show RId.expand .r_args c = some [.push [.rule .r_expr, .rule .r_exprs]] by simp only [RId.expand]; rw [if_pos h1]]
  have hin : inL c [⟨#[64, 110, 117, 109, 98, 101, 114]⟩, ⟨#[64, 116, 101, 120, 116]⟩, ⟨#[64, 99, 104, 97, 114]⟩, ⟨#[64, 110, 97, 109, 101]⟩, ⟨#[45]⟩, ⟨#[110, 111, 116]⟩, ⟨#[40]⟩] = true := (inL_iff _ _).2 (by simpa using h1)
  have HAM := Lib.hid (fun (W : World) => begins_any W c)
  rw [hin] at HAM
  clear hin
  have HO0 := Lib.hid (fun (W : World) (vt1 : Value) (h : PAt W p s es d b wc cl vt1 ve) => push_new h [.rule .r_expr, .rule .r_exprs] 2 [.string ⟨#[]⟩, .int .u8 0, .func (.func 78) #[] #[], .string ⟨#[]⟩, .int .u8 0, .func (.func 129) #[] #[]] rfl rfl (by decide) (by (try simp only [List.length_append, List.length_cons, List.length_nil]); omega))
  clear hs hes hd1 hd2
  go_enter Try.func130, Try.ntmps130
  go_wp2_with (first
   | (go_at_call 105; (with_reducible refine Calls.mono (HAM.out _) ?_); rintro e w9 ⟨rfl, hb⟩; replace HP := Lib.hid (HP.out.below hb); replace HS := Lib.hid (HS.out.trans (PStep.below hb)); clear hb)
   | (go_at_call 28; (with_reducible refine Calls.mono (word_any _ _) ?_); rintro e w9 ⟨rfl, hb⟩; replace HP := Lib.hid (HP.out.below hb); replace HS := Lib.hid (HS.out.trans (PStep.below hb)); clear hb)
   | (go_at_call 29; (with_reducible refine Calls.mono (rule_any _ _) ?_); rintro e w9 ⟨rfl, hb⟩; replace HP := Lib.hid (HP.out.below hb); replace HS := Lib.hid (HS.out.trans (PStep.below hb)); clear hb)
   | (go_at_call 27; (with_reducible refine Calls.mono (HO0.out _ _ HP.out) ?_); rintro e w9 ⟨rfl, vt9, hP9, hs9⟩; replace HP := Lib.hid hP9; replace HS := Lib.hid (HS.out.trans hs9); clear hP9 hs9))
  go_ret
  exact ⟨rfl, _, _, by simpa [effs, Eff.act] using HP.out, HS.out⟩
 ·skip
  rw [show RId.expand .r_args c = some [] by simp only [RId.expand]; rw [if_neg h1]]
  have hin : inL c [⟨#[64, 110, 117, 109, 98, 101, 114]⟩, ⟨#[64, 116, 101, 120, 116]⟩, ⟨#[64, 99, 104, 97, 114]⟩, ⟨#[64, 110, 97, 109, 101]⟩, ⟨#[45]⟩, ⟨#[110, 111, 116]⟩, ⟨#[40]⟩] = false := inL_no (fun h => h1 (by simpa using h))
  have HAM := Lib.hid (fun (W : World) => begins_any W c)
  rw [hin] at HAM
  clear hin
  clear hs hes hd1 hd2
  go_enter Try.func130, Try.ntmps130
  go_wp2_with (first
   | (go_at_call 105; (with_reducible refine Calls.mono (HAM.out _) ?_); rintro e w9 ⟨rfl, hb⟩; replace HP := Lib.hid (HP.out.below hb); replace HS := Lib.hid (HS.out.trans (PStep.below hb)); clear hb)
   | (go_at_call 28; (with_reducible refine Calls.mono (word_any _ _) ?_); rintro e w9 ⟨rfl, hb⟩; replace HP := Lib.hid (HP.out.below hb); replace HS := Lib.hid (HS.out.trans (PStep.below hb)); clear hb)
   | (go_at_call 29; (with_reducible refine Calls.mono (rule_any _ _) ?_); rintro e w9 ⟨rfl, hb⟩; replace HP := Lib.hid (HP.out.below hb); replace HS := Lib.hid (HS.out.trans (PStep.below hb)); clear hb))
  go_ret
  exact ⟨rfl, _, _, by simpa [effs, Eff.act] using HP.out, HS.out⟩
set_option maxRecDepth 100000 in
set_option maxHeartbeats 4000000 in
theorem rule_exprs : RuleAny .r_exprs := by
 intro c p s es d b wc cl vt ve w HP0 HB0
 have HP := Lib.hid HP0
 have HS := Lib.hid (PStep.refl p vt ve w)
 obtain ⟨hs, hes, hd1, hd2⟩ := HB0
 clear HP0
 show Calls Try.prog 129 _ w (RulePost .r_exprs c p s es d b wc cl vt ve w)
 unfold RulePost
 by_cases h1 : c = ⟨#[44]⟩
 ·subst h1
  rw [show RId.expand .r_exprs ⟨#[44]⟩ = some [.push [.word ⟨#[44]⟩, .rule .r_expr, .rule .r_exprs]] from rfl]
  have HO0 := Lib.hid (fun (W : World) (vt1 : Value) (h : PAt W p s es d b wc cl vt1 ve) => push_new h [.word ⟨#[44]⟩, .rule .r_expr, .rule .r_exprs] 3 [.string ⟨#[44]⟩, .int .u8 0, .nilFunc, .string ⟨#[]⟩, .int .u8 0, .func (.func 78) #[] #[], .string ⟨#[]⟩, .int .u8 0, .func (.func 129) #[] #[]] rfl rfl (by decide) (by (try simp only [List.length_append, List.length_cons, List.length_nil]); omega))
  clear hs hes hd1 hd2
  go_enter Try.func129, Try.ntmps129
  go_wp2_with (first
   | (go_at_call 28; (with_reducible refine Calls.mono (word_any _ _) ?_); rintro e w9 ⟨rfl, hb⟩; replace HP := Lib.hid (HP.out.below hb); replace HS := Lib.hid (HS.out.trans (PStep.below hb)); clear hb)
   | (go_at_call 29; (with_reducible refine Calls.mono (rule_any _ _) ?_); rintro e w9 ⟨rfl, hb⟩; replace HP := Lib.hid (HP.out.below hb); replace HS := Lib.hid (HS.out.trans (PStep.below hb)); clear hb)
   | (go_at_call 27; (with_reducible refine Calls.mono (HO0.out _ _ HP.out) ?_); rintro e w9 ⟨rfl, vt9, hP9, hs9⟩; replace HP := Lib.hid hP9; replace HS := Lib.hid (HS.out.trans hs9); clear hP9 hs9))
  go_ret
  exact ⟨rfl, _, _, by simpa [effs, Eff.act] using HP.out, HS.out⟩
 ·skip
  rw [show RId.expand .r_exprs c = some [] by simp only [RId.expand]; rw [if_neg h1]]
  have e0 := ne_lit h1
  clear hs hes hd1 hd2
  go_enter Try.func129, Try.ntmps129
  go_wp2_with (first
   | (go_at_call 28; (with_reducible refine Calls.mono (word_any _ _) ?_); rintro e w9 ⟨rfl, hb⟩; replace HP := Lib.hid (HP.out.below hb); replace HS := Lib.hid (HS.out.trans (PStep.below hb)); clear hb)
   | (go_at_call 29; (with_reducible refine Calls.mono (rule_any _ _) ?_); rintro e w9 ⟨rfl, hb⟩; replace HP := Lib.hid (HP.out.below hb); replace HS := Lib.hid (HS.out.trans (PStep.below hb)); clear hb))
  go_ret
  exact ⟨rfl, _, _, by simpa [effs, Eff.act] using HP.out, HS.out⟩
end Go.Proofs.Ytmjbpgnjgblnmaa
namespace Go.Proofs.Ytmjbpgnjgblnmaa
open Go.RowKit Go.Proofs.YtmjbpgnjgblnmaaW.PrintWords Go.Proofs.YtmjbpgnjgblnmaaW.PrintLast Go.Proofs.YtmjbpgnjgblnmaaW.PrintMore
theorem rule_all (f : RId) : RuleAny f := by
 cases f
 case r_block => exact rule_block
 case r_declarations => exact rule_declarations
 case r_declaration => exact rule_declaration
 case r_names => exact rule_names
 case r_params => exact rule_params
 case r_moreParams => exact rule_moreParams
 case r_param => exact rule_param
 case r_typed => exact rule_typed
 case r_kind => exact rule_kind
 case r_member => exact rule_member
 case r_members => exact rule_members
 case r_body => exact rule_body
 case r_statements => exact rule_statements
 case r_statement => exact rule_statement
 case r_assigned => exact rule_assigned
 case r_elses => exact rule_elses
 case r_maybe => exact rule_maybe
 case r_expr => exact rule_expr
 case r_rels => exact rule_rels
 case r_rel => exact rule_rel
 case r_compared => exact rule_compared
 case r_sum => exact rule_sum
 case r_terms => exact rule_terms
 case r_term => exact rule_term
 case r_factors => exact rule_factors
 case r_factor => exact rule_factor
 case r_object => exact rule_object
 case r_selected => exact rule_selected
 case r_args => exact rule_args
 case r_exprs => exact rule_exprs
theorem rule_enter (f : RId) (args : Array Value) (w : World) : (callFunc f.num args).run Try.prog w = .ok (.enter f.num args) w := by
 cases f
 case r_block => exact enters_ Try.func30 (by kernel_rfl) rfl args w
 case r_declarations => exact enters_ Try.func49 (by kernel_rfl) rfl args w
 case r_declaration => exact enters_ Try.func66 (by kernel_rfl) rfl args w
 case r_names => exact enters_ Try.func76 (by kernel_rfl) rfl args w
 case r_params => exact enters_ Try.func79 (by kernel_rfl) rfl args w
 case r_moreParams => exact enters_ Try.func103 (by kernel_rfl) rfl args w
 case r_param => exact enters_ Try.func102 (by kernel_rfl) rfl args w
 case r_typed => exact enters_ Try.func80 (by kernel_rfl) rfl args w
 case r_kind => exact enters_ Try.func77 (by kernel_rfl) rfl args w
 case r_member => exact enters_ Try.func98 (by kernel_rfl) rfl args w
 case r_members => exact enters_ Try.func99 (by kernel_rfl) rfl args w
 case r_body => exact enters_ Try.func50 (by kernel_rfl) rfl args w
 case r_statements => exact enters_ Try.func68 (by kernel_rfl) rfl args w
 case r_statement => exact enters_ Try.func67 (by kernel_rfl) rfl args w
 case r_assigned => exact enters_ Try.func82 (by kernel_rfl) rfl args w
 case r_elses => exact enters_ Try.func83 (by kernel_rfl) rfl args w
 case r_maybe => exact enters_ Try.func84 (by kernel_rfl) rfl args w
 case r_expr => exact enters_ Try.func78 (by kernel_rfl) rfl args w
 case r_rels => exact enters_ Try.func101 (by kernel_rfl) rfl args w
 case r_rel => exact enters_ Try.func100 (by kernel_rfl) rfl args w
 case r_compared => exact enters_ Try.func128 (by kernel_rfl) rfl args w
 case r_sum => exact enters_ Try.func127 (by kernel_rfl) rfl args w
 case r_terms => exact enters_ Try.func149 (by kernel_rfl) rfl args w
 case r_term => exact enters_ Try.func148 (by kernel_rfl) rfl args w
 case r_factors => exact enters_ Try.func160 (by kernel_rfl) rfl args w
 case r_factor => exact enters_ Try.func159 (by kernel_rfl) rfl args w
 case r_object => exact enters_ Try.func81 (by kernel_rfl) rfl args w
 case r_selected => exact enters_ Try.func104 (by kernel_rfl) rfl args w
 case r_args => exact enters_ Try.func130 (by kernel_rfl) rfl args w
 case r_exprs => exact enters_ Try.func129 (by kernel_rfl) rfl args w
end Go.Proofs.Ytmjbpgnjgblnmaa
namespace Go.Proofs.Ytmjbpgnjgblnmaa
open Go.RowKit Go.Proofs.YtmjbpgnjgblnmaaW.PrintWords Go.Proofs.YtmjbpgnjgblnmaaW.PrintLast Go.Proofs.YtmjbpgnjgblnmaaW.PrintMore
theorem code_some (t : Tk) : PParsePuts.parse_code.f t.f0 t.f1 t.f2.f0 t.f2.f1 t.f2.f2 t.f3 = some (codeOf t) := by
 have h : (PParsePuts.parse_code.f t.f0 t.f1 t.f2.f0 t.f2.f1 t.f2.f2 t.f3).isSome = true := by
  unfold PParsePuts.parse_code.f
  repeat' split
  all_goals first | rfl | (exfalso; omega)
 obtain ⟨x, hx⟩ := Option.isSome_iff_exists.1 h
 unfold codeOf
 rw [hx]
 rfl
def Ends (l : List WT) : Prop := ∀ k, WT.fin k ∈ l → k ≠ 0
theorem Ends.tail {x : WT} {l : List WT} (h : Ends (x :: l)) : Ends l := fun k hk => h k (List.mem_cons_of_mem _ hk)
theorem expand_ends {f : RId} {c : ByteArray} {l : List Eff} (h : f.expand c = some l) {s : PSt} (hs : Ends s.todo) : Ends (effs s l).todo := by
 cases f
 all_goals
  simp only [RId.expand] at h
  repeat' split at h
 all_goals first
  | (cases h; done)
  | (cases h; intro k hk; simp only [effs, List.foldl, Eff.act, List.mem_append, List.mem_cons, List.not_mem_nil, or_false, reduceCtorEq, false_or, WT.fin.injEq] at hk; first | exact hs k hk | (rcases hk with hk | hk <;> first | exact hs k hk | (rw [hk]; decide)))
theorem turn_ends {c : ByteArray} {s s' : PSt} (h : turn c s = .on s') (hs : Ends s.todo) : Ends s'.todo := by
 unfold turn at h
 split at h
 ·cases h
 ·split at h <;> cases h
 ·rename_i k r hr
  cases h
  rw [hr] at hs
  exact hs.tail
 ·rename_i f r hr
  rw [hr] at hs
  split at h
  ·cases h
  ·rename_i l hl
   cases h
   exact expand_ends hl hs.tail
theorem neq_nil (w : World) : (binOp .neq 69 .nilFunc .nilFunc).run Try.prog w = .ok (.bool false) w := by kernel_rfl
theorem neq_func (f : Fn) (a b : Array Value) (w : World) : (binOp .neq 69 (.func f a b) .nilFunc).run Try.prog w = .ok (.bool true) w := by kernel_rfl
theorem box_new {wr Wd : World} (hb : Below wr.heap.size wr Wd) (T : TypeId) (z cs : List Value) (hz : z.length = cs.length) : (∃ cur : Array Value, (Wd.alloc (.cells z.toArray T)).heap[Wd.heap.size]? = some (.cells cur T (0, 0)) ∧ 0 + cs.length ≤ cur.size) ∧ ∀ V, V = (Wd.alloc (.cells z.toArray T)).setCells Wd.heap.size 0 cs → Below wr.heap.size wr V ∧ V.heap[Wd.heap.size]? = some (.cells cs.toArray T (0, 0)) := by
 have hn := World.alloc_heap_new Wd (.cells z.toArray T)
 refine ⟨⟨_, hn, by simp [hz]⟩, ?_⟩
 rintro _ rfl
 obtain ⟨cur', k1, k2, k3⟩ := setCells_row cs 0 _ _ hn (by simp [hz])
 have hs := setCells_same Wd.heap.size cs 0 (Wd.alloc (.cells z.toArray T))
 have hb1 : Below wr.heap.size wr (Wd.alloc (.cells z.toArray T)) := hb.alloc hb.size _
 refine ⟨⟨hs.1.trans hb1.os, hs.2.1.trans hb1.tape, hs.2.2.1.trans hb1.output, by rw [hs.2.2.2]; exact hb1.size, fun q hq => (setCells_far cs 0 q (by have := hb.size; omega)).trans (hb1.block q hq)⟩, ?_⟩
 rw [k1]
 congr 2
 apply Array.toList_inj.1
 rw [k3, List.take_zero, List.nil_append, List.drop_of_length_le (by simp [hz]), List.append_nil]
theorem effs_evs : ∀ (l : List Eff) (s : PSt) (e0 : List (Nat × Nat)), effs { s with evs := e0 ++ s.evs } l = { effs s l with evs := e0 ++ (effs s l).evs }
 | [], s, e0 => rfl
 | .push w :: l, s, e0 => effs_evs l { s with todo := w ++ s.todo } e0
 | .opn k w :: l, s, e0 => by
  have := effs_evs l { todo := w ++ .fin k :: s.todo, evs := s.evs ++ [(1, k)], depth := s.depth + 1 } e0
  simp only [effs, List.foldl, Eff.act] at this ⊢
  rw [← this, List.append_assoc]
theorem effs_evs0 (l : List Eff) (s : PSt) (r : List WT) : effs { s with todo := r } l = { todo := (effs ⟨r, [], s.depth⟩ l).todo, evs := s.evs ++ (effs ⟨r, [], s.depth⟩ l).evs, depth := (effs ⟨r, [], s.depth⟩ l).depth } := by
 have := effs_evs l ⟨r, [], s.depth⟩ s.evs
 simpa using this
theorem PStep.keep {w w' : World} {p gA : Nat} {s : List WT} {es : List Ev} {d : Int} {b : Bool} {wc : Int} {cl : Bool} {vt ve vt' ve' : Value} {A : Array Value} {T : TypeId} (h : PStep p vt ve w vt' ve' w') (H : PAt w p s es d b wc cl vt ve) (hA : w.heap[gA]? = some (.cells A T (0, 0))) (h1 : T ≠ 67) (h2 : T ≠ 71) (h3 : T ≠ 46) : w'.heap[gA]? = some (.cells A T (0, 0)) := by
 refine (h.block gA (blk_lt hA) (fun e => ?_) (fun e => ?_) (fun e => ?_)).trans hA
 ·rw [e, H.box] at hA; exact h1 (cells_ty hA).symm
 ·obtain ⟨cs, hc⟩ := own_typed H.todo gA e.symm
  rw [hA] at hc; exact h2 (cells_ty hc)
 ·obtain ⟨cs, hc⟩ := own_typed H.evs gA e.symm
  rw [hA] at hc; exact h3 (cells_ty hc)
structure TokI (p : Nat) (W0 : World) (es : List Ev) (c : ByteArray) (b : Bool) (wc : Int) (cl : Bool) (vt0 ve0 : Value) (r : Bool × PSt) (k : Nat) (wr : World) (st : PSt) (vt ve : Value) : Prop where
 run : turns c k st = some r
 at_ : PAt wr p st.todo (es ++ st.evs.map evOf) st.depth b wc cl vt ve
 step : PStep p vt0 ve0 W0 vt ve wr
 ends : Ends st.todo
 bt : st.todo.length + 11 * k ≤ 137438953472
 be : es.length + st.evs.length + k ≤ 274877906944
 bd1 : -1152921504606846976 + k ≤ st.depth
 bd2 : st.depth + k ≤ 1152921504606846976
def TokPost (p : Nat) (s : List WT) (es : List Ev) (d : Int) (b : Bool) (wc : Int) (cl : Bool) (vt ve : Value) (t : Tk) (w : World) (e : Ending) (w' : World) : Prop :=
 e = .returned (.int .i64 (token t s d).1) ∧ ∃ vt' ve', PAt w' p (token t s d).2.todo (es ++ (token t s d).2.evs.map evOf ++ (if (token t s d).1 = 0 then [leafE t] else [])) (token t s d).2.depth b wc cl vt' ve' ∧ PStep p vt ve w vt' ve' w'
theorem row_slice {w : World} {base : Nat} {e : TypeId} {size n : Nat} {v : Value} {xs : List Value} (h : w.ownsRow base e size v n xs) : ∃ A c, v = .slice A n c ∧ n ≤ c := by
 rcases h.2 with ⟨rfl, rfl⟩ | ⟨g, cap, cur, rfl, _, _, hl, _⟩
 ·exact ⟨none, 0, rfl, Nat.le_refl _⟩
 ·exact ⟨_, cap, rfl, hl⟩
set_option maxRecDepth 100000 in
set_option maxHeartbeats 8000000 in
theorem token_any (p : Nat) (s : List WT) (es : List Ev) (d : Int) (b : Bool) (wc : Int) (cl : Bool) (vt ve : Value) (t : Tk) (w : World) (hP : PAt w p s es d b wc cl vt ve) (hs : s.length ≤ 4294967296) (hes : es.length ≤ 4294967296) (hd : -4294967296 ≤ d ∧ d ≤ 4294967296) (hE : Ends s) :
  Calls Try.prog 46 #[.pointer (some ⟨p, 0, none⟩), .agg #[.int .u8 t.f0, .string t.f1, .int .i64 t.f2.f0, .int .i64 t.f2.f1, .int .i64 t.f2.f2, .int .i64 t.f3]] w (TokPost p s es d b wc cl vt ve t w) := by
 obtain ⟨r, hr, hrl⟩ := some_len (codeOf t) s.length ⟨s, [], d⟩ rfl
 obtain ⟨h1, h2, -⟩ := hP.fresh (.cells #[.int .u8 t.f0, .string t.f1, .int .i64 t.f2.f0, .int .i64 t.f2.f1, .int .i64 t.f2.f2, .int .i64 t.f3] 35)
 obtain ⟨W0, hW0⟩ : ∃ V, w.alloc (.cells #[.int .u8 t.f0, .string t.f1, .int .i64 t.f2.f0, .int .i64 t.f2.f1, .int .i64 t.f2.f2, .int .i64 t.f3] 35) = V := ⟨_, rfl⟩
 have hT0 : W0.heap[w.heap.size]? = some (.cells #[.int .u8 t.f0, .string t.f1, .int .i64 t.f2.f0, .int .i64 t.f2.f1, .int .i64 t.f2.f2, .int .i64 t.f3] 35 (0, 0)) := by rw [← hW0]; exact World.alloc_heap_new _ _
 rw [hW0] at h1 h2
 have HW0 := Lib.hid hW0
 have HT0 := Lib.hid hT0
 have HP0 := Lib.hid h1
 have HS0 := Lib.hid h2
 have HR := Lib.hid hr
 have HE := Lib.hid hE
 have HBD := Lib.hid (And.intro hs (And.intro hes hd))
 obtain ⟨q0, q1, q2, q3, q4, q5⟩ : W0.cell? ⟨w.heap.size, 0, none⟩ = some (.int .u8 t.f0) ∧ W0.cell? ⟨w.heap.size, 1, none⟩ = some (.string t.f1) ∧ W0.cell? ⟨w.heap.size, 2, none⟩ = some (.int .i64 t.f2.f0) ∧ W0.cell? ⟨w.heap.size, 3, none⟩ = some (.int .i64 t.f2.f1) ∧ W0.cell? ⟨w.heap.size, 4, none⟩ = some (.int .i64 t.f2.f2) ∧ W0.cell? ⟨w.heap.size, 5, none⟩ = some (.int .i64 t.f3) := ⟨cell_of_row _ _ _ _ _ _ hT0, cell_of_row _ _ _ _ _ _ hT0, cell_of_row _ _ _ _ _ _ hT0, cell_of_row _ _ _ _ _ _ hT0, cell_of_row _ _ _ _ _ _ hT0, cell_of_row _ _ _ _ _ _ hT0⟩
 have HCD := Lib.hid (PParsePuts.parse_code.calls t.f0 t.f1 t.f2.f0 t.f2.f1 t.f2.f2 t.f3 (codeOf t) W0 (code_some t))
 clear hr hP hs hes hd hE h1 h2 hT0 hW0 hrl
 go_enter Try.func46, Try.ntmps46
 go_wp2
 rw [HW0.out]
 clear HW0
 go_step3
 go_wp2_with (go_at_call 64; (with_reducible refine Calls.mono HCD.out ?_); rintro e w1 ⟨rfl, hb⟩; have HB1 := Lib.hid hb; clear hb q0 q1 q2 q3 q4 q5)
 go_step3
 have HI0 : Hid (TokI p W0 es (codeOf t) b wc cl vt ve r (s.length + 7) w1 ⟨s, [], d⟩ vt ve) := Lib.hid (by
  obtain ⟨a1, a2, a3, a4⟩ := HBD.out
  exact ⟨HR.out, by simpa using HP0.out.below HB1.out, PStep.below HB1.out, HE.out, by show s.length + 11 * (s.length + 7) ≤ _; omega, by show es.length + 0 + (s.length + 7) ≤ _; omega, by show _ ≤ d; omega, by show d + _ ≤ _; omega⟩)
 go_wp2
 go_loopg [6] (s.length + 7) (fun kq v6 wr => Hid (∃ st vt1 ve1, TokI p W0 es (codeOf t) b wc cl vt ve r kq wr st vt1 ve1))
 case atStart => exact Lib.hid ⟨_, _, _, HI0.out⟩
 case round =>
  obtain ⟨st, vt1, ve1, H⟩ := hrel.out
  cases gk with
  | zero => exact absurd H.run (by simp [turns])
  | succ k =>
   have hrun := H.run
   rw [turns] at hrun
   cases hst : st.todo with
   | nil =>
    have ht := H.at_.todo
    rw [hst] at ht
    obtain ⟨A, cc, hv, -⟩ := row_slice ht
    rw [List.length_nil] at hv
    subst hv
    have hrr : (false, st) = r := by simpa [turn, hst] using hrun
    have htk : token t s d = (120, st) := by unfold token; rw [HR.out, ← hrr]
    obtain ⟨q0, q1, q2, q3, q4, q5⟩ := H.at_.cell
    have HH := Lib.hid H
    have HTK := Lib.hid htk
    clear H ht hrun hrr htk hrel HI0 HCD HR
    go_wp2
    rw [Exit.noGoto_ret]
    go_ret
    unfold TokPost
    rw [HTK.out]
    exact ⟨rfl, _, _, by simpa using HH.out.at_, HS0.out.trans HH.out.step⟩
   | cons x rest =>
    have ht := H.at_.todo
    rw [hst] at ht
    obtain ⟨g, cap, hv, hcap, hcm, hcells, hpop⟩ := todo_top ht
    subst hv
    obtain ⟨c0, c1, c2, hxc⟩ : ∃ c0 c1 c2, wCells x = [c0, c1, c2] := by cases x <;> exact ⟨_, _, _, rfl⟩
    have HH := Lib.hid H
    have HST := Lib.hid hst
    have HRUN := Lib.hid hrun
    have HXC := Lib.hid hxc
    have HPOP := Lib.hid hpop
    have HCAP := Lib.hid (And.intro hcap hcm)
    have HCL := Lib.hid hcells
    obtain ⟨q0, q1, q2, q3, q4, q5⟩ := H.at_.cell
    obtain ⟨R, hR⟩ : ∃ R, rest.length = R := ⟨_, rfl⟩
    rw [hR] at q0
    have HRR := Lib.hid hR
    have g0 : (0 : Int) < ((R + 1 : Nat) : Int) := by omega
    have g1 : (0 : Int) < (R : Int) + 1 := by omega
    have g2 : (0 : Int) ≤ (R : Int) := by omega
    have g3 : (R : Int) < (R : Int) + 1 := by omega
    have g4 : IntKind.i64.wrap (R : Int) = (R : Int) := by rw [IntKind.wrap_i64]; have := HH.out.bt; rw [HST.out, List.length_cons, HRR.out] at this; omega
    clear H ht hrun hst hxc hpop hcap hcm hcells hR hrel HI0 HCD
    go_upto_region 3 with (fail)
    obtain ⟨Wd, hWd⟩ : ∃ V, wr.drew = V := ⟨_, rfl⟩
    have hbd : Below wr.heap.size wr Wd := by rw [← hWd]; exact (Below.refl _ wr).drew
    have hSall : ∀ V, Below wr.heap.size wr V → V.cell? ⟨p, 0, none⟩ = some (.slice (some ⟨g, 0, none⟩) (R + 1) cap) ∧ V.cell? ⟨g, R * 3, none⟩ = some c0 ∧ V.cell? ⟨g, R * 3 + 1, none⟩ = some c1 ∧ V.cell? ⟨g, R * 3 + 2, none⟩ = some c2 := fun V hV => by
     have h0 := HCL.out 0 c0 (by rw [HXC.out]; rfl)
     have h1 := HCL.out 1 c1 (by rw [HXC.out]; rfl)
     have h2 := HCL.out 2 c2 (by rw [HXC.out]; rfl)
     rw [HRR.out] at h0 h1 h2
     exact ⟨pw_cell_below hV q0, pw_cell_below hV h0.1, pw_cell_below hV h1.1, pw_cell_below hV h2.1⟩
    have HSA := Lib.hid hSall
    have HS := Lib.hid (hSall Wd hbd)
    have HBD3 := Lib.hid hbd
    have HWd := Lib.hid hWd
    clear hSall hbd hWd
    refine wp_region_R (fun w' => w'.cell? ⟨p, 0, none⟩ = some (.slice (some ⟨g, 0, none⟩) (R + 1) cap) ∧ w'.cell? ⟨g, R * 3, none⟩ = some c0 ∧ w'.cell? ⟨g, R * 3 + 1, none⟩ = some c1 ∧ w'.cell? ⟨g, R * 3 + 2, none⟩ = some c2) (fun j => !(Nat.beq j 13)) (by kernel_rfl) ?_
    rw [HWd.out]
    refine anyR_take (i := 0) (oi := ⟨some 15, .move (.tmp 0), 24, "parse.go:124", #[], none⟩) (v := ?_) rfl (by kernel_rfl) (fun _ _ _ h => h) (Or.inl ⟨by rfl, ?_⟩) HS.out ?_
    rotate_left
    ·intro x h; (try dsimp only at h); go_simp; try (with_reducible rfl)
    try simp only [Act.put, List.setIfInBounds_toArray, List.set]
    refine anyR_take (i := 1) (oi := ⟨some 16, .nilCheck (.tmp 15), 0, "parse.go:124", #[⟨0, .data⟩], none⟩) (v := ?_) rfl (by kernel_rfl) (fun _ _ _ h => h) (Or.inl ⟨by rfl, ?_⟩) HS.out ?_
    rotate_left
    ·intro x h; (try dsimp only at h); go_simp; try (with_reducible rfl)
    try simp only [Act.put, List.setIfInBounds_toArray, List.set]
    refine anyR_take (i := 2) (oi := ⟨some 17, .fieldAddr 67 (.tmp 16) 0, 0, "parse.go:124", #[⟨1, .data⟩], none⟩) (v := ?_) rfl (by kernel_rfl) (fun _ _ _ h => h) (Or.inl ⟨by rfl, ?_⟩) HS.out ?_
    rotate_left
    ·intro x h; (try dsimp only at h); go_simp; try (with_reducible rfl)
    try simp only [Act.put, List.setIfInBounds_toArray, List.set]
    refine anyR_take (i := 3) (oi := ⟨some 18, .load 65 (.tmp 17), 65, "parse.go:124", #[⟨2, .data⟩], none⟩) (v := ?_) rfl (by kernel_rfl) (fun _ _ _ h => h) (Or.inl ⟨by rfl, ?_⟩) HS.out ?_
    rotate_left
    ·intro x h; (try dsimp only at h); go_simp; try (with_reducible rfl)
    try simp only [Act.put, List.setIfInBounds_toArray, List.set]
    refine anyR_take (i := 4) (oi := ⟨some 19, .move (.tmp 0), 24, "parse.go:124", #[], none⟩) (v := ?_) rfl (by kernel_rfl) (fun _ _ _ h => h) (Or.inl ⟨by rfl, ?_⟩) HS.out ?_
    rotate_left
    ·intro x h; (try dsimp only at h); go_simp; try (with_reducible rfl)
    try simp only [Act.put, List.setIfInBounds_toArray, List.set]
    refine anyR_take (i := 5) (oi := ⟨some 20, .nilCheck (.tmp 19), 0, "parse.go:124", #[⟨4, .data⟩], none⟩) (v := ?_) rfl (by kernel_rfl) (fun _ _ _ h => h) (Or.inl ⟨by rfl, ?_⟩) HS.out ?_
    rotate_left
    ·intro x h; (try dsimp only at h); go_simp; try (with_reducible rfl)
    try simp only [Act.put, List.setIfInBounds_toArray, List.set]
    refine anyR_take (i := 6) (oi := ⟨some 21, .fieldAddr 67 (.tmp 20) 0, 0, "parse.go:124", #[⟨5, .data⟩], none⟩) (v := ?_) rfl (by kernel_rfl) (fun _ _ _ h => h) (Or.inl ⟨by rfl, ?_⟩) HS.out ?_
    rotate_left
    ·intro x h; (try dsimp only at h); go_simp; try (with_reducible rfl)
    try simp only [Act.put, List.setIfInBounds_toArray, List.set]
    refine anyR_take (i := 7) (oi := ⟨some 22, .load 65 (.tmp 21), 65, "parse.go:124", #[⟨6, .data⟩], none⟩) (v := ?_) rfl (by kernel_rfl) (fun _ _ _ h => h) (Or.inl ⟨by rfl, ?_⟩) HS.out ?_
    rotate_left
    ·intro x h; (try dsimp only at h); go_simp; try (with_reducible rfl)
    try simp only [Act.put, List.setIfInBounds_toArray, List.set]
    refine anyR_take (i := 8) (oi := ⟨some 23, .call { callee := .builtin .len, args := #[.tmp 22], argTypes := #[65] }, 3, "parse.go:124", #[⟨7, .data⟩], none⟩) (v := ?_) rfl (by kernel_rfl) (fun _ _ _ h => h) (Or.inl ⟨by rfl, ?_⟩) HS.out ?_
    rotate_left
    ·intro x h; (try dsimp only at h); go_simp; try (with_reducible rfl)
    try simp only [Act.put, List.setIfInBounds_toArray, List.set]
    refine anyR_take (i := 9) (oi := ⟨some 24, .binOp .sub 3 (.tmp 23) (.const (.int .i64 1)) 3, 3, "parse.go:124", #[⟨8, .data⟩], none⟩) (v := ?_) rfl (by kernel_rfl) (fun _ _ _ h => h) (Or.inl ⟨by rfl, ?_⟩) HS.out ?_
    rotate_left
    ·intro x h; (try dsimp only at h); go_simp; try (with_reducible rfl)
    try simp only [Act.put, List.setIfInBounds_toArray, List.set]
    refine anyR_take (i := 10) (oi := ⟨some 25, .indexAddr 65 (.tmp 18) (.tmp 24), 0, "parse.go:124", #[⟨3, .data⟩, ⟨9, .data⟩], none⟩) (v := ?_) rfl (by kernel_rfl) (fun _ _ _ h => h) (Or.inl ⟨by rfl, ?_⟩) HS.out ?_
    rotate_left
    ·intro x h; (try dsimp only at h); go_simp; try (with_reducible rfl)
    try simp only [Act.put, List.setIfInBounds_toArray, List.set]
    refine anyR_take (i := 11) (oi := ⟨some 26, .load 71 (.tmp 25), 71, "parse.go:124", #[⟨10, .data⟩], none⟩) (v := ?_) rfl (by kernel_rfl) (fun _ _ _ h => h) (Or.inl ⟨by rfl, ?_⟩) HS.out ?_
    rotate_left
    ·intro x h; (try dsimp only at h); go_simp; try (with_reducible rfl)
    try simp only [Act.put, List.setIfInBounds_toArray, List.set]
    refine anyR_ready (rs := [12]) (by kernel_rfl) (by simp) ?_
    refine ReadyR.cons (o := ⟨some 6, .alloc 71, 0, "parse.go:124", #[], none⟩) rfl (fun K hK => ?_) ReadyR.nil
    go_simp
    refine hK.out _ _ (fun _ => HSA.out _ (HBD3.out.alloc HBD3.out.size _)) ?_
    clear hK K
    obtain ⟨⟨cur, hcur, hfit⟩, hbx⟩ := box_new HBD3.out 71 [.string ⟨#[]⟩, .int .u8 0, .nilFunc] [c0, c1, c2] rfl
    have HCU := Lib.hid (And.intro hcur hfit)
    have HBX := Lib.hid hbx
    clear hcur hfit hbx
    try simp only [Act.put, List.setIfInBounds_toArray, List.set]
    refine anyR_ready (rs := [13]) (by kernel_rfl) (by simp) ?_
    refine ReadyR.cons (o := ⟨none, .store 71 (.tmp 6) (.tmp 26), 0, "parse.go:124", #[⟨12, .data⟩, ⟨11, .data⟩, ⟨0, .phase⟩, ⟨1, .phase⟩, ⟨2, .phase⟩, ⟨3, .phase⟩, ⟨4, .phase⟩, ⟨5, .phase⟩, ⟨6, .phase⟩, ⟨7, .phase⟩, ⟨8, .phase⟩, ⟨9, .phase⟩, ⟨10, .phase⟩, ⟨11, .phase⟩, ⟨12, .phase⟩], none⟩) rfl (fun K hK => ?_) ReadyR.nil
    refine step_store rfl rfl 71 (.tmp 6) (.tmp 26) rfl (g := Wd.heap.size) (off := 0) (.agg #[c0, c1, c2]) [c0, c1, c2] rfl rfl rfl (by kernel_rfl) (fun v hv => wCells_one x v (by rw [HXC.out]; exact hv)) HCU.out.1 HCU.out.2 ?_
    have HN := Lib.hid (HBX.out _ rfl)
    refine hK.out _ _ (fun h => by cases h) ?_
    clear hK K HBX HCU HSA HS
    generalize (Wd.alloc (.cells [Value.string ⟨#[]⟩, .int .u8 0, .nilFunc].toArray 71)).setCells Wd.heap.size 0 [c0, c1, c2] = V3 at HN ⊢
    try simp only [Act.put, List.setIfInBounds_toArray, List.set]
    refine anyR_done (by kernel_rfl) ?_ _
    have HP3 := Lib.hid (HH.out.at_.below HN.out.1)
    clear q0 q1 q2 q3 q4 q5
    obtain ⟨q0, q1, q2, q3, q4, q5⟩ := HP3.out.cell
    rw [HRR.out] at q0
    have g5 : (R : Int) ≤ (cap : Int) := by have := HCAP.out.1; rw [HRR.out] at this; omega
    go_upto_region 4 with (fail)
    obtain ⟨W4, hW4⟩ : ∃ V, V3.drew = V := ⟨_, rfl⟩
    have hb4 : Below V3.heap.size V3 W4 := by rw [← hW4]; exact (Below.refl _ V3).drew
    have HB4 := Lib.hid hb4
    have HW4 := Lib.hid hW4
    have hS4 : W4.cell? ⟨p, 0, none⟩ = some (.slice (some ⟨g, 0, none⟩) (R + 1) cap) := pw_cell_below hb4 q0
    have HS4 := Lib.hid hS4
    clear hb4 hW4 hS4
    refine wp_region_R (fun w' => w'.cell? ⟨p, 0, none⟩ = some (.slice (some ⟨g, 0, none⟩) (R + 1) cap)) (fun j => !(Nat.beq j 14)) (by kernel_rfl) ?_
    rw [HW4.out]
    refine anyR_take (i := 0) (oi := ⟨some 27, .move (.tmp 0), 24, "parse.go:125", #[], none⟩) (v := ?_) rfl (by kernel_rfl) (fun _ _ _ h => h) (Or.inl ⟨by rfl, ?_⟩) HS4.out ?_
    rotate_left
    ·intro x h; (try dsimp only at h); go_simp; try (with_reducible rfl)
    try simp only [Act.put, List.setIfInBounds_toArray, List.set]
    refine anyR_take (i := 1) (oi := ⟨some 28, .move (.tmp 0), 24, "parse.go:125", #[], none⟩) (v := ?_) rfl (by kernel_rfl) (fun _ _ _ h => h) (Or.inl ⟨by rfl, ?_⟩) HS4.out ?_
    rotate_left
    ·intro x h; (try dsimp only at h); go_simp; try (with_reducible rfl)
    try simp only [Act.put, List.setIfInBounds_toArray, List.set]
    refine anyR_take (i := 2) (oi := ⟨some 29, .nilCheck (.tmp 28), 0, "parse.go:125", #[⟨1, .data⟩], none⟩) (v := ?_) rfl (by kernel_rfl) (fun _ _ _ h => h) (Or.inl ⟨by rfl, ?_⟩) HS4.out ?_
    rotate_left
    ·intro x h; (try dsimp only at h); go_simp; try (with_reducible rfl)
    try simp only [Act.put, List.setIfInBounds_toArray, List.set]
    refine anyR_take (i := 3) (oi := ⟨some 30, .fieldAddr 67 (.tmp 29) 0, 0, "parse.go:125", #[⟨2, .data⟩], none⟩) (v := ?_) rfl (by kernel_rfl) (fun _ _ _ h => h) (Or.inl ⟨by rfl, ?_⟩) HS4.out ?_
    rotate_left
    ·intro x h; (try dsimp only at h); go_simp; try (with_reducible rfl)
    try simp only [Act.put, List.setIfInBounds_toArray, List.set]
    refine anyR_take (i := 4) (oi := ⟨some 31, .load 65 (.tmp 30), 65, "parse.go:125", #[⟨3, .data⟩], none⟩) (v := ?_) rfl (by kernel_rfl) (fun _ _ _ h => h) (Or.inl ⟨by rfl, ?_⟩) HS4.out ?_
    rotate_left
    ·intro x h; (try dsimp only at h); go_simp; try (with_reducible rfl)
    try simp only [Act.put, List.setIfInBounds_toArray, List.set]
    refine anyR_take (i := 5) (oi := ⟨some 32, .move (.tmp 0), 24, "parse.go:125", #[], none⟩) (v := ?_) rfl (by kernel_rfl) (fun _ _ _ h => h) (Or.inl ⟨by rfl, ?_⟩) HS4.out ?_
    rotate_left
    ·intro x h; (try dsimp only at h); go_simp; try (with_reducible rfl)
    try simp only [Act.put, List.setIfInBounds_toArray, List.set]
    refine anyR_take (i := 6) (oi := ⟨some 33, .nilCheck (.tmp 32), 0, "parse.go:125", #[⟨5, .data⟩], none⟩) (v := ?_) rfl (by kernel_rfl) (fun _ _ _ h => h) (Or.inl ⟨by rfl, ?_⟩) HS4.out ?_
    rotate_left
    ·intro x h; (try dsimp only at h); go_simp; try (with_reducible rfl)
    try simp only [Act.put, List.setIfInBounds_toArray, List.set]
    refine anyR_take (i := 7) (oi := ⟨some 34, .fieldAddr 67 (.tmp 33) 0, 0, "parse.go:125", #[⟨6, .data⟩], none⟩) (v := ?_) rfl (by kernel_rfl) (fun _ _ _ h => h) (Or.inl ⟨by rfl, ?_⟩) HS4.out ?_
    rotate_left
    ·intro x h; (try dsimp only at h); go_simp; try (with_reducible rfl)
    try simp only [Act.put, List.setIfInBounds_toArray, List.set]
    refine anyR_take (i := 8) (oi := ⟨some 35, .load 65 (.tmp 34), 65, "parse.go:125", #[⟨7, .data⟩], none⟩) (v := ?_) rfl (by kernel_rfl) (fun _ _ _ h => h) (Or.inl ⟨by rfl, ?_⟩) HS4.out ?_
    rotate_left
    ·intro x h; (try dsimp only at h); go_simp; try (with_reducible rfl)
    try simp only [Act.put, List.setIfInBounds_toArray, List.set]
    refine anyR_take (i := 9) (oi := ⟨some 36, .call { callee := .builtin .len, args := #[.tmp 35], argTypes := #[65] }, 3, "parse.go:125", #[⟨8, .data⟩], none⟩) (v := ?_) rfl (by kernel_rfl) (fun _ _ _ h => h) (Or.inl ⟨by rfl, ?_⟩) HS4.out ?_
    rotate_left
    ·intro x h; (try dsimp only at h); go_simp; try (with_reducible rfl)
    try simp only [Act.put, List.setIfInBounds_toArray, List.set]
    refine anyR_take (i := 10) (oi := ⟨some 37, .binOp .sub 3 (.tmp 36) (.const (.int .i64 1)) 3, 3, "parse.go:125", #[⟨9, .data⟩], none⟩) (v := ?_) rfl (by kernel_rfl) (fun _ _ _ h => h) (Or.inl ⟨by rfl, ?_⟩) HS4.out ?_
    rotate_left
    ·intro x h; (try dsimp only at h); go_simp; try (with_reducible rfl)
    try simp only [Act.put, List.setIfInBounds_toArray, List.set]
    refine anyR_take (i := 11) (oi := ⟨some 38, .slice 65 (.tmp 31) none (some (.tmp 37)) none, 65, "parse.go:125", #[⟨4, .data⟩, ⟨10, .data⟩], none⟩) (v := ?_) rfl (by kernel_rfl) (fun _ _ _ h => h) (Or.inl ⟨by rfl, ?_⟩) HS4.out ?_
    rotate_left
    ·intro x h; (try dsimp only at h); go_simp; try (with_reducible rfl)
    try simp only [Act.put, List.setIfInBounds_toArray, List.set]
    refine anyR_ready (rs := [12]) (by kernel_rfl) (by simp) ?_
    refine ReadyR.cons (o := ⟨some 39, .nilCheck (.tmp 27), 0, "parse.go:125", #[⟨0, .data⟩, ⟨0, .phase⟩, ⟨1, .phase⟩, ⟨2, .phase⟩, ⟨3, .phase⟩, ⟨4, .phase⟩, ⟨5, .phase⟩, ⟨6, .phase⟩, ⟨7, .phase⟩, ⟨8, .phase⟩, ⟨9, .phase⟩, ⟨10, .phase⟩, ⟨11, .phase⟩], none⟩) rfl (fun K hK => ?_) ReadyR.nil
    go_simp
    refine hK.out _ _ (fun _ => HS4.out) ?_
    clear hK K
    try simp only [Act.put, List.setIfInBounds_toArray, List.set]
    refine anyR_ready (rs := [13]) (by kernel_rfl) (by simp) ?_
    refine ReadyR.cons (o := ⟨some 40, .fieldAddr 67 (.tmp 39) 0, 0, "parse.go:125", #[⟨12, .data⟩, ⟨0, .phase⟩, ⟨1, .phase⟩, ⟨2, .phase⟩, ⟨3, .phase⟩, ⟨4, .phase⟩, ⟨5, .phase⟩, ⟨6, .phase⟩, ⟨7, .phase⟩, ⟨8, .phase⟩, ⟨9, .phase⟩, ⟨10, .phase⟩, ⟨11, .phase⟩], none⟩) rfl (fun K hK => ?_) ReadyR.nil
    go_simp
    refine hK.out _ _ (fun _ => HS4.out) ?_
    clear hK K
    try simp only [Act.put, List.setIfInBounds_toArray, List.set]
    refine anyR_ready (rs := [14]) (by kernel_rfl) (by simp) ?_
    refine ReadyR.cons (o := ⟨none, .store 65 (.tmp 40) (.tmp 38), 0, "parse.go:125", #[⟨13, .data⟩, ⟨11, .data⟩, ⟨0, .phase⟩, ⟨1, .phase⟩, ⟨2, .phase⟩, ⟨3, .phase⟩, ⟨4, .phase⟩, ⟨5, .phase⟩, ⟨6, .phase⟩, ⟨7, .phase⟩, ⟨8, .phase⟩, ⟨9, .phase⟩, ⟨10, .phase⟩, ⟨11, .phase⟩], none⟩) rfl (fun K hK => ?_) ReadyR.nil
    obtain ⟨hA4, hQ4⟩ := (HP3.out.below HB4.out).upd 0 (.slice (some ⟨g, 0, none⟩) R cap) (by decide) (s' := rest) (es' := es ++ st.evs.map evOf) (d' := st.depth) (b' := b) (wr' := wc) (cl' := cl) (vt' := .slice (some ⟨g, 0, none⟩) R cap) (ve' := ve1) rfl (by rw [← HRR.out]; exact own_move HPOP.out (fun q hq => (HN.out.1.trans (HB4.out.mono HN.out.1.size)).block q (own_lt HPOP.out q hq))) (HP3.out.below HB4.out).evs (fun _ h => h) (fun _ h => h)
    have hbx4 : (W4.setCells p 0 [.slice (some ⟨g, 0, none⟩) R cap]).heap[Wd.heap.size]? = some (.cells [c0, c1, c2].toArray 71 (0, 0)) := by
     rw [setCells_far _ 0 _ (fun e => by have := HBD3.out.size; have := blk_lt HH.out.at_.box; omega)]
     exact (HB4.out.block _ (blk_lt HN.out.2)).trans HN.out.2
    have HP4 := Lib.hid hA4
    have HQ4 := Lib.hid (HH.out.step.trans ((PStep.below (HN.out.1.trans (HB4.out.mono HN.out.1.size))).trans hQ4))
    have HX4 := Lib.hid hbx4
    refine step_store rfl rfl 65 (.tmp 40) (.tmp 38) rfl (g := p) (off := 0) (.slice (some ⟨g, 0, none⟩) R cap) [.slice (some ⟨g, 0, none⟩) R cap] rfl rfl rfl (by kernel_rfl) (fun v hv => by rw [List.mem_singleton.1 hv]; rfl) (HP3.out.below HB4.out).box (by simp) ?_
    refine hK.out _ _ (fun h => by cases h) ?_
    clear hK K hA4 hQ4 hbx4 HS4
    generalize W4.setCells p 0 [.slice (some ⟨g, 0, none⟩) R cap] = V4 at HP4 HQ4 HX4 ⊢
    try simp only [Act.put, List.setIfInBounds_toArray, List.set]
    refine anyR_done (by kernel_rfl) ?_ _
    clear q0 q1 q2 q3 q4 q5
    obtain ⟨q0, q1, q2, q3, q4, q5⟩ := HP4.out.cell
    obtain ⟨b0, b1, b2⟩ : V4.cell? ⟨Wd.heap.size, 0, none⟩ = some c0 ∧ V4.cell? ⟨Wd.heap.size, 1, none⟩ = some c1 ∧ V4.cell? ⟨Wd.heap.size, 2, none⟩ = some c2 := ⟨cell_of_row _ _ _ _ _ _ HX4.out, cell_of_row _ _ _ _ _ _ HX4.out, cell_of_row _ _ _ _ _ _ HX4.out⟩
    obtain ⟨Bx, hBx⟩ : ∃ Bx, Wd.heap.size = Bx := ⟨_, rfl⟩
    rw [hBx] at b0 b1 b2 ⊢
    clear hBx HN HP3 HB4 HW4 HWd HX4 HCL
    cases x with
    | word y =>
     obtain ⟨rfl, rfl, rfl⟩ : c0 = .string y ∧ c1 = .int .u8 0 ∧ c2 = .nilFunc := by
      have h := HXC.out
      simp only [wCells, List.cons.injEq, and_true] at h
      exact ⟨h.1.symm, h.2.1.symm, h.2.2.symm⟩
     by_cases hy : y = codeOf t
     ·have ey : (y.toList == (codeOf t).toList) = true := by rw [hy]; exact beq_self_eq_true _
      have hrr : (true, { st with todo := rest }) = r := by
       have h := HRUN.out
       simp only [turn, HST.out, if_pos hy] at h
       simpa using h
      have HRE := Lib.hid hrr
      clear hrr
      have HNE := neq_nil V4
      by_cases hR0 : R = 0
      ·have htk : token t s d = (120, { st with todo := rest }) := by
        unfold token
        rw [HR.out, ← HRE.out]
        simp [List.length_eq_zero_iff.1 (HRR.out.trans hR0)]
       have HTK := Lib.hid htk
       have e0 : ((R : Int) == 0) = true := by rw [beq_iff_eq]; omega
       have e1 : (R : Int) = 0 := by omega
       clear htk
       go_wp2
       rw [Exit.noGoto_ret]
       go_ret
       unfold TokPost
       rw [HTK.out]
       exact ⟨rfl, _, _, by simpa using HP4.out, HS0.out.trans HQ4.out⟩
      have hrn : rest ≠ [] := fun e => hR0 (by rw [← HRR.out, e]; rfl)
      have e0 : ((R : Int) == 0) = false := by rw [beq_eq_false_iff_ne]; omega
      have e1 : ¬ ((R : Int) = 0) := by omega
      by_cases hdp : 1000 < st.depth
      ·have htk : token t s d = (122, { st with todo := rest }) := by
        unfold token
        rw [HR.out, ← HRE.out]
        simp [hrn, hdp]
       have HTK := Lib.hid htk
       have e2 : decide (1000 < st.depth) = true := decide_eq_true hdp
       clear htk
       go_wp2
       rw [Exit.noGoto_ret]
       go_ret
       unfold TokPost
       rw [HTK.out]
       exact ⟨rfl, _, _, by simpa using HP4.out, HS0.out.trans HQ4.out⟩
      have htk : token t s d = (0, { st with todo := rest }) := by
       unfold token
       rw [HR.out, ← HRE.out]
       simp [hrn, hdp]
      have HTK := Lib.hid htk
      have e2 : decide (1000 < st.depth) = false := decide_eq_false hdp
      have HHB := Lib.hid HH.out.be
      clear htk hrn
      have hT4 := HQ4.out.keep HP0.out HT0.out (by decide) (by decide) (by decide)
      have HT4 := Lib.hid hT4
      clear hT4
      go_upto_region 16 with (fail)
      obtain ⟨W6, hW6⟩ : ∃ V, V4.drew = V := ⟨_, rfl⟩
      have hb6 : Below V4.heap.size V4 W6 := by rw [← hW6]; exact (Below.refl _ V4).drew
      have hS6 : ∀ V, Below V4.heap.size V4 V → V.cell? ⟨p, 1, none⟩ = some ve1 ∧ V.cell? ⟨w.heap.size, 0, none⟩ = some (.int .u8 t.f0) ∧ V.cell? ⟨w.heap.size, 1, none⟩ = some (.string t.f1) ∧ V.cell? ⟨w.heap.size, 2, none⟩ = some (.int .i64 t.f2.f0) ∧ V.cell? ⟨w.heap.size, 3, none⟩ = some (.int .i64 t.f2.f1) ∧ V.cell? ⟨w.heap.size, 4, none⟩ = some (.int .i64 t.f2.f2) ∧ V.cell? ⟨w.heap.size, 5, none⟩ = some (.int .i64 t.f3) := fun V hV => ⟨pw_cell_below hV q1, pw_cell_below hV (cell_of_row _ _ _ _ _ _ HT4.out), pw_cell_below hV (cell_of_row _ _ _ _ _ _ HT4.out), pw_cell_below hV (cell_of_row _ _ _ _ _ _ HT4.out), pw_cell_below hV (cell_of_row _ _ _ _ _ _ HT4.out), pw_cell_below hV (cell_of_row _ _ _ _ _ _ HT4.out), pw_cell_below hV (cell_of_row _ _ _ _ _ _ HT4.out)⟩
      have HSA := Lib.hid hS6
      have HS6 := Lib.hid (hS6 W6 hb6)
      have HB6 := Lib.hid hb6
      have HW6 := Lib.hid hW6
      have HP6 := Lib.hid (HP4.out.below hb6)
      clear hS6 hb6 hW6
      refine wp_region_R (fun w' => w'.cell? ⟨p, 1, none⟩ = some ve1 ∧ w'.cell? ⟨w.heap.size, 0, none⟩ = some (.int .u8 t.f0) ∧ w'.cell? ⟨w.heap.size, 1, none⟩ = some (.string t.f1) ∧ w'.cell? ⟨w.heap.size, 2, none⟩ = some (.int .i64 t.f2.f0) ∧ w'.cell? ⟨w.heap.size, 3, none⟩ = some (.int .i64 t.f2.f1) ∧ w'.cell? ⟨w.heap.size, 4, none⟩ = some (.int .i64 t.f2.f2) ∧ w'.cell? ⟨w.heap.size, 5, none⟩ = some (.int .i64 t.f3)) (fun j => !(Nat.beq j 11)) (by kernel_rfl) ?_
      rw [HW6.out]
      refine anyR_take (i := 0) (oi := ⟨some 75, .move (.tmp 0), 24, "parse.go:145", #[], none⟩) (v := ?_) rfl (by kernel_rfl) (fun _ _ _ h => h) (Or.inl ⟨by rfl, ?_⟩) HS6.out ?_
      rotate_left
      ·intro x h; (try dsimp only at h); go_simp; try (with_reducible rfl)
      try simp only [Act.put, List.setIfInBounds_toArray, List.set]
      refine anyR_take (i := 1) (oi := ⟨some 76, .move (.tmp 0), 24, "parse.go:145", #[], none⟩) (v := ?_) rfl (by kernel_rfl) (fun _ _ _ h => h) (Or.inl ⟨by rfl, ?_⟩) HS6.out ?_
      rotate_left
      ·intro x h; (try dsimp only at h); go_simp; try (with_reducible rfl)
      try simp only [Act.put, List.setIfInBounds_toArray, List.set]
      refine anyR_take (i := 2) (oi := ⟨some 77, .nilCheck (.tmp 76), 0, "parse.go:145", #[⟨1, .data⟩], none⟩) (v := ?_) rfl (by kernel_rfl) (fun _ _ _ h => h) (Or.inl ⟨by rfl, ?_⟩) HS6.out ?_
      rotate_left
      ·intro x h; (try dsimp only at h); go_simp; try (with_reducible rfl)
      try simp only [Act.put, List.setIfInBounds_toArray, List.set]
      refine anyR_take (i := 3) (oi := ⟨some 78, .fieldAddr 67 (.tmp 77) 1, 0, "parse.go:145", #[⟨2, .data⟩], none⟩) (v := ?_) rfl (by kernel_rfl) (fun _ _ _ h => h) (Or.inl ⟨by rfl, ?_⟩) HS6.out ?_
      rotate_left
      ·intro x h; (try dsimp only at h); go_simp; try (with_reducible rfl)
      try simp only [Act.put, List.setIfInBounds_toArray, List.set]
      refine anyR_take (i := 4) (oi := ⟨some 79, .load 38 (.tmp 78), 38, "parse.go:145", #[⟨3, .data⟩], none⟩) (v := ?_) rfl (by kernel_rfl) (fun _ _ _ h => h) (Or.inl ⟨by rfl, ?_⟩) HS6.out ?_
      rotate_left
      ·intro x h; (try dsimp only at h); go_simp; try (with_reducible rfl)
      try simp only [Act.put, List.setIfInBounds_toArray, List.set]
      refine anyR_take (i := 5) (oi := ⟨some 80, .load 35 (.tmp 3), 35, "parse.go:145", #[], none⟩) (v := ?_) rfl (by kernel_rfl) (fun _ _ _ h => h) (Or.inl ⟨by rfl, ?_⟩) HS6.out ?_
      rotate_left
      ·intro x h; (try dsimp only at h); go_simp; try (with_reducible rfl)
      try simp only [Act.put, List.setIfInBounds_toArray, List.set]
      refine anyR_take (i := 6) (oi := ⟨some 81, .build 46 #[(0, .const (.int .u8 2)), (2, .tmp 80)], 46, "parse.go:145", #[⟨5, .data⟩], none⟩) (v := ?_) rfl (by kernel_rfl) (fun _ _ _ h => h) (Or.inl ⟨by rfl, ?_⟩) HS6.out ?_
      rotate_left
      ·intro x h; (try dsimp only at h); go_simp; try (with_reducible rfl)
      try simp only [Act.put, List.setIfInBounds_toArray, List.set]
      refine anyR_ready (rs := [7]) (by kernel_rfl) (by simp) ?_
      refine ReadyR.cons (o := ⟨some 82, .buildSlice 38 1 #[(0, .tmp 81)], 38, "parse.go:145", #[⟨6, .data⟩], none⟩) rfl (fun K hK => ?_) ReadyR.nil
      go_simp
      refine hK.out _ _ (fun _ => HSA.out _ (HB6.out.alloc HB6.out.size _)) ?_
      clear hK K
      try simp only [Act.put, List.setIfInBounds_toArray, List.set]
      refine anyR_ready (rs := [8]) (by kernel_rfl) (by simp) ?_
      refine ReadyR.cons (o := ⟨some 83, .call { callee := .builtin .append, args := #[.tmp 79, .tmp 82], argTypes := #[38, 38] }, 38, "parse.go:145", #[⟨4, .data⟩, ⟨7, .data⟩], none⟩) rfl (fun K hK => ?_) ReadyR.nil
      obtain ⟨q9, hq9⟩ : ∃ q9, (es ++ st.evs.map evOf).length = q9 := ⟨_, rfl⟩
      refine step_ev (W := W6) rfl (.tmp 79) (.tmp 82) rfl p (u := ve1) (q := q9) (kc := (es ++ st.evs.map evOf).flatMap evCells) (cs := [.int .u8 2, .int .u8 0, .int .u8 t.f0, .string t.f1, .int .i64 t.f2.f0, .int .i64 t.f2.f1, .int .i64 t.f2.f2, .int .i64 t.f3]) rfl rfl (hq9 ▸ HP6.out.evs) rfl (evCells_one (leafE t)) (Nat.le_of_lt (blk_lt HP6.out.box)) (by have := HHB.out; rw [List.length_append, List.length_map] at hq9; omega) ?_
      intro G1 C1 w6 ho hg hat
      obtain ⟨⟨cur6, hcur, hfit⟩, hnx⟩ := ev_next (e := leafE t) HP6.out (by rw [hq9]; exact ho) hg hat
      rw [hq9] at hnx
      have hpe : ve1.ownBlock ≠ some p := fun e => by
       obtain ⟨cs, hc⟩ := own_typed HP6.out.evs p e
       rw [HP6.out.box] at hc; exact absurd (cells_ty hc) (by decide)
      have hT6 : W6.heap[w.heap.size]? = _ := (HB6.out.block _ (blk_lt HT4.out)).trans HT4.out
      have hpt : some w.heap.size ≠ ve1.ownBlock := fun e => by
       obtain ⟨cs, hc⟩ := own_typed HP6.out.evs w.heap.size e.symm
       rw [hT6] at hc; exact absurd (cells_ty hc) (by decide)
      have hc1 := World.cell?_of_block (a := ⟨p, 1, none⟩) (hg.block p (blk_lt HP6.out.box) (fun e => hpe e.symm))
      have hbT := hg.block w.heap.size (blk_lt hT6) hpt
      have hS7 : w6.cell? ⟨p, 1, none⟩ = some ve1 ∧ w6.cell? ⟨w.heap.size, 0, none⟩ = some (.int .u8 t.f0) ∧ w6.cell? ⟨w.heap.size, 1, none⟩ = some (.string t.f1) ∧ w6.cell? ⟨w.heap.size, 2, none⟩ = some (.int .i64 t.f2.f0) ∧ w6.cell? ⟨w.heap.size, 3, none⟩ = some (.int .i64 t.f2.f1) ∧ w6.cell? ⟨w.heap.size, 4, none⟩ = some (.int .i64 t.f2.f2) ∧ w6.cell? ⟨w.heap.size, 5, none⟩ = some (.int .i64 t.f3) := ⟨hc1.trans HS6.out.1, (World.cell?_of_block hbT).trans HS6.out.2.1, (World.cell?_of_block hbT).trans HS6.out.2.2.1, (World.cell?_of_block hbT).trans HS6.out.2.2.2.1, (World.cell?_of_block hbT).trans HS6.out.2.2.2.2.1, (World.cell?_of_block hbT).trans HS6.out.2.2.2.2.2.1, (World.cell?_of_block hbT).trans HS6.out.2.2.2.2.2.2⟩
      have HS7 := Lib.hid hS7
      have HCU := Lib.hid (And.intro hcur hfit)
      have HNX := Lib.hid hnx
      refine hK.out _ _ (fun _ => hS7) ?_
      clear hK K ho hg hat hpe hT6 hpt hc1 hbT hS7 hcur hfit hnx hq9
      try simp only [Act.put, List.setIfInBounds_toArray, List.set]
      refine anyR_ready (rs := [9]) (by kernel_rfl) (by simp) ?_
      refine ReadyR.cons (o := ⟨some 84, .nilCheck (.tmp 75), 0, "parse.go:145", #[⟨0, .data⟩, ⟨0, .phase⟩, ⟨1, .phase⟩, ⟨2, .phase⟩, ⟨3, .phase⟩, ⟨4, .phase⟩, ⟨5, .phase⟩, ⟨6, .phase⟩, ⟨7, .phase⟩, ⟨8, .phase⟩], none⟩) rfl (fun K hK => ?_) ReadyR.nil
      go_simp
      refine hK.out _ _ (fun _ => HS7.out) ?_
      clear hK K
      try simp only [Act.put, List.setIfInBounds_toArray, List.set]
      refine anyR_ready (rs := [10]) (by kernel_rfl) (by simp) ?_
      refine ReadyR.cons (o := ⟨some 85, .fieldAddr 67 (.tmp 84) 1, 0, "parse.go:145", #[⟨9, .data⟩, ⟨0, .phase⟩, ⟨1, .phase⟩, ⟨2, .phase⟩, ⟨3, .phase⟩, ⟨4, .phase⟩, ⟨5, .phase⟩, ⟨6, .phase⟩, ⟨7, .phase⟩, ⟨8, .phase⟩], none⟩) rfl (fun K hK => ?_) ReadyR.nil
      go_simp
      refine hK.out _ _ (fun _ => HS7.out) ?_
      clear hK K
      try simp only [Act.put, List.setIfInBounds_toArray, List.set]
      refine anyR_ready (rs := [11]) (by kernel_rfl) (by simp) ?_
      refine ReadyR.cons (o := ⟨none, .store 38 (.tmp 85) (.tmp 83), 0, "parse.go:145", #[⟨10, .data⟩, ⟨8, .data⟩, ⟨8, .chain⟩, ⟨0, .phase⟩, ⟨1, .phase⟩, ⟨2, .phase⟩, ⟨3, .phase⟩, ⟨4, .phase⟩, ⟨5, .phase⟩, ⟨6, .phase⟩, ⟨7, .phase⟩, ⟨8, .phase⟩], none⟩) rfl (fun K hK => ?_) ReadyR.nil
      refine step_store rfl rfl 38 (.tmp 85) (.tmp 83) rfl (g := p) (off := 1) (.slice (some ⟨G1, 0, none⟩) (q9 + 1) C1) [.slice (some ⟨G1, 0, none⟩) (q9 + 1) C1] rfl rfl rfl (by kernel_rfl) (fun v hv => by rw [List.mem_singleton.1 hv]; rfl) HCU.out.1 HCU.out.2 ?_
      have HN7 := Lib.hid (HNX.out _ rfl)
      refine hK.out _ _ (fun h => by cases h) ?_
      clear hK K HNX HCU HS7
      generalize w6.setCells p 1 [.slice (some ⟨G1, 0, none⟩) (q9 + 1) C1] = V7 at HN7 ⊢
      try simp only [Act.put, List.setIfInBounds_toArray, List.set]
      refine anyR_done (by kernel_rfl) ?_ _
      clear q0 q1 q2 q3 q4 q5
      go_wp2
      (try rw [Exit.noGoto_ret])
      go_ret
      unfold TokPost
      rw [HTK.out]
      exact ⟨rfl, _, _, by simpa using HN7.out.1, HS0.out.trans (HQ4.out.trans ((PStep.below HB6.out).trans HN7.out.2))⟩
     ·have ey : (y.toList == (codeOf t).toList) = false := by
       rw [beq_eq_false_iff_ne]
       intro e
       apply hy
       have := congrArg List.toArray e
       have h2 : y.data = (codeOf t).data := by simpa [ByteArray.toList_eq] using this
       cases y
       cases hc : codeOf t
       rw [hc] at h2
       simpa using h2
      have hrr : (false, { st with todo := rest }) = r := by
       have h := HRUN.out
       simp only [turn, HST.out, if_neg hy] at h
       simpa using h
      have htk : token t s d = (120, { st with todo := rest }) := by unfold token; rw [HR.out, ← hrr]
      have HTK := Lib.hid htk
      clear hrr htk
      have HNE := neq_nil V4
      go_wp2
      rw [Exit.noGoto_ret]
      go_ret
      unfold TokPost
      rw [HTK.out]
      exact ⟨rfl, _, _, by simpa using HP4.out, HS0.out.trans HQ4.out⟩
    | fin kk =>
     obtain ⟨rfl, rfl, rfl⟩ : c0 = .string ⟨#[]⟩ ∧ c1 = .int .u8 kk ∧ c2 = .nilFunc := by
      have h := HXC.out
      simp only [wCells, List.cons.injEq, and_true] at h
      exact ⟨h.1.symm, h.2.1.symm, h.2.2.symm⟩
     have hk0 : kk ≠ 0 := HH.out.ends kk (by rw [HST.out]; exact List.mem_cons_self)
     have hkk : ((kk : Int) != 0) = true := by rw [bne_iff_ne]; omega
     have hkd : ¬ ((kk : Int) = 0) := by omega
     have HNE := neq_nil V4
     have hbd4 := HH.out.bd1
     have hbe4 := HH.out.be
     have hbd5 := HH.out.bd2
     have HCL := Lib.hid (close_any p kk rest (es ++ st.evs.map evOf) st.depth b wc cl _ ve1 V4 HP4.out (by rw [List.length_append, List.length_map]; omega) (by omega))
     clear hbd4 hbe4 hbd5
     go_wp2_with (go_at_call 47; (with_reducible refine Calls.mono HCL.out ?_); rintro e w5 ⟨rfl, ve5, hP5, hs5⟩; have HP5 := Lib.hid hP5; have HS5 := Lib.hid (HQ4.out.trans hs5); clear hP5 hs5)
     go_roundg k
     case measure => omega
     case rel =>
      refine Lib.hid ⟨{ todo := rest, evs := st.evs ++ [(3, kk)], depth := st.depth - 1 }, _, _, ?_, by simpa using HP5.out, HS5.out, ?_, ?_, ?_, ?_, ?_⟩
      ·have h := HRUN.out
       simp only [turn, HST.out] at h
       exact h
      ·have h := HH.out.ends
       rw [HST.out] at h
       exact h.tail
      ·have h := HH.out.bt
       rw [HST.out, List.length_cons] at h
       show rest.length + 11 * k ≤ _
       omega
      ·have h := HH.out.be
       show es.length + (st.evs ++ [(3, kk)]).length + k ≤ _
       rw [List.length_append, List.length_singleton]
       omega
      ·have h := HH.out.bd1
       show _ ≤ st.depth - 1
       omega
      ·have h := HH.out.bd2
       show st.depth - 1 + _ ≤ _
       omega
    | rule f =>
     obtain ⟨rfl, rfl, rfl⟩ : c0 = .string ⟨#[]⟩ ∧ c1 = .int .u8 0 ∧ c2 = .func (.func f.num) #[] #[] := by
      have h := HXC.out
      simp only [wCells, List.cons.injEq, and_true] at h
      exact ⟨h.1.symm, h.2.1.symm, h.2.2.symm⟩
     have HNE := neq_func (.func f.num) #[] #[] V4
     have hrl := rule_all f (codeOf t) p rest (es ++ st.evs.map evOf) st.depth b wc cl _ ve1 V4 HP4.out (by
      have h1 := HH.out.bt
      have h2 := HH.out.be
      have h3 := HH.out.bd1
      have h4 := HH.out.bd2
      rw [HST.out, List.length_cons] at h1
      exact ⟨by omega, by rw [List.length_append, List.length_map]; omega, by omega, by omega⟩)
     unfold RulePost at hrl
     cases hex : f.expand (codeOf t) with
     | none =>
      rw [hex] at hrl
      dsimp only at hrl
      have HRL := Lib.hid hrl
      have hrr : (false, { st with todo := rest }) = r := by
       have h := HRUN.out
       simp only [turn, HST.out, hex] at h
       simpa using h
      have htk : token t s d = (120, { st with todo := rest }) := by unfold token; rw [HR.out, ← hrr]
      have HTK := Lib.hid htk
      clear hrr htk hrl hex
      have HEN := rule_enter f #[.pointer (some ⟨p, 0, none⟩), .string (codeOf t)] V4
      go_wp2_with ((with_reducible refine Calls.mono HRL.out ?_); rintro e w5 ⟨rfl, hP5, hs5⟩; have HP5 := Lib.hid hP5; have HS5 := Lib.hid (HQ4.out.trans hs5); clear hP5 hs5)
      rw [Exit.noGoto_ret]
      go_ret
      unfold TokPost
      rw [HTK.out]
      exact ⟨rfl, _, _, by simpa using HP5.out, HS0.out.trans HS5.out⟩
     | some l =>
      rw [hex] at hrl
      dsimp only at hrl
      have HRL := Lib.hid hrl
      have HEX := Lib.hid hex
      clear hrl hex
      have HEN := rule_enter f #[.pointer (some ⟨p, 0, none⟩), .string (codeOf t)] V4
      go_wp2_with ((with_reducible refine Calls.mono HRL.out ?_); rintro e w5 ⟨rfl, vt5, ve5, hP5, hs5⟩; have HP5 := Lib.hid hP5; have HS5 := Lib.hid (HQ4.out.trans hs5); clear hP5 hs5)
      go_roundg k
      case measure => omega
      case rel =>
       have hon : turn (codeOf t) st = .on (effs { st with todo := rest } l) := by simp only [turn, HST.out, HEX.out]
       have hln := turn_len hon
       refine Lib.hid ⟨effs { st with todo := rest } l, _, _, ?_, ?_, HS5.out, turn_ends hon HH.out.ends, ?_, ?_, ?_, ?_⟩
       ·have h := HRUN.out
        rw [hon] at h
        exact h
       ·rw [effs_evs0]
        simpa using HP5.out
       ·have h := HH.out.bt
        omega
       ·have h := HH.out.be
        omega
       ·have h := HH.out.bd1
        omega
       ·have h := HH.out.bd2
        omega
end Go.Proofs.Ytmjbpgnjgblnmaa
namespace Go.Proofs.Ytmjbpgnjgblnmaa
open Go.RowKit Go.Proofs.YtmjbpgnjgblnmaaW.PrintWords Go.Proofs.YtmjbpgnjgblnmaaW.PrintLast Go.Proofs.YtmjbpgnjgblnmaaW.PrintMore
theorem six_cells {w : World} {g : Nat} {T : TypeId} {a b c d e f : Value} (h : w.heap[g]? = some (.cells #[a, b, c, d, e, f] T (0, 0))) :
  w.cell? ⟨g, 0, none⟩ = some a ∧ w.cell? ⟨g, 1, none⟩ = some b ∧ w.cell? ⟨g, 2, none⟩ = some c ∧ w.cell? ⟨g, 3, none⟩ = some d ∧ w.cell? ⟨g, 4, none⟩ = some e ∧ w.cell? ⟨g, 5, none⟩ = some f :=
 ⟨cell_of_row _ _ _ _ _ _ h, cell_of_row _ _ _ _ _ _ h, cell_of_row _ _ _ _ _ _ h, cell_of_row _ _ _ _ _ _ h, cell_of_row _ _ _ _ _ _ h, cell_of_row _ _ _ _ _ _ h⟩
theorem below_drew (w : World) : Below w.heap.size w w.drew := (Below.refl _ w).drew
structure PIn (w : World) (p : Nat) (P : Par) (es : List Ev) (vt ve : Value) : Prop where
 at_ : PAt w p P.todo es P.depth P.begun P.wrong P.closed vt ve
 ends : Ends P.todo
 bt : P.todo.length ≤ 2147483648
 bd1 : -2147483648 ≤ P.depth
 bd2 : P.depth ≤ 2147483648
def PutPost (p : Nat) (P : Par) (vt ve : Value) (t : Tk) (w : World) (e : Ending) (w' : World) : Prop :=
 ∃ v es' vt' ve', e = .returned (.tuple #[v, .int .i64 (put P t).2.1]) ∧ PAt w' p (put P t).2.2.todo es' (put P t).2.2.depth (put P t).2.2.begun (put P t).2.2.wrong (put P t).2.2.closed vt' ve' ∧ PStep p vt ve w vt' ve' w' ∧
  w'.ownsRow p 46 8 v (put P t).1.length ((put P t).1.flatMap evCells) ∧ (v = ve' ∨ v = .slice none 0 0)
theorem nil_row (w : World) (base : Nat) (e : TypeId) (size : Nat) : w.ownsRow base e size (.slice none 0 0) 0 [] := ⟨by simp, .inl ⟨rfl, rfl⟩⟩
set_option maxRecDepth 100000 in
set_option maxHeartbeats 8000000 in
theorem put_any (p : Nat) (P : Par) (es : List Ev) (vt ve : Value) (t : Tk) (w : World) (hP : PIn w p P es vt ve) :
  Calls Try.prog 24 #[.pointer (some ⟨p, 0, none⟩), .agg #[.int .u8 t.f0, .string t.f1, .int .i64 t.f2.f0, .int .i64 t.f2.f1, .int .i64 t.f2.f2, .int .i64 t.f3]] w (PutPost p P vt ve t w) := by
 obtain ⟨h1, h2, -⟩ := hP.at_.fresh (.cells #[.int .u8 t.f0, .string t.f1, .int .i64 t.f2.f0, .int .i64 t.f2.f1, .int .i64 t.f2.f2, .int .i64 t.f3] 35)
 obtain ⟨W0, hW0⟩ : ∃ V, w.alloc (.cells #[.int .u8 t.f0, .string t.f1, .int .i64 t.f2.f0, .int .i64 t.f2.f1, .int .i64 t.f2.f2, .int .i64 t.f3] 35) = V := ⟨_, rfl⟩
 have hT0 : W0.heap[w.heap.size]? = some (.cells #[.int .u8 t.f0, .string t.f1, .int .i64 t.f2.f0, .int .i64 t.f2.f1, .int .i64 t.f2.f2, .int .i64 t.f3] 35 (0, 0)) := by rw [← hW0]; exact World.alloc_heap_new _ _
 rw [hW0] at h1 h2
 have HW0 := Lib.hid hW0
 have HT0 := Lib.hid hT0
 have HP0 := Lib.hid h1
 have HS0 := Lib.hid h2
 have HIN := Lib.hid (And.intro hP.ends (And.intro hP.bt (And.intro hP.bd1 hP.bd2)))
 obtain ⟨c0, c1, c2, c3, c4, c5⟩ := six_cells hT0
 obtain ⟨q0, q1, q2, q3, q4, q5⟩ := h1.cell
 clear hP h1 h2 hT0 hW0
 obtain ⟨todo, d, b, wr, cl⟩ := P
 dsimp only at q0 q1 q2 q3 q4 q5
 go_enter Try.func24, Try.ntmps24
 go_upto_region 1 with (fail)
 rw [HW0.out]
 clear HW0
 cases cl with
 | true =>
  have hput : put ⟨todo, d, b, wr, true⟩ t = ([], 4, ⟨todo, d, b, wr, true⟩) := by unfold put; simp
  have HPU := Lib.hid hput
  clear hput
  go_wp2
  go_ret2
  unfold PutPost
  rw [HPU.out]
  refine ⟨_, _, _, _, rfl, HP0.out, HS0.out, nil_row _ _ _ _, .inr rfl⟩
 | false =>
  by_cases hwr : wr = 0
  ·subst hwr
   obtain ⟨k7, hk7⟩ : ∃ k7, (t.f0 == 7) = k7 := ⟨_, rfl⟩
   obtain ⟨k8, hk8⟩ : ∃ k8, (t.f0 == 8) = k8 := ⟨_, rfl⟩
   cases b with
   | true =>
    have HSR := Lib.hid (PStep.refl p vt ve W0)
    cases k7 with
    | true =>
     have hn : isNote t = true := by unfold isNote; rw [hk7, hk8]; rfl
     have hput : put ⟨todo, d, true, 0, false⟩ t = ([] ++ [noteE t], 0, ⟨todo, d, true, 0, false⟩) := by unfold put preE preD; simp [hn]
     have HPU := Lib.hid hput
     clear hput hn
     go_upto_region 13 with (first
      | ((with_reducible refine gate_ (.store 38 (.tmp 31) (.const (.slice none 0 0))) rfl ?_); refine wl_cells rfl rfl _ _ _ rfl (g := p) (off := 1) (.slice none 0 0) [.slice none 0 0] rfl rfl rfl (by kernel_rfl) (fun v hv => by rw [List.mem_singleton.1 hv]; rfl) HP0.out.box (by simp) ?_; intro V1 hV; obtain ⟨hA, hS⟩ := HP0.out.upd 1 (.slice none 0 0) (by decide) (s' := todo) (es' := []) (d' := d) (b' := true) (wr' := 0) (cl' := false) (vt' := vt) (ve' := .slice none 0 0) rfl HP0.out.todo (nil_row _ _ _ _) (fun _ h => h) (fun _ h => by cases h); rw [← hV] at hA hS; have HP1 := Lib.hid hA; have HS1 := Lib.hid (HSR.out.trans hS); clear q0 q1 q2 q3 q4 q5 c0 c1 c2 c3 c4 c5 hV; obtain ⟨q0, q1, q2, q3, q4, q5⟩ := hA.cell; obtain ⟨c0, c1, c2, c3, c4, c5⟩ := six_cells (HS1.out.keep HP0.out HT0.out (by decide) (by decide) (by decide)); clear hA hS))
     obtain ⟨W6, hW6⟩ : ∃ V, V1.drew = V := ⟨_, rfl⟩
     have hb6 : Below V1.heap.size V1 W6 := by rw [← hW6]; exact (Below.refl _ V1).drew
     have hS6 : ∀ V, Below V1.heap.size V1 V → V.cell? ⟨p, 1, none⟩ = some (.slice none 0 0) ∧ V.cell? ⟨w.heap.size, 0, none⟩ = some (.int .u8 t.f0) ∧ V.cell? ⟨w.heap.size, 1, none⟩ = some (.string t.f1) ∧ V.cell? ⟨w.heap.size, 2, none⟩ = some (.int .i64 t.f2.f0) ∧ V.cell? ⟨w.heap.size, 3, none⟩ = some (.int .i64 t.f2.f1) ∧ V.cell? ⟨w.heap.size, 4, none⟩ = some (.int .i64 t.f2.f2) ∧ V.cell? ⟨w.heap.size, 5, none⟩ = some (.int .i64 t.f3) := fun V hV => ⟨pw_cell_below hV q1, pw_cell_below hV c0, pw_cell_below hV c1, pw_cell_below hV c2, pw_cell_below hV c3, pw_cell_below hV c4, pw_cell_below hV c5⟩
     have HSA := Lib.hid hS6
     have HS6 := Lib.hid (hS6 W6 hb6)
     have HB6 := Lib.hid hb6
     have HW6 := Lib.hid hW6
     have HP6 := Lib.hid (HP1.out.below hb6)
     have HT6 := Lib.hid ((HS1.out.trans (PStep.below hb6)).keep HP0.out HT0.out (by decide) (by decide) (by decide))
     clear hS6 hb6 hW6
     refine wp_region_R (fun w' => w'.cell? ⟨p, 1, none⟩ = some (.slice none 0 0) ∧ w'.cell? ⟨w.heap.size, 0, none⟩ = some (.int .u8 t.f0) ∧ w'.cell? ⟨w.heap.size, 1, none⟩ = some (.string t.f1) ∧ w'.cell? ⟨w.heap.size, 2, none⟩ = some (.int .i64 t.f2.f0) ∧ w'.cell? ⟨w.heap.size, 3, none⟩ = some (.int .i64 t.f2.f1) ∧ w'.cell? ⟨w.heap.size, 4, none⟩ = some (.int .i64 t.f2.f2) ∧ w'.cell? ⟨w.heap.size, 5, none⟩ = some (.int .i64 t.f3)) (fun j => !(Nat.beq j 11)) (by kernel_rfl) ?_
     rw [HW6.out]
     refine anyR_take (i := 0) (oi := ⟨some 62, .move (.tmp 0), 24, "parse.go:107", #[], none⟩) (v := ?_) rfl (by kernel_rfl) (fun _ _ _ h => h) (Or.inl ⟨by rfl, ?_⟩) HS6.out ?_
     rotate_left
     ·intro x h; (try dsimp only at h); go_simp; try (with_reducible rfl)
     try simp only [Act.put, List.setIfInBounds_toArray, List.set]
     refine anyR_take (i := 1) (oi := ⟨some 63, .move (.tmp 0), 24, "parse.go:107", #[], none⟩) (v := ?_) rfl (by kernel_rfl) (fun _ _ _ h => h) (Or.inl ⟨by rfl, ?_⟩) HS6.out ?_
     rotate_left
     ·intro x h; (try dsimp only at h); go_simp; try (with_reducible rfl)
     try simp only [Act.put, List.setIfInBounds_toArray, List.set]
     refine anyR_take (i := 2) (oi := ⟨some 64, .nilCheck (.tmp 63), 0, "parse.go:107", #[⟨1, .data⟩], none⟩) (v := ?_) rfl (by kernel_rfl) (fun _ _ _ h => h) (Or.inl ⟨by rfl, ?_⟩) HS6.out ?_
     rotate_left
     ·intro x h; (try dsimp only at h); go_simp; try (with_reducible rfl)
     try simp only [Act.put, List.setIfInBounds_toArray, List.set]
     refine anyR_take (i := 3) (oi := ⟨some 65, .fieldAddr 67 (.tmp 64) 1, 0, "parse.go:107", #[⟨2, .data⟩], none⟩) (v := ?_) rfl (by kernel_rfl) (fun _ _ _ h => h) (Or.inl ⟨by rfl, ?_⟩) HS6.out ?_
     rotate_left
     ·intro x h; (try dsimp only at h); go_simp; try (with_reducible rfl)
     try simp only [Act.put, List.setIfInBounds_toArray, List.set]
     refine anyR_take (i := 4) (oi := ⟨some 66, .load 38 (.tmp 65), 38, "parse.go:107", #[⟨3, .data⟩], none⟩) (v := ?_) rfl (by kernel_rfl) (fun _ _ _ h => h) (Or.inl ⟨by rfl, ?_⟩) HS6.out ?_
     rotate_left
     ·intro x h; (try dsimp only at h); go_simp; try (with_reducible rfl)
     try simp only [Act.put, List.setIfInBounds_toArray, List.set]
     refine anyR_take (i := 5) (oi := ⟨some 67, .load 35 (.tmp 3), 35, "parse.go:107", #[], none⟩) (v := ?_) rfl (by kernel_rfl) (fun _ _ _ h => h) (Or.inl ⟨by rfl, ?_⟩) HS6.out ?_
     rotate_left
     ·intro x h; (try dsimp only at h); go_simp; try (with_reducible rfl)
     try simp only [Act.put, List.setIfInBounds_toArray, List.set]
     refine anyR_take (i := 6) (oi := ⟨some 68, .build 46 #[(0, .const (.int .u8 4)), (2, .tmp 67)], 46, "parse.go:107", #[⟨5, .data⟩], none⟩) (v := ?_) rfl (by kernel_rfl) (fun _ _ _ h => h) (Or.inl ⟨by rfl, ?_⟩) HS6.out ?_
     rotate_left
     ·intro x h; (try dsimp only at h); go_simp; try (with_reducible rfl)
     try simp only [Act.put, List.setIfInBounds_toArray, List.set]
     refine anyR_ready (rs := [7]) (by kernel_rfl) (by simp) ?_
     refine ReadyR.cons (o := ⟨some 69, .buildSlice 38 1 #[(0, .tmp 68)], 38, "parse.go:107", #[⟨6, .data⟩], none⟩) rfl (fun K hK => ?_) ReadyR.nil
     go_simp
     refine hK.out _ _ (fun _ => HSA.out _ (HB6.out.alloc HB6.out.size _)) ?_
     clear hK K
     try simp only [Act.put, List.setIfInBounds_toArray, List.set]
     refine anyR_ready (rs := [8]) (by kernel_rfl) (by simp) ?_
     refine ReadyR.cons (o := ⟨some 70, .call { callee := .builtin .append, args := #[.tmp 66, .tmp 69], argTypes := #[38, 38] }, 38, "parse.go:107", #[⟨4, .data⟩, ⟨7, .data⟩], none⟩) rfl (fun K hK => ?_) ReadyR.nil
     refine step_ev (W := W6) rfl (.tmp 66) (.tmp 69) rfl p (u := .slice none 0 0) (q := 0) (kc := ([] : List Ev).flatMap evCells) (cs := [.int .u8 4, .int .u8 0, .int .u8 t.f0, .string t.f1, .int .i64 t.f2.f0, .int .i64 t.f2.f1, .int .i64 t.f2.f2, .int .i64 t.f3]) rfl rfl HP6.out.evs rfl (evCells_one (noteE t)) (Nat.le_of_lt (blk_lt HP6.out.box)) (by decide) ?_
     intro G9 C9 w6 ho hg hat
     obtain ⟨⟨cur6, hcur, hfit⟩, hnx⟩ := ev_next (e := noteE t) HP6.out ho hg hat
     have hpe : ((.slice none 0 0 : Value)).ownBlock ≠ some p := fun e => by
      obtain ⟨cs, hc⟩ := own_typed HP6.out.evs p e
      rw [HP6.out.box] at hc; exact absurd (cells_ty hc) (by decide)
     have hpt : some w.heap.size ≠ ((.slice none 0 0 : Value)).ownBlock := fun e => by
      obtain ⟨cs, hc⟩ := own_typed HP6.out.evs w.heap.size e.symm
      rw [HT6.out] at hc; exact absurd (cells_ty hc) (by decide)
     have hc1 := World.cell?_of_block (a := ⟨p, 1, none⟩) (hg.block p (blk_lt HP6.out.box) (fun e => hpe e.symm))
     have hbT := hg.block w.heap.size (blk_lt HT6.out) hpt
     have hS7 : w6.cell? ⟨p, 1, none⟩ = some (.slice none 0 0) ∧ w6.cell? ⟨w.heap.size, 0, none⟩ = some (.int .u8 t.f0) ∧ w6.cell? ⟨w.heap.size, 1, none⟩ = some (.string t.f1) ∧ w6.cell? ⟨w.heap.size, 2, none⟩ = some (.int .i64 t.f2.f0) ∧ w6.cell? ⟨w.heap.size, 3, none⟩ = some (.int .i64 t.f2.f1) ∧ w6.cell? ⟨w.heap.size, 4, none⟩ = some (.int .i64 t.f2.f2) ∧ w6.cell? ⟨w.heap.size, 5, none⟩ = some (.int .i64 t.f3) := ⟨hc1.trans HS6.out.1, (World.cell?_of_block hbT).trans HS6.out.2.1, (World.cell?_of_block hbT).trans HS6.out.2.2.1, (World.cell?_of_block hbT).trans HS6.out.2.2.2.1, (World.cell?_of_block hbT).trans HS6.out.2.2.2.2.1, (World.cell?_of_block hbT).trans HS6.out.2.2.2.2.2.1, (World.cell?_of_block hbT).trans HS6.out.2.2.2.2.2.2⟩
     have HS7 := Lib.hid hS7
     have HCU := Lib.hid (And.intro hcur hfit)
     have HNX := Lib.hid hnx
     refine hK.out _ _ (fun _ => hS7) ?_
     clear hK K ho hg hat hpe hpt hc1 hbT hS7 hcur hfit hnx
     try simp only [Act.put, List.setIfInBounds_toArray, List.set]
     refine anyR_ready (rs := [9]) (by kernel_rfl) (by simp) ?_
     refine ReadyR.cons (o := ⟨some 71, .nilCheck (.tmp 62), 0, "parse.go:107", #[⟨0, .data⟩, ⟨0, .phase⟩, ⟨1, .phase⟩, ⟨2, .phase⟩, ⟨3, .phase⟩, ⟨4, .phase⟩, ⟨5, .phase⟩, ⟨6, .phase⟩, ⟨7, .phase⟩, ⟨8, .phase⟩], none⟩) rfl (fun K hK => ?_) ReadyR.nil
     go_simp
     refine hK.out _ _ (fun _ => HS7.out) ?_
     clear hK K
     try simp only [Act.put, List.setIfInBounds_toArray, List.set]
     refine anyR_ready (rs := [10]) (by kernel_rfl) (by simp) ?_
     refine ReadyR.cons (o := ⟨some 72, .fieldAddr 67 (.tmp 71) 1, 0, "parse.go:107", #[⟨9, .data⟩, ⟨0, .phase⟩, ⟨1, .phase⟩, ⟨2, .phase⟩, ⟨3, .phase⟩, ⟨4, .phase⟩, ⟨5, .phase⟩, ⟨6, .phase⟩, ⟨7, .phase⟩, ⟨8, .phase⟩], none⟩) rfl (fun K hK => ?_) ReadyR.nil
     go_simp
     refine hK.out _ _ (fun _ => HS7.out) ?_
     clear hK K
     try simp only [Act.put, List.setIfInBounds_toArray, List.set]
     refine anyR_ready (rs := [11]) (by kernel_rfl) (by simp) ?_
     refine ReadyR.cons (o := ⟨none, .store 38 (.tmp 72) (.tmp 70), 0, "parse.go:107", #[⟨10, .data⟩, ⟨8, .data⟩, ⟨8, .chain⟩, ⟨0, .phase⟩, ⟨1, .phase⟩, ⟨2, .phase⟩, ⟨3, .phase⟩, ⟨4, .phase⟩, ⟨5, .phase⟩, ⟨6, .phase⟩, ⟨7, .phase⟩, ⟨8, .phase⟩], none⟩) rfl (fun K hK => ?_) ReadyR.nil
     refine step_store rfl rfl 38 (.tmp 72) (.tmp 70) rfl (g := p) (off := 1) (.slice (some ⟨G9, 0, none⟩) (0 + 1) C9) [.slice (some ⟨G9, 0, none⟩) (0 + 1) C9] rfl rfl rfl (by kernel_rfl) (fun v hv => by rw [List.mem_singleton.1 hv]; rfl) HCU.out.1 HCU.out.2 ?_
     have HN7 := Lib.hid (HNX.out _ rfl)
     refine hK.out _ _ (fun h => by cases h) ?_
     clear hK K HNX HCU HS7
     generalize w6.setCells p 1 [.slice (some ⟨G9, 0, none⟩) (0 + 1) C9] = V7 at HN7 ⊢
     try simp only [Act.put, List.setIfInBounds_toArray, List.set]
     refine anyR_done (by kernel_rfl) ?_ _
     have HP7 : Hid (PAt V7 p todo ([] ++ [noteE t]) d true 0 false vt (.slice (some ⟨G9, 0, none⟩) (0 + 1) C9)) := Lib.hid HN7.out.1
     have HS7 := Lib.hid (HS1.out.trans ((PStep.below HB6.out).trans HN7.out.2))
     clear q0 q1 q2 q3 q4 q5 c0 c1 c2 c3 c4 c5 HN7
     obtain ⟨q0, q1, q2, q3, q4, q5⟩ := HP7.out.cell
     obtain ⟨c0, c1, c2, c3, c4, c5⟩ := six_cells (HS7.out.keep HP0.out HT0.out (by decide) (by decide) (by decide))
     go_wp2_with (((with_reducible refine gate_ (.store 4 (.tmp 94) (.const (.bool true))) rfl ?_); refine wl_cells rfl rfl _ _ _ rfl (g := p) (off := 3) (.bool true) [.bool true] rfl rfl rfl (by kernel_rfl) (fun v hv => by rw [List.mem_singleton.1 hv]; rfl) HP7.out.box (by simp) ?_; intro V8 hV; obtain ⟨hA, hS⟩ := HP7.out.upd 3 (.bool true) (by decide) (s' := todo) (es' := ([] ++ [noteE t])) (d' := d) (b' := true) (wr' := 0) (cl' := false) (vt' := vt) (ve' := .slice (some ⟨G9, 0, none⟩) (0 + 1) C9) rfl HP7.out.todo HP7.out.evs (fun _ h => h) (fun _ h => h); rw [← hV] at hA hS; have HP8 := Lib.hid hA; have HS8 := Lib.hid (HS7.out.trans hS); clear q0 q1 q2 q3 q4 q5 c0 c1 c2 c3 c4 c5 hV; obtain ⟨q0, q1, q2, q3, q4, q5⟩ := hA.cell; obtain ⟨c0, c1, c2, c3, c4, c5⟩ := six_cells (HS8.out.keep HP0.out HT0.out (by decide) (by decide) (by decide)); clear hA hS))
     go_ret2
     unfold PutPost
     rw [HPU.out]
     exact ⟨_, _, _, _, rfl, HP8.out, HS0.out.trans HS8.out, HP8.out.evs, .inl rfl⟩
    | false =>
     cases k8 with
     | true =>
      have hn : isNote t = true := by unfold isNote; rw [hk7, hk8]; rfl
      have hput : put ⟨todo, d, true, 0, false⟩ t = ([] ++ [noteE t], 0, ⟨todo, d, true, 0, false⟩) := by unfold put preE preD; simp [hn]
      have HPU := Lib.hid hput
      clear hput hn
      go_upto_region 13 with (first
       | ((with_reducible refine gate_ (.store 38 (.tmp 31) (.const (.slice none 0 0))) rfl ?_); refine wl_cells rfl rfl _ _ _ rfl (g := p) (off := 1) (.slice none 0 0) [.slice none 0 0] rfl rfl rfl (by kernel_rfl) (fun v hv => by rw [List.mem_singleton.1 hv]; rfl) HP0.out.box (by simp) ?_; intro V1 hV; obtain ⟨hA, hS⟩ := HP0.out.upd 1 (.slice none 0 0) (by decide) (s' := todo) (es' := []) (d' := d) (b' := true) (wr' := 0) (cl' := false) (vt' := vt) (ve' := .slice none 0 0) rfl HP0.out.todo (nil_row _ _ _ _) (fun _ h => h) (fun _ h => by cases h); rw [← hV] at hA hS; have HP1 := Lib.hid hA; have HS1 := Lib.hid (HSR.out.trans hS); clear q0 q1 q2 q3 q4 q5 c0 c1 c2 c3 c4 c5 hV; obtain ⟨q0, q1, q2, q3, q4, q5⟩ := hA.cell; obtain ⟨c0, c1, c2, c3, c4, c5⟩ := six_cells (HS1.out.keep HP0.out HT0.out (by decide) (by decide) (by decide)); clear hA hS))
      obtain ⟨W6, hW6⟩ : ∃ V, V1.drew = V := ⟨_, rfl⟩
      have hb6 : Below V1.heap.size V1 W6 := by rw [← hW6]; exact (Below.refl _ V1).drew
      have hS6 : ∀ V, Below V1.heap.size V1 V → V.cell? ⟨p, 1, none⟩ = some (.slice none 0 0) ∧ V.cell? ⟨w.heap.size, 0, none⟩ = some (.int .u8 t.f0) ∧ V.cell? ⟨w.heap.size, 1, none⟩ = some (.string t.f1) ∧ V.cell? ⟨w.heap.size, 2, none⟩ = some (.int .i64 t.f2.f0) ∧ V.cell? ⟨w.heap.size, 3, none⟩ = some (.int .i64 t.f2.f1) ∧ V.cell? ⟨w.heap.size, 4, none⟩ = some (.int .i64 t.f2.f2) ∧ V.cell? ⟨w.heap.size, 5, none⟩ = some (.int .i64 t.f3) := fun V hV => ⟨pw_cell_below hV q1, pw_cell_below hV c0, pw_cell_below hV c1, pw_cell_below hV c2, pw_cell_below hV c3, pw_cell_below hV c4, pw_cell_below hV c5⟩
      have HSA := Lib.hid hS6
      have HS6 := Lib.hid (hS6 W6 hb6)
      have HB6 := Lib.hid hb6
      have HW6 := Lib.hid hW6
      have HP6 := Lib.hid (HP1.out.below hb6)
      have HT6 := Lib.hid ((HS1.out.trans (PStep.below hb6)).keep HP0.out HT0.out (by decide) (by decide) (by decide))
      clear hS6 hb6 hW6
      refine wp_region_R (fun w' => w'.cell? ⟨p, 1, none⟩ = some (.slice none 0 0) ∧ w'.cell? ⟨w.heap.size, 0, none⟩ = some (.int .u8 t.f0) ∧ w'.cell? ⟨w.heap.size, 1, none⟩ = some (.string t.f1) ∧ w'.cell? ⟨w.heap.size, 2, none⟩ = some (.int .i64 t.f2.f0) ∧ w'.cell? ⟨w.heap.size, 3, none⟩ = some (.int .i64 t.f2.f1) ∧ w'.cell? ⟨w.heap.size, 4, none⟩ = some (.int .i64 t.f2.f2) ∧ w'.cell? ⟨w.heap.size, 5, none⟩ = some (.int .i64 t.f3)) (fun j => !(Nat.beq j 11)) (by kernel_rfl) ?_
      rw [HW6.out]
      refine anyR_take (i := 0) (oi := ⟨some 62, .move (.tmp 0), 24, "parse.go:107", #[], none⟩) (v := ?_) rfl (by kernel_rfl) (fun _ _ _ h => h) (Or.inl ⟨by rfl, ?_⟩) HS6.out ?_
      rotate_left
      ·intro x h; (try dsimp only at h); go_simp; try (with_reducible rfl)
      try simp only [Act.put, List.setIfInBounds_toArray, List.set]
      refine anyR_take (i := 1) (oi := ⟨some 63, .move (.tmp 0), 24, "parse.go:107", #[], none⟩) (v := ?_) rfl (by kernel_rfl) (fun _ _ _ h => h) (Or.inl ⟨by rfl, ?_⟩) HS6.out ?_
      rotate_left
      ·intro x h; (try dsimp only at h); go_simp; try (with_reducible rfl)
      try simp only [Act.put, List.setIfInBounds_toArray, List.set]
      refine anyR_take (i := 2) (oi := ⟨some 64, .nilCheck (.tmp 63), 0, "parse.go:107", #[⟨1, .data⟩], none⟩) (v := ?_) rfl (by kernel_rfl) (fun _ _ _ h => h) (Or.inl ⟨by rfl, ?_⟩) HS6.out ?_
      rotate_left
      ·intro x h; (try dsimp only at h); go_simp; try (with_reducible rfl)
      try simp only [Act.put, List.setIfInBounds_toArray, List.set]
      refine anyR_take (i := 3) (oi := ⟨some 65, .fieldAddr 67 (.tmp 64) 1, 0, "parse.go:107", #[⟨2, .data⟩], none⟩) (v := ?_) rfl (by kernel_rfl) (fun _ _ _ h => h) (Or.inl ⟨by rfl, ?_⟩) HS6.out ?_
      rotate_left
      ·intro x h; (try dsimp only at h); go_simp; try (with_reducible rfl)
      try simp only [Act.put, List.setIfInBounds_toArray, List.set]
      refine anyR_take (i := 4) (oi := ⟨some 66, .load 38 (.tmp 65), 38, "parse.go:107", #[⟨3, .data⟩], none⟩) (v := ?_) rfl (by kernel_rfl) (fun _ _ _ h => h) (Or.inl ⟨by rfl, ?_⟩) HS6.out ?_
      rotate_left
      ·intro x h; (try dsimp only at h); go_simp; try (with_reducible rfl)
      try simp only [Act.put, List.setIfInBounds_toArray, List.set]
      refine anyR_take (i := 5) (oi := ⟨some 67, .load 35 (.tmp 3), 35, "parse.go:107", #[], none⟩) (v := ?_) rfl (by kernel_rfl) (fun _ _ _ h => h) (Or.inl ⟨by rfl, ?_⟩) HS6.out ?_
      rotate_left
      ·intro x h; (try dsimp only at h); go_simp; try (with_reducible rfl)
      try simp only [Act.put, List.setIfInBounds_toArray, List.set]
      refine anyR_take (i := 6) (oi := ⟨some 68, .build 46 #[(0, .const (.int .u8 4)), (2, .tmp 67)], 46, "parse.go:107", #[⟨5, .data⟩], none⟩) (v := ?_) rfl (by kernel_rfl) (fun _ _ _ h => h) (Or.inl ⟨by rfl, ?_⟩) HS6.out ?_
      rotate_left
      ·intro x h; (try dsimp only at h); go_simp; try (with_reducible rfl)
      try simp only [Act.put, List.setIfInBounds_toArray, List.set]
      refine anyR_ready (rs := [7]) (by kernel_rfl) (by simp) ?_
      refine ReadyR.cons (o := ⟨some 69, .buildSlice 38 1 #[(0, .tmp 68)], 38, "parse.go:107", #[⟨6, .data⟩], none⟩) rfl (fun K hK => ?_) ReadyR.nil
      go_simp
      refine hK.out _ _ (fun _ => HSA.out _ (HB6.out.alloc HB6.out.size _)) ?_
      clear hK K
      try simp only [Act.put, List.setIfInBounds_toArray, List.set]
      refine anyR_ready (rs := [8]) (by kernel_rfl) (by simp) ?_
      refine ReadyR.cons (o := ⟨some 70, .call { callee := .builtin .append, args := #[.tmp 66, .tmp 69], argTypes := #[38, 38] }, 38, "parse.go:107", #[⟨4, .data⟩, ⟨7, .data⟩], none⟩) rfl (fun K hK => ?_) ReadyR.nil
      refine step_ev (W := W6) rfl (.tmp 66) (.tmp 69) rfl p (u := .slice none 0 0) (q := 0) (kc := ([] : List Ev).flatMap evCells) (cs := [.int .u8 4, .int .u8 0, .int .u8 t.f0, .string t.f1, .int .i64 t.f2.f0, .int .i64 t.f2.f1, .int .i64 t.f2.f2, .int .i64 t.f3]) rfl rfl HP6.out.evs rfl (evCells_one (noteE t)) (Nat.le_of_lt (blk_lt HP6.out.box)) (by decide) ?_
      intro G9 C9 w6 ho hg hat
      obtain ⟨⟨cur6, hcur, hfit⟩, hnx⟩ := ev_next (e := noteE t) HP6.out ho hg hat
      have hpe : ((.slice none 0 0 : Value)).ownBlock ≠ some p := fun e => by
       obtain ⟨cs, hc⟩ := own_typed HP6.out.evs p e
       rw [HP6.out.box] at hc; exact absurd (cells_ty hc) (by decide)
      have hpt : some w.heap.size ≠ ((.slice none 0 0 : Value)).ownBlock := fun e => by
       obtain ⟨cs, hc⟩ := own_typed HP6.out.evs w.heap.size e.symm
       rw [HT6.out] at hc; exact absurd (cells_ty hc) (by decide)
      have hc1 := World.cell?_of_block (a := ⟨p, 1, none⟩) (hg.block p (blk_lt HP6.out.box) (fun e => hpe e.symm))
      have hbT := hg.block w.heap.size (blk_lt HT6.out) hpt
      have hS7 : w6.cell? ⟨p, 1, none⟩ = some (.slice none 0 0) ∧ w6.cell? ⟨w.heap.size, 0, none⟩ = some (.int .u8 t.f0) ∧ w6.cell? ⟨w.heap.size, 1, none⟩ = some (.string t.f1) ∧ w6.cell? ⟨w.heap.size, 2, none⟩ = some (.int .i64 t.f2.f0) ∧ w6.cell? ⟨w.heap.size, 3, none⟩ = some (.int .i64 t.f2.f1) ∧ w6.cell? ⟨w.heap.size, 4, none⟩ = some (.int .i64 t.f2.f2) ∧ w6.cell? ⟨w.heap.size, 5, none⟩ = some (.int .i64 t.f3) := ⟨hc1.trans HS6.out.1, (World.cell?_of_block hbT).trans HS6.out.2.1, (World.cell?_of_block hbT).trans HS6.out.2.2.1, (World.cell?_of_block hbT).trans HS6.out.2.2.2.1, (World.cell?_of_block hbT).trans HS6.out.2.2.2.2.1, (World.cell?_of_block hbT).trans HS6.out.2.2.2.2.2.1, (World.cell?_of_block hbT).trans HS6.out.2.2.2.2.2.2⟩
      have HS7 := Lib.hid hS7
      have HCU := Lib.hid (And.intro hcur hfit)
      have HNX := Lib.hid hnx
      refine hK.out _ _ (fun _ => hS7) ?_
      clear hK K ho hg hat hpe hpt hc1 hbT hS7 hcur hfit hnx
      try simp only [Act.put, List.setIfInBounds_toArray, List.set]
      refine anyR_ready (rs := [9]) (by kernel_rfl) (by simp) ?_
      refine ReadyR.cons (o := ⟨some 71, .nilCheck (.tmp 62), 0, "parse.go:107", #[⟨0, .data⟩, ⟨0, .phase⟩, ⟨1, .phase⟩, ⟨2, .phase⟩, ⟨3, .phase⟩, ⟨4, .phase⟩, ⟨5, .phase⟩, ⟨6, .phase⟩, ⟨7, .phase⟩, ⟨8, .phase⟩], none⟩) rfl (fun K hK => ?_) ReadyR.nil
      go_simp
      refine hK.out _ _ (fun _ => HS7.out) ?_
      clear hK K
      try simp only [Act.put, List.setIfInBounds_toArray, List.set]
      refine anyR_ready (rs := [10]) (by kernel_rfl) (by simp) ?_
      refine ReadyR.cons (o := ⟨some 72, .fieldAddr 67 (.tmp 71) 1, 0, "parse.go:107", #[⟨9, .data⟩, ⟨0, .phase⟩, ⟨1, .phase⟩, ⟨2, .phase⟩, ⟨3, .phase⟩, ⟨4, .phase⟩, ⟨5, .phase⟩, ⟨6, .phase⟩, ⟨7, .phase⟩, ⟨8, .phase⟩], none⟩) rfl (fun K hK => ?_) ReadyR.nil
      go_simp
      refine hK.out _ _ (fun _ => HS7.out) ?_
      clear hK K
      try simp only [Act.put, List.setIfInBounds_toArray, List.set]
      refine anyR_ready (rs := [11]) (by kernel_rfl) (by simp) ?_
      refine ReadyR.cons (o := ⟨none, .store 38 (.tmp 72) (.tmp 70), 0, "parse.go:107", #[⟨10, .data⟩, ⟨8, .data⟩, ⟨8, .chain⟩, ⟨0, .phase⟩, ⟨1, .phase⟩, ⟨2, .phase⟩, ⟨3, .phase⟩, ⟨4, .phase⟩, ⟨5, .phase⟩, ⟨6, .phase⟩, ⟨7, .phase⟩, ⟨8, .phase⟩], none⟩) rfl (fun K hK => ?_) ReadyR.nil
      refine step_store rfl rfl 38 (.tmp 72) (.tmp 70) rfl (g := p) (off := 1) (.slice (some ⟨G9, 0, none⟩) (0 + 1) C9) [.slice (some ⟨G9, 0, none⟩) (0 + 1) C9] rfl rfl rfl (by kernel_rfl) (fun v hv => by rw [List.mem_singleton.1 hv]; rfl) HCU.out.1 HCU.out.2 ?_
      have HN7 := Lib.hid (HNX.out _ rfl)
      refine hK.out _ _ (fun h => by cases h) ?_
      clear hK K HNX HCU HS7
      generalize w6.setCells p 1 [.slice (some ⟨G9, 0, none⟩) (0 + 1) C9] = V7 at HN7 ⊢
      try simp only [Act.put, List.setIfInBounds_toArray, List.set]
      refine anyR_done (by kernel_rfl) ?_ _
      have HP7 : Hid (PAt V7 p todo ([] ++ [noteE t]) d true 0 false vt (.slice (some ⟨G9, 0, none⟩) (0 + 1) C9)) := Lib.hid HN7.out.1
      have HS7 := Lib.hid (HS1.out.trans ((PStep.below HB6.out).trans HN7.out.2))
      clear q0 q1 q2 q3 q4 q5 c0 c1 c2 c3 c4 c5 HN7
      obtain ⟨q0, q1, q2, q3, q4, q5⟩ := HP7.out.cell
      obtain ⟨c0, c1, c2, c3, c4, c5⟩ := six_cells (HS7.out.keep HP0.out HT0.out (by decide) (by decide) (by decide))
      go_wp2_with (((with_reducible refine gate_ (.store 4 (.tmp 94) (.const (.bool true))) rfl ?_); refine wl_cells rfl rfl _ _ _ rfl (g := p) (off := 3) (.bool true) [.bool true] rfl rfl rfl (by kernel_rfl) (fun v hv => by rw [List.mem_singleton.1 hv]; rfl) HP7.out.box (by simp) ?_; intro V8 hV; obtain ⟨hA, hS⟩ := HP7.out.upd 3 (.bool true) (by decide) (s' := todo) (es' := ([] ++ [noteE t])) (d' := d) (b' := true) (wr' := 0) (cl' := false) (vt' := vt) (ve' := .slice (some ⟨G9, 0, none⟩) (0 + 1) C9) rfl HP7.out.todo HP7.out.evs (fun _ h => h) (fun _ h => h); rw [← hV] at hA hS; have HP8 := Lib.hid hA; have HS8 := Lib.hid (HS7.out.trans hS); clear q0 q1 q2 q3 q4 q5 c0 c1 c2 c3 c4 c5 hV; obtain ⟨q0, q1, q2, q3, q4, q5⟩ := hA.cell; obtain ⟨c0, c1, c2, c3, c4, c5⟩ := six_cells (HS8.out.keep HP0.out HT0.out (by decide) (by decide) (by decide)); clear hA hS))
      go_ret2
      unfold PutPost
      rw [HPU.out]
      exact ⟨_, _, _, _, rfl, HP8.out, HS0.out.trans HS8.out, HP8.out.evs, .inl rfl⟩
     | false =>
      obtain ⟨⟨te, ts⟩, htr⟩ : ∃ tr, token t todo d = tr := ⟨_, rfl⟩
      have HTR := Lib.hid htr
      clear htr
      by_cases hte : te = 0
      ·subst hte
       have hn : isNote t = false := by unfold isNote; rw [hk7, hk8]; rfl
       have hput : put ⟨todo, d, true, 0, false⟩ t = ([] ++ ts.evs.map evOf ++ [leafE t], 0, ⟨ts.todo, ts.depth, true, 0, false⟩) := by unfold put preE preD; simp [hn, HTR.out]
       have HPU := Lib.hid hput
       clear hput hn
       go_wp2_with (first
        | ((with_reducible refine gate_ (.store 38 (.tmp 31) (.const (.slice none 0 0))) rfl ?_); refine wl_cells rfl rfl _ _ _ rfl (g := p) (off := 1) (.slice none 0 0) [.slice none 0 0] rfl rfl rfl (by kernel_rfl) (fun v hv => by rw [List.mem_singleton.1 hv]; rfl) HP0.out.box (by simp) ?_; intro V1 hV; obtain ⟨hA, hS⟩ := HP0.out.upd 1 (.slice none 0 0) (by decide) (s' := todo) (es' := []) (d' := d) (b' := true) (wr' := 0) (cl' := false) (vt' := vt) (ve' := .slice none 0 0) rfl HP0.out.todo (nil_row _ _ _ _) (fun _ h => h) (fun _ h => by cases h); rw [← hV] at hA hS; have HP1 := Lib.hid hA; have HS1 := Lib.hid (HSR.out.trans hS); clear q0 q1 q2 q3 q4 q5 c0 c1 c2 c3 c4 c5 hV; obtain ⟨q0, q1, q2, q3, q4, q5⟩ := hA.cell; obtain ⟨c0, c1, c2, c3, c4, c5⟩ := six_cells (HS1.out.keep HP0.out HT0.out (by decide) (by decide) (by decide)); clear hA hS)
        | (go_at_call 46; have htk := token_any p todo [] d true 0 false vt (.slice none 0 0) t V1 HP1.out (by have := HIN.out; dsimp only at this; omega) (by decide) (by have := HIN.out; dsimp only at this; omega) HIN.out.1; unfold TokPost at htk; rw [HTR.out] at htk; dsimp only at htk; rw [if_pos rfl] at htk; (with_reducible refine Calls.mono htk ?_); rintro e W5 ⟨rfl, vt5, ve5, hP5, hs5⟩; have HP5 := Lib.hid hP5; have HS5 := Lib.hid (HS1.out.trans hs5); clear q0 q1 q2 q3 q4 q5 c0 c1 c2 c3 c4 c5 htk hs5; obtain ⟨q0, q1, q2, q3, q4, q5⟩ := hP5.cell; obtain ⟨c0, c1, c2, c3, c4, c5⟩ := six_cells (HS5.out.keep HP0.out HT0.out (by decide) (by decide) (by decide)); clear hP5)
        | ((with_reducible refine gate_ (.store 39 (.tmp 78) (.tmp 76)) rfl ?_); refine wl_cells rfl rfl _ _ _ rfl (g := p) (off := 4) (.int .i64 0) [.int .i64 0] rfl rfl rfl (by kernel_rfl) (fun v hv => by rw [List.mem_singleton.1 hv]; rfl) HP5.out.box (by simp) ?_; intro V6 hV; obtain ⟨hA, hS⟩ := HP5.out.upd 4 (.int .i64 0) (by decide) (s' := ts.todo) (es' := ([] ++ ts.evs.map evOf ++ [leafE t])) (d' := ts.depth) (b' := true) (wr' := 0) (cl' := false) (vt' := vt5) (ve' := ve5) rfl HP5.out.todo HP5.out.evs (fun _ h => h) (fun _ h => h); rw [← hV] at hA hS; have HP6 := Lib.hid hA; have HS6 := Lib.hid (HS5.out.trans hS); clear q0 q1 q2 q3 q4 q5 c0 c1 c2 c3 c4 c5 hV; obtain ⟨q0, q1, q2, q3, q4, q5⟩ := hA.cell; obtain ⟨c0, c1, c2, c3, c4, c5⟩ := six_cells (HS6.out.keep HP0.out HT0.out (by decide) (by decide) (by decide)); clear hA hS)
        | ((with_reducible refine gate_ (.store 4 (.tmp 94) (.const (.bool true))) rfl ?_); refine wl_cells rfl rfl _ _ _ rfl (g := p) (off := 3) (.bool true) [.bool true] rfl rfl rfl (by kernel_rfl) (fun v hv => by rw [List.mem_singleton.1 hv]; rfl) HP6.out.box (by simp) ?_; intro V7 hV; obtain ⟨hA, hS⟩ := HP6.out.upd 3 (.bool true) (by decide) (s' := ts.todo) (es' := ([] ++ ts.evs.map evOf ++ [leafE t])) (d' := ts.depth) (b' := true) (wr' := 0) (cl' := false) (vt' := vt5) (ve' := ve5) rfl HP6.out.todo HP6.out.evs (fun _ h => h) (fun _ h => h); rw [← hV] at hA hS; have HP7 := Lib.hid hA; have HS7 := Lib.hid (HS6.out.trans hS); clear q0 q1 q2 q3 q4 q5 c0 c1 c2 c3 c4 c5 hV; obtain ⟨q0, q1, q2, q3, q4, q5⟩ := hA.cell; obtain ⟨c0, c1, c2, c3, c4, c5⟩ := six_cells (HS7.out.keep HP0.out HT0.out (by decide) (by decide) (by decide)); clear hA hS))
       go_ret2
       unfold PutPost
       rw [HPU.out]
       exact ⟨_, _, _, _, rfl, HP7.out, HS0.out.trans HS7.out, HP7.out.evs, .inl rfl⟩
      ·skip
       have hn : isNote t = false := by unfold isNote; rw [hk7, hk8]; rfl
       have hput : put ⟨todo, d, true, 0, false⟩ t = ([], te, ⟨ts.todo, d, true, te, false⟩) := by unfold put preE preD; simp [hn, HTR.out, hte]
       have HPU := Lib.hid hput
       clear hput hn
       have HTE := Lib.hid hte
       have e9 : (te != 0) = true := by rw [bne_iff_ne]; exact hte
       clear hte
       go_upto_region 17 with (first
        | ((with_reducible refine gate_ (.store 38 (.tmp 31) (.const (.slice none 0 0))) rfl ?_); refine wl_cells rfl rfl _ _ _ rfl (g := p) (off := 1) (.slice none 0 0) [.slice none 0 0] rfl rfl rfl (by kernel_rfl) (fun v hv => by rw [List.mem_singleton.1 hv]; rfl) HP0.out.box (by simp) ?_; intro V1 hV; obtain ⟨hA, hS⟩ := HP0.out.upd 1 (.slice none 0 0) (by decide) (s' := todo) (es' := []) (d' := d) (b' := true) (wr' := 0) (cl' := false) (vt' := vt) (ve' := .slice none 0 0) rfl HP0.out.todo (nil_row _ _ _ _) (fun _ h => h) (fun _ h => by cases h); rw [← hV] at hA hS; have HP1 := Lib.hid hA; have HS1 := Lib.hid (HSR.out.trans hS); clear q0 q1 q2 q3 q4 q5 c0 c1 c2 c3 c4 c5 hV; obtain ⟨q0, q1, q2, q3, q4, q5⟩ := hA.cell; obtain ⟨c0, c1, c2, c3, c4, c5⟩ := six_cells (HS1.out.keep HP0.out HT0.out (by decide) (by decide) (by decide)); clear hA hS)
        | (go_at_call 46; have htk := token_any p todo [] d true 0 false vt (.slice none 0 0) t V1 HP1.out (by have := HIN.out; dsimp only at this; omega) (by decide) (by have := HIN.out; dsimp only at this; omega) HIN.out.1; unfold TokPost at htk; rw [HTR.out] at htk; dsimp only at htk; rw [if_neg HTE.out] at htk; (with_reducible refine Calls.mono htk ?_); rintro e W5 ⟨rfl, vt5, ve5, hP5, hs5⟩; have HP5 := Lib.hid hP5; have HS5 := Lib.hid (HS1.out.trans hs5); clear q0 q1 q2 q3 q4 q5 c0 c1 c2 c3 c4 c5 htk hs5; obtain ⟨q0, q1, q2, q3, q4, q5⟩ := hP5.cell; obtain ⟨c0, c1, c2, c3, c4, c5⟩ := six_cells (HS5.out.keep HP0.out HT0.out (by decide) (by decide) (by decide)); clear hP5)
        | ((with_reducible refine gate_ (.store 39 (.tmp 78) (.tmp 76)) rfl ?_); refine wl_cells rfl rfl _ _ _ rfl (g := p) (off := 4) (.int .i64 te) [.int .i64 te] rfl rfl rfl (by kernel_rfl) (fun v hv => by rw [List.mem_singleton.1 hv]; rfl) HP5.out.box (by simp) ?_; intro V6 hV; obtain ⟨hA, hS⟩ := HP5.out.upd 4 (.int .i64 te) (by decide) (s' := ts.todo) (es' := ([] ++ ts.evs.map evOf ++ [])) (d' := ts.depth) (b' := true) (wr' := te) (cl' := false) (vt' := vt5) (ve' := ve5) rfl HP5.out.todo HP5.out.evs (fun _ h => h) (fun _ h => h); rw [← hV] at hA hS; have HP6 := Lib.hid hA; have HS6 := Lib.hid (HS5.out.trans hS); clear q0 q1 q2 q3 q4 q5 c0 c1 c2 c3 c4 c5 hV; obtain ⟨q0, q1, q2, q3, q4, q5⟩ := hA.cell; obtain ⟨c0, c1, c2, c3, c4, c5⟩ := six_cells (HS6.out.keep HP0.out HT0.out (by decide) (by decide) (by decide)); clear hA hS)
        | ((with_reducible refine gate_ (.store 3 (.tmp 87) (.tmp 85)) rfl ?_); refine wl_cells rfl rfl _ _ _ rfl (g := p) (off := 2) (.int .i64 d) [.int .i64 d] rfl rfl rfl (by kernel_rfl) (fun v hv => by rw [List.mem_singleton.1 hv]; rfl) HP6.out.box (by simp) ?_; intro V7 hV; obtain ⟨hA, hS⟩ := HP6.out.upd 2 (.int .i64 d) (by decide) (s' := ts.todo) (es' := ([] ++ ts.evs.map evOf ++ [])) (d' := d) (b' := true) (wr' := te) (cl' := false) (vt' := vt5) (ve' := ve5) rfl HP6.out.todo HP6.out.evs (fun _ h => h) (fun _ h => h); rw [← hV] at hA hS; have HP7 := Lib.hid hA; have HS7 := Lib.hid (HS6.out.trans hS); clear q0 q1 q2 q3 q4 q5 c0 c1 c2 c3 c4 c5 hV; obtain ⟨q0, q1, q2, q3, q4, q5⟩ := hA.cell; obtain ⟨c0, c1, c2, c3, c4, c5⟩ := six_cells (HS7.out.keep HP0.out HT0.out (by decide) (by decide) (by decide)); clear hA hS))
       go_region
       go_wp2
       go_ret2
       unfold PutPost
       rw [HPU.out]
       exact ⟨_, _, _, _, rfl, HP7.out.below (below_drew _), HS0.out.trans (HS7.out.trans (PStep.below (below_drew _))), nil_row _ _ _ _, .inr rfl⟩
   | false =>
    have HSR := Lib.hid (PStep.refl p vt ve W0)
    have hwd : IntKind.i64.wrap (d + 1) = d + 1 := by rw [IntKind.wrap_i64]; have := HIN.out; dsimp only at this; omega
    cases k7 with
    | true =>
     have hn : isNote t = true := by unfold isNote; rw [hk7, hk8]; rfl
     have hput : put ⟨todo, d, false, 0, false⟩ t = ([evOf (1, 1)] ++ [noteE t], 0, ⟨todo, (d + 1), true, 0, false⟩) := by unfold put preE preD; simp [hn]
     have HPU := Lib.hid hput
     clear hput hn
     go_upto_region 13 with (first
      | ((with_reducible refine gate_ (.store 38 (.tmp 31) (.const (.slice none 0 0))) rfl ?_); refine wl_cells rfl rfl _ _ _ rfl (g := p) (off := 1) (.slice none 0 0) [.slice none 0 0] rfl rfl rfl (by kernel_rfl) (fun v hv => by rw [List.mem_singleton.1 hv]; rfl) HP0.out.box (by simp) ?_; intro V1 hV; obtain ⟨hA, hS⟩ := HP0.out.upd 1 (.slice none 0 0) (by decide) (s' := todo) (es' := []) (d' := d) (b' := false) (wr' := 0) (cl' := false) (vt' := vt) (ve' := .slice none 0 0) rfl HP0.out.todo (nil_row _ _ _ _) (fun _ h => h) (fun _ h => by cases h); rw [← hV] at hA hS; have HP1 := Lib.hid hA; have HS1 := Lib.hid (HSR.out.trans hS); clear q0 q1 q2 q3 q4 q5 c0 c1 c2 c3 c4 c5 hV; obtain ⟨q0, q1, q2, q3, q4, q5⟩ := hA.cell; obtain ⟨c0, c1, c2, c3, c4, c5⟩ := six_cells (HS1.out.keep HP0.out HT0.out (by decide) (by decide) (by decide)); clear hA hS)
      | ((with_reducible refine gate_dst (N := 44) rfl ?_); refine wl_ev rfl (.tmp 41) (.tmp 43) rfl p (u := .slice none 0 0) (q := 0) (kc := []) (cs := [.int .u8 1, .int .u8 1, .int .u8 0, .string ⟨#[]⟩, .int .i64 0, .int .i64 0, .int .i64 0, .int .i64 0]) rfl rfl (nil_row _ _ _ _) rfl (evCells_one (evOf (1, 1))) (Nat.le_of_lt (blk_lt HP1.out.box)) (by decide) ?_; intro G1 C1 w1 ho hg hat; obtain ⟨⟨cur, hcur, hfit⟩, hnx⟩ := ev_next (e := evOf (1, 1)) HP1.out ho hg hat; have HCU := Lib.hid (And.intro hcur hfit); have HNX := Lib.hid hnx; clear ho hg hat hcur hfit hnx)
      | ((with_reducible refine gate_ (.store 38 (.tmp 46) (.tmp 44)) rfl ?_); refine wl_cells rfl rfl _ _ _ rfl (g := p) (off := 1) (.slice (some ⟨G1, 0, none⟩) (0 + 1) C1) [.slice (some ⟨G1, 0, none⟩) (0 + 1) C1] rfl rfl rfl (by kernel_rfl) (fun v hv => by rw [List.mem_singleton.1 hv]; rfl) HCU.out.1 HCU.out.2 ?_; intro V2 hV; obtain ⟨hA, hS⟩ := HNX.out V2 hV; have HP2 : Hid (PAt V2 p todo [evOf (1, 1)] d false 0 false vt (.slice (some ⟨G1, 0, none⟩) (0 + 1) C1)) := Lib.hid hA; have HS2 := Lib.hid (HS1.out.trans hS); clear q0 q1 q2 q3 q4 q5 c0 c1 c2 c3 c4 c5 hV HNX HCU; obtain ⟨q0, q1, q2, q3, q4, q5⟩ := hA.cell; obtain ⟨c0, c1, c2, c3, c4, c5⟩ := six_cells (HS2.out.keep HP0.out HT0.out (by decide) (by decide) (by decide)); clear hA hS)
      | ((with_reducible refine gate_ (.store 3 (.tmp 53) (.tmp 51)) rfl ?_); refine wl_cells rfl rfl _ _ _ rfl (g := p) (off := 2) (.int .i64 (d + 1)) [.int .i64 (d + 1)] rfl rfl rfl (by kernel_rfl) (fun v hv => by rw [List.mem_singleton.1 hv]; rfl) HP2.out.box (by simp) ?_; intro V3 hV; obtain ⟨hA, hS⟩ := HP2.out.upd 2 (.int .i64 (d + 1)) (by decide) (s' := todo) (es' := [evOf (1, 1)]) (d' := (d + 1)) (b' := false) (wr' := 0) (cl' := false) (vt' := vt) (ve' := .slice (some ⟨G1, 0, none⟩) (0 + 1) C1) rfl HP2.out.todo HP2.out.evs (fun _ h => h) (fun _ h => h); rw [← hV] at hA hS; have HP3 := Lib.hid hA; have HS3 := Lib.hid (HS2.out.trans hS); clear q0 q1 q2 q3 q4 q5 c0 c1 c2 c3 c4 c5 hV; obtain ⟨q0, q1, q2, q3, q4, q5⟩ := hA.cell; obtain ⟨c0, c1, c2, c3, c4, c5⟩ := six_cells (HS3.out.keep HP0.out HT0.out (by decide) (by decide) (by decide)); clear hA hS))
     obtain ⟨W6, hW6⟩ : ∃ V, V3.drew = V := ⟨_, rfl⟩
     have hb6 : Below V3.heap.size V3 W6 := by rw [← hW6]; exact (Below.refl _ V3).drew
     have hS6 : ∀ V, Below V3.heap.size V3 V → V.cell? ⟨p, 1, none⟩ = some (.slice (some ⟨G1, 0, none⟩) (0 + 1) C1) ∧ V.cell? ⟨w.heap.size, 0, none⟩ = some (.int .u8 t.f0) ∧ V.cell? ⟨w.heap.size, 1, none⟩ = some (.string t.f1) ∧ V.cell? ⟨w.heap.size, 2, none⟩ = some (.int .i64 t.f2.f0) ∧ V.cell? ⟨w.heap.size, 3, none⟩ = some (.int .i64 t.f2.f1) ∧ V.cell? ⟨w.heap.size, 4, none⟩ = some (.int .i64 t.f2.f2) ∧ V.cell? ⟨w.heap.size, 5, none⟩ = some (.int .i64 t.f3) := fun V hV => ⟨pw_cell_below hV q1, pw_cell_below hV c0, pw_cell_below hV c1, pw_cell_below hV c2, pw_cell_below hV c3, pw_cell_below hV c4, pw_cell_below hV c5⟩
     have HSA := Lib.hid hS6
     have HS6 := Lib.hid (hS6 W6 hb6)
     have HB6 := Lib.hid hb6
     have HW6 := Lib.hid hW6
     have HP6 := Lib.hid (HP3.out.below hb6)
     have HT6 := Lib.hid ((HS3.out.trans (PStep.below hb6)).keep HP0.out HT0.out (by decide) (by decide) (by decide))
     clear hS6 hb6 hW6
     refine wp_region_R (fun w' => w'.cell? ⟨p, 1, none⟩ = some (.slice (some ⟨G1, 0, none⟩) (0 + 1) C1) ∧ w'.cell? ⟨w.heap.size, 0, none⟩ = some (.int .u8 t.f0) ∧ w'.cell? ⟨w.heap.size, 1, none⟩ = some (.string t.f1) ∧ w'.cell? ⟨w.heap.size, 2, none⟩ = some (.int .i64 t.f2.f0) ∧ w'.cell? ⟨w.heap.size, 3, none⟩ = some (.int .i64 t.f2.f1) ∧ w'.cell? ⟨w.heap.size, 4, none⟩ = some (.int .i64 t.f2.f2) ∧ w'.cell? ⟨w.heap.size, 5, none⟩ = some (.int .i64 t.f3)) (fun j => !(Nat.beq j 11)) (by kernel_rfl) ?_
     rw [HW6.out]
     refine anyR_take (i := 0) (oi := ⟨some 62, .move (.tmp 0), 24, "parse.go:107", #[], none⟩) (v := ?_) rfl (by kernel_rfl) (fun _ _ _ h => h) (Or.inl ⟨by rfl, ?_⟩) HS6.out ?_
     rotate_left
     ·intro x h; (try dsimp only at h); go_simp; try (with_reducible rfl)
     try simp only [Act.put, List.setIfInBounds_toArray, List.set]
     refine anyR_take (i := 1) (oi := ⟨some 63, .move (.tmp 0), 24, "parse.go:107", #[], none⟩) (v := ?_) rfl (by kernel_rfl) (fun _ _ _ h => h) (Or.inl ⟨by rfl, ?_⟩) HS6.out ?_
     rotate_left
     ·intro x h; (try dsimp only at h); go_simp; try (with_reducible rfl)
     try simp only [Act.put, List.setIfInBounds_toArray, List.set]
     refine anyR_take (i := 2) (oi := ⟨some 64, .nilCheck (.tmp 63), 0, "parse.go:107", #[⟨1, .data⟩], none⟩) (v := ?_) rfl (by kernel_rfl) (fun _ _ _ h => h) (Or.inl ⟨by rfl, ?_⟩) HS6.out ?_
     rotate_left
     ·intro x h; (try dsimp only at h); go_simp; try (with_reducible rfl)
     try simp only [Act.put, List.setIfInBounds_toArray, List.set]
     refine anyR_take (i := 3) (oi := ⟨some 65, .fieldAddr 67 (.tmp 64) 1, 0, "parse.go:107", #[⟨2, .data⟩], none⟩) (v := ?_) rfl (by kernel_rfl) (fun _ _ _ h => h) (Or.inl ⟨by rfl, ?_⟩) HS6.out ?_
     rotate_left
     ·intro x h; (try dsimp only at h); go_simp; try (with_reducible rfl)
     try simp only [Act.put, List.setIfInBounds_toArray, List.set]
     refine anyR_take (i := 4) (oi := ⟨some 66, .load 38 (.tmp 65), 38, "parse.go:107", #[⟨3, .data⟩], none⟩) (v := ?_) rfl (by kernel_rfl) (fun _ _ _ h => h) (Or.inl ⟨by rfl, ?_⟩) HS6.out ?_
     rotate_left
     ·intro x h; (try dsimp only at h); go_simp; try (with_reducible rfl)
     try simp only [Act.put, List.setIfInBounds_toArray, List.set]
     refine anyR_take (i := 5) (oi := ⟨some 67, .load 35 (.tmp 3), 35, "parse.go:107", #[], none⟩) (v := ?_) rfl (by kernel_rfl) (fun _ _ _ h => h) (Or.inl ⟨by rfl, ?_⟩) HS6.out ?_
     rotate_left
     ·intro x h; (try dsimp only at h); go_simp; try (with_reducible rfl)
     try simp only [Act.put, List.setIfInBounds_toArray, List.set]
     refine anyR_take (i := 6) (oi := ⟨some 68, .build 46 #[(0, .const (.int .u8 4)), (2, .tmp 67)], 46, "parse.go:107", #[⟨5, .data⟩], none⟩) (v := ?_) rfl (by kernel_rfl) (fun _ _ _ h => h) (Or.inl ⟨by rfl, ?_⟩) HS6.out ?_
     rotate_left
     ·intro x h; (try dsimp only at h); go_simp; try (with_reducible rfl)
     try simp only [Act.put, List.setIfInBounds_toArray, List.set]
     refine anyR_ready (rs := [7]) (by kernel_rfl) (by simp) ?_
     refine ReadyR.cons (o := ⟨some 69, .buildSlice 38 1 #[(0, .tmp 68)], 38, "parse.go:107", #[⟨6, .data⟩], none⟩) rfl (fun K hK => ?_) ReadyR.nil
     go_simp
     refine hK.out _ _ (fun _ => HSA.out _ (HB6.out.alloc HB6.out.size _)) ?_
     clear hK K
     try simp only [Act.put, List.setIfInBounds_toArray, List.set]
     refine anyR_ready (rs := [8]) (by kernel_rfl) (by simp) ?_
     refine ReadyR.cons (o := ⟨some 70, .call { callee := .builtin .append, args := #[.tmp 66, .tmp 69], argTypes := #[38, 38] }, 38, "parse.go:107", #[⟨4, .data⟩, ⟨7, .data⟩], none⟩) rfl (fun K hK => ?_) ReadyR.nil
     refine step_ev (W := W6) rfl (.tmp 66) (.tmp 69) rfl p (u := .slice (some ⟨G1, 0, none⟩) (0 + 1) C1) (q := 1) (kc := ([evOf (1, 1)] : List Ev).flatMap evCells) (cs := [.int .u8 4, .int .u8 0, .int .u8 t.f0, .string t.f1, .int .i64 t.f2.f0, .int .i64 t.f2.f1, .int .i64 t.f2.f2, .int .i64 t.f3]) rfl rfl HP6.out.evs rfl (evCells_one (noteE t)) (Nat.le_of_lt (blk_lt HP6.out.box)) (by decide) ?_
     intro G9 C9 w6 ho hg hat
     obtain ⟨⟨cur6, hcur, hfit⟩, hnx⟩ := ev_next (e := noteE t) HP6.out ho hg hat
     have hpe : ((.slice (some ⟨G1, 0, none⟩) (0 + 1) C1 : Value)).ownBlock ≠ some p := fun e => by
      obtain ⟨cs, hc⟩ := own_typed HP6.out.evs p e
      rw [HP6.out.box] at hc; exact absurd (cells_ty hc) (by decide)
     have hpt : some w.heap.size ≠ ((.slice (some ⟨G1, 0, none⟩) (0 + 1) C1 : Value)).ownBlock := fun e => by
      obtain ⟨cs, hc⟩ := own_typed HP6.out.evs w.heap.size e.symm
      rw [HT6.out] at hc; exact absurd (cells_ty hc) (by decide)
     have hc1 := World.cell?_of_block (a := ⟨p, 1, none⟩) (hg.block p (blk_lt HP6.out.box) (fun e => hpe e.symm))
     have hbT := hg.block w.heap.size (blk_lt HT6.out) hpt
     have hS7 : w6.cell? ⟨p, 1, none⟩ = some (.slice (some ⟨G1, 0, none⟩) (0 + 1) C1) ∧ w6.cell? ⟨w.heap.size, 0, none⟩ = some (.int .u8 t.f0) ∧ w6.cell? ⟨w.heap.size, 1, none⟩ = some (.string t.f1) ∧ w6.cell? ⟨w.heap.size, 2, none⟩ = some (.int .i64 t.f2.f0) ∧ w6.cell? ⟨w.heap.size, 3, none⟩ = some (.int .i64 t.f2.f1) ∧ w6.cell? ⟨w.heap.size, 4, none⟩ = some (.int .i64 t.f2.f2) ∧ w6.cell? ⟨w.heap.size, 5, none⟩ = some (.int .i64 t.f3) := ⟨hc1.trans HS6.out.1, (World.cell?_of_block hbT).trans HS6.out.2.1, (World.cell?_of_block hbT).trans HS6.out.2.2.1, (World.cell?_of_block hbT).trans HS6.out.2.2.2.1, (World.cell?_of_block hbT).trans HS6.out.2.2.2.2.1, (World.cell?_of_block hbT).trans HS6.out.2.2.2.2.2.1, (World.cell?_of_block hbT).trans HS6.out.2.2.2.2.2.2⟩
     have HS7 := Lib.hid hS7
     have HCU := Lib.hid (And.intro hcur hfit)
     have HNX := Lib.hid hnx
     refine hK.out _ _ (fun _ => hS7) ?_
     clear hK K ho hg hat hpe hpt hc1 hbT hS7 hcur hfit hnx
     try simp only [Act.put, List.setIfInBounds_toArray, List.set]
     refine anyR_ready (rs := [9]) (by kernel_rfl) (by simp) ?_
     refine ReadyR.cons (o := ⟨some 71, .nilCheck (.tmp 62), 0, "parse.go:107", #[⟨0, .data⟩, ⟨0, .phase⟩, ⟨1, .phase⟩, ⟨2, .phase⟩, ⟨3, .phase⟩, ⟨4, .phase⟩, ⟨5, .phase⟩, ⟨6, .phase⟩, ⟨7, .phase⟩, ⟨8, .phase⟩], none⟩) rfl (fun K hK => ?_) ReadyR.nil
     go_simp
     refine hK.out _ _ (fun _ => HS7.out) ?_
     clear hK K
     try simp only [Act.put, List.setIfInBounds_toArray, List.set]
     refine anyR_ready (rs := [10]) (by kernel_rfl) (by simp) ?_
     refine ReadyR.cons (o := ⟨some 72, .fieldAddr 67 (.tmp 71) 1, 0, "parse.go:107", #[⟨9, .data⟩, ⟨0, .phase⟩, ⟨1, .phase⟩, ⟨2, .phase⟩, ⟨3, .phase⟩, ⟨4, .phase⟩, ⟨5, .phase⟩, ⟨6, .phase⟩, ⟨7, .phase⟩, ⟨8, .phase⟩], none⟩) rfl (fun K hK => ?_) ReadyR.nil
     go_simp
     refine hK.out _ _ (fun _ => HS7.out) ?_
     clear hK K
     try simp only [Act.put, List.setIfInBounds_toArray, List.set]
     refine anyR_ready (rs := [11]) (by kernel_rfl) (by simp) ?_
     refine ReadyR.cons (o := ⟨none, .store 38 (.tmp 72) (.tmp 70), 0, "parse.go:107", #[⟨10, .data⟩, ⟨8, .data⟩, ⟨8, .chain⟩, ⟨0, .phase⟩, ⟨1, .phase⟩, ⟨2, .phase⟩, ⟨3, .phase⟩, ⟨4, .phase⟩, ⟨5, .phase⟩, ⟨6, .phase⟩, ⟨7, .phase⟩, ⟨8, .phase⟩], none⟩) rfl (fun K hK => ?_) ReadyR.nil
     refine step_store rfl rfl 38 (.tmp 72) (.tmp 70) rfl (g := p) (off := 1) (.slice (some ⟨G9, 0, none⟩) (1 + 1) C9) [.slice (some ⟨G9, 0, none⟩) (1 + 1) C9] rfl rfl rfl (by kernel_rfl) (fun v hv => by rw [List.mem_singleton.1 hv]; rfl) HCU.out.1 HCU.out.2 ?_
     have HN7 := Lib.hid (HNX.out _ rfl)
     refine hK.out _ _ (fun h => by cases h) ?_
     clear hK K HNX HCU HS7
     generalize w6.setCells p 1 [.slice (some ⟨G9, 0, none⟩) (1 + 1) C9] = V7 at HN7 ⊢
     try simp only [Act.put, List.setIfInBounds_toArray, List.set]
     refine anyR_done (by kernel_rfl) ?_ _
     have HP7 : Hid (PAt V7 p todo ([evOf (1, 1)] ++ [noteE t]) (d + 1) false 0 false vt (.slice (some ⟨G9, 0, none⟩) (1 + 1) C9)) := Lib.hid HN7.out.1
     have HS7 := Lib.hid (HS3.out.trans ((PStep.below HB6.out).trans HN7.out.2))
     clear q0 q1 q2 q3 q4 q5 c0 c1 c2 c3 c4 c5 HN7
     obtain ⟨q0, q1, q2, q3, q4, q5⟩ := HP7.out.cell
     obtain ⟨c0, c1, c2, c3, c4, c5⟩ := six_cells (HS7.out.keep HP0.out HT0.out (by decide) (by decide) (by decide))
     go_wp2_with (((with_reducible refine gate_ (.store 4 (.tmp 94) (.const (.bool true))) rfl ?_); refine wl_cells rfl rfl _ _ _ rfl (g := p) (off := 3) (.bool true) [.bool true] rfl rfl rfl (by kernel_rfl) (fun v hv => by rw [List.mem_singleton.1 hv]; rfl) HP7.out.box (by simp) ?_; intro V8 hV; obtain ⟨hA, hS⟩ := HP7.out.upd 3 (.bool true) (by decide) (s' := todo) (es' := ([evOf (1, 1)] ++ [noteE t])) (d' := (d + 1)) (b' := true) (wr' := 0) (cl' := false) (vt' := vt) (ve' := .slice (some ⟨G9, 0, none⟩) (1 + 1) C9) rfl HP7.out.todo HP7.out.evs (fun _ h => h) (fun _ h => h); rw [← hV] at hA hS; have HP8 := Lib.hid hA; have HS8 := Lib.hid (HS7.out.trans hS); clear q0 q1 q2 q3 q4 q5 c0 c1 c2 c3 c4 c5 hV; obtain ⟨q0, q1, q2, q3, q4, q5⟩ := hA.cell; obtain ⟨c0, c1, c2, c3, c4, c5⟩ := six_cells (HS8.out.keep HP0.out HT0.out (by decide) (by decide) (by decide)); clear hA hS))
     go_ret2
     unfold PutPost
     rw [HPU.out]
     exact ⟨_, _, _, _, rfl, HP8.out, HS0.out.trans HS8.out, HP8.out.evs, .inl rfl⟩
    | false =>
     cases k8 with
     | true =>
      have hn : isNote t = true := by unfold isNote; rw [hk7, hk8]; rfl
      have hput : put ⟨todo, d, false, 0, false⟩ t = ([evOf (1, 1)] ++ [noteE t], 0, ⟨todo, (d + 1), true, 0, false⟩) := by unfold put preE preD; simp [hn]
      have HPU := Lib.hid hput
      clear hput hn
      go_upto_region 13 with (first
       | ((with_reducible refine gate_ (.store 38 (.tmp 31) (.const (.slice none 0 0))) rfl ?_); refine wl_cells rfl rfl _ _ _ rfl (g := p) (off := 1) (.slice none 0 0) [.slice none 0 0] rfl rfl rfl (by kernel_rfl) (fun v hv => by rw [List.mem_singleton.1 hv]; rfl) HP0.out.box (by simp) ?_; intro V1 hV; obtain ⟨hA, hS⟩ := HP0.out.upd 1 (.slice none 0 0) (by decide) (s' := todo) (es' := []) (d' := d) (b' := false) (wr' := 0) (cl' := false) (vt' := vt) (ve' := .slice none 0 0) rfl HP0.out.todo (nil_row _ _ _ _) (fun _ h => h) (fun _ h => by cases h); rw [← hV] at hA hS; have HP1 := Lib.hid hA; have HS1 := Lib.hid (HSR.out.trans hS); clear q0 q1 q2 q3 q4 q5 c0 c1 c2 c3 c4 c5 hV; obtain ⟨q0, q1, q2, q3, q4, q5⟩ := hA.cell; obtain ⟨c0, c1, c2, c3, c4, c5⟩ := six_cells (HS1.out.keep HP0.out HT0.out (by decide) (by decide) (by decide)); clear hA hS)
       | ((with_reducible refine gate_dst (N := 44) rfl ?_); refine wl_ev rfl (.tmp 41) (.tmp 43) rfl p (u := .slice none 0 0) (q := 0) (kc := []) (cs := [.int .u8 1, .int .u8 1, .int .u8 0, .string ⟨#[]⟩, .int .i64 0, .int .i64 0, .int .i64 0, .int .i64 0]) rfl rfl (nil_row _ _ _ _) rfl (evCells_one (evOf (1, 1))) (Nat.le_of_lt (blk_lt HP1.out.box)) (by decide) ?_; intro G1 C1 w1 ho hg hat; obtain ⟨⟨cur, hcur, hfit⟩, hnx⟩ := ev_next (e := evOf (1, 1)) HP1.out ho hg hat; have HCU := Lib.hid (And.intro hcur hfit); have HNX := Lib.hid hnx; clear ho hg hat hcur hfit hnx)
       | ((with_reducible refine gate_ (.store 38 (.tmp 46) (.tmp 44)) rfl ?_); refine wl_cells rfl rfl _ _ _ rfl (g := p) (off := 1) (.slice (some ⟨G1, 0, none⟩) (0 + 1) C1) [.slice (some ⟨G1, 0, none⟩) (0 + 1) C1] rfl rfl rfl (by kernel_rfl) (fun v hv => by rw [List.mem_singleton.1 hv]; rfl) HCU.out.1 HCU.out.2 ?_; intro V2 hV; obtain ⟨hA, hS⟩ := HNX.out V2 hV; have HP2 : Hid (PAt V2 p todo [evOf (1, 1)] d false 0 false vt (.slice (some ⟨G1, 0, none⟩) (0 + 1) C1)) := Lib.hid hA; have HS2 := Lib.hid (HS1.out.trans hS); clear q0 q1 q2 q3 q4 q5 c0 c1 c2 c3 c4 c5 hV HNX HCU; obtain ⟨q0, q1, q2, q3, q4, q5⟩ := hA.cell; obtain ⟨c0, c1, c2, c3, c4, c5⟩ := six_cells (HS2.out.keep HP0.out HT0.out (by decide) (by decide) (by decide)); clear hA hS)
       | ((with_reducible refine gate_ (.store 3 (.tmp 53) (.tmp 51)) rfl ?_); refine wl_cells rfl rfl _ _ _ rfl (g := p) (off := 2) (.int .i64 (d + 1)) [.int .i64 (d + 1)] rfl rfl rfl (by kernel_rfl) (fun v hv => by rw [List.mem_singleton.1 hv]; rfl) HP2.out.box (by simp) ?_; intro V3 hV; obtain ⟨hA, hS⟩ := HP2.out.upd 2 (.int .i64 (d + 1)) (by decide) (s' := todo) (es' := [evOf (1, 1)]) (d' := (d + 1)) (b' := false) (wr' := 0) (cl' := false) (vt' := vt) (ve' := .slice (some ⟨G1, 0, none⟩) (0 + 1) C1) rfl HP2.out.todo HP2.out.evs (fun _ h => h) (fun _ h => h); rw [← hV] at hA hS; have HP3 := Lib.hid hA; have HS3 := Lib.hid (HS2.out.trans hS); clear q0 q1 q2 q3 q4 q5 c0 c1 c2 c3 c4 c5 hV; obtain ⟨q0, q1, q2, q3, q4, q5⟩ := hA.cell; obtain ⟨c0, c1, c2, c3, c4, c5⟩ := six_cells (HS3.out.keep HP0.out HT0.out (by decide) (by decide) (by decide)); clear hA hS))
      obtain ⟨W6, hW6⟩ : ∃ V, V3.drew = V := ⟨_, rfl⟩
      have hb6 : Below V3.heap.size V3 W6 := by rw [← hW6]; exact (Below.refl _ V3).drew
      have hS6 : ∀ V, Below V3.heap.size V3 V → V.cell? ⟨p, 1, none⟩ = some (.slice (some ⟨G1, 0, none⟩) (0 + 1) C1) ∧ V.cell? ⟨w.heap.size, 0, none⟩ = some (.int .u8 t.f0) ∧ V.cell? ⟨w.heap.size, 1, none⟩ = some (.string t.f1) ∧ V.cell? ⟨w.heap.size, 2, none⟩ = some (.int .i64 t.f2.f0) ∧ V.cell? ⟨w.heap.size, 3, none⟩ = some (.int .i64 t.f2.f1) ∧ V.cell? ⟨w.heap.size, 4, none⟩ = some (.int .i64 t.f2.f2) ∧ V.cell? ⟨w.heap.size, 5, none⟩ = some (.int .i64 t.f3) := fun V hV => ⟨pw_cell_below hV q1, pw_cell_below hV c0, pw_cell_below hV c1, pw_cell_below hV c2, pw_cell_below hV c3, pw_cell_below hV c4, pw_cell_below hV c5⟩
      have HSA := Lib.hid hS6
      have HS6 := Lib.hid (hS6 W6 hb6)
      have HB6 := Lib.hid hb6
      have HW6 := Lib.hid hW6
      have HP6 := Lib.hid (HP3.out.below hb6)
      have HT6 := Lib.hid ((HS3.out.trans (PStep.below hb6)).keep HP0.out HT0.out (by decide) (by decide) (by decide))
      clear hS6 hb6 hW6
      refine wp_region_R (fun w' => w'.cell? ⟨p, 1, none⟩ = some (.slice (some ⟨G1, 0, none⟩) (0 + 1) C1) ∧ w'.cell? ⟨w.heap.size, 0, none⟩ = some (.int .u8 t.f0) ∧ w'.cell? ⟨w.heap.size, 1, none⟩ = some (.string t.f1) ∧ w'.cell? ⟨w.heap.size, 2, none⟩ = some (.int .i64 t.f2.f0) ∧ w'.cell? ⟨w.heap.size, 3, none⟩ = some (.int .i64 t.f2.f1) ∧ w'.cell? ⟨w.heap.size, 4, none⟩ = some (.int .i64 t.f2.f2) ∧ w'.cell? ⟨w.heap.size, 5, none⟩ = some (.int .i64 t.f3)) (fun j => !(Nat.beq j 11)) (by kernel_rfl) ?_
      rw [HW6.out]
      refine anyR_take (i := 0) (oi := ⟨some 62, .move (.tmp 0), 24, "parse.go:107", #[], none⟩) (v := ?_) rfl (by kernel_rfl) (fun _ _ _ h => h) (Or.inl ⟨by rfl, ?_⟩) HS6.out ?_
      rotate_left
      ·intro x h; (try dsimp only at h); go_simp; try (with_reducible rfl)
      try simp only [Act.put, List.setIfInBounds_toArray, List.set]
      refine anyR_take (i := 1) (oi := ⟨some 63, .move (.tmp 0), 24, "parse.go:107", #[], none⟩) (v := ?_) rfl (by kernel_rfl) (fun _ _ _ h => h) (Or.inl ⟨by rfl, ?_⟩) HS6.out ?_
      rotate_left
      ·intro x h; (try dsimp only at h); go_simp; try (with_reducible rfl)
      try simp only [Act.put, List.setIfInBounds_toArray, List.set]
      refine anyR_take (i := 2) (oi := ⟨some 64, .nilCheck (.tmp 63), 0, "parse.go:107", #[⟨1, .data⟩], none⟩) (v := ?_) rfl (by kernel_rfl) (fun _ _ _ h => h) (Or.inl ⟨by rfl, ?_⟩) HS6.out ?_
      rotate_left
      ·intro x h; (try dsimp only at h); go_simp; try (with_reducible rfl)
      try simp only [Act.put, List.setIfInBounds_toArray, List.set]
      refine anyR_take (i := 3) (oi := ⟨some 65, .fieldAddr 67 (.tmp 64) 1, 0, "parse.go:107", #[⟨2, .data⟩], none⟩) (v := ?_) rfl (by kernel_rfl) (fun _ _ _ h => h) (Or.inl ⟨by rfl, ?_⟩) HS6.out ?_
      rotate_left
      ·intro x h; (try dsimp only at h); go_simp; try (with_reducible rfl)
      try simp only [Act.put, List.setIfInBounds_toArray, List.set]
      refine anyR_take (i := 4) (oi := ⟨some 66, .load 38 (.tmp 65), 38, "parse.go:107", #[⟨3, .data⟩], none⟩) (v := ?_) rfl (by kernel_rfl) (fun _ _ _ h => h) (Or.inl ⟨by rfl, ?_⟩) HS6.out ?_
      rotate_left
      ·intro x h; (try dsimp only at h); go_simp; try (with_reducible rfl)
      try simp only [Act.put, List.setIfInBounds_toArray, List.set]
      refine anyR_take (i := 5) (oi := ⟨some 67, .load 35 (.tmp 3), 35, "parse.go:107", #[], none⟩) (v := ?_) rfl (by kernel_rfl) (fun _ _ _ h => h) (Or.inl ⟨by rfl, ?_⟩) HS6.out ?_
      rotate_left
      ·intro x h; (try dsimp only at h); go_simp; try (with_reducible rfl)
      try simp only [Act.put, List.setIfInBounds_toArray, List.set]
      refine anyR_take (i := 6) (oi := ⟨some 68, .build 46 #[(0, .const (.int .u8 4)), (2, .tmp 67)], 46, "parse.go:107", #[⟨5, .data⟩], none⟩) (v := ?_) rfl (by kernel_rfl) (fun _ _ _ h => h) (Or.inl ⟨by rfl, ?_⟩) HS6.out ?_
      rotate_left
      ·intro x h; (try dsimp only at h); go_simp; try (with_reducible rfl)
      try simp only [Act.put, List.setIfInBounds_toArray, List.set]
      refine anyR_ready (rs := [7]) (by kernel_rfl) (by simp) ?_
      refine ReadyR.cons (o := ⟨some 69, .buildSlice 38 1 #[(0, .tmp 68)], 38, "parse.go:107", #[⟨6, .data⟩], none⟩) rfl (fun K hK => ?_) ReadyR.nil
      go_simp
      refine hK.out _ _ (fun _ => HSA.out _ (HB6.out.alloc HB6.out.size _)) ?_
      clear hK K
      try simp only [Act.put, List.setIfInBounds_toArray, List.set]
      refine anyR_ready (rs := [8]) (by kernel_rfl) (by simp) ?_
      refine ReadyR.cons (o := ⟨some 70, .call { callee := .builtin .append, args := #[.tmp 66, .tmp 69], argTypes := #[38, 38] }, 38, "parse.go:107", #[⟨4, .data⟩, ⟨7, .data⟩], none⟩) rfl (fun K hK => ?_) ReadyR.nil
      refine step_ev (W := W6) rfl (.tmp 66) (.tmp 69) rfl p (u := .slice (some ⟨G1, 0, none⟩) (0 + 1) C1) (q := 1) (kc := ([evOf (1, 1)] : List Ev).flatMap evCells) (cs := [.int .u8 4, .int .u8 0, .int .u8 t.f0, .string t.f1, .int .i64 t.f2.f0, .int .i64 t.f2.f1, .int .i64 t.f2.f2, .int .i64 t.f3]) rfl rfl HP6.out.evs rfl (evCells_one (noteE t)) (Nat.le_of_lt (blk_lt HP6.out.box)) (by decide) ?_
      intro G9 C9 w6 ho hg hat
      obtain ⟨⟨cur6, hcur, hfit⟩, hnx⟩ := ev_next (e := noteE t) HP6.out ho hg hat
      have hpe : ((.slice (some ⟨G1, 0, none⟩) (0 + 1) C1 : Value)).ownBlock ≠ some p := fun e => by
       obtain ⟨cs, hc⟩ := own_typed HP6.out.evs p e
       rw [HP6.out.box] at hc; exact absurd (cells_ty hc) (by decide)
      have hpt : some w.heap.size ≠ ((.slice (some ⟨G1, 0, none⟩) (0 + 1) C1 : Value)).ownBlock := fun e => by
       obtain ⟨cs, hc⟩ := own_typed HP6.out.evs w.heap.size e.symm
       rw [HT6.out] at hc; exact absurd (cells_ty hc) (by decide)
      have hc1 := World.cell?_of_block (a := ⟨p, 1, none⟩) (hg.block p (blk_lt HP6.out.box) (fun e => hpe e.symm))
      have hbT := hg.block w.heap.size (blk_lt HT6.out) hpt
      have hS7 : w6.cell? ⟨p, 1, none⟩ = some (.slice (some ⟨G1, 0, none⟩) (0 + 1) C1) ∧ w6.cell? ⟨w.heap.size, 0, none⟩ = some (.int .u8 t.f0) ∧ w6.cell? ⟨w.heap.size, 1, none⟩ = some (.string t.f1) ∧ w6.cell? ⟨w.heap.size, 2, none⟩ = some (.int .i64 t.f2.f0) ∧ w6.cell? ⟨w.heap.size, 3, none⟩ = some (.int .i64 t.f2.f1) ∧ w6.cell? ⟨w.heap.size, 4, none⟩ = some (.int .i64 t.f2.f2) ∧ w6.cell? ⟨w.heap.size, 5, none⟩ = some (.int .i64 t.f3) := ⟨hc1.trans HS6.out.1, (World.cell?_of_block hbT).trans HS6.out.2.1, (World.cell?_of_block hbT).trans HS6.out.2.2.1, (World.cell?_of_block hbT).trans HS6.out.2.2.2.1, (World.cell?_of_block hbT).trans HS6.out.2.2.2.2.1, (World.cell?_of_block hbT).trans HS6.out.2.2.2.2.2.1, (World.cell?_of_block hbT).trans HS6.out.2.2.2.2.2.2⟩
      have HS7 := Lib.hid hS7
      have HCU := Lib.hid (And.intro hcur hfit)
      have HNX := Lib.hid hnx
      refine hK.out _ _ (fun _ => hS7) ?_
      clear hK K ho hg hat hpe hpt hc1 hbT hS7 hcur hfit hnx
      try simp only [Act.put, List.setIfInBounds_toArray, List.set]
      refine anyR_ready (rs := [9]) (by kernel_rfl) (by simp) ?_
      refine ReadyR.cons (o := ⟨some 71, .nilCheck (.tmp 62), 0, "parse.go:107", #[⟨0, .data⟩, ⟨0, .phase⟩, ⟨1, .phase⟩, ⟨2, .phase⟩, ⟨3, .phase⟩, ⟨4, .phase⟩, ⟨5, .phase⟩, ⟨6, .phase⟩, ⟨7, .phase⟩, ⟨8, .phase⟩], none⟩) rfl (fun K hK => ?_) ReadyR.nil
      go_simp
      refine hK.out _ _ (fun _ => HS7.out) ?_
      clear hK K
      try simp only [Act.put, List.setIfInBounds_toArray, List.set]
      refine anyR_ready (rs := [10]) (by kernel_rfl) (by simp) ?_
      refine ReadyR.cons (o := ⟨some 72, .fieldAddr 67 (.tmp 71) 1, 0, "parse.go:107", #[⟨9, .data⟩, ⟨0, .phase⟩, ⟨1, .phase⟩, ⟨2, .phase⟩, ⟨3, .phase⟩, ⟨4, .phase⟩, ⟨5, .phase⟩, ⟨6, .phase⟩, ⟨7, .phase⟩, ⟨8, .phase⟩], none⟩) rfl (fun K hK => ?_) ReadyR.nil
      go_simp
      refine hK.out _ _ (fun _ => HS7.out) ?_
      clear hK K
      try simp only [Act.put, List.setIfInBounds_toArray, List.set]
      refine anyR_ready (rs := [11]) (by kernel_rfl) (by simp) ?_
      refine ReadyR.cons (o := ⟨none, .store 38 (.tmp 72) (.tmp 70), 0, "parse.go:107", #[⟨10, .data⟩, ⟨8, .data⟩, ⟨8, .chain⟩, ⟨0, .phase⟩, ⟨1, .phase⟩, ⟨2, .phase⟩, ⟨3, .phase⟩, ⟨4, .phase⟩, ⟨5, .phase⟩, ⟨6, .phase⟩, ⟨7, .phase⟩, ⟨8, .phase⟩], none⟩) rfl (fun K hK => ?_) ReadyR.nil
      refine step_store rfl rfl 38 (.tmp 72) (.tmp 70) rfl (g := p) (off := 1) (.slice (some ⟨G9, 0, none⟩) (1 + 1) C9) [.slice (some ⟨G9, 0, none⟩) (1 + 1) C9] rfl rfl rfl (by kernel_rfl) (fun v hv => by rw [List.mem_singleton.1 hv]; rfl) HCU.out.1 HCU.out.2 ?_
      have HN7 := Lib.hid (HNX.out _ rfl)
      refine hK.out _ _ (fun h => by cases h) ?_
      clear hK K HNX HCU HS7
      generalize w6.setCells p 1 [.slice (some ⟨G9, 0, none⟩) (1 + 1) C9] = V7 at HN7 ⊢
      try simp only [Act.put, List.setIfInBounds_toArray, List.set]
      refine anyR_done (by kernel_rfl) ?_ _
      have HP7 : Hid (PAt V7 p todo ([evOf (1, 1)] ++ [noteE t]) (d + 1) false 0 false vt (.slice (some ⟨G9, 0, none⟩) (1 + 1) C9)) := Lib.hid HN7.out.1
      have HS7 := Lib.hid (HS3.out.trans ((PStep.below HB6.out).trans HN7.out.2))
      clear q0 q1 q2 q3 q4 q5 c0 c1 c2 c3 c4 c5 HN7
      obtain ⟨q0, q1, q2, q3, q4, q5⟩ := HP7.out.cell
      obtain ⟨c0, c1, c2, c3, c4, c5⟩ := six_cells (HS7.out.keep HP0.out HT0.out (by decide) (by decide) (by decide))
      go_wp2_with (((with_reducible refine gate_ (.store 4 (.tmp 94) (.const (.bool true))) rfl ?_); refine wl_cells rfl rfl _ _ _ rfl (g := p) (off := 3) (.bool true) [.bool true] rfl rfl rfl (by kernel_rfl) (fun v hv => by rw [List.mem_singleton.1 hv]; rfl) HP7.out.box (by simp) ?_; intro V8 hV; obtain ⟨hA, hS⟩ := HP7.out.upd 3 (.bool true) (by decide) (s' := todo) (es' := ([evOf (1, 1)] ++ [noteE t])) (d' := (d + 1)) (b' := true) (wr' := 0) (cl' := false) (vt' := vt) (ve' := .slice (some ⟨G9, 0, none⟩) (1 + 1) C9) rfl HP7.out.todo HP7.out.evs (fun _ h => h) (fun _ h => h); rw [← hV] at hA hS; have HP8 := Lib.hid hA; have HS8 := Lib.hid (HS7.out.trans hS); clear q0 q1 q2 q3 q4 q5 c0 c1 c2 c3 c4 c5 hV; obtain ⟨q0, q1, q2, q3, q4, q5⟩ := hA.cell; obtain ⟨c0, c1, c2, c3, c4, c5⟩ := six_cells (HS8.out.keep HP0.out HT0.out (by decide) (by decide) (by decide)); clear hA hS))
      go_ret2
      unfold PutPost
      rw [HPU.out]
      exact ⟨_, _, _, _, rfl, HP8.out, HS0.out.trans HS8.out, HP8.out.evs, .inl rfl⟩
     | false =>
      obtain ⟨⟨te, ts⟩, htr⟩ : ∃ tr, token t todo (d + 1) = tr := ⟨_, rfl⟩
      have HTR := Lib.hid htr
      clear htr
      by_cases hte : te = 0
      ·subst hte
       have hn : isNote t = false := by unfold isNote; rw [hk7, hk8]; rfl
       have hput : put ⟨todo, d, false, 0, false⟩ t = ([evOf (1, 1)] ++ ts.evs.map evOf ++ [leafE t], 0, ⟨ts.todo, ts.depth, true, 0, false⟩) := by unfold put preE preD; simp [hn, HTR.out]
       have HPU := Lib.hid hput
       clear hput hn
       go_wp2_with (first
        | ((with_reducible refine gate_ (.store 38 (.tmp 31) (.const (.slice none 0 0))) rfl ?_); refine wl_cells rfl rfl _ _ _ rfl (g := p) (off := 1) (.slice none 0 0) [.slice none 0 0] rfl rfl rfl (by kernel_rfl) (fun v hv => by rw [List.mem_singleton.1 hv]; rfl) HP0.out.box (by simp) ?_; intro V1 hV; obtain ⟨hA, hS⟩ := HP0.out.upd 1 (.slice none 0 0) (by decide) (s' := todo) (es' := []) (d' := d) (b' := false) (wr' := 0) (cl' := false) (vt' := vt) (ve' := .slice none 0 0) rfl HP0.out.todo (nil_row _ _ _ _) (fun _ h => h) (fun _ h => by cases h); rw [← hV] at hA hS; have HP1 := Lib.hid hA; have HS1 := Lib.hid (HSR.out.trans hS); clear q0 q1 q2 q3 q4 q5 c0 c1 c2 c3 c4 c5 hV; obtain ⟨q0, q1, q2, q3, q4, q5⟩ := hA.cell; obtain ⟨c0, c1, c2, c3, c4, c5⟩ := six_cells (HS1.out.keep HP0.out HT0.out (by decide) (by decide) (by decide)); clear hA hS)
        | ((with_reducible refine gate_dst (N := 44) rfl ?_); refine wl_ev rfl (.tmp 41) (.tmp 43) rfl p (u := .slice none 0 0) (q := 0) (kc := []) (cs := [.int .u8 1, .int .u8 1, .int .u8 0, .string ⟨#[]⟩, .int .i64 0, .int .i64 0, .int .i64 0, .int .i64 0]) rfl rfl (nil_row _ _ _ _) rfl (evCells_one (evOf (1, 1))) (Nat.le_of_lt (blk_lt HP1.out.box)) (by decide) ?_; intro G1 C1 w1 ho hg hat; obtain ⟨⟨cur, hcur, hfit⟩, hnx⟩ := ev_next (e := evOf (1, 1)) HP1.out ho hg hat; have HCU := Lib.hid (And.intro hcur hfit); have HNX := Lib.hid hnx; clear ho hg hat hcur hfit hnx)
        | ((with_reducible refine gate_ (.store 38 (.tmp 46) (.tmp 44)) rfl ?_); refine wl_cells rfl rfl _ _ _ rfl (g := p) (off := 1) (.slice (some ⟨G1, 0, none⟩) (0 + 1) C1) [.slice (some ⟨G1, 0, none⟩) (0 + 1) C1] rfl rfl rfl (by kernel_rfl) (fun v hv => by rw [List.mem_singleton.1 hv]; rfl) HCU.out.1 HCU.out.2 ?_; intro V2 hV; obtain ⟨hA, hS⟩ := HNX.out V2 hV; have HP2 : Hid (PAt V2 p todo [evOf (1, 1)] d false 0 false vt (.slice (some ⟨G1, 0, none⟩) (0 + 1) C1)) := Lib.hid hA; have HS2 := Lib.hid (HS1.out.trans hS); clear q0 q1 q2 q3 q4 q5 c0 c1 c2 c3 c4 c5 hV HNX HCU; obtain ⟨q0, q1, q2, q3, q4, q5⟩ := hA.cell; obtain ⟨c0, c1, c2, c3, c4, c5⟩ := six_cells (HS2.out.keep HP0.out HT0.out (by decide) (by decide) (by decide)); clear hA hS)
        | ((with_reducible refine gate_ (.store 3 (.tmp 53) (.tmp 51)) rfl ?_); refine wl_cells rfl rfl _ _ _ rfl (g := p) (off := 2) (.int .i64 (d + 1)) [.int .i64 (d + 1)] rfl rfl rfl (by kernel_rfl) (fun v hv => by rw [List.mem_singleton.1 hv]; rfl) HP2.out.box (by simp) ?_; intro V3 hV; obtain ⟨hA, hS⟩ := HP2.out.upd 2 (.int .i64 (d + 1)) (by decide) (s' := todo) (es' := [evOf (1, 1)]) (d' := (d + 1)) (b' := false) (wr' := 0) (cl' := false) (vt' := vt) (ve' := .slice (some ⟨G1, 0, none⟩) (0 + 1) C1) rfl HP2.out.todo HP2.out.evs (fun _ h => h) (fun _ h => h); rw [← hV] at hA hS; have HP3 := Lib.hid hA; have HS3 := Lib.hid (HS2.out.trans hS); clear q0 q1 q2 q3 q4 q5 c0 c1 c2 c3 c4 c5 hV; obtain ⟨q0, q1, q2, q3, q4, q5⟩ := hA.cell; obtain ⟨c0, c1, c2, c3, c4, c5⟩ := six_cells (HS3.out.keep HP0.out HT0.out (by decide) (by decide) (by decide)); clear hA hS)
        | (go_at_call 46; have htk := token_any p todo [evOf (1, 1)] (d + 1) false 0 false vt (.slice (some ⟨G1, 0, none⟩) (0 + 1) C1) t V3 HP3.out (by have := HIN.out; dsimp only at this; omega) (by decide) (by have := HIN.out; dsimp only at this; omega) HIN.out.1; unfold TokPost at htk; rw [HTR.out] at htk; dsimp only at htk; rw [if_pos rfl] at htk; (with_reducible refine Calls.mono htk ?_); rintro e W5 ⟨rfl, vt5, ve5, hP5, hs5⟩; have HP5 := Lib.hid hP5; have HS5 := Lib.hid (HS3.out.trans hs5); clear q0 q1 q2 q3 q4 q5 c0 c1 c2 c3 c4 c5 htk hs5; obtain ⟨q0, q1, q2, q3, q4, q5⟩ := hP5.cell; obtain ⟨c0, c1, c2, c3, c4, c5⟩ := six_cells (HS5.out.keep HP0.out HT0.out (by decide) (by decide) (by decide)); clear hP5)
        | ((with_reducible refine gate_ (.store 39 (.tmp 78) (.tmp 76)) rfl ?_); refine wl_cells rfl rfl _ _ _ rfl (g := p) (off := 4) (.int .i64 0) [.int .i64 0] rfl rfl rfl (by kernel_rfl) (fun v hv => by rw [List.mem_singleton.1 hv]; rfl) HP5.out.box (by simp) ?_; intro V6 hV; obtain ⟨hA, hS⟩ := HP5.out.upd 4 (.int .i64 0) (by decide) (s' := ts.todo) (es' := ([evOf (1, 1)] ++ ts.evs.map evOf ++ [leafE t])) (d' := ts.depth) (b' := false) (wr' := 0) (cl' := false) (vt' := vt5) (ve' := ve5) rfl HP5.out.todo HP5.out.evs (fun _ h => h) (fun _ h => h); rw [← hV] at hA hS; have HP6 := Lib.hid hA; have HS6 := Lib.hid (HS5.out.trans hS); clear q0 q1 q2 q3 q4 q5 c0 c1 c2 c3 c4 c5 hV; obtain ⟨q0, q1, q2, q3, q4, q5⟩ := hA.cell; obtain ⟨c0, c1, c2, c3, c4, c5⟩ := six_cells (HS6.out.keep HP0.out HT0.out (by decide) (by decide) (by decide)); clear hA hS)
        | ((with_reducible refine gate_ (.store 4 (.tmp 94) (.const (.bool true))) rfl ?_); refine wl_cells rfl rfl _ _ _ rfl (g := p) (off := 3) (.bool true) [.bool true] rfl rfl rfl (by kernel_rfl) (fun v hv => by rw [List.mem_singleton.1 hv]; rfl) HP6.out.box (by simp) ?_; intro V7 hV; obtain ⟨hA, hS⟩ := HP6.out.upd 3 (.bool true) (by decide) (s' := ts.todo) (es' := ([evOf (1, 1)] ++ ts.evs.map evOf ++ [leafE t])) (d' := ts.depth) (b' := true) (wr' := 0) (cl' := false) (vt' := vt5) (ve' := ve5) rfl HP6.out.todo HP6.out.evs (fun _ h => h) (fun _ h => h); rw [← hV] at hA hS; have HP7 := Lib.hid hA; have HS7 := Lib.hid (HS6.out.trans hS); clear q0 q1 q2 q3 q4 q5 c0 c1 c2 c3 c4 c5 hV; obtain ⟨q0, q1, q2, q3, q4, q5⟩ := hA.cell; obtain ⟨c0, c1, c2, c3, c4, c5⟩ := six_cells (HS7.out.keep HP0.out HT0.out (by decide) (by decide) (by decide)); clear hA hS))
       go_ret2
       unfold PutPost
       rw [HPU.out]
       exact ⟨_, _, _, _, rfl, HP7.out, HS0.out.trans HS7.out, HP7.out.evs, .inl rfl⟩
      ·skip
       have hn : isNote t = false := by unfold isNote; rw [hk7, hk8]; rfl
       have hput : put ⟨todo, d, false, 0, false⟩ t = ([], te, ⟨ts.todo, d, false, te, false⟩) := by unfold put preE preD; simp [hn, HTR.out, hte]
       have HPU := Lib.hid hput
       clear hput hn
       have HTE := Lib.hid hte
       have e9 : (te != 0) = true := by rw [bne_iff_ne]; exact hte
       clear hte
       go_upto_region 17 with (first
        | ((with_reducible refine gate_ (.store 38 (.tmp 31) (.const (.slice none 0 0))) rfl ?_); refine wl_cells rfl rfl _ _ _ rfl (g := p) (off := 1) (.slice none 0 0) [.slice none 0 0] rfl rfl rfl (by kernel_rfl) (fun v hv => by rw [List.mem_singleton.1 hv]; rfl) HP0.out.box (by simp) ?_; intro V1 hV; obtain ⟨hA, hS⟩ := HP0.out.upd 1 (.slice none 0 0) (by decide) (s' := todo) (es' := []) (d' := d) (b' := false) (wr' := 0) (cl' := false) (vt' := vt) (ve' := .slice none 0 0) rfl HP0.out.todo (nil_row _ _ _ _) (fun _ h => h) (fun _ h => by cases h); rw [← hV] at hA hS; have HP1 := Lib.hid hA; have HS1 := Lib.hid (HSR.out.trans hS); clear q0 q1 q2 q3 q4 q5 c0 c1 c2 c3 c4 c5 hV; obtain ⟨q0, q1, q2, q3, q4, q5⟩ := hA.cell; obtain ⟨c0, c1, c2, c3, c4, c5⟩ := six_cells (HS1.out.keep HP0.out HT0.out (by decide) (by decide) (by decide)); clear hA hS)
        | ((with_reducible refine gate_dst (N := 44) rfl ?_); refine wl_ev rfl (.tmp 41) (.tmp 43) rfl p (u := .slice none 0 0) (q := 0) (kc := []) (cs := [.int .u8 1, .int .u8 1, .int .u8 0, .string ⟨#[]⟩, .int .i64 0, .int .i64 0, .int .i64 0, .int .i64 0]) rfl rfl (nil_row _ _ _ _) rfl (evCells_one (evOf (1, 1))) (Nat.le_of_lt (blk_lt HP1.out.box)) (by decide) ?_; intro G1 C1 w1 ho hg hat; obtain ⟨⟨cur, hcur, hfit⟩, hnx⟩ := ev_next (e := evOf (1, 1)) HP1.out ho hg hat; have HCU := Lib.hid (And.intro hcur hfit); have HNX := Lib.hid hnx; clear ho hg hat hcur hfit hnx)
        | ((with_reducible refine gate_ (.store 38 (.tmp 46) (.tmp 44)) rfl ?_); refine wl_cells rfl rfl _ _ _ rfl (g := p) (off := 1) (.slice (some ⟨G1, 0, none⟩) (0 + 1) C1) [.slice (some ⟨G1, 0, none⟩) (0 + 1) C1] rfl rfl rfl (by kernel_rfl) (fun v hv => by rw [List.mem_singleton.1 hv]; rfl) HCU.out.1 HCU.out.2 ?_; intro V2 hV; obtain ⟨hA, hS⟩ := HNX.out V2 hV; have HP2 : Hid (PAt V2 p todo [evOf (1, 1)] d false 0 false vt (.slice (some ⟨G1, 0, none⟩) (0 + 1) C1)) := Lib.hid hA; have HS2 := Lib.hid (HS1.out.trans hS); clear q0 q1 q2 q3 q4 q5 c0 c1 c2 c3 c4 c5 hV HNX HCU; obtain ⟨q0, q1, q2, q3, q4, q5⟩ := hA.cell; obtain ⟨c0, c1, c2, c3, c4, c5⟩ := six_cells (HS2.out.keep HP0.out HT0.out (by decide) (by decide) (by decide)); clear hA hS)
        | ((with_reducible refine gate_ (.store 3 (.tmp 53) (.tmp 51)) rfl ?_); refine wl_cells rfl rfl _ _ _ rfl (g := p) (off := 2) (.int .i64 (d + 1)) [.int .i64 (d + 1)] rfl rfl rfl (by kernel_rfl) (fun v hv => by rw [List.mem_singleton.1 hv]; rfl) HP2.out.box (by simp) ?_; intro V3 hV; obtain ⟨hA, hS⟩ := HP2.out.upd 2 (.int .i64 (d + 1)) (by decide) (s' := todo) (es' := [evOf (1, 1)]) (d' := (d + 1)) (b' := false) (wr' := 0) (cl' := false) (vt' := vt) (ve' := .slice (some ⟨G1, 0, none⟩) (0 + 1) C1) rfl HP2.out.todo HP2.out.evs (fun _ h => h) (fun _ h => h); rw [← hV] at hA hS; have HP3 := Lib.hid hA; have HS3 := Lib.hid (HS2.out.trans hS); clear q0 q1 q2 q3 q4 q5 c0 c1 c2 c3 c4 c5 hV; obtain ⟨q0, q1, q2, q3, q4, q5⟩ := hA.cell; obtain ⟨c0, c1, c2, c3, c4, c5⟩ := six_cells (HS3.out.keep HP0.out HT0.out (by decide) (by decide) (by decide)); clear hA hS)
        | (go_at_call 46; have htk := token_any p todo [evOf (1, 1)] (d + 1) false 0 false vt (.slice (some ⟨G1, 0, none⟩) (0 + 1) C1) t V3 HP3.out (by have := HIN.out; dsimp only at this; omega) (by decide) (by have := HIN.out; dsimp only at this; omega) HIN.out.1; unfold TokPost at htk; rw [HTR.out] at htk; dsimp only at htk; rw [if_neg HTE.out] at htk; (with_reducible refine Calls.mono htk ?_); rintro e W5 ⟨rfl, vt5, ve5, hP5, hs5⟩; have HP5 := Lib.hid hP5; have HS5 := Lib.hid (HS3.out.trans hs5); clear q0 q1 q2 q3 q4 q5 c0 c1 c2 c3 c4 c5 htk hs5; obtain ⟨q0, q1, q2, q3, q4, q5⟩ := hP5.cell; obtain ⟨c0, c1, c2, c3, c4, c5⟩ := six_cells (HS5.out.keep HP0.out HT0.out (by decide) (by decide) (by decide)); clear hP5)
        | ((with_reducible refine gate_ (.store 39 (.tmp 78) (.tmp 76)) rfl ?_); refine wl_cells rfl rfl _ _ _ rfl (g := p) (off := 4) (.int .i64 te) [.int .i64 te] rfl rfl rfl (by kernel_rfl) (fun v hv => by rw [List.mem_singleton.1 hv]; rfl) HP5.out.box (by simp) ?_; intro V6 hV; obtain ⟨hA, hS⟩ := HP5.out.upd 4 (.int .i64 te) (by decide) (s' := ts.todo) (es' := ([evOf (1, 1)] ++ ts.evs.map evOf ++ [])) (d' := ts.depth) (b' := false) (wr' := te) (cl' := false) (vt' := vt5) (ve' := ve5) rfl HP5.out.todo HP5.out.evs (fun _ h => h) (fun _ h => h); rw [← hV] at hA hS; have HP6 := Lib.hid hA; have HS6 := Lib.hid (HS5.out.trans hS); clear q0 q1 q2 q3 q4 q5 c0 c1 c2 c3 c4 c5 hV; obtain ⟨q0, q1, q2, q3, q4, q5⟩ := hA.cell; obtain ⟨c0, c1, c2, c3, c4, c5⟩ := six_cells (HS6.out.keep HP0.out HT0.out (by decide) (by decide) (by decide)); clear hA hS)
        | ((with_reducible refine gate_ (.store 3 (.tmp 87) (.tmp 85)) rfl ?_); refine wl_cells rfl rfl _ _ _ rfl (g := p) (off := 2) (.int .i64 d) [.int .i64 d] rfl rfl rfl (by kernel_rfl) (fun v hv => by rw [List.mem_singleton.1 hv]; rfl) HP6.out.box (by simp) ?_; intro V7 hV; obtain ⟨hA, hS⟩ := HP6.out.upd 2 (.int .i64 d) (by decide) (s' := ts.todo) (es' := ([evOf (1, 1)] ++ ts.evs.map evOf ++ [])) (d' := d) (b' := false) (wr' := te) (cl' := false) (vt' := vt5) (ve' := ve5) rfl HP6.out.todo HP6.out.evs (fun _ h => h) (fun _ h => h); rw [← hV] at hA hS; have HP7 := Lib.hid hA; have HS7 := Lib.hid (HS6.out.trans hS); clear q0 q1 q2 q3 q4 q5 c0 c1 c2 c3 c4 c5 hV; obtain ⟨q0, q1, q2, q3, q4, q5⟩ := hA.cell; obtain ⟨c0, c1, c2, c3, c4, c5⟩ := six_cells (HS7.out.keep HP0.out HT0.out (by decide) (by decide) (by decide)); clear hA hS))
       go_region
       go_wp2
       go_ret2
       unfold PutPost
       rw [HPU.out]
       exact ⟨_, _, _, _, rfl, HP7.out.below (below_drew _), HS0.out.trans (HS7.out.trans (PStep.below (below_drew _))), nil_row _ _ _ _, .inr rfl⟩
  ·have e0 : (wr != 0) = true := by rw [bne_iff_ne]; exact hwr
   have hput : put ⟨todo, d, b, wr, false⟩ t = ([], wr, ⟨todo, d, b, wr, false⟩) := by unfold put; simp [hwr]
   have HPU := Lib.hid hput
   clear hput
   go_upto_region 6 with (fail)
   go_region
   go_wp2
   go_ret2
   unfold PutPost
   rw [HPU.out]
   refine ⟨_, _, _, _, rfl, HP0.out.below (below_drew _), HS0.out.trans (PStep.below (below_drew _)), nil_row _ _ _ _, .inr rfl⟩
end Go.Proofs.Ytmjbpgnjgblnmaa
namespace Go.Proofs.Ytmjbpgnjgblnmaa
open Go.RowKit Go.Proofs.YtmjbpgnjgblnmaaW.PrintWords Go.Proofs.YtmjbpgnjgblnmaaW.PrintLast Go.Proofs.YtmjbpgnjgblnmaaW.PrintMore
def ClosePost (p : Nat) (P : Par) (vt ve : Value) (w : World) (e : Ending) (w' : World) : Prop :=
 ∃ v es' vt' ve', e = .returned (.tuple #[v, .int .i64 (closeP P).2.1]) ∧ PAt w' p (closeP P).2.2.todo es' (closeP P).2.2.depth (closeP P).2.2.begun (closeP P).2.2.wrong (closeP P).2.2.closed vt' ve' ∧ PStep p vt ve w vt' ve' w' ∧
  w'.ownsRow p 46 8 v (closeP P).1.length ((closeP P).1.flatMap evCells) ∧ (v = ve' ∧ (closeP P).2.1 = 0 ∨ v = .slice none 0 0)
set_option maxRecDepth 100000 in
set_option maxHeartbeats 8000000 in
theorem Close_any (p : Nat) (P : Par) (es : List Ev) (vt ve : Value) (w : World) (hP : PIn w p P es vt ve) :
  Calls Try.prog 26 #[.pointer (some ⟨p, 0, none⟩)] w (ClosePost p P vt ve w) := by
 have HP0 := Lib.hid hP.at_
 have HIN := Lib.hid (And.intro hP.ends (And.intro hP.bt (And.intro hP.bd1 hP.bd2)))
 have HSR := Lib.hid (PStep.refl p vt ve w)
 obtain ⟨q0, q1, q2, q3, q4, q5⟩ := hP.at_.cell
 clear hP
 obtain ⟨todo, d, b, wr, cl⟩ := P
 dsimp only at q0 q1 q2 q3 q4 q5
 obtain ⟨A, cc, hv, -⟩ := row_slice HP0.out.todo
 obtain ⟨n, hn⟩ : ∃ n, todo.length = n := ⟨_, rfl⟩
 replace hv : vt = .slice A n cc := by rw [← hn]; exact hv
 subst hv
 have HN := Lib.hid hn
 clear hn
 go_enter Try.func26, Try.ntmps26
 cases cl with
 | true =>
  have HPU := Lib.hid (show closeP ⟨todo, d, b, wr, true⟩ = ([], 4, ⟨todo, d, b, wr, true⟩) by unfold closeP; simp)
  go_wp2
  go_ret2
  unfold ClosePost
  rw [HPU.out]
  exact ⟨_, _, _, _, rfl, HP0.out, HSR.out, nil_row _ _ _ _, .inr rfl⟩
 | false =>
  by_cases hwr : wr = 0
  ·subst hwr
   by_cases h1 : n = 1
   ·subst h1
    have HSM : Hid (([] : List Ev).length ≤ 1099511627776) := Lib.hid (by decide)
    have HDD : Hid (-4611686018427387904 ≤ d ∧ d ≤ 4611686018427387904) := Lib.hid (by have := HIN.out; dsimp only at this; omega)
    have HPU := Lib.hid (show closeP ⟨todo, d, b, 0, false⟩ = ([evOf (3, 1)], 0, ⟨todo, d - 1, b, 0, true⟩) by unfold closeP; simp [HN.out])
    go_wp2_with (first
     | ((with_reducible refine gate_ (.store 4 (.tmp 14) (.const (.bool true))) rfl ?_); refine wl_cells rfl rfl _ _ _ rfl (g := p) (off := 5) (.bool true) [.bool true] rfl rfl rfl (by kernel_rfl) (fun v hv => by rw [List.mem_singleton.1 hv]; rfl) HP0.out.box (by simp) ?_; intro V1 hV; obtain ⟨hA, hS⟩ := HP0.out.upd 5 (.bool true) (by decide) (s' := todo) (es' := es) (d' := d) (b' := b) (wr' := 0) (cl' := true) (vt' := _) (ve' := ve) rfl HP0.out.todo HP0.out.evs (fun _ h => h) (fun _ h => h); rw [← hV] at hA hS; have HP1 := Lib.hid hA; have HS1 := Lib.hid (HSR.out.trans hS); clear q0 q1 q2 q3 q4 q5 hV; obtain ⟨q0, q1, q2, q3, q4, q5⟩ := hA.cell; clear hA hS)
     | ((with_reducible refine gate_ (.store 38 (.tmp 39) (.const (.slice none 0 0))) rfl ?_); refine wl_cells rfl rfl _ _ _ rfl (g := p) (off := 1) (.slice none 0 0) [.slice none 0 0] rfl rfl rfl (by kernel_rfl) (fun v hv => by rw [List.mem_singleton.1 hv]; rfl) HP1.out.box (by simp) ?_; intro V2 hV; obtain ⟨hA, hS⟩ := HP1.out.upd 1 (.slice none 0 0) (by decide) (s' := todo) (es' := []) (d' := d) (b' := b) (wr' := 0) (cl' := true) (vt' := _) (ve' := .slice none 0 0) rfl HP1.out.todo (nil_row _ _ _ _) (fun _ h => h) (fun _ h => by cases h); rw [← hV] at hA hS; have HP2 := Lib.hid hA; have HS2 := Lib.hid (HS1.out.trans hS); clear q0 q1 q2 q3 q4 q5 hV; obtain ⟨q0, q1, q2, q3, q4, q5⟩ := hA.cell; clear hA hS)
     | (go_at_call 47; refine Calls.mono (close_any p 1 todo [] d b 0 true _ (.slice none 0 0) V2 HP2.out HSM.out HDD.out) ?_; rintro e w5 ⟨rfl, ve5, hP5, hs5⟩; have HP5 := Lib.hid hP5; have HS5 := Lib.hid (HS2.out.trans hs5); clear q0 q1 q2 q3 q4 q5 hs5; obtain ⟨q0, q1, q2, q3, q4, q5⟩ := hP5.cell; clear hP5))
    go_ret2
    unfold ClosePost
    rw [HPU.out]
    exact ⟨_, _, _, _, rfl, HP5.out, HS5.out, HP5.out.evs, .inl ⟨rfl, rfl⟩⟩
   ·have e0 : ((n : Int) != 1) = true := by rw [bne_iff_ne]; omega
    have e1 : ¬ ((n : Int) = 1) := by omega
    have HPU := Lib.hid (show closeP ⟨todo, d, b, 0, false⟩ = ([], 121, ⟨todo, d, b, 121, true⟩) by unfold closeP; simp [HN.out, h1])
    go_upto_region 10 with (first
     | ((with_reducible refine gate_ (.store 4 (.tmp 14) (.const (.bool true))) rfl ?_); refine wl_cells rfl rfl _ _ _ rfl (g := p) (off := 5) (.bool true) [.bool true] rfl rfl rfl (by kernel_rfl) (fun v hv => by rw [List.mem_singleton.1 hv]; rfl) HP0.out.box (by simp) ?_; intro V1 hV; obtain ⟨hA, hS⟩ := HP0.out.upd 5 (.bool true) (by decide) (s' := todo) (es' := es) (d' := d) (b' := b) (wr' := 0) (cl' := true) (vt' := _) (ve' := ve) rfl HP0.out.todo HP0.out.evs (fun _ h => h) (fun _ h => h); rw [← hV] at hA hS; have HP1 := Lib.hid hA; have HS1 := Lib.hid (HSR.out.trans hS); clear q0 q1 q2 q3 q4 q5 hV; obtain ⟨q0, q1, q2, q3, q4, q5⟩ := hA.cell; clear hA hS)
     | ((with_reducible refine gate_ (.store 39 (.tmp 32) (.const (.int .i64 121))) rfl ?_); refine wl_cells rfl rfl _ _ _ rfl (g := p) (off := 4) (.int .i64 121) [.int .i64 121] rfl rfl rfl (by kernel_rfl) (fun v hv => by rw [List.mem_singleton.1 hv]; rfl) HP1.out.box (by simp) ?_; intro V2 hV; obtain ⟨hA, hS⟩ := HP1.out.upd 4 (.int .i64 121) (by decide) (s' := todo) (es' := es) (d' := d) (b' := b) (wr' := 121) (cl' := true) (vt' := _) (ve' := ve) rfl HP1.out.todo HP1.out.evs (fun _ h => h) (fun _ h => h); rw [← hV] at hA hS; have HP2 := Lib.hid hA; have HS2 := Lib.hid (HS1.out.trans hS); clear q0 q1 q2 q3 q4 q5 hV; obtain ⟨q0, q1, q2, q3, q4, q5⟩ := hA.cell; clear hA hS))
    go_region
    go_wp2
    go_ret2
    unfold ClosePost
    rw [HPU.out]
    exact ⟨_, _, _, _, rfl, HP2.out.below (below_drew _), HS2.out.trans (PStep.below (below_drew _)), nil_row _ _ _ _, .inr rfl⟩
  ·have e0 : (wr != 0) = true := by rw [bne_iff_ne]; exact hwr
   have HPU := Lib.hid (show closeP ⟨todo, d, b, wr, false⟩ = ([], wr, ⟨todo, d, b, wr, true⟩) by unfold closeP; simp [hwr])
   clear hwr
   go_upto_region 7 with (((with_reducible refine gate_ (.store 4 (.tmp 14) (.const (.bool true))) rfl ?_); refine wl_cells rfl rfl _ _ _ rfl (g := p) (off := 5) (.bool true) [.bool true] rfl rfl rfl (by kernel_rfl) (fun v hv => by rw [List.mem_singleton.1 hv]; rfl) HP0.out.box (by simp) ?_; intro V1 hV; obtain ⟨hA, hS⟩ := HP0.out.upd 5 (.bool true) (by decide) (s' := todo) (es' := es) (d' := d) (b' := b) (wr' := wr) (cl' := true) (vt' := _) (ve' := ve) rfl HP0.out.todo HP0.out.evs (fun _ h => h) (fun _ h => h); rw [← hV] at hA hS; have HP1 := Lib.hid hA; have HS1 := Lib.hid (HSR.out.trans hS); clear q0 q1 q2 q3 q4 q5 hV; obtain ⟨q0, q1, q2, q3, q4, q5⟩ := hA.cell; clear hA hS))
   go_region
   go_wp2
   go_ret2
   unfold ClosePost
   rw [HPU.out]
   exact ⟨_, _, _, _, rfl, HP1.out.below (below_drew _), HS1.out.trans (PStep.below (below_drew _)), nil_row _ _ _ _, .inr rfl⟩
set_option maxRecDepth 100000 in
theorem Depth_any (p : Nat) (P : Par) (es : List Ev) (vt ve : Value) (w : World) (hP : PAt w p P.todo es P.depth P.begun P.wrong P.closed vt ve) :
  Calls Try.prog 25 #[.pointer (some ⟨p, 0, none⟩)] w fun e w' => e = .returned (.int .i64 (if P.closed then 0 else P.depth)) ∧ w' = w := by
 obtain ⟨q0, q1, q2, q3, q4, q5⟩ := hP.cell
 clear hP
 obtain ⟨todo, d, b, wr, cl⟩ := P
 dsimp only at q0 q1 q2 q3 q4 q5 ⊢
 go_enter Try.func25, Try.ntmps25
 cases cl with
 | true =>
  go_wp2
  go_ret
  exact ⟨rfl, rfl⟩
 | false =>
  go_wp2
  go_ret
  exact ⟨rfl, rfl⟩
theorem Put_nil (t : Tk) (w : World) : Calls Try.prog 24 #[.pointer none, .agg #[.int .u8 t.f0, .string t.f1, .int .i64 t.f2.f0, .int .i64 t.f2.f1, .int .i64 t.f2.f2, .int .i64 t.f3]] w fun e w' => e = .returned (.tuple #[.slice none 0 0, .int .i64 3]) ∧ Below w.heap.size w w' := by
 go_enter Try.func24, Try.ntmps24
 go_wp2
 go_ret2
 exact ⟨rfl, (Below.refl _ w).alloc (Nat.le_refl _) _⟩
theorem Close_nil (w : World) : Calls Try.prog 26 #[.pointer none] w fun e w' => e = .returned (.tuple #[.slice none 0 0, .int .i64 3]) ∧ w' = w := by
 go_enter Try.func26, Try.ntmps26
 go_wp2
 go_ret2
 exact ⟨rfl, rfl⟩
theorem Depth_nil (w : World) : Calls Try.prog 25 #[.pointer none] w fun e w' => e = .returned (.int .i64 0) ∧ w' = w := by
 go_enter Try.func25, Try.ntmps25
 go_wp2
 go_ret
 exact ⟨rfl, rfl⟩
theorem par_new (w : World) : PAt (w.alloc (.cells #[.slice none 0 0, .slice none 0 0, .int .i64 0, .bool false, .int .i64 0, .bool false] 67)) w.heap.size [] [] 0 false 0 false (.slice none 0 0) (.slice none 0 0) :=
 ⟨World.alloc_heap_new _ _, nil_row _ _ _ _, nil_row _ _ _ _⟩
set_option maxRecDepth 100000 in
theorem New_any (w : World) : Calls Try.prog 9 #[] w fun e w' => ∃ vt, e = .returned (.pointer (some ⟨w.heap.size, 0, none⟩)) ∧ PIn w' w.heap.size newPar [] vt (.slice none 0 0) ∧ Below w.heap.size w w' := by
 have hb0 : Below w.heap.size w (w.alloc (.cells #[.slice none 0 0, .slice none 0 0, .int .i64 0, .bool false, .int .i64 0, .bool false] 67)) := (Below.refl _ w).alloc (Nat.le_refl _) _
 have hp0 := par_new w
 go_enter Try.func9, Try.ntmps9
 go_upto_region 2 with (fail)
 obtain ⟨W0, hW0⟩ : ∃ V, w.alloc (.cells #[.slice none 0 0, .slice none 0 0, .int .i64 0, .bool false, .int .i64 0, .bool false] 67) = V := ⟨_, rfl⟩
 rw [hW0] at hb0 hp0 ⊢
 have HP := Lib.hid hp0
 have HB0 := Lib.hid hb0
 have HS := Lib.hid (PStep.refl w.heap.size (.slice none 0 0) (.slice none 0 0) W0)
 clear hW0 hb0 hp0
 go_wp2_with (first
  | (go_at_call 28; (with_reducible refine Calls.mono (word_any _ _) ?_); rintro e w9 ⟨rfl, hb⟩; replace HP := Lib.hid (HP.out.below hb); replace HS := Lib.hid (HS.out.trans (PStep.below hb)); clear hb)
  | (go_at_call 29; (with_reducible refine Calls.mono (rule_any _ _) ?_); rintro e w9 ⟨rfl, hb⟩; replace HP := Lib.hid (HP.out.below hb); replace HS := Lib.hid (HS.out.trans (PStep.below hb)); clear hb)
  | (go_at_call 31; refine Calls.mono (end_any 1 _) ?_; rintro e w9 ⟨rfl, hb⟩; replace HP := Lib.hid (HP.out.below hb); replace HS := Lib.hid (HS.out.trans (PStep.below hb)); clear hb)
  | (go_at_call 27; refine (push_new HP.out newPar.todo 6 [.string ⟨#[112, 114, 111, 103, 114, 97, 109]⟩, .int .u8 0, .nilFunc, .string ⟨#[64, 110, 97, 109, 101]⟩, .int .u8 0, .nilFunc, .string ⟨#[59]⟩, .int .u8 0, .nilFunc, .string ⟨#[]⟩, .int .u8 0, .func (.func 30) #[] #[], .string ⟨#[46]⟩, .int .u8 0, .nilFunc, .string ⟨#[]⟩, .int .u8 1, .nilFunc] rfl rfl (by decide) (by decide)).mono ?_; rintro e w9 ⟨rfl, vt9, hP9, hs9⟩; have HP9 := Lib.hid hP9; have HS9 := Lib.hid (HS.out.trans hs9); clear hP9 hs9))
 go_ret
 refine ⟨_, rfl, ⟨by have h := HP9.out; rw [List.append_nil] at h; exact h, ?_, by decide, by decide, by decide⟩, ?_⟩
 ·intro k hk
  simp only [newPar, List.mem_cons, List.not_mem_nil, or_false, reduceCtorEq, false_or, WT.fin.injEq] at hk
  omega
 ·refine ⟨HS9.out.os.trans HB0.out.os, HS9.out.tape.trans HB0.out.tape, HS9.out.output.trans HB0.out.output, Nat.le_trans HB0.out.size HS9.out.size, fun q hq => (HS9.out.block q (Nat.lt_of_lt_of_le hq HB0.out.size) (by omega) (by simp [Value.ownBlock]) (by simp [Value.ownBlock])).trans (HB0.out.block q hq)⟩
end Go.Proofs.Ytmjbpgnjgblnmaa
