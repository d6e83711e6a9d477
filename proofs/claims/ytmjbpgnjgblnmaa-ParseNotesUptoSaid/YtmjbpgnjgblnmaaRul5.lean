/- Rows of the grammar: the walks. (Printed by genrul.py.) -/
import Derived.Test.YtmjbpgnjgblnmaaRul0
set_option linter.unusedVariables false
set_option linter.unusedSimpArgs false
namespace Go.Proofs.Ytmjbpgnjgblnmaa
open Go.RowKit Go.Proofs.YtmjbpgnjgblnmaaW.PrintWords Go.Proofs.YtmjbpgnjgblnmaaW.PrintLast Go.Proofs.YtmjbpgnjgblnmaaW.PrintMore
set_option maxRecDepth 100000 in
set_option maxHeartbeats 4000000 in
theorem rule_expr : RuleAny .r_expr := by
  intro c p s es d b wc cl vt ve w HP0 HB0
  have HP := Lib.hid HP0
  have HS := Lib.hid (PStep.refl p vt ve w)
  obtain ⟨hs, hes, hd1, hd2⟩ := HB0
  clear HP0
  show Calls Try.prog 78 _ w (RulePost .r_expr c p s es d b wc cl vt ve w)
  unfold RulePost
  rw [show RId.expand .r_expr c = some [.opn 21 [.rule .r_rel, .rule .r_rels]] from rfl]
  have HO0 := Lib.hid (fun (W : World) (vt1 : Value) (h : PAt W p s es d b wc cl vt1 ve) => open_new h 21 21 [.rule .r_rel, .rule .r_rels] 2 [.string ⟨#[]⟩, .int .u8 0, .func (.func 100) #[] #[], .string ⟨#[]⟩, .int .u8 0, .func (.func 101) #[] #[]] rfl rfl rfl (by decide) (by (try simp only [List.length_append, List.length_cons, List.length_nil]); omega) (by omega) (by omega))
  clear hs hes hd1 hd2
  go_enter Try.func78, Try.ntmps78
  go_wp2_with (first
    | (go_at_call 28; (with_reducible refine Calls.mono (word_any _ _) ?_); rintro e w9 ⟨rfl, hb⟩; replace HP := Lib.hid (HP.out.below hb); replace HS := Lib.hid (HS.out.trans (PStep.below hb)); clear hb)
    | (go_at_call 29; (with_reducible refine Calls.mono (rule_any _ _) ?_); rintro e w9 ⟨rfl, hb⟩; replace HP := Lib.hid (HP.out.below hb); replace HS := Lib.hid (HS.out.trans (PStep.below hb)); clear hb)
    | (go_at_call 48; (with_reducible refine Calls.mono (HO0.out _ _ HP.out) ?_); rintro e w9 ⟨rfl, vt9, ve9, hP9, hs9⟩; replace HP := Lib.hid hP9; replace HS := Lib.hid (HS.out.trans hs9); clear hP9 hs9))
  go_ret
  exact ⟨rfl, _, _, by simpa [effs, Eff.act] using HP.out, HS.out⟩
set_option maxRecDepth 100000 in
set_option maxHeartbeats 4000000 in
theorem rule_rels : RuleAny .r_rels := by
  intro c p s es d b wc cl vt ve w HP0 HB0
  have HP := Lib.hid HP0
  have HS := Lib.hid (PStep.refl p vt ve w)
  obtain ⟨hs, hes, hd1, hd2⟩ := HB0
  clear HP0
  show Calls Try.prog 101 _ w (RulePost .r_rels c p s es d b wc cl vt ve w)
  unfold RulePost
  by_cases h1 : c = ⟨#[97, 110, 100]⟩ ∨ c = ⟨#[111, 114]⟩
  · rw [show RId.expand .r_rels c = some [.push [.word c, .rule .r_rel, .rule .r_rels]] by simp only [RId.expand]; rw [if_pos h1]]
    have hin : inL c [⟨#[97, 110, 100]⟩, ⟨#[111, 114]⟩] = true := (inL_iff _ _).2 (by simpa using h1)
    have HAM := Lib.hid (fun (W : World) => among_new W c [⟨#[97, 110, 100]⟩, ⟨#[111, 114]⟩] 2 [.string ⟨#[97, 110, 100]⟩, .string ⟨#[111, 114]⟩] rfl rfl (by decide))
    rw [hin] at HAM
    clear hin
    have HO0 := Lib.hid (fun (W : World) (vt1 : Value) (h : PAt W p s es d b wc cl vt1 ve) => push_new h [.word c, .rule .r_rel, .rule .r_rels] 3 [.string c, .int .u8 0, .nilFunc, .string ⟨#[]⟩, .int .u8 0, .func (.func 100) #[] #[], .string ⟨#[]⟩, .int .u8 0, .func (.func 101) #[] #[]] rfl rfl (by decide) (by (try simp only [List.length_append, List.length_cons, List.length_nil]); omega))
    clear hs hes hd1 hd2
    go_enter Try.func101, Try.ntmps101
    go_wp2_with (first
      | (go_at_call 65; (with_reducible refine Calls.mono (HAM.out _) ?_); rintro e w9 ⟨rfl, hb⟩; replace HP := Lib.hid (HP.out.below hb); replace HS := Lib.hid (HS.out.trans (PStep.below hb)); clear hb)
      | (go_at_call 28; (with_reducible refine Calls.mono (word_any _ _) ?_); rintro e w9 ⟨rfl, hb⟩; replace HP := Lib.hid (HP.out.below hb); replace HS := Lib.hid (HS.out.trans (PStep.below hb)); clear hb)
      | (go_at_call 29; (with_reducible refine Calls.mono (rule_any _ _) ?_); rintro e w9 ⟨rfl, hb⟩; replace HP := Lib.hid (HP.out.below hb); replace HS := Lib.hid (HS.out.trans (PStep.below hb)); clear hb)
      | (go_at_call 27; (with_reducible refine Calls.mono (HO0.out _ _ HP.out) ?_); rintro e w9 ⟨rfl, vt9, hP9, hs9⟩; replace HP := Lib.hid hP9; replace HS := Lib.hid (HS.out.trans hs9); clear hP9 hs9))
    go_ret
    exact ⟨rfl, _, _, by simpa [effs, Eff.act] using HP.out, HS.out⟩
  · skip
    rw [show RId.expand .r_rels c = some [] by simp only [RId.expand]; rw [if_neg h1]]
    have hin : inL c [⟨#[97, 110, 100]⟩, ⟨#[111, 114]⟩] = false := inL_no (fun h => h1 (by simpa using h))
    have HAM := Lib.hid (fun (W : World) => among_new W c [⟨#[97, 110, 100]⟩, ⟨#[111, 114]⟩] 2 [.string ⟨#[97, 110, 100]⟩, .string ⟨#[111, 114]⟩] rfl rfl (by decide))
    rw [hin] at HAM
    clear hin
    clear hs hes hd1 hd2
    go_enter Try.func101, Try.ntmps101
    go_wp2_with (first
      | (go_at_call 65; (with_reducible refine Calls.mono (HAM.out _) ?_); rintro e w9 ⟨rfl, hb⟩; replace HP := Lib.hid (HP.out.below hb); replace HS := Lib.hid (HS.out.trans (PStep.below hb)); clear hb)
      | (go_at_call 28; (with_reducible refine Calls.mono (word_any _ _) ?_); rintro e w9 ⟨rfl, hb⟩; replace HP := Lib.hid (HP.out.below hb); replace HS := Lib.hid (HS.out.trans (PStep.below hb)); clear hb)
      | (go_at_call 29; (with_reducible refine Calls.mono (rule_any _ _) ?_); rintro e w9 ⟨rfl, hb⟩; replace HP := Lib.hid (HP.out.below hb); replace HS := Lib.hid (HS.out.trans (PStep.below hb)); clear hb))
    go_ret
    exact ⟨rfl, _, _, by simpa [effs, Eff.act] using HP.out, HS.out⟩
set_option maxRecDepth 100000 in
set_option maxHeartbeats 4000000 in
theorem rule_rel : RuleAny .r_rel := by
  intro c p s es d b wc cl vt ve w HP0 HB0
  have HP := Lib.hid HP0
  have HS := Lib.hid (PStep.refl p vt ve w)
  obtain ⟨hs, hes, hd1, hd2⟩ := HB0
  clear HP0
  show Calls Try.prog 100 _ w (RulePost .r_rel c p s es d b wc cl vt ve w)
  unfold RulePost
  rw [show RId.expand .r_rel c = some [.opn 22 [.rule .r_sum, .rule .r_compared]] from rfl]
  have HO0 := Lib.hid (fun (W : World) (vt1 : Value) (h : PAt W p s es d b wc cl vt1 ve) => open_new h 22 22 [.rule .r_sum, .rule .r_compared] 2 [.string ⟨#[]⟩, .int .u8 0, .func (.func 127) #[] #[], .string ⟨#[]⟩, .int .u8 0, .func (.func 128) #[] #[]] rfl rfl rfl (by decide) (by (try simp only [List.length_append, List.length_cons, List.length_nil]); omega) (by omega) (by omega))
  clear hs hes hd1 hd2
  go_enter Try.func100, Try.ntmps100
  go_wp2_with (first
    | (go_at_call 28; (with_reducible refine Calls.mono (word_any _ _) ?_); rintro e w9 ⟨rfl, hb⟩; replace HP := Lib.hid (HP.out.below hb); replace HS := Lib.hid (HS.out.trans (PStep.below hb)); clear hb)
    | (go_at_call 29; (with_reducible refine Calls.mono (rule_any _ _) ?_); rintro e w9 ⟨rfl, hb⟩; replace HP := Lib.hid (HP.out.below hb); replace HS := Lib.hid (HS.out.trans (PStep.below hb)); clear hb)
    | (go_at_call 48; (with_reducible refine Calls.mono (HO0.out _ _ HP.out) ?_); rintro e w9 ⟨rfl, vt9, ve9, hP9, hs9⟩; replace HP := Lib.hid hP9; replace HS := Lib.hid (HS.out.trans hs9); clear hP9 hs9))
  go_ret
  exact ⟨rfl, _, _, by simpa [effs, Eff.act] using HP.out, HS.out⟩
set_option maxRecDepth 100000 in
set_option maxHeartbeats 4000000 in
theorem rule_compared : RuleAny .r_compared := by
  intro c p s es d b wc cl vt ve w HP0 HB0
  have HP := Lib.hid HP0
  have HS := Lib.hid (PStep.refl p vt ve w)
  obtain ⟨hs, hes, hd1, hd2⟩ := HB0
  clear HP0
  show Calls Try.prog 128 _ w (RulePost .r_compared c p s es d b wc cl vt ve w)
  unfold RulePost
  by_cases h1 : c = ⟨#[61]⟩ ∨ c = ⟨#[35]⟩ ∨ c = ⟨#[60]⟩ ∨ c = ⟨#[60, 61]⟩ ∨ c = ⟨#[62]⟩ ∨ c = ⟨#[62, 61]⟩
  · rw [show RId.expand .r_compared c = some [.push [.word c, .rule .r_sum]] by simp only [RId.expand]; rw [if_pos h1]]
    have hin : inL c [⟨#[61]⟩, ⟨#[35]⟩, ⟨#[60]⟩, ⟨#[60, 61]⟩, ⟨#[62]⟩, ⟨#[62, 61]⟩] = true := (inL_iff _ _).2 (by simpa using h1)
    have HAM := Lib.hid (fun (W : World) => among_new W c [⟨#[61]⟩, ⟨#[35]⟩, ⟨#[60]⟩, ⟨#[60, 61]⟩, ⟨#[62]⟩, ⟨#[62, 61]⟩] 6 [.string ⟨#[61]⟩, .string ⟨#[35]⟩, .string ⟨#[60]⟩, .string ⟨#[60, 61]⟩, .string ⟨#[62]⟩, .string ⟨#[62, 61]⟩] rfl rfl (by decide))
    rw [hin] at HAM
    clear hin
    have HO0 := Lib.hid (fun (W : World) (vt1 : Value) (h : PAt W p s es d b wc cl vt1 ve) => push_new h [.word c, .rule .r_sum] 2 [.string c, .int .u8 0, .nilFunc, .string ⟨#[]⟩, .int .u8 0, .func (.func 127) #[] #[]] rfl rfl (by decide) (by (try simp only [List.length_append, List.length_cons, List.length_nil]); omega))
    clear hs hes hd1 hd2
    go_enter Try.func128, Try.ntmps128
    go_wp2_with (first
      | (go_at_call 65; (with_reducible refine Calls.mono (HAM.out _) ?_); rintro e w9 ⟨rfl, hb⟩; replace HP := Lib.hid (HP.out.below hb); replace HS := Lib.hid (HS.out.trans (PStep.below hb)); clear hb)
      | (go_at_call 28; (with_reducible refine Calls.mono (word_any _ _) ?_); rintro e w9 ⟨rfl, hb⟩; replace HP := Lib.hid (HP.out.below hb); replace HS := Lib.hid (HS.out.trans (PStep.below hb)); clear hb)
      | (go_at_call 29; (with_reducible refine Calls.mono (rule_any _ _) ?_); rintro e w9 ⟨rfl, hb⟩; replace HP := Lib.hid (HP.out.below hb); replace HS := Lib.hid (HS.out.trans (PStep.below hb)); clear hb)
      | (go_at_call 27; (with_reducible refine Calls.mono (HO0.out _ _ HP.out) ?_); rintro e w9 ⟨rfl, vt9, hP9, hs9⟩; replace HP := Lib.hid hP9; replace HS := Lib.hid (HS.out.trans hs9); clear hP9 hs9))
    go_ret
    exact ⟨rfl, _, _, by simpa [effs, Eff.act] using HP.out, HS.out⟩
  · skip
    rw [show RId.expand .r_compared c = some [] by simp only [RId.expand]; rw [if_neg h1]]
    have hin : inL c [⟨#[61]⟩, ⟨#[35]⟩, ⟨#[60]⟩, ⟨#[60, 61]⟩, ⟨#[62]⟩, ⟨#[62, 61]⟩] = false := inL_no (fun h => h1 (by simpa using h))
    have HAM := Lib.hid (fun (W : World) => among_new W c [⟨#[61]⟩, ⟨#[35]⟩, ⟨#[60]⟩, ⟨#[60, 61]⟩, ⟨#[62]⟩, ⟨#[62, 61]⟩] 6 [.string ⟨#[61]⟩, .string ⟨#[35]⟩, .string ⟨#[60]⟩, .string ⟨#[60, 61]⟩, .string ⟨#[62]⟩, .string ⟨#[62, 61]⟩] rfl rfl (by decide))
    rw [hin] at HAM
    clear hin
    clear hs hes hd1 hd2
    go_enter Try.func128, Try.ntmps128
    go_wp2_with (first
      | (go_at_call 65; (with_reducible refine Calls.mono (HAM.out _) ?_); rintro e w9 ⟨rfl, hb⟩; replace HP := Lib.hid (HP.out.below hb); replace HS := Lib.hid (HS.out.trans (PStep.below hb)); clear hb)
      | (go_at_call 28; (with_reducible refine Calls.mono (word_any _ _) ?_); rintro e w9 ⟨rfl, hb⟩; replace HP := Lib.hid (HP.out.below hb); replace HS := Lib.hid (HS.out.trans (PStep.below hb)); clear hb)
      | (go_at_call 29; (with_reducible refine Calls.mono (rule_any _ _) ?_); rintro e w9 ⟨rfl, hb⟩; replace HP := Lib.hid (HP.out.below hb); replace HS := Lib.hid (HS.out.trans (PStep.below hb)); clear hb))
    go_ret
    exact ⟨rfl, _, _, by simpa [effs, Eff.act] using HP.out, HS.out⟩
set_option maxRecDepth 100000 in
set_option maxHeartbeats 4000000 in
theorem rule_sum : RuleAny .r_sum := by
  intro c p s es d b wc cl vt ve w HP0 HB0
  have HP := Lib.hid HP0
  have HS := Lib.hid (PStep.refl p vt ve w)
  obtain ⟨hs, hes, hd1, hd2⟩ := HB0
  clear HP0
  show Calls Try.prog 127 _ w (RulePost .r_sum c p s es d b wc cl vt ve w)
  unfold RulePost
  rw [show RId.expand .r_sum c = some [.opn 23 [.rule .r_term, .rule .r_terms]] from rfl]
  have HO0 := Lib.hid (fun (W : World) (vt1 : Value) (h : PAt W p s es d b wc cl vt1 ve) => open_new h 23 23 [.rule .r_term, .rule .r_terms] 2 [.string ⟨#[]⟩, .int .u8 0, .func (.func 148) #[] #[], .string ⟨#[]⟩, .int .u8 0, .func (.func 149) #[] #[]] rfl rfl rfl (by decide) (by (try simp only [List.length_append, List.length_cons, List.length_nil]); omega) (by omega) (by omega))
  clear hs hes hd1 hd2
  go_enter Try.func127, Try.ntmps127
  go_wp2_with (first
    | (go_at_call 28; (with_reducible refine Calls.mono (word_any _ _) ?_); rintro e w9 ⟨rfl, hb⟩; replace HP := Lib.hid (HP.out.below hb); replace HS := Lib.hid (HS.out.trans (PStep.below hb)); clear hb)
    | (go_at_call 29; (with_reducible refine Calls.mono (rule_any _ _) ?_); rintro e w9 ⟨rfl, hb⟩; replace HP := Lib.hid (HP.out.below hb); replace HS := Lib.hid (HS.out.trans (PStep.below hb)); clear hb)
    | (go_at_call 48; (with_reducible refine Calls.mono (HO0.out _ _ HP.out) ?_); rintro e w9 ⟨rfl, vt9, ve9, hP9, hs9⟩; replace HP := Lib.hid hP9; replace HS := Lib.hid (HS.out.trans hs9); clear hP9 hs9))
  go_ret
  exact ⟨rfl, _, _, by simpa [effs, Eff.act] using HP.out, HS.out⟩
set_option maxRecDepth 100000 in
set_option maxHeartbeats 4000000 in
theorem rule_terms : RuleAny .r_terms := by
  intro c p s es d b wc cl vt ve w HP0 HB0
  have HP := Lib.hid HP0
  have HS := Lib.hid (PStep.refl p vt ve w)
  obtain ⟨hs, hes, hd1, hd2⟩ := HB0
  clear HP0
  show Calls Try.prog 149 _ w (RulePost .r_terms c p s es d b wc cl vt ve w)
  unfold RulePost
  by_cases h1 : c = ⟨#[43]⟩ ∨ c = ⟨#[45]⟩
  · rw [show RId.expand .r_terms c = some [.push [.word c, .rule .r_term, .rule .r_terms]] by simp only [RId.expand]; rw [if_pos h1]]
    have hin : inL c [⟨#[43]⟩, ⟨#[45]⟩] = true := (inL_iff _ _).2 (by simpa using h1)
    have HAM := Lib.hid (fun (W : World) => among_new W c [⟨#[43]⟩, ⟨#[45]⟩] 2 [.string ⟨#[43]⟩, .string ⟨#[45]⟩] rfl rfl (by decide))
    rw [hin] at HAM
    clear hin
    have HO0 := Lib.hid (fun (W : World) (vt1 : Value) (h : PAt W p s es d b wc cl vt1 ve) => push_new h [.word c, .rule .r_term, .rule .r_terms] 3 [.string c, .int .u8 0, .nilFunc, .string ⟨#[]⟩, .int .u8 0, .func (.func 148) #[] #[], .string ⟨#[]⟩, .int .u8 0, .func (.func 149) #[] #[]] rfl rfl (by decide) (by (try simp only [List.length_append, List.length_cons, List.length_nil]); omega))
    clear hs hes hd1 hd2
    go_enter Try.func149, Try.ntmps149
    go_wp2_with (first
      | (go_at_call 65; (with_reducible refine Calls.mono (HAM.out _) ?_); rintro e w9 ⟨rfl, hb⟩; replace HP := Lib.hid (HP.out.below hb); replace HS := Lib.hid (HS.out.trans (PStep.below hb)); clear hb)
      | (go_at_call 28; (with_reducible refine Calls.mono (word_any _ _) ?_); rintro e w9 ⟨rfl, hb⟩; replace HP := Lib.hid (HP.out.below hb); replace HS := Lib.hid (HS.out.trans (PStep.below hb)); clear hb)
      | (go_at_call 29; (with_reducible refine Calls.mono (rule_any _ _) ?_); rintro e w9 ⟨rfl, hb⟩; replace HP := Lib.hid (HP.out.below hb); replace HS := Lib.hid (HS.out.trans (PStep.below hb)); clear hb)
      | (go_at_call 27; (with_reducible refine Calls.mono (HO0.out _ _ HP.out) ?_); rintro e w9 ⟨rfl, vt9, hP9, hs9⟩; replace HP := Lib.hid hP9; replace HS := Lib.hid (HS.out.trans hs9); clear hP9 hs9))
    go_ret
    exact ⟨rfl, _, _, by simpa [effs, Eff.act] using HP.out, HS.out⟩
  · skip
    rw [show RId.expand .r_terms c = some [] by simp only [RId.expand]; rw [if_neg h1]]
    have hin : inL c [⟨#[43]⟩, ⟨#[45]⟩] = false := inL_no (fun h => h1 (by simpa using h))
    have HAM := Lib.hid (fun (W : World) => among_new W c [⟨#[43]⟩, ⟨#[45]⟩] 2 [.string ⟨#[43]⟩, .string ⟨#[45]⟩] rfl rfl (by decide))
    rw [hin] at HAM
    clear hin
    clear hs hes hd1 hd2
    go_enter Try.func149, Try.ntmps149
    go_wp2_with (first
      | (go_at_call 65; (with_reducible refine Calls.mono (HAM.out _) ?_); rintro e w9 ⟨rfl, hb⟩; replace HP := Lib.hid (HP.out.below hb); replace HS := Lib.hid (HS.out.trans (PStep.below hb)); clear hb)
      | (go_at_call 28; (with_reducible refine Calls.mono (word_any _ _) ?_); rintro e w9 ⟨rfl, hb⟩; replace HP := Lib.hid (HP.out.below hb); replace HS := Lib.hid (HS.out.trans (PStep.below hb)); clear hb)
      | (go_at_call 29; (with_reducible refine Calls.mono (rule_any _ _) ?_); rintro e w9 ⟨rfl, hb⟩; replace HP := Lib.hid (HP.out.below hb); replace HS := Lib.hid (HS.out.trans (PStep.below hb)); clear hb))
    go_ret
    exact ⟨rfl, _, _, by simpa [effs, Eff.act] using HP.out, HS.out⟩
set_option maxRecDepth 100000 in
set_option maxHeartbeats 4000000 in
theorem rule_term : RuleAny .r_term := by
  intro c p s es d b wc cl vt ve w HP0 HB0
  have HP := Lib.hid HP0
  have HS := Lib.hid (PStep.refl p vt ve w)
  obtain ⟨hs, hes, hd1, hd2⟩ := HB0
  clear HP0
  show Calls Try.prog 148 _ w (RulePost .r_term c p s es d b wc cl vt ve w)
  unfold RulePost
  rw [show RId.expand .r_term c = some [.opn 24 [.rule .r_factor, .rule .r_factors]] from rfl]
  have HO0 := Lib.hid (fun (W : World) (vt1 : Value) (h : PAt W p s es d b wc cl vt1 ve) => open_new h 24 24 [.rule .r_factor, .rule .r_factors] 2 [.string ⟨#[]⟩, .int .u8 0, .func (.func 159) #[] #[], .string ⟨#[]⟩, .int .u8 0, .func (.func 160) #[] #[]] rfl rfl rfl (by decide) (by (try simp only [List.length_append, List.length_cons, List.length_nil]); omega) (by omega) (by omega))
  clear hs hes hd1 hd2
  go_enter Try.func148, Try.ntmps148
  go_wp2_with (first
    | (go_at_call 28; (with_reducible refine Calls.mono (word_any _ _) ?_); rintro e w9 ⟨rfl, hb⟩; replace HP := Lib.hid (HP.out.below hb); replace HS := Lib.hid (HS.out.trans (PStep.below hb)); clear hb)
    | (go_at_call 29; (with_reducible refine Calls.mono (rule_any _ _) ?_); rintro e w9 ⟨rfl, hb⟩; replace HP := Lib.hid (HP.out.below hb); replace HS := Lib.hid (HS.out.trans (PStep.below hb)); clear hb)
    | (go_at_call 48; (with_reducible refine Calls.mono (HO0.out _ _ HP.out) ?_); rintro e w9 ⟨rfl, vt9, ve9, hP9, hs9⟩; replace HP := Lib.hid hP9; replace HS := Lib.hid (HS.out.trans hs9); clear hP9 hs9))
  go_ret
  exact ⟨rfl, _, _, by simpa [effs, Eff.act] using HP.out, HS.out⟩
set_option maxRecDepth 100000 in
set_option maxHeartbeats 4000000 in
theorem rule_factors : RuleAny .r_factors := by
  intro c p s es d b wc cl vt ve w HP0 HB0
  have HP := Lib.hid HP0
  have HS := Lib.hid (PStep.refl p vt ve w)
  obtain ⟨hs, hes, hd1, hd2⟩ := HB0
  clear HP0
  show Calls Try.prog 160 _ w (RulePost .r_factors c p s es d b wc cl vt ve w)
  unfold RulePost
  by_cases h1 : c = ⟨#[42]⟩ ∨ c = ⟨#[47]⟩ ∨ c = ⟨#[37]⟩
  · rw [show RId.expand .r_factors c = some [.push [.word c, .rule .r_factor, .rule .r_factors]] by simp only [RId.expand]; rw [if_pos h1]]
    have hin : inL c [⟨#[42]⟩, ⟨#[47]⟩, ⟨#[37]⟩] = true := (inL_iff _ _).2 (by simpa using h1)
    have HAM := Lib.hid (fun (W : World) => among_new W c [⟨#[42]⟩, ⟨#[47]⟩, ⟨#[37]⟩] 3 [.string ⟨#[42]⟩, .string ⟨#[47]⟩, .string ⟨#[37]⟩] rfl rfl (by decide))
    rw [hin] at HAM
    clear hin
    have HO0 := Lib.hid (fun (W : World) (vt1 : Value) (h : PAt W p s es d b wc cl vt1 ve) => push_new h [.word c, .rule .r_factor, .rule .r_factors] 3 [.string c, .int .u8 0, .nilFunc, .string ⟨#[]⟩, .int .u8 0, .func (.func 159) #[] #[], .string ⟨#[]⟩, .int .u8 0, .func (.func 160) #[] #[]] rfl rfl (by decide) (by (try simp only [List.length_append, List.length_cons, List.length_nil]); omega))
    clear hs hes hd1 hd2
    go_enter Try.func160, Try.ntmps160
    go_wp2_with (first
      | (go_at_call 65; (with_reducible refine Calls.mono (HAM.out _) ?_); rintro e w9 ⟨rfl, hb⟩; replace HP := Lib.hid (HP.out.below hb); replace HS := Lib.hid (HS.out.trans (PStep.below hb)); clear hb)
      | (go_at_call 28; (with_reducible refine Calls.mono (word_any _ _) ?_); rintro e w9 ⟨rfl, hb⟩; replace HP := Lib.hid (HP.out.below hb); replace HS := Lib.hid (HS.out.trans (PStep.below hb)); clear hb)
      | (go_at_call 29; (with_reducible refine Calls.mono (rule_any _ _) ?_); rintro e w9 ⟨rfl, hb⟩; replace HP := Lib.hid (HP.out.below hb); replace HS := Lib.hid (HS.out.trans (PStep.below hb)); clear hb)
      | (go_at_call 27; (with_reducible refine Calls.mono (HO0.out _ _ HP.out) ?_); rintro e w9 ⟨rfl, vt9, hP9, hs9⟩; replace HP := Lib.hid hP9; replace HS := Lib.hid (HS.out.trans hs9); clear hP9 hs9))
    go_ret
    exact ⟨rfl, _, _, by simpa [effs, Eff.act] using HP.out, HS.out⟩
  · skip
    rw [show RId.expand .r_factors c = some [] by simp only [RId.expand]; rw [if_neg h1]]
    have hin : inL c [⟨#[42]⟩, ⟨#[47]⟩, ⟨#[37]⟩] = false := inL_no (fun h => h1 (by simpa using h))
    have HAM := Lib.hid (fun (W : World) => among_new W c [⟨#[42]⟩, ⟨#[47]⟩, ⟨#[37]⟩] 3 [.string ⟨#[42]⟩, .string ⟨#[47]⟩, .string ⟨#[37]⟩] rfl rfl (by decide))
    rw [hin] at HAM
    clear hin
    clear hs hes hd1 hd2
    go_enter Try.func160, Try.ntmps160
    go_wp2_with (first
      | (go_at_call 65; (with_reducible refine Calls.mono (HAM.out _) ?_); rintro e w9 ⟨rfl, hb⟩; replace HP := Lib.hid (HP.out.below hb); replace HS := Lib.hid (HS.out.trans (PStep.below hb)); clear hb)
      | (go_at_call 28; (with_reducible refine Calls.mono (word_any _ _) ?_); rintro e w9 ⟨rfl, hb⟩; replace HP := Lib.hid (HP.out.below hb); replace HS := Lib.hid (HS.out.trans (PStep.below hb)); clear hb)
      | (go_at_call 29; (with_reducible refine Calls.mono (rule_any _ _) ?_); rintro e w9 ⟨rfl, hb⟩; replace HP := Lib.hid (HP.out.below hb); replace HS := Lib.hid (HS.out.trans (PStep.below hb)); clear hb))
    go_ret
    exact ⟨rfl, _, _, by simpa [effs, Eff.act] using HP.out, HS.out⟩
end Go.Proofs.Ytmjbpgnjgblnmaa
