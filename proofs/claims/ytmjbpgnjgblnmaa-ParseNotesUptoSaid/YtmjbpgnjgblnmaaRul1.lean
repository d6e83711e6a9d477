/- Rows of the grammar: the walks. (Printed by genrul.py.) -/
import Derived.Test.YtmjbpgnjgblnmaaRul0
set_option linter.unusedVariables false
set_option linter.unusedSimpArgs false
namespace Go.Proofs.Ytmjbpgnjgblnmaa
open Go.RowKit Go.Proofs.YtmjbpgnjgblnmaaW.PrintWords Go.Proofs.YtmjbpgnjgblnmaaW.PrintLast Go.Proofs.YtmjbpgnjgblnmaaW.PrintMore
set_option maxRecDepth 100000 in
set_option maxHeartbeats 4000000 in
theorem rule_names : RuleAny .r_names := by
  intro c p s es d b wc cl vt ve w HP0 HB0
  have HP := Lib.hid HP0
  have HS := Lib.hid (PStep.refl p vt ve w)
  obtain ⟨hs, hes, hd1, hd2⟩ := HB0
  clear HP0
  show Calls Try.prog 76 _ w (RulePost .r_names c p s es d b wc cl vt ve w)
  unfold RulePost
  by_cases h1 : c = ⟨#[44]⟩
  · subst h1
    rw [show RId.expand .r_names ⟨#[44]⟩ = some [.push [.word ⟨#[44]⟩, .word ⟨#[64, 110, 97, 109, 101]⟩, .rule .r_names]] from rfl]
    have HO0 := Lib.hid (fun (W : World) (vt1 : Value) (h : PAt W p s es d b wc cl vt1 ve) => push_new h [.word ⟨#[44]⟩, .word ⟨#[64, 110, 97, 109, 101]⟩, .rule .r_names] 3 [.string ⟨#[44]⟩, .int .u8 0, .nilFunc, .string ⟨#[64, 110, 97, 109, 101]⟩, .int .u8 0, .nilFunc, .string ⟨#[]⟩, .int .u8 0, .func (.func 76) #[] #[]] rfl rfl (by decide) (by (try simp only [List.length_append, List.length_cons, List.length_nil]); omega))
    clear hs hes hd1 hd2
    go_enter Try.func76, Try.ntmps76
    go_wp2_with (first
      | (go_at_call 28; (with_reducible refine Calls.mono (word_any _ _) ?_); rintro e w9 ⟨rfl, hb⟩; replace HP := Lib.hid (HP.out.below hb); replace HS := Lib.hid (HS.out.trans (PStep.below hb)); clear hb)
      | (go_at_call 29; (with_reducible refine Calls.mono (rule_any _ _) ?_); rintro e w9 ⟨rfl, hb⟩; replace HP := Lib.hid (HP.out.below hb); replace HS := Lib.hid (HS.out.trans (PStep.below hb)); clear hb)
      | (go_at_call 27; (with_reducible refine Calls.mono (HO0.out _ _ HP.out) ?_); rintro e w9 ⟨rfl, vt9, hP9, hs9⟩; replace HP := Lib.hid hP9; replace HS := Lib.hid (HS.out.trans hs9); clear hP9 hs9))
    go_ret
    exact ⟨rfl, _, _, by simpa [effs, Eff.act] using HP.out, HS.out⟩
  · skip
    rw [show RId.expand .r_names c = some [] by simp only [RId.expand]; rw [if_neg h1]]
    have e0 := ne_lit h1
    clear hs hes hd1 hd2
    go_enter Try.func76, Try.ntmps76
    go_wp2_with (first
      | (go_at_call 28; (with_reducible refine Calls.mono (word_any _ _) ?_); rintro e w9 ⟨rfl, hb⟩; replace HP := Lib.hid (HP.out.below hb); replace HS := Lib.hid (HS.out.trans (PStep.below hb)); clear hb)
      | (go_at_call 29; (with_reducible refine Calls.mono (rule_any _ _) ?_); rintro e w9 ⟨rfl, hb⟩; replace HP := Lib.hid (HP.out.below hb); replace HS := Lib.hid (HS.out.trans (PStep.below hb)); clear hb))
    go_ret
    exact ⟨rfl, _, _, by simpa [effs, Eff.act] using HP.out, HS.out⟩
set_option maxRecDepth 100000 in
set_option maxHeartbeats 4000000 in
theorem rule_declarations : RuleAny .r_declarations := by
  intro c p s es d b wc cl vt ve w HP0 HB0
  have HP := Lib.hid HP0
  have HS := Lib.hid (PStep.refl p vt ve w)
  obtain ⟨hs, hes, hd1, hd2⟩ := HB0
  clear HP0
  show Calls Try.prog 49 _ w (RulePost .r_declarations c p s es d b wc cl vt ve w)
  unfold RulePost
  by_cases h1 : c = ⟨#[118, 97, 114]⟩ ∨ c = ⟨#[99, 111, 110, 115, 116]⟩ ∨ c = ⟨#[112, 114, 111, 99]⟩
  · rw [show RId.expand .r_declarations c = some [.push [.rule .r_declaration, .rule .r_declarations]] by simp only [RId.expand]; rw [if_pos h1]]
    have hin : inL c [⟨#[118, 97, 114]⟩, ⟨#[99, 111, 110, 115, 116]⟩, ⟨#[112, 114, 111, 99]⟩] = true := (inL_iff _ _).2 (by simpa using h1)
    have HAM := Lib.hid (fun (W : World) => among_new W c [⟨#[118, 97, 114]⟩, ⟨#[99, 111, 110, 115, 116]⟩, ⟨#[112, 114, 111, 99]⟩] 3 [.string ⟨#[118, 97, 114]⟩, .string ⟨#[99, 111, 110, 115, 116]⟩, .string ⟨#[112, 114, 111, 99]⟩] rfl rfl (by decide))
    rw [hin] at HAM
    clear hin
    have HO0 := Lib.hid (fun (W : World) (vt1 : Value) (h : PAt W p s es d b wc cl vt1 ve) => push_new h [.rule .r_declaration, .rule .r_declarations] 2 [.string ⟨#[]⟩, .int .u8 0, .func (.func 66) #[] #[], .string ⟨#[]⟩, .int .u8 0, .func (.func 49) #[] #[]] rfl rfl (by decide) (by (try simp only [List.length_append, List.length_cons, List.length_nil]); omega))
    clear hs hes hd1 hd2
    go_enter Try.func49, Try.ntmps49
    go_wp2_with (first
      | (go_at_call 65; (with_reducible refine Calls.mono (HAM.out _) ?_); rintro e w9 ⟨rfl, hb⟩; replace HP := Lib.hid (HP.out.below hb); replace HS := Lib.hid (HS.out.trans (PStep.below hb)); clear hb)
      | (go_at_call 28; (with_reducible refine Calls.mono (word_any _ _) ?_); rintro e w9 ⟨rfl, hb⟩; replace HP := Lib.hid (HP.out.below hb); replace HS := Lib.hid (HS.out.trans (PStep.below hb)); clear hb)
      | (go_at_call 29; (with_reducible refine Calls.mono (rule_any _ _) ?_); rintro e w9 ⟨rfl, hb⟩; replace HP := Lib.hid (HP.out.below hb); replace HS := Lib.hid (HS.out.trans (PStep.below hb)); clear hb)
      | (go_at_call 27; (with_reducible refine Calls.mono (HO0.out _ _ HP.out) ?_); rintro e w9 ⟨rfl, vt9, hP9, hs9⟩; replace HP := Lib.hid hP9; replace HS := Lib.hid (HS.out.trans hs9); clear hP9 hs9))
    go_ret
    exact ⟨rfl, _, _, by simpa [effs, Eff.act] using HP.out, HS.out⟩
  · skip
    rw [show RId.expand .r_declarations c = some [] by simp only [RId.expand]; rw [if_neg h1]]
    have hin : inL c [⟨#[118, 97, 114]⟩, ⟨#[99, 111, 110, 115, 116]⟩, ⟨#[112, 114, 111, 99]⟩] = false := inL_no (fun h => h1 (by simpa using h))
    have HAM := Lib.hid (fun (W : World) => among_new W c [⟨#[118, 97, 114]⟩, ⟨#[99, 111, 110, 115, 116]⟩, ⟨#[112, 114, 111, 99]⟩] 3 [.string ⟨#[118, 97, 114]⟩, .string ⟨#[99, 111, 110, 115, 116]⟩, .string ⟨#[112, 114, 111, 99]⟩] rfl rfl (by decide))
    rw [hin] at HAM
    clear hin
    clear hs hes hd1 hd2
    go_enter Try.func49, Try.ntmps49
    go_wp2_with (first
      | (go_at_call 65; (with_reducible refine Calls.mono (HAM.out _) ?_); rintro e w9 ⟨rfl, hb⟩; replace HP := Lib.hid (HP.out.below hb); replace HS := Lib.hid (HS.out.trans (PStep.below hb)); clear hb)
      | (go_at_call 28; (with_reducible refine Calls.mono (word_any _ _) ?_); rintro e w9 ⟨rfl, hb⟩; replace HP := Lib.hid (HP.out.below hb); replace HS := Lib.hid (HS.out.trans (PStep.below hb)); clear hb)
      | (go_at_call 29; (with_reducible refine Calls.mono (rule_any _ _) ?_); rintro e w9 ⟨rfl, hb⟩; replace HP := Lib.hid (HP.out.below hb); replace HS := Lib.hid (HS.out.trans (PStep.below hb)); clear hb))
    go_ret
    exact ⟨rfl, _, _, by simpa [effs, Eff.act] using HP.out, HS.out⟩
set_option maxRecDepth 100000 in
set_option maxHeartbeats 4000000 in
theorem rule_kind : RuleAny .r_kind := by
  intro c p s es d b wc cl vt ve w HP0 HB0
  have HP := Lib.hid HP0
  have HS := Lib.hid (PStep.refl p vt ve w)
  obtain ⟨hs, hes, hd1, hd2⟩ := HB0
  clear HP0
  show Calls Try.prog 77 _ w (RulePost .r_kind c p s es d b wc cl vt ve w)
  unfold RulePost
  by_cases h1 : c = ⟨#[64, 110, 97, 109, 101]⟩
  · subst h1
    rw [show RId.expand .r_kind ⟨#[64, 110, 97, 109, 101]⟩ = some [.opn 8 [.word ⟨#[64, 110, 97, 109, 101]⟩]] from rfl]
    have HO0 := Lib.hid (fun (W : World) (vt1 : Value) (h : PAt W p s es d b wc cl vt1 ve) => open_new h 8 8 [.word ⟨#[64, 110, 97, 109, 101]⟩] 1 [.string ⟨#[64, 110, 97, 109, 101]⟩, .int .u8 0, .nilFunc] rfl rfl rfl (by decide) (by (try simp only [List.length_append, List.length_cons, List.length_nil]); omega) (by omega) (by omega))
    clear hs hes hd1 hd2
    go_enter Try.func77, Try.ntmps77
    go_wp2_with (first
      | (go_at_call 28; (with_reducible refine Calls.mono (word_any _ _) ?_); rintro e w9 ⟨rfl, hb⟩; replace HP := Lib.hid (HP.out.below hb); replace HS := Lib.hid (HS.out.trans (PStep.below hb)); clear hb)
      | (go_at_call 29; (with_reducible refine Calls.mono (rule_any _ _) ?_); rintro e w9 ⟨rfl, hb⟩; replace HP := Lib.hid (HP.out.below hb); replace HS := Lib.hid (HS.out.trans (PStep.below hb)); clear hb)
      | (go_at_call 48; (with_reducible refine Calls.mono (HO0.out _ _ HP.out) ?_); rintro e w9 ⟨rfl, vt9, ve9, hP9, hs9⟩; replace HP := Lib.hid hP9; replace HS := Lib.hid (HS.out.trans hs9); clear hP9 hs9))
    go_ret
    exact ⟨rfl, _, _, by simpa [effs, Eff.act] using HP.out, HS.out⟩
  · skip
    by_cases h2 : c = ⟨#[97, 114, 114, 97, 121]⟩
    · subst h2
      rw [show RId.expand .r_kind ⟨#[97, 114, 114, 97, 121]⟩ = some [.opn 9 [.word ⟨#[97, 114, 114, 97, 121]⟩, .word ⟨#[91]⟩, .rule .r_expr, .word ⟨#[46, 46]⟩, .rule .r_expr, .word ⟨#[93]⟩, .word ⟨#[111, 102]⟩, .rule .r_kind]] from rfl]
      have HO0 := Lib.hid (fun (W : World) (vt1 : Value) (h : PAt W p s es d b wc cl vt1 ve) => open_new h 9 9 [.word ⟨#[97, 114, 114, 97, 121]⟩, .word ⟨#[91]⟩, .rule .r_expr, .word ⟨#[46, 46]⟩, .rule .r_expr, .word ⟨#[93]⟩, .word ⟨#[111, 102]⟩, .rule .r_kind] 8 [.string ⟨#[97, 114, 114, 97, 121]⟩, .int .u8 0, .nilFunc, .string ⟨#[91]⟩, .int .u8 0, .nilFunc, .string ⟨#[]⟩, .int .u8 0, .func (.func 78) #[] #[], .string ⟨#[46, 46]⟩, .int .u8 0, .nilFunc, .string ⟨#[]⟩, .int .u8 0, .func (.func 78) #[] #[], .string ⟨#[93]⟩, .int .u8 0, .nilFunc, .string ⟨#[111, 102]⟩, .int .u8 0, .nilFunc, .string ⟨#[]⟩, .int .u8 0, .func (.func 77) #[] #[]] rfl rfl rfl (by decide) (by (try simp only [List.length_append, List.length_cons, List.length_nil]); omega) (by omega) (by omega))
      clear hs hes hd1 hd2
      go_enter Try.func77, Try.ntmps77
      go_wp2_with (first
        | (go_at_call 28; (with_reducible refine Calls.mono (word_any _ _) ?_); rintro e w9 ⟨rfl, hb⟩; replace HP := Lib.hid (HP.out.below hb); replace HS := Lib.hid (HS.out.trans (PStep.below hb)); clear hb)
        | (go_at_call 29; (with_reducible refine Calls.mono (rule_any _ _) ?_); rintro e w9 ⟨rfl, hb⟩; replace HP := Lib.hid (HP.out.below hb); replace HS := Lib.hid (HS.out.trans (PStep.below hb)); clear hb)
        | (go_at_call 48; (with_reducible refine Calls.mono (HO0.out _ _ HP.out) ?_); rintro e w9 ⟨rfl, vt9, ve9, hP9, hs9⟩; replace HP := Lib.hid hP9; replace HS := Lib.hid (HS.out.trans hs9); clear hP9 hs9))
      go_ret
      exact ⟨rfl, _, _, by simpa [effs, Eff.act] using HP.out, HS.out⟩
    · skip
      by_cases h3 : c = ⟨#[114, 101, 99, 111, 114, 100]⟩
      · subst h3
        rw [show RId.expand .r_kind ⟨#[114, 101, 99, 111, 114, 100]⟩ = some [.opn 10 [.word ⟨#[114, 101, 99, 111, 114, 100]⟩, .rule .r_member, .rule .r_members, .word ⟨#[101, 110, 100]⟩]] from rfl]
        have HO0 := Lib.hid (fun (W : World) (vt1 : Value) (h : PAt W p s es d b wc cl vt1 ve) => open_new h 10 10 [.word ⟨#[114, 101, 99, 111, 114, 100]⟩, .rule .r_member, .rule .r_members, .word ⟨#[101, 110, 100]⟩] 4 [.string ⟨#[114, 101, 99, 111, 114, 100]⟩, .int .u8 0, .nilFunc, .string ⟨#[]⟩, .int .u8 0, .func (.func 98) #[] #[], .string ⟨#[]⟩, .int .u8 0, .func (.func 99) #[] #[], .string ⟨#[101, 110, 100]⟩, .int .u8 0, .nilFunc] rfl rfl rfl (by decide) (by (try simp only [List.length_append, List.length_cons, List.length_nil]); omega) (by omega) (by omega))
        clear hs hes hd1 hd2
        go_enter Try.func77, Try.ntmps77
        go_wp2_with (first
          | (go_at_call 28; (with_reducible refine Calls.mono (word_any _ _) ?_); rintro e w9 ⟨rfl, hb⟩; replace HP := Lib.hid (HP.out.below hb); replace HS := Lib.hid (HS.out.trans (PStep.below hb)); clear hb)
          | (go_at_call 29; (with_reducible refine Calls.mono (rule_any _ _) ?_); rintro e w9 ⟨rfl, hb⟩; replace HP := Lib.hid (HP.out.below hb); replace HS := Lib.hid (HS.out.trans (PStep.below hb)); clear hb)
          | (go_at_call 48; (with_reducible refine Calls.mono (HO0.out _ _ HP.out) ?_); rintro e w9 ⟨rfl, vt9, ve9, hP9, hs9⟩; replace HP := Lib.hid hP9; replace HS := Lib.hid (HS.out.trans hs9); clear hP9 hs9))
        go_ret
        exact ⟨rfl, _, _, by simpa [effs, Eff.act] using HP.out, HS.out⟩
      · skip
        rw [show RId.expand .r_kind c = none by simp only [RId.expand]; rw [if_neg h1]; rw [if_neg h2]; rw [if_neg h3]]
        have e0 := ne_lit h1
        have e1 := ne_lit h2
        have e2 := ne_lit h3
        clear hs hes hd1 hd2
        go_enter Try.func77, Try.ntmps77
        go_wp2_with (first
          | (go_at_call 28; (with_reducible refine Calls.mono (word_any _ _) ?_); rintro e w9 ⟨rfl, hb⟩; replace HP := Lib.hid (HP.out.below hb); replace HS := Lib.hid (HS.out.trans (PStep.below hb)); clear hb)
          | (go_at_call 29; (with_reducible refine Calls.mono (rule_any _ _) ?_); rintro e w9 ⟨rfl, hb⟩; replace HP := Lib.hid (HP.out.below hb); replace HS := Lib.hid (HS.out.trans (PStep.below hb)); clear hb))
        go_ret
        exact ⟨rfl, HP.out, HS.out⟩
end Go.Proofs.Ytmjbpgnjgblnmaa
