/- Rows of the grammar: the walks. (Printed by genrul.py.) -/
import Derived.Test.YtmjbpgnjgblnmaaRul0
set_option linter.unusedVariables false
set_option linter.unusedSimpArgs false
namespace Go.Proofs.Ytmjbpgnjgblnmaa
open Go.RowKit Go.Proofs.YtmjbpgnjgblnmaaW.PrintWords Go.Proofs.YtmjbpgnjgblnmaaW.PrintLast Go.Proofs.YtmjbpgnjgblnmaaW.PrintMore
set_option maxRecDepth 100000 in
set_option maxHeartbeats 4000000 in
theorem rule_object : RuleAny .r_object := by
  intro c p s es d b wc cl vt ve w HP0 HB0
  have HP := Lib.hid HP0
  have HS := Lib.hid (PStep.refl p vt ve w)
  obtain ⟨hs, hes, hd1, hd2⟩ := HB0
  clear HP0
  show Calls Try.prog 81 _ w (RulePost .r_object c p s es d b wc cl vt ve w)
  unfold RulePost
  rw [show RId.expand .r_object c = some [.opn 28 [.word ⟨#[64, 110, 97, 109, 101]⟩, .rule .r_selected]] from rfl]
  have HO0 := Lib.hid (fun (W : World) (vt1 : Value) (h : PAt W p s es d b wc cl vt1 ve) => open_new h 28 28 [.word ⟨#[64, 110, 97, 109, 101]⟩, .rule .r_selected] 2 [.string ⟨#[64, 110, 97, 109, 101]⟩, .int .u8 0, .nilFunc, .string ⟨#[]⟩, .int .u8 0, .func (.func 104) #[] #[]] rfl rfl rfl (by decide) (by (try simp only [List.length_append, List.length_cons, List.length_nil]); omega) (by omega) (by omega))
  clear hs hes hd1 hd2
  go_enter Try.func81, Try.ntmps81
  go_wp2_with (first
    | (go_at_call 28; (with_reducible refine Calls.mono (word_any _ _) ?_); rintro e w9 ⟨rfl, hb⟩; replace HP := Lib.hid (HP.out.below hb); replace HS := Lib.hid (HS.out.trans (PStep.below hb)); clear hb)
    | (go_at_call 29; (with_reducible refine Calls.mono (rule_any _ _) ?_); rintro e w9 ⟨rfl, hb⟩; replace HP := Lib.hid (HP.out.below hb); replace HS := Lib.hid (HS.out.trans (PStep.below hb)); clear hb)
    | (go_at_call 48; (with_reducible refine Calls.mono (HO0.out _ _ HP.out) ?_); rintro e w9 ⟨rfl, vt9, ve9, hP9, hs9⟩; replace HP := Lib.hid hP9; replace HS := Lib.hid (HS.out.trans hs9); clear hP9 hs9))
  go_ret
  exact ⟨rfl, _, _, by simpa [effs, Eff.act] using HP.out, HS.out⟩
set_option maxRecDepth 100000 in
set_option maxHeartbeats 4000000 in
theorem rule_factor : RuleAny .r_factor := by
  intro c p s es d b wc cl vt ve w HP0 HB0
  have HP := Lib.hid HP0
  have HS := Lib.hid (PStep.refl p vt ve w)
  obtain ⟨hs, hes, hd1, hd2⟩ := HB0
  clear HP0
  show Calls Try.prog 159 _ w (RulePost .r_factor c p s es d b wc cl vt ve w)
  unfold RulePost
  by_cases h1 : c = ⟨#[45]⟩
  · subst h1
    rw [show RId.expand .r_factor ⟨#[45]⟩ = some [.opn 25 [.word ⟨#[45]⟩, .rule .r_factor]] from rfl]
    have HO0 := Lib.hid (fun (W : World) (vt1 : Value) (h : PAt W p s es d b wc cl vt1 ve) => open_new h 25 25 [.word ⟨#[45]⟩, .rule .r_factor] 2 [.string ⟨#[45]⟩, .int .u8 0, .nilFunc, .string ⟨#[]⟩, .int .u8 0, .func (.func 159) #[] #[]] rfl rfl rfl (by decide) (by (try simp only [List.length_append, List.length_cons, List.length_nil]); omega) (by omega) (by omega))
    clear hs hes hd1 hd2
    go_enter Try.func159, Try.ntmps159
    go_wp2_with (first
      | (go_at_call 28; (with_reducible refine Calls.mono (word_any _ _) ?_); rintro e w9 ⟨rfl, hb⟩; replace HP := Lib.hid (HP.out.below hb); replace HS := Lib.hid (HS.out.trans (PStep.below hb)); clear hb)
      | (go_at_call 29; (with_reducible refine Calls.mono (rule_any _ _) ?_); rintro e w9 ⟨rfl, hb⟩; replace HP := Lib.hid (HP.out.below hb); replace HS := Lib.hid (HS.out.trans (PStep.below hb)); clear hb)
      | (go_at_call 48; (with_reducible refine Calls.mono (HO0.out _ _ HP.out) ?_); rintro e w9 ⟨rfl, vt9, ve9, hP9, hs9⟩; replace HP := Lib.hid hP9; replace HS := Lib.hid (HS.out.trans hs9); clear hP9 hs9))
    go_ret
    exact ⟨rfl, _, _, by simpa [effs, Eff.act] using HP.out, HS.out⟩
  · skip
    by_cases h2 : c = ⟨#[110, 111, 116]⟩
    · subst h2
      rw [show RId.expand .r_factor ⟨#[110, 111, 116]⟩ = some [.opn 26 [.word ⟨#[110, 111, 116]⟩, .rule .r_factor]] from rfl]
      have HO0 := Lib.hid (fun (W : World) (vt1 : Value) (h : PAt W p s es d b wc cl vt1 ve) => open_new h 26 26 [.word ⟨#[110, 111, 116]⟩, .rule .r_factor] 2 [.string ⟨#[110, 111, 116]⟩, .int .u8 0, .nilFunc, .string ⟨#[]⟩, .int .u8 0, .func (.func 159) #[] #[]] rfl rfl rfl (by decide) (by (try simp only [List.length_append, List.length_cons, List.length_nil]); omega) (by omega) (by omega))
      clear hs hes hd1 hd2
      go_enter Try.func159, Try.ntmps159
      go_wp2_with (first
        | (go_at_call 28; (with_reducible refine Calls.mono (word_any _ _) ?_); rintro e w9 ⟨rfl, hb⟩; replace HP := Lib.hid (HP.out.below hb); replace HS := Lib.hid (HS.out.trans (PStep.below hb)); clear hb)
        | (go_at_call 29; (with_reducible refine Calls.mono (rule_any _ _) ?_); rintro e w9 ⟨rfl, hb⟩; replace HP := Lib.hid (HP.out.below hb); replace HS := Lib.hid (HS.out.trans (PStep.below hb)); clear hb)
        | (go_at_call 48; (with_reducible refine Calls.mono (HO0.out _ _ HP.out) ?_); rintro e w9 ⟨rfl, vt9, ve9, hP9, hs9⟩; replace HP := Lib.hid hP9; replace HS := Lib.hid (HS.out.trans hs9); clear hP9 hs9))
      go_ret
      exact ⟨rfl, _, _, by simpa [effs, Eff.act] using HP.out, HS.out⟩
    · skip
      by_cases h3 : c = ⟨#[40]⟩
      · subst h3
        rw [show RId.expand .r_factor ⟨#[40]⟩ = some [.opn 27 [.word ⟨#[40]⟩, .rule .r_expr, .word ⟨#[41]⟩]] from rfl]
        have HO0 := Lib.hid (fun (W : World) (vt1 : Value) (h : PAt W p s es d b wc cl vt1 ve) => open_new h 27 27 [.word ⟨#[40]⟩, .rule .r_expr, .word ⟨#[41]⟩] 3 [.string ⟨#[40]⟩, .int .u8 0, .nilFunc, .string ⟨#[]⟩, .int .u8 0, .func (.func 78) #[] #[], .string ⟨#[41]⟩, .int .u8 0, .nilFunc] rfl rfl rfl (by decide) (by (try simp only [List.length_append, List.length_cons, List.length_nil]); omega) (by omega) (by omega))
        clear hs hes hd1 hd2
        go_enter Try.func159, Try.ntmps159
        go_wp2_with (first
          | (go_at_call 28; (with_reducible refine Calls.mono (word_any _ _) ?_); rintro e w9 ⟨rfl, hb⟩; replace HP := Lib.hid (HP.out.below hb); replace HS := Lib.hid (HS.out.trans (PStep.below hb)); clear hb)
          | (go_at_call 29; (with_reducible refine Calls.mono (rule_any _ _) ?_); rintro e w9 ⟨rfl, hb⟩; replace HP := Lib.hid (HP.out.below hb); replace HS := Lib.hid (HS.out.trans (PStep.below hb)); clear hb)
          | (go_at_call 48; (with_reducible refine Calls.mono (HO0.out _ _ HP.out) ?_); rintro e w9 ⟨rfl, vt9, ve9, hP9, hs9⟩; replace HP := Lib.hid hP9; replace HS := Lib.hid (HS.out.trans hs9); clear hP9 hs9))
        go_ret
        exact ⟨rfl, _, _, by simpa [effs, Eff.act] using HP.out, HS.out⟩
      · skip
        by_cases h4 : c = ⟨#[64, 110, 117, 109, 98, 101, 114]⟩ ∨ c = ⟨#[64, 116, 101, 120, 116]⟩ ∨ c = ⟨#[64, 99, 104, 97, 114]⟩
        · rcases h4 with rfl | rfl | rfl
          · rw [show RId.expand .r_factor ⟨#[64, 110, 117, 109, 98, 101, 114]⟩ = some [.opn 32 [.word ⟨#[64, 110, 117, 109, 98, 101, 114]⟩]] from rfl]
            have HO0 := Lib.hid (fun (W : World) (vt1 : Value) (h : PAt W p s es d b wc cl vt1 ve) => open_new h 32 32 [.word ⟨#[64, 110, 117, 109, 98, 101, 114]⟩] 1 [.string ⟨#[64, 110, 117, 109, 98, 101, 114]⟩, .int .u8 0, .nilFunc] rfl rfl rfl (by decide) (by (try simp only [List.length_append, List.length_cons, List.length_nil]); omega) (by omega) (by omega))
            clear hs hes hd1 hd2
            go_enter Try.func159, Try.ntmps159
            go_wp2_with (first
              | (go_at_call 28; (with_reducible refine Calls.mono (word_any _ _) ?_); rintro e w9 ⟨rfl, hb⟩; replace HP := Lib.hid (HP.out.below hb); replace HS := Lib.hid (HS.out.trans (PStep.below hb)); clear hb)
              | (go_at_call 29; (with_reducible refine Calls.mono (rule_any _ _) ?_); rintro e w9 ⟨rfl, hb⟩; replace HP := Lib.hid (HP.out.below hb); replace HS := Lib.hid (HS.out.trans (PStep.below hb)); clear hb)
              | (go_at_call 48; (with_reducible refine Calls.mono (HO0.out _ _ HP.out) ?_); rintro e w9 ⟨rfl, vt9, ve9, hP9, hs9⟩; replace HP := Lib.hid hP9; replace HS := Lib.hid (HS.out.trans hs9); clear hP9 hs9))
            go_ret
            exact ⟨rfl, _, _, by simpa [effs, Eff.act] using HP.out, HS.out⟩
          · rw [show RId.expand .r_factor ⟨#[64, 116, 101, 120, 116]⟩ = some [.opn 32 [.word ⟨#[64, 116, 101, 120, 116]⟩]] from rfl]
            have HO0 := Lib.hid (fun (W : World) (vt1 : Value) (h : PAt W p s es d b wc cl vt1 ve) => open_new h 32 32 [.word ⟨#[64, 116, 101, 120, 116]⟩] 1 [.string ⟨#[64, 116, 101, 120, 116]⟩, .int .u8 0, .nilFunc] rfl rfl rfl (by decide) (by (try simp only [List.length_append, List.length_cons, List.length_nil]); omega) (by omega) (by omega))
            clear hs hes hd1 hd2
            go_enter Try.func159, Try.ntmps159
            go_wp2_with (first
              | (go_at_call 28; (with_reducible refine Calls.mono (word_any _ _) ?_); rintro e w9 ⟨rfl, hb⟩; replace HP := Lib.hid (HP.out.below hb); replace HS := Lib.hid (HS.out.trans (PStep.below hb)); clear hb)
              | (go_at_call 29; (with_reducible refine Calls.mono (rule_any _ _) ?_); rintro e w9 ⟨rfl, hb⟩; replace HP := Lib.hid (HP.out.below hb); replace HS := Lib.hid (HS.out.trans (PStep.below hb)); clear hb)
              | (go_at_call 48; (with_reducible refine Calls.mono (HO0.out _ _ HP.out) ?_); rintro e w9 ⟨rfl, vt9, ve9, hP9, hs9⟩; replace HP := Lib.hid hP9; replace HS := Lib.hid (HS.out.trans hs9); clear hP9 hs9))
            go_ret
            exact ⟨rfl, _, _, by simpa [effs, Eff.act] using HP.out, HS.out⟩
          · rw [show RId.expand .r_factor ⟨#[64, 99, 104, 97, 114]⟩ = some [.opn 32 [.word ⟨#[64, 99, 104, 97, 114]⟩]] from rfl]
            have HO0 := Lib.hid (fun (W : World) (vt1 : Value) (h : PAt W p s es d b wc cl vt1 ve) => open_new h 32 32 [.word ⟨#[64, 99, 104, 97, 114]⟩] 1 [.string ⟨#[64, 99, 104, 97, 114]⟩, .int .u8 0, .nilFunc] rfl rfl rfl (by decide) (by (try simp only [List.length_append, List.length_cons, List.length_nil]); omega) (by omega) (by omega))
            clear hs hes hd1 hd2
            go_enter Try.func159, Try.ntmps159
            go_wp2_with (first
              | (go_at_call 28; (with_reducible refine Calls.mono (word_any _ _) ?_); rintro e w9 ⟨rfl, hb⟩; replace HP := Lib.hid (HP.out.below hb); replace HS := Lib.hid (HS.out.trans (PStep.below hb)); clear hb)
              | (go_at_call 29; (with_reducible refine Calls.mono (rule_any _ _) ?_); rintro e w9 ⟨rfl, hb⟩; replace HP := Lib.hid (HP.out.below hb); replace HS := Lib.hid (HS.out.trans (PStep.below hb)); clear hb)
              | (go_at_call 48; (with_reducible refine Calls.mono (HO0.out _ _ HP.out) ?_); rintro e w9 ⟨rfl, vt9, ve9, hP9, hs9⟩; replace HP := Lib.hid hP9; replace HS := Lib.hid (HS.out.trans hs9); clear hP9 hs9))
            go_ret
            exact ⟨rfl, _, _, by simpa [effs, Eff.act] using HP.out, HS.out⟩
        · skip
          rw [show RId.expand .r_factor c = some [.opn 28 [.word ⟨#[64, 110, 97, 109, 101]⟩, .rule .r_selected]] by simp only [RId.expand]; rw [if_neg h1]; rw [if_neg h2]; rw [if_neg h3]; rw [if_neg h4]]
          have e0 := ne_lit h1
          have e1 := ne_lit h2
          have e2 := ne_lit h3
          have e3_0 := ne_lit (l := [64, 110, 117, 109, 98, 101, 114]) (fun e => h4 (.inl e))
          have e3_1 := ne_lit (l := [64, 116, 101, 120, 116]) (fun e => h4 (.inr (.inl e)))
          have e3_2 := ne_lit (l := [64, 99, 104, 97, 114]) (fun e => h4 (.inr (.inr e)))
          have HOB : Hid (Calls Try.prog 81 #[.pointer (some ⟨p, 0, none⟩), .string c] w (fun e w' => e = .returned (.bool true) ∧ ∃ vt' ve', PAt w' p ([.word ⟨#[64, 110, 97, 109, 101]⟩, .rule .r_selected] ++ .fin 28 :: s) (es ++ [evOf (1, 28)]) (d + 1) b wc cl vt' ve' ∧ PStep p vt ve w vt' ve' w')) := Lib.hid (rule_object c p s es d b wc cl vt ve w HP.out ⟨hs, hes, hd1, hd2⟩)
          clear hs hes hd1 hd2
          go_enter Try.func159, Try.ntmps159
          go_wp2_with (go_at_call 81; (with_reducible refine Calls.mono HOB.out ?_); rintro e w9 ⟨rfl, vt9, ve9, hP9, hs9⟩; have HP9 := Lib.hid hP9; have HS9 := Lib.hid hs9; clear hP9 hs9)
          go_ret
          exact ⟨rfl, _, _, HP9.out, HS9.out⟩
set_option maxRecDepth 100000 in
set_option maxHeartbeats 4000000 in
theorem rule_selected : RuleAny .r_selected := by
  intro c p s es d b wc cl vt ve w HP0 HB0
  have HP := Lib.hid HP0
  have HS := Lib.hid (PStep.refl p vt ve w)
  obtain ⟨hs, hes, hd1, hd2⟩ := HB0
  clear HP0
  show Calls Try.prog 104 _ w (RulePost .r_selected c p s es d b wc cl vt ve w)
  unfold RulePost
  by_cases h1 : c = ⟨#[91]⟩
  · subst h1
    rw [show RId.expand .r_selected ⟨#[91]⟩ = some [.push [.rule .r_selected], .opn 29 [.word ⟨#[91]⟩, .rule .r_expr, .rule .r_exprs, .word ⟨#[93]⟩]] from rfl]
    have HO0 := Lib.hid (fun (W : World) (vt1 : Value) (h : PAt W p s es d b wc cl vt1 ve) => push_new h [.rule .r_selected] 1 [.string ⟨#[]⟩, .int .u8 0, .func (.func 104) #[] #[]] rfl rfl (by decide) (by (try simp only [List.length_append, List.length_cons, List.length_nil]); omega))
    have HO1 := Lib.hid (fun (W : World) (vt1 : Value) (h : PAt W p ([.rule .r_selected] ++ s) es d b wc cl vt1 ve) => open_new h 29 29 [.word ⟨#[91]⟩, .rule .r_expr, .rule .r_exprs, .word ⟨#[93]⟩] 4 [.string ⟨#[91]⟩, .int .u8 0, .nilFunc, .string ⟨#[]⟩, .int .u8 0, .func (.func 78) #[] #[], .string ⟨#[]⟩, .int .u8 0, .func (.func 129) #[] #[], .string ⟨#[93]⟩, .int .u8 0, .nilFunc] rfl rfl rfl (by decide) (by (try simp only [List.length_append, List.length_cons, List.length_nil]); omega) (by omega) (by omega))
    clear hs hes hd1 hd2
    go_enter Try.func104, Try.ntmps104
    go_wp2_with (first
      | (go_at_call 28; (with_reducible refine Calls.mono (word_any _ _) ?_); rintro e w9 ⟨rfl, hb⟩; replace HP := Lib.hid (HP.out.below hb); replace HS := Lib.hid (HS.out.trans (PStep.below hb)); clear hb)
      | (go_at_call 29; (with_reducible refine Calls.mono (rule_any _ _) ?_); rintro e w9 ⟨rfl, hb⟩; replace HP := Lib.hid (HP.out.below hb); replace HS := Lib.hid (HS.out.trans (PStep.below hb)); clear hb)
      | (go_at_call 27; (with_reducible refine Calls.mono (HO0.out _ _ HP.out) ?_); rintro e w9 ⟨rfl, vt9, hP9, hs9⟩; replace HP := Lib.hid hP9; replace HS := Lib.hid (HS.out.trans hs9); clear hP9 hs9)
      | (go_at_call 48; (with_reducible refine Calls.mono (HO1.out _ _ HP.out) ?_); rintro e w9 ⟨rfl, vt9, ve9, hP9, hs9⟩; replace HP := Lib.hid hP9; replace HS := Lib.hid (HS.out.trans hs9); clear hP9 hs9))
    go_ret
    exact ⟨rfl, _, _, by simpa [effs, Eff.act] using HP.out, HS.out⟩
  · skip
    by_cases h2 : c = ⟨#[46]⟩
    · subst h2
      rw [show RId.expand .r_selected ⟨#[46]⟩ = some [.push [.rule .r_selected], .opn 30 [.word ⟨#[46]⟩, .word ⟨#[64, 110, 97, 109, 101]⟩]] from rfl]
      have HO0 := Lib.hid (fun (W : World) (vt1 : Value) (h : PAt W p s es d b wc cl vt1 ve) => push_new h [.rule .r_selected] 1 [.string ⟨#[]⟩, .int .u8 0, .func (.func 104) #[] #[]] rfl rfl (by decide) (by (try simp only [List.length_append, List.length_cons, List.length_nil]); omega))
      have HO1 := Lib.hid (fun (W : World) (vt1 : Value) (h : PAt W p ([.rule .r_selected] ++ s) es d b wc cl vt1 ve) => open_new h 30 30 [.word ⟨#[46]⟩, .word ⟨#[64, 110, 97, 109, 101]⟩] 2 [.string ⟨#[46]⟩, .int .u8 0, .nilFunc, .string ⟨#[64, 110, 97, 109, 101]⟩, .int .u8 0, .nilFunc] rfl rfl rfl (by decide) (by (try simp only [List.length_append, List.length_cons, List.length_nil]); omega) (by omega) (by omega))
      clear hs hes hd1 hd2
      go_enter Try.func104, Try.ntmps104
      go_wp2_with (first
        | (go_at_call 28; (with_reducible refine Calls.mono (word_any _ _) ?_); rintro e w9 ⟨rfl, hb⟩; replace HP := Lib.hid (HP.out.below hb); replace HS := Lib.hid (HS.out.trans (PStep.below hb)); clear hb)
        | (go_at_call 29; (with_reducible refine Calls.mono (rule_any _ _) ?_); rintro e w9 ⟨rfl, hb⟩; replace HP := Lib.hid (HP.out.below hb); replace HS := Lib.hid (HS.out.trans (PStep.below hb)); clear hb)
        | (go_at_call 27; (with_reducible refine Calls.mono (HO0.out _ _ HP.out) ?_); rintro e w9 ⟨rfl, vt9, hP9, hs9⟩; replace HP := Lib.hid hP9; replace HS := Lib.hid (HS.out.trans hs9); clear hP9 hs9)
        | (go_at_call 48; (with_reducible refine Calls.mono (HO1.out _ _ HP.out) ?_); rintro e w9 ⟨rfl, vt9, ve9, hP9, hs9⟩; replace HP := Lib.hid hP9; replace HS := Lib.hid (HS.out.trans hs9); clear hP9 hs9))
      go_ret
      exact ⟨rfl, _, _, by simpa [effs, Eff.act] using HP.out, HS.out⟩
    · skip
      by_cases h3 : c = ⟨#[40]⟩
      · subst h3
        rw [show RId.expand .r_selected ⟨#[40]⟩ = some [.push [.rule .r_selected], .opn 31 [.word ⟨#[40]⟩, .rule .r_args, .word ⟨#[41]⟩]] from rfl]
        have HO0 := Lib.hid (fun (W : World) (vt1 : Value) (h : PAt W p s es d b wc cl vt1 ve) => push_new h [.rule .r_selected] 1 [.string ⟨#[]⟩, .int .u8 0, .func (.func 104) #[] #[]] rfl rfl (by decide) (by (try simp only [List.length_append, List.length_cons, List.length_nil]); omega))
        have HO1 := Lib.hid (fun (W : World) (vt1 : Value) (h : PAt W p ([.rule .r_selected] ++ s) es d b wc cl vt1 ve) => open_new h 31 31 [.word ⟨#[40]⟩, .rule .r_args, .word ⟨#[41]⟩] 3 [.string ⟨#[40]⟩, .int .u8 0, .nilFunc, .string ⟨#[]⟩, .int .u8 0, .func (.func 130) #[] #[], .string ⟨#[41]⟩, .int .u8 0, .nilFunc] rfl rfl rfl (by decide) (by (try simp only [List.length_append, List.length_cons, List.length_nil]); omega) (by omega) (by omega))
        clear hs hes hd1 hd2
        go_enter Try.func104, Try.ntmps104
        go_wp2_with (first
          | (go_at_call 28; (with_reducible refine Calls.mono (word_any _ _) ?_); rintro e w9 ⟨rfl, hb⟩; replace HP := Lib.hid (HP.out.below hb); replace HS := Lib.hid (HS.out.trans (PStep.below hb)); clear hb)
          | (go_at_call 29; (with_reducible refine Calls.mono (rule_any _ _) ?_); rintro e w9 ⟨rfl, hb⟩; replace HP := Lib.hid (HP.out.below hb); replace HS := Lib.hid (HS.out.trans (PStep.below hb)); clear hb)
          | (go_at_call 27; (with_reducible refine Calls.mono (HO0.out _ _ HP.out) ?_); rintro e w9 ⟨rfl, vt9, hP9, hs9⟩; replace HP := Lib.hid hP9; replace HS := Lib.hid (HS.out.trans hs9); clear hP9 hs9)
          | (go_at_call 48; (with_reducible refine Calls.mono (HO1.out _ _ HP.out) ?_); rintro e w9 ⟨rfl, vt9, ve9, hP9, hs9⟩; replace HP := Lib.hid hP9; replace HS := Lib.hid (HS.out.trans hs9); clear hP9 hs9))
        go_ret
        exact ⟨rfl, _, _, by simpa [effs, Eff.act] using HP.out, HS.out⟩
      · skip
        rw [show RId.expand .r_selected c = some [] by simp only [RId.expand]; rw [if_neg h1]; rw [if_neg h2]; rw [if_neg h3]]
        have e0 := ne_lit h1
        have e1 := ne_lit h2
        have e2 := ne_lit h3
        clear hs hes hd1 hd2
        go_enter Try.func104, Try.ntmps104
        go_wp2_with (first
          | (go_at_call 28; (with_reducible refine Calls.mono (word_any _ _) ?_); rintro e w9 ⟨rfl, hb⟩; replace HP := Lib.hid (HP.out.below hb); replace HS := Lib.hid (HS.out.trans (PStep.below hb)); clear hb)
          | (go_at_call 29; (with_reducible refine Calls.mono (rule_any _ _) ?_); rintro e w9 ⟨rfl, hb⟩; replace HP := Lib.hid (HP.out.below hb); replace HS := Lib.hid (HS.out.trans (PStep.below hb)); clear hb))
        go_ret
        exact ⟨rfl, _, _, by simpa [effs, Eff.act] using HP.out, HS.out⟩
set_option maxRecDepth 100000 in
set_option maxHeartbeats 4000000 in
theorem rule_args : RuleAny .r_args := by
  intro c p s es d b wc cl vt ve w HP0 HB0
  have HP := Lib.hid HP0
  have HS := Lib.hid (PStep.refl p vt ve w)
  obtain ⟨hs, hes, hd1, hd2⟩ := HB0
  clear HP0
  show Calls Try.prog 130 _ w (RulePost .r_args c p s es d b wc cl vt ve w)
  unfold RulePost
  by_cases h1 : c = ⟨#[64, 110, 117, 109, 98, 101, 114]⟩ ∨ c = ⟨#[64, 116, 101, 120, 116]⟩ ∨ c = ⟨#[64, 99, 104, 97, 114]⟩ ∨ c = ⟨#[64, 110, 97, 109, 101]⟩ ∨ c = ⟨#[45]⟩ ∨ c = ⟨#[110, 111, 116]⟩ ∨ c = ⟨#[40]⟩
  · rw [show RId.expand .r_args c = some [.push [.rule .r_expr, .rule .r_exprs]] by simp only [RId.expand]; rw [if_pos h1]]
    have hin : inL c [⟨#[64, 110, 117, 109, 98, 101, 114]⟩, ⟨#[64, 116, 101, 120, 116]⟩, ⟨#[64, 99, 104, 97, 114]⟩, ⟨#[64, 110, 97, 109, 101]⟩, ⟨#[45]⟩, ⟨#[110, 111, 116]⟩, ⟨#[40]⟩] = true := (inL_iff _ _).2 (by simpa using h1)
    have HAM := Lib.hid (fun (W : World) => begins_any W c)
    rw [hin] at HAM
    clear hin
    have HO0 := Lib.hid (fun (W : World) (vt1 : Value) (h : PAt W p s es d b wc cl vt1 ve) => push_new h [.rule .r_expr, .rule .r_exprs] 2 [.string ⟨#[]⟩, .int .u8 0, .func (.func 78) #[] #[], .string ⟨#[]⟩, .int .u8 0, .func (.func 129) #[] #[]] rfl rfl (by decide) (by (try simp only [List.length_append, List.length_cons, List.length_nil]); omega))
    clear hs hes hd1 hd2
    go_enter Try.func130, Try.ntmps130
    go_wp2_with (first
      | (go_at_call 105; (with_reducible refine Calls.mono (HAM.out _) ?_); rintro e w9 ⟨rfl, hb⟩; replace HP := Lib.hid (HP.out.below hb); replace HS := Lib.hid (HS.out.trans (PStep.below hb)); clear hb)
      | (go_at_call 28; (with_reducible refine Calls.mono (word_any _ _) ?_); rintro e w9 ⟨rfl, hb⟩; replace HP := Lib.hid (HP.out.below hb); replace HS := Lib.hid (HS.out.trans (PStep.below hb)); clear hb)
      | (go_at_call 29; (with_reducible refine Calls.mono (rule_any _ _) ?_); rintro e w9 ⟨rfl, hb⟩; replace HP := Lib.hid (HP.out.below hb); replace HS := Lib.hid (HS.out.trans (PStep.below hb)); clear hb)
      | (go_at_call 27; (with_reducible refine Calls.mono (HO0.out _ _ HP.out) ?_); rintro e w9 ⟨rfl, vt9, hP9, hs9⟩; replace HP := Lib.hid hP9; replace HS := Lib.hid (HS.out.trans hs9); clear hP9 hs9))
    go_ret
    exact ⟨rfl, _, _, by simpa [effs, Eff.act] using HP.out, HS.out⟩
  · skip
    rw [show RId.expand .r_args c = some [] by simp only [RId.expand]; rw [if_neg h1]]
    have hin : inL c [⟨#[64, 110, 117, 109, 98, 101, 114]⟩, ⟨#[64, 116, 101, 120, 116]⟩, ⟨#[64, 99, 104, 97, 114]⟩, ⟨#[64, 110, 97, 109, 101]⟩, ⟨#[45]⟩, ⟨#[110, 111, 116]⟩, ⟨#[40]⟩] = false := inL_no (fun h => h1 (by simpa using h))
    have HAM := Lib.hid (fun (W : World) => begins_any W c)
    rw [hin] at HAM
    clear hin
    clear hs hes hd1 hd2
    go_enter Try.func130, Try.ntmps130
    go_wp2_with (first
      | (go_at_call 105; (with_reducible refine Calls.mono (HAM.out _) ?_); rintro e w9 ⟨rfl, hb⟩; replace HP := Lib.hid (HP.out.below hb); replace HS := Lib.hid (HS.out.trans (PStep.below hb)); clear hb)
      | (go_at_call 28; (with_reducible refine Calls.mono (word_any _ _) ?_); rintro e w9 ⟨rfl, hb⟩; replace HP := Lib.hid (HP.out.below hb); replace HS := Lib.hid (HS.out.trans (PStep.below hb)); clear hb)
      | (go_at_call 29; (with_reducible refine Calls.mono (rule_any _ _) ?_); rintro e w9 ⟨rfl, hb⟩; replace HP := Lib.hid (HP.out.below hb); replace HS := Lib.hid (HS.out.trans (PStep.below hb)); clear hb))
    go_ret
    exact ⟨rfl, _, _, by simpa [effs, Eff.act] using HP.out, HS.out⟩
set_option maxRecDepth 100000 in
set_option maxHeartbeats 4000000 in
theorem rule_exprs : RuleAny .r_exprs := by
  intro c p s es d b wc cl vt ve w HP0 HB0
  have HP := Lib.hid HP0
  have HS := Lib.hid (PStep.refl p vt ve w)
  obtain ⟨hs, hes, hd1, hd2⟩ := HB0
  clear HP0
  show Calls Try.prog 129 _ w (RulePost .r_exprs c p s es d b wc cl vt ve w)
  unfold RulePost
  by_cases h1 : c = ⟨#[44]⟩
  · subst h1
    rw [show RId.expand .r_exprs ⟨#[44]⟩ = some [.push [.word ⟨#[44]⟩, .rule .r_expr, .rule .r_exprs]] from rfl]
    have HO0 := Lib.hid (fun (W : World) (vt1 : Value) (h : PAt W p s es d b wc cl vt1 ve) => push_new h [.word ⟨#[44]⟩, .rule .r_expr, .rule .r_exprs] 3 [.string ⟨#[44]⟩, .int .u8 0, .nilFunc, .string ⟨#[]⟩, .int .u8 0, .func (.func 78) #[] #[], .string ⟨#[]⟩, .int .u8 0, .func (.func 129) #[] #[]] rfl rfl (by decide) (by (try simp only [List.length_append, List.length_cons, List.length_nil]); omega))
    clear hs hes hd1 hd2
    go_enter Try.func129, Try.ntmps129
    go_wp2_with (first
      | (go_at_call 28; (with_reducible refine Calls.mono (word_any _ _) ?_); rintro e w9 ⟨rfl, hb⟩; replace HP := Lib.hid (HP.out.below hb); replace HS := Lib.hid (HS.out.trans (PStep.below hb)); clear hb)
      | (go_at_call 29; (with_reducible refine Calls.mono (rule_any _ _) ?_); rintro e w9 ⟨rfl, hb⟩; replace HP := Lib.hid (HP.out.below hb); replace HS := Lib.hid (HS.out.trans (PStep.below hb)); clear hb)
      | (go_at_call 27; (with_reducible refine Calls.mono (HO0.out _ _ HP.out) ?_); rintro e w9 ⟨rfl, vt9, hP9, hs9⟩; replace HP := Lib.hid hP9; replace HS := Lib.hid (HS.out.trans hs9); clear hP9 hs9))
    go_ret
    exact ⟨rfl, _, _, by simpa [effs, Eff.act] using HP.out, HS.out⟩
  · skip
    rw [show RId.expand .r_exprs c = some [] by simp only [RId.expand]; rw [if_neg h1]]
    have e0 := ne_lit h1
    clear hs hes hd1 hd2
    go_enter Try.func129, Try.ntmps129
    go_wp2_with (first
      | (go_at_call 28; (with_reducible refine Calls.mono (word_any _ _) ?_); rintro e w9 ⟨rfl, hb⟩; replace HP := Lib.hid (HP.out.below hb); replace HS := Lib.hid (HS.out.trans (PStep.below hb)); clear hb)
      | (go_at_call 29; (with_reducible refine Calls.mono (rule_any _ _) ?_); rintro e w9 ⟨rfl, hb⟩; replace HP := Lib.hid (HP.out.below hb); replace HS := Lib.hid (HS.out.trans (PStep.below hb)); clear hb))
    go_ret
    exact ⟨rfl, _, _, by simpa [effs, Eff.act] using HP.out, HS.out⟩
end Go.Proofs.Ytmjbpgnjgblnmaa
