/- What the claim stands on: part Qe. -/
import Derived.Test.YtmjbpgnjgblnmaaGreatQd
import Derived.Test.YtmjbpgnjgblnmaaGreatQc
import Derived.WalkMore
set_option linter.unusedVariables false
set_option linter.unusedSimpArgs false
namespace Go.Proofs.YtmjbpgnjgblnmaaGreat
open Go.RowKit Go.Proofs.YtmjbpgnjgblnmaaGreatW.PrintWords Go.Proofs.YtmjbpgnjgblnmaaGreatW.PrintLast Go.Proofs.YtmjbpgnjgblnmaaGreatW.PrintMore
set_option maxRecDepth 100000 in
set_option maxHeartbeats 4000000 in
theorem rule_object : RuleAny .r_object := by
 intro c p s es d b wc cl vt ve w HP0 HB0
 have HP := Lib.hid HP0
 have HS := Lib.hid (PStep.refl p vt ve w)
 obtain ⟨hs, hes, hd1, hd2⟩ := HB0
 clear HP0
 show Calls Tryz.prog 85 _ w (RulePost .r_object c p s es d b wc cl vt ve w)
 unfold RulePost
 rw [show RId.expand .r_object c = some [.opn 28 [.word ⟨#[64, 110, 97, 109, 101]⟩, .rule .r_selected]] from rfl]
 have HO0 := Lib.hid (fun (W : World) (vt1 : Value) (h : PAt W p s es d b wc cl vt1 ve) => open_new h 28 28 [.word ⟨#[64, 110, 97, 109, 101]⟩, .rule .r_selected] 2 [.string ⟨#[64, 110, 97, 109, 101]⟩, .int .u8 0, .nilFunc, .string ⟨#[]⟩, .int .u8 0, .func (.func 113) #[] #[]] rfl rfl rfl (by decide) (by (try simp only [List.length_append, List.length_cons, List.length_nil]); omega) (by omega) (by omega))
 clear hs hes hd1 hd2
 go_enter Tryz.func85, Tryz.ntmps85
 go_wp2_with (first
  | (go_at_call 25; (with_reducible refine Calls.mono (word_any _ _) ?_); rintro e w9 ⟨rfl, hb⟩; replace HP := Lib.hid (HP.out.below hb); replace HS := Lib.hid (HS.out.trans (PStep.below hb)); clear hb)
  | (go_at_call 26; (with_reducible refine Calls.mono (rule_any _ _) ?_); rintro e w9 ⟨rfl, hb⟩; replace HP := Lib.hid (HP.out.below hb); replace HS := Lib.hid (HS.out.trans (PStep.below hb)); clear hb)
  | (go_at_call 42; (with_reducible refine Calls.mono (HO0.out _ _ HP.out) ?_); rintro e w9 ⟨rfl, vt9, ve9, hP9, hs9⟩; replace HP := Lib.hid hP9; replace HS := Lib.hid (HS.out.trans hs9); clear hP9 hs9))
 go_ret
 exact ⟨rfl, _, _, by simpa [effs, Eff.act] using HP.out, HS.out⟩
set_option maxRecDepth 100000 in
set_option maxHeartbeats 4000000 in
theorem rule_factor : RuleAny .r_factor := by
 intro c p s es d b wc cl vt ve w HP0 HB0
 have HP := Lib.hid HP0
 have HS := Lib.hid (PStep.refl p vt ve w)
 obtain ⟨hs, hes, hd1, hd2⟩ := HB0
 clear HP0
 show Calls Tryz.prog 147 _ w (RulePost .r_factor c p s es d b wc cl vt ve w)
 unfold RulePost
 by_cases h1 : c = ⟨#[45]⟩
 ·subst h1
  rw [show RId.expand .r_factor ⟨#[45]⟩ = some [.opn 25 [.word ⟨#[45]⟩, .rule .r_factor]] from rfl]
  have HO0 := Lib.hid (fun (W : World) (vt1 : Value) (h : PAt W p s es d b wc cl vt1 ve) => open_new h 25 25 [.word ⟨#[45]⟩, .rule .r_factor] 2 [.string ⟨#[45]⟩, .int .u8 0, .nilFunc, .string ⟨#[]⟩, .int .u8 0, .func (.func 147) #[] #[]] rfl rfl rfl (by decide) (by (try simp only [List.length_append, List.length_cons, List.length_nil]); omega) (by omega) (by omega))
  clear hs hes hd1 hd2
  go_enter Tryz.func147, Tryz.ntmps147
  go_wp2_with (first
   | (go_at_call 25; (with_reducible refine Calls.mono (word_any _ _) ?_); rintro e w9 ⟨rfl, hb⟩; replace HP := Lib.hid (HP.out.below hb); replace HS := Lib.hid (HS.out.trans (PStep.below hb)); clear hb)
   | (go_at_call 26; (with_reducible refine Calls.mono (rule_any _ _) ?_); rintro e w9 ⟨rfl, hb⟩; replace HP := Lib.hid (HP.out.below hb); replace HS := Lib.hid (HS.out.trans (PStep.below hb)); clear hb)
   | (go_at_call 42; (with_reducible refine Calls.mono (HO0.out _ _ HP.out) ?_); rintro e w9 ⟨rfl, vt9, ve9, hP9, hs9⟩; replace HP := Lib.hid hP9; replace HS := Lib.hid (HS.out.trans hs9); clear hP9 hs9))
  go_ret
  exact ⟨rfl, _, _, by simpa [effs, Eff.act] using HP.out, HS.out⟩
 ·skip
  by_cases h2 : c = ⟨#[110, 111, 116]⟩
  ·subst h2
   rw [show RId.expand .r_factor ⟨#[110, 111, 116]⟩ = some [.opn 26 [.word ⟨#[110, 111, 116]⟩, .rule .r_factor]] from rfl]
   have HO0 := Lib.hid (fun (W : World) (vt1 : Value) (h : PAt W p s es d b wc cl vt1 ve) => open_new h 26 26 [.word ⟨#[110, 111, 116]⟩, .rule .r_factor] 2 [.string ⟨#[110, 111, 116]⟩, .int .u8 0, .nilFunc, .string ⟨#[]⟩, .int .u8 0, .func (.func 147) #[] #[]] rfl rfl rfl (by decide) (by (try simp only [List.length_append, List.length_cons, List.length_nil]); omega) (by omega) (by omega))
   clear hs hes hd1 hd2
   go_enter Tryz.func147, Tryz.ntmps147
   go_wp2_with (first
    | (go_at_call 25; (with_reducible refine Calls.mono (word_any _ _) ?_); rintro e w9 ⟨rfl, hb⟩; replace HP := Lib.hid (HP.out.below hb); replace HS := Lib.hid (HS.out.trans (PStep.below hb)); clear hb)
    | (go_at_call 26; (with_reducible refine Calls.mono (rule_any _ _) ?_); rintro e w9 ⟨rfl, hb⟩; replace HP := Lib.hid (HP.out.below hb); replace HS := Lib.hid (HS.out.trans (PStep.below hb)); clear hb)
    | (go_at_call 42; (with_reducible refine Calls.mono (HO0.out _ _ HP.out) ?_); rintro e w9 ⟨rfl, vt9, ve9, hP9, hs9⟩; replace HP := Lib.hid hP9; replace HS := Lib.hid (HS.out.trans hs9); clear hP9 hs9))
   go_ret
   exact ⟨rfl, _, _, by simpa [effs, Eff.act] using HP.out, HS.out⟩
  ·skip
   by_cases h3 : c = ⟨#[40]⟩
   ·subst h3
    rw [show RId.expand .r_factor ⟨#[40]⟩ = some [.opn 27 [.word ⟨#[40]⟩, .rule .r_expr, .word ⟨#[41]⟩]] from rfl]
    have HO0 := Lib.hid (fun (W : World) (vt1 : Value) (h : PAt W p s es d b wc cl vt1 ve) => open_new h 27 27 [.word ⟨#[40]⟩, .rule .r_expr, .word ⟨#[41]⟩] 3 [.string ⟨#[40]⟩, .int .u8 0, .nilFunc, .string ⟨#[]⟩, .int .u8 0, .func (.func 82) #[] #[], .string ⟨#[41]⟩, .int .u8 0, .nilFunc] rfl rfl rfl (by decide) (by (try simp only [List.length_append, List.length_cons, List.length_nil]); omega) (by omega) (by omega))
    clear hs hes hd1 hd2
    go_enter Tryz.func147, Tryz.ntmps147
    go_wp2_with (first
     | (go_at_call 25; (with_reducible refine Calls.mono (word_any _ _) ?_); rintro e w9 ⟨rfl, hb⟩; replace HP := Lib.hid (HP.out.below hb); replace HS := Lib.hid (HS.out.trans (PStep.below hb)); clear hb)
     | (go_at_call 26; (with_reducible refine Calls.mono (rule_any _ _) ?_); rintro e w9 ⟨rfl, hb⟩; replace HP := Lib.hid (HP.out.below hb); replace HS := Lib.hid (HS.out.trans (PStep.below hb)); clear hb)
     | (go_at_call 42; (with_reducible refine Calls.mono (HO0.out _ _ HP.out) ?_); rintro e w9 ⟨rfl, vt9, ve9, hP9, hs9⟩; replace HP := Lib.hid hP9; replace HS := Lib.hid (HS.out.trans hs9); clear hP9 hs9))
    go_ret
    exact ⟨rfl, _, _, by simpa [effs, Eff.act] using HP.out, HS.out⟩
   ·skip
    by_cases h4 : c = ⟨#[64, 110, 117, 109, 98, 101, 114]⟩ ∨ c = ⟨#[64, 116, 101, 120, 116]⟩ ∨ c = ⟨#[64, 99, 104, 97, 114]⟩
    ·rcases h4 with rfl | rfl | rfl
     ·rw [show RId.expand .r_factor ⟨#[64, 110, 117, 109, 98, 101, 114]⟩ = some [.opn 32 [.word ⟨#[64, 110, 117, 109, 98, 101, 114]⟩]] from rfl]
      have HO0 := Lib.hid (fun (W : World) (vt1 : Value) (h : PAt W p s es d b wc cl vt1 ve) => open_new h 32 32 [.word ⟨#[64, 110, 117, 109, 98, 101, 114]⟩] 1 [.string ⟨#[64, 110, 117, 109, 98, 101, 114]⟩, .int .u8 0, .nilFunc] rfl rfl rfl (by decide) (by (try simp only [List.length_append, List.length_cons, List.length_nil]); omega) (by omega) (by omega))
      clear hs hes hd1 hd2
      go_enter Tryz.func147, Tryz.ntmps147
      go_wp2_with (first
       | (go_at_call 25; (with_reducible refine Calls.mono (word_any _ _) ?_); rintro e w9 ⟨rfl, hb⟩; replace HP := Lib.hid (HP.out.below hb); replace HS := Lib.hid (HS.out.trans (PStep.below hb)); clear hb)
       | (go_at_call 26; (with_reducible refine Calls.mono (rule_any _ _) ?_); rintro e w9 ⟨rfl, hb⟩; replace HP := Lib.hid (HP.out.below hb); replace HS := Lib.hid (HS.out.trans (PStep.below hb)); clear hb)
       | (go_at_call 42; (with_reducible refine Calls.mono (HO0.out _ _ HP.out) ?_); rintro e w9 ⟨rfl, vt9, ve9, hP9, hs9⟩; replace HP := Lib.hid hP9; replace HS := Lib.hid (HS.out.trans hs9); clear hP9 hs9))
      go_ret
      exact ⟨rfl, _, _, by simpa [effs, Eff.act] using HP.out, HS.out⟩
     ·rw [show RId.expand .r_factor ⟨#[64, 116, 101, 120, 116]⟩ = some [.opn 32 [.word ⟨#[64, 116, 101, 120, 116]⟩]] from rfl]
      have HO0 := Lib.hid (fun (W : World) (vt1 : Value) (h : PAt W p s es d b wc cl vt1 ve) => open_new h 32 32 [.word ⟨#[64, 116, 101, 120, 116]⟩] 1 [.string ⟨#[64, 116, 101, 120, 116]⟩, .int .u8 0, .nilFunc] rfl rfl rfl (by decide) (by (try simp only [List.length_append, List.length_cons, List.length_nil]); omega) (by omega) (by omega))
      clear hs hes hd1 hd2
      go_enter Tryz.func147, Tryz.ntmps147
      go_wp2_with (first
       | (go_at_call 25; (with_reducible refine Calls.mono (word_any _ _) ?_); rintro e w9 ⟨rfl, hb⟩; replace HP := Lib.hid (HP.out.below hb); replace HS := Lib.hid (HS.out.trans (PStep.below hb)); clear hb)
       | (go_at_call 26; (with_reducible refine Calls.mono (rule_any _ _) ?_); rintro e w9 ⟨rfl, hb⟩; replace HP := Lib.hid (HP.out.below hb); replace HS := Lib.hid (HS.out.trans (PStep.below hb)); clear hb)
       | (go_at_call 42; (with_reducible refine Calls.mono (HO0.out _ _ HP.out) ?_); rintro e w9 ⟨rfl, vt9, ve9, hP9, hs9⟩; replace HP := Lib.hid hP9; replace HS := Lib.hid (HS.out.trans hs9); clear hP9 hs9))
      go_ret
      exact ⟨rfl, _, _, by simpa [effs, Eff.act] using HP.out, HS.out⟩
     ·rw [show RId.expand .r_factor ⟨#[64, 99, 104, 97, 114]⟩ = some [.opn 32 [.word ⟨#[64, 99, 104, 97, 114]⟩]] from rfl]
      have HO0 := Lib.hid (fun (W : World) (vt1 : Value) (h : PAt W p s es d b wc cl vt1 ve) => open_new h 32 32 [.word ⟨#[64, 99, 104, 97, 114]⟩] 1 [.string ⟨#[64, 99, 104, 97, 114]⟩, .int .u8 0, .nilFunc] rfl rfl rfl (by decide) (by (try simp only [List.length_append, List.length_cons, List.length_nil]); omega) (by omega) (by omega))
      clear hs hes hd1 hd2
      go_enter Tryz.func147, Tryz.ntmps147
      go_wp2_with (first
       | (go_at_call 25; (with_reducible refine Calls.mono (word_any _ _) ?_); rintro e w9 ⟨rfl, hb⟩; replace HP := Lib.hid (HP.out.below hb); replace HS := Lib.hid (HS.out.trans (PStep.below hb)); clear hb)
       | (go_at_call 26; (with_reducible refine Calls.mono (rule_any _ _) ?_); rintro e w9 ⟨rfl, hb⟩; replace HP := Lib.hid (HP.out.below hb); replace HS := Lib.hid (HS.out.trans (PStep.below hb)); clear hb)
       | (go_at_call 42; (with_reducible refine Calls.mono (HO0.out _ _ HP.out) ?_); rintro e w9 ⟨rfl, vt9, ve9, hP9, hs9⟩; replace HP := Lib.hid hP9; replace HS := Lib.hid (HS.out.trans hs9); clear hP9 hs9))
      go_ret
      exact ⟨rfl, _, _, by simpa [effs, Eff.act] using HP.out, HS.out⟩
    ·skip
     rw [show RId.expand .r_factor c = some [.opn 28 [.word ⟨#[64, 110, 97, 109, 101]⟩, .rule .r_selected]] by simp only [RId.expand]; rw [if_neg h1]; rw [if_neg h2]; rw [if_neg h3]; rw [if_neg h4]]
     have e0 := ne_lit h1
     have e1 := ne_lit h2
     have e2 := ne_lit h3
     have e3_0 := ne_lit (l := [64, 110, 117, 109, 98, 101, 114]) (fun e => h4 (.inl e))
     have e3_1 := ne_lit (l := [64, 116, 101, 120, 116]) (fun e => h4 (.inr (.inl e)))
     have e3_2 := ne_lit (l := [64, 99, 104, 97, 114]) (fun e => h4 (.inr (.inr e)))
     have HOB : Hid (Calls Tryz.prog 85 #[.pointer (some ⟨p, 0, none⟩), .string c] w (fun e w' => e = .returned (.bool true) ∧ ∃ vt' ve', PAt w' p ([.word ⟨#[64, 110, 97, 109, 101]⟩, .rule .r_selected] ++ .fin 28 :: s) (es ++ [evOf (1, 28)]) (d + 1) b wc cl vt' ve' ∧ PStep p vt ve w vt' ve' w')) := Lib.hid (rule_object c p s es d b wc cl vt ve w HP.out ⟨hs, hes, hd1, hd2⟩)
     clear hs hes hd1 hd2
     go_enter Tryz.func147, Tryz.ntmps147
     go_wp2_with (go_at_call 85; (with_reducible refine Calls.mono HOB.out ?_); rintro e w9 ⟨rfl, vt9, ve9, hP9, hs9⟩; have HP9 := Lib.hid hP9; have HS9 := Lib.hid hs9; clear hP9 hs9)
     go_ret
     exact ⟨rfl, _, _, HP9.out, HS9.out⟩
set_option maxRecDepth 100000 in
set_option maxHeartbeats 4000000 in
theorem rule_selected : RuleAny .r_selected := by
 intro c p s es d b wc cl vt ve w HP0 HB0
 have HP := Lib.hid HP0
 have HS := Lib.hid (PStep.refl p vt ve w)
 obtain ⟨hs, hes, hd1, hd2⟩ := HB0
 clear HP0
 show Calls Tryz.prog 113 _ w (RulePost .r_selected c p s es d b wc cl vt ve w)
 unfold RulePost
 by_cases h1 : c = ⟨#[91]⟩
 ·subst h1
  rw [show RId.expand .r_selected ⟨#[91]⟩ = some [.push [.rule .r_selected], .opn 29 [.word ⟨#[91]⟩, .rule .r_expr, .rule .r_exprs, .word ⟨#[93]⟩]] from rfl]
  have HO0 := Lib.hid (fun (W : World) (vt1 : Value) (h : PAt W p s es d b wc cl vt1 ve) => push_new h [.rule .r_selected] 1 [.string ⟨#[]⟩, .int .u8 0, .func (.func 113) #[] #[]] rfl rfl (by decide) (by (try simp only [List.length_append, List.length_cons, List.length_nil]); omega))
  have HO1 := Lib.hid (fun (W : World) (vt1 : Value) (h : PAt W p ([.rule .r_selected] ++ s) es d b wc cl vt1 ve) => open_new h 29 29 [.word ⟨#[91]⟩, .rule .r_expr, .rule .r_exprs, .word ⟨#[93]⟩] 4 [.string ⟨#[91]⟩, .int .u8 0, .nilFunc, .string ⟨#[]⟩, .int .u8 0, .func (.func 82) #[] #[], .string ⟨#[]⟩, .int .u8 0, .func (.func 132) #[] #[], .string ⟨#[93]⟩, .int .u8 0, .nilFunc] rfl rfl rfl (by decide) (by (try simp only [List.length_append, List.length_cons, List.length_nil]); omega) (by omega) (by omega))
  clear hs hes hd1 hd2
  go_enter Tryz.func113, Tryz.ntmps113
  go_wp2_with (first
   | (go_at_call 25; (with_reducible refine Calls.mono (word_any _ _) ?_); rintro e w9 ⟨rfl, hb⟩; replace HP := Lib.hid (HP.out.below hb); replace HS := Lib.hid (HS.out.trans (PStep.below hb)); clear hb)
   | (go_at_call 26; (with_reducible refine Calls.mono (rule_any _ _) ?_); rintro e w9 ⟨rfl, hb⟩; replace HP := Lib.hid (HP.out.below hb); replace HS := Lib.hid (HS.out.trans (PStep.below hb)); clear hb)
   | (go_at_call 24; (with_reducible refine Calls.mono (HO0.out _ _ HP.out) ?_); rintro e w9 ⟨rfl, vt9, hP9, hs9⟩; replace HP := Lib.hid hP9; replace HS := Lib.hid (HS.out.trans hs9); clear hP9 hs9)
   | (go_at_call 42; (with_reducible refine Calls.mono (HO1.out _ _ HP.out) ?_); rintro e w9 ⟨rfl, vt9, ve9, hP9, hs9⟩; replace HP := Lib.hid hP9; replace HS := Lib.hid (HS.out.trans hs9); clear hP9 hs9))
  go_ret
  exact ⟨rfl, _, _, by simpa [effs, Eff.act] using HP.out, HS.out⟩
 ·skip
  by_cases h2 : c = ⟨#[46]⟩
  ·subst h2
   rw [show RId.expand .r_selected ⟨#[46]⟩ = some [.push [.rule .r_selected], .opn 30 [.word ⟨#[46]⟩, .word ⟨#[64, 110, 97, 109, 101]⟩]] from rfl]
   have HO0 := Lib.hid (fun (W : World) (vt1 : Value) (h : PAt W p s es d b wc cl vt1 ve) => push_new h [.rule .r_selected] 1 [.string ⟨#[]⟩, .int .u8 0, .func (.func 113) #[] #[]] rfl rfl (by decide) (by (try simp only [List.length_append, List.length_cons, List.length_nil]); omega))
   have HO1 := Lib.hid (fun (W : World) (vt1 : Value) (h : PAt W p ([.rule .r_selected] ++ s) es d b wc cl vt1 ve) => open_new h 30 30 [.word ⟨#[46]⟩, .word ⟨#[64, 110, 97, 109, 101]⟩] 2 [.string ⟨#[46]⟩, .int .u8 0, .nilFunc, .string ⟨#[64, 110, 97, 109, 101]⟩, .int .u8 0, .nilFunc] rfl rfl rfl (by decide) (by (try simp only [List.length_append, List.length_cons, List.length_nil]); omega) (by omega) (by omega))
   clear hs hes hd1 hd2
   go_enter Tryz.func113, Tryz.ntmps113
   go_wp2_with (first
    | (go_at_call 25; (with_reducible refine Calls.mono (word_any _ _) ?_); rintro e w9 ⟨rfl, hb⟩; replace HP := Lib.hid (HP.out.below hb); replace HS := Lib.hid (HS.out.trans (PStep.below hb)); clear hb)
    | (go_at_call 26; (with_reducible refine Calls.mono (rule_any _ _) ?_); rintro e w9 ⟨rfl, hb⟩; replace HP := Lib.hid (HP.out.below hb); replace HS := Lib.hid (HS.out.trans (PStep.below hb)); clear hb)
    | (go_at_call 24; (with_reducible refine Calls.mono (HO0.out _ _ HP.out) ?_); rintro e w9 ⟨rfl, vt9, hP9, hs9⟩; replace HP := Lib.hid hP9; replace HS := Lib.hid (HS.out.trans hs9); clear hP9 hs9)
    | (go_at_call 42; (with_reducible refine Calls.mono (HO1.out _ _ HP.out) ?_); rintro e w9 ⟨rfl, vt9, ve9, hP9, hs9⟩; replace HP := Lib.hid hP9; replace HS := Lib.hid (HS.out.trans hs9); clear hP9 hs9))
   go_ret
   exact ⟨rfl, _, _, by simpa [effs, Eff.act] using HP.out, HS.out⟩
  ·skip
   by_cases h3 : c = ⟨#[40]⟩
   ·subst h3
    rw [show RId.expand .r_selected ⟨#[40]⟩ = some [.push [.rule .r_selected], .opn 31 [.word ⟨#[40]⟩, .rule .r_args, .word ⟨#[41]⟩]] from rfl]
    have HO0 := Lib.hid (fun (W : World) (vt1 : Value) (h : PAt W p s es d b wc cl vt1 ve) => push_new h [.rule .r_selected] 1 [.string ⟨#[]⟩, .int .u8 0, .func (.func 113) #[] #[]] rfl rfl (by decide) (by (try simp only [List.length_append, List.length_cons, List.length_nil]); omega))
    have HO1 := Lib.hid (fun (W : World) (vt1 : Value) (h : PAt W p ([.rule .r_selected] ++ s) es d b wc cl vt1 ve) => open_new h 31 31 [.word ⟨#[40]⟩, .rule .r_args, .word ⟨#[41]⟩] 3 [.string ⟨#[40]⟩, .int .u8 0, .nilFunc, .string ⟨#[]⟩, .int .u8 0, .func (.func 133) #[] #[], .string ⟨#[41]⟩, .int .u8 0, .nilFunc] rfl rfl rfl (by decide) (by (try simp only [List.length_append, List.length_cons, List.length_nil]); omega) (by omega) (by omega))
    clear hs hes hd1 hd2
    go_enter Tryz.func113, Tryz.ntmps113
    go_wp2_with (first
     | (go_at_call 25; (with_reducible refine Calls.mono (word_any _ _) ?_); rintro e w9 ⟨rfl, hb⟩; replace HP := Lib.hid (HP.out.below hb); replace HS := Lib.hid (HS.out.trans (PStep.below hb)); clear hb)
     | (go_at_call 26; (with_reducible refine Calls.mono (rule_any _ _) ?_); rintro e w9 ⟨rfl, hb⟩; replace HP := Lib.hid (HP.out.below hb); replace HS := Lib.hid (HS.out.trans (PStep.below hb)); clear hb)
     | (go_at_call 24; (with_reducible refine Calls.mono (HO0.out _ _ HP.out) ?_); rintro e w9 ⟨rfl, vt9, hP9, hs9⟩; replace HP := Lib.hid hP9; replace HS := Lib.hid (HS.out.trans hs9); clear hP9 hs9)
     | (go_at_call 42; (with_reducible refine Calls.mono (HO1.out _ _ HP.out) ?_); rintro e w9 ⟨rfl, vt9, ve9, hP9, hs9⟩; replace HP := Lib.hid hP9; replace HS := Lib.hid (HS.out.trans hs9); clear hP9 hs9))
    go_ret
    exact ⟨rfl, _, _, by simpa [effs, Eff.act] using HP.out, HS.out⟩
   ·skip
    rw [show RId.expand .r_selected c = some [] by simp only [RId.expand]; rw [if_neg h1]; rw [if_neg h2]; rw [if_neg h3]]
    have e0 := ne_lit h1
    have e1 := ne_lit h2
    have e2 := ne_lit h3
    clear hs hes hd1 hd2
    go_enter Tryz.func113, Tryz.ntmps113
    go_wp2_with (first
     | (go_at_call 25; (with_reducible refine Calls.mono (word_any _ _) ?_); rintro e w9 ⟨rfl, hb⟩; replace HP := Lib.hid (HP.out.below hb); replace HS := Lib.hid (HS.out.trans (PStep.below hb)); clear hb)
     | (go_at_call 26; (with_reducible refine Calls.mono (rule_any _ _) ?_); rintro e w9 ⟨rfl, hb⟩; replace HP := Lib.hid (HP.out.below hb); replace HS := Lib.hid (HS.out.trans (PStep.below hb)); clear hb))
    go_ret
    exact ⟨rfl, _, _, by simpa [effs, Eff.act] using HP.out, HS.out⟩
set_option maxRecDepth 100000 in
set_option maxHeartbeats 4000000 in
theorem rule_args : RuleAny .r_args := by
 intro c p s es d b wc cl vt ve w HP0 HB0
 have HP := Lib.hid HP0
 have HS := Lib.hid (PStep.refl p vt ve w)
 obtain ⟨hs, hes, hd1, hd2⟩ := HB0
 clear HP0
 show Calls Tryz.prog 133 _ w (RulePost .r_args c p s es d b wc cl vt ve w)
 unfold RulePost
 by_cases h1 : c = ⟨#[64, 110, 117, 109, 98, 101, 114]⟩ ∨ c = ⟨#[64, 116, 101, 120, 116]⟩ ∨ c = ⟨#[64, 99, 104, 97, 114]⟩ ∨ c = ⟨#[64, 110, 97, 109, 101]⟩ ∨ c = ⟨#[45]⟩ ∨ c = ⟨#[110, 111, 116]⟩ ∨ c = ⟨#[40]⟩
 ·rw [show RId.expand .r_args c = some [.push [.rule .r_expr, .rule .r_exprs]] by simp only [RId.expand]; rw [if_pos h1]]
  have hin : inL c [⟨#[64, 110, 117, 109, 98, 101, 114]⟩, ⟨#[64, 116, 101, 120, 116]⟩, ⟨#[64, 99, 104, 97, 114]⟩, ⟨#[64, 110, 97, 109, 101]⟩, ⟨#[45]⟩, ⟨#[110, 111, 116]⟩, ⟨#[40]⟩] = true := (inL_iff _ _).2 (by simpa using h1)
  have HAM := Lib.hid (fun (W : World) => begins_any W c)
  rw [hin] at HAM
  clear hin
  have HO0 := Lib.hid (fun (W : World) (vt1 : Value) (h : PAt W p s es d b wc cl vt1 ve) => push_new h [.rule .r_expr, .rule .r_exprs] 2 [.string ⟨#[]⟩, .int .u8 0, .func (.func 82) #[] #[], .string ⟨#[]⟩, .int .u8 0, .func (.func 132) #[] #[]] rfl rfl (by decide) (by (try simp only [List.length_append, List.length_cons, List.length_nil]); omega))
  clear hs hes hd1 hd2
  go_enter Tryz.func133, Tryz.ntmps133
  go_wp2_with (first
   | (go_at_call 114; (with_reducible refine Calls.mono (HAM.out _) ?_); rintro e w9 ⟨rfl, hb⟩; replace HP := Lib.hid (HP.out.below hb); replace HS := Lib.hid (HS.out.trans (PStep.below hb)); clear hb)
   | (go_at_call 25; (with_reducible refine Calls.mono (word_any _ _) ?_); rintro e w9 ⟨rfl, hb⟩; replace HP := Lib.hid (HP.out.below hb); replace HS := Lib.hid (HS.out.trans (PStep.below hb)); clear hb)
   | (go_at_call 26; (with_reducible refine Calls.mono (rule_any _ _) ?_); rintro e w9 ⟨rfl, hb⟩; replace HP := Lib.hid (HP.out.below hb); replace HS := Lib.hid (HS.out.trans (PStep.below hb)); clear hb)
   | (go_at_call 24; (with_reducible refine Calls.mono (HO0.out _ _ HP.out) ?_); rintro e w9 ⟨rfl, vt9, hP9, hs9⟩; replace HP := Lib.hid hP9; replace HS := Lib.hid (HS.out.trans hs9); clear hP9 hs9))
  go_ret
  exact ⟨rfl, _, _, by simpa [effs, Eff.act] using HP.out, HS.out⟩
 ·skip
  rw [show RId.expand .r_args c = some [] by simp only [RId.expand]; rw [if_neg h1]]
  have hin : inL c [⟨#[64, 110, 117, 109, 98, 101, 114]⟩, ⟨#[64, 116, 101, 120, 116]⟩, ⟨#[64, 99, 104, 97, 114]⟩, ⟨#[64, 110, 97, 109, 101]⟩, ⟨#[45]⟩, ⟨#[110, 111, 116]⟩, ⟨#[40]⟩] = false := inL_no (fun h => h1 (by simpa using h))
  have HAM := Lib.hid (fun (W : World) => begins_any W c)
  rw [hin] at HAM
  clear hin
  clear hs hes hd1 hd2
  go_enter Tryz.func133, Tryz.ntmps133
  go_wp2_with (first
   | (go_at_call 114; (with_reducible refine Calls.mono (HAM.out _) ?_); rintro e w9 ⟨rfl, hb⟩; replace HP := Lib.hid (HP.out.below hb); replace HS := Lib.hid (HS.out.trans (PStep.below hb)); clear hb)
   | (go_at_call 25; (with_reducible refine Calls.mono (word_any _ _) ?_); rintro e w9 ⟨rfl, hb⟩; replace HP := Lib.hid (HP.out.below hb); replace HS := Lib.hid (HS.out.trans (PStep.below hb)); clear hb)
   | (go_at_call 26; (with_reducible refine Calls.mono (rule_any _ _) ?_); rintro e w9 ⟨rfl, hb⟩; replace HP := Lib.hid (HP.out.below hb); replace HS := Lib.hid (HS.out.trans (PStep.below hb)); clear hb))
  go_ret
  exact ⟨rfl, _, _, by simpa [effs, Eff.act] using HP.out, HS.out⟩
set_option maxRecDepth 100000 in
set_option maxHeartbeats 4000000 in
theorem rule_exprs : RuleAny .r_exprs := by
 intro c p s es d b wc cl vt ve w HP0 HB0
 have HP := Lib.hid HP0
 have HS := Lib.hid (PStep.refl p vt ve w)
 obtain ⟨hs, hes, hd1, hd2⟩ := HB0
 clear HP0
 show Calls Tryz.prog 132 _ w (RulePost .r_exprs c p s es d b wc cl vt ve w)
 unfold RulePost
 by_cases h1 : c = ⟨#[44]⟩
 ·subst h1
  rw [show RId.expand .r_exprs ⟨#[44]⟩ = some [.push [.word ⟨#[44]⟩, .rule .r_expr, .rule .r_exprs]] from rfl]
  have HO0 := Lib.hid (fun (W : World) (vt1 : Value) (h : PAt W p s es d b wc cl vt1 ve) => push_new h [.word ⟨#[44]⟩, .rule .r_expr, .rule .r_exprs] 3 [.string ⟨#[44]⟩, .int .u8 0, .nilFunc, .string ⟨#[]⟩, .int .u8 0, .func (.func 82) #[] #[], .string ⟨#[]⟩, .int .u8 0, .func (.func 132) #[] #[]] rfl rfl (by decide) (by (try simp only [List.length_append, List.length_cons, List.length_nil]); omega))
  clear hs hes hd1 hd2
  go_enter Tryz.func132, Tryz.ntmps132
  go_wp2_with (first
   | (go_at_call 25; (with_reducible refine Calls.mono (word_any _ _) ?_); rintro e w9 ⟨rfl, hb⟩; replace HP := Lib.hid (HP.out.below hb); replace HS := Lib.hid (HS.out.trans (PStep.below hb)); clear hb)
   | (go_at_call 26; (with_reducible refine Calls.mono (rule_any _ _) ?_); rintro e w9 ⟨rfl, hb⟩; replace HP := Lib.hid (HP.out.below hb); replace HS := Lib.hid (HS.out.trans (PStep.below hb)); clear hb)
   | (go_at_call 24; (with_reducible refine Calls.mono (HO0.out _ _ HP.out) ?_); rintro e w9 ⟨rfl, vt9, hP9, hs9⟩; replace HP := Lib.hid hP9; replace HS := Lib.hid (HS.out.trans hs9); clear hP9 hs9))
  go_ret
  exact ⟨rfl, _, _, by simpa [effs, Eff.act] using HP.out, HS.out⟩
 ·skip
  rw [show RId.expand .r_exprs c = some [] by simp only [RId.expand]; rw [if_neg h1]]
  have e0 := ne_lit h1
  clear hs hes hd1 hd2
  go_enter Tryz.func132, Tryz.ntmps132
  go_wp2_with (first
   | (go_at_call 25; (with_reducible refine Calls.mono (word_any _ _) ?_); rintro e w9 ⟨rfl, hb⟩; replace HP := Lib.hid (HP.out.below hb); replace HS := Lib.hid (HS.out.trans (PStep.below hb)); clear hb)
   | (go_at_call 26; (with_reducible refine Calls.mono (rule_any _ _) ?_); rintro e w9 ⟨rfl, hb⟩; replace HP := Lib.hid (HP.out.below hb); replace HS := Lib.hid (HS.out.trans (PStep.below hb)); clear hb))
  go_ret
  exact ⟨rfl, _, _, by simpa [effs, Eff.act] using HP.out, HS.out⟩
end Go.Proofs.YtmjbpgnjgblnmaaGreat
namespace Go.Proofs.YtmjbpgnjgblnmaaGreat
open Go.RowKit Go.Proofs.YtmjbpgnjgblnmaaGreatW.PrintWords Go.Proofs.YtmjbpgnjgblnmaaGreatW.PrintLast Go.Proofs.YtmjbpgnjgblnmaaGreatW.PrintMore
theorem rule_all (f : RId) : RuleAny f := by
 cases f
 case r_block => exact rule_block
 case r_declarations => exact rule_declarations
 case r_declaration => exact rule_declaration
 case r_names => exact rule_names
 case r_params => exact rule_params
 case r_moreParams => exact rule_moreParams
 case r_param => exact rule_param
 case r_typed => exact rule_typed
 case r_kind => exact rule_kind
 case r_member => exact rule_member
 case r_members => exact rule_members
 case r_body => exact rule_body
 case r_statements => exact rule_statements
 case r_statement => exact rule_statement
 case r_assigned => exact rule_assigned
 case r_elses => exact rule_elses
 case r_maybe => exact rule_maybe
 case r_expr => exact rule_expr
 case r_rels => exact rule_rels
 case r_rel => exact rule_rel
 case r_compared => exact rule_compared
 case r_sum => exact rule_sum
 case r_terms => exact rule_terms
 case r_term => exact rule_term
 case r_factors => exact rule_factors
 case r_factor => exact rule_factor
 case r_object => exact rule_object
 case r_selected => exact rule_selected
 case r_args => exact rule_args
 case r_exprs => exact rule_exprs
theorem rule_enter (f : RId) (args : Array Value) (w : World) : (callFunc f.num args).run Tryz.prog w = .ok (.enter f.num args) w := by
 cases f
 case r_block => exact enters_ Tryz.func27 (by kernel_rfl) rfl args w
 case r_declarations => exact enters_ Tryz.func43 (by kernel_rfl) rfl args w
 case r_declaration => exact enters_ Tryz.func59 (by kernel_rfl) rfl args w
 case r_names => exact enters_ Tryz.func80 (by kernel_rfl) rfl args w
 case r_params => exact enters_ Tryz.func83 (by kernel_rfl) rfl args w
 case r_moreParams => exact enters_ Tryz.func112 (by kernel_rfl) rfl args w
 case r_param => exact enters_ Tryz.func111 (by kernel_rfl) rfl args w
 case r_typed => exact enters_ Tryz.func84 (by kernel_rfl) rfl args w
 case r_kind => exact enters_ Tryz.func81 (by kernel_rfl) rfl args w
 case r_member => exact enters_ Tryz.func107 (by kernel_rfl) rfl args w
 case r_members => exact enters_ Tryz.func108 (by kernel_rfl) rfl args w
 case r_body => exact enters_ Tryz.func44 (by kernel_rfl) rfl args w
 case r_statements => exact enters_ Tryz.func61 (by kernel_rfl) rfl args w
 case r_statement => exact enters_ Tryz.func60 (by kernel_rfl) rfl args w
 case r_assigned => exact enters_ Tryz.func86 (by kernel_rfl) rfl args w
 case r_elses => exact enters_ Tryz.func87 (by kernel_rfl) rfl args w
 case r_maybe => exact enters_ Tryz.func88 (by kernel_rfl) rfl args w
 case r_expr => exact enters_ Tryz.func82 (by kernel_rfl) rfl args w
 case r_rels => exact enters_ Tryz.func110 (by kernel_rfl) rfl args w
 case r_rel => exact enters_ Tryz.func109 (by kernel_rfl) rfl args w
 case r_compared => exact enters_ Tryz.func131 (by kernel_rfl) rfl args w
 case r_sum => exact enters_ Tryz.func130 (by kernel_rfl) rfl args w
 case r_terms => exact enters_ Tryz.func143 (by kernel_rfl) rfl args w
 case r_term => exact enters_ Tryz.func142 (by kernel_rfl) rfl args w
 case r_factors => exact enters_ Tryz.func148 (by kernel_rfl) rfl args w
 case r_factor => exact enters_ Tryz.func147 (by kernel_rfl) rfl args w
 case r_object => exact enters_ Tryz.func85 (by kernel_rfl) rfl args w
 case r_selected => exact enters_ Tryz.func113 (by kernel_rfl) rfl args w
 case r_args => exact enters_ Tryz.func133 (by kernel_rfl) rfl args w
 case r_exprs => exact enters_ Tryz.func132 (by kernel_rfl) rfl args w
end Go.Proofs.YtmjbpgnjgblnmaaGreat
namespace Go.Proofs.YtmjbpgnjgblnmaaGreat
open Go.RowKit Go.Proofs.YtmjbpgnjgblnmaaGreatW.PrintWords Go.Proofs.YtmjbpgnjgblnmaaGreatW.PrintLast Go.Proofs.YtmjbpgnjgblnmaaGreatW.PrintMore
theorem code_some (t : Tk) : PSyntaxEvents.parse_code.f t.f0 t.f1 t.f2.f0 t.f2.f1 t.f2.f2 t.f3 = some (codeOf t) := by
 have h : (PSyntaxEvents.parse_code.f t.f0 t.f1 t.f2.f0 t.f2.f1 t.f2.f2 t.f3).isSome = true := by
  unfold PSyntaxEvents.parse_code.f
  repeat' split
  all_goals first | rfl | (exfalso; omega)
 obtain ⟨x, hx⟩ := Option.isSome_iff_exists.1 h
 unfold codeOf
 rw [hx]
 rfl
def Ends (l : List WT) : Prop := ∀ k, WT.fin k ∈ l → k ≠ 0
theorem Ends.tail {x : WT} {l : List WT} (h : Ends (x :: l)) : Ends l := fun k hk => h k (List.mem_cons_of_mem _ hk)
theorem expand_ends {f : RId} {c : ByteArray} {l : List Eff} (h : f.expand c = some l) {s : PSt} (hs : Ends s.todo) : Ends (effs s l).todo := by
 cases f
 all_goals
  simp only [RId.expand] at h
  repeat' split at h
 all_goals first
  | (cases h; done)
  | (cases h; intro k hk; simp only [effs, List.foldl, Eff.act, List.mem_append, List.mem_cons, List.not_mem_nil, or_false, reduceCtorEq, false_or, WT.fin.injEq] at hk; first | exact hs k hk | (rcases hk with hk | hk <;> first | exact hs k hk | (rw [hk]; decide)))
theorem turn_ends {c : ByteArray} {s s' : PSt} (h : turn c s = .on s') (hs : Ends s.todo) : Ends s'.todo := by
 unfold turn at h
 split at h
 ·cases h
 ·split at h <;> cases h
 ·rename_i k r hr
  cases h
  rw [hr] at hs
  exact hs.tail
 ·rename_i f r hr
  rw [hr] at hs
  split at h
  ·cases h
  ·rename_i l hl
   cases h
   exact expand_ends hl hs.tail
theorem neq_nil (w : World) : (binOp .neq 74 .nilFunc .nilFunc).run Tryz.prog w = .ok (.bool false) w := by kernel_rfl
theorem neq_func (f : Fn) (a b : Array Value) (w : World) : (binOp .neq 74 (.func f a b) .nilFunc).run Tryz.prog w = .ok (.bool true) w := by kernel_rfl
theorem box_new {wr Wd : World} (hb : Below wr.heap.size wr Wd) (T : TypeId) (z cs : List Value) (hz : z.length = cs.length) : (∃ cur : Array Value, (Wd.alloc (.cells z.toArray T)).heap[Wd.heap.size]? = some (.cells cur T (0, 0)) ∧ 0 + cs.length ≤ cur.size) ∧ ∀ V, V = (Wd.alloc (.cells z.toArray T)).setCells Wd.heap.size 0 cs → Below wr.heap.size wr V ∧ V.heap[Wd.heap.size]? = some (.cells cs.toArray T (0, 0)) := by
 have hn := World.alloc_heap_new Wd (.cells z.toArray T)
 refine ⟨⟨_, hn, by simp [hz]⟩, ?_⟩
 rintro _ rfl
 obtain ⟨cur', k1, k2, k3⟩ := setCells_row cs 0 _ _ hn (by simp [hz])
 have hs := setCells_same Wd.heap.size cs 0 (Wd.alloc (.cells z.toArray T))
 have hb1 : Below wr.heap.size wr (Wd.alloc (.cells z.toArray T)) := hb.alloc hb.size _
 refine ⟨⟨hs.1.trans hb1.os, hs.2.1.trans hb1.tape, hs.2.2.1.trans hb1.output, by rw [hs.2.2.2]; exact hb1.size, fun q hq => (setCells_far cs 0 q (by have := hb.size; omega)).trans (hb1.block q hq)⟩, ?_⟩
 rw [k1]
 congr 2
 apply Array.toList_inj.1
 rw [k3, List.take_zero, List.nil_append, List.drop_of_length_le (by simp [hz]), List.append_nil]
theorem effs_evs : ∀ (l : List Eff) (s : PSt) (e0 : List (Nat × Nat)), effs { s with evs := e0 ++ s.evs } l = { effs s l with evs := e0 ++ (effs s l).evs }
 | [], s, e0 => rfl
 | .push w :: l, s, e0 => effs_evs l { s with todo := w ++ s.todo } e0
 | .opn k w :: l, s, e0 => by
  have := effs_evs l { todo := w ++ .fin k :: s.todo, evs := s.evs ++ [(1, k)], depth := s.depth + 1 } e0
  simp only [effs, List.foldl, Eff.act] at this ⊢
  rw [← this, List.append_assoc]
theorem effs_evs0 (l : List Eff) (s : PSt) (r : List WT) : effs { s with todo := r } l = { todo := (effs ⟨r, [], s.depth⟩ l).todo, evs := s.evs ++ (effs ⟨r, [], s.depth⟩ l).evs, depth := (effs ⟨r, [], s.depth⟩ l).depth } := by
 have := effs_evs l ⟨r, [], s.depth⟩ s.evs
 simpa using this
theorem PStep.keep {w w' : World} {p gA : Nat} {s : List WT} {es : List Ev} {d : Int} {b : Bool} {wc : Int} {cl : Bool} {vt ve vt' ve' : Value} {A : Array Value} {T : TypeId} (h : PStep p vt ve w vt' ve' w') (H : PAt w p s es d b wc cl vt ve) (hA : w.heap[gA]? = some (.cells A T (0, 0))) (h1 : T ≠ 72) (h2 : T ≠ 76) (h3 : T ≠ 48) : w'.heap[gA]? = some (.cells A T (0, 0)) := by
 refine (h.block gA (blk_lt hA) (fun e => ?_) (fun e => ?_) (fun e => ?_)).trans hA
 ·rw [e, H.box] at hA; exact h1 (cells_ty hA).symm
 ·obtain ⟨cs, hc⟩ := own_typed H.todo gA e.symm
  rw [hA] at hc; exact h2 (cells_ty hc)
 ·obtain ⟨cs, hc⟩ := own_typed H.evs gA e.symm
  rw [hA] at hc; exact h3 (cells_ty hc)
structure TokI (p : Nat) (W0 : World) (es : List Ev) (c : ByteArray) (b : Bool) (wc : Int) (cl : Bool) (vt0 ve0 : Value) (r : Bool × PSt) (k : Nat) (wr : World) (st : PSt) (vt ve : Value) : Prop where
 run : turns c k st = some r
 at_ : PAt wr p st.todo (es ++ st.evs.map evOf) st.depth b wc cl vt ve
 step : PStep p vt0 ve0 W0 vt ve wr
 ends : Ends st.todo
 bt : st.todo.length + 11 * k ≤ 137438953472
 be : es.length + st.evs.length + k ≤ 274877906944
 bd1 : -1152921504606846976 + k ≤ st.depth
 bd2 : st.depth + k ≤ 1152921504606846976
def TokPost (p : Nat) (s : List WT) (es : List Ev) (d : Int) (b : Bool) (wc : Int) (cl : Bool) (vt ve : Value) (t : Tk) (w : World) (e : Ending) (w' : World) : Prop :=
 e = .returned (.int .i64 (token t s d).1) ∧ ∃ vt' ve', PAt w' p (token t s d).2.todo (es ++ (token t s d).2.evs.map evOf ++ (if (token t s d).1 = 0 then [leafE t] else [])) (token t s d).2.depth b wc cl vt' ve' ∧ PStep p vt ve w vt' ve' w'
theorem row_slice {w : World} {base : Nat} {e : TypeId} {size n : Nat} {v : Value} {xs : List Value} (h : w.ownsRow base e size v n xs) : ∃ A c, v = .slice A n c ∧ n ≤ c := by
 rcases h.2 with ⟨rfl, rfl⟩ | ⟨g, cap, cur, rfl, _, _, hl, _⟩
 ·exact ⟨none, 0, rfl, Nat.le_refl _⟩
 ·exact ⟨_, cap, rfl, hl⟩
set_option maxRecDepth 100000 in
set_option maxHeartbeats 8000000 in
theorem token_any (p : Nat) (s : List WT) (es : List Ev) (d : Int) (b : Bool) (wc : Int) (cl : Bool) (vt ve : Value) (t : Tk) (w : World) (hP : PAt w p s es d b wc cl vt ve) (hs : s.length ≤ 4294967296) (hes : es.length ≤ 4294967296) (hd : -4294967296 ≤ d ∧ d ≤ 4294967296) (hE : Ends s) :
  Calls Tryz.prog 29 #[.pointer (some ⟨p, 0, none⟩), .agg #[.int .u8 t.f0, .string t.f1, .int .i64 t.f2.f0, .int .i64 t.f2.f1, .int .i64 t.f2.f2, .int .i64 t.f3]] w (TokPost p s es d b wc cl vt ve t w) := by
 obtain ⟨r, hr, hrl⟩ := some_len (codeOf t) s.length ⟨s, [], d⟩ rfl
 obtain ⟨h1, h2, -⟩ := hP.fresh (.cells #[.int .u8 t.f0, .string t.f1, .int .i64 t.f2.f0, .int .i64 t.f2.f1, .int .i64 t.f2.f2, .int .i64 t.f3] 28)
 obtain ⟨W0, hW0⟩ : ∃ V, w.alloc (.cells #[.int .u8 t.f0, .string t.f1, .int .i64 t.f2.f0, .int .i64 t.f2.f1, .int .i64 t.f2.f2, .int .i64 t.f3] 28) = V := ⟨_, rfl⟩
 have hT0 : W0.heap[w.heap.size]? = some (.cells #[.int .u8 t.f0, .string t.f1, .int .i64 t.f2.f0, .int .i64 t.f2.f1, .int .i64 t.f2.f2, .int .i64 t.f3] 28 (0, 0)) := by rw [← hW0]; exact World.alloc_heap_new _ _
 rw [hW0] at h1 h2
 have HW0 := Lib.hid hW0
 have HT0 := Lib.hid hT0
 have HP0 := Lib.hid h1
 have HS0 := Lib.hid h2
 have HR := Lib.hid hr
 have HE := Lib.hid hE
 have HBD := Lib.hid (And.intro hs (And.intro hes hd))
 obtain ⟨q0, q1, q2, q3, q4, q5⟩ : W0.cell? ⟨w.heap.size, 0, none⟩ = some (.int .u8 t.f0) ∧ W0.cell? ⟨w.heap.size, 1, none⟩ = some (.string t.f1) ∧ W0.cell? ⟨w.heap.size, 2, none⟩ = some (.int .i64 t.f2.f0) ∧ W0.cell? ⟨w.heap.size, 3, none⟩ = some (.int .i64 t.f2.f1) ∧ W0.cell? ⟨w.heap.size, 4, none⟩ = some (.int .i64 t.f2.f2) ∧ W0.cell? ⟨w.heap.size, 5, none⟩ = some (.int .i64 t.f3) := ⟨cell_of_row _ _ _ _ _ _ hT0, cell_of_row _ _ _ _ _ _ hT0, cell_of_row _ _ _ _ _ _ hT0, cell_of_row _ _ _ _ _ _ hT0, cell_of_row _ _ _ _ _ _ hT0, cell_of_row _ _ _ _ _ _ hT0⟩
 have HCD := Lib.hid (PSyntaxEvents.parse_code.calls t.f0 t.f1 t.f2.f0 t.f2.f1 t.f2.f2 t.f3 (codeOf t) W0 (code_some t))
 clear hr hP hs hes hd hE h1 h2 hT0 hW0 hrl
 go_enter Tryz.func29, Tryz.ntmps29
 go_wp2
 rw [HW0.out]
 clear HW0
 go_step3
 go_wp2_with (go_at_call 45; (with_reducible refine Calls.mono HCD.out ?_); rintro e w1 ⟨rfl, hb⟩; have HB1 := Lib.hid hb; clear hb q0 q1 q2 q3 q4 q5)
 go_step3
 have HI0 : Hid (TokI p W0 es (codeOf t) b wc cl vt ve r (s.length + 7) w1 ⟨s, [], d⟩ vt ve) := Lib.hid (by
  obtain ⟨a1, a2, a3, a4⟩ := HBD.out
  exact ⟨HR.out, by simpa using HP0.out.below HB1.out, PStep.below HB1.out, HE.out, by show s.length + 11 * (s.length + 7) ≤ _; omega, by show es.length + 0 + (s.length + 7) ≤ _; omega, by show _ ≤ d; omega, by show d + _ ≤ _; omega⟩)
 go_wp2
 go_loopg [6] (s.length + 7) (fun kq v6 wr => Hid (∃ st vt1 ve1, TokI p W0 es (codeOf t) b wc cl vt ve r kq wr st vt1 ve1))
 case atStart => exact Lib.hid ⟨_, _, _, HI0.out⟩
 case round =>
  obtain ⟨st, vt1, ve1, H⟩ := hrel.out
  cases gk with
  | zero => exact absurd H.run (by simp [turns])
  | succ k =>
   have hrun := H.run
   rw [turns] at hrun
   cases hst : st.todo with
   | nil =>
    have ht := H.at_.todo
    rw [hst] at ht
    obtain ⟨A, cc, hv, -⟩ := row_slice ht
    rw [List.length_nil] at hv
    subst hv
    have hrr : (false, st) = r := by simpa [turn, hst] using hrun
    have htk : token t s d = (120, st) := by unfold token; rw [HR.out, ← hrr]
    obtain ⟨q0, q1, q2, q3, q4, q5⟩ := H.at_.cell
    have HH := Lib.hid H
    have HTK := Lib.hid htk
    clear H ht hrun hrr htk hrel HI0 HCD HR
    go_wp2
    rw [Exit.noGoto_ret]
    go_ret
    unfold TokPost
    rw [HTK.out]
    exact ⟨rfl, _, _, by simpa using HH.out.at_, HS0.out.trans HH.out.step⟩
   | cons x rest =>
    have ht := H.at_.todo
    rw [hst] at ht
    obtain ⟨g, cap, hv, hcap, hcm, hcells, hpop⟩ := todo_top ht
    subst hv
    obtain ⟨c0, c1, c2, hxc⟩ : ∃ c0 c1 c2, wCells x = [c0, c1, c2] := by cases x <;> exact ⟨_, _, _, rfl⟩
    have HH := Lib.hid H
    have HST := Lib.hid hst
    have HRUN := Lib.hid hrun
    have HXC := Lib.hid hxc
    have HPOP := Lib.hid hpop
    have HCAP := Lib.hid (And.intro hcap hcm)
    have HCL := Lib.hid hcells
    obtain ⟨q0, q1, q2, q3, q4, q5⟩ := H.at_.cell
    obtain ⟨R, hR⟩ : ∃ R, rest.length = R := ⟨_, rfl⟩
    rw [hR] at q0
    have HRR := Lib.hid hR
    have g0 : (0 : Int) < ((R + 1 : Nat) : Int) := by omega
    have g1 : (0 : Int) < (R : Int) + 1 := by omega
    have g2 : (0 : Int) ≤ (R : Int) := by omega
    have g3 : (R : Int) < (R : Int) + 1 := by omega
    have g4 : IntKind.i64.wrap (R : Int) = (R : Int) := by rw [IntKind.wrap_i64]; have := HH.out.bt; rw [HST.out, List.length_cons, HRR.out] at this; omega
    clear H ht hrun hst hxc hpop hcap hcm hcells hR hrel HI0 HCD
    go_upto_region 3 with (fail)
    obtain ⟨Wd, hWd⟩ : ∃ V, wr.drew = V := ⟨_, rfl⟩
    have hbd : Below wr.heap.size wr Wd := by rw [← hWd]; exact (Below.refl _ wr).drew
    have hSall : ∀ V, Below wr.heap.size wr V → V.cell? ⟨p, 0, none⟩ = some (.slice (some ⟨g, 0, none⟩) (R + 1) cap) ∧ V.cell? ⟨g, R * 3, none⟩ = some c0 ∧ V.cell? ⟨g, R * 3 + 1, none⟩ = some c1 ∧ V.cell? ⟨g, R * 3 + 2, none⟩ = some c2 := fun V hV => by
     have h0 := HCL.out 0 c0 (by rw [HXC.out]; rfl)
     have h1 := HCL.out 1 c1 (by rw [HXC.out]; rfl)
     have h2 := HCL.out 2 c2 (by rw [HXC.out]; rfl)
     rw [HRR.out] at h0 h1 h2
     exact ⟨pw_cell_below hV q0, pw_cell_below hV h0.1, pw_cell_below hV h1.1, pw_cell_below hV h2.1⟩
    have HSA := Lib.hid hSall
    have HS := Lib.hid (hSall Wd hbd)
    have HBD3 := Lib.hid hbd
    have HWd := Lib.hid hWd
    clear hSall hbd hWd
    refine wp_region_R (fun w' => w'.cell? ⟨p, 0, none⟩ = some (.slice (some ⟨g, 0, none⟩) (R + 1) cap) ∧ w'.cell? ⟨g, R * 3, none⟩ = some c0 ∧ w'.cell? ⟨g, R * 3 + 1, none⟩ = some c1 ∧ w'.cell? ⟨g, R * 3 + 2, none⟩ = some c2) (fun j => !(Nat.beq j 13)) (by kernel_rfl) ?_
    rw [HWd.out]
    refine anyR_take (i := 0) (oi := ⟨some 15, .move (.tmp 0), 39, "parse.go:124", #[], none⟩) (v := ?_) rfl (by kernel_rfl) (fun _ _ _ h => h) (Or.inl ⟨by rfl, ?_⟩) HS.out ?_
    rotate_left
    ·intro x h; (try dsimp only at h); go_simp; try (with_reducible rfl)
    try simp only [Act.put, List.setIfInBounds_toArray, List.set]
    refine anyR_take (i := 1) (oi := ⟨some 16, .nilCheck (.tmp 15), 0, "parse.go:124", #[⟨0, .data⟩], none⟩) (v := ?_) rfl (by kernel_rfl) (fun _ _ _ h => h) (Or.inl ⟨by rfl, ?_⟩) HS.out ?_
    rotate_left
    ·intro x h; (try dsimp only at h); go_simp; try (with_reducible rfl)
    try simp only [Act.put, List.setIfInBounds_toArray, List.set]
    refine anyR_take (i := 2) (oi := ⟨some 17, .fieldAddr 72 (.tmp 16) 0, 0, "parse.go:124", #[⟨1, .data⟩], none⟩) (v := ?_) rfl (by kernel_rfl) (fun _ _ _ h => h) (Or.inl ⟨by rfl, ?_⟩) HS.out ?_
    rotate_left
    ·intro x h; (try dsimp only at h); go_simp; try (with_reducible rfl)
    try simp only [Act.put, List.setIfInBounds_toArray, List.set]
    refine anyR_take (i := 3) (oi := ⟨some 18, .load 70 (.tmp 17), 70, "parse.go:124", #[⟨2, .data⟩], none⟩) (v := ?_) rfl (by kernel_rfl) (fun _ _ _ h => h) (Or.inl ⟨by rfl, ?_⟩) HS.out ?_
    rotate_left
    ·intro x h; (try dsimp only at h); go_simp; try (with_reducible rfl)
    try simp only [Act.put, List.setIfInBounds_toArray, List.set]
    refine anyR_take (i := 4) (oi := ⟨some 19, .move (.tmp 0), 39, "parse.go:124", #[], none⟩) (v := ?_) rfl (by kernel_rfl) (fun _ _ _ h => h) (Or.inl ⟨by rfl, ?_⟩) HS.out ?_
    rotate_left
    ·intro x h; (try dsimp only at h); go_simp; try (with_reducible rfl)
    try simp only [Act.put, List.setIfInBounds_toArray, List.set]
    refine anyR_take (i := 5) (oi := ⟨some 20, .nilCheck (.tmp 19), 0, "parse.go:124", #[⟨4, .data⟩], none⟩) (v := ?_) rfl (by kernel_rfl) (fun _ _ _ h => h) (Or.inl ⟨by rfl, ?_⟩) HS.out ?_
    rotate_left
    ·intro x h; (try dsimp only at h); go_simp; try (with_reducible rfl)
    try simp only [Act.put, List.setIfInBounds_toArray, List.set]
    refine anyR_take (i := 6) (oi := ⟨some 21, .fieldAddr 72 (.tmp 20) 0, 0, "parse.go:124", #[⟨5, .data⟩], none⟩) (v := ?_) rfl (by kernel_rfl) (fun _ _ _ h => h) (Or.inl ⟨by rfl, ?_⟩) HS.out ?_
    rotate_left
    ·intro x h; (try dsimp only at h); go_simp; try (with_reducible rfl)
    try simp only [Act.put, List.setIfInBounds_toArray, List.set]
    refine anyR_take (i := 7) (oi := ⟨some 22, .load 70 (.tmp 21), 70, "parse.go:124", #[⟨6, .data⟩], none⟩) (v := ?_) rfl (by kernel_rfl) (fun _ _ _ h => h) (Or.inl ⟨by rfl, ?_⟩) HS.out ?_
    rotate_left
    ·intro x h; (try dsimp only at h); go_simp; try (with_reducible rfl)
    try simp only [Act.put, List.setIfInBounds_toArray, List.set]
    refine anyR_take (i := 8) (oi := ⟨some 23, .call { callee := .builtin .len, args := #[.tmp 22], argTypes := #[70] }, 3, "parse.go:124", #[⟨7, .data⟩], none⟩) (v := ?_) rfl (by kernel_rfl) (fun _ _ _ h => h) (Or.inl ⟨by rfl, ?_⟩) HS.out ?_
    rotate_left
    ·intro x h; (try dsimp only at h); go_simp; try (with_reducible rfl)
    try simp only [Act.put, List.setIfInBounds_toArray, List.set]
    refine anyR_take (i := 9) (oi := ⟨some 24, .binOp .sub 3 (.tmp 23) (.const (.int .i64 1)) 3, 3, "parse.go:124", #[⟨8, .data⟩], none⟩) (v := ?_) rfl (by kernel_rfl) (fun _ _ _ h => h) (Or.inl ⟨by rfl, ?_⟩) HS.out ?_
    rotate_left
    ·intro x h; (try dsimp only at h); go_simp; try (with_reducible rfl)
    try simp only [Act.put, List.setIfInBounds_toArray, List.set]
    refine anyR_take (i := 10) (oi := ⟨some 25, .indexAddr 70 (.tmp 18) (.tmp 24), 0, "parse.go:124", #[⟨3, .data⟩, ⟨9, .data⟩], none⟩) (v := ?_) rfl (by kernel_rfl) (fun _ _ _ h => h) (Or.inl ⟨by rfl, ?_⟩) HS.out ?_
    rotate_left
    ·intro x h; (try dsimp only at h); go_simp; try (with_reducible rfl)
    try simp only [Act.put, List.setIfInBounds_toArray, List.set]
    refine anyR_take (i := 11) (oi := ⟨some 26, .load 76 (.tmp 25), 76, "parse.go:124", #[⟨10, .data⟩], none⟩) (v := ?_) rfl (by kernel_rfl) (fun _ _ _ h => h) (Or.inl ⟨by rfl, ?_⟩) HS.out ?_
    rotate_left
    ·intro x h; (try dsimp only at h); go_simp; try (with_reducible rfl)
    try simp only [Act.put, List.setIfInBounds_toArray, List.set]
    refine anyR_ready (rs := [12]) (by kernel_rfl) (by simp) ?_
    refine ReadyR.cons (o := ⟨some 6, .alloc 76, 0, "parse.go:124", #[], none⟩) rfl (fun K hK => ?_) ReadyR.nil
    go_simp
    refine hK.out _ _ (fun _ => HSA.out _ (HBD3.out.alloc HBD3.out.size _)) ?_
    clear hK K
    obtain ⟨⟨cur, hcur, hfit⟩, hbx⟩ := box_new HBD3.out 76 [.string ⟨#[]⟩, .int .u8 0, .nilFunc] [c0, c1, c2] rfl
    have HCU := Lib.hid (And.intro hcur hfit)
    have HBX := Lib.hid hbx
    clear hcur hfit hbx
    try simp only [Act.put, List.setIfInBounds_toArray, List.set]
    refine anyR_ready (rs := [13]) (by kernel_rfl) (by simp) ?_
    refine ReadyR.cons (o := ⟨none, .store 76 (.tmp 6) (.tmp 26), 0, "parse.go:124", #[⟨12, .data⟩, ⟨11, .data⟩, ⟨0, .phase⟩, ⟨1, .phase⟩, ⟨2, .phase⟩, ⟨3, .phase⟩, ⟨4, .phase⟩, ⟨5, .phase⟩, ⟨6, .phase⟩, ⟨7, .phase⟩, ⟨8, .phase⟩, ⟨9, .phase⟩, ⟨10, .phase⟩, ⟨11, .phase⟩, ⟨12, .phase⟩], none⟩) rfl (fun K hK => ?_) ReadyR.nil
    refine step_store rfl rfl 76 (.tmp 6) (.tmp 26) rfl (g := Wd.heap.size) (off := 0) (.agg #[c0, c1, c2]) [c0, c1, c2] rfl rfl rfl (by kernel_rfl) (fun v hv => wCells_one x v (by rw [HXC.out]; exact hv)) HCU.out.1 HCU.out.2 ?_
    have HN := Lib.hid (HBX.out _ rfl)
    refine hK.out _ _ (fun h => by cases h) ?_
    clear hK K HBX HCU HSA HS
    generalize (Wd.alloc (.cells [Value.string ⟨#[]⟩, .int .u8 0, .nilFunc].toArray 76)).setCells Wd.heap.size 0 [c0, c1, c2] = V3 at HN ⊢
    try simp only [Act.put, List.setIfInBounds_toArray, List.set]
    refine anyR_done (by kernel_rfl) ?_ _
    have HP3 := Lib.hid (HH.out.at_.below HN.out.1)
    clear q0 q1 q2 q3 q4 q5
    obtain ⟨q0, q1, q2, q3, q4, q5⟩ := HP3.out.cell
    rw [HRR.out] at q0
    have g5 : (R : Int) ≤ (cap : Int) := by have := HCAP.out.1; rw [HRR.out] at this; omega
    go_upto_region 4 with (fail)
    obtain ⟨W4, hW4⟩ : ∃ V, V3.drew = V := ⟨_, rfl⟩
    have hb4 : Below V3.heap.size V3 W4 := by rw [← hW4]; exact (Below.refl _ V3).drew
    have HB4 := Lib.hid hb4
    have HW4 := Lib.hid hW4
    have hS4 : W4.cell? ⟨p, 0, none⟩ = some (.slice (some ⟨g, 0, none⟩) (R + 1) cap) := pw_cell_below hb4 q0
    have HS4 := Lib.hid hS4
    clear hb4 hW4 hS4
    refine wp_region_R (fun w' => w'.cell? ⟨p, 0, none⟩ = some (.slice (some ⟨g, 0, none⟩) (R + 1) cap)) (fun j => !(Nat.beq j 14)) (by kernel_rfl) ?_
    rw [HW4.out]
    refine anyR_take (i := 0) (oi := ⟨some 27, .move (.tmp 0), 39, "parse.go:125", #[], none⟩) (v := ?_) rfl (by kernel_rfl) (fun _ _ _ h => h) (Or.inl ⟨by rfl, ?_⟩) HS4.out ?_
    rotate_left
    ·intro x h; (try dsimp only at h); go_simp; try (with_reducible rfl)
    try simp only [Act.put, List.setIfInBounds_toArray, List.set]
    refine anyR_take (i := 1) (oi := ⟨some 28, .move (.tmp 0), 39, "parse.go:125", #[], none⟩) (v := ?_) rfl (by kernel_rfl) (fun _ _ _ h => h) (Or.inl ⟨by rfl, ?_⟩) HS4.out ?_
    rotate_left
    ·intro x h; (try dsimp only at h); go_simp; try (with_reducible rfl)
    try simp only [Act.put, List.setIfInBounds_toArray, List.set]
    refine anyR_take (i := 2) (oi := ⟨some 29, .nilCheck (.tmp 28), 0, "parse.go:125", #[⟨1, .data⟩], none⟩) (v := ?_) rfl (by kernel_rfl) (fun _ _ _ h => h) (Or.inl ⟨by rfl, ?_⟩) HS4.out ?_
    rotate_left
    ·intro x h; (try dsimp only at h); go_simp; try (with_reducible rfl)
    try simp only [Act.put, List.setIfInBounds_toArray, List.set]
    refine anyR_take (i := 3) (oi := ⟨some 30, .fieldAddr 72 (.tmp 29) 0, 0, "parse.go:125", #[⟨2, .data⟩], none⟩) (v := ?_) rfl (by kernel_rfl) (fun _ _ _ h => h) (Or.inl ⟨by rfl, ?_⟩) HS4.out ?_
    rotate_left
    ·intro x h; (try dsimp only at h); go_simp; try (with_reducible rfl)
    try simp only [Act.put, List.setIfInBounds_toArray, List.set]
    refine anyR_take (i := 4) (oi := ⟨some 31, .load 70 (.tmp 30), 70, "parse.go:125", #[⟨3, .data⟩], none⟩) (v := ?_) rfl (by kernel_rfl) (fun _ _ _ h => h) (Or.inl ⟨by rfl, ?_⟩) HS4.out ?_
    rotate_left
    ·intro x h; (try dsimp only at h); go_simp; try (with_reducible rfl)
    try simp only [Act.put, List.setIfInBounds_toArray, List.set]
    refine anyR_take (i := 5) (oi := ⟨some 32, .move (.tmp 0), 39, "parse.go:125", #[], none⟩) (v := ?_) rfl (by kernel_rfl) (fun _ _ _ h => h) (Or.inl ⟨by rfl, ?_⟩) HS4.out ?_
    rotate_left
    ·intro x h; (try dsimp only at h); go_simp; try (with_reducible rfl)
    try simp only [Act.put, List.setIfInBounds_toArray, List.set]
    refine anyR_take (i := 6) (oi := ⟨some 33, .nilCheck (.tmp 32), 0, "parse.go:125", #[⟨5, .data⟩], none⟩) (v := ?_) rfl (by kernel_rfl) (fun _ _ _ h => h) (Or.inl ⟨by rfl, ?_⟩) HS4.out ?_
    rotate_left
    ·intro x h; (try dsimp only at h); go_simp; try (with_reducible rfl)
    try simp only [Act.put, List.setIfInBounds_toArray, List.set]
    refine anyR_take (i := 7) (oi := ⟨some 34, .fieldAddr 72 (.tmp 33) 0, 0, "parse.go:125", #[⟨6, .data⟩], none⟩) (v := ?_) rfl (by kernel_rfl) (fun _ _ _ h => h) (Or.inl ⟨by rfl, ?_⟩) HS4.out ?_
    rotate_left
    ·intro x h; (try dsimp only at h); go_simp; try (with_reducible rfl)
    try simp only [Act.put, List.setIfInBounds_toArray, List.set]
    refine anyR_take (i := 8) (oi := ⟨some 35, .load 70 (.tmp 34), 70, "parse.go:125", #[⟨7, .data⟩], none⟩) (v := ?_) rfl (by kernel_rfl) (fun _ _ _ h => h) (Or.inl ⟨by rfl, ?_⟩) HS4.out ?_
    rotate_left
    ·intro x h; (try dsimp only at h); go_simp; try (with_reducible rfl)
    try simp only [Act.put, List.setIfInBounds_toArray, List.set]
    refine anyR_take (i := 9) (oi := ⟨some 36, .call { callee := .builtin .len, args := #[.tmp 35], argTypes := #[70] }, 3, "parse.go:125", #[⟨8, .data⟩], none⟩) (v := ?_) rfl (by kernel_rfl) (fun _ _ _ h => h) (Or.inl ⟨by rfl, ?_⟩) HS4.out ?_
    rotate_left
    ·intro x h; (try dsimp only at h); go_simp; try (with_reducible rfl)
    try simp only [Act.put, List.setIfInBounds_toArray, List.set]
    refine anyR_take (i := 10) (oi := ⟨some 37, .binOp .sub 3 (.tmp 36) (.const (.int .i64 1)) 3, 3, "parse.go:125", #[⟨9, .data⟩], none⟩) (v := ?_) rfl (by kernel_rfl) (fun _ _ _ h => h) (Or.inl ⟨by rfl, ?_⟩) HS4.out ?_
    rotate_left
    ·intro x h; (try dsimp only at h); go_simp; try (with_reducible rfl)
    try simp only [Act.put, List.setIfInBounds_toArray, List.set]
    refine anyR_take (i := 11) (oi := ⟨some 38, .slice 70 (.tmp 31) none (some (.tmp 37)) none, 70, "parse.go:125", #[⟨4, .data⟩, ⟨10, .data⟩], none⟩) (v := ?_) rfl (by kernel_rfl) (fun _ _ _ h => h) (Or.inl ⟨by rfl, ?_⟩) HS4.out ?_
    rotate_left
    ·intro x h; (try dsimp only at h); go_simp; try (with_reducible rfl)
    try simp only [Act.put, List.setIfInBounds_toArray, List.set]
    refine anyR_ready (rs := [12]) (by kernel_rfl) (by simp) ?_
    refine ReadyR.cons (o := ⟨some 39, .nilCheck (.tmp 27), 0, "parse.go:125", #[⟨0, .data⟩, ⟨0, .phase⟩, ⟨1, .phase⟩, ⟨2, .phase⟩, ⟨3, .phase⟩, ⟨4, .phase⟩, ⟨5, .phase⟩, ⟨6, .phase⟩, ⟨7, .phase⟩, ⟨8, .phase⟩, ⟨9, .phase⟩, ⟨10, .phase⟩, ⟨11, .phase⟩], none⟩) rfl (fun K hK => ?_) ReadyR.nil
    go_simp
    refine hK.out _ _ (fun _ => HS4.out) ?_
    clear hK K
    try simp only [Act.put, List.setIfInBounds_toArray, List.set]
    refine anyR_ready (rs := [13]) (by kernel_rfl) (by simp) ?_
    refine ReadyR.cons (o := ⟨some 40, .fieldAddr 72 (.tmp 39) 0, 0, "parse.go:125", #[⟨12, .data⟩, ⟨0, .phase⟩, ⟨1, .phase⟩, ⟨2, .phase⟩, ⟨3, .phase⟩, ⟨4, .phase⟩, ⟨5, .phase⟩, ⟨6, .phase⟩, ⟨7, .phase⟩, ⟨8, .phase⟩, ⟨9, .phase⟩, ⟨10, .phase⟩, ⟨11, .phase⟩], none⟩) rfl (fun K hK => ?_) ReadyR.nil
    go_simp
    refine hK.out _ _ (fun _ => HS4.out) ?_
    clear hK K
    try simp only [Act.put, List.setIfInBounds_toArray, List.set]
    refine anyR_ready (rs := [14]) (by kernel_rfl) (by simp) ?_
    refine ReadyR.cons (o := ⟨none, .store 70 (.tmp 40) (.tmp 38), 0, "parse.go:125", #[⟨13, .data⟩, ⟨11, .data⟩, ⟨0, .phase⟩, ⟨1, .phase⟩, ⟨2, .phase⟩, ⟨3, .phase⟩, ⟨4, .phase⟩, ⟨5, .phase⟩, ⟨6, .phase⟩, ⟨7, .phase⟩, ⟨8, .phase⟩, ⟨9, .phase⟩, ⟨10, .phase⟩, ⟨11, .phase⟩], none⟩) rfl (fun K hK => ?_) ReadyR.nil
    obtain ⟨hA4, hQ4⟩ := (HP3.out.below HB4.out).upd 0 (.slice (some ⟨g, 0, none⟩) R cap) (by decide) (s' := rest) (es' := es ++ st.evs.map evOf) (d' := st.depth) (b' := b) (wr' := wc) (cl' := cl) (vt' := .slice (some ⟨g, 0, none⟩) R cap) (ve' := ve1) rfl (by rw [← HRR.out]; exact own_move HPOP.out (fun q hq => (HN.out.1.trans (HB4.out.mono HN.out.1.size)).block q (own_lt HPOP.out q hq))) (HP3.out.below HB4.out).evs (fun _ h => h) (fun _ h => h)
    have hbx4 : (W4.setCells p 0 [.slice (some ⟨g, 0, none⟩) R cap]).heap[Wd.heap.size]? = some (.cells [c0, c1, c2].toArray 76 (0, 0)) := by
     rw [setCells_far _ 0 _ (fun e => by have := HBD3.out.size; have := blk_lt HH.out.at_.box; omega)]
     exact (HB4.out.block _ (blk_lt HN.out.2)).trans HN.out.2
    have HP4 := Lib.hid hA4
    have HQ4 := Lib.hid (HH.out.step.trans ((PStep.below (HN.out.1.trans (HB4.out.mono HN.out.1.size))).trans hQ4))
    have HX4 := Lib.hid hbx4
    refine step_store rfl rfl 70 (.tmp 40) (.tmp 38) rfl (g := p) (off := 0) (.slice (some ⟨g, 0, none⟩) R cap) [.slice (some ⟨g, 0, none⟩) R cap] rfl rfl rfl (by kernel_rfl) (fun v hv => by rw [List.mem_singleton.1 hv]; rfl) (HP3.out.below HB4.out).box (by simp) ?_
    refine hK.out _ _ (fun h => by cases h) ?_
    clear hK K hA4 hQ4 hbx4 HS4
    generalize W4.setCells p 0 [.slice (some ⟨g, 0, none⟩) R cap] = V4 at HP4 HQ4 HX4 ⊢
    try simp only [Act.put, List.setIfInBounds_toArray, List.set]
    refine anyR_done (by kernel_rfl) ?_ _
    clear q0 q1 q2 q3 q4 q5
    obtain ⟨q0, q1, q2, q3, q4, q5⟩ := HP4.out.cell
    obtain ⟨b0, b1, b2⟩ : V4.cell? ⟨Wd.heap.size, 0, none⟩ = some c0 ∧ V4.cell? ⟨Wd.heap.size, 1, none⟩ = some c1 ∧ V4.cell? ⟨Wd.heap.size, 2, none⟩ = some c2 := ⟨cell_of_row _ _ _ _ _ _ HX4.out, cell_of_row _ _ _ _ _ _ HX4.out, cell_of_row _ _ _ _ _ _ HX4.out⟩
    obtain ⟨Bx, hBx⟩ : ∃ Bx, Wd.heap.size = Bx := ⟨_, rfl⟩
    rw [hBx] at b0 b1 b2 ⊢
    clear hBx HN HP3 HB4 HW4 HWd HX4 HCL
    cases x with
    | word y =>
     obtain ⟨rfl, rfl, rfl⟩ : c0 = .string y ∧ c1 = .int .u8 0 ∧ c2 = .nilFunc := by
      have h := HXC.out
      simp only [wCells, List.cons.injEq, and_true] at h
      exact ⟨h.1.symm, h.2.1.symm, h.2.2.symm⟩
     by_cases hy : y = codeOf t
     ·have ey : (y.toList == (codeOf t).toList) = true := by rw [hy]; exact beq_self_eq_true _
      have hrr : (true, { st with todo := rest }) = r := by
       have h := HRUN.out
       simp only [turn, HST.out, if_pos hy] at h
       simpa using h
      have HRE := Lib.hid hrr
      clear hrr
      have HNE := neq_nil V4
      by_cases hR0 : R = 0
      ·have htk : token t s d = (120, { st with todo := rest }) := by
        unfold token
        rw [HR.out, ← HRE.out]
        simp [List.length_eq_zero_iff.1 (HRR.out.trans hR0)]
       have HTK := Lib.hid htk
       have e0 : ((R : Int) == 0) = true := by rw [beq_iff_eq]; omega
       have e1 : (R : Int) = 0 := by omega
       clear htk
       go_wp2
       rw [Exit.noGoto_ret]
       go_ret
       unfold TokPost
       rw [HTK.out]
       exact ⟨rfl, _, _, by simpa using HP4.out, HS0.out.trans HQ4.out⟩
      have hrn : rest ≠ [] := fun e => hR0 (by rw [← HRR.out, e]; rfl)
      have e0 : ((R : Int) == 0) = false := by rw [beq_eq_false_iff_ne]; omega
      have e1 : ¬ ((R : Int) = 0) := by omega
      by_cases hdp : 1000 < st.depth
      ·have htk : token t s d = (122, { st with todo := rest }) := by
        unfold token
        rw [HR.out, ← HRE.out]
        simp [hrn, hdp]
       have HTK := Lib.hid htk
       have e2 : decide (1000 < st.depth) = true := decide_eq_true hdp
       clear htk
       go_wp2
       rw [Exit.noGoto_ret]
       go_ret
       unfold TokPost
       rw [HTK.out]
       exact ⟨rfl, _, _, by simpa using HP4.out, HS0.out.trans HQ4.out⟩
      have htk : token t s d = (0, { st with todo := rest }) := by
       unfold token
       rw [HR.out, ← HRE.out]
       simp [hrn, hdp]
      have HTK := Lib.hid htk
      have e2 : decide (1000 < st.depth) = false := decide_eq_false hdp
      have HHB := Lib.hid HH.out.be
      clear htk hrn
      have hT4 := HQ4.out.keep HP0.out HT0.out (by decide) (by decide) (by decide)
      have HT4 := Lib.hid hT4
      clear hT4
      go_upto_region 16 with (fail)
      obtain ⟨W6, hW6⟩ : ∃ V, V4.drew = V := ⟨_, rfl⟩
      have hb6 : Below V4.heap.size V4 W6 := by rw [← hW6]; exact (Below.refl _ V4).drew
      have hS6 : ∀ V, Below V4.heap.size V4 V → V.cell? ⟨p, 1, none⟩ = some ve1 ∧ V.cell? ⟨w.heap.size, 0, none⟩ = some (.int .u8 t.f0) ∧ V.cell? ⟨w.heap.size, 1, none⟩ = some (.string t.f1) ∧ V.cell? ⟨w.heap.size, 2, none⟩ = some (.int .i64 t.f2.f0) ∧ V.cell? ⟨w.heap.size, 3, none⟩ = some (.int .i64 t.f2.f1) ∧ V.cell? ⟨w.heap.size, 4, none⟩ = some (.int .i64 t.f2.f2) ∧ V.cell? ⟨w.heap.size, 5, none⟩ = some (.int .i64 t.f3) := fun V hV => ⟨pw_cell_below hV q1, pw_cell_below hV (cell_of_row _ _ _ _ _ _ HT4.out), pw_cell_below hV (cell_of_row _ _ _ _ _ _ HT4.out), pw_cell_below hV (cell_of_row _ _ _ _ _ _ HT4.out), pw_cell_below hV (cell_of_row _ _ _ _ _ _ HT4.out), pw_cell_below hV (cell_of_row _ _ _ _ _ _ HT4.out), pw_cell_below hV (cell_of_row _ _ _ _ _ _ HT4.out)⟩
      have HSA := Lib.hid hS6
      have HS6 := Lib.hid (hS6 W6 hb6)
      have HB6 := Lib.hid hb6
      have HW6 := Lib.hid hW6
      have HP6 := Lib.hid (HP4.out.below hb6)
      clear hS6 hb6 hW6
      refine wp_region_R (fun w' => w'.cell? ⟨p, 1, none⟩ = some ve1 ∧ w'.cell? ⟨w.heap.size, 0, none⟩ = some (.int .u8 t.f0) ∧ w'.cell? ⟨w.heap.size, 1, none⟩ = some (.string t.f1) ∧ w'.cell? ⟨w.heap.size, 2, none⟩ = some (.int .i64 t.f2.f0) ∧ w'.cell? ⟨w.heap.size, 3, none⟩ = some (.int .i64 t.f2.f1) ∧ w'.cell? ⟨w.heap.size, 4, none⟩ = some (.int .i64 t.f2.f2) ∧ w'.cell? ⟨w.heap.size, 5, none⟩ = some (.int .i64 t.f3)) (fun j => !(Nat.beq j 11)) (by kernel_rfl) ?_
      rw [HW6.out]
      refine anyR_take (i := 0) (oi := ⟨some 75, .move (.tmp 0), 39, "parse.go:145", #[], none⟩) (v := ?_) rfl (by kernel_rfl) (fun _ _ _ h => h) (Or.inl ⟨by rfl, ?_⟩) HS6.out ?_
      rotate_left
      ·intro x h; (try dsimp only at h); go_simp; try (with_reducible rfl)
      try simp only [Act.put, List.setIfInBounds_toArray, List.set]
      refine anyR_take (i := 1) (oi := ⟨some 76, .move (.tmp 0), 39, "parse.go:145", #[], none⟩) (v := ?_) rfl (by kernel_rfl) (fun _ _ _ h => h) (Or.inl ⟨by rfl, ?_⟩) HS6.out ?_
      rotate_left
      ·intro x h; (try dsimp only at h); go_simp; try (with_reducible rfl)
      try simp only [Act.put, List.setIfInBounds_toArray, List.set]
      refine anyR_take (i := 2) (oi := ⟨some 77, .nilCheck (.tmp 76), 0, "parse.go:145", #[⟨1, .data⟩], none⟩) (v := ?_) rfl (by kernel_rfl) (fun _ _ _ h => h) (Or.inl ⟨by rfl, ?_⟩) HS6.out ?_
      rotate_left
      ·intro x h; (try dsimp only at h); go_simp; try (with_reducible rfl)
      try simp only [Act.put, List.setIfInBounds_toArray, List.set]
      refine anyR_take (i := 3) (oi := ⟨some 78, .fieldAddr 72 (.tmp 77) 1, 0, "parse.go:145", #[⟨2, .data⟩], none⟩) (v := ?_) rfl (by kernel_rfl) (fun _ _ _ h => h) (Or.inl ⟨by rfl, ?_⟩) HS6.out ?_
      rotate_left
      ·intro x h; (try dsimp only at h); go_simp; try (with_reducible rfl)
      try simp only [Act.put, List.setIfInBounds_toArray, List.set]
      refine anyR_take (i := 4) (oi := ⟨some 79, .load 41 (.tmp 78), 41, "parse.go:145", #[⟨3, .data⟩], none⟩) (v := ?_) rfl (by kernel_rfl) (fun _ _ _ h => h) (Or.inl ⟨by rfl, ?_⟩) HS6.out ?_
      rotate_left
      ·intro x h; (try dsimp only at h); go_simp; try (with_reducible rfl)
      try simp only [Act.put, List.setIfInBounds_toArray, List.set]
      refine anyR_take (i := 5) (oi := ⟨some 80, .load 28 (.tmp 3), 28, "parse.go:145", #[], none⟩) (v := ?_) rfl (by kernel_rfl) (fun _ _ _ h => h) (Or.inl ⟨by rfl, ?_⟩) HS6.out ?_
      rotate_left
      ·intro x h; (try dsimp only at h); go_simp; try (with_reducible rfl)
      try simp only [Act.put, List.setIfInBounds_toArray, List.set]
      refine anyR_take (i := 6) (oi := ⟨some 81, .build 48 #[(0, .const (.int .u8 2)), (2, .tmp 80)], 48, "parse.go:145", #[⟨5, .data⟩], none⟩) (v := ?_) rfl (by kernel_rfl) (fun _ _ _ h => h) (Or.inl ⟨by rfl, ?_⟩) HS6.out ?_
      rotate_left
      ·intro x h; (try dsimp only at h); go_simp; try (with_reducible rfl)
      try simp only [Act.put, List.setIfInBounds_toArray, List.set]
      refine anyR_ready (rs := [7]) (by kernel_rfl) (by simp) ?_
      refine ReadyR.cons (o := ⟨some 82, .buildSlice 41 1 #[(0, .tmp 81)], 41, "parse.go:145", #[⟨6, .data⟩], none⟩) rfl (fun K hK => ?_) ReadyR.nil
      go_simp
      refine hK.out _ _ (fun _ => HSA.out _ (HB6.out.alloc HB6.out.size _)) ?_
      clear hK K
      try simp only [Act.put, List.setIfInBounds_toArray, List.set]
      refine anyR_ready (rs := [8]) (by kernel_rfl) (by simp) ?_
      refine ReadyR.cons (o := ⟨some 83, .call { callee := .builtin .append, args := #[.tmp 79, .tmp 82], argTypes := #[41, 41] }, 41, "parse.go:145", #[⟨4, .data⟩, ⟨7, .data⟩], none⟩) rfl (fun K hK => ?_) ReadyR.nil
      obtain ⟨q9, hq9⟩ : ∃ q9, (es ++ st.evs.map evOf).length = q9 := ⟨_, rfl⟩
      refine step_ev (W := W6) rfl (.tmp 79) (.tmp 82) rfl p (u := ve1) (q := q9) (kc := (es ++ st.evs.map evOf).flatMap evCells) (cs := [.int .u8 2, .int .u8 0, .int .u8 t.f0, .string t.f1, .int .i64 t.f2.f0, .int .i64 t.f2.f1, .int .i64 t.f2.f2, .int .i64 t.f3]) rfl rfl (hq9 ▸ HP6.out.evs) rfl (evCells_one (leafE t)) (Nat.le_of_lt (blk_lt HP6.out.box)) (by have := HHB.out; rw [List.length_append, List.length_map] at hq9; omega) ?_
      intro G1 C1 w6 ho hg hat
      obtain ⟨⟨cur6, hcur, hfit⟩, hnx⟩ := ev_next (e := leafE t) HP6.out (by rw [hq9]; exact ho) hg hat
      rw [hq9] at hnx
      have hpe : ve1.ownBlock ≠ some p := fun e => by
       obtain ⟨cs, hc⟩ := own_typed HP6.out.evs p e
       rw [HP6.out.box] at hc; exact absurd (cells_ty hc) (by decide)
      have hT6 : W6.heap[w.heap.size]? = _ := (HB6.out.block _ (blk_lt HT4.out)).trans HT4.out
      have hpt : some w.heap.size ≠ ve1.ownBlock := fun e => by
       obtain ⟨cs, hc⟩ := own_typed HP6.out.evs w.heap.size e.symm
       rw [hT6] at hc; exact absurd (cells_ty hc) (by decide)
      have hc1 := World.cell?_of_block (a := ⟨p, 1, none⟩) (hg.block p (blk_lt HP6.out.box) (fun e => hpe e.symm))
      have hbT := hg.block w.heap.size (blk_lt hT6) hpt
      have hS7 : w6.cell? ⟨p, 1, none⟩ = some ve1 ∧ w6.cell? ⟨w.heap.size, 0, none⟩ = some (.int .u8 t.f0) ∧ w6.cell? ⟨w.heap.size, 1, none⟩ = some (.string t.f1) ∧ w6.cell? ⟨w.heap.size, 2, none⟩ = some (.int .i64 t.f2.f0) ∧ w6.cell? ⟨w.heap.size, 3, none⟩ = some (.int .i64 t.f2.f1) ∧ w6.cell? ⟨w.heap.size, 4, none⟩ = some (.int .i64 t.f2.f2) ∧ w6.cell? ⟨w.heap.size, 5, none⟩ = some (.int .i64 t.f3) := ⟨hc1.trans HS6.out.1, (World.cell?_of_block hbT).trans HS6.out.2.1, (World.cell?_of_block hbT).trans HS6.out.2.2.1, (World.cell?_of_block hbT).trans HS6.out.2.2.2.1, (World.cell?_of_block hbT).trans HS6.out.2.2.2.2.1, (World.cell?_of_block hbT).trans HS6.out.2.2.2.2.2.1, (World.cell?_of_block hbT).trans HS6.out.2.2.2.2.2.2⟩
      have HS7 := Lib.hid hS7
      have HCU := Lib.hid (And.intro hcur hfit)
      have HNX := Lib.hid hnx
      refine hK.out _ _ (fun _ => hS7) ?_
      clear hK K ho hg hat hpe hT6 hpt hc1 hbT hS7 hcur hfit hnx hq9
      try simp only [Act.put, List.setIfInBounds_toArray, List.set]
      refine anyR_ready (rs := [9]) (by kernel_rfl) (by simp) ?_
      refine ReadyR.cons (o := ⟨some 84, .nilCheck (.tmp 75), 0, "parse.go:145", #[⟨0, .data⟩, ⟨0, .phase⟩, ⟨1, .phase⟩, ⟨2, .phase⟩, ⟨3, .phase⟩, ⟨4, .phase⟩, ⟨5, .phase⟩, ⟨6, .phase⟩, ⟨7, .phase⟩, ⟨8, .phase⟩], none⟩) rfl (fun K hK => ?_) ReadyR.nil
      go_simp
      refine hK.out _ _ (fun _ => HS7.out) ?_
      clear hK K
      try simp only [Act.put, List.setIfInBounds_toArray, List.set]
      refine anyR_ready (rs := [10]) (by kernel_rfl) (by simp) ?_
      refine ReadyR.cons (o := ⟨some 85, .fieldAddr 72 (.tmp 84) 1, 0, "parse.go:145", #[⟨9, .data⟩, ⟨0, .phase⟩, ⟨1, .phase⟩, ⟨2, .phase⟩, ⟨3, .phase⟩, ⟨4, .phase⟩, ⟨5, .phase⟩, ⟨6, .phase⟩, ⟨7, .phase⟩, ⟨8, .phase⟩], none⟩) rfl (fun K hK => ?_) ReadyR.nil
      go_simp
      refine hK.out _ _ (fun _ => HS7.out) ?_
      clear hK K
      try simp only [Act.put, List.setIfInBounds_toArray, List.set]
      refine anyR_ready (rs := [11]) (by kernel_rfl) (by simp) ?_
      refine ReadyR.cons (o := ⟨none, .store 41 (.tmp 85) (.tmp 83), 0, "parse.go:145", #[⟨10, .data⟩, ⟨8, .data⟩, ⟨8, .chain⟩, ⟨0, .phase⟩, ⟨1, .phase⟩, ⟨2, .phase⟩, ⟨3, .phase⟩, ⟨4, .phase⟩, ⟨5, .phase⟩, ⟨6, .phase⟩, ⟨7, .phase⟩, ⟨8, .phase⟩], none⟩) rfl (fun K hK => ?_) ReadyR.nil
      refine step_store rfl rfl 41 (.tmp 85) (.tmp 83) rfl (g := p) (off := 1) (.slice (some ⟨G1, 0, none⟩) (q9 + 1) C1) [.slice (some ⟨G1, 0, none⟩) (q9 + 1) C1] rfl rfl rfl (by kernel_rfl) (fun v hv => by rw [List.mem_singleton.1 hv]; rfl) HCU.out.1 HCU.out.2 ?_
      have HN7 := Lib.hid (HNX.out _ rfl)
      refine hK.out _ _ (fun h => by cases h) ?_
      clear hK K HNX HCU HS7
      generalize w6.setCells p 1 [.slice (some ⟨G1, 0, none⟩) (q9 + 1) C1] = V7 at HN7 ⊢
      try simp only [Act.put, List.setIfInBounds_toArray, List.set]
      refine anyR_done (by kernel_rfl) ?_ _
      clear q0 q1 q2 q3 q4 q5
      go_wp2
      (try rw [Exit.noGoto_ret])
      go_ret
      unfold TokPost
      rw [HTK.out]
      exact ⟨rfl, _, _, by simpa using HN7.out.1, HS0.out.trans (HQ4.out.trans ((PStep.below HB6.out).trans HN7.out.2))⟩
     ·have ey : (y.toList == (codeOf t).toList) = false := by
       rw [beq_eq_false_iff_ne]
       intro e
       apply hy
       have := congrArg List.toArray e
       have h2 : y.data = (codeOf t).data := by simpa [ByteArray.toList_eq] using this
       cases y
       cases hc : codeOf t
       rw [hc] at h2
       simpa using h2
      have hrr : (false, { st with todo := rest }) = r := by
       have h := HRUN.out
       simp only [turn, HST.out, if_neg hy] at h
       simpa using h
      have htk : token t s d = (120, { st with todo := rest }) := by unfold token; rw [HR.out, ← hrr]
      have HTK := Lib.hid htk
      clear hrr htk
      have HNE := neq_nil V4
      go_wp2
      rw [Exit.noGoto_ret]
      go_ret
      unfold TokPost
      rw [HTK.out]
      exact ⟨rfl, _, _, by simpa using HP4.out, HS0.out.trans HQ4.out⟩
    | fin kk =>
     obtain ⟨rfl, rfl, rfl⟩ : c0 = .string ⟨#[]⟩ ∧ c1 = .int .u8 kk ∧ c2 = .nilFunc := by
      have h := HXC.out
      simp only [wCells, List.cons.injEq, and_true] at h
      exact ⟨h.1.symm, h.2.1.symm, h.2.2.symm⟩
     have hk0 : kk ≠ 0 := HH.out.ends kk (by rw [HST.out]; exact List.mem_cons_self)
     have hkk : ((kk : Int) != 0) = true := by rw [bne_iff_ne]; omega
     have hkd : ¬ ((kk : Int) = 0) := by omega
     have HNE := neq_nil V4
     have hbd4 := HH.out.bd1
     have hbe4 := HH.out.be
     have hbd5 := HH.out.bd2
     have HCL := Lib.hid (close_any p kk rest (es ++ st.evs.map evOf) st.depth b wc cl _ ve1 V4 HP4.out (by rw [List.length_append, List.length_map]; omega) (by omega))
     clear hbd4 hbe4 hbd5
     go_wp2_with (go_at_call 30; (with_reducible refine Calls.mono HCL.out ?_); rintro e w5 ⟨rfl, ve5, hP5, hs5⟩; have HP5 := Lib.hid hP5; have HS5 := Lib.hid (HQ4.out.trans hs5); clear hP5 hs5)
     go_roundg k
     case measure => omega
     case rel =>
      refine Lib.hid ⟨{ todo := rest, evs := st.evs ++ [(3, kk)], depth := st.depth - 1 }, _, _, ?_, by simpa using HP5.out, HS5.out, ?_, ?_, ?_, ?_, ?_⟩
      ·have h := HRUN.out
       simp only [turn, HST.out] at h
       exact h
      ·have h := HH.out.ends
       rw [HST.out] at h
       exact h.tail
      ·have h := HH.out.bt
       rw [HST.out, List.length_cons] at h
       show rest.length + 11 * k ≤ _
       omega
      ·have h := HH.out.be
       show es.length + (st.evs ++ [(3, kk)]).length + k ≤ _
       rw [List.length_append, List.length_singleton]
       omega
      ·have h := HH.out.bd1
       show _ ≤ st.depth - 1
       omega
      ·have h := HH.out.bd2
       show st.depth - 1 + _ ≤ _
       omega
    | rule f =>
     obtain ⟨rfl, rfl, rfl⟩ : c0 = .string ⟨#[]⟩ ∧ c1 = .int .u8 0 ∧ c2 = .func (.func f.num) #[] #[] := by
      have h := HXC.out
      simp only [wCells, List.cons.injEq, and_true] at h
      exact ⟨h.1.symm, h.2.1.symm, h.2.2.symm⟩
     have HNE := neq_func (.func f.num) #[] #[] V4
     have hrl := rule_all f (codeOf t) p rest (es ++ st.evs.map evOf) st.depth b wc cl _ ve1 V4 HP4.out (by
      have h1 := HH.out.bt
      have h2 := HH.out.be
      have h3 := HH.out.bd1
      have h4 := HH.out.bd2
      rw [HST.out, List.length_cons] at h1
      exact ⟨by omega, by rw [List.length_append, List.length_map]; omega, by omega, by omega⟩)
     unfold RulePost at hrl
     cases hex : f.expand (codeOf t) with
     | none =>
      rw [hex] at hrl
      dsimp only at hrl
      have HRL := Lib.hid hrl
      have hrr : (false, { st with todo := rest }) = r := by
       have h := HRUN.out
       simp only [turn, HST.out, hex] at h
       simpa using h
      have htk : token t s d = (120, { st with todo := rest }) := by unfold token; rw [HR.out, ← hrr]
      have HTK := Lib.hid htk
      clear hrr htk hrl hex
      have HEN := rule_enter f #[.pointer (some ⟨p, 0, none⟩), .string (codeOf t)] V4
      go_wp2_with ((with_reducible refine Calls.mono HRL.out ?_); rintro e w5 ⟨rfl, hP5, hs5⟩; have HP5 := Lib.hid hP5; have HS5 := Lib.hid (HQ4.out.trans hs5); clear hP5 hs5)
      rw [Exit.noGoto_ret]
      go_ret
      unfold TokPost
      rw [HTK.out]
      exact ⟨rfl, _, _, by simpa using HP5.out, HS0.out.trans HS5.out⟩
     | some l =>
      rw [hex] at hrl
      dsimp only at hrl
      have HRL := Lib.hid hrl
      have HEX := Lib.hid hex
      clear hrl hex
      have HEN := rule_enter f #[.pointer (some ⟨p, 0, none⟩), .string (codeOf t)] V4
      go_wp2_with ((with_reducible refine Calls.mono HRL.out ?_); rintro e w5 ⟨rfl, vt5, ve5, hP5, hs5⟩; have HP5 := Lib.hid hP5; have HS5 := Lib.hid (HQ4.out.trans hs5); clear hP5 hs5)
      go_roundg k
      case measure => omega
      case rel =>
       have hon : turn (codeOf t) st = .on (effs { st with todo := rest } l) := by simp only [turn, HST.out, HEX.out]
       have hln := turn_len hon
       refine Lib.hid ⟨effs { st with todo := rest } l, _, _, ?_, ?_, HS5.out, turn_ends hon HH.out.ends, ?_, ?_, ?_, ?_⟩
       ·have h := HRUN.out
        rw [hon] at h
        exact h
       ·rw [effs_evs0]
        simpa using HP5.out
       ·have h := HH.out.bt
        omega
       ·have h := HH.out.be
        omega
       ·have h := HH.out.bd1
        omega
       ·have h := HH.out.bd2
        omega
end Go.Proofs.YtmjbpgnjgblnmaaGreat
