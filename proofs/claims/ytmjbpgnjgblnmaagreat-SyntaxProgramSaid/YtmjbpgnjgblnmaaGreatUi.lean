/- What the claim stands on: part Ui. -/
import Derived.Test.YtmjbpgnjgblnmaaGreatUh
import Derived.Test.YtmjbpgnjgblnmaaGreatUg
import Derived.Test.YtmjbpgnjgblnmaaGreatUc
import Derived.Test.YtmjbpgnjgblnmaaGreatUb
import Derived.Lib.Hide
set_option maxRecDepth 100000
set_option maxHeartbeats 8000000
set_option linter.unusedVariables false
set_option linter.unusedSimpArgs false
namespace Go.Proofs.YtmjbpgnjgblnmaaGreat
open Go.RowKit Go.Proofs.YtmjbpgnjgblnmaaGreatW.PrintWords Go.Proofs.YtmjbpgnjgblnmaaGreatW.PrintLast Go.Proofs.YtmjbpgnjgblnmaaGreatW.PrintMore
theorem yes_elif {cc : ByteArray} (h : inL cc [⟨#[101, 108, 105, 102]⟩] = true) : RId.expand .r_elses cc = some [.push [.word ⟨#[101, 108, 105, 102]⟩, .rule .r_expr, .word ⟨#[116, 104, 101, 110]⟩, .rule .r_body, .rule .r_elses]] := by
 rw [one_of h]
 rfl
theorem yes_elses {cc : ByteArray} (h : inL cc [⟨#[101, 108, 115, 101]⟩] = true) : RId.expand .r_elses cc = some [.push [.word ⟨#[101, 108, 115, 101]⟩, .rule .r_body]] := by
 rw [one_of h]
 rfl
theorem no_elses {cc : ByteArray} (h0 : inL cc [⟨#[101, 108, 105, 102]⟩] = false) (h : inL cc [⟨#[101, 108, 115, 101]⟩] = false) : RId.expand .r_elses cc = some [] := by
 simp only [RId.expand]
 rw [if_neg (none_of h0 _ List.mem_cons_self), if_neg (none_of h _ List.mem_cons_self)]
theorem g_choice (l : List Tk) (N : Nat) (G_expr : Good l N 65 [.rule .r_expr]) (G_body : Good l N 51 [.rule .r_body]) : Good l N 97 [.word ⟨#[105, 102]⟩, .rule .r_expr, .word ⟨#[116, 104, 101, 110]⟩, .rule .r_body, .rule .r_elses, .word ⟨#[101, 110, 100]⟩] := by
 intro n hn W0 A c w0 p i d out ve r H hr
 show Calls Tryz.prog 97 _ w0 _
 have HP0 := zh H
 have HNN := zh hn
 have HS0 := zh (PStep.refl p (.slice none 0 0) ve w0)
 have hr0 : srun l n ⟨([.word ⟨#[105, 102]⟩] ++ ([.rule .r_expr] ++ ([.word ⟨#[116, 104, 101, 110]⟩] ++ ([.rule .r_body] ++ [.rule .r_elses, .word ⟨#[101, 110, 100]⟩])))), i, d, out⟩ = some r := hr
 clear H hn hr
 rcases srun_app l n [.word ⟨#[105, 102]⟩] ([.rule .r_expr] ++ ([.word ⟨#[116, 104, 101, 110]⟩] ++ ([.rule .r_body] ++ [.rule .r_elses, .word ⟨#[101, 110, 100]⟩]))) i d out r hr0 with ⟨er, jj, rfl, h1⟩ | ⟨i1, d1, out1, h1, hr1⟩
 ·skip
  have HX1 := zh h1
  have HC1 := zh (words_new HP0.out [⟨#[105, 102]⟩] 1 [.string ⟨#[105, 102]⟩] rfl rfl (by decide) (by decide) HX1.out)
  clear h1
  (try clear hr)
  go_enter Tryz.func97, Tryz.ntmps97
  go_wp2_with (first
   | (go_at_call 36; (with_reducible refine cM HC1.out ?_); rintro e w1 ⟨rfl, ve1, h3⟩; have HS1 := zh (HS0.out.trans h3); clear h3))
  exact ⟨rfl, rfl, ve1, HS1.out⟩
 ·skip
  rcases srun_app l n [.rule .r_expr] ([.word ⟨#[116, 104, 101, 110]⟩] ++ ([.rule .r_body] ++ [.rule .r_elses, .word ⟨#[101, 110, 100]⟩])) i1 d1 out1 r hr1 with ⟨er, jj, rfl, h2⟩ | ⟨i2, d2, out2, h2, hr2⟩
  ·skip
   have HX1 := zh h1; have HX2 := zh h2
   have HC1 := zh (words_new HP0.out [⟨#[105, 102]⟩] 1 [.string ⟨#[105, 102]⟩] rfl rfl (by decide) (by decide) HX1.out)
   clear h1 h2
   (try clear hr)
   go_enter Tryz.func97, Tryz.ntmps97
   go_wp2_with (first
    | (go_at_call 36; (with_reducible refine cM HC1.out ?_); rintro e w1 ⟨rfl, ve1, h2, h3⟩; have HP1 := zh h2; have HS1 := zh (HS0.out.trans h3); have HC2 := zh (G_expr n HNN.out W0 A c w1 p i1 d1 out1 ve1 _ HP1.out HX2.out); clear h2 h3)
    | (go_at_call 65; (with_reducible refine cM HC2.out ?_); rintro e w2 ⟨rfl, ve2, h3⟩; have HS2 := zh (HS1.out.trans h3); clear h3))
   exact ⟨rfl, rfl, ve2, HS2.out⟩
  ·skip
   rcases srun_app l n [.word ⟨#[116, 104, 101, 110]⟩] ([.rule .r_body] ++ [.rule .r_elses, .word ⟨#[101, 110, 100]⟩]) i2 d2 out2 r hr2 with ⟨er, jj, rfl, h3⟩ | ⟨i3, d3, out3, h3, hr3⟩
   ·skip
    have HX1 := zh h1; have HX2 := zh h2; have HX3 := zh h3
    have HC1 := zh (words_new HP0.out [⟨#[105, 102]⟩] 1 [.string ⟨#[105, 102]⟩] rfl rfl (by decide) (by decide) HX1.out)
    clear h1 h2 h3
    (try clear hr)
    go_enter Tryz.func97, Tryz.ntmps97
    go_wp2_with (first
     | (go_at_call 36; (with_reducible refine cM HC1.out ?_); rintro e w1 ⟨rfl, ve1, h2, h3⟩; have HP1 := zh h2; have HS1 := zh (HS0.out.trans h3); have HC2 := zh (G_expr n HNN.out W0 A c w1 p i1 d1 out1 ve1 _ HP1.out HX2.out); clear h2 h3)
     | (go_at_call 65; (with_reducible refine cM HC2.out ?_); rintro e w2 ⟨rfl, ve2, h2, h3⟩; have HP2 := zh h2; have HS2 := zh (HS1.out.trans h3); have HC3 := zh (words_new HP2.out [⟨#[116, 104, 101, 110]⟩] 1 [.string ⟨#[116, 104, 101, 110]⟩] rfl rfl (by decide) (by decide) HX3.out); clear h2 h3)
     | (go_at_call 36; (with_reducible refine cM HC3.out ?_); rintro e w3 ⟨rfl, ve3, h3⟩; have HS3 := zh (HS2.out.trans h3); clear h3))
    exact ⟨rfl, rfl, ve3, HS3.out⟩
   ·skip
    rcases srun_app l n [.rule .r_body] [.rule .r_elses, .word ⟨#[101, 110, 100]⟩] i3 d3 out3 r hr3 with ⟨er, jj, rfl, h4⟩ | ⟨i4, d4, out4, h4, hr4⟩
    ·skip
     have HX1 := zh h1; have HX2 := zh h2; have HX3 := zh h3; have HX4 := zh h4
     have HC1 := zh (words_new HP0.out [⟨#[105, 102]⟩] 1 [.string ⟨#[105, 102]⟩] rfl rfl (by decide) (by decide) HX1.out)
     clear h1 h2 h3 h4
     (try clear hr)
     go_enter Tryz.func97, Tryz.ntmps97
     go_wp2_with (first
      | (go_at_call 36; (with_reducible refine cM HC1.out ?_); rintro e w1 ⟨rfl, ve1, h2, h3⟩; have HP1 := zh h2; have HS1 := zh (HS0.out.trans h3); have HC2 := zh (G_expr n HNN.out W0 A c w1 p i1 d1 out1 ve1 _ HP1.out HX2.out); clear h2 h3)
      | (go_at_call 65; (with_reducible refine cM HC2.out ?_); rintro e w2 ⟨rfl, ve2, h2, h3⟩; have HP2 := zh h2; have HS2 := zh (HS1.out.trans h3); have HC3 := zh (words_new HP2.out [⟨#[116, 104, 101, 110]⟩] 1 [.string ⟨#[116, 104, 101, 110]⟩] rfl rfl (by decide) (by decide) HX3.out); clear h2 h3)
      | (go_at_call 36; (with_reducible refine cM HC3.out ?_); rintro e w3 ⟨rfl, ve3, h2, h3⟩; have HP3 := zh h2; have HS3 := zh (HS2.out.trans h3); have HC4 := zh (G_body n HNN.out W0 A c w3 p i3 d3 out3 ve3 _ HP3.out HX4.out); clear h2 h3)
      | (go_at_call 51; (with_reducible refine cM HC4.out ?_); rintro e w4 ⟨rfl, ve4, h3⟩; have HS4 := zh (HS3.out.trans h3); clear h3))
     exact ⟨rfl, rfl, ve4, HS4.out⟩
    ·skip
     have HRJ := zh hr4
     clear hr4
     have HX1 := zh h1; have HX2 := zh h2; have HX3 := zh h3; have HX4 := zh h4
     have HC1 := zh (words_new HP0.out [⟨#[105, 102]⟩] 1 [.string ⟨#[105, 102]⟩] rfl rfl (by decide) (by decide) HX1.out)
     clear h1 h2 h3 h4
     (try clear hr)
     go_enter Tryz.func97, Tryz.ntmps97
     go_wp2_with (first
      | (go_at_call 36; (with_reducible refine cM HC1.out ?_); rintro e w1 ⟨rfl, ve1, h2, h3⟩; have HP1 := zh h2; have HS1 := zh (HS0.out.trans h3); have HC2 := zh (G_expr n HNN.out W0 A c w1 p i1 d1 out1 ve1 _ HP1.out HX2.out); clear h2 h3)
      | (go_at_call 65; (with_reducible refine cM HC2.out ?_); rintro e w2 ⟨rfl, ve2, h2, h3⟩; have HP2 := zh h2; have HS2 := zh (HS1.out.trans h3); have HC3 := zh (words_new HP2.out [⟨#[116, 104, 101, 110]⟩] 1 [.string ⟨#[116, 104, 101, 110]⟩] rfl rfl (by decide) (by decide) HX3.out); clear h2 h3)
      | (go_at_call 36; (with_reducible refine cM HC3.out ?_); rintro e w3 ⟨rfl, ve3, h2, h3⟩; have HP3 := zh h2; have HS3 := zh (HS2.out.trans h3); have HC4 := zh (G_body n HNN.out W0 A c w3 p i3 d3 out3 ve3 _ HP3.out HX4.out); clear h2 h3)
      | (go_at_call 51; (with_reducible refine cM HC4.out ?_); rintro e w4 ⟨rfl, ve4, h2, h3⟩; have HP4 := zh h2; have HS4 := zh (HS3.out.trans h3); clear h2 h3))
     have HI0 : Hid (SAt W0 A c l w4 p i4 d4 out4 ve4 ∧ MStep p ve w0 ve4 w4 ∧ srun l n ⟨(.rule .r_elses :: [.word ⟨#[101, 110, 100]⟩]), i4, d4, out4⟩ = some r) := zh ⟨HP4.out, HS4.out, HRJ.out⟩
     clear HP4 HS4
     clear HRJ
     go_loopg [12] n (fun kq vx wr => Hid (∃ i' d' out' ve', SAt W0 A c l wr p i' d' out' ve' ∧ MStep p ve w0 ve' wr ∧ kq ≤ n ∧ srun l kq ⟨(.rule .r_elses :: [.word ⟨#[101, 110, 100]⟩]), i', d', out'⟩ = some r))
     case atStart => exact zh ⟨_, _, _, _, HI0.out.1, HI0.out.2.1, Nat.le_refl _, HI0.out.2.2⟩
     case round =>
      obtain ⟨i', d', out', ve', hA, hS, hkn, hrun⟩ := hrel.out
      clear HI0 hrel
      cases gk with
      | zero => exact absurd hrun (by simp [srun])
      | succ m =>
       have HPR := zh hA
       have HSR := zh hS
       skip
       have HM1 : Hid (m + 1 ≤ N) := zh (Nat.le_trans hkn HNN.out)
       have HMN : Hid (m ≤ N) := zh (Nat.le_trans (Nat.le_succ m) HM1.out)
       have HKN : Hid (m ≤ n) := zh (Nat.le_trans (Nat.le_succ m) hkn)
       clear hA hS hkn
       by_cases hin5' : inL (cAt l i') [⟨#[101, 108, 105, 102]⟩] = true
       ·have hin5 := hin5'
        clear hin5'
        have hr5 : srun l m ⟨([.word ⟨#[101, 108, 105, 102]⟩] ++ ([.rule .r_expr] ++ ([.word ⟨#[116, 104, 101, 110]⟩] ++ ([.rule .r_body] ++ [.rule .r_elses, .word ⟨#[101, 110, 100]⟩])))), i', d', out'⟩ = some r := round_push (S := [.word ⟨#[101, 110, 100]⟩]) (yes_elif hin5) hrun
        clear hrun
        rcases srun_app l m [.word ⟨#[101, 108, 105, 102]⟩] ([.rule .r_expr] ++ ([.word ⟨#[116, 104, 101, 110]⟩] ++ ([.rule .r_body] ++ [.rule .r_elses, .word ⟨#[101, 110, 100]⟩]))) i' d' out' r hr5 with ⟨er, jj, rfl, h6⟩ | ⟨i6, d6, out6, h6, hr6⟩
        ·skip
         have HX6 := zh h6
         have HI5 := zh hin5
         have HC5 := zh ((by have h := is_new HPR.out [⟨#[101, 108, 105, 102]⟩] 1 [.string ⟨#[101, 108, 105, 102]⟩] rfl rfl (by decide) (by decide); rw [HI5.out] at h; exact h))
         clear h6 hin5
         (try clear hr)
         go_wp2_with (first
          | (go_at_call 47; (with_reducible refine cM HC5.out ?_); rintro e w5 ⟨rfl, hb⟩; have h3 : MStep p ve' wr ve' w5 := PStep.below hb; have HP5 := zh (HPR.out.moved hb); have HS5 := zh (HSR.out.trans h3); have HC6 := zh (words_new HP5.out [⟨#[101, 108, 105, 102]⟩] 1 [.string ⟨#[101, 108, 105, 102]⟩] rfl rfl (by decide) (by decide) HX6.out); clear hb h3)
          | (go_at_call 36; (with_reducible refine cM HC6.out ?_); rintro e w6 ⟨rfl, ve6, h3⟩; have HS6 := zh (HS5.out.trans h3); clear h3))
         exact ⟨rfl, rfl, ve6, HS6.out⟩
        ·skip
         rcases srun_app l m [.rule .r_expr] ([.word ⟨#[116, 104, 101, 110]⟩] ++ ([.rule .r_body] ++ [.rule .r_elses, .word ⟨#[101, 110, 100]⟩])) i6 d6 out6 r hr6 with ⟨er, jj, rfl, h7⟩ | ⟨i7, d7, out7, h7, hr7⟩
         ·skip
          have HX6 := zh h6; have HX7 := zh h7
          have HI5 := zh hin5
          have HC5 := zh ((by have h := is_new HPR.out [⟨#[101, 108, 105, 102]⟩] 1 [.string ⟨#[101, 108, 105, 102]⟩] rfl rfl (by decide) (by decide); rw [HI5.out] at h; exact h))
          clear h6 h7 hin5
          (try clear hr)
          go_wp2_with (first
           | (go_at_call 47; (with_reducible refine cM HC5.out ?_); rintro e w5 ⟨rfl, hb⟩; have h3 : MStep p ve' wr ve' w5 := PStep.below hb; have HP5 := zh (HPR.out.moved hb); have HS5 := zh (HSR.out.trans h3); have HC6 := zh (words_new HP5.out [⟨#[101, 108, 105, 102]⟩] 1 [.string ⟨#[101, 108, 105, 102]⟩] rfl rfl (by decide) (by decide) HX6.out); clear hb h3)
           | (go_at_call 36; (with_reducible refine cM HC6.out ?_); rintro e w6 ⟨rfl, ve6, h2, h3⟩; have HP6 := zh h2; have HS6 := zh (HS5.out.trans h3); have HC7 := zh (G_expr m HMN.out W0 A c w6 p i6 d6 out6 ve6 _ HP6.out HX7.out); clear h2 h3)
           | (go_at_call 65; (with_reducible refine cM HC7.out ?_); rintro e w7 ⟨rfl, ve7, h3⟩; have HS7 := zh (HS6.out.trans h3); clear h3))
          exact ⟨rfl, rfl, ve7, HS7.out⟩
         ·skip
          rcases srun_app l m [.word ⟨#[116, 104, 101, 110]⟩] ([.rule .r_body] ++ [.rule .r_elses, .word ⟨#[101, 110, 100]⟩]) i7 d7 out7 r hr7 with ⟨er, jj, rfl, h8⟩ | ⟨i8, d8, out8, h8, hr8⟩
          ·skip
           have HX6 := zh h6; have HX7 := zh h7; have HX8 := zh h8
           have HI5 := zh hin5
           have HC5 := zh ((by have h := is_new HPR.out [⟨#[101, 108, 105, 102]⟩] 1 [.string ⟨#[101, 108, 105, 102]⟩] rfl rfl (by decide) (by decide); rw [HI5.out] at h; exact h))
           clear h6 h7 h8 hin5
           (try clear hr)
           go_wp2_with (first
            | (go_at_call 47; (with_reducible refine cM HC5.out ?_); rintro e w5 ⟨rfl, hb⟩; have h3 : MStep p ve' wr ve' w5 := PStep.below hb; have HP5 := zh (HPR.out.moved hb); have HS5 := zh (HSR.out.trans h3); have HC6 := zh (words_new HP5.out [⟨#[101, 108, 105, 102]⟩] 1 [.string ⟨#[101, 108, 105, 102]⟩] rfl rfl (by decide) (by decide) HX6.out); clear hb h3)
            | (go_at_call 36; (with_reducible refine cM HC6.out ?_); rintro e w6 ⟨rfl, ve6, h2, h3⟩; have HP6 := zh h2; have HS6 := zh (HS5.out.trans h3); have HC7 := zh (G_expr m HMN.out W0 A c w6 p i6 d6 out6 ve6 _ HP6.out HX7.out); clear h2 h3)
            | (go_at_call 65; (with_reducible refine cM HC7.out ?_); rintro e w7 ⟨rfl, ve7, h2, h3⟩; have HP7 := zh h2; have HS7 := zh (HS6.out.trans h3); have HC8 := zh (words_new HP7.out [⟨#[116, 104, 101, 110]⟩] 1 [.string ⟨#[116, 104, 101, 110]⟩] rfl rfl (by decide) (by decide) HX8.out); clear h2 h3)
            | (go_at_call 36; (with_reducible refine cM HC8.out ?_); rintro e w8 ⟨rfl, ve8, h3⟩; have HS8 := zh (HS7.out.trans h3); clear h3))
           exact ⟨rfl, rfl, ve8, HS8.out⟩
          ·skip
           rcases srun_app l m [.rule .r_body] [.rule .r_elses, .word ⟨#[101, 110, 100]⟩] i8 d8 out8 r hr8 with ⟨er, jj, rfl, h9⟩ | ⟨i9, d9, out9, h9, hr9⟩
           ·skip
            have HX6 := zh h6; have HX7 := zh h7; have HX8 := zh h8; have HX9 := zh h9
            have HI5 := zh hin5
            have HC5 := zh ((by have h := is_new HPR.out [⟨#[101, 108, 105, 102]⟩] 1 [.string ⟨#[101, 108, 105, 102]⟩] rfl rfl (by decide) (by decide); rw [HI5.out] at h; exact h))
            clear h6 h7 h8 h9 hin5
            (try clear hr)
            go_wp2_with (first
             | (go_at_call 47; (with_reducible refine cM HC5.out ?_); rintro e w5 ⟨rfl, hb⟩; have h3 : MStep p ve' wr ve' w5 := PStep.below hb; have HP5 := zh (HPR.out.moved hb); have HS5 := zh (HSR.out.trans h3); have HC6 := zh (words_new HP5.out [⟨#[101, 108, 105, 102]⟩] 1 [.string ⟨#[101, 108, 105, 102]⟩] rfl rfl (by decide) (by decide) HX6.out); clear hb h3)
             | (go_at_call 36; (with_reducible refine cM HC6.out ?_); rintro e w6 ⟨rfl, ve6, h2, h3⟩; have HP6 := zh h2; have HS6 := zh (HS5.out.trans h3); have HC7 := zh (G_expr m HMN.out W0 A c w6 p i6 d6 out6 ve6 _ HP6.out HX7.out); clear h2 h3)
             | (go_at_call 65; (with_reducible refine cM HC7.out ?_); rintro e w7 ⟨rfl, ve7, h2, h3⟩; have HP7 := zh h2; have HS7 := zh (HS6.out.trans h3); have HC8 := zh (words_new HP7.out [⟨#[116, 104, 101, 110]⟩] 1 [.string ⟨#[116, 104, 101, 110]⟩] rfl rfl (by decide) (by decide) HX8.out); clear h2 h3)
             | (go_at_call 36; (with_reducible refine cM HC8.out ?_); rintro e w8 ⟨rfl, ve8, h2, h3⟩; have HP8 := zh h2; have HS8 := zh (HS7.out.trans h3); have HC9 := zh (G_body m HMN.out W0 A c w8 p i8 d8 out8 ve8 _ HP8.out HX9.out); clear h2 h3)
             | (go_at_call 51; (with_reducible refine cM HC9.out ?_); rintro e w9 ⟨rfl, ve9, h3⟩; have HS9 := zh (HS8.out.trans h3); clear h3))
            exact ⟨rfl, rfl, ve9, HS9.out⟩
           ·skip
            have HRJ := zh hr9
            clear hr9
            have HX6 := zh h6; have HX7 := zh h7; have HX8 := zh h8; have HX9 := zh h9
            have HI5 := zh hin5
            have HC5 := zh ((by have h := is_new HPR.out [⟨#[101, 108, 105, 102]⟩] 1 [.string ⟨#[101, 108, 105, 102]⟩] rfl rfl (by decide) (by decide); rw [HI5.out] at h; exact h))
            clear h6 h7 h8 h9 hin5
            (try clear hr)
            go_wp2_with (first
             | (go_at_call 47; (with_reducible refine cM HC5.out ?_); rintro e w5 ⟨rfl, hb⟩; have h3 : MStep p ve' wr ve' w5 := PStep.below hb; have HP5 := zh (HPR.out.moved hb); have HS5 := zh (HSR.out.trans h3); have HC6 := zh (words_new HP5.out [⟨#[101, 108, 105, 102]⟩] 1 [.string ⟨#[101, 108, 105, 102]⟩] rfl rfl (by decide) (by decide) HX6.out); clear hb h3)
             | (go_at_call 36; (with_reducible refine cM HC6.out ?_); rintro e w6 ⟨rfl, ve6, h2, h3⟩; have HP6 := zh h2; have HS6 := zh (HS5.out.trans h3); have HC7 := zh (G_expr m HMN.out W0 A c w6 p i6 d6 out6 ve6 _ HP6.out HX7.out); clear h2 h3)
             | (go_at_call 65; (with_reducible refine cM HC7.out ?_); rintro e w7 ⟨rfl, ve7, h2, h3⟩; have HP7 := zh h2; have HS7 := zh (HS6.out.trans h3); have HC8 := zh (words_new HP7.out [⟨#[116, 104, 101, 110]⟩] 1 [.string ⟨#[116, 104, 101, 110]⟩] rfl rfl (by decide) (by decide) HX8.out); clear h2 h3)
             | (go_at_call 36; (with_reducible refine cM HC8.out ?_); rintro e w8 ⟨rfl, ve8, h2, h3⟩; have HP8 := zh h2; have HS8 := zh (HS7.out.trans h3); have HC9 := zh (G_body m HMN.out W0 A c w8 p i8 d8 out8 ve8 _ HP8.out HX9.out); clear h2 h3)
             | (go_at_call 51; (with_reducible refine cM HC9.out ?_); rintro e w9 ⟨rfl, ve9, h2, h3⟩; have HP9 := zh h2; have HS9 := zh (HS8.out.trans h3); clear h2 h3))
            go_roundg m
            case measure => omega
            case rel => exact zh ⟨_, _, _, _, HP9.out, HS9.out, HKN.out, HRJ.out⟩
       ·have hin5 : inL (cAt l i') [⟨#[101, 108, 105, 102]⟩] = false := by simpa using hin5'
        clear hin5'
        have hr5 := hrun
        have HEL := zh hin5
        clear hrun
        by_cases hin6' : inL (cAt l i') [⟨#[101, 108, 115, 101]⟩] = true
        ·have hin6 := hin6'
         clear hin6'
         have hr6 : srun l (m + 1) ⟨([.word ⟨#[101, 108, 115, 101]⟩] ++ ([.rule .r_body] ++ [.word ⟨#[101, 110, 100]⟩])), i', d', out'⟩ = some r := by
          have h := if_yes (S := [.word ⟨#[101, 110, 100]⟩]) (yes_elses hin6) hr5
          exact h
         rcases srun_app l (m + 1) [.word ⟨#[101, 108, 115, 101]⟩] ([.rule .r_body] ++ [.word ⟨#[101, 110, 100]⟩]) i' d' out' r hr6 with ⟨er, jj, rfl, h7⟩ | ⟨i7, d7, out7, h7, hr7⟩
         ·skip
          have HX7 := zh h7
          have HI5 := zh hin5; have HI6 := zh hin6
          have HC5 := zh ((by have h := is_new HPR.out [⟨#[101, 108, 105, 102]⟩] 1 [.string ⟨#[101, 108, 105, 102]⟩] rfl rfl (by decide) (by decide); rw [HI5.out] at h; exact h))
          clear h7 hin5 hin6
          (try clear hr)
          go_wp2_with (first
           | (go_at_call 47; (with_reducible refine cM HC5.out ?_); rintro e w5 ⟨rfl, hb⟩; have h3 : MStep p ve' wr ve' w5 := PStep.below hb; have HP5 := zh (HPR.out.moved hb); have HS5 := zh (HSR.out.trans h3); have HC6 := zh ((by have h := is_new HP5.out [⟨#[101, 108, 115, 101]⟩] 1 [.string ⟨#[101, 108, 115, 101]⟩] rfl rfl (by decide) (by decide); rw [HI6.out] at h; exact h)); clear hb h3)
           | (go_at_call 47; (with_reducible refine cM HC6.out ?_); rintro e w6 ⟨rfl, hb⟩; have h3 : MStep p ve' w5 ve' w6 := PStep.below hb; have HP6 := zh (HP5.out.moved hb); have HS6 := zh (HS5.out.trans h3); have HC7 := zh (words_new HP6.out [⟨#[101, 108, 115, 101]⟩] 1 [.string ⟨#[101, 108, 115, 101]⟩] rfl rfl (by decide) (by decide) HX7.out); clear hb h3)
           | (go_at_call 36; (with_reducible refine cM HC7.out ?_); rintro e w7 ⟨rfl, ve7, h3⟩; have HS7 := zh (HS6.out.trans h3); clear h3))
          exact ⟨rfl, rfl, ve7, HS7.out⟩
         ·skip
          rcases srun_app l (m + 1) [.rule .r_body] [.word ⟨#[101, 110, 100]⟩] i7 d7 out7 r hr7 with ⟨er, jj, rfl, h8⟩ | ⟨i8, d8, out8, h8, hr8⟩
          ·skip
           have HX7 := zh h7; have HX8 := zh h8
           have HI5 := zh hin5; have HI6 := zh hin6
           have HC5 := zh ((by have h := is_new HPR.out [⟨#[101, 108, 105, 102]⟩] 1 [.string ⟨#[101, 108, 105, 102]⟩] rfl rfl (by decide) (by decide); rw [HI5.out] at h; exact h))
           clear h7 h8 hin5 hin6
           (try clear hr)
           go_wp2_with (first
            | (go_at_call 47; (with_reducible refine cM HC5.out ?_); rintro e w5 ⟨rfl, hb⟩; have h3 : MStep p ve' wr ve' w5 := PStep.below hb; have HP5 := zh (HPR.out.moved hb); have HS5 := zh (HSR.out.trans h3); have HC6 := zh ((by have h := is_new HP5.out [⟨#[101, 108, 115, 101]⟩] 1 [.string ⟨#[101, 108, 115, 101]⟩] rfl rfl (by decide) (by decide); rw [HI6.out] at h; exact h)); clear hb h3)
            | (go_at_call 47; (with_reducible refine cM HC6.out ?_); rintro e w6 ⟨rfl, hb⟩; have h3 : MStep p ve' w5 ve' w6 := PStep.below hb; have HP6 := zh (HP5.out.moved hb); have HS6 := zh (HS5.out.trans h3); have HC7 := zh (words_new HP6.out [⟨#[101, 108, 115, 101]⟩] 1 [.string ⟨#[101, 108, 115, 101]⟩] rfl rfl (by decide) (by decide) HX7.out); clear hb h3)
            | (go_at_call 36; (with_reducible refine cM HC7.out ?_); rintro e w7 ⟨rfl, ve7, h2, h3⟩; have HP7 := zh h2; have HS7 := zh (HS6.out.trans h3); have HC8 := zh (G_body (m + 1) HM1.out W0 A c w7 p i7 d7 out7 ve7 _ HP7.out HX8.out); clear h2 h3)
            | (go_at_call 51; (with_reducible refine cM HC8.out ?_); rintro e w8 ⟨rfl, ve8, h3⟩; have HS8 := zh (HS7.out.trans h3); clear h3))
           exact ⟨rfl, rfl, ve8, HS8.out⟩
          ·skip
           have h9 := hr8
           cases r with
           | ok i9 d9 out9 =>
            have HX7 := zh h7; have HX8 := zh h8; have HX9 := zh h9
            have HI5 := zh hin5; have HI6 := zh hin6
            have HC5 := zh ((by have h := is_new HPR.out [⟨#[101, 108, 105, 102]⟩] 1 [.string ⟨#[101, 108, 105, 102]⟩] rfl rfl (by decide) (by decide); rw [HI5.out] at h; exact h))
            clear h7 h8 h9 hin5 hin6
            (try clear hr)
            go_wp2_with (first
             | (go_at_call 47; (with_reducible refine cM HC5.out ?_); rintro e w5 ⟨rfl, hb⟩; have h3 : MStep p ve' wr ve' w5 := PStep.below hb; have HP5 := zh (HPR.out.moved hb); have HS5 := zh (HSR.out.trans h3); have HC6 := zh ((by have h := is_new HP5.out [⟨#[101, 108, 115, 101]⟩] 1 [.string ⟨#[101, 108, 115, 101]⟩] rfl rfl (by decide) (by decide); rw [HI6.out] at h; exact h)); clear hb h3)
             | (go_at_call 47; (with_reducible refine cM HC6.out ?_); rintro e w6 ⟨rfl, hb⟩; have h3 : MStep p ve' w5 ve' w6 := PStep.below hb; have HP6 := zh (HP5.out.moved hb); have HS6 := zh (HS5.out.trans h3); have HC7 := zh (words_new HP6.out [⟨#[101, 108, 115, 101]⟩] 1 [.string ⟨#[101, 108, 115, 101]⟩] rfl rfl (by decide) (by decide) HX7.out); clear hb h3)
             | (go_at_call 36; (with_reducible refine cM HC7.out ?_); rintro e w7 ⟨rfl, ve7, h2, h3⟩; have HP7 := zh h2; have HS7 := zh (HS6.out.trans h3); have HC8 := zh (G_body (m + 1) HM1.out W0 A c w7 p i7 d7 out7 ve7 _ HP7.out HX8.out); clear h2 h3)
             | (go_at_call 51; (with_reducible refine cM HC8.out ?_); rintro e w8 ⟨rfl, ve8, h2, h3⟩; have HP8 := zh h2; have HS8 := zh (HS7.out.trans h3); have HC9 := zh (words_new HP8.out [⟨#[101, 110, 100]⟩] 1 [.string ⟨#[101, 110, 100]⟩] rfl rfl (by decide) (by decide) HX9.out); clear h2 h3)
             | (go_at_call 36; (with_reducible refine cM HC9.out ?_); rintro e w9 ⟨rfl, ve9, h2, h3⟩; have HP9 := zh h2; have HS9 := zh (HS8.out.trans h3); clear h2 h3))
            go_end0
            exact ⟨rfl, ve9, HP9.out, HS9.out⟩
           | err er jj =>
            have HX7 := zh h7; have HX8 := zh h8; have HX9 := zh h9
            have HI5 := zh hin5; have HI6 := zh hin6
            have HC5 := zh ((by have h := is_new HPR.out [⟨#[101, 108, 105, 102]⟩] 1 [.string ⟨#[101, 108, 105, 102]⟩] rfl rfl (by decide) (by decide); rw [HI5.out] at h; exact h))
            clear h7 h8 h9 hin5 hin6
            (try clear hr)
            go_wp2_with (first
             | (go_at_call 47; (with_reducible refine cM HC5.out ?_); rintro e w5 ⟨rfl, hb⟩; have h3 : MStep p ve' wr ve' w5 := PStep.below hb; have HP5 := zh (HPR.out.moved hb); have HS5 := zh (HSR.out.trans h3); have HC6 := zh ((by have h := is_new HP5.out [⟨#[101, 108, 115, 101]⟩] 1 [.string ⟨#[101, 108, 115, 101]⟩] rfl rfl (by decide) (by decide); rw [HI6.out] at h; exact h)); clear hb h3)
             | (go_at_call 47; (with_reducible refine cM HC6.out ?_); rintro e w6 ⟨rfl, hb⟩; have h3 : MStep p ve' w5 ve' w6 := PStep.below hb; have HP6 := zh (HP5.out.moved hb); have HS6 := zh (HS5.out.trans h3); have HC7 := zh (words_new HP6.out [⟨#[101, 108, 115, 101]⟩] 1 [.string ⟨#[101, 108, 115, 101]⟩] rfl rfl (by decide) (by decide) HX7.out); clear hb h3)
             | (go_at_call 36; (with_reducible refine cM HC7.out ?_); rintro e w7 ⟨rfl, ve7, h2, h3⟩; have HP7 := zh h2; have HS7 := zh (HS6.out.trans h3); have HC8 := zh (G_body (m + 1) HM1.out W0 A c w7 p i7 d7 out7 ve7 _ HP7.out HX8.out); clear h2 h3)
             | (go_at_call 51; (with_reducible refine cM HC8.out ?_); rintro e w8 ⟨rfl, ve8, h2, h3⟩; have HP8 := zh h2; have HS8 := zh (HS7.out.trans h3); have HC9 := zh (words_new HP8.out [⟨#[101, 110, 100]⟩] 1 [.string ⟨#[101, 110, 100]⟩] rfl rfl (by decide) (by decide) HX9.out); clear h2 h3)
             | (go_at_call 36; (with_reducible refine cM HC9.out ?_); rintro e w9 ⟨rfl, ve9, h3⟩; have HS9 := zh (HS8.out.trans h3); clear h3))
            exact ⟨rfl, rfl, ve9, HS9.out⟩
        ·have hin6 : inL (cAt l i') [⟨#[101, 108, 115, 101]⟩] = false := by simpa using hin6'
         clear hin6'
         have hr6 : srun l (m + 1) ⟨[.word ⟨#[101, 110, 100]⟩], i', d', out'⟩ = some r := if_no (no_elses HEL.out hin6) hr5
         have h7 := hr6
         cases r with
         | ok i7 d7 out7 =>
          have HX7 := zh h7
          have HI5 := zh hin5; have HI6 := zh hin6
          have HC5 := zh ((by have h := is_new HPR.out [⟨#[101, 108, 105, 102]⟩] 1 [.string ⟨#[101, 108, 105, 102]⟩] rfl rfl (by decide) (by decide); rw [HI5.out] at h; exact h))
          clear h7 hin5 hin6
          (try clear hr)
          go_wp2_with (first
           | (go_at_call 47; (with_reducible refine cM HC5.out ?_); rintro e w5 ⟨rfl, hb⟩; have h3 : MStep p ve' wr ve' w5 := PStep.below hb; have HP5 := zh (HPR.out.moved hb); have HS5 := zh (HSR.out.trans h3); have HC6 := zh ((by have h := is_new HP5.out [⟨#[101, 108, 115, 101]⟩] 1 [.string ⟨#[101, 108, 115, 101]⟩] rfl rfl (by decide) (by decide); rw [HI6.out] at h; exact h)); clear hb h3)
           | (go_at_call 47; (with_reducible refine cM HC6.out ?_); rintro e w6 ⟨rfl, hb⟩; have h3 : MStep p ve' w5 ve' w6 := PStep.below hb; have HP6 := zh (HP5.out.moved hb); have HS6 := zh (HS5.out.trans h3); have HC7 := zh (words_new HP6.out [⟨#[101, 110, 100]⟩] 1 [.string ⟨#[101, 110, 100]⟩] rfl rfl (by decide) (by decide) HX7.out); clear hb h3)
           | (go_at_call 36; (with_reducible refine cM HC7.out ?_); rintro e w7 ⟨rfl, ve7, h2, h3⟩; have HP7 := zh h2; have HS7 := zh (HS6.out.trans h3); clear h2 h3))
          go_end0
          exact ⟨rfl, ve7, HP7.out, HS7.out⟩
         | err er jj =>
          have HX7 := zh h7
          have HI5 := zh hin5; have HI6 := zh hin6
          have HC5 := zh ((by have h := is_new HPR.out [⟨#[101, 108, 105, 102]⟩] 1 [.string ⟨#[101, 108, 105, 102]⟩] rfl rfl (by decide) (by decide); rw [HI5.out] at h; exact h))
          clear h7 hin5 hin6
          (try clear hr)
          go_wp2_with (first
           | (go_at_call 47; (with_reducible refine cM HC5.out ?_); rintro e w5 ⟨rfl, hb⟩; have h3 : MStep p ve' wr ve' w5 := PStep.below hb; have HP5 := zh (HPR.out.moved hb); have HS5 := zh (HSR.out.trans h3); have HC6 := zh ((by have h := is_new HP5.out [⟨#[101, 108, 115, 101]⟩] 1 [.string ⟨#[101, 108, 115, 101]⟩] rfl rfl (by decide) (by decide); rw [HI6.out] at h; exact h)); clear hb h3)
           | (go_at_call 47; (with_reducible refine cM HC6.out ?_); rintro e w6 ⟨rfl, hb⟩; have h3 : MStep p ve' w5 ve' w6 := PStep.below hb; have HP6 := zh (HP5.out.moved hb); have HS6 := zh (HS5.out.trans h3); have HC7 := zh (words_new HP6.out [⟨#[101, 110, 100]⟩] 1 [.string ⟨#[101, 110, 100]⟩] rfl rfl (by decide) (by decide) HX7.out); clear hb h3)
           | (go_at_call 36; (with_reducible refine cM HC7.out ?_); rintro e w7 ⟨rfl, ve7, h3⟩; have HS7 := zh (HS6.out.trans h3); clear h3))
          exact ⟨rfl, rfl, ve7, HS7.out⟩
structure AllG (l : List Tk) (N : Nat) : Prop where
 expr : Good l N 65 [.rule .r_expr]
 body : Good l N 51 [.rule .r_body]
 kind : Good l N 89 [.rule .r_kind]
 block : Good l N 38 [.rule .r_block]
 statement : Good l N 69 [.rule .r_statement]
 factor : Good l N 145 [.rule .r_factor]
 object : Good l N 96 [.rule .r_object]
 rel : Good l N 91 [.rule .r_rel]
 sum : Good l N 119 [.rule .r_sum]
 term : Good l N 135 [.rule .r_term]
 declaration : ∀ n, n ≤ N → ∀ (W0 : World) (A : Option Addr) (c : Nat) (w : World) (p i : Nat) (d : Int) (out : List Ev) (ve : Value) (r : SRes), SAt W0 A c l w p i d out ve → srun l n ⟨[.rule .r_declaration], i, d, out⟩ = some r → inL (cAt l i) [⟨#[118, 97, 114]⟩, ⟨#[99, 111, 110, 115, 116]⟩, ⟨#[112, 114, 111, 99]⟩] = true → Calls Tryz.prog 50 #[.pointer (some ⟨p, 0, none⟩)] w (SPost W0 A c l p ve w r)
theorem good_zero (l : List Tk) (F : FuncId) (T : List WT) : Good l 0 F T := by
 intro n hn W0 A c w p i d out ve r H hr
 obtain rfl : n = 0 := by omega
 exact absurd hr (by simp [srun])
theorem goodC_zero (l : List Tk) (F : FuncId) (T : List WT) : GoodC l 0 F T := by
 intro n hn W0 A c w p g i d out ve r H hg hr
 obtain rfl : n = 0 := by omega
 exact absurd hr (by simp [srun])
theorem allG_zero (l : List Tk) : AllG l 0 :=
 ⟨good_zero l _ _, good_zero l _ _, good_zero l _ _, good_zero l _ _, good_zero l _ _, good_zero l _ _, good_zero l _ _, good_zero l _ _, good_zero l _ _, good_zero l _ _, fun n hn W0 A c w p i d out ve r H hr _ => by
  obtain rfl : n = 0 := by omega
  exact absurd hr (by simp [srun])⟩
theorem allG_succ {l : List Tk} {N : Nat} (G : AllG l N) : AllG l (N + 1) := by
 have typed := g_typed l N (name_any l N) G.kind
 have expr1 := g_expr l N (g_expr_1 l N G.rel)
 have body1 := g_body l N (g_body_1 l N G.statement)
 have kind1 := g_kind l N (name_any l N) (g_kind_1 l N G.expr G.kind) (g_kind_2 l N (by
  cases N with
  | zero => exact goodC_zero l _ _
  | succ M => exact fun n hn => g_kind_2_1 l M (fun n hn => typed n (by omega)) n hn))
 have block1 := g_block l N (g_block_1 l N G.declaration G.body)
 have choice := g_choice l N G.expr G.body
 have other1 := g_other l N (g_other_1 l N G.body G.expr) (g_other_2 l N G.expr) (g_other_3 l N G.body)
 have statement1 := g_statement l N (g_statement_1 l N) (g_statement_2 l N G.object G.expr) choice (g_statement_3 l N G.expr G.body) (g_statement_4 l N G.expr G.body) other1
 have object1 := g_object l N (g_object_1 l N (g_selected l N (g_selected_1 l N G.expr) (g_selected_2 l N) (g_selected_3 l N G.expr)))
 have factor1 := g_factor l N (g_factor_1 l N G.factor) (g_factor_2 l N G.factor) (g_factor_3 l N G.expr) object1
 have rel1 := g_rel l N (g_rel_1 l N G.sum)
 have sum1 := g_sum l N (g_sum_1 l N G.term)
 have term1 := g_term l N (g_term_1 l N G.factor)
 have proc := g_proc l N (g_proc_1 l N (by
  cases N with
  | zero => exact goodC_zero l _ _
  | succ M => exact fun n hn => g_proc_1_1 l M (fun n hn => typed n (by omega)) n hn)) G.kind G.block
 have declaration1 := g_declaration l N (g_declaration_1 l N typed) (g_declaration_2 l N G.expr) proc
 exact ⟨expr1, body1, kind1, block1, statement1, factor1, object1, rel1, sum1, term1, declaration1⟩
theorem allG (l : List Tk) : ∀ N, AllG l N
 | 0 => allG_zero l
 | N + 1 => allG_succ (allG l N)
def nodeR (k : Nat) : SRes → SRes
 | .ok i d out => .ok i (d - 1) (out ++ [evOf (3, k)])
 | .err e i => .err e i
def endR (l : List Tk) : SRes → SRes
 | .ok i d out => if i < l.length then .err 120 i else .ok i d out
 | .err e i => .err e i
theorem node_gen {W0 : World} {A : Option Addr} {c : Nat} {l : List Tk} {w : World} {p : Nat} {i : Nat} {d : Int} {out : List Ev} {ve : Value} (H : SAt W0 A c l w p i d out ve) (k : Nat) (F : FuncId) (x : Value) (hen : ∀ w, (callFunc F #[x]).run Tryz.prog w = .ok (.enter F #[x]) w) {r : SRes} (hb : ∀ (w1 : World) (ve1 : Value), MStep p ve w ve1 w1 → SAt W0 A c l w1 p i (d + 1) (out ++ [evOf (1, k)]) ve1 → Calls Tryz.prog F #[x] w1 (SPost W0 A c l p ve1 w1 r)) (hf : fitS ⟨[], i, d + 1, out ++ [evOf (1, k)]⟩) (hf2 : ∀ i2 d2 out2, r = .ok i2 d2 out2 → fitS ⟨[], i2, d2, out2⟩) :
  Calls Tryz.prog 33 #[.pointer (some ⟨p, 0, none⟩), .int .u8 k, .func (.func F) #[] #[x]] w (SPost W0 A c l p ve w (nodeR k r)) := by
 obtain ⟨f1, f2, f3⟩ := hf
 dsimp only at f1 f2 f3
 rw [List.length_append, List.length_singleton] at f1
 have HLO := zh f1
 obtain ⟨e1, -, e3, -⟩ := d_wrap (d := d) (by omega) (by omega)
 have HSR := zh (PStep.refl p (.slice none 0 0) ve w)
 have HBO := zh hb
 have HEQ := zh hen
 have HH := zh H
 obtain ⟨q0, q1, q2, q3⟩ := H.cell
 clear f1 f2 f3 hb hen H
 cases r with
 | err er j =>
  clear hf2
  go_enter Tryz.func33, Tryz.ntmps33
  go_wp2_with (first
   | ((with_reducible refine gate_dst (N := 14) rfl ?_); refine wl_ev rfl (.tmp 10) (.tmp 13) rfl p (u := ve) (q := out.length) (kc := (out).flatMap evCells) (cs := [.int .u8 1, .int .u8 k, .int .u8 0, .string ⟨#[]⟩, .int .i64 0, .int .i64 0, .int .i64 0, .int .i64 0]) rfl rfl HH.out.row rfl (evCells_one (evOf (1, k))) (Nat.le_of_lt (blk_lt HH.out.box)) (by have := HLO.out; omega) ?_; intro G1 C1 w1 ho hg hat; obtain ⟨⟨cur, hcur, hfit⟩, hnx⟩ := HH.out.next (e := evOf (1, k)) ho hg hat; have HCU := zh (And.intro hcur hfit); have HNX := zh hnx; clear ho hg hat hcur hfit hnx)
   | ((with_reducible refine gate_ (.store 41 (.tmp 16) (.tmp 14)) rfl ?_); refine wl_cells rfl rfl _ _ _ rfl (g := p) (off := 3) (.slice (some ⟨G1, 0, none⟩) (out.length + 1) C1) [.slice (some ⟨G1, 0, none⟩) (out.length + 1) C1] rfl rfl rfl (by kernel_rfl) (fun v hv => by rw [List.mem_singleton.1 hv]; rfl) HCU.out.1 HCU.out.2 ?_; intro V1 hV; obtain ⟨hA, hS⟩ := HNX.out V1 hV; have HP1 := zh hA; have HS1 := zh (HSR.out.trans hS); clear q0 q1 q2 q3 hV HNX HCU; obtain ⟨q0, q1, q2, q3⟩ := hA.cell; clear hA hS)
   | ((with_reducible refine gate_ (.store 3 (.tmp 23) (.tmp 21)) rfl ?_); refine wl_cells rfl rfl _ _ _ rfl (g := p) (off := 2) (.int .i64 (d + 1)) [.int .i64 (d + 1)] rfl rfl rfl (by kernel_rfl) (fun v hv => by rw [List.mem_singleton.1 hv]; rfl) HP1.out.box (by simp) ?_; intro V2 hV; obtain ⟨hA, hS⟩ := HP1.out.upd 2 (.int .i64 (d + 1)) (by decide) (i' := i) (d' := d + 1) rfl HP1.out.ile; rw [← hV] at hA hS; have HP2 := zh hA; have HS2 := zh (HS1.out.trans hS); clear q0 q1 q2 q3 hV; obtain ⟨q0, q1, q2, q3⟩ := hA.cell; have HEN := HEQ.out V2; have HWI := zh (HBO.out V2 _ (HS1.out.trans hS) hA); clear hA hS)
   | ((with_reducible refine cM HWI.out ?_); rintro e w3 ⟨rfl, ve3, h3⟩; have HS3 := zh (HS2.out.trans h3); clear h3))
  exact ⟨rfl, rfl, ve3, HS3.out⟩
 | ok i2 d2 out2 =>
  obtain ⟨f1, f2, f3⟩ := hf2 i2 d2 out2 rfl
  dsimp only at f1 f2 f3
  have HLO2 := zh f1
  obtain ⟨-, e5, -, e6⟩ := d_wrap (d := d2) (by omega) (by omega)
  clear hf2 f1 f2 f3
  go_enter Tryz.func33, Tryz.ntmps33
  go_wp2_with (first
   | ((with_reducible refine gate_dst (N := 14) rfl ?_); refine wl_ev rfl (.tmp 10) (.tmp 13) rfl p (u := ve) (q := out.length) (kc := (out).flatMap evCells) (cs := [.int .u8 1, .int .u8 k, .int .u8 0, .string ⟨#[]⟩, .int .i64 0, .int .i64 0, .int .i64 0, .int .i64 0]) rfl rfl HH.out.row rfl (evCells_one (evOf (1, k))) (Nat.le_of_lt (blk_lt HH.out.box)) (by have := HLO.out; omega) ?_; intro G1 C1 w1 ho hg hat; obtain ⟨⟨cur, hcur, hfit⟩, hnx⟩ := HH.out.next (e := evOf (1, k)) ho hg hat; have HCU := zh (And.intro hcur hfit); have HNX := zh hnx; clear ho hg hat hcur hfit hnx)
   | ((with_reducible refine gate_ (.store 41 (.tmp 16) (.tmp 14)) rfl ?_); refine wl_cells rfl rfl _ _ _ rfl (g := p) (off := 3) (.slice (some ⟨G1, 0, none⟩) (out.length + 1) C1) [.slice (some ⟨G1, 0, none⟩) (out.length + 1) C1] rfl rfl rfl (by kernel_rfl) (fun v hv => by rw [List.mem_singleton.1 hv]; rfl) HCU.out.1 HCU.out.2 ?_; intro V1 hV; obtain ⟨hA, hS⟩ := HNX.out V1 hV; have HP1 := zh hA; have HS1 := zh (HSR.out.trans hS); clear q0 q1 q2 q3 hV HNX HCU; obtain ⟨q0, q1, q2, q3⟩ := hA.cell; clear hA hS)
   | ((with_reducible refine gate_ (.store 3 (.tmp 23) (.tmp 21)) rfl ?_); refine wl_cells rfl rfl _ _ _ rfl (g := p) (off := 2) (.int .i64 (d + 1)) [.int .i64 (d + 1)] rfl rfl rfl (by kernel_rfl) (fun v hv => by rw [List.mem_singleton.1 hv]; rfl) HP1.out.box (by simp) ?_; intro V2 hV; obtain ⟨hA, hS⟩ := HP1.out.upd 2 (.int .i64 (d + 1)) (by decide) (i' := i) (d' := d + 1) rfl HP1.out.ile; rw [← hV] at hA hS; have HP2 := zh hA; have HS2 := zh (HS1.out.trans hS); clear q0 q1 q2 q3 hV; obtain ⟨q0, q1, q2, q3⟩ := hA.cell; have HEN := HEQ.out V2; have HWI := zh (HBO.out V2 _ (HS1.out.trans hS) hA); clear hA hS)
   | ((with_reducible refine cM HWI.out ?_); rintro e w3 ⟨rfl, ve3, h2, h3⟩; have HP3 := zh h2; have HS3 := zh (HS2.out.trans h3); clear q0 q1 q2 q3 h3; obtain ⟨q0, q1, q2, q3⟩ := h2.cell; clear h2)
   | ((with_reducible refine gate_ (.store 3 (.tmp 32) (.tmp 30)) rfl ?_); refine wl_cells rfl rfl _ _ _ rfl (g := p) (off := 2) (.int .i64 (d2 - 1)) [.int .i64 (d2 - 1)] rfl rfl rfl (by kernel_rfl) (fun v hv => by rw [List.mem_singleton.1 hv]; rfl) HP3.out.box (by simp) ?_; intro V4 hV; obtain ⟨hA, hS⟩ := HP3.out.upd 2 (.int .i64 (d2 - 1)) (by decide) (i' := i2) (d' := d2 - 1) rfl HP3.out.ile; rw [← hV] at hA hS; have HP4 := zh hA; have HS4 := zh (HS3.out.trans hS); clear q0 q1 q2 q3 hV; obtain ⟨q0, q1, q2, q3⟩ := hA.cell; clear hA hS)
   | ((with_reducible refine gate_dst (N := 41) rfl ?_); refine wl_ev rfl (.tmp 37) (.tmp 40) rfl p (u := ve3) (q := out2.length) (kc := (out2).flatMap evCells) (cs := [.int .u8 3, .int .u8 k, .int .u8 0, .string ⟨#[]⟩, .int .i64 0, .int .i64 0, .int .i64 0, .int .i64 0]) rfl rfl HP4.out.row rfl (evCells_one (evOf (3, k))) (Nat.le_of_lt (blk_lt HP4.out.box)) (by have := HLO2.out; omega) ?_; intro G1 C1 w1 ho hg hat; obtain ⟨⟨cur, hcur, hfit⟩, hnx⟩ := HP4.out.next (e := evOf (3, k)) ho hg hat; have HCU := zh (And.intro hcur hfit); have HNX := zh hnx; clear ho hg hat hcur hfit hnx)
   | ((with_reducible refine gate_ (.store 41 (.tmp 43) (.tmp 41)) rfl ?_); refine wl_cells rfl rfl _ _ _ rfl (g := p) (off := 3) (.slice (some ⟨G1, 0, none⟩) (out2.length + 1) C1) [.slice (some ⟨G1, 0, none⟩) (out2.length + 1) C1] rfl rfl rfl (by kernel_rfl) (fun v hv => by rw [List.mem_singleton.1 hv]; rfl) HCU.out.1 HCU.out.2 ?_; intro V5 hV; obtain ⟨hA, hS⟩ := HNX.out V5 hV; have HP5 := zh hA; have HS5 := zh (HS4.out.trans hS); clear q0 q1 q2 q3 hV HNX HCU; obtain ⟨q0, q1, q2, q3⟩ := hA.cell; clear hA hS))
  go_end0
  exact ⟨rfl, _, HP5.out, HS5.out⟩
theorem g_program_1 {W0 : World} {A : Option Addr} {c : Nat} {l : List Tk} {w0 : World} {p g : Nat} {d1 : Int} {out out1 : List Ev} {ve : Value} {i1 : Nat} (hi1 : (nAt l 0).length = i1) (ho1 : out ++ (nAt l 0).map noteE = out1) (hout : out.length ≤ 16) (H : SAt W0 A c l w0 p 0 d1 out ve) (hg : w0.heap[g]? = some (.cells #[.pointer (some ⟨p, 0, none⟩)] 54 (0, 0))) {n : Nat} {r : SRes} (hr : srun l n ⟨[.word ⟨#[112, 114, 111, 103, 114, 97, 109]⟩, .word ⟨#[64, 110, 97, 109, 101]⟩, .word ⟨#[59]⟩, .rule .r_block, .word ⟨#[46]⟩], i1, d1, out1⟩ = some r) :
  Calls Tryz.prog 34 #[.pointer (some ⟨g, 0, none⟩)] w0 (SPost W0 A c l p ve w0 (endR l r)) := by
 have hcom := comments_any H (by omega)
 rw [hi1, ho1, Nat.zero_add] at hcom
 have HCOM := zh hcom
 show Calls Tryz.prog 34 _ w0 _
 have HP0 := zh H
 have HG0 := zh hg
 have HS0 := zh (PStep.refl p (.slice none 0 0) ve w0)
 have HT0 := HS0
 have bx := cR 0 hg
 have hr1 : srun l n ⟨([.word ⟨#[112, 114, 111, 103, 114, 97, 109]⟩] ++ ([.word ⟨#[64, 110, 97, 109, 101]⟩] ++ ([.word ⟨#[59]⟩] ++ ([.rule .r_block] ++ ([.word ⟨#[46]⟩] ++ []))))), i1, d1, out1⟩ = some r := hr
 clear H hg hr hi1 ho1 hout hcom
 rcases srun_app l n [.word ⟨#[112, 114, 111, 103, 114, 97, 109]⟩] ([.word ⟨#[64, 110, 97, 109, 101]⟩] ++ ([.word ⟨#[59]⟩] ++ ([.rule .r_block] ++ ([.word ⟨#[46]⟩] ++ [])))) i1 d1 out1 r hr1 with ⟨er, jj, rfl, h2⟩ | ⟨i2, d2, out2, h2, hr2⟩
 ·skip
  have HX2 := zh h2
  have HC1 := zh (HCOM.out)
  clear h2
  (try clear hr)
  go_enter Tryz.func34, Tryz.ntmps34
  go_wp2_with (first
   | (go_at_call 35; (with_reducible refine cM HC1.out ?_); rintro e w1 ⟨rfl, ve1, h2, h3⟩; have HP1 := zh h2; have HS1 := zh (HS0.out.trans h3); have HG1 := zh (mkeep (HT0.out.trans h3) HP0.out HG0.out); have HT1 := zh (HT0.out.trans h3); clear bx; have bx := cR 0 HG1.out; have HC2 := zh (words_new HP1.out [⟨#[112, 114, 111, 103, 114, 97, 109]⟩] 1 [.string ⟨#[112, 114, 111, 103, 114, 97, 109]⟩] rfl rfl (by decide) (by decide) HX2.out); clear h2 h3)
   | (go_at_call 36; (with_reducible refine cM HC2.out ?_); rintro e w2 ⟨rfl, ve2, h3⟩; have HS2 := zh (HS1.out.trans h3); clear h3))
  exact ⟨rfl, rfl, ve2, HS2.out⟩
 ·skip
  rcases srun_app l n [.word ⟨#[64, 110, 97, 109, 101]⟩] ([.word ⟨#[59]⟩] ++ ([.rule .r_block] ++ ([.word ⟨#[46]⟩] ++ []))) i2 d2 out2 r hr2 with ⟨er, jj, rfl, h3⟩ | ⟨i3, d3, out3, h3, hr3⟩
  ·skip
   have HX2 := zh h2; have HX3 := zh h3
   have HC1 := zh (HCOM.out)
   clear h2 h3
   (try clear hr)
   go_enter Tryz.func34, Tryz.ntmps34
   go_wp2_with (first
    | (go_at_call 35; (with_reducible refine cM HC1.out ?_); rintro e w1 ⟨rfl, ve1, h2, h3⟩; have HP1 := zh h2; have HS1 := zh (HS0.out.trans h3); have HG1 := zh (mkeep (HT0.out.trans h3) HP0.out HG0.out); have HT1 := zh (HT0.out.trans h3); clear bx; have bx := cR 0 HG1.out; have HC2 := zh (words_new HP1.out [⟨#[112, 114, 111, 103, 114, 97, 109]⟩] 1 [.string ⟨#[112, 114, 111, 103, 114, 97, 109]⟩] rfl rfl (by decide) (by decide) HX2.out); clear h2 h3)
    | (go_at_call 36; (with_reducible refine cM HC2.out ?_); rintro e w2 ⟨rfl, ve2, h2, h3⟩; have HP2 := zh h2; have HS2 := zh (HS1.out.trans h3); have HG2 := zh (mkeep (HT1.out.trans h3) HP0.out HG0.out); have HT2 := zh (HT1.out.trans h3); clear bx; have bx := cR 0 HG2.out; have HC3 := zh (name_any l n n (Nat.le_refl n) W0 A c w2 p i2 d2 out2 ve2 _ HP2.out HX3.out); clear h2 h3)
    | (go_at_call 37; (with_reducible refine cM HC3.out ?_); rintro e w3 ⟨rfl, ve3, h3⟩; have HS3 := zh (HS2.out.trans h3); clear h3))
   exact ⟨rfl, rfl, ve3, HS3.out⟩
  ·skip
   rcases srun_app l n [.word ⟨#[59]⟩] ([.rule .r_block] ++ ([.word ⟨#[46]⟩] ++ [])) i3 d3 out3 r hr3 with ⟨er, jj, rfl, h4⟩ | ⟨i4, d4, out4, h4, hr4⟩
   ·skip
    have HX2 := zh h2; have HX3 := zh h3; have HX4 := zh h4
    have HC1 := zh (HCOM.out)
    clear h2 h3 h4
    (try clear hr)
    go_enter Tryz.func34, Tryz.ntmps34
    go_wp2_with (first
     | (go_at_call 35; (with_reducible refine cM HC1.out ?_); rintro e w1 ⟨rfl, ve1, h2, h3⟩; have HP1 := zh h2; have HS1 := zh (HS0.out.trans h3); have HG1 := zh (mkeep (HT0.out.trans h3) HP0.out HG0.out); have HT1 := zh (HT0.out.trans h3); clear bx; have bx := cR 0 HG1.out; have HC2 := zh (words_new HP1.out [⟨#[112, 114, 111, 103, 114, 97, 109]⟩] 1 [.string ⟨#[112, 114, 111, 103, 114, 97, 109]⟩] rfl rfl (by decide) (by decide) HX2.out); clear h2 h3)
     | (go_at_call 36; (with_reducible refine cM HC2.out ?_); rintro e w2 ⟨rfl, ve2, h2, h3⟩; have HP2 := zh h2; have HS2 := zh (HS1.out.trans h3); have HG2 := zh (mkeep (HT1.out.trans h3) HP0.out HG0.out); have HT2 := zh (HT1.out.trans h3); clear bx; have bx := cR 0 HG2.out; have HC3 := zh (name_any l n n (Nat.le_refl n) W0 A c w2 p i2 d2 out2 ve2 _ HP2.out HX3.out); clear h2 h3)
     | (go_at_call 37; (with_reducible refine cM HC3.out ?_); rintro e w3 ⟨rfl, ve3, h2, h3⟩; have HP3 := zh h2; have HS3 := zh (HS2.out.trans h3); have HG3 := zh (mkeep (HT2.out.trans h3) HP0.out HG0.out); have HT3 := zh (HT2.out.trans h3); clear bx; have bx := cR 0 HG3.out; have HC4 := zh (words_new HP3.out [⟨#[59]⟩] 1 [.string ⟨#[59]⟩] rfl rfl (by decide) (by decide) HX4.out); clear h2 h3)
     | (go_at_call 36; (with_reducible refine cM HC4.out ?_); rintro e w4 ⟨rfl, ve4, h3⟩; have HS4 := zh (HS3.out.trans h3); clear h3))
    exact ⟨rfl, rfl, ve4, HS4.out⟩
   ·skip
    rcases srun_app l n [.rule .r_block] ([.word ⟨#[46]⟩] ++ []) i4 d4 out4 r hr4 with ⟨er, jj, rfl, h5⟩ | ⟨i5, d5, out5, h5, hr5⟩
    ·skip
     have HX2 := zh h2; have HX3 := zh h3; have HX4 := zh h4; have HX5 := zh h5
     have HC1 := zh (HCOM.out)
     clear h2 h3 h4 h5
     (try clear hr)
     go_enter Tryz.func34, Tryz.ntmps34
     go_wp2_with (first
      | (go_at_call 35; (with_reducible refine cM HC1.out ?_); rintro e w1 ⟨rfl, ve1, h2, h3⟩; have HP1 := zh h2; have HS1 := zh (HS0.out.trans h3); have HG1 := zh (mkeep (HT0.out.trans h3) HP0.out HG0.out); have HT1 := zh (HT0.out.trans h3); clear bx; have bx := cR 0 HG1.out; have HC2 := zh (words_new HP1.out [⟨#[112, 114, 111, 103, 114, 97, 109]⟩] 1 [.string ⟨#[112, 114, 111, 103, 114, 97, 109]⟩] rfl rfl (by decide) (by decide) HX2.out); clear h2 h3)
      | (go_at_call 36; (with_reducible refine cM HC2.out ?_); rintro e w2 ⟨rfl, ve2, h2, h3⟩; have HP2 := zh h2; have HS2 := zh (HS1.out.trans h3); have HG2 := zh (mkeep (HT1.out.trans h3) HP0.out HG0.out); have HT2 := zh (HT1.out.trans h3); clear bx; have bx := cR 0 HG2.out; have HC3 := zh (name_any l n n (Nat.le_refl n) W0 A c w2 p i2 d2 out2 ve2 _ HP2.out HX3.out); clear h2 h3)
      | (go_at_call 37; (with_reducible refine cM HC3.out ?_); rintro e w3 ⟨rfl, ve3, h2, h3⟩; have HP3 := zh h2; have HS3 := zh (HS2.out.trans h3); have HG3 := zh (mkeep (HT2.out.trans h3) HP0.out HG0.out); have HT3 := zh (HT2.out.trans h3); clear bx; have bx := cR 0 HG3.out; have HC4 := zh (words_new HP3.out [⟨#[59]⟩] 1 [.string ⟨#[59]⟩] rfl rfl (by decide) (by decide) HX4.out); clear h2 h3)
      | (go_at_call 36; (with_reducible refine cM HC4.out ?_); rintro e w4 ⟨rfl, ve4, h2, h3⟩; have HP4 := zh h2; have HS4 := zh (HS3.out.trans h3); have HG4 := zh (mkeep (HT3.out.trans h3) HP0.out HG0.out); have HT4 := zh (HT3.out.trans h3); clear bx; have bx := cR 0 HG4.out; have HC5 := zh ((allG l n).block n (Nat.le_refl n) W0 A c w4 p i4 d4 out4 ve4 _ HP4.out HX5.out); clear h2 h3)
      | (go_at_call 38; (with_reducible refine cM HC5.out ?_); rintro e w5 ⟨rfl, ve5, h3⟩; have HS5 := zh (HS4.out.trans h3); clear h3))
     exact ⟨rfl, rfl, ve5, HS5.out⟩
    ·skip
     rcases srun_app l n [.word ⟨#[46]⟩] [] i5 d5 out5 r hr5 with ⟨er, jj, rfl, h6⟩ | ⟨i6, d6, out6, h6, hr6⟩
     ·skip
      have HX2 := zh h2; have HX3 := zh h3; have HX4 := zh h4; have HX5 := zh h5; have HX6 := zh h6
      have HC1 := zh (HCOM.out)
      clear h2 h3 h4 h5 h6
      (try clear hr)
      go_enter Tryz.func34, Tryz.ntmps34
      go_wp2_with (first
       | (go_at_call 35; (with_reducible refine cM HC1.out ?_); rintro e w1 ⟨rfl, ve1, h2, h3⟩; have HP1 := zh h2; have HS1 := zh (HS0.out.trans h3); have HG1 := zh (mkeep (HT0.out.trans h3) HP0.out HG0.out); have HT1 := zh (HT0.out.trans h3); clear bx; have bx := cR 0 HG1.out; have HC2 := zh (words_new HP1.out [⟨#[112, 114, 111, 103, 114, 97, 109]⟩] 1 [.string ⟨#[112, 114, 111, 103, 114, 97, 109]⟩] rfl rfl (by decide) (by decide) HX2.out); clear h2 h3)
       | (go_at_call 36; (with_reducible refine cM HC2.out ?_); rintro e w2 ⟨rfl, ve2, h2, h3⟩; have HP2 := zh h2; have HS2 := zh (HS1.out.trans h3); have HG2 := zh (mkeep (HT1.out.trans h3) HP0.out HG0.out); have HT2 := zh (HT1.out.trans h3); clear bx; have bx := cR 0 HG2.out; have HC3 := zh (name_any l n n (Nat.le_refl n) W0 A c w2 p i2 d2 out2 ve2 _ HP2.out HX3.out); clear h2 h3)
       | (go_at_call 37; (with_reducible refine cM HC3.out ?_); rintro e w3 ⟨rfl, ve3, h2, h3⟩; have HP3 := zh h2; have HS3 := zh (HS2.out.trans h3); have HG3 := zh (mkeep (HT2.out.trans h3) HP0.out HG0.out); have HT3 := zh (HT2.out.trans h3); clear bx; have bx := cR 0 HG3.out; have HC4 := zh (words_new HP3.out [⟨#[59]⟩] 1 [.string ⟨#[59]⟩] rfl rfl (by decide) (by decide) HX4.out); clear h2 h3)
       | (go_at_call 36; (with_reducible refine cM HC4.out ?_); rintro e w4 ⟨rfl, ve4, h2, h3⟩; have HP4 := zh h2; have HS4 := zh (HS3.out.trans h3); have HG4 := zh (mkeep (HT3.out.trans h3) HP0.out HG0.out); have HT4 := zh (HT3.out.trans h3); clear bx; have bx := cR 0 HG4.out; have HC5 := zh ((allG l n).block n (Nat.le_refl n) W0 A c w4 p i4 d4 out4 ve4 _ HP4.out HX5.out); clear h2 h3)
       | (go_at_call 38; (with_reducible refine cM HC5.out ?_); rintro e w5 ⟨rfl, ve5, h2, h3⟩; have HP5 := zh h2; have HS5 := zh (HS4.out.trans h3); have HG5 := zh (mkeep (HT4.out.trans h3) HP0.out HG0.out); have HT5 := zh (HT4.out.trans h3); clear bx; have bx := cR 0 HG5.out; have HC6 := zh (words_new HP5.out [⟨#[46]⟩] 1 [.string ⟨#[46]⟩] rfl rfl (by decide) (by decide) HX6.out); clear h2 h3)
       | (go_at_call 36; (with_reducible refine cM HC6.out ?_); rintro e w6 ⟨rfl, ve6, h3⟩; have HS6 := zh (HS5.out.trans h3); clear h3))
      exact ⟨rfl, rfl, ve6, HS6.out⟩
     ·skip
      have HRJ := zh hr6
      clear hr6
      obtain ⟨_, rfl⟩ := srun_fin HRJ.out (q := .ok i6 d6 out6) rfl
      clear HRJ
      have HX2 := zh h2; have HX3 := zh h3; have HX4 := zh h4; have HX5 := zh h5; have HX6 := zh h6
      have HC1 := zh (HCOM.out)
      clear h2 h3 h4 h5 h6
      (try clear hr)
      go_enter Tryz.func34, Tryz.ntmps34
      go_wp2_with (first
       | (go_at_call 35; (with_reducible refine cM HC1.out ?_); rintro e w1 ⟨rfl, ve1, h2, h3⟩; have HP1 := zh h2; have HS1 := zh (HS0.out.trans h3); have HG1 := zh (mkeep (HT0.out.trans h3) HP0.out HG0.out); have HT1 := zh (HT0.out.trans h3); clear bx; have bx := cR 0 HG1.out; have HC2 := zh (words_new HP1.out [⟨#[112, 114, 111, 103, 114, 97, 109]⟩] 1 [.string ⟨#[112, 114, 111, 103, 114, 97, 109]⟩] rfl rfl (by decide) (by decide) HX2.out); clear h2 h3)
       | (go_at_call 36; (with_reducible refine cM HC2.out ?_); rintro e w2 ⟨rfl, ve2, h2, h3⟩; have HP2 := zh h2; have HS2 := zh (HS1.out.trans h3); have HG2 := zh (mkeep (HT1.out.trans h3) HP0.out HG0.out); have HT2 := zh (HT1.out.trans h3); clear bx; have bx := cR 0 HG2.out; have HC3 := zh (name_any l n n (Nat.le_refl n) W0 A c w2 p i2 d2 out2 ve2 _ HP2.out HX3.out); clear h2 h3)
       | (go_at_call 37; (with_reducible refine cM HC3.out ?_); rintro e w3 ⟨rfl, ve3, h2, h3⟩; have HP3 := zh h2; have HS3 := zh (HS2.out.trans h3); have HG3 := zh (mkeep (HT2.out.trans h3) HP0.out HG0.out); have HT3 := zh (HT2.out.trans h3); clear bx; have bx := cR 0 HG3.out; have HC4 := zh (words_new HP3.out [⟨#[59]⟩] 1 [.string ⟨#[59]⟩] rfl rfl (by decide) (by decide) HX4.out); clear h2 h3)
       | (go_at_call 36; (with_reducible refine cM HC4.out ?_); rintro e w4 ⟨rfl, ve4, h2, h3⟩; have HP4 := zh h2; have HS4 := zh (HS3.out.trans h3); have HG4 := zh (mkeep (HT3.out.trans h3) HP0.out HG0.out); have HT4 := zh (HT3.out.trans h3); clear bx; have bx := cR 0 HG4.out; have HC5 := zh ((allG l n).block n (Nat.le_refl n) W0 A c w4 p i4 d4 out4 ve4 _ HP4.out HX5.out); clear h2 h3)
       | (go_at_call 38; (with_reducible refine cM HC5.out ?_); rintro e w5 ⟨rfl, ve5, h2, h3⟩; have HP5 := zh h2; have HS5 := zh (HS4.out.trans h3); have HG5 := zh (mkeep (HT4.out.trans h3) HP0.out HG0.out); have HT5 := zh (HT4.out.trans h3); clear bx; have bx := cR 0 HG5.out; have HC6 := zh (words_new HP5.out [⟨#[46]⟩] 1 [.string ⟨#[46]⟩] rfl rfl (by decide) (by decide) HX6.out); clear h2 h3)
       | (go_at_call 36; (with_reducible refine cM HC6.out ?_); rintro e w6 ⟨rfl, ve6, h2, h3⟩; have HP6 := zh h2; have HS6 := zh (HS5.out.trans h3); have HG6 := zh (mkeep (HT5.out.trans h3) HP0.out HG0.out); have HT6 := zh (HT5.out.trans h3); clear bx; have bx := cR 0 HG6.out; clear h2 h3))
      obtain ⟨q0, q1, q2, q3⟩ := HP6.out.cell
      by_cases hlt : i6 < l.length
      ·have h1 : (((i6 : Nat) : Int) < ((l.length : Nat) : Int)) := by omega
       have HFA := zh (fun (w1 : World) (hb : Below w6.heap.size w6 w1) => (show Calls Tryz.prog 39 #[.pointer (some ⟨p, 0, none⟩)] w1 (fun e w' => e = giveUp 120 i6 ∧ Below w1.heap.size w1 w') from (by have h := fail_any (HP6.out.moved hb); rw [if_neg (show ¬ i6 = l.length by omega)] at h; exact h)))
       have HEL := zh (show endR l (.ok i6 d6 out6) = .err 120 i6 by simp only [endR]; rw [if_pos hlt])
       clear hlt
       go_region
       go_wp2_with (first | (go_at_call 39; (with_reducible refine cM (HFA.out _ (Below.refl _ _).drew) ?_); rintro e wf ⟨rfl, hbf⟩; have HBF := zh ((Below.refl w6.heap.size w6).drew.trans (hbf.mono (Below.refl w6.heap.size w6).drew.size)); clear hbf))
       rw [HEL.out]
       exact ⟨rfl, rfl, ve6, HS6.out.trans (PStep.below HBF.out)⟩
      ·have h1 : ¬ (((i6 : Nat) : Int) < ((l.length : Nat) : Int)) := by omega
       have HEL := zh (show endR l (.ok i6 d6 out6) = .ok i6 d6 out6 by simp only [endR]; rw [if_neg hlt])
       clear hlt
       go_region
       go_wp2
       go_end0
       rw [HEL.out]
       exact ⟨rfl, ve6, HP6.out.moved (by first | exact Below.refl _ _ | exact (Below.refl _ _).drew), HS6.out.trans (PStep.below (by first | exact Below.refl _ _ | exact (Below.refl _ _).drew))⟩
theorem g_program {W0 : World} {A : Option Addr} {c : Nat} {l : List Tk} {w : World} {p : Nat} {ve : Value} (H : SAt W0 A c l w p 0 0 [] ve) {n : Nat} {r : SRes} (hr : srun l n ⟨[.word ⟨#[112, 114, 111, 103, 114, 97, 109]⟩, .word ⟨#[64, 110, 97, 109, 101]⟩, .word ⟨#[59]⟩, .rule .r_block, .word ⟨#[46]⟩], (nAt l 0).length, 1, evOf (1, 1) :: (nAt l 0).map noteE⟩ = some r) (hf : ∀ i2 d2 out2, r = .ok i2 d2 out2 → fitS ⟨[], i2, d2, out2⟩) :
  Calls Tryz.prog 18 #[.pointer (some ⟨p, 0, none⟩)] w (SPost W0 A c l p ve w (nodeR 1 (endR l r))) := by
 have hf2 : ∀ i2 d2 out2, endR l r = .ok i2 d2 out2 → fitS ⟨[], i2, d2, out2⟩ := by
  intro i2 d2 out2 he
  cases r with
  | err e i => cases he
  | ok i3 d3 out3 =>
   simp only [endR] at he
   split at he
   ·cases he
   ·exact hf _ _ _ he
 obtain ⟨w0, hw0⟩ : ∃ V, w.alloc (.cells #[.pointer (some ⟨p, 0, none⟩)] 54) = V := ⟨_, rfl⟩
 have hb0 : Below w.heap.size w w0 := by rw [← hw0]; exact (Below.refl _ w).alloc (Nat.le_refl _) _
 have hg : w0.heap[w.heap.size]? = some (.cells #[.pointer (some ⟨p, 0, none⟩)] 54 (0, 0)) := by rw [← hw0]; exact World.alloc_heap_new _ _
 have HWB := zh hw0
 have HP0 := zh (H.moved hb0)
 have HS0 := zh (PStep.below hb0 : MStep p ve w ve w0)
 have HT0 := zh (PStep.refl p (.slice none 0 0) ve w0)
 obtain ⟨g, hge⟩ : ∃ g, w.heap.size = g := ⟨_, rfl⟩
 rw [hge] at hg
 have HGE := zh hge
 have HG0 := zh hg
 have bx := cR 0 hg
 clear hw0 hb0 hg hge H
 have HCN := zh (node_gen HP0.out 1 34 (.pointer (some ⟨g, 0, none⟩)) (fun w => enters_ Tryz.func34 (by kernel_rfl) rfl #[(.pointer (some ⟨g, 0, none⟩))] w) (r := endR l r) (fun w1 ve1 h1 h2 => g_program_1 rfl rfl (by simp) h2 (mkeep h1 HP0.out HG0.out) hr) (by simp [fitS]) hf2)
 clear hr hf hf2
 generalize endR l r = r2 at *
 cases r2 with
 | ok i2 d2 out2 =>
  go_enter Tryz.func18, Tryz.ntmps18
  go_upto_region 1 with (fail)
  rw [HWB.out, HGE.out]
  go_wp2_with (first | (go_at_call 33; (with_reducible refine cM HCN.out ?_); rintro e w2 ⟨rfl, ve2, h2, h3⟩; have HP2 := zh h2; have HS2 := zh (HS0.out.trans h3); clear h2 h3))
  go_end0
  exact ⟨rfl, ve2, HP2.out, HS2.out⟩
 | err er jj =>
  go_enter Tryz.func18, Tryz.ntmps18
  go_upto_region 1 with (fail)
  rw [HWB.out, HGE.out]
  go_wp2_with (first | (go_at_call 33; (with_reducible refine cM HCN.out ?_); rintro e w2 ⟨rfl, ve2, h3⟩; have HS2 := zh (HS0.out.trans h3); clear h3))
  exact ⟨rfl, rfl, ve2, HS2.out⟩
theorem all_skip {p : Par} (hb : p.begun = true) (hc : p.closed = false) (hw : p.wrong = 0) : ∀ (ns r : List Tk), (∀ t ∈ ns, isNote t = true) →
  allP p (ns ++ r) = (ns.map noteE ++ (allP p r).1, (allP p r).2.1, ns.length + (allP p r).2.2)
 | [], r, h => by simp
 | t :: ns, r, h => by
  have hp := put_note_begun hb hc hw (h t List.mem_cons_self)
  rw [List.cons_append, all_cons_ok (by rw [hp])]
  rw [hp]
  dsimp only
  rw [all_skip hb hc hw ns r (fun t ht => h t (List.mem_cons_of_mem _ ht))]
  simp only [List.map_cons, List.cons_append, List.nil_append, List.length_cons]
  congr 2
  omega
theorem nAt_all {l : List Tk} {i : Nat} : ∀ t ∈ nAt l i, isNote t = true := by
 intro t ht
 have : ∀ (q : List Tk), t ∈ q.takeWhile isNote → isNote t = true := by
  intro q
  induction q with
  | nil => intro h; cases h
  | cons a q ih =>
   rw [List.takeWhile_cons]
   intro h
   split at h
   ·rename_i ha
    rcases List.mem_cons.1 h with rfl | h
    ·exact ha
    ·exact ih h
   ·cases h
 exact this _ ht
theorem drop_notes (l : List Tk) (i : Nat) : l.drop i = nAt l i ++ l.drop (i + (nAt l i).length) := by
 unfold nAt
 have h := (List.takeWhile_append_dropWhile (p := isNote) (l := l.drop i)).symm
 have h2 : (l.drop i).dropWhile isNote = l.drop (i + ((l.drop i).takeWhile isNote).length) := by
  have h3 : ∀ q : List Tk, q.dropWhile isNote = q.drop (q.takeWhile isNote).length := by
   intro q
   induction q with
   | nil => rfl
   | cons a q ih =>
    rw [List.dropWhile_cons, List.takeWhile_cons]
    split
    ·rw [List.length_cons, List.drop_succ_cons]; exact ih
    ·rfl
  rw [h3, List.drop_drop]
 rw [h2] at h
 exact h
theorem nAt_behind (l : List Tk) (i : Nat) : nAt l (i + (nAt l i).length) = [] := by
 have h : ∀ q : List Tk, (q.drop (q.takeWhile isNote).length).takeWhile isNote = [] := by
  intro q
  induction q with
  | nil => rfl
  | cons a q ih =>
   rw [List.takeWhile_cons]
   split
   ·rw [List.length_cons, List.drop_succ_cons]; exact ih
   ·rename_i ha
    rw [List.length_nil, List.drop_zero, List.takeWhile_cons, if_neg ha]
 have h2 := h (l.drop i)
 rw [List.drop_drop] at h2
 exact h2
theorem nAt_le {l : List Tk} {i : Nat} (hi : i ≤ l.length) : i + (nAt l i).length ≤ l.length := by
 have h := congrArg List.length (drop_notes l i)
 rw [List.length_append, List.length_drop, List.length_drop] at h
 have h2 : (nAt l i).length ≤ (l.drop i).length := (List.takeWhile_sublist _).length_le
 rw [List.length_drop] at h2
 omega
structure Says (l : List Tk) (out : List Ev) (i : Nat) (q : List Ev × Int × Nat) (r : SRes) : Prop where
 good : q.2.1 = 0 → ∃ evs, q.1 = evs ++ [evOf (3, 1)] ∧ r = .ok l.length 1 (out ++ evs)
 bad : q.2.1 ≠ 0 → endR l r = .err q.2.1 (i + q.2.2)
theorem run_all (l : List Tk) (hl : l.length ≤ 4194304) : ∀ (k i : Nat) (T : List WT) (p : Par) (op : List Nat) (out : List Ev), l.length - i = k → i ≤ l.length → nAt l i = [] → p.todo = T ++ [.fin 1] → LastW T → PInv p op → p.begun = true → out.length ≤ 4000 * (i + 1) → p.todo.length ≤ 77 * (i + 1) →
  ∃ n r, srun l n ⟨T, i, p.depth, out⟩ = some r ∧ Says l out i (allP p (l.drop i)) r := by
 intro k
 induction k using Nat.strongRecOn with
 | ind k ih =>
 intro i T p op out hk hi hn hT hLW hP hb hout htl
 have hd := hP.depth
 have hmost := hP.most
 have hfins := hP.fins
 rw [if_pos hb] at hfins
 by_cases hil : i = l.length
 ·subst hil
  rw [List.drop_length]
  rcases hLW with rfl | ⟨U, x, rfl⟩
  ·have hop : op = [1] := by rw [← hfins, hT]; rfl
   subst hop
   refine ⟨1, .ok l.length p.depth out, srun_res (Room.fit (n := 1) ⟨by omega, by rw [hd]; simp, by rw [hd]; simp⟩) rfl, fun _ => ⟨[], ?_, ?_⟩, fun h => ?_⟩
   ·simp only [allP, closeP, hP.closed, hP.wrong, hT]
    rfl
   ·rw [hd]; simp
   ·exfalso
    apply h
    simp only [allP, closeP, hP.closed, hP.wrong, hT]
    rfl
  ·obtain ⟨⟨b, s⟩, -, -, -, h1, -⟩ := turns_some ⟨#[]⟩ (U ++ [WT.word x]).length ⟨U ++ [WT.word x], [], p.depth⟩ rfl
   have hlen : (U ++ [WT.word x]).length + 1 = p.todo.length := by rw [hT]; simp
   have hr := run_end (l := l) _ U x [] p.depth out b s h1 ⟨by simp only [List.length_nil]; omega, by omega, by omega⟩
   rw [List.map_nil, List.append_nil] at hr
   have hq : allP p [] = ([], 121, 0) := by
    simp only [allP, closeP, hP.closed, hP.wrong, hT]
    rw [if_neg (by decide), if_neg (by decide), if_pos (by simp)]
   rw [hq]
   exact ⟨_, _, hr, fun h => absurd h (by decide), fun _ => rfl⟩
 ·have hlt : i < l.length := by omega
  obtain ⟨t, ht⟩ : ∃ t, l[i]? = some t := ⟨_, List.getElem?_eq_getElem hlt⟩
  have hdr : l.drop i = t :: l.drop (i + 1) := by
   rw [List.drop_eq_getElem_cons hlt]
   have := (List.getElem?_eq_some_iff.1 ht).2
   rw [this]
  have hnt : isNote t = false := by
   unfold nAt at hn
   rw [hdr, List.takeWhile_cons] at hn
   by_cases h : isNote t = true
   ·rw [if_pos h] at hn; cases hn
   ·simpa using h
  rw [hdr]
  have hpre : preD p = p.depth := by unfold preD; rw [if_pos hb]
  have hpreE : preE p = [] := by unfold preE; rw [if_pos hb]
  have hput : put p t = if (token t p.todo p.depth).1 ≠ 0 then ([], (token t p.todo p.depth).1, { p with todo := (token t p.todo p.depth).2.todo, wrong := (token t p.todo p.depth).1 }) else ((token t p.todo p.depth).2.evs.map evOf ++ [leafE t], 0, { p with todo := (token t p.todo p.depth).2.todo, depth := (token t p.todo p.depth).2.depth, begun := true }) := by
   unfold put
   simp only [hP.closed, Bool.false_eq_true, if_false, hP.wrong, ne_eq, not_true_eq_false, hnt, hpre, hpreE, List.nil_append]
  rcases hLW with rfl | ⟨U, x, rfl⟩
  ·have htk : (token t p.todo p.depth).1 = 120 := by
    rw [hT]
    rfl
   have hpb : (put p t).2.1 = 120 := by rw [hput, if_pos (by rw [htk]; decide)]; exact htk
   rw [all_cons_bad (by rw [hpb]; decide), hpb]
   refine ⟨1, .ok i p.depth out, srun_res (Room.fit (n := 1) ⟨by omega, by omega, by omega⟩) rfl, fun h => absurd h (by decide), fun _ => ?_⟩
   simp only [endR]
   rw [if_pos hlt]
   rfl
  ·have hT2 : p.todo = U ++ [.word x, .fin 1] := by rw [hT, List.append_assoc]; rfl
   obtain ⟨⟨b, s⟩, -, -, -, h1, -⟩ := turns_some (codeOf t) p.todo.length ⟨p.todo, [], p.depth⟩ rfl
   have hrm : Room (p.todo.length + 7) (out.length + ([] : List (Nat × Nat)).length) p.depth := ⟨by simp only [List.length_nil]; omega, by omega, by omega⟩
   have hrw := run_word ht (p.todo.length + 7) U x [] p.depth out b s (by rw [← hT2]; exact h1) hrm
   rw [List.map_nil, List.append_nil, List.length_nil, Nat.zero_add] at hrw
   have htok : token t p.todo p.depth = match (b, s) with
    | (false, s) => (120, s)
    | (true, s) => if s.todo = [] then (120, s) else if 1000 < s.depth then (122, s) else (0, s) := by
    unfold token
    rw [h1]
    cases b <;> rfl
   rcases hrw with ⟨rfl, hr⟩ | ⟨rfl, T', g1, g2, g3, g4, g5, g6⟩
   ·have hpb : (put p t).2.1 = 120 := by rw [hput, if_pos (by rw [htok]; exact (by decide : (120 : Int) ≠ 0))]; rw [htok]
    rw [all_cons_bad (by rw [hpb]; decide), hpb]
    exact ⟨_, _, hr, fun h => absurd h (by decide), fun _ => rfl⟩
   ·have hne : ¬ s.todo = [] := by rw [g1]; simp
    have hfw : ∀ T, fitS ⟨T, i, s.depth, out ++ s.evs.map evOf⟩ := fun T => by
     refine ⟨?_, ?_, ?_⟩
     ·dsimp only; rw [evlen]; omega
     ·dsimp only; omega
     ·dsimp only; omega
    by_cases hdp : 1000 < s.depth
    ·have htk : (token t p.todo p.depth).1 = 122 := by rw [htok]; simp only; rw [if_neg hne, if_pos hdp]
     have hpb : (put p t).2.1 = 122 := by rw [hput, if_pos (by rw [htk]; decide)]; exact htk
     rw [all_cons_bad (by rw [hpb]; decide), hpb]
     refine ⟨_, _, g6 1 (.err 122 i) (srun_res (hfw _) ?_), fun h => absurd h (by decide), fun _ => rfl⟩
     simp only [sstep, ht, if_true]
     rw [if_pos hdp]
    ·have htk : token t p.todo p.depth = (0, s) := by rw [htok]; simp only; rw [if_neg hne, if_neg hdp]
     have hput2 : put p t = (s.evs.map evOf ++ [leafE t], 0, { p with todo := s.todo, depth := s.depth, begun := true }) := by rw [hput, htk]; rfl
     obtain ⟨op', hP', hb', -, -⟩ := put_nest hP t [] (by rw [hput2])
     have hpl := put_len p t
     have hev : s.evs.length ≤ 2000 := by
      obtain ⟨cl, op2, X, a1, a2, -, a4, a5, -⟩ := token_law t p.todo p.depth
      rw [htk] at a1 a2 a5
      have h9 := (a5 rfl).2
      have h8 := congrArg List.length a1
      have h7 := congrArg List.length a4
      rw [hfins] at h7
      simp only [List.length_append, List.length_map] at h8 h7
      dsimp only at a2 h9
      omega
     rw [hput2] at hP' hb' hpl
     dsimp only at hP' hb' hpl
     have hle := nAt_le (l := l) (i := i + 1) (by omega)
     have hdn := drop_notes l (i + 1)
     rw [all_cons_ok (by rw [hput2]), hput2, hdn]
     dsimp only
     rw [all_skip (p := { p with todo := s.todo, depth := s.depth, begun := true }) rfl hP'.closed hP'.wrong _ _ nAt_all]
     obtain ⟨n, r, hr, hS⟩ := ih (l.length - (i + 1 + (nAt l (i + 1)).length)) (by omega) (i + 1 + (nAt l (i + 1)).length) T' { p with todo := s.todo, depth := s.depth, begun := true } op' (out ++ s.evs.map evOf ++ [leafE t] ++ (nAt l (i + 1)).map noteE) rfl hle (nAt_behind l (i + 1)) g1 g2 hP' rfl (by simp only [List.length_append, List.length_map, List.length_singleton]; omega) (by dsimp only; omega)
     dsimp only at hr
     refine ⟨_, r, g6 (n + 1) r ?_, fun h0 => ?_, fun h0 => ?_⟩
     ·rw [srun_step (hfw _) (s' := ⟨T', i + 1 + (nAt l (i + 1)).length, s.depth, out ++ s.evs.map evOf ++ [leafE t] ++ (nAt l (i + 1)).map noteE⟩)]
      ·exact hr
      ·simp only [sstep, ht, if_true]
       rw [if_neg hdp]
     ·obtain ⟨evs, e1, e2⟩ := hS.good h0
      refine ⟨s.evs.map evOf ++ [leafE t] ++ (nAt l (i + 1)).map noteE ++ evs, ?_, ?_⟩
      ·dsimp only
       rw [e1]
       simp only [List.append_assoc]
      ·rw [e2]
       simp only [List.append_assoc]
     ·have := hS.bad h0
      rw [this]
      dsimp only
      congr 1
      omega
abbrev progT : List WT := [.word ⟨#[112, 114, 111, 103, 114, 97, 109]⟩, .word ⟨#[64, 110, 97, 109, 101]⟩, .word ⟨#[59]⟩, .rule .r_block, .word ⟨#[46]⟩]
theorem start_all (l : List Tk) : (allP newPar l).2.1 = (allP notedPar (l.drop (nAt l 0).length)).2.1 ∧ (allP newPar l).2.2 = (nAt l 0).length + (allP notedPar (l.drop (nAt l 0).length)).2.2 ∧
  ((allP newPar l).2.1 = 0 → (allP newPar l).1 = evOf (1, 1) :: ((nAt l 0).map noteE ++ (allP notedPar (l.drop (nAt l 0).length)).1)) := by
 have hd := drop_notes l 0
 rw [List.drop_zero, Nat.zero_add] at hd
 have hall := nAt_all (l := l) (i := 0)
 generalize hns : nAt l 0 = ns at *
 cases ns with
 | nil =>
  rw [List.length_nil, List.drop_zero, List.map_nil, List.nil_append, Nat.zero_add]
  cases l with
  | nil => exact ⟨rfl, rfl, fun h => absurd h (by decide)⟩
  | cons t r =>
   have hn : isNote t = false := by
    unfold nAt at hns
    rw [List.drop_zero, List.takeWhile_cons] at hns
    by_cases h : isNote t = true
    ·rw [if_pos h] at hns; cases hns
    ·simpa using h
   obtain ⟨h1, h2⟩ := put_cmp hn
   by_cases he : (put newPar t).2.1 = 0
   ·obtain ⟨h3, h4⟩ := h2 he
    rw [all_cons_ok he, all_cons_ok (by rw [h1]; exact he), h3, h4]
    exact ⟨rfl, rfl, fun _ => rfl⟩
   ·rw [all_cons_bad he, all_cons_bad (by rw [h1]; exact he), h1]
    exact ⟨rfl, rfl, fun h => absurd h he⟩
 | cons t ns =>
  have hp : put newPar t = ([evOf (1, 1), noteE t], 0, notedPar) := put_note rfl rfl (hall t List.mem_cons_self)
  have hk := all_skip (p := notedPar) rfl rfl rfl ns (l.drop (t :: ns).length) (fun x hx => hall x (List.mem_cons_of_mem _ hx))
  have ha : allP newPar l = allP newPar (t :: (ns ++ l.drop (t :: ns).length)) := by
   conv => lhs; rw [hd]
   rfl
  rw [ha, all_cons_ok (by rw [hp]), hp]
  dsimp only
  rw [hk]
  refine ⟨rfl, ?_, fun _ => rfl⟩
  dsimp only
  rw [List.length_cons]
  omega
def progR (l : List Tk) : SRes := if (allP newPar l).2.1 = 0 then .ok l.length 0 (allP newPar l).1 else .err (allP newPar l).2.1 (allP newPar l).2.2
theorem prog_run (l : List Tk) (hl : l.length ≤ 4194304) : ∃ n r, srun l n ⟨progT, (nAt l 0).length, 1, evOf (1, 1) :: (nAt l 0).map noteE⟩ = some r ∧ nodeR 1 (endR l r) = progR l := by
 have hle := nAt_le (l := l) (i := 0) (Nat.zero_le _)
 have hbh := nAt_behind l 0
 rw [Nat.zero_add] at hle hbh
 obtain ⟨h1, h2, h3⟩ := start_all l
 obtain ⟨n, r, hr, hS⟩ := run_all l hl _ (nAt l 0).length progT notedPar [1] (evOf (1, 1) :: (nAt l 0).map noteE) rfl hle hbh rfl (.inr ⟨progT.dropLast, ⟨#[46]⟩, rfl⟩) noted_inv rfl (by simp only [List.length_cons, List.length_map]; omega) (by simp only [notedPar, newPar, List.length_cons, List.length_nil]; omega)
 refine ⟨n, r, hr, ?_⟩
 unfold progR
 by_cases he : (allP newPar l).2.1 = 0
 ·obtain ⟨evs, e1, e2⟩ := hS.good (by rw [← h1]; exact he)
  rw [if_pos he, e2, h3 he, e1]
  simp only [endR, Nat.lt_irrefl, if_false, nodeR, List.cons_append, List.append_assoc]
  rfl
 ·have := hS.bad (by rw [← h1]; exact he)
  rw [if_neg he, this, h1, h2]
  rfl
theorem prog_len {l : List Tk} {n : Nat} {s : SSt} {r : SRes} (h : srun l n s = some r) : ∀ i2 d2 out2, r = .ok i2 d2 out2 → fitS ⟨[], i2, d2, out2⟩ := fun i2 d2 out2 he => srun_ok_fit n s i2 d2 out2 (by rw [← he]; exact h)
theorem prog_evs {l : List Tk} (hl : l.length ≤ 4194304) (he : (allP newPar l).2.1 = 0) : (allP newPar l).1.length ≤ 274877906945 := by
 obtain ⟨n, r, hr, hq⟩ := prog_run l hl
 unfold progR at hq
 rw [if_pos he] at hq
 cases r with
 | err e j => simp only [endR, nodeR] at hq; cases hq
 | ok i d out =>
  have hf := prog_len hr i d out rfl
  simp only [endR] at hq
  split at hq
  ·simp only [nodeR] at hq; cases hq
  ·simp only [nodeR, SRes.ok.injEq] at hq
   rw [← hq.2.2, List.length_append, List.length_singleton]
   have := hf.1
   dsimp only at this
   omega
end Go.Proofs.YtmjbpgnjgblnmaaGreat
namespace Go.Proofs.YtmjbpgnjgblnmaaGreat.Tr
open Go.RowKit Go.Proofs.YtmjbpgnjgblnmaaGreatW.PrintWords Go.Proofs.YtmjbpgnjgblnmaaGreatW.PrintLast Go.Proofs.YtmjbpgnjgblnmaaGreatW.PrintMore
abbrev Tk := PSyntaxProgram.S28
abbrev Ev := PSyntaxProgram.S48
abbrev Nd := PSyntaxProgram.S32
abbrev kEv := PSyntaxProgram.k48
abbrev kNd := PSyntaxProgram.k32
abbrev TN : TypeId := 32
def noTk : Tk := ⟨0, ⟨#[]⟩, ⟨0, 0, 0⟩, 0⟩
def noNd : Nd := ⟨0, noTk, []⟩
def ndCells (k : Int) (t : Tk) (v : Value) : List Value := [.int .u8 k, .int .u8 t.f0, .string t.f1, .int .i64 t.f2.f0, .int .i64 t.f2.f1, .int .i64 t.f2.f2, .int .i64 t.f3, v]
mutual
def Own (w : World) (base : Nat) : Nd → List Value → (Nat → Prop) → Prop
 | ⟨k, t, kids⟩, cs, F => ∃ v cells G, cs = ndCells k t v ∧ w.ownsRow base TN 8 v kids.length cells ∧ OwnL w base kids cells G ∧ (∀ b, v.ownBlock = some b → F b ∧ ¬ G b) ∧ (∀ b, G b → F b)
def OwnL (w : World) (base : Nat) : List Nd → List Value → (Nat → Prop) → Prop
 | [], cells, _ => cells = []
 | x :: xs, cells, F => ∃ c cs G1 G2, cells = c ++ cs ∧ Own w base x c G1 ∧ OwnL w base xs cs G2 ∧ (∀ b, G1 b → F b) ∧ (∀ b, G2 b → F b) ∧ (∀ b, G1 b → ¬ G2 b)
end
def OwnS (w : World) (base : Nat) (v : Value) (kids : List Nd) (F : Nat → Prop) : Prop := ∃ cells G, w.ownsRow base TN 8 v kids.length cells ∧ OwnL w base kids cells G ∧ (∀ b, v.ownBlock = some b → F b ∧ ¬ G b) ∧ (∀ b, G b → F b)
theorem own_iff {w : World} {base : Nat} {x : Nd} {cs : List Value} {F : Nat → Prop} : Own w base x cs F ↔ ∃ v, cs = ndCells x.f0 x.f1 v ∧ OwnS w base v x.f2 F := by
 obtain ⟨k, t, kids⟩ := x
 rw [Own]
 constructor
 ·rintro ⟨v, cells, G, h1, h2, h3, h4, h5⟩
  exact ⟨v, h1, cells, G, h2, h3, h4, h5⟩
 ·rintro ⟨v, h1, cells, G, h2, h3, h4, h5⟩
  exact ⟨v, cells, G, h1, h2, h3, h4, h5⟩
theorem own_mono {w : World} {base : Nat} {x : Nd} {cs : List Value} {F F' : Nat → Prop} (h : Own w base x cs F) (hF : ∀ b, F b → F' b) : Own w base x cs F' := by
 rw [own_iff] at h ⊢
 obtain ⟨v, h1, cells, G, h2, h3, h4, h5⟩ := h
 exact ⟨v, h1, cells, G, h2, h3, fun b hb => ⟨hF b (h4 b hb).1, (h4 b hb).2⟩, fun b hb => hF b (h5 b hb)⟩
theorem ownL_mono {w : World} {base : Nat} {xs : List Nd} {cs : List Value} {F F' : Nat → Prop} (h : OwnL w base xs cs F) (hF : ∀ b, F b → F' b) : OwnL w base xs cs F' := by
 cases xs with
 | nil => exact h
 | cons x xs =>
  rw [OwnL] at h ⊢
  obtain ⟨c, cs', G1, G2, h1, h2, h3, h4, h5, h6⟩ := h
  exact ⟨c, cs', G1, G2, h1, h2, h3, fun b hb => hF b (h4 b hb), fun b hb => hF b (h5 b hb), h6⟩
theorem ownS_mono {w : World} {base : Nat} {v : Value} {kids : List Nd} {F F' : Nat → Prop} (h : OwnS w base v kids F) (hF : ∀ b, F b → F' b) : OwnS w base v kids F' := by
 obtain ⟨cells, G, h2, h3, h4, h5⟩ := h
 exact ⟨cells, G, h2, h3, fun b hb => ⟨hF b (h4 b hb).1, (h4 b hb).2⟩, fun b hb => hF b (h5 b hb)⟩
theorem own_len {w : World} {base : Nat} {x : Nd} {cs : List Value} {F : Nat → Prop} (h : Own w base x cs F) : cs.length = 8 := by
 rw [own_iff] at h
 obtain ⟨v, rfl, _⟩ := h
 rfl
theorem ownL_len {w : World} {base : Nat} : ∀ {xs : List Nd} {cs : List Value} {F : Nat → Prop}, OwnL w base xs cs F → cs.length = xs.length * 8
 | [], cs, F, h => by rw [OwnL] at h; subst h; rfl
 | x :: xs, cs, F, h => by
  rw [OwnL] at h
  obtain ⟨c, cs', G1, G2, rfl, h2, h3, _⟩ := h
  have := own_len h2
  have := ownL_len h3
  simp only [List.length_append, List.length_cons]
  omega
theorem row_move {w w1 : World} {base : Nat} {e : TypeId} {size n : Nat} {v : Value} {xs : List Value} (h : w.ownsRow base e size v n xs) (hm : ∀ k, v.ownBlock = some k → w1.heap[k]? = w.heap[k]?) : w1.ownsRow base e size v n xs := Go.Proofs.YtmjbpgnjgblnmaaGreatW.PrintWords.own_move h hm
mutual
theorem own_move {w w1 : World} {base : Nat} : ∀ (x : Nd) {cs : List Value} {F : Nat → Prop}, Own w base x cs F → (∀ b, F b → w1.heap[b]? = w.heap[b]?) → Own w1 base x cs F
 | ⟨k, t, kids⟩, cs, F, h, hm => by
  rw [Own] at h ⊢
  obtain ⟨v, cells, G, h1, h2, h3, h4, h5⟩ := h
  exact ⟨v, cells, G, h1, row_move h2 (fun b hb => hm b (h4 b hb).1), ownL_move kids h3 (fun b hb => hm b (h5 b hb)), h4, h5⟩
theorem ownL_move {w w1 : World} {base : Nat} : ∀ (xs : List Nd) {cs : List Value} {F : Nat → Prop}, OwnL w base xs cs F → (∀ b, F b → w1.heap[b]? = w.heap[b]?) → OwnL w1 base xs cs F
 | [], cs, F, h, _ => by rw [OwnL] at h ⊢; exact h
 | x :: xs, cs, F, h, hm => by
  rw [OwnL] at h ⊢
  obtain ⟨c, cs', G1, G2, h1, h2, h3, h4, h5, h6⟩ := h
  exact ⟨c, cs', G1, G2, h1, own_move x h2 (fun b hb => hm b (h4 b hb)), ownL_move xs h3 (fun b hb => hm b (h5 b hb)), h4, h5, h6⟩
end
def Lies (w : World) (base b : Nat) : Prop := base ≤ b ∧ b < w.heap.size ∧ ∃ cells, w.heap[b]? = some (.cells cells TN (0, 0))
theorem row_lies {w : World} {base n : Nat} {v : Value} {xs : List Value} (h : w.ownsRow base TN 8 v n xs) (b : Nat) (hb : v.ownBlock = some b) : Lies w base b := ⟨own_base h b hb, own_lt h b hb, own_typed h b hb⟩
mutual
theorem own_bound {w : World} {base : Nat} : ∀ (x : Nd) {cs : List Value} {F : Nat → Prop}, Own w base x cs F → Own w base x cs (fun b => F b ∧ Lies w base b)
 | ⟨k, t, kids⟩, cs, F, h => by
  rw [Own] at h ⊢
  obtain ⟨v, cells, G, h1, h2, h3, h4, h5⟩ := h
  exact ⟨v, cells, _, h1, h2, ownL_bound kids h3, fun b hb => ⟨⟨(h4 b hb).1, row_lies h2 b hb⟩, fun hg => (h4 b hb).2 hg.1⟩, fun b hb => ⟨h5 b hb.1, hb.2⟩⟩
theorem ownL_bound {w : World} {base : Nat} : ∀ (xs : List Nd) {cs : List Value} {F : Nat → Prop}, OwnL w base xs cs F → OwnL w base xs cs (fun b => F b ∧ Lies w base b)
 | [], cs, F, h => by rw [OwnL] at h ⊢; exact h
 | x :: xs, cs, F, h => by
  rw [OwnL] at h ⊢
  obtain ⟨c, cs', G1, G2, h1, h2, h3, h4, h5, h6⟩ := h
  exact ⟨c, cs', _, _, h1, own_bound x h2, ownL_bound xs h3, fun b hb => ⟨h4 b hb.1, hb.2⟩, fun b hb => ⟨h5 b hb.1, hb.2⟩, fun b hb hc => h6 b hb.1 hc.1⟩
end
theorem ownS_bound {w : World} {base : Nat} {v : Value} {kids : List Nd} {F : Nat → Prop} (h : OwnS w base v kids F) : OwnS w base v kids (fun b => F b ∧ Lies w base b) := by
 obtain ⟨cells, G, h2, h3, h4, h5⟩ := h
 exact ⟨cells, _, h2, ownL_bound kids h3, fun b hb => ⟨⟨(h4 b hb).1, row_lies h2 b hb⟩, fun hg => (h4 b hb).2 hg.1⟩, fun b hb => ⟨h5 b hb.1, hb.2⟩⟩
theorem ownS_move {w w1 : World} {base : Nat} {v : Value} {kids : List Nd} {F : Nat → Prop} (h : OwnS w base v kids F) (hm : ∀ b, F b → w1.heap[b]? = w.heap[b]?) : OwnS w1 base v kids F := by
 obtain ⟨cells, G, h2, h3, h4, h5⟩ := h
 exact ⟨cells, G, row_move h2 (fun b hb => hm b (h4 b hb).1), ownL_move kids h3 (fun b hb => hm b (h5 b hb)), h4, h5⟩
theorem own_step {w w1 : World} {base : Nat} {x : Nd} {cs : List Value} {F : Nat → Prop} (h : Own w base x cs F) (hm : ∀ b, F b → Lies w base b → w1.heap[b]? = w.heap[b]?) : Own w1 base x cs F := own_mono (own_move x (own_bound x h) (fun b hb => hm b hb.1 hb.2)) (fun _ hb => hb.1)
theorem ownL_step {w w1 : World} {base : Nat} {xs : List Nd} {cs : List Value} {F : Nat → Prop} (h : OwnL w base xs cs F) (hm : ∀ b, F b → Lies w base b → w1.heap[b]? = w.heap[b]?) : OwnL w1 base xs cs F := ownL_mono (ownL_move xs (ownL_bound xs h) (fun b hb => hm b hb.1 hb.2)) (fun _ hb => hb.1)
theorem ownS_step {w w1 : World} {base : Nat} {v : Value} {kids : List Nd} {F : Nat → Prop} (h : OwnS w base v kids F) (hm : ∀ b, F b → Lies w base b → w1.heap[b]? = w.heap[b]?) : OwnS w1 base v kids F := ownS_mono (ownS_move (ownS_bound h) (fun b hb => hm b hb.1 hb.2)) (fun _ hb => hb.1)
theorem own_below {w w1 : World} {base : Nat} {x : Nd} {cs : List Value} {F : Nat → Prop} (h : Own w base x cs F) (hb : Below w.heap.size w w1) : Own w1 base x cs F := own_step h (fun b _ hl => hb.block b hl.2.1)
theorem ownS_below {w w1 : World} {base : Nat} {v : Value} {kids : List Nd} {F : Nat → Prop} (h : OwnS w base v kids F) (hb : Below w.heap.size w w1) : OwnS w1 base v kids F := ownS_step h (fun b _ hl => hb.block b hl.2.1)
mutual
theorem own_lower {w : World} {base base' : Nat} (hle : base' ≤ base) : ∀ (x : Nd) {cs : List Value} {F : Nat → Prop}, Own w base x cs F → Own w base' x cs F
 | ⟨k, t, kids⟩, cs, F, h => by
  rw [Own] at h ⊢
  obtain ⟨v, cells, G, h1, h2, h3, h4, h5⟩ := h
  exact ⟨v, cells, G, h1, own_weaken h2 hle, ownL_lower hle kids h3, h4, h5⟩
theorem ownL_lower {w : World} {base base' : Nat} (hle : base' ≤ base) : ∀ (xs : List Nd) {cs : List Value} {F : Nat → Prop}, OwnL w base xs cs F → OwnL w base' xs cs F
 | [], cs, F, h => by rw [OwnL] at h ⊢; exact h
 | x :: xs, cs, F, h => by
  rw [OwnL] at h ⊢
  obtain ⟨c, cs', G1, G2, h1, h2, h3, h4, h5, h6⟩ := h
  exact ⟨c, cs', G1, G2, h1, own_lower hle x h2, ownL_lower hle xs h3, h4, h5, h6⟩
end
theorem ownS_lower {w : World} {base base' : Nat} (hle : base' ≤ base) {v : Value} {kids : List Nd} {F : Nat → Prop} (h : OwnS w base v kids F) : OwnS w base' v kids F := by
 obtain ⟨cells, G, h2, h3, h4, h5⟩ := h
 exact ⟨cells, G, own_weaken h2 hle, ownL_lower hle kids h3, h4, h5⟩
theorem ownL_append {w : World} {base : Nat} : ∀ {xs ys : List Nd} {cs ds : List Value} {F1 F2 : Nat → Prop}, OwnL w base xs cs F1 → OwnL w base ys ds F2 → (∀ b, F1 b → ¬ F2 b) → OwnL w base (xs ++ ys) (cs ++ ds) (fun b => F1 b ∨ F2 b)
 | [], ys, cs, ds, F1, F2, h1, h2, h3 => by
  rw [OwnL] at h1
  subst h1
  exact ownL_mono h2 (fun _ hb => .inr hb)
 | x :: xs, ys, cs, ds, F1, F2, h1, h2, h3 => by
  rw [OwnL] at h1
  obtain ⟨c, cs', G1, G2, rfl, a1, a2, a3, a4, a5⟩ := h1
  rw [List.cons_append, OwnL]
  refine ⟨c, cs' ++ ds, G1, fun b => G2 b ∨ F2 b, by rw [List.append_assoc], a1, ownL_append a2 h2 (fun b hb => h3 b (a4 b hb)), fun b hb => .inl (a3 b hb), fun b hb => ?_, fun b hb hc => ?_⟩
  ·rcases hb with hb | hb
   ·exact .inl (a4 b hb)
   ·exact .inr hb
  ·rcases hc with hc | hc
   ·exact a5 b hb hc
   ·exact h3 b (a3 b hb) hc
theorem ownL_parts {w : World} {base : Nat} : ∀ {xs ys : List Nd} {cells : List Value} {F : Nat → Prop}, OwnL w base (xs ++ ys) cells F → ∃ cs ds F1 F2, cells = cs ++ ds ∧ OwnL w base xs cs F1 ∧ OwnL w base ys ds F2 ∧ (∀ b, F1 b → F b) ∧ (∀ b, F2 b → F b) ∧ (∀ b, F1 b → ¬ F2 b)
 | [], ys, cells, F, h => ⟨[], cells, fun _ => False, F, rfl, by rw [OwnL], h, fun _ hb => hb.elim, fun _ hb => hb, fun _ hb => hb.elim⟩
 | x :: xs, ys, cells, F, h => by
  rw [List.cons_append, OwnL] at h
  obtain ⟨c, cs', G1, G2, rfl, a1, a2, a3, a4, a5⟩ := h
  obtain ⟨cs, ds, F1, F2, rfl, b1, b2, b3, b4, b5⟩ := ownL_parts a2
  refine ⟨c ++ cs, ds, fun b => G1 b ∨ F1 b, F2, by rw [List.append_assoc], ?_, b2, fun b hb => ?_, fun b hb => a4 b (b4 b hb), fun b hb hc => ?_⟩
  ·rw [OwnL]
   exact ⟨c, cs, G1, F1, rfl, a1, b1, fun _ hb => .inl hb, fun _ hb => .inr hb, fun b hb hc => a5 b hb (b3 b hc)⟩
  ·rcases hb with hb | hb
   ·exact a3 b hb
   ·exact a4 b (b3 b hb)
  ·rcases hb with hb | hb
   ·exact a5 b hb (b4 b hc)
   ·exact b5 b hb hc
theorem ownL_one {w : World} {base : Nat} {x : Nd} {c : List Value} {F : Nat → Prop} : OwnL w base [x] c F ↔ Own w base x c F := by
 rw [OwnL]
 constructor
 ·rintro ⟨c', cs, G1, G2, rfl, h1, h2, h3, _⟩
  rw [OwnL] at h2
  subst h2
  rw [List.append_nil]
  exact own_mono h1 h3
 ·intro h
  exact ⟨c, [], F, fun _ => False, by rw [List.append_nil], h, by rw [OwnL], fun _ hb => hb, fun _ hb => hb.elim, fun _ _ hb => hb⟩
theorem ownS_nil (w : World) (base : Nat) (F : Nat → Prop) : OwnS w base (.slice none 0 0) [] F := ⟨[], fun _ => False, ⟨rfl, .inl ⟨rfl, rfl⟩⟩, by rw [OwnL], fun b hb => by simp [Value.ownBlock] at hb, fun _ hb => hb.elim⟩
theorem row_C {w : World} {base : Nat} {v : Value} {kids : List Nd} {cells : List Value} (h : w.ownsRow base TN 8 v kids.length cells) (hl : Reps (kNd.K w) 8 kids cells) : ∃ A c, v = .slice A kids.length c ∧ kids.length ≤ c ∧ Kd.C kNd w A kids.length kids := by
 obtain ⟨A, c, hv, hr⟩ := own_reads_row (size := 8) h hl rfl
 refine ⟨A, c, hv, ?_, hr⟩
 rcases h.2 with ⟨he, hn⟩ | ⟨g, cap, cur, he, _, _, hc, _⟩
 ·omega
 ·rw [hv] at he
  injection he with _ _ he
  omega
mutual
theorem own_K {w : World} {base : Nat} : ∀ (x : Nd) {cs : List Value} {F : Nat → Prop}, Own w base x cs F → kNd.K w x cs
 | ⟨k, t, kids⟩, cs, F, h => by
  rw [Own] at h
  obtain ⟨v, cells, G, rfl, h2, h3, h4, h5⟩ := h
  obtain ⟨A, c, rfl, hc, hr⟩ := row_C h2 (ownL_reps kids h3)
  exact PSyntaxProgram.k32_mk w ⟨k, t, kids⟩ hc hr
theorem ownL_reps {w : World} {base : Nat} : ∀ (xs : List Nd) {cs : List Value} {F : Nat → Prop}, OwnL w base xs cs F → Reps (kNd.K w) 8 xs cs
 | [], cs, F, h => by rw [OwnL] at h; subst h; exact Reps.none _ _
 | x :: xs, cs, F, h => by
  rw [OwnL] at h
  obtain ⟨c, cs', G1, G2, rfl, h2, h3, _⟩ := h
  have := Kd.reps_append ((Reps.none (kNd.K w) 8).snoc (own_K x h2) (own_len h2)) (ownL_reps xs h3)
  simpa using this
end
theorem ownS_C {w : World} {base : Nat} {v : Value} {kids : List Nd} {F : Nat → Prop} (h : OwnS w base v kids F) : ∃ A c, v = .slice A kids.length c ∧ kids.length ≤ c ∧ Kd.C kNd w A kids.length kids := by
 obtain ⟨cells, G, h2, h3, _⟩ := h
 exact row_C h2 (ownL_reps kids h3)
theorem grown_S {W w1 : World} {base : Nat} {v v1 : Value} {kids : List Nd} {cells cs : List Value} {F G Fx : Nat → Prop} {x : Nd} (h2 : W.ownsRow base TN 8 v kids.length cells) (h3 : OwnL W base kids cells G) (h4 : ∀ b, v.ownBlock = some b → F b ∧ ¬ G b) (h5 : ∀ b, G b → F b)
  (hx : Own W base x cs Fx) (hd : ∀ b, F b → ¬ Fx b) (ho : w1.ownsRow base TN 8 v1 (kids.length + 1) (cells ++ cs)) (hg : W.grownBy w1 v.ownBlock) (hat : v1.ownBlock = v.ownBlock ∨ ∃ b, v1.ownBlock = some b ∧ W.heap.size ≤ b) :
  OwnS w1 base v1 (kids ++ [x]) (fun b => F b ∨ Fx b ∨ W.heap.size ≤ b) := by
 have a3 : OwnL w1 base kids cells (fun b => G b ∧ Lies W base b) := ownL_move kids (ownL_bound kids h3) (fun b hb => hg.block b hb.2.2.1 (fun he => (h4 b he.symm).2 hb.1))
 have ax : Own w1 base x cs (fun b => Fx b ∧ Lies W base b) := own_move x (own_bound x hx) (fun b hb => hg.block b hb.2.2.1 (fun he => hd b (h4 b he.symm).1 hb.1))
 refine ⟨cells ++ cs, _, by rw [List.length_append, List.length_singleton]; exact ho, ownL_append a3 (ownL_one.2 ax) (fun b hb hc => hd b (h5 b hb.1) hc.1), fun b hb => ?_, fun b hb => ?_⟩
 ·rcases hat with he | ⟨b', he, hle⟩
  ·rw [he] at hb
   refine ⟨.inl (h4 b hb).1, fun hc => ?_⟩
   rcases hc with hc | hc
   ·exact (h4 b hb).2 hc.1
   ·exact hd b (h4 b hb).1 hc.1
  ·rw [he] at hb
   obtain rfl := Option.some.inj hb
   refine ⟨.inr (.inr hle), fun hc => ?_⟩
   rcases hc with hc | hc
   ·have := hc.2.2.1; omega
   ·have := hc.2.2.1; omega
 ·rcases hb with hb | hb
  ·exact .inl (h5 b hb.1)
  ·exact .inr (.inl hb.1)
theorem kid_own (w : World) (base : Nat) (k : Int) (t : Tk) (F : Nat → Prop) : Own w base ⟨k, t, []⟩ (ndCells k t (.slice none 0 0)) F := own_iff.2 ⟨_, rfl, ownS_nil w base F⟩
structure TopsX (w : World) (base g cap : Nat) (S : List Nd) (t : Nd) (u : Value) (F : Nat → Prop) (cells : List Value) (G1 G2 : Nat → Prop) (kc : List Value) (Gk : Nat → Prop) : Prop where
 row : w.ownsRow base TN 8 (.slice (some ⟨g, 0, none⟩) (S.length + 1) cap) (S.length + 1) (cells ++ ndCells t.f0 t.f1 u)
 rest : OwnL w base S cells G1
 krow : w.ownsRow base TN 8 u t.f2.length kc
 kids : OwnL w base t.f2 kc Gk
 own : ∀ b, u.ownBlock = some b → G2 b ∧ ¬ Gk b
 sub : ∀ b, Gk b → G2 b
 apart : ∀ b, G1 b → ¬ G2 b
 n1 : ¬ G1 g
 n2 : ¬ G2 g
 fg : F g
 f1 : ∀ b, G1 b → F b
 f2 : ∀ b, G2 b → F b
structure Tops (w : World) (base g cap : Nat) (S : List Nd) (t : Nd) (u : Value) (F : Nat → Prop) : Prop where
 top : ∃ (cells : List Value) (G1 G2 : Nat → Prop) (kc : List Value) (Gk : Nat → Prop), TopsX w base g cap S t u F cells G1 G2 kc Gk
theorem tops_of {w : World} {base : Nat} {v : Value} {S : List Nd} {t : Nd} {F : Nat → Prop} (h : OwnS w base v (S ++ [t]) F) : ∃ g cap u, v = .slice (some ⟨g, 0, none⟩) (S.length + 1) cap ∧ Tops w base g cap S t u F := by
 obtain ⟨cells, G, h2, h3, h4, h5⟩ := h
 obtain ⟨cs, ds, F1, F2, rfl, b1, b2, b3, b4, b5⟩ := ownL_parts h3
 rw [ownL_one, own_iff] at b2
 obtain ⟨u, rfl, kc, Gk, c2, c3, c4, c5⟩ := b2
 rw [List.length_append, List.length_singleton] at h2
 rcases h2.2 with ⟨_, hn⟩ | ⟨g, cap, cur, rfl, r⟩
 ·omega
 ·have hg := h4 g rfl
  exact ⟨g, cap, u, rfl, ⟨cs, F1, F2, kc, Gk, h2, b1, c2, c3, c4, c5, b5, fun hb => hg.2 (b3 g hb), fun hb => hg.2 (b4 g hb), hg.1, fun b hb => h5 b (b3 b hb), fun b hb => h5 b (b4 b hb)⟩⟩
theorem tops_back {w : World} {base g cap : Nat} {S : List Nd} {t : Nd} {u : Value} {F : Nat → Prop} (h : Tops w base g cap S t u F) : OwnS w base (.slice (some ⟨g, 0, none⟩) (S.length + 1) cap) (S ++ [t]) F := by
 obtain ⟨cells, G1, G2, kc, Gk, h1, h2, h3, h4, h5, h6, h7, h8, h9, h10, h11, h12⟩ := h.top
 refine ⟨cells ++ ndCells t.f0 t.f1 u, fun b => G1 b ∨ G2 b, by rw [List.length_append, List.length_singleton]; exact h1, ownL_append h2 (ownL_one.2 (own_iff.2 ⟨u, rfl, kc, Gk, h3, h4, h5, h6⟩)) h7, fun b hb => ?_, fun b hb => ?_⟩
 ·have : g = b := by simpa [Value.ownBlock] using hb
  subst this
  exact ⟨h10, fun hc => hc.elim h8 h9⟩
 ·rcases hb with hb | hb
  ·exact h11 b hb
  ·exact h12 b hb
theorem row_at {w : World} {base g cap n : Nat} {cells : List Value} (h : w.ownsRow base TN 8 (.slice (some ⟨g, 0, none⟩) n cap) n cells) (j : Nat) (v : Value) (hj : cells[j]? = some v) : w.cell? ⟨g, j, none⟩ = some v ∧ w.frozen? ⟨g, j, none⟩ = false := by
 rcases h.2 with ⟨he, _⟩ | ⟨g', cap', cur, he, hb, hh, hl, _, hs, ht⟩
 ·cases he
 ·injection he with he
  injection he with he
  injection he with he
  subst he
  have hjl := (List.getElem?_eq_some_iff.1 hj).1
  rw [h.1] at hjl
  refine ⟨?_, by simp [World.frozen?, hh]⟩
  rw [← ht, List.getElem?_take_of_lt hjl, Array.getElem?_toList] at hj
  rw [cR _ hh]
  exact hj
theorem top_at {w : World} {base g cap : Nat} {S : List Nd} {t : Nd} {u : Value} {F : Nat → Prop} (h : Tops w base g cap S t u F) (j : Nat) (v : Value) (hj : (ndCells t.f0 t.f1 u)[j]? = some v) : w.cell? ⟨g, S.length * 8 + j, none⟩ = some v ∧ w.frozen? ⟨g, S.length * 8 + j, none⟩ = false := by
 obtain ⟨cells, G1, G2, kc, Gk, h1, h2, _⟩ := h.top
 have hl := ownL_len h2
 refine row_at h1 _ v ?_
 rw [List.getElem?_append_right (by omega), show S.length * 8 + j - cells.length = j by omega]
 exact hj
theorem top_slice {w : World} {base g cap : Nat} {S : List Nd} {t : Nd} {u : Value} {F : Nat → Prop} (h : Tops w base g cap S t u F) : ∃ A c, u = .slice A t.f2.length c := by
 obtain ⟨cells, G1, G2, kc, Gk, h1, h2, h3, _⟩ := h.top
 exact own_slice h3
theorem infoNd : (Tryz.prog.info? 32).map (fun i => (i.zero, i.size, i.bytes)) = some (some (.agg #[(.int .u8 0), (.int .u8 0), (.string ⟨#[]⟩), (.int .i64 0), (.int .i64 0), (.int .i64 0), (.int .i64 0), (.slice none 0 0)]), 8, 88) := by kernel_rfl
theorem infoNdS : (Tryz.prog.info? 30).map (·.size) = some 1 := by kernel_rfl
theorem infoNd8 : (Tryz.prog.info? 32).map (·.size) = some 8 := by kernel_rfl
theorem ndCells_one (k : Int) (t : Tk) {v : Value} (hv : v.oneCell' = true) : ∀ u ∈ ndCells k t v, u.oneCell' = true := by
 intro u hu
 simp only [ndCells, List.mem_cons, List.not_mem_nil, or_false] at hu
 rcases hu with rfl | rfl | rfl | rfl | rfl | rfl | rfl | rfl <;> first | rfl | exact hv
theorem run_kid {W : World} (base : Nat) (ty : TypeId) {u : Value} {q : Nat} {kc cs : List Value} (HO : W.ownsRow base TN 8 u q kc) (hcs : cs.length = 8) (h1 : ∀ v ∈ cs, v.oneCell' = true) (hbase : base ≤ W.heap.size) (hl : (q + 1) * 88 ≤ 140737488355328) :
  ∃ g1 c1 w1, (Builtin.append_ #[30, 30] ty #[u, .slice (some ⟨W.heap.size, 0, none⟩) 1 1]).run Tryz.prog (W.alloc (.cells cs.toArray TN)) = .ok (.slice (some ⟨g1, 0, none⟩) (q + 1) c1) w1 ∧
   w1.ownsRow base TN 8 (.slice (some ⟨g1, 0, none⟩) (q + 1) c1) (q + 1) (kc ++ cs) ∧ W.grownBy w1 u.ownBlock ∧ (u.ownBlock = some g1 ∨ W.heap.size < g1) := by
 obtain ⟨i0, hi, hzz⟩ := Option.map_eq_some_iff.1 infoNd
 simp only [Prod.mk.injEq] at hzz
 obtain ⟨hz0, hz1, hz2⟩ := hzz
 obtain ⟨v1, w1, hr, ho, hg, _, hat⟩ := run_append_own_at (P := Tryz.prog) (W.alloc (.cells cs.toArray TN)) base 30 ty TN i0 _ 8 88 Tryz.underlying30 hi hz0 hz1 hz2 rfl (by decide) u q kc (HO.alloc _) ⟨W.heap.size, 0, none⟩ 1 1 cs (by rw [hcs])
  (by simpa using World.news_of_block (cs := cs.toArray) (t := TN) (fr := (0, 0)) (heap_alloc_new W (.cells cs.toArray TN))) h1 (by simp only [maxLen]; omega) hl (by rw [World.size_alloc]; omega)
 have ho' := ho
 rcases ho.2 with ⟨_, hn⟩ | ⟨g1, c1, cur, rfl, _⟩
 ·omega
 ·refine ⟨g1, c1, w1, hr, ho', World.grownBy.trans (World.grownBy_alloc W _ _) hg, ?_⟩
  rcases hat with he | he
  ·exact .inl he.symm
  ·rw [World.size_alloc] at he
   have : g1 = W.heap.size + 1 := by simpa [Value.ownBlock] using he
   exact .inr (by omega)
section
variable {ops : Array Oper} {o : Oper} {a : Act} {Q : Exit → Act → World → Prop} {K : Act → World → Prop} {E : Prop}
theorem step_kid {W : World} (hgd : o.guard = none) (s x : Operand) (ho : o.op = .call { callee := .builtin .append, args := #[s, x], argTypes := #[30, 30] }) (base : Nat) {u : Value} {q : Nat} {kc cs : List Value} (hs : a.eval s = u) (hx : a.eval x = .slice (some ⟨W.heap.size, 0, none⟩) 1 1)
  (HO : W.ownsRow base TN 8 u q kc) (hcs : cs.length = 8) (h1 : ∀ v ∈ cs, v.oneCell' = true) (hbase : base ≤ W.heap.size) (hl : (q + 1) * 88 ≤ 140737488355328)
  (h : ∀ g1 c1 w1, w1.ownsRow base TN 8 (.slice (some ⟨g1, 0, none⟩) (q + 1) c1) (q + 1) (kc ++ cs) → W.grownBy w1 u.ownBlock → (u.ownBlock = some g1 ∨ W.heap.size < g1) → K (a.put o.dst (.slice (some ⟨g1, 0, none⟩) (q + 1) c1)) w1) :
  if Region.wanted o (yielded ops a.tmps) = true then Oper.wp Tryz.prog o a (W.alloc (.cells cs.toArray TN)) K Q else E := by
 have hw : Region.wanted o (yielded ops a.tmps) = true := by simp [Region.wanted, hgd]
 rw [if_pos hw]
 obtain ⟨g1, c1, w1, hr, h1, h2, h3⟩ := run_kid base o.type HO hcs h1 hbase hl
 unfold Oper.wp execOp
 simp only [ho, resolve, invoke, builtin, Sem.run_bind, Sem.run_pure, Result.andThen_ok, List.map_toArray, List.map_cons, List.map_nil, hs, hx, hr]
 exact h g1 c1 w1 h1 h2 h3
theorem step_store {W : World} (hgd : o.guard = none) (hd : o.dst = none) (t : TypeId) (p x : Operand) (ho : o.op = .store t p x) {g off : Nat} {e : TypeId} {cur : Array Value} (u : Value) (seg : List Value) (haddr : a.eval p = .pointer (some ⟨g, off, none⟩)) (hx : a.eval x = u) (hu : u.cells.toList = seg)
  (ht : (Tryz.prog.info? t).map (·.size) = some seg.length) (h1 : ∀ v ∈ seg, v.oneCell' = true) (hh : W.heap[g]? = some (.cells cur e (0, 0))) (hfit : off + seg.length ≤ cur.size) (h : K a (W.setCells g off seg)) :
  if Region.wanted o (yielded ops a.tmps) = true then Oper.wp Tryz.prog o a W K Q else E := by
 have hw : Region.wanted o (yielded ops a.tmps) = true := by simp [Region.wanted, hgd]
 rw [if_pos hw]
 have hrun := run_store_run (P := Tryz.prog) t u seg hh hu ht hfit h1
 unfold Oper.wp execOp
 simp only [ho, haddr, hx, Sem.run_bind, Sem.run_pure, Result.andThen_ok, hrun]
 show K (a.put o.dst undef) _
 rw [hd]
 exact h
end
theorem row_set {w : World} {base g n cap : Nat} {cells : List Value} (h : w.ownsRow base TN 8 (.slice (some ⟨g, 0, none⟩) n cap) n cells) (off : Nat) (seg : List Value) (hf : off + seg.length ≤ cells.length) :
  (w.setCells g off seg).ownsRow base TN 8 (.slice (some ⟨g, 0, none⟩) n cap) n (cells.take off ++ seg ++ cells.drop (off + seg.length)) ∧ ∃ cur, w.heap[g]? = some (.cells cur TN (0, 0)) ∧ off + seg.length ≤ cur.size := by
 rcases h.2 with ⟨he, _⟩ | ⟨g', cap', cur, he, hb, hh, hl, hm, hs, ht⟩
 ·cases he
 ·injection he with he _ hc
  injection he with he
  injection he with he
  subst he; subst hc
  have hlen := h.1
  have hle : n * 8 ≤ cap * 8 := Nat.mul_le_mul_right _ hl
  obtain ⟨cur', h3, h4, h5⟩ := setCells_row seg off w cur hh (by omega)
  refine ⟨⟨?_, .inr ⟨g, cap, cur', rfl, hb, h3, hl, hm, by rw [h4]; exact hs, ?_⟩⟩, cur, hh, by omega⟩
  ·simp only [List.length_append, List.length_take, List.length_drop]
   omega
  ·rw [h5, ← ht, List.take_take, Nat.min_eq_left (by omega), List.drop_take]
   have hc1 : (cur.toList.take off ++ seg).length = off + seg.length := by
    rw [List.length_append, List.length_take, Array.length_toList]
    omega
   rw [List.take_append, hc1, List.take_of_length_le (by rw [hc1]; omega)]
theorem row_set_end {w : World} {base g n cap : Nat} {xs ys : List Value} (h : w.ownsRow base TN 8 (.slice (some ⟨g, 0, none⟩) n cap) n (xs ++ ys)) (off : Nat) (seg : List Value) (ho : xs.length = off) (hl : seg.length = ys.length) :
  (w.setCells g off seg).ownsRow base TN 8 (.slice (some ⟨g, 0, none⟩) n cap) n (xs ++ seg) ∧ ∃ cur, w.heap[g]? = some (.cells cur TN (0, 0)) ∧ off + seg.length ≤ cur.size := by
 have := row_set h off seg (by rw [List.length_append]; omega)
 rw [List.take_append_of_le_length (by omega), List.take_of_length_le (by omega), List.drop_of_length_le (by rw [List.length_append]; omega), List.append_nil] at this
 exact this
theorem setCells_grown (w : World) (g off : Nat) (seg : List Value) : w.grownBy (w.setCells g off seg) (some g) :=
 ⟨(setCells_same g seg off w).1, (setCells_same g seg off w).2.1, (setCells_same g seg off w).2.2.1, by rw [(setCells_same g seg off w).2.2.2]; exact Nat.le_refl _, fun k _ hk => setCells_far seg off k (fun he => hk (by rw [he]))⟩
def isNote (t : Tk) : Bool := t.f0 == 7 || t.f0 == 8
def addKid (t x : Nd) : Nd := ⟨t.f0, t.f1, t.f2 ++ [x]⟩
def runB : List Ev → List Nd → Option Nd
 | [], _ => none
 | e :: l, S =>
  if e.f0 = 1 then (if e.f1 = 0 ∨ S.length = 1000 then none else runB l (⟨e.f1, noTk, []⟩ :: S))
  else if e.f0 = 2 ∨ e.f0 = 4 then
   match S with
   | [] => none
   | t :: S' => if isNote e.f2 = (e.f0 == 4) then runB l (addKid t ⟨0, e.f2, []⟩ :: S') else none
  else if e.f0 = 3 then
   match S with
   | [] => none
   | t :: S' => if t.f0 = e.f1 then (match S' with
    | [] => if l = [] then some t else none
    | u :: S'' => runB l (addKid u t :: S'')) else none
  else none
def bld (l : List Ev) : Nd × Int := match runB l [] with
 | none => (noNd, 130)
 | some x => (x, 0)
theorem bld_none {l : List Ev} (h : runB l [] = none) : bld l = (noNd, 130) := by rw [bld, h]
theorem bld_some {l : List Ev} {x : Nd} (h : runB l [] = some x) : bld l = (x, 0) := by rw [bld, h]
def Small (i : Nat) (S : List Nd) : Prop := S.length ≤ 1000 ∧ ∀ t ∈ S, t.f2.length ≤ i
theorem Small.nil : Small 0 [] := ⟨by decide, fun t h => by cases h⟩
theorem Small.push {i : Nat} {S : List Nd} (h : Small i S) (k : Int) (hS : S.length ≠ 1000) : Small (i + 1) (⟨k, noTk, []⟩ :: S) :=
 ⟨by have := h.1; simp only [List.length_cons]; omega, fun t ht => by
  rcases List.mem_cons.1 ht with rfl | ht
  ·exact Nat.zero_le _
  ·exact Nat.le_succ_of_le (h.2 t ht)⟩
theorem Small.add {i : Nat} {S : List Nd} {t x : Nd} (h : Small i (t :: S)) : Small (i + 1) (addKid t x :: S) :=
 ⟨h.1, fun y hy => by
  rcases List.mem_cons.1 hy with rfl | hy
  ·have := h.2 t List.mem_cons_self
   simp only [addKid, List.length_append, List.length_singleton]
   omega
  ·exact Nat.le_succ_of_le (h.2 y (List.mem_cons_of_mem _ hy))⟩
theorem Small.pop {i : Nat} {S : List Nd} {t : Nd} (h : Small i (t :: S)) : Small i S := ⟨by have := h.1; simp only [List.length_cons] at this; omega, fun y hy => h.2 y (List.mem_cons_of_mem _ hy)⟩
def ndPre (k : Int) (t : Tk) : List Value := [.int .u8 k, .int .u8 t.f0, .string t.f1, .int .i64 t.f2.f0, .int .i64 t.f2.f1, .int .i64 t.f2.f2, .int .i64 t.f3]
theorem ndCells_pre (k : Int) (t : Tk) (v : Value) : ndCells k t v = ndPre k t ++ [v] := rfl
structure Two (base g cap m g1 c1 q : Nat) (w1 wf : World) (t : Nd) (cells kc cs : List Value) : Prop where
 row : wf.ownsRow base TN 8 (.slice (some ⟨g, 0, none⟩) (m + 1) cap) (m + 1) (cells ++ ndCells t.f0 t.f1 (.slice (some ⟨g1, 0, none⟩) (q + 1) c1))
 krow : wf.ownsRow base TN 8 (.slice (some ⟨g1, 0, none⟩) (q + 1) c1) (q + 1) (kc ++ cs)
 far : ∀ b, b ≠ g → b ≠ g1 → wf.heap[b]? = w1.heap[b]?
 os : wf.os = w1.os
 tape : wf.tape = w1.tape
 output : wf.output = w1.output
 size : wf.heap.size = w1.heap.size
theorem far_row {w : World} {base g n cap g' : Nat} {xs : List Value} (h : w.ownsRow base TN 8 (.slice (some ⟨g, 0, none⟩) n cap) n xs) (hne : g ≠ g') (off : Nat) (seg : List Value) : (w.setCells g' off seg).ownsRow base TN 8 (.slice (some ⟨g, 0, none⟩) n cap) n xs :=
 row_move h (fun k hk => setCells_far seg off k (fun he => hne (by have : g = k := (by simpa [Value.ownBlock] using hk); omega)))
section
variable {base g cap m g1 c1 q : Nat} {w1 : World} {t : Nd} {u : Value} {cells kc cs zs : List Value}
theorem two_a (hr : w1.ownsRow base TN 8 (.slice (some ⟨g, 0, none⟩) (m + 1) cap) (m + 1) (cells ++ ndCells t.f0 t.f1 u)) (hc : cells.length = m * 8) (hk : w1.ownsRow base TN 8 (.slice (some ⟨g1, 0, none⟩) (q + 1) c1) (q + 1) (kc ++ zs)) (hq : kc.length = q * 8) (hz : zs.length = 8) (hcs : cs.length = 8) (hne : g ≠ g1) :
  Two base g cap m g1 c1 q w1 ((w1.setCells g1 (q * 8) cs).setCells g (m * 8 + 7) [.slice (some ⟨g1, 0, none⟩) (q + 1) c1]) t cells kc cs := by
 have k1 := (row_set_end hk (q * 8) cs hq (by omega)).1
 have r1 := far_row hr hne (q * 8) cs
 rw [ndCells_pre, ← List.append_assoc] at r1
 have r2 := (row_set_end r1 (m * 8 + 7) [.slice (some ⟨g1, 0, none⟩) (q + 1) c1] (by rw [List.length_append, hc]; rfl) rfl).1
 have s1 := setCells_same g1 cs (q * 8) w1
 have s2 := setCells_same g [.slice (some ⟨g1, 0, none⟩) (q + 1) c1] (m * 8 + 7) (w1.setCells g1 (q * 8) cs)
 refine ⟨by rw [ndCells_pre, ← List.append_assoc]; exact r2, far_row k1 (Ne.symm hne) _ _, fun b hb hb1 => (setCells_far _ _ b hb).trans (setCells_far _ _ b hb1), s2.1.trans s1.1, s2.2.1.trans s1.2.1, s2.2.2.1.trans s1.2.2.1, s2.2.2.2.trans s1.2.2.2⟩
theorem two_b (hr : w1.ownsRow base TN 8 (.slice (some ⟨g, 0, none⟩) (m + 1) cap) (m + 1) (cells ++ ndCells t.f0 t.f1 u)) (hc : cells.length = m * 8) (hk : w1.ownsRow base TN 8 (.slice (some ⟨g1, 0, none⟩) (q + 1) c1) (q + 1) (kc ++ zs)) (hq : kc.length = q * 8) (hz : zs.length = 8) (hcs : cs.length = 8) (hne : g ≠ g1) :
  Two base g cap m g1 c1 q w1 ((w1.setCells g (m * 8 + 7) [.slice (some ⟨g1, 0, none⟩) (q + 1) c1]).setCells g1 (q * 8) cs) t cells kc cs := by
 have hr' := hr
 rw [ndCells_pre, ← List.append_assoc] at hr'
 have r2 := (row_set_end hr' (m * 8 + 7) [.slice (some ⟨g1, 0, none⟩) (q + 1) c1] (by rw [List.length_append, hc]; rfl) rfl).1
 have k0 := far_row hk (Ne.symm hne) (m * 8 + 7) [.slice (some ⟨g1, 0, none⟩) (q + 1) c1]
 have k1 := (row_set_end k0 (q * 8) cs hq (by omega)).1
 have s1 := setCells_same g [.slice (some ⟨g1, 0, none⟩) (q + 1) c1] (m * 8 + 7) w1
 have s2 := setCells_same g1 cs (q * 8) (w1.setCells g (m * 8 + 7) [.slice (some ⟨g1, 0, none⟩) (q + 1) c1])
 refine ⟨?_, k1, fun b hb hb1 => (setCells_far _ _ b hb1).trans (setCells_far _ _ b hb), s2.1.trans s1.1, s2.2.1.trans s1.2.1, s2.2.2.1.trans s1.2.2.1, s2.2.2.2.trans s1.2.2.2⟩
 rw [ndCells_pre, ← List.append_assoc]
 exact far_row r2 hne _ _
end
theorem g_ne {W : World} {base g cap g1 : Nat} {S : List Nd} {t : Nd} {u : Value} {F G1 G2 Gk : Nat → Prop} {cells kc : List Value} (H : TopsX W base g cap S t u F cells G1 G2 kc Gk) (hat : u.ownBlock = some g1 ∨ W.heap.size < g1) : g ≠ g1 := by
 rcases hat with he | he
 ·exact fun h => H.n2 (h ▸ (H.own g1 he).1)
 ·have := own_lt H.row g rfl
  omega
theorem row_grown {W w1 : World} {base g cap : Nat} {S : List Nd} {t : Nd} {u : Value} {F G1 G2 Gk : Nat → Prop} {cells kc : List Value} (H : TopsX W base g cap S t u F cells G1 G2 kc Gk) (hg : W.grownBy w1 u.ownBlock) : w1.ownsRow base TN 8 (.slice (some ⟨g, 0, none⟩) (S.length + 1) cap) (S.length + 1) (cells ++ ndCells t.f0 t.f1 u) :=
 row_move H.row (fun k hk => hg.block k (own_lt H.row k hk) (fun he => H.n2 (by have : g = k := (by simpa [Value.ownBlock] using hk); subst this; exact (H.own g he.symm).1)))
theorem added {W w1 wf : World} {base g cap g1 c1 m q : Nat} {S : List Nd} {t x : Nd} {u : Value} {F G1 G2 Gk Fx : Nat → Prop} {cells kc cs : List Value} (H : TopsX W base g cap S t u F cells G1 G2 kc Gk) (hx : Own W base x cs Fx) (hd1 : ∀ b, Fx b → ¬ G1 b) (hd2 : ∀ b, Fx b → ¬ G2 b) (hdg : ¬ Fx g)
  (hg : W.grownBy w1 u.ownBlock) (hat : u.ownBlock = some g1 ∨ W.heap.size < g1) (hm : S.length = m) (hq : t.f2.length = q) (hT : Two base g cap m g1 c1 q w1 wf t cells kc cs) :
  OwnS wf base (.slice (some ⟨g, 0, none⟩) (m + 1) cap) (S ++ [addKid t x]) (fun _ => True) ∧ (∀ (B : Nat) (w0 : World), B ≤ base → Below B w0 W → Below B w0 wf) := by
 subst hm; subst hq
 have hgl := own_lt H.row g rfl
 have hne := g_ne H hat
 have keep : ∀ b, Lies W base b → b ≠ g → u.ownBlock ≠ some b → wf.heap[b]? = W.heap[b]? := fun b hb h1 h2 => by
  have h3 : b ≠ g1 := by
   rcases hat with he | he
   ·exact fun hc => h2 (by rw [he, hc])
   ·have := hb.2.1; omega
  exact (hT.far b h1 h3).trans (hg.block b hb.2.1 (fun he => h2 he.symm))
 have a1 : OwnL wf base S cells (fun b => G1 b ∧ Lies W base b) := ownL_move S (ownL_bound S H.rest) (fun b hb => keep b hb.2 (fun he => H.n1 (he ▸ hb.1)) (fun he => H.apart b hb.1 (H.own b he).1))
 have a2 : OwnL wf base t.f2 kc (fun b => Gk b ∧ Lies W base b) := ownL_move t.f2 (ownL_bound t.f2 H.kids) (fun b hb => keep b hb.2 (fun he => H.n2 (he ▸ H.sub b hb.1)) (fun he => (H.own b he).2 hb.1))
 have a3 : Own wf base x cs (fun b => Fx b ∧ Lies W base b) := own_move x (own_bound x hx) (fun b hb => keep b hb.2 (fun he => hdg (he ▸ hb.1)) (fun he => hd2 b hb.1 (H.own b he).1))
 have hkids := ownL_append a2 (ownL_one.2 a3) (fun b hb hc => hd2 b hc.1 (H.sub b hb.1))
 refine ⟨?_, ?_⟩
 ·refine tops_back (S := S) (t := addKid t x) (u := .slice (some ⟨g1, 0, none⟩) (t.f2.length + 1) c1) (F := fun _ => True) ⟨cells, fun b => G1 b ∧ Lies W base b, fun b => (b = g1 ∨ (Gk b ∧ Lies W base b)) ∨ (Fx b ∧ Lies W base b), kc ++ cs, _, ⟨hT.row, a1, ?_, hkids, fun b hb => ?_, fun b hb => ?_, fun b hb hc => ?_, fun h => H.n1 h.1, fun h => ?_, trivial, fun _ _ => trivial, fun _ _ => trivial⟩⟩
  ·show wf.ownsRow base TN 8 _ (t.f2 ++ [x]).length (kc ++ cs)
   rw [List.length_append, List.length_singleton]
   exact hT.krow
  ·have hb' : g1 = b := by simpa [Value.ownBlock] using hb
   subst hb'
   refine ⟨.inl (.inl rfl), fun hc => ?_⟩
   rcases hc with hc | hc
   ·rcases hat with he | he
    ·exact (H.own g1 he).2 hc.1
    ·have := hc.2.2.1; omega
   ·rcases hat with he | he
    ·exact hd2 g1 hc.1 (H.own g1 he).1
    ·have := hc.2.2.1; omega
  ·rcases hb with hb | hb
   ·exact .inl (.inr hb)
   ·exact .inr hb
  ·rcases hc with (hc | hc) | hc
   ·subst hc
    rcases hat with he | he
    ·exact H.apart b hb.1 (H.own b he).1
    ·have := hb.2.2.1; omega
   ·exact H.apart b hb.1 (H.sub b hc.1)
   ·exact hd1 b hc.1 hb.1
  ·rcases h with (h | h) | h
   ·exact hne h
   ·exact H.n2 (H.sub g h.1)
   ·exact hdg h.1
 ·intro B w0 hB hb
  have hsz := hg.size
  refine ⟨?_, ?_, ?_, ?_, fun b hlt => ?_⟩
  ·rw [hT.os, hg.os]; exact hb.os
  ·rw [hT.tape, hg.tape]; exact hb.tape
  ·rw [hT.output, hg.output]; exact hb.output
  ·rw [hT.size]; exact Nat.le_trans hb.size hsz
  ·have hbg : base ≤ g := own_base H.row g rfl
   have h1 : b ≠ g := by omega
   have hu : u.ownBlock ≠ some b := fun he => by have := own_base H.krow b he; omega
   have h2 : b ≠ g1 := by
    rcases hat with he | he
    ·intro hc; exact hu (by rw [he, hc])
    ·have := own_base H.row g rfl; omega
   rw [hT.far b h1 h2, hg.block b (by omega) (fun he => hu he.symm)]
   exact hb.block b hlt
mutual
def nds : Nd → Nat
 | ⟨_, _, kids⟩ => 1 + ndsL kids
def ndsL : List Nd → Nat
 | [] => 0
 | x :: xs => nds x + ndsL xs
end
theorem nds_eq (x : Nd) : nds x = 1 + ndsL x.f2 := by obtain ⟨k, t, kids⟩ := x; rw [nds]
theorem nds_pos (x : Nd) : 1 ≤ nds x := by rw [nds_eq]; omega
theorem ndsL_append : ∀ (a b : List Nd), ndsL (a ++ b) = ndsL a + ndsL b
 | [], b => by rw [List.nil_append, ndsL, Nat.zero_add]
 | x :: a, b => by rw [List.cons_append, ndsL, ndsL, ndsL_append a b, Nat.add_assoc]
theorem ndsL_mem {x : Nd} : ∀ {l : List Nd}, x ∈ l → nds x ≤ ndsL l
 | y :: l, h => by
  rw [ndsL]
  rcases List.mem_cons.1 h with rfl | h
  ·omega
  ·have := ndsL_mem h; omega
theorem ndsL_len : ∀ (l : List Nd), l.length ≤ ndsL l
 | [] => by simp [ndsL]
 | x :: l => by
  have := ndsL_len l
  have := nds_pos x
  rw [ndsL, List.length_cons]; omega
abbrev zNd : List Value := [.int .u8 0, .int .u8 0, .string ⟨#[]⟩, .int .i64 0, .int .i64 0, .int .i64 0, .int .i64 0, .slice none 0 0]
theorem zNd_one : ∀ v ∈ zNd, v.oneCell' = true := ndCells_one 0 noTk rfl
structure EvAt (w : World) (A : Option Addr) (i : Nat) (e : Ev) : Prop where
 cell : ∃ ad, A = some ad ∧ w.cell? (ad.add (i * 8)) = some (.int .u8 e.f0) ∧ w.cell? ⟨(ad.add (i * 8)).block, (ad.add (i * 8)).off + 1, none⟩ = some (.int .u8 e.f1) ∧ w.cell? ⟨(ad.add (i * 8)).block, (ad.add (i * 8)).off + 2, none⟩ = some (.int .u8 e.f2.f0) ∧ w.cell? ⟨(ad.add (i * 8)).block, (ad.add (i * 8)).off + 3, none⟩ = some (.string e.f2.f1) ∧ w.cell? ⟨(ad.add (i * 8)).block, (ad.add (i * 8)).off + 4, none⟩ = some (.int .i64 e.f2.f2.f0) ∧ w.cell? ⟨(ad.add (i * 8)).block, (ad.add (i * 8)).off + 5, none⟩ = some (.int .i64 e.f2.f2.f1) ∧ w.cell? ⟨(ad.add (i * 8)).block, (ad.add (i * 8)).off + 6, none⟩ = some (.int .i64 e.f2.f2.f2) ∧ w.cell? ⟨(ad.add (i * 8)).block, (ad.add (i * 8)).off + 7, none⟩ = some (.int .i64 e.f2.f3)
theorem evAt_of {w : World} {A : Option Addr} {n : Nat} {l : List Ev} (h : Kd.C kEv w A n l) (i : Nat) (e : Ev) (hi : i < n) (he : l[i]? = some e) : EvAt w A i e := by
 obtain ⟨ad, h0, r⟩ := PSyntaxProgram.at_T48 h (i : Int) (by omega) (by omega)
 have hr : PSyntaxProgram.rd_T48 l (i : Int) = e := by simp [PSyntaxProgram.rd_T48, List.getD, he]
 rw [hr, Int.toNat_natCast] at r
 exact ⟨ad, h0, r⟩
theorem comment_any (t : Tk) (w : World) : Calls Tryz.prog 32 #[.agg #[.int .u8 t.f0, .string t.f1, .int .i64 t.f2.f0, .int .i64 t.f2.f1, .int .i64 t.f2.f2, .int .i64 t.f3]] w fun e w' => e = .returned (.bool (isNote t)) ∧ Below w.heap.size w w' := by
 refine PSyntaxProgram.tree_comment.calls t.f0 t.f1 t.f2.f0 t.f2.f1 t.f2.f2 t.f3 (isNote t) w ?_
 unfold PSyntaxProgram.tree_comment.f isNote
 by_cases h : t.f0 = 7
 ·rw [if_pos h, h]; rfl
 ·rw [if_neg h, beq_eq_false_iff_ne.2 h]; rfl
theorem box8 {w w1 : World} {a b c d e f g h : Value} {T : TypeId} (hb : Below (w.heap.size + 1) (w.alloc (.cells #[a, b, c, d, e, f, g, h] T)) w1) :
  w1.cell? ⟨w.heap.size, 0, none⟩ = some a ∧ w1.cell? ⟨w.heap.size, 1, none⟩ = some b ∧ w1.cell? ⟨w.heap.size, 2, none⟩ = some c ∧ w1.cell? ⟨w.heap.size, 3, none⟩ = some d ∧ w1.cell? ⟨w.heap.size, 4, none⟩ = some e ∧ w1.cell? ⟨w.heap.size, 5, none⟩ = some f ∧ w1.cell? ⟨w.heap.size, 6, none⟩ = some g ∧ w1.cell? ⟨w.heap.size, 7, none⟩ = some h := by
 have hn : (w.alloc (.cells #[a, b, c, d, e, f, g, h] T)).heap[w.heap.size]? = some (.cells #[a, b, c, d, e, f, g, h] T) := by
  show (w.heap.push _)[w.heap.size]? = _
  rw [Array.getElem?_push, if_pos rfl]
 have hc : ∀ (j : Nat) v, (#[a, b, c, d, e, f, g, h] : Array Value)[j]? = some v → w1.cell? ⟨w.heap.size, j, none⟩ = some v := fun j v hj =>
  (hb.cell (p := ⟨w.heap.size, j, none⟩) (show w.heap.size < w.heap.size + 1 by omega)).trans ((cR _ hn).trans hj)
 exact ⟨hc 0 _ rfl, hc 1 _ rfl, hc 2 _ rfl, hc 3 _ rfl, hc 4 _ rfl, hc 5 _ rfl, hc 6 _ rfl, hc 7 _ rfl⟩
structure Upd (g : Nat) (W w5 : World) : Prop where
 far : ∀ k, k ≠ g → w5.heap[k]? = W.heap[k]?
 os : w5.os = W.os
 tape : w5.tape = W.tape
 output : w5.output = W.output
 size : w5.heap.size = W.heap.size
theorem Upd.below {g B : Nat} {w W w5 : World} (h : Upd g W w5) (hb : Below B w W) (hg : B ≤ g) : Below B w w5 :=
 ⟨h.os.trans hb.os, h.tape.trans hb.tape, h.output.trans hb.output, by rw [h.size]; exact hb.size, fun k hk => (h.far k (by omega)).trans (hb.block k hk)⟩
theorem wl_box {ops : Array Oper} {rest : List Oper} {o : Oper} {a : Act} {Q : Exit → Act → World → Prop} {W : World} (hgd : o.guard = none) (hd : o.dst = none) (t : TypeId) (p x : Operand) (ho : o.op = .store t p x) {g : Nat} {e : TypeId} {cur : Array Value} (u : Value) (seg : List Value)
  (haddr : a.eval p = .pointer (some ⟨g, 0, none⟩)) (hx : a.eval x = u) (hu : u.cells.toList = seg) (ht : (Tryz.prog.info? t).map (·.size) = some seg.length) (h1 : ∀ v ∈ seg, v.oneCell' = true) (hh : W.heap[g]? = some (.cells cur e (0, 0))) (hfit : cur.size = seg.length)
  (h : ∀ w5, w5.heap[g]? = some (.cells seg.toArray e (0, 0)) → Upd g W w5 → wpList Tryz.prog ops Q rest a w5) : wpList Tryz.prog ops Q (o :: rest) a W := by
 refine wpList_plain hgd fun K hK => ?_
 have hrun := run_store_run (P := Tryz.prog) (o := 0) t u seg hh hu ht (by omega) h1
 unfold Oper.wp execOp
 simp only [ho, haddr, hx, Sem.run_bind, Sem.run_pure, Result.andThen_ok, hrun]
 show K (a.put o.dst undef) _
 rw [hd]
 obtain ⟨cur', h3, h4, h5⟩ := setCells_row seg 0 W cur hh (by omega)
 have hs := setCells_same g seg 0 W
 refine hK a _ (h _ ?_ ⟨fun k hk => setCells_far seg 0 k hk, hs.1, hs.2.1, hs.2.2.1, hs.2.2.2⟩)
 rw [h3]
 congr 2
 apply Array.toList_inj.1
 rw [h5, List.take_zero, List.nil_append, List.drop_of_length_le (by rw [Array.length_toList]; omega), List.append_nil]
theorem cells8 {w : World} {g : Nat} {T : TypeId} {a b c d e f p q : Value} (h : w.heap[g]? = some (.cells [a, b, c, d, e, f, p, q].toArray T (0, 0))) :
  w.cell? ⟨g, 0, none⟩ = some a ∧ w.cell? ⟨g, 1, none⟩ = some b ∧ w.cell? ⟨g, 2, none⟩ = some c ∧ w.cell? ⟨g, 3, none⟩ = some d ∧ w.cell? ⟨g, 4, none⟩ = some e ∧ w.cell? ⟨g, 5, none⟩ = some f ∧ w.cell? ⟨g, 6, none⟩ = some p ∧ w.cell? ⟨g, 7, none⟩ = some q :=
 ⟨blk_cell h 0, blk_cell h 1, blk_cell h 2, blk_cell h 3, blk_cell h 4, blk_cell h 5, blk_cell h 6, blk_cell h 7⟩
abbrev zBox (w : World) : World := w.alloc (.cells #[.int .u8 0, .int .u8 0, .string ⟨#[]⟩, .int .i64 0, .int .i64 0, .int .i64 0, .int .i64 0, .slice none 0 0] TN)
structure BInv (w wr : World) (l : List Ev) (i : Nat) (v : Value) (S : List Nd) : Prop where
 run : runB (l.drop i) S = runB l []
 small : Small i S
 nz : S = [] → i = 0
 own : OwnS wr (w.heap.size + 1) v S.reverse (fun _ => True)
 below : Below (w.heap.size + 1) (zBox w) wr
def BuildPost (w : World) (l : List Ev) (e : Ending) (w' : World) : Prop :=
 ∃ v, e = .returned (.tuple #[.agg #[.int .u8 (bld l).1.f0, .int .u8 (bld l).1.f1.f0, .string (bld l).1.f1.f1, .int .i64 (bld l).1.f1.f2.f0, .int .i64 (bld l).1.f1.f2.f1, .int .i64 (bld l).1.f1.f2.f2, .int .i64 (bld l).1.f1.f3, v], .int .i64 (bld l).2]) ∧ OwnS w' w.heap.size v (bld l).1.f2 (fun _ => True) ∧ Below w.heap.size w w'
theorem BInv.start (w : World) (l : List Ev) : BInv w (zBox w) l 0 (.slice none 0 0) [] := ⟨by rw [List.drop_zero], Small.nil, fun _ => rfl, ownS_nil _ _ _, Below.refl _ _⟩
theorem BInv.out {w wr : World} {l : List Ev} {i : Nat} {v : Value} {S : List Nd} (h : BInv w wr l i v S) : Below w.heap.size w wr := ((Below.refl w.heap.size w).alloc (Nat.le_refl _) _).trans (h.below.mono (Nat.le_succ _))
theorem BInv.box {w wr : World} {l : List Ev} {i : Nat} {v : Value} {S : List Nd} (h : BInv w wr l i v S) : wr.heap[w.heap.size]? = some (.cells zNd.toArray TN (0, 0)) := by
 refine (h.below.block w.heap.size (Nat.lt_succ_self _)).trans ?_
 show (w.heap.push _)[w.heap.size]? = _
 rw [Array.getElem?_push, if_pos rfl]
theorem box_later {w wr W : World} (h : wr.heap[w.heap.size]? = some (.cells zNd.toArray TN (0, 0))) (hb : Below wr.heap.size wr W) : W.heap[w.heap.size]? = some (.cells zNd.toArray TN (0, 0)) := (hb.block _ (blk_lt h)).trans h
theorem BuildPost.err {w w5 : World} {l : List Ev} (hr : runB l [] = none) (hb : Below w.heap.size w w5) : BuildPost w l (.returned (.tuple #[.agg zNd.toArray, .int .i64 130])) w5 := by
 refine ⟨.slice none 0 0, ?_, ?_, hb⟩
 ·rw [bld_none hr]; rfl
 ·rw [bld_none hr]; exact ownS_nil _ _ _
theorem drop_cons {l : List Ev} {i : Nat} {e : Ev} (h : l[i]? = some e) : l.drop i = e :: l.drop (i + 1) := by
 have hl := (List.getElem?_eq_some_iff.1 h)
 rw [List.drop_eq_getElem_cons hl.1, hl.2]
theorem topsX_later {W w1 : World} {base g cap : Nat} {S : List Nd} {t : Nd} {u : Value} {F G1 G2 Gk : Nat → Prop} {cells kc : List Value} (H : TopsX W base g cap S t u F cells G1 G2 kc Gk) (hb : Below W.heap.size W w1) : TopsX w1 base g cap S t u F cells G1 G2 kc Gk :=
 ⟨row_move H.row (fun k hk => hb.block k (own_lt H.row k hk)), ownL_step H.rest (fun b _ hl => hb.block b hl.2.1), row_move H.krow (fun k hk => hb.block k (own_lt H.krow k hk)), ownL_step H.kids (fun b _ hl => hb.block b hl.2.1), H.own, H.sub, H.apart, H.n1, H.n2, H.fg, H.f1, H.f2⟩
theorem topsX_at {w : World} {base g cap : Nat} {S : List Nd} {t : Nd} {u : Value} {F G1 G2 Gk : Nat → Prop} {cells kc : List Value} (H : TopsX w base g cap S t u F cells G1 G2 kc Gk) (j : Nat) (v : Value) (hj : (ndCells t.f0 t.f1 u)[j]? = some v) : w.cell? ⟨g, S.length * 8 + j, none⟩ = some v ∧ w.frozen? ⟨g, S.length * 8 + j, none⟩ = false := top_at ⟨_, _, _, _, _, H⟩ j v hj
theorem row_cut {w : World} {base g n cap : Nat} {xs ys : List Value} (h : w.ownsRow base TN 8 (.slice (some ⟨g, 0, none⟩) (n + 1) cap) (n + 1) (xs ++ ys)) (hx : xs.length = n * 8) : w.ownsRow base TN 8 (.slice (some ⟨g, 0, none⟩) n cap) n xs := by
 rcases h.2 with ⟨he, _⟩ | ⟨g', cap', cur, he, hb, hh, hl, hm, hs, ht⟩
 ·cases he
 ·injection he with he _ hc
  injection he with he
  injection he with he
  subst he; subst hc
  refine ⟨hx, .inr ⟨g, cap, cur, rfl, hb, hh, by omega, hm, hs, ?_⟩⟩
  have hz := congrArg (List.take (n * 8)) ht
  rw [List.take_take, Nat.min_eq_left (by omega), List.take_left' hx] at hz
  exact hz
theorem popped {w : World} {base g cap : Nat} {S S2 : List Nd} {t u2 : Nd} {u : Value} {F G1 G2 Gk : Nat → Prop} {cells kc : List Value} (H : TopsX w base g cap S t u F cells G1 G2 kc Gk) (hS : S = S2 ++ [u2]) :
  ∃ (uu : Value) (cells' : List Value) (G1' G2' : Nat → Prop) (kc' : List Value) (Gk' : Nat → Prop), TopsX w base g cap S2 u2 uu (fun b => b = g ∨ G1 b) cells' G1' G2' kc' Gk' := by
 have hrow := row_cut H.row (ownL_len H.rest)
 subst hS
 have ho : OwnS w base (.slice (some ⟨g, 0, none⟩) (S2 ++ [u2]).length cap) (S2 ++ [u2]) (fun b => b = g ∨ G1 b) := by
  refine ⟨cells, G1, hrow, H.rest, fun b hb => ?_, fun b hb => .inr hb⟩
  have : g = b := by simpa [Value.ownBlock] using hb
  subst this
  exact ⟨.inl rfl, H.n1⟩
 obtain ⟨g', cap', uu, he, hx⟩ := tops_of ho
 injection he with he _ hc
 injection he with he
 injection he with he
 subst he; subst hc
 obtain ⟨c1, d1, d2, k1, e1, hX⟩ := hx.top
 exact ⟨uu, c1, d1, d2, k1, e1, hX⟩
theorem top_own {w : World} {base g cap : Nat} {S : List Nd} {t : Nd} {u : Value} {F G1 G2 Gk : Nat → Prop} {cells kc : List Value} (H : TopsX w base g cap S t u F cells G1 G2 kc Gk) : Own w base t (ndCells t.f0 t.f1 u) G2 := own_iff.2 ⟨u, rfl, kc, Gk, H.krow, H.kids, H.own, H.sub⟩
theorem top_ownS {w : World} {base g cap : Nat} {S : List Nd} {t : Nd} {u : Value} {F G1 G2 Gk : Nat → Prop} {cells kc : List Value} (H : TopsX w base g cap S t u F cells G1 G2 kc Gk) : OwnS w base u t.f2 G2 := ⟨kc, Gk, H.krow, H.kids, H.own, H.sub⟩
theorem ownS_upd {W w5 : World} {g base : Nat} {v : Value} {kids : List Nd} {F : Nat → Prop} (h : OwnS W base v kids F) (hu : Upd g W w5) (hg : g < base) : OwnS w5 base v kids F := ownS_step h (fun b _ hl => hu.far b (by have := hl.1; omega))
theorem topsX_cap {w : World} {base g cap : Nat} {S : List Nd} {t : Nd} {u : Value} {F G1 G2 Gk : Nat → Prop} {cells kc : List Value} (H : TopsX w base g cap S t u F cells G1 G2 kc Gk) : S.length + 1 ≤ cap := by
 rcases H.row.2 with ⟨he, _⟩ | ⟨g', cap', cur, he, hb, hh, hl, hm, hs, ht⟩
 ·cases he
 ·injection he with _ _ hc
  omega
theorem BuildPost.ok {w w5 : World} {l : List Ev} {t : Nd} {u : Value} (hr : runB l [] = some t) (ho : OwnS w5 (w.heap.size + 1) u t.f2 (fun _ => True)) (hb : Below w.heap.size w w5) : BuildPost w l (.returned (.tuple #[.agg #[.int .u8 t.f0, .int .u8 t.f1.f0, .string t.f1.f1, .int .i64 t.f1.f2.f0, .int .i64 t.f1.f2.f1, .int .i64 t.f1.f2.f2, .int .i64 t.f1.f3, u], .int .i64 0])) w5 := by
 refine ⟨u, ?_, ?_, hb⟩
 ·rw [bld_some hr]
 ·rw [bld_some hr]; exact ownS_lower (Nat.le_succ _) ho
end Go.Proofs.YtmjbpgnjgblnmaaGreat.Tr
