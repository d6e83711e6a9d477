/- What the claim stands on: part Jh. -/
import Derived.Test.YtmjbpgnjgblnmaaJf
set_option linter.unusedVariables false
set_option linter.unusedSimpArgs false
namespace Go.Proofs.Ytmjbpgnjgblnmaa
open Go.RowKit Go.Proofs.YtmjbpgnjgblnmaaW.PrintWords Go.Proofs.YtmjbpgnjgblnmaaW.PrintLast Go.Proofs.YtmjbpgnjgblnmaaW.PrintMore
set_option maxRecDepth 100000 in
set_option maxHeartbeats 8000000 in
theorem g_kind_1 (l : List Tk) (N : Nat) (G_expr : Good l N 93 [.rule .r_expr]) (G_kind : Good l N 115 [.rule .r_kind]) : GoodC l N 137 [.word ⟨#[97, 114, 114, 97, 121]⟩, .word ⟨#[91]⟩, .rule .r_expr, .word ⟨#[46, 46]⟩, .rule .r_expr, .word ⟨#[93]⟩, .word ⟨#[111, 102]⟩, .rule .r_kind] := by
 intro n hn W0 A c w0 p g i d out ve r H hg hr
 show Calls Try.prog 137 _ w0 _
 have HP0 := Lib.hid H
 have HG0 := Lib.hid hg
 have HNN := Lib.hid hn
 have HS0 := Lib.hid (PStep.refl p (.slice none 0 0) ve w0)
 have HT0 := HS0
 have bx := cell_of_row _ _ 0 _ _ _ hg
 have hr0 : srun l n ⟨([.word ⟨#[97, 114, 114, 97, 121]⟩, .word ⟨#[91]⟩] ++ ([.rule .r_expr] ++ ([.word ⟨#[46, 46]⟩] ++ ([.rule .r_expr] ++ ([.word ⟨#[93]⟩, .word ⟨#[111, 102]⟩] ++ [.rule .r_kind]))))), i, d, out⟩ = some r := hr
 clear H hg hn
 rcases srun_app l n [.word ⟨#[97, 114, 114, 97, 121]⟩, .word ⟨#[91]⟩] ([.rule .r_expr] ++ ([.word ⟨#[46, 46]⟩] ++ ([.rule .r_expr] ++ ([.word ⟨#[93]⟩, .word ⟨#[111, 102]⟩] ++ [.rule .r_kind])))) i d out r hr0 with ⟨er, jj, rfl, h1⟩ | ⟨i1, d1, out1, h1, hr1⟩
 ·skip
  have HX1 := Lib.hid h1
  have HC1 := Lib.hid (words_new HP0.out [⟨#[97, 114, 114, 97, 121]⟩, ⟨#[91]⟩] 2 [.string ⟨#[97, 114, 114, 97, 121]⟩, .string ⟨#[91]⟩] rfl rfl (by decide) (by decide) HX1.out)
  clear h1 hr
  go_enter Try.func137, Try.ntmps137
  go_wp2_with (first
   | (go_at_call 58; (with_reducible refine Calls.mono HC1.out ?_); rintro e w1 ⟨rfl, ve1, h3⟩; have HS1 := Lib.hid (HS0.out.trans h3); clear h3))
  exact ⟨rfl, rfl, ve1, HS1.out⟩
 ·skip
  rcases srun_app l n [.rule .r_expr] ([.word ⟨#[46, 46]⟩] ++ ([.rule .r_expr] ++ ([.word ⟨#[93]⟩, .word ⟨#[111, 102]⟩] ++ [.rule .r_kind]))) i1 d1 out1 r hr1 with ⟨er, jj, rfl, h2⟩ | ⟨i2, d2, out2, h2, hr2⟩
  ·skip
   have HX1 := Lib.hid h1; have HX2 := Lib.hid h2
   have HC1 := Lib.hid (words_new HP0.out [⟨#[97, 114, 114, 97, 121]⟩, ⟨#[91]⟩] 2 [.string ⟨#[97, 114, 114, 97, 121]⟩, .string ⟨#[91]⟩] rfl rfl (by decide) (by decide) HX1.out)
   clear h1 h2 hr
   go_enter Try.func137, Try.ntmps137
   go_wp2_with (first
    | (go_at_call 58; (with_reducible refine Calls.mono HC1.out ?_); rintro e w1 ⟨rfl, ve1, h2, h3⟩; have HP1 := Lib.hid h2; have HS1 := Lib.hid (HS0.out.trans h3); have HG1 := Lib.hid (mkeep (HT0.out.trans h3) HP0.out HG0.out (by decide) (by decide)); have HT1 := Lib.hid (HT0.out.trans h3); clear bx; have bx := cell_of_row _ _ 0 _ _ _ HG1.out; have HC2 := Lib.hid (G_expr n HNN.out W0 A c w1 p i1 d1 out1 ve1 _ HP1.out HX2.out); clear h2 h3)
    | (go_at_call 93; (with_reducible refine Calls.mono HC2.out ?_); rintro e w2 ⟨rfl, ve2, h3⟩; have HS2 := Lib.hid (HS1.out.trans h3); clear h3))
   exact ⟨rfl, rfl, ve2, HS2.out⟩
  ·skip
   rcases srun_app l n [.word ⟨#[46, 46]⟩] ([.rule .r_expr] ++ ([.word ⟨#[93]⟩, .word ⟨#[111, 102]⟩] ++ [.rule .r_kind])) i2 d2 out2 r hr2 with ⟨er, jj, rfl, h3⟩ | ⟨i3, d3, out3, h3, hr3⟩
   ·skip
    have HX1 := Lib.hid h1; have HX2 := Lib.hid h2; have HX3 := Lib.hid h3
    have HC1 := Lib.hid (words_new HP0.out [⟨#[97, 114, 114, 97, 121]⟩, ⟨#[91]⟩] 2 [.string ⟨#[97, 114, 114, 97, 121]⟩, .string ⟨#[91]⟩] rfl rfl (by decide) (by decide) HX1.out)
    clear h1 h2 h3 hr
    go_enter Try.func137, Try.ntmps137
    go_wp2_with (first
     | (go_at_call 58; (with_reducible refine Calls.mono HC1.out ?_); rintro e w1 ⟨rfl, ve1, h2, h3⟩; have HP1 := Lib.hid h2; have HS1 := Lib.hid (HS0.out.trans h3); have HG1 := Lib.hid (mkeep (HT0.out.trans h3) HP0.out HG0.out (by decide) (by decide)); have HT1 := Lib.hid (HT0.out.trans h3); clear bx; have bx := cell_of_row _ _ 0 _ _ _ HG1.out; have HC2 := Lib.hid (G_expr n HNN.out W0 A c w1 p i1 d1 out1 ve1 _ HP1.out HX2.out); clear h2 h3)
     | (go_at_call 93; (with_reducible refine Calls.mono HC2.out ?_); rintro e w2 ⟨rfl, ve2, h2, h3⟩; have HP2 := Lib.hid h2; have HS2 := Lib.hid (HS1.out.trans h3); have HG2 := Lib.hid (mkeep (HT1.out.trans h3) HP0.out HG0.out (by decide) (by decide)); have HT2 := Lib.hid (HT1.out.trans h3); clear bx; have bx := cell_of_row _ _ 0 _ _ _ HG2.out; have HC3 := Lib.hid (words_new HP2.out [⟨#[46, 46]⟩] 1 [.string ⟨#[46, 46]⟩] rfl rfl (by decide) (by decide) HX3.out); clear h2 h3)
     | (go_at_call 58; (with_reducible refine Calls.mono HC3.out ?_); rintro e w3 ⟨rfl, ve3, h3⟩; have HS3 := Lib.hid (HS2.out.trans h3); clear h3))
    exact ⟨rfl, rfl, ve3, HS3.out⟩
   ·skip
    rcases srun_app l n [.rule .r_expr] ([.word ⟨#[93]⟩, .word ⟨#[111, 102]⟩] ++ [.rule .r_kind]) i3 d3 out3 r hr3 with ⟨er, jj, rfl, h4⟩ | ⟨i4, d4, out4, h4, hr4⟩
    ·skip
     have HX1 := Lib.hid h1; have HX2 := Lib.hid h2; have HX3 := Lib.hid h3; have HX4 := Lib.hid h4
     have HC1 := Lib.hid (words_new HP0.out [⟨#[97, 114, 114, 97, 121]⟩, ⟨#[91]⟩] 2 [.string ⟨#[97, 114, 114, 97, 121]⟩, .string ⟨#[91]⟩] rfl rfl (by decide) (by decide) HX1.out)
     clear h1 h2 h3 h4 hr
     go_enter Try.func137, Try.ntmps137
     go_wp2_with (first
      | (go_at_call 58; (with_reducible refine Calls.mono HC1.out ?_); rintro e w1 ⟨rfl, ve1, h2, h3⟩; have HP1 := Lib.hid h2; have HS1 := Lib.hid (HS0.out.trans h3); have HG1 := Lib.hid (mkeep (HT0.out.trans h3) HP0.out HG0.out (by decide) (by decide)); have HT1 := Lib.hid (HT0.out.trans h3); clear bx; have bx := cell_of_row _ _ 0 _ _ _ HG1.out; have HC2 := Lib.hid (G_expr n HNN.out W0 A c w1 p i1 d1 out1 ve1 _ HP1.out HX2.out); clear h2 h3)
      | (go_at_call 93; (with_reducible refine Calls.mono HC2.out ?_); rintro e w2 ⟨rfl, ve2, h2, h3⟩; have HP2 := Lib.hid h2; have HS2 := Lib.hid (HS1.out.trans h3); have HG2 := Lib.hid (mkeep (HT1.out.trans h3) HP0.out HG0.out (by decide) (by decide)); have HT2 := Lib.hid (HT1.out.trans h3); clear bx; have bx := cell_of_row _ _ 0 _ _ _ HG2.out; have HC3 := Lib.hid (words_new HP2.out [⟨#[46, 46]⟩] 1 [.string ⟨#[46, 46]⟩] rfl rfl (by decide) (by decide) HX3.out); clear h2 h3)
      | (go_at_call 58; (with_reducible refine Calls.mono HC3.out ?_); rintro e w3 ⟨rfl, ve3, h2, h3⟩; have HP3 := Lib.hid h2; have HS3 := Lib.hid (HS2.out.trans h3); have HG3 := Lib.hid (mkeep (HT2.out.trans h3) HP0.out HG0.out (by decide) (by decide)); have HT3 := Lib.hid (HT2.out.trans h3); clear bx; have bx := cell_of_row _ _ 0 _ _ _ HG3.out; have HC4 := Lib.hid (G_expr n HNN.out W0 A c w3 p i3 d3 out3 ve3 _ HP3.out HX4.out); clear h2 h3)
      | (go_at_call 93; (with_reducible refine Calls.mono HC4.out ?_); rintro e w4 ⟨rfl, ve4, h3⟩; have HS4 := Lib.hid (HS3.out.trans h3); clear h3))
     exact ⟨rfl, rfl, ve4, HS4.out⟩
    ·skip
     rcases srun_app l n [.word ⟨#[93]⟩, .word ⟨#[111, 102]⟩] [.rule .r_kind] i4 d4 out4 r hr4 with ⟨er, jj, rfl, h5⟩ | ⟨i5, d5, out5, h5, hr5⟩
     ·skip
      have HX1 := Lib.hid h1; have HX2 := Lib.hid h2; have HX3 := Lib.hid h3; have HX4 := Lib.hid h4; have HX5 := Lib.hid h5
      have HC1 := Lib.hid (words_new HP0.out [⟨#[97, 114, 114, 97, 121]⟩, ⟨#[91]⟩] 2 [.string ⟨#[97, 114, 114, 97, 121]⟩, .string ⟨#[91]⟩] rfl rfl (by decide) (by decide) HX1.out)
      clear h1 h2 h3 h4 h5 hr
      go_enter Try.func137, Try.ntmps137
      go_wp2_with (first
       | (go_at_call 58; (with_reducible refine Calls.mono HC1.out ?_); rintro e w1 ⟨rfl, ve1, h2, h3⟩; have HP1 := Lib.hid h2; have HS1 := Lib.hid (HS0.out.trans h3); have HG1 := Lib.hid (mkeep (HT0.out.trans h3) HP0.out HG0.out (by decide) (by decide)); have HT1 := Lib.hid (HT0.out.trans h3); clear bx; have bx := cell_of_row _ _ 0 _ _ _ HG1.out; have HC2 := Lib.hid (G_expr n HNN.out W0 A c w1 p i1 d1 out1 ve1 _ HP1.out HX2.out); clear h2 h3)
       | (go_at_call 93; (with_reducible refine Calls.mono HC2.out ?_); rintro e w2 ⟨rfl, ve2, h2, h3⟩; have HP2 := Lib.hid h2; have HS2 := Lib.hid (HS1.out.trans h3); have HG2 := Lib.hid (mkeep (HT1.out.trans h3) HP0.out HG0.out (by decide) (by decide)); have HT2 := Lib.hid (HT1.out.trans h3); clear bx; have bx := cell_of_row _ _ 0 _ _ _ HG2.out; have HC3 := Lib.hid (words_new HP2.out [⟨#[46, 46]⟩] 1 [.string ⟨#[46, 46]⟩] rfl rfl (by decide) (by decide) HX3.out); clear h2 h3)
       | (go_at_call 58; (with_reducible refine Calls.mono HC3.out ?_); rintro e w3 ⟨rfl, ve3, h2, h3⟩; have HP3 := Lib.hid h2; have HS3 := Lib.hid (HS2.out.trans h3); have HG3 := Lib.hid (mkeep (HT2.out.trans h3) HP0.out HG0.out (by decide) (by decide)); have HT3 := Lib.hid (HT2.out.trans h3); clear bx; have bx := cell_of_row _ _ 0 _ _ _ HG3.out; have HC4 := Lib.hid (G_expr n HNN.out W0 A c w3 p i3 d3 out3 ve3 _ HP3.out HX4.out); clear h2 h3)
       | (go_at_call 93; (with_reducible refine Calls.mono HC4.out ?_); rintro e w4 ⟨rfl, ve4, h2, h3⟩; have HP4 := Lib.hid h2; have HS4 := Lib.hid (HS3.out.trans h3); have HG4 := Lib.hid (mkeep (HT3.out.trans h3) HP0.out HG0.out (by decide) (by decide)); have HT4 := Lib.hid (HT3.out.trans h3); clear bx; have bx := cell_of_row _ _ 0 _ _ _ HG4.out; have HC5 := Lib.hid (words_new HP4.out [⟨#[93]⟩, ⟨#[111, 102]⟩] 2 [.string ⟨#[93]⟩, .string ⟨#[111, 102]⟩] rfl rfl (by decide) (by decide) HX5.out); clear h2 h3)
       | (go_at_call 58; (with_reducible refine Calls.mono HC5.out ?_); rintro e w5 ⟨rfl, ve5, h3⟩; have HS5 := Lib.hid (HS4.out.trans h3); clear h3))
      exact ⟨rfl, rfl, ve5, HS5.out⟩
     ·skip
      have h6 := hr5
      cases r with
      | ok i6 d6 out6 =>
       have HX1 := Lib.hid h1; have HX2 := Lib.hid h2; have HX3 := Lib.hid h3; have HX4 := Lib.hid h4; have HX5 := Lib.hid h5; have HX6 := Lib.hid h6
       have HC1 := Lib.hid (words_new HP0.out [⟨#[97, 114, 114, 97, 121]⟩, ⟨#[91]⟩] 2 [.string ⟨#[97, 114, 114, 97, 121]⟩, .string ⟨#[91]⟩] rfl rfl (by decide) (by decide) HX1.out)
       clear h1 h2 h3 h4 h5 h6 hr
       go_enter Try.func137, Try.ntmps137
       go_wp2_with (first
        | (go_at_call 58; (with_reducible refine Calls.mono HC1.out ?_); rintro e w1 ⟨rfl, ve1, h2, h3⟩; have HP1 := Lib.hid h2; have HS1 := Lib.hid (HS0.out.trans h3); have HG1 := Lib.hid (mkeep (HT0.out.trans h3) HP0.out HG0.out (by decide) (by decide)); have HT1 := Lib.hid (HT0.out.trans h3); clear bx; have bx := cell_of_row _ _ 0 _ _ _ HG1.out; have HC2 := Lib.hid (G_expr n HNN.out W0 A c w1 p i1 d1 out1 ve1 _ HP1.out HX2.out); clear h2 h3)
        | (go_at_call 93; (with_reducible refine Calls.mono HC2.out ?_); rintro e w2 ⟨rfl, ve2, h2, h3⟩; have HP2 := Lib.hid h2; have HS2 := Lib.hid (HS1.out.trans h3); have HG2 := Lib.hid (mkeep (HT1.out.trans h3) HP0.out HG0.out (by decide) (by decide)); have HT2 := Lib.hid (HT1.out.trans h3); clear bx; have bx := cell_of_row _ _ 0 _ _ _ HG2.out; have HC3 := Lib.hid (words_new HP2.out [⟨#[46, 46]⟩] 1 [.string ⟨#[46, 46]⟩] rfl rfl (by decide) (by decide) HX3.out); clear h2 h3)
        | (go_at_call 58; (with_reducible refine Calls.mono HC3.out ?_); rintro e w3 ⟨rfl, ve3, h2, h3⟩; have HP3 := Lib.hid h2; have HS3 := Lib.hid (HS2.out.trans h3); have HG3 := Lib.hid (mkeep (HT2.out.trans h3) HP0.out HG0.out (by decide) (by decide)); have HT3 := Lib.hid (HT2.out.trans h3); clear bx; have bx := cell_of_row _ _ 0 _ _ _ HG3.out; have HC4 := Lib.hid (G_expr n HNN.out W0 A c w3 p i3 d3 out3 ve3 _ HP3.out HX4.out); clear h2 h3)
        | (go_at_call 93; (with_reducible refine Calls.mono HC4.out ?_); rintro e w4 ⟨rfl, ve4, h2, h3⟩; have HP4 := Lib.hid h2; have HS4 := Lib.hid (HS3.out.trans h3); have HG4 := Lib.hid (mkeep (HT3.out.trans h3) HP0.out HG0.out (by decide) (by decide)); have HT4 := Lib.hid (HT3.out.trans h3); clear bx; have bx := cell_of_row _ _ 0 _ _ _ HG4.out; have HC5 := Lib.hid (words_new HP4.out [⟨#[93]⟩, ⟨#[111, 102]⟩] 2 [.string ⟨#[93]⟩, .string ⟨#[111, 102]⟩] rfl rfl (by decide) (by decide) HX5.out); clear h2 h3)
        | (go_at_call 58; (with_reducible refine Calls.mono HC5.out ?_); rintro e w5 ⟨rfl, ve5, h2, h3⟩; have HP5 := Lib.hid h2; have HS5 := Lib.hid (HS4.out.trans h3); have HG5 := Lib.hid (mkeep (HT4.out.trans h3) HP0.out HG0.out (by decide) (by decide)); have HT5 := Lib.hid (HT4.out.trans h3); clear bx; have bx := cell_of_row _ _ 0 _ _ _ HG5.out; have HC6 := Lib.hid (G_kind n HNN.out W0 A c w5 p i5 d5 out5 ve5 _ HP5.out HX6.out); clear h2 h3)
        | (go_at_call 115; (with_reducible refine Calls.mono HC6.out ?_); rintro e w6 ⟨rfl, ve6, h2, h3⟩; have HP6 := Lib.hid h2; have HS6 := Lib.hid (HS5.out.trans h3); have HG6 := Lib.hid (mkeep (HT5.out.trans h3) HP0.out HG0.out (by decide) (by decide)); have HT6 := Lib.hid (HT5.out.trans h3); clear bx; have bx := cell_of_row _ _ 0 _ _ _ HG6.out; clear h2 h3))
       go_end0
       exact ⟨rfl, ve6, HP6.out, HS6.out⟩
      | err er jj =>
       have HX1 := Lib.hid h1; have HX2 := Lib.hid h2; have HX3 := Lib.hid h3; have HX4 := Lib.hid h4; have HX5 := Lib.hid h5; have HX6 := Lib.hid h6
       have HC1 := Lib.hid (words_new HP0.out [⟨#[97, 114, 114, 97, 121]⟩, ⟨#[91]⟩] 2 [.string ⟨#[97, 114, 114, 97, 121]⟩, .string ⟨#[91]⟩] rfl rfl (by decide) (by decide) HX1.out)
       clear h1 h2 h3 h4 h5 h6 hr
       go_enter Try.func137, Try.ntmps137
       go_wp2_with (first
        | (go_at_call 58; (with_reducible refine Calls.mono HC1.out ?_); rintro e w1 ⟨rfl, ve1, h2, h3⟩; have HP1 := Lib.hid h2; have HS1 := Lib.hid (HS0.out.trans h3); have HG1 := Lib.hid (mkeep (HT0.out.trans h3) HP0.out HG0.out (by decide) (by decide)); have HT1 := Lib.hid (HT0.out.trans h3); clear bx; have bx := cell_of_row _ _ 0 _ _ _ HG1.out; have HC2 := Lib.hid (G_expr n HNN.out W0 A c w1 p i1 d1 out1 ve1 _ HP1.out HX2.out); clear h2 h3)
        | (go_at_call 93; (with_reducible refine Calls.mono HC2.out ?_); rintro e w2 ⟨rfl, ve2, h2, h3⟩; have HP2 := Lib.hid h2; have HS2 := Lib.hid (HS1.out.trans h3); have HG2 := Lib.hid (mkeep (HT1.out.trans h3) HP0.out HG0.out (by decide) (by decide)); have HT2 := Lib.hid (HT1.out.trans h3); clear bx; have bx := cell_of_row _ _ 0 _ _ _ HG2.out; have HC3 := Lib.hid (words_new HP2.out [⟨#[46, 46]⟩] 1 [.string ⟨#[46, 46]⟩] rfl rfl (by decide) (by decide) HX3.out); clear h2 h3)
        | (go_at_call 58; (with_reducible refine Calls.mono HC3.out ?_); rintro e w3 ⟨rfl, ve3, h2, h3⟩; have HP3 := Lib.hid h2; have HS3 := Lib.hid (HS2.out.trans h3); have HG3 := Lib.hid (mkeep (HT2.out.trans h3) HP0.out HG0.out (by decide) (by decide)); have HT3 := Lib.hid (HT2.out.trans h3); clear bx; have bx := cell_of_row _ _ 0 _ _ _ HG3.out; have HC4 := Lib.hid (G_expr n HNN.out W0 A c w3 p i3 d3 out3 ve3 _ HP3.out HX4.out); clear h2 h3)
        | (go_at_call 93; (with_reducible refine Calls.mono HC4.out ?_); rintro e w4 ⟨rfl, ve4, h2, h3⟩; have HP4 := Lib.hid h2; have HS4 := Lib.hid (HS3.out.trans h3); have HG4 := Lib.hid (mkeep (HT3.out.trans h3) HP0.out HG0.out (by decide) (by decide)); have HT4 := Lib.hid (HT3.out.trans h3); clear bx; have bx := cell_of_row _ _ 0 _ _ _ HG4.out; have HC5 := Lib.hid (words_new HP4.out [⟨#[93]⟩, ⟨#[111, 102]⟩] 2 [.string ⟨#[93]⟩, .string ⟨#[111, 102]⟩] rfl rfl (by decide) (by decide) HX5.out); clear h2 h3)
        | (go_at_call 58; (with_reducible refine Calls.mono HC5.out ?_); rintro e w5 ⟨rfl, ve5, h2, h3⟩; have HP5 := Lib.hid h2; have HS5 := Lib.hid (HS4.out.trans h3); have HG5 := Lib.hid (mkeep (HT4.out.trans h3) HP0.out HG0.out (by decide) (by decide)); have HT5 := Lib.hid (HT4.out.trans h3); clear bx; have bx := cell_of_row _ _ 0 _ _ _ HG5.out; have HC6 := Lib.hid (G_kind n HNN.out W0 A c w5 p i5 d5 out5 ve5 _ HP5.out HX6.out); clear h2 h3)
        | (go_at_call 115; (with_reducible refine Calls.mono HC6.out ?_); rintro e w6 ⟨rfl, ve6, h3⟩; have HS6 := Lib.hid (HS5.out.trans h3); clear h3))
       exact ⟨rfl, rfl, ve6, HS6.out⟩
set_option maxRecDepth 100000 in
set_option maxHeartbeats 8000000 in
theorem g_statement_1 (l : List Tk) (N : Nat)  : GoodC l N 120 [.word ⟨#[115, 107, 105, 112]⟩] := by
 intro n hn W0 A c w0 p g i d out ve r H hg hr
 show Calls Try.prog 120 _ w0 _
 have HP0 := Lib.hid H
 have HG0 := Lib.hid hg
 have HNN := Lib.hid hn
 have HS0 := Lib.hid (PStep.refl p (.slice none 0 0) ve w0)
 have HT0 := HS0
 have bx := cell_of_row _ _ 0 _ _ _ hg
 have hr0 : srun l n ⟨[.word ⟨#[115, 107, 105, 112]⟩], i, d, out⟩ = some r := hr
 clear H hg hn
 have h1 := hr0
 cases r with
 | ok i1 d1 out1 =>
  have HX1 := Lib.hid h1
  have HC1 := Lib.hid (words_new HP0.out [⟨#[115, 107, 105, 112]⟩] 1 [.string ⟨#[115, 107, 105, 112]⟩] rfl rfl (by decide) (by decide) HX1.out)
  clear h1 hr
  go_enter Try.func120, Try.ntmps120
  go_wp2_with (first
   | (go_at_call 58; (with_reducible refine Calls.mono HC1.out ?_); rintro e w1 ⟨rfl, ve1, h2, h3⟩; have HP1 := Lib.hid h2; have HS1 := Lib.hid (HS0.out.trans h3); have HG1 := Lib.hid (mkeep (HT0.out.trans h3) HP0.out HG0.out (by decide) (by decide)); have HT1 := Lib.hid (HT0.out.trans h3); clear bx; have bx := cell_of_row _ _ 0 _ _ _ HG1.out; clear h2 h3))
  go_end0
  exact ⟨rfl, ve1, HP1.out, HS1.out⟩
 | err er jj =>
  have HX1 := Lib.hid h1
  have HC1 := Lib.hid (words_new HP0.out [⟨#[115, 107, 105, 112]⟩] 1 [.string ⟨#[115, 107, 105, 112]⟩] rfl rfl (by decide) (by decide) HX1.out)
  clear h1 hr
  go_enter Try.func120, Try.ntmps120
  go_wp2_with (first
   | (go_at_call 58; (with_reducible refine Calls.mono HC1.out ?_); rintro e w1 ⟨rfl, ve1, h3⟩; have HS1 := Lib.hid (HS0.out.trans h3); clear h3))
  exact ⟨rfl, rfl, ve1, HS1.out⟩
set_option maxRecDepth 100000 in
set_option maxHeartbeats 8000000 in
theorem g_other_1 (l : List Tk) (N : Nat) (G_body : Good l N 75 [.rule .r_body]) (G_expr : Good l N 93 [.rule .r_expr]) : GoodC l N 144 [.word ⟨#[114, 101, 112, 101, 97, 116]⟩, .rule .r_body, .word ⟨#[117, 110, 116, 105, 108]⟩, .rule .r_expr] := by
 intro n hn W0 A c w0 p g i d out ve r H hg hr
 show Calls Try.prog 144 _ w0 _
 have HP0 := Lib.hid H
 have HG0 := Lib.hid hg
 have HNN := Lib.hid hn
 have HS0 := Lib.hid (PStep.refl p (.slice none 0 0) ve w0)
 have HT0 := HS0
 have bx := cell_of_row _ _ 0 _ _ _ hg
 have hr0 : srun l n ⟨([.word ⟨#[114, 101, 112, 101, 97, 116]⟩] ++ ([.rule .r_body] ++ ([.word ⟨#[117, 110, 116, 105, 108]⟩] ++ [.rule .r_expr]))), i, d, out⟩ = some r := hr
 clear H hg hn
 rcases srun_app l n [.word ⟨#[114, 101, 112, 101, 97, 116]⟩] ([.rule .r_body] ++ ([.word ⟨#[117, 110, 116, 105, 108]⟩] ++ [.rule .r_expr])) i d out r hr0 with ⟨er, jj, rfl, h1⟩ | ⟨i1, d1, out1, h1, hr1⟩
 ·skip
  have HX1 := Lib.hid h1
  have HC1 := Lib.hid (words_new HP0.out [⟨#[114, 101, 112, 101, 97, 116]⟩] 1 [.string ⟨#[114, 101, 112, 101, 97, 116]⟩] rfl rfl (by decide) (by decide) HX1.out)
  clear h1 hr
  go_enter Try.func144, Try.ntmps144
  go_wp2_with (first
   | (go_at_call 58; (with_reducible refine Calls.mono HC1.out ?_); rintro e w1 ⟨rfl, ve1, h3⟩; have HS1 := Lib.hid (HS0.out.trans h3); clear h3))
  exact ⟨rfl, rfl, ve1, HS1.out⟩
 ·skip
  rcases srun_app l n [.rule .r_body] ([.word ⟨#[117, 110, 116, 105, 108]⟩] ++ [.rule .r_expr]) i1 d1 out1 r hr1 with ⟨er, jj, rfl, h2⟩ | ⟨i2, d2, out2, h2, hr2⟩
  ·skip
   have HX1 := Lib.hid h1; have HX2 := Lib.hid h2
   have HC1 := Lib.hid (words_new HP0.out [⟨#[114, 101, 112, 101, 97, 116]⟩] 1 [.string ⟨#[114, 101, 112, 101, 97, 116]⟩] rfl rfl (by decide) (by decide) HX1.out)
   clear h1 h2 hr
   go_enter Try.func144, Try.ntmps144
   go_wp2_with (first
    | (go_at_call 58; (with_reducible refine Calls.mono HC1.out ?_); rintro e w1 ⟨rfl, ve1, h2, h3⟩; have HP1 := Lib.hid h2; have HS1 := Lib.hid (HS0.out.trans h3); have HG1 := Lib.hid (mkeep (HT0.out.trans h3) HP0.out HG0.out (by decide) (by decide)); have HT1 := Lib.hid (HT0.out.trans h3); clear bx; have bx := cell_of_row _ _ 0 _ _ _ HG1.out; have HC2 := Lib.hid (G_body n HNN.out W0 A c w1 p i1 d1 out1 ve1 _ HP1.out HX2.out); clear h2 h3)
    | (go_at_call 75; (with_reducible refine Calls.mono HC2.out ?_); rintro e w2 ⟨rfl, ve2, h3⟩; have HS2 := Lib.hid (HS1.out.trans h3); clear h3))
   exact ⟨rfl, rfl, ve2, HS2.out⟩
  ·skip
   rcases srun_app l n [.word ⟨#[117, 110, 116, 105, 108]⟩] [.rule .r_expr] i2 d2 out2 r hr2 with ⟨er, jj, rfl, h3⟩ | ⟨i3, d3, out3, h3, hr3⟩
   ·skip
    have HX1 := Lib.hid h1; have HX2 := Lib.hid h2; have HX3 := Lib.hid h3
    have HC1 := Lib.hid (words_new HP0.out [⟨#[114, 101, 112, 101, 97, 116]⟩] 1 [.string ⟨#[114, 101, 112, 101, 97, 116]⟩] rfl rfl (by decide) (by decide) HX1.out)
    clear h1 h2 h3 hr
    go_enter Try.func144, Try.ntmps144
    go_wp2_with (first
     | (go_at_call 58; (with_reducible refine Calls.mono HC1.out ?_); rintro e w1 ⟨rfl, ve1, h2, h3⟩; have HP1 := Lib.hid h2; have HS1 := Lib.hid (HS0.out.trans h3); have HG1 := Lib.hid (mkeep (HT0.out.trans h3) HP0.out HG0.out (by decide) (by decide)); have HT1 := Lib.hid (HT0.out.trans h3); clear bx; have bx := cell_of_row _ _ 0 _ _ _ HG1.out; have HC2 := Lib.hid (G_body n HNN.out W0 A c w1 p i1 d1 out1 ve1 _ HP1.out HX2.out); clear h2 h3)
     | (go_at_call 75; (with_reducible refine Calls.mono HC2.out ?_); rintro e w2 ⟨rfl, ve2, h2, h3⟩; have HP2 := Lib.hid h2; have HS2 := Lib.hid (HS1.out.trans h3); have HG2 := Lib.hid (mkeep (HT1.out.trans h3) HP0.out HG0.out (by decide) (by decide)); have HT2 := Lib.hid (HT1.out.trans h3); clear bx; have bx := cell_of_row _ _ 0 _ _ _ HG2.out; have HC3 := Lib.hid (words_new HP2.out [⟨#[117, 110, 116, 105, 108]⟩] 1 [.string ⟨#[117, 110, 116, 105, 108]⟩] rfl rfl (by decide) (by decide) HX3.out); clear h2 h3)
     | (go_at_call 58; (with_reducible refine Calls.mono HC3.out ?_); rintro e w3 ⟨rfl, ve3, h3⟩; have HS3 := Lib.hid (HS2.out.trans h3); clear h3))
    exact ⟨rfl, rfl, ve3, HS3.out⟩
   ·skip
    have h4 := hr3
    cases r with
    | ok i4 d4 out4 =>
     have HX1 := Lib.hid h1; have HX2 := Lib.hid h2; have HX3 := Lib.hid h3; have HX4 := Lib.hid h4
     have HC1 := Lib.hid (words_new HP0.out [⟨#[114, 101, 112, 101, 97, 116]⟩] 1 [.string ⟨#[114, 101, 112, 101, 97, 116]⟩] rfl rfl (by decide) (by decide) HX1.out)
     clear h1 h2 h3 h4 hr
     go_enter Try.func144, Try.ntmps144
     go_wp2_with (first
      | (go_at_call 58; (with_reducible refine Calls.mono HC1.out ?_); rintro e w1 ⟨rfl, ve1, h2, h3⟩; have HP1 := Lib.hid h2; have HS1 := Lib.hid (HS0.out.trans h3); have HG1 := Lib.hid (mkeep (HT0.out.trans h3) HP0.out HG0.out (by decide) (by decide)); have HT1 := Lib.hid (HT0.out.trans h3); clear bx; have bx := cell_of_row _ _ 0 _ _ _ HG1.out; have HC2 := Lib.hid (G_body n HNN.out W0 A c w1 p i1 d1 out1 ve1 _ HP1.out HX2.out); clear h2 h3)
      | (go_at_call 75; (with_reducible refine Calls.mono HC2.out ?_); rintro e w2 ⟨rfl, ve2, h2, h3⟩; have HP2 := Lib.hid h2; have HS2 := Lib.hid (HS1.out.trans h3); have HG2 := Lib.hid (mkeep (HT1.out.trans h3) HP0.out HG0.out (by decide) (by decide)); have HT2 := Lib.hid (HT1.out.trans h3); clear bx; have bx := cell_of_row _ _ 0 _ _ _ HG2.out; have HC3 := Lib.hid (words_new HP2.out [⟨#[117, 110, 116, 105, 108]⟩] 1 [.string ⟨#[117, 110, 116, 105, 108]⟩] rfl rfl (by decide) (by decide) HX3.out); clear h2 h3)
      | (go_at_call 58; (with_reducible refine Calls.mono HC3.out ?_); rintro e w3 ⟨rfl, ve3, h2, h3⟩; have HP3 := Lib.hid h2; have HS3 := Lib.hid (HS2.out.trans h3); have HG3 := Lib.hid (mkeep (HT2.out.trans h3) HP0.out HG0.out (by decide) (by decide)); have HT3 := Lib.hid (HT2.out.trans h3); clear bx; have bx := cell_of_row _ _ 0 _ _ _ HG3.out; have HC4 := Lib.hid (G_expr n HNN.out W0 A c w3 p i3 d3 out3 ve3 _ HP3.out HX4.out); clear h2 h3)
      | (go_at_call 93; (with_reducible refine Calls.mono HC4.out ?_); rintro e w4 ⟨rfl, ve4, h2, h3⟩; have HP4 := Lib.hid h2; have HS4 := Lib.hid (HS3.out.trans h3); have HG4 := Lib.hid (mkeep (HT3.out.trans h3) HP0.out HG0.out (by decide) (by decide)); have HT4 := Lib.hid (HT3.out.trans h3); clear bx; have bx := cell_of_row _ _ 0 _ _ _ HG4.out; clear h2 h3))
     go_end0
     exact ⟨rfl, ve4, HP4.out, HS4.out⟩
    | err er jj =>
     have HX1 := Lib.hid h1; have HX2 := Lib.hid h2; have HX3 := Lib.hid h3; have HX4 := Lib.hid h4
     have HC1 := Lib.hid (words_new HP0.out [⟨#[114, 101, 112, 101, 97, 116]⟩] 1 [.string ⟨#[114, 101, 112, 101, 97, 116]⟩] rfl rfl (by decide) (by decide) HX1.out)
     clear h1 h2 h3 h4 hr
     go_enter Try.func144, Try.ntmps144
     go_wp2_with (first
      | (go_at_call 58; (with_reducible refine Calls.mono HC1.out ?_); rintro e w1 ⟨rfl, ve1, h2, h3⟩; have HP1 := Lib.hid h2; have HS1 := Lib.hid (HS0.out.trans h3); have HG1 := Lib.hid (mkeep (HT0.out.trans h3) HP0.out HG0.out (by decide) (by decide)); have HT1 := Lib.hid (HT0.out.trans h3); clear bx; have bx := cell_of_row _ _ 0 _ _ _ HG1.out; have HC2 := Lib.hid (G_body n HNN.out W0 A c w1 p i1 d1 out1 ve1 _ HP1.out HX2.out); clear h2 h3)
      | (go_at_call 75; (with_reducible refine Calls.mono HC2.out ?_); rintro e w2 ⟨rfl, ve2, h2, h3⟩; have HP2 := Lib.hid h2; have HS2 := Lib.hid (HS1.out.trans h3); have HG2 := Lib.hid (mkeep (HT1.out.trans h3) HP0.out HG0.out (by decide) (by decide)); have HT2 := Lib.hid (HT1.out.trans h3); clear bx; have bx := cell_of_row _ _ 0 _ _ _ HG2.out; have HC3 := Lib.hid (words_new HP2.out [⟨#[117, 110, 116, 105, 108]⟩] 1 [.string ⟨#[117, 110, 116, 105, 108]⟩] rfl rfl (by decide) (by decide) HX3.out); clear h2 h3)
      | (go_at_call 58; (with_reducible refine Calls.mono HC3.out ?_); rintro e w3 ⟨rfl, ve3, h2, h3⟩; have HP3 := Lib.hid h2; have HS3 := Lib.hid (HS2.out.trans h3); have HG3 := Lib.hid (mkeep (HT2.out.trans h3) HP0.out HG0.out (by decide) (by decide)); have HT3 := Lib.hid (HT2.out.trans h3); clear bx; have bx := cell_of_row _ _ 0 _ _ _ HG3.out; have HC4 := Lib.hid (G_expr n HNN.out W0 A c w3 p i3 d3 out3 ve3 _ HP3.out HX4.out); clear h2 h3)
      | (go_at_call 93; (with_reducible refine Calls.mono HC4.out ?_); rintro e w4 ⟨rfl, ve4, h3⟩; have HS4 := Lib.hid (HS3.out.trans h3); clear h3))
     exact ⟨rfl, rfl, ve4, HS4.out⟩
set_option maxRecDepth 100000 in
set_option maxHeartbeats 8000000 in
theorem g_other_3 (l : List Tk) (N : Nat) (G_body : Good l N 75 [.rule .r_body]) : GoodC l N 147 [.word ⟨#[98, 101, 103, 105, 110]⟩, .rule .r_body, .word ⟨#[101, 110, 100]⟩] := by
 intro n hn W0 A c w0 p g i d out ve r H hg hr
 show Calls Try.prog 147 _ w0 _
 have HP0 := Lib.hid H
 have HG0 := Lib.hid hg
 have HNN := Lib.hid hn
 have HS0 := Lib.hid (PStep.refl p (.slice none 0 0) ve w0)
 have HT0 := HS0
 have bx := cell_of_row _ _ 0 _ _ _ hg
 have hr0 : srun l n ⟨([.word ⟨#[98, 101, 103, 105, 110]⟩] ++ ([.rule .r_body] ++ [.word ⟨#[101, 110, 100]⟩])), i, d, out⟩ = some r := hr
 clear H hg hn
 rcases srun_app l n [.word ⟨#[98, 101, 103, 105, 110]⟩] ([.rule .r_body] ++ [.word ⟨#[101, 110, 100]⟩]) i d out r hr0 with ⟨er, jj, rfl, h1⟩ | ⟨i1, d1, out1, h1, hr1⟩
 ·skip
  have HX1 := Lib.hid h1
  have HC1 := Lib.hid (words_new HP0.out [⟨#[98, 101, 103, 105, 110]⟩] 1 [.string ⟨#[98, 101, 103, 105, 110]⟩] rfl rfl (by decide) (by decide) HX1.out)
  clear h1 hr
  go_enter Try.func147, Try.ntmps147
  go_wp2_with (first
   | (go_at_call 58; (with_reducible refine Calls.mono HC1.out ?_); rintro e w1 ⟨rfl, ve1, h3⟩; have HS1 := Lib.hid (HS0.out.trans h3); clear h3))
  exact ⟨rfl, rfl, ve1, HS1.out⟩
 ·skip
  rcases srun_app l n [.rule .r_body] [.word ⟨#[101, 110, 100]⟩] i1 d1 out1 r hr1 with ⟨er, jj, rfl, h2⟩ | ⟨i2, d2, out2, h2, hr2⟩
  ·skip
   have HX1 := Lib.hid h1; have HX2 := Lib.hid h2
   have HC1 := Lib.hid (words_new HP0.out [⟨#[98, 101, 103, 105, 110]⟩] 1 [.string ⟨#[98, 101, 103, 105, 110]⟩] rfl rfl (by decide) (by decide) HX1.out)
   clear h1 h2 hr
   go_enter Try.func147, Try.ntmps147
   go_wp2_with (first
    | (go_at_call 58; (with_reducible refine Calls.mono HC1.out ?_); rintro e w1 ⟨rfl, ve1, h2, h3⟩; have HP1 := Lib.hid h2; have HS1 := Lib.hid (HS0.out.trans h3); have HG1 := Lib.hid (mkeep (HT0.out.trans h3) HP0.out HG0.out (by decide) (by decide)); have HT1 := Lib.hid (HT0.out.trans h3); clear bx; have bx := cell_of_row _ _ 0 _ _ _ HG1.out; have HC2 := Lib.hid (G_body n HNN.out W0 A c w1 p i1 d1 out1 ve1 _ HP1.out HX2.out); clear h2 h3)
    | (go_at_call 75; (with_reducible refine Calls.mono HC2.out ?_); rintro e w2 ⟨rfl, ve2, h3⟩; have HS2 := Lib.hid (HS1.out.trans h3); clear h3))
   exact ⟨rfl, rfl, ve2, HS2.out⟩
  ·skip
   have h3 := hr2
   cases r with
   | ok i3 d3 out3 =>
    have HX1 := Lib.hid h1; have HX2 := Lib.hid h2; have HX3 := Lib.hid h3
    have HC1 := Lib.hid (words_new HP0.out [⟨#[98, 101, 103, 105, 110]⟩] 1 [.string ⟨#[98, 101, 103, 105, 110]⟩] rfl rfl (by decide) (by decide) HX1.out)
    clear h1 h2 h3 hr
    go_enter Try.func147, Try.ntmps147
    go_wp2_with (first
     | (go_at_call 58; (with_reducible refine Calls.mono HC1.out ?_); rintro e w1 ⟨rfl, ve1, h2, h3⟩; have HP1 := Lib.hid h2; have HS1 := Lib.hid (HS0.out.trans h3); have HG1 := Lib.hid (mkeep (HT0.out.trans h3) HP0.out HG0.out (by decide) (by decide)); have HT1 := Lib.hid (HT0.out.trans h3); clear bx; have bx := cell_of_row _ _ 0 _ _ _ HG1.out; have HC2 := Lib.hid (G_body n HNN.out W0 A c w1 p i1 d1 out1 ve1 _ HP1.out HX2.out); clear h2 h3)
     | (go_at_call 75; (with_reducible refine Calls.mono HC2.out ?_); rintro e w2 ⟨rfl, ve2, h2, h3⟩; have HP2 := Lib.hid h2; have HS2 := Lib.hid (HS1.out.trans h3); have HG2 := Lib.hid (mkeep (HT1.out.trans h3) HP0.out HG0.out (by decide) (by decide)); have HT2 := Lib.hid (HT1.out.trans h3); clear bx; have bx := cell_of_row _ _ 0 _ _ _ HG2.out; have HC3 := Lib.hid (words_new HP2.out [⟨#[101, 110, 100]⟩] 1 [.string ⟨#[101, 110, 100]⟩] rfl rfl (by decide) (by decide) HX3.out); clear h2 h3)
     | (go_at_call 58; (with_reducible refine Calls.mono HC3.out ?_); rintro e w3 ⟨rfl, ve3, h2, h3⟩; have HP3 := Lib.hid h2; have HS3 := Lib.hid (HS2.out.trans h3); have HG3 := Lib.hid (mkeep (HT2.out.trans h3) HP0.out HG0.out (by decide) (by decide)); have HT3 := Lib.hid (HT2.out.trans h3); clear bx; have bx := cell_of_row _ _ 0 _ _ _ HG3.out; clear h2 h3))
    go_end0
    exact ⟨rfl, ve3, HP3.out, HS3.out⟩
   | err er jj =>
    have HX1 := Lib.hid h1; have HX2 := Lib.hid h2; have HX3 := Lib.hid h3
    have HC1 := Lib.hid (words_new HP0.out [⟨#[98, 101, 103, 105, 110]⟩] 1 [.string ⟨#[98, 101, 103, 105, 110]⟩] rfl rfl (by decide) (by decide) HX1.out)
    clear h1 h2 h3 hr
    go_enter Try.func147, Try.ntmps147
    go_wp2_with (first
     | (go_at_call 58; (with_reducible refine Calls.mono HC1.out ?_); rintro e w1 ⟨rfl, ve1, h2, h3⟩; have HP1 := Lib.hid h2; have HS1 := Lib.hid (HS0.out.trans h3); have HG1 := Lib.hid (mkeep (HT0.out.trans h3) HP0.out HG0.out (by decide) (by decide)); have HT1 := Lib.hid (HT0.out.trans h3); clear bx; have bx := cell_of_row _ _ 0 _ _ _ HG1.out; have HC2 := Lib.hid (G_body n HNN.out W0 A c w1 p i1 d1 out1 ve1 _ HP1.out HX2.out); clear h2 h3)
     | (go_at_call 75; (with_reducible refine Calls.mono HC2.out ?_); rintro e w2 ⟨rfl, ve2, h2, h3⟩; have HP2 := Lib.hid h2; have HS2 := Lib.hid (HS1.out.trans h3); have HG2 := Lib.hid (mkeep (HT1.out.trans h3) HP0.out HG0.out (by decide) (by decide)); have HT2 := Lib.hid (HT1.out.trans h3); clear bx; have bx := cell_of_row _ _ 0 _ _ _ HG2.out; have HC3 := Lib.hid (words_new HP2.out [⟨#[101, 110, 100]⟩] 1 [.string ⟨#[101, 110, 100]⟩] rfl rfl (by decide) (by decide) HX3.out); clear h2 h3)
     | (go_at_call 58; (with_reducible refine Calls.mono HC3.out ?_); rintro e w3 ⟨rfl, ve3, h3⟩; have HS3 := Lib.hid (HS2.out.trans h3); clear h3))
    exact ⟨rfl, rfl, ve3, HS3.out⟩
set_option maxRecDepth 100000 in
set_option maxHeartbeats 8000000 in
theorem g_factor_1 (l : List Tk) (N : Nat) (G_factor : Good l N 165 [.rule .r_factor]) : GoodC l N 167 [.word ⟨#[45]⟩, .rule .r_factor] := by
 intro n hn W0 A c w0 p g i d out ve r H hg hr
 show Calls Try.prog 167 _ w0 _
 have HP0 := Lib.hid H
 have HG0 := Lib.hid hg
 have HNN := Lib.hid hn
 have HS0 := Lib.hid (PStep.refl p (.slice none 0 0) ve w0)
 have HT0 := HS0
 have bx := cell_of_row _ _ 0 _ _ _ hg
 have hr0 : srun l n ⟨([.word ⟨#[45]⟩] ++ [.rule .r_factor]), i, d, out⟩ = some r := hr
 clear H hg hn
 rcases srun_app l n [.word ⟨#[45]⟩] [.rule .r_factor] i d out r hr0 with ⟨er, jj, rfl, h1⟩ | ⟨i1, d1, out1, h1, hr1⟩
 ·skip
  have HX1 := Lib.hid h1
  have HC1 := Lib.hid (words_new HP0.out [⟨#[45]⟩] 1 [.string ⟨#[45]⟩] rfl rfl (by decide) (by decide) HX1.out)
  clear h1 hr
  go_enter Try.func167, Try.ntmps167
  go_wp2_with (first
   | (go_at_call 58; (with_reducible refine Calls.mono HC1.out ?_); rintro e w1 ⟨rfl, ve1, h3⟩; have HS1 := Lib.hid (HS0.out.trans h3); clear h3))
  exact ⟨rfl, rfl, ve1, HS1.out⟩
 ·skip
  have h2 := hr1
  cases r with
  | ok i2 d2 out2 =>
   have HX1 := Lib.hid h1; have HX2 := Lib.hid h2
   have HC1 := Lib.hid (words_new HP0.out [⟨#[45]⟩] 1 [.string ⟨#[45]⟩] rfl rfl (by decide) (by decide) HX1.out)
   clear h1 h2 hr
   go_enter Try.func167, Try.ntmps167
   go_wp2_with (first
    | (go_at_call 58; (with_reducible refine Calls.mono HC1.out ?_); rintro e w1 ⟨rfl, ve1, h2, h3⟩; have HP1 := Lib.hid h2; have HS1 := Lib.hid (HS0.out.trans h3); have HG1 := Lib.hid (mkeep (HT0.out.trans h3) HP0.out HG0.out (by decide) (by decide)); have HT1 := Lib.hid (HT0.out.trans h3); clear bx; have bx := cell_of_row _ _ 0 _ _ _ HG1.out; have HC2 := Lib.hid (G_factor n HNN.out W0 A c w1 p i1 d1 out1 ve1 _ HP1.out HX2.out); clear h2 h3)
    | (go_at_call 165; (with_reducible refine Calls.mono HC2.out ?_); rintro e w2 ⟨rfl, ve2, h2, h3⟩; have HP2 := Lib.hid h2; have HS2 := Lib.hid (HS1.out.trans h3); have HG2 := Lib.hid (mkeep (HT1.out.trans h3) HP0.out HG0.out (by decide) (by decide)); have HT2 := Lib.hid (HT1.out.trans h3); clear bx; have bx := cell_of_row _ _ 0 _ _ _ HG2.out; clear h2 h3))
   go_end0
   exact ⟨rfl, ve2, HP2.out, HS2.out⟩
  | err er jj =>
   have HX1 := Lib.hid h1; have HX2 := Lib.hid h2
   have HC1 := Lib.hid (words_new HP0.out [⟨#[45]⟩] 1 [.string ⟨#[45]⟩] rfl rfl (by decide) (by decide) HX1.out)
   clear h1 h2 hr
   go_enter Try.func167, Try.ntmps167
   go_wp2_with (first
    | (go_at_call 58; (with_reducible refine Calls.mono HC1.out ?_); rintro e w1 ⟨rfl, ve1, h2, h3⟩; have HP1 := Lib.hid h2; have HS1 := Lib.hid (HS0.out.trans h3); have HG1 := Lib.hid (mkeep (HT0.out.trans h3) HP0.out HG0.out (by decide) (by decide)); have HT1 := Lib.hid (HT0.out.trans h3); clear bx; have bx := cell_of_row _ _ 0 _ _ _ HG1.out; have HC2 := Lib.hid (G_factor n HNN.out W0 A c w1 p i1 d1 out1 ve1 _ HP1.out HX2.out); clear h2 h3)
    | (go_at_call 165; (with_reducible refine Calls.mono HC2.out ?_); rintro e w2 ⟨rfl, ve2, h3⟩; have HS2 := Lib.hid (HS1.out.trans h3); clear h3))
   exact ⟨rfl, rfl, ve2, HS2.out⟩
set_option maxRecDepth 100000 in
set_option maxHeartbeats 8000000 in
theorem g_factor_2 (l : List Tk) (N : Nat) (G_factor : Good l N 165 [.rule .r_factor]) : GoodC l N 168 [.word ⟨#[110, 111, 116]⟩, .rule .r_factor] := by
 intro n hn W0 A c w0 p g i d out ve r H hg hr
 show Calls Try.prog 168 _ w0 _
 have HP0 := Lib.hid H
 have HG0 := Lib.hid hg
 have HNN := Lib.hid hn
 have HS0 := Lib.hid (PStep.refl p (.slice none 0 0) ve w0)
 have HT0 := HS0
 have bx := cell_of_row _ _ 0 _ _ _ hg
 have hr0 : srun l n ⟨([.word ⟨#[110, 111, 116]⟩] ++ [.rule .r_factor]), i, d, out⟩ = some r := hr
 clear H hg hn
 rcases srun_app l n [.word ⟨#[110, 111, 116]⟩] [.rule .r_factor] i d out r hr0 with ⟨er, jj, rfl, h1⟩ | ⟨i1, d1, out1, h1, hr1⟩
 ·skip
  have HX1 := Lib.hid h1
  have HC1 := Lib.hid (words_new HP0.out [⟨#[110, 111, 116]⟩] 1 [.string ⟨#[110, 111, 116]⟩] rfl rfl (by decide) (by decide) HX1.out)
  clear h1 hr
  go_enter Try.func168, Try.ntmps168
  go_wp2_with (first
   | (go_at_call 58; (with_reducible refine Calls.mono HC1.out ?_); rintro e w1 ⟨rfl, ve1, h3⟩; have HS1 := Lib.hid (HS0.out.trans h3); clear h3))
  exact ⟨rfl, rfl, ve1, HS1.out⟩
 ·skip
  have h2 := hr1
  cases r with
  | ok i2 d2 out2 =>
   have HX1 := Lib.hid h1; have HX2 := Lib.hid h2
   have HC1 := Lib.hid (words_new HP0.out [⟨#[110, 111, 116]⟩] 1 [.string ⟨#[110, 111, 116]⟩] rfl rfl (by decide) (by decide) HX1.out)
   clear h1 h2 hr
   go_enter Try.func168, Try.ntmps168
   go_wp2_with (first
    | (go_at_call 58; (with_reducible refine Calls.mono HC1.out ?_); rintro e w1 ⟨rfl, ve1, h2, h3⟩; have HP1 := Lib.hid h2; have HS1 := Lib.hid (HS0.out.trans h3); have HG1 := Lib.hid (mkeep (HT0.out.trans h3) HP0.out HG0.out (by decide) (by decide)); have HT1 := Lib.hid (HT0.out.trans h3); clear bx; have bx := cell_of_row _ _ 0 _ _ _ HG1.out; have HC2 := Lib.hid (G_factor n HNN.out W0 A c w1 p i1 d1 out1 ve1 _ HP1.out HX2.out); clear h2 h3)
    | (go_at_call 165; (with_reducible refine Calls.mono HC2.out ?_); rintro e w2 ⟨rfl, ve2, h2, h3⟩; have HP2 := Lib.hid h2; have HS2 := Lib.hid (HS1.out.trans h3); have HG2 := Lib.hid (mkeep (HT1.out.trans h3) HP0.out HG0.out (by decide) (by decide)); have HT2 := Lib.hid (HT1.out.trans h3); clear bx; have bx := cell_of_row _ _ 0 _ _ _ HG2.out; clear h2 h3))
   go_end0
   exact ⟨rfl, ve2, HP2.out, HS2.out⟩
  | err er jj =>
   have HX1 := Lib.hid h1; have HX2 := Lib.hid h2
   have HC1 := Lib.hid (words_new HP0.out [⟨#[110, 111, 116]⟩] 1 [.string ⟨#[110, 111, 116]⟩] rfl rfl (by decide) (by decide) HX1.out)
   clear h1 h2 hr
   go_enter Try.func168, Try.ntmps168
   go_wp2_with (first
    | (go_at_call 58; (with_reducible refine Calls.mono HC1.out ?_); rintro e w1 ⟨rfl, ve1, h2, h3⟩; have HP1 := Lib.hid h2; have HS1 := Lib.hid (HS0.out.trans h3); have HG1 := Lib.hid (mkeep (HT0.out.trans h3) HP0.out HG0.out (by decide) (by decide)); have HT1 := Lib.hid (HT0.out.trans h3); clear bx; have bx := cell_of_row _ _ 0 _ _ _ HG1.out; have HC2 := Lib.hid (G_factor n HNN.out W0 A c w1 p i1 d1 out1 ve1 _ HP1.out HX2.out); clear h2 h3)
    | (go_at_call 165; (with_reducible refine Calls.mono HC2.out ?_); rintro e w2 ⟨rfl, ve2, h3⟩; have HS2 := Lib.hid (HS1.out.trans h3); clear h3))
   exact ⟨rfl, rfl, ve2, HS2.out⟩
set_option maxRecDepth 100000 in
set_option maxHeartbeats 8000000 in
theorem g_factor_3 (l : List Tk) (N : Nat) (G_expr : Good l N 93 [.rule .r_expr]) : GoodC l N 169 [.word ⟨#[40]⟩, .rule .r_expr, .word ⟨#[41]⟩] := by
 intro n hn W0 A c w0 p g i d out ve r H hg hr
 show Calls Try.prog 169 _ w0 _
 have HP0 := Lib.hid H
 have HG0 := Lib.hid hg
 have HNN := Lib.hid hn
 have HS0 := Lib.hid (PStep.refl p (.slice none 0 0) ve w0)
 have HT0 := HS0
 have bx := cell_of_row _ _ 0 _ _ _ hg
 have hr0 : srun l n ⟨([.word ⟨#[40]⟩] ++ ([.rule .r_expr] ++ [.word ⟨#[41]⟩])), i, d, out⟩ = some r := hr
 clear H hg hn
 rcases srun_app l n [.word ⟨#[40]⟩] ([.rule .r_expr] ++ [.word ⟨#[41]⟩]) i d out r hr0 with ⟨er, jj, rfl, h1⟩ | ⟨i1, d1, out1, h1, hr1⟩
 ·skip
  have HX1 := Lib.hid h1
  have HC1 := Lib.hid (words_new HP0.out [⟨#[40]⟩] 1 [.string ⟨#[40]⟩] rfl rfl (by decide) (by decide) HX1.out)
  clear h1 hr
  go_enter Try.func169, Try.ntmps169
  go_wp2_with (first
   | (go_at_call 58; (with_reducible refine Calls.mono HC1.out ?_); rintro e w1 ⟨rfl, ve1, h3⟩; have HS1 := Lib.hid (HS0.out.trans h3); clear h3))
  exact ⟨rfl, rfl, ve1, HS1.out⟩
 ·skip
  rcases srun_app l n [.rule .r_expr] [.word ⟨#[41]⟩] i1 d1 out1 r hr1 with ⟨er, jj, rfl, h2⟩ | ⟨i2, d2, out2, h2, hr2⟩
  ·skip
   have HX1 := Lib.hid h1; have HX2 := Lib.hid h2
   have HC1 := Lib.hid (words_new HP0.out [⟨#[40]⟩] 1 [.string ⟨#[40]⟩] rfl rfl (by decide) (by decide) HX1.out)
   clear h1 h2 hr
   go_enter Try.func169, Try.ntmps169
   go_wp2_with (first
    | (go_at_call 58; (with_reducible refine Calls.mono HC1.out ?_); rintro e w1 ⟨rfl, ve1, h2, h3⟩; have HP1 := Lib.hid h2; have HS1 := Lib.hid (HS0.out.trans h3); have HG1 := Lib.hid (mkeep (HT0.out.trans h3) HP0.out HG0.out (by decide) (by decide)); have HT1 := Lib.hid (HT0.out.trans h3); clear bx; have bx := cell_of_row _ _ 0 _ _ _ HG1.out; have HC2 := Lib.hid (G_expr n HNN.out W0 A c w1 p i1 d1 out1 ve1 _ HP1.out HX2.out); clear h2 h3)
    | (go_at_call 93; (with_reducible refine Calls.mono HC2.out ?_); rintro e w2 ⟨rfl, ve2, h3⟩; have HS2 := Lib.hid (HS1.out.trans h3); clear h3))
   exact ⟨rfl, rfl, ve2, HS2.out⟩
  ·skip
   have h3 := hr2
   cases r with
   | ok i3 d3 out3 =>
    have HX1 := Lib.hid h1; have HX2 := Lib.hid h2; have HX3 := Lib.hid h3
    have HC1 := Lib.hid (words_new HP0.out [⟨#[40]⟩] 1 [.string ⟨#[40]⟩] rfl rfl (by decide) (by decide) HX1.out)
    clear h1 h2 h3 hr
    go_enter Try.func169, Try.ntmps169
    go_wp2_with (first
     | (go_at_call 58; (with_reducible refine Calls.mono HC1.out ?_); rintro e w1 ⟨rfl, ve1, h2, h3⟩; have HP1 := Lib.hid h2; have HS1 := Lib.hid (HS0.out.trans h3); have HG1 := Lib.hid (mkeep (HT0.out.trans h3) HP0.out HG0.out (by decide) (by decide)); have HT1 := Lib.hid (HT0.out.trans h3); clear bx; have bx := cell_of_row _ _ 0 _ _ _ HG1.out; have HC2 := Lib.hid (G_expr n HNN.out W0 A c w1 p i1 d1 out1 ve1 _ HP1.out HX2.out); clear h2 h3)
     | (go_at_call 93; (with_reducible refine Calls.mono HC2.out ?_); rintro e w2 ⟨rfl, ve2, h2, h3⟩; have HP2 := Lib.hid h2; have HS2 := Lib.hid (HS1.out.trans h3); have HG2 := Lib.hid (mkeep (HT1.out.trans h3) HP0.out HG0.out (by decide) (by decide)); have HT2 := Lib.hid (HT1.out.trans h3); clear bx; have bx := cell_of_row _ _ 0 _ _ _ HG2.out; have HC3 := Lib.hid (words_new HP2.out [⟨#[41]⟩] 1 [.string ⟨#[41]⟩] rfl rfl (by decide) (by decide) HX3.out); clear h2 h3)
     | (go_at_call 58; (with_reducible refine Calls.mono HC3.out ?_); rintro e w3 ⟨rfl, ve3, h2, h3⟩; have HP3 := Lib.hid h2; have HS3 := Lib.hid (HS2.out.trans h3); have HG3 := Lib.hid (mkeep (HT2.out.trans h3) HP0.out HG0.out (by decide) (by decide)); have HT3 := Lib.hid (HT2.out.trans h3); clear bx; have bx := cell_of_row _ _ 0 _ _ _ HG3.out; clear h2 h3))
    go_end0
    exact ⟨rfl, ve3, HP3.out, HS3.out⟩
   | err er jj =>
    have HX1 := Lib.hid h1; have HX2 := Lib.hid h2; have HX3 := Lib.hid h3
    have HC1 := Lib.hid (words_new HP0.out [⟨#[40]⟩] 1 [.string ⟨#[40]⟩] rfl rfl (by decide) (by decide) HX1.out)
    clear h1 h2 h3 hr
    go_enter Try.func169, Try.ntmps169
    go_wp2_with (first
     | (go_at_call 58; (with_reducible refine Calls.mono HC1.out ?_); rintro e w1 ⟨rfl, ve1, h2, h3⟩; have HP1 := Lib.hid h2; have HS1 := Lib.hid (HS0.out.trans h3); have HG1 := Lib.hid (mkeep (HT0.out.trans h3) HP0.out HG0.out (by decide) (by decide)); have HT1 := Lib.hid (HT0.out.trans h3); clear bx; have bx := cell_of_row _ _ 0 _ _ _ HG1.out; have HC2 := Lib.hid (G_expr n HNN.out W0 A c w1 p i1 d1 out1 ve1 _ HP1.out HX2.out); clear h2 h3)
     | (go_at_call 93; (with_reducible refine Calls.mono HC2.out ?_); rintro e w2 ⟨rfl, ve2, h2, h3⟩; have HP2 := Lib.hid h2; have HS2 := Lib.hid (HS1.out.trans h3); have HG2 := Lib.hid (mkeep (HT1.out.trans h3) HP0.out HG0.out (by decide) (by decide)); have HT2 := Lib.hid (HT1.out.trans h3); clear bx; have bx := cell_of_row _ _ 0 _ _ _ HG2.out; have HC3 := Lib.hid (words_new HP2.out [⟨#[41]⟩] 1 [.string ⟨#[41]⟩] rfl rfl (by decide) (by decide) HX3.out); clear h2 h3)
     | (go_at_call 58; (with_reducible refine Calls.mono HC3.out ?_); rintro e w3 ⟨rfl, ve3, h3⟩; have HS3 := Lib.hid (HS2.out.trans h3); clear h3))
    exact ⟨rfl, rfl, ve3, HS3.out⟩
set_option maxRecDepth 100000 in
set_option maxHeartbeats 8000000 in
theorem g_selected_1 (l : List Tk) (N : Nat) (G_expr : Good l N 93 [.rule .r_expr]) : GoodC l N 156 [.word ⟨#[91]⟩, .rule .r_expr, .rule .r_exprs, .word ⟨#[93]⟩] := by
 intro n hn W0 A c w0 p g i d out ve r H hg hr
 show Calls Try.prog 156 _ w0 _
 have HP0 := Lib.hid H
 have HG0 := Lib.hid hg
 have HNN := Lib.hid hn
 have HS0 := Lib.hid (PStep.refl p (.slice none 0 0) ve w0)
 have HT0 := HS0
 have bx := cell_of_row _ _ 0 _ _ _ hg
 have hr0 : srun l n ⟨([.word ⟨#[91]⟩] ++ ([.rule .r_expr, .rule .r_exprs] ++ [.word ⟨#[93]⟩])), i, d, out⟩ = some r := hr
 clear H hg hn
 rcases srun_app l n [.word ⟨#[91]⟩] ([.rule .r_expr, .rule .r_exprs] ++ [.word ⟨#[93]⟩]) i d out r hr0 with ⟨er, jj, rfl, h1⟩ | ⟨i1, d1, out1, h1, hr1⟩
 ·skip
  have HX1 := Lib.hid h1
  have HC1 := Lib.hid (words_new HP0.out [⟨#[91]⟩] 1 [.string ⟨#[91]⟩] rfl rfl (by decide) (by decide) HX1.out)
  clear h1 hr
  go_enter Try.func156, Try.ntmps156
  go_wp2_with (first
   | (go_at_call 58; (with_reducible refine Calls.mono HC1.out ?_); rintro e w1 ⟨rfl, ve1, h3⟩; have HS1 := Lib.hid (HS0.out.trans h3); clear h3))
  exact ⟨rfl, rfl, ve1, HS1.out⟩
 ·skip
  rcases srun_app l n [.rule .r_expr, .rule .r_exprs] [.word ⟨#[93]⟩] i1 d1 out1 r hr1 with ⟨er, jj, rfl, h2⟩ | ⟨i2, d2, out2, h2, hr2⟩
  ·skip
   have HX1 := Lib.hid h1; have HX2 := Lib.hid h2
   have HC1 := Lib.hid (words_new HP0.out [⟨#[91]⟩] 1 [.string ⟨#[91]⟩] rfl rfl (by decide) (by decide) HX1.out)
   clear h1 h2 hr
   go_enter Try.func156, Try.ntmps156
   go_wp2_with (first
    | (go_at_call 58; (with_reducible refine Calls.mono HC1.out ?_); rintro e w1 ⟨rfl, ve1, h2, h3⟩; have HP1 := Lib.hid h2; have HS1 := Lib.hid (HS0.out.trans h3); have HG1 := Lib.hid (mkeep (HT0.out.trans h3) HP0.out HG0.out (by decide) (by decide)); have HT1 := Lib.hid (HT0.out.trans h3); clear bx; have bx := cell_of_row _ _ 0 _ _ _ HG1.out; have HC2 := Lib.hid (row_new HP1.out (.func (.func 93) #[.pointer (some ⟨p, 0, none⟩)] #[]) 93 (.pointer (some ⟨p, 0, none⟩)) (.inl rfl) (fun w => enters_ Try.func93 (by kernel_rfl) rfl #[(.pointer (some ⟨p, 0, none⟩))] w) [⟨#[44]⟩] 1 [.string ⟨#[44]⟩] rfl rfl (by decide) (by decide) (T := [.rule .r_expr]) (R := .r_exprs) (fun cc => row_exprs cc) (G_expr.body) HNN.out HX2.out); clear h2 h3)
    | (go_at_call 96; (with_reducible refine Calls.mono HC2.out ?_); rintro e w2 ⟨rfl, ve2, h3⟩; have HS2 := Lib.hid (HS1.out.trans h3); clear h3))
   exact ⟨rfl, rfl, ve2, HS2.out⟩
  ·skip
   have h3 := hr2
   cases r with
   | ok i3 d3 out3 =>
    have HX1 := Lib.hid h1; have HX2 := Lib.hid h2; have HX3 := Lib.hid h3
    have HC1 := Lib.hid (words_new HP0.out [⟨#[91]⟩] 1 [.string ⟨#[91]⟩] rfl rfl (by decide) (by decide) HX1.out)
    clear h1 h2 h3 hr
    go_enter Try.func156, Try.ntmps156
    go_wp2_with (first
     | (go_at_call 58; (with_reducible refine Calls.mono HC1.out ?_); rintro e w1 ⟨rfl, ve1, h2, h3⟩; have HP1 := Lib.hid h2; have HS1 := Lib.hid (HS0.out.trans h3); have HG1 := Lib.hid (mkeep (HT0.out.trans h3) HP0.out HG0.out (by decide) (by decide)); have HT1 := Lib.hid (HT0.out.trans h3); clear bx; have bx := cell_of_row _ _ 0 _ _ _ HG1.out; have HC2 := Lib.hid (row_new HP1.out (.func (.func 93) #[.pointer (some ⟨p, 0, none⟩)] #[]) 93 (.pointer (some ⟨p, 0, none⟩)) (.inl rfl) (fun w => enters_ Try.func93 (by kernel_rfl) rfl #[(.pointer (some ⟨p, 0, none⟩))] w) [⟨#[44]⟩] 1 [.string ⟨#[44]⟩] rfl rfl (by decide) (by decide) (T := [.rule .r_expr]) (R := .r_exprs) (fun cc => row_exprs cc) (G_expr.body) HNN.out HX2.out); clear h2 h3)
     | (go_at_call 96; (with_reducible refine Calls.mono HC2.out ?_); rintro e w2 ⟨rfl, ve2, h2, h3⟩; have HP2 := Lib.hid h2; have HS2 := Lib.hid (HS1.out.trans h3); have HG2 := Lib.hid (mkeep (HT1.out.trans h3) HP0.out HG0.out (by decide) (by decide)); have HT2 := Lib.hid (HT1.out.trans h3); clear bx; have bx := cell_of_row _ _ 0 _ _ _ HG2.out; have HC3 := Lib.hid (words_new HP2.out [⟨#[93]⟩] 1 [.string ⟨#[93]⟩] rfl rfl (by decide) (by decide) HX3.out); clear h2 h3)
     | (go_at_call 58; (with_reducible refine Calls.mono HC3.out ?_); rintro e w3 ⟨rfl, ve3, h2, h3⟩; have HP3 := Lib.hid h2; have HS3 := Lib.hid (HS2.out.trans h3); have HG3 := Lib.hid (mkeep (HT2.out.trans h3) HP0.out HG0.out (by decide) (by decide)); have HT3 := Lib.hid (HT2.out.trans h3); clear bx; have bx := cell_of_row _ _ 0 _ _ _ HG3.out; clear h2 h3))
    go_end0
    exact ⟨rfl, ve3, HP3.out, HS3.out⟩
   | err er jj =>
    have HX1 := Lib.hid h1; have HX2 := Lib.hid h2; have HX3 := Lib.hid h3
    have HC1 := Lib.hid (words_new HP0.out [⟨#[91]⟩] 1 [.string ⟨#[91]⟩] rfl rfl (by decide) (by decide) HX1.out)
    clear h1 h2 h3 hr
    go_enter Try.func156, Try.ntmps156
    go_wp2_with (first
     | (go_at_call 58; (with_reducible refine Calls.mono HC1.out ?_); rintro e w1 ⟨rfl, ve1, h2, h3⟩; have HP1 := Lib.hid h2; have HS1 := Lib.hid (HS0.out.trans h3); have HG1 := Lib.hid (mkeep (HT0.out.trans h3) HP0.out HG0.out (by decide) (by decide)); have HT1 := Lib.hid (HT0.out.trans h3); clear bx; have bx := cell_of_row _ _ 0 _ _ _ HG1.out; have HC2 := Lib.hid (row_new HP1.out (.func (.func 93) #[.pointer (some ⟨p, 0, none⟩)] #[]) 93 (.pointer (some ⟨p, 0, none⟩)) (.inl rfl) (fun w => enters_ Try.func93 (by kernel_rfl) rfl #[(.pointer (some ⟨p, 0, none⟩))] w) [⟨#[44]⟩] 1 [.string ⟨#[44]⟩] rfl rfl (by decide) (by decide) (T := [.rule .r_expr]) (R := .r_exprs) (fun cc => row_exprs cc) (G_expr.body) HNN.out HX2.out); clear h2 h3)
     | (go_at_call 96; (with_reducible refine Calls.mono HC2.out ?_); rintro e w2 ⟨rfl, ve2, h2, h3⟩; have HP2 := Lib.hid h2; have HS2 := Lib.hid (HS1.out.trans h3); have HG2 := Lib.hid (mkeep (HT1.out.trans h3) HP0.out HG0.out (by decide) (by decide)); have HT2 := Lib.hid (HT1.out.trans h3); clear bx; have bx := cell_of_row _ _ 0 _ _ _ HG2.out; have HC3 := Lib.hid (words_new HP2.out [⟨#[93]⟩] 1 [.string ⟨#[93]⟩] rfl rfl (by decide) (by decide) HX3.out); clear h2 h3)
     | (go_at_call 58; (with_reducible refine Calls.mono HC3.out ?_); rintro e w3 ⟨rfl, ve3, h3⟩; have HS3 := Lib.hid (HS2.out.trans h3); clear h3))
    exact ⟨rfl, rfl, ve3, HS3.out⟩
set_option maxRecDepth 100000 in
set_option maxHeartbeats 8000000 in
theorem g_selected_2 (l : List Tk) (N : Nat)  : GoodC l N 157 [.word ⟨#[46]⟩, .word ⟨#[64, 110, 97, 109, 101]⟩] := by
 intro n hn W0 A c w0 p g i d out ve r H hg hr
 show Calls Try.prog 157 _ w0 _
 have HP0 := Lib.hid H
 have HG0 := Lib.hid hg
 have HNN := Lib.hid hn
 have HS0 := Lib.hid (PStep.refl p (.slice none 0 0) ve w0)
 have HT0 := HS0
 have bx := cell_of_row _ _ 0 _ _ _ hg
 have hr0 : srun l n ⟨([.word ⟨#[46]⟩] ++ [.word ⟨#[64, 110, 97, 109, 101]⟩]), i, d, out⟩ = some r := hr
 clear H hg hn
 rcases srun_app l n [.word ⟨#[46]⟩] [.word ⟨#[64, 110, 97, 109, 101]⟩] i d out r hr0 with ⟨er, jj, rfl, h1⟩ | ⟨i1, d1, out1, h1, hr1⟩
 ·skip
  have HX1 := Lib.hid h1
  have HC1 := Lib.hid (words_new HP0.out [⟨#[46]⟩] 1 [.string ⟨#[46]⟩] rfl rfl (by decide) (by decide) HX1.out)
  clear h1 hr
  go_enter Try.func157, Try.ntmps157
  go_wp2_with (first
   | (go_at_call 58; (with_reducible refine Calls.mono HC1.out ?_); rintro e w1 ⟨rfl, ve1, h3⟩; have HS1 := Lib.hid (HS0.out.trans h3); clear h3))
  exact ⟨rfl, rfl, ve1, HS1.out⟩
 ·skip
  have h2 := hr1
  cases r with
  | ok i2 d2 out2 =>
   have HX1 := Lib.hid h1; have HX2 := Lib.hid h2
   have HC1 := Lib.hid (words_new HP0.out [⟨#[46]⟩] 1 [.string ⟨#[46]⟩] rfl rfl (by decide) (by decide) HX1.out)
   clear h1 h2 hr
   go_enter Try.func157, Try.ntmps157
   go_wp2_with (first
    | (go_at_call 58; (with_reducible refine Calls.mono HC1.out ?_); rintro e w1 ⟨rfl, ve1, h2, h3⟩; have HP1 := Lib.hid h2; have HS1 := Lib.hid (HS0.out.trans h3); have HG1 := Lib.hid (mkeep (HT0.out.trans h3) HP0.out HG0.out (by decide) (by decide)); have HT1 := Lib.hid (HT0.out.trans h3); clear bx; have bx := cell_of_row _ _ 0 _ _ _ HG1.out; have HC2 := Lib.hid (name_any l N n HNN.out W0 A c w1 p i1 d1 out1 ve1 _ HP1.out HX2.out); clear h2 h3)
    | (go_at_call 59; (with_reducible refine Calls.mono HC2.out ?_); rintro e w2 ⟨rfl, ve2, h2, h3⟩; have HP2 := Lib.hid h2; have HS2 := Lib.hid (HS1.out.trans h3); have HG2 := Lib.hid (mkeep (HT1.out.trans h3) HP0.out HG0.out (by decide) (by decide)); have HT2 := Lib.hid (HT1.out.trans h3); clear bx; have bx := cell_of_row _ _ 0 _ _ _ HG2.out; clear h2 h3))
   go_end0
   exact ⟨rfl, ve2, HP2.out, HS2.out⟩
  | err er jj =>
   have HX1 := Lib.hid h1; have HX2 := Lib.hid h2
   have HC1 := Lib.hid (words_new HP0.out [⟨#[46]⟩] 1 [.string ⟨#[46]⟩] rfl rfl (by decide) (by decide) HX1.out)
   clear h1 h2 hr
   go_enter Try.func157, Try.ntmps157
   go_wp2_with (first
    | (go_at_call 58; (with_reducible refine Calls.mono HC1.out ?_); rintro e w1 ⟨rfl, ve1, h2, h3⟩; have HP1 := Lib.hid h2; have HS1 := Lib.hid (HS0.out.trans h3); have HG1 := Lib.hid (mkeep (HT0.out.trans h3) HP0.out HG0.out (by decide) (by decide)); have HT1 := Lib.hid (HT0.out.trans h3); clear bx; have bx := cell_of_row _ _ 0 _ _ _ HG1.out; have HC2 := Lib.hid (name_any l N n HNN.out W0 A c w1 p i1 d1 out1 ve1 _ HP1.out HX2.out); clear h2 h3)
    | (go_at_call 59; (with_reducible refine Calls.mono HC2.out ?_); rintro e w2 ⟨rfl, ve2, h3⟩; have HS2 := Lib.hid (HS1.out.trans h3); clear h3))
   exact ⟨rfl, rfl, ve2, HS2.out⟩
end Go.Proofs.Ytmjbpgnjgblnmaa
